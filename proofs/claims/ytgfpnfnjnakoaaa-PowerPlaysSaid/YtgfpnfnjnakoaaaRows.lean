/-
  No cell of these rows narrows 'for every input' (looked for: loops, veiled, ifaces, maps, wideKeys, modest, calm, conditions, laid).
  DERIVED. THE GIVEN ROWS OF THIS SEAT. 7 by the template 'for every input the law returns true; each argument reads behind the call as it read before'; 0 by the template 'total and deterministic' (their statements: YtgfpnfnjnakoaaaTotals.lean).
  GIVEN WITH THE SEED: the statements are not yours to turn. If you find one false, say at which input.
  Laid BY PROGRAM, IN A SANDBOX (cutbox-rows.mjs): the forced cells as the released guide's own fill.sh prints them over the translation c60bd94ec5a7e057… (all of the seat's roots in one cut). By AI agents, Wed Nov 11 2026. No macro, syntax, notation, axiom, sorry.
-/
import Derived.Test.YtgfpnfnjnakoaaaChecked
import GoSem.Claim
import GoSem.ClaimJoined
import GoSem.ClaimMapViews
import Derived.JoinedTies
import Derived.KernelRfl
namespace Go.Proofs.Ytgfpnfnjnakoaaa
/- THE CELL 'sum', in the pinned program and in every row, IS THE sha256 OF THE DUMP (.gsa) THAT YtgfpnfnjnakoaaaProg.lean LOADS. Nothing in Lean hashes anything: it is a label: what it is worth is what the hold of that sum in a sandbox is worth. -/
noncomputable def Try.pinned : Pinned := { name := "ytgfpnfnjnakoaaa", sum := "c60bd94ec5a7e057067987c4241fc5edd032428f2eecb1a1207b67344b7e7510", checked := Try.checked }
namespace Rows
def none {H : Type} : Left H := { results := [], args := [] }

/-- 'catnaplaw7.PowerEvents': WHATEVER THE INPUT: true; the input reads as it did. -/
def powerEventsSpec : ChangeSpec := { name := "powerEvents", fn := fun _ => fun
  | [d1, d2] => { results := [.lit (.bool true)], args := [d1, d2] }
  | _ => none }
def powerEventsRow : OpenClaim := { program := "ytgfpnfnjnakoaaa", sum := "c60bd94ec5a7e057067987c4241fc5edd032428f2eecb1a1207b67344b7e7510", func := "catnap/catnaplaw7.PowerEvents", spec := "powerEvents", unfollowed := true, recurses := true, apart := false }
def PowerEventsSaid : Prop := powerEventsRow.holds Try.pinned (OpenSpec.ofChange powerEventsSpec)

/-- ITS FALSE NEIGHBOUR: 'it returns false'. Refute it at one input. -/
def powerEventsWrong : ChangeSpec := { name := "powerEvents", fn := fun _ => fun
  | [d1, d2] => { results := [.lit (.bool false)], args := [d1, d2] }
  | _ => none }
def PowerEventsWrongFalsely : Prop := powerEventsRow.holds Try.pinned (OpenSpec.ofChange powerEventsWrong)

/-- 'catnaplaw7.PowerAlone': WHATEVER THE INPUT: true; the input reads as it did. -/
def powerAloneSpec : ChangeSpec := { name := "powerAlone", fn := fun _ => fun
  | [d1, d2, d3, d4] => { results := [.lit (.bool true)], args := [d1, d2, d3, d4] }
  | _ => none }
def powerAloneRow : OpenClaim := { program := "ytgfpnfnjnakoaaa", sum := "c60bd94ec5a7e057067987c4241fc5edd032428f2eecb1a1207b67344b7e7510", func := "catnap/catnaplaw7.PowerAlone", spec := "powerAlone", unfollowed := true, recurses := true, apart := false }
def PowerAloneSaid : Prop := powerAloneRow.holds Try.pinned (OpenSpec.ofChange powerAloneSpec)

/-- ITS FALSE NEIGHBOUR: 'it returns false'. Refute it at one input. -/
def powerAloneWrong : ChangeSpec := { name := "powerAlone", fn := fun _ => fun
  | [d1, d2, d3, d4] => { results := [.lit (.bool false)], args := [d1, d2, d3, d4] }
  | _ => none }
def PowerAloneWrongFalsely : Prop := powerAloneRow.holds Try.pinned (OpenSpec.ofChange powerAloneWrong)

/-- 'catnaplaw7.PowerChains': WHATEVER THE INPUT: true; the input reads as it did. -/
def powerChainsSpec : ChangeSpec := { name := "powerChains", fn := fun _ => fun
  | [d1, d2] => { results := [.lit (.bool true)], args := [d1, d2] }
  | _ => none }
def powerChainsRow : OpenClaim := { program := "ytgfpnfnjnakoaaa", sum := "c60bd94ec5a7e057067987c4241fc5edd032428f2eecb1a1207b67344b7e7510", func := "catnap/catnaplaw7.PowerChains", spec := "powerChains", unfollowed := true, recurses := true, apart := false }
def PowerChainsSaid : Prop := powerChainsRow.holds Try.pinned (OpenSpec.ofChange powerChainsSpec)

/-- ITS FALSE NEIGHBOUR: 'it returns false'. Refute it at one input. -/
def powerChainsWrong : ChangeSpec := { name := "powerChains", fn := fun _ => fun
  | [d1, d2] => { results := [.lit (.bool false)], args := [d1, d2] }
  | _ => none }
def PowerChainsWrongFalsely : Prop := powerChainsRow.holds Try.pinned (OpenSpec.ofChange powerChainsWrong)

/-- 'catnaplaw7.PowerErrs': WHATEVER THE INPUT: true; the input reads as it did. -/
def powerErrsSpec : ChangeSpec := { name := "powerErrs", fn := fun _ => fun
  | [d1, d2] => { results := [.lit (.bool true)], args := [d1, d2] }
  | _ => none }
def powerErrsRow : OpenClaim := { program := "ytgfpnfnjnakoaaa", sum := "c60bd94ec5a7e057067987c4241fc5edd032428f2eecb1a1207b67344b7e7510", func := "catnap/catnaplaw7.PowerErrs", spec := "powerErrs", unfollowed := true, recurses := true, apart := false }
def PowerErrsSaid : Prop := powerErrsRow.holds Try.pinned (OpenSpec.ofChange powerErrsSpec)

/-- ITS FALSE NEIGHBOUR: 'it returns false'. Refute it at one input. -/
def powerErrsWrong : ChangeSpec := { name := "powerErrs", fn := fun _ => fun
  | [d1, d2] => { results := [.lit (.bool false)], args := [d1, d2] }
  | _ => none }
def PowerErrsWrongFalsely : Prop := powerErrsRow.holds Try.pinned (OpenSpec.ofChange powerErrsWrong)

/-- 'catnaplaw7.PowerHangs': WHATEVER THE INPUT: true; the input reads as it did. -/
def powerHangsSpec : ChangeSpec := { name := "powerHangs", fn := fun _ => fun
  | [d1, d2] => { results := [.lit (.bool true)], args := [d1, d2] }
  | _ => none }
def powerHangsRow : OpenClaim := { program := "ytgfpnfnjnakoaaa", sum := "c60bd94ec5a7e057067987c4241fc5edd032428f2eecb1a1207b67344b7e7510", func := "catnap/catnaplaw7.PowerHangs", spec := "powerHangs", unfollowed := true, recurses := true, apart := false }
def PowerHangsSaid : Prop := powerHangsRow.holds Try.pinned (OpenSpec.ofChange powerHangsSpec)

/-- ITS FALSE NEIGHBOUR: 'it returns false'. Refute it at one input. -/
def powerHangsWrong : ChangeSpec := { name := "powerHangs", fn := fun _ => fun
  | [d1, d2] => { results := [.lit (.bool false)], args := [d1, d2] }
  | _ => none }
def PowerHangsWrongFalsely : Prop := powerHangsRow.holds Try.pinned (OpenSpec.ofChange powerHangsWrong)

/-- 'catnaplaw7.PowerPlays': WHATEVER THE INPUT: true; the input reads as it did. -/
def powerPlaysSpec : ChangeSpec := { name := "powerPlays", fn := fun _ => fun
  | [d1, d2] => { results := [.lit (.bool true)], args := [d1, d2] }
  | _ => none }
def powerPlaysRow : OpenClaim := { program := "ytgfpnfnjnakoaaa", sum := "c60bd94ec5a7e057067987c4241fc5edd032428f2eecb1a1207b67344b7e7510", func := "catnap/catnaplaw7.PowerPlays", spec := "powerPlays", unfollowed := true, recurses := true, apart := false }
def PowerPlaysSaid : Prop := powerPlaysRow.holds Try.pinned (OpenSpec.ofChange powerPlaysSpec)

/-- ITS FALSE NEIGHBOUR: 'it returns false'. Refute it at one input. -/
def powerPlaysWrong : ChangeSpec := { name := "powerPlays", fn := fun _ => fun
  | [d1, d2] => { results := [.lit (.bool false)], args := [d1, d2] }
  | _ => none }
def PowerPlaysWrongFalsely : Prop := powerPlaysRow.holds Try.pinned (OpenSpec.ofChange powerPlaysWrong)

/-- 'catnaplaw7.PowerTakes': WHATEVER THE INPUT: true; the input reads as it did. -/
def powerTakesSpec : ChangeSpec := { name := "powerTakes", fn := fun _ => fun
  | [d1, d2, d3] => { results := [.lit (.bool true)], args := [d1, d2, d3] }
  | _ => none }
def powerTakesRow : OpenClaim := { program := "ytgfpnfnjnakoaaa", sum := "c60bd94ec5a7e057067987c4241fc5edd032428f2eecb1a1207b67344b7e7510", func := "catnap/catnaplaw7.PowerTakes", spec := "powerTakes", unfollowed := true, recurses := true, apart := false }
def PowerTakesSaid : Prop := powerTakesRow.holds Try.pinned (OpenSpec.ofChange powerTakesSpec)

/-- ITS FALSE NEIGHBOUR: 'it returns false'. Refute it at one input. -/
def powerTakesWrong : ChangeSpec := { name := "powerTakes", fn := fun _ => fun
  | [d1, d2, d3] => { results := [.lit (.bool false)], args := [d1, d2, d3] }
  | _ => none }
def PowerTakesWrongFalsely : Prop := powerTakesRow.holds Try.pinned (OpenSpec.ofChange powerTakesWrong)

/- THE SECOND FORM. 'bulk': how many values and letters a reading holds, each counted each time it is reached (what is shared counts as often as it is met; a slice's spare places count too). A statement '..UptoSaid' is the law's where the arguments, and the package variables that the reading takes, are together of bulk at most 1048576: NARROWER than '..Said'. Prove '..Said' where nothing that the law and all that it calls make is longer than what came in: it says more and counts as full. Else prove '..UptoSaid'. A law counts once. -/
mutual
def uptoBulk {H : Type} : DataW H → Nat
  | .lit (.string bytes) => bytes.length + 1
  | .lit _ => 1
  | .nil => 1
  | .ptr d => uptoBulk d + 1
  | .slice elems spare => uptoBulkAll elems + uptoBulkAll spare + 1
  | .agg parts => uptoBulkAll parts + 1
  | .iface _ d => uptoBulk d + 1
  | .map entries => uptoBulkEntries entries + 1
  | .held _ => 1
def uptoBulkAll {H : Type} : List (DataW H) → Nat
  | [] => 0
  | d :: r => uptoBulk d + uptoBulkAll r
def uptoBulkEntries {H : Type} : List (Lit × DataW H) → Nat
  | [] => 0
  | x :: r => uptoBulkEntry x + uptoBulkEntries r
def uptoBulkEntry {H : Type} : Lit × DataW H → Nat
  | (.string bytes, d) => bytes.length + uptoBulk d + 1
  | (_, d) => uptoBulk d + 1
 end
def uptoSmall : (H : Type) → List (DataW H) → Bool := fun _ ds => decide (uptoBulkAll ds ≤ 1048576)
def OpenSpec.upto (s : _root_.Go.ChangeSpec) : _root_.Go.OpenSpec := { _root_.Go.OpenSpec.ofChange s with cond := some uptoSmall }

/-- 'catnaplaw7.PowerEvents', WHERE WHAT IT READS IS OF BULK AT MOST 1048576: true; the input reads as it did. -/
def powerEventsUptoRow : OpenClaim := { program := "ytgfpnfnjnakoaaa", sum := "c60bd94ec5a7e057067987c4241fc5edd032428f2eecb1a1207b67344b7e7510", func := "catnap/catnaplaw7.PowerEvents", spec := "powerEvents", unfollowed := true, recurses := true, apart := false, narrowed := true }
def PowerEventsUptoSaid : Prop := powerEventsUptoRow.holds Try.pinned (OpenSpec.upto powerEventsSpec)

/-- 'catnaplaw7.PowerAlone', WHERE WHAT IT READS IS OF BULK AT MOST 1048576: true; the input reads as it did. -/
def powerAloneUptoRow : OpenClaim := { program := "ytgfpnfnjnakoaaa", sum := "c60bd94ec5a7e057067987c4241fc5edd032428f2eecb1a1207b67344b7e7510", func := "catnap/catnaplaw7.PowerAlone", spec := "powerAlone", unfollowed := true, recurses := true, apart := false, narrowed := true }
def PowerAloneUptoSaid : Prop := powerAloneUptoRow.holds Try.pinned (OpenSpec.upto powerAloneSpec)

/-- 'catnaplaw7.PowerChains', WHERE WHAT IT READS IS OF BULK AT MOST 1048576: true; the input reads as it did. -/
def powerChainsUptoRow : OpenClaim := { program := "ytgfpnfnjnakoaaa", sum := "c60bd94ec5a7e057067987c4241fc5edd032428f2eecb1a1207b67344b7e7510", func := "catnap/catnaplaw7.PowerChains", spec := "powerChains", unfollowed := true, recurses := true, apart := false, narrowed := true }
def PowerChainsUptoSaid : Prop := powerChainsUptoRow.holds Try.pinned (OpenSpec.upto powerChainsSpec)

/-- 'catnaplaw7.PowerErrs', WHERE WHAT IT READS IS OF BULK AT MOST 1048576: true; the input reads as it did. -/
def powerErrsUptoRow : OpenClaim := { program := "ytgfpnfnjnakoaaa", sum := "c60bd94ec5a7e057067987c4241fc5edd032428f2eecb1a1207b67344b7e7510", func := "catnap/catnaplaw7.PowerErrs", spec := "powerErrs", unfollowed := true, recurses := true, apart := false, narrowed := true }
def PowerErrsUptoSaid : Prop := powerErrsUptoRow.holds Try.pinned (OpenSpec.upto powerErrsSpec)

/-- 'catnaplaw7.PowerHangs', WHERE WHAT IT READS IS OF BULK AT MOST 1048576: true; the input reads as it did. -/
def powerHangsUptoRow : OpenClaim := { program := "ytgfpnfnjnakoaaa", sum := "c60bd94ec5a7e057067987c4241fc5edd032428f2eecb1a1207b67344b7e7510", func := "catnap/catnaplaw7.PowerHangs", spec := "powerHangs", unfollowed := true, recurses := true, apart := false, narrowed := true }
def PowerHangsUptoSaid : Prop := powerHangsUptoRow.holds Try.pinned (OpenSpec.upto powerHangsSpec)

/-- 'catnaplaw7.PowerPlays', WHERE WHAT IT READS IS OF BULK AT MOST 1048576: true; the input reads as it did. -/
def powerPlaysUptoRow : OpenClaim := { program := "ytgfpnfnjnakoaaa", sum := "c60bd94ec5a7e057067987c4241fc5edd032428f2eecb1a1207b67344b7e7510", func := "catnap/catnaplaw7.PowerPlays", spec := "powerPlays", unfollowed := true, recurses := true, apart := false, narrowed := true }
def PowerPlaysUptoSaid : Prop := powerPlaysUptoRow.holds Try.pinned (OpenSpec.upto powerPlaysSpec)

/-- 'catnaplaw7.PowerTakes', WHERE WHAT IT READS IS OF BULK AT MOST 1048576: true; the input reads as it did. -/
def powerTakesUptoRow : OpenClaim := { program := "ytgfpnfnjnakoaaa", sum := "c60bd94ec5a7e057067987c4241fc5edd032428f2eecb1a1207b67344b7e7510", func := "catnap/catnaplaw7.PowerTakes", spec := "powerTakes", unfollowed := true, recurses := true, apart := false, narrowed := true }
def PowerTakesUptoSaid : Prop := powerTakesUptoRow.holds Try.pinned (OpenSpec.upto powerTakesSpec)

end Rows
end Go.Proofs.Ytgfpnfnjnakoaaa
