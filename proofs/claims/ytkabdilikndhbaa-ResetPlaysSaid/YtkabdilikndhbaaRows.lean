/-
  No cell of these rows narrows 'for every input' (looked for: loops, veiled, ifaces, maps, wideKeys, modest, calm, conditions, laid).
  DERIVED. THE GIVEN ROWS OF THIS SEAT. 6 by the template 'for every input the law returns true; each argument reads behind the call as it read before'; 0 by the template 'total and deterministic' (their statements: YtkabdilikndhbaaTotals.lean).
  GIVEN WITH THE SEED: the statements are not yours to turn. If you find one false, say at which input.
  Laid BY PROGRAM, IN A SANDBOX (cutbox-rows.mjs): the forced cells as the released guide's own fill.sh prints them over the translation 912212b36cb19ca2… (all of the seat's roots in one cut). By AI agents, Wed Nov 11 2026. No macro, syntax, notation, axiom, sorry.
-/
import Derived.Test.YtkabdilikndhbaaChecked
import GoSem.Claim
import GoSem.ClaimJoined
import GoSem.ClaimMapViews
import Derived.JoinedTies
import Derived.KernelRfl
namespace Go.Proofs.Ytkabdilikndhbaa
/- THE CELL 'sum', in the pinned program and in every row, IS THE sha256 OF THE DUMP (.gsa) THAT YtkabdilikndhbaaProg.lean LOADS. Nothing in Lean hashes anything: it is a label: what it is worth is what the hold of that sum in a sandbox is worth. -/
noncomputable def Try.pinned : Pinned := { name := "ytkabdilikndhbaa", sum := "912212b36cb19ca22dbc9f84efb0d0b6c4e1f58e295079371f4e5d28834f2790", checked := Try.checked }
namespace Rows
def none {H : Type} : Left H := { results := [], args := [] }

/-- 'catnaplaw8.ResetHolds': WHATEVER THE INPUT: true; the input reads as it did. -/
def resetHoldsSpec : ChangeSpec := { name := "resetHolds", fn := fun _ => fun
  | [d1, d2, d3] => { results := [.lit (.bool true)], args := [d1, d2, d3] }
  | _ => none }
def resetHoldsRow : OpenClaim := { program := "ytkabdilikndhbaa", sum := "912212b36cb19ca22dbc9f84efb0d0b6c4e1f58e295079371f4e5d28834f2790", func := "catnap/catnaplaw8.ResetHolds", spec := "resetHolds", unfollowed := true, recurses := true, apart := false }
def ResetHoldsSaid : Prop := resetHoldsRow.holds Try.pinned (OpenSpec.ofChange resetHoldsSpec)

/-- ITS FALSE NEIGHBOUR: 'it returns false'. Refute it at one input. -/
def resetHoldsWrong : ChangeSpec := { name := "resetHolds", fn := fun _ => fun
  | [d1, d2, d3] => { results := [.lit (.bool false)], args := [d1, d2, d3] }
  | _ => none }
def ResetHoldsWrongFalsely : Prop := resetHoldsRow.holds Try.pinned (OpenSpec.ofChange resetHoldsWrong)

/-- 'catnaplaw8.ResetPlays': WHATEVER THE INPUT: true; the input reads as it did. -/
def resetPlaysSpec : ChangeSpec := { name := "resetPlays", fn := fun _ => fun
  | [d1, d2] => { results := [.lit (.bool true)], args := [d1, d2] }
  | _ => none }
def resetPlaysRow : OpenClaim := { program := "ytkabdilikndhbaa", sum := "912212b36cb19ca22dbc9f84efb0d0b6c4e1f58e295079371f4e5d28834f2790", func := "catnap/catnaplaw8.ResetPlays", spec := "resetPlays", unfollowed := true, recurses := true, apart := false }
def ResetPlaysSaid : Prop := resetPlaysRow.holds Try.pinned (OpenSpec.ofChange resetPlaysSpec)

/-- ITS FALSE NEIGHBOUR: 'it returns false'. Refute it at one input. -/
def resetPlaysWrong : ChangeSpec := { name := "resetPlays", fn := fun _ => fun
  | [d1, d2] => { results := [.lit (.bool false)], args := [d1, d2] }
  | _ => none }
def ResetPlaysWrongFalsely : Prop := resetPlaysRow.holds Try.pinned (OpenSpec.ofChange resetPlaysWrong)

/-- 'catnaplaw8.ResetAgain': WHATEVER THE INPUT: true; the input reads as it did. -/
def resetAgainSpec : ChangeSpec := { name := "resetAgain", fn := fun _ => fun
  | [d1, d2, d3] => { results := [.lit (.bool true)], args := [d1, d2, d3] }
  | _ => none }
def resetAgainRow : OpenClaim := { program := "ytkabdilikndhbaa", sum := "912212b36cb19ca22dbc9f84efb0d0b6c4e1f58e295079371f4e5d28834f2790", func := "catnap/catnaplaw8.ResetAgain", spec := "resetAgain", unfollowed := true, recurses := true, apart := false }
def ResetAgainSaid : Prop := resetAgainRow.holds Try.pinned (OpenSpec.ofChange resetAgainSpec)

/-- ITS FALSE NEIGHBOUR: 'it returns false'. Refute it at one input. -/
def resetAgainWrong : ChangeSpec := { name := "resetAgain", fn := fun _ => fun
  | [d1, d2, d3] => { results := [.lit (.bool false)], args := [d1, d2, d3] }
  | _ => none }
def ResetAgainWrongFalsely : Prop := resetAgainRow.holds Try.pinned (OpenSpec.ofChange resetAgainWrong)

/-- 'catnaplaw8.ResetTicks': WHATEVER THE INPUT: true; the input reads as it did. -/
def resetTicksSpec : ChangeSpec := { name := "resetTicks", fn := fun _ => fun
  | [d1, d2] => { results := [.lit (.bool true)], args := [d1, d2] }
  | _ => none }
def resetTicksRow : OpenClaim := { program := "ytkabdilikndhbaa", sum := "912212b36cb19ca22dbc9f84efb0d0b6c4e1f58e295079371f4e5d28834f2790", func := "catnap/catnaplaw8.ResetTicks", spec := "resetTicks", unfollowed := true, recurses := true, apart := false }
def ResetTicksSaid : Prop := resetTicksRow.holds Try.pinned (OpenSpec.ofChange resetTicksSpec)

/-- ITS FALSE NEIGHBOUR: 'it returns false'. Refute it at one input. -/
def resetTicksWrong : ChangeSpec := { name := "resetTicks", fn := fun _ => fun
  | [d1, d2] => { results := [.lit (.bool false)], args := [d1, d2] }
  | _ => none }
def ResetTicksWrongFalsely : Prop := resetTicksRow.holds Try.pinned (OpenSpec.ofChange resetTicksWrong)

/-- 'catnaplaw8.ResetAll': WHATEVER THE INPUT: true; the input reads as it did. -/
def resetAllSpec : ChangeSpec := { name := "resetAll", fn := fun _ => fun
  | [d] => { results := [.lit (.bool true)], args := [d] }
  | _ => none }
def resetAllRow : OpenClaim := { program := "ytkabdilikndhbaa", sum := "912212b36cb19ca22dbc9f84efb0d0b6c4e1f58e295079371f4e5d28834f2790", func := "catnap/catnaplaw8.ResetAll", spec := "resetAll", unfollowed := true, recurses := true, apart := false }
def ResetAllSaid : Prop := resetAllRow.holds Try.pinned (OpenSpec.ofChange resetAllSpec)

/-- ITS FALSE NEIGHBOUR: 'it returns false'. Refute it at one input. -/
def resetAllWrong : ChangeSpec := { name := "resetAll", fn := fun _ => fun
  | [d] => { results := [.lit (.bool false)], args := [d] }
  | _ => none }
def ResetAllWrongFalsely : Prop := resetAllRow.holds Try.pinned (OpenSpec.ofChange resetAllWrong)

/-- 'catnaplaw8.ResetLate': WHATEVER THE INPUT: true; the input reads as it did. -/
def resetLateSpec : ChangeSpec := { name := "resetLate", fn := fun _ => fun
  | [d1, d2, d3] => { results := [.lit (.bool true)], args := [d1, d2, d3] }
  | _ => none }
def resetLateRow : OpenClaim := { program := "ytkabdilikndhbaa", sum := "912212b36cb19ca22dbc9f84efb0d0b6c4e1f58e295079371f4e5d28834f2790", func := "catnap/catnaplaw8.ResetLate", spec := "resetLate", unfollowed := true, recurses := true, apart := false }
def ResetLateSaid : Prop := resetLateRow.holds Try.pinned (OpenSpec.ofChange resetLateSpec)

/-- ITS FALSE NEIGHBOUR: 'it returns false'. Refute it at one input. -/
def resetLateWrong : ChangeSpec := { name := "resetLate", fn := fun _ => fun
  | [d1, d2, d3] => { results := [.lit (.bool false)], args := [d1, d2, d3] }
  | _ => none }
def ResetLateWrongFalsely : Prop := resetLateRow.holds Try.pinned (OpenSpec.ofChange resetLateWrong)

/- THE SECOND FORM. 'bulk': how many values and letters a reading holds, each counted each time it is reached (what is shared counts as often as it is met; a slice's spare places count too). A statement '..UptoSaid' is the law's where the arguments, and the package variables that the reading takes, are together of bulk at most 1048576: NARROWER than '..Said'. Prove '..Said' where nothing that the law and all that it calls make is longer than what came in: it says more and counts as full. Else prove '..UptoSaid'. A law counts once. -/
mutual
def uptoBulk {H : Type} : DataW H → Nat
  | .lit (.string bytes) => bytes.length + 1
  | .lit _ => 1
  | .nil => 1
  | .ptr d => uptoBulk d + 1
  | .slice elems spare => uptoBulkAll elems + uptoBulkAll spare + 1
  | .agg parts => uptoBulkAll parts + 1
  | .iface _ d => uptoBulk d + 1
  | .map entries => uptoBulkEntries entries + 1
  | .held _ => 1
def uptoBulkAll {H : Type} : List (DataW H) → Nat
  | [] => 0
  | d :: r => uptoBulk d + uptoBulkAll r
def uptoBulkEntries {H : Type} : List (Lit × DataW H) → Nat
  | [] => 0
  | x :: r => uptoBulkEntry x + uptoBulkEntries r
def uptoBulkEntry {H : Type} : Lit × DataW H → Nat
  | (.string bytes, d) => bytes.length + uptoBulk d + 1
  | (_, d) => uptoBulk d + 1
 end
def uptoSmall : (H : Type) → List (DataW H) → Bool := fun _ ds => decide (uptoBulkAll ds ≤ 1048576)
def OpenSpec.upto (s : _root_.Go.ChangeSpec) : _root_.Go.OpenSpec := { _root_.Go.OpenSpec.ofChange s with cond := some uptoSmall }

/-- 'catnaplaw8.ResetHolds', WHERE WHAT IT READS IS OF BULK AT MOST 1048576: true; the input reads as it did. -/
def resetHoldsUptoRow : OpenClaim := { program := "ytkabdilikndhbaa", sum := "912212b36cb19ca22dbc9f84efb0d0b6c4e1f58e295079371f4e5d28834f2790", func := "catnap/catnaplaw8.ResetHolds", spec := "resetHolds", unfollowed := true, recurses := true, apart := false, narrowed := true }
def ResetHoldsUptoSaid : Prop := resetHoldsUptoRow.holds Try.pinned (OpenSpec.upto resetHoldsSpec)

/-- 'catnaplaw8.ResetPlays', WHERE WHAT IT READS IS OF BULK AT MOST 1048576: true; the input reads as it did. -/
def resetPlaysUptoRow : OpenClaim := { program := "ytkabdilikndhbaa", sum := "912212b36cb19ca22dbc9f84efb0d0b6c4e1f58e295079371f4e5d28834f2790", func := "catnap/catnaplaw8.ResetPlays", spec := "resetPlays", unfollowed := true, recurses := true, apart := false, narrowed := true }
def ResetPlaysUptoSaid : Prop := resetPlaysUptoRow.holds Try.pinned (OpenSpec.upto resetPlaysSpec)

/-- 'catnaplaw8.ResetAgain', WHERE WHAT IT READS IS OF BULK AT MOST 1048576: true; the input reads as it did. -/
def resetAgainUptoRow : OpenClaim := { program := "ytkabdilikndhbaa", sum := "912212b36cb19ca22dbc9f84efb0d0b6c4e1f58e295079371f4e5d28834f2790", func := "catnap/catnaplaw8.ResetAgain", spec := "resetAgain", unfollowed := true, recurses := true, apart := false, narrowed := true }
def ResetAgainUptoSaid : Prop := resetAgainUptoRow.holds Try.pinned (OpenSpec.upto resetAgainSpec)

/-- 'catnaplaw8.ResetTicks', WHERE WHAT IT READS IS OF BULK AT MOST 1048576: true; the input reads as it did. -/
def resetTicksUptoRow : OpenClaim := { program := "ytkabdilikndhbaa", sum := "912212b36cb19ca22dbc9f84efb0d0b6c4e1f58e295079371f4e5d28834f2790", func := "catnap/catnaplaw8.ResetTicks", spec := "resetTicks", unfollowed := true, recurses := true, apart := false, narrowed := true }
def ResetTicksUptoSaid : Prop := resetTicksUptoRow.holds Try.pinned (OpenSpec.upto resetTicksSpec)

/-- 'catnaplaw8.ResetAll', WHERE WHAT IT READS IS OF BULK AT MOST 1048576: true; the input reads as it did. -/
def resetAllUptoRow : OpenClaim := { program := "ytkabdilikndhbaa", sum := "912212b36cb19ca22dbc9f84efb0d0b6c4e1f58e295079371f4e5d28834f2790", func := "catnap/catnaplaw8.ResetAll", spec := "resetAll", unfollowed := true, recurses := true, apart := false, narrowed := true }
def ResetAllUptoSaid : Prop := resetAllUptoRow.holds Try.pinned (OpenSpec.upto resetAllSpec)

/-- 'catnaplaw8.ResetLate', WHERE WHAT IT READS IS OF BULK AT MOST 1048576: true; the input reads as it did. -/
def resetLateUptoRow : OpenClaim := { program := "ytkabdilikndhbaa", sum := "912212b36cb19ca22dbc9f84efb0d0b6c4e1f58e295079371f4e5d28834f2790", func := "catnap/catnaplaw8.ResetLate", spec := "resetLate", unfollowed := true, recurses := true, apart := false, narrowed := true }
def ResetLateUptoSaid : Prop := resetLateUptoRow.holds Try.pinned (OpenSpec.upto resetLateSpec)

end Rows
end Go.Proofs.Ytkabdilikndhbaa
