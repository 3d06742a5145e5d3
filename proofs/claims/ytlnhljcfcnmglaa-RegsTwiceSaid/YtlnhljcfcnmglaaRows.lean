/-
  No cell of these rows narrows 'for every input' (looked for: loops, veiled, ifaces, maps, wideKeys, modest, calm, conditions, laid).
  DERIVED. THE GIVEN ROWS OF THIS SEAT. 6 by the template 'for every input the law returns true; each argument reads behind the call as it read before'; 0 by the template 'total and deterministic' (their statements: YtlnhljcfcnmglaaTotals.lean).
  GIVEN WITH THE SEED: the statements are not yours to turn. If you find one false, say at which input.
  Laid BY PROGRAM, IN A SANDBOX (cutbox-rows.mjs): the forced cells as the released guide's own fill.sh prints them over the translation c284383a06017d0f… (all of the seat's roots in one cut). By AI agents, Wed Nov 11 2026. No macro, syntax, notation, axiom, sorry.
-/
import Derived.Test.YtlnhljcfcnmglaaChecked
import GoSem.Claim
import GoSem.ClaimJoined
import GoSem.ClaimMapViews
import Derived.JoinedTies
import Derived.KernelRfl
namespace Go.Proofs.Ytlnhljcfcnmglaa
/- THE CELL 'sum', in the pinned program and in every row, IS THE sha256 OF THE DUMP (.gsa) THAT YtlnhljcfcnmglaaProg.lean LOADS. Nothing in Lean hashes anything: it is a label: what it is worth is what the hold of that sum in a sandbox is worth. -/
noncomputable def Try.pinned : Pinned := { name := "ytlnhljcfcnmglaa", sum := "c284383a06017d0f90cb08a063d8d54169353f9f8b8124588771a9891cc97aec", checked := Try.checked }
namespace Rows
def none {H : Type} : Left H := { results := [], args := [] }

/-- 'catnaplaw9.RegsPlay': WHATEVER THE INPUT: true; the input reads as it did. -/
def regsPlaySpec : ChangeSpec := { name := "regsPlay", fn := fun _ => fun
  | [d1, d2] => { results := [.lit (.bool true)], args := [d1, d2] }
  | _ => none }
def regsPlayRow : OpenClaim := { program := "ytlnhljcfcnmglaa", sum := "c284383a06017d0f90cb08a063d8d54169353f9f8b8124588771a9891cc97aec", func := "catnap/catnaplaw9.RegsPlay", spec := "regsPlay", unfollowed := true, recurses := true, apart := false }
def RegsPlaySaid : Prop := regsPlayRow.holds Try.pinned (OpenSpec.ofChange regsPlaySpec)

/-- ITS FALSE NEIGHBOUR: 'it returns false'. Refute it at one input. -/
def regsPlayWrong : ChangeSpec := { name := "regsPlay", fn := fun _ => fun
  | [d1, d2] => { results := [.lit (.bool false)], args := [d1, d2] }
  | _ => none }
def RegsPlayWrongFalsely : Prop := regsPlayRow.holds Try.pinned (OpenSpec.ofChange regsPlayWrong)

/-- 'catnaplaw9.RegsKeep': WHATEVER THE INPUT: true; the input reads as it did. -/
def regsKeepSpec : ChangeSpec := { name := "regsKeep", fn := fun _ => fun
  | [d1, d2, d3] => { results := [.lit (.bool true)], args := [d1, d2, d3] }
  | _ => none }
def regsKeepRow : OpenClaim := { program := "ytlnhljcfcnmglaa", sum := "c284383a06017d0f90cb08a063d8d54169353f9f8b8124588771a9891cc97aec", func := "catnap/catnaplaw9.RegsKeep", spec := "regsKeep", unfollowed := true, recurses := true, apart := false }
def RegsKeepSaid : Prop := regsKeepRow.holds Try.pinned (OpenSpec.ofChange regsKeepSpec)

/-- ITS FALSE NEIGHBOUR: 'it returns false'. Refute it at one input. -/
def regsKeepWrong : ChangeSpec := { name := "regsKeep", fn := fun _ => fun
  | [d1, d2, d3] => { results := [.lit (.bool false)], args := [d1, d2, d3] }
  | _ => none }
def RegsKeepWrongFalsely : Prop := regsKeepRow.holds Try.pinned (OpenSpec.ofChange regsKeepWrong)

/-- 'catnaplaw9.RegsAlone': WHATEVER THE INPUT: true; the input reads as it did. -/
def regsAloneSpec : ChangeSpec := { name := "regsAlone", fn := fun _ => fun
  | [d1, d2, d3] => { results := [.lit (.bool true)], args := [d1, d2, d3] }
  | _ => none }
def regsAloneRow : OpenClaim := { program := "ytlnhljcfcnmglaa", sum := "c284383a06017d0f90cb08a063d8d54169353f9f8b8124588771a9891cc97aec", func := "catnap/catnaplaw9.RegsAlone", spec := "regsAlone", unfollowed := true, recurses := true, apart := false }
def RegsAloneSaid : Prop := regsAloneRow.holds Try.pinned (OpenSpec.ofChange regsAloneSpec)

/-- ITS FALSE NEIGHBOUR: 'it returns false'. Refute it at one input. -/
def regsAloneWrong : ChangeSpec := { name := "regsAlone", fn := fun _ => fun
  | [d1, d2, d3] => { results := [.lit (.bool false)], args := [d1, d2, d3] }
  | _ => none }
def RegsAloneWrongFalsely : Prop := regsAloneRow.holds Try.pinned (OpenSpec.ofChange regsAloneWrong)

/-- 'catnaplaw9.RegsTwice': WHATEVER THE INPUT: true; the input reads as it did. -/
def regsTwiceSpec : ChangeSpec := { name := "regsTwice", fn := fun _ => fun
  | [d1, d2, d3] => { results := [.lit (.bool true)], args := [d1, d2, d3] }
  | _ => none }
def regsTwiceRow : OpenClaim := { program := "ytlnhljcfcnmglaa", sum := "c284383a06017d0f90cb08a063d8d54169353f9f8b8124588771a9891cc97aec", func := "catnap/catnaplaw9.RegsTwice", spec := "regsTwice", unfollowed := true, recurses := true, apart := false }
def RegsTwiceSaid : Prop := regsTwiceRow.holds Try.pinned (OpenSpec.ofChange regsTwiceSpec)

/-- ITS FALSE NEIGHBOUR: 'it returns false'. Refute it at one input. -/
def regsTwiceWrong : ChangeSpec := { name := "regsTwice", fn := fun _ => fun
  | [d1, d2, d3] => { results := [.lit (.bool false)], args := [d1, d2, d3] }
  | _ => none }
def RegsTwiceWrongFalsely : Prop := regsTwiceRow.holds Try.pinned (OpenSpec.ofChange regsTwiceWrong)

/-- 'catnaplaw9.RegsLast': WHATEVER THE INPUT: true; the input reads as it did. -/
def regsLastSpec : ChangeSpec := { name := "regsLast", fn := fun _ => fun
  | [d1, d2, d3] => { results := [.lit (.bool true)], args := [d1, d2, d3] }
  | _ => none }
def regsLastRow : OpenClaim := { program := "ytlnhljcfcnmglaa", sum := "c284383a06017d0f90cb08a063d8d54169353f9f8b8124588771a9891cc97aec", func := "catnap/catnaplaw9.RegsLast", spec := "regsLast", unfollowed := true, recurses := true, apart := false }
def RegsLastSaid : Prop := regsLastRow.holds Try.pinned (OpenSpec.ofChange regsLastSpec)

/-- ITS FALSE NEIGHBOUR: 'it returns false'. Refute it at one input. -/
def regsLastWrong : ChangeSpec := { name := "regsLast", fn := fun _ => fun
  | [d1, d2, d3] => { results := [.lit (.bool false)], args := [d1, d2, d3] }
  | _ => none }
def RegsLastWrongFalsely : Prop := regsLastRow.holds Try.pinned (OpenSpec.ofChange regsLastWrong)

/-- 'catnaplaw9.RegsClears': WHATEVER THE INPUT: true; the input reads as it did. -/
def regsClearsSpec : ChangeSpec := { name := "regsClears", fn := fun _ => fun
  | [d1, d2, d3] => { results := [.lit (.bool true)], args := [d1, d2, d3] }
  | _ => none }
def regsClearsRow : OpenClaim := { program := "ytlnhljcfcnmglaa", sum := "c284383a06017d0f90cb08a063d8d54169353f9f8b8124588771a9891cc97aec", func := "catnap/catnaplaw9.RegsClears", spec := "regsClears", unfollowed := true, recurses := true, apart := false }
def RegsClearsSaid : Prop := regsClearsRow.holds Try.pinned (OpenSpec.ofChange regsClearsSpec)

/-- ITS FALSE NEIGHBOUR: 'it returns false'. Refute it at one input. -/
def regsClearsWrong : ChangeSpec := { name := "regsClears", fn := fun _ => fun
  | [d1, d2, d3] => { results := [.lit (.bool false)], args := [d1, d2, d3] }
  | _ => none }
def RegsClearsWrongFalsely : Prop := regsClearsRow.holds Try.pinned (OpenSpec.ofChange regsClearsWrong)

/- THE SECOND FORM. 'bulk': how many values and letters a reading holds, each counted each time it is reached (what is shared counts as often as it is met; a slice's spare places count too). A statement '..UptoSaid' is the law's where the arguments, and the package variables that the reading takes, are together of bulk at most 1048576: NARROWER than '..Said'. Prove '..Said' where nothing that the law and all that it calls make is longer than what came in: it says more and counts as full. Else prove '..UptoSaid'. A law counts once. -/
mutual
def uptoBulk {H : Type} : DataW H → Nat
  | .lit (.string bytes) => bytes.length + 1
  | .lit _ => 1
  | .nil => 1
  | .ptr d => uptoBulk d + 1
  | .slice elems spare => uptoBulkAll elems + uptoBulkAll spare + 1
  | .agg parts => uptoBulkAll parts + 1
  | .iface _ d => uptoBulk d + 1
  | .map entries => uptoBulkEntries entries + 1
  | .held _ => 1
def uptoBulkAll {H : Type} : List (DataW H) → Nat
  | [] => 0
  | d :: r => uptoBulk d + uptoBulkAll r
def uptoBulkEntries {H : Type} : List (Lit × DataW H) → Nat
  | [] => 0
  | x :: r => uptoBulkEntry x + uptoBulkEntries r
def uptoBulkEntry {H : Type} : Lit × DataW H → Nat
  | (.string bytes, d) => bytes.length + uptoBulk d + 1
  | (_, d) => uptoBulk d + 1
 end
def uptoSmall : (H : Type) → List (DataW H) → Bool := fun _ ds => decide (uptoBulkAll ds ≤ 1048576)
def OpenSpec.upto (s : _root_.Go.ChangeSpec) : _root_.Go.OpenSpec := { _root_.Go.OpenSpec.ofChange s with cond := some uptoSmall }

/-- 'catnaplaw9.RegsPlay', WHERE WHAT IT READS IS OF BULK AT MOST 1048576: true; the input reads as it did. -/
def regsPlayUptoRow : OpenClaim := { program := "ytlnhljcfcnmglaa", sum := "c284383a06017d0f90cb08a063d8d54169353f9f8b8124588771a9891cc97aec", func := "catnap/catnaplaw9.RegsPlay", spec := "regsPlay", unfollowed := true, recurses := true, apart := false, narrowed := true }
def RegsPlayUptoSaid : Prop := regsPlayUptoRow.holds Try.pinned (OpenSpec.upto regsPlaySpec)

/-- 'catnaplaw9.RegsKeep', WHERE WHAT IT READS IS OF BULK AT MOST 1048576: true; the input reads as it did. -/
def regsKeepUptoRow : OpenClaim := { program := "ytlnhljcfcnmglaa", sum := "c284383a06017d0f90cb08a063d8d54169353f9f8b8124588771a9891cc97aec", func := "catnap/catnaplaw9.RegsKeep", spec := "regsKeep", unfollowed := true, recurses := true, apart := false, narrowed := true }
def RegsKeepUptoSaid : Prop := regsKeepUptoRow.holds Try.pinned (OpenSpec.upto regsKeepSpec)

/-- 'catnaplaw9.RegsAlone', WHERE WHAT IT READS IS OF BULK AT MOST 1048576: true; the input reads as it did. -/
def regsAloneUptoRow : OpenClaim := { program := "ytlnhljcfcnmglaa", sum := "c284383a06017d0f90cb08a063d8d54169353f9f8b8124588771a9891cc97aec", func := "catnap/catnaplaw9.RegsAlone", spec := "regsAlone", unfollowed := true, recurses := true, apart := false, narrowed := true }
def RegsAloneUptoSaid : Prop := regsAloneUptoRow.holds Try.pinned (OpenSpec.upto regsAloneSpec)

/-- 'catnaplaw9.RegsTwice', WHERE WHAT IT READS IS OF BULK AT MOST 1048576: true; the input reads as it did. -/
def regsTwiceUptoRow : OpenClaim := { program := "ytlnhljcfcnmglaa", sum := "c284383a06017d0f90cb08a063d8d54169353f9f8b8124588771a9891cc97aec", func := "catnap/catnaplaw9.RegsTwice", spec := "regsTwice", unfollowed := true, recurses := true, apart := false, narrowed := true }
def RegsTwiceUptoSaid : Prop := regsTwiceUptoRow.holds Try.pinned (OpenSpec.upto regsTwiceSpec)

/-- 'catnaplaw9.RegsLast', WHERE WHAT IT READS IS OF BULK AT MOST 1048576: true; the input reads as it did. -/
def regsLastUptoRow : OpenClaim := { program := "ytlnhljcfcnmglaa", sum := "c284383a06017d0f90cb08a063d8d54169353f9f8b8124588771a9891cc97aec", func := "catnap/catnaplaw9.RegsLast", spec := "regsLast", unfollowed := true, recurses := true, apart := false, narrowed := true }
def RegsLastUptoSaid : Prop := regsLastUptoRow.holds Try.pinned (OpenSpec.upto regsLastSpec)

/-- 'catnaplaw9.RegsClears', WHERE WHAT IT READS IS OF BULK AT MOST 1048576: true; the input reads as it did. -/
def regsClearsUptoRow : OpenClaim := { program := "ytlnhljcfcnmglaa", sum := "c284383a06017d0f90cb08a063d8d54169353f9f8b8124588771a9891cc97aec", func := "catnap/catnaplaw9.RegsClears", spec := "regsClears", unfollowed := true, recurses := true, apart := false, narrowed := true }
def RegsClearsUptoSaid : Prop := regsClearsUptoRow.holds Try.pinned (OpenSpec.upto regsClearsSpec)

end Rows
end Go.Proofs.Ytlnhljcfcnmglaa
