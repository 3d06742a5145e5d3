/-
  No cell of these rows narrows 'for every input' (looked for: loops, veiled, ifaces, maps, wideKeys, modest, calm, conditions, laid).
  DERIVED. THE GIVEN ROWS OF THIS SEAT. 6 by the template 'for every input the law returns true; each argument reads behind the call as it read before'; 0 by the template 'total and deterministic' (their statements: YtjamidgdhmjhaaaTotals.lean).
  GIVEN WITH THE SEED: the statements are not yours to turn. If you find one false, say at which input.
  Laid BY PROGRAM, IN A SANDBOX (cutbox-rows.mjs): the forced cells as the released guide's own fill.sh prints them over the translation ed5570380609278f… (all of the seat's roots in one cut). By AI agents, Wed Nov 11 2026. No macro, syntax, notation, axiom, sorry.
-/
import Derived.Test.YtjamidgdhmjhaaaChecked
import GoSem.Claim
import GoSem.ClaimJoined
import GoSem.ClaimMapViews
import Derived.JoinedTies
import Derived.KernelRfl
namespace Go.Proofs.Ytjamidgdhmjhaaa
/- THE CELL 'sum', in the pinned program and in every row, IS THE sha256 OF THE DUMP (.gsa) THAT YtjamidgdhmjhaaaProg.lean LOADS. Nothing in Lean hashes anything: it is a label: what it is worth is what the hold of that sum in a sandbox is worth. -/
noncomputable def Try.pinned : Pinned := { name := "ytjamidgdhmjhaaa", sum := "ed5570380609278f2b30e5796e7482cc019716d26ac0e31e2988bf6da4364de4", checked := Try.checked }
namespace Rows
def none {H : Type} : Left H := { results := [], args := [] }

/-- 'catnaplaw4.ConfFaults': WHATEVER THE INPUT: true; the input reads as it did. -/
def confFaultsSpec : ChangeSpec := { name := "confFaults", fn := fun _ => fun
  | [d1, d2, d3] => { results := [.lit (.bool true)], args := [d1, d2, d3] }
  | _ => none }
def confFaultsRow : OpenClaim := { program := "ytjamidgdhmjhaaa", sum := "ed5570380609278f2b30e5796e7482cc019716d26ac0e31e2988bf6da4364de4", func := "catnap/catnaplaw4.ConfFaults", spec := "confFaults", unfollowed := true, recurses := true, apart := false }
def ConfFaultsSaid : Prop := confFaultsRow.holds Try.pinned (OpenSpec.ofChange confFaultsSpec)

/-- ITS FALSE NEIGHBOUR: 'it returns false'. Refute it at one input. -/
def confFaultsWrong : ChangeSpec := { name := "confFaults", fn := fun _ => fun
  | [d1, d2, d3] => { results := [.lit (.bool false)], args := [d1, d2, d3] }
  | _ => none }
def ConfFaultsWrongFalsely : Prop := confFaultsRow.holds Try.pinned (OpenSpec.ofChange confFaultsWrong)

/-- 'catnaplaw4.ConfGraphs': WHATEVER THE INPUT: true; the input reads as it did. -/
def confGraphsSpec : ChangeSpec := { name := "confGraphs", fn := fun _ => fun
  | [d] => { results := [.lit (.bool true)], args := [d] }
  | _ => none }
def confGraphsRow : OpenClaim := { program := "ytjamidgdhmjhaaa", sum := "ed5570380609278f2b30e5796e7482cc019716d26ac0e31e2988bf6da4364de4", func := "catnap/catnaplaw4.ConfGraphs", spec := "confGraphs", unfollowed := true, recurses := true, apart := false }
def ConfGraphsSaid : Prop := confGraphsRow.holds Try.pinned (OpenSpec.ofChange confGraphsSpec)

/-- ITS FALSE NEIGHBOUR: 'it returns false'. Refute it at one input. -/
def confGraphsWrong : ChangeSpec := { name := "confGraphs", fn := fun _ => fun
  | [d] => { results := [.lit (.bool false)], args := [d] }
  | _ => none }
def ConfGraphsWrongFalsely : Prop := confGraphsRow.holds Try.pinned (OpenSpec.ofChange confGraphsWrong)

/-- 'catnaplaw4.ConfFirst': WHATEVER THE INPUT: true; the input reads as it did. -/
def confFirstSpec : ChangeSpec := { name := "confFirst", fn := fun _ => fun
  | [d1, d2, d3] => { results := [.lit (.bool true)], args := [d1, d2, d3] }
  | _ => none }
def confFirstRow : OpenClaim := { program := "ytjamidgdhmjhaaa", sum := "ed5570380609278f2b30e5796e7482cc019716d26ac0e31e2988bf6da4364de4", func := "catnap/catnaplaw4.ConfFirst", spec := "confFirst", unfollowed := true, recurses := true, apart := false }
def ConfFirstSaid : Prop := confFirstRow.holds Try.pinned (OpenSpec.ofChange confFirstSpec)

/-- ITS FALSE NEIGHBOUR: 'it returns false'. Refute it at one input. -/
def confFirstWrong : ChangeSpec := { name := "confFirst", fn := fun _ => fun
  | [d1, d2, d3] => { results := [.lit (.bool false)], args := [d1, d2, d3] }
  | _ => none }
def ConfFirstWrongFalsely : Prop := confFirstRow.holds Try.pinned (OpenSpec.ofChange confFirstWrong)

/-- 'catnaplaw4.ConfRight': WHATEVER THE INPUT: true; the input reads as it did. -/
def confRightSpec : ChangeSpec := { name := "confRight", fn := fun _ => fun
  | [d] => { results := [.lit (.bool true)], args := [d] }
  | _ => none }
def confRightRow : OpenClaim := { program := "ytjamidgdhmjhaaa", sum := "ed5570380609278f2b30e5796e7482cc019716d26ac0e31e2988bf6da4364de4", func := "catnap/catnaplaw4.ConfRight", spec := "confRight", unfollowed := true, recurses := true, apart := false }
def ConfRightSaid : Prop := confRightRow.holds Try.pinned (OpenSpec.ofChange confRightSpec)

/-- ITS FALSE NEIGHBOUR: 'it returns false'. Refute it at one input. -/
def confRightWrong : ChangeSpec := { name := "confRight", fn := fun _ => fun
  | [d] => { results := [.lit (.bool false)], args := [d] }
  | _ => none }
def ConfRightWrongFalsely : Prop := confRightRow.holds Try.pinned (OpenSpec.ofChange confRightWrong)

/-- 'catnaplaw4.ConfCopies': WHATEVER THE INPUT: true; the input reads as it did. -/
def confCopiesSpec : ChangeSpec := { name := "confCopies", fn := fun _ => fun
  | [d1, d2] => { results := [.lit (.bool true)], args := [d1, d2] }
  | _ => none }
def confCopiesRow : OpenClaim := { program := "ytjamidgdhmjhaaa", sum := "ed5570380609278f2b30e5796e7482cc019716d26ac0e31e2988bf6da4364de4", func := "catnap/catnaplaw4.ConfCopies", spec := "confCopies", unfollowed := true, recurses := true, apart := false }
def ConfCopiesSaid : Prop := confCopiesRow.holds Try.pinned (OpenSpec.ofChange confCopiesSpec)

/-- ITS FALSE NEIGHBOUR: 'it returns false'. Refute it at one input. -/
def confCopiesWrong : ChangeSpec := { name := "confCopies", fn := fun _ => fun
  | [d1, d2] => { results := [.lit (.bool false)], args := [d1, d2] }
  | _ => none }
def ConfCopiesWrongFalsely : Prop := confCopiesRow.holds Try.pinned (OpenSpec.ofChange confCopiesWrong)

/-- 'catnaplaw4.ConfUnused': WHATEVER THE INPUT: true; the input reads as it did. -/
def confUnusedSpec : ChangeSpec := { name := "confUnused", fn := fun _ => fun
  | [d1, d2, d3, d4, d5] => { results := [.lit (.bool true)], args := [d1, d2, d3, d4, d5] }
  | _ => none }
def confUnusedRow : OpenClaim := { program := "ytjamidgdhmjhaaa", sum := "ed5570380609278f2b30e5796e7482cc019716d26ac0e31e2988bf6da4364de4", func := "catnap/catnaplaw4.ConfUnused", spec := "confUnused", unfollowed := true, recurses := true, apart := false }
def ConfUnusedSaid : Prop := confUnusedRow.holds Try.pinned (OpenSpec.ofChange confUnusedSpec)

/-- ITS FALSE NEIGHBOUR: 'it returns false'. Refute it at one input. -/
def confUnusedWrong : ChangeSpec := { name := "confUnused", fn := fun _ => fun
  | [d1, d2, d3, d4, d5] => { results := [.lit (.bool false)], args := [d1, d2, d3, d4, d5] }
  | _ => none }
def ConfUnusedWrongFalsely : Prop := confUnusedRow.holds Try.pinned (OpenSpec.ofChange confUnusedWrong)

/- THE SECOND FORM. 'bulk': how many values and letters a reading holds, each counted each time it is reached (what is shared counts as often as it is met; a slice's spare places count too). A statement '..UptoSaid' is the law's where the arguments, and the package variables that the reading takes, are together of bulk at most 1048576: NARROWER than '..Said'. Prove '..Said' where nothing that the law and all that it calls make is longer than what came in: it says more and counts as full. Else prove '..UptoSaid'. A law counts once. -/
mutual
def uptoBulk {H : Type} : DataW H → Nat
  | .lit (.string bytes) => bytes.length + 1
  | .lit _ => 1
  | .nil => 1
  | .ptr d => uptoBulk d + 1
  | .slice elems spare => uptoBulkAll elems + uptoBulkAll spare + 1
  | .agg parts => uptoBulkAll parts + 1
  | .iface _ d => uptoBulk d + 1
  | .map entries => uptoBulkEntries entries + 1
  | .held _ => 1
def uptoBulkAll {H : Type} : List (DataW H) → Nat
  | [] => 0
  | d :: r => uptoBulk d + uptoBulkAll r
def uptoBulkEntries {H : Type} : List (Lit × DataW H) → Nat
  | [] => 0
  | x :: r => uptoBulkEntry x + uptoBulkEntries r
def uptoBulkEntry {H : Type} : Lit × DataW H → Nat
  | (.string bytes, d) => bytes.length + uptoBulk d + 1
  | (_, d) => uptoBulk d + 1
 end
def uptoSmall : (H : Type) → List (DataW H) → Bool := fun _ ds => decide (uptoBulkAll ds ≤ 1048576)
def OpenSpec.upto (s : _root_.Go.ChangeSpec) : _root_.Go.OpenSpec := { _root_.Go.OpenSpec.ofChange s with cond := some uptoSmall }

/-- 'catnaplaw4.ConfFaults', WHERE WHAT IT READS IS OF BULK AT MOST 1048576: true; the input reads as it did. -/
def confFaultsUptoRow : OpenClaim := { program := "ytjamidgdhmjhaaa", sum := "ed5570380609278f2b30e5796e7482cc019716d26ac0e31e2988bf6da4364de4", func := "catnap/catnaplaw4.ConfFaults", spec := "confFaults", unfollowed := true, recurses := true, apart := false, narrowed := true }
def ConfFaultsUptoSaid : Prop := confFaultsUptoRow.holds Try.pinned (OpenSpec.upto confFaultsSpec)

/-- 'catnaplaw4.ConfGraphs', WHERE WHAT IT READS IS OF BULK AT MOST 1048576: true; the input reads as it did. -/
def confGraphsUptoRow : OpenClaim := { program := "ytjamidgdhmjhaaa", sum := "ed5570380609278f2b30e5796e7482cc019716d26ac0e31e2988bf6da4364de4", func := "catnap/catnaplaw4.ConfGraphs", spec := "confGraphs", unfollowed := true, recurses := true, apart := false, narrowed := true }
def ConfGraphsUptoSaid : Prop := confGraphsUptoRow.holds Try.pinned (OpenSpec.upto confGraphsSpec)

/-- 'catnaplaw4.ConfFirst', WHERE WHAT IT READS IS OF BULK AT MOST 1048576: true; the input reads as it did. -/
def confFirstUptoRow : OpenClaim := { program := "ytjamidgdhmjhaaa", sum := "ed5570380609278f2b30e5796e7482cc019716d26ac0e31e2988bf6da4364de4", func := "catnap/catnaplaw4.ConfFirst", spec := "confFirst", unfollowed := true, recurses := true, apart := false, narrowed := true }
def ConfFirstUptoSaid : Prop := confFirstUptoRow.holds Try.pinned (OpenSpec.upto confFirstSpec)

/-- 'catnaplaw4.ConfRight', WHERE WHAT IT READS IS OF BULK AT MOST 1048576: true; the input reads as it did. -/
def confRightUptoRow : OpenClaim := { program := "ytjamidgdhmjhaaa", sum := "ed5570380609278f2b30e5796e7482cc019716d26ac0e31e2988bf6da4364de4", func := "catnap/catnaplaw4.ConfRight", spec := "confRight", unfollowed := true, recurses := true, apart := false, narrowed := true }
def ConfRightUptoSaid : Prop := confRightUptoRow.holds Try.pinned (OpenSpec.upto confRightSpec)

/-- 'catnaplaw4.ConfCopies', WHERE WHAT IT READS IS OF BULK AT MOST 1048576: true; the input reads as it did. -/
def confCopiesUptoRow : OpenClaim := { program := "ytjamidgdhmjhaaa", sum := "ed5570380609278f2b30e5796e7482cc019716d26ac0e31e2988bf6da4364de4", func := "catnap/catnaplaw4.ConfCopies", spec := "confCopies", unfollowed := true, recurses := true, apart := false, narrowed := true }
def ConfCopiesUptoSaid : Prop := confCopiesUptoRow.holds Try.pinned (OpenSpec.upto confCopiesSpec)

/-- 'catnaplaw4.ConfUnused', WHERE WHAT IT READS IS OF BULK AT MOST 1048576: true; the input reads as it did. -/
def confUnusedUptoRow : OpenClaim := { program := "ytjamidgdhmjhaaa", sum := "ed5570380609278f2b30e5796e7482cc019716d26ac0e31e2988bf6da4364de4", func := "catnap/catnaplaw4.ConfUnused", spec := "confUnused", unfollowed := true, recurses := true, apart := false, narrowed := true }
def ConfUnusedUptoSaid : Prop := confUnusedUptoRow.holds Try.pinned (OpenSpec.upto confUnusedSpec)

end Rows
end Go.Proofs.Ytjamidgdhmjhaaa
