/-
  No cell of these rows narrows 'for every input' (looked for: loops, veiled, ifaces, maps, wideKeys, modest, calm, conditions, laid).
  DERIVED. THE GIVEN ROWS OF THIS SEAT. 6 by the template 'for every input the law returns true; each argument reads behind the call as it read before'; 0 by the template 'total and deterministic' (their statements: YtoblpialfhfdgaaTotals.lean).
  GIVEN WITH THE SEED: the statements are not yours to turn. If you find one false, say at which input.
  Laid BY PROGRAM, IN A SANDBOX (cutbox-rows.mjs): the forced cells as the released guide's own fill.sh prints them over the translation dc79043c2fbfb1a7… (all of the seat's roots in one cut). By AI agents, Wed Nov 11 2026. No macro, syntax, notation, axiom, sorry.
-/
import Derived.Test.YtoblpialfhfdgaaChecked
import GoSem.Claim
import GoSem.ClaimJoined
import GoSem.ClaimMapViews
import Derived.JoinedTies
import Derived.KernelRfl
namespace Go.Proofs.Ytoblpialfhfdgaa
/- THE CELL 'sum', in the pinned program and in every row, IS THE sha256 OF THE DUMP (.gsa) THAT YtoblpialfhfdgaaProg.lean LOADS. Nothing in Lean hashes anything: it is a label: what it is worth is what the hold of that sum in a sandbox is worth. -/
noncomputable def Try.pinned : Pinned := { name := "ytoblpialfhfdgaa", sum := "dc79043c2fbfb1a721c63d62f36782a23ecdefea671e7aa7bcd33b2120917622", checked := Try.checked }
namespace Rows
def none {H : Type} : Left H := { results := [], args := [] }

/-- 'catnaplaw16.CountNeeds': WHATEVER THE INPUT: true; the input reads as it did. -/
def countNeedsSpec : ChangeSpec := { name := "countNeeds", fn := fun _ => fun
  | [d1, d2] => { results := [.lit (.bool true)], args := [d1, d2] }
  | _ => none }
def countNeedsRow : OpenClaim := { program := "ytoblpialfhfdgaa", sum := "dc79043c2fbfb1a721c63d62f36782a23ecdefea671e7aa7bcd33b2120917622", func := "catnap/catnaplaw16.CountNeeds", spec := "countNeeds", unfollowed := true, recurses := true, apart := false }
def CountNeedsSaid : Prop := countNeedsRow.holds Try.pinned (OpenSpec.ofChange countNeedsSpec)

/-- ITS FALSE NEIGHBOUR: 'it returns false'. Refute it at one input. -/
def countNeedsWrong : ChangeSpec := { name := "countNeeds", fn := fun _ => fun
  | [d1, d2] => { results := [.lit (.bool false)], args := [d1, d2] }
  | _ => none }
def CountNeedsWrongFalsely : Prop := countNeedsRow.holds Try.pinned (OpenSpec.ofChange countNeedsWrong)

/-- 'catnaplaw16.CountBack': WHATEVER THE INPUT: true; the input reads as it did. -/
def countBackSpec : ChangeSpec := { name := "countBack", fn := fun _ => fun
  | [d1, d2, d3] => { results := [.lit (.bool true)], args := [d1, d2, d3] }
  | _ => none }
def countBackRow : OpenClaim := { program := "ytoblpialfhfdgaa", sum := "dc79043c2fbfb1a721c63d62f36782a23ecdefea671e7aa7bcd33b2120917622", func := "catnap/catnaplaw16.CountBack", spec := "countBack", unfollowed := true, recurses := true, apart := false }
def CountBackSaid : Prop := countBackRow.holds Try.pinned (OpenSpec.ofChange countBackSpec)

/-- ITS FALSE NEIGHBOUR: 'it returns false'. Refute it at one input. -/
def countBackWrong : ChangeSpec := { name := "countBack", fn := fun _ => fun
  | [d1, d2, d3] => { results := [.lit (.bool false)], args := [d1, d2, d3] }
  | _ => none }
def CountBackWrongFalsely : Prop := countBackRow.holds Try.pinned (OpenSpec.ofChange countBackWrong)

/-- 'catnaplaw16.CountErrs': WHATEVER THE INPUT: true; the input reads as it did. -/
def countErrsSpec : ChangeSpec := { name := "countErrs", fn := fun _ => fun
  | [d1, d2] => { results := [.lit (.bool true)], args := [d1, d2] }
  | _ => none }
def countErrsRow : OpenClaim := { program := "ytoblpialfhfdgaa", sum := "dc79043c2fbfb1a721c63d62f36782a23ecdefea671e7aa7bcd33b2120917622", func := "catnap/catnaplaw16.CountErrs", spec := "countErrs", unfollowed := true, recurses := true, apart := false }
def CountErrsSaid : Prop := countErrsRow.holds Try.pinned (OpenSpec.ofChange countErrsSpec)

/-- ITS FALSE NEIGHBOUR: 'it returns false'. Refute it at one input. -/
def countErrsWrong : ChangeSpec := { name := "countErrs", fn := fun _ => fun
  | [d1, d2] => { results := [.lit (.bool false)], args := [d1, d2] }
  | _ => none }
def CountErrsWrongFalsely : Prop := countErrsRow.holds Try.pinned (OpenSpec.ofChange countErrsWrong)

/-- 'catnaplaw16.CountOrder': WHATEVER THE INPUT: true; the input reads as it did. -/
def countOrderSpec : ChangeSpec := { name := "countOrder", fn := fun _ => fun
  | [d1, d2, d3, d4] => { results := [.lit (.bool true)], args := [d1, d2, d3, d4] }
  | _ => none }
def countOrderRow : OpenClaim := { program := "ytoblpialfhfdgaa", sum := "dc79043c2fbfb1a721c63d62f36782a23ecdefea671e7aa7bcd33b2120917622", func := "catnap/catnaplaw16.CountOrder", spec := "countOrder", inPlace := ["maps.clone"], unfollowed := true, recurses := true, apart := false }
def CountOrderSaid : Prop := countOrderRow.holds Try.pinned (OpenSpec.ofChange countOrderSpec)

/-- ITS FALSE NEIGHBOUR: 'it returns false'. Refute it at one input. -/
def countOrderWrong : ChangeSpec := { name := "countOrder", fn := fun _ => fun
  | [d1, d2, d3, d4] => { results := [.lit (.bool false)], args := [d1, d2, d3, d4] }
  | _ => none }
def CountOrderWrongFalsely : Prop := countOrderRow.holds Try.pinned (OpenSpec.ofChange countOrderWrong)

/-- 'catnaplaw16.CountPlays': WHATEVER THE INPUT: true; the input reads as it did. -/
def countPlaysSpec : ChangeSpec := { name := "countPlays", fn := fun _ => fun
  | [d1, d2] => { results := [.lit (.bool true)], args := [d1, d2] }
  | _ => none }
def countPlaysRow : OpenClaim := { program := "ytoblpialfhfdgaa", sum := "dc79043c2fbfb1a721c63d62f36782a23ecdefea671e7aa7bcd33b2120917622", func := "catnap/catnaplaw16.CountPlays", spec := "countPlays", inPlace := ["maps.clone"], unfollowed := true, recurses := true, apart := false }
def CountPlaysSaid : Prop := countPlaysRow.holds Try.pinned (OpenSpec.ofChange countPlaysSpec)

/-- ITS FALSE NEIGHBOUR: 'it returns false'. Refute it at one input. -/
def countPlaysWrong : ChangeSpec := { name := "countPlays", fn := fun _ => fun
  | [d1, d2] => { results := [.lit (.bool false)], args := [d1, d2] }
  | _ => none }
def CountPlaysWrongFalsely : Prop := countPlaysRow.holds Try.pinned (OpenSpec.ofChange countPlaysWrong)

/-- 'catnaplaw16.CountCopies': WHATEVER THE INPUT: true; the input reads as it did. -/
def countCopiesSpec : ChangeSpec := { name := "countCopies", fn := fun _ => fun
  | [d1, d2, d3] => { results := [.lit (.bool true)], args := [d1, d2, d3] }
  | _ => none }
def countCopiesRow : OpenClaim := { program := "ytoblpialfhfdgaa", sum := "dc79043c2fbfb1a721c63d62f36782a23ecdefea671e7aa7bcd33b2120917622", func := "catnap/catnaplaw16.CountCopies", spec := "countCopies", inPlace := ["maps.clone"], unfollowed := true, recurses := true, apart := false }
def CountCopiesSaid : Prop := countCopiesRow.holds Try.pinned (OpenSpec.ofChange countCopiesSpec)

/-- ITS FALSE NEIGHBOUR: 'it returns false'. Refute it at one input. -/
def countCopiesWrong : ChangeSpec := { name := "countCopies", fn := fun _ => fun
  | [d1, d2, d3] => { results := [.lit (.bool false)], args := [d1, d2, d3] }
  | _ => none }
def CountCopiesWrongFalsely : Prop := countCopiesRow.holds Try.pinned (OpenSpec.ofChange countCopiesWrong)

/- THE SECOND FORM. 'bulk': how many values and letters a reading holds, each counted each time it is reached (what is shared counts as often as it is met; a slice's spare places count too). A statement '..UptoSaid' is the law's where the arguments, and the package variables that the reading takes, are together of bulk at most 1048576: NARROWER than '..Said'. Prove '..Said' where nothing that the law and all that it calls make is longer than what came in: it says more and counts as full. Else prove '..UptoSaid'. A law counts once. -/
mutual
def uptoBulk {H : Type} : DataW H → Nat
  | .lit (.string bytes) => bytes.length + 1
  | .lit _ => 1
  | .nil => 1
  | .ptr d => uptoBulk d + 1
  | .slice elems spare => uptoBulkAll elems + uptoBulkAll spare + 1
  | .agg parts => uptoBulkAll parts + 1
  | .iface _ d => uptoBulk d + 1
  | .map entries => uptoBulkEntries entries + 1
  | .held _ => 1
def uptoBulkAll {H : Type} : List (DataW H) → Nat
  | [] => 0
  | d :: r => uptoBulk d + uptoBulkAll r
def uptoBulkEntries {H : Type} : List (Lit × DataW H) → Nat
  | [] => 0
  | x :: r => uptoBulkEntry x + uptoBulkEntries r
def uptoBulkEntry {H : Type} : Lit × DataW H → Nat
  | (.string bytes, d) => bytes.length + uptoBulk d + 1
  | (_, d) => uptoBulk d + 1
 end
def uptoSmall : (H : Type) → List (DataW H) → Bool := fun _ ds => decide (uptoBulkAll ds ≤ 1048576)
def OpenSpec.upto (s : _root_.Go.ChangeSpec) : _root_.Go.OpenSpec := { _root_.Go.OpenSpec.ofChange s with cond := some uptoSmall }

/-- 'catnaplaw16.CountNeeds', WHERE WHAT IT READS IS OF BULK AT MOST 1048576: true; the input reads as it did. -/
def countNeedsUptoRow : OpenClaim := { program := "ytoblpialfhfdgaa", sum := "dc79043c2fbfb1a721c63d62f36782a23ecdefea671e7aa7bcd33b2120917622", func := "catnap/catnaplaw16.CountNeeds", spec := "countNeeds", unfollowed := true, recurses := true, apart := false, narrowed := true }
def CountNeedsUptoSaid : Prop := countNeedsUptoRow.holds Try.pinned (OpenSpec.upto countNeedsSpec)

/-- 'catnaplaw16.CountBack', WHERE WHAT IT READS IS OF BULK AT MOST 1048576: true; the input reads as it did. -/
def countBackUptoRow : OpenClaim := { program := "ytoblpialfhfdgaa", sum := "dc79043c2fbfb1a721c63d62f36782a23ecdefea671e7aa7bcd33b2120917622", func := "catnap/catnaplaw16.CountBack", spec := "countBack", unfollowed := true, recurses := true, apart := false, narrowed := true }
def CountBackUptoSaid : Prop := countBackUptoRow.holds Try.pinned (OpenSpec.upto countBackSpec)

/-- 'catnaplaw16.CountErrs', WHERE WHAT IT READS IS OF BULK AT MOST 1048576: true; the input reads as it did. -/
def countErrsUptoRow : OpenClaim := { program := "ytoblpialfhfdgaa", sum := "dc79043c2fbfb1a721c63d62f36782a23ecdefea671e7aa7bcd33b2120917622", func := "catnap/catnaplaw16.CountErrs", spec := "countErrs", unfollowed := true, recurses := true, apart := false, narrowed := true }
def CountErrsUptoSaid : Prop := countErrsUptoRow.holds Try.pinned (OpenSpec.upto countErrsSpec)

/-- 'catnaplaw16.CountOrder', WHERE WHAT IT READS IS OF BULK AT MOST 1048576: true; the input reads as it did. -/
def countOrderUptoRow : OpenClaim := { program := "ytoblpialfhfdgaa", sum := "dc79043c2fbfb1a721c63d62f36782a23ecdefea671e7aa7bcd33b2120917622", func := "catnap/catnaplaw16.CountOrder", spec := "countOrder", inPlace := ["maps.clone"], unfollowed := true, recurses := true, apart := false, narrowed := true }
def CountOrderUptoSaid : Prop := countOrderUptoRow.holds Try.pinned (OpenSpec.upto countOrderSpec)

/-- 'catnaplaw16.CountPlays', WHERE WHAT IT READS IS OF BULK AT MOST 1048576: true; the input reads as it did. -/
def countPlaysUptoRow : OpenClaim := { program := "ytoblpialfhfdgaa", sum := "dc79043c2fbfb1a721c63d62f36782a23ecdefea671e7aa7bcd33b2120917622", func := "catnap/catnaplaw16.CountPlays", spec := "countPlays", inPlace := ["maps.clone"], unfollowed := true, recurses := true, apart := false, narrowed := true }
def CountPlaysUptoSaid : Prop := countPlaysUptoRow.holds Try.pinned (OpenSpec.upto countPlaysSpec)

/-- 'catnaplaw16.CountCopies', WHERE WHAT IT READS IS OF BULK AT MOST 1048576: true; the input reads as it did. -/
def countCopiesUptoRow : OpenClaim := { program := "ytoblpialfhfdgaa", sum := "dc79043c2fbfb1a721c63d62f36782a23ecdefea671e7aa7bcd33b2120917622", func := "catnap/catnaplaw16.CountCopies", spec := "countCopies", inPlace := ["maps.clone"], unfollowed := true, recurses := true, apart := false, narrowed := true }
def CountCopiesUptoSaid : Prop := countCopiesUptoRow.holds Try.pinned (OpenSpec.upto countCopiesSpec)

end Rows
end Go.Proofs.Ytoblpialfhfdgaa
