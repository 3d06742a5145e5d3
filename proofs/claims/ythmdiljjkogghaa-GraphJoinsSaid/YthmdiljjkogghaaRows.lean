/-
  No cell of these rows narrows 'for every input' (looked for: loops, veiled, ifaces, maps, wideKeys, modest, calm, conditions, laid).
  DERIVED. THE GIVEN ROWS OF THIS SEAT. 7 by the template 'for every input the law returns true; each argument reads behind the call as it read before'; 0 by the template 'total and deterministic' (their statements: YthmdiljjkogghaaTotals.lean).
  GIVEN WITH THE SEED: the statements are not yours to turn. If you find one false, say at which input.
  Laid BY PROGRAM, IN A SANDBOX (cutbox-rows.mjs): the forced cells as the released guide's own fill.sh prints them over the translation b9eae3f49a44c7b3… (all of the seat's roots in one cut). By AI agents, Wed Nov 11 2026. No macro, syntax, notation, axiom, sorry.
-/
import Derived.Test.YthmdiljjkogghaaChecked
import GoSem.Claim
import GoSem.ClaimJoined
import GoSem.ClaimMapViews
import Derived.JoinedTies
import Derived.KernelRfl
namespace Go.Proofs.Ythmdiljjkogghaa
/- THE CELL 'sum', in the pinned program and in every row, IS THE sha256 OF THE DUMP (.gsa) THAT YthmdiljjkogghaaProg.lean LOADS. Nothing in Lean hashes anything: it is a label: what it is worth is what the hold of that sum in a sandbox is worth. -/
noncomputable def Try.pinned : Pinned := { name := "ythmdiljjkogghaa", sum := "b9eae3f49a44c7b357299364209a756dd9aa7af589a2d24676895b874db36b70", checked := Try.checked }
namespace Rows
def none {H : Type} : Left H := { results := [], args := [] }

/-- 'catnaplaw3.GraphOrders': WHATEVER THE INPUT: true; the input reads as it did. -/
def graphOrdersSpec : ChangeSpec := { name := "graphOrders", fn := fun _ => fun
  | [d1, d2, d3] => { results := [.lit (.bool true)], args := [d1, d2, d3] }
  | _ => none }
def graphOrdersRow : OpenClaim := { program := "ythmdiljjkogghaa", sum := "b9eae3f49a44c7b357299364209a756dd9aa7af589a2d24676895b874db36b70", func := "catnap/catnaplaw3.GraphOrders", spec := "graphOrders", apart := false }
def GraphOrdersSaid : Prop := graphOrdersRow.holds Try.pinned (OpenSpec.ofChange graphOrdersSpec)

/-- ITS FALSE NEIGHBOUR: 'it returns false'. Refute it at one input. -/
def graphOrdersWrong : ChangeSpec := { name := "graphOrders", fn := fun _ => fun
  | [d1, d2, d3] => { results := [.lit (.bool false)], args := [d1, d2, d3] }
  | _ => none }
def GraphOrdersWrongFalsely : Prop := graphOrdersRow.holds Try.pinned (OpenSpec.ofChange graphOrdersWrong)

/-- 'catnaplaw3.GraphJoins': WHATEVER THE INPUT: true; the input reads as it did. -/
def graphJoinsSpec : ChangeSpec := { name := "graphJoins", fn := fun _ => fun
  | [d1, d2, d3, d4] => { results := [.lit (.bool true)], args := [d1, d2, d3, d4] }
  | _ => none }
def graphJoinsRow : OpenClaim := { program := "ythmdiljjkogghaa", sum := "b9eae3f49a44c7b357299364209a756dd9aa7af589a2d24676895b874db36b70", func := "catnap/catnaplaw3.GraphJoins", spec := "graphJoins", apart := false }
def GraphJoinsSaid : Prop := graphJoinsRow.holds Try.pinned (OpenSpec.ofChange graphJoinsSpec)

/-- ITS FALSE NEIGHBOUR: 'it returns false'. Refute it at one input. -/
def graphJoinsWrong : ChangeSpec := { name := "graphJoins", fn := fun _ => fun
  | [d1, d2, d3, d4] => { results := [.lit (.bool false)], args := [d1, d2, d3, d4] }
  | _ => none }
def GraphJoinsWrongFalsely : Prop := graphJoinsRow.holds Try.pinned (OpenSpec.ofChange graphJoinsWrong)

/-- 'catnaplaw3.GraphLess': WHATEVER THE INPUT: true; the input reads as it did. -/
def graphLessSpec : ChangeSpec := { name := "graphLess", fn := fun _ => fun
  | [d1, d2, d3, d4, d5] => { results := [.lit (.bool true)], args := [d1, d2, d3, d4, d5] }
  | _ => none }
def graphLessRow : OpenClaim := { program := "ythmdiljjkogghaa", sum := "b9eae3f49a44c7b357299364209a756dd9aa7af589a2d24676895b874db36b70", func := "catnap/catnaplaw3.GraphLess", spec := "graphLess", apart := false }
def GraphLessSaid : Prop := graphLessRow.holds Try.pinned (OpenSpec.ofChange graphLessSpec)

/-- ITS FALSE NEIGHBOUR: 'it returns false'. Refute it at one input. -/
def graphLessWrong : ChangeSpec := { name := "graphLess", fn := fun _ => fun
  | [d1, d2, d3, d4, d5] => { results := [.lit (.bool false)], args := [d1, d2, d3, d4, d5] }
  | _ => none }
def GraphLessWrongFalsely : Prop := graphLessRow.holds Try.pinned (OpenSpec.ofChange graphLessWrong)

/-- 'catnaplaw3.GraphNumbers': WHATEVER THE INPUT: true; the input reads as it did. -/
def graphNumbersSpec : ChangeSpec := { name := "graphNumbers", fn := fun _ => fun
  | [d1, d2, d3, d4, d5] => { results := [.lit (.bool true)], args := [d1, d2, d3, d4, d5] }
  | _ => none }
def graphNumbersRow : OpenClaim := { program := "ythmdiljjkogghaa", sum := "b9eae3f49a44c7b357299364209a756dd9aa7af589a2d24676895b874db36b70", func := "catnap/catnaplaw3.GraphNumbers", spec := "graphNumbers", apart := false }
def GraphNumbersSaid : Prop := graphNumbersRow.holds Try.pinned (OpenSpec.ofChange graphNumbersSpec)

/-- ITS FALSE NEIGHBOUR: 'it returns false'. Refute it at one input. -/
def graphNumbersWrong : ChangeSpec := { name := "graphNumbers", fn := fun _ => fun
  | [d1, d2, d3, d4, d5] => { results := [.lit (.bool false)], args := [d1, d2, d3, d4, d5] }
  | _ => none }
def GraphNumbersWrongFalsely : Prop := graphNumbersRow.holds Try.pinned (OpenSpec.ofChange graphNumbersWrong)

/-- 'catnaplaw3.GraphChains': WHATEVER THE INPUT: true; the input reads as it did. -/
def graphChainsSpec : ChangeSpec := { name := "graphChains", fn := fun _ => fun
  | [d1, d2] => { results := [.lit (.bool true)], args := [d1, d2] }
  | _ => none }
def graphChainsRow : OpenClaim := { program := "ythmdiljjkogghaa", sum := "b9eae3f49a44c7b357299364209a756dd9aa7af589a2d24676895b874db36b70", func := "catnap/catnaplaw3.GraphChains", spec := "graphChains", apart := false }
def GraphChainsSaid : Prop := graphChainsRow.holds Try.pinned (OpenSpec.ofChange graphChainsSpec)

/-- ITS FALSE NEIGHBOUR: 'it returns false'. Refute it at one input. -/
def graphChainsWrong : ChangeSpec := { name := "graphChains", fn := fun _ => fun
  | [d1, d2] => { results := [.lit (.bool false)], args := [d1, d2] }
  | _ => none }
def GraphChainsWrongFalsely : Prop := graphChainsRow.holds Try.pinned (OpenSpec.ofChange graphChainsWrong)

/-- 'catnaplaw3.GraphTells': WHATEVER THE INPUT: true; the input reads as it did. -/
def graphTellsSpec : ChangeSpec := { name := "graphTells", fn := fun _ => fun
  | [d1, d2] => { results := [.lit (.bool true)], args := [d1, d2] }
  | _ => none }
def graphTellsRow : OpenClaim := { program := "ythmdiljjkogghaa", sum := "b9eae3f49a44c7b357299364209a756dd9aa7af589a2d24676895b874db36b70", func := "catnap/catnaplaw3.GraphTells", spec := "graphTells", apart := false }
def GraphTellsSaid : Prop := graphTellsRow.holds Try.pinned (OpenSpec.ofChange graphTellsSpec)

/-- ITS FALSE NEIGHBOUR: 'it returns false'. Refute it at one input. -/
def graphTellsWrong : ChangeSpec := { name := "graphTells", fn := fun _ => fun
  | [d1, d2] => { results := [.lit (.bool false)], args := [d1, d2] }
  | _ => none }
def GraphTellsWrongFalsely : Prop := graphTellsRow.holds Try.pinned (OpenSpec.ofChange graphTellsWrong)

/-- 'catnaplaw3.GraphSides': WHATEVER THE INPUT: true; the input reads as it did. -/
def graphSidesSpec : ChangeSpec := { name := "graphSides", fn := fun _ => fun
  | [d1, d2, d3, d4, d5] => { results := [.lit (.bool true)], args := [d1, d2, d3, d4, d5] }
  | _ => none }
def graphSidesRow : OpenClaim := { program := "ythmdiljjkogghaa", sum := "b9eae3f49a44c7b357299364209a756dd9aa7af589a2d24676895b874db36b70", func := "catnap/catnaplaw3.GraphSides", spec := "graphSides", apart := false }
def GraphSidesSaid : Prop := graphSidesRow.holds Try.pinned (OpenSpec.ofChange graphSidesSpec)

/-- ITS FALSE NEIGHBOUR: 'it returns false'. Refute it at one input. -/
def graphSidesWrong : ChangeSpec := { name := "graphSides", fn := fun _ => fun
  | [d1, d2, d3, d4, d5] => { results := [.lit (.bool false)], args := [d1, d2, d3, d4, d5] }
  | _ => none }
def GraphSidesWrongFalsely : Prop := graphSidesRow.holds Try.pinned (OpenSpec.ofChange graphSidesWrong)

/- THE SECOND FORM. 'bulk': how many values and letters a reading holds, each counted each time it is reached (what is shared counts as often as it is met; a slice's spare places count too). A statement '..UptoSaid' is the law's where the arguments, and the package variables that the reading takes, are together of bulk at most 1048576: NARROWER than '..Said'. Prove '..Said' where nothing that the law and all that it calls make is longer than what came in: it says more and counts as full. Else prove '..UptoSaid'. A law counts once. -/
mutual
def uptoBulk {H : Type} : DataW H → Nat
  | .lit (.string bytes) => bytes.length + 1
  | .lit _ => 1
  | .nil => 1
  | .ptr d => uptoBulk d + 1
  | .slice elems spare => uptoBulkAll elems + uptoBulkAll spare + 1
  | .agg parts => uptoBulkAll parts + 1
  | .iface _ d => uptoBulk d + 1
  | .map entries => uptoBulkEntries entries + 1
  | .held _ => 1
def uptoBulkAll {H : Type} : List (DataW H) → Nat
  | [] => 0
  | d :: r => uptoBulk d + uptoBulkAll r
def uptoBulkEntries {H : Type} : List (Lit × DataW H) → Nat
  | [] => 0
  | x :: r => uptoBulkEntry x + uptoBulkEntries r
def uptoBulkEntry {H : Type} : Lit × DataW H → Nat
  | (.string bytes, d) => bytes.length + uptoBulk d + 1
  | (_, d) => uptoBulk d + 1
 end
def uptoSmall : (H : Type) → List (DataW H) → Bool := fun _ ds => decide (uptoBulkAll ds ≤ 1048576)
def OpenSpec.upto (s : _root_.Go.ChangeSpec) : _root_.Go.OpenSpec := { _root_.Go.OpenSpec.ofChange s with cond := some uptoSmall }

/-- 'catnaplaw3.GraphOrders', WHERE WHAT IT READS IS OF BULK AT MOST 1048576: true; the input reads as it did. -/
def graphOrdersUptoRow : OpenClaim := { program := "ythmdiljjkogghaa", sum := "b9eae3f49a44c7b357299364209a756dd9aa7af589a2d24676895b874db36b70", func := "catnap/catnaplaw3.GraphOrders", spec := "graphOrders", apart := false, narrowed := true }
def GraphOrdersUptoSaid : Prop := graphOrdersUptoRow.holds Try.pinned (OpenSpec.upto graphOrdersSpec)

/-- 'catnaplaw3.GraphJoins', WHERE WHAT IT READS IS OF BULK AT MOST 1048576: true; the input reads as it did. -/
def graphJoinsUptoRow : OpenClaim := { program := "ythmdiljjkogghaa", sum := "b9eae3f49a44c7b357299364209a756dd9aa7af589a2d24676895b874db36b70", func := "catnap/catnaplaw3.GraphJoins", spec := "graphJoins", apart := false, narrowed := true }
def GraphJoinsUptoSaid : Prop := graphJoinsUptoRow.holds Try.pinned (OpenSpec.upto graphJoinsSpec)

/-- 'catnaplaw3.GraphLess', WHERE WHAT IT READS IS OF BULK AT MOST 1048576: true; the input reads as it did. -/
def graphLessUptoRow : OpenClaim := { program := "ythmdiljjkogghaa", sum := "b9eae3f49a44c7b357299364209a756dd9aa7af589a2d24676895b874db36b70", func := "catnap/catnaplaw3.GraphLess", spec := "graphLess", apart := false, narrowed := true }
def GraphLessUptoSaid : Prop := graphLessUptoRow.holds Try.pinned (OpenSpec.upto graphLessSpec)

/-- 'catnaplaw3.GraphNumbers', WHERE WHAT IT READS IS OF BULK AT MOST 1048576: true; the input reads as it did. -/
def graphNumbersUptoRow : OpenClaim := { program := "ythmdiljjkogghaa", sum := "b9eae3f49a44c7b357299364209a756dd9aa7af589a2d24676895b874db36b70", func := "catnap/catnaplaw3.GraphNumbers", spec := "graphNumbers", apart := false, narrowed := true }
def GraphNumbersUptoSaid : Prop := graphNumbersUptoRow.holds Try.pinned (OpenSpec.upto graphNumbersSpec)

/-- 'catnaplaw3.GraphChains', WHERE WHAT IT READS IS OF BULK AT MOST 1048576: true; the input reads as it did. -/
def graphChainsUptoRow : OpenClaim := { program := "ythmdiljjkogghaa", sum := "b9eae3f49a44c7b357299364209a756dd9aa7af589a2d24676895b874db36b70", func := "catnap/catnaplaw3.GraphChains", spec := "graphChains", apart := false, narrowed := true }
def GraphChainsUptoSaid : Prop := graphChainsUptoRow.holds Try.pinned (OpenSpec.upto graphChainsSpec)

/-- 'catnaplaw3.GraphTells', WHERE WHAT IT READS IS OF BULK AT MOST 1048576: true; the input reads as it did. -/
def graphTellsUptoRow : OpenClaim := { program := "ythmdiljjkogghaa", sum := "b9eae3f49a44c7b357299364209a756dd9aa7af589a2d24676895b874db36b70", func := "catnap/catnaplaw3.GraphTells", spec := "graphTells", apart := false, narrowed := true }
def GraphTellsUptoSaid : Prop := graphTellsUptoRow.holds Try.pinned (OpenSpec.upto graphTellsSpec)

/-- 'catnaplaw3.GraphSides', WHERE WHAT IT READS IS OF BULK AT MOST 1048576: true; the input reads as it did. -/
def graphSidesUptoRow : OpenClaim := { program := "ythmdiljjkogghaa", sum := "b9eae3f49a44c7b357299364209a756dd9aa7af589a2d24676895b874db36b70", func := "catnap/catnaplaw3.GraphSides", spec := "graphSides", apart := false, narrowed := true }
def GraphSidesUptoSaid : Prop := graphSidesUptoRow.holds Try.pinned (OpenSpec.upto graphSidesSpec)

end Rows
end Go.Proofs.Ythmdiljjkogghaa
