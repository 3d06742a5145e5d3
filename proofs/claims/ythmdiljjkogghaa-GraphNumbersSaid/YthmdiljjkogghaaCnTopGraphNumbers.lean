/- However a right graph is made, and its nodes numbered otherwise, GraphNumbers returns true and leaves what came in as it was: no condition. -/
import Derived.Test.YthmdiljjkogghaaCnGNumbers
import Derived.Test.YthmdiljjkogghaaCnTop
import Derived.Test.YthmdiljjkogghaaCnShapes
import Derived.Test.YthmdiljjkogghaaRows
import Derived.WalkKit
import Derived.ProofKit
import Derived.OpenShut
import Derived.ShutString
import Derived.ChangeOld
import Derived.Below
set_option linter.unusedSimpArgs false
set_option linter.unusedVariables false
namespace Go.Proofs.Ythmdiljjkogghaa.Cn
open Go Go.Proofs
open Go.ChangeShapes Go.WideShapes Go.ChangeAt Go.RowKit

theorem law_own : ownKnob Try.prog.godebug = none := by kernel_rfl
theorem law_laidOut : laidOutB Try.prog = true := by kernel_rfl

set_option maxRecDepth 100000 in
theorem law_lifted (os : Os) (started : os.Started) (H : Type) (enc : TypeId × Value → H) :
    ReturnsInHanded {} Try.checked os 6 .any (Rows.graphNumbersSpec.pre6 enc Try.prog Try.f6 Rows.graphNumbersRow.domain false) (Rows.graphNumbersSpec.post enc Try.prog Try.f6 false true false false) := by
  refine returnsInHanded_of_change (C := Try.checked) law_own started (by kernel_rfl) Try.func6
    (ChangeSpec.witness6 (enc := enc) (C := Try.checked) false ⟨#[], #[.int .i64 0, .slice none 0 0, .bool false, .int .i64 0, .int .i64 0], []⟩ 8 (by kernel_rfl) (by kernel_rfl) (by kernel_rfl) (by kernel_rfl)) ?_
  intro W base args ds gs before hval hW _ _
  refine contract_of (ss := [shInt, shInts, shBool, shInt, shInt]) law_laidOut rfl (fun ds hd => ?_) (by kernel_rfl) (by kernel_rfl) rfl (tb := 4) (by kernel_rfl) ?_ W base args ds gs before hval hW
  · match ds, hd with
    | [_, _, _, _, _], _ => rfl
  · rintro al h
    obtain ⟨a0, a1, a2, a3, a4, rfl, h0, h1, h2, h3, h4⟩ := args5 h
    obtain ⟨n, rfl, hn⟩ := argInt h0
    obtain ⟨l, rfl, hr, hl⟩ := argInts h1
    obtain ⟨b, rfl⟩ := argBool h2
    obtain ⟨x, rfl, hx⟩ := argInt h3
    obtain ⟨y, rfl, hy⟩ := argInt h4
    exact numbers_law hn hx hy hl hr

theorem law_over : Rows.graphNumbersRow.holds Try.pinned (OpenSpec.ofChange Rows.graphNumbersSpec) :=
  OpenClaim.holds_of_wide 6 Try.f6 rfl rfl rfl rfl rfl rfl rfl ⟨rfl, rfl, rfl, rfl, rfl⟩ rfl rfl rfl rfl rfl (by kernel_rfl) Try.func6 (by kernel_rfl)
    (of_decide_eq_true (by kernel_rfl)) (by unfold Func.isWrapper; first | (rw [if_pos (by decide +kernel)]; kernel_rfl) | (rw [if_neg (by decide +kernel)]; exact ⟨rfl, rfl⟩))
    (fun os started H enc _ => law_lifted os started H enc)

theorem proved : Rows.GraphNumbersSaid := law_over
#print axioms proved
end Go.Proofs.Ythmdiljjkogghaa.Cn
