/- Whatever the description, ClockErrs returns true and leaves what came in as it was: no condition. -/
import Derived.Test.YtkioaemhdbcfaaaCnKErrs
import Derived.Test.YtkioaemhdbcfaaaCnL2
import Derived.Test.YtkioaemhdbcfaaaRows
import Derived.WalkKit
import Derived.ProofKit
import Derived.OpenShut
import Derived.ShutString
import Derived.ChangeOld
import Derived.Below
set_option linter.unusedSimpArgs false
set_option linter.unusedVariables false
namespace Go.Proofs.Ytkioaemhdbcfaaa.Cn
open Go Go.Proofs
open Go.ChangeShapes Go.WideShapes Go.ChangeAt Go.RowKit

theorem law_own : ownKnob Try.prog.godebug = none := by kernel_rfl
theorem law_laidOut : laidOutB Try.prog = true := by kernel_rfl

set_option maxRecDepth 100000 in
theorem law_lifted (os : Os) (started : os.Started) (H : Type) (enc : TypeId × Value → H) :
    ReturnsInHanded {} Try.checked os 3 .any (Rows.clockErrsSpec.pre6 enc Try.prog Try.f3 Rows.clockErrsRow.domain false) (Rows.clockErrsSpec.post enc Try.prog Try.f3 false true false false) := by
  refine returnsInHanded_of_change (C := Try.checked) law_own started (by kernel_rfl) Try.func3
    (ChangeSpec.witness6 (enc := enc) (C := Try.checked) false ⟨#[], #[.agg #[.slice none 0 0, .slice none 0 0, .slice none 0 0, .slice none 0 0]], []⟩ 8 (by kernel_rfl) (by kernel_rfl) (by kernel_rfl) (by kernel_rfl)) ?_
  intro W base args ds gs before hval hW _ _
  refine contract_of (ss := [shSoc]) law_laidOut rfl (fun ds hd => ?_) (by kernel_rfl) (by kernel_rfl) rfl (tb := 4) (by kernel_rfl) ?_ W base args ds gs before hval hW
  · match ds, hd with
    | [_], _ => rfl
  · rintro al h
    obtain ⟨a0, rfl, h0⟩ := args1 h
    obtain ⟨S, rfl, h1, h2, h3, h4⟩ := argSoc h0
    exact (clockerrs_spec (Nat.le_trans h1 (by decide)) (Nat.le_trans h2 (by decide)) (Nat.le_trans h3 (by decide)) (Nat.le_trans h4 (by decide))).mono fun _ _ h => h.1

theorem law_over : Rows.clockErrsRow.holds Try.pinned (OpenSpec.ofChange Rows.clockErrsSpec) :=
  OpenClaim.holds_of_wide 3 Try.f3 rfl rfl rfl rfl rfl rfl rfl ⟨rfl, rfl, rfl, rfl, rfl⟩ rfl rfl rfl rfl rfl (by kernel_rfl) Try.func3 (by kernel_rfl)
    (of_decide_eq_true (by kernel_rfl)) (by unfold Func.isWrapper; first | (rw [if_pos (by decide +kernel)]; kernel_rfl) | (rw [if_neg (by decide +kernel)]; exact ⟨rfl, rfl⟩))
    (fun os started H enc _ => law_lifted os started H enc)

theorem proved : Rows.ClockErrsSaid := law_over
#print axioms proved
end Go.Proofs.Ytkioaemhdbcfaaa.Cn
