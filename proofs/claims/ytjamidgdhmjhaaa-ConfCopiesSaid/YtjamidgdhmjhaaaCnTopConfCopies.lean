/- Whatever numbers a chip is made of, whatever is changed in its copy, ConfCopies returns true and leaves what came in as it was: no condition. -/
import Derived.Test.YtjamidgdhmjhaaaCnConfCp
import Derived.Test.YtjamidgdhmjhaaaCnL2
import Derived.Test.YtjamidgdhmjhaaaRows
import Derived.WalkKit
import Derived.ProofKit
import Derived.OpenShut
import Derived.ShutString
import Derived.ChangeOld
import Derived.Below
set_option linter.unusedSimpArgs false
set_option linter.unusedVariables false
namespace Go.Proofs.Ytjamidgdhmjhaaa.Cn
open Go Go.Proofs
open Go.ChangeShapes Go.WideShapes Go.ChangeAt Go.RowKit

theorem law_own : ownKnob Try.prog.godebug = none := by kernel_rfl
theorem law_laidOut : laidOutB Try.prog = true := by kernel_rfl

set_option maxRecDepth 100000 in
theorem law_lifted (os : Os) (started : os.Started) (H : Type) (enc : TypeId × Value → H) :
    ReturnsInHanded {} Try.checked os 7 .any (Rows.confCopiesSpec.pre6 enc Try.prog Try.f7 Rows.confCopiesRow.domain false) (Rows.confCopiesSpec.post enc Try.prog Try.f7 false true false false) := by
  refine returnsInHanded_of_change (C := Try.checked) law_own started (by kernel_rfl) Try.func7
    (ChangeSpec.witness6 (enc := enc) (C := Try.checked) false ⟨#[], #[.slice none 0 0, .int .i64 0], []⟩ 8 (by kernel_rfl) (by kernel_rfl) (by kernel_rfl) (by kernel_rfl)) ?_
  intro W base args ds gs before hval hW _ _
  refine contract_of (ss := [shInts, shInt]) law_laidOut rfl (fun ds hd => ?_) (by kernel_rfl) (by kernel_rfl) rfl (tb := 4) (by kernel_rfl) ?_ W base args ds gs before hval hW (fun p hp => absurd hp (by simp [globTab]))
  · match ds, hd with
    | [_, _], _ => rfl
  · rintro al h
    obtain ⟨a0, a1, rfl, h0, h1⟩ := args2 h
    obtain ⟨l, rfl, h3, h4⟩ := argInts h0
    obtain ⟨x, rfl, hx⟩ := argInt h1
    exact confcopies_spec h3 (Nat.le_trans h4 (by decide)) hx

theorem law_over : Rows.confCopiesRow.holds Try.pinned (OpenSpec.ofChange Rows.confCopiesSpec) :=
  OpenClaim.holds_of_wide 7 Try.f7 rfl rfl rfl rfl rfl rfl rfl ⟨rfl, rfl, rfl, rfl, rfl⟩ rfl rfl rfl rfl rfl (by kernel_rfl) Try.func7 (by kernel_rfl)
    (of_decide_eq_true (by kernel_rfl)) (by unfold Func.isWrapper; first | (rw [if_pos (by decide +kernel)]; kernel_rfl) | (rw [if_neg (by decide +kernel)]; exact ⟨rfl, rfl⟩))
    (fun os started H enc _ => law_lifted os started H enc)

theorem proved : Rows.ConfCopiesSaid := law_over
#print axioms proved
end Go.Proofs.Ytjamidgdhmjhaaa.Cn
