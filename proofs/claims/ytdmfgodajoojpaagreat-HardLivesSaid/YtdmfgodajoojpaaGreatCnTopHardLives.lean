/- Whatever numbers a chip is made of, whatever is done with it, HardLives returns true and leaves what came in as it was: no condition. -/
import Derived.Test.YtdmfgodajoojpaaGreatCnS4
import Derived.Test.YtdmfgodajoojpaaGreatCnL2
import Derived.Test.YtdmfgodajoojpaaGreatRows
import Derived.WalkKit
import Derived.ProofKit
import Derived.OpenShut
import Derived.ShutString
import Derived.ChangeOld
import Derived.Below
set_option linter.unusedSimpArgs false
set_option linter.unusedVariables false
namespace Go.Proofs.YtdmfgodajoojpaaGreat.Cn
open Go Go.Proofs
open Go.ChangeShapes Go.WideShapes Go.ChangeAt Go.RowKit

theorem law_own : ownKnob Tryz.prog.godebug = none := by kernel_rfl
theorem law_laidOut : laidOutB Tryz.prog = true := by kernel_rfl

set_option maxRecDepth 100000 in
theorem law_lifted (os : Os) (started : os.Started) (H : Type) (enc : TypeId × Value → H) :
    ReturnsInHanded {} Tryz.checked os 3 .any (Rows.hardLivesSpec.pre6 enc Tryz.prog Tryz.f3 Rows.hardLivesRow.domain false) (Rows.hardLivesSpec.post enc Tryz.prog Tryz.f3 false true false false) := by
  refine returnsInHanded_of_change (C := Tryz.checked) law_own started (by kernel_rfl) Tryz.func3
    (ChangeSpec.witness6 (enc := enc) (C := Tryz.checked) false ⟨#[], #[.slice none 0 0, .slice none 0 0], []⟩ 8 (by kernel_rfl) (by kernel_rfl) (by kernel_rfl) (by kernel_rfl)) ?_
  intro W base args ds gs before hval hW _ _
  refine contract_of (ss := [shInts, shActs]) law_laidOut rfl (fun ds hd => ?_) (by kernel_rfl) (by kernel_rfl) rfl (tb := 4) (by kernel_rfl) ?_ W base args ds gs before hval hW (fun p hp => absurd hp (by simp [globTab]))
  · match ds, hd with
    | [_, _], _ => rfl
  · rintro al h
    obtain ⟨a0, a1, rfl, h0, h1⟩ := args2 h
    obtain ⟨l, rfl, h3, h4⟩ := argInts h0
    obtain ⟨A, rfl, h5, h6⟩ := argActs h1
    exact hardlives_spec h3 (Nat.le_trans h4 (by decide)) h5 (Nat.le_trans h6 (by decide))

theorem law_over : Rows.hardLivesRow.holds Tryz.pinned (OpenSpec.ofChange Rows.hardLivesSpec) :=
  OpenClaim.holds_of_wide 3 Tryz.f3 rfl rfl rfl rfl rfl rfl rfl ⟨rfl, rfl, rfl, rfl, rfl⟩ rfl rfl rfl rfl rfl (by kernel_rfl) Tryz.func3 (by kernel_rfl)
    (of_decide_eq_true (by kernel_rfl)) (by unfold Func.isWrapper; first | (rw [if_pos (by decide +kernel)]; kernel_rfl) | (rw [if_neg (by decide +kernel)]; exact ⟨rfl, rfl⟩))
    (fun os started H enc _ => law_lifted os started H enc)

theorem proved : Rows.HardLivesSaid := law_over
#print axioms proved
end Go.Proofs.YtdmfgodajoojpaaGreat.Cn
