/- Whatever numbers a chip is made of, whatever is done with its clocks, whichever clock, ClockKeeps returns true and leaves what came in as it was: no condition. -/
import Derived.Test.YtkioaemhdbcfaaaCnKKeepsM
import Derived.Test.YtkioaemhdbcfaaaCnL2
import Derived.Test.YtkioaemhdbcfaaaRows
import Derived.WalkKit
import Derived.ProofKit
import Derived.OpenShut
import Derived.ShutString
import Derived.ChangeOld
import Derived.Below
set_option linter.unusedSimpArgs false
set_option linter.unusedVariables false
namespace Go.Proofs.Ytkioaemhdbcfaaa.Cn
open Go Go.Proofs
open Go.ChangeShapes Go.WideShapes Go.ChangeAt Go.RowKit

theorem law_own : ownKnob Try.prog.godebug = none := by kernel_rfl
theorem law_laidOut : laidOutB Try.prog = true := by kernel_rfl

set_option maxRecDepth 100000 in
theorem law_lifted (os : Os) (started : os.Started) (H : Type) (enc : TypeId × Value → H) :
    ReturnsInHanded {} Try.checked os 6 .any (Rows.clockKeepsSpec.pre6 enc Try.prog Try.f6 Rows.clockKeepsRow.domain false) (Rows.clockKeepsSpec.post enc Try.prog Try.f6 false true false false) := by
  refine returnsInHanded_of_change (C := Try.checked) law_own started (by kernel_rfl) Try.func6
    (ChangeSpec.witness6 (enc := enc) (C := Try.checked) false ⟨#[], #[.slice none 0 0, .slice none 0 0, .int .i64 0], []⟩ 8 (by kernel_rfl) (by kernel_rfl) (by kernel_rfl) (by kernel_rfl)) ?_
  intro W base args ds gs before hval hW _ _
  refine contract_of (ss := [shInts, shTrips, shInt]) law_laidOut rfl (fun ds hd => ?_) (by kernel_rfl) (by kernel_rfl) rfl (tb := 4) (by kernel_rfl) ?_ W base args ds gs before hval hW
  · match ds, hd with
    | [_, _, _], _ => rfl
  · rintro al h
    obtain ⟨a0, a1, a2, rfl, h0, h1, h2⟩ := args3 h
    obtain ⟨l, rfl, h3, h4⟩ := argInts h0
    obtain ⟨a, rfl, h5, h6⟩ := argTrips h1
    obtain ⟨x, rfl, hx⟩ := argInt h2
    exact (clockkeeps_spec h3 (Nat.le_trans h4 (by decide)) h5 (Nat.le_trans h6 (by decide)) hx).mono fun _ _ h => h.1

theorem law_over : Rows.clockKeepsRow.holds Try.pinned (OpenSpec.ofChange Rows.clockKeepsSpec) :=
  OpenClaim.holds_of_wide 6 Try.f6 rfl rfl rfl rfl rfl rfl rfl ⟨rfl, rfl, rfl, rfl, rfl⟩ rfl rfl rfl rfl rfl (by kernel_rfl) Try.func6 (by kernel_rfl)
    (of_decide_eq_true (by kernel_rfl)) (by unfold Func.isWrapper; first | (rw [if_pos (by decide +kernel)]; kernel_rfl) | (rw [if_neg (by decide +kernel)]; exact ⟨rfl, rfl⟩))
    (fun os started H enc _ => law_lifted os started H enc)

theorem proved : Rows.ClockKeepsSaid := law_over
#print axioms proved
end Go.Proofs.Ytkioaemhdbcfaaa.Cn
