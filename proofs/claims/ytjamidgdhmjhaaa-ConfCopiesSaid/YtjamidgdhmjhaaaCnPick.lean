/- Which of n things a number speaks of. -/
import Derived.Test.YtjamidgdhmjhaaaCnLk
import Derived.Test.YtjamidgdhmjhaaaCnL2
import Derived.Test.YtjamidgdhmjhaaaCnL3
set_option linter.unusedSimpArgs false
set_option linter.unusedVariables false
namespace Go.Proofs.Ytjamidgdhmjhaaa.Cn
open Go Go.Proofs

theorem pick_spec {st : ASt} {c : Int} {n : Nat} (hc : -9223372036854775808 ≤ c ∧ c ≤ 9223372036854775807) (hn : 0 < n) : ACalls Try.prog F.catnaplaw4_pick [.int .i64 c, .int .i64 n] st fun r st' => r = .int .i64 (pickI c n) ∧ st' = st := by
  refine calls_of_awp L.catnaplaw4_pick rfl ?_
  have hn0 : ¬ ((n : Nat) : Int) = 0 := by omega
  by_cases h0 : c < 0
  · have w1 : IntKind.i64.wrap (c + 1) = c + 1 := by rw [wrap64] <;> omega
    have w2 : IntKind.i64.wrap (0 - (c + 1)) = -(c + 1) := by rw [wrap64] <;> omega
    simp only [↓Bp, Bq, Bs, ↓aop.eq_28, ↓aop.eq_30, Nat.reduceEqDiff, Nat.reduceAdd, Nat.reduceMul, Nat.reduceSub, Nat.reduceLeDiff, Nat.reduceLT, Int.reduceLT, Int.reduceLE, Int.reduceEq, Int.reduceToNat, Int.reduceAdd, Int.reduceSub, Int.reduceNeg, ↓reduceIte, reduceCtorEq, ↓C.catnaplaw4_pick_W, C.catnaplaw4_pick_B, C.catnaplaw4_pick, h0, w1, w2, hn0]
    congr 1
    rw [pickI, if_pos h0, Int.tmod_eq_emod_of_nonneg (by omega), Int.natCast_emod, Int.toNat_of_nonneg (by omega)]
  · simp only [↓Bp, Bq, Bs, ↓aop.eq_28, ↓aop.eq_30, Nat.reduceEqDiff, Nat.reduceAdd, Nat.reduceMul, Nat.reduceSub, Nat.reduceLeDiff, Nat.reduceLT, Int.reduceLT, Int.reduceLE, Int.reduceEq, Int.reduceToNat, Int.reduceAdd, Int.reduceSub, Int.reduceNeg, ↓reduceIte, reduceCtorEq, ↓C.catnaplaw4_pick_W, C.catnaplaw4_pick_B, C.catnaplaw4_pick, h0, hn0]
    congr 1
    rw [pickI, if_neg h0, Int.tmod_eq_emod_of_nonneg (by omega), Int.natCast_emod, Int.toNat_of_nonneg (by omega)]

end Go.Proofs.Ytjamidgdhmjhaaa.Cn
