/- Rows of integers, compared by the statements. -/
import Derived.Test.YtgfpnfnjnakoaaaCnPick
set_option linter.unusedSimpArgs false
set_option linter.unusedVariables false
namespace Go.Proofs.Ytgfpnfnjnakoaaa.Cn
open Go Go.Proofs

theorem same_spec {st : ASt} {a b : List Int} (hl : a.length ≤ 9223372036854775807) : ACalls Try.prog F.q4 [.isl 1 (ints a) a.length, .isl 1 (ints b) b.length] st fun r st' => r = .bool (decide (a = b)) ∧ st' = st := by
  refine calls_of_awp L.q4 rfl ?_
  by_cases hab : a.length = b.length
  rotate_left
  · have hab' : ¬ ((a.length : Nat) : Int) = (b.length : Nat) := by omega
    have hne : ¬ a = b := by rintro rfl; exact hab rfl
    simp only [↓Bp, Bq, Bs, ↓aop.eq_28, ↓aop.eq_30, Nat.reduceEqDiff, Nat.reduceAdd, Nat.reduceMul, Nat.reduceSub, Nat.reduceLeDiff, Nat.reduceLT, Int.reduceLT, Int.reduceLE, Int.reduceEq, Int.reduceToNat, Int.reduceAdd, Int.reduceSub, Int.reduceNeg, ↓reduceIte, reduceCtorEq, ↓C.q4_W, C.q4_B, C.q4, hab', hne]
  have hab' : ((a.length : Nat) : Int) = (b.length : Nat) := by omega
  simp only [↓Bp, Bq, Bs, ↓aop.eq_28, ↓aop.eq_30, Nat.reduceEqDiff, Nat.reduceAdd, Nat.reduceMul, Nat.reduceSub, Nat.reduceLeDiff, Nat.reduceLT, Int.reduceLT, Int.reduceLE, Int.reduceEq, Int.reduceToNat, Int.reduceAdd, Int.reduceSub, Int.reduceNeg, ↓reduceIte, reduceCtorEq, ↓C.q4_W, C.q4_B, C.q4, hab']
  refine awp_loopK (fun k : Nat => [(0, .isl 1 (ints a) a.length), (1, .isl 1 (ints b) b.length), (5, .int .i64 k)]) (fun k s => k ≤ a.length ∧ s = st ∧ a.take k = b.take k) (fun k => a.length - k) 0 rfl ⟨Nat.zero_le _, rfl, by simp⟩ ?_
  rintro k s ⟨hk, rfl, ht⟩
  by_cases hlt : k < a.length
  · have hlt' : (k : Int) < (a.length : Nat) := by omega
    have hltb : (k : Int) < (b.length : Nat) := by omega
    have hkb : k < b.length := by omega
    have hz : (0:Int) ≤ (k : Int) ∧ (k : Int) < (a.length : Nat) := by omega
    have hzb : (0:Int) ≤ (k : Int) ∧ (k : Int) < (b.length : Nat) := by omega
    have hw := wsucc hlt hl
    by_cases he : a[k] = b[k]
    · simp only [↓Bp, Bq, Bs, ↓aop.eq_28, ↓aop.eq_30, Nat.reduceEqDiff, Nat.reduceAdd, Nat.reduceMul, Nat.reduceSub, Nat.reduceLeDiff, Nat.reduceLT, Int.reduceLT, Int.reduceLE, Int.reduceEq, Int.reduceToNat, Int.reduceAdd, Int.reduceSub, Int.reduceNeg, ↓reduceIte, reduceCtorEq, ↓C.q4_W, C.q4_B, C.q4, hlt', hltb, hz, hzb, Int.toNat_natCast, Nat.mul_one, ints_get hlt, ints_get hkb, he, hw]
      refine ⟨k + 1, rfl, ⟨hlt, ?_⟩, by omega⟩
      rw [List.take_succ_eq_append_getElem hlt, List.take_succ_eq_append_getElem hkb, ht, he]
    · have hne : ¬ a = b := by rintro rfl; exact he rfl
      simp only [↓Bp, Bq, Bs, ↓aop.eq_28, ↓aop.eq_30, Nat.reduceEqDiff, Nat.reduceAdd, Nat.reduceMul, Nat.reduceSub, Nat.reduceLeDiff, Nat.reduceLT, Int.reduceLT, Int.reduceLE, Int.reduceEq, Int.reduceToNat, Int.reduceAdd, Int.reduceSub, Int.reduceNeg, ↓reduceIte, reduceCtorEq, ↓C.q4_W, C.q4_B, C.q4, hlt', hltb, hz, hzb, Int.toNat_natCast, Nat.mul_one, ints_get hlt, ints_get hkb, he, hne]
  · have hke : k = a.length := by omega
    subst hke
    have hlt' : ¬ ((a.length : Nat) : Int) < (a.length : Nat) := by omega
    have hltb : ¬ ((a.length : Nat) : Int) < (b.length : Nat) := by omega
    have hab2 : a = b := by
      rw [List.take_length, hab, List.take_length] at ht
      exact ht
    subst hab2
    simp only [↓Bp, Bq, Bs, ↓aop.eq_28, ↓aop.eq_30, Nat.reduceEqDiff, Nat.reduceAdd, Nat.reduceMul, Nat.reduceSub, Nat.reduceLeDiff, Nat.reduceLT, Int.reduceLT, Int.reduceLE, Int.reduceEq, Int.reduceToNat, Int.reduceAdd, Int.reduceSub, Int.reduceNeg, ↓reduceIte, reduceCtorEq, ↓C.q4_W, C.q4_B, C.q4, hlt']
end Go.Proofs.Ytgfpnfnjnakoaaa.Cn
