/- Descriptions: the small askers. -/
import Derived.Test.YtjamidgdhmjhaaaCnPick
import Derived.Test.YtjamidgdhmjhaaaCnGraph5a
set_option linter.unusedSimpArgs false
set_option linter.unusedVariables false
namespace Go.Proofs.Ytjamidgdhmjhaaa.Cn
open Go Go.Proofs

theorem when_spec {st : ASt} {b : Bool} {e : Int} : ACalls Try.prog F.conf_when [.bool b, .int .i64 e] st fun r st' => r = .int .i64 (if b = true then e else 0) ∧ st' = st := by
  refine calls_of_awp L.conf_when rfl ?_
  cases b <;> simp only [↓Bp, Bq, Bs, ↓aop.eq_28, ↓aop.eq_30, Nat.reduceEqDiff, Nat.reduceAdd, Nat.reduceMul, Nat.reduceSub, Nat.reduceLeDiff, Nat.reduceLT, Int.reduceLT, Int.reduceLE, Int.reduceEq, Int.reduceToNat, Int.reduceAdd, Int.reduceSub, Int.reduceNeg, ↓reduceIte, reduceCtorEq, ↓C.conf_when_W, C.conf_when_B, C.conf_when]

theorem within_spec {st : ASt} {n a b : Int} : ACalls Try.prog F.conf_within [.int .i64 n, .int .i64 a, .int .i64 b] st fun r st' => r = .bool (decide (a ≤ n ∧ n ≤ b)) ∧ st' = st := by
  refine calls_of_awp L.conf_within rfl ?_
  by_cases h1 : a ≤ n
  · by_cases h2 : n ≤ b
    · simp only [↓Bp, Bq, Bs, ↓aop.eq_28, ↓aop.eq_30, Nat.reduceEqDiff, Nat.reduceAdd, Nat.reduceMul, Nat.reduceSub, Nat.reduceLeDiff, Nat.reduceLT, Int.reduceLT, Int.reduceLE, Int.reduceEq, Int.reduceToNat, Int.reduceAdd, Int.reduceSub, Int.reduceNeg, ↓reduceIte, reduceCtorEq, ↓C.conf_within_W, C.conf_within_B, C.conf_within, h1, h2, ge_iff_le]
    · simp only [↓Bp, Bq, Bs, ↓aop.eq_28, ↓aop.eq_30, Nat.reduceEqDiff, Nat.reduceAdd, Nat.reduceMul, Nat.reduceSub, Nat.reduceLeDiff, Nat.reduceLT, Int.reduceLT, Int.reduceLE, Int.reduceEq, Int.reduceToNat, Int.reduceAdd, Int.reduceSub, Int.reduceNeg, ↓reduceIte, reduceCtorEq, ↓C.conf_within_W, C.conf_within_B, C.conf_within, h1, h2, ge_iff_le]
  · simp only [↓Bp, Bq, Bs, ↓aop.eq_28, ↓aop.eq_30, Nat.reduceEqDiff, Nat.reduceAdd, Nat.reduceMul, Nat.reduceSub, Nat.reduceLeDiff, Nat.reduceLT, Int.reduceLT, Int.reduceLE, Int.reduceEq, Int.reduceToNat, Int.reduceAdd, Int.reduceSub, Int.reduceNeg, ↓reduceIte, reduceCtorEq, ↓C.conf_within_W, C.conf_within_B, C.conf_within, h1, ge_iff_le]

/-- The first of some numbers that is not zero. -/
def firstE (e : Nat → Int) : Nat → Int
  | 0 => 0
  | n + 1 => if firstE e n = 0 then e n else firstE e n
theorem firstE_zero {e : Nat → Int} : ∀ {n : Nat}, firstE e n = 0 ↔ ∀ i, i < n → e i = 0
  | 0 => by simp [firstE]
  | n + 1 => by
    have ih := @firstE_zero e n
    rw [firstE]
    constructor
    · intro h i hi
      by_cases h0 : firstE e n = 0
      · rw [if_pos h0] at h
        rcases Nat.lt_or_ge i n with h1 | h1
        · exact ih.1 h0 i h1
        · have : i = n := by omega
          subst this; exact h
      · rw [if_neg h0] at h; exact absurd h h0
    · intro h
      rw [if_pos (ih.2 fun i hi => h i (by omega))]
      exact h n (by omega)
theorem firstE_stop {e : Nat → Int} {k : Nat} (h0 : firstE e k = 0) (hk : e k ≠ 0) : ∀ {n : Nat}, k < n → firstE e n = e k
  | 0, h => absurd h (Nat.not_lt_zero _)
  | n + 1, h => by
    rw [firstE]
    rcases Nat.lt_or_ge k n with h1 | h1
    · have := firstE_stop h0 hk h1
      rw [this, if_neg hk]
    · have : k = n := by omega
      subst this
      rw [if_pos h0]

/-- The first error of some askers. -/
theorem first_spec {st : ASt} {id n : Nat} {fs : List AV} {e : Nat → Int} (hid : st.h id = some (.cells fs)) (hn : fs.length = n) (hs : n ≤ 4294967296)
    (ha : ∀ i, i < n → firstE e i = 0 → ∃ g cap, fs[i]? = some (.fn g cap) ∧ hasBody Try.prog g = true ∧ ACalls Try.prog g cap st fun r st' => r = .int .i64 (e i) ∧ st' = st) :
    ACalls Try.prog F.conf_first [.sl 1 id 0 n] st fun r st' => r = .int .i64 (firstE e n) ∧ st' = st := by
  refine calls_of_awp L.conf_first rfl ?_
  simp only [↓Bp, Bq, Bs, ↓aop.eq_28, ↓aop.eq_30, Nat.reduceEqDiff, Nat.reduceAdd, Nat.reduceMul, Nat.reduceSub, Nat.reduceLeDiff, Nat.reduceLT, Int.reduceLT, Int.reduceLE, Int.reduceEq, Int.reduceToNat, Int.reduceAdd, Int.reduceSub, Int.reduceNeg, ↓reduceIte, reduceCtorEq, ↓C.conf_first_W, C.conf_first_B, C.conf_first]
  refine awp_loopK (fun i : Nat => [(6, .sl 1 id 0 n), (7, .int .i64 n), (8, .int .i64 i)]) (fun i s => s = st ∧ i ≤ n ∧ firstE e i = 0) (fun i => n - i) 0 rfl ⟨rfl, Nat.zero_le _, rfl⟩ ?_
  rintro i s ⟨rfl, hi, h0⟩
  by_cases hil : i < n
  · have hil' : (i : Int) < (n : Nat) := by omega
    have hz : (0:Int) ≤ (i : Int) ∧ (i : Int) < (n : Nat) := by omega
    have hw : IntKind.i64.wrap ((i : Int) + 1) = ((i + 1 : Nat) : Int) := by rw [wrap64] <;> omega
    obtain ⟨g, cap, hg, hb, hc⟩ := ha i hil h0
    simp only [↓Bp, Bq, Bs, ↓aop.eq_28, ↓aop.eq_30, Nat.reduceEqDiff, Nat.reduceAdd, Nat.reduceMul, Nat.reduceSub, Nat.reduceLeDiff, Nat.reduceLT, Int.reduceLT, Int.reduceLE, Int.reduceEq, Int.reduceToNat, Int.reduceAdd, Int.reduceSub, Int.reduceNeg, ↓reduceIte, reduceCtorEq, ↓C.conf_first_W, C.conf_first_B, C.conf_first, hil', hz, hid, hg, hb, Int.toNat_natCast, Nat.mul_one]
    refine hc.mono ?_
    rintro r s2 ⟨rfl, rfl⟩
    by_cases he : e i = 0
    · simp only [↓Bp, Bq, Bs, ↓aop.eq_28, ↓aop.eq_30, Nat.reduceEqDiff, Nat.reduceAdd, Nat.reduceMul, Nat.reduceSub, Nat.reduceLeDiff, Nat.reduceLT, Int.reduceLT, Int.reduceLE, Int.reduceEq, Int.reduceToNat, Int.reduceAdd, Int.reduceSub, Int.reduceNeg, ↓reduceIte, reduceCtorEq, ↓C.conf_first_W, C.conf_first_B, C.conf_first, he, hw]
      exact ⟨i + 1, rfl, ⟨hil, by rw [firstE, if_pos h0, he]⟩, by omega⟩
    · simp only [↓Bp, Bq, Bs, ↓aop.eq_28, ↓aop.eq_30, Nat.reduceEqDiff, Nat.reduceAdd, Nat.reduceMul, Nat.reduceSub, Nat.reduceLeDiff, Nat.reduceLT, Int.reduceLT, Int.reduceLE, Int.reduceEq, Int.reduceToNat, Int.reduceAdd, Int.reduceSub, Int.reduceNeg, ↓reduceIte, reduceCtorEq, ↓C.conf_first_W, C.conf_first_B, C.conf_first, he]
      rw [firstE_stop h0 he hil]
  · have hie : i = n := by omega
    subst hie
    have hil' : ¬ ((i : Nat) : Int) < (i : Nat) := by omega
    simp only [↓Bp, Bq, Bs, ↓aop.eq_28, ↓aop.eq_30, Nat.reduceEqDiff, Nat.reduceAdd, Nat.reduceMul, Nat.reduceSub, Nat.reduceLeDiff, Nat.reduceLT, Int.reduceLT, Int.reduceLE, Int.reduceEq, Int.reduceToNat, Int.reduceAdd, Int.reduceSub, Int.reduceNeg, ↓reduceIte, reduceCtorEq, ↓C.conf_first_W, C.conf_first_B, C.conf_first, hil', h0]

end Go.Proofs.Ytjamidgdhmjhaaa.Cn
