/- Descriptions: what is wrong with one thing. -/
import Derived.Test.YtjamidgdhmjhaaaCnConf2
set_option linter.unusedSimpArgs false
set_option linter.unusedVariables false
namespace Go.Proofs.Ytjamidgdhmjhaaa.Cn
open Go Go.Proofs

theorem each_int_spec {st : ASt} {l : List Int} {g : Nat} {cap : List AV} {e : Nat → Int} (hb : hasBody Try.prog g = true) (hs : l.length ≤ 4294967296)
    (ha : ∀ i (h : i < l.length), firstE e i = 0 → ACalls Try.prog g (.int .i64 l[i] :: cap) st fun r s => r = .int .i64 (e i) ∧ s = st) :
    ACalls Try.prog F.conf_each_int [row l, .fn g cap] st fun r s => r = .int .i64 (firstE e l.length) ∧ s = st := by
  refine calls_of_awp L.conf_each_int rfl ?_
  simp only [↓Bp, Bq, Bs, ↓aop.eq_28, ↓aop.eq_30, Nat.reduceEqDiff, Nat.reduceAdd, Nat.reduceMul, Nat.reduceSub, Nat.reduceLeDiff, Nat.reduceLT, Int.reduceLT, Int.reduceLE, Int.reduceEq, Int.reduceToNat, Int.reduceAdd, Int.reduceSub, Int.reduceNeg, ↓reduceIte, reduceCtorEq, ↓C.conf_each_int_W, C.conf_each_int_B, C.conf_each_int, row]
  refine awp_loopK (fun i : Nat => [(1, .fn g cap), (8, .isl 1 (ints l) l.length), (9, .int .i64 l.length), (10, .int .i64 i)]) (fun i s => s = st ∧ i ≤ l.length ∧ firstE e i = 0) (fun i => l.length - i) 0 rfl ⟨rfl, Nat.zero_le _, rfl⟩ ?_
  rintro i s ⟨rfl, hi, h0⟩
  by_cases hil : i < l.length
  · have hil' : (i : Int) < (l.length : Nat) := by omega
    have hz : (0:Int) ≤ (i : Int) ∧ (i : Int) < (l.length : Nat) := by omega
    have hw : IntKind.i64.wrap ((i : Int) + 1) = ((i + 1 : Nat) : Int) := by rw [wrap64] <;> omega
    have hg : (ints l)[i]? = some (.int .i64 l[i]) := by simp [ints, hil]
    simp only [↓Bp, Bq, Bs, ↓aop.eq_28, ↓aop.eq_30, Nat.reduceEqDiff, Nat.reduceAdd, Nat.reduceMul, Nat.reduceSub, Nat.reduceLeDiff, Nat.reduceLT, Int.reduceLT, Int.reduceLE, Int.reduceEq, Int.reduceToNat, Int.reduceAdd, Int.reduceSub, Int.reduceNeg, ↓reduceIte, reduceCtorEq, ↓C.conf_each_int_W, C.conf_each_int_B, C.conf_each_int, hil', hz, Int.toNat_natCast, Nat.mul_one, hg, hb]
    refine (ha i hil h0).mono ?_
    rintro r s2 ⟨rfl, rfl⟩
    by_cases he : e i = 0
    · simp only [↓Bp, Bq, Bs, ↓aop.eq_28, ↓aop.eq_30, Nat.reduceEqDiff, Nat.reduceAdd, Nat.reduceMul, Nat.reduceSub, Nat.reduceLeDiff, Nat.reduceLT, Int.reduceLT, Int.reduceLE, Int.reduceEq, Int.reduceToNat, Int.reduceAdd, Int.reduceSub, Int.reduceNeg, ↓reduceIte, reduceCtorEq, ↓C.conf_each_int_W, C.conf_each_int_B, C.conf_each_int, he, hw]
      exact ⟨i + 1, rfl, ⟨hil, by rw [firstE, if_pos h0, he]⟩, by omega⟩
    · simp only [↓Bp, Bq, Bs, ↓aop.eq_28, ↓aop.eq_30, Nat.reduceEqDiff, Nat.reduceAdd, Nat.reduceMul, Nat.reduceSub, Nat.reduceLeDiff, Nat.reduceLT, Int.reduceLT, Int.reduceLE, Int.reduceEq, Int.reduceToNat, Int.reduceAdd, Int.reduceSub, Int.reduceNeg, ↓reduceIte, reduceCtorEq, ↓C.conf_each_int_W, C.conf_each_int_B, C.conf_each_int, he]
      rw [firstE_stop h0 he hil]
  · have hie : i = l.length := by omega
    have hil' : ¬ ((i : Nat) : Int) < (l.length : Nat) := by omega
    simp only [↓Bp, Bq, Bs, ↓aop.eq_28, ↓aop.eq_30, Nat.reduceEqDiff, Nat.reduceAdd, Nat.reduceMul, Nat.reduceSub, Nat.reduceLeDiff, Nat.reduceLT, Int.reduceLT, Int.reduceLE, Int.reduceEq, Int.reduceToNat, Int.reduceAdd, Int.reduceSub, Int.reduceNeg, ↓reduceIte, reduceCtorEq, ↓C.conf_each_int_W, C.conf_each_int_B, C.conf_each_int, hil']
    rw [← hie, h0]

/-- What is wrong with a reset line. -/
def rstErr (n : Int) : Int := if 0 ≤ n ∧ n ≤ 20 then 0 else 3
theorem reset_spec {st : ASt} {n : Int} : ACalls Try.prog F.conf_reset [.agg (rstCells n)] st fun r s => r = .int .i64 (rstErr n) ∧ s = st := by
  refine ACalls.gc (Q' := fun r s => r = .int .i64 (rstErr n) ∧ st.le s) (calls_of_awp L.conf_reset rfl ?_) (fun v s ⟨h, hl⟩ => ⟨st, hl, h, rfl⟩)
  simp only [↓Bp, Bq, Bs, ↓aop.eq_28, ↓aop.eq_30, Nat.reduceEqDiff, Nat.reduceAdd, Nat.reduceMul, Nat.reduceSub, Nat.reduceLeDiff, Nat.reduceLT, Int.reduceLT, Int.reduceLE, Int.reduceEq, Int.reduceToNat, Int.reduceAdd, Int.reduceSub, Int.reduceNeg, ↓reduceIte, reduceCtorEq, ↓C.conf_reset_W, C.conf_reset_B, C.conf_reset, rstCells]
  intro id hid
  simp only [↓Bp, Bq, Bs, ↓aop.eq_28, ↓aop.eq_30, Nat.reduceEqDiff, Nat.reduceAdd, Nat.reduceMul, Nat.reduceSub, Nat.reduceLeDiff, Nat.reduceLT, Int.reduceLT, Int.reduceLE, Int.reduceEq, Int.reduceToNat, Int.reduceAdd, Int.reduceSub, Int.reduceNeg, ↓reduceIte, reduceCtorEq, ↓C.conf_reset_W, C.conf_reset_B, C.conf_reset, hid]
  refine within_spec.mono ?_
  rintro r s ⟨rfl, rfl⟩
  simp only [↓Bp, Bq, Bs, ↓aop.eq_28, ↓aop.eq_30, Nat.reduceEqDiff, Nat.reduceAdd, Nat.reduceMul, Nat.reduceSub, Nat.reduceLeDiff, Nat.reduceLT, Int.reduceLT, Int.reduceLE, Int.reduceEq, Int.reduceToNat, Int.reduceAdd, Int.reduceSub, Int.reduceNeg, ↓reduceIte, reduceCtorEq, ↓C.conf_reset_W, C.conf_reset_B, C.conf_reset]
  refine when_spec.mono ?_
  rintro r s ⟨rfl, rfl⟩
  simp only [↓Bp, Bq, Bs, ↓aop.eq_28, ↓aop.eq_30, Nat.reduceEqDiff, Nat.reduceAdd, Nat.reduceMul, Nat.reduceSub, Nat.reduceLeDiff, Nat.reduceLT, Int.reduceLT, Int.reduceLE, Int.reduceEq, Int.reduceToNat, Int.reduceAdd, Int.reduceSub, Int.reduceNeg, ↓reduceIte, reduceCtorEq, ↓C.conf_reset_W, C.conf_reset_B, C.conf_reset]
  refine ⟨?_, ASt.le.new _ _ _⟩
  by_cases h : 0 ≤ n ∧ n ≤ 20
  · simp [rstErr, h]
  · simp only [rstErr, h]
    simp

/-- What is wrong with a domain of so many. -/
def domE (n : Nat) (d : Dom) : Nat → Int
  | 0 => if d.above ≠ -1 ∧ ¬ (0 ≤ d.above ∧ d.above < n) then 4 else 0
  | _ => if 0 ≤ d.delay ∧ d.delay ≤ 20 then 0 else 3
theorem domain_1_spec {st : ASt} {i j : Nat} {d : Dom} {s : Soc} (hi : st.h i = some (.cells d.cells)) (hj : st.h j = some (.cells s.cells)) (hn : s.doms.length ≤ 4294967296) :
    ACalls Try.prog F.conf_domain_1 [.ptr i 0, .ptr j 0] st fun r s' => r = .int .i64 (domE s.doms.length d 0) ∧ s' = st := by
  refine calls_of_awp L.conf_domain_1 rfl ?_
  have hw : IntKind.i64.wrap ((s.doms.length : Int) - 1) = (s.doms.length : Int) - 1 := by rw [wrap64] <;> omega
  by_cases h : d.above = -1
  · simp only [↓Bp, Bq, Bs, ↓aop.eq_28, ↓aop.eq_30, Nat.reduceEqDiff, Nat.reduceAdd, Nat.reduceMul, Nat.reduceSub, Nat.reduceLeDiff, Nat.reduceLT, Int.reduceLT, Int.reduceLE, Int.reduceEq, Int.reduceToNat, Int.reduceAdd, Int.reduceSub, Int.reduceNeg, ↓reduceIte, reduceCtorEq, ↓C.conf_domain_1_W, C.conf_domain_1_B, C.conf_domain_1, hi, hj, Dom.cells, h]
    refine when_spec.mono ?_
    rintro r s ⟨rfl, rfl⟩
    simp only [↓Bp, Bq, Bs, ↓aop.eq_28, ↓aop.eq_30, Nat.reduceEqDiff, Nat.reduceAdd, Nat.reduceMul, Nat.reduceSub, Nat.reduceLeDiff, Nat.reduceLT, Int.reduceLT, Int.reduceLE, Int.reduceEq, Int.reduceToNat, Int.reduceAdd, Int.reduceSub, Int.reduceNeg, ↓reduceIte, reduceCtorEq, ↓C.conf_domain_1_W, C.conf_domain_1_B, C.conf_domain_1]
    simp [domE, h]
  · simp only [↓Bp, Bq, Bs, ↓aop.eq_28, ↓aop.eq_30, Nat.reduceEqDiff, Nat.reduceAdd, Nat.reduceMul, Nat.reduceSub, Nat.reduceLeDiff, Nat.reduceLT, Int.reduceLT, Int.reduceLE, Int.reduceEq, Int.reduceToNat, Int.reduceAdd, Int.reduceSub, Int.reduceNeg, ↓reduceIte, reduceCtorEq, ↓C.conf_domain_1_W, C.conf_domain_1_B, C.conf_domain_1, hi, hj, Dom.cells, Soc.cells, Soc.domV, h, hw]
    refine within_spec.mono ?_
    rintro r s2 ⟨rfl, rfl⟩
    simp only [↓Bp, Bq, Bs, ↓aop.eq_28, ↓aop.eq_30, Nat.reduceEqDiff, Nat.reduceAdd, Nat.reduceMul, Nat.reduceSub, Nat.reduceLeDiff, Nat.reduceLT, Int.reduceLT, Int.reduceLE, Int.reduceEq, Int.reduceToNat, Int.reduceAdd, Int.reduceSub, Int.reduceNeg, ↓reduceIte, reduceCtorEq, ↓C.conf_domain_1_W, C.conf_domain_1_B, C.conf_domain_1]
    refine when_spec.mono ?_
    rintro r s3 ⟨rfl, rfl⟩
    simp only [↓Bp, Bq, Bs, ↓aop.eq_28, ↓aop.eq_30, Nat.reduceEqDiff, Nat.reduceAdd, Nat.reduceMul, Nat.reduceSub, Nat.reduceLeDiff, Nat.reduceLT, Int.reduceLT, Int.reduceLE, Int.reduceEq, Int.reduceToNat, Int.reduceAdd, Int.reduceSub, Int.reduceNeg, ↓reduceIte, reduceCtorEq, ↓C.conf_domain_1_W, C.conf_domain_1_B, C.conf_domain_1]
    have e : (d.above ≤ (s.doms.length : Int) - 1) ↔ d.above < (s.doms.length : Int) := by omega
    by_cases h2 : 0 ≤ d.above ∧ d.above < (s.doms.length : Int)
    · simp [domE, h, h2, e]
    · simp only [domE, h, h2, e]
      simp [h]
theorem domain_2_spec {st : ASt} {i n : Nat} {d : Dom} (hi : st.h i = some (.cells d.cells)) :
    ACalls Try.prog F.conf_domain_2 [.ptr i 0] st fun r s' => r = .int .i64 (domE n d 1) ∧ s' = st := by
  refine calls_of_awp L.conf_domain_2 rfl ?_
  simp only [↓Bp, Bq, Bs, ↓aop.eq_28, ↓aop.eq_30, Nat.reduceEqDiff, Nat.reduceAdd, Nat.reduceMul, Nat.reduceSub, Nat.reduceLeDiff, Nat.reduceLT, Int.reduceLT, Int.reduceLE, Int.reduceEq, Int.reduceToNat, Int.reduceAdd, Int.reduceSub, Int.reduceNeg, ↓reduceIte, reduceCtorEq, ↓C.conf_domain_2_W, C.conf_domain_2_B, C.conf_domain_2, hi, Dom.cells]
  refine within_spec.mono ?_
  rintro r s2 ⟨rfl, rfl⟩
  simp only [↓Bp, Bq, Bs, ↓aop.eq_28, ↓aop.eq_30, Nat.reduceEqDiff, Nat.reduceAdd, Nat.reduceMul, Nat.reduceSub, Nat.reduceLeDiff, Nat.reduceLT, Int.reduceLT, Int.reduceLE, Int.reduceEq, Int.reduceToNat, Int.reduceAdd, Int.reduceSub, Int.reduceNeg, ↓reduceIte, reduceCtorEq, ↓C.conf_domain_2_W, C.conf_domain_2_B, C.conf_domain_2]
  refine when_spec.mono ?_
  rintro r s3 ⟨rfl, rfl⟩
  simp only [↓Bp, Bq, Bs, ↓aop.eq_28, ↓aop.eq_30, Nat.reduceEqDiff, Nat.reduceAdd, Nat.reduceMul, Nat.reduceSub, Nat.reduceLeDiff, Nat.reduceLT, Int.reduceLT, Int.reduceLE, Int.reduceEq, Int.reduceToNat, Int.reduceAdd, Int.reduceSub, Int.reduceNeg, ↓reduceIte, reduceCtorEq, ↓C.conf_domain_2_W, C.conf_domain_2_B, C.conf_domain_2]
  by_cases h2 : 0 ≤ d.delay ∧ d.delay ≤ 20
  · simp [domE, h2]
  · simp only [domE, h2]
    simp
theorem domain_spec {st : ASt} {d : Dom} {s : Soc} (hn : s.doms.length ≤ 4294967296) :
    ACalls Try.prog F.conf_domain [.agg s.cells, .agg d.cells] st fun r s' => r = .int .i64 (firstE (domE s.doms.length d) 2) ∧ s' = st := by
  refine ACalls.gc (Q' := fun r s' => r = .int .i64 (firstE (domE s.doms.length d) 2) ∧ st.le s') (calls_of_awp L.conf_domain rfl ?_) (fun v s ⟨h, hl⟩ => ⟨st, hl, h, rfl⟩)
  simp only [↓Bp, Bq, Bs, ↓aop.eq_28, ↓aop.eq_30, Nat.reduceEqDiff, Nat.reduceAdd, Nat.reduceMul, Nat.reduceSub, Nat.reduceLeDiff, Nat.reduceLT, Int.reduceLT, Int.reduceLE, Int.reduceEq, Int.reduceToNat, Int.reduceAdd, Int.reduceSub, Int.reduceNeg, ↓reduceIte, reduceCtorEq, ↓C.conf_domain_W, C.conf_domain_B, C.conf_domain]
  rintro j hj i ⟨hi, hij⟩ k ⟨⟨hk, hkj⟩, hki⟩
  have h1 : (st.new j (.cells s.cells)).h j = some (.cells s.cells) := ASt.new_self _ hj
  have hi' : (st.new j (.cells s.cells)).h i = none := by rw [ASt.new_ne _ hij]; exact hi
  have h2 := ASt.new_old (id := i) (o := .cells d.cells) h1
  have h3 : ((st.new j (.cells s.cells)).new i (.cells d.cells)).h i = some (.cells d.cells) := ASt.new_self _ hi'
  have hk' : ((st.new j (.cells s.cells)).new i (.cells d.cells)).h k = none := by rw [ASt.new_ne _ hki, ASt.new_ne _ hkj]; exact hk
  refine (first_spec (e := domE s.doms.length d) (ASt.new_self _ hk') rfl (by simp) ?_).mono ?_
  · intro x hx _
    match x, hx with
    | 0, _ => exact ⟨_, _, rfl, by kernel_rfl, domain_1_spec (ASt.new_old h3) (ASt.new_old h2) hn⟩
    | 1, _ => exact ⟨_, _, rfl, by kernel_rfl, domain_2_spec (ASt.new_old h3)⟩
  rintro r s2 ⟨rfl, rfl⟩
  simp only [↓Bp, Bq, Bs, ↓aop.eq_28, ↓aop.eq_30, Nat.reduceEqDiff, Nat.reduceAdd, Nat.reduceMul, Nat.reduceSub, Nat.reduceLeDiff, Nat.reduceLT, Int.reduceLT, Int.reduceLE, Int.reduceEq, Int.reduceToNat, Int.reduceAdd, Int.reduceSub, Int.reduceNeg, ↓reduceIte, reduceCtorEq, ↓C.conf_domain_W, C.conf_domain_B, C.conf_domain]
  exact ((ASt.le.new _ _ _).trans (ASt.le.new _ _ _)).trans (ASt.le.new _ _ _)

end Go.Proofs.Ytjamidgdhmjhaaa.Cn
