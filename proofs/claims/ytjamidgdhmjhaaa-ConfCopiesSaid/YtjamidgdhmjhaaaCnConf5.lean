/- Descriptions: what is wrong with a clock. -/
import Derived.Test.YtjamidgdhmjhaaaCnConf4
set_option linter.unusedSimpArgs false
set_option linter.unusedVariables false
namespace Go.Proofs.Ytjamidgdhmjhaaa.Cn
open Go Go.Proofs

/-- Has a clock as many sources as it must? -/
def Clk.shape (c : Clk) : Bool :=
  if c.kind = 111 then decide (c.src.length = 0)
  else if c.kind = 112 ∨ c.kind = 100 ∨ c.kind = 103 then decide (c.src.length = 1)
  else if c.kind = 109 then decide (1 ≤ c.src.length ∧ c.src.length ≤ 4)
  else false
theorem shape_spec {st : ASt} {c : Clk} : ACalls Try.prog F.conf_shape [.agg c.cells] st fun r s => r = .bool c.shape ∧ s = st := by
  refine ACalls.gc (Q' := fun r s => r = .bool c.shape ∧ st.le s) (calls_of_awp L.conf_shape rfl ?_) (fun v s ⟨h, hl⟩ => ⟨st, hl, h, rfl⟩)
  have e0 : ((c.src.length : Int) = 0) ↔ c.src.length = 0 := by omega
  have e1 : ((c.src.length : Int) = 1) ↔ c.src.length = 1 := by omega
  have e2 : ((1 : Int) ≤ (c.src.length : Int) ∧ (c.src.length : Int) ≤ 4) ↔ (1 ≤ c.src.length ∧ c.src.length ≤ 4) := by omega
  unfold Clk.shape
  by_cases k1 : c.kind = 111
  · simp only [↓Bp, Bq, Bs, ↓aop.eq_28, ↓aop.eq_30, Nat.reduceEqDiff, Nat.reduceAdd, Nat.reduceMul, Nat.reduceSub, Nat.reduceLeDiff, Nat.reduceLT, Int.reduceLT, Int.reduceLE, Int.reduceEq, Int.reduceToNat, Int.reduceAdd, Int.reduceSub, Int.reduceNeg, ↓reduceIte, reduceCtorEq, ↓C.conf_shape_W, C.conf_shape_B, C.conf_shape, Clk.cells, row]
    intro id hid
    simp only [↓Bp, Bq, Bs, ↓aop.eq_28, ↓aop.eq_30, Nat.reduceEqDiff, Nat.reduceAdd, Nat.reduceMul, Nat.reduceSub, Nat.reduceLeDiff, Nat.reduceLT, Int.reduceLT, Int.reduceLE, Int.reduceEq, Int.reduceToNat, Int.reduceAdd, Int.reduceSub, Int.reduceNeg, ↓reduceIte, reduceCtorEq, ↓C.conf_shape_W, C.conf_shape_B, C.conf_shape, hid, k1, e0]
    exact ASt.le.new _ _ _
  by_cases k2 : c.kind = 112
  · simp only [↓Bp, Bq, Bs, ↓aop.eq_28, ↓aop.eq_30, Nat.reduceEqDiff, Nat.reduceAdd, Nat.reduceMul, Nat.reduceSub, Nat.reduceLeDiff, Nat.reduceLT, Int.reduceLT, Int.reduceLE, Int.reduceEq, Int.reduceToNat, Int.reduceAdd, Int.reduceSub, Int.reduceNeg, ↓reduceIte, reduceCtorEq, ↓C.conf_shape_W, C.conf_shape_B, C.conf_shape, Clk.cells, row]
    intro id hid
    simp only [↓Bp, Bq, Bs, ↓aop.eq_28, ↓aop.eq_30, Nat.reduceEqDiff, Nat.reduceAdd, Nat.reduceMul, Nat.reduceSub, Nat.reduceLeDiff, Nat.reduceLT, Int.reduceLT, Int.reduceLE, Int.reduceEq, Int.reduceToNat, Int.reduceAdd, Int.reduceSub, Int.reduceNeg, ↓reduceIte, reduceCtorEq, ↓C.conf_shape_W, C.conf_shape_B, C.conf_shape, hid, k1, k2, e1, true_or]
    exact ASt.le.new _ _ _
  by_cases k3 : c.kind = 100
  · simp only [↓Bp, Bq, Bs, ↓aop.eq_28, ↓aop.eq_30, Nat.reduceEqDiff, Nat.reduceAdd, Nat.reduceMul, Nat.reduceSub, Nat.reduceLeDiff, Nat.reduceLT, Int.reduceLT, Int.reduceLE, Int.reduceEq, Int.reduceToNat, Int.reduceAdd, Int.reduceSub, Int.reduceNeg, ↓reduceIte, reduceCtorEq, ↓C.conf_shape_W, C.conf_shape_B, C.conf_shape, Clk.cells, row]
    intro id hid
    simp only [↓Bp, Bq, Bs, ↓aop.eq_28, ↓aop.eq_30, Nat.reduceEqDiff, Nat.reduceAdd, Nat.reduceMul, Nat.reduceSub, Nat.reduceLeDiff, Nat.reduceLT, Int.reduceLT, Int.reduceLE, Int.reduceEq, Int.reduceToNat, Int.reduceAdd, Int.reduceSub, Int.reduceNeg, ↓reduceIte, reduceCtorEq, ↓C.conf_shape_W, C.conf_shape_B, C.conf_shape, hid, k1, k2, k3, e1, true_or, false_or]
    exact ASt.le.new _ _ _
  by_cases k4 : c.kind = 103
  · simp only [↓Bp, Bq, Bs, ↓aop.eq_28, ↓aop.eq_30, Nat.reduceEqDiff, Nat.reduceAdd, Nat.reduceMul, Nat.reduceSub, Nat.reduceLeDiff, Nat.reduceLT, Int.reduceLT, Int.reduceLE, Int.reduceEq, Int.reduceToNat, Int.reduceAdd, Int.reduceSub, Int.reduceNeg, ↓reduceIte, reduceCtorEq, ↓C.conf_shape_W, C.conf_shape_B, C.conf_shape, Clk.cells, row]
    intro id hid
    simp only [↓Bp, Bq, Bs, ↓aop.eq_28, ↓aop.eq_30, Nat.reduceEqDiff, Nat.reduceAdd, Nat.reduceMul, Nat.reduceSub, Nat.reduceLeDiff, Nat.reduceLT, Int.reduceLT, Int.reduceLE, Int.reduceEq, Int.reduceToNat, Int.reduceAdd, Int.reduceSub, Int.reduceNeg, ↓reduceIte, reduceCtorEq, ↓C.conf_shape_W, C.conf_shape_B, C.conf_shape, hid, k1, k2, k3, k4, e1, true_or, false_or]
    exact ASt.le.new _ _ _
  by_cases k5 : c.kind = 109
  · simp only [↓Bp, Bq, Bs, ↓aop.eq_28, ↓aop.eq_30, Nat.reduceEqDiff, Nat.reduceAdd, Nat.reduceMul, Nat.reduceSub, Nat.reduceLeDiff, Nat.reduceLT, Int.reduceLT, Int.reduceLE, Int.reduceEq, Int.reduceToNat, Int.reduceAdd, Int.reduceSub, Int.reduceNeg, ↓reduceIte, reduceCtorEq, ↓C.conf_shape_W, C.conf_shape_B, C.conf_shape, Clk.cells, row]
    intro id hid
    simp only [↓Bp, Bq, Bs, ↓aop.eq_28, ↓aop.eq_30, Nat.reduceEqDiff, Nat.reduceAdd, Nat.reduceMul, Nat.reduceSub, Nat.reduceLeDiff, Nat.reduceLT, Int.reduceLT, Int.reduceLE, Int.reduceEq, Int.reduceToNat, Int.reduceAdd, Int.reduceSub, Int.reduceNeg, ↓reduceIte, reduceCtorEq, ↓C.conf_shape_W, C.conf_shape_B, C.conf_shape, hid, k1, k2, k3, k4, k5]
    refine within_spec.mono ?_
    rintro r s2 ⟨rfl, rfl⟩
    simp only [↓Bp, Bq, Bs, ↓aop.eq_28, ↓aop.eq_30, Nat.reduceEqDiff, Nat.reduceAdd, Nat.reduceMul, Nat.reduceSub, Nat.reduceLeDiff, Nat.reduceLT, Int.reduceLT, Int.reduceLE, Int.reduceEq, Int.reduceToNat, Int.reduceAdd, Int.reduceSub, Int.reduceNeg, ↓reduceIte, reduceCtorEq, ↓C.conf_shape_W, C.conf_shape_B, C.conf_shape, e2, k1, k2, k3, k4, k5, false_or]
    exact ASt.le.new _ _ _
  · simp only [↓Bp, Bq, Bs, ↓aop.eq_28, ↓aop.eq_30, Nat.reduceEqDiff, Nat.reduceAdd, Nat.reduceMul, Nat.reduceSub, Nat.reduceLeDiff, Nat.reduceLT, Int.reduceLT, Int.reduceLE, Int.reduceEq, Int.reduceToNat, Int.reduceAdd, Int.reduceSub, Int.reduceNeg, ↓reduceIte, reduceCtorEq, ↓C.conf_shape_W, C.conf_shape_B, C.conf_shape, Clk.cells, row]
    intro id hid
    simp only [↓Bp, Bq, Bs, ↓aop.eq_28, ↓aop.eq_30, Nat.reduceEqDiff, Nat.reduceAdd, Nat.reduceMul, Nat.reduceSub, Nat.reduceLeDiff, Nat.reduceLT, Int.reduceLT, Int.reduceLE, Int.reduceEq, Int.reduceToNat, Int.reduceAdd, Int.reduceSub, Int.reduceNeg, ↓reduceIte, reduceCtorEq, ↓C.conf_shape_W, C.conf_shape_B, C.conf_shape, hid, k1, k2, k3, k4, k5, false_or]
    exact ASt.le.new _ _ _

/-- Are the numbers of a clock that its kind has a use for right? -/
def Clk.nums (c : Clk) : Bool :=
  if c.kind = 111 then decide (1 ≤ c.rate ∧ c.rate ≤ 1099511627776)
  else if c.kind = 112 then decide ((1 ≤ c.mul ∧ c.mul ≤ 1000) ∧ (1 ≤ c.div ∧ c.div ≤ 1000) ∧ (0 ≤ c.lock ∧ c.lock ≤ 20))
  else if c.kind = 100 then decide (1 ≤ c.div ∧ c.div ≤ 1000)
  else true
theorem conf_numbers_spec {st : ASt} {c : Clk} : ACalls Try.prog F.conf_numbers [.agg c.cells] st fun r s => r = .bool c.nums ∧ s = st := by
  refine ACalls.gc (Q' := fun r s => r = .bool c.nums ∧ st.le s) (calls_of_awp L.conf_numbers rfl ?_) (fun v s ⟨h, hl⟩ => ⟨st, hl, h, rfl⟩)
  unfold Clk.nums
  simp only [↓Bp, Bq, Bs, ↓aop.eq_28, ↓aop.eq_30, Nat.reduceEqDiff, Nat.reduceAdd, Nat.reduceMul, Nat.reduceSub, Nat.reduceLeDiff, Nat.reduceLT, Int.reduceLT, Int.reduceLE, Int.reduceEq, Int.reduceToNat, Int.reduceAdd, Int.reduceSub, Int.reduceNeg, ↓reduceIte, reduceCtorEq, ↓C.conf_numbers_W, C.conf_numbers_B, C.conf_numbers, Clk.cells, row]
  intro id hid
  by_cases k1 : c.kind = 111
  · by_cases r1 : 1 ≤ c.rate
    · simp only [↓Bp, Bq, Bs, ↓aop.eq_28, ↓aop.eq_30, Nat.reduceEqDiff, Nat.reduceAdd, Nat.reduceMul, Nat.reduceSub, Nat.reduceLeDiff, Nat.reduceLT, Int.reduceLT, Int.reduceLE, Int.reduceEq, Int.reduceToNat, Int.reduceAdd, Int.reduceSub, Int.reduceNeg, ↓reduceIte, reduceCtorEq, ↓C.conf_numbers_W, C.conf_numbers_B, C.conf_numbers, hid, k1, r1, ge_iff_le]
      exact ASt.le.new _ _ _
    · simp only [↓Bp, Bq, Bs, ↓aop.eq_28, ↓aop.eq_30, Nat.reduceEqDiff, Nat.reduceAdd, Nat.reduceMul, Nat.reduceSub, Nat.reduceLeDiff, Nat.reduceLT, Int.reduceLT, Int.reduceLE, Int.reduceEq, Int.reduceToNat, Int.reduceAdd, Int.reduceSub, Int.reduceNeg, ↓reduceIte, reduceCtorEq, ↓C.conf_numbers_W, C.conf_numbers_B, C.conf_numbers, hid, k1, r1, ge_iff_le]
      exact ASt.le.new _ _ _
  by_cases k2 : c.kind = 112
  · simp only [↓Bp, Bq, Bs, ↓aop.eq_28, ↓aop.eq_30, Nat.reduceEqDiff, Nat.reduceAdd, Nat.reduceMul, Nat.reduceSub, Nat.reduceLeDiff, Nat.reduceLT, Int.reduceLT, Int.reduceLE, Int.reduceEq, Int.reduceToNat, Int.reduceAdd, Int.reduceSub, Int.reduceNeg, ↓reduceIte, reduceCtorEq, ↓C.conf_numbers_W, C.conf_numbers_B, C.conf_numbers, hid, k1, k2]
    refine within_spec.mono ?_
    rintro r s2 ⟨rfl, rfl⟩
    by_cases h1 : 1 ≤ c.mul ∧ c.mul ≤ 1000
    · simp only [↓Bp, Bq, Bs, ↓aop.eq_28, ↓aop.eq_30, Nat.reduceEqDiff, Nat.reduceAdd, Nat.reduceMul, Nat.reduceSub, Nat.reduceLeDiff, Nat.reduceLT, Int.reduceLT, Int.reduceLE, Int.reduceEq, Int.reduceToNat, Int.reduceAdd, Int.reduceSub, Int.reduceNeg, ↓reduceIte, reduceCtorEq, ↓C.conf_numbers_W, C.conf_numbers_B, C.conf_numbers, hid, h1]
      refine within_spec.mono ?_
      rintro r s2 ⟨rfl, rfl⟩
      by_cases h2 : 1 ≤ c.div ∧ c.div ≤ 1000
      · simp only [↓Bp, Bq, Bs, ↓aop.eq_28, ↓aop.eq_30, Nat.reduceEqDiff, Nat.reduceAdd, Nat.reduceMul, Nat.reduceSub, Nat.reduceLeDiff, Nat.reduceLT, Int.reduceLT, Int.reduceLE, Int.reduceEq, Int.reduceToNat, Int.reduceAdd, Int.reduceSub, Int.reduceNeg, ↓reduceIte, reduceCtorEq, ↓C.conf_numbers_W, C.conf_numbers_B, C.conf_numbers, hid, h2]
        refine within_spec.mono ?_
        rintro r s2 ⟨rfl, rfl⟩
        simp only [↓Bp, Bq, Bs, ↓aop.eq_28, ↓aop.eq_30, Nat.reduceEqDiff, Nat.reduceAdd, Nat.reduceMul, Nat.reduceSub, Nat.reduceLeDiff, Nat.reduceLT, Int.reduceLT, Int.reduceLE, Int.reduceEq, Int.reduceToNat, Int.reduceAdd, Int.reduceSub, Int.reduceNeg, ↓reduceIte, reduceCtorEq, ↓C.conf_numbers_W, C.conf_numbers_B, C.conf_numbers, k1, k2, h1, h2]
        exact ASt.le.new _ _ _
      · simp only [↓Bp, Bq, Bs, ↓aop.eq_28, ↓aop.eq_30, Nat.reduceEqDiff, Nat.reduceAdd, Nat.reduceMul, Nat.reduceSub, Nat.reduceLeDiff, Nat.reduceLT, Int.reduceLT, Int.reduceLE, Int.reduceEq, Int.reduceToNat, Int.reduceAdd, Int.reduceSub, Int.reduceNeg, ↓reduceIte, reduceCtorEq, ↓C.conf_numbers_W, C.conf_numbers_B, C.conf_numbers, k1, k2, h1, h2]
        exact ASt.le.new _ _ _
    · simp only [↓Bp, Bq, Bs, ↓aop.eq_28, ↓aop.eq_30, Nat.reduceEqDiff, Nat.reduceAdd, Nat.reduceMul, Nat.reduceSub, Nat.reduceLeDiff, Nat.reduceLT, Int.reduceLT, Int.reduceLE, Int.reduceEq, Int.reduceToNat, Int.reduceAdd, Int.reduceSub, Int.reduceNeg, ↓reduceIte, reduceCtorEq, ↓C.conf_numbers_W, C.conf_numbers_B, C.conf_numbers, k1, k2, h1]
      exact ASt.le.new _ _ _
  by_cases k3 : c.kind = 100
  · simp only [↓Bp, Bq, Bs, ↓aop.eq_28, ↓aop.eq_30, Nat.reduceEqDiff, Nat.reduceAdd, Nat.reduceMul, Nat.reduceSub, Nat.reduceLeDiff, Nat.reduceLT, Int.reduceLT, Int.reduceLE, Int.reduceEq, Int.reduceToNat, Int.reduceAdd, Int.reduceSub, Int.reduceNeg, ↓reduceIte, reduceCtorEq, ↓C.conf_numbers_W, C.conf_numbers_B, C.conf_numbers, hid, k1, k2, k3]
    refine within_spec.mono ?_
    rintro r s2 ⟨rfl, rfl⟩
    simp only [↓Bp, Bq, Bs, ↓aop.eq_28, ↓aop.eq_30, Nat.reduceEqDiff, Nat.reduceAdd, Nat.reduceMul, Nat.reduceSub, Nat.reduceLeDiff, Nat.reduceLT, Int.reduceLT, Int.reduceLE, Int.reduceEq, Int.reduceToNat, Int.reduceAdd, Int.reduceSub, Int.reduceNeg, ↓reduceIte, reduceCtorEq, ↓C.conf_numbers_W, C.conf_numbers_B, C.conf_numbers, k1, k2, k3]
    exact ASt.le.new _ _ _
  · simp only [↓Bp, Bq, Bs, ↓aop.eq_28, ↓aop.eq_30, Nat.reduceEqDiff, Nat.reduceAdd, Nat.reduceMul, Nat.reduceSub, Nat.reduceLeDiff, Nat.reduceLT, Int.reduceLT, Int.reduceLE, Int.reduceEq, Int.reduceToNat, Int.reduceAdd, Int.reduceSub, Int.reduceNeg, ↓reduceIte, reduceCtorEq, ↓C.conf_numbers_W, C.conf_numbers_B, C.conf_numbers, hid, k1, k2, k3]
    exact ASt.le.new _ _ _

/-- What is wrong with a clock of so many. -/
def clkE (n : Nat) (c : Clk) : Nat → Int
  | 0 => if c.shape = true then 0 else 1
  | 1 => firstE (fun i => noNode n (c.src.getD i 0)) c.src.length
  | _ => if c.nums = true then 0 else 3
theorem clock_1_spec {st : ASt} {i n : Nat} {c : Clk} (hi : st.h i = some (.cells c.cells)) :
    ACalls Try.prog F.conf_clock_1 [.ptr i 0] st fun r s' => r = .int .i64 (clkE n c 0) ∧ s' = st := by
  refine calls_of_awp L.conf_clock_1 rfl ?_
  simp only [↓Bp, Bq, Bs, ↓aop.eq_28, ↓aop.eq_30, Nat.reduceEqDiff, Nat.reduceAdd, Nat.reduceMul, Nat.reduceSub, Nat.reduceLeDiff, Nat.reduceLT, Int.reduceLT, Int.reduceLE, Int.reduceEq, Int.reduceToNat, Int.reduceAdd, Int.reduceSub, Int.reduceNeg, ↓reduceIte, reduceCtorEq, ↓C.conf_clock_1_W, C.conf_clock_1_B, C.conf_clock_1, hi]
  have e : (AV.agg (List.take 6 c.cells)) = .agg c.cells := rfl
  rw [e]
  refine shape_spec.mono ?_
  rintro r s2 ⟨rfl, rfl⟩
  simp only [↓Bp, Bq, Bs, ↓aop.eq_28, ↓aop.eq_30, Nat.reduceEqDiff, Nat.reduceAdd, Nat.reduceMul, Nat.reduceSub, Nat.reduceLeDiff, Nat.reduceLT, Int.reduceLT, Int.reduceLE, Int.reduceEq, Int.reduceToNat, Int.reduceAdd, Int.reduceSub, Int.reduceNeg, ↓reduceIte, reduceCtorEq, ↓C.conf_clock_1_W, C.conf_clock_1_B, C.conf_clock_1]
  refine when_spec.mono ?_
  rintro r s3 ⟨rfl, rfl⟩
  simp only [↓Bp, Bq, Bs, ↓aop.eq_28, ↓aop.eq_30, Nat.reduceEqDiff, Nat.reduceAdd, Nat.reduceMul, Nat.reduceSub, Nat.reduceLeDiff, Nat.reduceLT, Int.reduceLT, Int.reduceLE, Int.reduceEq, Int.reduceToNat, Int.reduceAdd, Int.reduceSub, Int.reduceNeg, ↓reduceIte, reduceCtorEq, ↓C.conf_clock_1_W, C.conf_clock_1_B, C.conf_clock_1, clkE]
  cases c.shape <;> rfl

theorem clock_3_spec {st : ASt} {i n : Nat} {c : Clk} (hi : st.h i = some (.cells c.cells)) :
    ACalls Try.prog F.conf_clock_3 [.ptr i 0] st fun r s' => r = .int .i64 (clkE n c 2) ∧ s' = st := by
  refine calls_of_awp L.conf_clock_3 rfl ?_
  simp only [↓Bp, Bq, Bs, ↓aop.eq_28, ↓aop.eq_30, Nat.reduceEqDiff, Nat.reduceAdd, Nat.reduceMul, Nat.reduceSub, Nat.reduceLeDiff, Nat.reduceLT, Int.reduceLT, Int.reduceLE, Int.reduceEq, Int.reduceToNat, Int.reduceAdd, Int.reduceSub, Int.reduceNeg, ↓reduceIte, reduceCtorEq, ↓C.conf_clock_3_W, C.conf_clock_3_B, C.conf_clock_3, hi]
  have e : (AV.agg (List.take 6 c.cells)) = .agg c.cells := rfl
  rw [e]
  refine conf_numbers_spec.mono ?_
  rintro r s2 ⟨rfl, rfl⟩
  simp only [↓Bp, Bq, Bs, ↓aop.eq_28, ↓aop.eq_30, Nat.reduceEqDiff, Nat.reduceAdd, Nat.reduceMul, Nat.reduceSub, Nat.reduceLeDiff, Nat.reduceLT, Int.reduceLT, Int.reduceLE, Int.reduceEq, Int.reduceToNat, Int.reduceAdd, Int.reduceSub, Int.reduceNeg, ↓reduceIte, reduceCtorEq, ↓C.conf_clock_3_W, C.conf_clock_3_B, C.conf_clock_3]
  refine when_spec.mono ?_
  rintro r s3 ⟨rfl, rfl⟩
  simp only [↓Bp, Bq, Bs, ↓aop.eq_28, ↓aop.eq_30, Nat.reduceEqDiff, Nat.reduceAdd, Nat.reduceMul, Nat.reduceSub, Nat.reduceLeDiff, Nat.reduceLT, Int.reduceLT, Int.reduceLE, Int.reduceEq, Int.reduceToNat, Int.reduceAdd, Int.reduceSub, Int.reduceNeg, ↓reduceIte, reduceCtorEq, ↓C.conf_clock_3_W, C.conf_clock_3_B, C.conf_clock_3, clkE]
  cases c.nums <;> rfl

theorem clock_2_1_spec {st : ASt} {j : Nat} {x : Int} {s : Soc} (hj : st.h j = some (.cells s.cells)) (hn : s.clocks.length ≤ 4294967296) :
    ACalls Try.prog F.conf_clock_2_1 [.int .i64 x, .ptr j 0] st fun r s' => r = .int .i64 (noNode s.clocks.length x) ∧ s' = st := by
  refine calls_of_awp L.conf_clock_2_1 rfl ?_
  have hw : IntKind.i64.wrap ((s.clocks.length : Int) - 1) = (s.clocks.length : Int) - 1 := by rw [wrap64] <;> omega
  simp only [↓Bp, Bq, Bs, ↓aop.eq_28, ↓aop.eq_30, Nat.reduceEqDiff, Nat.reduceAdd, Nat.reduceMul, Nat.reduceSub, Nat.reduceLeDiff, Nat.reduceLT, Int.reduceLT, Int.reduceLE, Int.reduceEq, Int.reduceToNat, Int.reduceAdd, Int.reduceSub, Int.reduceNeg, ↓reduceIte, reduceCtorEq, ↓C.conf_clock_2_1_W, C.conf_clock_2_1_B, C.conf_clock_2_1, hj, Soc.cells, Soc.clkV, hw]
  refine within_spec.mono ?_
  rintro r s2 ⟨rfl, rfl⟩
  simp only [↓Bp, Bq, Bs, ↓aop.eq_28, ↓aop.eq_30, Nat.reduceEqDiff, Nat.reduceAdd, Nat.reduceMul, Nat.reduceSub, Nat.reduceLeDiff, Nat.reduceLT, Int.reduceLT, Int.reduceLE, Int.reduceEq, Int.reduceToNat, Int.reduceAdd, Int.reduceSub, Int.reduceNeg, ↓reduceIte, reduceCtorEq, ↓C.conf_clock_2_1_W, C.conf_clock_2_1_B, C.conf_clock_2_1]
  refine when_spec.mono ?_
  rintro r s3 ⟨rfl, rfl⟩
  simp only [↓Bp, Bq, Bs, ↓aop.eq_28, ↓aop.eq_30, Nat.reduceEqDiff, Nat.reduceAdd, Nat.reduceMul, Nat.reduceSub, Nat.reduceLeDiff, Nat.reduceLT, Int.reduceLT, Int.reduceLE, Int.reduceEq, Int.reduceToNat, Int.reduceAdd, Int.reduceSub, Int.reduceNeg, ↓reduceIte, reduceCtorEq, ↓C.conf_clock_2_1_W, C.conf_clock_2_1_B, C.conf_clock_2_1, noNode_eq]
theorem clock_2_spec {st : ASt} {i j : Nat} {c : Clk} {s : Soc} (hi : st.h i = some (.cells c.cells)) (hj : st.h j = some (.cells s.cells)) (hn : s.clocks.length ≤ 4294967296) (hm : c.src.length ≤ 4294967296) :
    ACalls Try.prog F.conf_clock_2 [.ptr i 0, .ptr j 0] st fun r s' => r = .int .i64 (clkE s.clocks.length c 1) ∧ s' = st := by
  refine calls_of_awp L.conf_clock_2 rfl ?_
  simp only [↓Bp, Bq, Bs, ↓aop.eq_28, ↓aop.eq_30, Nat.reduceEqDiff, Nat.reduceAdd, Nat.reduceMul, Nat.reduceSub, Nat.reduceLeDiff, Nat.reduceLT, Int.reduceLT, Int.reduceLE, Int.reduceEq, Int.reduceToNat, Int.reduceAdd, Int.reduceSub, Int.reduceNeg, ↓reduceIte, reduceCtorEq, ↓C.conf_clock_2_W, C.conf_clock_2_B, C.conf_clock_2, hi, Clk.cells]
  refine (each_int_spec (e := fun i => noNode s.clocks.length (c.src.getD i 0)) rfl hm ?_).mono ?_
  · intro x hx _
    have e : c.src.getD x 0 = c.src[x] := by simp [hx]
    simp only [e]
    exact clock_2_1_spec hj hn
  rintro r s2 ⟨rfl, rfl⟩
  simp only [↓Bp, Bq, Bs, ↓aop.eq_28, ↓aop.eq_30, Nat.reduceEqDiff, Nat.reduceAdd, Nat.reduceMul, Nat.reduceSub, Nat.reduceLeDiff, Nat.reduceLT, Int.reduceLT, Int.reduceLE, Int.reduceEq, Int.reduceToNat, Int.reduceAdd, Int.reduceSub, Int.reduceNeg, ↓reduceIte, reduceCtorEq, ↓C.conf_clock_2_W, C.conf_clock_2_B, C.conf_clock_2, clkE]
theorem clock_spec {st : ASt} {c : Clk} {s : Soc} (hn : s.clocks.length ≤ 4294967296) (hm : c.src.length ≤ 4294967296) :
    ACalls Try.prog F.conf_clock [.agg s.cells, .agg c.cells] st fun r s' => r = .int .i64 (firstE (clkE s.clocks.length c) 3) ∧ s' = st := by
  refine ACalls.gc (Q' := fun r s' => r = .int .i64 (firstE (clkE s.clocks.length c) 3) ∧ st.le s') (calls_of_awp L.conf_clock rfl ?_) (fun v s ⟨h, hl⟩ => ⟨st, hl, h, rfl⟩)
  simp only [↓Bp, Bq, Bs, ↓aop.eq_28, ↓aop.eq_30, Nat.reduceEqDiff, Nat.reduceAdd, Nat.reduceMul, Nat.reduceSub, Nat.reduceLeDiff, Nat.reduceLT, Int.reduceLT, Int.reduceLE, Int.reduceEq, Int.reduceToNat, Int.reduceAdd, Int.reduceSub, Int.reduceNeg, ↓reduceIte, reduceCtorEq, ↓C.conf_clock_W, C.conf_clock_B, C.conf_clock]
  rintro j hj i ⟨hi, hij⟩ k ⟨⟨hk, hkj⟩, hki⟩
  have g1 : (st.new j (.cells s.cells)).h j = some (.cells s.cells) := ASt.new_self _ hj
  have hi' : (st.new j (.cells s.cells)).h i = none := by rw [ASt.new_ne _ hij]; exact hi
  have g2 := ASt.new_old (id := i) (o := .cells c.cells) g1
  have g3 : ((st.new j (.cells s.cells)).new i (.cells c.cells)).h i = some (.cells c.cells) := ASt.new_self _ hi'
  have hk' : ((st.new j (.cells s.cells)).new i (.cells c.cells)).h k = none := by rw [ASt.new_ne _ hki, ASt.new_ne _ hkj]; exact hk
  refine (first_spec (e := clkE s.clocks.length c) (ASt.new_self _ hk') rfl (by simp) ?_).mono ?_
  · intro x hx _
    match x, hx with
    | 0, _ => exact ⟨_, _, rfl, by kernel_rfl, clock_1_spec (ASt.new_old g3)⟩
    | 1, _ => exact ⟨_, _, rfl, by kernel_rfl, clock_2_spec (ASt.new_old g3) (ASt.new_old g2) hn hm⟩
    | 2, _ => exact ⟨_, _, rfl, by kernel_rfl, clock_3_spec (ASt.new_old g3)⟩
  rintro r s2 ⟨rfl, rfl⟩
  simp only [↓Bp, Bq, Bs, ↓aop.eq_28, ↓aop.eq_30, Nat.reduceEqDiff, Nat.reduceAdd, Nat.reduceMul, Nat.reduceSub, Nat.reduceLeDiff, Nat.reduceLT, Int.reduceLT, Int.reduceLE, Int.reduceEq, Int.reduceToNat, Int.reduceAdd, Int.reduceSub, Int.reduceNeg, ↓reduceIte, reduceCtorEq, ↓C.conf_clock_W, C.conf_clock_B, C.conf_clock]
  exact ((ASt.le.new _ _ _).trans (ASt.le.new _ _ _)).trans (ASt.le.new _ _ _)

end Go.Proofs.Ytjamidgdhmjhaaa.Cn
