/- conf: Check of any description; a right one is not great. -/
import Derived.Test.YtkioaemhdbcfaaaCnConf8
import Derived.Test.YtkioaemhdbcfaaaCnSaneD
set_option linter.unusedSimpArgs false
set_option linter.unusedVariables false
namespace Go.Proofs.Ytkioaemhdbcfaaa.Cn
open Go Go.Proofs

theorem shape_few {c : Clk} (h : c.shape = true) : c.src.length ≤ 4 := by
  unfold Clk.shape at h
  split at h
  · simp at h; simp [h]
  · split at h
    · simp at h; omega
    · split at h
      · simp at h; omega
      · cases h
theorem clkE_few {n : Nat} {c : Clk} {k : Nat} (h : firstE (clkE n c) k = 0) (hk : 0 < k) : c.src.length ≤ 4 := by
  have := firstE_zero.mp h 0 hk
  refine shape_few ?_
  by_cases h1 : c.shape = true
  · exact h1
  · rw [show clkE n c 0 = if c.shape = true then 0 else 1 from rfl, if_neg h1] at this; cases this
theorem clock_all {st : ASt} {c : Clk} {s : Soc} (hn : s.clocks.length ≤ 4294967296) :
    ACalls Try.prog F.conf_clock [.agg s.cells, .agg c.cells] st fun r s' => r = .int .i64 (firstE (clkE s.clocks.length c) 3) ∧ s' = st := by
  refine ACalls.gc (Q' := fun r s' => r = .int .i64 (firstE (clkE s.clocks.length c) 3) ∧ st.le s') (calls_of_awp L.conf_clock rfl ?_) (fun v s ⟨h, hl⟩ => ⟨st, hl, h, rfl⟩)
  simp only [↓Bp, Bq, Bs, ↓aop.eq_28, ↓aop.eq_30, Nat.reduceEqDiff, Nat.reduceAdd, Nat.reduceMul, Nat.reduceSub, Nat.reduceLeDiff, Nat.reduceLT, Int.reduceLT, Int.reduceLE, Int.reduceEq, Int.reduceToNat, Int.reduceAdd, Int.reduceSub, Int.reduceNeg, ↓reduceIte, reduceCtorEq, ↓C.conf_clock_W, C.conf_clock_B, C.conf_clock]
  rintro j hj i ⟨hi, hij⟩ k ⟨⟨hk, hkj⟩, hki⟩
  have g1 : (st.new j (.cells s.cells)).h j = some (.cells s.cells) := ASt.new_self _ hj
  have hi' : (st.new j (.cells s.cells)).h i = none := by rw [ASt.new_ne _ hij]; exact hi
  have g2 := ASt.new_old (id := i) (o := .cells c.cells) g1
  have g3 : ((st.new j (.cells s.cells)).new i (.cells c.cells)).h i = some (.cells c.cells) := ASt.new_self _ hi'
  have hk' : ((st.new j (.cells s.cells)).new i (.cells c.cells)).h k = none := by rw [ASt.new_ne _ hki, ASt.new_ne _ hkj]; exact hk
  refine (first_spec (e := clkE s.clocks.length c) (ASt.new_self _ hk') rfl (by simp) ?_).mono ?_
  · intro x hx h0
    match x, hx with
    | 0, _ => exact ⟨_, _, rfl, by kernel_rfl, clock_1_spec (ASt.new_old g3)⟩
    | 1, _ => exact ⟨_, _, rfl, by kernel_rfl, clock_2_spec (ASt.new_old g3) (ASt.new_old g2) hn (by have := clkE_few h0 (by omega); omega)⟩
    | 2, _ => exact ⟨_, _, rfl, by kernel_rfl, clock_3_spec (ASt.new_old g3)⟩
  rintro r s2 ⟨rfl, rfl⟩
  simp only [↓Bp, Bq, Bs, ↓aop.eq_28, ↓aop.eq_30, Nat.reduceEqDiff, Nat.reduceAdd, Nat.reduceMul, Nat.reduceSub, Nat.reduceLeDiff, Nat.reduceLT, Int.reduceLT, Int.reduceLE, Int.reduceEq, Int.reduceToNat, Int.reduceAdd, Int.reduceSub, Int.reduceNeg, ↓reduceIte, reduceCtorEq, ↓C.conf_clock_W, C.conf_clock_B, C.conf_clock]
  exact ((ASt.le.new _ _ _).trans (ASt.le.new _ _ _)).trans (ASt.le.new _ _ _)
section
variable {st : ASt} {j : Nat} {s : Soc} (hj : st.h j = some (.cells s.cells))
include hj
theorem check_2_1_all (hn : s.clocks.length ≤ 4294967296) {c : Clk} : ACalls Try.prog F.conf_Check_2_1 [.agg c.cells, .ptr j 0] st fun r s' => r = .int .i64 (firstE (clkE s.clocks.length c) 3) ∧ s' = st := by
  refine ACalls.gc (Q' := fun r s' => r = .int .i64 (firstE (clkE s.clocks.length c) 3) ∧ st.le s') (calls_of_awp L.conf_Check_2_1 rfl ?_) (fun v s ⟨h, hl⟩ => ⟨st, hl, h, rfl⟩)
  have e : AV.agg (List.take 4 s.cells) = .agg s.cells := rfl
  have l : s.cells.length = 4 := rfl
  have e2 : AV.agg (List.take 6 c.cells) = .agg c.cells := rfl
  have l2 : c.cells.length = 6 := rfl
  simp only [↓Bp, Bq, Bs, ↓aop.eq_28, ↓aop.eq_30, Nat.reduceEqDiff, Nat.reduceAdd, Nat.reduceMul, Nat.reduceSub, Nat.reduceLeDiff, Nat.reduceLT, Int.reduceLT, Int.reduceLE, Int.reduceEq, Int.reduceToNat, Int.reduceAdd, Int.reduceSub, Int.reduceNeg, ↓reduceIte, reduceCtorEq, ↓C.conf_Check_2_1_r0_w, C.conf_Check_2_1_r0_b, C.conf_Check_2_1]
  intro ib hib
  simp only [↓Bp, Bq, Bs, ↓aop.eq_28, ↓aop.eq_30, Nat.reduceEqDiff, Nat.reduceAdd, Nat.reduceMul, Nat.reduceSub, Nat.reduceLeDiff, Nat.reduceLT, Int.reduceLT, Int.reduceLE, Int.reduceEq, Int.reduceToNat, Int.reduceAdd, Int.reduceSub, Int.reduceNeg, ↓reduceIte, reduceCtorEq, ↓C.conf_Check_2_1_W, C.conf_Check_2_1_B, C.conf_Check_2_1, hj, l, e, hib, l2, e2]
  refine (clock_all hn).mono ?_
  rintro r s2 ⟨rfl, rfl⟩
  simp only [↓Bp, Bq, Bs, ↓aop.eq_28, ↓aop.eq_30, Nat.reduceEqDiff, Nat.reduceAdd, Nat.reduceMul, Nat.reduceSub, Nat.reduceLeDiff, Nat.reduceLT, Int.reduceLT, Int.reduceLE, Int.reduceEq, Int.reduceToNat, Int.reduceAdd, Int.reduceSub, Int.reduceNeg, ↓reduceIte, reduceCtorEq, ↓C.conf_Check_2_1_W, C.conf_Check_2_1_B, C.conf_Check_2_1]
  exact ASt.le.new _ _ _
theorem check_2_all (hn : s.clocks.length ≤ 4294967296) : ACalls Try.prog F.conf_Check_2 [.ptr j 0] st fun r s' => r = .int .i64 (confE s 1) ∧ s' = st := by
  refine calls_of_awp L.conf_Check_2 rfl ?_
  simp only [↓Bp, Bq, Bs, ↓aop.eq_28, ↓aop.eq_30, Nat.reduceEqDiff, Nat.reduceAdd, Nat.reduceMul, Nat.reduceSub, Nat.reduceLeDiff, Nat.reduceLT, Int.reduceLT, Int.reduceLE, Int.reduceEq, Int.reduceToNat, Int.reduceAdd, Int.reduceSub, Int.reduceNeg, ↓reduceIte, reduceCtorEq, ↓C.conf_Check_2_W, C.conf_Check_2_B, C.conf_Check_2, hj, Soc.cells, Soc.clkV]
  refine (conf_each_api_Clock_spec (e := ofAll s.clocks fun c => firstE (clkE s.clocks.length c) 3) rfl hn fun i hi _ => ?_).mono ?_
  · rw [ofAll_at hi]
    exact check_2_1_all hj hn
  rintro r s2 ⟨rfl, rfl⟩
  simp only [↓Bp, Bq, Bs, ↓aop.eq_28, ↓aop.eq_30, Nat.reduceEqDiff, Nat.reduceAdd, Nat.reduceMul, Nat.reduceSub, Nat.reduceLeDiff, Nat.reduceLT, Int.reduceLT, Int.reduceLE, Int.reduceEq, Int.reduceToNat, Int.reduceAdd, Int.reduceSub, Int.reduceNeg, ↓reduceIte, reduceCtorEq, ↓C.conf_Check_2_W, C.conf_Check_2_B, C.conf_Check_2, confE, clksE]
end
theorem conf_fine {s : Soc} {k : Nat} (h : firstE (confE s) k = 0) (hk : 1 < k) : s.fine := fun c hc => by
  have := firstE_zero.mp h 1 hk
  obtain ⟨i, hi, rfl⟩ := List.getElem_of_mem hc
  have h2 := firstE_zero.mp (show firstE (ofAll s.clocks fun c => firstE (clkE s.clocks.length c) 3) s.clocks.length = 0 from this) i hi
  rw [ofAll_at hi] at h2
  have := clkE_few h2 (by omega); omega
theorem conf_check_all {st : ASt} {s : Soc} : ACalls Try.prog F.conf_Check [.agg s.cells] st fun r s' => r = .int .i64 (confErr s) ∧ s' = st := by
  refine ACalls.gc (Q' := fun r s' => r = .int .i64 (confErr s) ∧ st.le s') (calls_of_awp L.conf_Check rfl ?_) (fun v s ⟨h, hl⟩ => ⟨st, hl, h, rfl⟩)
  simp only [↓Bp, Bq, Bs, ↓aop.eq_28, ↓aop.eq_30, Nat.reduceEqDiff, Nat.reduceAdd, Nat.reduceMul, Nat.reduceSub, Nat.reduceLeDiff, Nat.reduceLT, Int.reduceLT, Int.reduceLE, Int.reduceEq, Int.reduceToNat, Int.reduceAdd, Int.reduceSub, Int.reduceNeg, ↓reduceIte, reduceCtorEq, ↓C.conf_Check_r0_w, C.conf_Check_r0_b, C.conf_Check]
  intro j hj
  simp only [↓Bp, Bq, Bs, ↓aop.eq_28, ↓aop.eq_30, Nat.reduceEqDiff, Nat.reduceAdd, Nat.reduceMul, Nat.reduceSub, Nat.reduceLeDiff, Nat.reduceLT, Int.reduceLT, Int.reduceLE, Int.reduceEq, Int.reduceToNat, Int.reduceAdd, Int.reduceSub, Int.reduceNeg, ↓reduceIte, reduceCtorEq, ↓C.conf_Check_W, C.conf_Check_B, C.conf_Check]
  rintro k ⟨hk, hkj⟩
  have hk' : (st.new j (.cells s.cells)).h k = none := by rw [ASt.new_ne _ hkj]; exact hk
  have g1 := ASt.new_old (id := k) (o := .cells [.fn F.conf_Check_1 [.ptr j 0], .fn F.conf_Check_2 [.ptr j 0], .fn F.conf_Check_3 [.ptr j 0], .fn F.conf_Check_4 [.ptr j 0], .fn F.conf_Check_5 [.ptr j 0], .fn F.conf_Check_6 [.ptr j 0], .fn F.conf_Check_7 [.ptr j 0], .fn F.conf_Check_8 [.ptr j 0]]) (ASt.new_self (st := st) (.cells s.cells) hj)
  refine (first_spec (e := confE s) (ASt.new_self _ hk') rfl (by simp) ?_).mono ?_
  · intro x hx h0
    have hf : 0 < x → _ := fun h => fullE_zero.mp (firstE_zero.mp h0 0 h)
    match x, hx with
    | 0, _ => exact ⟨_, _, rfl, by kernel_rfl, check_1_spec g1⟩
    | 1, _ => have := hf (by omega); exact ⟨_, _, rfl, by kernel_rfl, check_2_all g1 (by omega)⟩
    | 2, _ => have := hf (by omega); exact ⟨_, _, rfl, by kernel_rfl, check_3_spec g1 (by omega) (conf_fine h0 (by omega))⟩
    | 3, _ => have := hf (by omega); exact ⟨_, _, rfl, by kernel_rfl, check_4_spec g1 (by omega)⟩
    | 4, _ => have := hf (by omega); exact ⟨_, _, rfl, by kernel_rfl, check_5_spec g1 (by omega)⟩
    | 5, _ => have := hf (by omega); exact ⟨_, _, rfl, by kernel_rfl, check_6_spec g1 (by omega)⟩
    | 6, _ => have := hf (by omega); exact ⟨_, _, rfl, by kernel_rfl, check_7_spec g1 (by omega) (by omega) (by omega) (by omega) fun d hd => by have := this.2 d hd; omega⟩
    | 7, _ => have := hf (by omega); exact ⟨_, _, rfl, by kernel_rfl, check_8_spec g1 (by omega) fun d hd => by have := this.2 d hd; omega⟩
  rintro r s2 ⟨rfl, rfl⟩
  simp only [↓Bp, Bq, Bs, ↓aop.eq_28, ↓aop.eq_30, Nat.reduceEqDiff, Nat.reduceAdd, Nat.reduceMul, Nat.reduceSub, Nat.reduceLeDiff, Nat.reduceLT, Int.reduceLT, Int.reduceLE, Int.reduceEq, Int.reduceToNat, Int.reduceAdd, Int.reduceSub, Int.reduceNeg, ↓reduceIte, reduceCtorEq, ↓C.conf_Check_W, C.conf_Check_B, C.conf_Check, confErr]
  exact (ASt.le.new _ _ _).trans (ASt.le.new _ _ _)
theorem conf_sane {s : Soc} (h : confErr s = 0) : s.sane ∧ s.fine ∧ s.clocks.length ≤ 12 := by
  have hf := conf_fine (k := 8) h (by omega)
  have h0 := fullE_zero.mp (firstE_zero.mp (show firstE (confE s) 8 = 0 from h) 0 (by omega))
  exact ⟨⟨by omega, by omega, by omega, by omega, hf, fun d hd => by have := h0.2 d hd; omega⟩, hf, by omega⟩
end Go.Proofs.Ytkioaemhdbcfaaa.Cn
