/- Reset lines: ResetLate. -/
import Derived.Test.YtkabdilikndhbaaCnReset4
set_option linter.unusedSimpArgs false
set_option linter.unusedVariables false
set_option linter.unusedSectionVars false
namespace Go.Proofs.Ytkabdilikndhbaa.Cn
open Go Go.Proofs

theorem late_tick (n t : Int) : Cn.tick1 ⟨n, max (n - t) 0, true, false⟩ = ⟨n, max (n - t - 1) 0, true, false⟩ := by
  rw [tick1_mk]
  by_cases e : 0 < max (n - t) 0
  · rw [if_pos e, show max (n - t) 0 - 1 = max (n - t - 1) 0 by omega]
  · rw [if_neg e, if_neg (by simp), show max (n - t) 0 = max (n - t - 1) 0 by omega]
theorem late_goes (n t : Int) : goes ⟨n, max (n - t) 0, true, false⟩ = false := by
  rw [goes_mk, Bool.and_false]
section
variable {st : ASt} {ib p m : Nat} {R : List Int} {k : Nat} (hk : k < R.length) (hR : R.length ≤ 6) (hR2 : ∀ x ∈ R, 0 ≤ x ∧ x ≤ 20)
include hk hR hR2
/-- It is let go of: the ticks that are left, and the last. -/
theorem late_end {s : ASt} {L : Nat} (hL : L ≤ 20) (h : RSt st s ib p m R (oneL R k ⟨R[k], L, true, true⟩)) :
    awp Try.prog C.catnaplaw8_ResetLate_c11 (Post [.slot 6] fun r s => r = .bool true ∧ st.le s)
      [(9, .ptr p 0), (11, .int .i64 k), (15, .int .i64 L)] s := by
  simp only [↓Bp, Bq, Bs, ↓aop.eq_28, ↓aop.eq_30, Nat.reduceEqDiff, Nat.reduceAdd, Nat.reduceMul, Nat.reduceSub, Nat.reduceLeDiff, Nat.reduceLT, Int.reduceLT, Int.reduceLE, Int.reduceEq, Int.reduceToNat, Int.reduceAdd, Int.reduceSub, Int.reduceNeg, ↓reduceIte, reduceCtorEq, ↓C.catnaplaw8_ResetLate_W, C.catnaplaw8_ResetLate_B, C.catnaplaw8_ResetLate]
  refine awp_midB (fun _ : Unit => [(9, .ptr p 0), (11, .int .i64 k)]) (fun _ s => RSt st s ib p m R (oneL R k ⟨R[k], 0, true, true⟩)) ?_ ?_
  · refine awp_loopK (fun t : Nat => [(9, .ptr p 0), (11, .int .i64 k), (15, .int .i64 L), (16, .int .i64 t)]) (fun t s => t ≤ L ∧ RSt st s ib p m R (oneL R k ⟨R[k], ((L - t : Nat) : Int), true, true⟩)) (fun t => L - t) 0 rfl ⟨Nat.zero_le _, h⟩ ?_
    clear h s
    rintro t s ⟨ht, h⟩
    by_cases htl : t < L
    rotate_left
    · have htl' : ¬ (t : Int) < (L : Int) := by omega
      simp only [↓Bp, Bq, Bs, ↓aop.eq_28, ↓aop.eq_30, Nat.reduceEqDiff, Nat.reduceAdd, Nat.reduceMul, Nat.reduceSub, Nat.reduceLeDiff, Nat.reduceLT, Int.reduceLT, Int.reduceLE, Int.reduceEq, Int.reduceToNat, Int.reduceAdd, Int.reduceSub, Int.reduceNeg, ↓reduceIte, reduceCtorEq, ↓C.catnaplaw8_ResetLate_W, C.catnaplaw8_ResetLate_B, C.catnaplaw8_ResetLate, htl']
      rw [show L - t = 0 by omega] at h
      exact ⟨(), h⟩
    have htl' : (t : Int) < (L : Int) := by omega
    have hw := wsucc htl (by omega)
    simp only [↓Bp, Bq, Bs, ↓aop.eq_28, ↓aop.eq_30, Nat.reduceEqDiff, Nat.reduceAdd, Nat.reduceMul, Nat.reduceSub, Nat.reduceLeDiff, Nat.reduceLT, Int.reduceLT, Int.reduceLE, Int.reduceEq, Int.reduceToNat, Int.reduceAdd, Int.reduceSub, Int.reduceNeg, ↓reduceIte, reduceCtorEq, ↓C.catnaplaw8_ResetLate_W, C.catnaplaw8_ResetLate_B, C.catnaplaw8_ResetLate, htl']
    refine (h.tick1 hk (by show ((L - t : Nat) : Int) ≤ 1000; omega) hR).mono ?_
    rintro r s ⟨rfl, h⟩
    rw [goes_mk, decide_eq_true (by omega), if_neg (by simp)]
    rw [tick1_mk, if_pos (by omega), show ((L - t : Nat) : Int) - 1 = ((L - (t + 1) : Nat) : Int) by omega] at h
    have row0 : row (nats []) = .isl 1 [] 0 := rfl
    have c0 : ((0 : Nat) : Int) = 0 := rfl
    simp only [↓Bp, Bq, Bs, ↓aop.eq_28, ↓aop.eq_30, Nat.reduceEqDiff, Nat.reduceAdd, Nat.reduceMul, Nat.reduceSub, Nat.reduceLeDiff, Nat.reduceLT, Int.reduceLT, Int.reduceLE, Int.reduceEq, Int.reduceToNat, Int.reduceAdd, Int.reduceSub, Int.reduceNeg, ↓reduceIte, reduceCtorEq, ↓C.catnaplaw8_ResetLate_W, C.catnaplaw8_ResetLate_B, C.catnaplaw8_ResetLate, row0, c0, hw]
    exact ⟨t + 1, rfl, ⟨htl, h⟩, by omega⟩
  · clear h s
    rintro - s h
    simp only [↓Bp, Bq, Bs, ↓aop.eq_28, ↓aop.eq_30, Nat.reduceEqDiff, Nat.reduceAdd, Nat.reduceMul, Nat.reduceSub, Nat.reduceLeDiff, Nat.reduceLT, Int.reduceLT, Int.reduceLE, Int.reduceEq, Int.reduceToNat, Int.reduceAdd, Int.reduceSub, Int.reduceNeg, ↓reduceIte, reduceCtorEq, ↓C.catnaplaw8_ResetLate_W, C.catnaplaw8_ResetLate_B, C.catnaplaw8_ResetLate]
    refine (h.tick1 hk (by show (0 : Int) ≤ 1000; omega) hR).mono ?_
    rintro r s ⟨rfl, h⟩
    rw [if_pos (by rfl)]
    rw [show Cn.tick1 ⟨R[k], 0, true, true⟩ = ⟨R[k], 0, false, false⟩ from rfl] at h
    simp only [↓Bp, Bq, Bs, ↓aop.eq_28, ↓aop.eq_30, Nat.reduceEqDiff, Nat.reduceAdd, Nat.reduceMul, Nat.reduceSub, Nat.reduceLeDiff, Nat.reduceLT, Int.reduceLT, Int.reduceLE, Int.reduceEq, Int.reduceToNat, Int.reduceAdd, Int.reduceSub, Int.reduceNeg, ↓reduceIte, reduceCtorEq, ↓C.catnaplaw8_ResetLate_W, C.catnaplaw8_ResetLate_B, C.catnaplaw8_ResetLate]
    rintro ix hix
    have h := h.step (ASt.le.new s ix (.cells [.int .i64 k]))
    have hxx := ASt.new_self (.cells [.int .i64 k]) hix
    generalize s.new ix (.cells [.int .i64 k]) = s at h hxx
    refine (same_view (view_row _) (view_one hxx) (by simp [nats])).mono ?_
    rintro r s ⟨rfl, rfl⟩
    have e6 : decide (nats [k] = [(k : Int)]) = true := by simp [nats]
    simp only [↓Bp, Bq, Bs, ↓aop.eq_28, ↓aop.eq_30, Nat.reduceEqDiff, Nat.reduceAdd, Nat.reduceMul, Nat.reduceSub, Nat.reduceLeDiff, Nat.reduceLT, Int.reduceLT, Int.reduceLE, Int.reduceEq, Int.reduceToNat, Int.reduceAdd, Int.reduceSub, Int.reduceNeg, ↓reduceIte, reduceCtorEq, ↓C.catnaplaw8_ResetLate_W, C.catnaplaw8_ResetLate_B, C.catnaplaw8_ResetLate, e6]
    refine (h.held1 hk).mono ?_
    rintro r s ⟨rfl, rfl⟩
    simp only [↓Bp, Bq, Bs, ↓aop.eq_28, ↓aop.eq_30, Nat.reduceEqDiff, Nat.reduceAdd, Nat.reduceMul, Nat.reduceSub, Nat.reduceLeDiff, Nat.reduceLT, Int.reduceLT, Int.reduceLE, Int.reduceEq, Int.reduceToNat, Int.reduceAdd, Int.reduceSub, Int.reduceNeg, ↓reduceIte, reduceCtorEq, ↓C.catnaplaw8_ResetLate_W, C.catnaplaw8_ResetLate_B, C.catnaplaw8_ResetLate]
    exact h.le
/-- It is held, and waits. -/
theorem late_mid {s : ASt} {d : Nat} (hd : d < 60) (h : RSt st s ib p m R (oneL R k ⟨R[k], R[k], true, false⟩)) :
    awp Try.prog C.catnaplaw8_ResetLate_c25 (Post [.slot 6] fun r s => r = .bool true ∧ st.le s)
      [(8, .ptr ib 0), (9, .ptr p 0), (11, .int .i64 k), (13, .int .i64 d)] s := by
  have hk2 := hR2 _ (List.getElem_mem hk)
  simp only [↓Bp, Bq, Bs, ↓aop.eq_28, ↓aop.eq_30, Nat.reduceEqDiff, Nat.reduceAdd, Nat.reduceMul, Nat.reduceSub, Nat.reduceLeDiff, Nat.reduceLT, Int.reduceLT, Int.reduceLE, Int.reduceEq, Int.reduceToNat, Int.reduceAdd, Int.reduceSub, Int.reduceNeg, ↓reduceIte, reduceCtorEq, ↓C.catnaplaw8_ResetLate_W, C.catnaplaw8_ResetLate_B, C.catnaplaw8_ResetLate]
  refine awp_midB (fun _ : Unit => [(9, .ptr p 0), (11, .int .i64 k)]) (fun _ s => RSt st s ib p m R (oneL R k ⟨R[k], max (R[k] - d) 0, true, false⟩)) ?_ ?_
  · refine awp_loopK (fun t : Nat => [(8, .ptr ib 0), (9, .ptr p 0), (11, .int .i64 k), (13, .int .i64 d), (14, .int .i64 t)]) (fun t s => t ≤ d ∧ RSt st s ib p m R (oneL R k ⟨R[k], max (R[k] - t) 0, true, false⟩)) (fun t => d - t) 0 rfl ⟨Nat.zero_le _, ?_⟩ ?_
    · rw [show max (R[k] - ((0 : Nat) : Int)) 0 = R[k] by omega]; exact h
    clear h s
    rintro t s ⟨ht, h⟩
    by_cases htl : t < d
    rotate_left
    · have htl' : ¬ (t : Int) < (d : Int) := by omega
      simp only [↓Bp, Bq, Bs, ↓aop.eq_28, ↓aop.eq_30, Nat.reduceEqDiff, Nat.reduceAdd, Nat.reduceMul, Nat.reduceSub, Nat.reduceLeDiff, Nat.reduceLT, Int.reduceLT, Int.reduceLE, Int.reduceEq, Int.reduceToNat, Int.reduceAdd, Int.reduceSub, Int.reduceNeg, ↓reduceIte, reduceCtorEq, ↓C.catnaplaw8_ResetLate_W, C.catnaplaw8_ResetLate_B, C.catnaplaw8_ResetLate, htl']
      rw [show t = d by omega] at h
      exact ⟨(), h⟩
    have htl' : (t : Int) < (d : Int) := by omega
    have hw := wsucc htl (by omega)
    simp only [↓Bp, Bq, Bs, ↓aop.eq_28, ↓aop.eq_30, Nat.reduceEqDiff, Nat.reduceAdd, Nat.reduceMul, Nat.reduceSub, Nat.reduceLeDiff, Nat.reduceLT, Int.reduceLT, Int.reduceLE, Int.reduceEq, Int.reduceToNat, Int.reduceAdd, Int.reduceSub, Int.reduceNeg, ↓reduceIte, reduceCtorEq, ↓C.catnaplaw8_ResetLate_W, C.catnaplaw8_ResetLate_B, C.catnaplaw8_ResetLate, htl']
    refine (h.tick1 hk (by show max (R[k] - (t : Int)) 0 ≤ 1000; omega) hR).mono ?_
    rintro r s ⟨rfl, h⟩
    rw [late_goes, if_neg (by simp)]
    rw [late_tick] at h
    have row0 : row (nats []) = .isl 1 [] 0 := rfl
    have c0 : ((0 : Nat) : Int) = 0 := rfl
    simp only [↓Bp, Bq, Bs, ↓aop.eq_28, ↓aop.eq_30, Nat.reduceEqDiff, Nat.reduceAdd, Nat.reduceMul, Nat.reduceSub, Nat.reduceLeDiff, Nat.reduceLT, Int.reduceLT, Int.reduceLE, Int.reduceEq, Int.reduceToNat, Int.reduceAdd, Int.reduceSub, Int.reduceNeg, ↓reduceIte, reduceCtorEq, ↓C.catnaplaw8_ResetLate_r27_w, C.catnaplaw8_ResetLate_r27_b, ↓C.catnaplaw8_ResetLate_c1_w, ↓C.catnaplaw8_ResetLate_r24_w, C.catnaplaw8_ResetLate_r24_b, ↓C.catnaplaw8_ResetLate_c2_w, ↓C.catnaplaw8_ResetLate_r26_w, C.catnaplaw8_ResetLate_r26_b, ↓C.catnaplaw8_ResetLate_c3_w, ↓C.catnaplaw8_ResetLate_c4_w, ↓C.catnaplaw8_ResetLate_r25_w, C.catnaplaw8_ResetLate_r25_b, ↓C.catnaplaw8_ResetLate_b5_w, ↓C.catnaplaw8_ResetLate_c6_w, ↓C.catnaplaw8_ResetLate_c7_w, ↓C.catnaplaw8_ResetLate_r23_w, C.catnaplaw8_ResetLate_r23_b, ↓C.catnaplaw8_ResetLate_b9_w, ↓C.catnaplaw8_ResetLate_c10_w, ↓C.catnaplaw8_ResetLate_r22_w, C.catnaplaw8_ResetLate_r22_b, ↓C.catnaplaw8_ResetLate_c11_w, ↓C.catnaplaw8_ResetLate_r21_w, C.catnaplaw8_ResetLate_r21_b, ↓C.catnaplaw8_ResetLate_c12_w, ↓C.catnaplaw8_ResetLate_c13_w, ↓C.catnaplaw8_ResetLate_r20_w, C.catnaplaw8_ResetLate_r20_b, ↓C.catnaplaw8_ResetLate_c14_w, ↓C.catnaplaw8_ResetLate_r19_w, C.catnaplaw8_ResetLate_r19_b, ↓C.catnaplaw8_ResetLate_c15_w, ↓C.catnaplaw8_ResetLate_r16_w, C.catnaplaw8_ResetLate_r16_b, ↓C.catnaplaw8_ResetLate_c16_w, ↓C.catnaplaw8_ResetLate_r17_w, C.catnaplaw8_ResetLate_r17_b, ↓C.catnaplaw8_ResetLate_b19_w, ↓C.catnaplaw8_ResetLate_c20_w, ↓C.catnaplaw8_ResetLate_c21_w, ↓C.catnaplaw8_ResetLate_r15_w, C.catnaplaw8_ResetLate_r15_b, ↓C.catnaplaw8_ResetLate_b23_w, ↓C.catnaplaw8_ResetLate_c24_w, ↓C.catnaplaw8_ResetLate_r14_w, C.catnaplaw8_ResetLate_r14_b, ↓C.catnaplaw8_ResetLate_c25_w, ↓C.catnaplaw8_ResetLate_r13_w, C.catnaplaw8_ResetLate_r13_b, ↓C.catnaplaw8_ResetLate_c26_w, ↓C.catnaplaw8_ResetLate_r12_w, C.catnaplaw8_ResetLate_r12_b, ↓C.catnaplaw8_ResetLate_c27_w, ↓C.catnaplaw8_ResetLate_r9_w, C.catnaplaw8_ResetLate_r9_b, ↓C.catnaplaw8_ResetLate_c28_w, ↓C.catnaplaw8_ResetLate_r11_w, C.catnaplaw8_ResetLate_r11_b, ↓C.catnaplaw8_ResetLate_c29_w, ↓C.catnaplaw8_ResetLate_c30_w, ↓C.catnaplaw8_ResetLate_r10_w, C.catnaplaw8_ResetLate_r10_b, ↓C.catnaplaw8_ResetLate_b31_w, ↓C.catnaplaw8_ResetLate_c32_w, ↓C.catnaplaw8_ResetLate_c33_w, ↓C.catnaplaw8_ResetLate_r8_w, C.catnaplaw8_ResetLate_r8_b, ↓C.catnaplaw8_ResetLate_b35_w, ↓C.catnaplaw8_ResetLate_c36_w, ↓C.catnaplaw8_ResetLate_r7_w, C.catnaplaw8_ResetLate_r7_b, ↓C.catnaplaw8_ResetLate_c37_w, ↓C.catnaplaw8_ResetLate_r6_w, C.catnaplaw8_ResetLate_r6_b, ↓C.catnaplaw8_ResetLate_c38_w, ↓C.catnaplaw8_ResetLate_r5_w, C.catnaplaw8_ResetLate_r5_b, ↓C.catnaplaw8_ResetLate_c39_w, ↓C.catnaplaw8_ResetLate_c40_w, ↓C.catnaplaw8_ResetLate_r4_w, C.catnaplaw8_ResetLate_r4_b, ↓C.catnaplaw8_ResetLate_c41_w, ↓C.catnaplaw8_ResetLate_r3_w, C.catnaplaw8_ResetLate_r3_b, ↓C.catnaplaw8_ResetLate_c42_w, ↓C.catnaplaw8_ResetLate_r2_w, C.catnaplaw8_ResetLate_r2_b, ↓C.catnaplaw8_ResetLate_c43_w, ↓C.catnaplaw8_ResetLate_r1_w, C.catnaplaw8_ResetLate_r1_b, ↓C.catnaplaw8_ResetLate_c44_w, ↓C.catnaplaw8_ResetLate_r0_w, C.catnaplaw8_ResetLate_r0_b, C.catnaplaw8_ResetLate, row0, c0]
    refine (h.held1 hk).mono ?_
    rintro r s ⟨rfl, rfl⟩
    have hb := h.hb
    have hz2 : (0:Int) ≤ (k : Int) ∧ (k : Int) < (R.length : Nat) := by omega
    have hkk : k + 1 ≤ (R.flatMap rstCells).length := by rw [flatMap_len rstCells_len]; omega
    have hg := rst_get hk
    have w1 : IntKind.i64.wrap (R[k] - t) = R[k] - t := wrap64 (by omega) (by omega)
    have w2 : IntKind.i64.wrap (R[k] - t - 1) = R[k] - t - 1 := wrap64 (by omega) (by omega)
    have hM : (if R[k] - (t : Int) - 1 < 0 then 0 else R[k] - (t : Int) - 1) = max (R[k] - t - 1) 0 := by split <;> omega
    simp only [↓Bp, Bq, Bs, ↓aop.eq_28, ↓aop.eq_30, Nat.reduceEqDiff, Nat.reduceAdd, Nat.reduceMul, Nat.reduceSub, Nat.reduceLeDiff, Nat.reduceLT, Int.reduceLT, Int.reduceLE, Int.reduceEq, Int.reduceToNat, Int.reduceAdd, Int.reduceSub, Int.reduceNeg, ↓reduceIte, reduceCtorEq, ↓C.catnaplaw8_ResetLate_r27_w, C.catnaplaw8_ResetLate_r27_b, ↓C.catnaplaw8_ResetLate_c1_w, ↓C.catnaplaw8_ResetLate_r24_w, C.catnaplaw8_ResetLate_r24_b, ↓C.catnaplaw8_ResetLate_c2_w, ↓C.catnaplaw8_ResetLate_r26_w, C.catnaplaw8_ResetLate_r26_b, ↓C.catnaplaw8_ResetLate_c3_w, ↓C.catnaplaw8_ResetLate_c4_w, ↓C.catnaplaw8_ResetLate_r25_w, C.catnaplaw8_ResetLate_r25_b, ↓C.catnaplaw8_ResetLate_b5_w, ↓C.catnaplaw8_ResetLate_c6_w, ↓C.catnaplaw8_ResetLate_c7_w, ↓C.catnaplaw8_ResetLate_r23_w, C.catnaplaw8_ResetLate_r23_b, ↓C.catnaplaw8_ResetLate_b9_w, ↓C.catnaplaw8_ResetLate_c10_w, ↓C.catnaplaw8_ResetLate_r22_w, C.catnaplaw8_ResetLate_r22_b, ↓C.catnaplaw8_ResetLate_c11_w, ↓C.catnaplaw8_ResetLate_r21_w, C.catnaplaw8_ResetLate_r21_b, ↓C.catnaplaw8_ResetLate_c12_w, ↓C.catnaplaw8_ResetLate_c13_w, ↓C.catnaplaw8_ResetLate_r20_w, C.catnaplaw8_ResetLate_r20_b, ↓C.catnaplaw8_ResetLate_c14_w, ↓C.catnaplaw8_ResetLate_r19_w, C.catnaplaw8_ResetLate_r19_b, ↓C.catnaplaw8_ResetLate_c15_w, ↓C.catnaplaw8_ResetLate_r16_w, C.catnaplaw8_ResetLate_r16_b, ↓C.catnaplaw8_ResetLate_c16_w, ↓C.catnaplaw8_ResetLate_r17_w, C.catnaplaw8_ResetLate_r17_b, ↓C.catnaplaw8_ResetLate_b19_w, ↓C.catnaplaw8_ResetLate_c20_w, ↓C.catnaplaw8_ResetLate_c21_w, ↓C.catnaplaw8_ResetLate_r15_w, C.catnaplaw8_ResetLate_r15_b, ↓C.catnaplaw8_ResetLate_b23_w, ↓C.catnaplaw8_ResetLate_c24_w, ↓C.catnaplaw8_ResetLate_r14_w, C.catnaplaw8_ResetLate_r14_b, ↓C.catnaplaw8_ResetLate_c25_w, ↓C.catnaplaw8_ResetLate_r13_w, C.catnaplaw8_ResetLate_r13_b, ↓C.catnaplaw8_ResetLate_c26_w, ↓C.catnaplaw8_ResetLate_r12_w, C.catnaplaw8_ResetLate_r12_b, ↓C.catnaplaw8_ResetLate_c27_w, ↓C.catnaplaw8_ResetLate_r9_w, C.catnaplaw8_ResetLate_r9_b, ↓C.catnaplaw8_ResetLate_c28_w, ↓C.catnaplaw8_ResetLate_r11_w, C.catnaplaw8_ResetLate_r11_b, ↓C.catnaplaw8_ResetLate_c29_w, ↓C.catnaplaw8_ResetLate_c30_w, ↓C.catnaplaw8_ResetLate_r10_w, C.catnaplaw8_ResetLate_r10_b, ↓C.catnaplaw8_ResetLate_b31_w, ↓C.catnaplaw8_ResetLate_c32_w, ↓C.catnaplaw8_ResetLate_c33_w, ↓C.catnaplaw8_ResetLate_r8_w, C.catnaplaw8_ResetLate_r8_b, ↓C.catnaplaw8_ResetLate_b35_w, ↓C.catnaplaw8_ResetLate_c36_w, ↓C.catnaplaw8_ResetLate_r7_w, C.catnaplaw8_ResetLate_r7_b, ↓C.catnaplaw8_ResetLate_c37_w, ↓C.catnaplaw8_ResetLate_r6_w, C.catnaplaw8_ResetLate_r6_b, ↓C.catnaplaw8_ResetLate_c38_w, ↓C.catnaplaw8_ResetLate_r5_w, C.catnaplaw8_ResetLate_r5_b, ↓C.catnaplaw8_ResetLate_c39_w, ↓C.catnaplaw8_ResetLate_c40_w, ↓C.catnaplaw8_ResetLate_r4_w, C.catnaplaw8_ResetLate_r4_b, ↓C.catnaplaw8_ResetLate_c41_w, ↓C.catnaplaw8_ResetLate_r3_w, C.catnaplaw8_ResetLate_r3_b, ↓C.catnaplaw8_ResetLate_c42_w, ↓C.catnaplaw8_ResetLate_r2_w, C.catnaplaw8_ResetLate_r2_b, ↓C.catnaplaw8_ResetLate_c43_w, ↓C.catnaplaw8_ResetLate_r1_w, C.catnaplaw8_ResetLate_r1_b, ↓C.catnaplaw8_ResetLate_c44_w, ↓C.catnaplaw8_ResetLate_r0_w, C.catnaplaw8_ResetLate_r0_b, C.catnaplaw8_ResetLate, hb, rchip, Soc.cells, Soc.rstV, hz2, Int.toNat_natCast, Nat.mul_one, hkk, hg, w1, w2, hM]
    refine (h.left1 hk).mono ?_
    rintro r s ⟨rfl, rfl⟩
    rw [if_pos (by rfl)]
    simp only [↓Bp, Bq, Bs, ↓aop.eq_28, ↓aop.eq_30, Nat.reduceEqDiff, Nat.reduceAdd, Nat.reduceMul, Nat.reduceSub, Nat.reduceLeDiff, Nat.reduceLT, Int.reduceLT, Int.reduceLE, Int.reduceEq, Int.reduceToNat, Int.reduceAdd, Int.reduceSub, Int.reduceNeg, ↓reduceIte, reduceCtorEq, ↓C.catnaplaw8_ResetLate_W, C.catnaplaw8_ResetLate_B, C.catnaplaw8_ResetLate, hw]
    refine ⟨⟨fun _ => by rw [hb]; rfl, fun _ => hg⟩, t + 1, rfl, ⟨htl, ?_⟩, by omega⟩
    rw [show R[k] - ((t + 1 : Nat) : Int) = R[k] - t - 1 by omega]; exact h
  · clear h s
    rintro - s h
    simp only [↓Bp, Bq, Bs, ↓aop.eq_28, ↓aop.eq_30, Nat.reduceEqDiff, Nat.reduceAdd, Nat.reduceMul, Nat.reduceSub, Nat.reduceLeDiff, Nat.reduceLT, Int.reduceLT, Int.reduceLE, Int.reduceEq, Int.reduceToNat, Int.reduceAdd, Int.reduceSub, Int.reduceNeg, ↓reduceIte, reduceCtorEq, ↓C.catnaplaw8_ResetLate_W, C.catnaplaw8_ResetLate_B, C.catnaplaw8_ResetLate]
    refine (h.left1 hk).mono ?_
    rintro r s ⟨rfl, rfl⟩
    rw [if_pos (by rfl)]
    simp only [↓Bp, Bq, Bs, ↓aop.eq_28, ↓aop.eq_30, Nat.reduceEqDiff, Nat.reduceAdd, Nat.reduceMul, Nat.reduceSub, Nat.reduceLeDiff, Nat.reduceLT, Int.reduceLT, Int.reduceLE, Int.reduceEq, Int.reduceToNat, Int.reduceAdd, Int.reduceSub, Int.reduceNeg, ↓reduceIte, reduceCtorEq, ↓C.catnaplaw8_ResetLate_W, C.catnaplaw8_ResetLate_B, C.catnaplaw8_ResetLate]
    refine (h.release1 hk).mono ?_
    rintro r s ⟨rfl, h⟩
    rw [if_pos (by rfl)]
    simp only [if_true] at h
    simp only [↓Bp, Bq, Bs, ↓aop.eq_28, ↓aop.eq_30, Nat.reduceEqDiff, Nat.reduceAdd, Nat.reduceMul, Nat.reduceSub, Nat.reduceLeDiff, Nat.reduceLT, Int.reduceLT, Int.reduceLE, Int.reduceEq, Int.reduceToNat, Int.reduceAdd, Int.reduceSub, Int.reduceNeg, ↓reduceIte, reduceCtorEq, ↓C.catnaplaw8_ResetLate_r21_w, C.catnaplaw8_ResetLate_r21_b, ↓C.catnaplaw8_ResetLate_c12_w, ↓C.catnaplaw8_ResetLate_c13_w, ↓C.catnaplaw8_ResetLate_r20_w, C.catnaplaw8_ResetLate_r20_b, ↓C.catnaplaw8_ResetLate_c14_w, ↓C.catnaplaw8_ResetLate_r19_w, C.catnaplaw8_ResetLate_r19_b, ↓C.catnaplaw8_ResetLate_c15_w, ↓C.catnaplaw8_ResetLate_r16_w, C.catnaplaw8_ResetLate_r16_b, ↓C.catnaplaw8_ResetLate_c16_w, ↓C.catnaplaw8_ResetLate_r18_w, C.catnaplaw8_ResetLate_r18_b, ↓C.catnaplaw8_ResetLate_c17_w, ↓C.catnaplaw8_ResetLate_c18_w, ↓C.catnaplaw8_ResetLate_r17_w, C.catnaplaw8_ResetLate_r17_b, ↓C.catnaplaw8_ResetLate_b19_w, ↓C.catnaplaw8_ResetLate_c20_w, ↓C.catnaplaw8_ResetLate_c21_w, ↓C.catnaplaw8_ResetLate_r15_w, C.catnaplaw8_ResetLate_r15_b, ↓C.catnaplaw8_ResetLate_b23_w, ↓C.catnaplaw8_ResetLate_c24_w, ↓C.catnaplaw8_ResetLate_r14_w, C.catnaplaw8_ResetLate_r14_b, ↓C.catnaplaw8_ResetLate_c25_w, ↓C.catnaplaw8_ResetLate_r13_w, C.catnaplaw8_ResetLate_r13_b, ↓C.catnaplaw8_ResetLate_c26_w, ↓C.catnaplaw8_ResetLate_r12_w, C.catnaplaw8_ResetLate_r12_b, ↓C.catnaplaw8_ResetLate_c27_w, ↓C.catnaplaw8_ResetLate_r9_w, C.catnaplaw8_ResetLate_r9_b, ↓C.catnaplaw8_ResetLate_c28_w, ↓C.catnaplaw8_ResetLate_r11_w, C.catnaplaw8_ResetLate_r11_b, ↓C.catnaplaw8_ResetLate_c29_w, ↓C.catnaplaw8_ResetLate_c30_w, ↓C.catnaplaw8_ResetLate_r10_w, C.catnaplaw8_ResetLate_r10_b, ↓C.catnaplaw8_ResetLate_b31_w, ↓C.catnaplaw8_ResetLate_c32_w, ↓C.catnaplaw8_ResetLate_c33_w, ↓C.catnaplaw8_ResetLate_r8_w, C.catnaplaw8_ResetLate_r8_b, ↓C.catnaplaw8_ResetLate_b35_w, ↓C.catnaplaw8_ResetLate_c36_w, ↓C.catnaplaw8_ResetLate_r7_w, C.catnaplaw8_ResetLate_r7_b, ↓C.catnaplaw8_ResetLate_c37_w, ↓C.catnaplaw8_ResetLate_r6_w, C.catnaplaw8_ResetLate_r6_b, ↓C.catnaplaw8_ResetLate_c38_w, ↓C.catnaplaw8_ResetLate_r5_w, C.catnaplaw8_ResetLate_r5_b, ↓C.catnaplaw8_ResetLate_c39_w, ↓C.catnaplaw8_ResetLate_c40_w, ↓C.catnaplaw8_ResetLate_r4_w, C.catnaplaw8_ResetLate_r4_b, ↓C.catnaplaw8_ResetLate_c41_w, ↓C.catnaplaw8_ResetLate_r3_w, C.catnaplaw8_ResetLate_r3_b, ↓C.catnaplaw8_ResetLate_c42_w, ↓C.catnaplaw8_ResetLate_r2_w, C.catnaplaw8_ResetLate_r2_b, ↓C.catnaplaw8_ResetLate_c43_w, ↓C.catnaplaw8_ResetLate_r1_w, C.catnaplaw8_ResetLate_r1_b, ↓C.catnaplaw8_ResetLate_c44_w, ↓C.catnaplaw8_ResetLate_r0_w, C.catnaplaw8_ResetLate_r0_b, C.catnaplaw8_ResetLate]
    obtain ⟨L, hL⟩ : ∃ L : Nat, max (R[k] - (d : Int)) 0 = L := ⟨(max (R[k] - (d : Int)) 0).toNat, by omega⟩
    rw [hL] at h ⊢
    rw [C.catnaplaw8_ResetLate_c11_w, awp_keep]
    exact late_end hk hR hR2 (by omega) h
/-- All are held at first. -/
theorem late_first {s : ASt} {z : Int} (hz : -9223372036854775808 ≤ z ∧ z ≤ 9223372036854775807) (h : RSt st s ib p m R (freshL R)) :
    awp Try.prog C.catnaplaw8_ResetLate_c37 (Post [.slot 6] fun r s => r = .bool true ∧ st.le s)
      [(2, .int .i64 z), (8, .ptr ib 0), (9, .ptr p 0), (11, .int .i64 k)] s := by
  simp only [↓Bp, Bq, Bs, ↓aop.eq_28, ↓aop.eq_30, Nat.reduceEqDiff, Nat.reduceAdd, Nat.reduceMul, Nat.reduceSub, Nat.reduceLeDiff, Nat.reduceLT, Int.reduceLT, Int.reduceLE, Int.reduceEq, Int.reduceToNat, Int.reduceAdd, Int.reduceSub, Int.reduceNeg, ↓reduceIte, reduceCtorEq, ↓C.catnaplaw8_ResetLate_W, C.catnaplaw8_ResetLate_B, C.catnaplaw8_ResetLate]
  refine awp_midB (fun _ : Unit => [(2, .int .i64 z), (8, .ptr ib 0), (9, .ptr p 0), (11, .int .i64 k)]) (fun _ s => RSt st s ib p m R (freshL R)) ?_ ?_
  · refine awp_loopK (fun t : Nat => [(2, .int .i64 z), (8, .ptr ib 0), (9, .ptr p 0), (11, .int .i64 k), (12, .int .i64 t)]) (fun t s => t ≤ R.length ∧ RSt st s ib p m R (freshL R)) (fun t => R.length - t) 0 rfl ⟨Nat.zero_le _, h⟩ ?_
    clear h s
    rintro t s ⟨ht, h⟩
    have hb := h.hb
    by_cases htl : t < R.length
    rotate_left
    · have htl' : ¬ (t : Int) < (R.length : Nat) := by omega
      simp only [↓Bp, Bq, Bs, ↓aop.eq_28, ↓aop.eq_30, Nat.reduceEqDiff, Nat.reduceAdd, Nat.reduceMul, Nat.reduceSub, Nat.reduceLeDiff, Nat.reduceLT, Int.reduceLT, Int.reduceLE, Int.reduceEq, Int.reduceToNat, Int.reduceAdd, Int.reduceSub, Int.reduceNeg, ↓reduceIte, reduceCtorEq, ↓C.catnaplaw8_ResetLate_W, C.catnaplaw8_ResetLate_B, C.catnaplaw8_ResetLate, htl', hb, rchip, Soc.cells, Soc.rstV]
      exact ⟨(), h⟩
    have htl' : (t : Int) < (R.length : Nat) := by omega
    have hw := wsucc htl (by omega)
    rw [← oneL_self htl] at h
    simp only [↓Bp, Bq, Bs, ↓aop.eq_28, ↓aop.eq_30, Nat.reduceEqDiff, Nat.reduceAdd, Nat.reduceMul, Nat.reduceSub, Nat.reduceLeDiff, Nat.reduceLT, Int.reduceLT, Int.reduceLE, Int.reduceEq, Int.reduceToNat, Int.reduceAdd, Int.reduceSub, Int.reduceNeg, ↓reduceIte, reduceCtorEq, ↓C.catnaplaw8_ResetLate_W, C.catnaplaw8_ResetLate_B, C.catnaplaw8_ResetLate, htl', hb, rchip, Soc.cells, Soc.rstV]
    refine (h.held1 htl).mono ?_
    rintro r s ⟨rfl, rfl⟩
    simp only [↓Bp, Bq, Bs, ↓aop.eq_28, ↓aop.eq_30, Nat.reduceEqDiff, Nat.reduceAdd, Nat.reduceMul, Nat.reduceSub, Nat.reduceLeDiff, Nat.reduceLT, Int.reduceLT, Int.reduceLE, Int.reduceEq, Int.reduceToNat, Int.reduceAdd, Int.reduceSub, Int.reduceNeg, ↓reduceIte, reduceCtorEq, ↓C.catnaplaw8_ResetLate_r27_w, C.catnaplaw8_ResetLate_r27_b, ↓C.catnaplaw8_ResetLate_c1_w, ↓C.catnaplaw8_ResetLate_r24_w, C.catnaplaw8_ResetLate_r24_b, ↓C.catnaplaw8_ResetLate_c2_w, ↓C.catnaplaw8_ResetLate_r26_w, C.catnaplaw8_ResetLate_r26_b, ↓C.catnaplaw8_ResetLate_c3_w, ↓C.catnaplaw8_ResetLate_c4_w, ↓C.catnaplaw8_ResetLate_r25_w, C.catnaplaw8_ResetLate_r25_b, ↓C.catnaplaw8_ResetLate_b5_w, ↓C.catnaplaw8_ResetLate_c6_w, ↓C.catnaplaw8_ResetLate_c7_w, ↓C.catnaplaw8_ResetLate_r23_w, C.catnaplaw8_ResetLate_r23_b, ↓C.catnaplaw8_ResetLate_b9_w, ↓C.catnaplaw8_ResetLate_c10_w, ↓C.catnaplaw8_ResetLate_r22_w, C.catnaplaw8_ResetLate_r22_b, ↓C.catnaplaw8_ResetLate_c11_w, ↓C.catnaplaw8_ResetLate_r21_w, C.catnaplaw8_ResetLate_r21_b, ↓C.catnaplaw8_ResetLate_c12_w, ↓C.catnaplaw8_ResetLate_c13_w, ↓C.catnaplaw8_ResetLate_r20_w, C.catnaplaw8_ResetLate_r20_b, ↓C.catnaplaw8_ResetLate_c14_w, ↓C.catnaplaw8_ResetLate_r19_w, C.catnaplaw8_ResetLate_r19_b, ↓C.catnaplaw8_ResetLate_c15_w, ↓C.catnaplaw8_ResetLate_r16_w, C.catnaplaw8_ResetLate_r16_b, ↓C.catnaplaw8_ResetLate_c16_w, ↓C.catnaplaw8_ResetLate_r18_w, C.catnaplaw8_ResetLate_r18_b, ↓C.catnaplaw8_ResetLate_c17_w, ↓C.catnaplaw8_ResetLate_c18_w, ↓C.catnaplaw8_ResetLate_r17_w, C.catnaplaw8_ResetLate_r17_b, ↓C.catnaplaw8_ResetLate_b19_w, ↓C.catnaplaw8_ResetLate_c20_w, ↓C.catnaplaw8_ResetLate_c21_w, ↓C.catnaplaw8_ResetLate_r15_w, C.catnaplaw8_ResetLate_r15_b, ↓C.catnaplaw8_ResetLate_b23_w, ↓C.catnaplaw8_ResetLate_c24_w, ↓C.catnaplaw8_ResetLate_r14_w, C.catnaplaw8_ResetLate_r14_b, ↓C.catnaplaw8_ResetLate_c25_w, ↓C.catnaplaw8_ResetLate_r13_w, C.catnaplaw8_ResetLate_r13_b, ↓C.catnaplaw8_ResetLate_c26_w, ↓C.catnaplaw8_ResetLate_r12_w, C.catnaplaw8_ResetLate_r12_b, ↓C.catnaplaw8_ResetLate_c27_w, ↓C.catnaplaw8_ResetLate_r9_w, C.catnaplaw8_ResetLate_r9_b, ↓C.catnaplaw8_ResetLate_c28_w, ↓C.catnaplaw8_ResetLate_r10_w, C.catnaplaw8_ResetLate_r10_b, ↓C.catnaplaw8_ResetLate_b31_w, ↓C.catnaplaw8_ResetLate_c32_w, ↓C.catnaplaw8_ResetLate_c33_w, ↓C.catnaplaw8_ResetLate_r8_w, C.catnaplaw8_ResetLate_r8_b, ↓C.catnaplaw8_ResetLate_b35_w, ↓C.catnaplaw8_ResetLate_c36_w, ↓C.catnaplaw8_ResetLate_r7_w, C.catnaplaw8_ResetLate_r7_b, ↓C.catnaplaw8_ResetLate_c37_w, ↓C.catnaplaw8_ResetLate_r6_w, C.catnaplaw8_ResetLate_r6_b, ↓C.catnaplaw8_ResetLate_c38_w, ↓C.catnaplaw8_ResetLate_r5_w, C.catnaplaw8_ResetLate_r5_b, ↓C.catnaplaw8_ResetLate_c39_w, ↓C.catnaplaw8_ResetLate_c40_w, ↓C.catnaplaw8_ResetLate_r4_w, C.catnaplaw8_ResetLate_r4_b, ↓C.catnaplaw8_ResetLate_c41_w, ↓C.catnaplaw8_ResetLate_r3_w, C.catnaplaw8_ResetLate_r3_b, ↓C.catnaplaw8_ResetLate_c42_w, ↓C.catnaplaw8_ResetLate_r2_w, C.catnaplaw8_ResetLate_r2_b, ↓C.catnaplaw8_ResetLate_c43_w, ↓C.catnaplaw8_ResetLate_r1_w, C.catnaplaw8_ResetLate_r1_b, ↓C.catnaplaw8_ResetLate_c44_w, ↓C.catnaplaw8_ResetLate_r0_w, C.catnaplaw8_ResetLate_r0_b, C.catnaplaw8_ResetLate]
    refine (h.left1 htl).mono ?_
    rintro r s ⟨rfl, rfl⟩
    rw [if_pos (by rfl)]
    rw [oneL_self htl] at h
    simp only [↓Bp, Bq, Bs, ↓aop.eq_28, ↓aop.eq_30, Nat.reduceEqDiff, Nat.reduceAdd, Nat.reduceMul, Nat.reduceSub, Nat.reduceLeDiff, Nat.reduceLT, Int.reduceLT, Int.reduceLE, Int.reduceEq, Int.reduceToNat, Int.reduceAdd, Int.reduceSub, Int.reduceNeg, ↓reduceIte, reduceCtorEq, ↓C.catnaplaw8_ResetLate_W, C.catnaplaw8_ResetLate_B, C.catnaplaw8_ResetLate, hw]
    exact ⟨t + 1, rfl, ⟨htl, h⟩, by omega⟩
  · clear h s
    rintro - s h
    simp only [↓Bp, Bq, Bs, ↓aop.eq_28, ↓aop.eq_30, Nat.reduceEqDiff, Nat.reduceAdd, Nat.reduceMul, Nat.reduceSub, Nat.reduceLeDiff, Nat.reduceLT, Int.reduceLT, Int.reduceLE, Int.reduceEq, Int.reduceToNat, Int.reduceAdd, Int.reduceSub, Int.reduceNeg, ↓reduceIte, reduceCtorEq, ↓C.catnaplaw8_ResetLate_W, C.catnaplaw8_ResetLate_B, C.catnaplaw8_ResetLate]
    refine (pick_spec hz (n := 60) (by omega)).mono ?_
    rintro r s ⟨rfl, rfl⟩
    have hlt := pickI_lt z (n := 60) (by omega)
    generalize pickI z 60 = d at hlt
    rw [← oneL_self hk] at h
    simp only [↓Bp, Bq, Bs, ↓aop.eq_28, ↓aop.eq_30, Nat.reduceEqDiff, Nat.reduceAdd, Nat.reduceMul, Nat.reduceSub, Nat.reduceLeDiff, Nat.reduceLT, Int.reduceLT, Int.reduceLE, Int.reduceEq, Int.reduceToNat, Int.reduceAdd, Int.reduceSub, Int.reduceNeg, ↓reduceIte, reduceCtorEq, ↓C.catnaplaw8_ResetLate_W, C.catnaplaw8_ResetLate_B, C.catnaplaw8_ResetLate]
    refine (h.assert1 hk).mono ?_
    rintro r s ⟨rfl, h⟩
    simp only [↓Bp, Bq, Bs, ↓aop.eq_28, ↓aop.eq_30, Nat.reduceEqDiff, Nat.reduceAdd, Nat.reduceMul, Nat.reduceSub, Nat.reduceLeDiff, Nat.reduceLT, Int.reduceLT, Int.reduceLE, Int.reduceEq, Int.reduceToNat, Int.reduceAdd, Int.reduceSub, Int.reduceNeg, ↓reduceIte, reduceCtorEq, ↓C.catnaplaw8_ResetLate_r13_w, C.catnaplaw8_ResetLate_r13_b, ↓C.catnaplaw8_ResetLate_c26_w, ↓C.catnaplaw8_ResetLate_r12_w, C.catnaplaw8_ResetLate_r12_b, ↓C.catnaplaw8_ResetLate_c27_w, ↓C.catnaplaw8_ResetLate_r9_w, C.catnaplaw8_ResetLate_r9_b, ↓C.catnaplaw8_ResetLate_c28_w, ↓C.catnaplaw8_ResetLate_r11_w, C.catnaplaw8_ResetLate_r11_b, ↓C.catnaplaw8_ResetLate_c29_w, ↓C.catnaplaw8_ResetLate_c30_w, ↓C.catnaplaw8_ResetLate_r10_w, C.catnaplaw8_ResetLate_r10_b, ↓C.catnaplaw8_ResetLate_b31_w, ↓C.catnaplaw8_ResetLate_c32_w, ↓C.catnaplaw8_ResetLate_c33_w, ↓C.catnaplaw8_ResetLate_r8_w, C.catnaplaw8_ResetLate_r8_b, ↓C.catnaplaw8_ResetLate_b35_w, ↓C.catnaplaw8_ResetLate_c36_w, ↓C.catnaplaw8_ResetLate_r7_w, C.catnaplaw8_ResetLate_r7_b, ↓C.catnaplaw8_ResetLate_c37_w, ↓C.catnaplaw8_ResetLate_r6_w, C.catnaplaw8_ResetLate_r6_b, ↓C.catnaplaw8_ResetLate_c38_w, ↓C.catnaplaw8_ResetLate_r5_w, C.catnaplaw8_ResetLate_r5_b, ↓C.catnaplaw8_ResetLate_c39_w, ↓C.catnaplaw8_ResetLate_c40_w, ↓C.catnaplaw8_ResetLate_r4_w, C.catnaplaw8_ResetLate_r4_b, ↓C.catnaplaw8_ResetLate_c41_w, ↓C.catnaplaw8_ResetLate_r3_w, C.catnaplaw8_ResetLate_r3_b, ↓C.catnaplaw8_ResetLate_c42_w, ↓C.catnaplaw8_ResetLate_r2_w, C.catnaplaw8_ResetLate_r2_b, ↓C.catnaplaw8_ResetLate_c43_w, ↓C.catnaplaw8_ResetLate_r1_w, C.catnaplaw8_ResetLate_r1_b, ↓C.catnaplaw8_ResetLate_c44_w, ↓C.catnaplaw8_ResetLate_r0_w, C.catnaplaw8_ResetLate_r0_b, C.catnaplaw8_ResetLate]
    rw [C.catnaplaw8_ResetLate_c25_w, awp_keep]
    exact late_mid hk hR hR2 hlt h
end
theorem resetlate_spec {st : ASt} {l : List Int} {y z : Int} (hl : ∀ x ∈ l, -9223372036854775808 ≤ x ∧ x ≤ 9223372036854775807) (hll : l.length ≤ 9223372036854775807)
    (hy : -9223372036854775808 ≤ y ∧ y ≤ 9223372036854775807) (hz : -9223372036854775808 ≤ z ∧ z ≤ 9223372036854775807) :
    ACalls Try.prog F.catnaplaw8_ResetLate [row l, .int .i64 y, .int .i64 z] st fun r s => r = .bool true ∧ s = st := by
  refine ACalls.gc (Q' := fun r s => r = .bool true ∧ st.le s) (calls_of_awp L.catnaplaw8_ResetLate rfl ?_) (fun v s ⟨h, hl⟩ => ⟨st, hl, h, rfl⟩)
  simp only [↓Bp, Bq, Bs, ↓aop.eq_28, ↓aop.eq_30, Nat.reduceEqDiff, Nat.reduceAdd, Nat.reduceMul, Nat.reduceSub, Nat.reduceLeDiff, Nat.reduceLT, Int.reduceLT, Int.reduceLE, Int.reduceEq, Int.reduceToNat, Int.reduceAdd, Int.reduceSub, Int.reduceNeg, ↓reduceIte, reduceCtorEq, ↓C.catnaplaw8_ResetLate_W, C.catnaplaw8_ResetLate_B, C.catnaplaw8_ResetLate]
  refine (shown_spec st).mono ?_
  rintro r s ⟨rfl, rfl⟩
  simp only [↓Bp, Bq, Bs, ↓aop.eq_28, ↓aop.eq_30, Nat.reduceEqDiff, Nat.reduceAdd, Nat.reduceMul, Nat.reduceSub, Nat.reduceLeDiff, Nat.reduceLT, Int.reduceLT, Int.reduceLE, Int.reduceEq, Int.reduceToNat, Int.reduceAdd, Int.reduceSub, Int.reduceNeg, ↓reduceIte, reduceCtorEq, ↓C.catnaplaw8_ResetLate_W, C.catnaplaw8_ResetLate_B, C.catnaplaw8_ResetLate]
  refine (rchip_spec hl hll).mono ?_
  rintro r s ⟨rfl, rfl⟩
  have hR := rOf_len l
  have hR2 := rOf_ok l
  generalize rOf l = R at hR hR2
  have l4 : (rchip R).cells.length = 4 := rfl
  have e4 : AV.agg (List.take 4 (rchip R).cells) = .agg (rchip R).cells := rfl
  have f4 : allLeaf (rchip R).cells = true := rfl
  simp only [↓Bp, Bq, Bs, ↓aop.eq_28, ↓aop.eq_30, Nat.reduceEqDiff, Nat.reduceAdd, Nat.reduceMul, Nat.reduceSub, Nat.reduceLeDiff, Nat.reduceLT, Int.reduceLT, Int.reduceLE, Int.reduceEq, Int.reduceToNat, Int.reduceAdd, Int.reduceSub, Int.reduceNeg, ↓reduceIte, reduceCtorEq, ↓C.catnaplaw8_ResetLate_r2_w, C.catnaplaw8_ResetLate_r2_b, ↓C.catnaplaw8_ResetLate_c43_w, ↓C.catnaplaw8_ResetLate_r1_w, C.catnaplaw8_ResetLate_r1_b, ↓C.catnaplaw8_ResetLate_c44_w, ↓C.catnaplaw8_ResetLate_r0_w, C.catnaplaw8_ResetLate_r0_b, C.catnaplaw8_ResetLate, l4, f4]
  rintro ib hib
  simp only [↓Bp, Bq, Bs, ↓aop.eq_28, ↓aop.eq_30, Nat.reduceEqDiff, Nat.reduceAdd, Nat.reduceMul, Nat.reduceSub, Nat.reduceLeDiff, Nat.reduceLT, Int.reduceLT, Int.reduceLE, Int.reduceEq, Int.reduceToNat, Int.reduceAdd, Int.reduceSub, Int.reduceNeg, ↓reduceIte, reduceCtorEq, ↓C.catnaplaw8_ResetLate_r2_w, C.catnaplaw8_ResetLate_r2_b, ↓C.catnaplaw8_ResetLate_c43_w, ↓C.catnaplaw8_ResetLate_r1_w, C.catnaplaw8_ResetLate_r1_b, ↓C.catnaplaw8_ResetLate_c44_w, ↓C.catnaplaw8_ResetLate_r0_w, C.catnaplaw8_ResetLate_r0_b, C.catnaplaw8_ResetLate, hib, l4, f4]
  rw [ASt.new_set hib, show putN [AV.nils, AV.nils, AV.nils, AV.nils] 0 (rchip R).cells = (rchip R).cells from putN_all rfl]
  simp only [↓Bp, Bq, Bs, ↓aop.eq_28, ↓aop.eq_30, Nat.reduceEqDiff, Nat.reduceAdd, Nat.reduceMul, Nat.reduceSub, Nat.reduceLeDiff, Nat.reduceLT, Int.reduceLT, Int.reduceLE, Int.reduceEq, Int.reduceToNat, Int.reduceAdd, Int.reduceSub, Int.reduceNeg, ↓reduceIte, reduceCtorEq, ↓C.catnaplaw8_ResetLate_W, C.catnaplaw8_ResetLate_B, C.catnaplaw8_ResetLate, hib, l4, e4]
  refine (start_spec hib hR hR2).mono ?_
  rintro r s1 ⟨p, m, rfl, h⟩
  have hb := h.hb
  rw [rchip, Soc.cells, Soc.rstV] at hb
  by_cases hR0 : R.length = 0
  · have hz0 : (R.length : Int) = 0 := by omega
    simp only [↓Bp, Bq, Bs, ↓aop.eq_28, ↓aop.eq_30, Nat.reduceEqDiff, Nat.reduceAdd, Nat.reduceMul, Nat.reduceSub, Nat.reduceLeDiff, Nat.reduceLT, Int.reduceLT, Int.reduceLE, Int.reduceEq, Int.reduceToNat, Int.reduceAdd, Int.reduceSub, Int.reduceNeg, ↓reduceIte, reduceCtorEq, ↓C.catnaplaw8_ResetLate_W, C.catnaplaw8_ResetLate_B, C.catnaplaw8_ResetLate, hb, hz0]
    exact h.le
  have hz0 : ¬ (R.length : Int) = 0 := by omega
  simp only [↓Bp, Bq, Bs, ↓aop.eq_28, ↓aop.eq_30, Nat.reduceEqDiff, Nat.reduceAdd, Nat.reduceMul, Nat.reduceSub, Nat.reduceLeDiff, Nat.reduceLT, Int.reduceLT, Int.reduceLE, Int.reduceEq, Int.reduceToNat, Int.reduceAdd, Int.reduceSub, Int.reduceNeg, ↓reduceIte, reduceCtorEq, ↓C.catnaplaw8_ResetLate_r5_w, C.catnaplaw8_ResetLate_r5_b, ↓C.catnaplaw8_ResetLate_c39_w, ↓C.catnaplaw8_ResetLate_c40_w, ↓C.catnaplaw8_ResetLate_r4_w, C.catnaplaw8_ResetLate_r4_b, ↓C.catnaplaw8_ResetLate_c41_w, ↓C.catnaplaw8_ResetLate_r3_w, C.catnaplaw8_ResetLate_r3_b, ↓C.catnaplaw8_ResetLate_c42_w, ↓C.catnaplaw8_ResetLate_r2_w, C.catnaplaw8_ResetLate_r2_b, ↓C.catnaplaw8_ResetLate_c43_w, ↓C.catnaplaw8_ResetLate_r1_w, C.catnaplaw8_ResetLate_r1_b, ↓C.catnaplaw8_ResetLate_c44_w, ↓C.catnaplaw8_ResetLate_r0_w, C.catnaplaw8_ResetLate_r0_b, C.catnaplaw8_ResetLate, hb, hz0]
  simp only [↓Bp, Bq, Bs, ↓aop.eq_28, ↓aop.eq_30, Nat.reduceEqDiff, Nat.reduceAdd, Nat.reduceMul, Nat.reduceSub, Nat.reduceLeDiff, Nat.reduceLT, Int.reduceLT, Int.reduceLE, Int.reduceEq, Int.reduceToNat, Int.reduceAdd, Int.reduceSub, Int.reduceNeg, ↓reduceIte, reduceCtorEq, ↓C.catnaplaw8_ResetLate_W, C.catnaplaw8_ResetLate_B, C.catnaplaw8_ResetLate, hb]
  refine (pick_spec hy (n := R.length) (by omega)).mono ?_
  rintro r s ⟨rfl, rfl⟩
  simp only [↓Bp, Bq, Bs, ↓aop.eq_28, ↓aop.eq_30, Nat.reduceEqDiff, Nat.reduceAdd, Nat.reduceMul, Nat.reduceSub, Nat.reduceLeDiff, Nat.reduceLT, Int.reduceLT, Int.reduceLE, Int.reduceEq, Int.reduceToNat, Int.reduceAdd, Int.reduceSub, Int.reduceNeg, ↓reduceIte, reduceCtorEq, ↓C.catnaplaw8_ResetLate_r6_w, C.catnaplaw8_ResetLate_r6_b, ↓C.catnaplaw8_ResetLate_c38_w, ↓C.catnaplaw8_ResetLate_r5_w, C.catnaplaw8_ResetLate_r5_b, ↓C.catnaplaw8_ResetLate_c39_w, ↓C.catnaplaw8_ResetLate_c40_w, ↓C.catnaplaw8_ResetLate_r4_w, C.catnaplaw8_ResetLate_r4_b, ↓C.catnaplaw8_ResetLate_c41_w, ↓C.catnaplaw8_ResetLate_r3_w, C.catnaplaw8_ResetLate_r3_b, ↓C.catnaplaw8_ResetLate_c42_w, ↓C.catnaplaw8_ResetLate_r2_w, C.catnaplaw8_ResetLate_r2_b, ↓C.catnaplaw8_ResetLate_c43_w, ↓C.catnaplaw8_ResetLate_r1_w, C.catnaplaw8_ResetLate_r1_b, ↓C.catnaplaw8_ResetLate_c44_w, ↓C.catnaplaw8_ResetLate_r0_w, C.catnaplaw8_ResetLate_r0_b, C.catnaplaw8_ResetLate]
  rw [C.catnaplaw8_ResetLate_c37_w, awp_keep]
  exact late_first (pickI_lt y (n := R.length) (by omega)) hR hR2 hz h
end Go.Proofs.Ytkabdilikndhbaa.Cn
