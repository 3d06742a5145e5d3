/- Reset lines: ResetAgain, the walk. -/
import Derived.Test.YtkabdilikndhbaaCnRAgain
set_option linter.unusedSimpArgs false
set_option linter.unusedVariables false
set_option linter.unusedSectionVars false
namespace Go.Proofs.Ytkabdilikndhbaa.Cn
open Go Go.Proofs

/-- The other line after i ticks. -/
def ay (a b : Nat) (n : Int) (i : Nat) : Ln := if a = b then ⟨n, 0, true, false⟩ else if i = 0 then ⟨n, 0, true, true⟩ else ⟨n, 0, false, false⟩
theorem ay_left (a b : Nat) (n : Int) (i : Nat) : (ay a b n i).left ≤ 1000 := by
  unfold ay; split
  · show (0 : Int) ≤ 1000; omega
  · split <;> (show (0 : Int) ≤ 1000; omega)
theorem ay_tick (a b : Nat) (n : Int) (i : Nat) : Cn.tick1 (ay a b n i) = ay a b n (i + 1) := by
  unfold ay
  by_cases h : a = b
  · rw [if_pos h, if_pos h]; rfl
  · rw [if_neg h, if_neg h, if_neg (show ¬ i + 1 = 0 by omega)]
    split <;> rfl
theorem ay_goes {a b : Nat} (h : a ≠ b) (n : Int) : goes (ay a b n 0) = true := by
  unfold ay; rw [if_neg h]; rfl
theorem ay_goes2 {a b : Nat} (n : Int) {i : Nat} (h : i ≠ 0) : a = b ∨ goes (ay a b n i) = false := by
  by_cases h2 : a = b
  · exact .inl h2
  · right; unfold ay; rw [if_neg h2, if_neg h]; rfl
theorem ay_held {a b : Nat} (h : a ≠ b) (n : Int) (i : Nat) : (ay a b n (i + 1)).held = false := by
  unfold ay; rw [if_neg h]; rfl
section
variable {st : ASt} {ib p m : Nat} {R : List Int} {a b : Nat} (ha : a < R.length) (hb2 : b < R.length) (hR : R.length ≤ 6) (hR2 : ∀ x ∈ R, 0 ≤ x ∧ x ≤ 20)
include ha hb2 hR hR2
set_option maxHeartbeats 1000000 in
theorem again_loop {s : ASt} (h : RSt st s ib p m R (twoL R a ⟨R[a], R[a], true, false⟩ b (ay a b R[b] 0))) :
    awp Try.prog C.catnaplaw8_ResetAgain_c12 (Post [.slot 6] fun r s => r = .bool true ∧ st.le s)
      [(8, .ptr ib 0), (9, .ptr p 0), (11, .int .i64 a), (12, .int .i64 b)] s := by
  have hk2 := hR2 _ (List.getElem_mem ha)
  have row0 : row [] = .isl 1 [] 0 := rfl
  have row1 : row [(b : Int)] = .isl 1 [.int .i64 b] 1 := rfl
  have c0 : ((0 : Nat) : Int) = 0 := rfl
  have c1 : ((1 : Nat) : Int) = 1 := rfl
  simp only [↓Bp, Bq, Bs, ↓aop.eq_28, ↓aop.eq_30, Nat.reduceEqDiff, Nat.reduceAdd, Nat.reduceMul, Nat.reduceSub, Nat.reduceLeDiff, Nat.reduceLT, Int.reduceLT, Int.reduceLE, Int.reduceEq, Int.reduceToNat, Int.reduceAdd, Int.reduceSub, Int.reduceNeg, ↓reduceIte, reduceCtorEq, ↓C.catnaplaw8_ResetAgain_W, C.catnaplaw8_ResetAgain_B, C.catnaplaw8_ResetAgain]
  refine awp_midB (fun _ : Unit => [(9, .ptr p 0), (11, .int .i64 a)]) (fun _ s => RSt st s ib p m R (twoL R a ⟨R[a], 0, true, false⟩ b (ay a b R[b] 25))) ?_ ?_
  · refine awp_loopK (fun t : Nat => [(8, .ptr ib 0), (9, .ptr p 0), (11, .int .i64 a), (12, .int .i64 b), (13, .int .i64 t)]) (fun t s => t ≤ 25 ∧ RSt st s ib p m R (twoL R a ⟨R[a], max (R[a] - t) 0, true, false⟩ b (ay a b R[b] t))) (fun t => 25 - t) 0 rfl ⟨Nat.zero_le _, ?_⟩ ?_
    · rw [show max (R[a] - ((0 : Nat) : Int)) 0 = R[a] by omega]; exact h
    clear h s
    rintro t s ⟨ht, h⟩
    by_cases htl : t < 25
    rotate_left
    · have htl' : ¬ (t : Int) < 25 := by omega
      simp only [↓Bp, Bq, Bs, ↓aop.eq_28, ↓aop.eq_30, Nat.reduceEqDiff, Nat.reduceAdd, Nat.reduceMul, Nat.reduceSub, Nat.reduceLeDiff, Nat.reduceLT, Int.reduceLT, Int.reduceLE, Int.reduceEq, Int.reduceToNat, Int.reduceAdd, Int.reduceSub, Int.reduceNeg, ↓reduceIte, reduceCtorEq, ↓C.catnaplaw8_ResetAgain_W, C.catnaplaw8_ResetAgain_B, C.catnaplaw8_ResetAgain, htl']
      rw [show t = 25 by omega, show max (R[a] - ((25 : Nat) : Int)) 0 = 0 by omega] at h
      exact ⟨(), h⟩
    have htl' : (t : Int) < 25 := by omega
    have hw := wsucc htl (by omega)
    have hz2 : (0:Int) ≤ (a : Int) ∧ (a : Int) < (R.length : Nat) := by omega
    have hkk : a + 1 ≤ (R.flatMap rstCells).length := by rw [flatMap_len rstCells_len]; omega
    have hg := rst_get ha
    have w1 : IntKind.i64.wrap (R[a] - t) = R[a] - t := wrap64 (by omega) (by omega)
    have w2 : IntKind.i64.wrap (R[a] - t - 1) = R[a] - t - 1 := wrap64 (by omega) (by omega)
    have hM : (if R[a] - (t : Int) - 1 < 0 then 0 else R[a] - (t : Int) - 1) = max (R[a] - t - 1) 0 := by split <;> omega
    simp only [↓Bp, Bq, Bs, ↓aop.eq_28, ↓aop.eq_30, Nat.reduceEqDiff, Nat.reduceAdd, Nat.reduceMul, Nat.reduceSub, Nat.reduceLeDiff, Nat.reduceLT, Int.reduceLT, Int.reduceLE, Int.reduceEq, Int.reduceToNat, Int.reduceAdd, Int.reduceSub, Int.reduceNeg, ↓reduceIte, reduceCtorEq, ↓C.catnaplaw8_ResetAgain_W, C.catnaplaw8_ResetAgain_B, C.catnaplaw8_ResetAgain, htl']
    refine (h.tick2 (by show max (R[a] - (t : Int)) 0 ≤ 1000; omega) (ay_left _ _ _ _) hR).mono ?_
    rintro r s ⟨rfl, h⟩
    rw [late_tick, ay_tick] at h
    have hb := h.hb
    simp only [↓Bp, Bq, Bs, ↓aop.eq_28, ↓aop.eq_30, Nat.reduceEqDiff, Nat.reduceAdd, Nat.reduceMul, Nat.reduceSub, Nat.reduceLeDiff, Nat.reduceLT, Int.reduceLT, Int.reduceLE, Int.reduceEq, Int.reduceToNat, Int.reduceAdd, Int.reduceSub, Int.reduceNeg, ↓reduceIte, reduceCtorEq, ↓C.catnaplaw8_ResetAgain_r18_w, C.catnaplaw8_ResetAgain_r18_b, ↓C.catnaplaw8_ResetAgain_c1_w, ↓C.catnaplaw8_ResetAgain_r14_w, C.catnaplaw8_ResetAgain_r14_b, ↓C.catnaplaw8_ResetAgain_c2_w, ↓C.catnaplaw8_ResetAgain_r16_w, C.catnaplaw8_ResetAgain_r16_b, ↓C.catnaplaw8_ResetAgain_c5_w, ↓C.catnaplaw8_ResetAgain_r15_w, C.catnaplaw8_ResetAgain_r15_b, ↓C.catnaplaw8_ResetAgain_b6_w, ↓C.catnaplaw8_ResetAgain_c7_w, ↓C.catnaplaw8_ResetAgain_c8_w, ↓C.catnaplaw8_ResetAgain_r13_w, C.catnaplaw8_ResetAgain_r13_b, ↓C.catnaplaw8_ResetAgain_b10_w, ↓C.catnaplaw8_ResetAgain_c11_w, ↓C.catnaplaw8_ResetAgain_r12_w, C.catnaplaw8_ResetAgain_r12_b, ↓C.catnaplaw8_ResetAgain_c12_w, ↓C.catnaplaw8_ResetAgain_r11_w, C.catnaplaw8_ResetAgain_r11_b, ↓C.catnaplaw8_ResetAgain_c13_w, ↓C.catnaplaw8_ResetAgain_r10_w, C.catnaplaw8_ResetAgain_r10_b, ↓C.catnaplaw8_ResetAgain_c14_w, ↓C.catnaplaw8_ResetAgain_r9_w, C.catnaplaw8_ResetAgain_r9_b, ↓C.catnaplaw8_ResetAgain_c15_w, ↓C.catnaplaw8_ResetAgain_r8_w, C.catnaplaw8_ResetAgain_r8_b, ↓C.catnaplaw8_ResetAgain_c16_w, ↓C.catnaplaw8_ResetAgain_r7_w, C.catnaplaw8_ResetAgain_r7_b, ↓C.catnaplaw8_ResetAgain_c17_w, ↓C.catnaplaw8_ResetAgain_r6_w, C.catnaplaw8_ResetAgain_r6_b, ↓C.catnaplaw8_ResetAgain_c18_w, ↓C.catnaplaw8_ResetAgain_r5_w, C.catnaplaw8_ResetAgain_r5_b, ↓C.catnaplaw8_ResetAgain_c19_w, ↓C.catnaplaw8_ResetAgain_c20_w, ↓C.catnaplaw8_ResetAgain_r4_w, C.catnaplaw8_ResetAgain_r4_b, ↓C.catnaplaw8_ResetAgain_c21_w, ↓C.catnaplaw8_ResetAgain_r3_w, C.catnaplaw8_ResetAgain_r3_b, ↓C.catnaplaw8_ResetAgain_c22_w, ↓C.catnaplaw8_ResetAgain_r2_w, C.catnaplaw8_ResetAgain_r2_b, ↓C.catnaplaw8_ResetAgain_c23_w, ↓C.catnaplaw8_ResetAgain_r1_w, C.catnaplaw8_ResetAgain_r1_b, ↓C.catnaplaw8_ResetAgain_c24_w, ↓C.catnaplaw8_ResetAgain_r0_w, C.catnaplaw8_ResetAgain_r0_b, C.catnaplaw8_ResetAgain, hb, rchip, Soc.cells, Soc.rstV, hz2, Int.toNat_natCast, Nat.mul_one, hkk, hg, w1, w2, hM]
    refine (h.left2 ha).mono ?_
    rintro r s ⟨rfl, rfl⟩
    rw [if_pos (by rfl)]
    simp only [↓Bp, Bq, Bs, ↓aop.eq_28, ↓aop.eq_30, Nat.reduceEqDiff, Nat.reduceAdd, Nat.reduceMul, Nat.reduceSub, Nat.reduceLeDiff, Nat.reduceLT, Int.reduceLT, Int.reduceLE, Int.reduceEq, Int.reduceToNat, Int.reduceAdd, Int.reduceSub, Int.reduceNeg, ↓reduceIte, reduceCtorEq, ↓C.catnaplaw8_ResetAgain_r18_w, C.catnaplaw8_ResetAgain_r18_b, ↓C.catnaplaw8_ResetAgain_c1_w, ↓C.catnaplaw8_ResetAgain_r14_w, C.catnaplaw8_ResetAgain_r14_b, ↓C.catnaplaw8_ResetAgain_c2_w, ↓C.catnaplaw8_ResetAgain_r16_w, C.catnaplaw8_ResetAgain_r16_b, ↓C.catnaplaw8_ResetAgain_c5_w, ↓C.catnaplaw8_ResetAgain_r15_w, C.catnaplaw8_ResetAgain_r15_b, ↓C.catnaplaw8_ResetAgain_b6_w, ↓C.catnaplaw8_ResetAgain_c7_w, ↓C.catnaplaw8_ResetAgain_c8_w, ↓C.catnaplaw8_ResetAgain_r13_w, C.catnaplaw8_ResetAgain_r13_b, ↓C.catnaplaw8_ResetAgain_b10_w, ↓C.catnaplaw8_ResetAgain_c11_w, ↓C.catnaplaw8_ResetAgain_r12_w, C.catnaplaw8_ResetAgain_r12_b, ↓C.catnaplaw8_ResetAgain_c12_w, ↓C.catnaplaw8_ResetAgain_r11_w, C.catnaplaw8_ResetAgain_r11_b, ↓C.catnaplaw8_ResetAgain_c13_w, ↓C.catnaplaw8_ResetAgain_r10_w, C.catnaplaw8_ResetAgain_r10_b, ↓C.catnaplaw8_ResetAgain_c14_w, ↓C.catnaplaw8_ResetAgain_r9_w, C.catnaplaw8_ResetAgain_r9_b, ↓C.catnaplaw8_ResetAgain_c15_w, ↓C.catnaplaw8_ResetAgain_r8_w, C.catnaplaw8_ResetAgain_r8_b, ↓C.catnaplaw8_ResetAgain_c16_w, ↓C.catnaplaw8_ResetAgain_r7_w, C.catnaplaw8_ResetAgain_r7_b, ↓C.catnaplaw8_ResetAgain_c17_w, ↓C.catnaplaw8_ResetAgain_r6_w, C.catnaplaw8_ResetAgain_r6_b, ↓C.catnaplaw8_ResetAgain_c18_w, ↓C.catnaplaw8_ResetAgain_r5_w, C.catnaplaw8_ResetAgain_r5_b, ↓C.catnaplaw8_ResetAgain_c19_w, ↓C.catnaplaw8_ResetAgain_c20_w, ↓C.catnaplaw8_ResetAgain_r4_w, C.catnaplaw8_ResetAgain_r4_b, ↓C.catnaplaw8_ResetAgain_c21_w, ↓C.catnaplaw8_ResetAgain_r3_w, C.catnaplaw8_ResetAgain_r3_b, ↓C.catnaplaw8_ResetAgain_c22_w, ↓C.catnaplaw8_ResetAgain_r2_w, C.catnaplaw8_ResetAgain_r2_b, ↓C.catnaplaw8_ResetAgain_c23_w, ↓C.catnaplaw8_ResetAgain_r1_w, C.catnaplaw8_ResetAgain_r1_b, ↓C.catnaplaw8_ResetAgain_c24_w, ↓C.catnaplaw8_ResetAgain_r0_w, C.catnaplaw8_ResetAgain_r0_b, C.catnaplaw8_ResetAgain]
    refine ⟨⟨by rw [hb]; rfl, hg⟩, ?_⟩
    refine (h.held2 ha).mono ?_
    rintro r s ⟨rfl, rfl⟩
    have hnext : RSt st s ib p m R (twoL R a ⟨R[a], max (R[a] - ((t + 1 : Nat) : Int)) 0, true, false⟩ b (ay a b R[b] (t + 1))) := by
      rw [show R[a] - ((t + 1 : Nat) : Int) = R[a] - t - 1 by omega]; exact h
    by_cases hab : a = b
    · have eT : ((a : Int) = (b : Int)) = True := eq_true (by omega)
      simp only [↓Bp, Bq, Bs, ↓aop.eq_28, ↓aop.eq_30, Nat.reduceEqDiff, Nat.reduceAdd, Nat.reduceMul, Nat.reduceSub, Nat.reduceLeDiff, Nat.reduceLT, Int.reduceLT, Int.reduceLE, Int.reduceEq, Int.reduceToNat, Int.reduceAdd, Int.reduceSub, Int.reduceNeg, ↓reduceIte, reduceCtorEq, ↓C.catnaplaw8_ResetAgain_r18_w, C.catnaplaw8_ResetAgain_r18_b, ↓C.catnaplaw8_ResetAgain_c1_w, ↓C.catnaplaw8_ResetAgain_r14_w, C.catnaplaw8_ResetAgain_r14_b, ↓C.catnaplaw8_ResetAgain_c2_w, ↓C.catnaplaw8_ResetAgain_r16_w, C.catnaplaw8_ResetAgain_r16_b, ↓C.catnaplaw8_ResetAgain_c5_w, ↓C.catnaplaw8_ResetAgain_r15_w, C.catnaplaw8_ResetAgain_r15_b, ↓C.catnaplaw8_ResetAgain_b6_w, ↓C.catnaplaw8_ResetAgain_c7_w, ↓C.catnaplaw8_ResetAgain_c8_w, ↓C.catnaplaw8_ResetAgain_r13_w, C.catnaplaw8_ResetAgain_r13_b, ↓C.catnaplaw8_ResetAgain_b10_w, ↓C.catnaplaw8_ResetAgain_c11_w, ↓C.catnaplaw8_ResetAgain_r12_w, C.catnaplaw8_ResetAgain_r12_b, ↓C.catnaplaw8_ResetAgain_c12_w, ↓C.catnaplaw8_ResetAgain_r11_w, C.catnaplaw8_ResetAgain_r11_b, ↓C.catnaplaw8_ResetAgain_c13_w, ↓C.catnaplaw8_ResetAgain_r10_w, C.catnaplaw8_ResetAgain_r10_b, ↓C.catnaplaw8_ResetAgain_c14_w, ↓C.catnaplaw8_ResetAgain_r9_w, C.catnaplaw8_ResetAgain_r9_b, ↓C.catnaplaw8_ResetAgain_c15_w, ↓C.catnaplaw8_ResetAgain_r8_w, C.catnaplaw8_ResetAgain_r8_b, ↓C.catnaplaw8_ResetAgain_c16_w, ↓C.catnaplaw8_ResetAgain_r7_w, C.catnaplaw8_ResetAgain_r7_b, ↓C.catnaplaw8_ResetAgain_c17_w, ↓C.catnaplaw8_ResetAgain_r6_w, C.catnaplaw8_ResetAgain_r6_b, ↓C.catnaplaw8_ResetAgain_c18_w, ↓C.catnaplaw8_ResetAgain_r5_w, C.catnaplaw8_ResetAgain_r5_b, ↓C.catnaplaw8_ResetAgain_c19_w, ↓C.catnaplaw8_ResetAgain_c20_w, ↓C.catnaplaw8_ResetAgain_r4_w, C.catnaplaw8_ResetAgain_r4_b, ↓C.catnaplaw8_ResetAgain_c21_w, ↓C.catnaplaw8_ResetAgain_r3_w, C.catnaplaw8_ResetAgain_r3_b, ↓C.catnaplaw8_ResetAgain_c22_w, ↓C.catnaplaw8_ResetAgain_r2_w, C.catnaplaw8_ResetAgain_r2_b, ↓C.catnaplaw8_ResetAgain_c23_w, ↓C.catnaplaw8_ResetAgain_r1_w, C.catnaplaw8_ResetAgain_r1_b, ↓C.catnaplaw8_ResetAgain_c24_w, ↓C.catnaplaw8_ResetAgain_r0_w, C.catnaplaw8_ResetAgain_r0_b, C.catnaplaw8_ResetAgain, eT]
      simp only [↓Bp, Bq, Bs, ↓aop.eq_28, ↓aop.eq_30, Nat.reduceEqDiff, Nat.reduceAdd, Nat.reduceMul, Nat.reduceSub, Nat.reduceLeDiff, Nat.reduceLT, Int.reduceLT, Int.reduceLE, Int.reduceEq, Int.reduceToNat, Int.reduceAdd, Int.reduceSub, Int.reduceNeg, ↓reduceIte, reduceCtorEq, ↓C.catnaplaw8_ResetAgain_W, C.catnaplaw8_ResetAgain_B, C.catnaplaw8_ResetAgain, hw]
      exact ⟨t + 1, rfl, ⟨htl, hnext⟩, by omega⟩
    have eT : ((a : Int) = (b : Int)) = False := eq_false (by omega)
    by_cases ht0 : t = 0
    · have tT : ((t : Int) = 0) = True := eq_true (by omega)
      have tl : row (nats (toldL (twoL R a ⟨R[a], max (R[a] - t) 0, true, false⟩ b (ay a b R[b] t)))) = .isl 1 [.int .i64 b] 1 := by
        rw [ht0, toldL_two ha hb2 _ _ (late_goes _ _) hab (ay_goes hab _)]; rfl
      rw [tl]
      simp only [↓Bp, Bq, Bs, ↓aop.eq_28, ↓aop.eq_30, Nat.reduceEqDiff, Nat.reduceAdd, Nat.reduceMul, Nat.reduceSub, Nat.reduceLeDiff, Nat.reduceLT, Int.reduceLT, Int.reduceLE, Int.reduceEq, Int.reduceToNat, Int.reduceAdd, Int.reduceSub, Int.reduceNeg, ↓reduceIte, reduceCtorEq, ↓C.catnaplaw8_ResetAgain_r18_w, C.catnaplaw8_ResetAgain_r18_b, ↓C.catnaplaw8_ResetAgain_c1_w, ↓C.catnaplaw8_ResetAgain_r14_w, C.catnaplaw8_ResetAgain_r14_b, ↓C.catnaplaw8_ResetAgain_c2_w, ↓C.catnaplaw8_ResetAgain_r16_w, C.catnaplaw8_ResetAgain_r16_b, ↓C.catnaplaw8_ResetAgain_c5_w, ↓C.catnaplaw8_ResetAgain_r15_w, C.catnaplaw8_ResetAgain_r15_b, ↓C.catnaplaw8_ResetAgain_b6_w, ↓C.catnaplaw8_ResetAgain_c7_w, ↓C.catnaplaw8_ResetAgain_c8_w, ↓C.catnaplaw8_ResetAgain_r13_w, C.catnaplaw8_ResetAgain_r13_b, ↓C.catnaplaw8_ResetAgain_b10_w, ↓C.catnaplaw8_ResetAgain_c11_w, ↓C.catnaplaw8_ResetAgain_r12_w, C.catnaplaw8_ResetAgain_r12_b, ↓C.catnaplaw8_ResetAgain_c12_w, ↓C.catnaplaw8_ResetAgain_r11_w, C.catnaplaw8_ResetAgain_r11_b, ↓C.catnaplaw8_ResetAgain_c13_w, ↓C.catnaplaw8_ResetAgain_r10_w, C.catnaplaw8_ResetAgain_r10_b, ↓C.catnaplaw8_ResetAgain_c14_w, ↓C.catnaplaw8_ResetAgain_r9_w, C.catnaplaw8_ResetAgain_r9_b, ↓C.catnaplaw8_ResetAgain_c15_w, ↓C.catnaplaw8_ResetAgain_r8_w, C.catnaplaw8_ResetAgain_r8_b, ↓C.catnaplaw8_ResetAgain_c16_w, ↓C.catnaplaw8_ResetAgain_r7_w, C.catnaplaw8_ResetAgain_r7_b, ↓C.catnaplaw8_ResetAgain_c17_w, ↓C.catnaplaw8_ResetAgain_r6_w, C.catnaplaw8_ResetAgain_r6_b, ↓C.catnaplaw8_ResetAgain_c18_w, ↓C.catnaplaw8_ResetAgain_r5_w, C.catnaplaw8_ResetAgain_r5_b, ↓C.catnaplaw8_ResetAgain_c19_w, ↓C.catnaplaw8_ResetAgain_c20_w, ↓C.catnaplaw8_ResetAgain_r4_w, C.catnaplaw8_ResetAgain_r4_b, ↓C.catnaplaw8_ResetAgain_c21_w, ↓C.catnaplaw8_ResetAgain_r3_w, C.catnaplaw8_ResetAgain_r3_b, ↓C.catnaplaw8_ResetAgain_c22_w, ↓C.catnaplaw8_ResetAgain_r2_w, C.catnaplaw8_ResetAgain_r2_b, ↓C.catnaplaw8_ResetAgain_c23_w, ↓C.catnaplaw8_ResetAgain_r1_w, C.catnaplaw8_ResetAgain_r1_b, ↓C.catnaplaw8_ResetAgain_c24_w, ↓C.catnaplaw8_ResetAgain_r0_w, C.catnaplaw8_ResetAgain_r0_b, C.catnaplaw8_ResetAgain, eT, c1, tT]
      refine (h.held2b hb2 hab).mono ?_
      rintro r s ⟨rfl, rfl⟩
      rw [ay_held hab]
      simp only [↓Bp, Bq, Bs, ↓aop.eq_28, ↓aop.eq_30, Nat.reduceEqDiff, Nat.reduceAdd, Nat.reduceMul, Nat.reduceSub, Nat.reduceLeDiff, Nat.reduceLT, Int.reduceLT, Int.reduceLE, Int.reduceEq, Int.reduceToNat, Int.reduceAdd, Int.reduceSub, Int.reduceNeg, ↓reduceIte, reduceCtorEq, ↓C.catnaplaw8_ResetAgain_r18_w, C.catnaplaw8_ResetAgain_r18_b, ↓C.catnaplaw8_ResetAgain_c1_w, ↓C.catnaplaw8_ResetAgain_r14_w, C.catnaplaw8_ResetAgain_r14_b, ↓C.catnaplaw8_ResetAgain_c2_w, ↓C.catnaplaw8_ResetAgain_r16_w, C.catnaplaw8_ResetAgain_r16_b, ↓C.catnaplaw8_ResetAgain_c5_w, ↓C.catnaplaw8_ResetAgain_r15_w, C.catnaplaw8_ResetAgain_r15_b, ↓C.catnaplaw8_ResetAgain_b6_w, ↓C.catnaplaw8_ResetAgain_c7_w, ↓C.catnaplaw8_ResetAgain_c8_w, ↓C.catnaplaw8_ResetAgain_r13_w, C.catnaplaw8_ResetAgain_r13_b, ↓C.catnaplaw8_ResetAgain_b10_w, ↓C.catnaplaw8_ResetAgain_c11_w, ↓C.catnaplaw8_ResetAgain_r12_w, C.catnaplaw8_ResetAgain_r12_b, ↓C.catnaplaw8_ResetAgain_c12_w, ↓C.catnaplaw8_ResetAgain_r11_w, C.catnaplaw8_ResetAgain_r11_b, ↓C.catnaplaw8_ResetAgain_c13_w, ↓C.catnaplaw8_ResetAgain_r10_w, C.catnaplaw8_ResetAgain_r10_b, ↓C.catnaplaw8_ResetAgain_c14_w, ↓C.catnaplaw8_ResetAgain_r9_w, C.catnaplaw8_ResetAgain_r9_b, ↓C.catnaplaw8_ResetAgain_c15_w, ↓C.catnaplaw8_ResetAgain_r8_w, C.catnaplaw8_ResetAgain_r8_b, ↓C.catnaplaw8_ResetAgain_c16_w, ↓C.catnaplaw8_ResetAgain_r7_w, C.catnaplaw8_ResetAgain_r7_b, ↓C.catnaplaw8_ResetAgain_c17_w, ↓C.catnaplaw8_ResetAgain_r6_w, C.catnaplaw8_ResetAgain_r6_b, ↓C.catnaplaw8_ResetAgain_c18_w, ↓C.catnaplaw8_ResetAgain_r5_w, C.catnaplaw8_ResetAgain_r5_b, ↓C.catnaplaw8_ResetAgain_c19_w, ↓C.catnaplaw8_ResetAgain_c20_w, ↓C.catnaplaw8_ResetAgain_r4_w, C.catnaplaw8_ResetAgain_r4_b, ↓C.catnaplaw8_ResetAgain_c21_w, ↓C.catnaplaw8_ResetAgain_r3_w, C.catnaplaw8_ResetAgain_r3_b, ↓C.catnaplaw8_ResetAgain_c22_w, ↓C.catnaplaw8_ResetAgain_r2_w, C.catnaplaw8_ResetAgain_r2_b, ↓C.catnaplaw8_ResetAgain_c23_w, ↓C.catnaplaw8_ResetAgain_r1_w, C.catnaplaw8_ResetAgain_r1_b, ↓C.catnaplaw8_ResetAgain_c24_w, ↓C.catnaplaw8_ResetAgain_r0_w, C.catnaplaw8_ResetAgain_r0_b, C.catnaplaw8_ResetAgain]
      simp only [↓Bp, Bq, Bs, ↓aop.eq_28, ↓aop.eq_30, Nat.reduceEqDiff, Nat.reduceAdd, Nat.reduceMul, Nat.reduceSub, Nat.reduceLeDiff, Nat.reduceLT, Int.reduceLT, Int.reduceLE, Int.reduceEq, Int.reduceToNat, Int.reduceAdd, Int.reduceSub, Int.reduceNeg, ↓reduceIte, reduceCtorEq, ↓C.catnaplaw8_ResetAgain_W, C.catnaplaw8_ResetAgain_B, C.catnaplaw8_ResetAgain, hw]
      exact ⟨t + 1, rfl, ⟨htl, hnext⟩, by omega⟩
    · have tT : ((t : Int) = 0) = False := eq_false (by omega)
      have tl : row (nats (toldL (twoL R a ⟨R[a], max (R[a] - t) 0, true, false⟩ b (ay a b R[b] t)))) = .isl 1 [] 0 := by
        rw [toldL_none _ _ (late_goes _ _) (ay_goes2 _ ht0)]; rfl
      rw [tl]
      simp only [↓Bp, Bq, Bs, ↓aop.eq_28, ↓aop.eq_30, Nat.reduceEqDiff, Nat.reduceAdd, Nat.reduceMul, Nat.reduceSub, Nat.reduceLeDiff, Nat.reduceLT, Int.reduceLT, Int.reduceLE, Int.reduceEq, Int.reduceToNat, Int.reduceAdd, Int.reduceSub, Int.reduceNeg, ↓reduceIte, reduceCtorEq, ↓C.catnaplaw8_ResetAgain_r18_w, C.catnaplaw8_ResetAgain_r18_b, ↓C.catnaplaw8_ResetAgain_c1_w, ↓C.catnaplaw8_ResetAgain_r14_w, C.catnaplaw8_ResetAgain_r14_b, ↓C.catnaplaw8_ResetAgain_c2_w, ↓C.catnaplaw8_ResetAgain_r16_w, C.catnaplaw8_ResetAgain_r16_b, ↓C.catnaplaw8_ResetAgain_c5_w, ↓C.catnaplaw8_ResetAgain_r15_w, C.catnaplaw8_ResetAgain_r15_b, ↓C.catnaplaw8_ResetAgain_b6_w, ↓C.catnaplaw8_ResetAgain_c7_w, ↓C.catnaplaw8_ResetAgain_c8_w, ↓C.catnaplaw8_ResetAgain_r13_w, C.catnaplaw8_ResetAgain_r13_b, ↓C.catnaplaw8_ResetAgain_b10_w, ↓C.catnaplaw8_ResetAgain_c11_w, ↓C.catnaplaw8_ResetAgain_r12_w, C.catnaplaw8_ResetAgain_r12_b, ↓C.catnaplaw8_ResetAgain_c12_w, ↓C.catnaplaw8_ResetAgain_r11_w, C.catnaplaw8_ResetAgain_r11_b, ↓C.catnaplaw8_ResetAgain_c13_w, ↓C.catnaplaw8_ResetAgain_r10_w, C.catnaplaw8_ResetAgain_r10_b, ↓C.catnaplaw8_ResetAgain_c14_w, ↓C.catnaplaw8_ResetAgain_r9_w, C.catnaplaw8_ResetAgain_r9_b, ↓C.catnaplaw8_ResetAgain_c15_w, ↓C.catnaplaw8_ResetAgain_r8_w, C.catnaplaw8_ResetAgain_r8_b, ↓C.catnaplaw8_ResetAgain_c16_w, ↓C.catnaplaw8_ResetAgain_r7_w, C.catnaplaw8_ResetAgain_r7_b, ↓C.catnaplaw8_ResetAgain_c17_w, ↓C.catnaplaw8_ResetAgain_r6_w, C.catnaplaw8_ResetAgain_r6_b, ↓C.catnaplaw8_ResetAgain_c18_w, ↓C.catnaplaw8_ResetAgain_r5_w, C.catnaplaw8_ResetAgain_r5_b, ↓C.catnaplaw8_ResetAgain_c19_w, ↓C.catnaplaw8_ResetAgain_c20_w, ↓C.catnaplaw8_ResetAgain_r4_w, C.catnaplaw8_ResetAgain_r4_b, ↓C.catnaplaw8_ResetAgain_c21_w, ↓C.catnaplaw8_ResetAgain_r3_w, C.catnaplaw8_ResetAgain_r3_b, ↓C.catnaplaw8_ResetAgain_c22_w, ↓C.catnaplaw8_ResetAgain_r2_w, C.catnaplaw8_ResetAgain_r2_b, ↓C.catnaplaw8_ResetAgain_c23_w, ↓C.catnaplaw8_ResetAgain_r1_w, C.catnaplaw8_ResetAgain_r1_b, ↓C.catnaplaw8_ResetAgain_c24_w, ↓C.catnaplaw8_ResetAgain_r0_w, C.catnaplaw8_ResetAgain_r0_b, C.catnaplaw8_ResetAgain, eT, c0, tT]
      refine (h.held2b hb2 hab).mono ?_
      rintro r s ⟨rfl, rfl⟩
      rw [ay_held hab]
      simp only [↓Bp, Bq, Bs, ↓aop.eq_28, ↓aop.eq_30, Nat.reduceEqDiff, Nat.reduceAdd, Nat.reduceMul, Nat.reduceSub, Nat.reduceLeDiff, Nat.reduceLT, Int.reduceLT, Int.reduceLE, Int.reduceEq, Int.reduceToNat, Int.reduceAdd, Int.reduceSub, Int.reduceNeg, ↓reduceIte, reduceCtorEq, ↓C.catnaplaw8_ResetAgain_r18_w, C.catnaplaw8_ResetAgain_r18_b, ↓C.catnaplaw8_ResetAgain_c1_w, ↓C.catnaplaw8_ResetAgain_r14_w, C.catnaplaw8_ResetAgain_r14_b, ↓C.catnaplaw8_ResetAgain_c2_w, ↓C.catnaplaw8_ResetAgain_r16_w, C.catnaplaw8_ResetAgain_r16_b, ↓C.catnaplaw8_ResetAgain_c5_w, ↓C.catnaplaw8_ResetAgain_r15_w, C.catnaplaw8_ResetAgain_r15_b, ↓C.catnaplaw8_ResetAgain_b6_w, ↓C.catnaplaw8_ResetAgain_c7_w, ↓C.catnaplaw8_ResetAgain_c8_w, ↓C.catnaplaw8_ResetAgain_r13_w, C.catnaplaw8_ResetAgain_r13_b, ↓C.catnaplaw8_ResetAgain_b10_w, ↓C.catnaplaw8_ResetAgain_c11_w, ↓C.catnaplaw8_ResetAgain_r12_w, C.catnaplaw8_ResetAgain_r12_b, ↓C.catnaplaw8_ResetAgain_c12_w, ↓C.catnaplaw8_ResetAgain_r11_w, C.catnaplaw8_ResetAgain_r11_b, ↓C.catnaplaw8_ResetAgain_c13_w, ↓C.catnaplaw8_ResetAgain_r10_w, C.catnaplaw8_ResetAgain_r10_b, ↓C.catnaplaw8_ResetAgain_c14_w, ↓C.catnaplaw8_ResetAgain_r9_w, C.catnaplaw8_ResetAgain_r9_b, ↓C.catnaplaw8_ResetAgain_c15_w, ↓C.catnaplaw8_ResetAgain_r8_w, C.catnaplaw8_ResetAgain_r8_b, ↓C.catnaplaw8_ResetAgain_c16_w, ↓C.catnaplaw8_ResetAgain_r7_w, C.catnaplaw8_ResetAgain_r7_b, ↓C.catnaplaw8_ResetAgain_c17_w, ↓C.catnaplaw8_ResetAgain_r6_w, C.catnaplaw8_ResetAgain_r6_b, ↓C.catnaplaw8_ResetAgain_c18_w, ↓C.catnaplaw8_ResetAgain_r5_w, C.catnaplaw8_ResetAgain_r5_b, ↓C.catnaplaw8_ResetAgain_c19_w, ↓C.catnaplaw8_ResetAgain_c20_w, ↓C.catnaplaw8_ResetAgain_r4_w, C.catnaplaw8_ResetAgain_r4_b, ↓C.catnaplaw8_ResetAgain_c21_w, ↓C.catnaplaw8_ResetAgain_r3_w, C.catnaplaw8_ResetAgain_r3_b, ↓C.catnaplaw8_ResetAgain_c22_w, ↓C.catnaplaw8_ResetAgain_r2_w, C.catnaplaw8_ResetAgain_r2_b, ↓C.catnaplaw8_ResetAgain_c23_w, ↓C.catnaplaw8_ResetAgain_r1_w, C.catnaplaw8_ResetAgain_r1_b, ↓C.catnaplaw8_ResetAgain_c24_w, ↓C.catnaplaw8_ResetAgain_r0_w, C.catnaplaw8_ResetAgain_r0_b, C.catnaplaw8_ResetAgain]
      simp only [↓Bp, Bq, Bs, ↓aop.eq_28, ↓aop.eq_30, Nat.reduceEqDiff, Nat.reduceAdd, Nat.reduceMul, Nat.reduceSub, Nat.reduceLeDiff, Nat.reduceLT, Int.reduceLT, Int.reduceLE, Int.reduceEq, Int.reduceToNat, Int.reduceAdd, Int.reduceSub, Int.reduceNeg, ↓reduceIte, reduceCtorEq, ↓C.catnaplaw8_ResetAgain_W, C.catnaplaw8_ResetAgain_B, C.catnaplaw8_ResetAgain, hw]
      exact ⟨t + 1, rfl, ⟨htl, hnext⟩, by omega⟩
  · clear h s
    rintro - s h
    simp only [↓Bp, Bq, Bs, ↓aop.eq_28, ↓aop.eq_30, Nat.reduceEqDiff, Nat.reduceAdd, Nat.reduceMul, Nat.reduceSub, Nat.reduceLeDiff, Nat.reduceLT, Int.reduceLT, Int.reduceLE, Int.reduceEq, Int.reduceToNat, Int.reduceAdd, Int.reduceSub, Int.reduceNeg, ↓reduceIte, reduceCtorEq, ↓C.catnaplaw8_ResetAgain_W, C.catnaplaw8_ResetAgain_B, C.catnaplaw8_ResetAgain]
    refine (h.release2 ha rfl).mono ?_
    rintro r s ⟨rfl, h⟩
    simp only [↓Bp, Bq, Bs, ↓aop.eq_28, ↓aop.eq_30, Nat.reduceEqDiff, Nat.reduceAdd, Nat.reduceMul, Nat.reduceSub, Nat.reduceLeDiff, Nat.reduceLT, Int.reduceLT, Int.reduceLE, Int.reduceEq, Int.reduceToNat, Int.reduceAdd, Int.reduceSub, Int.reduceNeg, ↓reduceIte, reduceCtorEq, ↓C.catnaplaw8_ResetAgain_W, C.catnaplaw8_ResetAgain_B, C.catnaplaw8_ResetAgain]
    refine (h.tick2 (by show (0 : Int) ≤ 1000; omega) (ay_left _ _ _ _) hR).mono ?_
    rintro r s ⟨rfl, h⟩
    rw [ay_tick] at h
    rw [toldL_a ha _ _ rfl (ay_goes2 _ (by omega))]
    simp only [↓Bp, Bq, Bs, ↓aop.eq_28, ↓aop.eq_30, Nat.reduceEqDiff, Nat.reduceAdd, Nat.reduceMul, Nat.reduceSub, Nat.reduceLeDiff, Nat.reduceLT, Int.reduceLT, Int.reduceLE, Int.reduceEq, Int.reduceToNat, Int.reduceAdd, Int.reduceSub, Int.reduceNeg, ↓reduceIte, reduceCtorEq, ↓C.catnaplaw8_ResetAgain_W, C.catnaplaw8_ResetAgain_B, C.catnaplaw8_ResetAgain]
    rintro ix hix
    have h := h.step (ASt.le.new s ix (.cells [.int .i64 a]))
    have hxx := ASt.new_self (.cells [.int .i64 a]) hix
    generalize s.new ix (.cells [.int .i64 a]) = s at h hxx
    refine (same_view (view_row _) (view_one hxx) (by simp [nats])).mono ?_
    rintro r s ⟨rfl, rfl⟩
    have e6 : decide (nats [a] = [(a : Int)]) = true := by simp [nats]
    have e7 : Cn.tick1 ⟨R[a], 0, true, true⟩ = ⟨R[a], 0, false, false⟩ := rfl
    rw [e7] at h
    simp only [↓Bp, Bq, Bs, ↓aop.eq_28, ↓aop.eq_30, Nat.reduceEqDiff, Nat.reduceAdd, Nat.reduceMul, Nat.reduceSub, Nat.reduceLeDiff, Nat.reduceLT, Int.reduceLT, Int.reduceLE, Int.reduceEq, Int.reduceToNat, Int.reduceAdd, Int.reduceSub, Int.reduceNeg, ↓reduceIte, reduceCtorEq, ↓C.catnaplaw8_ResetAgain_W, C.catnaplaw8_ResetAgain_B, C.catnaplaw8_ResetAgain, e6]
    refine (h.held2 ha).mono ?_
    rintro r s ⟨rfl, rfl⟩
    simp only [↓Bp, Bq, Bs, ↓aop.eq_28, ↓aop.eq_30, Nat.reduceEqDiff, Nat.reduceAdd, Nat.reduceMul, Nat.reduceSub, Nat.reduceLeDiff, Nat.reduceLT, Int.reduceLT, Int.reduceLE, Int.reduceEq, Int.reduceToNat, Int.reduceAdd, Int.reduceSub, Int.reduceNeg, ↓reduceIte, reduceCtorEq, ↓C.catnaplaw8_ResetAgain_W, C.catnaplaw8_ResetAgain_B, C.catnaplaw8_ResetAgain]
    refine (h.tick2 (by show (0 : Int) ≤ 1000; omega) (ay_left _ _ _ _) hR).mono ?_
    rintro r s ⟨rfl, h⟩
    rw [toldL_none _ _ rfl (ay_goes2 _ (by omega))]
    have row0 : row (nats []) = .isl 1 [] 0 := rfl
    simp only [↓Bp, Bq, Bs, ↓aop.eq_28, ↓aop.eq_30, Nat.reduceEqDiff, Nat.reduceAdd, Nat.reduceMul, Nat.reduceSub, Nat.reduceLeDiff, Nat.reduceLT, Int.reduceLT, Int.reduceLE, Int.reduceEq, Int.reduceToNat, Int.reduceAdd, Int.reduceSub, Int.reduceNeg, ↓reduceIte, reduceCtorEq, ↓C.catnaplaw8_ResetAgain_W, C.catnaplaw8_ResetAgain_B, C.catnaplaw8_ResetAgain, row0, c0]
    exact h.le
theorem again_rest {s : ASt} (h : RSt st s ib p m R (freshL R)) :
    awp Try.prog C.catnaplaw8_ResetAgain_c16 (Post [.slot 6] fun r s => r = .bool true ∧ st.le s)
      [(8, .ptr ib 0), (9, .ptr p 0), (11, .int .i64 a), (12, .int .i64 b)] s := by
  rw [← two_self ha hb2] at h
  simp only [↓Bp, Bq, Bs, ↓aop.eq_28, ↓aop.eq_30, Nat.reduceEqDiff, Nat.reduceAdd, Nat.reduceMul, Nat.reduceSub, Nat.reduceLeDiff, Nat.reduceLT, Int.reduceLT, Int.reduceLE, Int.reduceEq, Int.reduceToNat, Int.reduceAdd, Int.reduceSub, Int.reduceNeg, ↓reduceIte, reduceCtorEq, ↓C.catnaplaw8_ResetAgain_W, C.catnaplaw8_ResetAgain_B, C.catnaplaw8_ResetAgain]
  refine (h.assert2 ha).mono ?_
  rintro r s ⟨rfl, h⟩
  simp only [↓Bp, Bq, Bs, ↓aop.eq_28, ↓aop.eq_30, Nat.reduceEqDiff, Nat.reduceAdd, Nat.reduceMul, Nat.reduceSub, Nat.reduceLeDiff, Nat.reduceLT, Int.reduceLT, Int.reduceLE, Int.reduceEq, Int.reduceToNat, Int.reduceAdd, Int.reduceSub, Int.reduceNeg, ↓reduceIte, reduceCtorEq, ↓C.catnaplaw8_ResetAgain_W, C.catnaplaw8_ResetAgain_B, C.catnaplaw8_ResetAgain]
  refine (h.release2 ha rfl).mono ?_
  rintro r s ⟨rfl, h⟩
  simp only [↓Bp, Bq, Bs, ↓aop.eq_28, ↓aop.eq_30, Nat.reduceEqDiff, Nat.reduceAdd, Nat.reduceMul, Nat.reduceSub, Nat.reduceLeDiff, Nat.reduceLT, Int.reduceLT, Int.reduceLE, Int.reduceEq, Int.reduceToNat, Int.reduceAdd, Int.reduceSub, Int.reduceNeg, ↓reduceIte, reduceCtorEq, ↓C.catnaplaw8_ResetAgain_W, C.catnaplaw8_ResetAgain_B, C.catnaplaw8_ResetAgain]
  by_cases hab : a = b
  · subst hab
    refine (h.release2 ha rfl).mono ?_
    rintro r s ⟨rfl, h⟩
    simp only [↓Bp, Bq, Bs, ↓aop.eq_28, ↓aop.eq_30, Nat.reduceEqDiff, Nat.reduceAdd, Nat.reduceMul, Nat.reduceSub, Nat.reduceLeDiff, Nat.reduceLT, Int.reduceLT, Int.reduceLE, Int.reduceEq, Int.reduceToNat, Int.reduceAdd, Int.reduceSub, Int.reduceNeg, ↓reduceIte, reduceCtorEq, ↓C.catnaplaw8_ResetAgain_W, C.catnaplaw8_ResetAgain_B, C.catnaplaw8_ResetAgain]
    refine (h.assert2 ha).mono ?_
    rintro r s ⟨rfl, h⟩
    simp only [↓Bp, Bq, Bs, ↓aop.eq_28, ↓aop.eq_30, Nat.reduceEqDiff, Nat.reduceAdd, Nat.reduceMul, Nat.reduceSub, Nat.reduceLeDiff, Nat.reduceLT, Int.reduceLT, Int.reduceLE, Int.reduceEq, Int.reduceToNat, Int.reduceAdd, Int.reduceSub, Int.reduceNeg, ↓reduceIte, reduceCtorEq, ↓C.catnaplaw8_ResetAgain_r11_w, C.catnaplaw8_ResetAgain_r11_b, ↓C.catnaplaw8_ResetAgain_c13_w, ↓C.catnaplaw8_ResetAgain_r10_w, C.catnaplaw8_ResetAgain_r10_b, ↓C.catnaplaw8_ResetAgain_c14_w, ↓C.catnaplaw8_ResetAgain_r9_w, C.catnaplaw8_ResetAgain_r9_b, ↓C.catnaplaw8_ResetAgain_c15_w, ↓C.catnaplaw8_ResetAgain_r8_w, C.catnaplaw8_ResetAgain_r8_b, ↓C.catnaplaw8_ResetAgain_c16_w, ↓C.catnaplaw8_ResetAgain_r7_w, C.catnaplaw8_ResetAgain_r7_b, ↓C.catnaplaw8_ResetAgain_c17_w, ↓C.catnaplaw8_ResetAgain_r6_w, C.catnaplaw8_ResetAgain_r6_b, ↓C.catnaplaw8_ResetAgain_c18_w, ↓C.catnaplaw8_ResetAgain_r5_w, C.catnaplaw8_ResetAgain_r5_b, ↓C.catnaplaw8_ResetAgain_c19_w, ↓C.catnaplaw8_ResetAgain_c20_w, ↓C.catnaplaw8_ResetAgain_r4_w, C.catnaplaw8_ResetAgain_r4_b, ↓C.catnaplaw8_ResetAgain_c21_w, ↓C.catnaplaw8_ResetAgain_r3_w, C.catnaplaw8_ResetAgain_r3_b, ↓C.catnaplaw8_ResetAgain_c22_w, ↓C.catnaplaw8_ResetAgain_r2_w, C.catnaplaw8_ResetAgain_r2_b, ↓C.catnaplaw8_ResetAgain_c23_w, ↓C.catnaplaw8_ResetAgain_r1_w, C.catnaplaw8_ResetAgain_r1_b, ↓C.catnaplaw8_ResetAgain_c24_w, ↓C.catnaplaw8_ResetAgain_r0_w, C.catnaplaw8_ResetAgain_r0_b, C.catnaplaw8_ResetAgain]
    rw [C.catnaplaw8_ResetAgain_c12_w, awp_keep]
    refine again_loop (m := m) ha hb2 hR hR2 ?_
    rw [ay, if_pos rfl]; exact h
  · refine (h.release2b hb2 hab rfl).mono ?_
    rintro r s ⟨rfl, h⟩
    simp only [↓Bp, Bq, Bs, ↓aop.eq_28, ↓aop.eq_30, Nat.reduceEqDiff, Nat.reduceAdd, Nat.reduceMul, Nat.reduceSub, Nat.reduceLeDiff, Nat.reduceLT, Int.reduceLT, Int.reduceLE, Int.reduceEq, Int.reduceToNat, Int.reduceAdd, Int.reduceSub, Int.reduceNeg, ↓reduceIte, reduceCtorEq, ↓C.catnaplaw8_ResetAgain_W, C.catnaplaw8_ResetAgain_B, C.catnaplaw8_ResetAgain]
    refine (h.assert2 ha).mono ?_
    rintro r s ⟨rfl, h⟩
    simp only [↓Bp, Bq, Bs, ↓aop.eq_28, ↓aop.eq_30, Nat.reduceEqDiff, Nat.reduceAdd, Nat.reduceMul, Nat.reduceSub, Nat.reduceLeDiff, Nat.reduceLT, Int.reduceLT, Int.reduceLE, Int.reduceEq, Int.reduceToNat, Int.reduceAdd, Int.reduceSub, Int.reduceNeg, ↓reduceIte, reduceCtorEq, ↓C.catnaplaw8_ResetAgain_r11_w, C.catnaplaw8_ResetAgain_r11_b, ↓C.catnaplaw8_ResetAgain_c13_w, ↓C.catnaplaw8_ResetAgain_r10_w, C.catnaplaw8_ResetAgain_r10_b, ↓C.catnaplaw8_ResetAgain_c14_w, ↓C.catnaplaw8_ResetAgain_r9_w, C.catnaplaw8_ResetAgain_r9_b, ↓C.catnaplaw8_ResetAgain_c15_w, ↓C.catnaplaw8_ResetAgain_r8_w, C.catnaplaw8_ResetAgain_r8_b, ↓C.catnaplaw8_ResetAgain_c16_w, ↓C.catnaplaw8_ResetAgain_r7_w, C.catnaplaw8_ResetAgain_r7_b, ↓C.catnaplaw8_ResetAgain_c17_w, ↓C.catnaplaw8_ResetAgain_r6_w, C.catnaplaw8_ResetAgain_r6_b, ↓C.catnaplaw8_ResetAgain_c18_w, ↓C.catnaplaw8_ResetAgain_r5_w, C.catnaplaw8_ResetAgain_r5_b, ↓C.catnaplaw8_ResetAgain_c19_w, ↓C.catnaplaw8_ResetAgain_c20_w, ↓C.catnaplaw8_ResetAgain_r4_w, C.catnaplaw8_ResetAgain_r4_b, ↓C.catnaplaw8_ResetAgain_c21_w, ↓C.catnaplaw8_ResetAgain_r3_w, C.catnaplaw8_ResetAgain_r3_b, ↓C.catnaplaw8_ResetAgain_c22_w, ↓C.catnaplaw8_ResetAgain_r2_w, C.catnaplaw8_ResetAgain_r2_b, ↓C.catnaplaw8_ResetAgain_c23_w, ↓C.catnaplaw8_ResetAgain_r1_w, C.catnaplaw8_ResetAgain_r1_b, ↓C.catnaplaw8_ResetAgain_c24_w, ↓C.catnaplaw8_ResetAgain_r0_w, C.catnaplaw8_ResetAgain_r0_b, C.catnaplaw8_ResetAgain]
    rw [C.catnaplaw8_ResetAgain_c12_w, awp_keep]
    refine again_loop (m := m) ha hb2 hR hR2 ?_
    rw [ay, if_neg hab]; exact h
end
theorem resetagain_spec {st : ASt} {l : List Int} {y z : Int} (hl : ∀ x ∈ l, -9223372036854775808 ≤ x ∧ x ≤ 9223372036854775807) (hll : l.length ≤ 9223372036854775807)
    (hy : -9223372036854775808 ≤ y ∧ y ≤ 9223372036854775807) (hz : -9223372036854775808 ≤ z ∧ z ≤ 9223372036854775807) :
    ACalls Try.prog F.catnaplaw8_ResetAgain [row l, .int .i64 y, .int .i64 z] st fun r s => r = .bool true ∧ s = st := by
  refine ACalls.gc (Q' := fun r s => r = .bool true ∧ st.le s) (calls_of_awp L.catnaplaw8_ResetAgain rfl ?_) (fun v s ⟨h, hl⟩ => ⟨st, hl, h, rfl⟩)
  simp only [↓Bp, Bq, Bs, ↓aop.eq_28, ↓aop.eq_30, Nat.reduceEqDiff, Nat.reduceAdd, Nat.reduceMul, Nat.reduceSub, Nat.reduceLeDiff, Nat.reduceLT, Int.reduceLT, Int.reduceLE, Int.reduceEq, Int.reduceToNat, Int.reduceAdd, Int.reduceSub, Int.reduceNeg, ↓reduceIte, reduceCtorEq, ↓C.catnaplaw8_ResetAgain_W, C.catnaplaw8_ResetAgain_B, C.catnaplaw8_ResetAgain]
  refine (shown_spec st).mono ?_
  rintro r s ⟨rfl, rfl⟩
  simp only [↓Bp, Bq, Bs, ↓aop.eq_28, ↓aop.eq_30, Nat.reduceEqDiff, Nat.reduceAdd, Nat.reduceMul, Nat.reduceSub, Nat.reduceLeDiff, Nat.reduceLT, Int.reduceLT, Int.reduceLE, Int.reduceEq, Int.reduceToNat, Int.reduceAdd, Int.reduceSub, Int.reduceNeg, ↓reduceIte, reduceCtorEq, ↓C.catnaplaw8_ResetAgain_W, C.catnaplaw8_ResetAgain_B, C.catnaplaw8_ResetAgain]
  refine (rchip_spec hl hll).mono ?_
  rintro r s ⟨rfl, rfl⟩
  have hR := rOf_len l
  have hR2 := rOf_ok l
  generalize rOf l = R at hR hR2
  have l4 : (rchip R).cells.length = 4 := rfl
  have e4 : AV.agg (List.take 4 (rchip R).cells) = .agg (rchip R).cells := rfl
  have f4 : allLeaf (rchip R).cells = true := rfl
  simp only [↓Bp, Bq, Bs, ↓aop.eq_28, ↓aop.eq_30, Nat.reduceEqDiff, Nat.reduceAdd, Nat.reduceMul, Nat.reduceSub, Nat.reduceLeDiff, Nat.reduceLT, Int.reduceLT, Int.reduceLE, Int.reduceEq, Int.reduceToNat, Int.reduceAdd, Int.reduceSub, Int.reduceNeg, ↓reduceIte, reduceCtorEq, ↓C.catnaplaw8_ResetAgain_r2_w, C.catnaplaw8_ResetAgain_r2_b, ↓C.catnaplaw8_ResetAgain_c23_w, ↓C.catnaplaw8_ResetAgain_r1_w, C.catnaplaw8_ResetAgain_r1_b, ↓C.catnaplaw8_ResetAgain_c24_w, ↓C.catnaplaw8_ResetAgain_r0_w, C.catnaplaw8_ResetAgain_r0_b, C.catnaplaw8_ResetAgain, l4, f4]
  rintro ib hib
  simp only [↓Bp, Bq, Bs, ↓aop.eq_28, ↓aop.eq_30, Nat.reduceEqDiff, Nat.reduceAdd, Nat.reduceMul, Nat.reduceSub, Nat.reduceLeDiff, Nat.reduceLT, Int.reduceLT, Int.reduceLE, Int.reduceEq, Int.reduceToNat, Int.reduceAdd, Int.reduceSub, Int.reduceNeg, ↓reduceIte, reduceCtorEq, ↓C.catnaplaw8_ResetAgain_r2_w, C.catnaplaw8_ResetAgain_r2_b, ↓C.catnaplaw8_ResetAgain_c23_w, ↓C.catnaplaw8_ResetAgain_r1_w, C.catnaplaw8_ResetAgain_r1_b, ↓C.catnaplaw8_ResetAgain_c24_w, ↓C.catnaplaw8_ResetAgain_r0_w, C.catnaplaw8_ResetAgain_r0_b, C.catnaplaw8_ResetAgain, hib, l4, f4]
  rw [ASt.new_set hib, show putN [AV.nils, AV.nils, AV.nils, AV.nils] 0 (rchip R).cells = (rchip R).cells from putN_all rfl]
  simp only [↓Bp, Bq, Bs, ↓aop.eq_28, ↓aop.eq_30, Nat.reduceEqDiff, Nat.reduceAdd, Nat.reduceMul, Nat.reduceSub, Nat.reduceLeDiff, Nat.reduceLT, Int.reduceLT, Int.reduceLE, Int.reduceEq, Int.reduceToNat, Int.reduceAdd, Int.reduceSub, Int.reduceNeg, ↓reduceIte, reduceCtorEq, ↓C.catnaplaw8_ResetAgain_W, C.catnaplaw8_ResetAgain_B, C.catnaplaw8_ResetAgain, hib, l4, e4]
  refine (start_spec hib hR hR2).mono ?_
  rintro r s1 ⟨p, m, rfl, h⟩
  have hb := h.hb
  rw [rchip, Soc.cells, Soc.rstV] at hb
  by_cases hR0 : R.length = 0
  · have hz0 : (R.length : Int) = 0 := by omega
    simp only [↓Bp, Bq, Bs, ↓aop.eq_28, ↓aop.eq_30, Nat.reduceEqDiff, Nat.reduceAdd, Nat.reduceMul, Nat.reduceSub, Nat.reduceLeDiff, Nat.reduceLT, Int.reduceLT, Int.reduceLE, Int.reduceEq, Int.reduceToNat, Int.reduceAdd, Int.reduceSub, Int.reduceNeg, ↓reduceIte, reduceCtorEq, ↓C.catnaplaw8_ResetAgain_W, C.catnaplaw8_ResetAgain_B, C.catnaplaw8_ResetAgain, hb, hz0]
    exact h.le
  have hz0 : ¬ (R.length : Int) = 0 := by omega
  simp only [↓Bp, Bq, Bs, ↓aop.eq_28, ↓aop.eq_30, Nat.reduceEqDiff, Nat.reduceAdd, Nat.reduceMul, Nat.reduceSub, Nat.reduceLeDiff, Nat.reduceLT, Int.reduceLT, Int.reduceLE, Int.reduceEq, Int.reduceToNat, Int.reduceAdd, Int.reduceSub, Int.reduceNeg, ↓reduceIte, reduceCtorEq, ↓C.catnaplaw8_ResetAgain_r5_w, C.catnaplaw8_ResetAgain_r5_b, ↓C.catnaplaw8_ResetAgain_c19_w, ↓C.catnaplaw8_ResetAgain_c20_w, ↓C.catnaplaw8_ResetAgain_r4_w, C.catnaplaw8_ResetAgain_r4_b, ↓C.catnaplaw8_ResetAgain_c21_w, ↓C.catnaplaw8_ResetAgain_r3_w, C.catnaplaw8_ResetAgain_r3_b, ↓C.catnaplaw8_ResetAgain_c22_w, ↓C.catnaplaw8_ResetAgain_r2_w, C.catnaplaw8_ResetAgain_r2_b, ↓C.catnaplaw8_ResetAgain_c23_w, ↓C.catnaplaw8_ResetAgain_r1_w, C.catnaplaw8_ResetAgain_r1_b, ↓C.catnaplaw8_ResetAgain_c24_w, ↓C.catnaplaw8_ResetAgain_r0_w, C.catnaplaw8_ResetAgain_r0_b, C.catnaplaw8_ResetAgain, hb, hz0]
  simp only [↓Bp, Bq, Bs, ↓aop.eq_28, ↓aop.eq_30, Nat.reduceEqDiff, Nat.reduceAdd, Nat.reduceMul, Nat.reduceSub, Nat.reduceLeDiff, Nat.reduceLT, Int.reduceLT, Int.reduceLE, Int.reduceEq, Int.reduceToNat, Int.reduceAdd, Int.reduceSub, Int.reduceNeg, ↓reduceIte, reduceCtorEq, ↓C.catnaplaw8_ResetAgain_W, C.catnaplaw8_ResetAgain_B, C.catnaplaw8_ResetAgain, hb]
  refine (pick_spec hy (n := R.length) (by omega)).mono ?_
  rintro r s ⟨rfl, rfl⟩
  simp only [↓Bp, Bq, Bs, ↓aop.eq_28, ↓aop.eq_30, Nat.reduceEqDiff, Nat.reduceAdd, Nat.reduceMul, Nat.reduceSub, Nat.reduceLeDiff, Nat.reduceLT, Int.reduceLT, Int.reduceLE, Int.reduceEq, Int.reduceToNat, Int.reduceAdd, Int.reduceSub, Int.reduceNeg, ↓reduceIte, reduceCtorEq, ↓C.catnaplaw8_ResetAgain_W, C.catnaplaw8_ResetAgain_B, C.catnaplaw8_ResetAgain, hb]
  refine (pick_spec hz (n := R.length) (by omega)).mono ?_
  rintro r s ⟨rfl, rfl⟩
  simp only [↓Bp, Bq, Bs, ↓aop.eq_28, ↓aop.eq_30, Nat.reduceEqDiff, Nat.reduceAdd, Nat.reduceMul, Nat.reduceSub, Nat.reduceLeDiff, Nat.reduceLT, Int.reduceLT, Int.reduceLE, Int.reduceEq, Int.reduceToNat, Int.reduceAdd, Int.reduceSub, Int.reduceNeg, ↓reduceIte, reduceCtorEq, ↓C.catnaplaw8_ResetAgain_r7_w, C.catnaplaw8_ResetAgain_r7_b, ↓C.catnaplaw8_ResetAgain_c17_w, ↓C.catnaplaw8_ResetAgain_r6_w, C.catnaplaw8_ResetAgain_r6_b, ↓C.catnaplaw8_ResetAgain_c18_w, ↓C.catnaplaw8_ResetAgain_r5_w, C.catnaplaw8_ResetAgain_r5_b, ↓C.catnaplaw8_ResetAgain_c19_w, ↓C.catnaplaw8_ResetAgain_c20_w, ↓C.catnaplaw8_ResetAgain_r4_w, C.catnaplaw8_ResetAgain_r4_b, ↓C.catnaplaw8_ResetAgain_c21_w, ↓C.catnaplaw8_ResetAgain_r3_w, C.catnaplaw8_ResetAgain_r3_b, ↓C.catnaplaw8_ResetAgain_c22_w, ↓C.catnaplaw8_ResetAgain_r2_w, C.catnaplaw8_ResetAgain_r2_b, ↓C.catnaplaw8_ResetAgain_c23_w, ↓C.catnaplaw8_ResetAgain_r1_w, C.catnaplaw8_ResetAgain_r1_b, ↓C.catnaplaw8_ResetAgain_c24_w, ↓C.catnaplaw8_ResetAgain_r0_w, C.catnaplaw8_ResetAgain_r0_b, C.catnaplaw8_ResetAgain]
  rw [C.catnaplaw8_ResetAgain_c16_w, awp_keep]
  exact again_rest (pickI_lt y (n := R.length) (by omega)) (pickI_lt z (n := R.length) (by omega)) hR hR2 h
end Go.Proofs.Ytkabdilikndhbaa.Cn
