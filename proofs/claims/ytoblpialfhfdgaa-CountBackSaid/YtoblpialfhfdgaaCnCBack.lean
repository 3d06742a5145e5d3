/- Count: CountBack. -/
import Derived.Test.YtoblpialfhfdgaaCnCount3
set_option linter.unusedSimpArgs false
set_option linter.unusedVariables false
set_option linter.unusedSectionVars false
namespace Go.Proofs.Ytoblpialfhfdgaa.Cn
open Go Go.Proofs

/-- One was got so often, no other. -/
def only (d : Nat) (n : Int) : Int → Int := fun j => if j = (d : Int) then n else 0
theorem only_at (d : Nat) (n : Int) : only d n (d : Int) = n := by unfold only; rw [if_pos rfl]
theorem only_zero (d : Nat) : only d 0 = fun _ => 0 := funext fun j => by unfold only; split <;> rfl
theorem addF_only (d : Nat) (n k : Int) : addF (only d n) (d : Int) k = only d (n + k) := funext fun j => by
  unfold addF only
  split
  · rw [if_pos rfl]
  · rfl
theorem getF_sl (N : Gr) (f : Int → Int) (i : Int) : getF N f true i = f := by rw [getF, getE, if_pos rfl, if_neg (by decide)]
theorem putF_sl (N : Gr) (f : Int → Int) (i : Int) : putF N f true i = f := by rw [putF, putE, if_pos rfl, if_neg (by decide)]
theorem useL_sl (N : Gr) (f : Int → Int) : useL N f true = List.replicate N.length false := by
  refine List.ext_getElem (by simp [useL]) fun i h1 h2 => ?_
  simp [useL]
theorem useL_none (N : Gr) : useL N (fun _ => 0) false = List.replicate N.length false := by
  refine List.ext_getElem (by simp [useL]) fun i h1 h2 => ?_
  rw [useL_get h1, List.getElem_replicate, Bool.eq_false_iff]
  intro e
  obtain ⟨d, _, h3, _⟩ := useTo_iff.mp e
  omega
section
variable {st : ASt} {ib p m : Nat} {S : Soc} (hS : S.like)
include hS
/-- All is as it was. -/
theorem cb1 {s : ASt} {d : Nat} (hd : d < S.devs.length) (h : CW st s ib p m S (only d 0) false) :
    awp Try.prog C.catnaplaw16_CountBack_c1 (Post [.slot 6] fun r s => r = .bool true ∧ st.le s) [(8, .ptr ib 0), (9, .ptr p 0), (11, .int .i64 d)] s := by
  have l4 : S.cells.length = 4 := rfl
  have e4 : AV.agg (List.take 4 S.cells) = .agg S.cells := rfl
  have hv : isDv S.need (d : Int) := ⟨by omega, by rw [Soc.need_len]; omega⟩
  have e : putE S.need (only d 0) false (d : Int) = 6 := by rw [putE, if_neg (by decide), if_neg (by simp [hv]), if_pos (by rw [only_at]; omega)]
  simp only [↓Bp, Bq, Bs, ↓aop.eq_28, ↓aop.eq_30, Nat.reduceEqDiff, Nat.reduceAdd, Nat.reduceMul, Nat.reduceSub, Nat.reduceLeDiff, Nat.reduceLT, Int.reduceLT, Int.reduceLE, Int.reduceEq, Int.reduceToNat, Int.reduceAdd, Int.reduceSub, Int.reduceNeg, ↓reduceIte, reduceCtorEq, ↓C.catnaplaw16_CountBack_W, C.catnaplaw16_CountBack_B, C.catnaplaw16_CountBack]
  refine (put_spec h.c (h.lim _)).mono ?_
  rintro r s1 ⟨rfl, hC, hM⟩
  have h2 := h.move hC hM (h.lim.put _)
  have hb := h2.hb
  rw [e]
  simp only [↓Bp, Bq, Bs, ↓aop.eq_28, ↓aop.eq_30, Nat.reduceEqDiff, Nat.reduceAdd, Nat.reduceMul, Nat.reduceSub, Nat.reduceLeDiff, Nat.reduceLT, Int.reduceLT, Int.reduceLE, Int.reduceEq, Int.reduceToNat, Int.reduceAdd, Int.reduceSub, Int.reduceNeg, ↓reduceIte, reduceCtorEq, ↓C.catnaplaw16_CountBack_W, C.catnaplaw16_CountBack_B, C.catnaplaw16_CountBack, hb, l4, e4]
  refine (conf_check_spec hS.fine).mono ?_
  rintro r s2 ⟨rfl, rfl⟩
  rw [hS.right]
  simp only [↓Bp, Bq, Bs, ↓aop.eq_28, ↓aop.eq_30, Nat.reduceEqDiff, Nat.reduceAdd, Nat.reduceMul, Nat.reduceSub, Nat.reduceLeDiff, Nat.reduceLT, Int.reduceLT, Int.reduceLE, Int.reduceEq, Int.reduceToNat, Int.reduceAdd, Int.reduceSub, Int.reduceNeg, ↓reduceIte, reduceCtorEq, ↓C.catnaplaw16_CountBack_W, C.catnaplaw16_CountBack_B, C.catnaplaw16_CountBack]
  exact h2.le
theorem cb11 {s : ASt} {d : Nat} (hd : d < S.devs.length) (h : CW st s ib p m S (only d 0) false) :
    awp Try.prog C.catnaplaw16_CountBack_c11 (Post [.slot 6] fun r s => r = .bool true ∧ st.le s) [(8, .ptr ib 0), (9, .ptr p 0), (11, .int .i64 d)] s := by
  have hnv := hS.nv
  simp only [↓Bp, Bq, Bs, ↓aop.eq_28, ↓aop.eq_30, Nat.reduceEqDiff, Nat.reduceAdd, Nat.reduceMul, Nat.reduceSub, Nat.reduceLeDiff, Nat.reduceLT, Int.reduceLT, Int.reduceLE, Int.reduceEq, Int.reduceToNat, Int.reduceAdd, Int.reduceSub, Int.reduceNeg, ↓reduceIte, reduceCtorEq, ↓C.catnaplaw16_CountBack_W, C.catnaplaw16_CountBack_B, C.catnaplaw16_CountBack]
  refine awp_midB (fun _ : Unit => [(8, .ptr ib 0), (9, .ptr p 0), (11, .int .i64 d)]) (fun _ s' => s' = s) ?_ ?_
  rotate_left
  · rintro - s' rfl; exact cb1 hS hd h
  refine awp_loopK (fun t : Nat => [(8, .ptr ib 0), (9, .ptr p 0), (11, .int .i64 d), (17, .int .i64 t)]) (fun t s' => t ≤ S.devs.length ∧ s' = s) (fun t => S.devs.length - t) 0 rfl ⟨Nat.zero_le _, rfl⟩ ?_
  rintro t s ⟨ht, rfl⟩
  have hU : useL S.need (only d 0) false = List.replicate S.devs.length false := by rw [only_zero, useL_none, Soc.need_len]
  simp only [↓Bp, Bq, Bs, ↓aop.eq_28, ↓aop.eq_30, Nat.reduceEqDiff, Nat.reduceAdd, Nat.reduceMul, Nat.reduceSub, Nat.reduceLeDiff, Nat.reduceLT, Int.reduceLT, Int.reduceLE, Int.reduceEq, Int.reduceToNat, Int.reduceAdd, Int.reduceSub, Int.reduceNeg, ↓reduceIte, reduceCtorEq, ↓C.catnaplaw16_CountBack_W, C.catnaplaw16_CountBack_B, C.catnaplaw16_CountBack]
  refine (act_spec hS h).mono ?_
  rintro r s ⟨rfl, rfl⟩
  rw [hU, brow, List.length_replicate]
  by_cases htl : t < S.devs.length
  rotate_left
  · have htl' : ¬ (t : Int) < (S.devs.length : Nat) := by omega
    simp only [↓Bp, Bq, Bs, ↓aop.eq_28, ↓aop.eq_30, Nat.reduceEqDiff, Nat.reduceAdd, Nat.reduceMul, Nat.reduceSub, Nat.reduceLeDiff, Nat.reduceLT, Int.reduceLT, Int.reduceLE, Int.reduceEq, Int.reduceToNat, Int.reduceAdd, Int.reduceSub, Int.reduceNeg, ↓reduceIte, reduceCtorEq, ↓C.catnaplaw16_CountBack_W, C.catnaplaw16_CountBack_B, C.catnaplaw16_CountBack, htl']
    exact ⟨(), trivial⟩
  have htl' : (t : Int) < (S.devs.length : Nat) := by omega
  have hw := wsucc htl (by omega)
  have hz : (0:Int) ≤ (t : Int) ∧ (t : Int) < (S.devs.length : Nat) := by omega
  have hg : (bools (List.replicate S.devs.length false))[t]? = some (.bool false) := by rw [bools_get (by simpa using htl)]; simp
  simp only [↓Bp, Bq, Bs, ↓aop.eq_28, ↓aop.eq_30, Nat.reduceEqDiff, Nat.reduceAdd, Nat.reduceMul, Nat.reduceSub, Nat.reduceLeDiff, Nat.reduceLT, Int.reduceLT, Int.reduceLE, Int.reduceEq, Int.reduceToNat, Int.reduceAdd, Int.reduceSub, Int.reduceNeg, ↓reduceIte, reduceCtorEq, ↓C.catnaplaw16_CountBack_W, C.catnaplaw16_CountBack_B, C.catnaplaw16_CountBack, htl']
  refine (act_spec hS h).mono ?_
  rintro r s ⟨rfl, rfl⟩
  rw [hU, brow, List.length_replicate]
  simp only [↓Bp, Bq, Bs, ↓aop.eq_28, ↓aop.eq_30, Nat.reduceEqDiff, Nat.reduceAdd, Nat.reduceMul, Nat.reduceSub, Nat.reduceLeDiff, Nat.reduceLT, Int.reduceLT, Int.reduceLE, Int.reduceEq, Int.reduceToNat, Int.reduceAdd, Int.reduceSub, Int.reduceNeg, ↓reduceIte, reduceCtorEq, ↓C.catnaplaw16_CountBack_W, C.catnaplaw16_CountBack_B, C.catnaplaw16_CountBack, hz, hg, Int.toNat_natCast, Nat.mul_one, hw]
  exact ⟨t + 1, rfl, htl, by omega⟩
theorem cb21 {s : ASt} {d n : Nat} (hd : d < S.devs.length) (hn : n < 10) (h : CW st s ib p m S (only d (min n 7 : Nat)) false) :
    awp Try.prog C.catnaplaw16_CountBack_c21 (Post [.slot 6] fun r s => r = .bool true ∧ st.le s) [(8, .ptr ib 0), (9, .ptr p 0), (11, .int .i64 d), (12, .int .i64 n)] s := by
  have hv : isDv S.need (d : Int) := ⟨by omega, by rw [Soc.need_len]; omega⟩
  simp only [↓Bp, Bq, Bs, ↓aop.eq_28, ↓aop.eq_30, Nat.reduceEqDiff, Nat.reduceAdd, Nat.reduceMul, Nat.reduceSub, Nat.reduceLeDiff, Nat.reduceLT, Int.reduceLT, Int.reduceLE, Int.reduceEq, Int.reduceToNat, Int.reduceAdd, Int.reduceSub, Int.reduceNeg, ↓reduceIte, reduceCtorEq, ↓C.catnaplaw16_CountBack_W, C.catnaplaw16_CountBack_B, C.catnaplaw16_CountBack]
  refine awp_midB (fun _ : Unit => [(8, .ptr ib 0), (9, .ptr p 0), (11, .int .i64 d)]) (fun _ s' => CW st s' ib p m S (only d 0) false) ?_ ?_
  rotate_left
  · rintro - s' h; exact cb11 hS hd h
  refine awp_loopK (fun t : Nat => [(8, .ptr ib 0), (9, .ptr p 0), (11, .int .i64 d), (12, .int .i64 n), (16, .int .i64 t)]) (fun t s' => t ≤ min n 7 ∧ CW st s' ib p m S (only d (min n 7 - t : Nat)) false) (fun t => min n 7 - t) 0 rfl ⟨Nat.zero_le _, h⟩ ?_
  clear h s
  rintro t s ⟨ht, h⟩
  have hmin : (if (7 : Int) < (n : Int) then 7 else (n : Int)) = ((min n 7 : Nat) : Int) := by split <;> omega
  by_cases htl : t < min n 7
  rotate_left
  · have htl' : ¬ (t : Int) < ((min n 7 : Nat) : Int) := by omega
    rw [show min n 7 - t = 0 by omega] at h
    simp only [↓Bp, Bq, Bs, ↓aop.eq_28, ↓aop.eq_30, Nat.reduceEqDiff, Nat.reduceAdd, Nat.reduceMul, Nat.reduceSub, Nat.reduceLeDiff, Nat.reduceLT, Int.reduceLT, Int.reduceLE, Int.reduceEq, Int.reduceToNat, Int.reduceAdd, Int.reduceSub, Int.reduceNeg, ↓reduceIte, reduceCtorEq, ↓C.catnaplaw16_CountBack_W, C.catnaplaw16_CountBack_B, C.catnaplaw16_CountBack, hmin, htl']
    exact ⟨(), h⟩
  have htl' : (t : Int) < ((min n 7 : Nat) : Int) := by omega
  have hw : IntKind.i64.wrap ((t : Int) + 1) = ((t + 1 : Nat) : Int) := wsucc (n := 100) (by omega) (by omega)
  have e : putE S.need (only d (min n 7 - t : Nat)) false (d : Int) = 0 := by rw [putE, if_neg (by decide), if_neg (by simp [hv]), if_neg (by rw [only_at]; omega)]
  simp only [↓Bp, Bq, Bs, ↓aop.eq_28, ↓aop.eq_30, Nat.reduceEqDiff, Nat.reduceAdd, Nat.reduceMul, Nat.reduceSub, Nat.reduceLeDiff, Nat.reduceLT, Int.reduceLT, Int.reduceLE, Int.reduceEq, Int.reduceToNat, Int.reduceAdd, Int.reduceSub, Int.reduceNeg, ↓reduceIte, reduceCtorEq, ↓C.catnaplaw16_CountBack_W, C.catnaplaw16_CountBack_B, C.catnaplaw16_CountBack, hmin, htl']
  refine (put_spec h.c (h.lim _)).mono ?_
  rintro r s1 ⟨rfl, hC, hM⟩
  have h2 := h.move hC hM (h.lim.put _)
  rw [putF, e, if_pos rfl, addF_only, show ((min n 7 - t : Nat) : Int) + -1 = ((min n 7 - (t + 1) : Nat) : Int) by omega] at h2
  rw [e]
  simp only [↓Bp, Bq, Bs, ↓aop.eq_28, ↓aop.eq_30, Nat.reduceEqDiff, Nat.reduceAdd, Nat.reduceMul, Nat.reduceSub, Nat.reduceLeDiff, Nat.reduceLT, Int.reduceLT, Int.reduceLE, Int.reduceEq, Int.reduceToNat, Int.reduceAdd, Int.reduceSub, Int.reduceNeg, ↓reduceIte, reduceCtorEq, ↓C.catnaplaw16_CountBack_W, C.catnaplaw16_CountBack_B, C.catnaplaw16_CountBack, hw]
  exact ⟨t + 1, rfl, ⟨htl, h2⟩, by omega⟩
theorem cb24 {s : ASt} {d n : Nat} (hd : d < S.devs.length) (hn : n < 10) (h : CW st s ib p m S (only d (min n 7 : Nat)) true) :
    awp Try.prog C.catnaplaw16_CountBack_c24 (Post [.slot 6] fun r s => r = .bool true ∧ st.le s) [(8, .ptr ib 0), (9, .ptr p 0), (11, .int .i64 d), (12, .int .i64 n), (14, brow (useL S.need (only d (min n 7 : Nat)) false))] s := by
  have hnv := hS.nv
  have hnd : ¬ isDv S.need (S.devs.length : Nat) := fun e => by have := e.2; rw [Soc.need_len] at this; omega
  have e : getE S.need (only d (min n 7 : Nat)) false (S.devs.length : Nat) = 4 := by rw [getE, if_neg (by decide), if_pos hnd]
  simp only [↓Bp, Bq, Bs, ↓aop.eq_28, ↓aop.eq_30, Nat.reduceEqDiff, Nat.reduceAdd, Nat.reduceMul, Nat.reduceSub, Nat.reduceLeDiff, Nat.reduceLT, Int.reduceLT, Int.reduceLE, Int.reduceEq, Int.reduceToNat, Int.reduceAdd, Int.reduceSub, Int.reduceNeg, ↓reduceIte, reduceCtorEq, ↓C.catnaplaw16_CountBack_W, C.catnaplaw16_CountBack_B, C.catnaplaw16_CountBack]
  refine (resume_spec h.c).mono ?_
  rintro r s1 ⟨rfl, hC, hM⟩
  have h2 := h.move hC hM h.lim
  have hb := h2.hb
  simp only [↓Bp, Bq, Bs, ↓aop.eq_28, ↓aop.eq_30, Nat.reduceEqDiff, Nat.reduceAdd, Nat.reduceMul, Nat.reduceSub, Nat.reduceLeDiff, Nat.reduceLT, Int.reduceLT, Int.reduceLE, Int.reduceEq, Int.reduceToNat, Int.reduceAdd, Int.reduceSub, Int.reduceNeg, ↓reduceIte, reduceCtorEq, ↓C.catnaplaw16_CountBack_W, C.catnaplaw16_CountBack_B, C.catnaplaw16_CountBack]
  refine (act_spec hS h2).mono ?_
  rintro r s2 ⟨rfl, rfl⟩
  simp only [↓Bp, Bq, Bs, ↓aop.eq_28, ↓aop.eq_30, Nat.reduceEqDiff, Nat.reduceAdd, Nat.reduceMul, Nat.reduceSub, Nat.reduceLeDiff, Nat.reduceLT, Int.reduceLT, Int.reduceLE, Int.reduceEq, Int.reduceToNat, Int.reduceAdd, Int.reduceSub, Int.reduceNeg, ↓reduceIte, reduceCtorEq, ↓C.catnaplaw16_CountBack_W, C.catnaplaw16_CountBack_B, C.catnaplaw16_CountBack]
  refine (sameB_spec (by rw [useL_len, Soc.need_len]; omega)).mono ?_
  rintro r s3 ⟨rfl, rfl⟩
  rw [decide_eq_true rfl]
  simp only [↓Bp, Bq, Bs, ↓aop.eq_28, ↓aop.eq_30, Nat.reduceEqDiff, Nat.reduceAdd, Nat.reduceMul, Nat.reduceSub, Nat.reduceLeDiff, Nat.reduceLT, Int.reduceLT, Int.reduceLE, Int.reduceEq, Int.reduceToNat, Int.reduceAdd, Int.reduceSub, Int.reduceNeg, ↓reduceIte, reduceCtorEq, ↓C.catnaplaw16_CountBack_W, C.catnaplaw16_CountBack_B, C.catnaplaw16_CountBack, hb, Soc.cells, Soc.devV]
  refine (get_spec h2.c (h2.lim _)).mono ?_
  rintro r s4 ⟨rfl, hC3, hM3⟩
  have h3 := h2.move hC3 hM3 (h2.lim.get _)
  rw [getF, e, if_neg (by decide)] at h3
  rw [e]
  simp only [↓Bp, Bq, Bs, ↓aop.eq_28, ↓aop.eq_30, Nat.reduceEqDiff, Nat.reduceAdd, Nat.reduceMul, Nat.reduceSub, Nat.reduceLeDiff, Nat.reduceLT, Int.reduceLT, Int.reduceLE, Int.reduceEq, Int.reduceToNat, Int.reduceAdd, Int.reduceSub, Int.reduceNeg, ↓reduceIte, reduceCtorEq, ↓C.catnaplaw16_CountBack_r22_w, C.catnaplaw16_CountBack_r22_b, ↓C.catnaplaw16_CountBack_c22_w, ↓C.catnaplaw16_CountBack_c23_w, ↓C.catnaplaw16_CountBack_r21_w, C.catnaplaw16_CountBack_r21_b, ↓C.catnaplaw16_CountBack_c24_w, ↓C.catnaplaw16_CountBack_r18_w, C.catnaplaw16_CountBack_r18_b, ↓C.catnaplaw16_CountBack_c25_w, ↓C.catnaplaw16_CountBack_r20_w, C.catnaplaw16_CountBack_r20_b, ↓C.catnaplaw16_CountBack_c26_w, ↓C.catnaplaw16_CountBack_c27_w, ↓C.catnaplaw16_CountBack_r19_w, C.catnaplaw16_CountBack_r19_b, ↓C.catnaplaw16_CountBack_b28_w, ↓C.catnaplaw16_CountBack_c29_w, ↓C.catnaplaw16_CountBack_c30_w, ↓C.catnaplaw16_CountBack_r17_w, C.catnaplaw16_CountBack_r17_b, ↓C.catnaplaw16_CountBack_b32_w, ↓C.catnaplaw16_CountBack_c33_w, ↓C.catnaplaw16_CountBack_r16_w, C.catnaplaw16_CountBack_r16_b, ↓C.catnaplaw16_CountBack_c34_w, ↓C.catnaplaw16_CountBack_r15_w, C.catnaplaw16_CountBack_r15_b, ↓C.catnaplaw16_CountBack_c35_w, ↓C.catnaplaw16_CountBack_c36_w, ↓C.catnaplaw16_CountBack_r14_w, C.catnaplaw16_CountBack_r14_b, ↓C.catnaplaw16_CountBack_c37_w, ↓C.catnaplaw16_CountBack_r13_w, C.catnaplaw16_CountBack_r13_b, ↓C.catnaplaw16_CountBack_c38_w, ↓C.catnaplaw16_CountBack_r10_w, C.catnaplaw16_CountBack_r10_b, ↓C.catnaplaw16_CountBack_c39_w, ↓C.catnaplaw16_CountBack_r12_w, C.catnaplaw16_CountBack_r12_b, ↓C.catnaplaw16_CountBack_c40_w, ↓C.catnaplaw16_CountBack_c41_w, ↓C.catnaplaw16_CountBack_r11_w, C.catnaplaw16_CountBack_r11_b, ↓C.catnaplaw16_CountBack_b42_w, ↓C.catnaplaw16_CountBack_c43_w, ↓C.catnaplaw16_CountBack_c44_w, ↓C.catnaplaw16_CountBack_r9_w, C.catnaplaw16_CountBack_r9_b, ↓C.catnaplaw16_CountBack_b46_w, ↓C.catnaplaw16_CountBack_c47_w, ↓C.catnaplaw16_CountBack_r8_w, C.catnaplaw16_CountBack_r8_b, ↓C.catnaplaw16_CountBack_c48_w, ↓C.catnaplaw16_CountBack_r7_w, C.catnaplaw16_CountBack_r7_b, ↓C.catnaplaw16_CountBack_c49_w, ↓C.catnaplaw16_CountBack_r6_w, C.catnaplaw16_CountBack_r6_b, ↓C.catnaplaw16_CountBack_c50_w, ↓C.catnaplaw16_CountBack_r5_w, C.catnaplaw16_CountBack_r5_b, ↓C.catnaplaw16_CountBack_c51_w, ↓C.catnaplaw16_CountBack_c52_w, ↓C.catnaplaw16_CountBack_r4_w, C.catnaplaw16_CountBack_r4_b, ↓C.catnaplaw16_CountBack_c53_w, ↓C.catnaplaw16_CountBack_r3_w, C.catnaplaw16_CountBack_r3_b, ↓C.catnaplaw16_CountBack_c54_w, ↓C.catnaplaw16_CountBack_r2_w, C.catnaplaw16_CountBack_r2_b, ↓C.catnaplaw16_CountBack_c55_w, ↓C.catnaplaw16_CountBack_r1_w, C.catnaplaw16_CountBack_r1_b, ↓C.catnaplaw16_CountBack_c56_w, ↓C.catnaplaw16_CountBack_r0_w, C.catnaplaw16_CountBack_r0_b, C.catnaplaw16_CountBack]
  rw [C.catnaplaw16_CountBack_c21_w, awp_keep]
  exact cb21 hS hd hn h3
theorem cb34 {s : ASt} {d n : Nat} (hd : d < S.devs.length) (hn : n < 10) (h : CW st s ib p m S (only d (min n 7 : Nat)) true) :
    awp Try.prog C.catnaplaw16_CountBack_c34 (Post [.slot 6] fun r s => r = .bool true ∧ st.le s) [(8, .ptr ib 0), (9, .ptr p 0), (11, .int .i64 d), (12, .int .i64 n), (14, brow (useL S.need (only d (min n 7 : Nat)) false))] s := by
  have hnv := hS.nv
  simp only [↓Bp, Bq, Bs, ↓aop.eq_28, ↓aop.eq_30, Nat.reduceEqDiff, Nat.reduceAdd, Nat.reduceMul, Nat.reduceSub, Nat.reduceLeDiff, Nat.reduceLT, Int.reduceLT, Int.reduceLE, Int.reduceEq, Int.reduceToNat, Int.reduceAdd, Int.reduceSub, Int.reduceNeg, ↓reduceIte, reduceCtorEq, ↓C.catnaplaw16_CountBack_W, C.catnaplaw16_CountBack_B, C.catnaplaw16_CountBack]
  refine awp_midB (fun _ : Unit => [(8, .ptr ib 0), (9, .ptr p 0), (11, .int .i64 d), (12, .int .i64 n), (14, brow (useL S.need (only d (min n 7 : Nat)) false))]) (fun _ s' => s' = s) ?_ ?_
  rotate_left
  · rintro - s' rfl; exact cb24 hS hd hn h
  refine awp_loopK (fun t : Nat => [(8, .ptr ib 0), (9, .ptr p 0), (11, .int .i64 d), (12, .int .i64 n), (14, brow (useL S.need (only d (min n 7 : Nat)) false)), (15, .int .i64 t)]) (fun t s' => t ≤ S.devs.length ∧ s' = s) (fun t => S.devs.length - t) 0 rfl ⟨Nat.zero_le _, rfl⟩ ?_
  rintro t s ⟨ht, rfl⟩
  have hU : useL S.need (only d (min n 7 : Nat)) true = List.replicate S.devs.length false := by rw [useL_sl, Soc.need_len]
  simp only [↓Bp, Bq, Bs, ↓aop.eq_28, ↓aop.eq_30, Nat.reduceEqDiff, Nat.reduceAdd, Nat.reduceMul, Nat.reduceSub, Nat.reduceLeDiff, Nat.reduceLT, Int.reduceLT, Int.reduceLE, Int.reduceEq, Int.reduceToNat, Int.reduceAdd, Int.reduceSub, Int.reduceNeg, ↓reduceIte, reduceCtorEq, ↓C.catnaplaw16_CountBack_W, C.catnaplaw16_CountBack_B, C.catnaplaw16_CountBack]
  refine (act_spec hS h).mono ?_
  rintro r s ⟨rfl, rfl⟩
  rw [hU]
  by_cases htl : t < S.devs.length
  rotate_left
  · have htl' : ¬ (t : Int) < (S.devs.length : Nat) := by omega
    simp only [↓Bp, Bq, Bs, ↓aop.eq_28, ↓aop.eq_30, Nat.reduceEqDiff, Nat.reduceAdd, Nat.reduceMul, Nat.reduceSub, Nat.reduceLeDiff, Nat.reduceLT, Int.reduceLT, Int.reduceLE, Int.reduceEq, Int.reduceToNat, Int.reduceAdd, Int.reduceSub, Int.reduceNeg, ↓reduceIte, reduceCtorEq, ↓C.catnaplaw16_CountBack_W, C.catnaplaw16_CountBack_B, C.catnaplaw16_CountBack, brow, List.length_replicate, htl']
    exact ⟨(), trivial⟩
  have htl' : (t : Int) < (S.devs.length : Nat) := by omega
  have hw := wsucc htl (by omega)
  have hz : (0:Int) ≤ (t : Int) ∧ (t : Int) < (S.devs.length : Nat) := by omega
  have hg : (bools (List.replicate S.devs.length false))[t]? = some (.bool false) := by rw [bools_get (by simpa using htl)]; simp
  simp only [↓Bp, Bq, Bs, ↓aop.eq_28, ↓aop.eq_30, Nat.reduceEqDiff, Nat.reduceAdd, Nat.reduceMul, Nat.reduceSub, Nat.reduceLeDiff, Nat.reduceLT, Int.reduceLT, Int.reduceLE, Int.reduceEq, Int.reduceToNat, Int.reduceAdd, Int.reduceSub, Int.reduceNeg, ↓reduceIte, reduceCtorEq, ↓C.catnaplaw16_CountBack_W, C.catnaplaw16_CountBack_B, C.catnaplaw16_CountBack, brow, List.length_replicate, htl']
  refine (act_spec hS h).mono ?_
  rintro r s ⟨rfl, rfl⟩
  rw [hU]
  simp only [↓Bp, Bq, Bs, ↓aop.eq_28, ↓aop.eq_30, Nat.reduceEqDiff, Nat.reduceAdd, Nat.reduceMul, Nat.reduceSub, Nat.reduceLeDiff, Nat.reduceLT, Int.reduceLT, Int.reduceLE, Int.reduceEq, Int.reduceToNat, Int.reduceAdd, Int.reduceSub, Int.reduceNeg, ↓reduceIte, reduceCtorEq, ↓C.catnaplaw16_CountBack_W, C.catnaplaw16_CountBack_B, C.catnaplaw16_CountBack, brow, List.length_replicate, hz, hg, Int.toNat_natCast, Nat.mul_one, hw]
  exact ⟨t + 1, rfl, htl, by omega⟩
theorem cb38 {s : ASt} {d n : Nat} (hd : d < S.devs.length) (hn : n < 10) (h : CW st s ib p m S (only d (min n 7 : Nat)) false) :
    awp Try.prog C.catnaplaw16_CountBack_c38 (Post [.slot 6] fun r s => r = .bool true ∧ st.le s) [(8, .ptr ib 0), (9, .ptr p 0), (11, .int .i64 d), (12, .int .i64 n)] s := by
  have hmin : (if (7 : Int) < (n : Int) then 7 else (n : Int)) = ((min n 7 : Nat) : Int) := by split <;> omega
  have eg : ∀ i f, getE S.need f true i = 6 := fun i f => by rw [getE, if_pos rfl]
  have ep : ∀ i f, putE S.need f true i = 6 := fun i f => by rw [putE, if_pos rfl]
  simp only [↓Bp, Bq, Bs, ↓aop.eq_28, ↓aop.eq_30, Nat.reduceEqDiff, Nat.reduceAdd, Nat.reduceMul, Nat.reduceSub, Nat.reduceLeDiff, Nat.reduceLT, Int.reduceLT, Int.reduceLE, Int.reduceEq, Int.reduceToNat, Int.reduceAdd, Int.reduceSub, Int.reduceNeg, ↓reduceIte, reduceCtorEq, ↓C.catnaplaw16_CountBack_W, C.catnaplaw16_CountBack_B, C.catnaplaw16_CountBack]
  refine (act_spec hS h).mono ?_
  rintro r s1 ⟨rfl, rfl⟩
  simp only [↓Bp, Bq, Bs, ↓aop.eq_28, ↓aop.eq_30, Nat.reduceEqDiff, Nat.reduceAdd, Nat.reduceMul, Nat.reduceSub, Nat.reduceLeDiff, Nat.reduceLT, Int.reduceLT, Int.reduceLE, Int.reduceEq, Int.reduceToNat, Int.reduceAdd, Int.reduceSub, Int.reduceNeg, ↓reduceIte, reduceCtorEq, ↓C.catnaplaw16_CountBack_W, C.catnaplaw16_CountBack_B, C.catnaplaw16_CountBack]
  refine (resume_spec h.c).mono ?_
  rintro r s2 ⟨rfl, hC, hM⟩
  have h2 := h.move hC hM h.lim
  simp only [↓Bp, Bq, Bs, ↓aop.eq_28, ↓aop.eq_30, Nat.reduceEqDiff, Nat.reduceAdd, Nat.reduceMul, Nat.reduceSub, Nat.reduceLeDiff, Nat.reduceLT, Int.reduceLT, Int.reduceLE, Int.reduceEq, Int.reduceToNat, Int.reduceAdd, Int.reduceSub, Int.reduceNeg, ↓reduceIte, reduceCtorEq, ↓C.catnaplaw16_CountBack_W, C.catnaplaw16_CountBack_B, C.catnaplaw16_CountBack]
  refine (suspend_spec h2.c).mono ?_
  rintro r s3 ⟨rfl, hC, hM⟩
  have h3 := h2.move hC hM h.lim
  simp only [↓Bp, Bq, Bs, ↓aop.eq_28, ↓aop.eq_30, Nat.reduceEqDiff, Nat.reduceAdd, Nat.reduceMul, Nat.reduceSub, Nat.reduceLeDiff, Nat.reduceLT, Int.reduceLT, Int.reduceLE, Int.reduceEq, Int.reduceToNat, Int.reduceAdd, Int.reduceSub, Int.reduceNeg, ↓reduceIte, reduceCtorEq, ↓C.catnaplaw16_CountBack_W, C.catnaplaw16_CountBack_B, C.catnaplaw16_CountBack]
  refine (suspend_spec h3.c).mono ?_
  rintro r s4 ⟨rfl, hC, hM⟩
  have h4 := h3.move hC hM h.lim
  simp only [↓Bp, Bq, Bs, ↓aop.eq_28, ↓aop.eq_30, Nat.reduceEqDiff, Nat.reduceAdd, Nat.reduceMul, Nat.reduceSub, Nat.reduceLeDiff, Nat.reduceLT, Int.reduceLT, Int.reduceLE, Int.reduceEq, Int.reduceToNat, Int.reduceAdd, Int.reduceSub, Int.reduceNeg, ↓reduceIte, reduceCtorEq, ↓C.catnaplaw16_CountBack_W, C.catnaplaw16_CountBack_B, C.catnaplaw16_CountBack]
  refine (get_spec h4.c (h.lim _)).mono ?_
  rintro r s5 ⟨rfl, hC, hM⟩
  rw [getF_sl] at hC
  have h5 := h4.move hC hM h.lim
  rw [eg]
  simp only [↓Bp, Bq, Bs, ↓aop.eq_28, ↓aop.eq_30, Nat.reduceEqDiff, Nat.reduceAdd, Nat.reduceMul, Nat.reduceSub, Nat.reduceLeDiff, Nat.reduceLT, Int.reduceLT, Int.reduceLE, Int.reduceEq, Int.reduceToNat, Int.reduceAdd, Int.reduceSub, Int.reduceNeg, ↓reduceIte, reduceCtorEq, ↓C.catnaplaw16_CountBack_W, C.catnaplaw16_CountBack_B, C.catnaplaw16_CountBack]
  refine (put_spec h5.c (h.lim _)).mono ?_
  rintro r s6 ⟨rfl, hC, hM⟩
  rw [putF_sl] at hC
  have h6 := h5.move hC hM h.lim
  rw [ep]
  simp only [↓Bp, Bq, Bs, ↓aop.eq_28, ↓aop.eq_30, Nat.reduceEqDiff, Nat.reduceAdd, Nat.reduceMul, Nat.reduceSub, Nat.reduceLeDiff, Nat.reduceLT, Int.reduceLT, Int.reduceLE, Int.reduceEq, Int.reduceToNat, Int.reduceAdd, Int.reduceSub, Int.reduceNeg, ↓reduceIte, reduceCtorEq, ↓C.catnaplaw16_CountBack_W, C.catnaplaw16_CountBack_B, C.catnaplaw16_CountBack]
  refine (get_spec h6.c (h.lim _)).mono ?_
  rintro r s7 ⟨rfl, hC, hM⟩
  rw [getF_sl] at hC
  have h7 := h6.move hC hM h.lim
  rw [eg]
  simp only [↓Bp, Bq, Bs, ↓aop.eq_28, ↓aop.eq_30, Nat.reduceEqDiff, Nat.reduceAdd, Nat.reduceMul, Nat.reduceSub, Nat.reduceLeDiff, Nat.reduceLT, Int.reduceLT, Int.reduceLE, Int.reduceEq, Int.reduceToNat, Int.reduceAdd, Int.reduceSub, Int.reduceNeg, ↓reduceIte, reduceCtorEq, ↓C.catnaplaw16_CountBack_W, C.catnaplaw16_CountBack_B, C.catnaplaw16_CountBack]
  refine (cnt_spec h7.c _).mono ?_
  rintro r s8 ⟨rfl, rfl⟩
  rw [only_at]
  simp only [↓Bp, Bq, Bs, ↓aop.eq_28, ↓aop.eq_30, Nat.reduceEqDiff, Nat.reduceAdd, Nat.reduceMul, Nat.reduceSub, Nat.reduceLeDiff, Nat.reduceLT, Int.reduceLT, Int.reduceLE, Int.reduceEq, Int.reduceToNat, Int.reduceAdd, Int.reduceSub, Int.reduceNeg, ↓reduceIte, reduceCtorEq, ↓C.catnaplaw16_CountBack_r15_w, C.catnaplaw16_CountBack_r15_b, ↓C.catnaplaw16_CountBack_c35_w, ↓C.catnaplaw16_CountBack_c36_w, ↓C.catnaplaw16_CountBack_r14_w, C.catnaplaw16_CountBack_r14_b, ↓C.catnaplaw16_CountBack_c37_w, ↓C.catnaplaw16_CountBack_r13_w, C.catnaplaw16_CountBack_r13_b, ↓C.catnaplaw16_CountBack_c38_w, ↓C.catnaplaw16_CountBack_r10_w, C.catnaplaw16_CountBack_r10_b, ↓C.catnaplaw16_CountBack_c39_w, ↓C.catnaplaw16_CountBack_r12_w, C.catnaplaw16_CountBack_r12_b, ↓C.catnaplaw16_CountBack_c40_w, ↓C.catnaplaw16_CountBack_c41_w, ↓C.catnaplaw16_CountBack_r11_w, C.catnaplaw16_CountBack_r11_b, ↓C.catnaplaw16_CountBack_b42_w, ↓C.catnaplaw16_CountBack_c43_w, ↓C.catnaplaw16_CountBack_c44_w, ↓C.catnaplaw16_CountBack_r9_w, C.catnaplaw16_CountBack_r9_b, ↓C.catnaplaw16_CountBack_b46_w, ↓C.catnaplaw16_CountBack_c47_w, ↓C.catnaplaw16_CountBack_r8_w, C.catnaplaw16_CountBack_r8_b, ↓C.catnaplaw16_CountBack_c48_w, ↓C.catnaplaw16_CountBack_r7_w, C.catnaplaw16_CountBack_r7_b, ↓C.catnaplaw16_CountBack_c49_w, ↓C.catnaplaw16_CountBack_r6_w, C.catnaplaw16_CountBack_r6_b, ↓C.catnaplaw16_CountBack_c50_w, ↓C.catnaplaw16_CountBack_r5_w, C.catnaplaw16_CountBack_r5_b, ↓C.catnaplaw16_CountBack_c51_w, ↓C.catnaplaw16_CountBack_c52_w, ↓C.catnaplaw16_CountBack_r4_w, C.catnaplaw16_CountBack_r4_b, ↓C.catnaplaw16_CountBack_c53_w, ↓C.catnaplaw16_CountBack_r3_w, C.catnaplaw16_CountBack_r3_b, ↓C.catnaplaw16_CountBack_c54_w, ↓C.catnaplaw16_CountBack_r2_w, C.catnaplaw16_CountBack_r2_b, ↓C.catnaplaw16_CountBack_c55_w, ↓C.catnaplaw16_CountBack_r1_w, C.catnaplaw16_CountBack_r1_b, ↓C.catnaplaw16_CountBack_c56_w, ↓C.catnaplaw16_CountBack_r0_w, C.catnaplaw16_CountBack_r0_b, C.catnaplaw16_CountBack, hmin]
  rw [C.catnaplaw16_CountBack_c34_w, awp_keep]
  exact cb34 hS hd hn h7
theorem cb48 {s : ASt} {d n : Nat} (hd : d < S.devs.length) (hn : n < 10) (h : CW st s ib p m S (only d 0) false) :
    awp Try.prog C.catnaplaw16_CountBack_c48 (Post [.slot 6] fun r s => r = .bool true ∧ st.le s) [(8, .ptr ib 0), (9, .ptr p 0), (11, .int .i64 d), (12, .int .i64 n)] s := by
  have hv : isDv S.need (d : Int) := ⟨by omega, by rw [Soc.need_len]; omega⟩
  simp only [↓Bp, Bq, Bs, ↓aop.eq_28, ↓aop.eq_30, Nat.reduceEqDiff, Nat.reduceAdd, Nat.reduceMul, Nat.reduceSub, Nat.reduceLeDiff, Nat.reduceLT, Int.reduceLT, Int.reduceLE, Int.reduceEq, Int.reduceToNat, Int.reduceAdd, Int.reduceSub, Int.reduceNeg, ↓reduceIte, reduceCtorEq, ↓C.catnaplaw16_CountBack_W, C.catnaplaw16_CountBack_B, C.catnaplaw16_CountBack]
  refine awp_midB (fun _ : Unit => [(8, .ptr ib 0), (9, .ptr p 0), (11, .int .i64 d), (12, .int .i64 n)]) (fun _ s' => CW st s' ib p m S (only d (min n 7 : Nat)) false) ?_ ?_
  rotate_left
  · rintro - s' h; exact cb38 hS hd hn h
  refine awp_loopK (fun t : Nat => [(8, .ptr ib 0), (9, .ptr p 0), (11, .int .i64 d), (12, .int .i64 n), (13, .int .i64 t)]) (fun t s' => t ≤ n ∧ CW st s' ib p m S (only d (min t 7 : Nat)) false) (fun t => n - t) 0 rfl ⟨Nat.zero_le _, h⟩ ?_
  clear h s
  rintro t s ⟨ht, h⟩
  by_cases htl : t < n
  rotate_left
  · have htl' : ¬ (t : Int) < (n : Nat) := by omega
    rw [show t = n by omega] at h
    simp only [↓Bp, Bq, Bs, ↓aop.eq_28, ↓aop.eq_30, Nat.reduceEqDiff, Nat.reduceAdd, Nat.reduceMul, Nat.reduceSub, Nat.reduceLeDiff, Nat.reduceLT, Int.reduceLT, Int.reduceLE, Int.reduceEq, Int.reduceToNat, Int.reduceAdd, Int.reduceSub, Int.reduceNeg, ↓reduceIte, reduceCtorEq, ↓C.catnaplaw16_CountBack_W, C.catnaplaw16_CountBack_B, C.catnaplaw16_CountBack, htl']
    exact ⟨(), h⟩
  have htl' : (t : Int) < (n : Nat) := by omega
  have hw : IntKind.i64.wrap ((t : Int) + 1) = ((t + 1 : Nat) : Int) := wsucc (n := 100) (by omega) (by omega)
  simp only [↓Bp, Bq, Bs, ↓aop.eq_28, ↓aop.eq_30, Nat.reduceEqDiff, Nat.reduceAdd, Nat.reduceMul, Nat.reduceSub, Nat.reduceLeDiff, Nat.reduceLT, Int.reduceLT, Int.reduceLE, Int.reduceEq, Int.reduceToNat, Int.reduceAdd, Int.reduceSub, Int.reduceNeg, ↓reduceIte, reduceCtorEq, ↓C.catnaplaw16_CountBack_W, C.catnaplaw16_CountBack_B, C.catnaplaw16_CountBack, htl']
  refine (get_spec h.c (h.lim _)).mono ?_
  rintro r s1 ⟨rfl, hC, hM⟩
  have h2 := h.move hC hM (h.lim.get _)
  by_cases h7 : t < 7
  · have e : getE S.need (only d (min t 7 : Nat)) false (d : Int) = 0 := by rw [getE, if_neg (by decide), if_neg (by simp [hv]), if_neg (by rw [only_at]; omega)]
    have T := eq_true (show (t : Int) < 7 by omega)
    rw [getF, e, if_pos rfl, addF_only, show ((min t 7 : Nat) : Int) + 1 = ((min (t + 1) 7 : Nat) : Int) by omega] at h2
    rw [e]
    simp only [↓Bp, Bq, Bs, ↓aop.eq_28, ↓aop.eq_30, Nat.reduceEqDiff, Nat.reduceAdd, Nat.reduceMul, Nat.reduceSub, Nat.reduceLeDiff, Nat.reduceLT, Int.reduceLT, Int.reduceLE, Int.reduceEq, Int.reduceToNat, Int.reduceAdd, Int.reduceSub, Int.reduceNeg, ↓reduceIte, reduceCtorEq, ↓C.catnaplaw16_CountBack_W, C.catnaplaw16_CountBack_B, C.catnaplaw16_CountBack, T, hw]
    exact ⟨t + 1, rfl, ⟨htl, h2⟩, by omega⟩
  · have e : getE S.need (only d (min t 7 : Nat)) false (d : Int) = 8 := by rw [getE, if_neg (by decide), if_neg (by simp [hv]), if_pos (by rw [only_at]; omega)]
    have T := eq_false (show ¬ (t : Int) < 7 by omega)
    rw [getF, e, if_neg (by decide), show min t 7 = min (t + 1) 7 by omega] at h2
    rw [e]
    simp only [↓Bp, Bq, Bs, ↓aop.eq_28, ↓aop.eq_30, Nat.reduceEqDiff, Nat.reduceAdd, Nat.reduceMul, Nat.reduceSub, Nat.reduceLeDiff, Nat.reduceLT, Int.reduceLT, Int.reduceLE, Int.reduceEq, Int.reduceToNat, Int.reduceAdd, Int.reduceSub, Int.reduceNeg, ↓reduceIte, reduceCtorEq, ↓C.catnaplaw16_CountBack_W, C.catnaplaw16_CountBack_B, C.catnaplaw16_CountBack, T, hw]
    exact ⟨t + 1, rfl, ⟨htl, h2⟩, by omega⟩
end
theorem countback_spec {st : ASt} {l : List Int} {x y : Int} (hl : ∀ x ∈ l, -9223372036854775808 ≤ x ∧ x ≤ 9223372036854775807) (hll : l.length ≤ 9223372036854775807)
    (hx : -9223372036854775808 ≤ x ∧ x ≤ 9223372036854775807) (hy : -9223372036854775808 ≤ y ∧ y ≤ 9223372036854775807) :
    ACalls Try.prog F.catnaplaw16_CountBack [row l, .int .i64 x, .int .i64 y] st fun r s => r = .bool true ∧ s = st := by
  refine ACalls.gc (Q' := fun r s => r = .bool true ∧ st.le s) (calls_of_awp L.catnaplaw16_CountBack rfl ?_) (fun v s ⟨h, hl⟩ => ⟨st, hl, h, rfl⟩)
  simp only [↓Bp, Bq, Bs, ↓aop.eq_28, ↓aop.eq_30, Nat.reduceEqDiff, Nat.reduceAdd, Nat.reduceMul, Nat.reduceSub, Nat.reduceLeDiff, Nat.reduceLT, Int.reduceLT, Int.reduceLE, Int.reduceEq, Int.reduceToNat, Int.reduceAdd, Int.reduceSub, Int.reduceNeg, ↓reduceIte, reduceCtorEq, ↓C.catnaplaw16_CountBack_W, C.catnaplaw16_CountBack_B, C.catnaplaw16_CountBack]
  refine (cshown_spec st).mono ?_
  rintro r s ⟨rfl, rfl⟩
  simp only [↓Bp, Bq, Bs, ↓aop.eq_28, ↓aop.eq_30, Nat.reduceEqDiff, Nat.reduceAdd, Nat.reduceMul, Nat.reduceSub, Nat.reduceLeDiff, Nat.reduceLT, Int.reduceLT, Int.reduceLE, Int.reduceEq, Int.reduceToNat, Int.reduceAdd, Int.reduceSub, Int.reduceNeg, ↓reduceIte, reduceCtorEq, ↓C.catnaplaw16_CountBack_W, C.catnaplaw16_CountBack_B, C.catnaplaw16_CountBack]
  refine (chip_frz hl hll).mono ?_
  rintro r s ⟨rfl, rfl⟩
  have hS := chipS_like l
  generalize chipS l = S at hS
  have hnv := hS.nv
  have l4 : S.cells.length = 4 := rfl
  have e4 : AV.agg (List.take 4 S.cells) = .agg S.cells := rfl
  have f4 : allLeaf S.cells = true := rfl
  simp only [↓Bp, Bq, Bs, ↓aop.eq_28, ↓aop.eq_30, Nat.reduceEqDiff, Nat.reduceAdd, Nat.reduceMul, Nat.reduceSub, Nat.reduceLeDiff, Nat.reduceLT, Int.reduceLT, Int.reduceLE, Int.reduceEq, Int.reduceToNat, Int.reduceAdd, Int.reduceSub, Int.reduceNeg, ↓reduceIte, reduceCtorEq, ↓C.catnaplaw16_CountBack_r2_w, C.catnaplaw16_CountBack_r2_b, ↓C.catnaplaw16_CountBack_c55_w, ↓C.catnaplaw16_CountBack_r1_w, C.catnaplaw16_CountBack_r1_b, ↓C.catnaplaw16_CountBack_c56_w, ↓C.catnaplaw16_CountBack_r0_w, C.catnaplaw16_CountBack_r0_b, C.catnaplaw16_CountBack, l4, f4]
  rintro ib hib
  simp only [↓Bp, Bq, Bs, ↓aop.eq_28, ↓aop.eq_30, Nat.reduceEqDiff, Nat.reduceAdd, Nat.reduceMul, Nat.reduceSub, Nat.reduceLeDiff, Nat.reduceLT, Int.reduceLT, Int.reduceLE, Int.reduceEq, Int.reduceToNat, Int.reduceAdd, Int.reduceSub, Int.reduceNeg, ↓reduceIte, reduceCtorEq, ↓C.catnaplaw16_CountBack_r2_w, C.catnaplaw16_CountBack_r2_b, ↓C.catnaplaw16_CountBack_c55_w, ↓C.catnaplaw16_CountBack_r1_w, C.catnaplaw16_CountBack_r1_b, ↓C.catnaplaw16_CountBack_c56_w, ↓C.catnaplaw16_CountBack_r0_w, C.catnaplaw16_CountBack_r0_b, C.catnaplaw16_CountBack, hib, l4, f4]
  rw [ASt.new_set hib, show putN [AV.nils, AV.nils, AV.nils, AV.nils] 0 S.cells = S.cells from putN_all rfl]
  simp only [↓Bp, Bq, Bs, ↓aop.eq_28, ↓aop.eq_30, Nat.reduceEqDiff, Nat.reduceAdd, Nat.reduceMul, Nat.reduceSub, Nat.reduceLeDiff, Nat.reduceLT, Int.reduceLT, Int.reduceLE, Int.reduceEq, Int.reduceToNat, Int.reduceAdd, Int.reduceSub, Int.reduceNeg, ↓reduceIte, reduceCtorEq, ↓C.catnaplaw16_CountBack_W, C.catnaplaw16_CountBack_B, C.catnaplaw16_CountBack, hib, l4, e4]
  refine (cstart_spec hib hS).mono ?_
  rintro r s1 ⟨p, m, rfl, h⟩
  have hb := h.hb
  simp only [↓Bp, Bq, Bs, ↓aop.eq_28, ↓aop.eq_30, Nat.reduceEqDiff, Nat.reduceAdd, Nat.reduceMul, Nat.reduceSub, Nat.reduceLeDiff, Nat.reduceLT, Int.reduceLT, Int.reduceLE, Int.reduceEq, Int.reduceToNat, Int.reduceAdd, Int.reduceSub, Int.reduceNeg, ↓reduceIte, reduceCtorEq, ↓C.catnaplaw16_CountBack_W, C.catnaplaw16_CountBack_B, C.catnaplaw16_CountBack, hb, Soc.cells, Soc.devV]
  refine (pick_spec hx (n := S.devs.length) (by omega)).mono ?_
  rintro r s1 ⟨rfl, rfl⟩
  have hd := pickI_lt x (n := S.devs.length) (by omega)
  simp only [↓Bp, Bq, Bs, ↓aop.eq_28, ↓aop.eq_30, Nat.reduceEqDiff, Nat.reduceAdd, Nat.reduceMul, Nat.reduceSub, Nat.reduceLeDiff, Nat.reduceLT, Int.reduceLT, Int.reduceLE, Int.reduceEq, Int.reduceToNat, Int.reduceAdd, Int.reduceSub, Int.reduceNeg, ↓reduceIte, reduceCtorEq, ↓C.catnaplaw16_CountBack_W, C.catnaplaw16_CountBack_B, C.catnaplaw16_CountBack]
  refine (pick_spec hy (n := 10) (by omega)).mono ?_
  rintro r s1 ⟨rfl, rfl⟩
  have hn := pickI_lt y (n := 10) (by omega)
  simp only [↓Bp, Bq, Bs, ↓aop.eq_28, ↓aop.eq_30, Nat.reduceEqDiff, Nat.reduceAdd, Nat.reduceMul, Nat.reduceSub, Nat.reduceLeDiff, Nat.reduceLT, Int.reduceLT, Int.reduceLE, Int.reduceEq, Int.reduceToNat, Int.reduceAdd, Int.reduceSub, Int.reduceNeg, ↓reduceIte, reduceCtorEq, ↓C.catnaplaw16_CountBack_r7_w, C.catnaplaw16_CountBack_r7_b, ↓C.catnaplaw16_CountBack_c49_w, ↓C.catnaplaw16_CountBack_r6_w, C.catnaplaw16_CountBack_r6_b, ↓C.catnaplaw16_CountBack_c50_w, ↓C.catnaplaw16_CountBack_r5_w, C.catnaplaw16_CountBack_r5_b, ↓C.catnaplaw16_CountBack_c51_w, ↓C.catnaplaw16_CountBack_c52_w, ↓C.catnaplaw16_CountBack_r4_w, C.catnaplaw16_CountBack_r4_b, ↓C.catnaplaw16_CountBack_c53_w, ↓C.catnaplaw16_CountBack_r3_w, C.catnaplaw16_CountBack_r3_b, ↓C.catnaplaw16_CountBack_c54_w, ↓C.catnaplaw16_CountBack_r2_w, C.catnaplaw16_CountBack_r2_b, ↓C.catnaplaw16_CountBack_c55_w, ↓C.catnaplaw16_CountBack_r1_w, C.catnaplaw16_CountBack_r1_b, ↓C.catnaplaw16_CountBack_c56_w, ↓C.catnaplaw16_CountBack_r0_w, C.catnaplaw16_CountBack_r0_b, C.catnaplaw16_CountBack]
  rw [C.catnaplaw16_CountBack_c48_w, awp_keep]
  exact cb48 hS hd hn (by rw [only_zero]; exact h)
end Go.Proofs.Ytoblpialfhfdgaa.Cn
