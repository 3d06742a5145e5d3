/- Count: CountOrder. -/
import Derived.Test.YtoblpialfhfdgaaCnCount5
set_option linter.unusedSimpArgs false
set_option linter.unusedVariables false
set_option linter.unusedSectionVars false
namespace Go.Proofs.Ytoblpialfhfdgaa.Cn
open Go Go.Proofs

section
variable {st : ASt} {ib p m : Nat} {S : Soc} (hS : S.like)
include hS
set_option maxHeartbeats 1000000 in
theorem co_end {s : ASt} {f : Int → Int} {sl : Bool} {x y : Nat} (h : CW st s ib p m S f sl) :
    awp Try.prog C.catnaplaw16_CountOrder_c12 (Post [.slot 8] fun r s => r = .bool true ∧ st.le s) [(11, .ptr p 0), (14, .int .i64 x), (15, .int .i64 y)] s := by
  have hnv := hS.nv
  by_cases hxy : x = y
  · have T := eq_true (show (x : Int) = (y : Int) by omega)
    simp only [↓Bp, Bq, Bs, ↓aop.eq_28, ↓aop.eq_30, Nat.reduceEqDiff, Nat.reduceAdd, Nat.reduceMul, Nat.reduceSub, Nat.reduceLeDiff, Nat.reduceLT, Int.reduceLT, Int.reduceLE, Int.reduceEq, Int.reduceToNat, Int.reduceAdd, Int.reduceSub, Int.reduceNeg, ↓reduceIte, reduceCtorEq, ↓C.catnaplaw16_CountOrder_W, C.catnaplaw16_CountOrder_B, C.catnaplaw16_CountOrder, T]
    exact h.le
  have hne : (x : Int) ≠ (y : Int) := by omega
  have T := eq_false hne
  simp only [↓Bp, Bq, Bs, ↓aop.eq_28, ↓aop.eq_30, Nat.reduceEqDiff, Nat.reduceAdd, Nat.reduceMul, Nat.reduceSub, Nat.reduceLeDiff, Nat.reduceLT, Int.reduceLT, Int.reduceLE, Int.reduceEq, Int.reduceToNat, Int.reduceAdd, Int.reduceSub, Int.reduceNeg, ↓reduceIte, reduceCtorEq, ↓C.catnaplaw16_CountOrder_W, C.catnaplaw16_CountOrder_B, C.catnaplaw16_CountOrder, T]
  refine (h.copy).mono ?_
  rintro r s1 ⟨p2, m2, rfl, h1, k1, n1, n2, hle⟩
  have hA := h.apart n1 n2
  simp only [↓Bp, Bq, Bs, ↓aop.eq_28, ↓aop.eq_30, Nat.reduceEqDiff, Nat.reduceAdd, Nat.reduceMul, Nat.reduceSub, Nat.reduceLeDiff, Nat.reduceLT, Int.reduceLT, Int.reduceLE, Int.reduceEq, Int.reduceToNat, Int.reduceAdd, Int.reduceSub, Int.reduceNeg, ↓reduceIte, reduceCtorEq, ↓C.catnaplaw16_CountOrder_W, C.catnaplaw16_CountOrder_B, C.catnaplaw16_CountOrder]
  refine (get_spec h1.c (h1.lim _)).mono ?_
  rintro r s2 ⟨rfl, hC, hM⟩
  have h2 := h1.move hC hM (h1.lim.get _)
  have k2 := k1.other hA.symm h2 hM
  simp only [↓Bp, Bq, Bs, ↓aop.eq_28, ↓aop.eq_30, Nat.reduceEqDiff, Nat.reduceAdd, Nat.reduceMul, Nat.reduceSub, Nat.reduceLeDiff, Nat.reduceLT, Int.reduceLT, Int.reduceLE, Int.reduceEq, Int.reduceToNat, Int.reduceAdd, Int.reduceSub, Int.reduceNeg, ↓reduceIte, reduceCtorEq, ↓C.catnaplaw16_CountOrder_W, C.catnaplaw16_CountOrder_B, C.catnaplaw16_CountOrder]
  refine (put_spec h2.c (h2.lim _)).mono ?_
  rintro r s3 ⟨rfl, hC, hM⟩
  have h3 := h2.move hC hM (h2.lim.put _)
  have k3 := k2.other hA.symm h3 hM
  simp only [↓Bp, Bq, Bs, ↓aop.eq_28, ↓aop.eq_30, Nat.reduceEqDiff, Nat.reduceAdd, Nat.reduceMul, Nat.reduceSub, Nat.reduceLeDiff, Nat.reduceLT, Int.reduceLT, Int.reduceLE, Int.reduceEq, Int.reduceToNat, Int.reduceAdd, Int.reduceSub, Int.reduceNeg, ↓reduceIte, reduceCtorEq, ↓C.catnaplaw16_CountOrder_W, C.catnaplaw16_CountOrder_B, C.catnaplaw16_CountOrder]
  refine (put_spec k3.c (k3.lim _)).mono ?_
  rintro r s4 ⟨rfl, hC, hM⟩
  have k4 := k3.move hC hM (k3.lim.put _)
  have h4 := h3.other hA k4 hM
  simp only [↓Bp, Bq, Bs, ↓aop.eq_28, ↓aop.eq_30, Nat.reduceEqDiff, Nat.reduceAdd, Nat.reduceMul, Nat.reduceSub, Nat.reduceLeDiff, Nat.reduceLT, Int.reduceLT, Int.reduceLE, Int.reduceEq, Int.reduceToNat, Int.reduceAdd, Int.reduceSub, Int.reduceNeg, ↓reduceIte, reduceCtorEq, ↓C.catnaplaw16_CountOrder_W, C.catnaplaw16_CountOrder_B, C.catnaplaw16_CountOrder]
  refine (get_spec k4.c (k4.lim _)).mono ?_
  rintro r s5 ⟨rfl, hC, hM⟩
  have k5 := k4.move hC hM (k4.lim.get _)
  have h5 := h4.other hA k5 hM
  have e1 : putE S.need (getF S.need f sl x) sl y = putE S.need f sl y := putE_congr (getF_at (Ne.symm hne))
  have e2 : getE S.need (putF S.need f sl y) sl x = getE S.need f sl x := getE_congr (putF_at hne)
  rw [← get_put hne] at k5
  rw [e1, e2]
  simp only [↓Bp, Bq, Bs, ↓aop.eq_28, ↓aop.eq_30, Nat.reduceEqDiff, Nat.reduceAdd, Nat.reduceMul, Nat.reduceSub, Nat.reduceLeDiff, Nat.reduceLT, Int.reduceLT, Int.reduceLE, Int.reduceEq, Int.reduceToNat, Int.reduceAdd, Int.reduceSub, Int.reduceNeg, ↓reduceIte, reduceCtorEq, ↓C.catnaplaw16_CountOrder_W, C.catnaplaw16_CountOrder_B, C.catnaplaw16_CountOrder]
  refine (act_spec hS h5).mono ?_
  rintro r s6 ⟨rfl, rfl⟩
  simp only [↓Bp, Bq, Bs, ↓aop.eq_28, ↓aop.eq_30, Nat.reduceEqDiff, Nat.reduceAdd, Nat.reduceMul, Nat.reduceSub, Nat.reduceLeDiff, Nat.reduceLT, Int.reduceLT, Int.reduceLE, Int.reduceEq, Int.reduceToNat, Int.reduceAdd, Int.reduceSub, Int.reduceNeg, ↓reduceIte, reduceCtorEq, ↓C.catnaplaw16_CountOrder_W, C.catnaplaw16_CountOrder_B, C.catnaplaw16_CountOrder]
  refine (act_spec hS k5).mono ?_
  rintro r s6 ⟨rfl, rfl⟩
  simp only [↓Bp, Bq, Bs, ↓aop.eq_28, ↓aop.eq_30, Nat.reduceEqDiff, Nat.reduceAdd, Nat.reduceMul, Nat.reduceSub, Nat.reduceLeDiff, Nat.reduceLT, Int.reduceLT, Int.reduceLE, Int.reduceEq, Int.reduceToNat, Int.reduceAdd, Int.reduceSub, Int.reduceNeg, ↓reduceIte, reduceCtorEq, ↓C.catnaplaw16_CountOrder_W, C.catnaplaw16_CountOrder_B, C.catnaplaw16_CountOrder]
  refine (sameB_spec (by rw [useL_len, Soc.need_len]; omega)).mono ?_
  rintro r s7 ⟨rfl, rfl⟩
  rw [decide_eq_true rfl]
  simp only [↓Bp, Bq, Bs, ↓aop.eq_28, ↓aop.eq_30, Nat.reduceEqDiff, Nat.reduceAdd, Nat.reduceMul, Nat.reduceSub, Nat.reduceLeDiff, Nat.reduceLT, Int.reduceLT, Int.reduceLE, Int.reduceEq, Int.reduceToNat, Int.reduceAdd, Int.reduceSub, Int.reduceNeg, ↓reduceIte, reduceCtorEq, ↓C.catnaplaw16_CountOrder_W, C.catnaplaw16_CountOrder_B, C.catnaplaw16_CountOrder]
  refine (cnt_spec h5.c _).mono ?_
  rintro r s7 ⟨rfl, rfl⟩
  simp only [↓Bp, Bq, Bs, ↓aop.eq_28, ↓aop.eq_30, Nat.reduceEqDiff, Nat.reduceAdd, Nat.reduceMul, Nat.reduceSub, Nat.reduceLeDiff, Nat.reduceLT, Int.reduceLT, Int.reduceLE, Int.reduceEq, Int.reduceToNat, Int.reduceAdd, Int.reduceSub, Int.reduceNeg, ↓reduceIte, reduceCtorEq, ↓C.catnaplaw16_CountOrder_W, C.catnaplaw16_CountOrder_B, C.catnaplaw16_CountOrder]
  refine (cnt_spec k5.c _).mono ?_
  rintro r s7 ⟨rfl, rfl⟩
  simp only [↓Bp, Bq, Bs, ↓aop.eq_28, ↓aop.eq_30, Nat.reduceEqDiff, Nat.reduceAdd, Nat.reduceMul, Nat.reduceSub, Nat.reduceLeDiff, Nat.reduceLT, Int.reduceLT, Int.reduceLE, Int.reduceEq, Int.reduceToNat, Int.reduceAdd, Int.reduceSub, Int.reduceNeg, ↓reduceIte, reduceCtorEq, ↓C.catnaplaw16_CountOrder_W, C.catnaplaw16_CountOrder_B, C.catnaplaw16_CountOrder]
  refine (cnt_spec h5.c _).mono ?_
  rintro r s7 ⟨rfl, rfl⟩
  simp only [↓Bp, Bq, Bs, ↓aop.eq_28, ↓aop.eq_30, Nat.reduceEqDiff, Nat.reduceAdd, Nat.reduceMul, Nat.reduceSub, Nat.reduceLeDiff, Nat.reduceLT, Int.reduceLT, Int.reduceLE, Int.reduceEq, Int.reduceToNat, Int.reduceAdd, Int.reduceSub, Int.reduceNeg, ↓reduceIte, reduceCtorEq, ↓C.catnaplaw16_CountOrder_W, C.catnaplaw16_CountOrder_B, C.catnaplaw16_CountOrder]
  refine (cnt_spec k5.c _).mono ?_
  rintro r s7 ⟨rfl, rfl⟩
  simp only [↓Bp, Bq, Bs, ↓aop.eq_28, ↓aop.eq_30, Nat.reduceEqDiff, Nat.reduceAdd, Nat.reduceMul, Nat.reduceSub, Nat.reduceLeDiff, Nat.reduceLT, Int.reduceLT, Int.reduceLE, Int.reduceEq, Int.reduceToNat, Int.reduceAdd, Int.reduceSub, Int.reduceNeg, ↓reduceIte, reduceCtorEq, ↓C.catnaplaw16_CountOrder_W, C.catnaplaw16_CountOrder_B, C.catnaplaw16_CountOrder]
  exact h5.le
theorem co_loop {s : ASt} {acts : List Pair} {x y : Int} (hac : ∀ x ∈ acts, I64 x.a ∧ I64 x.b) (hal : acts.length ≤ 100) (hx : -9223372036854775808 ≤ x ∧ x ≤ 9223372036854775807) (hy : -9223372036854775808 ≤ y ∧ y ≤ 9223372036854775807) {f : Int → Int} {sl : Bool} (h : CW st s ib p m S f sl) :
    awp Try.prog C.catnaplaw16_CountOrder_c22 (Post [.slot 8] fun r s => r = .bool true ∧ st.le s)
      [(1, .isl 2 (acts.flatMap encPair) acts.length), (2, .int .i64 x), (3, .int .i64 y), (10, .ptr ib 0), (11, .ptr p 0)] s := by
  have hnv := hS.nv
  simp only [↓Bp, Bq, Bs, ↓aop.eq_28, ↓aop.eq_30, Nat.reduceEqDiff, Nat.reduceAdd, Nat.reduceMul, Nat.reduceSub, Nat.reduceLeDiff, Nat.reduceLT, Int.reduceLT, Int.reduceLE, Int.reduceEq, Int.reduceToNat, Int.reduceAdd, Int.reduceSub, Int.reduceNeg, ↓reduceIte, reduceCtorEq, ↓C.catnaplaw16_CountOrder_W, C.catnaplaw16_CountOrder_B, C.catnaplaw16_CountOrder]
  refine awp_midB (fun _ : Unit => [(2, .int .i64 x), (3, .int .i64 y), (10, .ptr ib 0), (11, .ptr p 0)]) (fun _ s => ∃ f sl, CW st s ib p m S f sl) ?_ ?_
  · refine awp_loopK (fun t : Nat => [(1, .isl 2 (acts.flatMap encPair) acts.length), (2, .int .i64 x), (3, .int .i64 y), (10, .ptr ib 0), (11, .ptr p 0), (13, .int .i64 t)])
      (fun t s => t ≤ acts.length ∧ ∃ f sl, CW st s ib p m S f sl) (fun t => acts.length - t) 0 rfl ⟨Nat.zero_le _, f, sl, h⟩ ?_
    clear h f sl s
    rintro t s ⟨ht, f, sl, h⟩
    have hb := h.hb
    by_cases htl : t < acts.length
    rotate_left
    · have htl' : ¬ (t : Int) < (acts.length : Nat) := by omega
      simp only [↓Bp, Bq, Bs, ↓aop.eq_28, ↓aop.eq_30, Nat.reduceEqDiff, Nat.reduceAdd, Nat.reduceMul, Nat.reduceSub, Nat.reduceLeDiff, Nat.reduceLT, Int.reduceLT, Int.reduceLE, Int.reduceEq, Int.reduceToNat, Int.reduceAdd, Int.reduceSub, Int.reduceNeg, ↓reduceIte, reduceCtorEq, ↓C.catnaplaw16_CountOrder_W, C.catnaplaw16_CountOrder_B, C.catnaplaw16_CountOrder, htl']
      exact ⟨(), f, sl, h⟩
    have htl' : (t : Int) < (acts.length : Nat) := by omega
    have hw := wsucc htl (by omega)
    have hz2 : (0:Int) ≤ (t : Int) ∧ (t : Int) < (acts.length : Nat) := by omega
    have hf := flatMap_fits (f := encPair) (k := 2) (fun _ => rfl) htl
    have hat := flatMap_at (f := encPair) (k := 2) (fun _ => rfl) htl
    have hIa := hac _ (List.getElem_mem htl)
    simp only [↓Bp, Bq, Bs, ↓aop.eq_28, ↓aop.eq_30, Nat.reduceEqDiff, Nat.reduceAdd, Nat.reduceMul, Nat.reduceSub, Nat.reduceLeDiff, Nat.reduceLT, Int.reduceLT, Int.reduceLE, Int.reduceEq, Int.reduceToNat, Int.reduceAdd, Int.reduceSub, Int.reduceNeg, ↓reduceIte, reduceCtorEq, ↓C.catnaplaw16_CountOrder_W, C.catnaplaw16_CountOrder_B, C.catnaplaw16_CountOrder, htl', hb, Soc.cells, Soc.devV, hz2, hf, hat, encPair, Int.toNat_natCast]
    refine (CW.done hS h hIa.1 hIa.2).mono ?_
    rintro r s1 ⟨rfl, h2⟩
    simp only [↓Bp, Bq, Bs, ↓aop.eq_28, ↓aop.eq_30, Nat.reduceEqDiff, Nat.reduceAdd, Nat.reduceMul, Nat.reduceSub, Nat.reduceLeDiff, Nat.reduceLT, Int.reduceLT, Int.reduceLE, Int.reduceEq, Int.reduceToNat, Int.reduceAdd, Int.reduceSub, Int.reduceNeg, ↓reduceIte, reduceCtorEq, ↓C.catnaplaw16_CountOrder_W, C.catnaplaw16_CountOrder_B, C.catnaplaw16_CountOrder, hw]
    exact ⟨t + 1, rfl, ⟨htl, _, _, h2⟩, by omega⟩
  · clear h f sl s
    rintro - s ⟨f, sl, h⟩
    have hb := h.hb
    simp only [↓Bp, Bq, Bs, ↓aop.eq_28, ↓aop.eq_30, Nat.reduceEqDiff, Nat.reduceAdd, Nat.reduceMul, Nat.reduceSub, Nat.reduceLeDiff, Nat.reduceLT, Int.reduceLT, Int.reduceLE, Int.reduceEq, Int.reduceToNat, Int.reduceAdd, Int.reduceSub, Int.reduceNeg, ↓reduceIte, reduceCtorEq, ↓C.catnaplaw16_CountOrder_W, C.catnaplaw16_CountOrder_B, C.catnaplaw16_CountOrder, hb, Soc.cells, Soc.devV]
    refine (pick_spec hx (n := S.devs.length) (by omega)).mono ?_
    rintro r s1 ⟨rfl, rfl⟩
    simp only [↓Bp, Bq, Bs, ↓aop.eq_28, ↓aop.eq_30, Nat.reduceEqDiff, Nat.reduceAdd, Nat.reduceMul, Nat.reduceSub, Nat.reduceLeDiff, Nat.reduceLT, Int.reduceLT, Int.reduceLE, Int.reduceEq, Int.reduceToNat, Int.reduceAdd, Int.reduceSub, Int.reduceNeg, ↓reduceIte, reduceCtorEq, ↓C.catnaplaw16_CountOrder_W, C.catnaplaw16_CountOrder_B, C.catnaplaw16_CountOrder, hb, Soc.cells, Soc.devV]
    refine (pick_spec hy (n := S.devs.length) (by omega)).mono ?_
    rintro r s1 ⟨rfl, rfl⟩
    simp only [↓Bp, Bq, Bs, ↓aop.eq_28, ↓aop.eq_30, Nat.reduceEqDiff, Nat.reduceAdd, Nat.reduceMul, Nat.reduceSub, Nat.reduceLeDiff, Nat.reduceLT, Int.reduceLT, Int.reduceLE, Int.reduceEq, Int.reduceToNat, Int.reduceAdd, Int.reduceSub, Int.reduceNeg, ↓reduceIte, reduceCtorEq, ↓C.catnaplaw16_CountOrder_r11_w, C.catnaplaw16_CountOrder_r11_b, ↓C.catnaplaw16_CountOrder_c13_w, ↓C.catnaplaw16_CountOrder_r10_w, C.catnaplaw16_CountOrder_r10_b, ↓C.catnaplaw16_CountOrder_c14_w, ↓C.catnaplaw16_CountOrder_r8_w, C.catnaplaw16_CountOrder_r8_b, ↓C.catnaplaw16_CountOrder_c15_w, ↓C.catnaplaw16_CountOrder_r9_w, C.catnaplaw16_CountOrder_r9_b, ↓C.catnaplaw16_CountOrder_b16_w, ↓C.catnaplaw16_CountOrder_c17_w, ↓C.catnaplaw16_CountOrder_c18_w, ↓C.catnaplaw16_CountOrder_r7_w, C.catnaplaw16_CountOrder_r7_b, ↓C.catnaplaw16_CountOrder_b20_w, ↓C.catnaplaw16_CountOrder_c21_w, ↓C.catnaplaw16_CountOrder_r6_w, C.catnaplaw16_CountOrder_r6_b, ↓C.catnaplaw16_CountOrder_c22_w, ↓C.catnaplaw16_CountOrder_r5_w, C.catnaplaw16_CountOrder_r5_b, ↓C.catnaplaw16_CountOrder_c23_w, ↓C.catnaplaw16_CountOrder_c24_w, ↓C.catnaplaw16_CountOrder_r4_w, C.catnaplaw16_CountOrder_r4_b, ↓C.catnaplaw16_CountOrder_c25_w, ↓C.catnaplaw16_CountOrder_r3_w, C.catnaplaw16_CountOrder_r3_b, ↓C.catnaplaw16_CountOrder_c26_w, ↓C.catnaplaw16_CountOrder_r2_w, C.catnaplaw16_CountOrder_r2_b, ↓C.catnaplaw16_CountOrder_c27_w, ↓C.catnaplaw16_CountOrder_r1_w, C.catnaplaw16_CountOrder_r1_b, ↓C.catnaplaw16_CountOrder_c28_w, ↓C.catnaplaw16_CountOrder_r0_w, C.catnaplaw16_CountOrder_r0_b, C.catnaplaw16_CountOrder]
    rw [C.catnaplaw16_CountOrder_c12_w, awp_keep]
    exact co_end hS h
end
theorem countorder_spec {st : ASt} {l : List Int} {acts : List Pair} {x y : Int} (hl : ∀ x ∈ l, -9223372036854775808 ≤ x ∧ x ≤ 9223372036854775807) (hll : l.length ≤ 9223372036854775807)
    (hac : ∀ x ∈ acts, I64 x.a ∧ I64 x.b) (hal : acts.length ≤ 9223372036854775807) (hx : -9223372036854775808 ≤ x ∧ x ≤ 9223372036854775807) (hy : -9223372036854775808 ≤ y ∧ y ≤ 9223372036854775807) :
    ACalls Try.prog F.catnaplaw16_CountOrder [row l, .isl 2 (acts.flatMap encPair) acts.length, .int .i64 x, .int .i64 y] st fun r s => r = .bool true ∧ s = st := by
  refine ACalls.gc (Q' := fun r s => r = .bool true ∧ st.le s) (calls_of_awp L.catnaplaw16_CountOrder rfl ?_) (fun v s ⟨h, hl⟩ => ⟨st, hl, h, rfl⟩)
  simp only [↓Bp, Bq, Bs, ↓aop.eq_28, ↓aop.eq_30, Nat.reduceEqDiff, Nat.reduceAdd, Nat.reduceMul, Nat.reduceSub, Nat.reduceLeDiff, Nat.reduceLT, Int.reduceLT, Int.reduceLE, Int.reduceEq, Int.reduceToNat, Int.reduceAdd, Int.reduceSub, Int.reduceNeg, ↓reduceIte, reduceCtorEq, ↓C.catnaplaw16_CountOrder_W, C.catnaplaw16_CountOrder_B, C.catnaplaw16_CountOrder]
  refine (cshown_spec st).mono ?_
  rintro r s ⟨rfl, rfl⟩
  simp only [↓Bp, Bq, Bs, ↓aop.eq_28, ↓aop.eq_30, Nat.reduceEqDiff, Nat.reduceAdd, Nat.reduceMul, Nat.reduceSub, Nat.reduceLeDiff, Nat.reduceLT, Int.reduceLT, Int.reduceLE, Int.reduceEq, Int.reduceToNat, Int.reduceAdd, Int.reduceSub, Int.reduceNeg, ↓reduceIte, reduceCtorEq, ↓C.catnaplaw16_CountOrder_W, C.catnaplaw16_CountOrder_B, C.catnaplaw16_CountOrder]
  refine (chip_frz hl hll).mono ?_
  rintro r s ⟨rfl, rfl⟩
  have hS := chipS_like l
  generalize chipS l = S at hS
  have l4 : S.cells.length = 4 := rfl
  have e4 : AV.agg (List.take 4 S.cells) = .agg S.cells := rfl
  have f4 : allLeaf S.cells = true := rfl
  simp only [↓Bp, Bq, Bs, ↓aop.eq_28, ↓aop.eq_30, Nat.reduceEqDiff, Nat.reduceAdd, Nat.reduceMul, Nat.reduceSub, Nat.reduceLeDiff, Nat.reduceLT, Int.reduceLT, Int.reduceLE, Int.reduceEq, Int.reduceToNat, Int.reduceAdd, Int.reduceSub, Int.reduceNeg, ↓reduceIte, reduceCtorEq, ↓C.catnaplaw16_CountOrder_r2_w, C.catnaplaw16_CountOrder_r2_b, ↓C.catnaplaw16_CountOrder_c27_w, ↓C.catnaplaw16_CountOrder_r1_w, C.catnaplaw16_CountOrder_r1_b, ↓C.catnaplaw16_CountOrder_c28_w, ↓C.catnaplaw16_CountOrder_r0_w, C.catnaplaw16_CountOrder_r0_b, C.catnaplaw16_CountOrder, l4, f4]
  rintro ib hib
  simp only [↓Bp, Bq, Bs, ↓aop.eq_28, ↓aop.eq_30, Nat.reduceEqDiff, Nat.reduceAdd, Nat.reduceMul, Nat.reduceSub, Nat.reduceLeDiff, Nat.reduceLT, Int.reduceLT, Int.reduceLE, Int.reduceEq, Int.reduceToNat, Int.reduceAdd, Int.reduceSub, Int.reduceNeg, ↓reduceIte, reduceCtorEq, ↓C.catnaplaw16_CountOrder_r2_w, C.catnaplaw16_CountOrder_r2_b, ↓C.catnaplaw16_CountOrder_c27_w, ↓C.catnaplaw16_CountOrder_r1_w, C.catnaplaw16_CountOrder_r1_b, ↓C.catnaplaw16_CountOrder_c28_w, ↓C.catnaplaw16_CountOrder_r0_w, C.catnaplaw16_CountOrder_r0_b, C.catnaplaw16_CountOrder, hib, l4, f4]
  rw [ASt.new_set hib, show putN [AV.nils, AV.nils, AV.nils, AV.nils] 0 S.cells = S.cells from putN_all rfl]
  simp only [↓Bp, Bq, Bs, ↓aop.eq_28, ↓aop.eq_30, Nat.reduceEqDiff, Nat.reduceAdd, Nat.reduceMul, Nat.reduceSub, Nat.reduceLeDiff, Nat.reduceLT, Int.reduceLT, Int.reduceLE, Int.reduceEq, Int.reduceToNat, Int.reduceAdd, Int.reduceSub, Int.reduceNeg, ↓reduceIte, reduceCtorEq, ↓C.catnaplaw16_CountOrder_W, C.catnaplaw16_CountOrder_B, C.catnaplaw16_CountOrder, hib, l4, e4]
  refine (cstart_spec hib hS).mono ?_
  rintro r s1 ⟨p, m, rfl, h⟩
  by_cases hac0 : acts.length ≤ 100
  rotate_left
  · have hz0 : (100 : Int) < (acts.length : Nat) := by omega
    simp only [↓Bp, Bq, Bs, ↓aop.eq_28, ↓aop.eq_30, Nat.reduceEqDiff, Nat.reduceAdd, Nat.reduceMul, Nat.reduceSub, Nat.reduceLeDiff, Nat.reduceLT, Int.reduceLT, Int.reduceLE, Int.reduceEq, Int.reduceToNat, Int.reduceAdd, Int.reduceSub, Int.reduceNeg, ↓reduceIte, reduceCtorEq, ↓C.catnaplaw16_CountOrder_W, C.catnaplaw16_CountOrder_B, C.catnaplaw16_CountOrder, hz0]
    exact h.le
  have hz0 : ¬ (100 : Int) < (acts.length : Nat) := by omega
  simp only [↓Bp, Bq, Bs, ↓aop.eq_28, ↓aop.eq_30, Nat.reduceEqDiff, Nat.reduceAdd, Nat.reduceMul, Nat.reduceSub, Nat.reduceLeDiff, Nat.reduceLT, Int.reduceLT, Int.reduceLE, Int.reduceEq, Int.reduceToNat, Int.reduceAdd, Int.reduceSub, Int.reduceNeg, ↓reduceIte, reduceCtorEq, ↓C.catnaplaw16_CountOrder_r5_w, C.catnaplaw16_CountOrder_r5_b, ↓C.catnaplaw16_CountOrder_c23_w, ↓C.catnaplaw16_CountOrder_c24_w, ↓C.catnaplaw16_CountOrder_r4_w, C.catnaplaw16_CountOrder_r4_b, ↓C.catnaplaw16_CountOrder_c25_w, ↓C.catnaplaw16_CountOrder_r3_w, C.catnaplaw16_CountOrder_r3_b, ↓C.catnaplaw16_CountOrder_c26_w, ↓C.catnaplaw16_CountOrder_r2_w, C.catnaplaw16_CountOrder_r2_b, ↓C.catnaplaw16_CountOrder_c27_w, ↓C.catnaplaw16_CountOrder_r1_w, C.catnaplaw16_CountOrder_r1_b, ↓C.catnaplaw16_CountOrder_c28_w, ↓C.catnaplaw16_CountOrder_r0_w, C.catnaplaw16_CountOrder_r0_b, C.catnaplaw16_CountOrder, hz0]
  rw [C.catnaplaw16_CountOrder_c22_w, awp_keep]
  exact co_loop hS hac hac0 hx hy h
end Go.Proofs.Ytoblpialfhfdgaa.Cn
