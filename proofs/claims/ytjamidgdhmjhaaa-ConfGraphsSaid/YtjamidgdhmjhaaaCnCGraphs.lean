/- Descriptions: ConfGraphs. -/
import Derived.Test.YtjamidgdhmjhaaaCnConfS
set_option linter.unusedSimpArgs false
set_option linter.unusedVariables false
namespace Go.Proofs.Ytjamidgdhmjhaaa.Cn
open Go Go.Proofs

theorem row_get {g : List (List Int)} {i : Nat} (h : i < g.length) : (g.map row)[i]? = some (.isl 1 (ints g[i]) g[i].length) := by simp [h, row]
theorem osc_iff {i : Nat} {c : Clk} (h : ClkOk i c) : c.kind = 111 ↔ c.src.length = 0 := by cases h <;> simp
theorem confgraphs_spec {st : ASt} {l : List Int} (hl : ∀ x ∈ l, -9223372036854775808 ≤ x ∧ x ≤ 9223372036854775807) (hll : l.length ≤ 9223372036854775807) :
    ACalls Try.prog F.catnaplaw4_ConfGraphs [row l] st fun r _ => r = .bool true := by
  refine calls_of_awp L.catnaplaw4_ConfGraphs rfl ?_
  simp only [↓Bp, Bq, Bs, ↓aop.eq_28, ↓aop.eq_30, Nat.reduceEqDiff, Nat.reduceAdd, Nat.reduceMul, Nat.reduceSub, Nat.reduceLeDiff, Nat.reduceLT, Int.reduceLT, Int.reduceLE, Int.reduceEq, Int.reduceToNat, Int.reduceAdd, Int.reduceSub, Int.reduceNeg, ↓reduceIte, reduceCtorEq, ↓C.catnaplaw4_ConfGraphs_W, C.catnaplaw4_ConfGraphs_B, C.catnaplaw4_ConfGraphs]
  refine (shown_spec st).mono ?_
  rintro r s ⟨rfl, rfl⟩
  simp only [↓Bp, Bq, Bs, ↓aop.eq_28, ↓aop.eq_30, Nat.reduceEqDiff, Nat.reduceAdd, Nat.reduceMul, Nat.reduceSub, Nat.reduceLeDiff, Nat.reduceLT, Int.reduceLT, Int.reduceLE, Int.reduceEq, Int.reduceToNat, Int.reduceAdd, Int.reduceSub, Int.reduceNeg, ↓reduceIte, reduceCtorEq, ↓C.catnaplaw4_ConfGraphs_W, C.catnaplaw4_ConfGraphs_B, C.catnaplaw4_ConfGraphs]
  refine (chip_frz hl hll).mono ?_
  rintro r s2 ⟨rfl, rfl⟩
  have hk := chipS_like l
  generalize chipS l = S at hk
  have hs := hk.sane
  have n1 := hk.nc; have n2 := hk.nd; have n3 := hk.nr; have n4 := hk.nv
  simp only [↓Bp, Bq, Bs, ↓aop.eq_28, ↓aop.eq_30, Nat.reduceEqDiff, Nat.reduceAdd, Nat.reduceMul, Nat.reduceSub, Nat.reduceLeDiff, Nat.reduceLT, Int.reduceLT, Int.reduceLE, Int.reduceEq, Int.reduceToNat, Int.reduceAdd, Int.reduceSub, Int.reduceNeg, ↓reduceIte, reduceCtorEq, ↓C.catnaplaw4_ConfGraphs_r4_w, C.catnaplaw4_ConfGraphs_r4_b, ↓C.catnaplaw4_ConfGraphs_c38_w, ↓C.catnaplaw4_ConfGraphs_r3_w, C.catnaplaw4_ConfGraphs_r3_b, ↓C.catnaplaw4_ConfGraphs_c39_w, ↓C.catnaplaw4_ConfGraphs_c40_w, ↓C.catnaplaw4_ConfGraphs_r2_w, C.catnaplaw4_ConfGraphs_r2_b, ↓C.catnaplaw4_ConfGraphs_c41_w, ↓C.catnaplaw4_ConfGraphs_r1_w, C.catnaplaw4_ConfGraphs_r1_b, ↓C.catnaplaw4_ConfGraphs_c42_w, ↓C.catnaplaw4_ConfGraphs_r0_w, C.catnaplaw4_ConfGraphs_r0_b, C.catnaplaw4_ConfGraphs]
  rintro ib hib
  have lc : S.cells.length = 4 := rfl
  have lf : allLeaf S.cells = true := rfl
  simp only [↓Bp, Bq, Bs, ↓aop.eq_28, ↓aop.eq_30, Nat.reduceEqDiff, Nat.reduceAdd, Nat.reduceMul, Nat.reduceSub, Nat.reduceLeDiff, Nat.reduceLT, Int.reduceLT, Int.reduceLE, Int.reduceEq, Int.reduceToNat, Int.reduceAdd, Int.reduceSub, Int.reduceNeg, ↓reduceIte, reduceCtorEq, ↓C.catnaplaw4_ConfGraphs_r4_w, C.catnaplaw4_ConfGraphs_r4_b, ↓C.catnaplaw4_ConfGraphs_c38_w, ↓C.catnaplaw4_ConfGraphs_r3_w, C.catnaplaw4_ConfGraphs_r3_b, ↓C.catnaplaw4_ConfGraphs_c39_w, ↓C.catnaplaw4_ConfGraphs_c40_w, ↓C.catnaplaw4_ConfGraphs_r2_w, C.catnaplaw4_ConfGraphs_r2_b, ↓C.catnaplaw4_ConfGraphs_c41_w, ↓C.catnaplaw4_ConfGraphs_r1_w, C.catnaplaw4_ConfGraphs_r1_b, ↓C.catnaplaw4_ConfGraphs_c42_w, ↓C.catnaplaw4_ConfGraphs_r0_w, C.catnaplaw4_ConfGraphs_r0_b, C.catnaplaw4_ConfGraphs, hib, lc, lf]
  rw [ASt.new_set hib]
  rw [show putN [AV.nils, AV.nils, AV.nils, AV.nils] 0 S.cells = S.cells from putN_all rfl]
  have hb := ASt.new_self (.cells S.cells) hib
  generalize s2.new ib (.cells S.cells) = s3 at hb
  have e4 : AV.agg (List.take 4 S.cells) = .agg S.cells := rfl
  simp only [↓Bp, Bq, Bs, ↓aop.eq_28, ↓aop.eq_30, Nat.reduceEqDiff, Nat.reduceAdd, Nat.reduceMul, Nat.reduceSub, Nat.reduceLeDiff, Nat.reduceLT, Int.reduceLT, Int.reduceLE, Int.reduceEq, Int.reduceToNat, Int.reduceAdd, Int.reduceSub, Int.reduceNeg, ↓reduceIte, reduceCtorEq, ↓C.catnaplaw4_ConfGraphs_W, C.catnaplaw4_ConfGraphs_B, C.catnaplaw4_ConfGraphs, hb, lc, e4]
  refine (clocks_spec hs.c hs.cs).mono ?_
  rintro r s4 ⟨rfl, rfl⟩
  simp only [↓Bp, Bq, Bs, ↓aop.eq_28, ↓aop.eq_30, Nat.reduceEqDiff, Nat.reduceAdd, Nat.reduceMul, Nat.reduceSub, Nat.reduceLeDiff, Nat.reduceLT, Int.reduceLT, Int.reduceLE, Int.reduceEq, Int.reduceToNat, Int.reduceAdd, Int.reduceSub, Int.reduceNeg, ↓reduceIte, reduceCtorEq, ↓C.catnaplaw4_ConfGraphs_W, C.catnaplaw4_ConfGraphs_B, C.catnaplaw4_ConfGraphs, hb, lc, e4]
  refine (domains_spec hs.d).mono ?_
  rintro r s5 ⟨rfl, rfl⟩
  simp only [↓Bp, Bq, Bs, ↓aop.eq_28, ↓aop.eq_30, Nat.reduceEqDiff, Nat.reduceAdd, Nat.reduceMul, Nat.reduceSub, Nat.reduceLeDiff, Nat.reduceLT, Int.reduceLT, Int.reduceLE, Int.reduceEq, Int.reduceToNat, Int.reduceAdd, Int.reduceSub, Int.reduceNeg, ↓reduceIte, reduceCtorEq, ↓C.catnaplaw4_ConfGraphs_W, C.catnaplaw4_ConfGraphs_B, C.catnaplaw4_ConfGraphs, hb, lc, e4]
  refine (needs_spec hs.v fun d hd => (hs.vs d hd).2).mono ?_
  rintro r s6 ⟨rfl, rfl⟩
  rw [Soc.cells, Soc.clkV, Soc.domV, Soc.devV] at hb
  simp only [↓Bp, Bq, Bs, ↓aop.eq_28, ↓aop.eq_30, Nat.reduceEqDiff, Nat.reduceAdd, Nat.reduceMul, Nat.reduceSub, Nat.reduceLeDiff, Nat.reduceLT, Int.reduceLT, Int.reduceLE, Int.reduceEq, Int.reduceToNat, Int.reduceAdd, Int.reduceSub, Int.reduceNeg, ↓reduceIte, reduceCtorEq, ↓C.catnaplaw4_ConfGraphs_W, C.catnaplaw4_ConfGraphs_B, C.catnaplaw4_ConfGraphs, hb, gval, List.length_map]
  refine awp_midB (fun _ : Unit => [(4, .ptr ib 0), (6, .isl 1 ((S.doms.map Dom.up).map row) S.doms.length), (7, .isl 1 ((S.devs.map Dev.needs).map row) S.devs.length)]) (fun _ s => s = s6) ?_ ?_
  · refine awp_loopK (fun i : Nat => [(4, .ptr ib 0), (5, .isl 1 ((S.clocks.map Clk.src).map row) S.clocks.length), (6, .isl 1 ((S.doms.map Dom.up).map row) S.doms.length), (7, .isl 1 ((S.devs.map Dev.needs).map row) S.devs.length), (8, .int .i64 i)]) (fun i s => i ≤ S.clocks.length ∧ s = s6) (fun i => S.clocks.length - i) 0 rfl ⟨Nat.zero_le _, rfl⟩ ?_
    rintro i s ⟨hi, rfl⟩
    by_cases hil : i < S.clocks.length
    rotate_left
    · have hil' : ¬ (i : Int) < (S.clocks.length : Nat) := by omega
      simp only [↓Bp, Bq, Bs, ↓aop.eq_28, ↓aop.eq_30, Nat.reduceEqDiff, Nat.reduceAdd, Nat.reduceMul, Nat.reduceSub, Nat.reduceLeDiff, Nat.reduceLT, Int.reduceLT, Int.reduceLE, Int.reduceEq, Int.reduceToNat, Int.reduceAdd, Int.reduceSub, Int.reduceNeg, ↓reduceIte, reduceCtorEq, ↓C.catnaplaw4_ConfGraphs_W, C.catnaplaw4_ConfGraphs_B, C.catnaplaw4_ConfGraphs, hil']
      exact ⟨(), trivial⟩
    have hil' : (i : Int) < (S.clocks.length : Nat) := by omega
    have hz : (0:Int) ≤ (i : Int) ∧ (i : Int) < (S.clocks.length : Nat) := by omega
    have hw := wsucc hil (by omega)
    have hg : ((S.clocks.map Clk.src).map row)[i]? = some (.isl 1 (ints S.clocks[i].src) S.clocks[i].src.length) := by simp [hil, row]
    have h1 := rows_get Clk.cells Clk.cells_len hil (j := 1) (by omega)
    have h0 := rows_get0 Clk.cells Clk.cells_len hil (by omega)
    rw [show (S.clocks[i].cells)[1]? = some (.isl 1 (ints S.clocks[i].src) S.clocks[i].src.length) from rfl] at h1
    rw [show (S.clocks[i].cells)[0]? = some (.int .u8 S.clocks[i].kind) from rfl] at h0
    have ho := osc_iff (hk.clk i hil)
    have ho2 : (((S.clocks[i].src.length : Nat) : Int) = 0) ↔ S.clocks[i].src.length = 0 := by omega
    simp only [↓Bp, Bq, Bs, ↓aop.eq_28, ↓aop.eq_30, Nat.reduceEqDiff, Nat.reduceAdd, Nat.reduceMul, Nat.reduceSub, Nat.reduceLeDiff, Nat.reduceLT, Int.reduceLT, Int.reduceLE, Int.reduceEq, Int.reduceToNat, Int.reduceAdd, Int.reduceSub, Int.reduceNeg, ↓reduceIte, reduceCtorEq, ↓C.catnaplaw4_ConfGraphs_W, C.catnaplaw4_ConfGraphs_B, C.catnaplaw4_ConfGraphs, hil', hz, Int.toNat_natCast, Nat.mul_one, hg, hb, h1, h0, ho, ho2, hw]
    exact ⟨i + 1, rfl, hil, by omega⟩
  rintro - s rfl
  simp only [↓Bp, Bq, Bs, ↓aop.eq_28, ↓aop.eq_30, Nat.reduceEqDiff, Nat.reduceAdd, Nat.reduceMul, Nat.reduceSub, Nat.reduceLeDiff, Nat.reduceLT, Int.reduceLT, Int.reduceLE, Int.reduceEq, Int.reduceToNat, Int.reduceAdd, Int.reduceSub, Int.reduceNeg, ↓reduceIte, reduceCtorEq, ↓C.catnaplaw4_ConfGraphs_W, C.catnaplaw4_ConfGraphs_B, C.catnaplaw4_ConfGraphs]
  refine awp_midB (fun _ : Unit => [(4, .ptr ib 0), (7, .isl 1 ((S.devs.map Dev.needs).map row) S.devs.length)]) (fun _ s' => s' = s) ?_ ?_
  · refine awp_loopK (fun i : Nat => [(4, .ptr ib 0), (6, .isl 1 ((S.doms.map Dom.up).map row) S.doms.length), (7, .isl 1 ((S.devs.map Dev.needs).map row) S.devs.length), (9, .int .i64 i)]) (fun i s' => i ≤ S.doms.length ∧ s' = s) (fun i => S.doms.length - i) 0 rfl ⟨Nat.zero_le _, rfl⟩ ?_
    rintro i s ⟨hi, rfl⟩
    by_cases hil : i < S.doms.length
    rotate_left
    · have hil' : ¬ (i : Int) < (S.doms.length : Nat) := by omega
      simp only [↓Bp, Bq, Bs, ↓aop.eq_28, ↓aop.eq_30, Nat.reduceEqDiff, Nat.reduceAdd, Nat.reduceMul, Nat.reduceSub, Nat.reduceLeDiff, Nat.reduceLT, Int.reduceLT, Int.reduceLE, Int.reduceEq, Int.reduceToNat, Int.reduceAdd, Int.reduceSub, Int.reduceNeg, ↓reduceIte, reduceCtorEq, ↓C.catnaplaw4_ConfGraphs_W, C.catnaplaw4_ConfGraphs_B, C.catnaplaw4_ConfGraphs, hil']
      exact ⟨(), trivial⟩
    have hil' : (i : Int) < (S.doms.length : Nat) := by omega
    have hz : (0:Int) ≤ (i : Int) ∧ (i : Int) < (S.doms.length : Nat) := by omega
    have hw := wsucc hil (by omega)
    have hg : ((S.doms.map Dom.up).map row)[i]? = some (.isl 1 (ints S.doms[i].up) S.doms[i].up.length) := by simp [hil, row]
    have h0 := rows_get0 Dom.cells Dom.cells_len hil (by omega)
    rw [show (S.doms[i].cells)[0]? = some (.int .i64 S.doms[i].above) from rfl] at h0
    by_cases hab : S.doms[i].above = -1
    · have hup : S.doms[i].up = [] := by rw [Dom.up, if_pos hab]
      rw [hup] at hg
      simp only [↓Bp, Bq, Bs, ↓aop.eq_28, ↓aop.eq_30, Nat.reduceEqDiff, Nat.reduceAdd, Nat.reduceMul, Nat.reduceSub, Nat.reduceLeDiff, Nat.reduceLT, Int.reduceLT, Int.reduceLE, Int.reduceEq, Int.reduceToNat, Int.reduceAdd, Int.reduceSub, Int.reduceNeg, ↓reduceIte, reduceCtorEq, ↓C.catnaplaw4_ConfGraphs_W, C.catnaplaw4_ConfGraphs_B, C.catnaplaw4_ConfGraphs, hil', hz, Int.toNat_natCast, Nat.mul_one, hg, hb, h0, hab, hw, gt_iff_lt, Int.natCast_zero]
      exact ⟨i + 1, rfl, hil, by omega⟩
    · have hup : S.doms[i].up = [S.doms[i].above] := by rw [Dom.up, if_neg hab]
      rw [hup, show AV.isl 1 (ints [S.doms[i].above]) [S.doms[i].above].length = .isl 1 [.int .i64 S.doms[i].above] 1 from rfl] at hg
      have e1 : ((1 : Nat) : Int) = 1 := rfl
      generalize S.doms[i].above = x at hg h0 hab
      simp only [↓Bp, Bq, Bs, ↓aop.eq_28, ↓aop.eq_30, Nat.reduceEqDiff, Nat.reduceAdd, Nat.reduceMul, Nat.reduceSub, Nat.reduceLeDiff, Nat.reduceLT, Int.reduceLT, Int.reduceLE, Int.reduceEq, Int.reduceToNat, Int.reduceAdd, Int.reduceSub, Int.reduceNeg, ↓reduceIte, reduceCtorEq, ↓C.catnaplaw4_ConfGraphs_r25_w, C.catnaplaw4_ConfGraphs_r25_b, ↓C.catnaplaw4_ConfGraphs_c1_w, ↓C.catnaplaw4_ConfGraphs_r22_w, C.catnaplaw4_ConfGraphs_r22_b, ↓C.catnaplaw4_ConfGraphs_c2_w, ↓C.catnaplaw4_ConfGraphs_r24_w, C.catnaplaw4_ConfGraphs_r24_b, ↓C.catnaplaw4_ConfGraphs_c3_w, ↓C.catnaplaw4_ConfGraphs_c4_w, ↓C.catnaplaw4_ConfGraphs_r23_w, C.catnaplaw4_ConfGraphs_r23_b, ↓C.catnaplaw4_ConfGraphs_b5_w, ↓C.catnaplaw4_ConfGraphs_c6_w, ↓C.catnaplaw4_ConfGraphs_c7_w, ↓C.catnaplaw4_ConfGraphs_r21_w, C.catnaplaw4_ConfGraphs_r21_b, ↓C.catnaplaw4_ConfGraphs_b9_w, ↓C.catnaplaw4_ConfGraphs_c10_w, ↓C.catnaplaw4_ConfGraphs_r20_w, C.catnaplaw4_ConfGraphs_r20_b, ↓C.catnaplaw4_ConfGraphs_c11_w, ↓C.catnaplaw4_ConfGraphs_r18_w, C.catnaplaw4_ConfGraphs_r18_b, ↓C.catnaplaw4_ConfGraphs_b15_w, ↓C.catnaplaw4_ConfGraphs_c16_w, ↓C.catnaplaw4_ConfGraphs_c17_w, ↓C.catnaplaw4_ConfGraphs_r16_w, C.catnaplaw4_ConfGraphs_r16_b, ↓C.catnaplaw4_ConfGraphs_b19_w, ↓C.catnaplaw4_ConfGraphs_c20_w, ↓C.catnaplaw4_ConfGraphs_r15_w, C.catnaplaw4_ConfGraphs_r15_b, ↓C.catnaplaw4_ConfGraphs_c21_w, ↓C.catnaplaw4_ConfGraphs_r12_w, C.catnaplaw4_ConfGraphs_r12_b, ↓C.catnaplaw4_ConfGraphs_c22_w, ↓C.catnaplaw4_ConfGraphs_r14_w, C.catnaplaw4_ConfGraphs_r14_b, ↓C.catnaplaw4_ConfGraphs_c23_w, ↓C.catnaplaw4_ConfGraphs_c24_w, ↓C.catnaplaw4_ConfGraphs_r13_w, C.catnaplaw4_ConfGraphs_r13_b, ↓C.catnaplaw4_ConfGraphs_b25_w, ↓C.catnaplaw4_ConfGraphs_c26_w, ↓C.catnaplaw4_ConfGraphs_c27_w, ↓C.catnaplaw4_ConfGraphs_r11_w, C.catnaplaw4_ConfGraphs_r11_b, ↓C.catnaplaw4_ConfGraphs_b29_w, ↓C.catnaplaw4_ConfGraphs_c30_w, ↓C.catnaplaw4_ConfGraphs_r10_w, C.catnaplaw4_ConfGraphs_r10_b, ↓C.catnaplaw4_ConfGraphs_c31_w, ↓C.catnaplaw4_ConfGraphs_r9_w, C.catnaplaw4_ConfGraphs_r9_b, ↓C.catnaplaw4_ConfGraphs_c32_w, ↓C.catnaplaw4_ConfGraphs_c33_w, ↓C.catnaplaw4_ConfGraphs_r8_w, C.catnaplaw4_ConfGraphs_r8_b, ↓C.catnaplaw4_ConfGraphs_c34_w, ↓C.catnaplaw4_ConfGraphs_r7_w, C.catnaplaw4_ConfGraphs_r7_b, ↓C.catnaplaw4_ConfGraphs_c35_w, ↓C.catnaplaw4_ConfGraphs_r6_w, C.catnaplaw4_ConfGraphs_r6_b, ↓C.catnaplaw4_ConfGraphs_c36_w, ↓C.catnaplaw4_ConfGraphs_r5_w, C.catnaplaw4_ConfGraphs_r5_b, ↓C.catnaplaw4_ConfGraphs_c37_w, ↓C.catnaplaw4_ConfGraphs_r4_w, C.catnaplaw4_ConfGraphs_r4_b, ↓C.catnaplaw4_ConfGraphs_c38_w, ↓C.catnaplaw4_ConfGraphs_r3_w, C.catnaplaw4_ConfGraphs_r3_b, ↓C.catnaplaw4_ConfGraphs_c39_w, ↓C.catnaplaw4_ConfGraphs_c40_w, ↓C.catnaplaw4_ConfGraphs_r2_w, C.catnaplaw4_ConfGraphs_r2_b, ↓C.catnaplaw4_ConfGraphs_c41_w, ↓C.catnaplaw4_ConfGraphs_r1_w, C.catnaplaw4_ConfGraphs_r1_b, ↓C.catnaplaw4_ConfGraphs_c42_w, ↓C.catnaplaw4_ConfGraphs_r0_w, C.catnaplaw4_ConfGraphs_r0_b, C.catnaplaw4_ConfGraphs, hil', hz, Int.toNat_natCast, Nat.mul_one, hg, hb, h0, hab, gt_iff_lt, e1, Int.reduceToNat, Nat.zero_mul, Int.lt_irrefl, Int.le_refl]
      simp only [↓Bp, Bq, Bs, ↓aop.eq_28, ↓aop.eq_30, Nat.reduceEqDiff, Nat.reduceAdd, Nat.reduceMul, Nat.reduceSub, Nat.reduceLeDiff, Nat.reduceLT, Int.reduceLT, Int.reduceLE, Int.reduceEq, Int.reduceToNat, Int.reduceAdd, Int.reduceSub, Int.reduceNeg, ↓reduceIte, reduceCtorEq, ↓C.catnaplaw4_ConfGraphs_W, C.catnaplaw4_ConfGraphs_B, C.catnaplaw4_ConfGraphs, hw]
      exact ⟨i + 1, rfl, hil, by omega⟩
  rintro - s' rfl
  simp only [↓Bp, Bq, Bs, ↓aop.eq_28, ↓aop.eq_30, Nat.reduceEqDiff, Nat.reduceAdd, Nat.reduceMul, Nat.reduceSub, Nat.reduceLeDiff, Nat.reduceLT, Int.reduceLT, Int.reduceLE, Int.reduceEq, Int.reduceToNat, Int.reduceAdd, Int.reduceSub, Int.reduceNeg, ↓reduceIte, reduceCtorEq, ↓C.catnaplaw4_ConfGraphs_W, C.catnaplaw4_ConfGraphs_B, C.catnaplaw4_ConfGraphs]
  refine awp_loopK (fun i : Nat => [(4, .ptr ib 0), (7, .isl 1 ((S.devs.map Dev.needs).map row) S.devs.length), (10, .int .i64 i)]) (fun i s => i ≤ S.devs.length ∧ s = s') (fun i => S.devs.length - i) 0 rfl ⟨Nat.zero_le _, rfl⟩ ?_
  rintro i s ⟨hi, rfl⟩
  by_cases hil : i < S.devs.length
  rotate_left
  · have hil' : ¬ (i : Int) < (S.devs.length : Nat) := by omega
    simp only [↓Bp, Bq, Bs, ↓aop.eq_28, ↓aop.eq_30, Nat.reduceEqDiff, Nat.reduceAdd, Nat.reduceMul, Nat.reduceSub, Nat.reduceLeDiff, Nat.reduceLT, Int.reduceLT, Int.reduceLE, Int.reduceEq, Int.reduceToNat, Int.reduceAdd, Int.reduceSub, Int.reduceNeg, ↓reduceIte, reduceCtorEq, ↓C.catnaplaw4_ConfGraphs_W, C.catnaplaw4_ConfGraphs_B, C.catnaplaw4_ConfGraphs, hil']
  have hil' : (i : Int) < (S.devs.length : Nat) := by omega
  have hz : (0:Int) ≤ (i : Int) ∧ (i : Int) < (S.devs.length : Nat) := by omega
  have hw := wsucc hil (by omega)
  have hg : ((S.devs.map Dev.needs).map row)[i]? = some (.isl 1 (ints S.devs[i].needs) S.devs[i].needs.length) := by simp [hil, row]
  have h5 := rows_get Dev.cells Dev.cells_len hil (j := 5) (by omega)
  rw [show (S.devs[i].cells)[5]? = some (.isl 1 (ints S.devs[i].needs) S.devs[i].needs.length) from rfl] at h5
  simp only [↓Bp, Bq, Bs, ↓aop.eq_28, ↓aop.eq_30, Nat.reduceEqDiff, Nat.reduceAdd, Nat.reduceMul, Nat.reduceSub, Nat.reduceLeDiff, Nat.reduceLT, Int.reduceLT, Int.reduceLE, Int.reduceEq, Int.reduceToNat, Int.reduceAdd, Int.reduceSub, Int.reduceNeg, ↓reduceIte, reduceCtorEq, ↓C.catnaplaw4_ConfGraphs_W, C.catnaplaw4_ConfGraphs_B, C.catnaplaw4_ConfGraphs, hil', hz, Int.toNat_natCast, Nat.mul_one, hg, hb, h5, hw]
  exact ⟨i + 1, rfl, hil, by omega⟩
end Go.Proofs.Ytjamidgdhmjhaaa.Cn
