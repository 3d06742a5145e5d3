/- Descriptions: ConfRight, the walk. -/
import Derived.Test.YtjamidgdhmjhaaaCnCRight
set_option linter.unusedSimpArgs false
set_option linter.unusedVariables false
namespace Go.Proofs.Ytjamidgdhmjhaaa.Cn
open Go Go.Proofs

theorem soc_few {S : Soc} (h : S.like) : (Gr.few (S.clocks.map Clk.src)) ∧ (Gr.few (S.doms.map Dom.up)) ∧ (Gr.few (S.devs.map Dev.needs)) := by
  have h1 := h.nc; have h2 := h.nd; have h4 := h.nv
  have hs := h.sane
  refine ⟨⟨by simp; omega, fun r hr => ?_⟩, ⟨by simp; omega, fun r hr => ?_⟩, ⟨by simp; omega, fun r hr => ?_⟩⟩ <;> obtain ⟨c, hc, rfl⟩ := List.mem_map.mp hr
  · have := hs.cs c hc; omega
  · unfold Dom.up; split <;> simp
  · have := (hs.vs c hc).2; omega

theorem confright_spec {st : ASt} {l : List Int} (hl : ∀ x ∈ l, -9223372036854775808 ≤ x ∧ x ≤ 9223372036854775807) (hll : l.length ≤ 9223372036854775807) :
    ACalls Try.prog F.catnaplaw4_ConfRight [row l] st fun r _ => r = .bool true := by
  refine calls_of_awp L.catnaplaw4_ConfRight rfl ?_
  simp only [↓Bp, Bq, Bs, ↓aop.eq_28, ↓aop.eq_30, Nat.reduceEqDiff, Nat.reduceAdd, Nat.reduceMul, Nat.reduceSub, Nat.reduceLeDiff, Nat.reduceLT, Int.reduceLT, Int.reduceLE, Int.reduceEq, Int.reduceToNat, Int.reduceAdd, Int.reduceSub, Int.reduceNeg, ↓reduceIte, reduceCtorEq, ↓C.catnaplaw4_ConfRight_W, C.catnaplaw4_ConfRight_B, C.catnaplaw4_ConfRight]
  refine (shown_spec st).mono ?_
  rintro r s ⟨rfl, rfl⟩
  simp only [↓Bp, Bq, Bs, ↓aop.eq_28, ↓aop.eq_30, Nat.reduceEqDiff, Nat.reduceAdd, Nat.reduceMul, Nat.reduceSub, Nat.reduceLeDiff, Nat.reduceLT, Int.reduceLT, Int.reduceLE, Int.reduceEq, Int.reduceToNat, Int.reduceAdd, Int.reduceSub, Int.reduceNeg, ↓reduceIte, reduceCtorEq, ↓C.catnaplaw4_ConfRight_W, C.catnaplaw4_ConfRight_B, C.catnaplaw4_ConfRight]
  refine (chip_frz hl hll).mono ?_
  rintro r s2 ⟨rfl, rfl⟩
  have hk := chipS_like l
  generalize chipS l = S at hk
  have hs := hk.sane
  have n1 := hk.nc; have n2 := hk.nd; have n3 := hk.nr; have n4 := hk.nv
  obtain ⟨f1, f2, f3⟩ := soc_few hk
  have lc : S.cells.length = 4 := rfl
  have lf : allLeaf S.cells = true := rfl
  have e4 : AV.agg (List.take 4 S.cells) = .agg S.cells := rfl
  simp only [↓Bp, Bq, Bs, ↓aop.eq_28, ↓aop.eq_30, Nat.reduceEqDiff, Nat.reduceAdd, Nat.reduceMul, Nat.reduceSub, Nat.reduceLeDiff, Nat.reduceLT, Int.reduceLT, Int.reduceLE, Int.reduceEq, Int.reduceToNat, Int.reduceAdd, Int.reduceSub, Int.reduceNeg, ↓reduceIte, reduceCtorEq, ↓C.catnaplaw4_ConfRight_r4_w, C.catnaplaw4_ConfRight_r4_b, ↓C.catnaplaw4_ConfRight_c23_w, ↓C.catnaplaw4_ConfRight_r3_w, C.catnaplaw4_ConfRight_r3_b, ↓C.catnaplaw4_ConfRight_c24_w, ↓C.catnaplaw4_ConfRight_c25_w, ↓C.catnaplaw4_ConfRight_r2_w, C.catnaplaw4_ConfRight_r2_b, ↓C.catnaplaw4_ConfRight_c26_w, ↓C.catnaplaw4_ConfRight_r1_w, C.catnaplaw4_ConfRight_r1_b, ↓C.catnaplaw4_ConfRight_c27_w, ↓C.catnaplaw4_ConfRight_r0_w, C.catnaplaw4_ConfRight_r0_b, C.catnaplaw4_ConfRight]
  rintro ib hib
  simp only [↓Bp, Bq, Bs, ↓aop.eq_28, ↓aop.eq_30, Nat.reduceEqDiff, Nat.reduceAdd, Nat.reduceMul, Nat.reduceSub, Nat.reduceLeDiff, Nat.reduceLT, Int.reduceLT, Int.reduceLE, Int.reduceEq, Int.reduceToNat, Int.reduceAdd, Int.reduceSub, Int.reduceNeg, ↓reduceIte, reduceCtorEq, ↓C.catnaplaw4_ConfRight_r4_w, C.catnaplaw4_ConfRight_r4_b, ↓C.catnaplaw4_ConfRight_c23_w, ↓C.catnaplaw4_ConfRight_r3_w, C.catnaplaw4_ConfRight_r3_b, ↓C.catnaplaw4_ConfRight_c24_w, ↓C.catnaplaw4_ConfRight_c25_w, ↓C.catnaplaw4_ConfRight_r2_w, C.catnaplaw4_ConfRight_r2_b, ↓C.catnaplaw4_ConfRight_c26_w, ↓C.catnaplaw4_ConfRight_r1_w, C.catnaplaw4_ConfRight_r1_b, ↓C.catnaplaw4_ConfRight_c27_w, ↓C.catnaplaw4_ConfRight_r0_w, C.catnaplaw4_ConfRight_r0_b, C.catnaplaw4_ConfRight, hib, lc, lf]
  rw [ASt.new_set hib, show putN [AV.nils, AV.nils, AV.nils, AV.nils] 0 S.cells = S.cells from putN_all rfl]
  have hb := ASt.new_self (.cells S.cells) hib
  generalize s2.new ib (.cells S.cells) = s3 at hb
  simp only [↓Bp, Bq, Bs, ↓aop.eq_28, ↓aop.eq_30, Nat.reduceEqDiff, Nat.reduceAdd, Nat.reduceMul, Nat.reduceSub, Nat.reduceLeDiff, Nat.reduceLT, Int.reduceLT, Int.reduceLE, Int.reduceEq, Int.reduceToNat, Int.reduceAdd, Int.reduceSub, Int.reduceNeg, ↓reduceIte, reduceCtorEq, ↓C.catnaplaw4_ConfRight_W, C.catnaplaw4_ConfRight_B, C.catnaplaw4_ConfRight, hb, lc, e4]
  refine (clocks_spec hs.c hs.cs).mono ?_
  rintro r s ⟨rfl, rfl⟩
  simp only [↓Bp, Bq, Bs, ↓aop.eq_28, ↓aop.eq_30, Nat.reduceEqDiff, Nat.reduceAdd, Nat.reduceMul, Nat.reduceSub, Nat.reduceLeDiff, Nat.reduceLT, Int.reduceLT, Int.reduceLE, Int.reduceEq, Int.reduceToNat, Int.reduceAdd, Int.reduceSub, Int.reduceNeg, ↓reduceIte, reduceCtorEq, ↓C.catnaplaw4_ConfRight_W, C.catnaplaw4_ConfRight_B, C.catnaplaw4_ConfRight, gval]
  refine (order_spec f1).mono ?_
  rintro r s ⟨rfl, rfl⟩
  simp only [↓Bp, Bq, Bs, ↓aop.eq_28, ↓aop.eq_30, Nat.reduceEqDiff, Nat.reduceAdd, Nat.reduceMul, Nat.reduceSub, Nat.reduceLeDiff, Nat.reduceLT, Int.reduceLT, Int.reduceLE, Int.reduceEq, Int.reduceToNat, Int.reduceAdd, Int.reduceSub, Int.reduceNeg, ↓reduceIte, reduceCtorEq, ↓C.catnaplaw4_ConfRight_W, C.catnaplaw4_ConfRight_B, C.catnaplaw4_ConfRight, hk.clkG, hb, lc, e4]
  refine (domains_spec hs.d).mono ?_
  rintro r s ⟨rfl, rfl⟩
  simp only [↓Bp, Bq, Bs, ↓aop.eq_28, ↓aop.eq_30, Nat.reduceEqDiff, Nat.reduceAdd, Nat.reduceMul, Nat.reduceSub, Nat.reduceLeDiff, Nat.reduceLT, Int.reduceLT, Int.reduceLE, Int.reduceEq, Int.reduceToNat, Int.reduceAdd, Int.reduceSub, Int.reduceNeg, ↓reduceIte, reduceCtorEq, ↓C.catnaplaw4_ConfRight_W, C.catnaplaw4_ConfRight_B, C.catnaplaw4_ConfRight, gval]
  refine (order_spec f2).mono ?_
  rintro r s ⟨rfl, rfl⟩
  simp only [↓Bp, Bq, Bs, ↓aop.eq_28, ↓aop.eq_30, Nat.reduceEqDiff, Nat.reduceAdd, Nat.reduceMul, Nat.reduceSub, Nat.reduceLeDiff, Nat.reduceLT, Int.reduceLT, Int.reduceLE, Int.reduceEq, Int.reduceToNat, Int.reduceAdd, Int.reduceSub, Int.reduceNeg, ↓reduceIte, reduceCtorEq, ↓C.catnaplaw4_ConfRight_W, C.catnaplaw4_ConfRight_B, C.catnaplaw4_ConfRight, hk.domG, hb, lc, e4]
  refine (needs_spec hs.v fun d hd => (hs.vs d hd).2).mono ?_
  rintro r s ⟨rfl, rfl⟩
  simp only [↓Bp, Bq, Bs, ↓aop.eq_28, ↓aop.eq_30, Nat.reduceEqDiff, Nat.reduceAdd, Nat.reduceMul, Nat.reduceSub, Nat.reduceLeDiff, Nat.reduceLT, Int.reduceLT, Int.reduceLE, Int.reduceEq, Int.reduceToNat, Int.reduceAdd, Int.reduceSub, Int.reduceNeg, ↓reduceIte, reduceCtorEq, ↓C.catnaplaw4_ConfRight_W, C.catnaplaw4_ConfRight_B, C.catnaplaw4_ConfRight, gval]
  refine (order_spec f3).mono ?_
  rintro r s ⟨rfl, rfl⟩
  simp only [↓Bp, Bq, Bs, ↓aop.eq_28, ↓aop.eq_30, Nat.reduceEqDiff, Nat.reduceAdd, Nat.reduceMul, Nat.reduceSub, Nat.reduceLeDiff, Nat.reduceLT, Int.reduceLT, Int.reduceLE, Int.reduceEq, Int.reduceToNat, Int.reduceAdd, Int.reduceSub, Int.reduceNeg, ↓reduceIte, reduceCtorEq, ↓C.catnaplaw4_ConfRight_W, C.catnaplaw4_ConfRight_B, C.catnaplaw4_ConfRight, hk.devG, hb, lc, e4]
  refine (conf_check_spec hs.fine).mono ?_
  rintro r s ⟨rfl, rfl⟩
  simp only [↓Bp, Bq, Bs, ↓aop.eq_28, ↓aop.eq_30, Nat.reduceEqDiff, Nat.reduceAdd, Nat.reduceMul, Nat.reduceSub, Nat.reduceLeDiff, Nat.reduceLT, Int.reduceLT, Int.reduceLE, Int.reduceEq, Int.reduceToNat, Int.reduceAdd, Int.reduceSub, Int.reduceNeg, ↓reduceIte, reduceCtorEq, ↓C.catnaplaw4_ConfRight_W, C.catnaplaw4_ConfRight_B, C.catnaplaw4_ConfRight, hk.right, hb, lc, e4]
  refine (copy_frz hs).mono ?_
  rintro r s ⟨rfl, rfl⟩
  simp only [↓Bp, Bq, Bs, ↓aop.eq_28, ↓aop.eq_30, Nat.reduceEqDiff, Nat.reduceAdd, Nat.reduceMul, Nat.reduceSub, Nat.reduceLeDiff, Nat.reduceLT, Int.reduceLT, Int.reduceLE, Int.reduceEq, Int.reduceToNat, Int.reduceAdd, Int.reduceSub, Int.reduceNeg, ↓reduceIte, reduceCtorEq, ↓C.catnaplaw4_ConfRight_r10_w, C.catnaplaw4_ConfRight_r10_b, ↓C.catnaplaw4_ConfRight_c16_w, ↓C.catnaplaw4_ConfRight_r9_w, C.catnaplaw4_ConfRight_r9_b, ↓C.catnaplaw4_ConfRight_c17_w, ↓C.catnaplaw4_ConfRight_c18_w, ↓C.catnaplaw4_ConfRight_r8_w, C.catnaplaw4_ConfRight_r8_b, ↓C.catnaplaw4_ConfRight_c19_w, ↓C.catnaplaw4_ConfRight_r7_w, C.catnaplaw4_ConfRight_r7_b, ↓C.catnaplaw4_ConfRight_c20_w, ↓C.catnaplaw4_ConfRight_r6_w, C.catnaplaw4_ConfRight_r6_b, ↓C.catnaplaw4_ConfRight_c21_w, ↓C.catnaplaw4_ConfRight_r5_w, C.catnaplaw4_ConfRight_r5_b, ↓C.catnaplaw4_ConfRight_c22_w, ↓C.catnaplaw4_ConfRight_r4_w, C.catnaplaw4_ConfRight_r4_b, ↓C.catnaplaw4_ConfRight_c23_w, ↓C.catnaplaw4_ConfRight_r3_w, C.catnaplaw4_ConfRight_r3_b, ↓C.catnaplaw4_ConfRight_c24_w, ↓C.catnaplaw4_ConfRight_c25_w, ↓C.catnaplaw4_ConfRight_r2_w, C.catnaplaw4_ConfRight_r2_b, ↓C.catnaplaw4_ConfRight_c26_w, ↓C.catnaplaw4_ConfRight_r1_w, C.catnaplaw4_ConfRight_r1_b, ↓C.catnaplaw4_ConfRight_c27_w, ↓C.catnaplaw4_ConfRight_r0_w, C.catnaplaw4_ConfRight_r0_b, C.catnaplaw4_ConfRight]
  rintro i1 hi1
  simp only [↓Bp, Bq, Bs, ↓aop.eq_28, ↓aop.eq_30, Nat.reduceEqDiff, Nat.reduceAdd, Nat.reduceMul, Nat.reduceSub, Nat.reduceLeDiff, Nat.reduceLT, Int.reduceLT, Int.reduceLE, Int.reduceEq, Int.reduceToNat, Int.reduceAdd, Int.reduceSub, Int.reduceNeg, ↓reduceIte, reduceCtorEq, ↓C.catnaplaw4_ConfRight_r10_w, C.catnaplaw4_ConfRight_r10_b, ↓C.catnaplaw4_ConfRight_c16_w, ↓C.catnaplaw4_ConfRight_r9_w, C.catnaplaw4_ConfRight_r9_b, ↓C.catnaplaw4_ConfRight_c17_w, ↓C.catnaplaw4_ConfRight_c18_w, ↓C.catnaplaw4_ConfRight_r8_w, C.catnaplaw4_ConfRight_r8_b, ↓C.catnaplaw4_ConfRight_c19_w, ↓C.catnaplaw4_ConfRight_r7_w, C.catnaplaw4_ConfRight_r7_b, ↓C.catnaplaw4_ConfRight_c20_w, ↓C.catnaplaw4_ConfRight_r6_w, C.catnaplaw4_ConfRight_r6_b, ↓C.catnaplaw4_ConfRight_c21_w, ↓C.catnaplaw4_ConfRight_r5_w, C.catnaplaw4_ConfRight_r5_b, ↓C.catnaplaw4_ConfRight_c22_w, ↓C.catnaplaw4_ConfRight_r4_w, C.catnaplaw4_ConfRight_r4_b, ↓C.catnaplaw4_ConfRight_c23_w, ↓C.catnaplaw4_ConfRight_r3_w, C.catnaplaw4_ConfRight_r3_b, ↓C.catnaplaw4_ConfRight_c24_w, ↓C.catnaplaw4_ConfRight_c25_w, ↓C.catnaplaw4_ConfRight_r2_w, C.catnaplaw4_ConfRight_r2_b, ↓C.catnaplaw4_ConfRight_c26_w, ↓C.catnaplaw4_ConfRight_r1_w, C.catnaplaw4_ConfRight_r1_b, ↓C.catnaplaw4_ConfRight_c27_w, ↓C.catnaplaw4_ConfRight_r0_w, C.catnaplaw4_ConfRight_r0_b, C.catnaplaw4_ConfRight, hi1, lc, lf]
  rw [ASt.new_set hi1, show putN [AV.nils, AV.nils, AV.nils, AV.nils] 0 S.cells = S.cells from putN_all rfl]
  have hb1 := ASt.new_old (id := i1) (o := .cells S.cells) hb
  have h1 := ASt.new_self (.cells S.cells) hi1
  have hne1 : ib ≠ i1 := by rintro rfl; rw [hb] at hi1; cases hi1
  generalize s.new i1 (.cells S.cells) = t1 at hb1 h1
  have wn : IntKind.i64.wrap ((S.devs.length : Int) - 1) = ((S.devs.length - 1 : Nat) : Int) := by rw [wrap64] <;> omega
  have wc : IntKind.i64.wrap ((S.clocks.length : Int) - 1) = ((S.clocks.length - 1 : Nat) : Int) := by rw [wrap64] <;> omega
  have wd : IntKind.i64.wrap ((S.doms.length : Int) - 1) = ((S.doms.length - 1 : Nat) : Int) := by rw [wrap64] <;> omega
  have z0 : (0 : Int) ≤ ((S.devs.length - 1 : Nat) : Int) := by omega
  have z1 : S.devs.length - 1 ≤ S.devs.length := by omega
  have hbx := hb1
  have h1x := h1
  rw [Soc.cells, Soc.clkV, Soc.domV, Soc.rstV, Soc.devV] at hbx h1x
  simp only [↓Bp, Bq, Bs, ↓aop.eq_28, ↓aop.eq_30, Nat.reduceEqDiff, Nat.reduceAdd, Nat.reduceMul, Nat.reduceSub, Nat.reduceLeDiff, Nat.reduceLT, Int.reduceLT, Int.reduceLE, Int.reduceEq, Int.reduceToNat, Int.reduceAdd, Int.reduceSub, Int.reduceNeg, ↓reduceIte, reduceCtorEq, ↓C.catnaplaw4_ConfRight_r11_w, C.catnaplaw4_ConfRight_r11_b, ↓C.catnaplaw4_ConfRight_c15_w, ↓C.catnaplaw4_ConfRight_r10_w, C.catnaplaw4_ConfRight_r10_b, ↓C.catnaplaw4_ConfRight_c16_w, ↓C.catnaplaw4_ConfRight_r9_w, C.catnaplaw4_ConfRight_r9_b, ↓C.catnaplaw4_ConfRight_c17_w, ↓C.catnaplaw4_ConfRight_c18_w, ↓C.catnaplaw4_ConfRight_r8_w, C.catnaplaw4_ConfRight_r8_b, ↓C.catnaplaw4_ConfRight_c19_w, ↓C.catnaplaw4_ConfRight_r7_w, C.catnaplaw4_ConfRight_r7_b, ↓C.catnaplaw4_ConfRight_c20_w, ↓C.catnaplaw4_ConfRight_r6_w, C.catnaplaw4_ConfRight_r6_b, ↓C.catnaplaw4_ConfRight_c21_w, ↓C.catnaplaw4_ConfRight_r5_w, C.catnaplaw4_ConfRight_r5_b, ↓C.catnaplaw4_ConfRight_c22_w, ↓C.catnaplaw4_ConfRight_r4_w, C.catnaplaw4_ConfRight_r4_b, ↓C.catnaplaw4_ConfRight_c23_w, ↓C.catnaplaw4_ConfRight_r3_w, C.catnaplaw4_ConfRight_r3_b, ↓C.catnaplaw4_ConfRight_c24_w, ↓C.catnaplaw4_ConfRight_c25_w, ↓C.catnaplaw4_ConfRight_r2_w, C.catnaplaw4_ConfRight_r2_b, ↓C.catnaplaw4_ConfRight_c26_w, ↓C.catnaplaw4_ConfRight_r1_w, C.catnaplaw4_ConfRight_r1_b, ↓C.catnaplaw4_ConfRight_c27_w, ↓C.catnaplaw4_ConfRight_r0_w, C.catnaplaw4_ConfRight_r0_b, C.catnaplaw4_ConfRight, h1x, wn, z0, z1, Int.toNat_natCast, Nat.le_refl, Nat.zero_le, Nat.zero_mul, Nat.sub_zero]
  refine ⟨fun _ => trivial, ?_⟩
  obtain ⟨lv, hlv⟩ : ∃ lv, lv = [S.clkV, S.domV, S.rstV, AV.isl 6 (S.devs.flatMap Dev.cells) (S.devs.length - 1)] := ⟨_, rfl⟩
  have hlv' : lv = [AV.isl 6 (List.flatMap Clk.cells S.clocks) S.clocks.length, AV.isl 3 (List.flatMap Dom.cells S.doms) S.doms.length, AV.isl 1 (List.flatMap rstCells S.rsts) S.rsts.length, AV.isl 6 (List.flatMap Dev.cells S.devs) (S.devs.length - 1)] := hlv
  rw [← hlv']
  have hb2 : (t1.set i1 (.cells lv)).h ib = some (.cells S.cells) := by rw [ASt.set_h, if_neg hne1]; exact hb1
  have h2 : (t1.set i1 (.cells lv)).h i1 = some (.cells lv) := by rw [ASt.set_h, if_pos rfl, h1]; rfl
  clear hbx h1x hb1 h1 hlv'
  generalize t1.set i1 (.cells lv) = t2 at hb2 h2
  -- a copy that becomes one device more
  simp only [↓Bp, Bq, Bs, ↓aop.eq_28, ↓aop.eq_30, Nat.reduceEqDiff, Nat.reduceAdd, Nat.reduceMul, Nat.reduceSub, Nat.reduceLeDiff, Nat.reduceLT, Int.reduceLT, Int.reduceLE, Int.reduceEq, Int.reduceToNat, Int.reduceAdd, Int.reduceSub, Int.reduceNeg, ↓reduceIte, reduceCtorEq, ↓C.catnaplaw4_ConfRight_W, C.catnaplaw4_ConfRight_B, C.catnaplaw4_ConfRight, hb2, lc, e4]
  refine (copy_own hs).mono ?_
  rintro r u1 ⟨vs, L, rfl, hR, hF, hle⟩
  have lv4 : vs.length = 4 := hR.len.symm
  have lvf := hR.leaf
  simp only [↓Bp, Bq, Bs, ↓aop.eq_28, ↓aop.eq_30, Nat.reduceEqDiff, Nat.reduceAdd, Nat.reduceMul, Nat.reduceSub, Nat.reduceLeDiff, Nat.reduceLT, Int.reduceLT, Int.reduceLE, Int.reduceEq, Int.reduceToNat, Int.reduceAdd, Int.reduceSub, Int.reduceNeg, ↓reduceIte, reduceCtorEq, ↓C.catnaplaw4_ConfRight_r12_w, C.catnaplaw4_ConfRight_r12_b, ↓C.catnaplaw4_ConfRight_c14_w, ↓C.catnaplaw4_ConfRight_r11_w, C.catnaplaw4_ConfRight_r11_b, ↓C.catnaplaw4_ConfRight_c15_w, ↓C.catnaplaw4_ConfRight_r10_w, C.catnaplaw4_ConfRight_r10_b, ↓C.catnaplaw4_ConfRight_c16_w, ↓C.catnaplaw4_ConfRight_r9_w, C.catnaplaw4_ConfRight_r9_b, ↓C.catnaplaw4_ConfRight_c17_w, ↓C.catnaplaw4_ConfRight_c18_w, ↓C.catnaplaw4_ConfRight_r8_w, C.catnaplaw4_ConfRight_r8_b, ↓C.catnaplaw4_ConfRight_c19_w, ↓C.catnaplaw4_ConfRight_r7_w, C.catnaplaw4_ConfRight_r7_b, ↓C.catnaplaw4_ConfRight_c20_w, ↓C.catnaplaw4_ConfRight_r6_w, C.catnaplaw4_ConfRight_r6_b, ↓C.catnaplaw4_ConfRight_c21_w, ↓C.catnaplaw4_ConfRight_r5_w, C.catnaplaw4_ConfRight_r5_b, ↓C.catnaplaw4_ConfRight_c22_w, ↓C.catnaplaw4_ConfRight_r4_w, C.catnaplaw4_ConfRight_r4_b, ↓C.catnaplaw4_ConfRight_c23_w, ↓C.catnaplaw4_ConfRight_r3_w, C.catnaplaw4_ConfRight_r3_b, ↓C.catnaplaw4_ConfRight_c24_w, ↓C.catnaplaw4_ConfRight_c25_w, ↓C.catnaplaw4_ConfRight_r2_w, C.catnaplaw4_ConfRight_r2_b, ↓C.catnaplaw4_ConfRight_c26_w, ↓C.catnaplaw4_ConfRight_r1_w, C.catnaplaw4_ConfRight_r1_b, ↓C.catnaplaw4_ConfRight_c27_w, ↓C.catnaplaw4_ConfRight_r0_w, C.catnaplaw4_ConfRight_r0_b, C.catnaplaw4_ConfRight]
  rintro i2 hi2
  simp only [↓Bp, Bq, Bs, ↓aop.eq_28, ↓aop.eq_30, Nat.reduceEqDiff, Nat.reduceAdd, Nat.reduceMul, Nat.reduceSub, Nat.reduceLeDiff, Nat.reduceLT, Int.reduceLT, Int.reduceLE, Int.reduceEq, Int.reduceToNat, Int.reduceAdd, Int.reduceSub, Int.reduceNeg, ↓reduceIte, reduceCtorEq, ↓C.catnaplaw4_ConfRight_r12_w, C.catnaplaw4_ConfRight_r12_b, ↓C.catnaplaw4_ConfRight_c14_w, ↓C.catnaplaw4_ConfRight_r11_w, C.catnaplaw4_ConfRight_r11_b, ↓C.catnaplaw4_ConfRight_c15_w, ↓C.catnaplaw4_ConfRight_r10_w, C.catnaplaw4_ConfRight_r10_b, ↓C.catnaplaw4_ConfRight_c16_w, ↓C.catnaplaw4_ConfRight_r9_w, C.catnaplaw4_ConfRight_r9_b, ↓C.catnaplaw4_ConfRight_c17_w, ↓C.catnaplaw4_ConfRight_c18_w, ↓C.catnaplaw4_ConfRight_r8_w, C.catnaplaw4_ConfRight_r8_b, ↓C.catnaplaw4_ConfRight_c19_w, ↓C.catnaplaw4_ConfRight_r7_w, C.catnaplaw4_ConfRight_r7_b, ↓C.catnaplaw4_ConfRight_c20_w, ↓C.catnaplaw4_ConfRight_r6_w, C.catnaplaw4_ConfRight_r6_b, ↓C.catnaplaw4_ConfRight_c21_w, ↓C.catnaplaw4_ConfRight_r5_w, C.catnaplaw4_ConfRight_r5_b, ↓C.catnaplaw4_ConfRight_c22_w, ↓C.catnaplaw4_ConfRight_r4_w, C.catnaplaw4_ConfRight_r4_b, ↓C.catnaplaw4_ConfRight_c23_w, ↓C.catnaplaw4_ConfRight_r3_w, C.catnaplaw4_ConfRight_r3_b, ↓C.catnaplaw4_ConfRight_c24_w, ↓C.catnaplaw4_ConfRight_c25_w, ↓C.catnaplaw4_ConfRight_r2_w, C.catnaplaw4_ConfRight_r2_b, ↓C.catnaplaw4_ConfRight_c26_w, ↓C.catnaplaw4_ConfRight_r1_w, C.catnaplaw4_ConfRight_r1_b, ↓C.catnaplaw4_ConfRight_c27_w, ↓C.catnaplaw4_ConfRight_r0_w, C.catnaplaw4_ConfRight_r0_b, C.catnaplaw4_ConfRight, hi2, lv4, lvf]
  rw [ASt.new_set hi2, putN_all (zs := [AV.nils, AV.nils, AV.nils, AV.nils]) (by rw [lv4]; rfl)]
  have hB := chip_box hR hF hle hi2
  generalize u1.new i2 (.cells vs) = u at hB
  clear hR hF hle hi2 lv4 lvf
  obtain ⟨a0, a1, a2, a3, L2, hBL, hbu, -, -, -, y3⟩ := hB.four
  have hub : u.h ib = some (.cells S.cells) := hBL.2.2.2.2.2 _ _ hb2
  have hbx := hub
  rw [Soc.cells, Soc.clkV, Soc.domV, Soc.rstV, Soc.devV] at hbx
  simp only [↓Bp, Bq, Bs, ↓aop.eq_28, ↓aop.eq_30, Nat.reduceEqDiff, Nat.reduceAdd, Nat.reduceMul, Nat.reduceSub, Nat.reduceLeDiff, Nat.reduceLT, Int.reduceLT, Int.reduceLE, Int.reduceEq, Int.reduceToNat, Int.reduceAdd, Int.reduceSub, Int.reduceNeg, ↓reduceIte, reduceCtorEq, ↓C.catnaplaw4_ConfRight_r13_w, C.catnaplaw4_ConfRight_r13_b, ↓C.catnaplaw4_ConfRight_c13_w, ↓C.catnaplaw4_ConfRight_r12_w, C.catnaplaw4_ConfRight_r12_b, ↓C.catnaplaw4_ConfRight_c14_w, ↓C.catnaplaw4_ConfRight_r11_w, C.catnaplaw4_ConfRight_r11_b, ↓C.catnaplaw4_ConfRight_c15_w, ↓C.catnaplaw4_ConfRight_r10_w, C.catnaplaw4_ConfRight_r10_b, ↓C.catnaplaw4_ConfRight_c16_w, ↓C.catnaplaw4_ConfRight_r9_w, C.catnaplaw4_ConfRight_r9_b, ↓C.catnaplaw4_ConfRight_c17_w, ↓C.catnaplaw4_ConfRight_c18_w, ↓C.catnaplaw4_ConfRight_r8_w, C.catnaplaw4_ConfRight_r8_b, ↓C.catnaplaw4_ConfRight_c19_w, ↓C.catnaplaw4_ConfRight_r7_w, C.catnaplaw4_ConfRight_r7_b, ↓C.catnaplaw4_ConfRight_c20_w, ↓C.catnaplaw4_ConfRight_r6_w, C.catnaplaw4_ConfRight_r6_b, ↓C.catnaplaw4_ConfRight_c21_w, ↓C.catnaplaw4_ConfRight_r5_w, C.catnaplaw4_ConfRight_r5_b, ↓C.catnaplaw4_ConfRight_c22_w, ↓C.catnaplaw4_ConfRight_r4_w, C.catnaplaw4_ConfRight_r4_b, ↓C.catnaplaw4_ConfRight_c23_w, ↓C.catnaplaw4_ConfRight_r3_w, C.catnaplaw4_ConfRight_r3_b, ↓C.catnaplaw4_ConfRight_c24_w, ↓C.catnaplaw4_ConfRight_c25_w, ↓C.catnaplaw4_ConfRight_r2_w, C.catnaplaw4_ConfRight_r2_b, ↓C.catnaplaw4_ConfRight_c26_w, ↓C.catnaplaw4_ConfRight_r1_w, C.catnaplaw4_ConfRight_r1_b, ↓C.catnaplaw4_ConfRight_c27_w, ↓C.catnaplaw4_ConfRight_r0_w, C.catnaplaw4_ConfRight_r0_b, C.catnaplaw4_ConfRight, hbx, wc, wd]
  intro i3 hi3
  simp only [↓Bp, Bq, Bs, ↓aop.eq_28, ↓aop.eq_30, Nat.reduceEqDiff, Nat.reduceAdd, Nat.reduceMul, Nat.reduceSub, Nat.reduceLeDiff, Nat.reduceLT, Int.reduceLT, Int.reduceLE, Int.reduceEq, Int.reduceToNat, Int.reduceAdd, Int.reduceSub, Int.reduceNeg, ↓reduceIte, reduceCtorEq, ↓C.catnaplaw4_ConfRight_r13_w, C.catnaplaw4_ConfRight_r13_b, ↓C.catnaplaw4_ConfRight_c13_w, ↓C.catnaplaw4_ConfRight_r12_w, C.catnaplaw4_ConfRight_r12_b, ↓C.catnaplaw4_ConfRight_c14_w, ↓C.catnaplaw4_ConfRight_r11_w, C.catnaplaw4_ConfRight_r11_b, ↓C.catnaplaw4_ConfRight_c15_w, ↓C.catnaplaw4_ConfRight_r10_w, C.catnaplaw4_ConfRight_r10_b, ↓C.catnaplaw4_ConfRight_c16_w, ↓C.catnaplaw4_ConfRight_r9_w, C.catnaplaw4_ConfRight_r9_b, ↓C.catnaplaw4_ConfRight_c17_w, ↓C.catnaplaw4_ConfRight_c18_w, ↓C.catnaplaw4_ConfRight_r8_w, C.catnaplaw4_ConfRight_r8_b, ↓C.catnaplaw4_ConfRight_c19_w, ↓C.catnaplaw4_ConfRight_r7_w, C.catnaplaw4_ConfRight_r7_b, ↓C.catnaplaw4_ConfRight_c20_w, ↓C.catnaplaw4_ConfRight_r6_w, C.catnaplaw4_ConfRight_r6_b, ↓C.catnaplaw4_ConfRight_c21_w, ↓C.catnaplaw4_ConfRight_r5_w, C.catnaplaw4_ConfRight_r5_b, ↓C.catnaplaw4_ConfRight_c22_w, ↓C.catnaplaw4_ConfRight_r4_w, C.catnaplaw4_ConfRight_r4_b, ↓C.catnaplaw4_ConfRight_c23_w, ↓C.catnaplaw4_ConfRight_r3_w, C.catnaplaw4_ConfRight_r3_b, ↓C.catnaplaw4_ConfRight_c24_w, ↓C.catnaplaw4_ConfRight_c25_w, ↓C.catnaplaw4_ConfRight_r2_w, C.catnaplaw4_ConfRight_r2_b, ↓C.catnaplaw4_ConfRight_c26_w, ↓C.catnaplaw4_ConfRight_r1_w, C.catnaplaw4_ConfRight_r1_b, ↓C.catnaplaw4_ConfRight_c27_w, ↓C.catnaplaw4_ConfRight_r0_w, C.catnaplaw4_ConfRight_r0_b, C.catnaplaw4_ConfRight, hi3, allLeaf, AV.leaf]
  rw [ASt.new_set hi3]
  have hX : Box u (u.new i3 (AObj.cells [AV.int .i64 ((S.clocks.length - 1 : Nat) : Int), AV.int .i64 ((S.doms.length - 1 : Nat) : Int), AV.int .i64 0, AV.int .u32 0, AV.nils, AV.nils])) i3 (allDev S 0).cells :=
    Box.start hi3 (.one rfl (.one rfl (.one rfl (.one rfl (.nils 2 (.nils 1 .nil))))))
  generalize u.new i3 (AObj.cells [AV.int .i64 ((S.clocks.length - 1 : Nat) : Int), AV.int .i64 ((S.doms.length - 1 : Nat) : Int), AV.int .i64 0, AV.int .u32 0, AV.nils, AV.nils]) = x1 at hX
  have hdc : ∀ n, (allDev S n).cells = [AV.int .i64 ((S.clocks.length - 1 : Nat) : Int), AV.int .i64 ((S.doms.length - 1 : Nat) : Int), AV.int .i64 0, AV.int .u32 0, .isl 2 [] 0, row (nats (List.range n))] := fun n => rfl
  simp only [↓Bp, Bq, Bs, ↓aop.eq_28, ↓aop.eq_30, Nat.reduceEqDiff, Nat.reduceAdd, Nat.reduceMul, Nat.reduceSub, Nat.reduceLeDiff, Nat.reduceLT, Int.reduceLT, Int.reduceLE, Int.reduceEq, Int.reduceToNat, Int.reduceAdd, Int.reduceSub, Int.reduceNeg, ↓reduceIte, reduceCtorEq, ↓C.catnaplaw4_ConfRight_W, C.catnaplaw4_ConfRight_B, C.catnaplaw4_ConfRight]
  refine awp_midB (fun _ : Unit => [(4, .ptr ib 0), (11, .ptr i1 0), (12, .ptr i2 0), (13, .ptr i3 0)]) (fun _ t => Box u t i3 (allDev S S.devs.length).cells) ?_ ?_
  · refine awp_loopK (fun i : Nat => [(4, .ptr ib 0), (11, .ptr i1 0), (12, .ptr i2 0), (13, .ptr i3 0), (14, .int .i64 i)]) (fun i t => i ≤ S.devs.length ∧ Box u t i3 (allDev S i).cells) (fun i => S.devs.length - i) 0 rfl ⟨Nat.zero_le _, hX⟩ ?_
    clear hX
    rintro i t ⟨hi, hX⟩
    have hbt := hX.base _ _ hbx
    by_cases hil : i < S.devs.length
    rotate_left
    · have hie : i = S.devs.length := by omega
      subst hie
      have hil' : ¬ ((S.devs.length : Nat) : Int) < (S.devs.length : Nat) := by omega
      simp only [↓Bp, Bq, Bs, ↓aop.eq_28, ↓aop.eq_30, Nat.reduceEqDiff, Nat.reduceAdd, Nat.reduceMul, Nat.reduceSub, Nat.reduceLeDiff, Nat.reduceLT, Int.reduceLT, Int.reduceLE, Int.reduceEq, Int.reduceToNat, Int.reduceAdd, Int.reduceSub, Int.reduceNeg, ↓reduceIte, reduceCtorEq, ↓C.catnaplaw4_ConfRight_W, C.catnaplaw4_ConfRight_B, C.catnaplaw4_ConfRight, hbt, hil']
      exact ⟨(), hX⟩
    have hil' : (i : Int) < (S.devs.length : Nat) := by omega
    have hw := wsucc hil (by omega)
    obtain ⟨xs, K, hXL⟩ := hX
    rw [hdc] at hXL
    obtain ⟨v, v1, v2, hap⟩ := BoxL.append (b := i3) (o := 5) (new := [.int .i64 (i : Int)]) (newc := [.int .i64 (i : Int)]) (Ln := []) hXL rfl (by rw [ints_length, Nat.mul_one]) (by simp [nats]; omega) (RepL.scalars rfl _) rfl (by simp) (by simp) (by simp)
    have hxl := hXL.2.1.len
    have h5l : 5 < xs.length := by rw [← hxl]; simp
    simp only [↓Bp, Bq, Bs, Nat.reduceEqDiff, Nat.reduceAdd, Nat.reduceMul, Nat.reduceSub, Nat.reduceLeDiff, Nat.reduceLT, Int.reduceLT, Int.reduceLE, Int.reduceEq, Int.reduceToNat, Int.reduceAdd, Int.reduceSub, Int.reduceNeg, ↓reduceIte, reduceCtorEq, ↓C.catnaplaw4_ConfRight_W, C.catnaplaw4_ConfRight_B, C.catnaplaw4_ConfRight, hbt, hil', hXL.1, v1]
    refine hap rfl (fun _ => rfl) (fun _ => rfl) fun v1' j2 t2' hs2 hBx => ?_
    simp only [↓Bp, Bq, Bs, ↓aop.eq_28, ↓aop.eq_30, Nat.reduceEqDiff, Nat.reduceAdd, Nat.reduceMul, Nat.reduceSub, Nat.reduceLeDiff, Nat.reduceLT, Int.reduceLT, Int.reduceLE, Int.reduceEq, Int.reduceToNat, Int.reduceAdd, Int.reduceSub, Int.reduceNeg, ↓reduceIte, reduceCtorEq, ↓C.catnaplaw4_ConfRight_W, C.catnaplaw4_ConfRight_B, C.catnaplaw4_ConfRight, hs2, h5l, hw]
    refine ⟨i + 1, rfl, ⟨hil, ?_⟩, by omega⟩
    have e : (allDev S (i + 1)).cells = ([AV.int .i64 ((S.clocks.length - 1 : Nat) : Int), AV.int .i64 ((S.doms.length - 1 : Nat) : Int), AV.int .i64 0, AV.int .u32 0, .isl 2 [] 0, row (nats (List.range i))].set 5 (AV.isl 1 (ints (nats (List.range i)) ++ [.int .i64 (i : Int)]) ((nats (List.range i)).length + 1))) := by
      rw [hdc, List.range_succ]
      simp [row, ints, nats]
    rw [e]; exact hBx
  clear hX
  rintro - t ⟨ws, Lw, hXL⟩
  have hBt := BoxL.grow hBL hXL.2.2.2.2.2
  have hdis : ∀ j ∈ Lw, j ∉ L2 := fun j hj hm => hBL.2.1.live j hm (hXL.2.2.2.1 j hj)
  have hibw : i2 ∉ Lw := fun hm => by have := hXL.2.2.2.1 i2 hm; rw [hbu] at this; cases this
  have hwl : 6 = ws.length := hXL.2.1.len
  obtain ⟨v, v1, v2, hap⟩ := BoxL.append (b := i2) (o := 3) (new := ws) (newc := (allDev S S.devs.length).cells) (Ln := Lw) hBt rfl (flatMap_len Dev.cells_len _) (by omega) hXL.2.1 hwl.symm hibw (fun j hj => fresh_of_le hBL.2.2.2.2.2 (hXL.2.2.2.1 j hj)) hdis
  cases v1
  have e6 : AV.agg (List.take 6 ws) = .agg ws := by rw [show 6 = ws.length from hwl, List.take_length]
  have hw6 : 6 ≤ ws.length := by rw [← hwl]; simp
  simp only [↓Bp, Bq, Bs, Nat.reduceEqDiff, Nat.reduceAdd, Nat.reduceMul, Nat.reduceSub, Nat.reduceLeDiff, Nat.reduceLT, Int.reduceLT, Int.reduceLE, Int.reduceEq, Int.reduceToNat, Int.reduceAdd, Int.reduceSub, Int.reduceNeg, ↓reduceIte, reduceCtorEq, ↓C.catnaplaw4_ConfRight_W, C.catnaplaw4_ConfRight_B, C.catnaplaw4_ConfRight, hBt.1, hXL.1, hw6, e6]
  refine hap (aput_one rfl hwl.symm) (fun _ => rfl) (fun _ => rfl) fun v1' j2 w1 hs2 hBx => ?_
  obtain ⟨M, hM⟩ : ∃ M : Soc, M = { S with devs := S.devs ++ [allDev S S.devs.length] } := ⟨_, rfl⟩
  have hB2 : ChipBox t2 (w1.set i2 (.cells ([a0, a1, a2, a3].set 3 (.sl 6 j2 0 (S.devs.length + 1))))) i2 M := by
    refine ChipBox.box hBx ?_
    rw [hM]; simp [Soc.cells, Soc.clkV, Soc.domV, Soc.rstV, Soc.devV]
  clear hBx hap
  simp only [↓Bp, Bq, Bs, ↓aop.eq_28, ↓aop.eq_30, Nat.reduceEqDiff, Nat.reduceAdd, Nat.reduceMul, Nat.reduceSub, Nat.reduceLeDiff, Nat.reduceLT, Int.reduceLT, Int.reduceLE, Int.reduceEq, Int.reduceToNat, Int.reduceAdd, Int.reduceSub, Int.reduceNeg, ↓reduceIte, reduceCtorEq, ↓C.catnaplaw4_ConfRight_r18_w, C.catnaplaw4_ConfRight_r18_b, ↓C.catnaplaw4_ConfRight_c4_w, ↓C.catnaplaw4_ConfRight_r16_w, C.catnaplaw4_ConfRight_r16_b, ↓C.catnaplaw4_ConfRight_c5_w, ↓C.catnaplaw4_ConfRight_r17_w, C.catnaplaw4_ConfRight_r17_b, ↓C.catnaplaw4_ConfRight_b6_w, ↓C.catnaplaw4_ConfRight_c7_w, ↓C.catnaplaw4_ConfRight_c8_w, ↓C.catnaplaw4_ConfRight_r15_w, C.catnaplaw4_ConfRight_r15_b, ↓C.catnaplaw4_ConfRight_b10_w, ↓C.catnaplaw4_ConfRight_c11_w, ↓C.catnaplaw4_ConfRight_r14_w, C.catnaplaw4_ConfRight_r14_b, ↓C.catnaplaw4_ConfRight_c12_w, ↓C.catnaplaw4_ConfRight_r13_w, C.catnaplaw4_ConfRight_r13_b, ↓C.catnaplaw4_ConfRight_c13_w, ↓C.catnaplaw4_ConfRight_r12_w, C.catnaplaw4_ConfRight_r12_b, ↓C.catnaplaw4_ConfRight_c14_w, ↓C.catnaplaw4_ConfRight_r11_w, C.catnaplaw4_ConfRight_r11_b, ↓C.catnaplaw4_ConfRight_c15_w, ↓C.catnaplaw4_ConfRight_r10_w, C.catnaplaw4_ConfRight_r10_b, ↓C.catnaplaw4_ConfRight_c16_w, ↓C.catnaplaw4_ConfRight_r9_w, C.catnaplaw4_ConfRight_r9_b, ↓C.catnaplaw4_ConfRight_c17_w, ↓C.catnaplaw4_ConfRight_c18_w, ↓C.catnaplaw4_ConfRight_r8_w, C.catnaplaw4_ConfRight_r8_b, ↓C.catnaplaw4_ConfRight_c19_w, ↓C.catnaplaw4_ConfRight_r7_w, C.catnaplaw4_ConfRight_r7_b, ↓C.catnaplaw4_ConfRight_c20_w, ↓C.catnaplaw4_ConfRight_r6_w, C.catnaplaw4_ConfRight_r6_b, ↓C.catnaplaw4_ConfRight_c21_w, ↓C.catnaplaw4_ConfRight_r5_w, C.catnaplaw4_ConfRight_r5_b, ↓C.catnaplaw4_ConfRight_c22_w, ↓C.catnaplaw4_ConfRight_r4_w, C.catnaplaw4_ConfRight_r4_b, ↓C.catnaplaw4_ConfRight_c23_w, ↓C.catnaplaw4_ConfRight_r3_w, C.catnaplaw4_ConfRight_r3_b, ↓C.catnaplaw4_ConfRight_c24_w, ↓C.catnaplaw4_ConfRight_c25_w, ↓C.catnaplaw4_ConfRight_r2_w, C.catnaplaw4_ConfRight_r2_b, ↓C.catnaplaw4_ConfRight_c26_w, ↓C.catnaplaw4_ConfRight_r1_w, C.catnaplaw4_ConfRight_r1_b, ↓C.catnaplaw4_ConfRight_c27_w, ↓C.catnaplaw4_ConfRight_r0_w, C.catnaplaw4_ConfRight_r0_b, C.catnaplaw4_ConfRight, hs2]
  rw [show [a0, a1, a2, a3].set 3 (.sl 6 j2 0 (S.devs.length + 1)) = [a0, a1, a2, .sl 6 j2 0 (S.devs.length + 1)] from rfl] at hB2
  have hw2i : (w1.set i2 (.cells [a0, a1, a2, .sl 6 j2 0 (S.devs.length + 1)])).h i2 = some (.cells [a0, a1, a2, .sl 6 j2 0 (S.devs.length + 1)]) := by rw [ASt.set_h, if_pos rfl, hs2]; rfl
  generalize w1.set i2 (.cells [a0, a1, a2, .sl 6 j2 0 (S.devs.length + 1)]) = w2 at hB2 hw2i
  obtain ⟨b0, b1, b2, b3, L3, hBL3, hbw, -⟩ := hB2.four
  rw [hw2i] at hbw
  cases hbw
  have hMs : M.sane := by rw [hM]; exact more_sane hk _ (by omega)
  have hbw' := hBL3.2.2.2.2.2 _ _ hb2
  have h1w := hBL3.2.2.2.2.2 _ _ h2
  have nib : ib ∉ L3 := fun hm => by have := hBL3.2.2.2.1 ib hm; rw [hb2] at this; cases this
  have ni1 : i1 ∉ L3 := fun hm => by have := hBL3.2.2.2.1 i1 hm; rw [h2] at this; cases this
  have nb2 : ib ≠ i2 := by rintro rfl; have := hBL3.2.2.2.2.1; rw [hb2] at this; cases this
  have n12 : i1 ≠ i2 := by rintro rfl; have := hBL3.2.2.2.2.1; rw [h2] at this; cases this
  -- the copy of the greater one
  refine ACalls.frzBox hBL3.2.1 hBL3.1 hBL3.2.2.1 ((copy_own hMs).mono ?_)
  have g2 : ((w2.killL L3).set i2 (.cells M.cells)).h i2 = some (.cells M.cells) := by rw [ASt.set_h, if_pos rfl, ASt.killL_h, if_neg hBL3.2.2.1, hBL3.1]; rfl
  have gb : ((w2.killL L3).set i2 (.cells M.cells)).h ib = some (.cells S.cells) := by rw [ASt.set_h, if_neg nb2, ASt.killL_h, if_neg nib]; exact hbw'
  have g1 : ((w2.killL L3).set i2 (.cells M.cells)).h i1 = some (.cells lv) := by rw [ASt.set_h, if_neg n12, ASt.killL_h, if_neg ni1]; exact h1w
  generalize (w2.killL L3).set i2 (.cells M.cells) = w3 at g2 gb g1
  rintro r w4 ⟨vs, L4, rfl, hR, hF, hle⟩
  have lv4 : vs.length = 4 := hR.len.symm
  have lvf := hR.leaf
  simp only [↓Bp, Bq, Bs, ↓aop.eq_28, ↓aop.eq_30, Nat.reduceEqDiff, Nat.reduceAdd, Nat.reduceMul, Nat.reduceSub, Nat.reduceLeDiff, Nat.reduceLT, Int.reduceLT, Int.reduceLE, Int.reduceEq, Int.reduceToNat, Int.reduceAdd, Int.reduceSub, Int.reduceNeg, ↓reduceIte, reduceCtorEq, ↓C.catnaplaw4_ConfRight_r19_w, C.catnaplaw4_ConfRight_r19_b, ↓C.catnaplaw4_ConfRight_c3_w, ↓C.catnaplaw4_ConfRight_r18_w, C.catnaplaw4_ConfRight_r18_b, ↓C.catnaplaw4_ConfRight_c4_w, ↓C.catnaplaw4_ConfRight_r16_w, C.catnaplaw4_ConfRight_r16_b, ↓C.catnaplaw4_ConfRight_c5_w, ↓C.catnaplaw4_ConfRight_r17_w, C.catnaplaw4_ConfRight_r17_b, ↓C.catnaplaw4_ConfRight_b6_w, ↓C.catnaplaw4_ConfRight_c7_w, ↓C.catnaplaw4_ConfRight_c8_w, ↓C.catnaplaw4_ConfRight_r15_w, C.catnaplaw4_ConfRight_r15_b, ↓C.catnaplaw4_ConfRight_b10_w, ↓C.catnaplaw4_ConfRight_c11_w, ↓C.catnaplaw4_ConfRight_r14_w, C.catnaplaw4_ConfRight_r14_b, ↓C.catnaplaw4_ConfRight_c12_w, ↓C.catnaplaw4_ConfRight_r13_w, C.catnaplaw4_ConfRight_r13_b, ↓C.catnaplaw4_ConfRight_c13_w, ↓C.catnaplaw4_ConfRight_r12_w, C.catnaplaw4_ConfRight_r12_b, ↓C.catnaplaw4_ConfRight_c14_w, ↓C.catnaplaw4_ConfRight_r11_w, C.catnaplaw4_ConfRight_r11_b, ↓C.catnaplaw4_ConfRight_c15_w, ↓C.catnaplaw4_ConfRight_r10_w, C.catnaplaw4_ConfRight_r10_b, ↓C.catnaplaw4_ConfRight_c16_w, ↓C.catnaplaw4_ConfRight_r9_w, C.catnaplaw4_ConfRight_r9_b, ↓C.catnaplaw4_ConfRight_c17_w, ↓C.catnaplaw4_ConfRight_c18_w, ↓C.catnaplaw4_ConfRight_r8_w, C.catnaplaw4_ConfRight_r8_b, ↓C.catnaplaw4_ConfRight_c19_w, ↓C.catnaplaw4_ConfRight_r7_w, C.catnaplaw4_ConfRight_r7_b, ↓C.catnaplaw4_ConfRight_c20_w, ↓C.catnaplaw4_ConfRight_r6_w, C.catnaplaw4_ConfRight_r6_b, ↓C.catnaplaw4_ConfRight_c21_w, ↓C.catnaplaw4_ConfRight_r5_w, C.catnaplaw4_ConfRight_r5_b, ↓C.catnaplaw4_ConfRight_c22_w, ↓C.catnaplaw4_ConfRight_r4_w, C.catnaplaw4_ConfRight_r4_b, ↓C.catnaplaw4_ConfRight_c23_w, ↓C.catnaplaw4_ConfRight_r3_w, C.catnaplaw4_ConfRight_r3_b, ↓C.catnaplaw4_ConfRight_c24_w, ↓C.catnaplaw4_ConfRight_c25_w, ↓C.catnaplaw4_ConfRight_r2_w, C.catnaplaw4_ConfRight_r2_b, ↓C.catnaplaw4_ConfRight_c26_w, ↓C.catnaplaw4_ConfRight_r1_w, C.catnaplaw4_ConfRight_r1_b, ↓C.catnaplaw4_ConfRight_c27_w, ↓C.catnaplaw4_ConfRight_r0_w, C.catnaplaw4_ConfRight_r0_b, C.catnaplaw4_ConfRight]
  rintro i4 hi4
  simp only [↓Bp, Bq, Bs, ↓aop.eq_28, ↓aop.eq_30, Nat.reduceEqDiff, Nat.reduceAdd, Nat.reduceMul, Nat.reduceSub, Nat.reduceLeDiff, Nat.reduceLT, Int.reduceLT, Int.reduceLE, Int.reduceEq, Int.reduceToNat, Int.reduceAdd, Int.reduceSub, Int.reduceNeg, ↓reduceIte, reduceCtorEq, ↓C.catnaplaw4_ConfRight_r19_w, C.catnaplaw4_ConfRight_r19_b, ↓C.catnaplaw4_ConfRight_c3_w, ↓C.catnaplaw4_ConfRight_r18_w, C.catnaplaw4_ConfRight_r18_b, ↓C.catnaplaw4_ConfRight_c4_w, ↓C.catnaplaw4_ConfRight_r16_w, C.catnaplaw4_ConfRight_r16_b, ↓C.catnaplaw4_ConfRight_c5_w, ↓C.catnaplaw4_ConfRight_r17_w, C.catnaplaw4_ConfRight_r17_b, ↓C.catnaplaw4_ConfRight_b6_w, ↓C.catnaplaw4_ConfRight_c7_w, ↓C.catnaplaw4_ConfRight_c8_w, ↓C.catnaplaw4_ConfRight_r15_w, C.catnaplaw4_ConfRight_r15_b, ↓C.catnaplaw4_ConfRight_b10_w, ↓C.catnaplaw4_ConfRight_c11_w, ↓C.catnaplaw4_ConfRight_r14_w, C.catnaplaw4_ConfRight_r14_b, ↓C.catnaplaw4_ConfRight_c12_w, ↓C.catnaplaw4_ConfRight_r13_w, C.catnaplaw4_ConfRight_r13_b, ↓C.catnaplaw4_ConfRight_c13_w, ↓C.catnaplaw4_ConfRight_r12_w, C.catnaplaw4_ConfRight_r12_b, ↓C.catnaplaw4_ConfRight_c14_w, ↓C.catnaplaw4_ConfRight_r11_w, C.catnaplaw4_ConfRight_r11_b, ↓C.catnaplaw4_ConfRight_c15_w, ↓C.catnaplaw4_ConfRight_r10_w, C.catnaplaw4_ConfRight_r10_b, ↓C.catnaplaw4_ConfRight_c16_w, ↓C.catnaplaw4_ConfRight_r9_w, C.catnaplaw4_ConfRight_r9_b, ↓C.catnaplaw4_ConfRight_c17_w, ↓C.catnaplaw4_ConfRight_c18_w, ↓C.catnaplaw4_ConfRight_r8_w, C.catnaplaw4_ConfRight_r8_b, ↓C.catnaplaw4_ConfRight_c19_w, ↓C.catnaplaw4_ConfRight_r7_w, C.catnaplaw4_ConfRight_r7_b, ↓C.catnaplaw4_ConfRight_c20_w, ↓C.catnaplaw4_ConfRight_r6_w, C.catnaplaw4_ConfRight_r6_b, ↓C.catnaplaw4_ConfRight_c21_w, ↓C.catnaplaw4_ConfRight_r5_w, C.catnaplaw4_ConfRight_r5_b, ↓C.catnaplaw4_ConfRight_c22_w, ↓C.catnaplaw4_ConfRight_r4_w, C.catnaplaw4_ConfRight_r4_b, ↓C.catnaplaw4_ConfRight_c23_w, ↓C.catnaplaw4_ConfRight_r3_w, C.catnaplaw4_ConfRight_r3_b, ↓C.catnaplaw4_ConfRight_c24_w, ↓C.catnaplaw4_ConfRight_c25_w, ↓C.catnaplaw4_ConfRight_r2_w, C.catnaplaw4_ConfRight_r2_b, ↓C.catnaplaw4_ConfRight_c26_w, ↓C.catnaplaw4_ConfRight_r1_w, C.catnaplaw4_ConfRight_r1_b, ↓C.catnaplaw4_ConfRight_c27_w, ↓C.catnaplaw4_ConfRight_r0_w, C.catnaplaw4_ConfRight_r0_b, C.catnaplaw4_ConfRight, hi4, lv4, lvf]
  rw [ASt.new_set hi4, putN_all (zs := [AV.nils, AV.nils, AV.nils, AV.nils]) (by rw [lv4]; rfl)]
  have hB4 := chip_box hR hF hle hi4
  generalize w4.new i4 (.cells vs) = w5 at hB4
  clear hR hF hle hi4 lv4 lvf
  obtain ⟨c0, c1, c2, c3, L5, hBL5, hb5, -⟩ := hB4.four
  have hMl : M.devs.length = S.devs.length + 1 := by rw [hM]; simp
  have hl0 : 0 < M.devs.length := by omega
  have hM0 : M.devs[0].needs = [] := by
    have : M.devs[0] = S.devs[0]'n4.1 := by
      simp only [hM]
      exact List.getElem_append_left _
    rw [this]; exact dev0_needs hk
  obtain ⟨id, ws', v0, q0, Li, p1, p2, p3, p4, p5, p6, p7, p8, p9, p10, p11, p12⟩ := BoxL.putAt (o := 3) (k := 5) hBL5 rfl (by omega) (by rw [flatMap_len Dev.cells_len]; omega)
  cases p1
  have hq0 : q0 = row [] := by
    have := rows_get Dev.cells Dev.cells_len hl0 (j := 5) (by omega)
    rw [Nat.zero_mul, Nat.zero_add] at this
    rw [this] at p6
    rw [show (M.devs[0].cells)[5]? = some (row M.devs[0].needs) from rfl, hM0] at p6
    cases p6; rfl
  subst hq0
  have h5 := hBL5.2.2.2.2.2
  have nb4 : ib ∉ Li := fun hm => by have := p11 ib hm; rw [gb] at this; cases this
  have hzM : (0 : Int) ≤ 0 ∧ (0 : Int) < (M.devs.length : Nat) := by omega
  have h5w : 5 < ws'.length := by rw [p3, flatMap_len Dev.cells_len]; omega
  have gb5 := h5 _ _ gb
  have gb5x := gb5
  rw [Soc.cells, Soc.clkV, Soc.domV, Soc.rstV, Soc.devV] at gb5x
  simp only [↓Bp, Bq, Bs, Nat.reduceEqDiff, Nat.reduceAdd, Nat.reduceMul, Nat.reduceSub, Nat.reduceLeDiff, Nat.reduceLT, Int.reduceLT, Int.reduceLE, Int.reduceEq, Int.reduceToNat, Int.reduceAdd, Int.reduceSub, Int.reduceNeg, ↓reduceIte, reduceCtorEq, ↓C.catnaplaw4_ConfRight_r20_w, C.catnaplaw4_ConfRight_r20_b, ↓C.catnaplaw4_ConfRight_c2_w, ↓C.catnaplaw4_ConfRight_r19_w, C.catnaplaw4_ConfRight_r19_b, ↓C.catnaplaw4_ConfRight_c3_w, ↓C.catnaplaw4_ConfRight_r18_w, C.catnaplaw4_ConfRight_r18_b, ↓C.catnaplaw4_ConfRight_c4_w, ↓C.catnaplaw4_ConfRight_r16_w, C.catnaplaw4_ConfRight_r16_b, ↓C.catnaplaw4_ConfRight_c5_w, ↓C.catnaplaw4_ConfRight_r17_w, C.catnaplaw4_ConfRight_r17_b, ↓C.catnaplaw4_ConfRight_b6_w, ↓C.catnaplaw4_ConfRight_c7_w, ↓C.catnaplaw4_ConfRight_c8_w, ↓C.catnaplaw4_ConfRight_r15_w, C.catnaplaw4_ConfRight_r15_b, ↓C.catnaplaw4_ConfRight_b10_w, ↓C.catnaplaw4_ConfRight_c11_w, ↓C.catnaplaw4_ConfRight_r14_w, C.catnaplaw4_ConfRight_r14_b, ↓C.catnaplaw4_ConfRight_c12_w, ↓C.catnaplaw4_ConfRight_r13_w, C.catnaplaw4_ConfRight_r13_b, ↓C.catnaplaw4_ConfRight_c13_w, ↓C.catnaplaw4_ConfRight_r12_w, C.catnaplaw4_ConfRight_r12_b, ↓C.catnaplaw4_ConfRight_c14_w, ↓C.catnaplaw4_ConfRight_r11_w, C.catnaplaw4_ConfRight_r11_b, ↓C.catnaplaw4_ConfRight_c15_w, ↓C.catnaplaw4_ConfRight_r10_w, C.catnaplaw4_ConfRight_r10_b, ↓C.catnaplaw4_ConfRight_c16_w, ↓C.catnaplaw4_ConfRight_r9_w, C.catnaplaw4_ConfRight_r9_b, ↓C.catnaplaw4_ConfRight_c17_w, ↓C.catnaplaw4_ConfRight_c18_w, ↓C.catnaplaw4_ConfRight_r8_w, C.catnaplaw4_ConfRight_r8_b, ↓C.catnaplaw4_ConfRight_c19_w, ↓C.catnaplaw4_ConfRight_r7_w, C.catnaplaw4_ConfRight_r7_b, ↓C.catnaplaw4_ConfRight_c20_w, ↓C.catnaplaw4_ConfRight_r6_w, C.catnaplaw4_ConfRight_r6_b, ↓C.catnaplaw4_ConfRight_c21_w, ↓C.catnaplaw4_ConfRight_r5_w, C.catnaplaw4_ConfRight_r5_b, ↓C.catnaplaw4_ConfRight_c22_w, ↓C.catnaplaw4_ConfRight_r4_w, C.catnaplaw4_ConfRight_r4_b, ↓C.catnaplaw4_ConfRight_c23_w, ↓C.catnaplaw4_ConfRight_r3_w, C.catnaplaw4_ConfRight_r3_b, ↓C.catnaplaw4_ConfRight_c24_w, ↓C.catnaplaw4_ConfRight_c25_w, ↓C.catnaplaw4_ConfRight_r2_w, C.catnaplaw4_ConfRight_r2_b, ↓C.catnaplaw4_ConfRight_c26_w, ↓C.catnaplaw4_ConfRight_r1_w, C.catnaplaw4_ConfRight_r1_b, ↓C.catnaplaw4_ConfRight_c27_w, ↓C.catnaplaw4_ConfRight_r0_w, C.catnaplaw4_ConfRight_r0_b, C.catnaplaw4_ConfRight, hb5, hzM, Nat.zero_mul, p2, p5, gb5x]
  refine aop_append_rep (L := Li) (Ln := []) (ds := []) (n := 0) (new := [.int .i64 (S.devs.length : Nat)]) (newc := [.int .i64 (S.devs.length : Nat)]) p7 rfl (by omega) rfl rfl (RepL.scalars rfl _) (by simp) (fun _ => rfl) (fun _ => rfl) fun v1' j5 L6 w6 r1 r2 r3 => ?_
  have hb6 := r3 i4 p9 _ hb5
  have p26 := r3 id p8 _ p2
  obtain ⟨L', hBL7⟩ := p12 w6 _ _ L6 r1 r3 (fun j hj => by
    rcases r2 j hj with h | h | h
    · exact .inl h
    · cases h
    · exact .inr h)
  obtain ⟨N, hN⟩ : ∃ N : Soc, N = { S with devs := (S.devs ++ [allDev S S.devs.length]).set 0 { S.devs[0]'n4.1 with needs := [(S.devs.length : Int)] } } := ⟨_, rfl⟩
  have hNc : N.cells = M.cells.set 3 (.isl 6 ((M.devs.flatMap Dev.cells).set 5 (.isl 1 ([] ++ [.int .i64 (S.devs.length : Nat)]) (0 + 1))) M.devs.length) := by
    have h00 : M.devs[0] = S.devs[0]'n4.1 := by
      simp only [hM]; exact List.getElem_append_left _
    have := Soc.set_dev (S := M) (i := 0) (j := 5) (c := { S.devs[0]'n4.1 with needs := [(S.devs.length : Int)] }) (v := row [(S.devs.length : Int)]) hl0 (by omega) (by rw [h00]; rfl)
    rw [Nat.zero_mul, Nat.zero_add] at this
    rw [hN, show ({ S with devs := (S.devs ++ [allDev S S.devs.length]).set 0 { S.devs[0]'n4.1 with needs := [(S.devs.length : Int)] } } : Soc) = { M with devs := M.devs.set 0 { S.devs[0]'n4.1 with needs := [(S.devs.length : Int)] } } by rw [hM], this]
    rfl
  have hid4 : ¬ i4 = id := fun e => p4 e.symm
  simp only [↓Bp, Bq, Bs, ↓aop.eq_28, ↓aop.eq_30, Nat.reduceEqDiff, Nat.reduceAdd, Nat.reduceMul, Nat.reduceSub, Nat.reduceLeDiff, Nat.reduceLT, Int.reduceLT, Int.reduceLE, Int.reduceEq, Int.reduceToNat, Int.reduceAdd, Int.reduceSub, Int.reduceNeg, ↓reduceIte, reduceCtorEq, ↓C.catnaplaw4_ConfRight_r20_w, C.catnaplaw4_ConfRight_r20_b, ↓C.catnaplaw4_ConfRight_c2_w, ↓C.catnaplaw4_ConfRight_r19_w, C.catnaplaw4_ConfRight_r19_b, ↓C.catnaplaw4_ConfRight_c3_w, ↓C.catnaplaw4_ConfRight_r18_w, C.catnaplaw4_ConfRight_r18_b, ↓C.catnaplaw4_ConfRight_c4_w, ↓C.catnaplaw4_ConfRight_r16_w, C.catnaplaw4_ConfRight_r16_b, ↓C.catnaplaw4_ConfRight_c5_w, ↓C.catnaplaw4_ConfRight_r17_w, C.catnaplaw4_ConfRight_r17_b, ↓C.catnaplaw4_ConfRight_b6_w, ↓C.catnaplaw4_ConfRight_c7_w, ↓C.catnaplaw4_ConfRight_c8_w, ↓C.catnaplaw4_ConfRight_r15_w, C.catnaplaw4_ConfRight_r15_b, ↓C.catnaplaw4_ConfRight_b10_w, ↓C.catnaplaw4_ConfRight_c11_w, ↓C.catnaplaw4_ConfRight_r14_w, C.catnaplaw4_ConfRight_r14_b, ↓C.catnaplaw4_ConfRight_c12_w, ↓C.catnaplaw4_ConfRight_r13_w, C.catnaplaw4_ConfRight_r13_b, ↓C.catnaplaw4_ConfRight_c13_w, ↓C.catnaplaw4_ConfRight_r12_w, C.catnaplaw4_ConfRight_r12_b, ↓C.catnaplaw4_ConfRight_c14_w, ↓C.catnaplaw4_ConfRight_r11_w, C.catnaplaw4_ConfRight_r11_b, ↓C.catnaplaw4_ConfRight_c15_w, ↓C.catnaplaw4_ConfRight_r10_w, C.catnaplaw4_ConfRight_r10_b, ↓C.catnaplaw4_ConfRight_c16_w, ↓C.catnaplaw4_ConfRight_r9_w, C.catnaplaw4_ConfRight_r9_b, ↓C.catnaplaw4_ConfRight_c17_w, ↓C.catnaplaw4_ConfRight_c18_w, ↓C.catnaplaw4_ConfRight_r8_w, C.catnaplaw4_ConfRight_r8_b, ↓C.catnaplaw4_ConfRight_c19_w, ↓C.catnaplaw4_ConfRight_r7_w, C.catnaplaw4_ConfRight_r7_b, ↓C.catnaplaw4_ConfRight_c20_w, ↓C.catnaplaw4_ConfRight_r6_w, C.catnaplaw4_ConfRight_r6_b, ↓C.catnaplaw4_ConfRight_c21_w, ↓C.catnaplaw4_ConfRight_r5_w, C.catnaplaw4_ConfRight_r5_b, ↓C.catnaplaw4_ConfRight_c22_w, ↓C.catnaplaw4_ConfRight_r4_w, C.catnaplaw4_ConfRight_r4_b, ↓C.catnaplaw4_ConfRight_c23_w, ↓C.catnaplaw4_ConfRight_r3_w, C.catnaplaw4_ConfRight_r3_b, ↓C.catnaplaw4_ConfRight_c24_w, ↓C.catnaplaw4_ConfRight_c25_w, ↓C.catnaplaw4_ConfRight_r2_w, C.catnaplaw4_ConfRight_r2_b, ↓C.catnaplaw4_ConfRight_c26_w, ↓C.catnaplaw4_ConfRight_r1_w, C.catnaplaw4_ConfRight_r1_b, ↓C.catnaplaw4_ConfRight_c27_w, ↓C.catnaplaw4_ConfRight_r0_w, C.catnaplaw4_ConfRight_r0_b, C.catnaplaw4_ConfRight, hb6, hzM, Nat.zero_mul, p26, h5w]
  rw [← hNc] at hBL7
  have gb7 := hBL7.2.2.2.2.2 _ _ gb
  have g17 := hBL7.2.2.2.2.2 _ _ g1
  have g27 := hBL7.2.2.2.2.2 _ _ g2
  have hb7 := hBL7.1
  clear p12 r1 r2 r3 hb6 p26
  rw [Nat.zero_add] at hBL7 gb7 g17 g27 hb7
  generalize w6.set id (.cells (ws'.set 5 (.sl 1 j5 0 1))) = w7 at hBL7 gb7 g17 g27 hb7
  -- what is told of all of them
  have lvl : lv.length = 4 := by rw [hlv]; rfl
  have elv : AV.agg (List.take 4 lv) = .agg lv := by rw [← lvl, List.take_length]
  have lM : M.cells.length = 4 := rfl
  have eM : AV.agg (List.take 4 M.cells) = .agg M.cells := rfl
  simp only [↓Bp, Bq, Bs, ↓aop.eq_28, ↓aop.eq_30, Nat.reduceEqDiff, Nat.reduceAdd, Nat.reduceMul, Nat.reduceSub, Nat.reduceLeDiff, Nat.reduceLT, Int.reduceLT, Int.reduceLE, Int.reduceEq, Int.reduceToNat, Int.reduceAdd, Int.reduceSub, Int.reduceNeg, ↓reduceIte, reduceCtorEq, ↓C.catnaplaw4_ConfRight_W, C.catnaplaw4_ConfRight_B, C.catnaplaw4_ConfRight, g17, lvl, elv]
  obtain ⟨T, hT⟩ : ∃ T : Soc, T = { S with devs := S.devs.take (S.devs.length - 1) } := ⟨_, rfl⟩
  have hTf : T.fine := by rw [hT]; exact hs.fine
  have hTe : confErr T = 0 := by rw [hT]; exact less_right hk
  have hTc : T.cells = [S.clkV, S.domV, S.rstV, AV.isl 6 ((S.devs.flatMap Dev.cells).take (6 * (S.devs.length - 1))) (S.devs.length - 1)] := by
    have hfm : ∀ (l : List Dev) (n : Nat), (l.take n).flatMap Dev.cells = (l.flatMap Dev.cells).take (6 * n) := by
      intro l
      induction l with
      | nil => intro n; simp
      | cons d l ih =>
        intro n
        cases n with
        | zero => simp
        | succ n =>
          rw [List.take_succ_cons, List.flatMap_cons, List.flatMap_cons, ih]
          rw [show 6 * (n + 1) = d.cells.length + 6 * n by rw [Dev.cells_len]; omega, List.take_length_add_append]
    have hlen : (S.devs.take (S.devs.length - 1)).length = S.devs.length - 1 := by simp
    rw [hT]
    simp only [Soc.cells, Soc.devV, hfm, hlen]
    rfl
  refine ACalls.weak (args1 := [.agg T.cells]) rfl (fun C i hi hi' v hv => ?_) ((conf_check_spec hTf).mono ?_)
  · have e : i = 0 := by simpa using hi
    subst e
    simp only [List.getElem_cons_zero] at hv ⊢
    rw [hlv] at hv
    rw [hTc]
    cases hv with
    | agg _ vs hl2 hv =>
      refine .agg _ _ (by simpa using hl2) fun j hj => ?_
      match j, hj with
      | 0, _ => exact hv 0 (by simp)
      | 1, _ => exact hv 1 (by simp)
      | 2, _ => exact hv 2 (by simp)
      | 3, _ => exact (hv 3 (by simp)).trunc _
  rintro r w8 ⟨rfl, rfl⟩
  simp only [↓Bp, Bq, Bs, ↓aop.eq_28, ↓aop.eq_30, Nat.reduceEqDiff, Nat.reduceAdd, Nat.reduceMul, Nat.reduceSub, Nat.reduceLeDiff, Nat.reduceLT, Int.reduceLT, Int.reduceLE, Int.reduceEq, Int.reduceToNat, Int.reduceAdd, Int.reduceSub, Int.reduceNeg, ↓reduceIte, reduceCtorEq, ↓C.catnaplaw4_ConfRight_W, C.catnaplaw4_ConfRight_B, C.catnaplaw4_ConfRight, hTe, g27, lM, eM]
  refine (conf_check_spec hMs.fine).mono ?_
  rintro r w8 ⟨rfl, rfl⟩
  have hMe : confErr M = 0 := by rw [hM]; exact more_right hk
  simp only [↓Bp, Bq, Bs, ↓aop.eq_28, ↓aop.eq_30, Nat.reduceEqDiff, Nat.reduceAdd, Nat.reduceMul, Nat.reduceSub, Nat.reduceLeDiff, Nat.reduceLT, Int.reduceLT, Int.reduceLE, Int.reduceEq, Int.reduceToNat, Int.reduceAdd, Int.reduceSub, Int.reduceNeg, ↓reduceIte, reduceCtorEq, ↓C.catnaplaw4_ConfRight_W, C.catnaplaw4_ConfRight_B, C.catnaplaw4_ConfRight, hMe, hb7]
  refine (check_own hBL7.2.1 (by rw [hN]; exact hs.fine)).mono ?_
  rintro r w8 ⟨rfl, rfl⟩
  have hNe : confErr N = 5 := by rw [hN]; exact circle_err hk
  simp only [↓Bp, Bq, Bs, ↓aop.eq_28, ↓aop.eq_30, Nat.reduceEqDiff, Nat.reduceAdd, Nat.reduceMul, Nat.reduceSub, Nat.reduceLeDiff, Nat.reduceLT, Int.reduceLT, Int.reduceLE, Int.reduceEq, Int.reduceToNat, Int.reduceAdd, Int.reduceSub, Int.reduceNeg, ↓reduceIte, reduceCtorEq, ↓C.catnaplaw4_ConfRight_W, C.catnaplaw4_ConfRight_B, C.catnaplaw4_ConfRight, hNe, gb7, g27, lM, eM, lc, e4]
  refine (conf_same_spec hs).mono ?_
  rintro r w8 ⟨⟨x, rfl, hx⟩, rfl⟩
  have hx0 : x = false := by
    cases x with
    | false => rfl
    | true =>
      have := congrArg (fun s : Soc => s.devs.length) (hx.mp rfl)
      simp only [hMl] at this
      omega
  subst hx0
  simp only [↓Bp, Bq, Bs, ↓aop.eq_28, ↓aop.eq_30, Nat.reduceEqDiff, Nat.reduceAdd, Nat.reduceMul, Nat.reduceSub, Nat.reduceLeDiff, Nat.reduceLT, Int.reduceLT, Int.reduceLE, Int.reduceEq, Int.reduceToNat, Int.reduceAdd, Int.reduceSub, Int.reduceNeg, ↓reduceIte, reduceCtorEq, ↓C.catnaplaw4_ConfRight_W, C.catnaplaw4_ConfRight_B, C.catnaplaw4_ConfRight, g27, lM, eM]
  refine (copy_frz hMs).mono ?_
  rintro r w9 ⟨rfl, rfl⟩
  simp only [↓Bp, Bq, Bs, ↓aop.eq_28, ↓aop.eq_30, Nat.reduceEqDiff, Nat.reduceAdd, Nat.reduceMul, Nat.reduceSub, Nat.reduceLeDiff, Nat.reduceLT, Int.reduceLT, Int.reduceLE, Int.reduceEq, Int.reduceToNat, Int.reduceAdd, Int.reduceSub, Int.reduceNeg, ↓reduceIte, reduceCtorEq, ↓C.catnaplaw4_ConfRight_W, C.catnaplaw4_ConfRight_B, C.catnaplaw4_ConfRight, g27, lM, eM]
  refine ⟨fun _ => trivial, (conf_same_spec hMs).mono ?_⟩
  rintro r w10 ⟨⟨y, rfl, hy⟩, rfl⟩
  simp only [↓Bp, Bq, Bs, ↓aop.eq_28, ↓aop.eq_30, Nat.reduceEqDiff, Nat.reduceAdd, Nat.reduceMul, Nat.reduceSub, Nat.reduceLeDiff, Nat.reduceLT, Int.reduceLT, Int.reduceLE, Int.reduceEq, Int.reduceToNat, Int.reduceAdd, Int.reduceSub, Int.reduceNeg, ↓reduceIte, reduceCtorEq, ↓C.catnaplaw4_ConfRight_W, C.catnaplaw4_ConfRight_B, C.catnaplaw4_ConfRight, hy.mpr rfl]
end Go.Proofs.Ytjamidgdhmjhaaa.Cn
