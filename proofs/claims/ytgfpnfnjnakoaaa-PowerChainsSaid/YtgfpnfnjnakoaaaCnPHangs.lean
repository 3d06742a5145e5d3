/- Power: PowerHangs. -/
import Derived.Test.YtgfpnfnjnakoaaaCnPower7
set_option linter.unusedSimpArgs false
set_option linter.unusedVariables false
set_option linter.unusedSectionVars false
namespace Go.Proofs.Ytgfpnfnjnakoaaa.Cn
open Go Go.Proofs

theorem row_nat (c : List Nat) : row (c.map Int.ofNat) = .isl 1 (ints (c.map Int.ofNat)) c.length := by rw [row, List.length_map]
section
variable {st : ASt} {ib p ig : Nat} {S : Soc} (hS : S.like)
include hS
set_option maxHeartbeats 1000000 in
/-- All above one that is not down live. -/
theorem hang_links {s : ASt} {gs : List Gd} {va : AV} {i0 i : Nat} {c : List Nat} (hi : i < gs.length) (h : WSt st s ib p ig S gs) (hI : GInv S.doms gs) (hH : HInv gs) (hc : ChainOk gs c i) (hcl : c.length ≤ 100) {Q : IExit → AFr → ASt → Prop}
    (hQ : ∀ fr, fr.keep [1, 6, 7, 9, 11] = [(1, va), (6, .ptr ib 0), (7, .ptr p 0), (9, .int .i64 i0), (11, .int .i64 i)] → Q .normal fr s) :
    awp Try.prog C.catnaplaw7_PowerHangs_c13 Q [(1, va), (6, .ptr ib 0), (7, .ptr p 0), (9, .int .i64 i0), (11, .int .i64 i), (12, .int .u8 gs[i].phase), (13, .isl 1 (ints (c.map Int.ofNat)) c.length)] s := by
  have hnd := hS.nd
  have hlen := hI.len
  have hp := hc.pos
  simp only [↓Bp, Bq, Bs, ↓aop.eq_28, ↓aop.eq_30, Nat.reduceEqDiff, Nat.reduceAdd, Nat.reduceMul, Nat.reduceSub, Nat.reduceLeDiff, Nat.reduceLT, Int.reduceLT, Int.reduceLE, Int.reduceEq, Int.reduceToNat, Int.reduceAdd, Int.reduceSub, Int.reduceNeg, ↓reduceIte, reduceCtorEq, ↓C.catnaplaw7_PowerHangs_W, C.catnaplaw7_PowerHangs_B, C.catnaplaw7_PowerHangs]
  refine awp_loopK (fun j : Nat => [(1, va), (6, .ptr ib 0), (7, .ptr p 0), (9, .int .i64 i0), (11, .int .i64 i), (12, .int .u8 gs[i].phase), (13, .isl 1 (ints (c.map Int.ofNat)) c.length), (14, .int .i64 j)]) (fun j s' => j + 1 ≤ c.length ∧ s' = s) (fun j => c.length - j) 0 rfl ⟨by omega, rfl⟩ ?_
  rintro j s ⟨hj, rfl⟩
  have hw : IntKind.i64.wrap ((j : Int) + 1) = ((j + 1 : Nat) : Int) := wsucc (n := c.length) (by omega) (by omega)
  by_cases hjl : j + 1 < c.length
  rotate_left
  · have hjl' : ¬ ((j + 1 : Nat) : Int) < (c.length : Nat) := by omega
    simp only [↓Bp, Bq, Bs, ↓aop.eq_28, ↓aop.eq_30, Nat.reduceEqDiff, Nat.reduceAdd, Nat.reduceMul, Nat.reduceSub, Nat.reduceLeDiff, Nat.reduceLT, Int.reduceLT, Int.reduceLE, Int.reduceEq, Int.reduceToNat, Int.reduceAdd, Int.reduceSub, Int.reduceNeg, ↓reduceIte, reduceCtorEq, ↓C.catnaplaw7_PowerHangs_W, C.catnaplaw7_PowerHangs_B, C.catnaplaw7_PowerHangs, hw, hjl']
    exact hQ _ rfl
  have hjl' : ((j + 1 : Nat) : Int) < (c.length : Nat) := by omega
  by_cases h1 : gs[i].phase = 48
  · have T1 := eq_true h1
    simp only [↓Bp, Bq, Bs, ↓aop.eq_28, ↓aop.eq_30, Nat.reduceEqDiff, Nat.reduceAdd, Nat.reduceMul, Nat.reduceSub, Nat.reduceLeDiff, Nat.reduceLT, Int.reduceLT, Int.reduceLE, Int.reduceEq, Int.reduceToNat, Int.reduceAdd, Int.reduceSub, Int.reduceNeg, ↓reduceIte, reduceCtorEq, ↓C.catnaplaw7_PowerHangs_W, C.catnaplaw7_PowerHangs_B, C.catnaplaw7_PowerHangs, hw, hjl', T1]
    exact ⟨j + 1, rfl, by omega, by omega⟩
  have T1 := eq_false h1
  by_cases h2 : gs[i].phase = 116
  · have T2 := eq_true h2
    simp only [↓Bp, Bq, Bs, ↓aop.eq_28, ↓aop.eq_30, Nat.reduceEqDiff, Nat.reduceAdd, Nat.reduceMul, Nat.reduceSub, Nat.reduceLeDiff, Nat.reduceLT, Int.reduceLT, Int.reduceLE, Int.reduceEq, Int.reduceToNat, Int.reduceAdd, Int.reduceSub, Int.reduceNeg, ↓reduceIte, reduceCtorEq, ↓C.catnaplaw7_PowerHangs_W, C.catnaplaw7_PowerHangs_B, C.catnaplaw7_PowerHangs, hw, hjl', T1, T2]
    exact ⟨j + 1, rfl, by omega, by omega⟩
  have T2 := eq_false h2
  have hz : (0:Int) ≤ (j : Int) ∧ (j : Int) < (c.length : Nat) := by omega
  have hg := ints_nat_get (c := c) (j := j) (by omega)
  simp only [↓Bp, Bq, Bs, ↓aop.eq_28, ↓aop.eq_30, Nat.reduceEqDiff, Nat.reduceAdd, Nat.reduceMul, Nat.reduceSub, Nat.reduceLeDiff, Nat.reduceLT, Int.reduceLT, Int.reduceLE, Int.reduceEq, Int.reduceToNat, Int.reduceAdd, Int.reduceSub, Int.reduceNeg, ↓reduceIte, reduceCtorEq, ↓C.catnaplaw7_PowerHangs_W, C.catnaplaw7_PowerHangs_B, C.catnaplaw7_PowerHangs, hw, hjl', T1, T2, hz, hg, Int.toNat_natCast, Nat.mul_one]
  refine (phase_at h.g (hc.lt j (by omega))).mono ?_
  rintro r s ⟨rfl, rfl⟩
  have hlive := hH.chain hc hi (isDown_false.mpr ⟨h1, h2⟩) (c.length - (j + 2)) j (by omega)
  rw [hlive]
  simp only [↓Bp, Bq, Bs, ↓aop.eq_28, ↓aop.eq_30, Nat.reduceEqDiff, Nat.reduceAdd, Nat.reduceMul, Nat.reduceSub, Nat.reduceLeDiff, Nat.reduceLT, Int.reduceLT, Int.reduceLE, Int.reduceEq, Int.reduceToNat, Int.reduceAdd, Int.reduceSub, Int.reduceNeg, ↓reduceIte, reduceCtorEq, ↓C.catnaplaw7_PowerHangs_W, C.catnaplaw7_PowerHangs_B, C.catnaplaw7_PowerHangs, hw]
  exact ⟨j + 1, rfl, by omega, by omega⟩
set_option maxHeartbeats 1000000 in
/-- Each is looked at. -/
theorem hang_look {s : ASt} {gs : List Gd} {va : AV} {i0 : Nat} (h : WSt st s ib p ig S gs) (hI : GInv S.doms gs) (hH : HInv gs) {Q : IExit → AFr → ASt → Prop}
    (hQ : ∀ fr, fr.keep [1, 6, 7, 9] = [(1, va), (6, .ptr ib 0), (7, .ptr p 0), (9, .int .i64 i0)] → Q .normal fr s) :
    awp Try.prog C.catnaplaw7_PowerHangs_c24 Q [(1, va), (6, .ptr ib 0), (7, .ptr p 0), (9, .int .i64 i0)] s := by
  have hnd := hS.nd
  have hlen := hI.len
  simp only [↓Bp, Bq, Bs, ↓aop.eq_28, ↓aop.eq_30, Nat.reduceEqDiff, Nat.reduceAdd, Nat.reduceMul, Nat.reduceSub, Nat.reduceLeDiff, Nat.reduceLT, Int.reduceLT, Int.reduceLE, Int.reduceEq, Int.reduceToNat, Int.reduceAdd, Int.reduceSub, Int.reduceNeg, ↓reduceIte, reduceCtorEq, ↓C.catnaplaw7_PowerHangs_W, C.catnaplaw7_PowerHangs_B, C.catnaplaw7_PowerHangs]
  refine awp_loopK (fun t : Nat => [(1, va), (6, .ptr ib 0), (7, .ptr p 0), (9, .int .i64 i0), (11, .int .i64 t)]) (fun t s' => t ≤ S.doms.length ∧ s' = s) (fun t => S.doms.length - t) 0 rfl ⟨Nat.zero_le _, rfl⟩ ?_
  rintro t s ⟨ht, rfl⟩
  have hb := h.hb
  by_cases htl : t < S.doms.length
  rotate_left
  · have htl' : ¬ (t : Int) < (S.doms.length : Nat) := by omega
    simp only [↓Bp, Bq, Bs, ↓aop.eq_28, ↓aop.eq_30, Nat.reduceEqDiff, Nat.reduceAdd, Nat.reduceMul, Nat.reduceSub, Nat.reduceLeDiff, Nat.reduceLT, Int.reduceLT, Int.reduceLE, Int.reduceEq, Int.reduceToNat, Int.reduceAdd, Int.reduceSub, Int.reduceNeg, ↓reduceIte, reduceCtorEq, ↓C.catnaplaw7_PowerHangs_W, C.catnaplaw7_PowerHangs_B, C.catnaplaw7_PowerHangs, hb, Soc.cells, Soc.domV, htl']
    exact hQ _ rfl
  have htl' : (t : Int) < (S.doms.length : Nat) := by omega
  have hz : (0:Int) ≤ (t : Int) ∧ (t : Int) < (S.doms.length : Nat) := by omega
  have hw := wsucc htl (by omega)
  have htg : t < gs.length := by omega
  have hd := dom_gets htl
  have hsame := hI.same t htg htl
  simp only [↓Bp, Bq, Bs, ↓aop.eq_28, ↓aop.eq_30, Nat.reduceEqDiff, Nat.reduceAdd, Nat.reduceMul, Nat.reduceSub, Nat.reduceLeDiff, Nat.reduceLT, Int.reduceLT, Int.reduceLE, Int.reduceEq, Int.reduceToNat, Int.reduceAdd, Int.reduceSub, Int.reduceNeg, ↓reduceIte, reduceCtorEq, ↓C.catnaplaw7_PowerHangs_W, C.catnaplaw7_PowerHangs_B, C.catnaplaw7_PowerHangs, hb, Soc.cells, Soc.domV, htl']
  refine (phase_at h.g htg).mono ?_
  rintro r s ⟨rfl, rfl⟩
  simp only [↓Bp, Bq, Bs, ↓aop.eq_28, ↓aop.eq_30, Nat.reduceEqDiff, Nat.reduceAdd, Nat.reduceMul, Nat.reduceSub, Nat.reduceLeDiff, Nat.reduceLT, Int.reduceLT, Int.reduceLE, Int.reduceEq, Int.reduceToNat, Int.reduceAdd, Int.reduceSub, Int.reduceNeg, ↓reduceIte, reduceCtorEq, ↓C.catnaplaw7_PowerHangs_W, C.catnaplaw7_PowerHangs_B, C.catnaplaw7_PowerHangs]
  refine (chain_spec h.g hI.lesser (by omega) (t : Nat)).mono ?_
  rintro r s ⟨rfl, rfl⟩
  obtain ⟨c, hce, hc, hcl⟩ := chain_at hI.lesser htg
  rw [hce, row_nat]
  have hp := hc.pos
  have T0 : ((c.length : Int) = 0) = False := eq_false (by omega)
  have w1 : IntKind.i64.wrap ((c.length : Int) - 1) = ((c.length - 1 : Nat) : Int) := by rw [wrap64] <;> omega
  have hz1 : (0:Int) ≤ ((c.length - 1 : Nat) : Int) ∧ ((c.length - 1 : Nat) : Int) < (c.length : Nat) := by omega
  have hg := ints_nat_get (c := c) (j := c.length - 1) (by omega)
  rw [hc.last (by omega)] at hg
  by_cases h1 : gs[t].phase = 116
  · have T1 := eq_true h1
    have hret := (hH.kp t htg).2 h1
    have hd2 := hd.2.2
    rw [← hsame.2.2, hret] at hd2
    simp only [↓Bp, Bq, Bs, ↓aop.eq_28, ↓aop.eq_30, Nat.reduceEqDiff, Nat.reduceAdd, Nat.reduceMul, Nat.reduceSub, Nat.reduceLeDiff, Nat.reduceLT, Int.reduceLT, Int.reduceLE, Int.reduceEq, Int.reduceToNat, Int.reduceAdd, Int.reduceSub, Int.reduceNeg, ↓reduceIte, reduceCtorEq, ↓C.catnaplaw7_PowerHangs_r31_w, C.catnaplaw7_PowerHangs_r31_b, ↓C.catnaplaw7_PowerHangs_c1_w, ↓C.catnaplaw7_PowerHangs_r8_w, C.catnaplaw7_PowerHangs_r8_b, ↓C.catnaplaw7_PowerHangs_c2_w, ↓C.catnaplaw7_PowerHangs_r21_w, C.catnaplaw7_PowerHangs_r21_b, ↓C.catnaplaw7_PowerHangs_c3_w, ↓C.catnaplaw7_PowerHangs_r25_w, C.catnaplaw7_PowerHangs_r25_b, ↓C.catnaplaw7_PowerHangs_c14_w, ↓C.catnaplaw7_PowerHangs_c15_w, ↓C.catnaplaw7_PowerHangs_r24_w, C.catnaplaw7_PowerHangs_r24_b, ↓C.catnaplaw7_PowerHangs_c16_w, ↓C.catnaplaw7_PowerHangs_r23_w, C.catnaplaw7_PowerHangs_r23_b, ↓C.catnaplaw7_PowerHangs_c17_w, ↓C.catnaplaw7_PowerHangs_r22_w, C.catnaplaw7_PowerHangs_r22_b, ↓C.catnaplaw7_PowerHangs_b18_w, ↓C.catnaplaw7_PowerHangs_c19_w, ↓C.catnaplaw7_PowerHangs_c20_w, ↓C.catnaplaw7_PowerHangs_r20_w, C.catnaplaw7_PowerHangs_r20_b, ↓C.catnaplaw7_PowerHangs_b22_w, ↓C.catnaplaw7_PowerHangs_c23_w, ↓C.catnaplaw7_PowerHangs_r19_w, C.catnaplaw7_PowerHangs_r19_b, ↓C.catnaplaw7_PowerHangs_c24_w, ↓C.catnaplaw7_PowerHangs_r14_w, C.catnaplaw7_PowerHangs_r14_b, ↓C.catnaplaw7_PowerHangs_r16_w, C.catnaplaw7_PowerHangs_r16_b, ↓C.catnaplaw7_PowerHangs_r18_w, C.catnaplaw7_PowerHangs_r18_b, ↓C.catnaplaw7_PowerHangs_r11_w, C.catnaplaw7_PowerHangs_r11_b, ↓C.catnaplaw7_PowerHangs_c25_w, ↓C.catnaplaw7_PowerHangs_c26_w, ↓C.catnaplaw7_PowerHangs_c27_w, ↓C.catnaplaw7_PowerHangs_r17_w, C.catnaplaw7_PowerHangs_r17_b, ↓C.catnaplaw7_PowerHangs_c28_w, ↓C.catnaplaw7_PowerHangs_c29_w, ↓C.catnaplaw7_PowerHangs_c30_w, ↓C.catnaplaw7_PowerHangs_r15_w, C.catnaplaw7_PowerHangs_r15_b, ↓C.catnaplaw7_PowerHangs_c31_w, ↓C.catnaplaw7_PowerHangs_c32_w, ↓C.catnaplaw7_PowerHangs_c33_w, ↓C.catnaplaw7_PowerHangs_r13_w, C.catnaplaw7_PowerHangs_r13_b, ↓C.catnaplaw7_PowerHangs_c34_w, ↓C.catnaplaw7_PowerHangs_c35_w, ↓C.catnaplaw7_PowerHangs_r12_w, C.catnaplaw7_PowerHangs_r12_b, ↓C.catnaplaw7_PowerHangs_b36_w, ↓C.catnaplaw7_PowerHangs_c37_w, ↓C.catnaplaw7_PowerHangs_r10_w, C.catnaplaw7_PowerHangs_r10_b, ↓C.catnaplaw7_PowerHangs_c38_w, ↓C.catnaplaw7_PowerHangs_r9_w, C.catnaplaw7_PowerHangs_r9_b, ↓C.catnaplaw7_PowerHangs_b39_w, ↓C.catnaplaw7_PowerHangs_c40_w, ↓C.catnaplaw7_PowerHangs_c41_w, ↓C.catnaplaw7_PowerHangs_r7_w, C.catnaplaw7_PowerHangs_r7_b, ↓C.catnaplaw7_PowerHangs_b43_w, ↓C.catnaplaw7_PowerHangs_c44_w, ↓C.catnaplaw7_PowerHangs_r6_w, C.catnaplaw7_PowerHangs_r6_b, ↓C.catnaplaw7_PowerHangs_c45_w, ↓C.catnaplaw7_PowerHangs_r5_w, C.catnaplaw7_PowerHangs_r5_b, ↓C.catnaplaw7_PowerHangs_c46_w, ↓C.catnaplaw7_PowerHangs_c47_w, ↓C.catnaplaw7_PowerHangs_r4_w, C.catnaplaw7_PowerHangs_r4_b, ↓C.catnaplaw7_PowerHangs_c48_w, ↓C.catnaplaw7_PowerHangs_r3_w, C.catnaplaw7_PowerHangs_r3_b, ↓C.catnaplaw7_PowerHangs_c49_w, ↓C.catnaplaw7_PowerHangs_r2_w, C.catnaplaw7_PowerHangs_r2_b, ↓C.catnaplaw7_PowerHangs_c50_w, ↓C.catnaplaw7_PowerHangs_r1_w, C.catnaplaw7_PowerHangs_r1_b, ↓C.catnaplaw7_PowerHangs_c51_w, ↓C.catnaplaw7_PowerHangs_r0_w, C.catnaplaw7_PowerHangs_r0_b, C.catnaplaw7_PowerHangs, T0, w1, hz1, hg, T1, hb, Soc.cells, Soc.domV, hz, hd2, Int.toNat_natCast, Nat.mul_one]
    rw [C.catnaplaw7_PowerHangs_c13_w, awp_keep]
    refine hang_links hS (ig := ig) (va := va) (i0 := i0) htg h hI hH hc (by omega) fun fr e => ?_
    show awp Try.prog C.catnaplaw7_PowerHangs_c3 _ fr s
    rw [C.catnaplaw7_PowerHangs_c3_w, awp_keep, e]
    simp only [↓Bp, Bq, Bs, ↓aop.eq_28, ↓aop.eq_30, Nat.reduceEqDiff, Nat.reduceAdd, Nat.reduceMul, Nat.reduceSub, Nat.reduceLeDiff, Nat.reduceLT, Int.reduceLT, Int.reduceLE, Int.reduceEq, Int.reduceToNat, Int.reduceAdd, Int.reduceSub, Int.reduceNeg, ↓reduceIte, reduceCtorEq, ↓C.catnaplaw7_PowerHangs_W, C.catnaplaw7_PowerHangs_B, C.catnaplaw7_PowerHangs, hw]
    exact ⟨t + 1, rfl, htl, by omega⟩
  · have T1 := eq_false h1
    simp only [↓Bp, Bq, Bs, ↓aop.eq_28, ↓aop.eq_30, Nat.reduceEqDiff, Nat.reduceAdd, Nat.reduceMul, Nat.reduceSub, Nat.reduceLeDiff, Nat.reduceLT, Int.reduceLT, Int.reduceLE, Int.reduceEq, Int.reduceToNat, Int.reduceAdd, Int.reduceSub, Int.reduceNeg, ↓reduceIte, reduceCtorEq, ↓C.catnaplaw7_PowerHangs_r31_w, C.catnaplaw7_PowerHangs_r31_b, ↓C.catnaplaw7_PowerHangs_c1_w, ↓C.catnaplaw7_PowerHangs_r8_w, C.catnaplaw7_PowerHangs_r8_b, ↓C.catnaplaw7_PowerHangs_c2_w, ↓C.catnaplaw7_PowerHangs_r21_w, C.catnaplaw7_PowerHangs_r21_b, ↓C.catnaplaw7_PowerHangs_c3_w, ↓C.catnaplaw7_PowerHangs_r25_w, C.catnaplaw7_PowerHangs_r25_b, ↓C.catnaplaw7_PowerHangs_c14_w, ↓C.catnaplaw7_PowerHangs_c15_w, ↓C.catnaplaw7_PowerHangs_r24_w, C.catnaplaw7_PowerHangs_r24_b, ↓C.catnaplaw7_PowerHangs_c16_w, ↓C.catnaplaw7_PowerHangs_r23_w, C.catnaplaw7_PowerHangs_r23_b, ↓C.catnaplaw7_PowerHangs_c17_w, ↓C.catnaplaw7_PowerHangs_r22_w, C.catnaplaw7_PowerHangs_r22_b, ↓C.catnaplaw7_PowerHangs_b18_w, ↓C.catnaplaw7_PowerHangs_c19_w, ↓C.catnaplaw7_PowerHangs_c20_w, ↓C.catnaplaw7_PowerHangs_r20_w, C.catnaplaw7_PowerHangs_r20_b, ↓C.catnaplaw7_PowerHangs_b22_w, ↓C.catnaplaw7_PowerHangs_c23_w, ↓C.catnaplaw7_PowerHangs_r19_w, C.catnaplaw7_PowerHangs_r19_b, ↓C.catnaplaw7_PowerHangs_c24_w, ↓C.catnaplaw7_PowerHangs_r14_w, C.catnaplaw7_PowerHangs_r14_b, ↓C.catnaplaw7_PowerHangs_r16_w, C.catnaplaw7_PowerHangs_r16_b, ↓C.catnaplaw7_PowerHangs_r18_w, C.catnaplaw7_PowerHangs_r18_b, ↓C.catnaplaw7_PowerHangs_r11_w, C.catnaplaw7_PowerHangs_r11_b, ↓C.catnaplaw7_PowerHangs_c25_w, ↓C.catnaplaw7_PowerHangs_c26_w, ↓C.catnaplaw7_PowerHangs_c27_w, ↓C.catnaplaw7_PowerHangs_r17_w, C.catnaplaw7_PowerHangs_r17_b, ↓C.catnaplaw7_PowerHangs_c28_w, ↓C.catnaplaw7_PowerHangs_c29_w, ↓C.catnaplaw7_PowerHangs_c30_w, ↓C.catnaplaw7_PowerHangs_r15_w, C.catnaplaw7_PowerHangs_r15_b, ↓C.catnaplaw7_PowerHangs_c31_w, ↓C.catnaplaw7_PowerHangs_c32_w, ↓C.catnaplaw7_PowerHangs_c33_w, ↓C.catnaplaw7_PowerHangs_r13_w, C.catnaplaw7_PowerHangs_r13_b, ↓C.catnaplaw7_PowerHangs_c34_w, ↓C.catnaplaw7_PowerHangs_c35_w, ↓C.catnaplaw7_PowerHangs_r12_w, C.catnaplaw7_PowerHangs_r12_b, ↓C.catnaplaw7_PowerHangs_b36_w, ↓C.catnaplaw7_PowerHangs_c37_w, ↓C.catnaplaw7_PowerHangs_r10_w, C.catnaplaw7_PowerHangs_r10_b, ↓C.catnaplaw7_PowerHangs_c38_w, ↓C.catnaplaw7_PowerHangs_r9_w, C.catnaplaw7_PowerHangs_r9_b, ↓C.catnaplaw7_PowerHangs_b39_w, ↓C.catnaplaw7_PowerHangs_c40_w, ↓C.catnaplaw7_PowerHangs_c41_w, ↓C.catnaplaw7_PowerHangs_r7_w, C.catnaplaw7_PowerHangs_r7_b, ↓C.catnaplaw7_PowerHangs_b43_w, ↓C.catnaplaw7_PowerHangs_c44_w, ↓C.catnaplaw7_PowerHangs_r6_w, C.catnaplaw7_PowerHangs_r6_b, ↓C.catnaplaw7_PowerHangs_c45_w, ↓C.catnaplaw7_PowerHangs_r5_w, C.catnaplaw7_PowerHangs_r5_b, ↓C.catnaplaw7_PowerHangs_c46_w, ↓C.catnaplaw7_PowerHangs_c47_w, ↓C.catnaplaw7_PowerHangs_r4_w, C.catnaplaw7_PowerHangs_r4_b, ↓C.catnaplaw7_PowerHangs_c48_w, ↓C.catnaplaw7_PowerHangs_r3_w, C.catnaplaw7_PowerHangs_r3_b, ↓C.catnaplaw7_PowerHangs_c49_w, ↓C.catnaplaw7_PowerHangs_r2_w, C.catnaplaw7_PowerHangs_r2_b, ↓C.catnaplaw7_PowerHangs_c50_w, ↓C.catnaplaw7_PowerHangs_r1_w, C.catnaplaw7_PowerHangs_r1_b, ↓C.catnaplaw7_PowerHangs_c51_w, ↓C.catnaplaw7_PowerHangs_r0_w, C.catnaplaw7_PowerHangs_r0_b, C.catnaplaw7_PowerHangs, T0, w1, hz1, hg, T1, hb, Soc.cells, Soc.domV, hz, hd.2.2, Int.toNat_natCast, Nat.mul_one]
    rw [C.catnaplaw7_PowerHangs_c13_w, awp_keep]
    refine hang_links hS (ig := ig) (va := va) (i0 := i0) htg h hI hH hc (by omega) fun fr e => ?_
    show awp Try.prog C.catnaplaw7_PowerHangs_c3 _ fr s
    rw [C.catnaplaw7_PowerHangs_c3_w, awp_keep, e]
    simp only [↓Bp, Bq, Bs, ↓aop.eq_28, ↓aop.eq_30, Nat.reduceEqDiff, Nat.reduceAdd, Nat.reduceMul, Nat.reduceSub, Nat.reduceLeDiff, Nat.reduceLT, Int.reduceLT, Int.reduceLE, Int.reduceEq, Int.reduceToNat, Int.reduceAdd, Int.reduceSub, Int.reduceNeg, ↓reduceIte, reduceCtorEq, ↓C.catnaplaw7_PowerHangs_W, C.catnaplaw7_PowerHangs_B, C.catnaplaw7_PowerHangs, hw]
    exact ⟨t + 1, rfl, htl, by omega⟩
/-- One act. -/
theorem hang_act {s : ASt} {gs : List Gd} {k o : Nat} {va : AV} {i0 : Nat} (hk : k < gs.length) (h : WSt st s ib p ig S gs) (hI : GInv S.doms gs) (hH : HInv gs) {Q : IExit → AFr → ASt → Prop}
    (hQ : ∀ fr s' gs', WSt st s' ib p ig S gs' → GInv S.doms gs' → HInv gs' → fr.keep [1, 6, 7, 9] = [(1, va), (6, .ptr ib 0), (7, .ptr p 0), (9, .int .i64 i0)] → Q .normal fr s') :
    awp Try.prog C.catnaplaw7_PowerHangs_c37 Q [(1, va), (6, .ptr ib 0), (7, .ptr p 0), (9, .int .i64 i0), (10, .int .i64 k), (67, .int .i64 o)] s := by
  by_cases o0 : o < 2
  · have c01 : o = 0 ∨ o = 1 := by omega
    rcases c01 with rfl | rfl
    · simp only [↓Bp, Bq, Bs, ↓aop.eq_28, ↓aop.eq_30, Nat.reduceEqDiff, Nat.reduceAdd, Nat.reduceMul, Nat.reduceSub, Nat.reduceLeDiff, Nat.reduceLT, Int.reduceLT, Int.reduceLE, Int.reduceEq, Int.reduceToNat, Int.reduceAdd, Int.reduceSub, Int.reduceNeg, ↓reduceIte, reduceCtorEq, ↓C.catnaplaw7_PowerHangs_W, C.catnaplaw7_PowerHangs_B, C.catnaplaw7_PowerHangs]
      refine (up_spec h.g hI.above hk).mono ?_
      rintro r s' ⟨rfl, rfl⟩
      simp only [↓Bp, Bq, Bs, ↓aop.eq_28, ↓aop.eq_30, Nat.reduceEqDiff, Nat.reduceAdd, Nat.reduceMul, Nat.reduceSub, Nat.reduceLeDiff, Nat.reduceLT, Int.reduceLT, Int.reduceLE, Int.reduceEq, Int.reduceToNat, Int.reduceAdd, Int.reduceSub, Int.reduceNeg, ↓reduceIte, reduceCtorEq, ↓C.catnaplaw7_PowerHangs_W, C.catnaplaw7_PowerHangs_B, C.catnaplaw7_PowerHangs]
      exact hQ _ _ _ (h.set (upG_len hk)) (hI.up hk) (hH.up hI.lesser hk) rfl
    · have T1 : ((1 : Nat) : Int) = 1 := rfl
      simp only [↓Bp, Bq, Bs, ↓aop.eq_28, ↓aop.eq_30, Nat.reduceEqDiff, Nat.reduceAdd, Nat.reduceMul, Nat.reduceSub, Nat.reduceLeDiff, Nat.reduceLT, Int.reduceLT, Int.reduceLE, Int.reduceEq, Int.reduceToNat, Int.reduceAdd, Int.reduceSub, Int.reduceNeg, ↓reduceIte, reduceCtorEq, ↓C.catnaplaw7_PowerHangs_W, C.catnaplaw7_PowerHangs_B, C.catnaplaw7_PowerHangs, T1]
      refine (up_spec h.g hI.above hk).mono ?_
      rintro r s' ⟨rfl, rfl⟩
      simp only [↓Bp, Bq, Bs, ↓aop.eq_28, ↓aop.eq_30, Nat.reduceEqDiff, Nat.reduceAdd, Nat.reduceMul, Nat.reduceSub, Nat.reduceLeDiff, Nat.reduceLT, Int.reduceLT, Int.reduceLE, Int.reduceEq, Int.reduceToNat, Int.reduceAdd, Int.reduceSub, Int.reduceNeg, ↓reduceIte, reduceCtorEq, ↓C.catnaplaw7_PowerHangs_W, C.catnaplaw7_PowerHangs_B, C.catnaplaw7_PowerHangs]
      exact hQ _ _ _ (h.set (upG_len hk)) (hI.up hk) (hH.up hI.lesser hk) rfl
  have T0 := eq_false (show ¬ (o : Int) = 0 by omega)
  have T1 := eq_false (show ¬ (o : Int) = 1 by omega)
  by_cases o2 : o = 2
  · have T2 := eq_true (show (o : Int) = 2 by omega)
    simp only [↓Bp, Bq, Bs, ↓aop.eq_28, ↓aop.eq_30, Nat.reduceEqDiff, Nat.reduceAdd, Nat.reduceMul, Nat.reduceSub, Nat.reduceLeDiff, Nat.reduceLT, Int.reduceLT, Int.reduceLE, Int.reduceEq, Int.reduceToNat, Int.reduceAdd, Int.reduceSub, Int.reduceNeg, ↓reduceIte, reduceCtorEq, ↓C.catnaplaw7_PowerHangs_W, C.catnaplaw7_PowerHangs_B, C.catnaplaw7_PowerHangs, T0, T1, T2]
    refine (down_spec h.g hk false).mono ?_
    rintro r s' ⟨rfl, rfl⟩
    simp only [↓Bp, Bq, Bs, ↓aop.eq_28, ↓aop.eq_30, Nat.reduceEqDiff, Nat.reduceAdd, Nat.reduceMul, Nat.reduceSub, Nat.reduceLeDiff, Nat.reduceLT, Int.reduceLT, Int.reduceLE, Int.reduceEq, Int.reduceToNat, Int.reduceAdd, Int.reduceSub, Int.reduceNeg, ↓reduceIte, reduceCtorEq, ↓C.catnaplaw7_PowerHangs_W, C.catnaplaw7_PowerHangs_B, C.catnaplaw7_PowerHangs]
    exact hQ _ _ _ (h.set (downG_len hk false)) (hI.down hk false) (hH.down hk false hI.lesser) rfl
  have T2 := eq_false (show ¬ (o : Int) = 2 by omega)
  by_cases o3 : o = 3
  · have T3 := eq_true (show (o : Int) = 3 by omega)
    simp only [↓Bp, Bq, Bs, ↓aop.eq_28, ↓aop.eq_30, Nat.reduceEqDiff, Nat.reduceAdd, Nat.reduceMul, Nat.reduceSub, Nat.reduceLeDiff, Nat.reduceLT, Int.reduceLT, Int.reduceLE, Int.reduceEq, Int.reduceToNat, Int.reduceAdd, Int.reduceSub, Int.reduceNeg, ↓reduceIte, reduceCtorEq, ↓C.catnaplaw7_PowerHangs_W, C.catnaplaw7_PowerHangs_B, C.catnaplaw7_PowerHangs, T0, T1, T2, T3]
    refine (down_spec h.g hk true).mono ?_
    rintro r s' ⟨rfl, rfl⟩
    simp only [↓Bp, Bq, Bs, ↓aop.eq_28, ↓aop.eq_30, Nat.reduceEqDiff, Nat.reduceAdd, Nat.reduceMul, Nat.reduceSub, Nat.reduceLeDiff, Nat.reduceLT, Int.reduceLT, Int.reduceLE, Int.reduceEq, Int.reduceToNat, Int.reduceAdd, Int.reduceSub, Int.reduceNeg, ↓reduceIte, reduceCtorEq, ↓C.catnaplaw7_PowerHangs_W, C.catnaplaw7_PowerHangs_B, C.catnaplaw7_PowerHangs]
    exact hQ _ _ _ (h.set (downG_len hk true)) (hI.down hk true) (hH.down hk true hI.lesser) rfl
  have T3 := eq_false (show ¬ (o : Int) = 3 by omega)
  simp only [↓Bp, Bq, Bs, ↓aop.eq_28, ↓aop.eq_30, Nat.reduceEqDiff, Nat.reduceAdd, Nat.reduceMul, Nat.reduceSub, Nat.reduceLeDiff, Nat.reduceLT, Int.reduceLT, Int.reduceLE, Int.reduceEq, Int.reduceToNat, Int.reduceAdd, Int.reduceSub, Int.reduceNeg, ↓reduceIte, reduceCtorEq, ↓C.catnaplaw7_PowerHangs_W, C.catnaplaw7_PowerHangs_B, C.catnaplaw7_PowerHangs, T0, T1, T2, T3]
  refine (gtick_spec h.g hI.low).mono ?_
  rintro r s' ⟨rfl, rfl⟩
  simp only [↓Bp, Bq, Bs, ↓aop.eq_28, ↓aop.eq_30, Nat.reduceEqDiff, Nat.reduceAdd, Nat.reduceMul, Nat.reduceSub, Nat.reduceLeDiff, Nat.reduceLT, Int.reduceLT, Int.reduceLE, Int.reduceEq, Int.reduceToNat, Int.reduceAdd, Int.reduceSub, Int.reduceNeg, ↓reduceIte, reduceCtorEq, ↓C.catnaplaw7_PowerHangs_W, C.catnaplaw7_PowerHangs_B, C.catnaplaw7_PowerHangs]
  exact hQ _ _ _ (h.set (gtickL_len gs)) hI.tick hH.tick rfl
theorem hang_loop {s : ASt} {acts : List Pair} (hac : ∀ x ∈ acts, I64 x.a ∧ I64 x.b) (hal : acts.length ≤ 120) {gs : List Gd} (h : WSt st s ib p ig S gs) (hI : GInv S.doms gs) (hH : HInv gs) :
    awp Try.prog C.catnaplaw7_PowerHangs_c45 (Post [.slot 4] fun r s => r = .bool true ∧ st.le s)
      [(1, .isl 2 (acts.flatMap encPair) acts.length), (6, .ptr ib 0), (7, .ptr p 0)] s := by
  have hnd := hS.nd
  simp only [↓Bp, Bq, Bs, ↓aop.eq_28, ↓aop.eq_30, Nat.reduceEqDiff, Nat.reduceAdd, Nat.reduceMul, Nat.reduceSub, Nat.reduceLeDiff, Nat.reduceLT, Int.reduceLT, Int.reduceLE, Int.reduceEq, Int.reduceToNat, Int.reduceAdd, Int.reduceSub, Int.reduceNeg, ↓reduceIte, reduceCtorEq, ↓C.catnaplaw7_PowerHangs_W, C.catnaplaw7_PowerHangs_B, C.catnaplaw7_PowerHangs]
  refine awp_midB (fun _ : Unit => ([] : AFr)) (fun _ s => st.le s) ?_ ?_
  · refine awp_loopK (fun t : Nat => [(1, .isl 2 (acts.flatMap encPair) acts.length), (6, .ptr ib 0), (7, .ptr p 0), (9, .int .i64 t)])
      (fun t s => t ≤ acts.length ∧ ∃ gs, WSt st s ib p ig S gs ∧ GInv S.doms gs ∧ HInv gs) (fun t => acts.length - t) 0 rfl ⟨Nat.zero_le _, gs, h, hI, hH⟩ ?_
    clear h hI hH gs s
    rintro t s ⟨ht, gs, h, hI, hH⟩
    have hb := h.hb
    by_cases htl : t < acts.length
    rotate_left
    · have htl' : ¬ (t : Int) < (acts.length : Nat) := by omega
      simp only [↓Bp, Bq, Bs, ↓aop.eq_28, ↓aop.eq_30, Nat.reduceEqDiff, Nat.reduceAdd, Nat.reduceMul, Nat.reduceSub, Nat.reduceLeDiff, Nat.reduceLT, Int.reduceLT, Int.reduceLE, Int.reduceEq, Int.reduceToNat, Int.reduceAdd, Int.reduceSub, Int.reduceNeg, ↓reduceIte, reduceCtorEq, ↓C.catnaplaw7_PowerHangs_W, C.catnaplaw7_PowerHangs_B, C.catnaplaw7_PowerHangs, htl']
      exact ⟨(), h.le⟩
    have htl' : (t : Int) < (acts.length : Nat) := by omega
    have hw := wsucc htl (by omega)
    have hz2 : (0:Int) ≤ (t : Int) ∧ (t : Int) < (acts.length : Nat) := by omega
    have hg := gpairs_get acts htl
    have hIa := hac _ (List.getElem_mem htl)
    simp only [↓Bp, Bq, Bs, ↓aop.eq_28, ↓aop.eq_30, Nat.reduceEqDiff, Nat.reduceAdd, Nat.reduceMul, Nat.reduceSub, Nat.reduceLeDiff, Nat.reduceLT, Int.reduceLT, Int.reduceLE, Int.reduceEq, Int.reduceToNat, Int.reduceAdd, Int.reduceSub, Int.reduceNeg, ↓reduceIte, reduceCtorEq, ↓C.catnaplaw7_PowerHangs_W, C.catnaplaw7_PowerHangs_B, C.catnaplaw7_PowerHangs, htl', hb, Soc.cells, Soc.domV, hz2, Int.toNat_natCast, hg.1, hg.2]
    refine (pick_spec hIa.2 (n := S.doms.length) (by omega)).mono ?_
    rintro r s ⟨rfl, rfl⟩
    have hkl := pickI_lt acts[t].b (n := S.doms.length) (by omega)
    generalize pickI acts[t].b S.doms.length = k at hkl
    have hlen := hI.len
    have hk : k < gs.length := by omega
    simp only [↓Bp, Bq, Bs, ↓aop.eq_28, ↓aop.eq_30, Nat.reduceEqDiff, Nat.reduceAdd, Nat.reduceMul, Nat.reduceSub, Nat.reduceLeDiff, Nat.reduceLT, Int.reduceLT, Int.reduceLE, Int.reduceEq, Int.reduceToNat, Int.reduceAdd, Int.reduceSub, Int.reduceNeg, ↓reduceIte, reduceCtorEq, ↓C.catnaplaw7_PowerHangs_W, C.catnaplaw7_PowerHangs_B, C.catnaplaw7_PowerHangs, hz2, Int.toNat_natCast, hg.1, hg.2]
    refine (pick_spec hIa.1 (n := 7) (by omega)).mono ?_
    rintro r s ⟨rfl, rfl⟩
    generalize pickI acts[t].a 7 = o
    simp only [↓Bp, Bq, Bs, ↓aop.eq_28, ↓aop.eq_30, Nat.reduceEqDiff, Nat.reduceAdd, Nat.reduceMul, Nat.reduceSub, Nat.reduceLeDiff, Nat.reduceLT, Int.reduceLT, Int.reduceLE, Int.reduceEq, Int.reduceToNat, Int.reduceAdd, Int.reduceSub, Int.reduceNeg, ↓reduceIte, reduceCtorEq, ↓C.catnaplaw7_PowerHangs_r31_w, C.catnaplaw7_PowerHangs_r31_b, ↓C.catnaplaw7_PowerHangs_c1_w, ↓C.catnaplaw7_PowerHangs_r8_w, C.catnaplaw7_PowerHangs_r8_b, ↓C.catnaplaw7_PowerHangs_c2_w, ↓C.catnaplaw7_PowerHangs_r21_w, C.catnaplaw7_PowerHangs_r21_b, ↓C.catnaplaw7_PowerHangs_c3_w, ↓C.catnaplaw7_PowerHangs_r28_w, C.catnaplaw7_PowerHangs_r28_b, ↓C.catnaplaw7_PowerHangs_c4_w, ↓C.catnaplaw7_PowerHangs_r30_w, C.catnaplaw7_PowerHangs_r30_b, ↓C.catnaplaw7_PowerHangs_c5_w, ↓C.catnaplaw7_PowerHangs_c6_w, ↓C.catnaplaw7_PowerHangs_r29_w, C.catnaplaw7_PowerHangs_r29_b, ↓C.catnaplaw7_PowerHangs_b7_w, ↓C.catnaplaw7_PowerHangs_c8_w, ↓C.catnaplaw7_PowerHangs_c9_w, ↓C.catnaplaw7_PowerHangs_r27_w, C.catnaplaw7_PowerHangs_r27_b, ↓C.catnaplaw7_PowerHangs_b11_w, ↓C.catnaplaw7_PowerHangs_c12_w, ↓C.catnaplaw7_PowerHangs_r26_w, C.catnaplaw7_PowerHangs_r26_b, ↓C.catnaplaw7_PowerHangs_c13_w, ↓C.catnaplaw7_PowerHangs_r25_w, C.catnaplaw7_PowerHangs_r25_b, ↓C.catnaplaw7_PowerHangs_c14_w, ↓C.catnaplaw7_PowerHangs_c15_w, ↓C.catnaplaw7_PowerHangs_r24_w, C.catnaplaw7_PowerHangs_r24_b, ↓C.catnaplaw7_PowerHangs_c16_w, ↓C.catnaplaw7_PowerHangs_r23_w, C.catnaplaw7_PowerHangs_r23_b, ↓C.catnaplaw7_PowerHangs_c17_w, ↓C.catnaplaw7_PowerHangs_r22_w, C.catnaplaw7_PowerHangs_r22_b, ↓C.catnaplaw7_PowerHangs_b18_w, ↓C.catnaplaw7_PowerHangs_c19_w, ↓C.catnaplaw7_PowerHangs_c20_w, ↓C.catnaplaw7_PowerHangs_r20_w, C.catnaplaw7_PowerHangs_r20_b, ↓C.catnaplaw7_PowerHangs_b22_w, ↓C.catnaplaw7_PowerHangs_c23_w, ↓C.catnaplaw7_PowerHangs_r19_w, C.catnaplaw7_PowerHangs_r19_b, ↓C.catnaplaw7_PowerHangs_c24_w, ↓C.catnaplaw7_PowerHangs_r10_w, C.catnaplaw7_PowerHangs_r10_b, ↓C.catnaplaw7_PowerHangs_c38_w, ↓C.catnaplaw7_PowerHangs_r9_w, C.catnaplaw7_PowerHangs_r9_b, ↓C.catnaplaw7_PowerHangs_b39_w, ↓C.catnaplaw7_PowerHangs_c40_w, ↓C.catnaplaw7_PowerHangs_c41_w, ↓C.catnaplaw7_PowerHangs_r7_w, C.catnaplaw7_PowerHangs_r7_b, ↓C.catnaplaw7_PowerHangs_b43_w, ↓C.catnaplaw7_PowerHangs_c44_w, ↓C.catnaplaw7_PowerHangs_r6_w, C.catnaplaw7_PowerHangs_r6_b, ↓C.catnaplaw7_PowerHangs_c45_w, ↓C.catnaplaw7_PowerHangs_r5_w, C.catnaplaw7_PowerHangs_r5_b, ↓C.catnaplaw7_PowerHangs_c46_w, ↓C.catnaplaw7_PowerHangs_c47_w, ↓C.catnaplaw7_PowerHangs_r4_w, C.catnaplaw7_PowerHangs_r4_b, ↓C.catnaplaw7_PowerHangs_c48_w, ↓C.catnaplaw7_PowerHangs_r3_w, C.catnaplaw7_PowerHangs_r3_b, ↓C.catnaplaw7_PowerHangs_c49_w, ↓C.catnaplaw7_PowerHangs_r2_w, C.catnaplaw7_PowerHangs_r2_b, ↓C.catnaplaw7_PowerHangs_c50_w, ↓C.catnaplaw7_PowerHangs_r1_w, C.catnaplaw7_PowerHangs_r1_b, ↓C.catnaplaw7_PowerHangs_c51_w, ↓C.catnaplaw7_PowerHangs_r0_w, C.catnaplaw7_PowerHangs_r0_b, C.catnaplaw7_PowerHangs]
    rw [C.catnaplaw7_PowerHangs_c37_w, awp_keep]
    refine hang_act hS (ig := ig) (va := .isl 2 (acts.flatMap encPair) acts.length) hk h hI hH fun fr s' gs' h' hI' hH' e => ?_
    show awp Try.prog C.catnaplaw7_PowerHangs_c24 _ fr s'
    rw [C.catnaplaw7_PowerHangs_c24_w, awp_keep, e]
    refine hang_look hS (ig := ig) (va := .isl 2 (acts.flatMap encPair) acts.length) h' hI' hH' fun fr e => ?_
    show awp Try.prog C.catnaplaw7_PowerHangs_c2 _ fr s'
    rw [C.catnaplaw7_PowerHangs_c2_w, awp_keep, e]
    simp only [↓Bp, Bq, Bs, ↓aop.eq_28, ↓aop.eq_30, Nat.reduceEqDiff, Nat.reduceAdd, Nat.reduceMul, Nat.reduceSub, Nat.reduceLeDiff, Nat.reduceLT, Int.reduceLT, Int.reduceLE, Int.reduceEq, Int.reduceToNat, Int.reduceAdd, Int.reduceSub, Int.reduceNeg, ↓reduceIte, reduceCtorEq, ↓C.catnaplaw7_PowerHangs_W, C.catnaplaw7_PowerHangs_B, C.catnaplaw7_PowerHangs, hw]
    exact ⟨t + 1, rfl, ⟨htl, _, h', hI', hH'⟩, by omega⟩
  · clear h hI hH gs s
    rintro - s h
    simp only [↓Bp, Bq, Bs, ↓aop.eq_28, ↓aop.eq_30, Nat.reduceEqDiff, Nat.reduceAdd, Nat.reduceMul, Nat.reduceSub, Nat.reduceLeDiff, Nat.reduceLT, Int.reduceLT, Int.reduceLE, Int.reduceEq, Int.reduceToNat, Int.reduceAdd, Int.reduceSub, Int.reduceNeg, ↓reduceIte, reduceCtorEq, ↓C.catnaplaw7_PowerHangs_W, C.catnaplaw7_PowerHangs_B, C.catnaplaw7_PowerHangs]
    exact h
end
theorem powerhangs_spec {st : ASt} {l : List Int} {acts : List Pair} (hl : ∀ x ∈ l, -9223372036854775808 ≤ x ∧ x ≤ 9223372036854775807) (hll : l.length ≤ 9223372036854775807)
    (hac : ∀ x ∈ acts, I64 x.a ∧ I64 x.b) (hal : acts.length ≤ 9223372036854775807) :
    ACalls Try.prog F.catnaplaw7_PowerHangs [row l, .isl 2 (acts.flatMap encPair) acts.length] st fun r s => r = .bool true ∧ s = st := by
  refine ACalls.gc (Q' := fun r s => r = .bool true ∧ st.le s) (calls_of_awp L.catnaplaw7_PowerHangs rfl ?_) (fun v s ⟨h, hl⟩ => ⟨st, hl, h, rfl⟩)
  simp only [↓Bp, Bq, Bs, ↓aop.eq_28, ↓aop.eq_30, Nat.reduceEqDiff, Nat.reduceAdd, Nat.reduceMul, Nat.reduceSub, Nat.reduceLeDiff, Nat.reduceLT, Int.reduceLT, Int.reduceLE, Int.reduceEq, Int.reduceToNat, Int.reduceAdd, Int.reduceSub, Int.reduceNeg, ↓reduceIte, reduceCtorEq, ↓C.catnaplaw7_PowerHangs_W, C.catnaplaw7_PowerHangs_B, C.catnaplaw7_PowerHangs]
  refine (gshown_spec st).mono ?_
  rintro r s ⟨rfl, rfl⟩
  simp only [↓Bp, Bq, Bs, ↓aop.eq_28, ↓aop.eq_30, Nat.reduceEqDiff, Nat.reduceAdd, Nat.reduceMul, Nat.reduceSub, Nat.reduceLeDiff, Nat.reduceLT, Int.reduceLT, Int.reduceLE, Int.reduceEq, Int.reduceToNat, Int.reduceAdd, Int.reduceSub, Int.reduceNeg, ↓reduceIte, reduceCtorEq, ↓C.catnaplaw7_PowerHangs_W, C.catnaplaw7_PowerHangs_B, C.catnaplaw7_PowerHangs]
  refine (chip_frz hl hll).mono ?_
  rintro r s ⟨rfl, rfl⟩
  have hS := chipS_like l
  generalize chipS l = S at hS
  have l4 : S.cells.length = 4 := rfl
  have e4 : AV.agg (List.take 4 S.cells) = .agg S.cells := rfl
  have f4 : allLeaf S.cells = true := rfl
  simp only [↓Bp, Bq, Bs, ↓aop.eq_28, ↓aop.eq_30, Nat.reduceEqDiff, Nat.reduceAdd, Nat.reduceMul, Nat.reduceSub, Nat.reduceLeDiff, Nat.reduceLT, Int.reduceLT, Int.reduceLE, Int.reduceEq, Int.reduceToNat, Int.reduceAdd, Int.reduceSub, Int.reduceNeg, ↓reduceIte, reduceCtorEq, ↓C.catnaplaw7_PowerHangs_r2_w, C.catnaplaw7_PowerHangs_r2_b, ↓C.catnaplaw7_PowerHangs_c50_w, ↓C.catnaplaw7_PowerHangs_r1_w, C.catnaplaw7_PowerHangs_r1_b, ↓C.catnaplaw7_PowerHangs_c51_w, ↓C.catnaplaw7_PowerHangs_r0_w, C.catnaplaw7_PowerHangs_r0_b, C.catnaplaw7_PowerHangs, l4, f4]
  rintro ib hib
  simp only [↓Bp, Bq, Bs, ↓aop.eq_28, ↓aop.eq_30, Nat.reduceEqDiff, Nat.reduceAdd, Nat.reduceMul, Nat.reduceSub, Nat.reduceLeDiff, Nat.reduceLT, Int.reduceLT, Int.reduceLE, Int.reduceEq, Int.reduceToNat, Int.reduceAdd, Int.reduceSub, Int.reduceNeg, ↓reduceIte, reduceCtorEq, ↓C.catnaplaw7_PowerHangs_r2_w, C.catnaplaw7_PowerHangs_r2_b, ↓C.catnaplaw7_PowerHangs_c50_w, ↓C.catnaplaw7_PowerHangs_r1_w, C.catnaplaw7_PowerHangs_r1_b, ↓C.catnaplaw7_PowerHangs_c51_w, ↓C.catnaplaw7_PowerHangs_r0_w, C.catnaplaw7_PowerHangs_r0_b, C.catnaplaw7_PowerHangs, hib, l4, f4]
  rw [ASt.new_set hib, show putN [AV.nils, AV.nils, AV.nils, AV.nils] 0 S.cells = S.cells from putN_all rfl]
  simp only [↓Bp, Bq, Bs, ↓aop.eq_28, ↓aop.eq_30, Nat.reduceEqDiff, Nat.reduceAdd, Nat.reduceMul, Nat.reduceSub, Nat.reduceLeDiff, Nat.reduceLT, Int.reduceLT, Int.reduceLE, Int.reduceEq, Int.reduceToNat, Int.reduceAdd, Int.reduceSub, Int.reduceNeg, ↓reduceIte, reduceCtorEq, ↓C.catnaplaw7_PowerHangs_W, C.catnaplaw7_PowerHangs_B, C.catnaplaw7_PowerHangs, hib, l4, e4]
  refine (gstart_spec hib hS).mono ?_
  rintro r s1 ⟨p, ig, rfl, h⟩
  by_cases hac0 : acts.length ≤ 120
  rotate_left
  · have hz0 : (120 : Int) < (acts.length : Nat) := by omega
    simp only [↓Bp, Bq, Bs, ↓aop.eq_28, ↓aop.eq_30, Nat.reduceEqDiff, Nat.reduceAdd, Nat.reduceMul, Nat.reduceSub, Nat.reduceLeDiff, Nat.reduceLT, Int.reduceLT, Int.reduceLE, Int.reduceEq, Int.reduceToNat, Int.reduceAdd, Int.reduceSub, Int.reduceNeg, ↓reduceIte, reduceCtorEq, ↓C.catnaplaw7_PowerHangs_W, C.catnaplaw7_PowerHangs_B, C.catnaplaw7_PowerHangs, hz0]
    exact h.le
  have hz0 : ¬ (120 : Int) < (acts.length : Nat) := by omega
  simp only [↓Bp, Bq, Bs, ↓aop.eq_28, ↓aop.eq_30, Nat.reduceEqDiff, Nat.reduceAdd, Nat.reduceMul, Nat.reduceSub, Nat.reduceLeDiff, Nat.reduceLT, Int.reduceLT, Int.reduceLE, Int.reduceEq, Int.reduceToNat, Int.reduceAdd, Int.reduceSub, Int.reduceNeg, ↓reduceIte, reduceCtorEq, ↓C.catnaplaw7_PowerHangs_r5_w, C.catnaplaw7_PowerHangs_r5_b, ↓C.catnaplaw7_PowerHangs_c46_w, ↓C.catnaplaw7_PowerHangs_c47_w, ↓C.catnaplaw7_PowerHangs_r4_w, C.catnaplaw7_PowerHangs_r4_b, ↓C.catnaplaw7_PowerHangs_c48_w, ↓C.catnaplaw7_PowerHangs_r3_w, C.catnaplaw7_PowerHangs_r3_b, ↓C.catnaplaw7_PowerHangs_c49_w, ↓C.catnaplaw7_PowerHangs_r2_w, C.catnaplaw7_PowerHangs_r2_b, ↓C.catnaplaw7_PowerHangs_c50_w, ↓C.catnaplaw7_PowerHangs_r1_w, C.catnaplaw7_PowerHangs_r1_b, ↓C.catnaplaw7_PowerHangs_c51_w, ↓C.catnaplaw7_PowerHangs_r0_w, C.catnaplaw7_PowerHangs_r0_b, C.catnaplaw7_PowerHangs, hz0]
  rw [C.catnaplaw7_PowerHangs_c45_w, awp_keep]
  exact hang_loop hS hac hac0 h (GInv.fresh hS.dom) (HInv.fresh S.doms)
end Go.Proofs.Ytgfpnfnjnakoaaa.Cn
