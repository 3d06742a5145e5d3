/- Descriptions: ConfFirst, the walk. -/
import Derived.Test.YtjamidgdhmjhaaaCnCFirst
set_option linter.unusedSimpArgs false
set_option linter.unusedVariables false
namespace Go.Proofs.Ytjamidgdhmjhaaa.Cn
open Go Go.Proofs

theorem fst_step {s0 t : ASt} {ib : Nat} {S T : Soc} {x y k i : Nat} (h : S.like) (hm : S.asMany T) (hB : ChipBox s0 t ib T) (hi : i ≤ 5) {Q : IExit → AFr → ASt → Prop}
    (hQ : ∀ t2, ChipBox s0 t2 ib (fl x i T) → ∀ fr, fr.keep [8, 9, 10, 11, 12] = [(8, .ptr ib 0), (9, .int .i64 x), (10, .int .i64 y), (11, .int .i64 (wantE i)), (12, .int .i64 k)] → Q .normal fr t2) :
    awp Try.prog C.catnaplaw4_ConfFirst_c28 Q [(8, .ptr ib 0), (9, .int .i64 x), (10, .int .i64 y), (12, .int .i64 k), (37, .int .i64 i)] t := by
  have n1 := h.nc; have n2 := h.nd; have n3 := h.nr; have n4 := h.nv
  obtain ⟨m1, m2, m3, m4⟩ := hm
  have l1 : 0 < T.clocks.length := by omega
  have l2 : 0 < T.doms.length := by omega
  have l3 : 0 < T.rsts.length := by omega
  have l4 : 0 < T.devs.length := by omega
  have hz1 : (0:Int) ≤ 0 ∧ (0 : Int) < (T.clocks.length : Nat) := by omega
  have hz2 : (0:Int) ≤ 0 ∧ (0 : Int) < (T.doms.length : Nat) := by omega
  have hz3 : (0:Int) ≤ 0 ∧ (0 : Int) < (T.rsts.length : Nat) := by omega
  have hz4 : (0:Int) ≤ 0 ∧ (0 : Int) < (T.devs.length : Nat) := by omega
  have c1 : ((1 : Nat) : Int) = 1 := rfl
  obtain ⟨a0, a1, a2, a3, L2, hBL, hb, z0, z1, z2, z3⟩ := hB.four
  rcases (show i = 0 ∨ i = 1 ∨ i = 2 ∨ i = 3 ∨ i = 4 ∨ i = 5 by omega) with e | e | e | e | e | e <;> subst e
  · simp only [↓Bp, Bq, Bs, ↓aop.eq_28, ↓aop.eq_30, Nat.reduceEqDiff, Nat.reduceAdd, Nat.reduceMul, Nat.reduceSub, Nat.reduceLeDiff, Nat.reduceLT, Int.reduceLT, Int.reduceLE, Int.reduceEq, Int.reduceToNat, Int.reduceAdd, Int.reduceSub, Int.reduceNeg, ↓reduceIte, reduceCtorEq, ↓C.catnaplaw4_ConfFirst_r18_w, C.catnaplaw4_ConfFirst_r18_b, ↓C.catnaplaw4_ConfFirst_r22_w, C.catnaplaw4_ConfFirst_r22_b, ↓C.catnaplaw4_ConfFirst_c4_w, ↓C.catnaplaw4_ConfFirst_r21_w, C.catnaplaw4_ConfFirst_r21_b, ↓C.catnaplaw4_ConfFirst_r25_w, C.catnaplaw4_ConfFirst_r25_b, ↓C.catnaplaw4_ConfFirst_c5_w, ↓C.catnaplaw4_ConfFirst_r24_w, C.catnaplaw4_ConfFirst_r24_b, ↓C.catnaplaw4_ConfFirst_r30_w, C.catnaplaw4_ConfFirst_r30_b, ↓C.catnaplaw4_ConfFirst_c6_w, ↓C.catnaplaw4_ConfFirst_c7_w, ↓C.catnaplaw4_ConfFirst_r29_w, C.catnaplaw4_ConfFirst_r29_b, ↓C.catnaplaw4_ConfFirst_c8_w, ↓C.catnaplaw4_ConfFirst_r28_w, C.catnaplaw4_ConfFirst_r28_b, ↓C.catnaplaw4_ConfFirst_c9_w, ↓C.catnaplaw4_ConfFirst_r27_w, C.catnaplaw4_ConfFirst_r27_b, ↓C.catnaplaw4_ConfFirst_r33_w, C.catnaplaw4_ConfFirst_r33_b, ↓C.catnaplaw4_ConfFirst_c10_w, ↓C.catnaplaw4_ConfFirst_r32_w, C.catnaplaw4_ConfFirst_r32_b, ↓C.catnaplaw4_ConfFirst_r16_w, C.catnaplaw4_ConfFirst_r16_b, ↓C.catnaplaw4_ConfFirst_c11_w, ↓C.catnaplaw4_ConfFirst_r15_w, C.catnaplaw4_ConfFirst_r15_b, ↓C.catnaplaw4_ConfFirst_c12_w, ↓C.catnaplaw4_ConfFirst_c13_w, ↓C.catnaplaw4_ConfFirst_c14_w, ↓C.catnaplaw4_ConfFirst_r31_w, C.catnaplaw4_ConfFirst_r31_b, ↓C.catnaplaw4_ConfFirst_c15_w, ↓C.catnaplaw4_ConfFirst_c16_w, ↓C.catnaplaw4_ConfFirst_c17_w, ↓C.catnaplaw4_ConfFirst_r26_w, C.catnaplaw4_ConfFirst_r26_b, ↓C.catnaplaw4_ConfFirst_c18_w, ↓C.catnaplaw4_ConfFirst_c19_w, ↓C.catnaplaw4_ConfFirst_c20_w, ↓C.catnaplaw4_ConfFirst_r23_w, C.catnaplaw4_ConfFirst_r23_b, ↓C.catnaplaw4_ConfFirst_c21_w, ↓C.catnaplaw4_ConfFirst_c22_w, ↓C.catnaplaw4_ConfFirst_c23_w, ↓C.catnaplaw4_ConfFirst_r20_w, C.catnaplaw4_ConfFirst_r20_b, ↓C.catnaplaw4_ConfFirst_c24_w, ↓C.catnaplaw4_ConfFirst_c25_w, ↓C.catnaplaw4_ConfFirst_c26_w, ↓C.catnaplaw4_ConfFirst_r17_w, C.catnaplaw4_ConfFirst_r17_b, ↓C.catnaplaw4_ConfFirst_b27_w, ↓C.catnaplaw4_ConfFirst_c28_w, Int.natCast_zero, hb, hz4]
    intro ix hix
    have hg := ASt.le.new t ix (.cells (flat (List.replicate 9 ⟨0, false⟩)))
    have hBL2 := BoxL.grow hBL hg
    have hxs : s0.h ix = none := fresh_of_le hBL.2.2.2.2.2 hix
    have hxx := ASt.new_self (st := t) (.cells (flat (List.replicate 9 ⟨0, false⟩))) hix
    have hixL : ix ∉ L2 := fun hm => hBL.2.1.live ix hm hix
    have hib5 : ib ≠ ix := by rintro rfl; rw [hb] at hix; cases hix
    obtain ⟨id, ws, q1, q2, q3, q4, q5⟩ := put_dev (i := 0) (j := 4) (c := { T.devs[0] with regs := List.replicate 9 ⟨0, false⟩ }) (v := .sl 2 ix 0 9) (c' := .isl 2 (flat (List.replicate 9 ⟨0, false⟩)) 9) (Lv := [ix]) hBL2 l4 (by omega) (.sl (L1 := []) (L2 := []) hxx (RepL.scalars rfl _) (by simp) (by simp) (by simp) .nil) rfl (by simpa using hib5) (by simpa using hxs) (by simpa using hixL)
    cases q1
    have q2' : t.h id = some (.cells ws) := by
      obtain ⟨id', ws', -, g1, g2, -⟩ := hBL.2.1.inner (i := 3) (sz := 6) (n := T.devs.length) rfl (by omega)
      cases g1
      rw [ASt.new_old g2] at q2
      rw [g2]; exact q2
    rw [show flat (List.replicate 9 ⟨0, false⟩) = [AV.int .u32 0, .bool false, .int .u32 0, .bool false, .int .u32 0, .bool false, .int .u32 0, .bool false, .int .u32 0, .bool false, .int .u32 0, .bool false, .int .u32 0, .bool false, .int .u32 0, .bool false, .int .u32 0, .bool false] from rfl] at q5
    rw [Nat.zero_mul, Nat.zero_add] at q3 q5
    simp only [↓Bp, Bq, Bs, ↓aop.eq_28, ↓aop.eq_30, Nat.reduceEqDiff, Nat.reduceAdd, Nat.reduceMul, Nat.reduceSub, Nat.reduceLeDiff, Nat.reduceLT, Int.reduceLT, Int.reduceLE, Int.reduceEq, Int.reduceToNat, Int.reduceAdd, Int.reduceSub, Int.reduceNeg, ↓reduceIte, reduceCtorEq, ↓C.catnaplaw4_ConfFirst_W, C.catnaplaw4_ConfFirst_B, C.catnaplaw4_ConfFirst, hz4, Nat.zero_mul, q2', q3]
    refine hQ _ ?_ _ rfl
    rw [fl, modify_eq_set l4]; exact q5
  · obtain ⟨id, ws, q1, q2, q3, q4, q5⟩ := put_clk (i := 0) (j := 0) (c := { T.clocks[0] with kind := 113 }) (v := .int .u8 113) hBL l1 (by omega) rfl rfl
    cases q1
    rw [Nat.zero_mul, Nat.zero_add] at q3 q5
    simp only [↓Bp, Bq, Bs, ↓aop.eq_28, ↓aop.eq_30, Nat.reduceEqDiff, Nat.reduceAdd, Nat.reduceMul, Nat.reduceSub, Nat.reduceLeDiff, Nat.reduceLT, Int.reduceLT, Int.reduceLE, Int.reduceEq, Int.reduceToNat, Int.reduceAdd, Int.reduceSub, Int.reduceNeg, ↓reduceIte, reduceCtorEq, ↓C.catnaplaw4_ConfFirst_r19_w, C.catnaplaw4_ConfFirst_r19_b, ↓C.catnaplaw4_ConfFirst_c3_w, ↓C.catnaplaw4_ConfFirst_r18_w, C.catnaplaw4_ConfFirst_r18_b, ↓C.catnaplaw4_ConfFirst_r22_w, C.catnaplaw4_ConfFirst_r22_b, ↓C.catnaplaw4_ConfFirst_c4_w, ↓C.catnaplaw4_ConfFirst_r21_w, C.catnaplaw4_ConfFirst_r21_b, ↓C.catnaplaw4_ConfFirst_r25_w, C.catnaplaw4_ConfFirst_r25_b, ↓C.catnaplaw4_ConfFirst_c5_w, ↓C.catnaplaw4_ConfFirst_r24_w, C.catnaplaw4_ConfFirst_r24_b, ↓C.catnaplaw4_ConfFirst_r30_w, C.catnaplaw4_ConfFirst_r30_b, ↓C.catnaplaw4_ConfFirst_c6_w, ↓C.catnaplaw4_ConfFirst_c7_w, ↓C.catnaplaw4_ConfFirst_r29_w, C.catnaplaw4_ConfFirst_r29_b, ↓C.catnaplaw4_ConfFirst_c8_w, ↓C.catnaplaw4_ConfFirst_r28_w, C.catnaplaw4_ConfFirst_r28_b, ↓C.catnaplaw4_ConfFirst_c9_w, ↓C.catnaplaw4_ConfFirst_r27_w, C.catnaplaw4_ConfFirst_r27_b, ↓C.catnaplaw4_ConfFirst_r33_w, C.catnaplaw4_ConfFirst_r33_b, ↓C.catnaplaw4_ConfFirst_c10_w, ↓C.catnaplaw4_ConfFirst_r32_w, C.catnaplaw4_ConfFirst_r32_b, ↓C.catnaplaw4_ConfFirst_r16_w, C.catnaplaw4_ConfFirst_r16_b, ↓C.catnaplaw4_ConfFirst_c11_w, ↓C.catnaplaw4_ConfFirst_r15_w, C.catnaplaw4_ConfFirst_r15_b, ↓C.catnaplaw4_ConfFirst_c12_w, ↓C.catnaplaw4_ConfFirst_c13_w, ↓C.catnaplaw4_ConfFirst_c14_w, ↓C.catnaplaw4_ConfFirst_r31_w, C.catnaplaw4_ConfFirst_r31_b, ↓C.catnaplaw4_ConfFirst_c15_w, ↓C.catnaplaw4_ConfFirst_c16_w, ↓C.catnaplaw4_ConfFirst_c17_w, ↓C.catnaplaw4_ConfFirst_r26_w, C.catnaplaw4_ConfFirst_r26_b, ↓C.catnaplaw4_ConfFirst_c18_w, ↓C.catnaplaw4_ConfFirst_c19_w, ↓C.catnaplaw4_ConfFirst_c20_w, ↓C.catnaplaw4_ConfFirst_r23_w, C.catnaplaw4_ConfFirst_r23_b, ↓C.catnaplaw4_ConfFirst_c21_w, ↓C.catnaplaw4_ConfFirst_c22_w, ↓C.catnaplaw4_ConfFirst_c23_w, ↓C.catnaplaw4_ConfFirst_r20_w, C.catnaplaw4_ConfFirst_r20_b, ↓C.catnaplaw4_ConfFirst_c24_w, ↓C.catnaplaw4_ConfFirst_c25_w, ↓C.catnaplaw4_ConfFirst_c26_w, ↓C.catnaplaw4_ConfFirst_r17_w, C.catnaplaw4_ConfFirst_r17_b, ↓C.catnaplaw4_ConfFirst_b27_w, ↓C.catnaplaw4_ConfFirst_c28_w, c1, hb, hz1, Nat.zero_mul, q2, q3]
    refine hQ _ ?_ _ rfl
    rw [fl, modify_eq_set l1]; exact q5
  · obtain ⟨id, ws, q1, q2, q3, q4, q5⟩ := put_dom (i := 0) (j := 0) (c := { T.doms[0] with above := 77 }) (v := .int .i64 77) hBL l2 (by omega) rfl rfl
    cases q1
    rw [Nat.zero_mul, Nat.zero_add] at q3 q5
    simp only [↓Bp, Bq, Bs, ↓aop.eq_28, ↓aop.eq_30, Nat.reduceEqDiff, Nat.reduceAdd, Nat.reduceMul, Nat.reduceSub, Nat.reduceLeDiff, Nat.reduceLT, Int.reduceLT, Int.reduceLE, Int.reduceEq, Int.reduceToNat, Int.reduceAdd, Int.reduceSub, Int.reduceNeg, ↓reduceIte, reduceCtorEq, ↓C.catnaplaw4_ConfFirst_r19_w, C.catnaplaw4_ConfFirst_r19_b, ↓C.catnaplaw4_ConfFirst_c3_w, ↓C.catnaplaw4_ConfFirst_r18_w, C.catnaplaw4_ConfFirst_r18_b, ↓C.catnaplaw4_ConfFirst_r22_w, C.catnaplaw4_ConfFirst_r22_b, ↓C.catnaplaw4_ConfFirst_c4_w, ↓C.catnaplaw4_ConfFirst_r21_w, C.catnaplaw4_ConfFirst_r21_b, ↓C.catnaplaw4_ConfFirst_r25_w, C.catnaplaw4_ConfFirst_r25_b, ↓C.catnaplaw4_ConfFirst_c5_w, ↓C.catnaplaw4_ConfFirst_r24_w, C.catnaplaw4_ConfFirst_r24_b, ↓C.catnaplaw4_ConfFirst_r30_w, C.catnaplaw4_ConfFirst_r30_b, ↓C.catnaplaw4_ConfFirst_c6_w, ↓C.catnaplaw4_ConfFirst_c7_w, ↓C.catnaplaw4_ConfFirst_r29_w, C.catnaplaw4_ConfFirst_r29_b, ↓C.catnaplaw4_ConfFirst_c8_w, ↓C.catnaplaw4_ConfFirst_r28_w, C.catnaplaw4_ConfFirst_r28_b, ↓C.catnaplaw4_ConfFirst_c9_w, ↓C.catnaplaw4_ConfFirst_r27_w, C.catnaplaw4_ConfFirst_r27_b, ↓C.catnaplaw4_ConfFirst_r33_w, C.catnaplaw4_ConfFirst_r33_b, ↓C.catnaplaw4_ConfFirst_c10_w, ↓C.catnaplaw4_ConfFirst_r32_w, C.catnaplaw4_ConfFirst_r32_b, ↓C.catnaplaw4_ConfFirst_r16_w, C.catnaplaw4_ConfFirst_r16_b, ↓C.catnaplaw4_ConfFirst_c11_w, ↓C.catnaplaw4_ConfFirst_r15_w, C.catnaplaw4_ConfFirst_r15_b, ↓C.catnaplaw4_ConfFirst_c12_w, ↓C.catnaplaw4_ConfFirst_c13_w, ↓C.catnaplaw4_ConfFirst_c14_w, ↓C.catnaplaw4_ConfFirst_r31_w, C.catnaplaw4_ConfFirst_r31_b, ↓C.catnaplaw4_ConfFirst_c15_w, ↓C.catnaplaw4_ConfFirst_c16_w, ↓C.catnaplaw4_ConfFirst_c17_w, ↓C.catnaplaw4_ConfFirst_r26_w, C.catnaplaw4_ConfFirst_r26_b, ↓C.catnaplaw4_ConfFirst_c18_w, ↓C.catnaplaw4_ConfFirst_c19_w, ↓C.catnaplaw4_ConfFirst_c20_w, ↓C.catnaplaw4_ConfFirst_r23_w, C.catnaplaw4_ConfFirst_r23_b, ↓C.catnaplaw4_ConfFirst_c21_w, ↓C.catnaplaw4_ConfFirst_c22_w, ↓C.catnaplaw4_ConfFirst_c23_w, ↓C.catnaplaw4_ConfFirst_r20_w, C.catnaplaw4_ConfFirst_r20_b, ↓C.catnaplaw4_ConfFirst_c24_w, ↓C.catnaplaw4_ConfFirst_c25_w, ↓C.catnaplaw4_ConfFirst_c26_w, ↓C.catnaplaw4_ConfFirst_r17_w, C.catnaplaw4_ConfFirst_r17_b, ↓C.catnaplaw4_ConfFirst_b27_w, ↓C.catnaplaw4_ConfFirst_c28_w, Int.cast_ofNat_Int, hb, hz2, Nat.zero_mul, q2, q3]
    refine hQ _ ?_ _ rfl
    rw [fl, modify_eq_set l2]; exact q5
  · have hl : T.doms.length - 1 < T.doms.length := by omega
    have wl : IntKind.i64.wrap ((T.doms.length : Int) - 1) = ((T.doms.length - 1 : Nat) : Int) := by rw [wrap64] <;> omega
    have hzl : (0:Int) ≤ ((T.doms.length - 1 : Nat) : Int) ∧ ((T.doms.length - 1 : Nat) : Int) < (T.doms.length : Nat) := by omega
    obtain ⟨id, ws, q1, q2, q3, q4, q5⟩ := put_dom (i := T.doms.length - 1) (j := 1) (c := { T.doms[T.doms.length - 1] with delay := 21 }) (v := .int .i64 21) hBL hl (by omega) rfl rfl
    cases q1
    have e7 : ∀ a : Nat, ((a : Int) = 2) = (a = 2) := fun a => by rw [eq_iff_iff]; omega
    have e8 : ((1 : Int) < (T.doms.length : Nat)) = (1 < T.doms.length) := by rw [eq_iff_iff]; omega
    have hb' : (t.set id (.cells (ws.set ((T.doms.length - 1) * 3 + 1) (.int .i64 21)))).h ib = some (.cells [a0, .sl 3 id 0 T.doms.length, a2, a3]) := by rw [ASt.set_h, if_neg (Ne.symm q4)]; exact hb
    have q30 : (T.doms.length - 1) * 3 < ws.length := by omega
    have other : ¬ (x = 2 ∧ 1 < T.doms.length) → ChipBox s0 (t.set id (.cells (ws.set ((T.doms.length - 1) * 3 + 1) (.int .i64 21)))) ib (fl x 3 T) := by
      intro hne
      rw [fl, modify_eq_set hl, if_neg hne]; exact q5
    by_cases hx : x = 2
    · have hx' : ((x : Nat) : Int) = 2 := by omega
      by_cases hn : 1 < T.doms.length
      · obtain ⟨b0, b1, b2, b3, L3, hBL3, hb3, -⟩ := q5.four
        obtain ⟨id', ws', p1, p2, p3, p4, p5⟩ := put_dom (i := T.doms.length - 1) (j := 0) (c := ⟨-1, 21, T.doms[T.doms.length - 1].ret⟩) (v := .int .i64 (-1)) hBL3 (by simpa using hl) (by omega) rfl (by simp [Dom.cells])
        simp only [List.length_set] at p1 p2 p3 p5
        rw [hb'] at hb3; cases hb3; cases p1
        rw [ASt.set_h, if_pos rfl, q2] at p2
        cases p2
        rw [Nat.add_zero] at p3 p5
        simp only [↓Bp, Bq, Bs, ↓aop.eq_28, ↓aop.eq_30, Nat.reduceEqDiff, Nat.reduceAdd, Nat.reduceMul, Nat.reduceSub, Nat.reduceLeDiff, Nat.reduceLT, Int.reduceLT, Int.reduceLE, Int.reduceEq, Int.reduceToNat, Int.reduceAdd, Int.reduceSub, Int.reduceNeg, ↓reduceIte, reduceCtorEq, ↓C.catnaplaw4_ConfFirst_r19_w, C.catnaplaw4_ConfFirst_r19_b, ↓C.catnaplaw4_ConfFirst_c3_w, ↓C.catnaplaw4_ConfFirst_r18_w, C.catnaplaw4_ConfFirst_r18_b, ↓C.catnaplaw4_ConfFirst_r22_w, C.catnaplaw4_ConfFirst_r22_b, ↓C.catnaplaw4_ConfFirst_c4_w, ↓C.catnaplaw4_ConfFirst_r21_w, C.catnaplaw4_ConfFirst_r21_b, ↓C.catnaplaw4_ConfFirst_r25_w, C.catnaplaw4_ConfFirst_r25_b, ↓C.catnaplaw4_ConfFirst_c5_w, ↓C.catnaplaw4_ConfFirst_r24_w, C.catnaplaw4_ConfFirst_r24_b, ↓C.catnaplaw4_ConfFirst_r30_w, C.catnaplaw4_ConfFirst_r30_b, ↓C.catnaplaw4_ConfFirst_c6_w, ↓C.catnaplaw4_ConfFirst_c7_w, ↓C.catnaplaw4_ConfFirst_r29_w, C.catnaplaw4_ConfFirst_r29_b, ↓C.catnaplaw4_ConfFirst_c8_w, ↓C.catnaplaw4_ConfFirst_r28_w, C.catnaplaw4_ConfFirst_r28_b, ↓C.catnaplaw4_ConfFirst_c9_w, ↓C.catnaplaw4_ConfFirst_r27_w, C.catnaplaw4_ConfFirst_r27_b, ↓C.catnaplaw4_ConfFirst_r33_w, C.catnaplaw4_ConfFirst_r33_b, ↓C.catnaplaw4_ConfFirst_c10_w, ↓C.catnaplaw4_ConfFirst_r32_w, C.catnaplaw4_ConfFirst_r32_b, ↓C.catnaplaw4_ConfFirst_r16_w, C.catnaplaw4_ConfFirst_r16_b, ↓C.catnaplaw4_ConfFirst_c11_w, ↓C.catnaplaw4_ConfFirst_r15_w, C.catnaplaw4_ConfFirst_r15_b, ↓C.catnaplaw4_ConfFirst_c12_w, ↓C.catnaplaw4_ConfFirst_c13_w, ↓C.catnaplaw4_ConfFirst_c14_w, ↓C.catnaplaw4_ConfFirst_r31_w, C.catnaplaw4_ConfFirst_r31_b, ↓C.catnaplaw4_ConfFirst_c15_w, ↓C.catnaplaw4_ConfFirst_c16_w, ↓C.catnaplaw4_ConfFirst_c17_w, ↓C.catnaplaw4_ConfFirst_r26_w, C.catnaplaw4_ConfFirst_r26_b, ↓C.catnaplaw4_ConfFirst_c18_w, ↓C.catnaplaw4_ConfFirst_c19_w, ↓C.catnaplaw4_ConfFirst_c20_w, ↓C.catnaplaw4_ConfFirst_r23_w, C.catnaplaw4_ConfFirst_r23_b, ↓C.catnaplaw4_ConfFirst_c21_w, ↓C.catnaplaw4_ConfFirst_c22_w, ↓C.catnaplaw4_ConfFirst_c23_w, ↓C.catnaplaw4_ConfFirst_r20_w, C.catnaplaw4_ConfFirst_r20_b, ↓C.catnaplaw4_ConfFirst_c24_w, ↓C.catnaplaw4_ConfFirst_c25_w, ↓C.catnaplaw4_ConfFirst_c26_w, ↓C.catnaplaw4_ConfFirst_r17_w, C.catnaplaw4_ConfFirst_r17_b, ↓C.catnaplaw4_ConfFirst_b27_w, ↓C.catnaplaw4_ConfFirst_c28_w, Int.cast_ofNat_Int, hb, z1, wl, hzl, Int.toNat_natCast, q2, q3, hx', gt_iff_lt, e8, hn, q30, q4, Ne.symm q4]
        refine hQ _ ?_ _ (by simp [AFr.keep, AFr.get, hx', wantE])
        rw [fl, modify_eq_set hl, if_pos ⟨hx, hn⟩]
        rw [List.set_set] at p5
        exact p5
      · simp only [↓Bp, Bq, Bs, ↓aop.eq_28, ↓aop.eq_30, Nat.reduceEqDiff, Nat.reduceAdd, Nat.reduceMul, Nat.reduceSub, Nat.reduceLeDiff, Nat.reduceLT, Int.reduceLT, Int.reduceLE, Int.reduceEq, Int.reduceToNat, Int.reduceAdd, Int.reduceSub, Int.reduceNeg, ↓reduceIte, reduceCtorEq, ↓C.catnaplaw4_ConfFirst_r19_w, C.catnaplaw4_ConfFirst_r19_b, ↓C.catnaplaw4_ConfFirst_c3_w, ↓C.catnaplaw4_ConfFirst_r18_w, C.catnaplaw4_ConfFirst_r18_b, ↓C.catnaplaw4_ConfFirst_r22_w, C.catnaplaw4_ConfFirst_r22_b, ↓C.catnaplaw4_ConfFirst_c4_w, ↓C.catnaplaw4_ConfFirst_r21_w, C.catnaplaw4_ConfFirst_r21_b, ↓C.catnaplaw4_ConfFirst_r25_w, C.catnaplaw4_ConfFirst_r25_b, ↓C.catnaplaw4_ConfFirst_c5_w, ↓C.catnaplaw4_ConfFirst_r24_w, C.catnaplaw4_ConfFirst_r24_b, ↓C.catnaplaw4_ConfFirst_r30_w, C.catnaplaw4_ConfFirst_r30_b, ↓C.catnaplaw4_ConfFirst_c6_w, ↓C.catnaplaw4_ConfFirst_c7_w, ↓C.catnaplaw4_ConfFirst_r29_w, C.catnaplaw4_ConfFirst_r29_b, ↓C.catnaplaw4_ConfFirst_c8_w, ↓C.catnaplaw4_ConfFirst_r28_w, C.catnaplaw4_ConfFirst_r28_b, ↓C.catnaplaw4_ConfFirst_c9_w, ↓C.catnaplaw4_ConfFirst_r27_w, C.catnaplaw4_ConfFirst_r27_b, ↓C.catnaplaw4_ConfFirst_r33_w, C.catnaplaw4_ConfFirst_r33_b, ↓C.catnaplaw4_ConfFirst_c10_w, ↓C.catnaplaw4_ConfFirst_r32_w, C.catnaplaw4_ConfFirst_r32_b, ↓C.catnaplaw4_ConfFirst_r16_w, C.catnaplaw4_ConfFirst_r16_b, ↓C.catnaplaw4_ConfFirst_c11_w, ↓C.catnaplaw4_ConfFirst_r15_w, C.catnaplaw4_ConfFirst_r15_b, ↓C.catnaplaw4_ConfFirst_c12_w, ↓C.catnaplaw4_ConfFirst_c13_w, ↓C.catnaplaw4_ConfFirst_c14_w, ↓C.catnaplaw4_ConfFirst_r31_w, C.catnaplaw4_ConfFirst_r31_b, ↓C.catnaplaw4_ConfFirst_c15_w, ↓C.catnaplaw4_ConfFirst_c16_w, ↓C.catnaplaw4_ConfFirst_c17_w, ↓C.catnaplaw4_ConfFirst_r26_w, C.catnaplaw4_ConfFirst_r26_b, ↓C.catnaplaw4_ConfFirst_c18_w, ↓C.catnaplaw4_ConfFirst_c19_w, ↓C.catnaplaw4_ConfFirst_c20_w, ↓C.catnaplaw4_ConfFirst_r23_w, C.catnaplaw4_ConfFirst_r23_b, ↓C.catnaplaw4_ConfFirst_c21_w, ↓C.catnaplaw4_ConfFirst_c22_w, ↓C.catnaplaw4_ConfFirst_c23_w, ↓C.catnaplaw4_ConfFirst_r20_w, C.catnaplaw4_ConfFirst_r20_b, ↓C.catnaplaw4_ConfFirst_c24_w, ↓C.catnaplaw4_ConfFirst_c25_w, ↓C.catnaplaw4_ConfFirst_c26_w, ↓C.catnaplaw4_ConfFirst_r17_w, C.catnaplaw4_ConfFirst_r17_b, ↓C.catnaplaw4_ConfFirst_b27_w, ↓C.catnaplaw4_ConfFirst_c28_w, Int.cast_ofNat_Int, hb, z1, wl, hzl, Int.toNat_natCast, q2, q3, hx', gt_iff_lt, e8, hn, q4, Ne.symm q4]
        exact hQ _ (other fun h => hn h.2) _ (by simp [AFr.keep, AFr.get, hx', wantE])
    · have hx' : ¬ ((x : Nat) : Int) = 2 := by omega
      simp only [↓Bp, Bq, Bs, ↓aop.eq_28, ↓aop.eq_30, Nat.reduceEqDiff, Nat.reduceAdd, Nat.reduceMul, Nat.reduceSub, Nat.reduceLeDiff, Nat.reduceLT, Int.reduceLT, Int.reduceLE, Int.reduceEq, Int.reduceToNat, Int.reduceAdd, Int.reduceSub, Int.reduceNeg, ↓reduceIte, reduceCtorEq, ↓C.catnaplaw4_ConfFirst_r19_w, C.catnaplaw4_ConfFirst_r19_b, ↓C.catnaplaw4_ConfFirst_c3_w, ↓C.catnaplaw4_ConfFirst_r18_w, C.catnaplaw4_ConfFirst_r18_b, ↓C.catnaplaw4_ConfFirst_r22_w, C.catnaplaw4_ConfFirst_r22_b, ↓C.catnaplaw4_ConfFirst_c4_w, ↓C.catnaplaw4_ConfFirst_r21_w, C.catnaplaw4_ConfFirst_r21_b, ↓C.catnaplaw4_ConfFirst_r25_w, C.catnaplaw4_ConfFirst_r25_b, ↓C.catnaplaw4_ConfFirst_c5_w, ↓C.catnaplaw4_ConfFirst_r24_w, C.catnaplaw4_ConfFirst_r24_b, ↓C.catnaplaw4_ConfFirst_r30_w, C.catnaplaw4_ConfFirst_r30_b, ↓C.catnaplaw4_ConfFirst_c6_w, ↓C.catnaplaw4_ConfFirst_c7_w, ↓C.catnaplaw4_ConfFirst_r29_w, C.catnaplaw4_ConfFirst_r29_b, ↓C.catnaplaw4_ConfFirst_c8_w, ↓C.catnaplaw4_ConfFirst_r28_w, C.catnaplaw4_ConfFirst_r28_b, ↓C.catnaplaw4_ConfFirst_c9_w, ↓C.catnaplaw4_ConfFirst_r27_w, C.catnaplaw4_ConfFirst_r27_b, ↓C.catnaplaw4_ConfFirst_r33_w, C.catnaplaw4_ConfFirst_r33_b, ↓C.catnaplaw4_ConfFirst_c10_w, ↓C.catnaplaw4_ConfFirst_r32_w, C.catnaplaw4_ConfFirst_r32_b, ↓C.catnaplaw4_ConfFirst_r16_w, C.catnaplaw4_ConfFirst_r16_b, ↓C.catnaplaw4_ConfFirst_c11_w, ↓C.catnaplaw4_ConfFirst_r15_w, C.catnaplaw4_ConfFirst_r15_b, ↓C.catnaplaw4_ConfFirst_c12_w, ↓C.catnaplaw4_ConfFirst_c13_w, ↓C.catnaplaw4_ConfFirst_c14_w, ↓C.catnaplaw4_ConfFirst_r31_w, C.catnaplaw4_ConfFirst_r31_b, ↓C.catnaplaw4_ConfFirst_c15_w, ↓C.catnaplaw4_ConfFirst_c16_w, ↓C.catnaplaw4_ConfFirst_c17_w, ↓C.catnaplaw4_ConfFirst_r26_w, C.catnaplaw4_ConfFirst_r26_b, ↓C.catnaplaw4_ConfFirst_c18_w, ↓C.catnaplaw4_ConfFirst_c19_w, ↓C.catnaplaw4_ConfFirst_c20_w, ↓C.catnaplaw4_ConfFirst_r23_w, C.catnaplaw4_ConfFirst_r23_b, ↓C.catnaplaw4_ConfFirst_c21_w, ↓C.catnaplaw4_ConfFirst_c22_w, ↓C.catnaplaw4_ConfFirst_c23_w, ↓C.catnaplaw4_ConfFirst_r20_w, C.catnaplaw4_ConfFirst_r20_b, ↓C.catnaplaw4_ConfFirst_c24_w, ↓C.catnaplaw4_ConfFirst_c25_w, ↓C.catnaplaw4_ConfFirst_c26_w, ↓C.catnaplaw4_ConfFirst_r17_w, C.catnaplaw4_ConfFirst_r17_b, ↓C.catnaplaw4_ConfFirst_b27_w, ↓C.catnaplaw4_ConfFirst_c28_w, Int.cast_ofNat_Int, hb, z1, wl, hzl, Int.toNat_natCast, q2, q3, hx', gt_iff_lt, q4, Ne.symm q4]
      exact hQ _ (other fun h => hx h.1) _ rfl
  · obtain ⟨id, ws, q1, q2, q3, q4, q5⟩ := put_rst (i := 0) (c := -1) hBL l3
    cases q1
    simp only [↓Bp, Bq, Bs, ↓aop.eq_28, ↓aop.eq_30, Nat.reduceEqDiff, Nat.reduceAdd, Nat.reduceMul, Nat.reduceSub, Nat.reduceLeDiff, Nat.reduceLT, Int.reduceLT, Int.reduceLE, Int.reduceEq, Int.reduceToNat, Int.reduceAdd, Int.reduceSub, Int.reduceNeg, ↓reduceIte, reduceCtorEq, ↓C.catnaplaw4_ConfFirst_r19_w, C.catnaplaw4_ConfFirst_r19_b, ↓C.catnaplaw4_ConfFirst_c3_w, ↓C.catnaplaw4_ConfFirst_r18_w, C.catnaplaw4_ConfFirst_r18_b, ↓C.catnaplaw4_ConfFirst_r22_w, C.catnaplaw4_ConfFirst_r22_b, ↓C.catnaplaw4_ConfFirst_c4_w, ↓C.catnaplaw4_ConfFirst_r21_w, C.catnaplaw4_ConfFirst_r21_b, ↓C.catnaplaw4_ConfFirst_r25_w, C.catnaplaw4_ConfFirst_r25_b, ↓C.catnaplaw4_ConfFirst_c5_w, ↓C.catnaplaw4_ConfFirst_r24_w, C.catnaplaw4_ConfFirst_r24_b, ↓C.catnaplaw4_ConfFirst_r30_w, C.catnaplaw4_ConfFirst_r30_b, ↓C.catnaplaw4_ConfFirst_c6_w, ↓C.catnaplaw4_ConfFirst_c7_w, ↓C.catnaplaw4_ConfFirst_r29_w, C.catnaplaw4_ConfFirst_r29_b, ↓C.catnaplaw4_ConfFirst_c8_w, ↓C.catnaplaw4_ConfFirst_r28_w, C.catnaplaw4_ConfFirst_r28_b, ↓C.catnaplaw4_ConfFirst_c9_w, ↓C.catnaplaw4_ConfFirst_r27_w, C.catnaplaw4_ConfFirst_r27_b, ↓C.catnaplaw4_ConfFirst_r33_w, C.catnaplaw4_ConfFirst_r33_b, ↓C.catnaplaw4_ConfFirst_c10_w, ↓C.catnaplaw4_ConfFirst_r32_w, C.catnaplaw4_ConfFirst_r32_b, ↓C.catnaplaw4_ConfFirst_r16_w, C.catnaplaw4_ConfFirst_r16_b, ↓C.catnaplaw4_ConfFirst_c11_w, ↓C.catnaplaw4_ConfFirst_r15_w, C.catnaplaw4_ConfFirst_r15_b, ↓C.catnaplaw4_ConfFirst_c12_w, ↓C.catnaplaw4_ConfFirst_c13_w, ↓C.catnaplaw4_ConfFirst_c14_w, ↓C.catnaplaw4_ConfFirst_r31_w, C.catnaplaw4_ConfFirst_r31_b, ↓C.catnaplaw4_ConfFirst_c15_w, ↓C.catnaplaw4_ConfFirst_c16_w, ↓C.catnaplaw4_ConfFirst_c17_w, ↓C.catnaplaw4_ConfFirst_r26_w, C.catnaplaw4_ConfFirst_r26_b, ↓C.catnaplaw4_ConfFirst_c18_w, ↓C.catnaplaw4_ConfFirst_c19_w, ↓C.catnaplaw4_ConfFirst_c20_w, ↓C.catnaplaw4_ConfFirst_r23_w, C.catnaplaw4_ConfFirst_r23_b, ↓C.catnaplaw4_ConfFirst_c21_w, ↓C.catnaplaw4_ConfFirst_c22_w, ↓C.catnaplaw4_ConfFirst_c23_w, ↓C.catnaplaw4_ConfFirst_r20_w, C.catnaplaw4_ConfFirst_r20_b, ↓C.catnaplaw4_ConfFirst_c24_w, ↓C.catnaplaw4_ConfFirst_c25_w, ↓C.catnaplaw4_ConfFirst_c26_w, ↓C.catnaplaw4_ConfFirst_r17_w, C.catnaplaw4_ConfFirst_r17_b, ↓C.catnaplaw4_ConfFirst_b27_w, ↓C.catnaplaw4_ConfFirst_c28_w, Int.cast_ofNat_Int, hb, hz3, Nat.zero_mul, q2, q3]
    exact hQ _ q5 _ rfl
  · simp only [↓Bp, Bq, Bs, Nat.reduceEqDiff, Nat.reduceAdd, Nat.reduceMul, Nat.reduceSub, Nat.reduceLeDiff, Nat.reduceLT, Int.reduceLT, Int.reduceLE, Int.reduceEq, Int.reduceToNat, Int.reduceAdd, Int.reduceSub, Int.reduceNeg, ↓reduceIte, reduceCtorEq, ↓C.catnaplaw4_ConfFirst_r19_w, C.catnaplaw4_ConfFirst_r19_b, ↓C.catnaplaw4_ConfFirst_c3_w, ↓C.catnaplaw4_ConfFirst_r18_w, C.catnaplaw4_ConfFirst_r18_b, ↓C.catnaplaw4_ConfFirst_r22_w, C.catnaplaw4_ConfFirst_r22_b, ↓C.catnaplaw4_ConfFirst_c4_w, ↓C.catnaplaw4_ConfFirst_r21_w, C.catnaplaw4_ConfFirst_r21_b, ↓C.catnaplaw4_ConfFirst_r25_w, C.catnaplaw4_ConfFirst_r25_b, ↓C.catnaplaw4_ConfFirst_c5_w, ↓C.catnaplaw4_ConfFirst_r24_w, C.catnaplaw4_ConfFirst_r24_b, ↓C.catnaplaw4_ConfFirst_r30_w, C.catnaplaw4_ConfFirst_r30_b, ↓C.catnaplaw4_ConfFirst_c6_w, ↓C.catnaplaw4_ConfFirst_c7_w, ↓C.catnaplaw4_ConfFirst_r29_w, C.catnaplaw4_ConfFirst_r29_b, ↓C.catnaplaw4_ConfFirst_c8_w, ↓C.catnaplaw4_ConfFirst_r28_w, C.catnaplaw4_ConfFirst_r28_b, ↓C.catnaplaw4_ConfFirst_c9_w, ↓C.catnaplaw4_ConfFirst_r27_w, C.catnaplaw4_ConfFirst_r27_b, ↓C.catnaplaw4_ConfFirst_r33_w, C.catnaplaw4_ConfFirst_r33_b, ↓C.catnaplaw4_ConfFirst_c10_w, ↓C.catnaplaw4_ConfFirst_r32_w, C.catnaplaw4_ConfFirst_r32_b, ↓C.catnaplaw4_ConfFirst_r16_w, C.catnaplaw4_ConfFirst_r16_b, ↓C.catnaplaw4_ConfFirst_c11_w, ↓C.catnaplaw4_ConfFirst_r15_w, C.catnaplaw4_ConfFirst_r15_b, ↓C.catnaplaw4_ConfFirst_c12_w, ↓C.catnaplaw4_ConfFirst_c13_w, ↓C.catnaplaw4_ConfFirst_c14_w, ↓C.catnaplaw4_ConfFirst_r31_w, C.catnaplaw4_ConfFirst_r31_b, ↓C.catnaplaw4_ConfFirst_c15_w, ↓C.catnaplaw4_ConfFirst_c16_w, ↓C.catnaplaw4_ConfFirst_c17_w, ↓C.catnaplaw4_ConfFirst_r26_w, C.catnaplaw4_ConfFirst_r26_b, ↓C.catnaplaw4_ConfFirst_c18_w, ↓C.catnaplaw4_ConfFirst_c19_w, ↓C.catnaplaw4_ConfFirst_c20_w, ↓C.catnaplaw4_ConfFirst_r23_w, C.catnaplaw4_ConfFirst_r23_b, ↓C.catnaplaw4_ConfFirst_c21_w, ↓C.catnaplaw4_ConfFirst_c22_w, ↓C.catnaplaw4_ConfFirst_c23_w, ↓C.catnaplaw4_ConfFirst_r20_w, C.catnaplaw4_ConfFirst_r20_b, ↓C.catnaplaw4_ConfFirst_c24_w, ↓C.catnaplaw4_ConfFirst_c25_w, ↓C.catnaplaw4_ConfFirst_c26_w, ↓C.catnaplaw4_ConfFirst_r17_w, C.catnaplaw4_ConfFirst_r17_b, ↓C.catnaplaw4_ConfFirst_b27_w, ↓C.catnaplaw4_ConfFirst_c28_w, Int.cast_ofNat_Int, hb, hz4]
    refine aop_bs (cs := [.int .i64 0]) rfl fun ix hix => ?_
    have hg := ASt.le.new t ix (.cells [.int .i64 0])
    have hBL2 := BoxL.grow hBL hg
    have hxs : s0.h ix = none := fresh_of_le hBL.2.2.2.2.2 hix
    have hxx := ASt.new_self (st := t) (.cells [.int .i64 0]) hix
    have hixL : ix ∉ L2 := fun hm => hBL.2.1.live ix hm hix
    have hib5 : ib ≠ ix := by rintro rfl; rw [hb] at hix; cases hix
    obtain ⟨id, ws, q1, q2, q3, q4, q5⟩ := put_dev (i := 0) (j := 5) (c := { T.devs[0] with needs := [0] }) (v := .sl 1 ix 0 1) (c' := row [0]) (Lv := [ix]) hBL2 l4 (by omega) (.sl (L1 := []) (L2 := []) hxx (RepL.scalars rfl _) (by simp) (by simp) (by simp) .nil) rfl (by simpa using hib5) (by simpa using hxs) (by simpa using hixL)
    cases q1
    rw [Nat.zero_mul, Nat.zero_add] at q3 q5
    generalize t.new ix (.cells [.int .i64 0]) = s6 at hBL2 q2 q5 hxx
    simp only [↓Bp, Bq, Bs, ↓aop.eq_28, ↓aop.eq_30, Nat.reduceEqDiff, Nat.reduceAdd, Nat.reduceMul, Nat.reduceSub, Nat.reduceLeDiff, Nat.reduceLT, Int.reduceLT, Int.reduceLE, Int.reduceEq, Int.reduceToNat, Int.reduceAdd, Int.reduceSub, Int.reduceNeg, ↓reduceIte, reduceCtorEq, ↓C.catnaplaw4_ConfFirst_r19_w, C.catnaplaw4_ConfFirst_r19_b, ↓C.catnaplaw4_ConfFirst_c3_w, ↓C.catnaplaw4_ConfFirst_r18_w, C.catnaplaw4_ConfFirst_r18_b, ↓C.catnaplaw4_ConfFirst_r22_w, C.catnaplaw4_ConfFirst_r22_b, ↓C.catnaplaw4_ConfFirst_c4_w, ↓C.catnaplaw4_ConfFirst_r21_w, C.catnaplaw4_ConfFirst_r21_b, ↓C.catnaplaw4_ConfFirst_r25_w, C.catnaplaw4_ConfFirst_r25_b, ↓C.catnaplaw4_ConfFirst_c5_w, ↓C.catnaplaw4_ConfFirst_r24_w, C.catnaplaw4_ConfFirst_r24_b, ↓C.catnaplaw4_ConfFirst_r30_w, C.catnaplaw4_ConfFirst_r30_b, ↓C.catnaplaw4_ConfFirst_c6_w, ↓C.catnaplaw4_ConfFirst_c7_w, ↓C.catnaplaw4_ConfFirst_r29_w, C.catnaplaw4_ConfFirst_r29_b, ↓C.catnaplaw4_ConfFirst_c8_w, ↓C.catnaplaw4_ConfFirst_r28_w, C.catnaplaw4_ConfFirst_r28_b, ↓C.catnaplaw4_ConfFirst_c9_w, ↓C.catnaplaw4_ConfFirst_r27_w, C.catnaplaw4_ConfFirst_r27_b, ↓C.catnaplaw4_ConfFirst_r33_w, C.catnaplaw4_ConfFirst_r33_b, ↓C.catnaplaw4_ConfFirst_c10_w, ↓C.catnaplaw4_ConfFirst_r32_w, C.catnaplaw4_ConfFirst_r32_b, ↓C.catnaplaw4_ConfFirst_r16_w, C.catnaplaw4_ConfFirst_r16_b, ↓C.catnaplaw4_ConfFirst_c11_w, ↓C.catnaplaw4_ConfFirst_r15_w, C.catnaplaw4_ConfFirst_r15_b, ↓C.catnaplaw4_ConfFirst_c12_w, ↓C.catnaplaw4_ConfFirst_c13_w, ↓C.catnaplaw4_ConfFirst_c14_w, ↓C.catnaplaw4_ConfFirst_r31_w, C.catnaplaw4_ConfFirst_r31_b, ↓C.catnaplaw4_ConfFirst_c15_w, ↓C.catnaplaw4_ConfFirst_c16_w, ↓C.catnaplaw4_ConfFirst_c17_w, ↓C.catnaplaw4_ConfFirst_r26_w, C.catnaplaw4_ConfFirst_r26_b, ↓C.catnaplaw4_ConfFirst_c18_w, ↓C.catnaplaw4_ConfFirst_c19_w, ↓C.catnaplaw4_ConfFirst_c20_w, ↓C.catnaplaw4_ConfFirst_r23_w, C.catnaplaw4_ConfFirst_r23_b, ↓C.catnaplaw4_ConfFirst_c21_w, ↓C.catnaplaw4_ConfFirst_c22_w, ↓C.catnaplaw4_ConfFirst_c23_w, ↓C.catnaplaw4_ConfFirst_r20_w, C.catnaplaw4_ConfFirst_r20_b, ↓C.catnaplaw4_ConfFirst_c24_w, ↓C.catnaplaw4_ConfFirst_c25_w, ↓C.catnaplaw4_ConfFirst_c26_w, ↓C.catnaplaw4_ConfFirst_r17_w, C.catnaplaw4_ConfFirst_r17_b, ↓C.catnaplaw4_ConfFirst_b27_w, ↓C.catnaplaw4_ConfFirst_c28_w, hz4, Nat.zero_mul, q2, q3]
    refine hQ _ ?_ _ rfl
    show ChipBox s0 _ ib { T with devs := T.devs.modify 0 fun d => { d with needs := [0] } }
    rw [modify_eq_set l4]; exact q5

theorem minmax_eq (a b : Int) : (if b < a then b else a) = min a b ∧ (if a < b then b else a) = max a b := by
  constructor
  · rw [Int.min_def]; split <;> split <;> omega
  · rw [Int.max_def]; split <;> split <;> omega
theorem conffirst_spec {st : ASt} {l : List Int} {a b : Int} (hl : ∀ x ∈ l, -9223372036854775808 ≤ x ∧ x ≤ 9223372036854775807) (hll : l.length ≤ 9223372036854775807) (ha : -9223372036854775808 ≤ a ∧ a ≤ 9223372036854775807) (hb : -9223372036854775808 ≤ b ∧ b ≤ 9223372036854775807) :
    ACalls Try.prog F.catnaplaw4_ConfFirst [row l, .int .i64 a, .int .i64 b] st fun r _ => r = .bool true := by
  refine calls_of_awp L.catnaplaw4_ConfFirst rfl ?_
  simp only [↓Bp, Bq, Bs, ↓aop.eq_28, ↓aop.eq_30, Nat.reduceEqDiff, Nat.reduceAdd, Nat.reduceMul, Nat.reduceSub, Nat.reduceLeDiff, Nat.reduceLT, Int.reduceLT, Int.reduceLE, Int.reduceEq, Int.reduceToNat, Int.reduceAdd, Int.reduceSub, Int.reduceNeg, ↓reduceIte, reduceCtorEq, ↓C.catnaplaw4_ConfFirst_W, C.catnaplaw4_ConfFirst_B, C.catnaplaw4_ConfFirst]
  refine (shown_spec st).mono ?_
  rintro r s ⟨rfl, rfl⟩
  simp only [↓Bp, Bq, Bs, ↓aop.eq_28, ↓aop.eq_30, Nat.reduceEqDiff, Nat.reduceAdd, Nat.reduceMul, Nat.reduceSub, Nat.reduceLeDiff, Nat.reduceLT, Int.reduceLT, Int.reduceLE, Int.reduceEq, Int.reduceToNat, Int.reduceAdd, Int.reduceSub, Int.reduceNeg, ↓reduceIte, reduceCtorEq, ↓C.catnaplaw4_ConfFirst_W, C.catnaplaw4_ConfFirst_B, C.catnaplaw4_ConfFirst]
  refine (chip_own hl hll).mono ?_
  rintro r s1 ⟨vs, L, rfl, hR, hF, hle⟩
  have hk := chipS_like l
  generalize chipS l = S at hk hR
  have hs := hk.sane
  have n1 := hk.nc; have n2 := hk.nd; have n3 := hk.nr; have n4 := hk.nv
  have lv : vs.length = 4 := hR.len.symm
  have lf := hR.leaf
  simp only [↓Bp, Bq, Bs, ↓aop.eq_28, ↓aop.eq_30, Nat.reduceEqDiff, Nat.reduceAdd, Nat.reduceMul, Nat.reduceSub, Nat.reduceLeDiff, Nat.reduceLT, Int.reduceLT, Int.reduceLE, Int.reduceEq, Int.reduceToNat, Int.reduceAdd, Int.reduceSub, Int.reduceNeg, ↓reduceIte, reduceCtorEq, ↓C.catnaplaw4_ConfFirst_r4_w, C.catnaplaw4_ConfFirst_r4_b, ↓C.catnaplaw4_ConfFirst_c43_w, ↓C.catnaplaw4_ConfFirst_r3_w, C.catnaplaw4_ConfFirst_r3_b, ↓C.catnaplaw4_ConfFirst_c44_w, ↓C.catnaplaw4_ConfFirst_c45_w, ↓C.catnaplaw4_ConfFirst_r2_w, C.catnaplaw4_ConfFirst_r2_b, ↓C.catnaplaw4_ConfFirst_c46_w, ↓C.catnaplaw4_ConfFirst_r1_w, C.catnaplaw4_ConfFirst_r1_b, ↓C.catnaplaw4_ConfFirst_c47_w, ↓C.catnaplaw4_ConfFirst_r0_w, C.catnaplaw4_ConfFirst_r0_b, C.catnaplaw4_ConfFirst]
  rintro ib hib
  simp only [↓Bp, Bq, Bs, ↓aop.eq_28, ↓aop.eq_30, Nat.reduceEqDiff, Nat.reduceAdd, Nat.reduceMul, Nat.reduceSub, Nat.reduceLeDiff, Nat.reduceLT, Int.reduceLT, Int.reduceLE, Int.reduceEq, Int.reduceToNat, Int.reduceAdd, Int.reduceSub, Int.reduceNeg, ↓reduceIte, reduceCtorEq, ↓C.catnaplaw4_ConfFirst_r4_w, C.catnaplaw4_ConfFirst_r4_b, ↓C.catnaplaw4_ConfFirst_c43_w, ↓C.catnaplaw4_ConfFirst_r3_w, C.catnaplaw4_ConfFirst_r3_b, ↓C.catnaplaw4_ConfFirst_c44_w, ↓C.catnaplaw4_ConfFirst_c45_w, ↓C.catnaplaw4_ConfFirst_r2_w, C.catnaplaw4_ConfFirst_r2_b, ↓C.catnaplaw4_ConfFirst_c46_w, ↓C.catnaplaw4_ConfFirst_r1_w, C.catnaplaw4_ConfFirst_r1_b, ↓C.catnaplaw4_ConfFirst_c47_w, ↓C.catnaplaw4_ConfFirst_r0_w, C.catnaplaw4_ConfFirst_r0_b, C.catnaplaw4_ConfFirst, hib, lv, lf]
  rw [ASt.new_set hib, putN_all (zs := [AV.nils, AV.nils, AV.nils, AV.nils]) (by rw [lv]; rfl)]
  have hB := chip_box hR hF hle hib
  generalize s1.new ib (.cells vs) = s2 at hB
  clear hR hF hle hib lv lf
  simp only [↓Bp, Bq, Bs, ↓aop.eq_28, ↓aop.eq_30, Nat.reduceEqDiff, Nat.reduceAdd, Nat.reduceMul, Nat.reduceSub, Nat.reduceLeDiff, Nat.reduceLT, Int.reduceLT, Int.reduceLE, Int.reduceEq, Int.reduceToNat, Int.reduceAdd, Int.reduceSub, Int.reduceNeg, ↓reduceIte, reduceCtorEq, ↓C.catnaplaw4_ConfFirst_W, C.catnaplaw4_ConfFirst_B, C.catnaplaw4_ConfFirst]
  refine (pick_spec ha (n := 6) (by omega)).mono ?_
  rintro r s3 ⟨rfl, rfl⟩
  simp only [↓Bp, Bq, Bs, ↓aop.eq_28, ↓aop.eq_30, Nat.reduceEqDiff, Nat.reduceAdd, Nat.reduceMul, Nat.reduceSub, Nat.reduceLeDiff, Nat.reduceLT, Int.reduceLT, Int.reduceLE, Int.reduceEq, Int.reduceToNat, Int.reduceAdd, Int.reduceSub, Int.reduceNeg, ↓reduceIte, reduceCtorEq, ↓C.catnaplaw4_ConfFirst_W, C.catnaplaw4_ConfFirst_B, C.catnaplaw4_ConfFirst]
  refine (pick_spec hb (n := 6) (by omega)).mono ?_
  rintro r s3 ⟨rfl, rfl⟩
  simp only [↓Bp, Bq, Bs, ↓aop.eq_28, ↓aop.eq_30, Nat.reduceEqDiff, Nat.reduceAdd, Nat.reduceMul, Nat.reduceSub, Nat.reduceLeDiff, Nat.reduceLT, Int.reduceLT, Int.reduceLE, Int.reduceEq, Int.reduceToNat, Int.reduceAdd, Int.reduceSub, Int.reduceNeg, ↓reduceIte, reduceCtorEq, ↓C.catnaplaw4_ConfFirst_W, C.catnaplaw4_ConfFirst_B, C.catnaplaw4_ConfFirst]
  refine (pick_spec ha (n := 6) (by omega)).mono ?_
  rintro r s3 ⟨rfl, rfl⟩
  simp only [↓Bp, Bq, Bs, ↓aop.eq_28, ↓aop.eq_30, Nat.reduceEqDiff, Nat.reduceAdd, Nat.reduceMul, Nat.reduceSub, Nat.reduceLeDiff, Nat.reduceLT, Int.reduceLT, Int.reduceLE, Int.reduceEq, Int.reduceToNat, Int.reduceAdd, Int.reduceSub, Int.reduceNeg, ↓reduceIte, reduceCtorEq, ↓C.catnaplaw4_ConfFirst_W, C.catnaplaw4_ConfFirst_B, C.catnaplaw4_ConfFirst]
  refine (pick_spec hb (n := 6) (by omega)).mono ?_
  rintro r s3 ⟨rfl, rfl⟩
  have ha6 := pickI_lt a (n := 6) (by omega)
  have hb6 := pickI_lt b (n := 6) (by omega)
  generalize pickI a 6 = p at ha6
  generalize pickI b 6 = q at hb6
  obtain ⟨x, hx⟩ : ∃ x : Nat, (if (q : Int) < (p : Int) then (q : Int) else (p : Int)) = (x : Int) ∧ x = min p q := by
    refine ⟨min p q, ?_, rfl⟩
    split <;> omega
  obtain ⟨y, hy⟩ : ∃ y : Nat, (if (p : Int) < (q : Int) then (q : Int) else (p : Int)) = (y : Int) ∧ y = max p q := by
    refine ⟨max p q, ?_, rfl⟩
    split <;> omega
  have hxy : x ≤ y := by omega
  have hy5 : y ≤ 5 := by omega
  simp only [↓Bp, Bq, Bs, ↓aop.eq_28, ↓aop.eq_30, Nat.reduceEqDiff, Nat.reduceAdd, Nat.reduceMul, Nat.reduceSub, Nat.reduceLeDiff, Nat.reduceLT, Int.reduceLT, Int.reduceLE, Int.reduceEq, Int.reduceToNat, Int.reduceAdd, Int.reduceSub, Int.reduceNeg, ↓reduceIte, reduceCtorEq, ↓C.catnaplaw4_ConfFirst_W, C.catnaplaw4_ConfFirst_B, C.catnaplaw4_ConfFirst, hx.1, hy.1]
  clear hx hy ha hb
  refine awp_midB (fun w : Int => [(8, .ptr ib 0), (11, .int .i64 w)]) (fun w t => ∃ S', ChipBox s t ib S' ∧ S'.fine ∧ confErr S' = w) ?_ ?_
  rotate_left
  · rintro w t ⟨S', hB', hf, he⟩
    obtain ⟨b0, b1, b2, b3, L', hBL', hb', -⟩ := hB'.four
    simp only [↓Bp, Bq, Bs, ↓aop.eq_28, ↓aop.eq_30, Nat.reduceEqDiff, Nat.reduceAdd, Nat.reduceMul, Nat.reduceSub, Nat.reduceLeDiff, Nat.reduceLT, Int.reduceLT, Int.reduceLE, Int.reduceEq, Int.reduceToNat, Int.reduceAdd, Int.reduceSub, Int.reduceNeg, ↓reduceIte, reduceCtorEq, ↓C.catnaplaw4_ConfFirst_W, C.catnaplaw4_ConfFirst_B, C.catnaplaw4_ConfFirst, hb']
    refine (check_own hBL'.2.1 hf).mono ?_
    rintro r t2 ⟨rfl, rfl⟩
    simp only [↓Bp, Bq, Bs, ↓aop.eq_28, ↓aop.eq_30, Nat.reduceEqDiff, Nat.reduceAdd, Nat.reduceMul, Nat.reduceSub, Nat.reduceLeDiff, Nat.reduceLT, Int.reduceLT, Int.reduceLE, Int.reduceEq, Int.reduceToNat, Int.reduceAdd, Int.reduceSub, Int.reduceNeg, ↓reduceIte, reduceCtorEq, ↓C.catnaplaw4_ConfFirst_W, C.catnaplaw4_ConfFirst_B, C.catnaplaw4_ConfFirst, he]
  refine awp_loopK (fun p : Nat × Int => [(8, .ptr ib 0), (9, .int .i64 x), (10, .int .i64 y), (11, .int .i64 p.2), (12, .int .i64 p.1)])
    (fun p t => (p = (0, 0) ∧ ChipBox s t ib S) ∨ (p = (1, wantE y) ∧ ChipBox s t ib (fl x y S)) ∨ (p = (2, wantE x) ∧ ChipBox s t ib (fl x x (fl x y S)))) (fun p => 2 - p.1) (0, 0) rfl (.inl ⟨rfl, hB⟩) ?_
  have c0 : ((0 : Nat) : Int) = 0 := rfl
  have c1 : ((1 : Nat) : Int) = 1 := rfl
  rintro ⟨k, w⟩ t (⟨e, hB⟩ | ⟨e, hB⟩ | ⟨e, hB⟩) <;> cases e
  · simp only [↓Bp, Bq, Bs, ↓aop.eq_28, ↓aop.eq_30, Nat.reduceEqDiff, Nat.reduceAdd, Nat.reduceMul, Nat.reduceSub, Nat.reduceLeDiff, Nat.reduceLT, Int.reduceLT, Int.reduceLE, Int.reduceEq, Int.reduceToNat, Int.reduceAdd, Int.reduceSub, Int.reduceNeg, ↓reduceIte, reduceCtorEq, ↓C.catnaplaw4_ConfFirst_r10_w, C.catnaplaw4_ConfFirst_r10_b, ↓C.catnaplaw4_ConfFirst_c2_w, ↓C.catnaplaw4_ConfFirst_r14_w, C.catnaplaw4_ConfFirst_r14_b, ↓C.catnaplaw4_ConfFirst_c29_w, ↓C.catnaplaw4_ConfFirst_r13_w, C.catnaplaw4_ConfFirst_r13_b, ↓C.catnaplaw4_ConfFirst_c30_w, ↓C.catnaplaw4_ConfFirst_c31_w, ↓C.catnaplaw4_ConfFirst_r12_w, C.catnaplaw4_ConfFirst_r12_b, ↓C.catnaplaw4_ConfFirst_c32_w, ↓C.catnaplaw4_ConfFirst_r11_w, C.catnaplaw4_ConfFirst_r11_b, ↓C.catnaplaw4_ConfFirst_b33_w, ↓C.catnaplaw4_ConfFirst_c34_w, ↓C.catnaplaw4_ConfFirst_c35_w, ↓C.catnaplaw4_ConfFirst_r9_w, C.catnaplaw4_ConfFirst_r9_b, c0]
    rw [C.catnaplaw4_ConfFirst_c28_w, awp_keep]
    refine fst_step (k := 0) hk (Soc.asMany.refl S) hB hy5 fun t2 hB2 fr hfr => ?_
    simp only [↓Bp, Bq, Bs, ↓aop.eq_28, ↓aop.eq_30, Nat.reduceEqDiff, Nat.reduceAdd, Nat.reduceMul, Nat.reduceSub, Nat.reduceLeDiff, Nat.reduceLT, Int.reduceLT, Int.reduceLE, Int.reduceEq, Int.reduceToNat, Int.reduceAdd, Int.reduceSub, Int.reduceNeg, ↓reduceIte, reduceCtorEq]
    rw [C.catnaplaw4_ConfFirst_c2_w, awp_keep, hfr]
    have w1 : IntKind.i64.wrap (0 + 1) = ((1 : Nat) : Int) := by rw [wrap64] <;> omega
    simp only [↓Bp, Bq, Bs, ↓aop.eq_28, ↓aop.eq_30, Nat.reduceEqDiff, Nat.reduceAdd, Nat.reduceMul, Nat.reduceSub, Nat.reduceLeDiff, Nat.reduceLT, Int.reduceLT, Int.reduceLE, Int.reduceEq, Int.reduceToNat, Int.reduceAdd, Int.reduceSub, Int.reduceNeg, ↓reduceIte, reduceCtorEq, ↓C.catnaplaw4_ConfFirst_W, C.catnaplaw4_ConfFirst_B, C.catnaplaw4_ConfFirst, c0, w1]
    exact ⟨(1, wantE y), rfl, .inr (.inl ⟨rfl, hB2⟩), by simp⟩
  · simp only [↓Bp, Bq, Bs, ↓aop.eq_28, ↓aop.eq_30, Nat.reduceEqDiff, Nat.reduceAdd, Nat.reduceMul, Nat.reduceSub, Nat.reduceLeDiff, Nat.reduceLT, Int.reduceLT, Int.reduceLE, Int.reduceEq, Int.reduceToNat, Int.reduceAdd, Int.reduceSub, Int.reduceNeg, ↓reduceIte, reduceCtorEq, ↓C.catnaplaw4_ConfFirst_r10_w, C.catnaplaw4_ConfFirst_r10_b, ↓C.catnaplaw4_ConfFirst_c2_w, ↓C.catnaplaw4_ConfFirst_r14_w, C.catnaplaw4_ConfFirst_r14_b, ↓C.catnaplaw4_ConfFirst_c29_w, ↓C.catnaplaw4_ConfFirst_r13_w, C.catnaplaw4_ConfFirst_r13_b, ↓C.catnaplaw4_ConfFirst_c30_w, ↓C.catnaplaw4_ConfFirst_c31_w, ↓C.catnaplaw4_ConfFirst_r12_w, C.catnaplaw4_ConfFirst_r12_b, ↓C.catnaplaw4_ConfFirst_c32_w, ↓C.catnaplaw4_ConfFirst_r11_w, C.catnaplaw4_ConfFirst_r11_b, ↓C.catnaplaw4_ConfFirst_b33_w, ↓C.catnaplaw4_ConfFirst_c34_w, ↓C.catnaplaw4_ConfFirst_c35_w, ↓C.catnaplaw4_ConfFirst_r9_w, C.catnaplaw4_ConfFirst_r9_b, c1]
    rw [C.catnaplaw4_ConfFirst_c28_w, awp_keep]
    refine fst_step (k := 1) (x := x) hk ((Soc.asMany.refl S).fl x y) hB (show x ≤ 5 by omega) fun t2 hB2 fr hfr => ?_
    simp only [↓Bp, Bq, Bs, ↓aop.eq_28, ↓aop.eq_30, Nat.reduceEqDiff, Nat.reduceAdd, Nat.reduceMul, Nat.reduceSub, Nat.reduceLeDiff, Nat.reduceLT, Int.reduceLT, Int.reduceLE, Int.reduceEq, Int.reduceToNat, Int.reduceAdd, Int.reduceSub, Int.reduceNeg, ↓reduceIte, reduceCtorEq]
    rw [C.catnaplaw4_ConfFirst_c2_w, awp_keep, hfr]
    have w1 : IntKind.i64.wrap (1 + 1) = ((2 : Nat) : Int) := by rw [wrap64] <;> omega
    simp only [↓Bp, Bq, Bs, ↓aop.eq_28, ↓aop.eq_30, Nat.reduceEqDiff, Nat.reduceAdd, Nat.reduceMul, Nat.reduceSub, Nat.reduceLeDiff, Nat.reduceLT, Int.reduceLT, Int.reduceLE, Int.reduceEq, Int.reduceToNat, Int.reduceAdd, Int.reduceSub, Int.reduceNeg, ↓reduceIte, reduceCtorEq, ↓C.catnaplaw4_ConfFirst_W, C.catnaplaw4_ConfFirst_B, C.catnaplaw4_ConfFirst, c1, w1]
    exact ⟨(2, wantE x), rfl, .inr (.inr ⟨rfl, hB2⟩), by simp⟩
  · have c2 : ((2 : Nat) : Int) = 2 := rfl
    simp only [↓Bp, Bq, Bs, ↓aop.eq_28, ↓aop.eq_30, Nat.reduceEqDiff, Nat.reduceAdd, Nat.reduceMul, Nat.reduceSub, Nat.reduceLeDiff, Nat.reduceLT, Int.reduceLT, Int.reduceLE, Int.reduceEq, Int.reduceToNat, Int.reduceAdd, Int.reduceSub, Int.reduceNeg, ↓reduceIte, reduceCtorEq, ↓C.catnaplaw4_ConfFirst_W, C.catnaplaw4_ConfFirst_B, C.catnaplaw4_ConfFirst, c2]
    refine ⟨wantE x, rfl, _, hB, ?_, fl_first hk hxy hy5⟩
    intro c hc
    have key : ∀ (i : Nat) (U : Soc), U.fine → (fl x i U).fine := fun i U hU => by
      match i with
      | 0 | 2 | 3 | 4 => exact hU
      | 1 =>
        intro c hc
        obtain ⟨j, hj, rfl⟩ := List.getElem_of_mem hc
        simp only [fl, List.getElem_modify]
        have hj' : j < U.clocks.length := by simpa [fl] using hj
        have := hU _ (List.getElem_mem hj')
        split <;> simpa using this
      | n + 5 => exact hU
    exact key _ _ (key _ _ hs.fine) c hc
end Go.Proofs.Ytjamidgdhmjhaaa.Cn
