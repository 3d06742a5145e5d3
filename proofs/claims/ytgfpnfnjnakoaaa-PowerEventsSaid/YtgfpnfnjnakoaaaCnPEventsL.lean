/- Power: PowerEvents, all of it. -/
import Derived.Test.YtgfpnfnjnakoaaaCnPEventsM
set_option linter.unusedSimpArgs false
set_option linter.unusedVariables false
set_option linter.unusedSectionVars false
namespace Go.Proofs.Ytgfpnfnjnakoaaa.Cn
open Go Go.Proofs

section
variable {st : ASt} {ib ix p ig : Nat} {S : Soc} (hS : S.like)
include hS
/-- One act. -/
theorem ev_act {s : ASt} {gs : List Gd} {E : List Int} {k o : Nat} {va : AV} {i0 : Nat} (hk : k < gs.length) (h : ESt st s ib ix p ig S gs E) (hI : GInv S.doms gs) (hE : EInv gs E) {Q : IExit → AFr → ASt → Prop}
    (hQ : ∀ fr s' gs' E', ESt st s' ib ix p ig S gs' E' → GInv S.doms gs' → EInv gs' E' → fr.keep [1, 6, 7, 9, 10] = [(1, va), (6, .ptr ib 0), (7, .ptr p 0), (9, .sl 1 ix 0 S.doms.length), (10, .int .i64 i0)] → Q .normal fr s') :
    awp Try.prog C.catnaplaw7_PowerEvents_c55 Q [(1, va), (6, .ptr ib 0), (7, .ptr p 0), (9, .sl 1 ix 0 S.doms.length), (10, .int .i64 i0), (11, .int .i64 k), (74, .int .i64 o)] s := by
  by_cases o0 : o < 2
  · have c01 : o = 0 ∨ o = 1 := by omega
    rcases c01 with rfl | rfl
    · simp only [↓Bp, Bq, Bs, ↓aop.eq_28, ↓aop.eq_30, Nat.reduceEqDiff, Nat.reduceAdd, Nat.reduceMul, Nat.reduceSub, Nat.reduceLeDiff, Nat.reduceLT, Int.reduceLT, Int.reduceLE, Int.reduceEq, Int.reduceToNat, Int.reduceAdd, Int.reduceSub, Int.reduceNeg, ↓reduceIte, reduceCtorEq, ↓C.catnaplaw7_PowerEvents_W, C.catnaplaw7_PowerEvents_B, C.catnaplaw7_PowerEvents]
      refine (up_spec h.w.g hI.above hk).mono ?_
      rintro r s' ⟨rfl, rfl⟩
      simp only [↓Bp, Bq, Bs, ↓aop.eq_28, ↓aop.eq_30, Nat.reduceEqDiff, Nat.reduceAdd, Nat.reduceMul, Nat.reduceSub, Nat.reduceLeDiff, Nat.reduceLT, Int.reduceLT, Int.reduceLE, Int.reduceEq, Int.reduceToNat, Int.reduceAdd, Int.reduceSub, Int.reduceNeg, ↓reduceIte, reduceCtorEq, ↓C.catnaplaw7_PowerEvents_W, C.catnaplaw7_PowerEvents_B, C.catnaplaw7_PowerEvents]
      exact hQ _ _ _ _ (h.set (upG_len hk)) (hI.up hk) (hE.up hk) rfl
    · have T1 : ((1 : Nat) : Int) = 1 := rfl
      simp only [↓Bp, Bq, Bs, ↓aop.eq_28, ↓aop.eq_30, Nat.reduceEqDiff, Nat.reduceAdd, Nat.reduceMul, Nat.reduceSub, Nat.reduceLeDiff, Nat.reduceLT, Int.reduceLT, Int.reduceLE, Int.reduceEq, Int.reduceToNat, Int.reduceAdd, Int.reduceSub, Int.reduceNeg, ↓reduceIte, reduceCtorEq, ↓C.catnaplaw7_PowerEvents_W, C.catnaplaw7_PowerEvents_B, C.catnaplaw7_PowerEvents, T1]
      refine (up_spec h.w.g hI.above hk).mono ?_
      rintro r s' ⟨rfl, rfl⟩
      simp only [↓Bp, Bq, Bs, ↓aop.eq_28, ↓aop.eq_30, Nat.reduceEqDiff, Nat.reduceAdd, Nat.reduceMul, Nat.reduceSub, Nat.reduceLeDiff, Nat.reduceLT, Int.reduceLT, Int.reduceLE, Int.reduceEq, Int.reduceToNat, Int.reduceAdd, Int.reduceSub, Int.reduceNeg, ↓reduceIte, reduceCtorEq, ↓C.catnaplaw7_PowerEvents_W, C.catnaplaw7_PowerEvents_B, C.catnaplaw7_PowerEvents]
      exact hQ _ _ _ _ (h.set (upG_len hk)) (hI.up hk) (hE.up hk) rfl
  have T0 := eq_false (show ¬ (o : Int) = 0 by omega)
  have T1 := eq_false (show ¬ (o : Int) = 1 by omega)
  by_cases o2 : o = 2
  · have T2 := eq_true (show (o : Int) = 2 by omega)
    simp only [↓Bp, Bq, Bs, ↓aop.eq_28, ↓aop.eq_30, Nat.reduceEqDiff, Nat.reduceAdd, Nat.reduceMul, Nat.reduceSub, Nat.reduceLeDiff, Nat.reduceLT, Int.reduceLT, Int.reduceLE, Int.reduceEq, Int.reduceToNat, Int.reduceAdd, Int.reduceSub, Int.reduceNeg, ↓reduceIte, reduceCtorEq, ↓C.catnaplaw7_PowerEvents_W, C.catnaplaw7_PowerEvents_B, C.catnaplaw7_PowerEvents, T0, T1, T2]
    refine (down_spec h.w.g hk false).mono ?_
    rintro r s' ⟨rfl, rfl⟩
    simp only [↓Bp, Bq, Bs, ↓aop.eq_28, ↓aop.eq_30, Nat.reduceEqDiff, Nat.reduceAdd, Nat.reduceMul, Nat.reduceSub, Nat.reduceLeDiff, Nat.reduceLT, Int.reduceLT, Int.reduceLE, Int.reduceEq, Int.reduceToNat, Int.reduceAdd, Int.reduceSub, Int.reduceNeg, ↓reduceIte, reduceCtorEq, ↓C.catnaplaw7_PowerEvents_W, C.catnaplaw7_PowerEvents_B, C.catnaplaw7_PowerEvents]
    exact hQ _ _ _ _ (h.set (downG_len hk false)) (hI.down hk false) (hE.down hk false) rfl
  have T2 := eq_false (show ¬ (o : Int) = 2 by omega)
  by_cases o3 : o = 3
  · have T3 := eq_true (show (o : Int) = 3 by omega)
    simp only [↓Bp, Bq, Bs, ↓aop.eq_28, ↓aop.eq_30, Nat.reduceEqDiff, Nat.reduceAdd, Nat.reduceMul, Nat.reduceSub, Nat.reduceLeDiff, Nat.reduceLT, Int.reduceLT, Int.reduceLE, Int.reduceEq, Int.reduceToNat, Int.reduceAdd, Int.reduceSub, Int.reduceNeg, ↓reduceIte, reduceCtorEq, ↓C.catnaplaw7_PowerEvents_W, C.catnaplaw7_PowerEvents_B, C.catnaplaw7_PowerEvents, T0, T1, T2, T3]
    refine (down_spec h.w.g hk true).mono ?_
    rintro r s' ⟨rfl, rfl⟩
    simp only [↓Bp, Bq, Bs, ↓aop.eq_28, ↓aop.eq_30, Nat.reduceEqDiff, Nat.reduceAdd, Nat.reduceMul, Nat.reduceSub, Nat.reduceLeDiff, Nat.reduceLT, Int.reduceLT, Int.reduceLE, Int.reduceEq, Int.reduceToNat, Int.reduceAdd, Int.reduceSub, Int.reduceNeg, ↓reduceIte, reduceCtorEq, ↓C.catnaplaw7_PowerEvents_W, C.catnaplaw7_PowerEvents_B, C.catnaplaw7_PowerEvents]
    exact hQ _ _ _ _ (h.set (downG_len hk true)) (hI.down hk true) (hE.down hk true) rfl
  have T3 := eq_false (show ¬ (o : Int) = 3 by omega)
  simp only [↓Bp, Bq, Bs, ↓aop.eq_28, ↓aop.eq_30, Nat.reduceEqDiff, Nat.reduceAdd, Nat.reduceMul, Nat.reduceSub, Nat.reduceLeDiff, Nat.reduceLT, Int.reduceLT, Int.reduceLE, Int.reduceEq, Int.reduceToNat, Int.reduceAdd, Int.reduceSub, Int.reduceNeg, ↓reduceIte, reduceCtorEq, ↓C.catnaplaw7_PowerEvents_W, C.catnaplaw7_PowerEvents_B, C.catnaplaw7_PowerEvents, T0, T1, T2, T3]
  refine (gtick_spec h.w.g hI.low).mono ?_
  rintro r s' ⟨rfl, rfl⟩
  have h2 := h.set (gtickL_len gs)
  generalize s.set ig (gsC (gtickL gs)) = s2 at h2
  simp only [↓Bp, Bq, Bs, ↓aop.eq_28, ↓aop.eq_30, Nat.reduceEqDiff, Nat.reduceAdd, Nat.reduceMul, Nat.reduceSub, Nat.reduceLeDiff, Nat.reduceLT, Int.reduceLT, Int.reduceLE, Int.reduceEq, Int.reduceToNat, Int.reduceAdd, Int.reduceSub, Int.reduceNeg, ↓reduceIte, reduceCtorEq, ↓C.catnaplaw7_PowerEvents_r44_w, C.catnaplaw7_PowerEvents_r44_b, ↓C.catnaplaw7_PowerEvents_c1_w, ↓C.catnaplaw7_PowerEvents_r9_w, C.catnaplaw7_PowerEvents_r9_b, ↓C.catnaplaw7_PowerEvents_c2_w, ↓C.catnaplaw7_PowerEvents_r40_w, C.catnaplaw7_PowerEvents_r40_b, ↓C.catnaplaw7_PowerEvents_c3_w, ↓C.catnaplaw7_PowerEvents_r43_w, C.catnaplaw7_PowerEvents_r43_b, ↓C.catnaplaw7_PowerEvents_c4_w, ↓C.catnaplaw7_PowerEvents_c5_w, ↓C.catnaplaw7_PowerEvents_r42_w, C.catnaplaw7_PowerEvents_r42_b, ↓C.catnaplaw7_PowerEvents_c6_w, ↓C.catnaplaw7_PowerEvents_r41_w, C.catnaplaw7_PowerEvents_r41_b, ↓C.catnaplaw7_PowerEvents_b7_w, ↓C.catnaplaw7_PowerEvents_c8_w, ↓C.catnaplaw7_PowerEvents_c9_w, ↓C.catnaplaw7_PowerEvents_r39_w, C.catnaplaw7_PowerEvents_r39_b, ↓C.catnaplaw7_PowerEvents_b11_w, ↓C.catnaplaw7_PowerEvents_c12_w, ↓C.catnaplaw7_PowerEvents_r38_w, C.catnaplaw7_PowerEvents_r38_b, ↓C.catnaplaw7_PowerEvents_c13_w, ↓C.catnaplaw7_PowerEvents_r33_w, C.catnaplaw7_PowerEvents_r33_b, ↓C.catnaplaw7_PowerEvents_r35_w, C.catnaplaw7_PowerEvents_r35_b, ↓C.catnaplaw7_PowerEvents_r37_w, C.catnaplaw7_PowerEvents_r37_b, ↓C.catnaplaw7_PowerEvents_r12_w, C.catnaplaw7_PowerEvents_r12_b, ↓C.catnaplaw7_PowerEvents_c43_w, ↓C.catnaplaw7_PowerEvents_c44_w, ↓C.catnaplaw7_PowerEvents_c45_w, ↓C.catnaplaw7_PowerEvents_r36_w, C.catnaplaw7_PowerEvents_r36_b, ↓C.catnaplaw7_PowerEvents_c46_w, ↓C.catnaplaw7_PowerEvents_c47_w, ↓C.catnaplaw7_PowerEvents_c48_w, ↓C.catnaplaw7_PowerEvents_r34_w, C.catnaplaw7_PowerEvents_r34_b, ↓C.catnaplaw7_PowerEvents_c49_w, ↓C.catnaplaw7_PowerEvents_c50_w, ↓C.catnaplaw7_PowerEvents_c51_w, ↓C.catnaplaw7_PowerEvents_r32_w, C.catnaplaw7_PowerEvents_r32_b, ↓C.catnaplaw7_PowerEvents_c52_w, ↓C.catnaplaw7_PowerEvents_c53_w, ↓C.catnaplaw7_PowerEvents_r31_w, C.catnaplaw7_PowerEvents_r31_b, ↓C.catnaplaw7_PowerEvents_b54_w, ↓C.catnaplaw7_PowerEvents_c55_w, ↓C.catnaplaw7_PowerEvents_r11_w, C.catnaplaw7_PowerEvents_r11_b, ↓C.catnaplaw7_PowerEvents_c56_w, ↓C.catnaplaw7_PowerEvents_r10_w, C.catnaplaw7_PowerEvents_r10_b, ↓C.catnaplaw7_PowerEvents_b57_w, ↓C.catnaplaw7_PowerEvents_c58_w, ↓C.catnaplaw7_PowerEvents_c59_w, ↓C.catnaplaw7_PowerEvents_r8_w, C.catnaplaw7_PowerEvents_r8_b, ↓C.catnaplaw7_PowerEvents_b61_w, ↓C.catnaplaw7_PowerEvents_c62_w, ↓C.catnaplaw7_PowerEvents_r7_w, C.catnaplaw7_PowerEvents_r7_b, ↓C.catnaplaw7_PowerEvents_c63_w, ↓C.catnaplaw7_PowerEvents_r6_w, C.catnaplaw7_PowerEvents_r6_b, ↓C.catnaplaw7_PowerEvents_c64_w, ↓C.catnaplaw7_PowerEvents_r5_w, C.catnaplaw7_PowerEvents_r5_b, ↓C.catnaplaw7_PowerEvents_c65_w, ↓C.catnaplaw7_PowerEvents_c66_w, ↓C.catnaplaw7_PowerEvents_r4_w, C.catnaplaw7_PowerEvents_r4_b, ↓C.catnaplaw7_PowerEvents_c67_w, ↓C.catnaplaw7_PowerEvents_r3_w, C.catnaplaw7_PowerEvents_r3_b, ↓C.catnaplaw7_PowerEvents_c68_w, ↓C.catnaplaw7_PowerEvents_r2_w, C.catnaplaw7_PowerEvents_r2_b, ↓C.catnaplaw7_PowerEvents_c69_w, ↓C.catnaplaw7_PowerEvents_r1_w, C.catnaplaw7_PowerEvents_r1_b, ↓C.catnaplaw7_PowerEvents_c70_w, ↓C.catnaplaw7_PowerEvents_r0_w, C.catnaplaw7_PowerEvents_r0_b, C.catnaplaw7_PowerEvents]
  rw [C.catnaplaw7_PowerEvents_c42_w, awp_keep]
  refine ev_told hS (ig := ig) (va := va) (i0 := i0) h2 hI hE fun fr s' E' h' hE' e => ?_
  exact hQ fr s' _ _ h' hI.tick hE' e
theorem ev_loop {s : ASt} {acts : List Pair} (hac : ∀ x ∈ acts, I64 x.a ∧ I64 x.b) (hal : acts.length ≤ 120) {gs : List Gd} {E : List Int} (h : ESt st s ib ix p ig S gs E) (hI : GInv S.doms gs) (hE : EInv gs E) :
    awp Try.prog C.catnaplaw7_PowerEvents_c63 (Post [.slot 4] fun r s => r = .bool true ∧ st.le s)
      [(1, .isl 2 (acts.flatMap encPair) acts.length), (6, .ptr ib 0), (7, .ptr p 0), (9, .sl 1 ix 0 S.doms.length)] s := by
  have hnd := hS.nd
  simp only [↓Bp, Bq, Bs, ↓aop.eq_28, ↓aop.eq_30, Nat.reduceEqDiff, Nat.reduceAdd, Nat.reduceMul, Nat.reduceSub, Nat.reduceLeDiff, Nat.reduceLT, Int.reduceLT, Int.reduceLE, Int.reduceEq, Int.reduceToNat, Int.reduceAdd, Int.reduceSub, Int.reduceNeg, ↓reduceIte, reduceCtorEq, ↓C.catnaplaw7_PowerEvents_W, C.catnaplaw7_PowerEvents_B, C.catnaplaw7_PowerEvents]
  refine awp_midB (fun _ : Unit => ([] : AFr)) (fun _ s => st.le s) ?_ ?_
  · refine awp_loopK (fun t : Nat => [(1, .isl 2 (acts.flatMap encPair) acts.length), (6, .ptr ib 0), (7, .ptr p 0), (9, .sl 1 ix 0 S.doms.length), (10, .int .i64 t)])
      (fun t s => t ≤ acts.length ∧ ∃ gs E, ESt st s ib ix p ig S gs E ∧ GInv S.doms gs ∧ EInv gs E) (fun t => acts.length - t) 0 rfl ⟨Nat.zero_le _, gs, E, h, hI, hE⟩ ?_
    clear h hI hE gs E s
    rintro t s ⟨ht, gs, E, h, hI, hE⟩
    have hb := h.w.hb
    by_cases htl : t < acts.length
    rotate_left
    · have htl' : ¬ (t : Int) < (acts.length : Nat) := by omega
      simp only [↓Bp, Bq, Bs, ↓aop.eq_28, ↓aop.eq_30, Nat.reduceEqDiff, Nat.reduceAdd, Nat.reduceMul, Nat.reduceSub, Nat.reduceLeDiff, Nat.reduceLT, Int.reduceLT, Int.reduceLE, Int.reduceEq, Int.reduceToNat, Int.reduceAdd, Int.reduceSub, Int.reduceNeg, ↓reduceIte, reduceCtorEq, ↓C.catnaplaw7_PowerEvents_W, C.catnaplaw7_PowerEvents_B, C.catnaplaw7_PowerEvents, htl']
      exact ⟨(), h.w.le⟩
    have htl' : (t : Int) < (acts.length : Nat) := by omega
    have hw := wsucc htl (by omega)
    have hz2 : (0:Int) ≤ (t : Int) ∧ (t : Int) < (acts.length : Nat) := by omega
    have hg := gpairs_get acts htl
    have hIa := hac _ (List.getElem_mem htl)
    simp only [↓Bp, Bq, Bs, ↓aop.eq_28, ↓aop.eq_30, Nat.reduceEqDiff, Nat.reduceAdd, Nat.reduceMul, Nat.reduceSub, Nat.reduceLeDiff, Nat.reduceLT, Int.reduceLT, Int.reduceLE, Int.reduceEq, Int.reduceToNat, Int.reduceAdd, Int.reduceSub, Int.reduceNeg, ↓reduceIte, reduceCtorEq, ↓C.catnaplaw7_PowerEvents_W, C.catnaplaw7_PowerEvents_B, C.catnaplaw7_PowerEvents, htl', hb, Soc.cells, Soc.domV, hz2, Int.toNat_natCast, hg.1, hg.2]
    refine (pick_spec hIa.2 (n := S.doms.length) (by omega)).mono ?_
    rintro r s ⟨rfl, rfl⟩
    have hkl := pickI_lt acts[t].b (n := S.doms.length) (by omega)
    generalize pickI acts[t].b S.doms.length = k at hkl
    have hlen := hI.len
    have hk : k < gs.length := by omega
    simp only [↓Bp, Bq, Bs, ↓aop.eq_28, ↓aop.eq_30, Nat.reduceEqDiff, Nat.reduceAdd, Nat.reduceMul, Nat.reduceSub, Nat.reduceLeDiff, Nat.reduceLT, Int.reduceLT, Int.reduceLE, Int.reduceEq, Int.reduceToNat, Int.reduceAdd, Int.reduceSub, Int.reduceNeg, ↓reduceIte, reduceCtorEq, ↓C.catnaplaw7_PowerEvents_W, C.catnaplaw7_PowerEvents_B, C.catnaplaw7_PowerEvents, hz2, Int.toNat_natCast, hg.1, hg.2]
    refine (pick_spec hIa.1 (n := 7) (by omega)).mono ?_
    rintro r s ⟨rfl, rfl⟩
    generalize pickI acts[t].a 7 = o
    simp only [↓Bp, Bq, Bs, ↓aop.eq_28, ↓aop.eq_30, Nat.reduceEqDiff, Nat.reduceAdd, Nat.reduceMul, Nat.reduceSub, Nat.reduceLeDiff, Nat.reduceLT, Int.reduceLT, Int.reduceLE, Int.reduceEq, Int.reduceToNat, Int.reduceAdd, Int.reduceSub, Int.reduceNeg, ↓reduceIte, reduceCtorEq, ↓C.catnaplaw7_PowerEvents_r44_w, C.catnaplaw7_PowerEvents_r44_b, ↓C.catnaplaw7_PowerEvents_c1_w, ↓C.catnaplaw7_PowerEvents_r9_w, C.catnaplaw7_PowerEvents_r9_b, ↓C.catnaplaw7_PowerEvents_c2_w, ↓C.catnaplaw7_PowerEvents_r40_w, C.catnaplaw7_PowerEvents_r40_b, ↓C.catnaplaw7_PowerEvents_c3_w, ↓C.catnaplaw7_PowerEvents_r43_w, C.catnaplaw7_PowerEvents_r43_b, ↓C.catnaplaw7_PowerEvents_c4_w, ↓C.catnaplaw7_PowerEvents_c5_w, ↓C.catnaplaw7_PowerEvents_r42_w, C.catnaplaw7_PowerEvents_r42_b, ↓C.catnaplaw7_PowerEvents_c6_w, ↓C.catnaplaw7_PowerEvents_r41_w, C.catnaplaw7_PowerEvents_r41_b, ↓C.catnaplaw7_PowerEvents_b7_w, ↓C.catnaplaw7_PowerEvents_c8_w, ↓C.catnaplaw7_PowerEvents_c9_w, ↓C.catnaplaw7_PowerEvents_r39_w, C.catnaplaw7_PowerEvents_r39_b, ↓C.catnaplaw7_PowerEvents_b11_w, ↓C.catnaplaw7_PowerEvents_c12_w, ↓C.catnaplaw7_PowerEvents_r38_w, C.catnaplaw7_PowerEvents_r38_b, ↓C.catnaplaw7_PowerEvents_c13_w, ↓C.catnaplaw7_PowerEvents_r11_w, C.catnaplaw7_PowerEvents_r11_b, ↓C.catnaplaw7_PowerEvents_c56_w, ↓C.catnaplaw7_PowerEvents_r10_w, C.catnaplaw7_PowerEvents_r10_b, ↓C.catnaplaw7_PowerEvents_b57_w, ↓C.catnaplaw7_PowerEvents_c58_w, ↓C.catnaplaw7_PowerEvents_c59_w, ↓C.catnaplaw7_PowerEvents_r8_w, C.catnaplaw7_PowerEvents_r8_b, ↓C.catnaplaw7_PowerEvents_b61_w, ↓C.catnaplaw7_PowerEvents_c62_w, ↓C.catnaplaw7_PowerEvents_r7_w, C.catnaplaw7_PowerEvents_r7_b, ↓C.catnaplaw7_PowerEvents_c63_w, ↓C.catnaplaw7_PowerEvents_r6_w, C.catnaplaw7_PowerEvents_r6_b, ↓C.catnaplaw7_PowerEvents_c64_w, ↓C.catnaplaw7_PowerEvents_r5_w, C.catnaplaw7_PowerEvents_r5_b, ↓C.catnaplaw7_PowerEvents_c65_w, ↓C.catnaplaw7_PowerEvents_c66_w, ↓C.catnaplaw7_PowerEvents_r4_w, C.catnaplaw7_PowerEvents_r4_b, ↓C.catnaplaw7_PowerEvents_c67_w, ↓C.catnaplaw7_PowerEvents_r3_w, C.catnaplaw7_PowerEvents_r3_b, ↓C.catnaplaw7_PowerEvents_c68_w, ↓C.catnaplaw7_PowerEvents_r2_w, C.catnaplaw7_PowerEvents_r2_b, ↓C.catnaplaw7_PowerEvents_c69_w, ↓C.catnaplaw7_PowerEvents_r1_w, C.catnaplaw7_PowerEvents_r1_b, ↓C.catnaplaw7_PowerEvents_c70_w, ↓C.catnaplaw7_PowerEvents_r0_w, C.catnaplaw7_PowerEvents_r0_b, C.catnaplaw7_PowerEvents]
    rw [C.catnaplaw7_PowerEvents_c55_w, awp_keep]
    refine ev_act hS (ig := ig) (va := .isl 2 (acts.flatMap encPair) acts.length) hk h hI hE fun fr s' gs' E' h' hI' hE' e => ?_
    show awp Try.prog C.catnaplaw7_PowerEvents_c13 _ fr s'
    rw [C.catnaplaw7_PowerEvents_c13_w, awp_keep, e]
    refine ev_look hS (ig := ig) (va := .isl 2 (acts.flatMap encPair) acts.length) h' hI' hE' fun fr e => ?_
    show awp Try.prog C.catnaplaw7_PowerEvents_c2 _ fr s'
    rw [C.catnaplaw7_PowerEvents_c2_w, awp_keep, e]
    simp only [↓Bp, Bq, Bs, ↓aop.eq_28, ↓aop.eq_30, Nat.reduceEqDiff, Nat.reduceAdd, Nat.reduceMul, Nat.reduceSub, Nat.reduceLeDiff, Nat.reduceLT, Int.reduceLT, Int.reduceLE, Int.reduceEq, Int.reduceToNat, Int.reduceAdd, Int.reduceSub, Int.reduceNeg, ↓reduceIte, reduceCtorEq, ↓C.catnaplaw7_PowerEvents_W, C.catnaplaw7_PowerEvents_B, C.catnaplaw7_PowerEvents, hw]
    exact ⟨t + 1, rfl, ⟨htl, _, _, h', hI', hE'⟩, by omega⟩
  · clear h hI hE gs s
    rintro - s h
    simp only [↓Bp, Bq, Bs, ↓aop.eq_28, ↓aop.eq_30, Nat.reduceEqDiff, Nat.reduceAdd, Nat.reduceMul, Nat.reduceSub, Nat.reduceLeDiff, Nat.reduceLT, Int.reduceLT, Int.reduceLE, Int.reduceEq, Int.reduceToNat, Int.reduceAdd, Int.reduceSub, Int.reduceNeg, ↓reduceIte, reduceCtorEq, ↓C.catnaplaw7_PowerEvents_W, C.catnaplaw7_PowerEvents_B, C.catnaplaw7_PowerEvents]
    exact h
end
theorem powerevents_spec {st : ASt} {l : List Int} {acts : List Pair} (hl : ∀ x ∈ l, -9223372036854775808 ≤ x ∧ x ≤ 9223372036854775807) (hll : l.length ≤ 9223372036854775807)
    (hac : ∀ x ∈ acts, I64 x.a ∧ I64 x.b) (hal : acts.length ≤ 9223372036854775807) :
    ACalls Try.prog F.catnaplaw7_PowerEvents [row l, .isl 2 (acts.flatMap encPair) acts.length] st fun r s => r = .bool true ∧ s = st := by
  refine ACalls.gc (Q' := fun r s => r = .bool true ∧ st.le s) (calls_of_awp L.catnaplaw7_PowerEvents rfl ?_) (fun v s ⟨h, hl⟩ => ⟨st, hl, h, rfl⟩)
  simp only [↓Bp, Bq, Bs, ↓aop.eq_28, ↓aop.eq_30, Nat.reduceEqDiff, Nat.reduceAdd, Nat.reduceMul, Nat.reduceSub, Nat.reduceLeDiff, Nat.reduceLT, Int.reduceLT, Int.reduceLE, Int.reduceEq, Int.reduceToNat, Int.reduceAdd, Int.reduceSub, Int.reduceNeg, ↓reduceIte, reduceCtorEq, ↓C.catnaplaw7_PowerEvents_W, C.catnaplaw7_PowerEvents_B, C.catnaplaw7_PowerEvents]
  refine (gshown_spec st).mono ?_
  rintro r s ⟨rfl, rfl⟩
  simp only [↓Bp, Bq, Bs, ↓aop.eq_28, ↓aop.eq_30, Nat.reduceEqDiff, Nat.reduceAdd, Nat.reduceMul, Nat.reduceSub, Nat.reduceLeDiff, Nat.reduceLT, Int.reduceLT, Int.reduceLE, Int.reduceEq, Int.reduceToNat, Int.reduceAdd, Int.reduceSub, Int.reduceNeg, ↓reduceIte, reduceCtorEq, ↓C.catnaplaw7_PowerEvents_W, C.catnaplaw7_PowerEvents_B, C.catnaplaw7_PowerEvents]
  refine (chip_frz hl hll).mono ?_
  rintro r s ⟨rfl, rfl⟩
  have hS := chipS_like l
  generalize chipS l = S at hS
  have hnd := hS.nd
  have l4 : S.cells.length = 4 := rfl
  have e4 : AV.agg (List.take 4 S.cells) = .agg S.cells := rfl
  have f4 : allLeaf S.cells = true := rfl
  simp only [↓Bp, Bq, Bs, ↓aop.eq_28, ↓aop.eq_30, Nat.reduceEqDiff, Nat.reduceAdd, Nat.reduceMul, Nat.reduceSub, Nat.reduceLeDiff, Nat.reduceLT, Int.reduceLT, Int.reduceLE, Int.reduceEq, Int.reduceToNat, Int.reduceAdd, Int.reduceSub, Int.reduceNeg, ↓reduceIte, reduceCtorEq, ↓C.catnaplaw7_PowerEvents_r2_w, C.catnaplaw7_PowerEvents_r2_b, ↓C.catnaplaw7_PowerEvents_c69_w, ↓C.catnaplaw7_PowerEvents_r1_w, C.catnaplaw7_PowerEvents_r1_b, ↓C.catnaplaw7_PowerEvents_c70_w, ↓C.catnaplaw7_PowerEvents_r0_w, C.catnaplaw7_PowerEvents_r0_b, C.catnaplaw7_PowerEvents, l4, f4]
  rintro ib hib
  simp only [↓Bp, Bq, Bs, ↓aop.eq_28, ↓aop.eq_30, Nat.reduceEqDiff, Nat.reduceAdd, Nat.reduceMul, Nat.reduceSub, Nat.reduceLeDiff, Nat.reduceLT, Int.reduceLT, Int.reduceLE, Int.reduceEq, Int.reduceToNat, Int.reduceAdd, Int.reduceSub, Int.reduceNeg, ↓reduceIte, reduceCtorEq, ↓C.catnaplaw7_PowerEvents_r2_w, C.catnaplaw7_PowerEvents_r2_b, ↓C.catnaplaw7_PowerEvents_c69_w, ↓C.catnaplaw7_PowerEvents_r1_w, C.catnaplaw7_PowerEvents_r1_b, ↓C.catnaplaw7_PowerEvents_c70_w, ↓C.catnaplaw7_PowerEvents_r0_w, C.catnaplaw7_PowerEvents_r0_b, C.catnaplaw7_PowerEvents, hib, l4, f4]
  rw [ASt.new_set hib, show putN [AV.nils, AV.nils, AV.nils, AV.nils] 0 S.cells = S.cells from putN_all rfl]
  simp only [↓Bp, Bq, Bs, ↓aop.eq_28, ↓aop.eq_30, Nat.reduceEqDiff, Nat.reduceAdd, Nat.reduceMul, Nat.reduceSub, Nat.reduceLeDiff, Nat.reduceLT, Int.reduceLT, Int.reduceLE, Int.reduceEq, Int.reduceToNat, Int.reduceAdd, Int.reduceSub, Int.reduceNeg, ↓reduceIte, reduceCtorEq, ↓C.catnaplaw7_PowerEvents_W, C.catnaplaw7_PowerEvents_B, C.catnaplaw7_PowerEvents, hib, l4, e4]
  refine (gstart_spec hib hS).mono ?_
  rintro r s1 ⟨p, ig, rfl, h⟩
  by_cases hac0 : acts.length ≤ 120
  rotate_left
  · have hz0 : (120 : Int) < (acts.length : Nat) := by omega
    simp only [↓Bp, Bq, Bs, ↓aop.eq_28, ↓aop.eq_30, Nat.reduceEqDiff, Nat.reduceAdd, Nat.reduceMul, Nat.reduceSub, Nat.reduceLeDiff, Nat.reduceLT, Int.reduceLT, Int.reduceLE, Int.reduceEq, Int.reduceToNat, Int.reduceAdd, Int.reduceSub, Int.reduceNeg, ↓reduceIte, reduceCtorEq, ↓C.catnaplaw7_PowerEvents_W, C.catnaplaw7_PowerEvents_B, C.catnaplaw7_PowerEvents, hz0]
    exact h.le
  have hz0 : ¬ (120 : Int) < (acts.length : Nat) := by omega
  have hb := h.hb
  have hzn : (0 : Int) ≤ (S.doms.length : Nat) ∧ ((S.doms.length : Nat) : Int) ≤ 4294967296 := by omega
  simp only [↓Bp, Bq, Bs, ↓aop.eq_28, ↓aop.eq_30, Nat.reduceEqDiff, Nat.reduceAdd, Nat.reduceMul, Nat.reduceSub, Nat.reduceLeDiff, Nat.reduceLT, Int.reduceLT, Int.reduceLE, Int.reduceEq, Int.reduceToNat, Int.reduceAdd, Int.reduceSub, Int.reduceNeg, ↓reduceIte, reduceCtorEq, ↓C.catnaplaw7_PowerEvents_r6_w, C.catnaplaw7_PowerEvents_r6_b, ↓C.catnaplaw7_PowerEvents_c64_w, ↓C.catnaplaw7_PowerEvents_r5_w, C.catnaplaw7_PowerEvents_r5_b, ↓C.catnaplaw7_PowerEvents_c65_w, ↓C.catnaplaw7_PowerEvents_c66_w, ↓C.catnaplaw7_PowerEvents_r4_w, C.catnaplaw7_PowerEvents_r4_b, ↓C.catnaplaw7_PowerEvents_c67_w, ↓C.catnaplaw7_PowerEvents_r3_w, C.catnaplaw7_PowerEvents_r3_b, ↓C.catnaplaw7_PowerEvents_c68_w, ↓C.catnaplaw7_PowerEvents_r2_w, C.catnaplaw7_PowerEvents_r2_b, ↓C.catnaplaw7_PowerEvents_c69_w, ↓C.catnaplaw7_PowerEvents_r1_w, C.catnaplaw7_PowerEvents_r1_b, ↓C.catnaplaw7_PowerEvents_c70_w, ↓C.catnaplaw7_PowerEvents_r0_w, C.catnaplaw7_PowerEvents_r0_b, C.catnaplaw7_PowerEvents, hz0, hb, Soc.cells, Soc.domV, hzn, Int.toNat_natCast]
  rintro ix hix
  have hself := ASt.new_self (.cells (zeros [.int .u8 0] S.doms.length)) hix
  have h3 := h.step (ASt.le.new s1 ix (.cells (zeros [.int .u8 0] S.doms.length)))
  have hB : ESt s (s1.new ix (.cells (zeros [.int .u8 0] S.doms.length))) ib ix p ig S (gfresh S.doms) (List.replicate S.doms.length 0) :=
    ⟨h3, by rw [hself, zeros_u8s], fresh_of_le h.le hix, (by rintro rfl; rw [h.g.hg] at hix; cases hix), (by rintro rfl; rw [h.g.hp] at hix; cases hix), (by rintro rfl; rw [h.hb] at hix; cases hix)⟩
  rw [C.catnaplaw7_PowerEvents_c63_w, awp_keep]
  exact ev_loop hS hac hac0 hB (GInv.fresh hS.dom) (EInv.fresh S.doms)
end Go.Proofs.Ytgfpnfnjnakoaaa.Cn
