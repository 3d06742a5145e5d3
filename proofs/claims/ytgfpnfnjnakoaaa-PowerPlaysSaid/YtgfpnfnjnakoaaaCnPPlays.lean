/- Power: PowerPlays. -/
import Derived.Test.YtgfpnfnjnakoaaaCnRef7c
set_option linter.unusedSimpArgs false
set_option linter.unusedVariables false
set_option linter.unusedSectionVars false
namespace Go.Proofs.Ytgfpnfnjnakoaaa.Cn
open Go Go.Proofs

/-- Both grids, side by side. -/
structure PSt (st base s : ASt) (ib p ig q jd js : Nat) (S : Soc) (gs : List Gd) : Prop where
  w : WSt st s ib p ig S gs
  f : ∃ rs, RefG base s q jd js S.doms rs ∧ RelL gs rs
  hb : base.h ib ≠ none
  hp : base.h p ≠ none
  hg : base.h ig ≠ none
  ble : st.le base
  inv : GInv S.doms gs
theorem PSt.move {st base s s' : ASt} {ib p ig q jd js : Nat} {S : Soc} {gs gs' : List Gd} {rs' : List Rs} (h : PSt st base s ib p ig q jd js S gs) (hl : gs'.length = gs.length) (hI : GInv S.doms gs')
    (hf : RefG base s' q jd js S.doms rs') (hr : RelL gs' rs') (hk : Kept base (s.set ig (gsC gs')) s') : PSt st base s' ib p ig q jd js S gs' := by
  have h1 := h.w.set hl
  refine ⟨⟨fun j o hj => ?_, by rw [hk _ h.hb]; exact h1.hb, ⟨by rw [hk _ h.hp]; exact h1.g.hp, by rw [hk _ h.hg]; exact h1.g.hg, h1.g.ne, h1.g.few⟩, h1.fg, h1.ne⟩, ⟨rs', hf, hr⟩, h.hb, h.hp, h.hg, h.ble, hI⟩
  rw [hk j (by rw [h.ble _ _ hj]; simp)]; exact h1.le _ _ hj
theorem PSt.ref {st base s : ASt} {ib p ig q jd js : Nat} {S : Soc} {gs : List Gd} {rs : List Rs} (h : PSt st base s ib p ig q jd js S gs) (hf : RefG base s q jd js S.doms rs) (o : AObj) : RefG base (s.set ig o) q jd js S.doms rs :=
  hf.other fun j hj => by rw [ASt.set_h, if_neg (by rintro rfl; exact h.hg hj)]
section
variable {st base : ASt} {ib p ig q jd js : Nat} {S : Soc} (hS : S.like)
include hS
set_option maxHeartbeats 1000000 in
/-- What is asked behind each act. -/
theorem pp_ask {s : ASt} {gs : List Gd} {va x8 x10 : AV} {i0 : Nat} {Q : IExit → AFr → ASt → Prop} (h : PSt st base s ib p ig q jd js S gs)
    (hQ : ∀ fr, fr.keep [1, 6, 7, 8, 9, 10, 11] = [(1, va), (6, .ptr ib 0), (7, .ptr p 0), (8, x8), (9, .ptr q 0), (10, x10), (11, .int .i64 i0)] → Q .normal fr s) :
    awp Try.prog C.q0_c12 Q [(1, va), (6, .ptr ib 0), (7, .ptr p 0), (8, x8), (9, .ptr q 0), (10, x10), (11, .int .i64 i0)] s := by
  have hnd := hS.nd
  have hlen := h.inv.len
  obtain ⟨rs, hf, hr⟩ := h.f
  simp only [↓Bp, Bq, Bs, ↓aop.eq_28, ↓aop.eq_30, Nat.reduceEqDiff, Nat.reduceAdd, Nat.reduceMul, Nat.reduceSub, Nat.reduceLeDiff, Nat.reduceLT, Int.reduceLT, Int.reduceLE, Int.reduceEq, Int.reduceToNat, Int.reduceAdd, Int.reduceSub, Int.reduceNeg, ↓reduceIte, reduceCtorEq, ↓C.q0_W, C.q0_B, C.q0]
  refine awp_loopK (fun t : Nat => [(1, va), (6, .ptr ib 0), (7, .ptr p 0), (8, x8), (9, .ptr q 0), (10, x10), (11, .int .i64 i0), (14, .int .i64 ((t : Int) - 1))]) (fun t s' => t ≤ S.doms.length + 2 ∧ s' = s) (fun t => S.doms.length + 2 - t) 0 rfl ⟨Nat.zero_le _, rfl⟩ ?_
  rintro t s' ⟨ht, rfl⟩
  have hb := h.w.hb
  by_cases htl : t < S.doms.length + 2
  rotate_left
  · have htl' : ¬ ((t : Int) - 1) ≤ (S.doms.length : Nat) := by omega
    simp only [↓Bp, Bq, Bs, ↓aop.eq_28, ↓aop.eq_30, Nat.reduceEqDiff, Nat.reduceAdd, Nat.reduceMul, Nat.reduceSub, Nat.reduceLeDiff, Nat.reduceLT, Int.reduceLT, Int.reduceLE, Int.reduceEq, Int.reduceToNat, Int.reduceAdd, Int.reduceSub, Int.reduceNeg, ↓reduceIte, reduceCtorEq, ↓C.q0_W, C.q0_B, C.q0, htl', hb, Soc.cells, Soc.domV]
    exact hQ _ rfl
  have htl' : ((t : Int) - 1) ≤ (S.doms.length : Nat) := by omega
  have hw : IntKind.i64.wrap ((t : Int) - 1 + 1) = ((t + 1 : Nat) : Int) - 1 := by rw [wrap64] <;> omega
  simp only [↓Bp, Bq, Bs, ↓aop.eq_28, ↓aop.eq_30, Nat.reduceEqDiff, Nat.reduceAdd, Nat.reduceMul, Nat.reduceSub, Nat.reduceLeDiff, Nat.reduceLT, Int.reduceLT, Int.reduceLE, Int.reduceEq, Int.reduceToNat, Int.reduceAdd, Int.reduceSub, Int.reduceNeg, ↓reduceIte, reduceCtorEq, ↓C.q0_W, C.q0_B, C.q0, htl', hb, Soc.cells, Soc.domV]
  refine (phase_spec h.w.g _).mono ?_
  rintro r s1 ⟨rfl, rfl⟩
  simp only [↓Bp, Bq, Bs, ↓aop.eq_28, ↓aop.eq_30, Nat.reduceEqDiff, Nat.reduceAdd, Nat.reduceMul, Nat.reduceSub, Nat.reduceLeDiff, Nat.reduceLT, Int.reduceLT, Int.reduceLE, Int.reduceEq, Int.reduceToNat, Int.reduceAdd, Int.reduceSub, Int.reduceNeg, ↓reduceIte, reduceCtorEq, ↓C.q0_W, C.q0_B, C.q0]
  refine (rphase_spec hf hr _).mono ?_
  rintro r s2 ⟨rfl, rfl⟩
  simp only [↓Bp, Bq, Bs, ↓aop.eq_28, ↓aop.eq_30, Nat.reduceEqDiff, Nat.reduceAdd, Nat.reduceMul, Nat.reduceSub, Nat.reduceLeDiff, Nat.reduceLT, Int.reduceLT, Int.reduceLE, Int.reduceEq, Int.reduceToNat, Int.reduceAdd, Int.reduceSub, Int.reduceNeg, ↓reduceIte, reduceCtorEq, ↓C.q0_W, C.q0_B, C.q0]
  refine (gleft_spec h.w.g _).mono ?_
  rintro r s3 ⟨rfl, rfl⟩
  simp only [↓Bp, Bq, Bs, ↓aop.eq_28, ↓aop.eq_30, Nat.reduceEqDiff, Nat.reduceAdd, Nat.reduceMul, Nat.reduceSub, Nat.reduceLeDiff, Nat.reduceLT, Int.reduceLT, Int.reduceLE, Int.reduceEq, Int.reduceToNat, Int.reduceAdd, Int.reduceSub, Int.reduceNeg, ↓reduceIte, reduceCtorEq, ↓C.q0_W, C.q0_B, C.q0]
  refine (rleft_spec hf hr _).mono ?_
  rintro r s4 ⟨rfl, rfl⟩
  simp only [↓Bp, Bq, Bs, ↓aop.eq_28, ↓aop.eq_30, Nat.reduceEqDiff, Nat.reduceAdd, Nat.reduceMul, Nat.reduceSub, Nat.reduceLeDiff, Nat.reduceLT, Int.reduceLT, Int.reduceLE, Int.reduceEq, Int.reduceToNat, Int.reduceAdd, Int.reduceSub, Int.reduceNeg, ↓reduceIte, reduceCtorEq, ↓C.q0_W, C.q0_B, C.q0]
  refine (chain_spec h.w.g h.inv.lesser (by omega) _).mono ?_
  rintro r s5 ⟨rfl, rfl⟩
  simp only [↓Bp, Bq, Bs, ↓aop.eq_28, ↓aop.eq_30, Nat.reduceEqDiff, Nat.reduceAdd, Nat.reduceMul, Nat.reduceSub, Nat.reduceLeDiff, Nat.reduceLT, Int.reduceLT, Int.reduceLE, Int.reduceEq, Int.reduceToNat, Int.reduceAdd, Int.reduceSub, Int.reduceNeg, ↓reduceIte, reduceCtorEq, ↓C.q0_W, C.q0_B, C.q0]
  refine (rchain_spec hf hr h.inv (by omega) _).mono ?_
  rintro r s6 ⟨rfl, rfl⟩
  have hcl : (chainOf gs ((t : Int) - 1)).length ≤ 9223372036854775807 := by
    have := chainR_len gs (gs.length + 1) ((t : Int) - 1)
    unfold chainOf; split
    · rw [List.length_reverse]; omega
    · simp
  rw [row]
  simp only [↓Bp, Bq, Bs, ↓aop.eq_28, ↓aop.eq_30, Nat.reduceEqDiff, Nat.reduceAdd, Nat.reduceMul, Nat.reduceSub, Nat.reduceLeDiff, Nat.reduceLT, Int.reduceLT, Int.reduceLE, Int.reduceEq, Int.reduceToNat, Int.reduceAdd, Int.reduceSub, Int.reduceNeg, ↓reduceIte, reduceCtorEq, ↓C.q0_W, C.q0_B, C.q0]
  refine (same_spec hcl).mono ?_
  rintro r s7 ⟨rfl, rfl⟩
  rw [decide_eq_true rfl]
  simp only [↓Bp, Bq, Bs, ↓aop.eq_28, ↓aop.eq_30, Nat.reduceEqDiff, Nat.reduceAdd, Nat.reduceMul, Nat.reduceSub, Nat.reduceLeDiff, Nat.reduceLT, Int.reduceLT, Int.reduceLE, Int.reduceEq, Int.reduceToNat, Int.reduceAdd, Int.reduceSub, Int.reduceNeg, ↓reduceIte, reduceCtorEq, ↓C.q0_W, C.q0_B, C.q0, hw]
  exact ⟨t + 1, rfl, htl, by omega⟩
set_option maxHeartbeats 1000000 in
theorem pp_loop {s : ASt} {acts : List Pair} (hac : ∀ x ∈ acts, I64 x.a ∧ I64 x.b) (hal : acts.length ≤ 120) {gs : List Gd} (h : PSt st base s ib p ig q jd js S gs) :
    awp Try.prog C.q0_c37 (Post [.slot 4] fun r s => r = .bool true ∧ st.le s)
      [(1, .isl 2 (acts.flatMap encPair) acts.length), (6, .ptr ib 0), (7, .ptr p 0), (8, .int .i64 0), (9, .ptr q 0), (10, .int .i64 0)] s := by
  have hnd := hS.nd
  simp only [↓Bp, Bq, Bs, ↓aop.eq_28, ↓aop.eq_30, Nat.reduceEqDiff, Nat.reduceAdd, Nat.reduceMul, Nat.reduceSub, Nat.reduceLeDiff, Nat.reduceLT, Int.reduceLT, Int.reduceLE, Int.reduceEq, Int.reduceToNat, Int.reduceAdd, Int.reduceSub, Int.reduceNeg, ↓reduceIte, reduceCtorEq, ↓C.q0_W, C.q0_B, C.q0]
  refine awp_midB (fun _ : Unit => [(8, .int .i64 0), (10, .int .i64 0)]) (fun _ s => st.le s) ?_ ?_
  rotate_left
  · rintro - s hs
    simp only [↓Bp, Bq, Bs, ↓aop.eq_28, ↓aop.eq_30, Nat.reduceEqDiff, Nat.reduceAdd, Nat.reduceMul, Nat.reduceSub, Nat.reduceLeDiff, Nat.reduceLT, Int.reduceLT, Int.reduceLE, Int.reduceEq, Int.reduceToNat, Int.reduceAdd, Int.reduceSub, Int.reduceNeg, ↓reduceIte, reduceCtorEq, ↓C.q0_W, C.q0_B, C.q0]
    exact hs
  refine awp_loopK (fun t : Nat => [(1, .isl 2 (acts.flatMap encPair) acts.length), (6, .ptr ib 0), (7, .ptr p 0), (8, .int .i64 0), (9, .ptr q 0), (10, .int .i64 0), (11, .int .i64 t)])
    (fun t s => t ≤ acts.length ∧ ∃ gs, PSt st base s ib p ig q jd js S gs) (fun t => acts.length - t) 0 rfl ⟨Nat.zero_le _, gs, h⟩ ?_
  clear h gs s
  rintro t s ⟨ht, gs, h⟩
  have hb := h.w.hb
  by_cases htl : t < acts.length
  rotate_left
  · have htl' : ¬ (t : Int) < (acts.length : Nat) := by omega
    simp only [↓Bp, Bq, Bs, ↓aop.eq_28, ↓aop.eq_30, Nat.reduceEqDiff, Nat.reduceAdd, Nat.reduceMul, Nat.reduceSub, Nat.reduceLeDiff, Nat.reduceLT, Int.reduceLT, Int.reduceLE, Int.reduceEq, Int.reduceToNat, Int.reduceAdd, Int.reduceSub, Int.reduceNeg, ↓reduceIte, reduceCtorEq, ↓C.q0_W, C.q0_B, C.q0, htl']
    exact ⟨(), h.w.le⟩
  have htl' : (t : Int) < (acts.length : Nat) := by omega
  have hw := wsucc htl (by omega)
  have hz2 : (0:Int) ≤ (t : Int) ∧ (t : Int) < (acts.length : Nat) := by omega
  have hg := gpairs_get acts htl
  have hIa := hac _ (List.getElem_mem htl)
  have w2 : IntKind.i64.wrap ((S.doms.length : Int) + 2) = ((S.doms.length + 2 : Nat) : Int) := by rw [wrap64] <;> omega
  simp only [↓Bp, Bq, Bs, ↓aop.eq_28, ↓aop.eq_30, Nat.reduceEqDiff, Nat.reduceAdd, Nat.reduceMul, Nat.reduceSub, Nat.reduceLeDiff, Nat.reduceLT, Int.reduceLT, Int.reduceLE, Int.reduceEq, Int.reduceToNat, Int.reduceAdd, Int.reduceSub, Int.reduceNeg, ↓reduceIte, reduceCtorEq, ↓C.q0_W, C.q0_B, C.q0, htl', hb, Soc.cells, Soc.domV, hz2, Int.toNat_natCast, hg.1, hg.2, w2]
  refine (pick_spec hIa.2 (n := S.doms.length + 2) (by omega)).mono ?_
  rintro r s ⟨rfl, rfl⟩
  have hkl := pickI_lt acts[t].b (n := S.doms.length + 2) (by omega)
  generalize pickI acts[t].b (S.doms.length + 2) = k0 at hkl
  have w1 : IntKind.i64.wrap ((k0 : Int) - 1) = (k0 : Int) - 1 := by rw [wrap64] <;> omega
  simp only [↓Bp, Bq, Bs, ↓aop.eq_28, ↓aop.eq_30, Nat.reduceEqDiff, Nat.reduceAdd, Nat.reduceMul, Nat.reduceSub, Nat.reduceLeDiff, Nat.reduceLT, Int.reduceLT, Int.reduceLE, Int.reduceEq, Int.reduceToNat, Int.reduceAdd, Int.reduceSub, Int.reduceNeg, ↓reduceIte, reduceCtorEq, ↓C.q0_W, C.q0_B, C.q0, hz2, Int.toNat_natCast, hg.1, hg.2, w1]
  generalize (k0 : Int) - 1 = k
  refine (pick_spec hIa.1 (n := 7) (by omega)).mono ?_
  rintro r s ⟨rfl, rfl⟩
  generalize pickI acts[t].a 7 = o
  have hlen := h.inv.len
  obtain ⟨rs, hf, hr⟩ := h.f
  -- behind the act
  have back : ∀ (s' : ASt) (gs' : List Gd) {Q : IExit → AFr → ASt → Prop}, PSt st base s' ib p ig q jd js S gs' → (∀ fr, fr.keep [1, 6, 7, 8, 9, 10, 11] = [(1, .isl 2 (acts.flatMap encPair) acts.length), (6, .ptr ib 0), (7, .ptr p 0), (8, .int .i64 0), (9, .ptr q 0), (10, .int .i64 0), (11, .int .i64 t)] → Q .normal fr s') →
      awp Try.prog C.q0_c15 Q [(1, .isl 2 (acts.flatMap encPair) acts.length), (6, .ptr ib 0), (7, .ptr p 0), (8, .int .i64 0), (9, .ptr q 0), (10, .int .i64 0), (11, .int .i64 t), (13, .bool true)] s' := by
    intro s' gs' Q hP hQ
    simp only [↓Bp, Bq, Bs, ↓aop.eq_28, ↓aop.eq_30, Nat.reduceEqDiff, Nat.reduceAdd, Nat.reduceMul, Nat.reduceSub, Nat.reduceLeDiff, Nat.reduceLT, Int.reduceLT, Int.reduceLE, Int.reduceEq, Int.reduceToNat, Int.reduceAdd, Int.reduceSub, Int.reduceNeg, ↓reduceIte, reduceCtorEq, ↓C.q0_r28_w, C.q0_r28_b, ↓C.q0_c1_w, ↓C.q0_r9_w, C.q0_r9_b, ↓C.q0_c2_w, ↓C.q0_r22_w, C.q0_r22_b, ↓C.q0_c13_w, ↓C.q0_c14_w, ↓C.q0_r21_w, C.q0_r21_b, ↓C.q0_c15_w, ↓C.q0_r16_w, C.q0_r16_b, ↓C.q0_r18_w, C.q0_r18_b, ↓C.q0_r20_w, C.q0_r20_b, ↓C.q0_r13_w, C.q0_r13_b, ↓C.q0_c16_w, ↓C.q0_c17_w, ↓C.q0_c18_w, ↓C.q0_r19_w, C.q0_r19_b, ↓C.q0_c19_w, ↓C.q0_c20_w, ↓C.q0_c21_w, ↓C.q0_r17_w, C.q0_r17_b, ↓C.q0_c22_w, ↓C.q0_c23_w, ↓C.q0_c24_w, ↓C.q0_r15_w, C.q0_r15_b, ↓C.q0_c25_w, ↓C.q0_c26_w, ↓C.q0_r14_w, C.q0_r14_b, ↓C.q0_b27_w, ↓C.q0_c28_w, ↓C.q0_r12_w, C.q0_r12_b, ↓C.q0_c29_w, ↓C.q0_r11_w, C.q0_r11_b, ↓C.q0_c30_w, ↓C.q0_r10_w, C.q0_r10_b, ↓C.q0_b31_w, ↓C.q0_c32_w, ↓C.q0_c33_w, ↓C.q0_r8_w, C.q0_r8_b, ↓C.q0_b35_w, ↓C.q0_c36_w, ↓C.q0_r7_w, C.q0_r7_b, ↓C.q0_c37_w, ↓C.q0_r6_w, C.q0_r6_b, ↓C.q0_c38_w, ↓C.q0_c39_w, ↓C.q0_r5_w, C.q0_r5_b, ↓C.q0_c40_w, ↓C.q0_r4_w, C.q0_r4_b, ↓C.q0_c41_w, ↓C.q0_r3_w, C.q0_r3_b, ↓C.q0_c42_w, ↓C.q0_r2_w, C.q0_r2_b, ↓C.q0_c43_w, ↓C.q0_r1_w, C.q0_r1_b, ↓C.q0_c44_w, ↓C.q0_r0_w, C.q0_r0_b, C.q0]
    rw [C.q0_c12_w, awp_keep]
    exact pp_ask hS hP hQ
  by_cases hkd : isGd gs k
  · obtain ⟨k, rfl⟩ : ∃ k' : Nat, k = k' := ⟨k.toNat, by have := hkd.1; omega⟩
    have hk : k < gs.length := by have := hkd.2; omega
    by_cases o0 : o = 0
    · have T0 : ((o : Int) = 0) = True := eq_true (by omega)
      simp only [↓Bp, Bq, Bs, ↓aop.eq_28, ↓aop.eq_30, Nat.reduceEqDiff, Nat.reduceAdd, Nat.reduceMul, Nat.reduceSub, Nat.reduceLeDiff, Nat.reduceLT, Int.reduceLT, Int.reduceLE, Int.reduceEq, Int.reduceToNat, Int.reduceAdd, Int.reduceSub, Int.reduceNeg, ↓reduceIte, reduceCtorEq, ↓C.q0_W, C.q0_B, C.q0, T0]
      refine (up_spec h.w.g h.inv.above hk).mono ?_
      rintro r s' ⟨rfl, rfl⟩
      simp only [↓Bp, Bq, Bs, ↓aop.eq_28, ↓aop.eq_30, Nat.reduceEqDiff, Nat.reduceAdd, Nat.reduceMul, Nat.reduceSub, Nat.reduceLeDiff, Nat.reduceLT, Int.reduceLT, Int.reduceLE, Int.reduceEq, Int.reduceToNat, Int.reduceAdd, Int.reduceSub, Int.reduceNeg, ↓reduceIte, reduceCtorEq, ↓C.q0_W, C.q0_B, C.q0]
      refine (rup_spec (h.ref hf _) hr h.inv hk).mono ?_
      rintro r s2 ⟨rfl, rs', hf2, hr2, hk2⟩
      have h2 := h.move (upG_len hk) (h.inv.up hk) hf2 hr2 hk2
      simp only [↓Bp, Bq, Bs, ↓aop.eq_28, ↓aop.eq_30, Nat.reduceEqDiff, Nat.reduceAdd, Nat.reduceMul, Nat.reduceSub, Nat.reduceLeDiff, Nat.reduceLT, Int.reduceLT, Int.reduceLE, Int.reduceEq, Int.reduceToNat, Int.reduceAdd, Int.reduceSub, Int.reduceNeg, ↓reduceIte, reduceCtorEq, ↓C.q0_r28_w, C.q0_r28_b, ↓C.q0_c1_w, ↓C.q0_r9_w, C.q0_r9_b, ↓C.q0_c2_w, ↓C.q0_r16_w, C.q0_r16_b, ↓C.q0_r18_w, C.q0_r18_b, ↓C.q0_r20_w, C.q0_r20_b, ↓C.q0_r13_w, C.q0_r13_b, ↓C.q0_c16_w, ↓C.q0_c17_w, ↓C.q0_c18_w, ↓C.q0_r19_w, C.q0_r19_b, ↓C.q0_c19_w, ↓C.q0_c20_w, ↓C.q0_c21_w, ↓C.q0_r17_w, C.q0_r17_b, ↓C.q0_c22_w, ↓C.q0_c23_w, ↓C.q0_c24_w, ↓C.q0_r15_w, C.q0_r15_b, ↓C.q0_c25_w, ↓C.q0_c26_w, ↓C.q0_r14_w, C.q0_r14_b, ↓C.q0_b27_w, ↓C.q0_c28_w, ↓C.q0_r12_w, C.q0_r12_b, ↓C.q0_c29_w, ↓C.q0_r11_w, C.q0_r11_b, ↓C.q0_c30_w, ↓C.q0_r10_w, C.q0_r10_b, ↓C.q0_b31_w, ↓C.q0_c32_w, ↓C.q0_c33_w, ↓C.q0_r8_w, C.q0_r8_b, ↓C.q0_b35_w, ↓C.q0_c36_w, ↓C.q0_r7_w, C.q0_r7_b, ↓C.q0_c37_w, ↓C.q0_r6_w, C.q0_r6_b, ↓C.q0_c38_w, ↓C.q0_c39_w, ↓C.q0_r5_w, C.q0_r5_b, ↓C.q0_c40_w, ↓C.q0_r4_w, C.q0_r4_b, ↓C.q0_c41_w, ↓C.q0_r3_w, C.q0_r3_b, ↓C.q0_c42_w, ↓C.q0_r2_w, C.q0_r2_b, ↓C.q0_c43_w, ↓C.q0_r1_w, C.q0_r1_b, ↓C.q0_c44_w, ↓C.q0_r0_w, C.q0_r0_b, C.q0]
      rw [C.q0_c15_w, awp_keep]
      refine back s2 _ h2 fun fr e => ?_
      show awp Try.prog C.q0_c2 _ fr s2
      rw [C.q0_c2_w, awp_keep, e]
      simp only [↓Bp, Bq, Bs, ↓aop.eq_28, ↓aop.eq_30, Nat.reduceEqDiff, Nat.reduceAdd, Nat.reduceMul, Nat.reduceSub, Nat.reduceLeDiff, Nat.reduceLT, Int.reduceLT, Int.reduceLE, Int.reduceEq, Int.reduceToNat, Int.reduceAdd, Int.reduceSub, Int.reduceNeg, ↓reduceIte, reduceCtorEq, ↓C.q0_W, C.q0_B, C.q0, hw]
      exact ⟨t + 1, rfl, ⟨htl, _, h2⟩, by omega⟩
    have T0 : ((o : Int) = 0) = False := eq_false (by omega)
    by_cases o1 : o = 1
    · have T1 : ((o : Int) = 1) = True := eq_true (by omega)
      simp only [↓Bp, Bq, Bs, ↓aop.eq_28, ↓aop.eq_30, Nat.reduceEqDiff, Nat.reduceAdd, Nat.reduceMul, Nat.reduceSub, Nat.reduceLeDiff, Nat.reduceLT, Int.reduceLT, Int.reduceLE, Int.reduceEq, Int.reduceToNat, Int.reduceAdd, Int.reduceSub, Int.reduceNeg, ↓reduceIte, reduceCtorEq, ↓C.q0_W, C.q0_B, C.q0, T0, T1]
      refine (up_spec h.w.g h.inv.above hk).mono ?_
      rintro r s' ⟨rfl, rfl⟩
      simp only [↓Bp, Bq, Bs, ↓aop.eq_28, ↓aop.eq_30, Nat.reduceEqDiff, Nat.reduceAdd, Nat.reduceMul, Nat.reduceSub, Nat.reduceLeDiff, Nat.reduceLT, Int.reduceLT, Int.reduceLE, Int.reduceEq, Int.reduceToNat, Int.reduceAdd, Int.reduceSub, Int.reduceNeg, ↓reduceIte, reduceCtorEq, ↓C.q0_W, C.q0_B, C.q0]
      refine (rup_spec (h.ref hf _) hr h.inv hk).mono ?_
      rintro r s2 ⟨rfl, rs', hf2, hr2, hk2⟩
      have h2 := h.move (upG_len hk) (h.inv.up hk) hf2 hr2 hk2
      simp only [↓Bp, Bq, Bs, ↓aop.eq_28, ↓aop.eq_30, Nat.reduceEqDiff, Nat.reduceAdd, Nat.reduceMul, Nat.reduceSub, Nat.reduceLeDiff, Nat.reduceLT, Int.reduceLT, Int.reduceLE, Int.reduceEq, Int.reduceToNat, Int.reduceAdd, Int.reduceSub, Int.reduceNeg, ↓reduceIte, reduceCtorEq, ↓C.q0_r28_w, C.q0_r28_b, ↓C.q0_c1_w, ↓C.q0_r9_w, C.q0_r9_b, ↓C.q0_c2_w, ↓C.q0_r16_w, C.q0_r16_b, ↓C.q0_r18_w, C.q0_r18_b, ↓C.q0_r20_w, C.q0_r20_b, ↓C.q0_r13_w, C.q0_r13_b, ↓C.q0_c16_w, ↓C.q0_c17_w, ↓C.q0_c18_w, ↓C.q0_r19_w, C.q0_r19_b, ↓C.q0_c19_w, ↓C.q0_c20_w, ↓C.q0_c21_w, ↓C.q0_r17_w, C.q0_r17_b, ↓C.q0_c22_w, ↓C.q0_c23_w, ↓C.q0_c24_w, ↓C.q0_r15_w, C.q0_r15_b, ↓C.q0_c25_w, ↓C.q0_c26_w, ↓C.q0_r14_w, C.q0_r14_b, ↓C.q0_b27_w, ↓C.q0_c28_w, ↓C.q0_r12_w, C.q0_r12_b, ↓C.q0_c29_w, ↓C.q0_r11_w, C.q0_r11_b, ↓C.q0_c30_w, ↓C.q0_r10_w, C.q0_r10_b, ↓C.q0_b31_w, ↓C.q0_c32_w, ↓C.q0_c33_w, ↓C.q0_r8_w, C.q0_r8_b, ↓C.q0_b35_w, ↓C.q0_c36_w, ↓C.q0_r7_w, C.q0_r7_b, ↓C.q0_c37_w, ↓C.q0_r6_w, C.q0_r6_b, ↓C.q0_c38_w, ↓C.q0_c39_w, ↓C.q0_r5_w, C.q0_r5_b, ↓C.q0_c40_w, ↓C.q0_r4_w, C.q0_r4_b, ↓C.q0_c41_w, ↓C.q0_r3_w, C.q0_r3_b, ↓C.q0_c42_w, ↓C.q0_r2_w, C.q0_r2_b, ↓C.q0_c43_w, ↓C.q0_r1_w, C.q0_r1_b, ↓C.q0_c44_w, ↓C.q0_r0_w, C.q0_r0_b, C.q0]
      rw [C.q0_c15_w, awp_keep]
      refine back s2 _ h2 fun fr e => ?_
      show awp Try.prog C.q0_c2 _ fr s2
      rw [C.q0_c2_w, awp_keep, e]
      simp only [↓Bp, Bq, Bs, ↓aop.eq_28, ↓aop.eq_30, Nat.reduceEqDiff, Nat.reduceAdd, Nat.reduceMul, Nat.reduceSub, Nat.reduceLeDiff, Nat.reduceLT, Int.reduceLT, Int.reduceLE, Int.reduceEq, Int.reduceToNat, Int.reduceAdd, Int.reduceSub, Int.reduceNeg, ↓reduceIte, reduceCtorEq, ↓C.q0_W, C.q0_B, C.q0, hw]
      exact ⟨t + 1, rfl, ⟨htl, _, h2⟩, by omega⟩
    have T1 : ((o : Int) = 1) = False := eq_false (by omega)
    by_cases o2 : o = 2
    · have T2 : ((o : Int) = 2) = True := eq_true (by omega)
      simp only [↓Bp, Bq, Bs, ↓aop.eq_28, ↓aop.eq_30, Nat.reduceEqDiff, Nat.reduceAdd, Nat.reduceMul, Nat.reduceSub, Nat.reduceLeDiff, Nat.reduceLT, Int.reduceLT, Int.reduceLE, Int.reduceEq, Int.reduceToNat, Int.reduceAdd, Int.reduceSub, Int.reduceNeg, ↓reduceIte, reduceCtorEq, ↓C.q0_W, C.q0_B, C.q0, T0, T1, T2]
      refine (down_spec h.w.g hk false).mono ?_
      rintro r s' ⟨rfl, rfl⟩
      simp only [↓Bp, Bq, Bs, ↓aop.eq_28, ↓aop.eq_30, Nat.reduceEqDiff, Nat.reduceAdd, Nat.reduceMul, Nat.reduceSub, Nat.reduceLeDiff, Nat.reduceLT, Int.reduceLT, Int.reduceLE, Int.reduceEq, Int.reduceToNat, Int.reduceAdd, Int.reduceSub, Int.reduceNeg, ↓reduceIte, reduceCtorEq, ↓C.q0_W, C.q0_B, C.q0]
      refine (rdown_spec (h.ref hf _) hr h.inv (by omega) hk false).mono ?_
      rintro r s2 ⟨rfl, rs', hf2, hr2, hk2⟩
      have h2 := h.move (downG_len hk false) (h.inv.down hk false) hf2 hr2 hk2
      simp only [↓Bp, Bq, Bs, ↓aop.eq_28, ↓aop.eq_30, Nat.reduceEqDiff, Nat.reduceAdd, Nat.reduceMul, Nat.reduceSub, Nat.reduceLeDiff, Nat.reduceLT, Int.reduceLT, Int.reduceLE, Int.reduceEq, Int.reduceToNat, Int.reduceAdd, Int.reduceSub, Int.reduceNeg, ↓reduceIte, reduceCtorEq, ↓C.q0_r28_w, C.q0_r28_b, ↓C.q0_c1_w, ↓C.q0_r9_w, C.q0_r9_b, ↓C.q0_c2_w, ↓C.q0_r16_w, C.q0_r16_b, ↓C.q0_r18_w, C.q0_r18_b, ↓C.q0_r20_w, C.q0_r20_b, ↓C.q0_r13_w, C.q0_r13_b, ↓C.q0_c16_w, ↓C.q0_c17_w, ↓C.q0_c18_w, ↓C.q0_r19_w, C.q0_r19_b, ↓C.q0_c19_w, ↓C.q0_c20_w, ↓C.q0_c21_w, ↓C.q0_r17_w, C.q0_r17_b, ↓C.q0_c22_w, ↓C.q0_c23_w, ↓C.q0_c24_w, ↓C.q0_r15_w, C.q0_r15_b, ↓C.q0_c25_w, ↓C.q0_c26_w, ↓C.q0_r14_w, C.q0_r14_b, ↓C.q0_b27_w, ↓C.q0_c28_w, ↓C.q0_r12_w, C.q0_r12_b, ↓C.q0_c29_w, ↓C.q0_r11_w, C.q0_r11_b, ↓C.q0_c30_w, ↓C.q0_r10_w, C.q0_r10_b, ↓C.q0_b31_w, ↓C.q0_c32_w, ↓C.q0_c33_w, ↓C.q0_r8_w, C.q0_r8_b, ↓C.q0_b35_w, ↓C.q0_c36_w, ↓C.q0_r7_w, C.q0_r7_b, ↓C.q0_c37_w, ↓C.q0_r6_w, C.q0_r6_b, ↓C.q0_c38_w, ↓C.q0_c39_w, ↓C.q0_r5_w, C.q0_r5_b, ↓C.q0_c40_w, ↓C.q0_r4_w, C.q0_r4_b, ↓C.q0_c41_w, ↓C.q0_r3_w, C.q0_r3_b, ↓C.q0_c42_w, ↓C.q0_r2_w, C.q0_r2_b, ↓C.q0_c43_w, ↓C.q0_r1_w, C.q0_r1_b, ↓C.q0_c44_w, ↓C.q0_r0_w, C.q0_r0_b, C.q0]
      rw [C.q0_c15_w, awp_keep]
      refine back s2 _ h2 fun fr e => ?_
      show awp Try.prog C.q0_c2 _ fr s2
      rw [C.q0_c2_w, awp_keep, e]
      simp only [↓Bp, Bq, Bs, ↓aop.eq_28, ↓aop.eq_30, Nat.reduceEqDiff, Nat.reduceAdd, Nat.reduceMul, Nat.reduceSub, Nat.reduceLeDiff, Nat.reduceLT, Int.reduceLT, Int.reduceLE, Int.reduceEq, Int.reduceToNat, Int.reduceAdd, Int.reduceSub, Int.reduceNeg, ↓reduceIte, reduceCtorEq, ↓C.q0_W, C.q0_B, C.q0, hw]
      exact ⟨t + 1, rfl, ⟨htl, _, h2⟩, by omega⟩
    have T2 : ((o : Int) = 2) = False := eq_false (by omega)
    by_cases o3 : o = 3
    · have T3 : ((o : Int) = 3) = True := eq_true (by omega)
      simp only [↓Bp, Bq, Bs, ↓aop.eq_28, ↓aop.eq_30, Nat.reduceEqDiff, Nat.reduceAdd, Nat.reduceMul, Nat.reduceSub, Nat.reduceLeDiff, Nat.reduceLT, Int.reduceLT, Int.reduceLE, Int.reduceEq, Int.reduceToNat, Int.reduceAdd, Int.reduceSub, Int.reduceNeg, ↓reduceIte, reduceCtorEq, ↓C.q0_W, C.q0_B, C.q0, T0, T1, T2, T3]
      refine (down_spec h.w.g hk true).mono ?_
      rintro r s' ⟨rfl, rfl⟩
      simp only [↓Bp, Bq, Bs, ↓aop.eq_28, ↓aop.eq_30, Nat.reduceEqDiff, Nat.reduceAdd, Nat.reduceMul, Nat.reduceSub, Nat.reduceLeDiff, Nat.reduceLT, Int.reduceLT, Int.reduceLE, Int.reduceEq, Int.reduceToNat, Int.reduceAdd, Int.reduceSub, Int.reduceNeg, ↓reduceIte, reduceCtorEq, ↓C.q0_W, C.q0_B, C.q0]
      refine (rdown_spec (h.ref hf _) hr h.inv (by omega) hk true).mono ?_
      rintro r s2 ⟨rfl, rs', hf2, hr2, hk2⟩
      have h2 := h.move (downG_len hk true) (h.inv.down hk true) hf2 hr2 hk2
      simp only [↓Bp, Bq, Bs, ↓aop.eq_28, ↓aop.eq_30, Nat.reduceEqDiff, Nat.reduceAdd, Nat.reduceMul, Nat.reduceSub, Nat.reduceLeDiff, Nat.reduceLT, Int.reduceLT, Int.reduceLE, Int.reduceEq, Int.reduceToNat, Int.reduceAdd, Int.reduceSub, Int.reduceNeg, ↓reduceIte, reduceCtorEq, ↓C.q0_r28_w, C.q0_r28_b, ↓C.q0_c1_w, ↓C.q0_r9_w, C.q0_r9_b, ↓C.q0_c2_w, ↓C.q0_r16_w, C.q0_r16_b, ↓C.q0_r18_w, C.q0_r18_b, ↓C.q0_r20_w, C.q0_r20_b, ↓C.q0_r13_w, C.q0_r13_b, ↓C.q0_c16_w, ↓C.q0_c17_w, ↓C.q0_c18_w, ↓C.q0_r19_w, C.q0_r19_b, ↓C.q0_c19_w, ↓C.q0_c20_w, ↓C.q0_c21_w, ↓C.q0_r17_w, C.q0_r17_b, ↓C.q0_c22_w, ↓C.q0_c23_w, ↓C.q0_c24_w, ↓C.q0_r15_w, C.q0_r15_b, ↓C.q0_c25_w, ↓C.q0_c26_w, ↓C.q0_r14_w, C.q0_r14_b, ↓C.q0_b27_w, ↓C.q0_c28_w, ↓C.q0_r12_w, C.q0_r12_b, ↓C.q0_c29_w, ↓C.q0_r11_w, C.q0_r11_b, ↓C.q0_c30_w, ↓C.q0_r10_w, C.q0_r10_b, ↓C.q0_b31_w, ↓C.q0_c32_w, ↓C.q0_c33_w, ↓C.q0_r8_w, C.q0_r8_b, ↓C.q0_b35_w, ↓C.q0_c36_w, ↓C.q0_r7_w, C.q0_r7_b, ↓C.q0_c37_w, ↓C.q0_r6_w, C.q0_r6_b, ↓C.q0_c38_w, ↓C.q0_c39_w, ↓C.q0_r5_w, C.q0_r5_b, ↓C.q0_c40_w, ↓C.q0_r4_w, C.q0_r4_b, ↓C.q0_c41_w, ↓C.q0_r3_w, C.q0_r3_b, ↓C.q0_c42_w, ↓C.q0_r2_w, C.q0_r2_b, ↓C.q0_c43_w, ↓C.q0_r1_w, C.q0_r1_b, ↓C.q0_c44_w, ↓C.q0_r0_w, C.q0_r0_b, C.q0]
      rw [C.q0_c15_w, awp_keep]
      refine back s2 _ h2 fun fr e => ?_
      show awp Try.prog C.q0_c2 _ fr s2
      rw [C.q0_c2_w, awp_keep, e]
      simp only [↓Bp, Bq, Bs, ↓aop.eq_28, ↓aop.eq_30, Nat.reduceEqDiff, Nat.reduceAdd, Nat.reduceMul, Nat.reduceSub, Nat.reduceLeDiff, Nat.reduceLT, Int.reduceLT, Int.reduceLE, Int.reduceEq, Int.reduceToNat, Int.reduceAdd, Int.reduceSub, Int.reduceNeg, ↓reduceIte, reduceCtorEq, ↓C.q0_W, C.q0_B, C.q0, hw]
      exact ⟨t + 1, rfl, ⟨htl, _, h2⟩, by omega⟩
    have T3 : ((o : Int) = 3) = False := eq_false (by omega)
    simp only [↓Bp, Bq, Bs, ↓aop.eq_28, ↓aop.eq_30, Nat.reduceEqDiff, Nat.reduceAdd, Nat.reduceMul, Nat.reduceSub, Nat.reduceLeDiff, Nat.reduceLT, Int.reduceLT, Int.reduceLE, Int.reduceEq, Int.reduceToNat, Int.reduceAdd, Int.reduceSub, Int.reduceNeg, ↓reduceIte, reduceCtorEq, ↓C.q0_W, C.q0_B, C.q0, T0, T1, T2, T3]
    refine (gtick_spec h.w.g h.inv.low).mono ?_
    rintro r s' ⟨rfl, rfl⟩
    have hel : (evs gs).length ≤ 1000 := by have := evTo_len gs gs.length; unfold evs; omega
    simp only [↓Bp, Bq, Bs, ↓aop.eq_28, ↓aop.eq_30, Nat.reduceEqDiff, Nat.reduceAdd, Nat.reduceMul, Nat.reduceSub, Nat.reduceLeDiff, Nat.reduceLT, Int.reduceLT, Int.reduceLE, Int.reduceEq, Int.reduceToNat, Int.reduceAdd, Int.reduceSub, Int.reduceNeg, ↓reduceIte, reduceCtorEq, ↓C.q0_W, C.q0_B, C.q0]
    refine (as_spec hel).mono ?_
    rintro r s' ⟨rfl, rfl⟩
    simp only [↓Bp, Bq, Bs, ↓aop.eq_28, ↓aop.eq_30, Nat.reduceEqDiff, Nat.reduceAdd, Nat.reduceMul, Nat.reduceSub, Nat.reduceLeDiff, Nat.reduceLT, Int.reduceLT, Int.reduceLE, Int.reduceEq, Int.reduceToNat, Int.reduceAdd, Int.reduceSub, Int.reduceNeg, ↓reduceIte, reduceCtorEq, ↓C.q0_W, C.q0_B, C.q0]
    refine (rtick_spec (h.ref hf _) hr h.inv (by omega)).mono ?_
    rintro r s2 ⟨rfl, rs', hf2, hr2, hk2⟩
    have h2 := h.move (gtickL_len gs) h.inv.tick hf2 hr2 hk2
    simp only [↓Bp, Bq, Bs, ↓aop.eq_28, ↓aop.eq_30, Nat.reduceEqDiff, Nat.reduceAdd, Nat.reduceMul, Nat.reduceSub, Nat.reduceLeDiff, Nat.reduceLT, Int.reduceLT, Int.reduceLE, Int.reduceEq, Int.reduceToNat, Int.reduceAdd, Int.reduceSub, Int.reduceNeg, ↓reduceIte, reduceCtorEq, ↓C.q0_W, C.q0_B, C.q0]
    refine (rsame_spec hel).mono ?_
    rintro r s2 ⟨rfl, rfl⟩
    simp only [↓Bp, Bq, Bs, ↓aop.eq_28, ↓aop.eq_30, Nat.reduceEqDiff, Nat.reduceAdd, Nat.reduceMul, Nat.reduceSub, Nat.reduceLeDiff, Nat.reduceLT, Int.reduceLT, Int.reduceLE, Int.reduceEq, Int.reduceToNat, Int.reduceAdd, Int.reduceSub, Int.reduceNeg, ↓reduceIte, reduceCtorEq, ↓C.q0_r28_w, C.q0_r28_b, ↓C.q0_c1_w, ↓C.q0_r9_w, C.q0_r9_b, ↓C.q0_c2_w, ↓C.q0_r16_w, C.q0_r16_b, ↓C.q0_r18_w, C.q0_r18_b, ↓C.q0_r20_w, C.q0_r20_b, ↓C.q0_r13_w, C.q0_r13_b, ↓C.q0_c16_w, ↓C.q0_c17_w, ↓C.q0_c18_w, ↓C.q0_r19_w, C.q0_r19_b, ↓C.q0_c19_w, ↓C.q0_c20_w, ↓C.q0_c21_w, ↓C.q0_r17_w, C.q0_r17_b, ↓C.q0_c22_w, ↓C.q0_c23_w, ↓C.q0_c24_w, ↓C.q0_r15_w, C.q0_r15_b, ↓C.q0_c25_w, ↓C.q0_c26_w, ↓C.q0_r14_w, C.q0_r14_b, ↓C.q0_b27_w, ↓C.q0_c28_w, ↓C.q0_r12_w, C.q0_r12_b, ↓C.q0_c29_w, ↓C.q0_r11_w, C.q0_r11_b, ↓C.q0_c30_w, ↓C.q0_r10_w, C.q0_r10_b, ↓C.q0_b31_w, ↓C.q0_c32_w, ↓C.q0_c33_w, ↓C.q0_r8_w, C.q0_r8_b, ↓C.q0_b35_w, ↓C.q0_c36_w, ↓C.q0_r7_w, C.q0_r7_b, ↓C.q0_c37_w, ↓C.q0_r6_w, C.q0_r6_b, ↓C.q0_c38_w, ↓C.q0_c39_w, ↓C.q0_r5_w, C.q0_r5_b, ↓C.q0_c40_w, ↓C.q0_r4_w, C.q0_r4_b, ↓C.q0_c41_w, ↓C.q0_r3_w, C.q0_r3_b, ↓C.q0_c42_w, ↓C.q0_r2_w, C.q0_r2_b, ↓C.q0_c43_w, ↓C.q0_r1_w, C.q0_r1_b, ↓C.q0_c44_w, ↓C.q0_r0_w, C.q0_r0_b, C.q0]
    rw [C.q0_c15_w, awp_keep]
    refine back s2 _ h2 fun fr e => ?_
    show awp Try.prog C.q0_c2 _ fr s2
    rw [C.q0_c2_w, awp_keep, e]
    simp only [↓Bp, Bq, Bs, ↓aop.eq_28, ↓aop.eq_30, Nat.reduceEqDiff, Nat.reduceAdd, Nat.reduceMul, Nat.reduceSub, Nat.reduceLeDiff, Nat.reduceLT, Int.reduceLT, Int.reduceLE, Int.reduceEq, Int.reduceToNat, Int.reduceAdd, Int.reduceSub, Int.reduceNeg, ↓reduceIte, reduceCtorEq, ↓C.q0_W, C.q0_B, C.q0, hw]
    exact ⟨t + 1, rfl, ⟨htl, _, h2⟩, by omega⟩
  · have hkn : ¬ isDm S.doms k := fun e => hkd ⟨e.1, by rw [hlen]; exact e.2⟩
    by_cases o0 : o = 0
    · have T0 : ((o : Int) = 0) = True := eq_true (by omega)
      simp only [↓Bp, Bq, Bs, ↓aop.eq_28, ↓aop.eq_30, Nat.reduceEqDiff, Nat.reduceAdd, Nat.reduceMul, Nat.reduceSub, Nat.reduceLeDiff, Nat.reduceLT, Int.reduceLT, Int.reduceLE, Int.reduceEq, Int.reduceToNat, Int.reduceAdd, Int.reduceSub, Int.reduceNeg, ↓reduceIte, reduceCtorEq, ↓C.q0_W, C.q0_B, C.q0, T0]
      refine (up_none h.w.g hkd).mono ?_
      rintro r s' ⟨rfl, rfl⟩
      simp only [↓Bp, Bq, Bs, ↓aop.eq_28, ↓aop.eq_30, Nat.reduceEqDiff, Nat.reduceAdd, Nat.reduceMul, Nat.reduceSub, Nat.reduceLeDiff, Nat.reduceLT, Int.reduceLT, Int.reduceLE, Int.reduceEq, Int.reduceToNat, Int.reduceAdd, Int.reduceSub, Int.reduceNeg, ↓reduceIte, reduceCtorEq, ↓C.q0_W, C.q0_B, C.q0]
      refine (rup_none hf hkn).mono ?_
      rintro r s2 ⟨rfl, rfl⟩
      have h2 := h
      simp only [↓Bp, Bq, Bs, ↓aop.eq_28, ↓aop.eq_30, Nat.reduceEqDiff, Nat.reduceAdd, Nat.reduceMul, Nat.reduceSub, Nat.reduceLeDiff, Nat.reduceLT, Int.reduceLT, Int.reduceLE, Int.reduceEq, Int.reduceToNat, Int.reduceAdd, Int.reduceSub, Int.reduceNeg, ↓reduceIte, reduceCtorEq, ↓C.q0_r28_w, C.q0_r28_b, ↓C.q0_c1_w, ↓C.q0_r9_w, C.q0_r9_b, ↓C.q0_c2_w, ↓C.q0_r16_w, C.q0_r16_b, ↓C.q0_r18_w, C.q0_r18_b, ↓C.q0_r20_w, C.q0_r20_b, ↓C.q0_r13_w, C.q0_r13_b, ↓C.q0_c16_w, ↓C.q0_c17_w, ↓C.q0_c18_w, ↓C.q0_r19_w, C.q0_r19_b, ↓C.q0_c19_w, ↓C.q0_c20_w, ↓C.q0_c21_w, ↓C.q0_r17_w, C.q0_r17_b, ↓C.q0_c22_w, ↓C.q0_c23_w, ↓C.q0_c24_w, ↓C.q0_r15_w, C.q0_r15_b, ↓C.q0_c25_w, ↓C.q0_c26_w, ↓C.q0_r14_w, C.q0_r14_b, ↓C.q0_b27_w, ↓C.q0_c28_w, ↓C.q0_r12_w, C.q0_r12_b, ↓C.q0_c29_w, ↓C.q0_r11_w, C.q0_r11_b, ↓C.q0_c30_w, ↓C.q0_r10_w, C.q0_r10_b, ↓C.q0_b31_w, ↓C.q0_c32_w, ↓C.q0_c33_w, ↓C.q0_r8_w, C.q0_r8_b, ↓C.q0_b35_w, ↓C.q0_c36_w, ↓C.q0_r7_w, C.q0_r7_b, ↓C.q0_c37_w, ↓C.q0_r6_w, C.q0_r6_b, ↓C.q0_c38_w, ↓C.q0_c39_w, ↓C.q0_r5_w, C.q0_r5_b, ↓C.q0_c40_w, ↓C.q0_r4_w, C.q0_r4_b, ↓C.q0_c41_w, ↓C.q0_r3_w, C.q0_r3_b, ↓C.q0_c42_w, ↓C.q0_r2_w, C.q0_r2_b, ↓C.q0_c43_w, ↓C.q0_r1_w, C.q0_r1_b, ↓C.q0_c44_w, ↓C.q0_r0_w, C.q0_r0_b, C.q0]
      rw [C.q0_c15_w, awp_keep]
      refine back s2 _ h2 fun fr e => ?_
      show awp Try.prog C.q0_c2 _ fr s2
      rw [C.q0_c2_w, awp_keep, e]
      simp only [↓Bp, Bq, Bs, ↓aop.eq_28, ↓aop.eq_30, Nat.reduceEqDiff, Nat.reduceAdd, Nat.reduceMul, Nat.reduceSub, Nat.reduceLeDiff, Nat.reduceLT, Int.reduceLT, Int.reduceLE, Int.reduceEq, Int.reduceToNat, Int.reduceAdd, Int.reduceSub, Int.reduceNeg, ↓reduceIte, reduceCtorEq, ↓C.q0_W, C.q0_B, C.q0, hw]
      exact ⟨t + 1, rfl, ⟨htl, _, h2⟩, by omega⟩
    have T0 : ((o : Int) = 0) = False := eq_false (by omega)
    by_cases o1 : o = 1
    · have T1 : ((o : Int) = 1) = True := eq_true (by omega)
      simp only [↓Bp, Bq, Bs, ↓aop.eq_28, ↓aop.eq_30, Nat.reduceEqDiff, Nat.reduceAdd, Nat.reduceMul, Nat.reduceSub, Nat.reduceLeDiff, Nat.reduceLT, Int.reduceLT, Int.reduceLE, Int.reduceEq, Int.reduceToNat, Int.reduceAdd, Int.reduceSub, Int.reduceNeg, ↓reduceIte, reduceCtorEq, ↓C.q0_W, C.q0_B, C.q0, T0, T1]
      refine (up_none h.w.g hkd).mono ?_
      rintro r s' ⟨rfl, rfl⟩
      simp only [↓Bp, Bq, Bs, ↓aop.eq_28, ↓aop.eq_30, Nat.reduceEqDiff, Nat.reduceAdd, Nat.reduceMul, Nat.reduceSub, Nat.reduceLeDiff, Nat.reduceLT, Int.reduceLT, Int.reduceLE, Int.reduceEq, Int.reduceToNat, Int.reduceAdd, Int.reduceSub, Int.reduceNeg, ↓reduceIte, reduceCtorEq, ↓C.q0_W, C.q0_B, C.q0]
      refine (rup_none hf hkn).mono ?_
      rintro r s2 ⟨rfl, rfl⟩
      have h2 := h
      simp only [↓Bp, Bq, Bs, ↓aop.eq_28, ↓aop.eq_30, Nat.reduceEqDiff, Nat.reduceAdd, Nat.reduceMul, Nat.reduceSub, Nat.reduceLeDiff, Nat.reduceLT, Int.reduceLT, Int.reduceLE, Int.reduceEq, Int.reduceToNat, Int.reduceAdd, Int.reduceSub, Int.reduceNeg, ↓reduceIte, reduceCtorEq, ↓C.q0_r28_w, C.q0_r28_b, ↓C.q0_c1_w, ↓C.q0_r9_w, C.q0_r9_b, ↓C.q0_c2_w, ↓C.q0_r16_w, C.q0_r16_b, ↓C.q0_r18_w, C.q0_r18_b, ↓C.q0_r20_w, C.q0_r20_b, ↓C.q0_r13_w, C.q0_r13_b, ↓C.q0_c16_w, ↓C.q0_c17_w, ↓C.q0_c18_w, ↓C.q0_r19_w, C.q0_r19_b, ↓C.q0_c19_w, ↓C.q0_c20_w, ↓C.q0_c21_w, ↓C.q0_r17_w, C.q0_r17_b, ↓C.q0_c22_w, ↓C.q0_c23_w, ↓C.q0_c24_w, ↓C.q0_r15_w, C.q0_r15_b, ↓C.q0_c25_w, ↓C.q0_c26_w, ↓C.q0_r14_w, C.q0_r14_b, ↓C.q0_b27_w, ↓C.q0_c28_w, ↓C.q0_r12_w, C.q0_r12_b, ↓C.q0_c29_w, ↓C.q0_r11_w, C.q0_r11_b, ↓C.q0_c30_w, ↓C.q0_r10_w, C.q0_r10_b, ↓C.q0_b31_w, ↓C.q0_c32_w, ↓C.q0_c33_w, ↓C.q0_r8_w, C.q0_r8_b, ↓C.q0_b35_w, ↓C.q0_c36_w, ↓C.q0_r7_w, C.q0_r7_b, ↓C.q0_c37_w, ↓C.q0_r6_w, C.q0_r6_b, ↓C.q0_c38_w, ↓C.q0_c39_w, ↓C.q0_r5_w, C.q0_r5_b, ↓C.q0_c40_w, ↓C.q0_r4_w, C.q0_r4_b, ↓C.q0_c41_w, ↓C.q0_r3_w, C.q0_r3_b, ↓C.q0_c42_w, ↓C.q0_r2_w, C.q0_r2_b, ↓C.q0_c43_w, ↓C.q0_r1_w, C.q0_r1_b, ↓C.q0_c44_w, ↓C.q0_r0_w, C.q0_r0_b, C.q0]
      rw [C.q0_c15_w, awp_keep]
      refine back s2 _ h2 fun fr e => ?_
      show awp Try.prog C.q0_c2 _ fr s2
      rw [C.q0_c2_w, awp_keep, e]
      simp only [↓Bp, Bq, Bs, ↓aop.eq_28, ↓aop.eq_30, Nat.reduceEqDiff, Nat.reduceAdd, Nat.reduceMul, Nat.reduceSub, Nat.reduceLeDiff, Nat.reduceLT, Int.reduceLT, Int.reduceLE, Int.reduceEq, Int.reduceToNat, Int.reduceAdd, Int.reduceSub, Int.reduceNeg, ↓reduceIte, reduceCtorEq, ↓C.q0_W, C.q0_B, C.q0, hw]
      exact ⟨t + 1, rfl, ⟨htl, _, h2⟩, by omega⟩
    have T1 : ((o : Int) = 1) = False := eq_false (by omega)
    by_cases o2 : o = 2
    · have T2 : ((o : Int) = 2) = True := eq_true (by omega)
      simp only [↓Bp, Bq, Bs, ↓aop.eq_28, ↓aop.eq_30, Nat.reduceEqDiff, Nat.reduceAdd, Nat.reduceMul, Nat.reduceSub, Nat.reduceLeDiff, Nat.reduceLT, Int.reduceLT, Int.reduceLE, Int.reduceEq, Int.reduceToNat, Int.reduceAdd, Int.reduceSub, Int.reduceNeg, ↓reduceIte, reduceCtorEq, ↓C.q0_W, C.q0_B, C.q0, T0, T1, T2]
      refine (down_none h.w.g hkd false).mono ?_
      rintro r s' ⟨rfl, rfl⟩
      simp only [↓Bp, Bq, Bs, ↓aop.eq_28, ↓aop.eq_30, Nat.reduceEqDiff, Nat.reduceAdd, Nat.reduceMul, Nat.reduceSub, Nat.reduceLeDiff, Nat.reduceLT, Int.reduceLT, Int.reduceLE, Int.reduceEq, Int.reduceToNat, Int.reduceAdd, Int.reduceSub, Int.reduceNeg, ↓reduceIte, reduceCtorEq, ↓C.q0_W, C.q0_B, C.q0]
      refine (rdown_none hf hkn false).mono ?_
      rintro r s2 ⟨rfl, rfl⟩
      have h2 := h
      simp only [↓Bp, Bq, Bs, ↓aop.eq_28, ↓aop.eq_30, Nat.reduceEqDiff, Nat.reduceAdd, Nat.reduceMul, Nat.reduceSub, Nat.reduceLeDiff, Nat.reduceLT, Int.reduceLT, Int.reduceLE, Int.reduceEq, Int.reduceToNat, Int.reduceAdd, Int.reduceSub, Int.reduceNeg, ↓reduceIte, reduceCtorEq, ↓C.q0_r28_w, C.q0_r28_b, ↓C.q0_c1_w, ↓C.q0_r9_w, C.q0_r9_b, ↓C.q0_c2_w, ↓C.q0_r16_w, C.q0_r16_b, ↓C.q0_r18_w, C.q0_r18_b, ↓C.q0_r20_w, C.q0_r20_b, ↓C.q0_r13_w, C.q0_r13_b, ↓C.q0_c16_w, ↓C.q0_c17_w, ↓C.q0_c18_w, ↓C.q0_r19_w, C.q0_r19_b, ↓C.q0_c19_w, ↓C.q0_c20_w, ↓C.q0_c21_w, ↓C.q0_r17_w, C.q0_r17_b, ↓C.q0_c22_w, ↓C.q0_c23_w, ↓C.q0_c24_w, ↓C.q0_r15_w, C.q0_r15_b, ↓C.q0_c25_w, ↓C.q0_c26_w, ↓C.q0_r14_w, C.q0_r14_b, ↓C.q0_b27_w, ↓C.q0_c28_w, ↓C.q0_r12_w, C.q0_r12_b, ↓C.q0_c29_w, ↓C.q0_r11_w, C.q0_r11_b, ↓C.q0_c30_w, ↓C.q0_r10_w, C.q0_r10_b, ↓C.q0_b31_w, ↓C.q0_c32_w, ↓C.q0_c33_w, ↓C.q0_r8_w, C.q0_r8_b, ↓C.q0_b35_w, ↓C.q0_c36_w, ↓C.q0_r7_w, C.q0_r7_b, ↓C.q0_c37_w, ↓C.q0_r6_w, C.q0_r6_b, ↓C.q0_c38_w, ↓C.q0_c39_w, ↓C.q0_r5_w, C.q0_r5_b, ↓C.q0_c40_w, ↓C.q0_r4_w, C.q0_r4_b, ↓C.q0_c41_w, ↓C.q0_r3_w, C.q0_r3_b, ↓C.q0_c42_w, ↓C.q0_r2_w, C.q0_r2_b, ↓C.q0_c43_w, ↓C.q0_r1_w, C.q0_r1_b, ↓C.q0_c44_w, ↓C.q0_r0_w, C.q0_r0_b, C.q0]
      rw [C.q0_c15_w, awp_keep]
      refine back s2 _ h2 fun fr e => ?_
      show awp Try.prog C.q0_c2 _ fr s2
      rw [C.q0_c2_w, awp_keep, e]
      simp only [↓Bp, Bq, Bs, ↓aop.eq_28, ↓aop.eq_30, Nat.reduceEqDiff, Nat.reduceAdd, Nat.reduceMul, Nat.reduceSub, Nat.reduceLeDiff, Nat.reduceLT, Int.reduceLT, Int.reduceLE, Int.reduceEq, Int.reduceToNat, Int.reduceAdd, Int.reduceSub, Int.reduceNeg, ↓reduceIte, reduceCtorEq, ↓C.q0_W, C.q0_B, C.q0, hw]
      exact ⟨t + 1, rfl, ⟨htl, _, h2⟩, by omega⟩
    have T2 : ((o : Int) = 2) = False := eq_false (by omega)
    by_cases o3 : o = 3
    · have T3 : ((o : Int) = 3) = True := eq_true (by omega)
      simp only [↓Bp, Bq, Bs, ↓aop.eq_28, ↓aop.eq_30, Nat.reduceEqDiff, Nat.reduceAdd, Nat.reduceMul, Nat.reduceSub, Nat.reduceLeDiff, Nat.reduceLT, Int.reduceLT, Int.reduceLE, Int.reduceEq, Int.reduceToNat, Int.reduceAdd, Int.reduceSub, Int.reduceNeg, ↓reduceIte, reduceCtorEq, ↓C.q0_W, C.q0_B, C.q0, T0, T1, T2, T3]
      refine (down_none h.w.g hkd true).mono ?_
      rintro r s' ⟨rfl, rfl⟩
      simp only [↓Bp, Bq, Bs, ↓aop.eq_28, ↓aop.eq_30, Nat.reduceEqDiff, Nat.reduceAdd, Nat.reduceMul, Nat.reduceSub, Nat.reduceLeDiff, Nat.reduceLT, Int.reduceLT, Int.reduceLE, Int.reduceEq, Int.reduceToNat, Int.reduceAdd, Int.reduceSub, Int.reduceNeg, ↓reduceIte, reduceCtorEq, ↓C.q0_W, C.q0_B, C.q0]
      refine (rdown_none hf hkn true).mono ?_
      rintro r s2 ⟨rfl, rfl⟩
      have h2 := h
      simp only [↓Bp, Bq, Bs, ↓aop.eq_28, ↓aop.eq_30, Nat.reduceEqDiff, Nat.reduceAdd, Nat.reduceMul, Nat.reduceSub, Nat.reduceLeDiff, Nat.reduceLT, Int.reduceLT, Int.reduceLE, Int.reduceEq, Int.reduceToNat, Int.reduceAdd, Int.reduceSub, Int.reduceNeg, ↓reduceIte, reduceCtorEq, ↓C.q0_r28_w, C.q0_r28_b, ↓C.q0_c1_w, ↓C.q0_r9_w, C.q0_r9_b, ↓C.q0_c2_w, ↓C.q0_r16_w, C.q0_r16_b, ↓C.q0_r18_w, C.q0_r18_b, ↓C.q0_r20_w, C.q0_r20_b, ↓C.q0_r13_w, C.q0_r13_b, ↓C.q0_c16_w, ↓C.q0_c17_w, ↓C.q0_c18_w, ↓C.q0_r19_w, C.q0_r19_b, ↓C.q0_c19_w, ↓C.q0_c20_w, ↓C.q0_c21_w, ↓C.q0_r17_w, C.q0_r17_b, ↓C.q0_c22_w, ↓C.q0_c23_w, ↓C.q0_c24_w, ↓C.q0_r15_w, C.q0_r15_b, ↓C.q0_c25_w, ↓C.q0_c26_w, ↓C.q0_r14_w, C.q0_r14_b, ↓C.q0_b27_w, ↓C.q0_c28_w, ↓C.q0_r12_w, C.q0_r12_b, ↓C.q0_c29_w, ↓C.q0_r11_w, C.q0_r11_b, ↓C.q0_c30_w, ↓C.q0_r10_w, C.q0_r10_b, ↓C.q0_b31_w, ↓C.q0_c32_w, ↓C.q0_c33_w, ↓C.q0_r8_w, C.q0_r8_b, ↓C.q0_b35_w, ↓C.q0_c36_w, ↓C.q0_r7_w, C.q0_r7_b, ↓C.q0_c37_w, ↓C.q0_r6_w, C.q0_r6_b, ↓C.q0_c38_w, ↓C.q0_c39_w, ↓C.q0_r5_w, C.q0_r5_b, ↓C.q0_c40_w, ↓C.q0_r4_w, C.q0_r4_b, ↓C.q0_c41_w, ↓C.q0_r3_w, C.q0_r3_b, ↓C.q0_c42_w, ↓C.q0_r2_w, C.q0_r2_b, ↓C.q0_c43_w, ↓C.q0_r1_w, C.q0_r1_b, ↓C.q0_c44_w, ↓C.q0_r0_w, C.q0_r0_b, C.q0]
      rw [C.q0_c15_w, awp_keep]
      refine back s2 _ h2 fun fr e => ?_
      show awp Try.prog C.q0_c2 _ fr s2
      rw [C.q0_c2_w, awp_keep, e]
      simp only [↓Bp, Bq, Bs, ↓aop.eq_28, ↓aop.eq_30, Nat.reduceEqDiff, Nat.reduceAdd, Nat.reduceMul, Nat.reduceSub, Nat.reduceLeDiff, Nat.reduceLT, Int.reduceLT, Int.reduceLE, Int.reduceEq, Int.reduceToNat, Int.reduceAdd, Int.reduceSub, Int.reduceNeg, ↓reduceIte, reduceCtorEq, ↓C.q0_W, C.q0_B, C.q0, hw]
      exact ⟨t + 1, rfl, ⟨htl, _, h2⟩, by omega⟩
    have T3 : ((o : Int) = 3) = False := eq_false (by omega)
    simp only [↓Bp, Bq, Bs, ↓aop.eq_28, ↓aop.eq_30, Nat.reduceEqDiff, Nat.reduceAdd, Nat.reduceMul, Nat.reduceSub, Nat.reduceLeDiff, Nat.reduceLT, Int.reduceLT, Int.reduceLE, Int.reduceEq, Int.reduceToNat, Int.reduceAdd, Int.reduceSub, Int.reduceNeg, ↓reduceIte, reduceCtorEq, ↓C.q0_W, C.q0_B, C.q0, T0, T1, T2, T3]
    refine (gtick_spec h.w.g h.inv.low).mono ?_
    rintro r s' ⟨rfl, rfl⟩
    have hel : (evs gs).length ≤ 1000 := by have := evTo_len gs gs.length; unfold evs; omega
    simp only [↓Bp, Bq, Bs, ↓aop.eq_28, ↓aop.eq_30, Nat.reduceEqDiff, Nat.reduceAdd, Nat.reduceMul, Nat.reduceSub, Nat.reduceLeDiff, Nat.reduceLT, Int.reduceLT, Int.reduceLE, Int.reduceEq, Int.reduceToNat, Int.reduceAdd, Int.reduceSub, Int.reduceNeg, ↓reduceIte, reduceCtorEq, ↓C.q0_W, C.q0_B, C.q0]
    refine (as_spec hel).mono ?_
    rintro r s' ⟨rfl, rfl⟩
    simp only [↓Bp, Bq, Bs, ↓aop.eq_28, ↓aop.eq_30, Nat.reduceEqDiff, Nat.reduceAdd, Nat.reduceMul, Nat.reduceSub, Nat.reduceLeDiff, Nat.reduceLT, Int.reduceLT, Int.reduceLE, Int.reduceEq, Int.reduceToNat, Int.reduceAdd, Int.reduceSub, Int.reduceNeg, ↓reduceIte, reduceCtorEq, ↓C.q0_W, C.q0_B, C.q0]
    refine (rtick_spec (h.ref hf _) hr h.inv (by omega)).mono ?_
    rintro r s2 ⟨rfl, rs', hf2, hr2, hk2⟩
    have h2 := h.move (gtickL_len gs) h.inv.tick hf2 hr2 hk2
    simp only [↓Bp, Bq, Bs, ↓aop.eq_28, ↓aop.eq_30, Nat.reduceEqDiff, Nat.reduceAdd, Nat.reduceMul, Nat.reduceSub, Nat.reduceLeDiff, Nat.reduceLT, Int.reduceLT, Int.reduceLE, Int.reduceEq, Int.reduceToNat, Int.reduceAdd, Int.reduceSub, Int.reduceNeg, ↓reduceIte, reduceCtorEq, ↓C.q0_W, C.q0_B, C.q0]
    refine (rsame_spec hel).mono ?_
    rintro r s2 ⟨rfl, rfl⟩
    simp only [↓Bp, Bq, Bs, ↓aop.eq_28, ↓aop.eq_30, Nat.reduceEqDiff, Nat.reduceAdd, Nat.reduceMul, Nat.reduceSub, Nat.reduceLeDiff, Nat.reduceLT, Int.reduceLT, Int.reduceLE, Int.reduceEq, Int.reduceToNat, Int.reduceAdd, Int.reduceSub, Int.reduceNeg, ↓reduceIte, reduceCtorEq, ↓C.q0_r28_w, C.q0_r28_b, ↓C.q0_c1_w, ↓C.q0_r9_w, C.q0_r9_b, ↓C.q0_c2_w, ↓C.q0_r16_w, C.q0_r16_b, ↓C.q0_r18_w, C.q0_r18_b, ↓C.q0_r20_w, C.q0_r20_b, ↓C.q0_r13_w, C.q0_r13_b, ↓C.q0_c16_w, ↓C.q0_c17_w, ↓C.q0_c18_w, ↓C.q0_r19_w, C.q0_r19_b, ↓C.q0_c19_w, ↓C.q0_c20_w, ↓C.q0_c21_w, ↓C.q0_r17_w, C.q0_r17_b, ↓C.q0_c22_w, ↓C.q0_c23_w, ↓C.q0_c24_w, ↓C.q0_r15_w, C.q0_r15_b, ↓C.q0_c25_w, ↓C.q0_c26_w, ↓C.q0_r14_w, C.q0_r14_b, ↓C.q0_b27_w, ↓C.q0_c28_w, ↓C.q0_r12_w, C.q0_r12_b, ↓C.q0_c29_w, ↓C.q0_r11_w, C.q0_r11_b, ↓C.q0_c30_w, ↓C.q0_r10_w, C.q0_r10_b, ↓C.q0_b31_w, ↓C.q0_c32_w, ↓C.q0_c33_w, ↓C.q0_r8_w, C.q0_r8_b, ↓C.q0_b35_w, ↓C.q0_c36_w, ↓C.q0_r7_w, C.q0_r7_b, ↓C.q0_c37_w, ↓C.q0_r6_w, C.q0_r6_b, ↓C.q0_c38_w, ↓C.q0_c39_w, ↓C.q0_r5_w, C.q0_r5_b, ↓C.q0_c40_w, ↓C.q0_r4_w, C.q0_r4_b, ↓C.q0_c41_w, ↓C.q0_r3_w, C.q0_r3_b, ↓C.q0_c42_w, ↓C.q0_r2_w, C.q0_r2_b, ↓C.q0_c43_w, ↓C.q0_r1_w, C.q0_r1_b, ↓C.q0_c44_w, ↓C.q0_r0_w, C.q0_r0_b, C.q0]
    rw [C.q0_c15_w, awp_keep]
    refine back s2 _ h2 fun fr e => ?_
    show awp Try.prog C.q0_c2 _ fr s2
    rw [C.q0_c2_w, awp_keep, e]
    simp only [↓Bp, Bq, Bs, ↓aop.eq_28, ↓aop.eq_30, Nat.reduceEqDiff, Nat.reduceAdd, Nat.reduceMul, Nat.reduceSub, Nat.reduceLeDiff, Nat.reduceLT, Int.reduceLT, Int.reduceLE, Int.reduceEq, Int.reduceToNat, Int.reduceAdd, Int.reduceSub, Int.reduceNeg, ↓reduceIte, reduceCtorEq, ↓C.q0_W, C.q0_B, C.q0, hw]
    exact ⟨t + 1, rfl, ⟨htl, _, h2⟩, by omega⟩
end
theorem powerplays_spec {st : ASt} {l : List Int} {acts : List Pair} (hl : ∀ x ∈ l, -9223372036854775808 ≤ x ∧ x ≤ 9223372036854775807) (hll : l.length ≤ 9223372036854775807)
    (hac : ∀ x ∈ acts, I64 x.a ∧ I64 x.b) (hal : acts.length ≤ 9223372036854775807) :
    ACalls Try.prog F.q0 [row l, .isl 2 (acts.flatMap encPair) acts.length] st fun r s => r = .bool true ∧ s = st := by
  refine ACalls.gc (Q' := fun r s => r = .bool true ∧ st.le s) (calls_of_awp L.q0 rfl ?_) (fun v s ⟨h, hl⟩ => ⟨st, hl, h, rfl⟩)
  simp only [↓Bp, Bq, Bs, ↓aop.eq_28, ↓aop.eq_30, Nat.reduceEqDiff, Nat.reduceAdd, Nat.reduceMul, Nat.reduceSub, Nat.reduceLeDiff, Nat.reduceLT, Int.reduceLT, Int.reduceLE, Int.reduceEq, Int.reduceToNat, Int.reduceAdd, Int.reduceSub, Int.reduceNeg, ↓reduceIte, reduceCtorEq, ↓C.q0_W, C.q0_B, C.q0]
  refine (gshown_spec st).mono ?_
  rintro r s ⟨rfl, rfl⟩
  simp only [↓Bp, Bq, Bs, ↓aop.eq_28, ↓aop.eq_30, Nat.reduceEqDiff, Nat.reduceAdd, Nat.reduceMul, Nat.reduceSub, Nat.reduceLeDiff, Nat.reduceLT, Int.reduceLT, Int.reduceLE, Int.reduceEq, Int.reduceToNat, Int.reduceAdd, Int.reduceSub, Int.reduceNeg, ↓reduceIte, reduceCtorEq, ↓C.q0_W, C.q0_B, C.q0]
  refine (chip_frz hl hll).mono ?_
  rintro r s ⟨rfl, rfl⟩
  have hS := chipS_like l
  generalize chipS l = S at hS
  have l4 : S.cells.length = 4 := rfl
  have e4 : AV.agg (List.take 4 S.cells) = .agg S.cells := rfl
  have f4 : allLeaf S.cells = true := rfl
  simp only [↓Bp, Bq, Bs, ↓aop.eq_28, ↓aop.eq_30, Nat.reduceEqDiff, Nat.reduceAdd, Nat.reduceMul, Nat.reduceSub, Nat.reduceLeDiff, Nat.reduceLT, Int.reduceLT, Int.reduceLE, Int.reduceEq, Int.reduceToNat, Int.reduceAdd, Int.reduceSub, Int.reduceNeg, ↓reduceIte, reduceCtorEq, ↓C.q0_r2_w, C.q0_r2_b, ↓C.q0_c43_w, ↓C.q0_r1_w, C.q0_r1_b, ↓C.q0_c44_w, ↓C.q0_r0_w, C.q0_r0_b, C.q0, l4, f4]
  rintro ib hib
  simp only [↓Bp, Bq, Bs, ↓aop.eq_28, ↓aop.eq_30, Nat.reduceEqDiff, Nat.reduceAdd, Nat.reduceMul, Nat.reduceSub, Nat.reduceLeDiff, Nat.reduceLT, Int.reduceLT, Int.reduceLE, Int.reduceEq, Int.reduceToNat, Int.reduceAdd, Int.reduceSub, Int.reduceNeg, ↓reduceIte, reduceCtorEq, ↓C.q0_r2_w, C.q0_r2_b, ↓C.q0_c43_w, ↓C.q0_r1_w, C.q0_r1_b, ↓C.q0_c44_w, ↓C.q0_r0_w, C.q0_r0_b, C.q0, hib, l4, f4]
  rw [ASt.new_set hib, show putN [AV.nils, AV.nils, AV.nils, AV.nils] 0 S.cells = S.cells from putN_all rfl]
  simp only [↓Bp, Bq, Bs, ↓aop.eq_28, ↓aop.eq_30, Nat.reduceEqDiff, Nat.reduceAdd, Nat.reduceMul, Nat.reduceSub, Nat.reduceLeDiff, Nat.reduceLT, Int.reduceLT, Int.reduceLE, Int.reduceEq, Int.reduceToNat, Int.reduceAdd, Int.reduceSub, Int.reduceNeg, ↓reduceIte, reduceCtorEq, ↓C.q0_W, C.q0_B, C.q0, hib, l4, e4]
  refine (gstart_spec hib hS).mono ?_
  rintro r s1 ⟨p, ig, rfl, h⟩
  have hb := h.hb
  simp only [↓Bp, Bq, Bs, ↓aop.eq_28, ↓aop.eq_30, Nat.reduceEqDiff, Nat.reduceAdd, Nat.reduceMul, Nat.reduceSub, Nat.reduceLeDiff, Nat.reduceLT, Int.reduceLT, Int.reduceLE, Int.reduceEq, Int.reduceToNat, Int.reduceAdd, Int.reduceSub, Int.reduceNeg, ↓reduceIte, reduceCtorEq, ↓C.q0_W, C.q0_B, C.q0, hb, l4, e4]
  refine (rnew_spec hS).mono ?_
  rintro r s2 ⟨q, jd, js, rfl, hf, hle⟩
  have hP : PSt s s1 s2 ib p ig q jd js S (gfresh S.doms) := ⟨h.step hle, ⟨_, hf, RelL.fresh _⟩, by rw [h.hb]; simp, by rw [h.g.hp]; simp, by rw [h.g.hg]; simp, h.le, GInv.fresh hS.dom⟩
  by_cases hac0 : acts.length ≤ 120
  rotate_left
  · have hz0 : (120 : Int) < (acts.length : Nat) := by omega
    simp only [↓Bp, Bq, Bs, ↓aop.eq_28, ↓aop.eq_30, Nat.reduceEqDiff, Nat.reduceAdd, Nat.reduceMul, Nat.reduceSub, Nat.reduceLeDiff, Nat.reduceLT, Int.reduceLT, Int.reduceLE, Int.reduceEq, Int.reduceToNat, Int.reduceAdd, Int.reduceSub, Int.reduceNeg, ↓reduceIte, reduceCtorEq, ↓C.q0_W, C.q0_B, C.q0, hz0]
    exact h.le.trans hle
  have hz0 : ¬ (120 : Int) < (acts.length : Nat) := by omega
  simp only [↓Bp, Bq, Bs, ↓aop.eq_28, ↓aop.eq_30, Nat.reduceEqDiff, Nat.reduceAdd, Nat.reduceMul, Nat.reduceSub, Nat.reduceLeDiff, Nat.reduceLT, Int.reduceLT, Int.reduceLE, Int.reduceEq, Int.reduceToNat, Int.reduceAdd, Int.reduceSub, Int.reduceNeg, ↓reduceIte, reduceCtorEq, ↓C.q0_r6_w, C.q0_r6_b, ↓C.q0_c38_w, ↓C.q0_c39_w, ↓C.q0_r5_w, C.q0_r5_b, ↓C.q0_c40_w, ↓C.q0_r4_w, C.q0_r4_b, ↓C.q0_c41_w, ↓C.q0_r3_w, C.q0_r3_b, ↓C.q0_c42_w, ↓C.q0_r2_w, C.q0_r2_b, ↓C.q0_c43_w, ↓C.q0_r1_w, C.q0_r1_b, ↓C.q0_c44_w, ↓C.q0_r0_w, C.q0_r0_b, C.q0, hz0]
  rw [C.q0_c37_w, awp_keep]
  exact pp_loop hS hac hac0 hP
end Go.Proofs.Ytgfpnfnjnakoaaa.Cn
