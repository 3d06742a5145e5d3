/- Power: PowerAlone. -/
import Derived.Test.YtgfpnfnjnakoaaaCnPower6
set_option linter.unusedSimpArgs false
set_option linter.unusedVariables false
set_option linter.unusedSectionVars false
namespace Go.Proofs.Ytgfpnfnjnakoaaa.Cn
open Go Go.Proofs

def phs (gs : List Gd) : List AV := gs.map fun g => .int .u8 g.phase
theorem phs_len (gs : List Gd) : (phs gs).length = gs.length := by simp [phs]
theorem phs_get {gs : List Gd} {i : Nat} (h : i < gs.length) : (phs gs)[i]? = some (.int .u8 gs[i].phase) := by simp [phs, h]
/-- The phases seen so far. -/
def phTo (gs : List Gd) (i : Nat) : List AV := (gs.take i).map (fun g => .int .u8 g.phase) ++ List.replicate (gs.length - i) (.int .u8 0)
theorem phTo_len (gs : List Gd) (i : Nat) : (phTo gs i).length = gs.length := by simp [phTo]; omega
theorem phTo_set {gs : List Gd} {i : Nat} (h : i < gs.length) : (phTo gs i).set i (.int .u8 gs[i].phase) = phTo gs (i + 1) := by
  simp only [phTo]
  rw [List.set_append_right _ _ (by simp; omega), List.take_succ_eq_append_getElem h, List.map_append]
  have e1 : i - ((gs.take i).map fun g => AV.int .u8 g.phase).length = 0 := by simp; omega
  have e2 : gs.length - i = (gs.length - (i + 1)) + 1 := by omega
  rw [e1, e2, List.replicate_succ, List.set_cons_zero]
  simp
theorem phTo_all (gs : List Gd) : phTo gs gs.length = phs gs := by simp [phTo, phs]
theorem zeros_u8 (n : Nat) : zeros [.int .u8 0] n = List.replicate n (.int .u8 0) := by
  induction n with
  | zero => rfl
  | succ n ih => rw [zeros, ih]; rfl
/-- What an act on one domain leaves of the others. -/
def Others (k : Nat) (gs gs' : List Gd) : Prop := gs'.length = gs.length ∧ ∀ j (h : j < gs.length) (h' : j < gs'.length), j ≠ k → gs'[j].phase = gs[j].phase
theorem Others.up {gs : List Gd} {k : Nat} (hk : k < gs.length) : Others k gs (upG gs k hk) := by
  refine ⟨upG_len hk, fun j h h' hj => ?_⟩
  unfold upG; split
  · rfl
  · rw [List.getElem_set_ne (Ne.symm hj)]
theorem Others.down {gs : List Gd} {k : Nat} (hk : k < gs.length) (b : Bool) : Others k gs (downG gs k hk b) := by
  refine ⟨downG_len hk b, fun j h h' hj => ?_⟩
  unfold downG; split
  · rw [List.getElem_set_ne (Ne.symm hj)]
  · rfl
section
variable {st : ASt} {ib p ig : Nat} {S : Soc} (hS : S.like)
include hS
/-- The first acts. -/
theorem alone_first {s : ASt} {gs : List Gd} {k o : Nat} {z : AV} (h : WSt st s ib p ig S gs) (hI : GInv S.doms gs) {Q : IExit → AFr → ASt → Prop}
    (hQ : ∀ s' gs', WSt st s' ib p ig S gs' → GInv S.doms gs' → awp Try.prog C.catnaplaw7_PowerAlone_c29 Q [(3, z), (10, .ptr ib 0), (11, .ptr p 0), (13, .int .i64 k), (14, .int .i64 o)] s') :
    awp Try.prog C.catnaplaw7_PowerAlone_c38 Q [(3, z), (10, .ptr ib 0), (11, .ptr p 0), (13, .int .i64 k), (14, .int .i64 o)] s := by
  have hnd := hS.nd
  simp only [↓Bp, Bq, Bs, ↓aop.eq_28, ↓aop.eq_30, Nat.reduceEqDiff, Nat.reduceAdd, Nat.reduceMul, Nat.reduceSub, Nat.reduceLeDiff, Nat.reduceLT, Int.reduceLT, Int.reduceLE, Int.reduceEq, Int.reduceToNat, Int.reduceAdd, Int.reduceSub, Int.reduceNeg, ↓reduceIte, reduceCtorEq, ↓C.catnaplaw7_PowerAlone_W, C.catnaplaw7_PowerAlone_B, C.catnaplaw7_PowerAlone]
  refine awp_midB (fun _ : Unit => [(3, z), (10, .ptr ib 0), (11, .ptr p 0), (13, .int .i64 k), (14, .int .i64 o)]) (fun _ s' => ∃ gs', WSt st s' ib p ig S gs' ∧ GInv S.doms gs') ?_ ?_
  rotate_left
  · rintro - s' ⟨gs', h1, h2⟩; exact hQ s' gs' h1 h2
  refine awp_loopK (fun t : Nat => [(3, z), (10, .ptr ib 0), (11, .ptr p 0), (13, .int .i64 k), (14, .int .i64 o), (15, .int .i64 t)]) (fun t s' => t ≤ 3 * S.doms.length ∧ ∃ gs', WSt st s' ib p ig S gs' ∧ GInv S.doms gs') (fun t => 3 * S.doms.length - t) 0 rfl ⟨Nat.zero_le _, gs, h, hI⟩ ?_
  clear h hI gs s hQ
  rintro t s ⟨ht, gs, h, hI⟩
  have hb := h.hb
  have w3 : IntKind.i64.wrap (3 * (S.doms.length : Int)) = 3 * (S.doms.length : Int) := by rw [wrap64] <;> omega
  by_cases htl : t < 3 * S.doms.length
  rotate_left
  · have htl' : ¬ (t : Int) < 3 * (S.doms.length : Nat) := by omega
    simp only [↓Bp, Bq, Bs, ↓aop.eq_28, ↓aop.eq_30, Nat.reduceEqDiff, Nat.reduceAdd, Nat.reduceMul, Nat.reduceSub, Nat.reduceLeDiff, Nat.reduceLT, Int.reduceLT, Int.reduceLE, Int.reduceEq, Int.reduceToNat, Int.reduceAdd, Int.reduceSub, Int.reduceNeg, ↓reduceIte, reduceCtorEq, ↓C.catnaplaw7_PowerAlone_W, C.catnaplaw7_PowerAlone_B, C.catnaplaw7_PowerAlone, hb, Soc.cells, Soc.domV, w3, htl']
    exact ⟨(), gs, h, hI⟩
  have htl' : (t : Int) < 3 * (S.doms.length : Nat) := by omega
  have hw := wsucc htl (by omega)
  have n0 := eq_false (show ¬ ((S.doms.length : Nat) : Int) = 0 by omega)
  have hlen := hI.len
  have hk : t % S.doms.length < gs.length := by rw [hlen]; exact Nat.mod_lt _ (by omega)
  simp only [↓Bp, Bq, Bs, ↓aop.eq_28, ↓aop.eq_30, Nat.reduceEqDiff, Nat.reduceAdd, Nat.reduceMul, Nat.reduceSub, Nat.reduceLeDiff, Nat.reduceLT, Int.reduceLT, Int.reduceLE, Int.reduceEq, Int.reduceToNat, Int.reduceAdd, Int.reduceSub, Int.reduceNeg, ↓reduceIte, reduceCtorEq, ↓C.catnaplaw7_PowerAlone_r29_w, C.catnaplaw7_PowerAlone_r29_b, ↓C.catnaplaw7_PowerAlone_c1_w, ↓C.catnaplaw7_PowerAlone_r26_w, C.catnaplaw7_PowerAlone_r26_b, ↓C.catnaplaw7_PowerAlone_c2_w, ↓C.catnaplaw7_PowerAlone_r28_w, C.catnaplaw7_PowerAlone_r28_b, ↓C.catnaplaw7_PowerAlone_c3_w, ↓C.catnaplaw7_PowerAlone_c4_w, ↓C.catnaplaw7_PowerAlone_r27_w, C.catnaplaw7_PowerAlone_r27_b, ↓C.catnaplaw7_PowerAlone_b5_w, ↓C.catnaplaw7_PowerAlone_c6_w, ↓C.catnaplaw7_PowerAlone_c7_w, ↓C.catnaplaw7_PowerAlone_r25_w, C.catnaplaw7_PowerAlone_r25_b, ↓C.catnaplaw7_PowerAlone_b9_w, ↓C.catnaplaw7_PowerAlone_c10_w, ↓C.catnaplaw7_PowerAlone_r24_w, C.catnaplaw7_PowerAlone_r24_b, ↓C.catnaplaw7_PowerAlone_c11_w, ↓C.catnaplaw7_PowerAlone_r21_w, C.catnaplaw7_PowerAlone_r21_b, ↓C.catnaplaw7_PowerAlone_r23_w, C.catnaplaw7_PowerAlone_r23_b, ↓C.catnaplaw7_PowerAlone_r19_w, C.catnaplaw7_PowerAlone_r19_b, ↓C.catnaplaw7_PowerAlone_c12_w, ↓C.catnaplaw7_PowerAlone_c13_w, ↓C.catnaplaw7_PowerAlone_c14_w, ↓C.catnaplaw7_PowerAlone_r22_w, C.catnaplaw7_PowerAlone_r22_b, ↓C.catnaplaw7_PowerAlone_c15_w, ↓C.catnaplaw7_PowerAlone_c16_w, ↓C.catnaplaw7_PowerAlone_c17_w, ↓C.catnaplaw7_PowerAlone_r20_w, C.catnaplaw7_PowerAlone_r20_b, ↓C.catnaplaw7_PowerAlone_b18_w, ↓C.catnaplaw7_PowerAlone_c19_w, ↓C.catnaplaw7_PowerAlone_r18_w, C.catnaplaw7_PowerAlone_r18_b, ↓C.catnaplaw7_PowerAlone_c20_w, ↓C.catnaplaw7_PowerAlone_r16_w, C.catnaplaw7_PowerAlone_r16_b, ↓C.catnaplaw7_PowerAlone_c21_w, ↓C.catnaplaw7_PowerAlone_r17_w, C.catnaplaw7_PowerAlone_r17_b, ↓C.catnaplaw7_PowerAlone_b22_w, ↓C.catnaplaw7_PowerAlone_c23_w, ↓C.catnaplaw7_PowerAlone_c24_w, ↓C.catnaplaw7_PowerAlone_r15_w, C.catnaplaw7_PowerAlone_r15_b, ↓C.catnaplaw7_PowerAlone_b26_w, ↓C.catnaplaw7_PowerAlone_c27_w, ↓C.catnaplaw7_PowerAlone_r14_w, C.catnaplaw7_PowerAlone_r14_b, ↓C.catnaplaw7_PowerAlone_c28_w, ↓C.catnaplaw7_PowerAlone_r13_w, C.catnaplaw7_PowerAlone_r13_b, ↓C.catnaplaw7_PowerAlone_c29_w, ↓C.catnaplaw7_PowerAlone_r12_w, C.catnaplaw7_PowerAlone_r12_b, ↓C.catnaplaw7_PowerAlone_c31_w, ↓C.catnaplaw7_PowerAlone_r11_w, C.catnaplaw7_PowerAlone_r11_b, ↓C.catnaplaw7_PowerAlone_b32_w, ↓C.catnaplaw7_PowerAlone_c33_w, ↓C.catnaplaw7_PowerAlone_c34_w, ↓C.catnaplaw7_PowerAlone_r9_w, C.catnaplaw7_PowerAlone_r9_b, ↓C.catnaplaw7_PowerAlone_b36_w, ↓C.catnaplaw7_PowerAlone_c37_w, ↓C.catnaplaw7_PowerAlone_r8_w, C.catnaplaw7_PowerAlone_r8_b, ↓C.catnaplaw7_PowerAlone_c38_w, ↓C.catnaplaw7_PowerAlone_r7_w, C.catnaplaw7_PowerAlone_r7_b, ↓C.catnaplaw7_PowerAlone_c39_w, ↓C.catnaplaw7_PowerAlone_r6_w, C.catnaplaw7_PowerAlone_r6_b, ↓C.catnaplaw7_PowerAlone_c40_w, ↓C.catnaplaw7_PowerAlone_r5_w, C.catnaplaw7_PowerAlone_r5_b, ↓C.catnaplaw7_PowerAlone_c41_w, ↓C.catnaplaw7_PowerAlone_c42_w, ↓C.catnaplaw7_PowerAlone_r4_w, C.catnaplaw7_PowerAlone_r4_b, ↓C.catnaplaw7_PowerAlone_c43_w, ↓C.catnaplaw7_PowerAlone_r3_w, C.catnaplaw7_PowerAlone_r3_b, ↓C.catnaplaw7_PowerAlone_c44_w, ↓C.catnaplaw7_PowerAlone_r2_w, C.catnaplaw7_PowerAlone_r2_b, ↓C.catnaplaw7_PowerAlone_c45_w, ↓C.catnaplaw7_PowerAlone_r1_w, C.catnaplaw7_PowerAlone_r1_b, ↓C.catnaplaw7_PowerAlone_c46_w, ↓C.catnaplaw7_PowerAlone_r0_w, C.catnaplaw7_PowerAlone_r0_b, C.catnaplaw7_PowerAlone, hb, Soc.cells, Soc.domV, w3, htl', n0, nat_tmod]
  refine (up_spec h.g hI.above hk).mono ?_
  rintro r s' ⟨rfl, rfl⟩
  have h2 := h.set (upG_len hk)
  have hI2 := hI.up hk
  generalize s.set ig (gsC (upG gs _ hk)) = s2 at h2
  simp only [↓Bp, Bq, Bs, ↓aop.eq_28, ↓aop.eq_30, Nat.reduceEqDiff, Nat.reduceAdd, Nat.reduceMul, Nat.reduceSub, Nat.reduceLeDiff, Nat.reduceLT, Int.reduceLT, Int.reduceLE, Int.reduceEq, Int.reduceToNat, Int.reduceAdd, Int.reduceSub, Int.reduceNeg, ↓reduceIte, reduceCtorEq, ↓C.catnaplaw7_PowerAlone_W, C.catnaplaw7_PowerAlone_B, C.catnaplaw7_PowerAlone]
  refine (gtick_spec h2.g hI2.low).mono ?_
  rintro r s' ⟨rfl, rfl⟩
  have h3 := h2.set (gtickL_len _)
  simp only [↓Bp, Bq, Bs, ↓aop.eq_28, ↓aop.eq_30, Nat.reduceEqDiff, Nat.reduceAdd, Nat.reduceMul, Nat.reduceSub, Nat.reduceLeDiff, Nat.reduceLT, Int.reduceLT, Int.reduceLE, Int.reduceEq, Int.reduceToNat, Int.reduceAdd, Int.reduceSub, Int.reduceNeg, ↓reduceIte, reduceCtorEq, ↓C.catnaplaw7_PowerAlone_W, C.catnaplaw7_PowerAlone_B, C.catnaplaw7_PowerAlone, hw]
  exact ⟨t + 1, rfl, ⟨htl, _, h3, hI2.tick⟩, by omega⟩
/-- The phases are written down. -/
structure BSt (st s : ASt) (ib ix p ig : Nat) (S : Soc) (gs : List Gd) (X : List AV) : Prop where
  w : WSt st s ib p ig S gs
  hx : s.h ix = some (.cells X)
  fx : st.h ix = none
  nx : ix ≠ ig
  np : ix ≠ p
  nb : ix ≠ ib
omit hS in
theorem BSt.set {s : ASt} {ix : Nat} {gs gs' : List Gd} {X : List AV} (h : BSt st s ib ix p ig S gs X) (hl : gs'.length = gs.length) : BSt st (s.set ig (gsC gs')) ib ix p ig S gs' X :=
  ⟨h.w.set hl, by rw [ASt.set_h, if_neg h.nx]; exact h.hx, h.fx, h.nx, h.np, h.nb⟩
omit hS in
theorem BSt.put {s : ASt} {ix : Nat} {gs : List Gd} {X X' : List AV} (h : BSt st s ib ix p ig S gs X) : BSt st (s.set ix (.cells X')) ib ix p ig S gs X' :=
  ⟨⟨fun j o hj => by rw [ASt.set_h, if_neg (by rintro rfl; rw [h.fx] at hj; cases hj)]; exact h.w.le _ _ hj, by rw [ASt.set_h, if_neg (Ne.symm h.nb)]; exact h.w.hb,
    ⟨by rw [ASt.set_h, if_neg (Ne.symm h.np)]; exact h.w.g.hp, by rw [ASt.set_h, if_neg (Ne.symm h.nx)]; exact h.w.g.hg, h.w.g.ne, h.w.g.few⟩, h.w.fg, h.w.ne⟩,
   by rw [ASt.set_h, if_pos rfl, h.hx]; rfl, h.fx, h.nx, h.np, h.nb⟩
theorem alone_end {s : ASt} {ix : Nat} {gs gs' : List Gd} {k o : Nat} (hk : k < gs.length) (ho : o < gs.length) (hI : GInv S.doms gs) (hO : Others k gs gs') (h : BSt st s ib ix p ig S gs' (phs gs)) :
    awp Try.prog C.catnaplaw7_PowerAlone_c11 (Post [.slot 8] fun r s => r = .bool true ∧ st.le s) [(10, .ptr ib 0), (11, .ptr p 0), (13, .int .i64 k), (14, .int .i64 o), (16, .sl 1 ix 0 gs.length)] s := by
  have hnd := hS.nd
  have hlen := hI.len
  simp only [↓Bp, Bq, Bs, ↓aop.eq_28, ↓aop.eq_30, Nat.reduceEqDiff, Nat.reduceAdd, Nat.reduceMul, Nat.reduceSub, Nat.reduceLeDiff, Nat.reduceLT, Int.reduceLT, Int.reduceLE, Int.reduceEq, Int.reduceToNat, Int.reduceAdd, Int.reduceSub, Int.reduceNeg, ↓reduceIte, reduceCtorEq, ↓C.catnaplaw7_PowerAlone_W, C.catnaplaw7_PowerAlone_B, C.catnaplaw7_PowerAlone]
  refine awp_midB (fun _ : Unit => [(11, .ptr p 0), (13, .int .i64 k), (14, .int .i64 o), (16, .sl 1 ix 0 gs.length)]) (fun _ s' => s' = s) ?_ ?_
  · refine awp_loopK (fun t : Nat => [(10, .ptr ib 0), (11, .ptr p 0), (13, .int .i64 k), (14, .int .i64 o), (16, .sl 1 ix 0 gs.length), (18, .int .i64 t)]) (fun t s' => t ≤ gs.length ∧ s' = s) (fun t => gs.length - t) 0 rfl ⟨Nat.zero_le _, rfl⟩ ?_
    rintro t s ⟨ht, rfl⟩
    have hb := h.w.hb
    by_cases htl : t < gs.length
    rotate_left
    · have htl' : ¬ (t : Int) < (S.doms.length : Nat) := by omega
      simp only [↓Bp, Bq, Bs, ↓aop.eq_28, ↓aop.eq_30, Nat.reduceEqDiff, Nat.reduceAdd, Nat.reduceMul, Nat.reduceSub, Nat.reduceLeDiff, Nat.reduceLT, Int.reduceLT, Int.reduceLE, Int.reduceEq, Int.reduceToNat, Int.reduceAdd, Int.reduceSub, Int.reduceNeg, ↓reduceIte, reduceCtorEq, ↓C.catnaplaw7_PowerAlone_W, C.catnaplaw7_PowerAlone_B, C.catnaplaw7_PowerAlone, hb, Soc.cells, Soc.domV, htl']
      exact ⟨(), trivial⟩
    have htl' : (t : Int) < (S.doms.length : Nat) := by omega
    have hw := wsucc htl (by omega)
    have hz : (0:Int) ≤ (t : Int) ∧ (t : Int) < (gs.length : Nat) := by omega
    have hx := h.hx
    have hg := phs_get htl
    have ht2 : t < gs'.length := by rw [hO.1]; exact htl
    by_cases e : t = k
    · have T1 := eq_true (show (t : Int) = (k : Int) by omega)
      simp only [↓Bp, Bq, Bs, ↓aop.eq_28, ↓aop.eq_30, Nat.reduceEqDiff, Nat.reduceAdd, Nat.reduceMul, Nat.reduceSub, Nat.reduceLeDiff, Nat.reduceLT, Int.reduceLT, Int.reduceLE, Int.reduceEq, Int.reduceToNat, Int.reduceAdd, Int.reduceSub, Int.reduceNeg, ↓reduceIte, reduceCtorEq, ↓C.catnaplaw7_PowerAlone_W, C.catnaplaw7_PowerAlone_B, C.catnaplaw7_PowerAlone, hb, Soc.cells, Soc.domV, htl', T1, hw]
      exact ⟨(fun e => by cases e), t + 1, rfl, htl, by omega⟩
    · have T1 := eq_false (show ¬ (t : Int) = (k : Int) by omega)
      simp only [↓Bp, Bq, Bs, ↓aop.eq_28, ↓aop.eq_30, Nat.reduceEqDiff, Nat.reduceAdd, Nat.reduceMul, Nat.reduceSub, Nat.reduceLeDiff, Nat.reduceLT, Int.reduceLT, Int.reduceLE, Int.reduceEq, Int.reduceToNat, Int.reduceAdd, Int.reduceSub, Int.reduceNeg, ↓reduceIte, reduceCtorEq, ↓C.catnaplaw7_PowerAlone_r29_w, C.catnaplaw7_PowerAlone_r29_b, ↓C.catnaplaw7_PowerAlone_c1_w, ↓C.catnaplaw7_PowerAlone_r26_w, C.catnaplaw7_PowerAlone_r26_b, ↓C.catnaplaw7_PowerAlone_c2_w, ↓C.catnaplaw7_PowerAlone_r27_w, C.catnaplaw7_PowerAlone_r27_b, ↓C.catnaplaw7_PowerAlone_b5_w, ↓C.catnaplaw7_PowerAlone_c6_w, ↓C.catnaplaw7_PowerAlone_c7_w, ↓C.catnaplaw7_PowerAlone_r25_w, C.catnaplaw7_PowerAlone_r25_b, ↓C.catnaplaw7_PowerAlone_b9_w, ↓C.catnaplaw7_PowerAlone_c10_w, ↓C.catnaplaw7_PowerAlone_r24_w, C.catnaplaw7_PowerAlone_r24_b, ↓C.catnaplaw7_PowerAlone_c11_w, ↓C.catnaplaw7_PowerAlone_r21_w, C.catnaplaw7_PowerAlone_r21_b, ↓C.catnaplaw7_PowerAlone_r23_w, C.catnaplaw7_PowerAlone_r23_b, ↓C.catnaplaw7_PowerAlone_r19_w, C.catnaplaw7_PowerAlone_r19_b, ↓C.catnaplaw7_PowerAlone_c12_w, ↓C.catnaplaw7_PowerAlone_c13_w, ↓C.catnaplaw7_PowerAlone_c14_w, ↓C.catnaplaw7_PowerAlone_r22_w, C.catnaplaw7_PowerAlone_r22_b, ↓C.catnaplaw7_PowerAlone_c15_w, ↓C.catnaplaw7_PowerAlone_c16_w, ↓C.catnaplaw7_PowerAlone_c17_w, ↓C.catnaplaw7_PowerAlone_r20_w, C.catnaplaw7_PowerAlone_r20_b, ↓C.catnaplaw7_PowerAlone_b18_w, ↓C.catnaplaw7_PowerAlone_c19_w, ↓C.catnaplaw7_PowerAlone_r18_w, C.catnaplaw7_PowerAlone_r18_b, ↓C.catnaplaw7_PowerAlone_c20_w, ↓C.catnaplaw7_PowerAlone_r16_w, C.catnaplaw7_PowerAlone_r16_b, ↓C.catnaplaw7_PowerAlone_c21_w, ↓C.catnaplaw7_PowerAlone_r17_w, C.catnaplaw7_PowerAlone_r17_b, ↓C.catnaplaw7_PowerAlone_b22_w, ↓C.catnaplaw7_PowerAlone_c23_w, ↓C.catnaplaw7_PowerAlone_c24_w, ↓C.catnaplaw7_PowerAlone_r15_w, C.catnaplaw7_PowerAlone_r15_b, ↓C.catnaplaw7_PowerAlone_b26_w, ↓C.catnaplaw7_PowerAlone_c27_w, ↓C.catnaplaw7_PowerAlone_r14_w, C.catnaplaw7_PowerAlone_r14_b, ↓C.catnaplaw7_PowerAlone_c28_w, ↓C.catnaplaw7_PowerAlone_r13_w, C.catnaplaw7_PowerAlone_r13_b, ↓C.catnaplaw7_PowerAlone_c29_w, ↓C.catnaplaw7_PowerAlone_r10_w, C.catnaplaw7_PowerAlone_r10_b, ↓C.catnaplaw7_PowerAlone_c30_w, ↓C.catnaplaw7_PowerAlone_r12_w, C.catnaplaw7_PowerAlone_r12_b, ↓C.catnaplaw7_PowerAlone_c31_w, ↓C.catnaplaw7_PowerAlone_r11_w, C.catnaplaw7_PowerAlone_r11_b, ↓C.catnaplaw7_PowerAlone_b32_w, ↓C.catnaplaw7_PowerAlone_c33_w, ↓C.catnaplaw7_PowerAlone_c34_w, ↓C.catnaplaw7_PowerAlone_r9_w, C.catnaplaw7_PowerAlone_r9_b, ↓C.catnaplaw7_PowerAlone_b36_w, ↓C.catnaplaw7_PowerAlone_c37_w, ↓C.catnaplaw7_PowerAlone_r8_w, C.catnaplaw7_PowerAlone_r8_b, ↓C.catnaplaw7_PowerAlone_c38_w, ↓C.catnaplaw7_PowerAlone_r7_w, C.catnaplaw7_PowerAlone_r7_b, ↓C.catnaplaw7_PowerAlone_c39_w, ↓C.catnaplaw7_PowerAlone_r6_w, C.catnaplaw7_PowerAlone_r6_b, ↓C.catnaplaw7_PowerAlone_c40_w, ↓C.catnaplaw7_PowerAlone_r5_w, C.catnaplaw7_PowerAlone_r5_b, ↓C.catnaplaw7_PowerAlone_c41_w, ↓C.catnaplaw7_PowerAlone_c42_w, ↓C.catnaplaw7_PowerAlone_r4_w, C.catnaplaw7_PowerAlone_r4_b, ↓C.catnaplaw7_PowerAlone_c43_w, ↓C.catnaplaw7_PowerAlone_r3_w, C.catnaplaw7_PowerAlone_r3_b, ↓C.catnaplaw7_PowerAlone_c44_w, ↓C.catnaplaw7_PowerAlone_r2_w, C.catnaplaw7_PowerAlone_r2_b, ↓C.catnaplaw7_PowerAlone_c45_w, ↓C.catnaplaw7_PowerAlone_r1_w, C.catnaplaw7_PowerAlone_r1_b, ↓C.catnaplaw7_PowerAlone_c46_w, ↓C.catnaplaw7_PowerAlone_r0_w, C.catnaplaw7_PowerAlone_r0_b, C.catnaplaw7_PowerAlone, hb, Soc.cells, Soc.domV, htl', T1, hx, hz, hg, Int.toNat_natCast, Nat.mul_one]
      refine (phase_at h.w.g ht2).mono ?_
      rintro r s ⟨rfl, rfl⟩
      rw [hO.2 t htl ht2 e]
      simp only [↓Bp, Bq, Bs, ↓aop.eq_28, ↓aop.eq_30, Nat.reduceEqDiff, Nat.reduceAdd, Nat.reduceMul, Nat.reduceSub, Nat.reduceLeDiff, Nat.reduceLT, Int.reduceLT, Int.reduceLE, Int.reduceEq, Int.reduceToNat, Int.reduceAdd, Int.reduceSub, Int.reduceNeg, ↓reduceIte, reduceCtorEq, ↓C.catnaplaw7_PowerAlone_W, C.catnaplaw7_PowerAlone_B, C.catnaplaw7_PowerAlone, hw]
      refine ⟨fun _ => by rw [hx]; exact hg, t + 1, rfl, htl, by omega⟩
  · rintro - s' rfl
    have hx := h.hx
    have hg := phs_get ho
    have hz : (0:Int) ≤ (o : Int) ∧ (o : Int) < (gs.length : Nat) := by omega
    have ho2 : o < gs'.length := by rw [hO.1]; exact ho
    by_cases e : o = k
    · have T1 := eq_true (show (o : Int) = (k : Int) by omega)
      simp only [↓Bp, Bq, Bs, ↓aop.eq_28, ↓aop.eq_30, Nat.reduceEqDiff, Nat.reduceAdd, Nat.reduceMul, Nat.reduceSub, Nat.reduceLeDiff, Nat.reduceLT, Int.reduceLT, Int.reduceLE, Int.reduceEq, Int.reduceToNat, Int.reduceAdd, Int.reduceSub, Int.reduceNeg, ↓reduceIte, reduceCtorEq, ↓C.catnaplaw7_PowerAlone_W, C.catnaplaw7_PowerAlone_B, C.catnaplaw7_PowerAlone, T1]
      exact ⟨(fun e => by cases e), h.w.le⟩
    · have T1 := eq_false (show ¬ (o : Int) = (k : Int) by omega)
      simp only [↓Bp, Bq, Bs, ↓aop.eq_28, ↓aop.eq_30, Nat.reduceEqDiff, Nat.reduceAdd, Nat.reduceMul, Nat.reduceSub, Nat.reduceLeDiff, Nat.reduceLT, Int.reduceLT, Int.reduceLE, Int.reduceEq, Int.reduceToNat, Int.reduceAdd, Int.reduceSub, Int.reduceNeg, ↓reduceIte, reduceCtorEq, ↓C.catnaplaw7_PowerAlone_W, C.catnaplaw7_PowerAlone_B, C.catnaplaw7_PowerAlone, T1, hx, hz, hg, Int.toNat_natCast, Nat.mul_one]
      refine (phase_at h.w.g ho2).mono ?_
      rintro r s ⟨rfl, rfl⟩
      rw [hO.2 o ho ho2 e]
      simp only [↓Bp, Bq, Bs, ↓aop.eq_28, ↓aop.eq_30, Nat.reduceEqDiff, Nat.reduceAdd, Nat.reduceMul, Nat.reduceSub, Nat.reduceLeDiff, Nat.reduceLT, Int.reduceLT, Int.reduceLE, Int.reduceEq, Int.reduceToNat, Int.reduceAdd, Int.reduceSub, Int.reduceNeg, ↓reduceIte, reduceCtorEq, ↓C.catnaplaw7_PowerAlone_W, C.catnaplaw7_PowerAlone_B, C.catnaplaw7_PowerAlone]
      exact ⟨fun _ => by rw [hx]; exact hg, h.w.le⟩
/-- The phases are taken down, the act is done, and they are looked at again. -/
theorem alone_rest {s : ASt} {ix : Nat} {gs : List Gd} {k o : Nat} {z : Int} (hz0 : -9223372036854775808 ≤ z ∧ z ≤ 9223372036854775807) (hk : k < gs.length) (ho : o < gs.length) (hI : GInv S.doms gs) (h : BSt st s ib ix p ig S gs (phTo gs 0)) :
    awp Try.prog C.catnaplaw7_PowerAlone_c28 (Post [.slot 8] fun r s => r = .bool true ∧ st.le s) [(3, .int .i64 z), (10, .ptr ib 0), (11, .ptr p 0), (13, .int .i64 k), (14, .int .i64 o), (16, .sl 1 ix 0 gs.length)] s := by
  have hnd := hS.nd
  have hlen := hI.len
  simp only [↓Bp, Bq, Bs, ↓aop.eq_28, ↓aop.eq_30, Nat.reduceEqDiff, Nat.reduceAdd, Nat.reduceMul, Nat.reduceSub, Nat.reduceLeDiff, Nat.reduceLT, Int.reduceLT, Int.reduceLE, Int.reduceEq, Int.reduceToNat, Int.reduceAdd, Int.reduceSub, Int.reduceNeg, ↓reduceIte, reduceCtorEq, ↓C.catnaplaw7_PowerAlone_W, C.catnaplaw7_PowerAlone_B, C.catnaplaw7_PowerAlone]
  refine awp_midB (fun _ : Unit => [(3, .int .i64 z), (10, .ptr ib 0), (11, .ptr p 0), (13, .int .i64 k), (14, .int .i64 o), (16, .sl 1 ix 0 gs.length)]) (fun _ s' => BSt st s' ib ix p ig S gs (phs gs)) ?_ ?_
  · refine awp_loopK (fun t : Nat => [(3, .int .i64 z), (10, .ptr ib 0), (11, .ptr p 0), (13, .int .i64 k), (14, .int .i64 o), (16, .sl 1 ix 0 gs.length), (17, .int .i64 t)]) (fun t s' => t ≤ gs.length ∧ BSt st s' ib ix p ig S gs (phTo gs t)) (fun t => gs.length - t) 0 rfl ⟨Nat.zero_le _, h⟩ ?_
    clear h s
    rintro t s ⟨ht, h⟩
    have hb := h.w.hb
    by_cases htl : t < gs.length
    rotate_left
    · have htl' : ¬ (t : Int) < (S.doms.length : Nat) := by omega
      simp only [↓Bp, Bq, Bs, ↓aop.eq_28, ↓aop.eq_30, Nat.reduceEqDiff, Nat.reduceAdd, Nat.reduceMul, Nat.reduceSub, Nat.reduceLeDiff, Nat.reduceLT, Int.reduceLT, Int.reduceLE, Int.reduceEq, Int.reduceToNat, Int.reduceAdd, Int.reduceSub, Int.reduceNeg, ↓reduceIte, reduceCtorEq, ↓C.catnaplaw7_PowerAlone_W, C.catnaplaw7_PowerAlone_B, C.catnaplaw7_PowerAlone, hb, Soc.cells, Soc.domV, htl']
      rw [show t = gs.length by omega, phTo_all] at h
      exact ⟨(), h⟩
    have htl' : (t : Int) < (S.doms.length : Nat) := by omega
    have hw := wsucc htl (by omega)
    have hz : (0:Int) ≤ (t : Int) ∧ (t : Int) < (gs.length : Nat) := by omega
    have hx := h.hx
    have hxl : t < (phTo gs t).length := by rw [phTo_len]; exact htl
    simp only [↓Bp, Bq, Bs, ↓aop.eq_28, ↓aop.eq_30, Nat.reduceEqDiff, Nat.reduceAdd, Nat.reduceMul, Nat.reduceSub, Nat.reduceLeDiff, Nat.reduceLT, Int.reduceLT, Int.reduceLE, Int.reduceEq, Int.reduceToNat, Int.reduceAdd, Int.reduceSub, Int.reduceNeg, ↓reduceIte, reduceCtorEq, ↓C.catnaplaw7_PowerAlone_W, C.catnaplaw7_PowerAlone_B, C.catnaplaw7_PowerAlone, hb, Soc.cells, Soc.domV, htl']
    refine (phase_at h.w.g htl).mono ?_
    rintro r s ⟨rfl, rfl⟩
    simp only [↓Bp, Bq, Bs, ↓aop.eq_28, ↓aop.eq_30, Nat.reduceEqDiff, Nat.reduceAdd, Nat.reduceMul, Nat.reduceSub, Nat.reduceLeDiff, Nat.reduceLT, Int.reduceLT, Int.reduceLE, Int.reduceEq, Int.reduceToNat, Int.reduceAdd, Int.reduceSub, Int.reduceNeg, ↓reduceIte, reduceCtorEq, ↓C.catnaplaw7_PowerAlone_W, C.catnaplaw7_PowerAlone_B, C.catnaplaw7_PowerAlone, hx, hz, hxl, Int.toNat_natCast, Nat.mul_one, hw]
    rw [phTo_set htl]
    exact ⟨t + 1, rfl, ⟨htl, h.put⟩, by omega⟩
  · clear h s
    rintro - s h
    simp only [↓Bp, Bq, Bs, ↓aop.eq_28, ↓aop.eq_30, Nat.reduceEqDiff, Nat.reduceAdd, Nat.reduceMul, Nat.reduceSub, Nat.reduceLeDiff, Nat.reduceLT, Int.reduceLT, Int.reduceLE, Int.reduceEq, Int.reduceToNat, Int.reduceAdd, Int.reduceSub, Int.reduceNeg, ↓reduceIte, reduceCtorEq, ↓C.catnaplaw7_PowerAlone_W, C.catnaplaw7_PowerAlone_B, C.catnaplaw7_PowerAlone]
    refine (pick_spec hz0 (n := 3) (by omega)).mono ?_
    rintro r s ⟨rfl, rfl⟩
    generalize pickI z 3 = op
    by_cases o0 : op = 0
    · have T0 := eq_true (show (op : Int) = 0 by omega)
      simp only [↓Bp, Bq, Bs, ↓aop.eq_28, ↓aop.eq_30, Nat.reduceEqDiff, Nat.reduceAdd, Nat.reduceMul, Nat.reduceSub, Nat.reduceLeDiff, Nat.reduceLT, Int.reduceLT, Int.reduceLE, Int.reduceEq, Int.reduceToNat, Int.reduceAdd, Int.reduceSub, Int.reduceNeg, ↓reduceIte, reduceCtorEq, ↓C.catnaplaw7_PowerAlone_W, C.catnaplaw7_PowerAlone_B, C.catnaplaw7_PowerAlone, T0]
      refine (down_spec h.w.g hk false).mono ?_
      rintro r s' ⟨rfl, rfl⟩
      simp only [↓Bp, Bq, Bs, ↓aop.eq_28, ↓aop.eq_30, Nat.reduceEqDiff, Nat.reduceAdd, Nat.reduceMul, Nat.reduceSub, Nat.reduceLeDiff, Nat.reduceLT, Int.reduceLT, Int.reduceLE, Int.reduceEq, Int.reduceToNat, Int.reduceAdd, Int.reduceSub, Int.reduceNeg, ↓reduceIte, reduceCtorEq, ↓C.catnaplaw7_PowerAlone_r21_w, C.catnaplaw7_PowerAlone_r21_b, ↓C.catnaplaw7_PowerAlone_r23_w, C.catnaplaw7_PowerAlone_r23_b, ↓C.catnaplaw7_PowerAlone_r19_w, C.catnaplaw7_PowerAlone_r19_b, ↓C.catnaplaw7_PowerAlone_c12_w, ↓C.catnaplaw7_PowerAlone_c13_w, ↓C.catnaplaw7_PowerAlone_c14_w, ↓C.catnaplaw7_PowerAlone_r22_w, C.catnaplaw7_PowerAlone_r22_b, ↓C.catnaplaw7_PowerAlone_c15_w, ↓C.catnaplaw7_PowerAlone_c16_w, ↓C.catnaplaw7_PowerAlone_c17_w, ↓C.catnaplaw7_PowerAlone_r20_w, C.catnaplaw7_PowerAlone_r20_b, ↓C.catnaplaw7_PowerAlone_b18_w, ↓C.catnaplaw7_PowerAlone_c19_w, ↓C.catnaplaw7_PowerAlone_r18_w, C.catnaplaw7_PowerAlone_r18_b, ↓C.catnaplaw7_PowerAlone_c20_w, ↓C.catnaplaw7_PowerAlone_r16_w, C.catnaplaw7_PowerAlone_r16_b, ↓C.catnaplaw7_PowerAlone_c21_w, ↓C.catnaplaw7_PowerAlone_r17_w, C.catnaplaw7_PowerAlone_r17_b, ↓C.catnaplaw7_PowerAlone_b22_w, ↓C.catnaplaw7_PowerAlone_c23_w, ↓C.catnaplaw7_PowerAlone_c24_w, ↓C.catnaplaw7_PowerAlone_r15_w, C.catnaplaw7_PowerAlone_r15_b, ↓C.catnaplaw7_PowerAlone_b26_w, ↓C.catnaplaw7_PowerAlone_c27_w, ↓C.catnaplaw7_PowerAlone_r14_w, C.catnaplaw7_PowerAlone_r14_b, ↓C.catnaplaw7_PowerAlone_c28_w, ↓C.catnaplaw7_PowerAlone_r13_w, C.catnaplaw7_PowerAlone_r13_b, ↓C.catnaplaw7_PowerAlone_c29_w, ↓C.catnaplaw7_PowerAlone_r10_w, C.catnaplaw7_PowerAlone_r10_b, ↓C.catnaplaw7_PowerAlone_c30_w, ↓C.catnaplaw7_PowerAlone_r12_w, C.catnaplaw7_PowerAlone_r12_b, ↓C.catnaplaw7_PowerAlone_c31_w, ↓C.catnaplaw7_PowerAlone_r11_w, C.catnaplaw7_PowerAlone_r11_b, ↓C.catnaplaw7_PowerAlone_b32_w, ↓C.catnaplaw7_PowerAlone_c33_w, ↓C.catnaplaw7_PowerAlone_c34_w, ↓C.catnaplaw7_PowerAlone_r9_w, C.catnaplaw7_PowerAlone_r9_b, ↓C.catnaplaw7_PowerAlone_b36_w, ↓C.catnaplaw7_PowerAlone_c37_w, ↓C.catnaplaw7_PowerAlone_r8_w, C.catnaplaw7_PowerAlone_r8_b, ↓C.catnaplaw7_PowerAlone_c38_w, ↓C.catnaplaw7_PowerAlone_r7_w, C.catnaplaw7_PowerAlone_r7_b, ↓C.catnaplaw7_PowerAlone_c39_w, ↓C.catnaplaw7_PowerAlone_r6_w, C.catnaplaw7_PowerAlone_r6_b, ↓C.catnaplaw7_PowerAlone_c40_w, ↓C.catnaplaw7_PowerAlone_r5_w, C.catnaplaw7_PowerAlone_r5_b, ↓C.catnaplaw7_PowerAlone_c41_w, ↓C.catnaplaw7_PowerAlone_c42_w, ↓C.catnaplaw7_PowerAlone_r4_w, C.catnaplaw7_PowerAlone_r4_b, ↓C.catnaplaw7_PowerAlone_c43_w, ↓C.catnaplaw7_PowerAlone_r3_w, C.catnaplaw7_PowerAlone_r3_b, ↓C.catnaplaw7_PowerAlone_c44_w, ↓C.catnaplaw7_PowerAlone_r2_w, C.catnaplaw7_PowerAlone_r2_b, ↓C.catnaplaw7_PowerAlone_c45_w, ↓C.catnaplaw7_PowerAlone_r1_w, C.catnaplaw7_PowerAlone_r1_b, ↓C.catnaplaw7_PowerAlone_c46_w, ↓C.catnaplaw7_PowerAlone_r0_w, C.catnaplaw7_PowerAlone_r0_b, C.catnaplaw7_PowerAlone]
      rw [C.catnaplaw7_PowerAlone_c11_w, awp_keep]
      exact alone_end hS hk ho hI (Others.down hk false) (h.set (downG_len hk false))
    have F0 := eq_false (show ¬ (op : Int) = 0 by omega)
    by_cases o1 : op = 1
    · have T1 := eq_true (show (op : Int) = 1 by omega)
      simp only [↓Bp, Bq, Bs, ↓aop.eq_28, ↓aop.eq_30, Nat.reduceEqDiff, Nat.reduceAdd, Nat.reduceMul, Nat.reduceSub, Nat.reduceLeDiff, Nat.reduceLT, Int.reduceLT, Int.reduceLE, Int.reduceEq, Int.reduceToNat, Int.reduceAdd, Int.reduceSub, Int.reduceNeg, ↓reduceIte, reduceCtorEq, ↓C.catnaplaw7_PowerAlone_W, C.catnaplaw7_PowerAlone_B, C.catnaplaw7_PowerAlone, F0, T1]
      refine (down_spec h.w.g hk true).mono ?_
      rintro r s' ⟨rfl, rfl⟩
      simp only [↓Bp, Bq, Bs, ↓aop.eq_28, ↓aop.eq_30, Nat.reduceEqDiff, Nat.reduceAdd, Nat.reduceMul, Nat.reduceSub, Nat.reduceLeDiff, Nat.reduceLT, Int.reduceLT, Int.reduceLE, Int.reduceEq, Int.reduceToNat, Int.reduceAdd, Int.reduceSub, Int.reduceNeg, ↓reduceIte, reduceCtorEq, ↓C.catnaplaw7_PowerAlone_r21_w, C.catnaplaw7_PowerAlone_r21_b, ↓C.catnaplaw7_PowerAlone_r23_w, C.catnaplaw7_PowerAlone_r23_b, ↓C.catnaplaw7_PowerAlone_r19_w, C.catnaplaw7_PowerAlone_r19_b, ↓C.catnaplaw7_PowerAlone_c12_w, ↓C.catnaplaw7_PowerAlone_c13_w, ↓C.catnaplaw7_PowerAlone_c14_w, ↓C.catnaplaw7_PowerAlone_r22_w, C.catnaplaw7_PowerAlone_r22_b, ↓C.catnaplaw7_PowerAlone_c15_w, ↓C.catnaplaw7_PowerAlone_c16_w, ↓C.catnaplaw7_PowerAlone_c17_w, ↓C.catnaplaw7_PowerAlone_r20_w, C.catnaplaw7_PowerAlone_r20_b, ↓C.catnaplaw7_PowerAlone_b18_w, ↓C.catnaplaw7_PowerAlone_c19_w, ↓C.catnaplaw7_PowerAlone_r18_w, C.catnaplaw7_PowerAlone_r18_b, ↓C.catnaplaw7_PowerAlone_c20_w, ↓C.catnaplaw7_PowerAlone_r16_w, C.catnaplaw7_PowerAlone_r16_b, ↓C.catnaplaw7_PowerAlone_c21_w, ↓C.catnaplaw7_PowerAlone_r17_w, C.catnaplaw7_PowerAlone_r17_b, ↓C.catnaplaw7_PowerAlone_b22_w, ↓C.catnaplaw7_PowerAlone_c23_w, ↓C.catnaplaw7_PowerAlone_c24_w, ↓C.catnaplaw7_PowerAlone_r15_w, C.catnaplaw7_PowerAlone_r15_b, ↓C.catnaplaw7_PowerAlone_b26_w, ↓C.catnaplaw7_PowerAlone_c27_w, ↓C.catnaplaw7_PowerAlone_r14_w, C.catnaplaw7_PowerAlone_r14_b, ↓C.catnaplaw7_PowerAlone_c28_w, ↓C.catnaplaw7_PowerAlone_r13_w, C.catnaplaw7_PowerAlone_r13_b, ↓C.catnaplaw7_PowerAlone_c29_w, ↓C.catnaplaw7_PowerAlone_r10_w, C.catnaplaw7_PowerAlone_r10_b, ↓C.catnaplaw7_PowerAlone_c30_w, ↓C.catnaplaw7_PowerAlone_r12_w, C.catnaplaw7_PowerAlone_r12_b, ↓C.catnaplaw7_PowerAlone_c31_w, ↓C.catnaplaw7_PowerAlone_r11_w, C.catnaplaw7_PowerAlone_r11_b, ↓C.catnaplaw7_PowerAlone_b32_w, ↓C.catnaplaw7_PowerAlone_c33_w, ↓C.catnaplaw7_PowerAlone_c34_w, ↓C.catnaplaw7_PowerAlone_r9_w, C.catnaplaw7_PowerAlone_r9_b, ↓C.catnaplaw7_PowerAlone_b36_w, ↓C.catnaplaw7_PowerAlone_c37_w, ↓C.catnaplaw7_PowerAlone_r8_w, C.catnaplaw7_PowerAlone_r8_b, ↓C.catnaplaw7_PowerAlone_c38_w, ↓C.catnaplaw7_PowerAlone_r7_w, C.catnaplaw7_PowerAlone_r7_b, ↓C.catnaplaw7_PowerAlone_c39_w, ↓C.catnaplaw7_PowerAlone_r6_w, C.catnaplaw7_PowerAlone_r6_b, ↓C.catnaplaw7_PowerAlone_c40_w, ↓C.catnaplaw7_PowerAlone_r5_w, C.catnaplaw7_PowerAlone_r5_b, ↓C.catnaplaw7_PowerAlone_c41_w, ↓C.catnaplaw7_PowerAlone_c42_w, ↓C.catnaplaw7_PowerAlone_r4_w, C.catnaplaw7_PowerAlone_r4_b, ↓C.catnaplaw7_PowerAlone_c43_w, ↓C.catnaplaw7_PowerAlone_r3_w, C.catnaplaw7_PowerAlone_r3_b, ↓C.catnaplaw7_PowerAlone_c44_w, ↓C.catnaplaw7_PowerAlone_r2_w, C.catnaplaw7_PowerAlone_r2_b, ↓C.catnaplaw7_PowerAlone_c45_w, ↓C.catnaplaw7_PowerAlone_r1_w, C.catnaplaw7_PowerAlone_r1_b, ↓C.catnaplaw7_PowerAlone_c46_w, ↓C.catnaplaw7_PowerAlone_r0_w, C.catnaplaw7_PowerAlone_r0_b, C.catnaplaw7_PowerAlone]
      rw [C.catnaplaw7_PowerAlone_c11_w, awp_keep]
      exact alone_end hS hk ho hI (Others.down hk true) (h.set (downG_len hk true))
    · have F1 := eq_false (show ¬ (op : Int) = 1 by omega)
      simp only [↓Bp, Bq, Bs, ↓aop.eq_28, ↓aop.eq_30, Nat.reduceEqDiff, Nat.reduceAdd, Nat.reduceMul, Nat.reduceSub, Nat.reduceLeDiff, Nat.reduceLT, Int.reduceLT, Int.reduceLE, Int.reduceEq, Int.reduceToNat, Int.reduceAdd, Int.reduceSub, Int.reduceNeg, ↓reduceIte, reduceCtorEq, ↓C.catnaplaw7_PowerAlone_W, C.catnaplaw7_PowerAlone_B, C.catnaplaw7_PowerAlone, F0, F1]
      refine (up_spec h.w.g hI.above hk).mono ?_
      rintro r s' ⟨rfl, rfl⟩
      simp only [↓Bp, Bq, Bs, ↓aop.eq_28, ↓aop.eq_30, Nat.reduceEqDiff, Nat.reduceAdd, Nat.reduceMul, Nat.reduceSub, Nat.reduceLeDiff, Nat.reduceLT, Int.reduceLT, Int.reduceLE, Int.reduceEq, Int.reduceToNat, Int.reduceAdd, Int.reduceSub, Int.reduceNeg, ↓reduceIte, reduceCtorEq, ↓C.catnaplaw7_PowerAlone_r21_w, C.catnaplaw7_PowerAlone_r21_b, ↓C.catnaplaw7_PowerAlone_r23_w, C.catnaplaw7_PowerAlone_r23_b, ↓C.catnaplaw7_PowerAlone_r19_w, C.catnaplaw7_PowerAlone_r19_b, ↓C.catnaplaw7_PowerAlone_c12_w, ↓C.catnaplaw7_PowerAlone_c13_w, ↓C.catnaplaw7_PowerAlone_c14_w, ↓C.catnaplaw7_PowerAlone_r22_w, C.catnaplaw7_PowerAlone_r22_b, ↓C.catnaplaw7_PowerAlone_c15_w, ↓C.catnaplaw7_PowerAlone_c16_w, ↓C.catnaplaw7_PowerAlone_c17_w, ↓C.catnaplaw7_PowerAlone_r20_w, C.catnaplaw7_PowerAlone_r20_b, ↓C.catnaplaw7_PowerAlone_b18_w, ↓C.catnaplaw7_PowerAlone_c19_w, ↓C.catnaplaw7_PowerAlone_r18_w, C.catnaplaw7_PowerAlone_r18_b, ↓C.catnaplaw7_PowerAlone_c20_w, ↓C.catnaplaw7_PowerAlone_r16_w, C.catnaplaw7_PowerAlone_r16_b, ↓C.catnaplaw7_PowerAlone_c21_w, ↓C.catnaplaw7_PowerAlone_r17_w, C.catnaplaw7_PowerAlone_r17_b, ↓C.catnaplaw7_PowerAlone_b22_w, ↓C.catnaplaw7_PowerAlone_c23_w, ↓C.catnaplaw7_PowerAlone_c24_w, ↓C.catnaplaw7_PowerAlone_r15_w, C.catnaplaw7_PowerAlone_r15_b, ↓C.catnaplaw7_PowerAlone_b26_w, ↓C.catnaplaw7_PowerAlone_c27_w, ↓C.catnaplaw7_PowerAlone_r14_w, C.catnaplaw7_PowerAlone_r14_b, ↓C.catnaplaw7_PowerAlone_c28_w, ↓C.catnaplaw7_PowerAlone_r13_w, C.catnaplaw7_PowerAlone_r13_b, ↓C.catnaplaw7_PowerAlone_c29_w, ↓C.catnaplaw7_PowerAlone_r10_w, C.catnaplaw7_PowerAlone_r10_b, ↓C.catnaplaw7_PowerAlone_c30_w, ↓C.catnaplaw7_PowerAlone_r12_w, C.catnaplaw7_PowerAlone_r12_b, ↓C.catnaplaw7_PowerAlone_c31_w, ↓C.catnaplaw7_PowerAlone_r11_w, C.catnaplaw7_PowerAlone_r11_b, ↓C.catnaplaw7_PowerAlone_b32_w, ↓C.catnaplaw7_PowerAlone_c33_w, ↓C.catnaplaw7_PowerAlone_c34_w, ↓C.catnaplaw7_PowerAlone_r9_w, C.catnaplaw7_PowerAlone_r9_b, ↓C.catnaplaw7_PowerAlone_b36_w, ↓C.catnaplaw7_PowerAlone_c37_w, ↓C.catnaplaw7_PowerAlone_r8_w, C.catnaplaw7_PowerAlone_r8_b, ↓C.catnaplaw7_PowerAlone_c38_w, ↓C.catnaplaw7_PowerAlone_r7_w, C.catnaplaw7_PowerAlone_r7_b, ↓C.catnaplaw7_PowerAlone_c39_w, ↓C.catnaplaw7_PowerAlone_r6_w, C.catnaplaw7_PowerAlone_r6_b, ↓C.catnaplaw7_PowerAlone_c40_w, ↓C.catnaplaw7_PowerAlone_r5_w, C.catnaplaw7_PowerAlone_r5_b, ↓C.catnaplaw7_PowerAlone_c41_w, ↓C.catnaplaw7_PowerAlone_c42_w, ↓C.catnaplaw7_PowerAlone_r4_w, C.catnaplaw7_PowerAlone_r4_b, ↓C.catnaplaw7_PowerAlone_c43_w, ↓C.catnaplaw7_PowerAlone_r3_w, C.catnaplaw7_PowerAlone_r3_b, ↓C.catnaplaw7_PowerAlone_c44_w, ↓C.catnaplaw7_PowerAlone_r2_w, C.catnaplaw7_PowerAlone_r2_b, ↓C.catnaplaw7_PowerAlone_c45_w, ↓C.catnaplaw7_PowerAlone_r1_w, C.catnaplaw7_PowerAlone_r1_b, ↓C.catnaplaw7_PowerAlone_c46_w, ↓C.catnaplaw7_PowerAlone_r0_w, C.catnaplaw7_PowerAlone_r0_b, C.catnaplaw7_PowerAlone]
      rw [C.catnaplaw7_PowerAlone_c11_w, awp_keep]
      exact alone_end hS hk ho hI (Others.up hk) (h.set (upG_len hk))
end
theorem poweralone_spec {st : ASt} {l : List Int} {x y z : Int} (hl : ∀ x ∈ l, -9223372036854775808 ≤ x ∧ x ≤ 9223372036854775807) (hll : l.length ≤ 9223372036854775807)
    (hx : -9223372036854775808 ≤ x ∧ x ≤ 9223372036854775807) (hy : -9223372036854775808 ≤ y ∧ y ≤ 9223372036854775807) (hz : -9223372036854775808 ≤ z ∧ z ≤ 9223372036854775807) :
    ACalls Try.prog F.catnaplaw7_PowerAlone [row l, .int .i64 x, .int .i64 y, .int .i64 z] st fun r s => r = .bool true ∧ s = st := by
  refine ACalls.gc (Q' := fun r s => r = .bool true ∧ st.le s) (calls_of_awp L.catnaplaw7_PowerAlone rfl ?_) (fun v s ⟨h, hl⟩ => ⟨st, hl, h, rfl⟩)
  simp only [↓Bp, Bq, Bs, ↓aop.eq_28, ↓aop.eq_30, Nat.reduceEqDiff, Nat.reduceAdd, Nat.reduceMul, Nat.reduceSub, Nat.reduceLeDiff, Nat.reduceLT, Int.reduceLT, Int.reduceLE, Int.reduceEq, Int.reduceToNat, Int.reduceAdd, Int.reduceSub, Int.reduceNeg, ↓reduceIte, reduceCtorEq, ↓C.catnaplaw7_PowerAlone_W, C.catnaplaw7_PowerAlone_B, C.catnaplaw7_PowerAlone]
  refine (gshown_spec st).mono ?_
  rintro r s ⟨rfl, rfl⟩
  simp only [↓Bp, Bq, Bs, ↓aop.eq_28, ↓aop.eq_30, Nat.reduceEqDiff, Nat.reduceAdd, Nat.reduceMul, Nat.reduceSub, Nat.reduceLeDiff, Nat.reduceLT, Int.reduceLT, Int.reduceLE, Int.reduceEq, Int.reduceToNat, Int.reduceAdd, Int.reduceSub, Int.reduceNeg, ↓reduceIte, reduceCtorEq, ↓C.catnaplaw7_PowerAlone_W, C.catnaplaw7_PowerAlone_B, C.catnaplaw7_PowerAlone]
  refine (chip_frz hl hll).mono ?_
  rintro r s ⟨rfl, rfl⟩
  have hS := chipS_like l
  generalize chipS l = S at hS
  have hnd := hS.nd
  have l4 : S.cells.length = 4 := rfl
  have e4 : AV.agg (List.take 4 S.cells) = .agg S.cells := rfl
  have f4 : allLeaf S.cells = true := rfl
  simp only [↓Bp, Bq, Bs, ↓aop.eq_28, ↓aop.eq_30, Nat.reduceEqDiff, Nat.reduceAdd, Nat.reduceMul, Nat.reduceSub, Nat.reduceLeDiff, Nat.reduceLT, Int.reduceLT, Int.reduceLE, Int.reduceEq, Int.reduceToNat, Int.reduceAdd, Int.reduceSub, Int.reduceNeg, ↓reduceIte, reduceCtorEq, ↓C.catnaplaw7_PowerAlone_r2_w, C.catnaplaw7_PowerAlone_r2_b, ↓C.catnaplaw7_PowerAlone_c45_w, ↓C.catnaplaw7_PowerAlone_r1_w, C.catnaplaw7_PowerAlone_r1_b, ↓C.catnaplaw7_PowerAlone_c46_w, ↓C.catnaplaw7_PowerAlone_r0_w, C.catnaplaw7_PowerAlone_r0_b, C.catnaplaw7_PowerAlone, l4, f4]
  rintro ib hib
  simp only [↓Bp, Bq, Bs, ↓aop.eq_28, ↓aop.eq_30, Nat.reduceEqDiff, Nat.reduceAdd, Nat.reduceMul, Nat.reduceSub, Nat.reduceLeDiff, Nat.reduceLT, Int.reduceLT, Int.reduceLE, Int.reduceEq, Int.reduceToNat, Int.reduceAdd, Int.reduceSub, Int.reduceNeg, ↓reduceIte, reduceCtorEq, ↓C.catnaplaw7_PowerAlone_r2_w, C.catnaplaw7_PowerAlone_r2_b, ↓C.catnaplaw7_PowerAlone_c45_w, ↓C.catnaplaw7_PowerAlone_r1_w, C.catnaplaw7_PowerAlone_r1_b, ↓C.catnaplaw7_PowerAlone_c46_w, ↓C.catnaplaw7_PowerAlone_r0_w, C.catnaplaw7_PowerAlone_r0_b, C.catnaplaw7_PowerAlone, hib, l4, f4]
  rw [ASt.new_set hib, show putN [AV.nils, AV.nils, AV.nils, AV.nils] 0 S.cells = S.cells from putN_all rfl]
  simp only [↓Bp, Bq, Bs, ↓aop.eq_28, ↓aop.eq_30, Nat.reduceEqDiff, Nat.reduceAdd, Nat.reduceMul, Nat.reduceSub, Nat.reduceLeDiff, Nat.reduceLT, Int.reduceLT, Int.reduceLE, Int.reduceEq, Int.reduceToNat, Int.reduceAdd, Int.reduceSub, Int.reduceNeg, ↓reduceIte, reduceCtorEq, ↓C.catnaplaw7_PowerAlone_W, C.catnaplaw7_PowerAlone_B, C.catnaplaw7_PowerAlone, hib, l4, e4]
  refine (gstart_spec hib hS).mono ?_
  rintro r s1 ⟨p, ig, rfl, h⟩
  have hb := h.hb
  simp only [↓Bp, Bq, Bs, ↓aop.eq_28, ↓aop.eq_30, Nat.reduceEqDiff, Nat.reduceAdd, Nat.reduceMul, Nat.reduceSub, Nat.reduceLeDiff, Nat.reduceLT, Int.reduceLT, Int.reduceLE, Int.reduceEq, Int.reduceToNat, Int.reduceAdd, Int.reduceSub, Int.reduceNeg, ↓reduceIte, reduceCtorEq, ↓C.catnaplaw7_PowerAlone_W, C.catnaplaw7_PowerAlone_B, C.catnaplaw7_PowerAlone, hb, Soc.cells, Soc.domV]
  refine (pick_spec hx (n := S.doms.length) (by omega)).mono ?_
  rintro r s1 ⟨rfl, rfl⟩
  simp only [↓Bp, Bq, Bs, ↓aop.eq_28, ↓aop.eq_30, Nat.reduceEqDiff, Nat.reduceAdd, Nat.reduceMul, Nat.reduceSub, Nat.reduceLeDiff, Nat.reduceLT, Int.reduceLT, Int.reduceLE, Int.reduceEq, Int.reduceToNat, Int.reduceAdd, Int.reduceSub, Int.reduceNeg, ↓reduceIte, reduceCtorEq, ↓C.catnaplaw7_PowerAlone_W, C.catnaplaw7_PowerAlone_B, C.catnaplaw7_PowerAlone, hb, Soc.cells, Soc.domV]
  refine (pick_spec hy (n := S.doms.length) (by omega)).mono ?_
  rintro r s1 ⟨rfl, rfl⟩
  simp only [↓Bp, Bq, Bs, ↓aop.eq_28, ↓aop.eq_30, Nat.reduceEqDiff, Nat.reduceAdd, Nat.reduceMul, Nat.reduceSub, Nat.reduceLeDiff, Nat.reduceLT, Int.reduceLT, Int.reduceLE, Int.reduceEq, Int.reduceToNat, Int.reduceAdd, Int.reduceSub, Int.reduceNeg, ↓reduceIte, reduceCtorEq, ↓C.catnaplaw7_PowerAlone_r7_w, C.catnaplaw7_PowerAlone_r7_b, ↓C.catnaplaw7_PowerAlone_c39_w, ↓C.catnaplaw7_PowerAlone_r6_w, C.catnaplaw7_PowerAlone_r6_b, ↓C.catnaplaw7_PowerAlone_c40_w, ↓C.catnaplaw7_PowerAlone_r5_w, C.catnaplaw7_PowerAlone_r5_b, ↓C.catnaplaw7_PowerAlone_c41_w, ↓C.catnaplaw7_PowerAlone_c42_w, ↓C.catnaplaw7_PowerAlone_r4_w, C.catnaplaw7_PowerAlone_r4_b, ↓C.catnaplaw7_PowerAlone_c43_w, ↓C.catnaplaw7_PowerAlone_r3_w, C.catnaplaw7_PowerAlone_r3_b, ↓C.catnaplaw7_PowerAlone_c44_w, ↓C.catnaplaw7_PowerAlone_r2_w, C.catnaplaw7_PowerAlone_r2_b, ↓C.catnaplaw7_PowerAlone_c45_w, ↓C.catnaplaw7_PowerAlone_r1_w, C.catnaplaw7_PowerAlone_r1_b, ↓C.catnaplaw7_PowerAlone_c46_w, ↓C.catnaplaw7_PowerAlone_r0_w, C.catnaplaw7_PowerAlone_r0_b, C.catnaplaw7_PowerAlone]
  rw [C.catnaplaw7_PowerAlone_c38_w, awp_keep]
  refine alone_first hS h (GInv.fresh hS.dom) fun s2 gs h2 hI => ?_
  have hlen := hI.len
  have hb2 := h2.hb
  have hzn : (0 : Int) ≤ (S.doms.length : Nat) ∧ ((S.doms.length : Nat) : Int) ≤ 4294967296 := by omega
  simp only [↓Bp, Bq, Bs, ↓aop.eq_28, ↓aop.eq_30, Nat.reduceEqDiff, Nat.reduceAdd, Nat.reduceMul, Nat.reduceSub, Nat.reduceLeDiff, Nat.reduceLT, Int.reduceLT, Int.reduceLE, Int.reduceEq, Int.reduceToNat, Int.reduceAdd, Int.reduceSub, Int.reduceNeg, ↓reduceIte, reduceCtorEq, ↓C.catnaplaw7_PowerAlone_r13_w, C.catnaplaw7_PowerAlone_r13_b, ↓C.catnaplaw7_PowerAlone_c29_w, ↓C.catnaplaw7_PowerAlone_r10_w, C.catnaplaw7_PowerAlone_r10_b, ↓C.catnaplaw7_PowerAlone_c30_w, ↓C.catnaplaw7_PowerAlone_r12_w, C.catnaplaw7_PowerAlone_r12_b, ↓C.catnaplaw7_PowerAlone_c31_w, ↓C.catnaplaw7_PowerAlone_r11_w, C.catnaplaw7_PowerAlone_r11_b, ↓C.catnaplaw7_PowerAlone_b32_w, ↓C.catnaplaw7_PowerAlone_c33_w, ↓C.catnaplaw7_PowerAlone_c34_w, ↓C.catnaplaw7_PowerAlone_r9_w, C.catnaplaw7_PowerAlone_r9_b, ↓C.catnaplaw7_PowerAlone_b36_w, ↓C.catnaplaw7_PowerAlone_c37_w, ↓C.catnaplaw7_PowerAlone_r8_w, C.catnaplaw7_PowerAlone_r8_b, ↓C.catnaplaw7_PowerAlone_c38_w, ↓C.catnaplaw7_PowerAlone_r7_w, C.catnaplaw7_PowerAlone_r7_b, ↓C.catnaplaw7_PowerAlone_c39_w, ↓C.catnaplaw7_PowerAlone_r6_w, C.catnaplaw7_PowerAlone_r6_b, ↓C.catnaplaw7_PowerAlone_c40_w, ↓C.catnaplaw7_PowerAlone_r5_w, C.catnaplaw7_PowerAlone_r5_b, ↓C.catnaplaw7_PowerAlone_c41_w, ↓C.catnaplaw7_PowerAlone_c42_w, ↓C.catnaplaw7_PowerAlone_r4_w, C.catnaplaw7_PowerAlone_r4_b, ↓C.catnaplaw7_PowerAlone_c43_w, ↓C.catnaplaw7_PowerAlone_r3_w, C.catnaplaw7_PowerAlone_r3_b, ↓C.catnaplaw7_PowerAlone_c44_w, ↓C.catnaplaw7_PowerAlone_r2_w, C.catnaplaw7_PowerAlone_r2_b, ↓C.catnaplaw7_PowerAlone_c45_w, ↓C.catnaplaw7_PowerAlone_r1_w, C.catnaplaw7_PowerAlone_r1_b, ↓C.catnaplaw7_PowerAlone_c46_w, ↓C.catnaplaw7_PowerAlone_r0_w, C.catnaplaw7_PowerAlone_r0_b, C.catnaplaw7_PowerAlone, hb2, Soc.cells, Soc.domV, hzn, Int.toNat_natCast]
  rintro ix hix
  have hself := ASt.new_self (.cells (zeros [.int .u8 0] S.doms.length)) hix
  have h3 := h2.step (ASt.le.new s2 ix (.cells (zeros [.int .u8 0] S.doms.length)))
  have hB : BSt s (s2.new ix (.cells (zeros [.int .u8 0] S.doms.length))) ib ix p ig S gs (phTo gs 0) :=
    ⟨h3, by rw [hself, zeros_u8, phTo]; simp [hlen], fresh_of_le h2.le hix, (by rintro rfl; rw [h2.g.hg] at hix; cases hix), (by rintro rfl; rw [h2.g.hp] at hix; cases hix), (by rintro rfl; rw [h2.hb] at hix; cases hix)⟩
  rw [C.catnaplaw7_PowerAlone_c28_w, awp_keep, ← hlen]
  rw [← hlen] at hB
  exact alone_rest hS hz (by rw [hlen]; exact pickI_lt x (n := S.doms.length) (by omega)) (by rw [hlen]; exact pickI_lt y (n := S.doms.length) (by omega)) hI hB
end Go.Proofs.Ytgfpnfnjnakoaaa.Cn
