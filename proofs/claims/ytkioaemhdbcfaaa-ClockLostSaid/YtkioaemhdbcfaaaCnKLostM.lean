/- Clocks: ClockLost, the walk. -/
import Derived.Test.YtkioaemhdbcfaaaCnKLost
set_option linter.unusedSimpArgs false
set_option linter.unusedVariables false
set_option linter.unusedSectionVars false
namespace Go.Proofs.Ytkioaemhdbcfaaa.Cn
open Go Go.Proofs

/-- A tree of those three clocks beside a heap that stays. -/
structure LW (st s : ASt) (p ig : Nat) (ns : List Nd) : Prop where
  le : st.le s
  t : TreeAt s p ig ns
  fg : st.h ig = none
theorem LW.set {st s : ASt} {p ig : Nat} {ns ns' : List Nd} (h : LW st s p ig ns) (hl : ns'.length = ns.length) : LW st (s.set ig (nsC ns')) p ig ns' :=
  ⟨fun j x hj => by rw [ASt.set_h, if_neg (by rintro rfl; rw [h.fg] at hj; cases hj)]; exact h.le _ _ hj, h.t.set hl, h.fg⟩
section
variable {st s : ASt} {p ig : Nat} {k l : Int} {g q : Bool}
theorem LW.run2 (h : LW st s p ig (lostN k g q l)) (hk : 0 ≤ k ∧ k ≤ 20) (hl : 0 ≤ l ∧ l ≤ 20) : ACalls Try.prog F.clock_Tree_Running [.ptr p 0, .int .i64 2] s fun r s' => r = .bool (q && decide (l = 0) && g) ∧ s' = s := by
  have := running_at h.t (lost_ok hk hl) (i := 2) (by rw [lost_len]; omega)
  rw [lost_run] at this
  exact this
theorem LW.left2 (h : LW st s p ig (lostN k g q l)) : ACalls Try.prog F.clock_Tree_Left [.ptr p 0, .int .i64 2] s fun r s' => r = .int .i64 l ∧ s' = s :=
  cleft_at h.t (i := 2) (by rw [lost_len]; omega)
theorem LW.rate2 (h : LW st s p ig (lostN k true true 0)) (hk : 0 ≤ k ∧ k ≤ 20) : ACalls Try.prog F.clock_Tree_Rate [.ptr p 0, .int .i64 2] s fun r s' => r = .int .u64 10 ∧ s' = s := by
  have := rate_spec h.t (lost_ok hk (by omega)) (i := 2) (by rw [lost_len]; omega)
  rw [lost_run, if_pos (by rfl), lost_rate] at this
  exact this
theorem LW.on1 (h : LW st s p ig (lostN k g q l)) (b : Bool) : ACalls Try.prog F.clock_Tree_On [.ptr p 0, .int .i64 1, .bool b] s fun r s' => r = .int .i64 0 ∧ LW st s' p ig (lostN k b q l) := by
  have hi : 1 < (lostN k g q l).length := by rw [lost_len]; omega
  have := on_spec h.t hi b
  have h2 := h.set (onL_len hi b)
  rw [lost_on1] at this h2
  exact this.mono fun r s' ⟨e1, e2⟩ => ⟨e1, by rw [e2]; exact h2⟩
theorem LW.on2 (h : LW st s p ig (lostN k g q l)) : ACalls Try.prog F.clock_Tree_On [.ptr p 0, .int .i64 2, .bool true] s fun r s' => r = .int .i64 0 ∧ LW st s' p ig (lostN k g true l) := by
  have hi : 2 < (lostN k g q l).length := by rw [lost_len]; omega
  have := on_spec h.t hi true
  have h2 := h.set (onL_len hi true)
  rw [lost_on2] at this h2
  exact this.mono fun r s' ⟨e1, e2⟩ => ⟨e1, by rw [e2]; exact h2⟩
theorem LW.off2 (h : LW st s p ig (lostN k g q l)) : ACalls Try.prog F.clock_Tree_On [.ptr p 0, .int .i64 2, .bool false] s fun r s' => r = .int .i64 0 ∧ LW st s' p ig (lostN k g false k) := by
  have hi : 2 < (lostN k g q l).length := by rw [lost_len]; omega
  have := on_spec h.t hi false
  have h2 := h.set (onL_len hi false)
  rw [lost_off2] at this h2
  exact this.mono fun r s' ⟨e1, e2⟩ => ⟨e1, by rw [e2]; exact h2⟩
theorem LW.tick (h : LW st s p ig (lostN k g q l)) (hk : 0 ≤ k ∧ k ≤ 20) (hl : 0 ≤ l ∧ l ≤ 20) : ACalls Try.prog F.clock_Tree_Tick [.ptr p 0] s fun _ s' => LW st s' p ig (lostN k g q (if q = true then (if g = false then k else if 0 < l then l - 1 else l) else l)) := by
  have := ctick_spec h.t (lost_ok hk hl)
  have h2 := h.set (ctickL_len (lostN k g q l))
  rw [lost_tick] at this h2
  exact this.mono fun r s' e2 => by rw [e2]; exact h2
end
section
variable {st : ASt} {p ig : Nat} {k n : Nat}
theorem lost_end {s : ASt} (hk : k ≤ 20) {t : Nat} {vo : AV} {off : Bool} {g q : Bool} (h : LW st s p ig (lostN k g q k)) (hgq : (q && g) = false) {Q : IExit → AFr → ASt → Prop}
    (hQ : ∀ fr, fr.keep [1, 2, 8, 9, 11] = [(1, vo), (2, .bool off), (8, .int .i64 k), (9, .ptr p 0), (11, .int .i64 t)] → Q .normal fr s) :
    awp Try.prog C.catnaplaw6_ClockLost_c5 Q [(1, vo), (2, .bool off), (8, .int .i64 k), (9, .ptr p 0), (11, .int .i64 t)] s := by
  have hkk : (0:Int) ≤ (k : Int) ∧ (k : Int) ≤ 20 := by omega
  simp only [↓Bp, Bq, Bs, ↓aop.eq_28, ↓aop.eq_30, Nat.reduceEqDiff, Nat.reduceAdd, Nat.reduceMul, Nat.reduceSub, Nat.reduceLeDiff, Nat.reduceLT, Int.reduceLT, Int.reduceLE, Int.reduceEq, Int.reduceToNat, Int.reduceAdd, Int.reduceSub, Int.reduceNeg, ↓reduceIte, reduceCtorEq, ↓C.catnaplaw6_ClockLost_W, C.catnaplaw6_ClockLost_B, C.catnaplaw6_ClockLost]
  refine (h.run2 hkk hkk).mono ?_
  rintro r s1 ⟨rfl, rfl⟩
  rw [show (q && decide ((k : Int) = 0) && g) = false by cases q <;> cases g <;> simp_all]
  simp only [↓Bp, Bq, Bs, ↓aop.eq_28, ↓aop.eq_30, Nat.reduceEqDiff, Nat.reduceAdd, Nat.reduceMul, Nat.reduceSub, Nat.reduceLeDiff, Nat.reduceLT, Int.reduceLT, Int.reduceLE, Int.reduceEq, Int.reduceToNat, Int.reduceAdd, Int.reduceSub, Int.reduceNeg, ↓reduceIte, reduceCtorEq, ↓C.catnaplaw6_ClockLost_W, C.catnaplaw6_ClockLost_B, C.catnaplaw6_ClockLost]
  refine h.left2.mono ?_
  rintro r s1 ⟨rfl, rfl⟩
  simp only [↓Bp, Bq, Bs, ↓aop.eq_28, ↓aop.eq_30, Nat.reduceEqDiff, Nat.reduceAdd, Nat.reduceMul, Nat.reduceSub, Nat.reduceLeDiff, Nat.reduceLT, Int.reduceLT, Int.reduceLE, Int.reduceEq, Int.reduceToNat, Int.reduceAdd, Int.reduceSub, Int.reduceNeg, ↓reduceIte, reduceCtorEq, ↓C.catnaplaw6_ClockLost_W, C.catnaplaw6_ClockLost_B, C.catnaplaw6_ClockLost]
  exact hQ _ rfl
theorem lost_look {s : ASt} (hk : k ≤ 20) {t : Nat} {vo : AV} {off : Bool} (h : LW st s p ig (lostN k true true 0)) {Q : IExit → AFr → ASt → Prop}
    (hQ : ∀ fr s' g q, LW st s' p ig (lostN k g q k) → fr.keep [1, 2, 8, 9, 11] = [(1, vo), (2, .bool off), (8, .int .i64 k), (9, .ptr p 0), (11, .int .i64 t)] → Q .normal fr s') :
    awp Try.prog C.catnaplaw6_ClockLost_c13 Q [(1, vo), (2, .bool off), (8, .int .i64 k), (9, .ptr p 0), (11, .int .i64 t)] s := by
  have hkk : (0:Int) ≤ (k : Int) ∧ (k : Int) ≤ 20 := by omega
  simp only [↓Bp, Bq, Bs, ↓aop.eq_28, ↓aop.eq_30, Nat.reduceEqDiff, Nat.reduceAdd, Nat.reduceMul, Nat.reduceSub, Nat.reduceLeDiff, Nat.reduceLT, Int.reduceLT, Int.reduceLE, Int.reduceEq, Int.reduceToNat, Int.reduceAdd, Int.reduceSub, Int.reduceNeg, ↓reduceIte, reduceCtorEq, ↓C.catnaplaw6_ClockLost_W, C.catnaplaw6_ClockLost_B, C.catnaplaw6_ClockLost]
  refine (h.run2 hkk (by omega)).mono ?_
  rintro r s1 ⟨rfl, rfl⟩
  rw [show (true && decide ((0 : Int) = 0) && true) = true from rfl]
  simp only [↓Bp, Bq, Bs, ↓aop.eq_28, ↓aop.eq_30, Nat.reduceEqDiff, Nat.reduceAdd, Nat.reduceMul, Nat.reduceSub, Nat.reduceLeDiff, Nat.reduceLT, Int.reduceLT, Int.reduceLE, Int.reduceEq, Int.reduceToNat, Int.reduceAdd, Int.reduceSub, Int.reduceNeg, ↓reduceIte, reduceCtorEq, ↓C.catnaplaw6_ClockLost_W, C.catnaplaw6_ClockLost_B, C.catnaplaw6_ClockLost]
  refine (h.rate2 hkk).mono ?_
  rintro r s1 ⟨rfl, rfl⟩
  simp only [↓Bp, Bq, Bs, ↓aop.eq_28, ↓aop.eq_30, Nat.reduceEqDiff, Nat.reduceAdd, Nat.reduceMul, Nat.reduceSub, Nat.reduceLeDiff, Nat.reduceLT, Int.reduceLT, Int.reduceLE, Int.reduceEq, Int.reduceToNat, Int.reduceAdd, Int.reduceSub, Int.reduceNeg, ↓reduceIte, reduceCtorEq, ↓C.catnaplaw6_ClockLost_W, C.catnaplaw6_ClockLost_B, C.catnaplaw6_ClockLost]
  refine h.left2.mono ?_
  rintro r s1 ⟨rfl, rfl⟩
  cases off
  · simp only [↓Bp, Bq, Bs, ↓aop.eq_28, ↓aop.eq_30, Nat.reduceEqDiff, Nat.reduceAdd, Nat.reduceMul, Nat.reduceSub, Nat.reduceLeDiff, Nat.reduceLT, Int.reduceLT, Int.reduceLE, Int.reduceEq, Int.reduceToNat, Int.reduceAdd, Int.reduceSub, Int.reduceNeg, ↓reduceIte, reduceCtorEq, ↓C.catnaplaw6_ClockLost_W, C.catnaplaw6_ClockLost_B, C.catnaplaw6_ClockLost]
    refine (h.on1 false).mono ?_
    rintro r s2 ⟨rfl, h⟩
    simp only [↓Bp, Bq, Bs, ↓aop.eq_28, ↓aop.eq_30, Nat.reduceEqDiff, Nat.reduceAdd, Nat.reduceMul, Nat.reduceSub, Nat.reduceLeDiff, Nat.reduceLT, Int.reduceLT, Int.reduceLE, Int.reduceEq, Int.reduceToNat, Int.reduceAdd, Int.reduceSub, Int.reduceNeg, ↓reduceIte, reduceCtorEq, ↓C.catnaplaw6_ClockLost_W, C.catnaplaw6_ClockLost_B, C.catnaplaw6_ClockLost]
    refine (h.tick hkk (by omega)).mono ?_
    rintro r s2 h
    rw [if_pos rfl, if_pos rfl] at h
    simp only [↓Bp, Bq, Bs, ↓aop.eq_28, ↓aop.eq_30, Nat.reduceEqDiff, Nat.reduceAdd, Nat.reduceMul, Nat.reduceSub, Nat.reduceLeDiff, Nat.reduceLT, Int.reduceLT, Int.reduceLE, Int.reduceEq, Int.reduceToNat, Int.reduceAdd, Int.reduceSub, Int.reduceNeg, ↓reduceIte, reduceCtorEq, ↓C.catnaplaw6_ClockLost_r25_w, C.catnaplaw6_ClockLost_r25_b, ↓C.catnaplaw6_ClockLost_c1_w, ↓C.catnaplaw6_ClockLost_r8_w, C.catnaplaw6_ClockLost_r8_b, ↓C.catnaplaw6_ClockLost_c2_w, ↓C.catnaplaw6_ClockLost_r20_w, C.catnaplaw6_ClockLost_r20_b, ↓C.catnaplaw6_ClockLost_r22_w, C.catnaplaw6_ClockLost_r22_b, ↓C.catnaplaw6_ClockLost_c6_w, ↓C.catnaplaw6_ClockLost_r21_w, C.catnaplaw6_ClockLost_r21_b, ↓C.catnaplaw6_ClockLost_c7_w, ↓C.catnaplaw6_ClockLost_c8_w, ↓C.catnaplaw6_ClockLost_c9_w, ↓C.catnaplaw6_ClockLost_r19_w, C.catnaplaw6_ClockLost_r19_b, ↓C.catnaplaw6_ClockLost_c10_w, ↓C.catnaplaw6_ClockLost_r18_w, C.catnaplaw6_ClockLost_r18_b, ↓C.catnaplaw6_ClockLost_c11_w, ↓C.catnaplaw6_ClockLost_c12_w, ↓C.catnaplaw6_ClockLost_r17_w, C.catnaplaw6_ClockLost_r17_b, ↓C.catnaplaw6_ClockLost_c13_w, ↓C.catnaplaw6_ClockLost_r13_w, C.catnaplaw6_ClockLost_r13_b, ↓C.catnaplaw6_ClockLost_c14_w, ↓C.catnaplaw6_ClockLost_r16_w, C.catnaplaw6_ClockLost_r16_b, ↓C.catnaplaw6_ClockLost_c15_w, ↓C.catnaplaw6_ClockLost_r15_w, C.catnaplaw6_ClockLost_r15_b, ↓C.catnaplaw6_ClockLost_c16_w, ↓C.catnaplaw6_ClockLost_c17_w, ↓C.catnaplaw6_ClockLost_r14_w, C.catnaplaw6_ClockLost_r14_b, ↓C.catnaplaw6_ClockLost_b18_w, ↓C.catnaplaw6_ClockLost_c19_w, ↓C.catnaplaw6_ClockLost_c20_w, ↓C.catnaplaw6_ClockLost_r12_w, C.catnaplaw6_ClockLost_r12_b, ↓C.catnaplaw6_ClockLost_b22_w, ↓C.catnaplaw6_ClockLost_c23_w, ↓C.catnaplaw6_ClockLost_r11_w, C.catnaplaw6_ClockLost_r11_b, ↓C.catnaplaw6_ClockLost_c24_w, ↓C.catnaplaw6_ClockLost_r10_w, C.catnaplaw6_ClockLost_r10_b, ↓C.catnaplaw6_ClockLost_c25_w, ↓C.catnaplaw6_ClockLost_r9_w, C.catnaplaw6_ClockLost_r9_b, ↓C.catnaplaw6_ClockLost_b26_w, ↓C.catnaplaw6_ClockLost_c27_w, ↓C.catnaplaw6_ClockLost_c28_w, ↓C.catnaplaw6_ClockLost_r7_w, C.catnaplaw6_ClockLost_r7_b, ↓C.catnaplaw6_ClockLost_b30_w, ↓C.catnaplaw6_ClockLost_c31_w, ↓C.catnaplaw6_ClockLost_r6_w, C.catnaplaw6_ClockLost_r6_b, ↓C.catnaplaw6_ClockLost_c32_w, ↓C.catnaplaw6_ClockLost_r5_w, C.catnaplaw6_ClockLost_r5_b, ↓C.catnaplaw6_ClockLost_c33_w, ↓C.catnaplaw6_ClockLost_c34_w, ↓C.catnaplaw6_ClockLost_r4_w, C.catnaplaw6_ClockLost_r4_b, ↓C.catnaplaw6_ClockLost_c35_w, ↓C.catnaplaw6_ClockLost_r3_w, C.catnaplaw6_ClockLost_r3_b, ↓C.catnaplaw6_ClockLost_c36_w, ↓C.catnaplaw6_ClockLost_r2_w, C.catnaplaw6_ClockLost_r2_b, ↓C.catnaplaw6_ClockLost_c37_w, ↓C.catnaplaw6_ClockLost_r1_w, C.catnaplaw6_ClockLost_r1_b, ↓C.catnaplaw6_ClockLost_c38_w, ↓C.catnaplaw6_ClockLost_r0_w, C.catnaplaw6_ClockLost_r0_b, C.catnaplaw6_ClockLost]
    rw [C.catnaplaw6_ClockLost_c5_w, awp_keep]
    exact lost_end (vo := vo) (off := false) hk h rfl fun fr e => hQ fr _ _ _ h e
  · simp only [↓Bp, Bq, Bs, ↓aop.eq_28, ↓aop.eq_30, Nat.reduceEqDiff, Nat.reduceAdd, Nat.reduceMul, Nat.reduceSub, Nat.reduceLeDiff, Nat.reduceLT, Int.reduceLT, Int.reduceLE, Int.reduceEq, Int.reduceToNat, Int.reduceAdd, Int.reduceSub, Int.reduceNeg, ↓reduceIte, reduceCtorEq, ↓C.catnaplaw6_ClockLost_W, C.catnaplaw6_ClockLost_B, C.catnaplaw6_ClockLost]
    refine h.off2.mono ?_
    rintro r s2 ⟨rfl, h⟩
    simp only [↓Bp, Bq, Bs, ↓aop.eq_28, ↓aop.eq_30, Nat.reduceEqDiff, Nat.reduceAdd, Nat.reduceMul, Nat.reduceSub, Nat.reduceLeDiff, Nat.reduceLT, Int.reduceLT, Int.reduceLE, Int.reduceEq, Int.reduceToNat, Int.reduceAdd, Int.reduceSub, Int.reduceNeg, ↓reduceIte, reduceCtorEq, ↓C.catnaplaw6_ClockLost_r25_w, C.catnaplaw6_ClockLost_r25_b, ↓C.catnaplaw6_ClockLost_c1_w, ↓C.catnaplaw6_ClockLost_r8_w, C.catnaplaw6_ClockLost_r8_b, ↓C.catnaplaw6_ClockLost_c2_w, ↓C.catnaplaw6_ClockLost_r20_w, C.catnaplaw6_ClockLost_r20_b, ↓C.catnaplaw6_ClockLost_r22_w, C.catnaplaw6_ClockLost_r22_b, ↓C.catnaplaw6_ClockLost_c6_w, ↓C.catnaplaw6_ClockLost_r21_w, C.catnaplaw6_ClockLost_r21_b, ↓C.catnaplaw6_ClockLost_c7_w, ↓C.catnaplaw6_ClockLost_c8_w, ↓C.catnaplaw6_ClockLost_c9_w, ↓C.catnaplaw6_ClockLost_r19_w, C.catnaplaw6_ClockLost_r19_b, ↓C.catnaplaw6_ClockLost_c10_w, ↓C.catnaplaw6_ClockLost_r18_w, C.catnaplaw6_ClockLost_r18_b, ↓C.catnaplaw6_ClockLost_c11_w, ↓C.catnaplaw6_ClockLost_c12_w, ↓C.catnaplaw6_ClockLost_r17_w, C.catnaplaw6_ClockLost_r17_b, ↓C.catnaplaw6_ClockLost_c13_w, ↓C.catnaplaw6_ClockLost_r13_w, C.catnaplaw6_ClockLost_r13_b, ↓C.catnaplaw6_ClockLost_c14_w, ↓C.catnaplaw6_ClockLost_r16_w, C.catnaplaw6_ClockLost_r16_b, ↓C.catnaplaw6_ClockLost_c15_w, ↓C.catnaplaw6_ClockLost_r15_w, C.catnaplaw6_ClockLost_r15_b, ↓C.catnaplaw6_ClockLost_c16_w, ↓C.catnaplaw6_ClockLost_c17_w, ↓C.catnaplaw6_ClockLost_r14_w, C.catnaplaw6_ClockLost_r14_b, ↓C.catnaplaw6_ClockLost_b18_w, ↓C.catnaplaw6_ClockLost_c19_w, ↓C.catnaplaw6_ClockLost_c20_w, ↓C.catnaplaw6_ClockLost_r12_w, C.catnaplaw6_ClockLost_r12_b, ↓C.catnaplaw6_ClockLost_b22_w, ↓C.catnaplaw6_ClockLost_c23_w, ↓C.catnaplaw6_ClockLost_r11_w, C.catnaplaw6_ClockLost_r11_b, ↓C.catnaplaw6_ClockLost_c24_w, ↓C.catnaplaw6_ClockLost_r10_w, C.catnaplaw6_ClockLost_r10_b, ↓C.catnaplaw6_ClockLost_c25_w, ↓C.catnaplaw6_ClockLost_r9_w, C.catnaplaw6_ClockLost_r9_b, ↓C.catnaplaw6_ClockLost_b26_w, ↓C.catnaplaw6_ClockLost_c27_w, ↓C.catnaplaw6_ClockLost_c28_w, ↓C.catnaplaw6_ClockLost_r7_w, C.catnaplaw6_ClockLost_r7_b, ↓C.catnaplaw6_ClockLost_b30_w, ↓C.catnaplaw6_ClockLost_c31_w, ↓C.catnaplaw6_ClockLost_r6_w, C.catnaplaw6_ClockLost_r6_b, ↓C.catnaplaw6_ClockLost_c32_w, ↓C.catnaplaw6_ClockLost_r5_w, C.catnaplaw6_ClockLost_r5_b, ↓C.catnaplaw6_ClockLost_c33_w, ↓C.catnaplaw6_ClockLost_c34_w, ↓C.catnaplaw6_ClockLost_r4_w, C.catnaplaw6_ClockLost_r4_b, ↓C.catnaplaw6_ClockLost_c35_w, ↓C.catnaplaw6_ClockLost_r3_w, C.catnaplaw6_ClockLost_r3_b, ↓C.catnaplaw6_ClockLost_c36_w, ↓C.catnaplaw6_ClockLost_r2_w, C.catnaplaw6_ClockLost_r2_b, ↓C.catnaplaw6_ClockLost_c37_w, ↓C.catnaplaw6_ClockLost_r1_w, C.catnaplaw6_ClockLost_r1_b, ↓C.catnaplaw6_ClockLost_c38_w, ↓C.catnaplaw6_ClockLost_r0_w, C.catnaplaw6_ClockLost_r0_b, C.catnaplaw6_ClockLost]
    rw [C.catnaplaw6_ClockLost_c5_w, awp_keep]
    exact lost_end (vo := vo) (off := true) hk h rfl fun fr e => hQ fr _ _ _ h e
theorem lost_once {s : ASt} (hk : k ≤ 20) {t : Nat} {vo : AV} {off : Bool} {g q : Bool} (h : LW st s p ig (lostN k g q k)) {Q : IExit → AFr → ASt → Prop}
    (hQ : ∀ fr s' g q, LW st s' p ig (lostN k g q k) → fr.keep [1, 2, 8, 9, 11] = [(1, vo), (2, .bool off), (8, .int .i64 k), (9, .ptr p 0), (11, .int .i64 t)] → awp Try.prog C.catnaplaw6_ClockLost_c2 Q fr s') :
    awp Try.prog C.catnaplaw6_ClockLost_c27 Q [(1, vo), (2, .bool off), (8, .int .i64 k), (9, .ptr p 0), (11, .int .i64 t)] s := by
  have hkk : (0:Int) ≤ (k : Int) ∧ (k : Int) ≤ 20 := by omega
  simp only [↓Bp, Bq, Bs, ↓aop.eq_28, ↓aop.eq_30, Nat.reduceEqDiff, Nat.reduceAdd, Nat.reduceMul, Nat.reduceSub, Nat.reduceLeDiff, Nat.reduceLT, Int.reduceLT, Int.reduceLE, Int.reduceEq, Int.reduceToNat, Int.reduceAdd, Int.reduceSub, Int.reduceNeg, ↓reduceIte, reduceCtorEq, ↓C.catnaplaw6_ClockLost_W, C.catnaplaw6_ClockLost_B, C.catnaplaw6_ClockLost]
  refine (h.on1 true).mono ?_
  rintro r s2 ⟨rfl, h⟩
  simp only [↓Bp, Bq, Bs, ↓aop.eq_28, ↓aop.eq_30, Nat.reduceEqDiff, Nat.reduceAdd, Nat.reduceMul, Nat.reduceSub, Nat.reduceLeDiff, Nat.reduceLT, Int.reduceLT, Int.reduceLE, Int.reduceEq, Int.reduceToNat, Int.reduceAdd, Int.reduceSub, Int.reduceNeg, ↓reduceIte, reduceCtorEq, ↓C.catnaplaw6_ClockLost_W, C.catnaplaw6_ClockLost_B, C.catnaplaw6_ClockLost]
  refine h.on2.mono ?_
  rintro r s3 ⟨rfl, h⟩
  simp only [↓Bp, Bq, Bs, ↓aop.eq_28, ↓aop.eq_30, Nat.reduceEqDiff, Nat.reduceAdd, Nat.reduceMul, Nat.reduceSub, Nat.reduceLeDiff, Nat.reduceLT, Int.reduceLT, Int.reduceLE, Int.reduceEq, Int.reduceToNat, Int.reduceAdd, Int.reduceSub, Int.reduceNeg, ↓reduceIte, reduceCtorEq, ↓C.catnaplaw6_ClockLost_W, C.catnaplaw6_ClockLost_B, C.catnaplaw6_ClockLost]
  refine awp_midB (fun _ : Unit => [(1, vo), (2, .bool off), (8, .int .i64 k), (9, .ptr p 0), (11, .int .i64 t)]) (fun _ s' => LW st s' p ig (lostN k true true 0)) ?_ ?_
  rotate_left
  · rintro - s' h
    exact lost_look (vo := vo) (off := off) hk h fun fr s' g q h e => hQ fr s' g q h e
  refine awp_loopK (fun i : Nat => [(1, vo), (2, .bool off), (8, .int .i64 k), (9, .ptr p 0), (11, .int .i64 t), (12, .int .i64 i)]) (fun i s' => i ≤ k ∧ LW st s' p ig (lostN k true true ((k - i : Nat) : Int))) (fun i => k - i) 0 rfl ⟨Nat.zero_le _, h⟩ ?_
  clear h
  rintro i s ⟨hi, h⟩
  by_cases hil : i < k
  rotate_left
  · have hil' : ¬ (i : Int) < (k : Nat) := by omega
    rw [show k - i = 0 by omega] at h
    simp only [↓Bp, Bq, Bs, ↓aop.eq_28, ↓aop.eq_30, Nat.reduceEqDiff, Nat.reduceAdd, Nat.reduceMul, Nat.reduceSub, Nat.reduceLeDiff, Nat.reduceLT, Int.reduceLT, Int.reduceLE, Int.reduceEq, Int.reduceToNat, Int.reduceAdd, Int.reduceSub, Int.reduceNeg, ↓reduceIte, reduceCtorEq, ↓C.catnaplaw6_ClockLost_W, C.catnaplaw6_ClockLost_B, C.catnaplaw6_ClockLost, hil']
    exact ⟨(), h⟩
  have hil' : (i : Int) < (k : Nat) := by omega
  have hw := wsucc hil (by omega)
  have hws : IntKind.i64.wrap ((k : Int) - (i : Int)) = ((k - i : Nat) : Int) := by rw [wrap64] <;> omega
  have hl20 : 0 ≤ ((k - i : Nat) : Int) ∧ ((k - i : Nat) : Int) ≤ 20 := by omega
  have e1 : ((k - i : Nat) : Int) - 1 = ((k - (i + 1) : Nat) : Int) := by omega
  have e2 : 0 < ((k - i : Nat) : Int) := by omega
  simp only [↓Bp, Bq, Bs, ↓aop.eq_28, ↓aop.eq_30, Nat.reduceEqDiff, Nat.reduceAdd, Nat.reduceMul, Nat.reduceSub, Nat.reduceLeDiff, Nat.reduceLT, Int.reduceLT, Int.reduceLE, Int.reduceEq, Int.reduceToNat, Int.reduceAdd, Int.reduceSub, Int.reduceNeg, ↓reduceIte, reduceCtorEq, ↓C.catnaplaw6_ClockLost_W, C.catnaplaw6_ClockLost_B, C.catnaplaw6_ClockLost, hil']
  refine (h.run2 hkk hl20).mono ?_
  rintro r s1 ⟨rfl, rfl⟩
  rw [show decide (((k - i : Nat) : Int) = 0) = false by simp; omega]
  simp only [↓Bp, Bq, Bs, ↓aop.eq_28, ↓aop.eq_30, Nat.reduceEqDiff, Nat.reduceAdd, Nat.reduceMul, Nat.reduceSub, Nat.reduceLeDiff, Nat.reduceLT, Int.reduceLT, Int.reduceLE, Int.reduceEq, Int.reduceToNat, Int.reduceAdd, Int.reduceSub, Int.reduceNeg, ↓reduceIte, reduceCtorEq, ↓C.catnaplaw6_ClockLost_W, C.catnaplaw6_ClockLost_B, C.catnaplaw6_ClockLost]
  refine h.left2.mono ?_
  rintro r s1 ⟨rfl, rfl⟩
  simp only [↓Bp, Bq, Bs, ↓aop.eq_28, ↓aop.eq_30, Nat.reduceEqDiff, Nat.reduceAdd, Nat.reduceMul, Nat.reduceSub, Nat.reduceLeDiff, Nat.reduceLT, Int.reduceLT, Int.reduceLE, Int.reduceEq, Int.reduceToNat, Int.reduceAdd, Int.reduceSub, Int.reduceNeg, ↓reduceIte, reduceCtorEq, ↓C.catnaplaw6_ClockLost_W, C.catnaplaw6_ClockLost_B, C.catnaplaw6_ClockLost, hws]
  refine (h.tick hkk hl20).mono ?_
  rintro r s1 h
  rw [if_pos rfl, if_neg (by decide), if_pos e2, e1] at h
  simp only [↓Bp, Bq, Bs, ↓aop.eq_28, ↓aop.eq_30, Nat.reduceEqDiff, Nat.reduceAdd, Nat.reduceMul, Nat.reduceSub, Nat.reduceLeDiff, Nat.reduceLT, Int.reduceLT, Int.reduceLE, Int.reduceEq, Int.reduceToNat, Int.reduceAdd, Int.reduceSub, Int.reduceNeg, ↓reduceIte, reduceCtorEq, ↓C.catnaplaw6_ClockLost_W, C.catnaplaw6_ClockLost_B, C.catnaplaw6_ClockLost, hw]
  exact ⟨i + 1, rfl, ⟨hil, h⟩, by omega⟩
end
theorem clocklost_spec {st : ASt} {x y : Int} {off : Bool} (hx : -9223372036854775808 ≤ x ∧ x ≤ 9223372036854775807) (hy : -9223372036854775808 ≤ y ∧ y ≤ 9223372036854775807) :
    ACalls Try.prog F.catnaplaw6_ClockLost [.int .i64 x, .int .i64 y, .bool off] st fun r s => r = .bool true ∧ s = st := by
  refine ACalls.gc (Q' := fun r s => r = .bool true ∧ st.le s) (calls_of_awp L.catnaplaw6_ClockLost rfl ?_) (fun v s ⟨h, hl⟩ => ⟨st, hl, h, rfl⟩)
  simp only [↓Bp, Bq, Bs, ↓aop.eq_28, ↓aop.eq_30, Nat.reduceEqDiff, Nat.reduceAdd, Nat.reduceMul, Nat.reduceSub, Nat.reduceLeDiff, Nat.reduceLT, Int.reduceLT, Int.reduceLE, Int.reduceEq, Int.reduceToNat, Int.reduceAdd, Int.reduceSub, Int.reduceNeg, ↓reduceIte, reduceCtorEq, ↓C.catnaplaw6_ClockLost_W, C.catnaplaw6_ClockLost_B, C.catnaplaw6_ClockLost]
  refine (kshown_spec st).mono ?_
  rintro r s ⟨rfl, rfl⟩
  simp only [↓Bp, Bq, Bs, ↓aop.eq_28, ↓aop.eq_30, Nat.reduceEqDiff, Nat.reduceAdd, Nat.reduceMul, Nat.reduceSub, Nat.reduceLeDiff, Nat.reduceLT, Int.reduceLT, Int.reduceLE, Int.reduceEq, Int.reduceToNat, Int.reduceAdd, Int.reduceSub, Int.reduceNeg, ↓reduceIte, reduceCtorEq, ↓C.catnaplaw6_ClockLost_W, C.catnaplaw6_ClockLost_B, C.catnaplaw6_ClockLost]
  refine (pick_spec hx (n := 21) (by omega)).mono ?_
  rintro r s ⟨rfl, rfl⟩
  have hkl := pickI_lt x (n := 21) (by omega)
  generalize pickI x 21 = k at hkl
  simp only [↓Bp, Bq, Bs, ↓aop.eq_28, ↓aop.eq_30, Nat.reduceEqDiff, Nat.reduceAdd, Nat.reduceMul, Nat.reduceSub, Nat.reduceLeDiff, Nat.reduceLT, Int.reduceLT, Int.reduceLE, Int.reduceEq, Int.reduceToNat, Int.reduceAdd, Int.reduceSub, Int.reduceNeg, ↓reduceIte, reduceCtorEq, ↓C.catnaplaw6_ClockLost_W, C.catnaplaw6_ClockLost_B, C.catnaplaw6_ClockLost]
  rintro i hi j ⟨hj, hji⟩ m ⟨⟨hm, hmi⟩, hmj⟩
  have hj' : (s.new i (.cells [.int .i64 0])).h j = none := by rw [ASt.new_none]; exact ⟨hj, hji⟩
  have hm' : ((s.new i (.cells [.int .i64 0])).new j (.cells [.int .i64 1])).h m = none := by rw [ASt.new_none, ASt.new_none]; exact ⟨⟨hm, hmi⟩, hmj⟩
  obtain ⟨cs, hcs⟩ : ∃ cs, cs = [AV.int .u8 111, .nils, .int .u64 5, .int .i64 0, .int .i64 0, .int .i64 0, .int .u8 103, .sl 1 i 0 1, .int .u64 0, .int .i64 0, .int .i64 0, .int .i64 0, .int .u8 112, .sl 1 j 0 1, .int .u64 0, .int .i64 2, .int .i64 1, .int .i64 k] := ⟨_, rfl⟩
  rw [← hcs]
  have hr : RepL (((s.new i (.cells [.int .i64 0])).new j (.cells [.int .i64 1])).new m (.cells cs)) [.sl 6 m 0 3, .nils, .nils, .nils] (Soc.cells ⟨lostC k, [], [], []⟩) [m, i, j] := by
    refine .sl (L1 := [i, j]) (L2 := []) (ASt.new_self _ hm') ?_ (by simpa using ⟨hmi, hmj⟩) (by simp) (by simp) (.nils 3 (.nils 1 (.nils 6 .nil)))
    rw [hcs]
    refine .one rfl (.nils 1 (.one rfl (.one rfl (.one rfl (.one rfl (.one rfl ?_))))))
    refine .sl (L1 := []) (L2 := [j]) (ASt.new_old (ASt.new_old (ASt.new_self _ hi))) (RepL.scalars rfl _) (by simp) (by simpa using Ne.symm hji) (by simp) ?_
    refine .one rfl (.one rfl (.one rfl (.one rfl (.one rfl ?_))))
    exact .sl (L1 := []) (L2 := []) (ASt.new_old (ASt.new_self _ hj')) (RepL.scalars rfl _) (by simp) (by simp) (by simp) (RepL.scalars rfl _)
  have hle : s.le ((((s.new i (.cells [.int .i64 0])).new j (.cells [.int .i64 1])).new m (.cells cs)).killL [m, i, j]) :=
    (((ASt.le.new _ _ _).trans (ASt.le.new _ _ _)).trans (ASt.le.new _ _ _)).killL (by simp; exact ⟨hm, hi, hj⟩)
  refine ACalls.frzAgg hr ((cnew_spec (S := ⟨lostC k, [], [], []⟩) ⟨by simp [lostC], by simp, by simp, by simp, by simp [lostC], by simp⟩ (by intro c hc; simp [lostC] at hc; rcases hc with rfl | rfl | rfl <;> simp) (lost_right (by omega)) (by simp [lostC]) (by simp [lostC])).mono ?_)
  generalize ((((s.new i (.cells [.int .i64 0])).new j (.cells [.int .i64 1])).new m (.cells cs)).killL [m, i, j]) = s1 at hle
  rintro r s2 ⟨p, ig, rfl, hT, hp, hmm, hle2⟩
  have hW : LW s s2 p ig (lostN k false false k) := ⟨hle.trans hle2, hT, fresh_of_le hle hmm⟩
  clear hT hp hmm hle2 hle hr hcs hm' hj'
  simp only [↓Bp, Bq, Bs, ↓aop.eq_28, ↓aop.eq_30, Nat.reduceEqDiff, Nat.reduceAdd, Nat.reduceMul, Nat.reduceSub, Nat.reduceLeDiff, Nat.reduceLT, Int.reduceLT, Int.reduceLE, Int.reduceEq, Int.reduceToNat, Int.reduceAdd, Int.reduceSub, Int.reduceNeg, ↓reduceIte, reduceCtorEq, ↓C.catnaplaw6_ClockLost_r5_w, C.catnaplaw6_ClockLost_r5_b, ↓C.catnaplaw6_ClockLost_c33_w, ↓C.catnaplaw6_ClockLost_c34_w, ↓C.catnaplaw6_ClockLost_r4_w, C.catnaplaw6_ClockLost_r4_b, ↓C.catnaplaw6_ClockLost_c35_w, ↓C.catnaplaw6_ClockLost_r3_w, C.catnaplaw6_ClockLost_r3_b, ↓C.catnaplaw6_ClockLost_c36_w, ↓C.catnaplaw6_ClockLost_r2_w, C.catnaplaw6_ClockLost_r2_b, ↓C.catnaplaw6_ClockLost_c37_w, ↓C.catnaplaw6_ClockLost_r1_w, C.catnaplaw6_ClockLost_r1_b, ↓C.catnaplaw6_ClockLost_c38_w, ↓C.catnaplaw6_ClockLost_r0_w, C.catnaplaw6_ClockLost_r0_b, C.catnaplaw6_ClockLost]
  rw [C.catnaplaw6_ClockLost_c32_w, awp_keep]
  simp only [↓Bp, Bq, Bs, ↓aop.eq_28, ↓aop.eq_30, Nat.reduceEqDiff, Nat.reduceAdd, Nat.reduceMul, Nat.reduceSub, Nat.reduceLeDiff, Nat.reduceLT, Int.reduceLT, Int.reduceLE, Int.reduceEq, Int.reduceToNat, Int.reduceAdd, Int.reduceSub, Int.reduceNeg, ↓reduceIte, reduceCtorEq, ↓C.catnaplaw6_ClockLost_W, C.catnaplaw6_ClockLost_B, C.catnaplaw6_ClockLost]
  refine awp_midB (fun _ : Unit => ([] : AFr)) (fun _ s' => s.le s') ?_ ?_
  rotate_left
  · rintro - s' h
    simp only [↓Bp, Bq, Bs, ↓aop.eq_28, ↓aop.eq_30, Nat.reduceEqDiff, Nat.reduceAdd, Nat.reduceMul, Nat.reduceSub, Nat.reduceLeDiff, Nat.reduceLT, Int.reduceLT, Int.reduceLE, Int.reduceEq, Int.reduceToNat, Int.reduceAdd, Int.reduceSub, Int.reduceNeg, ↓reduceIte, reduceCtorEq, ↓C.catnaplaw6_ClockLost_W, C.catnaplaw6_ClockLost_B, C.catnaplaw6_ClockLost]
    exact h
  refine awp_loopK (fun t : Nat => [(1, .int .i64 y), (2, .bool off), (8, .int .i64 k), (9, .ptr p 0), (11, .int .i64 t)]) (fun t s' => t ≤ 4 ∧ ∃ g q, LW s s' p ig (lostN k g q k)) (fun t => 4 - t) 0 rfl ⟨Nat.zero_le _, _, _, hW⟩ ?_
  clear hW s2
  rintro t s2 ⟨ht, g, q, hW⟩
  have hyl := pickI_lt y (n := 4) (by omega)
  simp only [↓Bp, Bq, Bs, ↓aop.eq_28, ↓aop.eq_30, Nat.reduceEqDiff, Nat.reduceAdd, Nat.reduceMul, Nat.reduceSub, Nat.reduceLeDiff, Nat.reduceLT, Int.reduceLT, Int.reduceLE, Int.reduceEq, Int.reduceToNat, Int.reduceAdd, Int.reduceSub, Int.reduceNeg, ↓reduceIte, reduceCtorEq, ↓C.catnaplaw6_ClockLost_W, C.catnaplaw6_ClockLost_B, C.catnaplaw6_ClockLost]
  refine (pick_spec hy (n := 4) (by omega)).mono ?_
  rintro r s3 ⟨rfl, rfl⟩
  generalize pickI y 4 = n at hyl
  by_cases htn : t ≤ n
  rotate_left
  · have htn' : ¬ (t : Int) ≤ (n : Nat) := by omega
    simp only [↓Bp, Bq, Bs, ↓aop.eq_28, ↓aop.eq_30, Nat.reduceEqDiff, Nat.reduceAdd, Nat.reduceMul, Nat.reduceSub, Nat.reduceLeDiff, Nat.reduceLT, Int.reduceLT, Int.reduceLE, Int.reduceEq, Int.reduceToNat, Int.reduceAdd, Int.reduceSub, Int.reduceNeg, ↓reduceIte, reduceCtorEq, ↓C.catnaplaw6_ClockLost_W, C.catnaplaw6_ClockLost_B, C.catnaplaw6_ClockLost, htn']
    exact ⟨(), hW.le⟩
  have htn' : (t : Int) ≤ (n : Nat) := by omega
  have hw := wsucc (n := 5) (k := t) (by omega) (by omega)
  simp only [↓Bp, Bq, Bs, ↓aop.eq_28, ↓aop.eq_30, Nat.reduceEqDiff, Nat.reduceAdd, Nat.reduceMul, Nat.reduceSub, Nat.reduceLeDiff, Nat.reduceLT, Int.reduceLT, Int.reduceLE, Int.reduceEq, Int.reduceToNat, Int.reduceAdd, Int.reduceSub, Int.reduceNeg, ↓reduceIte, reduceCtorEq, ↓C.catnaplaw6_ClockLost_r25_w, C.catnaplaw6_ClockLost_r25_b, ↓C.catnaplaw6_ClockLost_c1_w, ↓C.catnaplaw6_ClockLost_c28_w, ↓C.catnaplaw6_ClockLost_r7_w, C.catnaplaw6_ClockLost_r7_b, ↓C.catnaplaw6_ClockLost_b30_w, ↓C.catnaplaw6_ClockLost_c31_w, ↓C.catnaplaw6_ClockLost_r6_w, C.catnaplaw6_ClockLost_r6_b, ↓C.catnaplaw6_ClockLost_c32_w, ↓C.catnaplaw6_ClockLost_r5_w, C.catnaplaw6_ClockLost_r5_b, ↓C.catnaplaw6_ClockLost_c33_w, ↓C.catnaplaw6_ClockLost_c34_w, ↓C.catnaplaw6_ClockLost_r4_w, C.catnaplaw6_ClockLost_r4_b, ↓C.catnaplaw6_ClockLost_c35_w, ↓C.catnaplaw6_ClockLost_r3_w, C.catnaplaw6_ClockLost_r3_b, ↓C.catnaplaw6_ClockLost_c36_w, ↓C.catnaplaw6_ClockLost_r2_w, C.catnaplaw6_ClockLost_r2_b, ↓C.catnaplaw6_ClockLost_c37_w, ↓C.catnaplaw6_ClockLost_r1_w, C.catnaplaw6_ClockLost_r1_b, ↓C.catnaplaw6_ClockLost_c38_w, ↓C.catnaplaw6_ClockLost_r0_w, C.catnaplaw6_ClockLost_r0_b, C.catnaplaw6_ClockLost, htn']
  rw [C.catnaplaw6_ClockLost_c27_w, awp_keep]
  refine lost_once (vo := .int .i64 y) (off := off) (by omega) hW fun fr s' g q h e => ?_
  rw [C.catnaplaw6_ClockLost_c2_w, awp_keep, e]
  simp only [↓Bp, Bq, Bs, ↓aop.eq_28, ↓aop.eq_30, Nat.reduceEqDiff, Nat.reduceAdd, Nat.reduceMul, Nat.reduceSub, Nat.reduceLeDiff, Nat.reduceLT, Int.reduceLT, Int.reduceLE, Int.reduceEq, Int.reduceToNat, Int.reduceAdd, Int.reduceSub, Int.reduceNeg, ↓reduceIte, reduceCtorEq, ↓C.catnaplaw6_ClockLost_W, C.catnaplaw6_ClockLost_B, C.catnaplaw6_ClockLost, hw]
  exact ⟨t + 1, rfl, ⟨by omega, _, _, h⟩, by omega⟩
end Go.Proofs.Ytkioaemhdbcfaaa.Cn
