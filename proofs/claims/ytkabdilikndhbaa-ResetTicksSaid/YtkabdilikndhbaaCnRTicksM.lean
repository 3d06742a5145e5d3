/- Reset lines: ResetTicks, the walk. -/
import Derived.Test.YtkabdilikndhbaaCnRTicks
set_option linter.unusedSimpArgs false
set_option linter.unusedVariables false
set_option linter.unusedSectionVars false
namespace Go.Proofs.Ytkabdilikndhbaa.Cn
open Go Go.Proofs

def lf (x : Ln) : Int := if x.held = true then x.left else 0
/-- Two slices of its own beside a heap that stays. -/
structure KSt (s s' : ASt) (ih il : Nat) (H : List Bool) (L : List Int) : Prop where
  le : s.le s'
  hh : s'.h ih = some (.cells (bools H))
  hl : s'.h il = some (.cells (ints L))
  fh : s.h ih = none
  fl : s.h il = none
  ne : ih ≠ il
theorem KSt.setH {s s' : ASt} {ih il : Nat} {H : List Bool} {L : List Int} (h : KSt s s' ih il H L) (H' : List Bool) : KSt s (s'.set ih (.cells (bools H'))) ih il H' L :=
  ⟨fun j o ho => by rw [ASt.set_h, if_neg (by rintro rfl; rw [h.fh] at ho; cases ho)]; exact h.le _ _ ho, by rw [ASt.set_h, if_pos rfl, h.hh]; rfl, by rw [ASt.set_h, if_neg (Ne.symm h.ne)]; exact h.hl, h.fh, h.fl, h.ne⟩
theorem KSt.setL {s s' : ASt} {ih il : Nat} {H : List Bool} {L : List Int} (h : KSt s s' ih il H L) (L' : List Int) : KSt s (s'.set il (.cells (ints L'))) ih il H L' :=
  ⟨fun j o ho => by rw [ASt.set_h, if_neg (by rintro rfl; rw [h.fl] at ho; cases ho)]; exact h.le _ _ ho, by rw [ASt.set_h, if_neg h.ne]; exact h.hh, by rw [ASt.set_h, if_pos rfl, h.hl]; rfl, h.fh, h.fl, h.ne⟩
section
variable {st s : ASt} {ib ia p m : Nat} {R : List Int} {ls : List Ln} {A : List Bool} (h : TSt st s ib ia p m R ls A)
include h
theorem TSt.pne : p ≠ ia := by
  rintro rfl
  have h1 := h.r.ln.hp
  rw [h.ha] at h1
  have h2 : bools A = [.map m] := by injection h1 with e; injection e
  have := congrArg (fun l => l[0]?) h2
  cases hA0 : A with
  | nil => rw [hA0] at this; cases this
  | cons b l => rw [hA0] at this; cases this
theorem TSt.bne : ib ≠ ia := by
  rintro rfl
  have hbib := h.r.hb
  rw [h.ha] at hbib
  have h2 : bools A = (rchip R).cells := by injection hbib with e; injection e
  have := congrArg (fun l => l[0]?) h2
  cases hA0 : A with
  | nil => rw [hA0] at this; cases this
  | cons b l => rw [hA0] at this; cases this
theorem TSt.put {ls' : List Ln} {A' : List Bool} (hi : TInv ls' A') (hl : ls'.length = ls.length) : TSt st ((s.set m (lnsE ls')).set ia (.cells (bools A'))) ib ia p m R ls' A' := by
  have hr := h.r.set ls'
  have ha : (s.set m (lnsE ls')).h ia = some (.cells (bools A)) := by rw [ASt.set_h, if_neg h.nm]; exact h.ha
  refine ⟨⟨fun j o hj => ?_, ?_, ⟨?_, ?_⟩, h.r.fm, h.r.ne⟩, ?_, h.fa, hi, hl.trans h.len⟩
  · rw [ASt.set_h, if_neg (by rintro rfl; rw [h.fa] at hj; cases hj)]; exact hr.le _ _ hj
  · rw [ASt.set_h, if_neg h.bne]; exact hr.hb
  · rw [ASt.set_h, if_neg h.pne]; exact hr.ln.hp
  · rw [ASt.set_h, if_neg (Ne.symm h.nm)]; exact hr.ln.hm
  · rw [ASt.set_h, if_pos rfl, ha]; rfl
end
section
variable {st : ASt} {ib ia p m : Nat} {R : List Int} (hR : R.length ≤ 6) {va : AV} {i0 : Nat} {ih il : Nat}
include hR
theorem tarm3 {s : ASt} {ls0 ls : List Ln} {A : List Bool} (hl0 : ls0.length = R.length) (hls : ls = tickL ls0) (h0 : ∀ x ∈ ls0, 0 ≤ x.left ∧ x.left ≤ 20)
    {Q : IExit → AFr → ASt → Prop} (h : TSt st s ib ia p m R ls A) (hh : s.h ih = some (.cells (bools (ls0.map Ln.held)))) (hl : s.h il = some (.cells (ints (ls0.map lf))))
    (hQ : ∀ fr, fr.keep [1, 6, 7, 9, 10] = [(1, va), (6, .ptr ib 0), (7, .ptr p 0), (9, .sl 1 ia 0 R.length), (10, .int .i64 i0)] → Q .normal fr s) :
    awp Try.prog C.catnaplaw8_ResetTicks_c17 Q [(1, va), (6, .ptr ib 0), (7, .ptr p 0), (9, .sl 1 ia 0 R.length), (10, .int .i64 i0), (13, .sl 1 ih 0 R.length), (14, .sl 1 il 0 R.length)] s := by
  simp only [↓Bp, Bq, Bs, ↓aop.eq_28, ↓aop.eq_30, Nat.reduceEqDiff, Nat.reduceAdd, Nat.reduceMul, Nat.reduceSub, Nat.reduceLeDiff, Nat.reduceLT, Int.reduceLT, Int.reduceLE, Int.reduceEq, Int.reduceToNat, Int.reduceAdd, Int.reduceSub, Int.reduceNeg, ↓reduceIte, reduceCtorEq, ↓C.catnaplaw8_ResetTicks_W, C.catnaplaw8_ResetTicks_B, C.catnaplaw8_ResetTicks]
  refine awp_loopK (fun t : Nat => [(1, va), (6, .ptr ib 0), (7, .ptr p 0), (9, .sl 1 ia 0 R.length), (10, .int .i64 i0), (13, .sl 1 ih 0 R.length), (14, .sl 1 il 0 R.length), (18, .int .i64 t)]) (fun t s' => t ≤ R.length ∧ s' = s) (fun t => R.length - t) 0 rfl ⟨Nat.zero_le _, rfl⟩ ?_
  rintro t s ⟨ht, rfl⟩
  have hb := h.r.hb
  by_cases htl : t < R.length
  rotate_left
  · have htl' : ¬ (t : Int) < (R.length : Nat) := by omega
    simp only [↓Bp, Bq, Bs, ↓aop.eq_28, ↓aop.eq_30, Nat.reduceEqDiff, Nat.reduceAdd, Nat.reduceMul, Nat.reduceSub, Nat.reduceLeDiff, Nat.reduceLT, Int.reduceLT, Int.reduceLE, Int.reduceEq, Int.reduceToNat, Int.reduceAdd, Int.reduceSub, Int.reduceNeg, ↓reduceIte, reduceCtorEq, ↓C.catnaplaw8_ResetTicks_W, C.catnaplaw8_ResetTicks_B, C.catnaplaw8_ResetTicks, htl', hb, rchip, Soc.cells, Soc.rstV]
    exact hQ _ rfl
  have htl' : (t : Int) < (R.length : Nat) := by omega
  have hw := wsucc htl (by omega)
  have ht0 : t < ls0.length := by omega
  have htt : t < ls.length := by rw [h.len]; exact htl
  have hz2 : (0:Int) ≤ (t : Int) ∧ (t : Int) < (R.length : Nat) := by omega
  have he : ls[t] = Cn.tick1 ls0[t] := by subst hls; simp [tickL]
  have hlow := h0 _ (List.getElem_mem ht0)
  have e1 : (ints (ls0.map lf))[t]? = some (.int .i64 (lf ls0[t])) := by
    rw [ints_get (by simpa using ht0)]; simp
  have e2 : (bools (ls0.map Ln.held))[t]? = some (.bool ls0[t].held) := by
    rw [bools_get (by simpa using ht0)]; simp
  have hlf : 0 ≤ lf ls0[t] ∧ lf ls0[t] ≤ 20 := by unfold lf; split <;> omega
  have w1 : IntKind.i64.wrap (lf ls0[t] - 1) = lf ls0[t] - 1 := wrap64 (by omega) (by omega)
  have hM : (if lf ls0[t] - 1 < 0 then 0 else lf ls0[t] - 1) = max (lf ls0[t] - 1) 0 := by split <;> omega
  simp only [↓Bp, Bq, Bs, ↓aop.eq_28, ↓aop.eq_30, Nat.reduceEqDiff, Nat.reduceAdd, Nat.reduceMul, Nat.reduceSub, Nat.reduceLeDiff, Nat.reduceLT, Int.reduceLT, Int.reduceLE, Int.reduceEq, Int.reduceToNat, Int.reduceAdd, Int.reduceSub, Int.reduceNeg, ↓reduceIte, reduceCtorEq, ↓C.catnaplaw8_ResetTicks_r39_w, C.catnaplaw8_ResetTicks_r39_b, ↓C.catnaplaw8_ResetTicks_c1_w, ↓C.catnaplaw8_ResetTicks_r9_w, C.catnaplaw8_ResetTicks_r9_b, ↓C.catnaplaw8_ResetTicks_c2_w, ↓C.catnaplaw8_ResetTicks_r33_w, C.catnaplaw8_ResetTicks_r33_b, ↓C.catnaplaw8_ResetTicks_c3_w, ↓C.catnaplaw8_ResetTicks_r32_w, C.catnaplaw8_ResetTicks_r32_b, ↓C.catnaplaw8_ResetTicks_r38_w, C.catnaplaw8_ResetTicks_r38_b, ↓C.catnaplaw8_ResetTicks_c4_w, ↓C.catnaplaw8_ResetTicks_r37_w, C.catnaplaw8_ResetTicks_r37_b, ↓C.catnaplaw8_ResetTicks_c5_w, ↓C.catnaplaw8_ResetTicks_c6_w, ↓C.catnaplaw8_ResetTicks_r36_w, C.catnaplaw8_ResetTicks_r36_b, ↓C.catnaplaw8_ResetTicks_c7_w, ↓C.catnaplaw8_ResetTicks_r35_w, C.catnaplaw8_ResetTicks_r35_b, ↓C.catnaplaw8_ResetTicks_r28_w, C.catnaplaw8_ResetTicks_r28_b, ↓C.catnaplaw8_ResetTicks_c8_w, ↓C.catnaplaw8_ResetTicks_r29_w, C.catnaplaw8_ResetTicks_r29_b, ↓C.catnaplaw8_ResetTicks_b11_w, ↓C.catnaplaw8_ResetTicks_c12_w, ↓C.catnaplaw8_ResetTicks_c13_w, ↓C.catnaplaw8_ResetTicks_r27_w, C.catnaplaw8_ResetTicks_r27_b, ↓C.catnaplaw8_ResetTicks_b15_w, ↓C.catnaplaw8_ResetTicks_c16_w, ↓C.catnaplaw8_ResetTicks_r26_w, C.catnaplaw8_ResetTicks_r26_b, ↓C.catnaplaw8_ResetTicks_c17_w, ↓C.catnaplaw8_ResetTicks_r22_w, C.catnaplaw8_ResetTicks_r22_b, ↓C.catnaplaw8_ResetTicks_c18_w, ↓C.catnaplaw8_ResetTicks_r25_w, C.catnaplaw8_ResetTicks_r25_b, ↓C.catnaplaw8_ResetTicks_c19_w, ↓C.catnaplaw8_ResetTicks_r24_w, C.catnaplaw8_ResetTicks_r24_b, ↓C.catnaplaw8_ResetTicks_c20_w, ↓C.catnaplaw8_ResetTicks_c21_w, ↓C.catnaplaw8_ResetTicks_r23_w, C.catnaplaw8_ResetTicks_r23_b, ↓C.catnaplaw8_ResetTicks_b22_w, ↓C.catnaplaw8_ResetTicks_c23_w, ↓C.catnaplaw8_ResetTicks_c24_w, ↓C.catnaplaw8_ResetTicks_r21_w, C.catnaplaw8_ResetTicks_r21_b, ↓C.catnaplaw8_ResetTicks_b26_w, ↓C.catnaplaw8_ResetTicks_c27_w, ↓C.catnaplaw8_ResetTicks_r20_w, C.catnaplaw8_ResetTicks_r20_b, ↓C.catnaplaw8_ResetTicks_c28_w, ↓C.catnaplaw8_ResetTicks_r19_w, C.catnaplaw8_ResetTicks_r19_b, ↓C.catnaplaw8_ResetTicks_c29_w, ↓C.catnaplaw8_ResetTicks_r16_w, C.catnaplaw8_ResetTicks_r16_b, ↓C.catnaplaw8_ResetTicks_c30_w, ↓C.catnaplaw8_ResetTicks_r18_w, C.catnaplaw8_ResetTicks_r18_b, ↓C.catnaplaw8_ResetTicks_c31_w, ↓C.catnaplaw8_ResetTicks_r17_w, C.catnaplaw8_ResetTicks_r17_b, ↓C.catnaplaw8_ResetTicks_b32_w, ↓C.catnaplaw8_ResetTicks_c33_w, ↓C.catnaplaw8_ResetTicks_c34_w, ↓C.catnaplaw8_ResetTicks_r15_w, C.catnaplaw8_ResetTicks_r15_b, ↓C.catnaplaw8_ResetTicks_b36_w, ↓C.catnaplaw8_ResetTicks_c37_w, ↓C.catnaplaw8_ResetTicks_r14_w, C.catnaplaw8_ResetTicks_r14_b, ↓C.catnaplaw8_ResetTicks_c38_w, ↓C.catnaplaw8_ResetTicks_r13_w, C.catnaplaw8_ResetTicks_r13_b, ↓C.catnaplaw8_ResetTicks_c39_w, ↓C.catnaplaw8_ResetTicks_r12_w, C.catnaplaw8_ResetTicks_r12_b, ↓C.catnaplaw8_ResetTicks_c40_w, ↓C.catnaplaw8_ResetTicks_c41_w, ↓C.catnaplaw8_ResetTicks_c42_w, ↓C.catnaplaw8_ResetTicks_r34_w, C.catnaplaw8_ResetTicks_r34_b, ↓C.catnaplaw8_ResetTicks_c43_w, ↓C.catnaplaw8_ResetTicks_c44_w, ↓C.catnaplaw8_ResetTicks_c45_w, ↓C.catnaplaw8_ResetTicks_r31_w, C.catnaplaw8_ResetTicks_r31_b, ↓C.catnaplaw8_ResetTicks_b46_w, ↓C.catnaplaw8_ResetTicks_c47_w, ↓C.catnaplaw8_ResetTicks_r11_w, C.catnaplaw8_ResetTicks_r11_b, ↓C.catnaplaw8_ResetTicks_c48_w, ↓C.catnaplaw8_ResetTicks_r10_w, C.catnaplaw8_ResetTicks_r10_b, ↓C.catnaplaw8_ResetTicks_b49_w, ↓C.catnaplaw8_ResetTicks_c50_w, ↓C.catnaplaw8_ResetTicks_c51_w, ↓C.catnaplaw8_ResetTicks_r8_w, C.catnaplaw8_ResetTicks_r8_b, ↓C.catnaplaw8_ResetTicks_b53_w, ↓C.catnaplaw8_ResetTicks_c54_w, ↓C.catnaplaw8_ResetTicks_r7_w, C.catnaplaw8_ResetTicks_r7_b, ↓C.catnaplaw8_ResetTicks_c55_w, ↓C.catnaplaw8_ResetTicks_r6_w, C.catnaplaw8_ResetTicks_r6_b, ↓C.catnaplaw8_ResetTicks_c56_w, ↓C.catnaplaw8_ResetTicks_r5_w, C.catnaplaw8_ResetTicks_r5_b, ↓C.catnaplaw8_ResetTicks_c57_w, ↓C.catnaplaw8_ResetTicks_c58_w, ↓C.catnaplaw8_ResetTicks_r4_w, C.catnaplaw8_ResetTicks_r4_b, ↓C.catnaplaw8_ResetTicks_c59_w, ↓C.catnaplaw8_ResetTicks_r3_w, C.catnaplaw8_ResetTicks_r3_b, ↓C.catnaplaw8_ResetTicks_c60_w, ↓C.catnaplaw8_ResetTicks_r2_w, C.catnaplaw8_ResetTicks_r2_b, ↓C.catnaplaw8_ResetTicks_c61_w, ↓C.catnaplaw8_ResetTicks_r1_w, C.catnaplaw8_ResetTicks_r1_b, ↓C.catnaplaw8_ResetTicks_c62_w, ↓C.catnaplaw8_ResetTicks_r0_w, C.catnaplaw8_ResetTicks_r0_b, C.catnaplaw8_ResetTicks, htl', hb, rchip, Soc.cells, Soc.rstV, hz2, Int.toNat_natCast, Nat.mul_one, hl, hh, e1, e2, w1, hM]
  refine (left_spec h.r.ln t).mono ?_
  rintro r s ⟨rfl, rfl⟩
  rw [lnOf_at htt, he, tick1_left hlow.1]
  rw [show (if ls0[t].held = true then ls0[t].left else 0) = lf ls0[t] from rfl]
  cases hd : ls0[t].held
  · rw [hd] at e2
    have hd2 := tick1_held hd
    rw [← he] at hd2
    simp only [↓Bp, Bq, Bs, ↓aop.eq_28, ↓aop.eq_30, Nat.reduceEqDiff, Nat.reduceAdd, Nat.reduceMul, Nat.reduceSub, Nat.reduceLeDiff, Nat.reduceLT, Int.reduceLT, Int.reduceLE, Int.reduceEq, Int.reduceToNat, Int.reduceAdd, Int.reduceSub, Int.reduceNeg, ↓reduceIte, reduceCtorEq, ↓C.catnaplaw8_ResetTicks_r39_w, C.catnaplaw8_ResetTicks_r39_b, ↓C.catnaplaw8_ResetTicks_c1_w, ↓C.catnaplaw8_ResetTicks_r9_w, C.catnaplaw8_ResetTicks_r9_b, ↓C.catnaplaw8_ResetTicks_c2_w, ↓C.catnaplaw8_ResetTicks_r33_w, C.catnaplaw8_ResetTicks_r33_b, ↓C.catnaplaw8_ResetTicks_c3_w, ↓C.catnaplaw8_ResetTicks_r32_w, C.catnaplaw8_ResetTicks_r32_b, ↓C.catnaplaw8_ResetTicks_r38_w, C.catnaplaw8_ResetTicks_r38_b, ↓C.catnaplaw8_ResetTicks_c4_w, ↓C.catnaplaw8_ResetTicks_r37_w, C.catnaplaw8_ResetTicks_r37_b, ↓C.catnaplaw8_ResetTicks_c5_w, ↓C.catnaplaw8_ResetTicks_c6_w, ↓C.catnaplaw8_ResetTicks_r36_w, C.catnaplaw8_ResetTicks_r36_b, ↓C.catnaplaw8_ResetTicks_c7_w, ↓C.catnaplaw8_ResetTicks_r35_w, C.catnaplaw8_ResetTicks_r35_b, ↓C.catnaplaw8_ResetTicks_r28_w, C.catnaplaw8_ResetTicks_r28_b, ↓C.catnaplaw8_ResetTicks_c8_w, ↓C.catnaplaw8_ResetTicks_r29_w, C.catnaplaw8_ResetTicks_r29_b, ↓C.catnaplaw8_ResetTicks_b11_w, ↓C.catnaplaw8_ResetTicks_c12_w, ↓C.catnaplaw8_ResetTicks_c13_w, ↓C.catnaplaw8_ResetTicks_r27_w, C.catnaplaw8_ResetTicks_r27_b, ↓C.catnaplaw8_ResetTicks_b15_w, ↓C.catnaplaw8_ResetTicks_c16_w, ↓C.catnaplaw8_ResetTicks_r26_w, C.catnaplaw8_ResetTicks_r26_b, ↓C.catnaplaw8_ResetTicks_c17_w, ↓C.catnaplaw8_ResetTicks_r22_w, C.catnaplaw8_ResetTicks_r22_b, ↓C.catnaplaw8_ResetTicks_c18_w, ↓C.catnaplaw8_ResetTicks_r25_w, C.catnaplaw8_ResetTicks_r25_b, ↓C.catnaplaw8_ResetTicks_c19_w, ↓C.catnaplaw8_ResetTicks_r24_w, C.catnaplaw8_ResetTicks_r24_b, ↓C.catnaplaw8_ResetTicks_c20_w, ↓C.catnaplaw8_ResetTicks_c21_w, ↓C.catnaplaw8_ResetTicks_r23_w, C.catnaplaw8_ResetTicks_r23_b, ↓C.catnaplaw8_ResetTicks_b22_w, ↓C.catnaplaw8_ResetTicks_c23_w, ↓C.catnaplaw8_ResetTicks_c24_w, ↓C.catnaplaw8_ResetTicks_r21_w, C.catnaplaw8_ResetTicks_r21_b, ↓C.catnaplaw8_ResetTicks_b26_w, ↓C.catnaplaw8_ResetTicks_c27_w, ↓C.catnaplaw8_ResetTicks_r20_w, C.catnaplaw8_ResetTicks_r20_b, ↓C.catnaplaw8_ResetTicks_c28_w, ↓C.catnaplaw8_ResetTicks_r19_w, C.catnaplaw8_ResetTicks_r19_b, ↓C.catnaplaw8_ResetTicks_c29_w, ↓C.catnaplaw8_ResetTicks_r16_w, C.catnaplaw8_ResetTicks_r16_b, ↓C.catnaplaw8_ResetTicks_c30_w, ↓C.catnaplaw8_ResetTicks_r18_w, C.catnaplaw8_ResetTicks_r18_b, ↓C.catnaplaw8_ResetTicks_c31_w, ↓C.catnaplaw8_ResetTicks_r17_w, C.catnaplaw8_ResetTicks_r17_b, ↓C.catnaplaw8_ResetTicks_b32_w, ↓C.catnaplaw8_ResetTicks_c33_w, ↓C.catnaplaw8_ResetTicks_c34_w, ↓C.catnaplaw8_ResetTicks_r15_w, C.catnaplaw8_ResetTicks_r15_b, ↓C.catnaplaw8_ResetTicks_b36_w, ↓C.catnaplaw8_ResetTicks_c37_w, ↓C.catnaplaw8_ResetTicks_r14_w, C.catnaplaw8_ResetTicks_r14_b, ↓C.catnaplaw8_ResetTicks_c38_w, ↓C.catnaplaw8_ResetTicks_r13_w, C.catnaplaw8_ResetTicks_r13_b, ↓C.catnaplaw8_ResetTicks_c39_w, ↓C.catnaplaw8_ResetTicks_r12_w, C.catnaplaw8_ResetTicks_r12_b, ↓C.catnaplaw8_ResetTicks_c40_w, ↓C.catnaplaw8_ResetTicks_c41_w, ↓C.catnaplaw8_ResetTicks_c42_w, ↓C.catnaplaw8_ResetTicks_r34_w, C.catnaplaw8_ResetTicks_r34_b, ↓C.catnaplaw8_ResetTicks_c43_w, ↓C.catnaplaw8_ResetTicks_c44_w, ↓C.catnaplaw8_ResetTicks_c45_w, ↓C.catnaplaw8_ResetTicks_r31_w, C.catnaplaw8_ResetTicks_r31_b, ↓C.catnaplaw8_ResetTicks_b46_w, ↓C.catnaplaw8_ResetTicks_c47_w, ↓C.catnaplaw8_ResetTicks_r11_w, C.catnaplaw8_ResetTicks_r11_b, ↓C.catnaplaw8_ResetTicks_c48_w, ↓C.catnaplaw8_ResetTicks_r10_w, C.catnaplaw8_ResetTicks_r10_b, ↓C.catnaplaw8_ResetTicks_b49_w, ↓C.catnaplaw8_ResetTicks_c50_w, ↓C.catnaplaw8_ResetTicks_c51_w, ↓C.catnaplaw8_ResetTicks_r8_w, C.catnaplaw8_ResetTicks_r8_b, ↓C.catnaplaw8_ResetTicks_b53_w, ↓C.catnaplaw8_ResetTicks_c54_w, ↓C.catnaplaw8_ResetTicks_r7_w, C.catnaplaw8_ResetTicks_r7_b, ↓C.catnaplaw8_ResetTicks_c55_w, ↓C.catnaplaw8_ResetTicks_r6_w, C.catnaplaw8_ResetTicks_r6_b, ↓C.catnaplaw8_ResetTicks_c56_w, ↓C.catnaplaw8_ResetTicks_r5_w, C.catnaplaw8_ResetTicks_r5_b, ↓C.catnaplaw8_ResetTicks_c57_w, ↓C.catnaplaw8_ResetTicks_c58_w, ↓C.catnaplaw8_ResetTicks_r4_w, C.catnaplaw8_ResetTicks_r4_b, ↓C.catnaplaw8_ResetTicks_c59_w, ↓C.catnaplaw8_ResetTicks_r3_w, C.catnaplaw8_ResetTicks_r3_b, ↓C.catnaplaw8_ResetTicks_c60_w, ↓C.catnaplaw8_ResetTicks_r2_w, C.catnaplaw8_ResetTicks_r2_b, ↓C.catnaplaw8_ResetTicks_c61_w, ↓C.catnaplaw8_ResetTicks_r1_w, C.catnaplaw8_ResetTicks_r1_b, ↓C.catnaplaw8_ResetTicks_c62_w, ↓C.catnaplaw8_ResetTicks_r0_w, C.catnaplaw8_ResetTicks_r0_b, C.catnaplaw8_ResetTicks, hh, e2, hz2, Int.toNat_natCast, Nat.mul_one]
    refine ⟨by rw [hl]; exact e1, ?_⟩
    refine (held_spec h.r.ln t).mono ?_
    rintro r s ⟨rfl, rfl⟩
    rw [lnOf_at htt, hd2, decide_eq_true (isLn_at htt)]
    simp only [↓Bp, Bq, Bs, ↓aop.eq_28, ↓aop.eq_30, Nat.reduceEqDiff, Nat.reduceAdd, Nat.reduceMul, Nat.reduceSub, Nat.reduceLeDiff, Nat.reduceLT, Int.reduceLT, Int.reduceLE, Int.reduceEq, Int.reduceToNat, Int.reduceAdd, Int.reduceSub, Int.reduceNeg, ↓reduceIte, reduceCtorEq, ↓C.catnaplaw8_ResetTicks_W, C.catnaplaw8_ResetTicks_B, C.catnaplaw8_ResetTicks, hw]
    exact ⟨t + 1, rfl, htl, by omega⟩
  · rw [hd] at e2
    simp only [↓Bp, Bq, Bs, ↓aop.eq_28, ↓aop.eq_30, Nat.reduceEqDiff, Nat.reduceAdd, Nat.reduceMul, Nat.reduceSub, Nat.reduceLeDiff, Nat.reduceLT, Int.reduceLT, Int.reduceLE, Int.reduceEq, Int.reduceToNat, Int.reduceAdd, Int.reduceSub, Int.reduceNeg, ↓reduceIte, reduceCtorEq, ↓C.catnaplaw8_ResetTicks_W, C.catnaplaw8_ResetTicks_B, C.catnaplaw8_ResetTicks, hh, e2, hz2, Int.toNat_natCast, Nat.mul_one, hw]
    refine ⟨by rw [hl]; exact e1, t + 1, rfl, htl, by omega⟩
theorem tarm2 {s : ASt} {ls0 : List Ln} {A : List Bool} (hl0 : ls0.length = R.length) (h0 : TInv ls0 A)
    {Q : IExit → AFr → ASt → Prop} (h : TSt st s ib ia p m R (tickL ls0) A) (hh : s.h ih = some (.cells (bools (ls0.map Ln.held)))) (hl : s.h il = some (.cells (ints (ls0.map lf)))) (n1 : ih ≠ ia) (n2 : il ≠ ia)
    (hQ : ∀ fr s' A', TSt st s' ib ia p m R (tickL ls0) A' → fr.keep [1, 6, 7, 9, 10] = [(1, va), (6, .ptr ib 0), (7, .ptr p 0), (9, .sl 1 ia 0 R.length), (10, .int .i64 i0)] → Q .normal fr s') :
    awp Try.prog C.catnaplaw8_ResetTicks_c28 Q [(1, va), (6, .ptr ib 0), (7, .ptr p 0), (9, .sl 1 ia 0 R.length), (10, .int .i64 i0), (13, .sl 1 ih 0 R.length), (14, .sl 1 il 0 R.length), (16, row (nats (toldL ls0)))] s := by
  obtain ⟨T, hT⟩ : ∃ T, T = toldL ls0 := ⟨_, rfl⟩
  have hTl : T.length ≤ 6 := by have := toldL_len ls0; rw [hT]; omega
  have hTn : (nats T).length = T.length := nats_length T
  rw [← hT, row, hTn]
  simp only [↓Bp, Bq, Bs, ↓aop.eq_28, ↓aop.eq_30, Nat.reduceEqDiff, Nat.reduceAdd, Nat.reduceMul, Nat.reduceSub, Nat.reduceLeDiff, Nat.reduceLT, Int.reduceLT, Int.reduceLE, Int.reduceEq, Int.reduceToNat, Int.reduceAdd, Int.reduceSub, Int.reduceNeg, ↓reduceIte, reduceCtorEq, ↓C.catnaplaw8_ResetTicks_W, C.catnaplaw8_ResetTicks_B, C.catnaplaw8_ResetTicks]
  refine awp_midB (fun _ : Unit => [(1, va), (6, .ptr ib 0), (7, .ptr p 0), (9, .sl 1 ia 0 R.length), (10, .int .i64 i0), (13, .sl 1 ih 0 R.length), (14, .sl 1 il 0 R.length)]) (fun _ s' => ∃ A', TSt st s' ib ia p m R (tickL ls0) A' ∧ s'.h ih = some (.cells (bools (ls0.map Ln.held))) ∧ s'.h il = some (.cells (ints (ls0.map lf)))) ?_ ?_
  rotate_left
  · rintro - s' ⟨A', h1, h2, h3⟩
    exact tarm3 hR hl0 rfl (fun x hx => by have := h0.low x hx; omega) h1 h2 h3 fun fr e => hQ fr s' A' h1 e
  refine awp_loopK (fun t : Nat => [(1, va), (6, .ptr ib 0), (7, .ptr p 0), (9, .sl 1 ia 0 R.length), (10, .int .i64 i0), (13, .sl 1 ih 0 R.length), (14, .sl 1 il 0 R.length), (16, .isl 1 (ints (nats T)) T.length), (17, .int .i64 t)])
    (fun t s' => t ≤ T.length ∧ ∃ A', TSt st s' ib ia p m R (tickL ls0) A' ∧ s'.h ih = some (.cells (bools (ls0.map Ln.held))) ∧ s'.h il = some (.cells (ints (ls0.map lf))) ∧ ∀ q (hq : q < T.length), t ≤ q → A'[T[q]]? = some true) (fun t => T.length - t) 0 rfl
    ⟨Nat.zero_le _, A, h, hh, hl, fun q hq _ => ?_⟩ ?_
  · subst hT
    have h1 := toldL_lt hq
    have h2 : (toldL ls0)[q] < A.length := by rw [h0.len]; exact h1
    have h3 := goes_says (toldL_goes hq) (h0.low _ (List.getElem_mem h1)).1
    rw [List.getElem?_eq_getElem h2, h0.want _ h1 h2 h3.2.2.1]
  clear h hh hl s
  rintro t s ⟨ht, A', h, hh, hl, hA⟩
  by_cases htl : t < T.length
  rotate_left
  · have htl' : ¬ (t : Int) < (T.length : Nat) := by omega
    simp only [↓Bp, Bq, Bs, ↓aop.eq_28, ↓aop.eq_30, Nat.reduceEqDiff, Nat.reduceAdd, Nat.reduceMul, Nat.reduceSub, Nat.reduceLeDiff, Nat.reduceLT, Int.reduceLT, Int.reduceLE, Int.reduceEq, Int.reduceToNat, Int.reduceAdd, Int.reduceSub, Int.reduceNeg, ↓reduceIte, reduceCtorEq, ↓C.catnaplaw8_ResetTicks_W, C.catnaplaw8_ResetTicks_B, C.catnaplaw8_ResetTicks, htl']
    exact ⟨(), A', h, hh, hl⟩
  have htl' : (t : Int) < (T.length : Nat) := by omega
  have hw := wsucc htl (by omega)
  have hz2 : (0:Int) ≤ (t : Int) ∧ (t : Int) < (T.length : Nat) := by omega
  have hg : (ints (nats T))[t]? = some (.int .i64 (T[t] : Nat)) := by
    rw [ints_get (by rw [hTn]; exact htl)]; simp [nats]
  obtain ⟨k, hk⟩ : ∃ k, k = T[t] := ⟨_, rfl⟩
  have hkl : k < ls0.length := by subst hT; rw [hk]; exact toldL_lt htl
  have hgo : goes ls0[k] = true := by subst hT; subst hk; exact toldL_goes htl
  have hsay := goes_says hgo (h0.low _ (List.getElem_mem hkl)).1
  have hAk := hA t htl (Nat.le_refl _)
  rw [← hk] at hg hAk
  have hkR : k < R.length := by omega
  have hzk : (0:Int) ≤ (k : Int) ∧ (k : Int) < (R.length : Nat) := by omega
  have e1 : (ints (ls0.map lf))[k]? = some (.int .i64 0) := by
    rw [ints_get (by simpa using hkl)]; simp [lf, hsay.2.1]
  have e2 : (bools (ls0.map Ln.held))[k]? = some (.bool true) := by
    rw [bools_get (by simpa using hkl)]; simp [hsay.1]
  have hAl : A'.length = R.length := by rw [h.inv.len, tickL_len]; omega
  have e3 : (bools A')[k]? = some (.bool true) := by
    have hk2 : k < A'.length := by omega
    rw [List.getElem?_eq_getElem hk2] at hAk
    rw [bools_get hk2]; injection hAk with e; rw [e]
  have htk : k < (tickL ls0).length := by rw [tickL_len]; exact hkl
  have he : (tickL ls0)[k] = Cn.tick1 ls0[k] := by simp [tickL]
  have hup : ∀ (h1 : 0 < t), T[t - 1]'(by omega) < k := fun h1 => by
    subst hT
    have := toldL_up (i := t - 1) (j := t) (by omega) htl
    omega
  have ha := h.ha
  simp only [↓Bp, Bq, Bs, ↓aop.eq_28, ↓aop.eq_30, Nat.reduceEqDiff, Nat.reduceAdd, Nat.reduceMul, Nat.reduceSub, Nat.reduceLeDiff, Nat.reduceLT, Int.reduceLT, Int.reduceLE, Int.reduceEq, Int.reduceToNat, Int.reduceAdd, Int.reduceSub, Int.reduceNeg, ↓reduceIte, reduceCtorEq, ↓C.catnaplaw8_ResetTicks_r39_w, C.catnaplaw8_ResetTicks_r39_b, ↓C.catnaplaw8_ResetTicks_c1_w, ↓C.catnaplaw8_ResetTicks_r9_w, C.catnaplaw8_ResetTicks_r9_b, ↓C.catnaplaw8_ResetTicks_c2_w, ↓C.catnaplaw8_ResetTicks_r33_w, C.catnaplaw8_ResetTicks_r33_b, ↓C.catnaplaw8_ResetTicks_c3_w, ↓C.catnaplaw8_ResetTicks_r32_w, C.catnaplaw8_ResetTicks_r32_b, ↓C.catnaplaw8_ResetTicks_r38_w, C.catnaplaw8_ResetTicks_r38_b, ↓C.catnaplaw8_ResetTicks_c4_w, ↓C.catnaplaw8_ResetTicks_r37_w, C.catnaplaw8_ResetTicks_r37_b, ↓C.catnaplaw8_ResetTicks_c5_w, ↓C.catnaplaw8_ResetTicks_c6_w, ↓C.catnaplaw8_ResetTicks_r36_w, C.catnaplaw8_ResetTicks_r36_b, ↓C.catnaplaw8_ResetTicks_c7_w, ↓C.catnaplaw8_ResetTicks_r35_w, C.catnaplaw8_ResetTicks_r35_b, ↓C.catnaplaw8_ResetTicks_r28_w, C.catnaplaw8_ResetTicks_r28_b, ↓C.catnaplaw8_ResetTicks_c8_w, ↓C.catnaplaw8_ResetTicks_r30_w, C.catnaplaw8_ResetTicks_r30_b, ↓C.catnaplaw8_ResetTicks_c9_w, ↓C.catnaplaw8_ResetTicks_c10_w, ↓C.catnaplaw8_ResetTicks_r29_w, C.catnaplaw8_ResetTicks_r29_b, ↓C.catnaplaw8_ResetTicks_b11_w, ↓C.catnaplaw8_ResetTicks_c12_w, ↓C.catnaplaw8_ResetTicks_c13_w, ↓C.catnaplaw8_ResetTicks_r27_w, C.catnaplaw8_ResetTicks_r27_b, ↓C.catnaplaw8_ResetTicks_b15_w, ↓C.catnaplaw8_ResetTicks_c16_w, ↓C.catnaplaw8_ResetTicks_r26_w, C.catnaplaw8_ResetTicks_r26_b, ↓C.catnaplaw8_ResetTicks_c17_w, ↓C.catnaplaw8_ResetTicks_r22_w, C.catnaplaw8_ResetTicks_r22_b, ↓C.catnaplaw8_ResetTicks_c18_w, ↓C.catnaplaw8_ResetTicks_r25_w, C.catnaplaw8_ResetTicks_r25_b, ↓C.catnaplaw8_ResetTicks_c19_w, ↓C.catnaplaw8_ResetTicks_r23_w, C.catnaplaw8_ResetTicks_r23_b, ↓C.catnaplaw8_ResetTicks_b22_w, ↓C.catnaplaw8_ResetTicks_c23_w, ↓C.catnaplaw8_ResetTicks_c24_w, ↓C.catnaplaw8_ResetTicks_r21_w, C.catnaplaw8_ResetTicks_r21_b, ↓C.catnaplaw8_ResetTicks_b26_w, ↓C.catnaplaw8_ResetTicks_c27_w, ↓C.catnaplaw8_ResetTicks_r20_w, C.catnaplaw8_ResetTicks_r20_b, ↓C.catnaplaw8_ResetTicks_c28_w, ↓C.catnaplaw8_ResetTicks_r19_w, C.catnaplaw8_ResetTicks_r19_b, ↓C.catnaplaw8_ResetTicks_c29_w, ↓C.catnaplaw8_ResetTicks_r16_w, C.catnaplaw8_ResetTicks_r16_b, ↓C.catnaplaw8_ResetTicks_c30_w, ↓C.catnaplaw8_ResetTicks_r18_w, C.catnaplaw8_ResetTicks_r18_b, ↓C.catnaplaw8_ResetTicks_c31_w, ↓C.catnaplaw8_ResetTicks_r17_w, C.catnaplaw8_ResetTicks_r17_b, ↓C.catnaplaw8_ResetTicks_b32_w, ↓C.catnaplaw8_ResetTicks_c33_w, ↓C.catnaplaw8_ResetTicks_c34_w, ↓C.catnaplaw8_ResetTicks_r15_w, C.catnaplaw8_ResetTicks_r15_b, ↓C.catnaplaw8_ResetTicks_b36_w, ↓C.catnaplaw8_ResetTicks_c37_w, ↓C.catnaplaw8_ResetTicks_r14_w, C.catnaplaw8_ResetTicks_r14_b, ↓C.catnaplaw8_ResetTicks_c38_w, ↓C.catnaplaw8_ResetTicks_r13_w, C.catnaplaw8_ResetTicks_r13_b, ↓C.catnaplaw8_ResetTicks_c39_w, ↓C.catnaplaw8_ResetTicks_r12_w, C.catnaplaw8_ResetTicks_r12_b, ↓C.catnaplaw8_ResetTicks_c40_w, ↓C.catnaplaw8_ResetTicks_c41_w, ↓C.catnaplaw8_ResetTicks_c42_w, ↓C.catnaplaw8_ResetTicks_r34_w, C.catnaplaw8_ResetTicks_r34_b, ↓C.catnaplaw8_ResetTicks_c43_w, ↓C.catnaplaw8_ResetTicks_c44_w, ↓C.catnaplaw8_ResetTicks_c45_w, ↓C.catnaplaw8_ResetTicks_r31_w, C.catnaplaw8_ResetTicks_r31_b, ↓C.catnaplaw8_ResetTicks_b46_w, ↓C.catnaplaw8_ResetTicks_c47_w, ↓C.catnaplaw8_ResetTicks_r11_w, C.catnaplaw8_ResetTicks_r11_b, ↓C.catnaplaw8_ResetTicks_c48_w, ↓C.catnaplaw8_ResetTicks_r10_w, C.catnaplaw8_ResetTicks_r10_b, ↓C.catnaplaw8_ResetTicks_b49_w, ↓C.catnaplaw8_ResetTicks_c50_w, ↓C.catnaplaw8_ResetTicks_c51_w, ↓C.catnaplaw8_ResetTicks_r8_w, C.catnaplaw8_ResetTicks_r8_b, ↓C.catnaplaw8_ResetTicks_b53_w, ↓C.catnaplaw8_ResetTicks_c54_w, ↓C.catnaplaw8_ResetTicks_r7_w, C.catnaplaw8_ResetTicks_r7_b, ↓C.catnaplaw8_ResetTicks_c55_w, ↓C.catnaplaw8_ResetTicks_r6_w, C.catnaplaw8_ResetTicks_r6_b, ↓C.catnaplaw8_ResetTicks_c56_w, ↓C.catnaplaw8_ResetTicks_r5_w, C.catnaplaw8_ResetTicks_r5_b, ↓C.catnaplaw8_ResetTicks_c57_w, ↓C.catnaplaw8_ResetTicks_c58_w, ↓C.catnaplaw8_ResetTicks_r4_w, C.catnaplaw8_ResetTicks_r4_b, ↓C.catnaplaw8_ResetTicks_c59_w, ↓C.catnaplaw8_ResetTicks_r3_w, C.catnaplaw8_ResetTicks_r3_b, ↓C.catnaplaw8_ResetTicks_c60_w, ↓C.catnaplaw8_ResetTicks_r2_w, C.catnaplaw8_ResetTicks_r2_b, ↓C.catnaplaw8_ResetTicks_c61_w, ↓C.catnaplaw8_ResetTicks_r1_w, C.catnaplaw8_ResetTicks_r1_b, ↓C.catnaplaw8_ResetTicks_c62_w, ↓C.catnaplaw8_ResetTicks_r0_w, C.catnaplaw8_ResetTicks_r0_b, C.catnaplaw8_ResetTicks, htl', hz2, hg, hzk, Int.toNat_natCast, Nat.mul_one, hh, hl, ha, e1, e2, e3]
  refine (held_spec h.r.ln k).mono ?_
  rintro r s ⟨rfl, rfl⟩
  rw [lnOf_at htk, he, hsay.2.2.2.1, decide_eq_true (isLn_at htk), show (!true || false) = false from rfl]
  have hb : k < (bools A').length := by rw [bools_length]; omega
  have hba := h.bne
  have hpa := h.pne
  have fin : ∃ A2, TSt st (s.set ia (.cells ((bools A').set k (.bool false)))) ib ia p m R (tickL ls0) A2 ∧ (s.set ia (.cells ((bools A').set k (.bool false)))).h ih = some (.cells (bools (ls0.map Ln.held))) ∧ (s.set ia (.cells ((bools A').set k (.bool false)))).h il = some (.cells (ints (ls0.map lf))) ∧ ∀ q (hq : q < T.length), t + 1 ≤ q → A2[T[q]]? = some true := by
    refine ⟨A'.set k false, ⟨⟨fun j o hj => ?_, ?_, ⟨?_, ?_⟩, h.r.fm, h.r.ne⟩, ?_, h.fa, h.inv.off htk (by rw [he]; exact hsay.2.2.2.2), h.len⟩, ?_, ?_, fun q hq htq => ?_⟩
    · rw [ASt.set_h, if_neg (by rintro rfl; rw [h.fa] at hj; cases hj)]; exact h.r.le _ _ hj
    · rw [ASt.set_h, if_neg hba]; exact h.r.hb
    · rw [ASt.set_h, if_neg hpa]; exact h.r.ln.hp
    · rw [ASt.set_h, if_neg (Ne.symm h.nm)]; exact h.r.ln.hm
    · rw [ASt.set_h, if_pos rfl, ha, bools_set]; rfl
    · rw [ASt.set_h, if_neg n1]; exact hh
    · rw [ASt.set_h, if_neg n2]; exact hl
    · rw [List.getElem?_set, if_neg]
      · exact hA q hq (by omega)
      · subst hT
        have := toldL_up (i := t) (j := q) (by omega) hq
        omega
  by_cases ht0 : t = 0
  · have tT : ((0 : Int) < (t : Int)) = False := eq_false (by omega)
    simp only [↓Bp, Bq, Bs, ↓aop.eq_28, ↓aop.eq_30, Nat.reduceEqDiff, Nat.reduceAdd, Nat.reduceMul, Nat.reduceSub, Nat.reduceLeDiff, Nat.reduceLT, Int.reduceLT, Int.reduceLE, Int.reduceEq, Int.reduceToNat, Int.reduceAdd, Int.reduceSub, Int.reduceNeg, ↓reduceIte, reduceCtorEq, ↓C.catnaplaw8_ResetTicks_W, C.catnaplaw8_ResetTicks_B, C.catnaplaw8_ResetTicks, tT, hz2, hg, hzk, Int.toNat_natCast, Nat.mul_one, ha, hb, hw]
    obtain ⟨A2, f1, f2, f3, f4⟩ := fin
    exact ⟨t + 1, rfl, ⟨htl, A2, f1, by rw [if_neg n1]; exact hh, by rw [if_neg n2]; exact hl, f4⟩, by omega⟩
  · have tT : ((0 : Int) < (t : Int)) = True := eq_true (by omega)
    have hz3 : (0:Int) ≤ ((t - 1 : Nat) : Int) ∧ ((t - 1 : Nat) : Int) < (T.length : Nat) := by omega
    have w1 : IntKind.i64.wrap ((t : Int) - 1) = ((t - 1 : Nat) : Int) := by rw [wrap64] <;> omega
    have hg3 : (ints (nats T))[t - 1]? = some (.int .i64 (T[t - 1]'(by omega) : Nat)) := by
      rw [ints_get (by rw [hTn]; omega)]; simp [nats]
    have hlt : ((k : Int) ≤ ((T[t - 1]'(by omega) : Nat) : Int)) = False := eq_false (by have := hup (by omega); omega)
    simp only [↓Bp, Bq, Bs, ↓aop.eq_28, ↓aop.eq_30, Nat.reduceEqDiff, Nat.reduceAdd, Nat.reduceMul, Nat.reduceSub, Nat.reduceLeDiff, Nat.reduceLT, Int.reduceLT, Int.reduceLE, Int.reduceEq, Int.reduceToNat, Int.reduceAdd, Int.reduceSub, Int.reduceNeg, ↓reduceIte, reduceCtorEq, ↓C.catnaplaw8_ResetTicks_W, C.catnaplaw8_ResetTicks_B, C.catnaplaw8_ResetTicks, tT, hz2, hz3, hg, hg3, w1, hzk, Int.toNat_natCast, Nat.mul_one, ha, hb, hw, hlt]
    obtain ⟨A2, f1, f2, f3, f4⟩ := fin
    exact ⟨t + 1, rfl, ⟨htl, A2, f1, by rw [if_neg n1]; exact hh, by rw [if_neg n2]; exact hl, f4⟩, by omega⟩
theorem tarm1 {s s1 : ASt} {ls : List Ln} {A : List Bool} {Q : IExit → AFr → ASt → Prop} (h : TSt st s ib ia p m R ls A) (hK : KSt s s1 ih il (List.replicate R.length false) (List.replicate R.length 0))
    (hQ : ∀ fr s' A', TSt st s' ib ia p m R (tickL ls) A' → fr.keep [1, 6, 7, 9, 10] = [(1, va), (6, .ptr ib 0), (7, .ptr p 0), (9, .sl 1 ia 0 R.length), (10, .int .i64 i0)] → Q .normal fr s') :
    awp Try.prog C.catnaplaw8_ResetTicks_c38 Q [(1, va), (6, .ptr ib 0), (7, .ptr p 0), (9, .sl 1 ia 0 R.length), (10, .int .i64 i0), (13, .sl 1 ih 0 R.length), (14, .sl 1 il 0 R.length)] s1 := by
  have hlen := h.len
  have n1 : ih ≠ ia := by
    rintro rfl
    have := hK.fh
    rw [h.ha] at this; cases this
  have n2 : il ≠ ia := by
    rintro rfl
    have := hK.fl
    rw [h.ha] at this; cases this
  have n3 : ih ≠ m := by
    rintro rfl
    have := hK.fh
    rw [h.r.ln.hm] at this; cases this
  have n4 : il ≠ m := by
    rintro rfl
    have := hK.fl
    rw [h.r.ln.hm] at this; cases this
  simp only [↓Bp, Bq, Bs, ↓aop.eq_28, ↓aop.eq_30, Nat.reduceEqDiff, Nat.reduceAdd, Nat.reduceMul, Nat.reduceSub, Nat.reduceLeDiff, Nat.reduceLT, Int.reduceLT, Int.reduceLE, Int.reduceEq, Int.reduceToNat, Int.reduceAdd, Int.reduceSub, Int.reduceNeg, ↓reduceIte, reduceCtorEq, ↓C.catnaplaw8_ResetTicks_W, C.catnaplaw8_ResetTicks_B, C.catnaplaw8_ResetTicks]
  refine awp_midB (fun _ : Unit => [(1, va), (6, .ptr ib 0), (7, .ptr p 0), (9, .sl 1 ia 0 R.length), (10, .int .i64 i0), (13, .sl 1 ih 0 R.length), (14, .sl 1 il 0 R.length)]) (fun _ s' => KSt s s' ih il (ls.map Ln.held) (ls.map lf)) ?_ ?_
  rotate_left
  · rintro - s' hK'
    have h' := h.step hK'.le
    simp only [↓Bp, Bq, Bs, ↓aop.eq_28, ↓aop.eq_30, Nat.reduceEqDiff, Nat.reduceAdd, Nat.reduceMul, Nat.reduceSub, Nat.reduceLeDiff, Nat.reduceLT, Int.reduceLT, Int.reduceLE, Int.reduceEq, Int.reduceToNat, Int.reduceAdd, Int.reduceSub, Int.reduceNeg, ↓reduceIte, reduceCtorEq, ↓C.catnaplaw8_ResetTicks_W, C.catnaplaw8_ResetTicks_B, C.catnaplaw8_ResetTicks]
    refine (tick_spec h'.r.ln h'.inv.left (by omega)).mono ?_
    rintro r s2 ⟨rfl, rfl⟩
    simp only [↓Bp, Bq, Bs, ↓aop.eq_28, ↓aop.eq_30, Nat.reduceEqDiff, Nat.reduceAdd, Nat.reduceMul, Nat.reduceSub, Nat.reduceLeDiff, Nat.reduceLT, Int.reduceLT, Int.reduceLE, Int.reduceEq, Int.reduceToNat, Int.reduceAdd, Int.reduceSub, Int.reduceNeg, ↓reduceIte, reduceCtorEq, ↓C.catnaplaw8_ResetTicks_r39_w, C.catnaplaw8_ResetTicks_r39_b, ↓C.catnaplaw8_ResetTicks_c1_w, ↓C.catnaplaw8_ResetTicks_r9_w, C.catnaplaw8_ResetTicks_r9_b, ↓C.catnaplaw8_ResetTicks_c2_w, ↓C.catnaplaw8_ResetTicks_r33_w, C.catnaplaw8_ResetTicks_r33_b, ↓C.catnaplaw8_ResetTicks_c3_w, ↓C.catnaplaw8_ResetTicks_r32_w, C.catnaplaw8_ResetTicks_r32_b, ↓C.catnaplaw8_ResetTicks_r38_w, C.catnaplaw8_ResetTicks_r38_b, ↓C.catnaplaw8_ResetTicks_c4_w, ↓C.catnaplaw8_ResetTicks_r37_w, C.catnaplaw8_ResetTicks_r37_b, ↓C.catnaplaw8_ResetTicks_c5_w, ↓C.catnaplaw8_ResetTicks_c6_w, ↓C.catnaplaw8_ResetTicks_r36_w, C.catnaplaw8_ResetTicks_r36_b, ↓C.catnaplaw8_ResetTicks_c7_w, ↓C.catnaplaw8_ResetTicks_r35_w, C.catnaplaw8_ResetTicks_r35_b, ↓C.catnaplaw8_ResetTicks_r19_w, C.catnaplaw8_ResetTicks_r19_b, ↓C.catnaplaw8_ResetTicks_c29_w, ↓C.catnaplaw8_ResetTicks_r16_w, C.catnaplaw8_ResetTicks_r16_b, ↓C.catnaplaw8_ResetTicks_c30_w, ↓C.catnaplaw8_ResetTicks_r18_w, C.catnaplaw8_ResetTicks_r18_b, ↓C.catnaplaw8_ResetTicks_c31_w, ↓C.catnaplaw8_ResetTicks_r17_w, C.catnaplaw8_ResetTicks_r17_b, ↓C.catnaplaw8_ResetTicks_b32_w, ↓C.catnaplaw8_ResetTicks_c33_w, ↓C.catnaplaw8_ResetTicks_c34_w, ↓C.catnaplaw8_ResetTicks_r15_w, C.catnaplaw8_ResetTicks_r15_b, ↓C.catnaplaw8_ResetTicks_b36_w, ↓C.catnaplaw8_ResetTicks_c37_w, ↓C.catnaplaw8_ResetTicks_r14_w, C.catnaplaw8_ResetTicks_r14_b, ↓C.catnaplaw8_ResetTicks_c38_w, ↓C.catnaplaw8_ResetTicks_r13_w, C.catnaplaw8_ResetTicks_r13_b, ↓C.catnaplaw8_ResetTicks_c39_w, ↓C.catnaplaw8_ResetTicks_r12_w, C.catnaplaw8_ResetTicks_r12_b, ↓C.catnaplaw8_ResetTicks_c40_w, ↓C.catnaplaw8_ResetTicks_c41_w, ↓C.catnaplaw8_ResetTicks_c42_w, ↓C.catnaplaw8_ResetTicks_r34_w, C.catnaplaw8_ResetTicks_r34_b, ↓C.catnaplaw8_ResetTicks_c43_w, ↓C.catnaplaw8_ResetTicks_c44_w, ↓C.catnaplaw8_ResetTicks_c45_w, ↓C.catnaplaw8_ResetTicks_r31_w, C.catnaplaw8_ResetTicks_r31_b, ↓C.catnaplaw8_ResetTicks_b46_w, ↓C.catnaplaw8_ResetTicks_c47_w, ↓C.catnaplaw8_ResetTicks_r11_w, C.catnaplaw8_ResetTicks_r11_b, ↓C.catnaplaw8_ResetTicks_c48_w, ↓C.catnaplaw8_ResetTicks_r10_w, C.catnaplaw8_ResetTicks_r10_b, ↓C.catnaplaw8_ResetTicks_b49_w, ↓C.catnaplaw8_ResetTicks_c50_w, ↓C.catnaplaw8_ResetTicks_c51_w, ↓C.catnaplaw8_ResetTicks_r8_w, C.catnaplaw8_ResetTicks_r8_b, ↓C.catnaplaw8_ResetTicks_b53_w, ↓C.catnaplaw8_ResetTicks_c54_w, ↓C.catnaplaw8_ResetTicks_r7_w, C.catnaplaw8_ResetTicks_r7_b, ↓C.catnaplaw8_ResetTicks_c55_w, ↓C.catnaplaw8_ResetTicks_r6_w, C.catnaplaw8_ResetTicks_r6_b, ↓C.catnaplaw8_ResetTicks_c56_w, ↓C.catnaplaw8_ResetTicks_r5_w, C.catnaplaw8_ResetTicks_r5_b, ↓C.catnaplaw8_ResetTicks_c57_w, ↓C.catnaplaw8_ResetTicks_c58_w, ↓C.catnaplaw8_ResetTicks_r4_w, C.catnaplaw8_ResetTicks_r4_b, ↓C.catnaplaw8_ResetTicks_c59_w, ↓C.catnaplaw8_ResetTicks_r3_w, C.catnaplaw8_ResetTicks_r3_b, ↓C.catnaplaw8_ResetTicks_c60_w, ↓C.catnaplaw8_ResetTicks_r2_w, C.catnaplaw8_ResetTicks_r2_b, ↓C.catnaplaw8_ResetTicks_c61_w, ↓C.catnaplaw8_ResetTicks_r1_w, C.catnaplaw8_ResetTicks_r1_b, ↓C.catnaplaw8_ResetTicks_c62_w, ↓C.catnaplaw8_ResetTicks_r0_w, C.catnaplaw8_ResetTicks_r0_b, C.catnaplaw8_ResetTicks]
    rw [C.catnaplaw8_ResetTicks_c28_w, awp_keep]
    exact tarm2 hR hlen h.inv (h'.lines _ h.inv.tick (tickL_len ls)) (by rw [ASt.set_h, if_neg n3]; exact hK'.hh) (by rw [ASt.set_h, if_neg n4]; exact hK'.hl) n1 n2 hQ
  refine awp_loopK (fun t : Nat => [(1, va), (6, .ptr ib 0), (7, .ptr p 0), (9, .sl 1 ia 0 R.length), (10, .int .i64 i0), (13, .sl 1 ih 0 R.length), (14, .sl 1 il 0 R.length), (15, .int .i64 t)])
    (fun t s' => t ≤ R.length ∧ KSt s s' ih il (upto Ln.held false ls t) (upto lf 0 ls t)) (fun t => R.length - t) 0 rfl
    ⟨Nat.zero_le _, by rw [upto_zero, upto_zero, hlen]; exact hK⟩ ?_
  clear hK s1
  rintro t s1 ⟨ht, hK⟩
  have h1 := h.step hK.le
  have hb := h1.r.hb
  by_cases htl : t < R.length
  rotate_left
  · have htl' : ¬ (t : Int) < (R.length : Nat) := by omega
    simp only [↓Bp, Bq, Bs, ↓aop.eq_28, ↓aop.eq_30, Nat.reduceEqDiff, Nat.reduceAdd, Nat.reduceMul, Nat.reduceSub, Nat.reduceLeDiff, Nat.reduceLT, Int.reduceLT, Int.reduceLE, Int.reduceEq, Int.reduceToNat, Int.reduceAdd, Int.reduceSub, Int.reduceNeg, ↓reduceIte, reduceCtorEq, ↓C.catnaplaw8_ResetTicks_W, C.catnaplaw8_ResetTicks_B, C.catnaplaw8_ResetTicks, htl', hb, rchip, Soc.cells, Soc.rstV]
    rw [show t = ls.length by omega, upto_all, upto_all] at hK
    exact ⟨(), hK⟩
  have htl' : (t : Int) < (R.length : Nat) := by omega
  have hw := wsucc htl (by omega)
  have htt : t < ls.length := by omega
  have hz2 : (0:Int) ≤ (t : Int) ∧ (t : Int) < (R.length : Nat) := by omega
  have hh := hK.hh
  have hb1 : t < (bools (upto Ln.held false ls t)).length := by rw [bools_length, upto_len]; exact htt
  simp only [↓Bp, Bq, Bs, ↓aop.eq_28, ↓aop.eq_30, Nat.reduceEqDiff, Nat.reduceAdd, Nat.reduceMul, Nat.reduceSub, Nat.reduceLeDiff, Nat.reduceLT, Int.reduceLT, Int.reduceLE, Int.reduceEq, Int.reduceToNat, Int.reduceAdd, Int.reduceSub, Int.reduceNeg, ↓reduceIte, reduceCtorEq, ↓C.catnaplaw8_ResetTicks_W, C.catnaplaw8_ResetTicks_B, C.catnaplaw8_ResetTicks, htl', hb, rchip, Soc.cells, Soc.rstV]
  refine (held_spec h1.r.ln t).mono ?_
  rintro r s1 ⟨rfl, rfl⟩
  rw [lnOf_at htt, decide_eq_true (isLn_at htt), show (!true || ls[t].held) = ls[t].held from rfl]
  simp only [↓Bp, Bq, Bs, ↓aop.eq_28, ↓aop.eq_30, Nat.reduceEqDiff, Nat.reduceAdd, Nat.reduceMul, Nat.reduceSub, Nat.reduceLeDiff, Nat.reduceLT, Int.reduceLT, Int.reduceLE, Int.reduceEq, Int.reduceToNat, Int.reduceAdd, Int.reduceSub, Int.reduceNeg, ↓reduceIte, reduceCtorEq, ↓C.catnaplaw8_ResetTicks_r39_w, C.catnaplaw8_ResetTicks_r39_b, ↓C.catnaplaw8_ResetTicks_c1_w, ↓C.catnaplaw8_ResetTicks_r9_w, C.catnaplaw8_ResetTicks_r9_b, ↓C.catnaplaw8_ResetTicks_c2_w, ↓C.catnaplaw8_ResetTicks_r33_w, C.catnaplaw8_ResetTicks_r33_b, ↓C.catnaplaw8_ResetTicks_c3_w, ↓C.catnaplaw8_ResetTicks_r32_w, C.catnaplaw8_ResetTicks_r32_b, ↓C.catnaplaw8_ResetTicks_r38_w, C.catnaplaw8_ResetTicks_r38_b, ↓C.catnaplaw8_ResetTicks_c4_w, ↓C.catnaplaw8_ResetTicks_r37_w, C.catnaplaw8_ResetTicks_r37_b, ↓C.catnaplaw8_ResetTicks_c5_w, ↓C.catnaplaw8_ResetTicks_c6_w, ↓C.catnaplaw8_ResetTicks_r36_w, C.catnaplaw8_ResetTicks_r36_b, ↓C.catnaplaw8_ResetTicks_c7_w, ↓C.catnaplaw8_ResetTicks_r35_w, C.catnaplaw8_ResetTicks_r35_b, ↓C.catnaplaw8_ResetTicks_r28_w, C.catnaplaw8_ResetTicks_r28_b, ↓C.catnaplaw8_ResetTicks_c8_w, ↓C.catnaplaw8_ResetTicks_r30_w, C.catnaplaw8_ResetTicks_r30_b, ↓C.catnaplaw8_ResetTicks_c9_w, ↓C.catnaplaw8_ResetTicks_c10_w, ↓C.catnaplaw8_ResetTicks_r29_w, C.catnaplaw8_ResetTicks_r29_b, ↓C.catnaplaw8_ResetTicks_b11_w, ↓C.catnaplaw8_ResetTicks_c12_w, ↓C.catnaplaw8_ResetTicks_c13_w, ↓C.catnaplaw8_ResetTicks_r27_w, C.catnaplaw8_ResetTicks_r27_b, ↓C.catnaplaw8_ResetTicks_b15_w, ↓C.catnaplaw8_ResetTicks_c16_w, ↓C.catnaplaw8_ResetTicks_r26_w, C.catnaplaw8_ResetTicks_r26_b, ↓C.catnaplaw8_ResetTicks_c17_w, ↓C.catnaplaw8_ResetTicks_r22_w, C.catnaplaw8_ResetTicks_r22_b, ↓C.catnaplaw8_ResetTicks_c18_w, ↓C.catnaplaw8_ResetTicks_r25_w, C.catnaplaw8_ResetTicks_r25_b, ↓C.catnaplaw8_ResetTicks_c19_w, ↓C.catnaplaw8_ResetTicks_r24_w, C.catnaplaw8_ResetTicks_r24_b, ↓C.catnaplaw8_ResetTicks_c20_w, ↓C.catnaplaw8_ResetTicks_c21_w, ↓C.catnaplaw8_ResetTicks_r23_w, C.catnaplaw8_ResetTicks_r23_b, ↓C.catnaplaw8_ResetTicks_b22_w, ↓C.catnaplaw8_ResetTicks_c23_w, ↓C.catnaplaw8_ResetTicks_c24_w, ↓C.catnaplaw8_ResetTicks_r21_w, C.catnaplaw8_ResetTicks_r21_b, ↓C.catnaplaw8_ResetTicks_b26_w, ↓C.catnaplaw8_ResetTicks_c27_w, ↓C.catnaplaw8_ResetTicks_r20_w, C.catnaplaw8_ResetTicks_r20_b, ↓C.catnaplaw8_ResetTicks_c28_w, ↓C.catnaplaw8_ResetTicks_r19_w, C.catnaplaw8_ResetTicks_r19_b, ↓C.catnaplaw8_ResetTicks_c29_w, ↓C.catnaplaw8_ResetTicks_r16_w, C.catnaplaw8_ResetTicks_r16_b, ↓C.catnaplaw8_ResetTicks_c30_w, ↓C.catnaplaw8_ResetTicks_r17_w, C.catnaplaw8_ResetTicks_r17_b, ↓C.catnaplaw8_ResetTicks_b32_w, ↓C.catnaplaw8_ResetTicks_c33_w, ↓C.catnaplaw8_ResetTicks_c34_w, ↓C.catnaplaw8_ResetTicks_r15_w, C.catnaplaw8_ResetTicks_r15_b, ↓C.catnaplaw8_ResetTicks_b36_w, ↓C.catnaplaw8_ResetTicks_c37_w, ↓C.catnaplaw8_ResetTicks_r14_w, C.catnaplaw8_ResetTicks_r14_b, ↓C.catnaplaw8_ResetTicks_c38_w, ↓C.catnaplaw8_ResetTicks_r13_w, C.catnaplaw8_ResetTicks_r13_b, ↓C.catnaplaw8_ResetTicks_c39_w, ↓C.catnaplaw8_ResetTicks_r12_w, C.catnaplaw8_ResetTicks_r12_b, ↓C.catnaplaw8_ResetTicks_c40_w, ↓C.catnaplaw8_ResetTicks_c41_w, ↓C.catnaplaw8_ResetTicks_c42_w, ↓C.catnaplaw8_ResetTicks_r34_w, C.catnaplaw8_ResetTicks_r34_b, ↓C.catnaplaw8_ResetTicks_c43_w, ↓C.catnaplaw8_ResetTicks_c44_w, ↓C.catnaplaw8_ResetTicks_c45_w, ↓C.catnaplaw8_ResetTicks_r31_w, C.catnaplaw8_ResetTicks_r31_b, ↓C.catnaplaw8_ResetTicks_b46_w, ↓C.catnaplaw8_ResetTicks_c47_w, ↓C.catnaplaw8_ResetTicks_r11_w, C.catnaplaw8_ResetTicks_r11_b, ↓C.catnaplaw8_ResetTicks_c48_w, ↓C.catnaplaw8_ResetTicks_r10_w, C.catnaplaw8_ResetTicks_r10_b, ↓C.catnaplaw8_ResetTicks_b49_w, ↓C.catnaplaw8_ResetTicks_c50_w, ↓C.catnaplaw8_ResetTicks_c51_w, ↓C.catnaplaw8_ResetTicks_r8_w, C.catnaplaw8_ResetTicks_r8_b, ↓C.catnaplaw8_ResetTicks_b53_w, ↓C.catnaplaw8_ResetTicks_c54_w, ↓C.catnaplaw8_ResetTicks_r7_w, C.catnaplaw8_ResetTicks_r7_b, ↓C.catnaplaw8_ResetTicks_c55_w, ↓C.catnaplaw8_ResetTicks_r6_w, C.catnaplaw8_ResetTicks_r6_b, ↓C.catnaplaw8_ResetTicks_c56_w, ↓C.catnaplaw8_ResetTicks_r5_w, C.catnaplaw8_ResetTicks_r5_b, ↓C.catnaplaw8_ResetTicks_c57_w, ↓C.catnaplaw8_ResetTicks_c58_w, ↓C.catnaplaw8_ResetTicks_r4_w, C.catnaplaw8_ResetTicks_r4_b, ↓C.catnaplaw8_ResetTicks_c59_w, ↓C.catnaplaw8_ResetTicks_r3_w, C.catnaplaw8_ResetTicks_r3_b, ↓C.catnaplaw8_ResetTicks_c60_w, ↓C.catnaplaw8_ResetTicks_r2_w, C.catnaplaw8_ResetTicks_r2_b, ↓C.catnaplaw8_ResetTicks_c61_w, ↓C.catnaplaw8_ResetTicks_r1_w, C.catnaplaw8_ResetTicks_r1_b, ↓C.catnaplaw8_ResetTicks_c62_w, ↓C.catnaplaw8_ResetTicks_r0_w, C.catnaplaw8_ResetTicks_r0_b, C.catnaplaw8_ResetTicks, hz2, Int.toNat_natCast, Nat.mul_one, hh, hb1]
  rw [bools_set, upto_set (f := Ln.held) (z := false) htt]
  have hK2 := hK.setH (upto Ln.held false ls (t + 1))
  generalize s1.set ih (.cells (bools (upto Ln.held false ls (t + 1)))) = s2 at hK2
  have h2 := h.step hK2.le
  have hl := hK2.hl
  have hb2 : t < (ints (upto lf 0 ls t)).length := by rw [ints_length, upto_len]; exact htt
  simp only [↓Bp, Bq, Bs, ↓aop.eq_28, ↓aop.eq_30, Nat.reduceEqDiff, Nat.reduceAdd, Nat.reduceMul, Nat.reduceSub, Nat.reduceLeDiff, Nat.reduceLT, Int.reduceLT, Int.reduceLE, Int.reduceEq, Int.reduceToNat, Int.reduceAdd, Int.reduceSub, Int.reduceNeg, ↓reduceIte, reduceCtorEq, ↓C.catnaplaw8_ResetTicks_W, C.catnaplaw8_ResetTicks_B, C.catnaplaw8_ResetTicks]
  refine (left_spec h2.r.ln t).mono ?_
  rintro r s2 ⟨rfl, rfl⟩
  rw [lnOf_at htt, show (if ls[t].held = true then ls[t].left else 0) = lf ls[t] from rfl]
  simp only [↓Bp, Bq, Bs, ↓aop.eq_28, ↓aop.eq_30, Nat.reduceEqDiff, Nat.reduceAdd, Nat.reduceMul, Nat.reduceSub, Nat.reduceLeDiff, Nat.reduceLT, Int.reduceLT, Int.reduceLE, Int.reduceEq, Int.reduceToNat, Int.reduceAdd, Int.reduceSub, Int.reduceNeg, ↓reduceIte, reduceCtorEq, ↓C.catnaplaw8_ResetTicks_W, C.catnaplaw8_ResetTicks_B, C.catnaplaw8_ResetTicks, hz2, Int.toNat_natCast, Nat.mul_one, hl, hb2, hw]
  refine ⟨t + 1, rfl, ⟨htl, ?_⟩, by omega⟩
  rw [ints_set, upto_set (f := lf) (z := 0) htt]
  exact hK2.setL _
/-- Act by act. -/
theorem ticks_loop {s : ASt} {acts : List Pair} (hac : ∀ x ∈ acts, I64 x.a ∧ I64 x.b) (hal : acts.length ≤ 150) {ls : List Ln} {A : List Bool} (h : TSt st s ib ia p m R ls A) :
    awp Try.prog C.catnaplaw8_ResetTicks_c55 (Post [.slot 4] fun r s => r = .bool true ∧ st.le s)
      [(1, .isl 2 (acts.flatMap encPair) acts.length), (6, .ptr ib 0), (7, .ptr p 0), (9, .sl 1 ia 0 R.length)] s := by
  simp only [↓Bp, Bq, Bs, ↓aop.eq_28, ↓aop.eq_30, Nat.reduceEqDiff, Nat.reduceAdd, Nat.reduceMul, Nat.reduceSub, Nat.reduceLeDiff, Nat.reduceLT, Int.reduceLT, Int.reduceLE, Int.reduceEq, Int.reduceToNat, Int.reduceAdd, Int.reduceSub, Int.reduceNeg, ↓reduceIte, reduceCtorEq, ↓C.catnaplaw8_ResetTicks_W, C.catnaplaw8_ResetTicks_B, C.catnaplaw8_ResetTicks]
  refine awp_midB (fun _ : Unit => []) (fun _ s => st.le s) ?_ ?_
  rotate_left
  · rintro - s hs
    simp only [↓Bp, Bq, Bs, ↓aop.eq_28, ↓aop.eq_30, Nat.reduceEqDiff, Nat.reduceAdd, Nat.reduceMul, Nat.reduceSub, Nat.reduceLeDiff, Nat.reduceLT, Int.reduceLT, Int.reduceLE, Int.reduceEq, Int.reduceToNat, Int.reduceAdd, Int.reduceSub, Int.reduceNeg, ↓reduceIte, reduceCtorEq, ↓C.catnaplaw8_ResetTicks_W, C.catnaplaw8_ResetTicks_B, C.catnaplaw8_ResetTicks]
    exact hs
  refine awp_loopK (fun t : Nat => [(1, .isl 2 (acts.flatMap encPair) acts.length), (6, .ptr ib 0), (7, .ptr p 0), (9, .sl 1 ia 0 R.length), (10, .int .i64 t)])
    (fun t s => t ≤ acts.length ∧ ∃ ls A, TSt st s ib ia p m R ls A) (fun t => acts.length - t) 0 rfl ⟨Nat.zero_le _, ls, A, h⟩ ?_
  clear h A ls s
  rintro t s ⟨ht, ls, A, h⟩
  have hb := h.r.hb
  by_cases htl : t < acts.length
  rotate_left
  · have htl' : ¬ (t : Int) < (acts.length : Nat) := by omega
    simp only [↓Bp, Bq, Bs, ↓aop.eq_28, ↓aop.eq_30, Nat.reduceEqDiff, Nat.reduceAdd, Nat.reduceMul, Nat.reduceSub, Nat.reduceLeDiff, Nat.reduceLT, Int.reduceLT, Int.reduceLE, Int.reduceEq, Int.reduceToNat, Int.reduceAdd, Int.reduceSub, Int.reduceNeg, ↓reduceIte, reduceCtorEq, ↓C.catnaplaw8_ResetTicks_W, C.catnaplaw8_ResetTicks_B, C.catnaplaw8_ResetTicks, htl']
    exact ⟨(), h.r.le⟩
  have htl' : (t : Int) < (acts.length : Nat) := by omega
  by_cases hR0 : 0 < R.length
  rotate_left
  · have hR0' : ¬ (0 : Int) < (R.length : Nat) := by omega
    simp only [↓Bp, Bq, Bs, ↓aop.eq_28, ↓aop.eq_30, Nat.reduceEqDiff, Nat.reduceAdd, Nat.reduceMul, Nat.reduceSub, Nat.reduceLeDiff, Nat.reduceLT, Int.reduceLT, Int.reduceLE, Int.reduceEq, Int.reduceToNat, Int.reduceAdd, Int.reduceSub, Int.reduceNeg, ↓reduceIte, reduceCtorEq, ↓C.catnaplaw8_ResetTicks_W, C.catnaplaw8_ResetTicks_B, C.catnaplaw8_ResetTicks, htl', hb, rchip, Soc.cells, Soc.rstV, hR0']
    exact ⟨(), h.r.le⟩
  have hR0' : (0 : Int) < (R.length : Nat) := by omega
  have hw := wsucc htl (by omega)
  have hz2 : (0:Int) ≤ (t : Int) ∧ (t : Int) < (acts.length : Nat) := by omega
  have hg := pair_gets acts htl
  have hI := hac _ (List.getElem_mem htl)
  simp only [↓Bp, Bq, Bs, ↓aop.eq_28, ↓aop.eq_30, Nat.reduceEqDiff, Nat.reduceAdd, Nat.reduceMul, Nat.reduceSub, Nat.reduceLeDiff, Nat.reduceLT, Int.reduceLT, Int.reduceLE, Int.reduceEq, Int.reduceToNat, Int.reduceAdd, Int.reduceSub, Int.reduceNeg, ↓reduceIte, reduceCtorEq, ↓C.catnaplaw8_ResetTicks_r39_w, C.catnaplaw8_ResetTicks_r39_b, ↓C.catnaplaw8_ResetTicks_c1_w, ↓C.catnaplaw8_ResetTicks_r9_w, C.catnaplaw8_ResetTicks_r9_b, ↓C.catnaplaw8_ResetTicks_c2_w, ↓C.catnaplaw8_ResetTicks_r10_w, C.catnaplaw8_ResetTicks_r10_b, ↓C.catnaplaw8_ResetTicks_b49_w, ↓C.catnaplaw8_ResetTicks_c50_w, ↓C.catnaplaw8_ResetTicks_c51_w, ↓C.catnaplaw8_ResetTicks_r8_w, C.catnaplaw8_ResetTicks_r8_b, ↓C.catnaplaw8_ResetTicks_b53_w, ↓C.catnaplaw8_ResetTicks_c54_w, ↓C.catnaplaw8_ResetTicks_r7_w, C.catnaplaw8_ResetTicks_r7_b, ↓C.catnaplaw8_ResetTicks_c55_w, ↓C.catnaplaw8_ResetTicks_r6_w, C.catnaplaw8_ResetTicks_r6_b, ↓C.catnaplaw8_ResetTicks_c56_w, ↓C.catnaplaw8_ResetTicks_r5_w, C.catnaplaw8_ResetTicks_r5_b, ↓C.catnaplaw8_ResetTicks_c57_w, ↓C.catnaplaw8_ResetTicks_c58_w, ↓C.catnaplaw8_ResetTicks_r4_w, C.catnaplaw8_ResetTicks_r4_b, ↓C.catnaplaw8_ResetTicks_c59_w, ↓C.catnaplaw8_ResetTicks_r3_w, C.catnaplaw8_ResetTicks_r3_b, ↓C.catnaplaw8_ResetTicks_c60_w, ↓C.catnaplaw8_ResetTicks_r2_w, C.catnaplaw8_ResetTicks_r2_b, ↓C.catnaplaw8_ResetTicks_c61_w, ↓C.catnaplaw8_ResetTicks_r1_w, C.catnaplaw8_ResetTicks_r1_b, ↓C.catnaplaw8_ResetTicks_c62_w, ↓C.catnaplaw8_ResetTicks_r0_w, C.catnaplaw8_ResetTicks_r0_b, C.catnaplaw8_ResetTicks, htl', hb, rchip, Soc.cells, Soc.rstV, hR0', hz2, Int.toNat_natCast, hg.1, hg.2]
  refine (pick_spec hI.2 (n := R.length) hR0).mono ?_
  rintro r s ⟨rfl, rfl⟩
  have hk := pickI_lt acts[t].b hR0
  generalize pickI acts[t].b R.length = k at hk
  simp only [↓Bp, Bq, Bs, ↓aop.eq_28, ↓aop.eq_30, Nat.reduceEqDiff, Nat.reduceAdd, Nat.reduceMul, Nat.reduceSub, Nat.reduceLeDiff, Nat.reduceLT, Int.reduceLT, Int.reduceLE, Int.reduceEq, Int.reduceToNat, Int.reduceAdd, Int.reduceSub, Int.reduceNeg, ↓reduceIte, reduceCtorEq, ↓C.catnaplaw8_ResetTicks_W, C.catnaplaw8_ResetTicks_B, C.catnaplaw8_ResetTicks, hz2, Int.toNat_natCast, hg.1, hg.2]
  refine (pick_spec hI.1 (n := 4) (by omega)).mono ?_
  rintro r s ⟨rfl, rfl⟩
  generalize pickI acts[t].a 4 = o
  have hlen := h.len
  have hkl : k < ls.length := by omega
  have hAl : k < A.length := by rw [h.inv.len]; exact hkl
  have hzk : (0:Int) ≤ (k : Int) ∧ (k : Int) < (R.length : Nat) := by omega
  have ha := h.ha
  have hkb : k < (bools A).length := by rw [bools_length]; exact hAl
  have hlow := h.inv.low _ (List.getElem_mem hkl)
  by_cases ho0 : o = 0
  · have eT : ((o : Int) = 0) = True := eq_true (by omega)
    simp only [↓Bp, Bq, Bs, ↓aop.eq_28, ↓aop.eq_30, Nat.reduceEqDiff, Nat.reduceAdd, Nat.reduceMul, Nat.reduceSub, Nat.reduceLeDiff, Nat.reduceLT, Int.reduceLT, Int.reduceLE, Int.reduceEq, Int.reduceToNat, Int.reduceAdd, Int.reduceSub, Int.reduceNeg, ↓reduceIte, reduceCtorEq, ↓C.catnaplaw8_ResetTicks_W, C.catnaplaw8_ResetTicks_B, C.catnaplaw8_ResetTicks, eT]
    refine (assert_spec h.r.ln k).mono ?_
    rintro r s' ⟨rfl, rfl⟩
    rw [assertE, if_pos (isLn_at hkl)]
    have h2 := h.put (ls' := assertL ls k) (A' := A.set k false) (by
      rw [assertL, if_pos (isLn_at hkl), lnOf_at hkl, Int.toNat_natCast]
      exact h.inv.put ⟨hlow.2.2.1, hlow.2.2.2, hlow.2.2⟩ (fun e => by cases e)) (assertL_len ls k)
    have ha2 : (s.set m (lnsE (assertL ls k))).h ia = some (.cells (bools A)) := by rw [ASt.set_h, if_neg h.nm]; exact ha
    generalize s.set m (lnsE (assertL ls k)) = s2 at h2 ha2
    simp only [↓Bp, Bq, Bs, ↓aop.eq_28, ↓aop.eq_30, Nat.reduceEqDiff, Nat.reduceAdd, Nat.reduceMul, Nat.reduceSub, Nat.reduceLeDiff, Nat.reduceLT, Int.reduceLT, Int.reduceLE, Int.reduceEq, Int.reduceToNat, Int.reduceAdd, Int.reduceSub, Int.reduceNeg, ↓reduceIte, reduceCtorEq, ↓C.catnaplaw8_ResetTicks_W, C.catnaplaw8_ResetTicks_B, C.catnaplaw8_ResetTicks, hzk, Int.toNat_natCast, Nat.mul_one, ha2, hkb, hw]
    rw [bools_set]
    exact ⟨t + 1, rfl, ⟨htl, _, _, h2⟩, by omega⟩
  by_cases ho1 : o = 1
  · have eT : ((o : Int) = 0) = False := eq_false (by omega)
    have eT1 : ((o : Int) = 1) = True := eq_true (by omega)
    simp only [↓Bp, Bq, Bs, ↓aop.eq_28, ↓aop.eq_30, Nat.reduceEqDiff, Nat.reduceAdd, Nat.reduceMul, Nat.reduceSub, Nat.reduceLeDiff, Nat.reduceLT, Int.reduceLT, Int.reduceLE, Int.reduceEq, Int.reduceToNat, Int.reduceAdd, Int.reduceSub, Int.reduceNeg, ↓reduceIte, reduceCtorEq, ↓C.catnaplaw8_ResetTicks_W, C.catnaplaw8_ResetTicks_B, C.catnaplaw8_ResetTicks, eT, eT1]
    refine (held_spec h.r.ln k).mono ?_
    rintro r s ⟨rfl, rfl⟩
    simp only [↓Bp, Bq, Bs, ↓aop.eq_28, ↓aop.eq_30, Nat.reduceEqDiff, Nat.reduceAdd, Nat.reduceMul, Nat.reduceSub, Nat.reduceLeDiff, Nat.reduceLT, Int.reduceLT, Int.reduceLE, Int.reduceEq, Int.reduceToNat, Int.reduceAdd, Int.reduceSub, Int.reduceNeg, ↓reduceIte, reduceCtorEq, ↓C.catnaplaw8_ResetTicks_W, C.catnaplaw8_ResetTicks_B, C.catnaplaw8_ResetTicks]
    refine (release_spec h.r.ln k).mono ?_
    rintro r s' ⟨rfl, rfl⟩
    rw [releaseE, if_pos (isLn_at hkl), lnOf_at hkl, decide_eq_true (isLn_at hkl), show (!true || ls[k].held) = ls[k].held from rfl]
    have h2 := h.put (ls' := releaseL ls k) (A' := A.set k (A[k] || ls[k].held)) (by
      rw [releaseL, lnOf_at hkl, Int.toNat_natCast]
      by_cases hd : ls[k].held = true
      · rw [if_pos ⟨isLn_at hkl, hd⟩, hd, Bool.or_true]
        exact h.inv.put hlow (fun _ => rfl)
      · have hd' : ls[k].held = false := by simpa using hd
        rw [if_neg (fun e => hd e.2), hd', Bool.or_false, List.set_getElem_self]
        exact h.inv) (releaseL_len ls k)
    have ha2 : (s.set m (lnsE (releaseL ls k))).h ia = some (.cells (bools A)) := by rw [ASt.set_h, if_neg h.nm]; exact ha
    generalize s.set m (lnsE (releaseL ls k)) = s2 at h2 ha2
    have hgA : (bools A)[k]? = some (.bool A[k]) := bools_get hAl
    cases hd : ls[k].held
    · rw [hd] at h2
      cases hA : A[k]
      · rw [hA] at h2 hgA
        simp only [↓Bp, Bq, Bs, ↓aop.eq_28, ↓aop.eq_30, Nat.reduceEqDiff, Nat.reduceAdd, Nat.reduceMul, Nat.reduceSub, Nat.reduceLeDiff, Nat.reduceLT, Int.reduceLT, Int.reduceLE, Int.reduceEq, Int.reduceToNat, Int.reduceAdd, Int.reduceSub, Int.reduceNeg, ↓reduceIte, reduceCtorEq, ↓C.catnaplaw8_ResetTicks_W, C.catnaplaw8_ResetTicks_B, C.catnaplaw8_ResetTicks, hzk, Int.toNat_natCast, Nat.mul_one, ha2, hkb, hgA, hw]
        rw [bools_set]
        exact ⟨t + 1, rfl, ⟨htl, _, _, h2⟩, by omega⟩
      · rw [hA] at h2 hgA
        simp only [↓Bp, Bq, Bs, ↓aop.eq_28, ↓aop.eq_30, Nat.reduceEqDiff, Nat.reduceAdd, Nat.reduceMul, Nat.reduceSub, Nat.reduceLeDiff, Nat.reduceLT, Int.reduceLT, Int.reduceLE, Int.reduceEq, Int.reduceToNat, Int.reduceAdd, Int.reduceSub, Int.reduceNeg, ↓reduceIte, reduceCtorEq, ↓C.catnaplaw8_ResetTicks_W, C.catnaplaw8_ResetTicks_B, C.catnaplaw8_ResetTicks, hzk, Int.toNat_natCast, Nat.mul_one, ha2, hkb, hgA, hw]
        rw [bools_set]
        exact ⟨t + 1, rfl, ⟨htl, _, _, h2⟩, by omega⟩
    · rw [hd, Bool.or_true] at h2
      cases hA : A[k]
      · rw [hA] at hgA
        simp only [↓Bp, Bq, Bs, ↓aop.eq_28, ↓aop.eq_30, Nat.reduceEqDiff, Nat.reduceAdd, Nat.reduceMul, Nat.reduceSub, Nat.reduceLeDiff, Nat.reduceLT, Int.reduceLT, Int.reduceLE, Int.reduceEq, Int.reduceToNat, Int.reduceAdd, Int.reduceSub, Int.reduceNeg, ↓reduceIte, reduceCtorEq, ↓C.catnaplaw8_ResetTicks_W, C.catnaplaw8_ResetTicks_B, C.catnaplaw8_ResetTicks, hzk, Int.toNat_natCast, Nat.mul_one, ha2, hkb, hgA, hw]
        rw [bools_set]
        exact ⟨t + 1, rfl, ⟨htl, _, _, h2⟩, by omega⟩
      · rw [hA] at hgA
        simp only [↓Bp, Bq, Bs, ↓aop.eq_28, ↓aop.eq_30, Nat.reduceEqDiff, Nat.reduceAdd, Nat.reduceMul, Nat.reduceSub, Nat.reduceLeDiff, Nat.reduceLT, Int.reduceLT, Int.reduceLE, Int.reduceEq, Int.reduceToNat, Int.reduceAdd, Int.reduceSub, Int.reduceNeg, ↓reduceIte, reduceCtorEq, ↓C.catnaplaw8_ResetTicks_W, C.catnaplaw8_ResetTicks_B, C.catnaplaw8_ResetTicks, hzk, Int.toNat_natCast, Nat.mul_one, ha2, hkb, hgA, hw]
        rw [bools_set]
        exact ⟨t + 1, rfl, ⟨htl, _, _, h2⟩, by omega⟩
  have eT : ((o : Int) = 0) = False := eq_false (by omega)
  have eT1 : ((o : Int) = 1) = False := eq_false (by omega)
  have hzn : (0 : Int) ≤ (R.length : Nat) ∧ ((R.length : Nat) : Int) ≤ 4294967296 := by omega
  have hbx := hb
  simp only [↓Bp, Bq, Bs, ↓aop.eq_28, ↓aop.eq_30, Nat.reduceEqDiff, Nat.reduceAdd, Nat.reduceMul, Nat.reduceSub, Nat.reduceLeDiff, Nat.reduceLT, Int.reduceLT, Int.reduceLE, Int.reduceEq, Int.reduceToNat, Int.reduceAdd, Int.reduceSub, Int.reduceNeg, ↓reduceIte, reduceCtorEq, ↓C.catnaplaw8_ResetTicks_r39_w, C.catnaplaw8_ResetTicks_r39_b, ↓C.catnaplaw8_ResetTicks_c1_w, ↓C.catnaplaw8_ResetTicks_r9_w, C.catnaplaw8_ResetTicks_r9_b, ↓C.catnaplaw8_ResetTicks_c2_w, ↓C.catnaplaw8_ResetTicks_r33_w, C.catnaplaw8_ResetTicks_r33_b, ↓C.catnaplaw8_ResetTicks_c3_w, ↓C.catnaplaw8_ResetTicks_r32_w, C.catnaplaw8_ResetTicks_r32_b, ↓C.catnaplaw8_ResetTicks_r38_w, C.catnaplaw8_ResetTicks_r38_b, ↓C.catnaplaw8_ResetTicks_c4_w, ↓C.catnaplaw8_ResetTicks_r37_w, C.catnaplaw8_ResetTicks_r37_b, ↓C.catnaplaw8_ResetTicks_c5_w, ↓C.catnaplaw8_ResetTicks_c6_w, ↓C.catnaplaw8_ResetTicks_r36_w, C.catnaplaw8_ResetTicks_r36_b, ↓C.catnaplaw8_ResetTicks_c7_w, ↓C.catnaplaw8_ResetTicks_r35_w, C.catnaplaw8_ResetTicks_r35_b, ↓C.catnaplaw8_ResetTicks_r12_w, C.catnaplaw8_ResetTicks_r12_b, ↓C.catnaplaw8_ResetTicks_c40_w, ↓C.catnaplaw8_ResetTicks_c41_w, ↓C.catnaplaw8_ResetTicks_c42_w, ↓C.catnaplaw8_ResetTicks_r34_w, C.catnaplaw8_ResetTicks_r34_b, ↓C.catnaplaw8_ResetTicks_c43_w, ↓C.catnaplaw8_ResetTicks_c44_w, ↓C.catnaplaw8_ResetTicks_c45_w, ↓C.catnaplaw8_ResetTicks_r31_w, C.catnaplaw8_ResetTicks_r31_b, ↓C.catnaplaw8_ResetTicks_b46_w, ↓C.catnaplaw8_ResetTicks_c47_w, ↓C.catnaplaw8_ResetTicks_r11_w, C.catnaplaw8_ResetTicks_r11_b, ↓C.catnaplaw8_ResetTicks_c48_w, ↓C.catnaplaw8_ResetTicks_r10_w, C.catnaplaw8_ResetTicks_r10_b, ↓C.catnaplaw8_ResetTicks_b49_w, ↓C.catnaplaw8_ResetTicks_c50_w, ↓C.catnaplaw8_ResetTicks_c51_w, ↓C.catnaplaw8_ResetTicks_r8_w, C.catnaplaw8_ResetTicks_r8_b, ↓C.catnaplaw8_ResetTicks_b53_w, ↓C.catnaplaw8_ResetTicks_c54_w, ↓C.catnaplaw8_ResetTicks_r7_w, C.catnaplaw8_ResetTicks_r7_b, ↓C.catnaplaw8_ResetTicks_c55_w, ↓C.catnaplaw8_ResetTicks_r6_w, C.catnaplaw8_ResetTicks_r6_b, ↓C.catnaplaw8_ResetTicks_c56_w, ↓C.catnaplaw8_ResetTicks_r5_w, C.catnaplaw8_ResetTicks_r5_b, ↓C.catnaplaw8_ResetTicks_c57_w, ↓C.catnaplaw8_ResetTicks_c58_w, ↓C.catnaplaw8_ResetTicks_r4_w, C.catnaplaw8_ResetTicks_r4_b, ↓C.catnaplaw8_ResetTicks_c59_w, ↓C.catnaplaw8_ResetTicks_r3_w, C.catnaplaw8_ResetTicks_r3_b, ↓C.catnaplaw8_ResetTicks_c60_w, ↓C.catnaplaw8_ResetTicks_r2_w, C.catnaplaw8_ResetTicks_r2_b, ↓C.catnaplaw8_ResetTicks_c61_w, ↓C.catnaplaw8_ResetTicks_r1_w, C.catnaplaw8_ResetTicks_r1_b, ↓C.catnaplaw8_ResetTicks_c62_w, ↓C.catnaplaw8_ResetTicks_r0_w, C.catnaplaw8_ResetTicks_r0_b, C.catnaplaw8_ResetTicks, eT, eT1, hb, rchip, Soc.cells, Soc.rstV, hzn, Int.toNat_natCast]
  rintro ih hih
  have h2 := h.step (ASt.le.new s ih (.cells (zeros [.bool false] R.length)))
  have hb2 := h2.r.hb
  have hself := ASt.new_self (.cells (zeros [.bool false] R.length)) hih
  have hle1 := ASt.le.new s ih (.cells (zeros [.bool false] R.length))
  generalize s.new ih (.cells (zeros [.bool false] R.length)) = s1 at h2 hb2 hself hle1
  simp only [↓Bp, Bq, Bs, ↓aop.eq_28, ↓aop.eq_30, Nat.reduceEqDiff, Nat.reduceAdd, Nat.reduceMul, Nat.reduceSub, Nat.reduceLeDiff, Nat.reduceLT, Int.reduceLT, Int.reduceLE, Int.reduceEq, Int.reduceToNat, Int.reduceAdd, Int.reduceSub, Int.reduceNeg, ↓reduceIte, reduceCtorEq, ↓C.catnaplaw8_ResetTicks_r39_w, C.catnaplaw8_ResetTicks_r39_b, ↓C.catnaplaw8_ResetTicks_c1_w, ↓C.catnaplaw8_ResetTicks_r9_w, C.catnaplaw8_ResetTicks_r9_b, ↓C.catnaplaw8_ResetTicks_c2_w, ↓C.catnaplaw8_ResetTicks_r33_w, C.catnaplaw8_ResetTicks_r33_b, ↓C.catnaplaw8_ResetTicks_c3_w, ↓C.catnaplaw8_ResetTicks_r32_w, C.catnaplaw8_ResetTicks_r32_b, ↓C.catnaplaw8_ResetTicks_r38_w, C.catnaplaw8_ResetTicks_r38_b, ↓C.catnaplaw8_ResetTicks_c4_w, ↓C.catnaplaw8_ResetTicks_r37_w, C.catnaplaw8_ResetTicks_r37_b, ↓C.catnaplaw8_ResetTicks_c5_w, ↓C.catnaplaw8_ResetTicks_c6_w, ↓C.catnaplaw8_ResetTicks_r36_w, C.catnaplaw8_ResetTicks_r36_b, ↓C.catnaplaw8_ResetTicks_c7_w, ↓C.catnaplaw8_ResetTicks_r35_w, C.catnaplaw8_ResetTicks_r35_b, ↓C.catnaplaw8_ResetTicks_r13_w, C.catnaplaw8_ResetTicks_r13_b, ↓C.catnaplaw8_ResetTicks_c39_w, ↓C.catnaplaw8_ResetTicks_r12_w, C.catnaplaw8_ResetTicks_r12_b, ↓C.catnaplaw8_ResetTicks_c40_w, ↓C.catnaplaw8_ResetTicks_c41_w, ↓C.catnaplaw8_ResetTicks_c42_w, ↓C.catnaplaw8_ResetTicks_r34_w, C.catnaplaw8_ResetTicks_r34_b, ↓C.catnaplaw8_ResetTicks_c43_w, ↓C.catnaplaw8_ResetTicks_c44_w, ↓C.catnaplaw8_ResetTicks_c45_w, ↓C.catnaplaw8_ResetTicks_r31_w, C.catnaplaw8_ResetTicks_r31_b, ↓C.catnaplaw8_ResetTicks_b46_w, ↓C.catnaplaw8_ResetTicks_c47_w, ↓C.catnaplaw8_ResetTicks_r11_w, C.catnaplaw8_ResetTicks_r11_b, ↓C.catnaplaw8_ResetTicks_c48_w, ↓C.catnaplaw8_ResetTicks_r10_w, C.catnaplaw8_ResetTicks_r10_b, ↓C.catnaplaw8_ResetTicks_b49_w, ↓C.catnaplaw8_ResetTicks_c50_w, ↓C.catnaplaw8_ResetTicks_c51_w, ↓C.catnaplaw8_ResetTicks_r8_w, C.catnaplaw8_ResetTicks_r8_b, ↓C.catnaplaw8_ResetTicks_b53_w, ↓C.catnaplaw8_ResetTicks_c54_w, ↓C.catnaplaw8_ResetTicks_r7_w, C.catnaplaw8_ResetTicks_r7_b, ↓C.catnaplaw8_ResetTicks_c55_w, ↓C.catnaplaw8_ResetTicks_r6_w, C.catnaplaw8_ResetTicks_r6_b, ↓C.catnaplaw8_ResetTicks_c56_w, ↓C.catnaplaw8_ResetTicks_r5_w, C.catnaplaw8_ResetTicks_r5_b, ↓C.catnaplaw8_ResetTicks_c57_w, ↓C.catnaplaw8_ResetTicks_c58_w, ↓C.catnaplaw8_ResetTicks_r4_w, C.catnaplaw8_ResetTicks_r4_b, ↓C.catnaplaw8_ResetTicks_c59_w, ↓C.catnaplaw8_ResetTicks_r3_w, C.catnaplaw8_ResetTicks_r3_b, ↓C.catnaplaw8_ResetTicks_c60_w, ↓C.catnaplaw8_ResetTicks_r2_w, C.catnaplaw8_ResetTicks_r2_b, ↓C.catnaplaw8_ResetTicks_c61_w, ↓C.catnaplaw8_ResetTicks_r1_w, C.catnaplaw8_ResetTicks_r1_b, ↓C.catnaplaw8_ResetTicks_c62_w, ↓C.catnaplaw8_ResetTicks_r0_w, C.catnaplaw8_ResetTicks_r0_b, C.catnaplaw8_ResetTicks, hb2, rchip, Soc.cells, Soc.rstV, hzn, Int.toNat_natCast]
  rintro il hil
  have hself2 := ASt.new_self (.cells (zeros [.int .i64 0] R.length)) hil
  have hle2 := ASt.le.new s1 il (.cells (zeros [.int .i64 0] R.length))
  have hne : ih ≠ il := by rintro rfl; rw [hself] at hil; cases hil
  have hK : KSt s (s1.new il (.cells (zeros [.int .i64 0] R.length))) ih il (List.replicate R.length false) (List.replicate R.length 0) :=
    ⟨hle1.trans hle2, by rw [← zeros_bool]; exact hle2 _ _ hself, by rw [← zeros_i64]; exact hself2, hih, fresh_of_le hle1 hil, hne⟩
  rw [C.catnaplaw8_ResetTicks_c38_w, awp_keep]
  refine tarm1 (m := m) (va := .isl 2 (acts.flatMap encPair) acts.length) hR h hK fun fr s' A' h' e => ?_
  show awp Try.prog C.catnaplaw8_ResetTicks_c2 _ fr s'
  rw [C.catnaplaw8_ResetTicks_c2_w, awp_keep, e]
  simp only [↓Bp, Bq, Bs, ↓aop.eq_28, ↓aop.eq_30, Nat.reduceEqDiff, Nat.reduceAdd, Nat.reduceMul, Nat.reduceSub, Nat.reduceLeDiff, Nat.reduceLT, Int.reduceLT, Int.reduceLE, Int.reduceEq, Int.reduceToNat, Int.reduceAdd, Int.reduceSub, Int.reduceNeg, ↓reduceIte, reduceCtorEq, ↓C.catnaplaw8_ResetTicks_W, C.catnaplaw8_ResetTicks_B, C.catnaplaw8_ResetTicks, hw]
  exact ⟨t + 1, rfl, ⟨htl, _, _, h'⟩, by omega⟩
end
theorem resetticks_spec {st : ASt} {l : List Int} {acts : List Pair} (hl : ∀ x ∈ l, -9223372036854775808 ≤ x ∧ x ≤ 9223372036854775807) (hll : l.length ≤ 9223372036854775807)
    (hac : ∀ x ∈ acts, I64 x.a ∧ I64 x.b) (hal : acts.length ≤ 9223372036854775807) :
    ACalls Try.prog F.catnaplaw8_ResetTicks [row l, .isl 2 (acts.flatMap encPair) acts.length] st fun r s => r = .bool true ∧ s = st := by
  refine ACalls.gc (Q' := fun r s => r = .bool true ∧ st.le s) (calls_of_awp L.catnaplaw8_ResetTicks rfl ?_) (fun v s ⟨h, hl⟩ => ⟨st, hl, h, rfl⟩)
  simp only [↓Bp, Bq, Bs, ↓aop.eq_28, ↓aop.eq_30, Nat.reduceEqDiff, Nat.reduceAdd, Nat.reduceMul, Nat.reduceSub, Nat.reduceLeDiff, Nat.reduceLT, Int.reduceLT, Int.reduceLE, Int.reduceEq, Int.reduceToNat, Int.reduceAdd, Int.reduceSub, Int.reduceNeg, ↓reduceIte, reduceCtorEq, ↓C.catnaplaw8_ResetTicks_W, C.catnaplaw8_ResetTicks_B, C.catnaplaw8_ResetTicks]
  refine (shown_spec st).mono ?_
  rintro r s ⟨rfl, rfl⟩
  simp only [↓Bp, Bq, Bs, ↓aop.eq_28, ↓aop.eq_30, Nat.reduceEqDiff, Nat.reduceAdd, Nat.reduceMul, Nat.reduceSub, Nat.reduceLeDiff, Nat.reduceLT, Int.reduceLT, Int.reduceLE, Int.reduceEq, Int.reduceToNat, Int.reduceAdd, Int.reduceSub, Int.reduceNeg, ↓reduceIte, reduceCtorEq, ↓C.catnaplaw8_ResetTicks_W, C.catnaplaw8_ResetTicks_B, C.catnaplaw8_ResetTicks]
  refine (rchip_spec hl hll).mono ?_
  rintro r s ⟨rfl, rfl⟩
  have hR := rOf_len l
  have hR2 := rOf_ok l
  generalize rOf l = R at hR hR2
  have l4 : (rchip R).cells.length = 4 := rfl
  have e4 : AV.agg (List.take 4 (rchip R).cells) = .agg (rchip R).cells := rfl
  have f4 : allLeaf (rchip R).cells = true := rfl
  simp only [↓Bp, Bq, Bs, ↓aop.eq_28, ↓aop.eq_30, Nat.reduceEqDiff, Nat.reduceAdd, Nat.reduceMul, Nat.reduceSub, Nat.reduceLeDiff, Nat.reduceLT, Int.reduceLT, Int.reduceLE, Int.reduceEq, Int.reduceToNat, Int.reduceAdd, Int.reduceSub, Int.reduceNeg, ↓reduceIte, reduceCtorEq, ↓C.catnaplaw8_ResetTicks_r2_w, C.catnaplaw8_ResetTicks_r2_b, ↓C.catnaplaw8_ResetTicks_c61_w, ↓C.catnaplaw8_ResetTicks_r1_w, C.catnaplaw8_ResetTicks_r1_b, ↓C.catnaplaw8_ResetTicks_c62_w, ↓C.catnaplaw8_ResetTicks_r0_w, C.catnaplaw8_ResetTicks_r0_b, C.catnaplaw8_ResetTicks, l4, f4]
  rintro ib hib
  simp only [↓Bp, Bq, Bs, ↓aop.eq_28, ↓aop.eq_30, Nat.reduceEqDiff, Nat.reduceAdd, Nat.reduceMul, Nat.reduceSub, Nat.reduceLeDiff, Nat.reduceLT, Int.reduceLT, Int.reduceLE, Int.reduceEq, Int.reduceToNat, Int.reduceAdd, Int.reduceSub, Int.reduceNeg, ↓reduceIte, reduceCtorEq, ↓C.catnaplaw8_ResetTicks_r2_w, C.catnaplaw8_ResetTicks_r2_b, ↓C.catnaplaw8_ResetTicks_c61_w, ↓C.catnaplaw8_ResetTicks_r1_w, C.catnaplaw8_ResetTicks_r1_b, ↓C.catnaplaw8_ResetTicks_c62_w, ↓C.catnaplaw8_ResetTicks_r0_w, C.catnaplaw8_ResetTicks_r0_b, C.catnaplaw8_ResetTicks, hib, l4, f4]
  rw [ASt.new_set hib, show putN [AV.nils, AV.nils, AV.nils, AV.nils] 0 (rchip R).cells = (rchip R).cells from putN_all rfl]
  simp only [↓Bp, Bq, Bs, ↓aop.eq_28, ↓aop.eq_30, Nat.reduceEqDiff, Nat.reduceAdd, Nat.reduceMul, Nat.reduceSub, Nat.reduceLeDiff, Nat.reduceLT, Int.reduceLT, Int.reduceLE, Int.reduceEq, Int.reduceToNat, Int.reduceAdd, Int.reduceSub, Int.reduceNeg, ↓reduceIte, reduceCtorEq, ↓C.catnaplaw8_ResetTicks_W, C.catnaplaw8_ResetTicks_B, C.catnaplaw8_ResetTicks, hib, l4, e4]
  refine (start_spec hib hR hR2).mono ?_
  rintro r s1 ⟨p, m, rfl, h⟩
  have hb := h.hb
  by_cases hac0 : acts.length ≤ 150
  rotate_left
  · have hz0 : (150 : Int) < (acts.length : Nat) := by omega
    simp only [↓Bp, Bq, Bs, ↓aop.eq_28, ↓aop.eq_30, Nat.reduceEqDiff, Nat.reduceAdd, Nat.reduceMul, Nat.reduceSub, Nat.reduceLeDiff, Nat.reduceLT, Int.reduceLT, Int.reduceLE, Int.reduceEq, Int.reduceToNat, Int.reduceAdd, Int.reduceSub, Int.reduceNeg, ↓reduceIte, reduceCtorEq, ↓C.catnaplaw8_ResetTicks_W, C.catnaplaw8_ResetTicks_B, C.catnaplaw8_ResetTicks, hz0]
    exact h.le
  have hz0 : ¬ (150 : Int) < (acts.length : Nat) := by omega
  have hzn : (0 : Int) ≤ (R.length : Nat) ∧ ((R.length : Nat) : Int) ≤ 4294967296 := by omega
  simp only [↓Bp, Bq, Bs, ↓aop.eq_28, ↓aop.eq_30, Nat.reduceEqDiff, Nat.reduceAdd, Nat.reduceMul, Nat.reduceSub, Nat.reduceLeDiff, Nat.reduceLT, Int.reduceLT, Int.reduceLE, Int.reduceEq, Int.reduceToNat, Int.reduceAdd, Int.reduceSub, Int.reduceNeg, ↓reduceIte, reduceCtorEq, ↓C.catnaplaw8_ResetTicks_r6_w, C.catnaplaw8_ResetTicks_r6_b, ↓C.catnaplaw8_ResetTicks_c56_w, ↓C.catnaplaw8_ResetTicks_r5_w, C.catnaplaw8_ResetTicks_r5_b, ↓C.catnaplaw8_ResetTicks_c57_w, ↓C.catnaplaw8_ResetTicks_c58_w, ↓C.catnaplaw8_ResetTicks_r4_w, C.catnaplaw8_ResetTicks_r4_b, ↓C.catnaplaw8_ResetTicks_c59_w, ↓C.catnaplaw8_ResetTicks_r3_w, C.catnaplaw8_ResetTicks_r3_b, ↓C.catnaplaw8_ResetTicks_c60_w, ↓C.catnaplaw8_ResetTicks_r2_w, C.catnaplaw8_ResetTicks_r2_b, ↓C.catnaplaw8_ResetTicks_c61_w, ↓C.catnaplaw8_ResetTicks_r1_w, C.catnaplaw8_ResetTicks_r1_b, ↓C.catnaplaw8_ResetTicks_c62_w, ↓C.catnaplaw8_ResetTicks_r0_w, C.catnaplaw8_ResetTicks_r0_b, C.catnaplaw8_ResetTicks, hz0, hb, rchip, Soc.cells, Soc.rstV, hzn, Int.toNat_natCast]
  rintro ia hia
  have h2 := h.step (ASt.le.new s1 ia (.cells (zeros [.bool false] R.length)))
  have hself := ASt.new_self (.cells (zeros [.bool false] R.length)) hia
  have hT : TSt s (s1.new ia (.cells (zeros [.bool false] R.length))) ib ia p m R (freshL R) (List.replicate R.length false) :=
    ⟨h2, by rw [← zeros_bool]; exact hself, fresh_of_le h.le hia, TInv.fresh hR2, freshL_len R⟩
  rw [C.catnaplaw8_ResetTicks_c55_w, awp_keep]
  exact ticks_loop hR hac hac0 hT
end Go.Proofs.Ytkabdilikndhbaa.Cn
