/- Power: Down and Tick. -/
import Derived.Test.YtgfpnfnjnakoaaaCnPower1
set_option linter.unusedSimpArgs false
set_option linter.unusedVariables false
namespace Go.Proofs.Ytgfpnfnjnakoaaa.Cn
open Go Go.Proofs

/-- Is a domain under one still up? -/
def someUp (gs : List Gd) (i : Nat) : Bool := gs.any fun g => decide (g.above = (i : Int)) && !g.isDown
def downE (gs : List Gd) (i : Nat) (hi : i < gs.length) (k : Bool) : Int :=
  if gs[i].phase ≠ 49 then 6 else if k = true ∧ gs[i].ret = false then 1 else if someUp gs i = true then 7 else 0
def downG (gs : List Gd) (i : Nat) (hi : i < gs.length) (k : Bool) : List Gd := if downE gs i hi k = 0 then gs.set i { gs[i] with phase := 99, keep := k } else gs
theorem down_none {st : ASt} {p ig : Nat} {gs : List Gd} (h : GridAt st p ig gs) {i : Int} (hi : ¬ isGd gs i) (k : Bool) : ACalls Try.prog F.q79 [.ptr p 0, .int .i64 i, .bool k] st fun r s => r = .int .i64 4 ∧ s = st := by
  refine calls_of_awp L.q79 rfl ?_
  simp only [↓Bp, Bq, Bs, ↓aop.eq_28, ↓aop.eq_30, Nat.reduceEqDiff, Nat.reduceAdd, Nat.reduceMul, Nat.reduceSub, Nat.reduceLeDiff, Nat.reduceLT, Int.reduceLT, Int.reduceLE, Int.reduceEq, Int.reduceToNat, Int.reduceAdd, Int.reduceSub, Int.reduceNeg, ↓reduceIte, reduceCtorEq, ↓C.q79_W, C.q79_B, C.q79]
  refine (at_spec h i).mono ?_
  rintro r s ⟨rfl, rfl⟩
  rw [if_neg hi]
  simp only [↓Bp, Bq, Bs, ↓aop.eq_28, ↓aop.eq_30, Nat.reduceEqDiff, Nat.reduceAdd, Nat.reduceMul, Nat.reduceSub, Nat.reduceLeDiff, Nat.reduceLT, Int.reduceLT, Int.reduceLE, Int.reduceEq, Int.reduceToNat, Int.reduceAdd, Int.reduceSub, Int.reduceNeg, ↓reduceIte, reduceCtorEq, ↓C.q79_W, C.q79_B, C.q79]
theorem someUp_take {gs : List Gd} {i j : Nat} (hj : j < gs.length) : someUp (gs.take (j + 1)) i = (someUp (gs.take j) i || (decide (gs[j].above = (i : Int)) && !gs[j].isDown)) := by
  rw [List.take_succ_eq_append_getElem hj, someUp, List.any_append]
  simp [someUp]
theorem someUp_some {gs : List Gd} {i j : Nat} (hj : j < gs.length) (h1 : gs[j].above = (i : Int)) (h2 : gs[j].isDown = false) : someUp gs i = true := by
  rw [someUp, List.any_eq_true]
  exact ⟨gs[j], List.getElem_mem hj, by simp [h1, h2]⟩
theorem down_spec {st : ASt} {p ig : Nat} {gs : List Gd} (h : GridAt st p ig gs) {i : Nat} (hi : i < gs.length) (k : Bool) :
    ACalls Try.prog F.q79 [.ptr p 0, .int .i64 i, .bool k] st fun r s => r = .int .i64 (downE gs i hi k) ∧ s = st.set ig (gsC (downG gs i hi k)) := by
  refine calls_of_awp L.q79 rfl ?_
  simp only [↓Bp, Bq, Bs, ↓aop.eq_28, ↓aop.eq_30, Nat.reduceEqDiff, Nat.reduceAdd, Nat.reduceMul, Nat.reduceSub, Nat.reduceLeDiff, Nat.reduceLT, Int.reduceLT, Int.reduceLE, Int.reduceEq, Int.reduceToNat, Int.reduceAdd, Int.reduceSub, Int.reduceNeg, ↓reduceIte, reduceCtorEq, ↓C.q79_W, C.q79_B, C.q79]
  refine (at_spec h i).mono ?_
  rintro r s ⟨rfl, rfl⟩
  rw [if_pos (isGd_at hi), Int.toNat_natCast]
  have hg := h.hg
  have hp := h.hp
  have hne := h.ne
  have hgx := hg
  rw [gsC] at hg
  have g2 := gs_get hi (j := 2) (by omega)
  rw [show gs[i].cells[2]? = some (.bool gs[i].ret) from rfl] at g2
  have g3 := gs_get hi (j := 3) (by omega)
  rw [show gs[i].cells[3]? = some (.int .u8 gs[i].phase) from rfl] at g3
  unfold downG
  by_cases h1 : gs[i].phase = 49
  rotate_left
  · have hT := eq_false h1
    have e : downE gs i hi k = 6 := by rw [downE, if_pos h1]
    rw [e, if_neg (by simp), ASt.set_id hgx]
    simp only [↓Bp, Bq, Bs, ↓aop.eq_28, ↓aop.eq_30, Nat.reduceEqDiff, Nat.reduceAdd, Nat.reduceMul, Nat.reduceSub, Nat.reduceLeDiff, Nat.reduceLT, Int.reduceLT, Int.reduceLE, Int.reduceEq, Int.reduceToNat, Int.reduceAdd, Int.reduceSub, Int.reduceNeg, ↓reduceIte, reduceCtorEq, ↓C.q79_W, C.q79_B, C.q79, hg, g3, hT]
  rw [h1] at g3
  have back : (k = true ∧ gs[i].ret = false → False) → awp Try.prog C.q79_c13 (Post [.slot 6] fun r s' => r = .int .i64 (downE gs i hi k) ∧ s' = s.set ig (gsC (if downE gs i hi k = 0 then gs.set i { gs[i] with phase := 99, keep := k } else gs)))
      [(0, .ptr p 0), (1, .int .i64 i), (2, .bool k), (7, .ptr ig (i * 7))] s := by
    intro hk
    simp only [↓Bp, Bq, Bs, ↓aop.eq_28, ↓aop.eq_30, Nat.reduceEqDiff, Nat.reduceAdd, Nat.reduceMul, Nat.reduceSub, Nat.reduceLeDiff, Nat.reduceLT, Int.reduceLT, Int.reduceLE, Int.reduceEq, Int.reduceToNat, Int.reduceAdd, Int.reduceSub, Int.reduceNeg, ↓reduceIte, reduceCtorEq, ↓C.q79_W, C.q79_B, C.q79, hp]
    refine awp_midB (fun _ : Unit => [(2, .bool k), (7, .ptr ig (i * 7))]) (fun _ s' => s' = s ∧ someUp gs i = false) ?_ ?_
    · refine awp_loopK (fun j : Nat => [(0, .ptr p 0), (1, .int .i64 i), (2, .bool k), (7, .ptr ig (i * 7)), (32, .int .i64 gs.length), (33, .int .i64 j)]) (fun j s' => j ≤ gs.length ∧ s' = s ∧ someUp (gs.take j) i = false) (fun j => gs.length - j) 0 rfl ⟨Nat.zero_le _, rfl, by simp [someUp]⟩ ?_
      rintro j s' ⟨hj, rfl, hsu⟩
      by_cases hjl : j < gs.length
      rotate_left
      · have hjl' : ¬ (j : Int) < (gs.length : Nat) := by omega
        simp only [↓Bp, Bq, Bs, ↓aop.eq_28, ↓aop.eq_30, Nat.reduceEqDiff, Nat.reduceAdd, Nat.reduceMul, Nat.reduceSub, Nat.reduceLeDiff, Nat.reduceLT, Int.reduceLT, Int.reduceLE, Int.reduceEq, Int.reduceToNat, Int.reduceAdd, Int.reduceSub, Int.reduceNeg, ↓reduceIte, reduceCtorEq, ↓C.q79_W, C.q79_B, C.q79, hjl']
        rw [show j = gs.length by omega, List.take_length] at hsu
        exact ⟨(), hsu⟩
      have hjl' : (j : Int) < (gs.length : Nat) := by omega
      have hz : (0:Int) ≤ (j : Int) ∧ (j : Int) < (gs.length : Nat) := by omega
      have hw := wsucc hjl (by have := h.few; omega)
      have b0 := gs_get hjl (j := 0) (by omega)
      rw [show gs[j].cells[0]? = some (.int .i64 gs[j].above) from rfl, Nat.add_zero] at b0
      by_cases ha : gs[j].above = (i : Int)
      · have hT := eq_true ha
        simp only [↓Bp, Bq, Bs, ↓aop.eq_28, ↓aop.eq_30, Nat.reduceEqDiff, Nat.reduceAdd, Nat.reduceMul, Nat.reduceSub, Nat.reduceLeDiff, Nat.reduceLT, Int.reduceLT, Int.reduceLE, Int.reduceEq, Int.reduceToNat, Int.reduceAdd, Int.reduceSub, Int.reduceNeg, ↓reduceIte, reduceCtorEq, ↓C.q79_r15_w, C.q79_r15_b, ↓C.q79_c1_w, ↓C.q79_r14_w, C.q79_r14_b, ↓C.q79_c2_w, ↓C.q79_r13_w, C.q79_r13_b, ↓C.q79_c3_w, ↓C.q79_r11_w, C.q79_r11_b, ↓C.q79_c6_w, ↓C.q79_r10_w, C.q79_r10_b, ↓C.q79_b7_w, ↓C.q79_c8_w, ↓C.q79_c9_w, ↓C.q79_r9_w, C.q79_r9_b, ↓C.q79_b11_w, ↓C.q79_c12_w, ↓C.q79_r8_w, C.q79_r8_b, ↓C.q79_c13_w, ↓C.q79_r7_w, C.q79_r7_b, ↓C.q79_c14_w, ↓C.q79_c15_w, ↓C.q79_r6_w, C.q79_r6_b, ↓C.q79_c16_w, ↓C.q79_r5_w, C.q79_r5_b, ↓C.q79_c17_w, ↓C.q79_c18_w, ↓C.q79_r4_w, C.q79_r4_b, ↓C.q79_c19_w, ↓C.q79_r3_w, C.q79_r3_b, ↓C.q79_c20_w, ↓C.q79_c21_w, ↓C.q79_r2_w, C.q79_r2_b, ↓C.q79_c22_w, ↓C.q79_r1_w, C.q79_r1_b, ↓C.q79_c23_w, ↓C.q79_r0_w, C.q79_r0_b, C.q79, hjl', hp, hg, hz, b0, hT, Int.toNat_natCast]
        refine (ddown_spec hjl hgx).mono ?_
        rintro r s2 ⟨rfl, rfl⟩
        cases hd : gs[j].isDown
        · have hsome := someUp_some hjl ha hd
          have e : downE gs i hi k = 7 := by rw [downE, if_neg (by simp [h1]), if_neg hk, if_pos hsome]
          simp only [↓Bp, Bq, Bs, ↓aop.eq_28, ↓aop.eq_30, Nat.reduceEqDiff, Nat.reduceAdd, Nat.reduceMul, Nat.reduceSub, Nat.reduceLeDiff, Nat.reduceLT, Int.reduceLT, Int.reduceLE, Int.reduceEq, Int.reduceToNat, Int.reduceAdd, Int.reduceSub, Int.reduceNeg, ↓reduceIte, reduceCtorEq, ↓C.q79_W, C.q79_B, C.q79]
          rw [e, if_neg (by simp), ASt.set_id hgx]
          exact ⟨rfl, rfl⟩
        · simp only [↓Bp, Bq, Bs, ↓aop.eq_28, ↓aop.eq_30, Nat.reduceEqDiff, Nat.reduceAdd, Nat.reduceMul, Nat.reduceSub, Nat.reduceLeDiff, Nat.reduceLT, Int.reduceLT, Int.reduceLE, Int.reduceEq, Int.reduceToNat, Int.reduceAdd, Int.reduceSub, Int.reduceNeg, ↓reduceIte, reduceCtorEq, ↓C.q79_W, C.q79_B, C.q79, hw]
          exact ⟨j + 1, rfl, ⟨hjl, by rw [someUp_take hjl, hsu, hd]; simp⟩, by omega⟩
      · have hT := eq_false ha
        simp only [↓Bp, Bq, Bs, ↓aop.eq_28, ↓aop.eq_30, Nat.reduceEqDiff, Nat.reduceAdd, Nat.reduceMul, Nat.reduceSub, Nat.reduceLeDiff, Nat.reduceLT, Int.reduceLT, Int.reduceLE, Int.reduceEq, Int.reduceToNat, Int.reduceAdd, Int.reduceSub, Int.reduceNeg, ↓reduceIte, reduceCtorEq, ↓C.q79_W, C.q79_B, C.q79, hjl', hp, hg, hz, b0, hT, Int.toNat_natCast, hw]
        exact ⟨j + 1, rfl, ⟨hjl, by rw [someUp_take hjl, hsu, decide_eq_false ha]; rfl⟩, by omega⟩
    · rintro - s' ⟨rfl, hsu⟩
      have e : downE gs i hi k = 0 := by rw [downE, if_neg (by simp [h1]), if_neg hk, hsu]; rfl
      rw [e, if_pos rfl]
      have hfit := gs_fit hi
      have f3 : i * 7 + 3 < (gs.flatMap Gd.cells).length := by omega
      have p3 : (gs.flatMap Gd.cells).set (i * 7 + 3) (.int .u8 99) = (gs.set i { gs[i] with phase := 99 }).flatMap Gd.cells := gs_put hi (by omega) rfl
      have hi3 : i < (gs.set i { gs[i] with phase := 99 }).length := by simpa using hi
      have p6 : ((gs.set i { gs[i] with phase := 99 }).flatMap Gd.cells).set (i * 7 + 6) (.bool k) = (gs.set i { gs[i] with phase := 99, keep := k }).flatMap Gd.cells := by
        rw [gs_put hi3 (by omega) (g := { gs[i] with phase := 99, keep := k }) (by rw [List.getElem_set_self]; rfl), List.set_set]
      have f6 : i * 7 + 6 < ((gs.set i { gs[i] with phase := 99 }).flatMap Gd.cells).length := by have := gs_fit hi3; omega
      simp only [↓Bp, Bq, Bs, ↓aop.eq_28, ↓aop.eq_30, Nat.reduceEqDiff, Nat.reduceAdd, Nat.reduceMul, Nat.reduceSub, Nat.reduceLeDiff, Nat.reduceLT, Int.reduceLT, Int.reduceLE, Int.reduceEq, Int.reduceToNat, Int.reduceAdd, Int.reduceSub, Int.reduceNeg, ↓reduceIte, reduceCtorEq, ↓C.q79_W, C.q79_B, C.q79, hg, f3, p3, f6, p6, ASt.set_set]
      rfl
  cases k
  · simp only [↓Bp, Bq, Bs, ↓aop.eq_28, ↓aop.eq_30, Nat.reduceEqDiff, Nat.reduceAdd, Nat.reduceMul, Nat.reduceSub, Nat.reduceLeDiff, Nat.reduceLT, Int.reduceLT, Int.reduceLE, Int.reduceEq, Int.reduceToNat, Int.reduceAdd, Int.reduceSub, Int.reduceNeg, ↓reduceIte, reduceCtorEq, ↓C.q79_r7_w, C.q79_r7_b, ↓C.q79_c14_w, ↓C.q79_c15_w, ↓C.q79_r6_w, C.q79_r6_b, ↓C.q79_c16_w, ↓C.q79_r5_w, C.q79_r5_b, ↓C.q79_c17_w, ↓C.q79_c18_w, ↓C.q79_r4_w, C.q79_r4_b, ↓C.q79_c19_w, ↓C.q79_r3_w, C.q79_r3_b, ↓C.q79_c20_w, ↓C.q79_c21_w, ↓C.q79_r2_w, C.q79_r2_b, ↓C.q79_c22_w, ↓C.q79_r1_w, C.q79_r1_b, ↓C.q79_c23_w, ↓C.q79_r0_w, C.q79_r0_b, C.q79, hg, g3]
    rw [C.q79_c13_w, awp_keep]
    exact back (by simp)
  · cases hr : gs[i].ret
    · rw [hr] at g2
      have e : downE gs i hi true = 1 := by rw [downE, if_neg (by simp [h1]), if_pos ⟨rfl, hr⟩]
      rw [e, if_neg (by simp), ASt.set_id hgx]
      simp only [↓Bp, Bq, Bs, ↓aop.eq_28, ↓aop.eq_30, Nat.reduceEqDiff, Nat.reduceAdd, Nat.reduceMul, Nat.reduceSub, Nat.reduceLeDiff, Nat.reduceLT, Int.reduceLT, Int.reduceLE, Int.reduceEq, Int.reduceToNat, Int.reduceAdd, Int.reduceSub, Int.reduceNeg, ↓reduceIte, reduceCtorEq, ↓C.q79_W, C.q79_B, C.q79, hg, g3, g2]
    · rw [hr] at g2
      simp only [↓Bp, Bq, Bs, ↓aop.eq_28, ↓aop.eq_30, Nat.reduceEqDiff, Nat.reduceAdd, Nat.reduceMul, Nat.reduceSub, Nat.reduceLeDiff, Nat.reduceLT, Int.reduceLT, Int.reduceLE, Int.reduceEq, Int.reduceToNat, Int.reduceAdd, Int.reduceSub, Int.reduceNeg, ↓reduceIte, reduceCtorEq, ↓C.q79_r7_w, C.q79_r7_b, ↓C.q79_c14_w, ↓C.q79_c15_w, ↓C.q79_r6_w, C.q79_r6_b, ↓C.q79_c16_w, ↓C.q79_r5_w, C.q79_r5_b, ↓C.q79_c17_w, ↓C.q79_c18_w, ↓C.q79_r4_w, C.q79_r4_b, ↓C.q79_c19_w, ↓C.q79_r3_w, C.q79_r3_b, ↓C.q79_c20_w, ↓C.q79_c21_w, ↓C.q79_r2_w, C.q79_r2_b, ↓C.q79_c22_w, ↓C.q79_r1_w, C.q79_r1_b, ↓C.q79_c23_w, ↓C.q79_r0_w, C.q79_r0_b, C.q79, hg, g3, g2]
      rw [C.q79_c13_w, awp_keep]
      exact back (by simp [hr])
end Go.Proofs.Ytgfpnfnjnakoaaa.Cn
