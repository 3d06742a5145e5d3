/- Power: the document's Down and Tick. -/
import Derived.Test.YtgfpnfnjnakoaaaCnRef7
set_option linter.unusedSimpArgs false
set_option linter.unusedVariables false
set_option linter.unusedSectionVars false
namespace Go.Proofs.Ytgfpnfnjnakoaaa.Cn
open Go Go.Proofs

theorem Over.alloc {base st : ASt} {sz n i5 : Nat} {v : AV} {cs : List AV} (h : Over base st sz v n cs) (hi : st.h i5 = none) (o : AObj) : Over (base.new i5 o) (st.new i5 o) sz v n cs := by
  refine ⟨h.1.le (ASt.le.new _ _ _), h.2.1.newB hi o, fun sz' i off n' e => ?_⟩
  rw [ASt.new_none]
  refine ⟨h.2.2 _ _ _ _ e, fun e2 => ?_⟩
  subst e2
  rcases h.1.2 with ⟨_, e3⟩ | ⟨j, e3, e4⟩
  · rw [e3] at e; cases e
  · rw [e3] at e; cases e
    rw [hi] at e4; cases e4
theorem Over.weak {base base' st : ASt} {sz n : Nat} {v : AV} {cs : List AV} (h : Over base' st sz v n cs) (hl : base.le base') : Over base st sz v n cs :=
  ⟨h.1, hl.trans h.2.1, fun sz i off n e => fresh_of_le hl (h.2.2 _ _ _ _ e)⟩
section
variable {base st : ASt} {q jd js : Nat} {D : List Dom} {rs : List Rs}
set_option maxHeartbeats 1000000 in
theorem rdown_spec (h : RefG base st q jd js D rs) {gs : List Gd} (hR : RelL gs rs) (hI : GInv D gs) (hn : D.length ≤ 1000) {i : Nat} (hi : i < gs.length) (k : Bool) :
    ACalls Try.prog F.q20 [.ptr q 0, .int .i64 i, .bool k] st fun r s => r = .int .i64 (downE gs i hi k) ∧ ∃ rs', RefG base s q jd js D rs' ∧ RelL (downG gs i hi k) rs' ∧ Kept base st s := by
  refine calls_of_awp L.q20 rfl ?_
  have hgl := hI.len
  have hiD : i < D.length := by omega
  have hir : i < rs.length := by rw [hR.len]; exact hi
  have hi2 : isDm D (i : Int) := ⟨by omega, by omega⟩
  have hz : (0:Int) ≤ (i : Int) ∧ (i : Int) < (D.length : Nat) := hi2
  have hq := h.hq
  have hs := h.hs
  have hd := h.hd
  have hrel := hR.rel i hi hir
  have hsame := hI.same i hi hiD
  have g0 := rs_get hir (j := 0) (by omega)
  rw [show rs[i].cells[0]? = some (.int .u8 rs[i].ph) from rfl, hrel.ph, Nat.add_zero] at g0
  have d2 := (dom_gets hiD).2.2
  rw [← hsame.2.2] at d2
  simp only [↓Bp, Bq, Bs, ↓aop.eq_28, ↓aop.eq_30, Nat.reduceEqDiff, Nat.reduceAdd, Nat.reduceMul, Nat.reduceSub, Nat.reduceLeDiff, Nat.reduceLT, Int.reduceLT, Int.reduceLE, Int.reduceEq, Int.reduceToNat, Int.reduceAdd, Int.reduceSub, Int.reduceNeg, ↓reduceIte, reduceCtorEq, ↓C.q20_W, C.q20_B, C.q20]
  refine (rthere_spec h i).mono ?_
  rintro r s ⟨rfl, rfl⟩
  rw [decide_eq_true hi2]
  have fail : ∀ e : Int, downE gs i hi k = e → e ≠ 0 → (AV.int .i64 e = .int .i64 (downE gs i hi k) ∧ ∃ rs', RefG base s q jd js D rs' ∧ RelL (downG gs i hi k) rs' ∧ Kept base s s) := fun e he h0 => by
    rw [downG, he, if_neg h0]; exact ⟨rfl, rs, h, hR, Kept.refl _ _⟩
  by_cases h1 : gs[i].phase = 49
  rotate_left
  · have hT := eq_false h1
    have f := fail 6 (by rw [downE, if_pos h1]) (by decide)
    simp only [↓Bp, Bq, Bs, ↓aop.eq_28, ↓aop.eq_30, Nat.reduceEqDiff, Nat.reduceAdd, Nat.reduceMul, Nat.reduceSub, Nat.reduceLeDiff, Nat.reduceLT, Int.reduceLT, Int.reduceLE, Int.reduceEq, Int.reduceToNat, Int.reduceAdd, Int.reduceSub, Int.reduceNeg, ↓reduceIte, reduceCtorEq, ↓C.q20_W, C.q20_B, C.q20, hq, hs, hz, Int.toNat_natCast, g0, hT]
    simpa using f
  rw [h1] at g0
  have back : ∀ kp : Bool, kp = k → (k = true ∧ gs[i].ret = false → False) → awp Try.prog C.q20_c13 (Post [.slot 6] fun r s' => r = .int .i64 (downE gs i hi k) ∧ ∃ rs', RefG base s' q jd js D rs' ∧ RelL (downG gs i hi k) rs' ∧ Kept base s s')
      [(0, .ptr q 0), (1, .int .i64 i), (2, .bool kp)] s := by
    rintro kp rfl hk
    simp only [↓Bp, Bq, Bs, ↓aop.eq_28, ↓aop.eq_30, Nat.reduceEqDiff, Nat.reduceAdd, Nat.reduceMul, Nat.reduceSub, Nat.reduceLeDiff, Nat.reduceLT, Int.reduceLT, Int.reduceLE, Int.reduceEq, Int.reduceToNat, Int.reduceAdd, Int.reduceSub, Int.reduceNeg, ↓reduceIte, reduceCtorEq, ↓C.q20_W, C.q20_B, C.q20]
    refine awp_midB (fun _ : Unit => [(0, .ptr q 0), (1, .int .i64 i), (2, .bool kp)]) (fun _ s' => s' = s ∧ someUp gs i = false) ?_ ?_
    · refine awp_loopK (fun j : Nat => [(0, .ptr q 0), (1, .int .i64 i), (2, .bool kp), (7, .int .i64 j)]) (fun j s' => j ≤ gs.length ∧ s' = s ∧ someUp (gs.take j) i = false) (fun j => gs.length - j) 0 rfl ⟨Nat.zero_le _, rfl, by simp [someUp]⟩ ?_
      rintro j s' ⟨hj, rfl, hsu⟩
      by_cases hjl : j < gs.length
      rotate_left
      · have hjl' : ¬ (j : Int) < (D.length : Nat) := by omega
        simp only [↓Bp, Bq, Bs, ↓aop.eq_28, ↓aop.eq_30, Nat.reduceEqDiff, Nat.reduceAdd, Nat.reduceMul, Nat.reduceSub, Nat.reduceLeDiff, Nat.reduceLT, Int.reduceLT, Int.reduceLE, Int.reduceEq, Int.reduceToNat, Int.reduceAdd, Int.reduceSub, Int.reduceNeg, ↓reduceIte, reduceCtorEq, ↓C.q20_W, C.q20_B, C.q20, hq, hjl']
        rw [show j = gs.length by omega, List.take_length] at hsu
        exact ⟨(), hsu⟩
      have hjl' : (j : Int) < (D.length : Nat) := by omega
      have hjD : j < D.length := by omega
      have hjr : j < rs.length := by rw [hR.len]; exact hjl
      have hzj : (0:Int) ≤ (j : Int) ∧ (j : Int) < (D.length : Nat) := by omega
      have hw := wsucc hjl (by omega)
      have b0 := (dom_gets hjD).1
      rw [← (hI.same j hjl hjD).1] at b0
      have c0 := rs_get hjr (j := 0) (by omega)
      rw [show rs[j].cells[0]? = some (.int .u8 rs[j].ph) from rfl, (hR.rel j hjl hjr).ph, Nat.add_zero] at c0
      by_cases ha : gs[j].above = (i : Int)
      rotate_left
      · have hT := eq_false ha
        simp only [↓Bp, Bq, Bs, ↓aop.eq_28, ↓aop.eq_30, Nat.reduceEqDiff, Nat.reduceAdd, Nat.reduceMul, Nat.reduceSub, Nat.reduceLeDiff, Nat.reduceLT, Int.reduceLT, Int.reduceLE, Int.reduceEq, Int.reduceToNat, Int.reduceAdd, Int.reduceSub, Int.reduceNeg, ↓reduceIte, reduceCtorEq, ↓C.q20_W, C.q20_B, C.q20, hq, hd, hs, hjl', hzj, b0, hT, Int.toNat_natCast, hw]
        exact ⟨j + 1, rfl, ⟨hjl, by rw [someUp_take hjl, hsu, decide_eq_false ha]; rfl⟩, by omega⟩
      have hT := eq_true ha
      by_cases p1 : gs[j].phase = 48
      · have T1 := eq_true p1
        simp only [↓Bp, Bq, Bs, ↓aop.eq_28, ↓aop.eq_30, Nat.reduceEqDiff, Nat.reduceAdd, Nat.reduceMul, Nat.reduceSub, Nat.reduceLeDiff, Nat.reduceLT, Int.reduceLT, Int.reduceLE, Int.reduceEq, Int.reduceToNat, Int.reduceAdd, Int.reduceSub, Int.reduceNeg, ↓reduceIte, reduceCtorEq, ↓C.q20_W, C.q20_B, C.q20, hq, hd, hs, hjl', hzj, b0, hT, c0, T1, Int.toNat_natCast, hw]
        exact ⟨j + 1, rfl, ⟨hjl, by rw [someUp_take hjl, hsu, isDown_true.mpr (.inl p1)]; simp⟩, by omega⟩
      have T1 := eq_false p1
      by_cases p2 : gs[j].phase = 116
      · have T2 := eq_true p2
        simp only [↓Bp, Bq, Bs, ↓aop.eq_28, ↓aop.eq_30, Nat.reduceEqDiff, Nat.reduceAdd, Nat.reduceMul, Nat.reduceSub, Nat.reduceLeDiff, Nat.reduceLT, Int.reduceLT, Int.reduceLE, Int.reduceEq, Int.reduceToNat, Int.reduceAdd, Int.reduceSub, Int.reduceNeg, ↓reduceIte, reduceCtorEq, ↓C.q20_W, C.q20_B, C.q20, hq, hd, hs, hjl', hzj, b0, hT, c0, T1, T2, Int.toNat_natCast, hw]
        exact ⟨j + 1, rfl, ⟨hjl, by rw [someUp_take hjl, hsu, isDown_true.mpr (.inr p2)]; simp⟩, by omega⟩
      have T2 := eq_false p2
      have hsome := someUp_some hjl ha (isDown_false.mpr ⟨p1, p2⟩)
      have f := fail 7 (by rw [downE, if_neg (by simp [h1]), if_neg hk, if_pos hsome]) (by decide)
      simp only [↓Bp, Bq, Bs, ↓aop.eq_28, ↓aop.eq_30, Nat.reduceEqDiff, Nat.reduceAdd, Nat.reduceMul, Nat.reduceSub, Nat.reduceLeDiff, Nat.reduceLT, Int.reduceLT, Int.reduceLE, Int.reduceEq, Int.reduceToNat, Int.reduceAdd, Int.reduceSub, Int.reduceNeg, ↓reduceIte, reduceCtorEq, ↓C.q20_W, C.q20_B, C.q20, hq, hd, hs, hjl', hzj, b0, hT, c0, T1, T2, Int.toNat_natCast, hw]
      simpa using f
    · rintro - s' ⟨rfl, hsu⟩
      have e : downE gs i hi kp = 0 := by rw [downE, if_neg (by simp [h1]), if_neg hk, hsu]; rfl
      rw [downG, e, if_pos rfl]
      have hfit := rs_fit hir
      have f0 : i * 3 < (rs.flatMap Rs.cells).length := by omega
      have p0 : (rs.flatMap Rs.cells).set (i * 3) (.int .u8 99) = (rs.set i { rs[i] with ph := 99 }).flatMap Rs.cells := rs_put (j := 0) hir (by omega) rfl
      obtain ⟨h1', k1⟩ := h.put (rs' := rs.set i { rs[i] with ph := 99 }) (by simp)
      simp only [↓Bp, Bq, Bs, ↓aop.eq_28, ↓aop.eq_30, Nat.reduceEqDiff, Nat.reduceAdd, Nat.reduceMul, Nat.reduceSub, Nat.reduceLeDiff, Nat.reduceLT, Int.reduceLT, Int.reduceLE, Int.reduceEq, Int.reduceToNat, Int.reduceAdd, Int.reduceSub, Int.reduceNeg, ↓reduceIte, reduceCtorEq, ↓C.q20_r12_w, C.q20_r12_b, ↓C.q20_c3_w, ↓C.q20_r9_w, C.q20_r9_b, ↓C.q20_c4_w, ↓C.q20_r11_w, C.q20_r11_b, ↓C.q20_c5_w, ↓C.q20_c6_w, ↓C.q20_r10_w, C.q20_r10_b, ↓C.q20_b7_w, ↓C.q20_c8_w, ↓C.q20_c9_w, ↓C.q20_r8_w, C.q20_r8_b, ↓C.q20_b11_w, ↓C.q20_c12_w, ↓C.q20_r7_w, C.q20_r7_b, ↓C.q20_c13_w, ↓C.q20_r6_w, C.q20_r6_b, ↓C.q20_c14_w, ↓C.q20_c15_w, ↓C.q20_r5_w, C.q20_r5_b, ↓C.q20_c16_w, ↓C.q20_r4_w, C.q20_r4_b, ↓C.q20_c17_w, ↓C.q20_c18_w, ↓C.q20_r3_w, C.q20_r3_b, ↓C.q20_c19_w, ↓C.q20_r2_w, C.q20_r2_b, ↓C.q20_c20_w, ↓C.q20_c21_w, ↓C.q20_r1_w, C.q20_r1_b, ↓C.q20_c22_w, ↓C.q20_r0_w, C.q20_r0_b, C.q20, hq, hs, hz, Int.toNat_natCast, f0, p0]
      generalize s'.set js (.cells ((rs.set i { rs[i] with ph := 99 }).flatMap Rs.cells)) = s1 at h1' k1
      have hq1 := h1'.hq
      have hs1 := h1'.hs
      have hir1 : i < (rs.set i { rs[i] with ph := 99 }).length := by simpa using hir
      have f1 : i * 3 + 2 < ((rs.set i { rs[i] with ph := 99 }).flatMap Rs.cells).length := by have := rs_fit hir1; omega
      have p1 : ((rs.set i { rs[i] with ph := 99 }).flatMap Rs.cells).set (i * 3 + 2) (.bool kp) = (rs.set i { rs[i] with ph := 99, kept := kp }).flatMap Rs.cells := by
        rw [rs_put (j := 2) hir1 (by omega) (r := { rs[i] with ph := 99, kept := kp }) (by rw [List.getElem_set_self]; rfl), List.set_set]
      obtain ⟨h2, k2⟩ := h1'.put (rs' := rs.set i { rs[i] with ph := 99, kept := kp }) (by simp)
      simp only [↓Bp, Bq, Bs, ↓aop.eq_28, ↓aop.eq_30, Nat.reduceEqDiff, Nat.reduceAdd, Nat.reduceMul, Nat.reduceSub, Nat.reduceLeDiff, Nat.reduceLT, Int.reduceLT, Int.reduceLE, Int.reduceEq, Int.reduceToNat, Int.reduceAdd, Int.reduceSub, Int.reduceNeg, ↓reduceIte, reduceCtorEq, ↓C.q20_W, C.q20_B, C.q20, hq1, hs1, hz, Int.toNat_natCast, f1, p1]
      refine ⟨_, h2, hR.set ⟨rfl, ?_, fun e => absurd e (by show ¬ (99 : Int) = 114; decide), fun _ => rfl⟩, fun j hj => by rw [k2 j hj, k1 j hj]⟩
      show rs[i].left = if (99 : Int) = 114 then gs[i].left else 0
      rw [hrel.lf, if_neg (by rw [h1]; decide), if_neg (by decide)]
  cases hk : k
  · simp only [↓Bp, Bq, Bs, ↓aop.eq_28, ↓aop.eq_30, Nat.reduceEqDiff, Nat.reduceAdd, Nat.reduceMul, Nat.reduceSub, Nat.reduceLeDiff, Nat.reduceLT, Int.reduceLT, Int.reduceLE, Int.reduceEq, Int.reduceToNat, Int.reduceAdd, Int.reduceSub, Int.reduceNeg, ↓reduceIte, reduceCtorEq, ↓C.q20_r6_w, C.q20_r6_b, ↓C.q20_c14_w, ↓C.q20_c15_w, ↓C.q20_r5_w, C.q20_r5_b, ↓C.q20_c16_w, ↓C.q20_r4_w, C.q20_r4_b, ↓C.q20_c17_w, ↓C.q20_c18_w, ↓C.q20_r3_w, C.q20_r3_b, ↓C.q20_c19_w, ↓C.q20_r2_w, C.q20_r2_b, ↓C.q20_c20_w, ↓C.q20_c21_w, ↓C.q20_r1_w, C.q20_r1_b, ↓C.q20_c22_w, ↓C.q20_r0_w, C.q20_r0_b, C.q20, hq, hs, hz, Int.toNat_natCast, g0]
    rw [C.q20_c13_w, awp_keep]
    have := back false hk.symm (fun e => by rw [hk] at e; cases e.1)
    rw [hk] at this
    exact this
  · cases hr : gs[i].ret
    · rw [hr] at d2
      have f := fail 1 (by rw [downE, if_neg (by simp [h1]), if_pos ⟨hk, hr⟩]) (by decide)
      rw [hk] at f
      simp only [↓Bp, Bq, Bs, ↓aop.eq_28, ↓aop.eq_30, Nat.reduceEqDiff, Nat.reduceAdd, Nat.reduceMul, Nat.reduceSub, Nat.reduceLeDiff, Nat.reduceLT, Int.reduceLT, Int.reduceLE, Int.reduceEq, Int.reduceToNat, Int.reduceAdd, Int.reduceSub, Int.reduceNeg, ↓reduceIte, reduceCtorEq, ↓C.q20_W, C.q20_B, C.q20, hq, hs, hd, hz, Int.toNat_natCast, g0, d2]
      simpa using f
    · rw [hr] at d2
      simp only [↓Bp, Bq, Bs, ↓aop.eq_28, ↓aop.eq_30, Nat.reduceEqDiff, Nat.reduceAdd, Nat.reduceMul, Nat.reduceSub, Nat.reduceLeDiff, Nat.reduceLT, Int.reduceLT, Int.reduceLE, Int.reduceEq, Int.reduceToNat, Int.reduceAdd, Int.reduceSub, Int.reduceNeg, ↓reduceIte, reduceCtorEq, ↓C.q20_r6_w, C.q20_r6_b, ↓C.q20_c14_w, ↓C.q20_c15_w, ↓C.q20_r5_w, C.q20_r5_b, ↓C.q20_c16_w, ↓C.q20_r4_w, C.q20_r4_b, ↓C.q20_c17_w, ↓C.q20_c18_w, ↓C.q20_r3_w, C.q20_r3_b, ↓C.q20_c19_w, ↓C.q20_r2_w, C.q20_r2_b, ↓C.q20_c20_w, ↓C.q20_c21_w, ↓C.q20_r1_w, C.q20_r1_b, ↓C.q20_c22_w, ↓C.q20_r0_w, C.q20_r0_b, C.q20, hq, hs, hd, hz, Int.toNat_natCast, g0, d2]
      rw [C.q20_c13_w, awp_keep]
      have := back true hk.symm (fun e => by rw [hr] at e; cases e.2)
      rw [hk] at this
      exact this
end
/-- One of the document's in a tick. -/
def rtick (r : Rs) : Rs :=
  if r.ph = 114 then (if 0 < r.left then { r with left := r.left - 1 } else { r with ph := 104 })
  else if r.ph = 104 then { r with ph := 49 }
  else if r.ph = 99 then (if r.kept = true then { r with ph := 116 } else { r with ph := 48 })
  else r
theorem RelG.tick {g : Gd} {r : Rs} (h : RelG g r) (hl : 0 ≤ g.left) : RelG (gtick g) (rtick r) := by
  obtain ⟨ab, de, re, ph, le, ba, ke⟩ := g
  obtain ⟨rp, rl, rk⟩ := r
  obtain ⟨h1, h2, h3, h4⟩ := h
  simp only at h1 h2 h3 h4 hl
  subst h1
  unfold gtick rtick
  simp only
  by_cases p1 : rp = 114
  · subst p1
    rw [if_pos rfl] at h2
    subst h2
    rw [if_pos rfl, if_pos rfl]
    by_cases l1 : 0 < rl
    · rw [if_pos l1, if_pos l1]
      exact ⟨rfl, by simp, fun _ => h3 rfl, fun e => absurd e (by show ¬ (114 : Int) = 99; decide)⟩
    · rw [if_neg l1, if_neg l1]
      exact ⟨rfl, by show rl = if (104 : Int) = 114 then rl else 0; rw [if_neg (by decide)]; omega, fun e => absurd e (by show ¬ (104 : Int) = 114; decide), fun e => absurd e (by show ¬ (104 : Int) = 99; decide)⟩
  rw [if_neg p1] at h2
  subst h2
  rw [if_neg p1, if_neg p1]
  by_cases p2 : rp = 104
  · subst p2
    rw [if_pos rfl, if_pos rfl]
    exact ⟨rfl, rfl, fun e => absurd e (by show ¬ (49 : Int) = 114; decide), fun e => absurd e (by show ¬ (49 : Int) = 99; decide)⟩
  rw [if_neg p2, if_neg p2]
  by_cases p3 : rp = 99
  · subst p3
    rw [if_pos rfl, if_pos rfl]
    have := h4 rfl
    subst this
    cases rk
    · exact ⟨rfl, rfl, fun e => absurd e (by show ¬ (48 : Int) = 114; decide), fun e => absurd e (by show ¬ (48 : Int) = 99; decide)⟩
    · exact ⟨rfl, rfl, fun e => absurd e (by show ¬ (116 : Int) = 114; decide), fun e => absurd e (by show ¬ (116 : Int) = 99; decide)⟩
  rw [if_neg p3, if_neg p3]
  exact ⟨rfl, by show (0 : Int) = if rp = 114 then le else 0; rw [if_neg p1], fun e => absurd e p1, fun e => absurd e p3⟩
def rtickTo (rs : List Rs) (i : Nat) : List Rs := (rs.take i).map rtick ++ rs.drop i
def rtickL (rs : List Rs) : List Rs := rs.map rtick
theorem rtickTo_len (rs : List Rs) (i : Nat) : (rtickTo rs i).length = rs.length := by simp [rtickTo]; omega
theorem rtickTo_at {rs : List Rs} {i : Nat} (h : i < rs.length) : (rtickTo rs i)[i]'(by rw [rtickTo_len]; exact h) = rs[i] := by
  simp only [rtickTo]
  rw [List.getElem_append_right (by simp; omega)]
  simp [Nat.min_eq_left (Nat.le_of_lt h)]
theorem rtickTo_set {rs : List Rs} {i : Nat} (h : i < rs.length) : (rtickTo rs i).set i (rtick rs[i]) = rtickTo rs (i + 1) := by
  simp only [rtickTo]
  rw [List.set_append_right _ _ (by simp; omega), List.take_succ_eq_append_getElem h, List.map_append]
  have : i - ((rs.take i).map rtick).length = 0 := by simp; omega
  rw [this, ← List.getElem_cons_drop (h := h), List.set_cons_zero]
  simp
theorem rtickTo_all (rs : List Rs) : rtickTo rs rs.length = rtickL rs := by simp [rtickTo, rtickL]
theorem RelL.tick {gs : List Gd} {rs : List Rs} (h : RelL gs rs) (hl : ∀ g ∈ gs, 0 ≤ g.left) : RelL (gtickL gs) (rtickL rs) where
  len := by simp [gtickL, rtickL, h.len]
  rel := fun i h1 h2 => by
    simp only [gtickL, rtickL, List.length_map] at h1 h2
    simp only [gtickL, rtickL, List.getElem_map]
    exact (h.rel i h1 h2).tick (hl _ (List.getElem_mem h1))
theorem rs_put3 {R : List Rs} {k : Nat} (hk : k < R.length) (y : Rs) : (((R.flatMap Rs.cells).set (k * 3) (.int .u8 y.ph)).set (k * 3 + 1) (.int .i64 y.left)).set (k * 3 + 1 + 1) (.bool y.kept) = (R.set k y).flatMap Rs.cells := by
  rw [show k * 3 = k * 3 + 0 from rfl, rs_put (j := 0) hk (by omega) (r := { R[k] with ph := y.ph }) rfl]
  have hk2 : k < (R.set k { R[k] with ph := y.ph }).length := by simpa using hk
  rw [show k * 3 + 0 + 1 = k * 3 + 1 from rfl, rs_put (j := 1) hk2 (by omega) (r := { R[k] with ph := y.ph, left := y.left }) (by rw [List.getElem_set_self]; rfl), List.set_set]
  have hk3 : k < (R.set k { R[k] with ph := y.ph, left := y.left }).length := by simpa using hk
  rw [show k * 3 + 1 + 1 = k * 3 + 2 from rfl, rs_put (j := 2) hk3 (by omega) (r := y) (by rw [List.getElem_set_self]; rfl), List.set_set]
theorem rt_back {t : ASt} {q jd js i5 i n : Nat} {R : List Rs} {y : Rs} {v : AV} (hq : t.h q = some (.cells [.sl 3 jd 0 n, .sl 3 js 0 n])) (hs : t.h js = some (.cells (R.flatMap Rs.cells))) (h5 : t.h i5 = some (.cells y.cells)) (hn : R.length = n) (hi : i < n) {Q : IExit → AFr → ASt → Prop}
    (hQ : ∀ fr, fr.keep [0, 3, 4] = [(0, .ptr q 0), (3, v), (4, .int .i64 i)] → Q .normal fr (t.set js (.cells ((R.set i y).flatMap Rs.cells)))) :
    awp Try.prog C.q23_c3 Q [(0, .ptr q 0), (3, v), (4, .int .i64 i), (5, .ptr i5 0)] t := by
  have hz : (0:Int) ≤ (i : Int) ∧ (i : Int) < (n : Nat) := by omega
  have hiR : i < R.length := by omega
  have hf := rs_fit hiR
  have hp := rs_put3 hiR y
  rw [Rs.cells] at h5
  simp only [↓Bp, Bq, Bs, ↓aop.eq_28, ↓aop.eq_30, Nat.reduceEqDiff, Nat.reduceAdd, Nat.reduceMul, Nat.reduceSub, Nat.reduceLeDiff, Nat.reduceLT, Int.reduceLT, Int.reduceLE, Int.reduceEq, Int.reduceToNat, Int.reduceAdd, Int.reduceSub, Int.reduceNeg, ↓reduceIte, reduceCtorEq, ↓C.q23_W, C.q23_B, C.q23, hq, hs, h5, hz, Int.toNat_natCast, hf]
  simp only [hp]
  exact ⟨rfl, hQ _ rfl⟩
set_option maxHeartbeats 2000000 in
theorem rtick0 {base st : ASt} {q jd js : Nat} {D : List Dom} {rs : List Rs} (h : RefG base st q jd js D rs) {gs : List Gd} (hR : RelL gs rs) (hI : GInv D gs) (hn : D.length ≤ 1000) :
    ACalls Try.prog F.q23 [.ptr q 0] st fun r s => r = evsV (evs gs) ∧ s = st.set js (.cells ((rtickL rs).flatMap Rs.cells)) := by
  refine ACalls.ghost (Q' := fun r s => Over (st.set js (.cells ((rtickL rs).flatMap Rs.cells))) s 2 r (evs gs).length ((evs gs).flatMap encEv)) (calls_of_awp L.q23 rfl ?_) (fun r s hO => ⟨_, _, hO.frz, rfl, rfl⟩)
  have hq := h.hq
  have hs := h.hs
  have hgl := hI.len
  have hrl := h.len
  simp only [↓Bp, Bq, Bs, ↓aop.eq_28, ↓aop.eq_30, Nat.reduceEqDiff, Nat.reduceAdd, Nat.reduceMul, Nat.reduceSub, Nat.reduceLeDiff, Nat.reduceLT, Int.reduceLT, Int.reduceLE, Int.reduceEq, Int.reduceToNat, Int.reduceAdd, Int.reduceSub, Int.reduceNeg, ↓reduceIte, reduceCtorEq, ↓C.q23_W, C.q23_B, C.q23]
  refine awp_midB (fun v : AV => [(3, v)]) (fun v s => Over (st.set js (.cells ((rtickL rs).flatMap Rs.cells))) s 2 v (evs gs).length ((evs gs).flatMap encEv)) ?_ ?_
  rotate_left
  · intro v s hO
    simp only [↓Bp, Bq, Bs, ↓aop.eq_28, ↓aop.eq_30, Nat.reduceEqDiff, Nat.reduceAdd, Nat.reduceMul, Nat.reduceSub, Nat.reduceLeDiff, Nat.reduceLT, Int.reduceLT, Int.reduceLE, Int.reduceEq, Int.reduceToNat, Int.reduceAdd, Int.reduceSub, Int.reduceNeg, ↓reduceIte, reduceCtorEq, ↓C.q23_W, C.q23_B, C.q23]
    exact hO
  have h0 : st.set js (.cells ((rtickTo rs 0).flatMap Rs.cells)) = st := by
    rw [show rtickTo rs 0 = rs by simp [rtickTo]]; exact ASt.set_id hs
  refine awp_loopK (fun w : Nat × AV => [(0, .ptr q 0), (3, w.2), (4, .int .i64 w.1)]) (fun w s => w.1 ≤ D.length ∧ Over (st.set js (.cells ((rtickTo rs w.1).flatMap Rs.cells))) s 2 w.2 (evTo gs w.1).length ((evTo gs w.1).flatMap encEv)) (fun w => D.length - w.1) (0, .nils) rfl
    ⟨Nat.zero_le _, by rw [h0]; exact Over.nils (ASt.le.refl _) 2⟩ ?_
  rintro ⟨i, v⟩ s ⟨hi, hO⟩
  simp only at hi hO
  have hqs : s.h q = some (.cells [.sl 3 jd 0 D.length, .sl 3 js 0 D.length]) := hO.2.1 _ _ (by rw [ASt.set_h, if_neg (Ne.symm h.nq)]; exact hq)
  by_cases hil : i < D.length
  rotate_left
  · have hie : i = rs.length := by omega
    have hil' : ¬ (i : Int) < (D.length : Nat) := by omega
    simp only [↓Bp, Bq, Bs, ↓aop.eq_28, ↓aop.eq_30, Nat.reduceEqDiff, Nat.reduceAdd, Nat.reduceMul, Nat.reduceSub, Nat.reduceLeDiff, Nat.reduceLT, Int.reduceLT, Int.reduceLE, Int.reduceEq, Int.reduceToNat, Int.reduceAdd, Int.reduceSub, Int.reduceNeg, ↓reduceIte, reduceCtorEq, ↓C.q23_W, C.q23_B, C.q23, hil', hqs]
    rw [evs, show gs.length = i by omega, ← rtickTo_all, show rs.length = i by omega]
    exact ⟨v, rfl, hO⟩
  have hil' : (i : Int) < (D.length : Nat) := by omega
  have hw := wsucc hil (by omega)
  have hz : (0:Int) ≤ (i : Int) ∧ (i : Int) < (D.length : Nat) := by omega
  have hir : i < rs.length := by omega
  have hig : i < gs.length := by omega
  have hbm : (st.set js (.cells ((rtickTo rs i).flatMap Rs.cells))).h js ≠ none := by rw [ASt.set_h, if_pos rfl, hs]; simp
  have hss : s.h js = some (.cells ((rtickTo rs i).flatMap Rs.cells)) := hO.2.1 _ _ (by rw [ASt.set_h, if_pos rfl, hs]; rfl)
  have hrel := hR.rel i hig hir
  have hlf := hI.left gs[i] (List.getElem_mem hig)
  have hlen := evTo_len gs i
  have hsucc := evTo_succ hig
  have hOm : ∀ {t : ASt} {v : AV} {n : Nat} {cs : List AV} (y : Rs), y = rtick rs[i] → Over (st.set js (.cells ((rtickTo rs i).flatMap Rs.cells))) t 2 v n cs → Over (st.set js (.cells ((rtickTo rs (i + 1)).flatMap Rs.cells))) (t.set js (.cells (((rtickTo rs i).set i y).flatMap Rs.cells))) 2 v n cs := by
    intro t v n cs y hy hO
    rw [hy, rtickTo_set hir]
    have := hO.rebase (base' := (st.set js (.cells ((rtickTo rs i).flatMap Rs.cells))).set js (.cells ((rtickTo rs (i + 1)).flatMap Rs.cells))) (st' := t.set js (.cells ((rtickTo rs (i + 1)).flatMap Rs.cells))) (keep_set hbm) (hO.2.1.set _ _)
    rw [ASt.set_set] at this
    exact this
  have htl : i < (rtickTo rs i).length := by rw [rtickTo_len]; exact hir
  have hnl : (rtickTo rs i).length = D.length := by rw [rtickTo_len]; exact hrl
  have hat : (rtickTo rs i)[i] = rs[i] := rtickTo_at hir
  have hf := rs_fit htl
  have ht := flatMap_at (f := Rs.cells) (k := 3) Rs.cells_len htl
  rw [hat] at ht
  obtain ⟨x, hx⟩ : ∃ x, x = rs[i] := ⟨_, rfl⟩
  rw [← hx] at ht hrel hOm
  obtain ⟨ph, lf, kp⟩ := x
  have l3 : (Rs.cells ⟨ph, lf, kp⟩).length = 3 := rfl
  have f3 : allLeaf (Rs.cells ⟨ph, lf, kp⟩) = true := rfl
  simp only [↓Bp, Bq, Bs, ↓aop.eq_28, ↓aop.eq_30, Nat.reduceEqDiff, Nat.reduceAdd, Nat.reduceMul, Nat.reduceSub, Nat.reduceLeDiff, Nat.reduceLT, Int.reduceLT, Int.reduceLE, Int.reduceEq, Int.reduceToNat, Int.reduceAdd, Int.reduceSub, Int.reduceNeg, ↓reduceIte, reduceCtorEq, ↓C.q23_r24_w, C.q23_r24_b, ↓C.q23_c1_w, ↓C.q23_r4_w, C.q23_r4_b, ↓C.q23_c2_w, ↓C.q23_r5_w, C.q23_r5_b, ↓C.q23_b28_w, ↓C.q23_c29_w, ↓C.q23_c30_w, ↓C.q23_r3_w, C.q23_r3_b, ↓C.q23_b32_w, ↓C.q23_c33_w, ↓C.q23_r2_w, C.q23_r2_b, ↓C.q23_c34_w, ↓C.q23_r1_w, C.q23_r1_b, ↓C.q23_c35_w, ↓C.q23_r0_w, C.q23_r0_b, C.q23, hil', hqs, hss, hz, Int.toNat_natCast, hf, ht]
  rintro i5 hi5
  simp only [↓Bp, Bq, Bs, ↓aop.eq_28, ↓aop.eq_30, Nat.reduceEqDiff, Nat.reduceAdd, Nat.reduceMul, Nat.reduceSub, Nat.reduceLeDiff, Nat.reduceLT, Int.reduceLT, Int.reduceLE, Int.reduceEq, Int.reduceToNat, Int.reduceAdd, Int.reduceSub, Int.reduceNeg, ↓reduceIte, reduceCtorEq, ↓C.q23_r24_w, C.q23_r24_b, ↓C.q23_c1_w, ↓C.q23_r4_w, C.q23_r4_b, ↓C.q23_c2_w, ↓C.q23_r5_w, C.q23_r5_b, ↓C.q23_b28_w, ↓C.q23_c29_w, ↓C.q23_c30_w, ↓C.q23_r3_w, C.q23_r3_b, ↓C.q23_b32_w, ↓C.q23_c33_w, ↓C.q23_r2_w, C.q23_r2_b, ↓C.q23_c34_w, ↓C.q23_r1_w, C.q23_r1_b, ↓C.q23_c35_w, ↓C.q23_r0_w, C.q23_r0_b, C.q23, hi5, l3, f3]
  rw [show putN [AV.int .u8 0, AV.int .i64 0, AV.bool false] 0 (Rs.cells ⟨ph, lf, kp⟩) = [.int .u8 ph, .int .i64 lf, .bool kp] from putN_all rfl, ASt.new_set hi5]
  have hns := fun a b => ASt.new_set hi5 a b
  have hTO := fun y : Rs => hO.alloc hi5 (.cells y.cells)
  have hle : ∀ y : Rs, (st.set js (.cells ((rtickTo rs i).flatMap Rs.cells))).le ((st.set js (.cells ((rtickTo rs i).flatMap Rs.cells))).new i5 (.cells y.cells)) := fun y => ASt.le.new _ _ _
  have hb5 : (st.set js (.cells ((rtickTo rs i).flatMap Rs.cells))).h i5 = none := fresh_of_le hO.2.1 hi5
  have hTq : ∀ (y : Rs) {t : ASt} {v : AV} {n : Nat} {cs : List AV}, Over ((st.set js (.cells ((rtickTo rs i).flatMap Rs.cells))).new i5 (.cells y.cells)) t 2 v n cs → t.h q = some (.cells [.sl 3 jd 0 D.length, .sl 3 js 0 D.length]) ∧ t.h js = some (.cells ((rtickTo rs i).flatMap Rs.cells)) ∧ t.h i5 = some (.cells y.cells) := fun y t v n cs hP =>
    ⟨hP.2.1 _ _ (ASt.new_old (by rw [ASt.set_h, if_neg (Ne.symm h.nq)]; exact hq)), hP.2.1 _ _ (ASt.new_old (by rw [ASt.set_h, if_pos rfl, hs]; rfl)), hP.2.1 _ _ (ASt.new_self _ hb5)⟩
  by_cases p1 : ph = 114
  · have hph := hrel.ph
    have hlf2 := hrel.lf
    have hk1 := hrel.k1
    simp only at hph hlf2 hk1
    have hgp : gs[i].phase = 114 := by rw [← hph]; exact p1
    rw [if_pos hgp] at hlf2
    subst p1
    by_cases hl : 0 < lf
    · have T1 := eq_true hl
      have wl : IntKind.i64.wrap (lf - 1) = lf - 1 := by rw [wrap64] <;> omega
      have hev : gev gs[i] = 0 := by unfold gev; rw [if_pos hgp, if_pos (by omega)]
      have hy : (⟨114, lf - 1, kp⟩ : Rs) = rtick ⟨114, lf, kp⟩ := by simp [rtick, hl]
      rw [if_neg (by simp [hev])] at hsucc
      simp only [↓Bp, Bq, Bs, ↓aop.eq_28, ↓aop.eq_30, Nat.reduceEqDiff, Nat.reduceAdd, Nat.reduceMul, Nat.reduceSub, Nat.reduceLeDiff, Nat.reduceLT, Int.reduceLT, Int.reduceLE, Int.reduceEq, Int.reduceToNat, Int.reduceAdd, Int.reduceSub, Int.reduceNeg, ↓reduceIte, reduceCtorEq, ↓C.q23_r24_w, C.q23_r24_b, ↓C.q23_c1_w, ↓C.q23_r4_w, C.q23_r4_b, ↓C.q23_c2_w, ↓C.q23_r7_w, C.q23_r7_b, ↓C.q23_r10_w, C.q23_r10_b, ↓C.q23_c4_w, ↓C.q23_r9_w, C.q23_r9_b, ↓C.q23_r13_w, C.q23_r13_b, ↓C.q23_c5_w, ↓C.q23_r12_w, C.q23_r12_b, ↓C.q23_r16_w, C.q23_r16_b, ↓C.q23_c6_w, ↓C.q23_r15_w, C.q23_r15_b, ↓C.q23_r19_w, C.q23_r19_b, ↓C.q23_c7_w, ↓C.q23_r18_w, C.q23_r18_b, ↓C.q23_r22_w, C.q23_r22_b, ↓C.q23_c8_w, ↓C.q23_r21_w, C.q23_r21_b, ↓C.q23_c9_w, ↓C.q23_c10_w, ↓C.q23_r20_w, C.q23_r20_b, ↓C.q23_c11_w, ↓C.q23_c12_w, ↓C.q23_c13_w, ↓C.q23_r17_w, C.q23_r17_b, ↓C.q23_c14_w, ↓C.q23_c15_w, ↓C.q23_c16_w, ↓C.q23_r14_w, C.q23_r14_b, ↓C.q23_c17_w, ↓C.q23_c18_w, ↓C.q23_c19_w, ↓C.q23_r11_w, C.q23_r11_b, ↓C.q23_c20_w, ↓C.q23_c21_w, ↓C.q23_c22_w, ↓C.q23_r8_w, C.q23_r8_b, ↓C.q23_c23_w, ↓C.q23_c24_w, ↓C.q23_c25_w, ↓C.q23_r6_w, C.q23_r6_b, ↓C.q23_b26_w, ↓C.q23_c27_w, ↓C.q23_r5_w, C.q23_r5_b, ↓C.q23_b28_w, ↓C.q23_c29_w, ↓C.q23_c30_w, ↓C.q23_r3_w, C.q23_r3_b, ↓C.q23_b32_w, ↓C.q23_c33_w, ↓C.q23_r2_w, C.q23_r2_b, ↓C.q23_c34_w, ↓C.q23_r1_w, C.q23_r1_b, ↓C.q23_c35_w, ↓C.q23_r0_w, C.q23_r0_b, C.q23, hi5, hns, gt_iff_lt, T1, wl]
      rw [C.q23_c3_w, awp_keep]
      have hP := hTO ⟨114, lf - 1, kp⟩
      obtain ⟨a1, a2, a3⟩ := hTq ⟨114, lf - 1, kp⟩ hP
      refine rt_back (y := ⟨114, lf - 1, kp⟩) a1 a2 a3 hnl hil fun fr e => ?_
      show awp Try.prog C.q23_c2 _ fr _
      rw [C.q23_c2_w, awp_keep, e]
      simp only [↓Bp, Bq, Bs, ↓aop.eq_28, ↓aop.eq_30, Nat.reduceEqDiff, Nat.reduceAdd, Nat.reduceMul, Nat.reduceSub, Nat.reduceLeDiff, Nat.reduceLT, Int.reduceLT, Int.reduceLE, Int.reduceEq, Int.reduceToNat, Int.reduceAdd, Int.reduceSub, Int.reduceNeg, ↓reduceIte, reduceCtorEq, ↓C.q23_W, C.q23_B, C.q23, hw]
      refine ⟨(i + 1, v), rfl, ⟨hil, ?_⟩, by simp only; omega⟩
      simp only
      rw [hsucc]
      exact hOm ⟨114, lf - 1, kp⟩ hy (hP.weak (hle ⟨114, lf - 1, kp⟩))
    have T1 := eq_false hl
    have hlg : ¬ 0 < gs[i].left := by omega
    cases kp
    · have hev : gev gs[i] = 110 := by unfold gev; rw [if_pos hgp, if_neg hlg, if_neg (by rw [← hk1 hgp]; decide)]
      have hy : (⟨104, lf, false⟩ : Rs) = rtick ⟨114, lf, false⟩ := by simp [rtick, hl]
      rw [if_pos (by simp [hev]), hev] at hsucc
      simp only [↓Bp, Bq, Bs, Nat.reduceEqDiff, Nat.reduceAdd, Nat.reduceMul, Nat.reduceSub, Nat.reduceLeDiff, Nat.reduceLT, Int.reduceLT, Int.reduceLE, Int.reduceEq, Int.reduceToNat, Int.reduceAdd, Int.reduceSub, Int.reduceNeg, ↓reduceIte, reduceCtorEq, ↓C.q23_r24_w, C.q23_r24_b, ↓C.q23_c1_w, ↓C.q23_r4_w, C.q23_r4_b, ↓C.q23_c2_w, ↓C.q23_r7_w, C.q23_r7_b, ↓C.q23_r10_w, C.q23_r10_b, ↓C.q23_c4_w, ↓C.q23_r9_w, C.q23_r9_b, ↓C.q23_r13_w, C.q23_r13_b, ↓C.q23_c5_w, ↓C.q23_r12_w, C.q23_r12_b, ↓C.q23_r16_w, C.q23_r16_b, ↓C.q23_c6_w, ↓C.q23_r15_w, C.q23_r15_b, ↓C.q23_r19_w, C.q23_r19_b, ↓C.q23_c7_w, ↓C.q23_r18_w, C.q23_r18_b, ↓C.q23_r22_w, C.q23_r22_b, ↓C.q23_c8_w, ↓C.q23_r21_w, C.q23_r21_b, ↓C.q23_c9_w, ↓C.q23_c10_w, ↓C.q23_r20_w, C.q23_r20_b, ↓C.q23_c11_w, ↓C.q23_c12_w, ↓C.q23_c13_w, ↓C.q23_r17_w, C.q23_r17_b, ↓C.q23_c14_w, ↓C.q23_c15_w, ↓C.q23_c16_w, ↓C.q23_r14_w, C.q23_r14_b, ↓C.q23_c17_w, ↓C.q23_c18_w, ↓C.q23_c19_w, ↓C.q23_r11_w, C.q23_r11_b, ↓C.q23_c20_w, ↓C.q23_c21_w, ↓C.q23_c22_w, ↓C.q23_r8_w, C.q23_r8_b, ↓C.q23_c23_w, ↓C.q23_c24_w, ↓C.q23_c25_w, ↓C.q23_r6_w, C.q23_r6_b, ↓C.q23_b26_w, ↓C.q23_c27_w, ↓C.q23_r5_w, C.q23_r5_b, ↓C.q23_b28_w, ↓C.q23_c29_w, ↓C.q23_c30_w, ↓C.q23_r3_w, C.q23_r3_b, ↓C.q23_b32_w, ↓C.q23_c33_w, ↓C.q23_r2_w, C.q23_r2_b, ↓C.q23_c34_w, ↓C.q23_r1_w, C.q23_r1_b, ↓C.q23_c35_w, ↓C.q23_r0_w, C.q23_r0_b, C.q23, hi5, hns, gt_iff_lt, T1]
      refine aop_append_over (hTO ⟨104, lf, false⟩) (by omega) (new := encEv (110, i)) rfl rfl rfl (fun _ => rfl) (fun _ => rfl) fun v1 v2 t3 hP => ?_
      obtain ⟨a1, a2, a3⟩ := hTq ⟨104, lf, false⟩ hP
      rw [C.q23_c3_w, awp_keep]
      refine rt_back (y := ⟨104, lf, false⟩) a1 a2 a3 hnl hil fun fr e => ?_
      show awp Try.prog C.q23_c2 _ fr _
      rw [C.q23_c2_w, awp_keep, e]
      simp only [↓Bp, Bq, Bs, ↓aop.eq_28, ↓aop.eq_30, Nat.reduceEqDiff, Nat.reduceAdd, Nat.reduceMul, Nat.reduceSub, Nat.reduceLeDiff, Nat.reduceLT, Int.reduceLT, Int.reduceLE, Int.reduceEq, Int.reduceToNat, Int.reduceAdd, Int.reduceSub, Int.reduceNeg, ↓reduceIte, reduceCtorEq, ↓C.q23_W, C.q23_B, C.q23, hw]
      refine ⟨(i + 1, v2), rfl, ⟨hil, ?_⟩, by simp only; omega⟩
      simp only
      rw [hsucc, List.length_append, List.flatMap_append]
      simpa using hOm ⟨104, lf, false⟩ hy (hP.weak (hle ⟨104, lf, false⟩))
    · have hev : gev gs[i] = 114 := by unfold gev; rw [if_pos hgp, if_neg hlg, if_pos (by rw [← hk1 hgp])]
      have hy : (⟨104, lf, true⟩ : Rs) = rtick ⟨114, lf, true⟩ := by simp [rtick, hl]
      rw [if_pos (by simp [hev]), hev] at hsucc
      simp only [↓Bp, Bq, Bs, Nat.reduceEqDiff, Nat.reduceAdd, Nat.reduceMul, Nat.reduceSub, Nat.reduceLeDiff, Nat.reduceLT, Int.reduceLT, Int.reduceLE, Int.reduceEq, Int.reduceToNat, Int.reduceAdd, Int.reduceSub, Int.reduceNeg, ↓reduceIte, reduceCtorEq, ↓C.q23_r24_w, C.q23_r24_b, ↓C.q23_c1_w, ↓C.q23_r4_w, C.q23_r4_b, ↓C.q23_c2_w, ↓C.q23_r7_w, C.q23_r7_b, ↓C.q23_r10_w, C.q23_r10_b, ↓C.q23_c4_w, ↓C.q23_r9_w, C.q23_r9_b, ↓C.q23_r13_w, C.q23_r13_b, ↓C.q23_c5_w, ↓C.q23_r12_w, C.q23_r12_b, ↓C.q23_r16_w, C.q23_r16_b, ↓C.q23_c6_w, ↓C.q23_r15_w, C.q23_r15_b, ↓C.q23_r19_w, C.q23_r19_b, ↓C.q23_c7_w, ↓C.q23_r18_w, C.q23_r18_b, ↓C.q23_r22_w, C.q23_r22_b, ↓C.q23_c8_w, ↓C.q23_r21_w, C.q23_r21_b, ↓C.q23_c9_w, ↓C.q23_c10_w, ↓C.q23_r20_w, C.q23_r20_b, ↓C.q23_c11_w, ↓C.q23_c12_w, ↓C.q23_c13_w, ↓C.q23_r17_w, C.q23_r17_b, ↓C.q23_c14_w, ↓C.q23_c15_w, ↓C.q23_c16_w, ↓C.q23_r14_w, C.q23_r14_b, ↓C.q23_c17_w, ↓C.q23_c18_w, ↓C.q23_c19_w, ↓C.q23_r11_w, C.q23_r11_b, ↓C.q23_c20_w, ↓C.q23_c21_w, ↓C.q23_c22_w, ↓C.q23_r8_w, C.q23_r8_b, ↓C.q23_c23_w, ↓C.q23_c24_w, ↓C.q23_c25_w, ↓C.q23_r6_w, C.q23_r6_b, ↓C.q23_b26_w, ↓C.q23_c27_w, ↓C.q23_r5_w, C.q23_r5_b, ↓C.q23_b28_w, ↓C.q23_c29_w, ↓C.q23_c30_w, ↓C.q23_r3_w, C.q23_r3_b, ↓C.q23_b32_w, ↓C.q23_c33_w, ↓C.q23_r2_w, C.q23_r2_b, ↓C.q23_c34_w, ↓C.q23_r1_w, C.q23_r1_b, ↓C.q23_c35_w, ↓C.q23_r0_w, C.q23_r0_b, C.q23, hi5, hns, gt_iff_lt, T1]
      refine aop_append_over (hTO ⟨104, lf, true⟩) (by omega) (new := encEv (114, i)) rfl rfl rfl (fun _ => rfl) (fun _ => rfl) fun v1 v2 t3 hP => ?_
      obtain ⟨a1, a2, a3⟩ := hTq ⟨104, lf, true⟩ hP
      rw [C.q23_c3_w, awp_keep]
      refine rt_back (y := ⟨104, lf, true⟩) a1 a2 a3 hnl hil fun fr e => ?_
      show awp Try.prog C.q23_c2 _ fr _
      rw [C.q23_c2_w, awp_keep, e]
      simp only [↓Bp, Bq, Bs, ↓aop.eq_28, ↓aop.eq_30, Nat.reduceEqDiff, Nat.reduceAdd, Nat.reduceMul, Nat.reduceSub, Nat.reduceLeDiff, Nat.reduceLT, Int.reduceLT, Int.reduceLE, Int.reduceEq, Int.reduceToNat, Int.reduceAdd, Int.reduceSub, Int.reduceNeg, ↓reduceIte, reduceCtorEq, ↓C.q23_W, C.q23_B, C.q23, hw]
      refine ⟨(i + 1, v2), rfl, ⟨hil, ?_⟩, by simp only; omega⟩
      simp only
      rw [hsucc, List.length_append, List.flatMap_append]
      simpa using hOm ⟨104, lf, true⟩ hy (hP.weak (hle ⟨104, lf, true⟩))
  have hph := hrel.ph
  have hk2 := hrel.k2
  simp only at hph hk2
  have hg1 : ¬ gs[i].phase = 114 := by rw [← hph]; exact p1
  have P1 := eq_false p1
  by_cases p2 : ph = 104
  · have hg2 : gs[i].phase = 104 := by rw [← hph]; exact p2
    subst p2
    have hev : gev gs[i] = 111 := by unfold gev; rw [if_neg hg1, if_pos hg2]
    have hy : (⟨49, lf, kp⟩ : Rs) = rtick ⟨104, lf, kp⟩ := by simp [rtick]
    rw [if_pos (by simp [hev]), hev] at hsucc
    simp only [↓Bp, Bq, Bs, Nat.reduceEqDiff, Nat.reduceAdd, Nat.reduceMul, Nat.reduceSub, Nat.reduceLeDiff, Nat.reduceLT, Int.reduceLT, Int.reduceLE, Int.reduceEq, Int.reduceToNat, Int.reduceAdd, Int.reduceSub, Int.reduceNeg, ↓reduceIte, reduceCtorEq, ↓C.q23_r24_w, C.q23_r24_b, ↓C.q23_c1_w, ↓C.q23_r4_w, C.q23_r4_b, ↓C.q23_c2_w, ↓C.q23_r7_w, C.q23_r7_b, ↓C.q23_r10_w, C.q23_r10_b, ↓C.q23_c4_w, ↓C.q23_r9_w, C.q23_r9_b, ↓C.q23_r13_w, C.q23_r13_b, ↓C.q23_c5_w, ↓C.q23_r12_w, C.q23_r12_b, ↓C.q23_r16_w, C.q23_r16_b, ↓C.q23_c6_w, ↓C.q23_r15_w, C.q23_r15_b, ↓C.q23_r19_w, C.q23_r19_b, ↓C.q23_c7_w, ↓C.q23_r18_w, C.q23_r18_b, ↓C.q23_r22_w, C.q23_r22_b, ↓C.q23_c8_w, ↓C.q23_r21_w, C.q23_r21_b, ↓C.q23_c9_w, ↓C.q23_c10_w, ↓C.q23_r20_w, C.q23_r20_b, ↓C.q23_c11_w, ↓C.q23_c12_w, ↓C.q23_c13_w, ↓C.q23_r17_w, C.q23_r17_b, ↓C.q23_c14_w, ↓C.q23_c15_w, ↓C.q23_c16_w, ↓C.q23_r14_w, C.q23_r14_b, ↓C.q23_c17_w, ↓C.q23_c18_w, ↓C.q23_c19_w, ↓C.q23_r11_w, C.q23_r11_b, ↓C.q23_c20_w, ↓C.q23_c21_w, ↓C.q23_c22_w, ↓C.q23_r8_w, C.q23_r8_b, ↓C.q23_c23_w, ↓C.q23_c24_w, ↓C.q23_c25_w, ↓C.q23_r6_w, C.q23_r6_b, ↓C.q23_b26_w, ↓C.q23_c27_w, ↓C.q23_r5_w, C.q23_r5_b, ↓C.q23_b28_w, ↓C.q23_c29_w, ↓C.q23_c30_w, ↓C.q23_r3_w, C.q23_r3_b, ↓C.q23_b32_w, ↓C.q23_c33_w, ↓C.q23_r2_w, C.q23_r2_b, ↓C.q23_c34_w, ↓C.q23_r1_w, C.q23_r1_b, ↓C.q23_c35_w, ↓C.q23_r0_w, C.q23_r0_b, C.q23, hi5, hns]
    refine aop_append_over (hTO ⟨49, lf, kp⟩) (by omega) (new := encEv (111, i)) rfl rfl rfl (fun _ => rfl) (fun _ => rfl) fun v1 v2 t3 hP => ?_
    obtain ⟨a1, a2, a3⟩ := hTq ⟨49, lf, kp⟩ hP
    rw [C.q23_c3_w, awp_keep]
    refine rt_back (y := ⟨49, lf, kp⟩) a1 a2 a3 hnl hil fun fr e => ?_
    show awp Try.prog C.q23_c2 _ fr _
    rw [C.q23_c2_w, awp_keep, e]
    simp only [↓Bp, Bq, Bs, ↓aop.eq_28, ↓aop.eq_30, Nat.reduceEqDiff, Nat.reduceAdd, Nat.reduceMul, Nat.reduceSub, Nat.reduceLeDiff, Nat.reduceLT, Int.reduceLT, Int.reduceLE, Int.reduceEq, Int.reduceToNat, Int.reduceAdd, Int.reduceSub, Int.reduceNeg, ↓reduceIte, reduceCtorEq, ↓C.q23_W, C.q23_B, C.q23, hw]
    refine ⟨(i + 1, v2), rfl, ⟨hil, ?_⟩, by simp only; omega⟩
    simp only
    rw [hsucc, List.length_append, List.flatMap_append]
    simpa using hOm ⟨49, lf, kp⟩ hy (hP.weak (hle ⟨49, lf, kp⟩))
  have hg2 : ¬ gs[i].phase = 104 := by rw [← hph]; exact p2
  have P2 := eq_false p2
  by_cases p3 : ph = 99
  · have hg3 : gs[i].phase = 99 := by rw [← hph]; exact p3
    subst p3
    cases kp
    · have hev : gev gs[i] = 108 := by unfold gev; rw [if_neg hg1, if_neg hg2, if_pos hg3, if_neg (by rw [← hk2 hg3]; decide)]
      have hy : (⟨48, lf, false⟩ : Rs) = rtick ⟨99, lf, false⟩ := by simp [rtick]
      rw [if_pos (by simp [hev]), hev] at hsucc
      simp only [↓Bp, Bq, Bs, Nat.reduceEqDiff, Nat.reduceAdd, Nat.reduceMul, Nat.reduceSub, Nat.reduceLeDiff, Nat.reduceLT, Int.reduceLT, Int.reduceLE, Int.reduceEq, Int.reduceToNat, Int.reduceAdd, Int.reduceSub, Int.reduceNeg, ↓reduceIte, reduceCtorEq, ↓C.q23_r24_w, C.q23_r24_b, ↓C.q23_c1_w, ↓C.q23_r4_w, C.q23_r4_b, ↓C.q23_c2_w, ↓C.q23_r7_w, C.q23_r7_b, ↓C.q23_r10_w, C.q23_r10_b, ↓C.q23_c4_w, ↓C.q23_r9_w, C.q23_r9_b, ↓C.q23_r13_w, C.q23_r13_b, ↓C.q23_c5_w, ↓C.q23_r12_w, C.q23_r12_b, ↓C.q23_r16_w, C.q23_r16_b, ↓C.q23_c6_w, ↓C.q23_r15_w, C.q23_r15_b, ↓C.q23_r19_w, C.q23_r19_b, ↓C.q23_c7_w, ↓C.q23_r18_w, C.q23_r18_b, ↓C.q23_r22_w, C.q23_r22_b, ↓C.q23_c8_w, ↓C.q23_r21_w, C.q23_r21_b, ↓C.q23_c9_w, ↓C.q23_c10_w, ↓C.q23_r20_w, C.q23_r20_b, ↓C.q23_c11_w, ↓C.q23_c12_w, ↓C.q23_c13_w, ↓C.q23_r17_w, C.q23_r17_b, ↓C.q23_c14_w, ↓C.q23_c15_w, ↓C.q23_c16_w, ↓C.q23_r14_w, C.q23_r14_b, ↓C.q23_c17_w, ↓C.q23_c18_w, ↓C.q23_c19_w, ↓C.q23_r11_w, C.q23_r11_b, ↓C.q23_c20_w, ↓C.q23_c21_w, ↓C.q23_c22_w, ↓C.q23_r8_w, C.q23_r8_b, ↓C.q23_c23_w, ↓C.q23_c24_w, ↓C.q23_c25_w, ↓C.q23_r6_w, C.q23_r6_b, ↓C.q23_b26_w, ↓C.q23_c27_w, ↓C.q23_r5_w, C.q23_r5_b, ↓C.q23_b28_w, ↓C.q23_c29_w, ↓C.q23_c30_w, ↓C.q23_r3_w, C.q23_r3_b, ↓C.q23_b32_w, ↓C.q23_c33_w, ↓C.q23_r2_w, C.q23_r2_b, ↓C.q23_c34_w, ↓C.q23_r1_w, C.q23_r1_b, ↓C.q23_c35_w, ↓C.q23_r0_w, C.q23_r0_b, C.q23, hi5, hns]
      refine aop_append_over (hTO ⟨48, lf, false⟩) (by omega) (new := encEv (108, i)) rfl rfl rfl (fun _ => rfl) (fun _ => rfl) fun v1 v2 t3 hP => ?_
      obtain ⟨a1, a2, a3⟩ := hTq ⟨48, lf, false⟩ hP
      rw [C.q23_c3_w, awp_keep]
      refine rt_back (y := ⟨48, lf, false⟩) a1 a2 a3 hnl hil fun fr e => ?_
      show awp Try.prog C.q23_c2 _ fr _
      rw [C.q23_c2_w, awp_keep, e]
      simp only [↓Bp, Bq, Bs, ↓aop.eq_28, ↓aop.eq_30, Nat.reduceEqDiff, Nat.reduceAdd, Nat.reduceMul, Nat.reduceSub, Nat.reduceLeDiff, Nat.reduceLT, Int.reduceLT, Int.reduceLE, Int.reduceEq, Int.reduceToNat, Int.reduceAdd, Int.reduceSub, Int.reduceNeg, ↓reduceIte, reduceCtorEq, ↓C.q23_W, C.q23_B, C.q23, hw]
      refine ⟨(i + 1, v2), rfl, ⟨hil, ?_⟩, by simp only; omega⟩
      simp only
      rw [hsucc, List.length_append, List.flatMap_append]
      simpa using hOm ⟨48, lf, false⟩ hy (hP.weak (hle ⟨48, lf, false⟩))
    · have hev : gev gs[i] = 115 := by unfold gev; rw [if_neg hg1, if_neg hg2, if_pos hg3, if_pos (by rw [← hk2 hg3])]
      have hy : (⟨116, lf, true⟩ : Rs) = rtick ⟨99, lf, true⟩ := by simp [rtick]
      rw [if_pos (by simp [hev]), hev] at hsucc
      simp only [↓Bp, Bq, Bs, Nat.reduceEqDiff, Nat.reduceAdd, Nat.reduceMul, Nat.reduceSub, Nat.reduceLeDiff, Nat.reduceLT, Int.reduceLT, Int.reduceLE, Int.reduceEq, Int.reduceToNat, Int.reduceAdd, Int.reduceSub, Int.reduceNeg, ↓reduceIte, reduceCtorEq, ↓C.q23_r24_w, C.q23_r24_b, ↓C.q23_c1_w, ↓C.q23_r4_w, C.q23_r4_b, ↓C.q23_c2_w, ↓C.q23_r7_w, C.q23_r7_b, ↓C.q23_r10_w, C.q23_r10_b, ↓C.q23_c4_w, ↓C.q23_r9_w, C.q23_r9_b, ↓C.q23_r13_w, C.q23_r13_b, ↓C.q23_c5_w, ↓C.q23_r12_w, C.q23_r12_b, ↓C.q23_r16_w, C.q23_r16_b, ↓C.q23_c6_w, ↓C.q23_r15_w, C.q23_r15_b, ↓C.q23_r19_w, C.q23_r19_b, ↓C.q23_c7_w, ↓C.q23_r18_w, C.q23_r18_b, ↓C.q23_r22_w, C.q23_r22_b, ↓C.q23_c8_w, ↓C.q23_r21_w, C.q23_r21_b, ↓C.q23_c9_w, ↓C.q23_c10_w, ↓C.q23_r20_w, C.q23_r20_b, ↓C.q23_c11_w, ↓C.q23_c12_w, ↓C.q23_c13_w, ↓C.q23_r17_w, C.q23_r17_b, ↓C.q23_c14_w, ↓C.q23_c15_w, ↓C.q23_c16_w, ↓C.q23_r14_w, C.q23_r14_b, ↓C.q23_c17_w, ↓C.q23_c18_w, ↓C.q23_c19_w, ↓C.q23_r11_w, C.q23_r11_b, ↓C.q23_c20_w, ↓C.q23_c21_w, ↓C.q23_c22_w, ↓C.q23_r8_w, C.q23_r8_b, ↓C.q23_c23_w, ↓C.q23_c24_w, ↓C.q23_c25_w, ↓C.q23_r6_w, C.q23_r6_b, ↓C.q23_b26_w, ↓C.q23_c27_w, ↓C.q23_r5_w, C.q23_r5_b, ↓C.q23_b28_w, ↓C.q23_c29_w, ↓C.q23_c30_w, ↓C.q23_r3_w, C.q23_r3_b, ↓C.q23_b32_w, ↓C.q23_c33_w, ↓C.q23_r2_w, C.q23_r2_b, ↓C.q23_c34_w, ↓C.q23_r1_w, C.q23_r1_b, ↓C.q23_c35_w, ↓C.q23_r0_w, C.q23_r0_b, C.q23, hi5, hns]
      refine aop_append_over (hTO ⟨116, lf, true⟩) (by omega) (new := encEv (115, i)) rfl rfl rfl (fun _ => rfl) (fun _ => rfl) fun v1 v2 t3 hP => ?_
      obtain ⟨a1, a2, a3⟩ := hTq ⟨116, lf, true⟩ hP
      rw [C.q23_c3_w, awp_keep]
      refine rt_back (y := ⟨116, lf, true⟩) a1 a2 a3 hnl hil fun fr e => ?_
      show awp Try.prog C.q23_c2 _ fr _
      rw [C.q23_c2_w, awp_keep, e]
      simp only [↓Bp, Bq, Bs, ↓aop.eq_28, ↓aop.eq_30, Nat.reduceEqDiff, Nat.reduceAdd, Nat.reduceMul, Nat.reduceSub, Nat.reduceLeDiff, Nat.reduceLT, Int.reduceLT, Int.reduceLE, Int.reduceEq, Int.reduceToNat, Int.reduceAdd, Int.reduceSub, Int.reduceNeg, ↓reduceIte, reduceCtorEq, ↓C.q23_W, C.q23_B, C.q23, hw]
      refine ⟨(i + 1, v2), rfl, ⟨hil, ?_⟩, by simp only; omega⟩
      simp only
      rw [hsucc, List.length_append, List.flatMap_append]
      simpa using hOm ⟨116, lf, true⟩ hy (hP.weak (hle ⟨116, lf, true⟩))
  have hg3 : ¬ gs[i].phase = 99 := by rw [← hph]; exact p3
  have P3 := eq_false p3
  have hev : gev gs[i] = 0 := by unfold gev; rw [if_neg hg1, if_neg hg2, if_neg hg3]
  have hy : (⟨ph, lf, kp⟩ : Rs) = rtick ⟨ph, lf, kp⟩ := by simp [rtick, p1, p2, p3]
  rw [if_neg (by simp [hev])] at hsucc
  simp only [↓Bp, Bq, Bs, ↓aop.eq_28, ↓aop.eq_30, Nat.reduceEqDiff, Nat.reduceAdd, Nat.reduceMul, Nat.reduceSub, Nat.reduceLeDiff, Nat.reduceLT, Int.reduceLT, Int.reduceLE, Int.reduceEq, Int.reduceToNat, Int.reduceAdd, Int.reduceSub, Int.reduceNeg, ↓reduceIte, reduceCtorEq, ↓C.q23_r24_w, C.q23_r24_b, ↓C.q23_c1_w, ↓C.q23_r4_w, C.q23_r4_b, ↓C.q23_c2_w, ↓C.q23_r7_w, C.q23_r7_b, ↓C.q23_r10_w, C.q23_r10_b, ↓C.q23_c4_w, ↓C.q23_r9_w, C.q23_r9_b, ↓C.q23_r13_w, C.q23_r13_b, ↓C.q23_c5_w, ↓C.q23_r12_w, C.q23_r12_b, ↓C.q23_r16_w, C.q23_r16_b, ↓C.q23_c6_w, ↓C.q23_r15_w, C.q23_r15_b, ↓C.q23_r19_w, C.q23_r19_b, ↓C.q23_c7_w, ↓C.q23_r18_w, C.q23_r18_b, ↓C.q23_r22_w, C.q23_r22_b, ↓C.q23_c8_w, ↓C.q23_r21_w, C.q23_r21_b, ↓C.q23_c9_w, ↓C.q23_c10_w, ↓C.q23_r20_w, C.q23_r20_b, ↓C.q23_c11_w, ↓C.q23_c12_w, ↓C.q23_c13_w, ↓C.q23_r17_w, C.q23_r17_b, ↓C.q23_c14_w, ↓C.q23_c15_w, ↓C.q23_c16_w, ↓C.q23_r14_w, C.q23_r14_b, ↓C.q23_c17_w, ↓C.q23_c18_w, ↓C.q23_c19_w, ↓C.q23_r11_w, C.q23_r11_b, ↓C.q23_c20_w, ↓C.q23_c21_w, ↓C.q23_c22_w, ↓C.q23_r8_w, C.q23_r8_b, ↓C.q23_c23_w, ↓C.q23_c24_w, ↓C.q23_c25_w, ↓C.q23_r6_w, C.q23_r6_b, ↓C.q23_b26_w, ↓C.q23_c27_w, ↓C.q23_r5_w, C.q23_r5_b, ↓C.q23_b28_w, ↓C.q23_c29_w, ↓C.q23_c30_w, ↓C.q23_r3_w, C.q23_r3_b, ↓C.q23_b32_w, ↓C.q23_c33_w, ↓C.q23_r2_w, C.q23_r2_b, ↓C.q23_c34_w, ↓C.q23_r1_w, C.q23_r1_b, ↓C.q23_c35_w, ↓C.q23_r0_w, C.q23_r0_b, C.q23, hi5, hns, P1, P2, P3]
  rw [C.q23_c3_w, awp_keep]
  have hP := hTO ⟨ph, lf, kp⟩
  obtain ⟨a1, a2, a3⟩ := hTq ⟨ph, lf, kp⟩ hP
  refine rt_back (y := ⟨ph, lf, kp⟩) a1 a2 a3 hnl hil fun fr e => ?_
  show awp Try.prog C.q23_c2 _ fr _
  rw [C.q23_c2_w, awp_keep, e]
  simp only [↓Bp, Bq, Bs, ↓aop.eq_28, ↓aop.eq_30, Nat.reduceEqDiff, Nat.reduceAdd, Nat.reduceMul, Nat.reduceSub, Nat.reduceLeDiff, Nat.reduceLT, Int.reduceLT, Int.reduceLE, Int.reduceEq, Int.reduceToNat, Int.reduceAdd, Int.reduceSub, Int.reduceNeg, ↓reduceIte, reduceCtorEq, ↓C.q23_W, C.q23_B, C.q23, hw]
  refine ⟨(i + 1, v), rfl, ⟨hil, ?_⟩, by simp only; omega⟩
  simp only
  rw [hsucc]
  exact hOm ⟨ph, lf, kp⟩ hy (hP.weak (hle ⟨ph, lf, kp⟩))
theorem rtick_spec {base st : ASt} {q jd js : Nat} {D : List Dom} {rs : List Rs} (h : RefG base st q jd js D rs) {gs : List Gd} (hR : RelL gs rs) (hI : GInv D gs) (hn : D.length ≤ 1000) :
    ACalls Try.prog F.q23 [.ptr q 0] st fun r s => r = evsV (evs gs) ∧ ∃ rs', RefG base s q jd js D rs' ∧ RelL (gtickL gs) rs' ∧ Kept base st s :=
  (rtick0 h hR hI hn).mono fun r s ⟨h1, h2⟩ => by
    subst h2
    obtain ⟨h3, h4⟩ := h.put (rs' := rtickL rs) (by simp [rtickL])
    exact ⟨h1, _, h3, hR.tick fun g hg => (hI.left g hg).1, h4⟩
end Go.Proofs.Ytgfpnfnjnakoaaa.Cn
