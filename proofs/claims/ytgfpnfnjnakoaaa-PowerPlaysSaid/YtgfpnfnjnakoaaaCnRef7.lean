/- Power: the document's grid, what it answers. -/
import Derived.Test.YtgfpnfnjnakoaaaCnPower7
import Derived.Test.YtgfpnfnjnakoaaaCnRef4
set_option linter.unusedSimpArgs false
set_option linter.unusedVariables false
set_option linter.unusedSectionVars false
namespace Go.Proofs.Ytgfpnfnjnakoaaa.Cn
open Go Go.Proofs

/-- A domain of the document's grid. -/
structure Rs where
  ph : Int
  left : Int
  kept : Bool
def Rs.cells (r : Rs) : List AV := [.int .u8 r.ph, .int .i64 r.left, .bool r.kept]
theorem Rs.cells_len (r : Rs) : r.cells.length = 3 := rfl
/-- One is as the other. -/
structure RelG (g : Gd) (r : Rs) : Prop where
  ph : r.ph = g.phase
  lf : r.left = if g.phase = 114 then g.left else 0
  k1 : g.phase = 114 → r.kept = g.back
  k2 : g.phase = 99 → r.kept = g.keep
structure RelL (gs : List Gd) (rs : List Rs) : Prop where
  len : rs.length = gs.length
  rel : ∀ i (h : i < gs.length) (h' : i < rs.length), RelG gs[i] rs[i]
theorem RelL.set {gs : List Gd} {rs : List Rs} (h : RelL gs rs) {k : Nat} {g : Gd} {r : Rs} (hr : RelG g r) : RelL (gs.set k g) (rs.set k r) where
  len := by simp [h.len]
  rel := fun i h1 h2 => by
    simp only [List.length_set] at h1 h2
    rw [List.getElem_set, List.getElem_set]
    split
    · exact hr
    · exact h.rel i h1 h2
/-- The document's grid, in blocks of its own beside a heap. -/
structure RefG (base st : ASt) (q jd js : Nat) (D : List Dom) (rs : List Rs) : Prop where
  hq : st.h q = some (.cells [.sl 3 jd 0 D.length, .sl 3 js 0 D.length])
  hd : st.h jd = some (.cells (D.flatMap Dom.cells))
  hs : st.h js = some (.cells (rs.flatMap Rs.cells))
  len : rs.length = D.length
  nq : js ≠ q
  nd : js ≠ jd
  bq : base.h q = none
  bd : base.h jd = none
  bs : base.h js = none
/-- Nothing that stood in the base is touched. -/
def Kept (base s s' : ASt) : Prop := ∀ j, base.h j ≠ none → s'.h j = s.h j
theorem Kept.refl (base s : ASt) : Kept base s s := fun _ _ => rfl
theorem RefG.put {base st : ASt} {q jd js : Nat} {D : List Dom} {rs : List Rs} (h : RefG base st q jd js D rs) {rs' : List Rs} (hl : rs'.length = rs.length) :
    RefG base (st.set js (.cells (rs'.flatMap Rs.cells))) q jd js D rs' ∧ Kept base st (st.set js (.cells (rs'.flatMap Rs.cells))) :=
  ⟨⟨by rw [ASt.set_h, if_neg (Ne.symm h.nq)]; exact h.hq, by rw [ASt.set_h, if_neg (Ne.symm h.nd)]; exact h.hd, by rw [ASt.set_h, if_pos rfl, h.hs]; rfl, by rw [hl, h.len], h.nq, h.nd, h.bq, h.bd, h.bs⟩,
   fun j hj => by rw [ASt.set_h, if_neg (by rintro rfl; exact hj h.bs)]⟩
theorem RefG.other {base s s' : ASt} {q jd js : Nat} {D : List Dom} {rs : List Rs} (h : RefG base s q jd js D rs) (hk : ∀ j, base.h j = none → s'.h j = s.h j) : RefG base s' q jd js D rs :=
  ⟨by rw [hk _ h.bq]; exact h.hq, by rw [hk _ h.bd]; exact h.hd, by rw [hk _ h.bs]; exact h.hs, h.len, h.nq, h.nd, h.bq, h.bd, h.bs⟩
def isDm (D : List Dom) (i : Int) : Prop := 0 ≤ i ∧ i < (D.length : Int)
instance (D : List Dom) (i : Int) : Decidable (isDm D i) := inferInstanceAs (Decidable (_ ∧ _))
theorem rs_get {rs : List Rs} {i j : Nat} (hi : i < rs.length) (hj : j < 3) : (rs.flatMap Rs.cells)[i * 3 + j]? = rs[i].cells[j]? := rows_get Rs.cells (w := 3) (fun _ => rfl) hi hj
theorem rs_put {rs : List Rs} {i j : Nat} (hi : i < rs.length) (hj : j < 3) {v : AV} {r : Rs} (hx : rs[i].cells.set j v = r.cells) : (rs.flatMap Rs.cells).set (i * 3 + j) v = (rs.set i r).flatMap Rs.cells :=
  flatMap_set Rs.cells_len hi hj hx
theorem rs_fit {rs : List Rs} {i : Nat} (hi : i < rs.length) : i * 3 + 3 ≤ (rs.flatMap Rs.cells).length := flatMap_fits (f := Rs.cells) (k := 3) (fun _ => rfl) hi
section
variable {base st : ASt} {q jd js : Nat} {D : List Dom} {rs : List Rs} (h : RefG base st q jd js D rs)
include h
theorem rthere_spec (i : Int) : ACalls Try.prog F.q25 [.ptr q 0, .int .i64 i] st fun r s => r = .bool (decide (isDm D i)) ∧ s = st := by
  refine calls_of_awp L.q25 rfl ?_
  have hq := h.hq
  by_cases h0 : 0 ≤ i
  · have T0 := eq_true h0
    simp only [↓Bp, Bq, Bs, ↓aop.eq_28, ↓aop.eq_30, Nat.reduceEqDiff, Nat.reduceAdd, Nat.reduceMul, Nat.reduceSub, Nat.reduceLeDiff, Nat.reduceLT, Int.reduceLT, Int.reduceLE, Int.reduceEq, Int.reduceToNat, Int.reduceAdd, Int.reduceSub, Int.reduceNeg, ↓reduceIte, reduceCtorEq, ↓C.q25_W, C.q25_B, C.q25, ge_iff_le, T0, hq]
    simp [isDm, h0]
  · have T0 := eq_false h0
    simp only [↓Bp, Bq, Bs, ↓aop.eq_28, ↓aop.eq_30, Nat.reduceEqDiff, Nat.reduceAdd, Nat.reduceMul, Nat.reduceSub, Nat.reduceLeDiff, Nat.reduceLT, Int.reduceLT, Int.reduceLE, Int.reduceEq, Int.reduceToNat, Int.reduceAdd, Int.reduceSub, Int.reduceNeg, ↓reduceIte, reduceCtorEq, ↓C.q25_W, C.q25_B, C.q25, ge_iff_le, T0, hq]
    simp [isDm, h0]
theorem rphase_spec {gs : List Gd} (hR : RelL gs rs) (i : Int) : ACalls Try.prog F.q22 [.ptr q 0, .int .i64 i] st fun r s => r = .int .u8 (if h : isGd gs i then (gs[i.toNat]'(by have := h.1; have := h.2; omega)).phase else 0) ∧ s = st := by
  refine calls_of_awp L.q22 rfl ?_
  have hgl : gs.length = D.length := by rw [← hR.len, h.len]
  simp only [↓Bp, Bq, Bs, ↓aop.eq_28, ↓aop.eq_30, Nat.reduceEqDiff, Nat.reduceAdd, Nat.reduceMul, Nat.reduceSub, Nat.reduceLeDiff, Nat.reduceLT, Int.reduceLT, Int.reduceLE, Int.reduceEq, Int.reduceToNat, Int.reduceAdd, Int.reduceSub, Int.reduceNeg, ↓reduceIte, reduceCtorEq, ↓C.q22_W, C.q22_B, C.q22]
  refine (rthere_spec h i).mono ?_
  rintro r s ⟨rfl, rfl⟩
  by_cases hi : isGd gs i
  · have hi2 : isDm D i := ⟨hi.1, by rw [← hgl]; exact hi.2⟩
    obtain ⟨k, rfl⟩ : ∃ k : Nat, i = k := ⟨i.toNat, by have := hi.1; omega⟩
    have hk : k < gs.length := by have := hi.2; omega
    have hkr : k < rs.length := by rw [hR.len]; exact hk
    have hz : (0:Int) ≤ (k : Int) ∧ (k : Int) < (D.length : Nat) := hi2
    have hq := h.hq
    have hs := h.hs
    have g0 := rs_get hkr (j := 0) (by omega)
    rw [show rs[k].cells[0]? = some (.int .u8 rs[k].ph) from rfl, (hR.rel k hk hkr).ph, Nat.add_zero] at g0
    rw [dif_pos hi, decide_eq_true hi2]
    simp only [↓Bp, Bq, Bs, ↓aop.eq_28, ↓aop.eq_30, Nat.reduceEqDiff, Nat.reduceAdd, Nat.reduceMul, Nat.reduceSub, Nat.reduceLeDiff, Nat.reduceLT, Int.reduceLT, Int.reduceLE, Int.reduceEq, Int.reduceToNat, Int.reduceAdd, Int.reduceSub, Int.reduceNeg, ↓reduceIte, reduceCtorEq, ↓C.q22_W, C.q22_B, C.q22, hq, hs, hz, Int.toNat_natCast, g0]
  · have hi2 : ¬ isDm D i := fun e => hi ⟨e.1, by rw [hgl]; exact e.2⟩
    rw [dif_neg hi, decide_eq_false hi2]
    simp only [↓Bp, Bq, Bs, ↓aop.eq_28, ↓aop.eq_30, Nat.reduceEqDiff, Nat.reduceAdd, Nat.reduceMul, Nat.reduceSub, Nat.reduceLeDiff, Nat.reduceLT, Int.reduceLT, Int.reduceLE, Int.reduceEq, Int.reduceToNat, Int.reduceAdd, Int.reduceSub, Int.reduceNeg, ↓reduceIte, reduceCtorEq, ↓C.q22_W, C.q22_B, C.q22]
theorem rleft_spec {gs : List Gd} (hR : RelL gs rs) (i : Int) : ACalls Try.prog F.q21 [.ptr q 0, .int .i64 i] st fun r s => r = .int .i64 (if h : isGd gs i then (if (gs[i.toNat]'(by have := h.1; have := h.2; omega)).phase = 114 then (gs[i.toNat]'(by have := h.1; have := h.2; omega)).left else 0) else 0) ∧ s = st := by
  refine calls_of_awp L.q21 rfl ?_
  have hgl : gs.length = D.length := by rw [← hR.len, h.len]
  simp only [↓Bp, Bq, Bs, ↓aop.eq_28, ↓aop.eq_30, Nat.reduceEqDiff, Nat.reduceAdd, Nat.reduceMul, Nat.reduceSub, Nat.reduceLeDiff, Nat.reduceLT, Int.reduceLT, Int.reduceLE, Int.reduceEq, Int.reduceToNat, Int.reduceAdd, Int.reduceSub, Int.reduceNeg, ↓reduceIte, reduceCtorEq, ↓C.q21_W, C.q21_B, C.q21]
  refine (rthere_spec h i).mono ?_
  rintro r s ⟨rfl, rfl⟩
  by_cases hi : isGd gs i
  · have hi2 : isDm D i := ⟨hi.1, by rw [← hgl]; exact hi.2⟩
    obtain ⟨k, rfl⟩ : ∃ k : Nat, i = k := ⟨i.toNat, by have := hi.1; omega⟩
    have hk : k < gs.length := by have := hi.2; omega
    have hkr : k < rs.length := by rw [hR.len]; exact hk
    have hz : (0:Int) ≤ (k : Int) ∧ (k : Int) < (D.length : Nat) := hi2
    have hq := h.hq
    have hs := h.hs
    have g0 := rs_get hkr (j := 1) (by omega)
    rw [show rs[k].cells[1]? = some (.int .i64 rs[k].left) from rfl, (hR.rel k hk hkr).lf] at g0
    rw [dif_pos hi, decide_eq_true hi2]
    simp only [↓Bp, Bq, Bs, ↓aop.eq_28, ↓aop.eq_30, Nat.reduceEqDiff, Nat.reduceAdd, Nat.reduceMul, Nat.reduceSub, Nat.reduceLeDiff, Nat.reduceLT, Int.reduceLT, Int.reduceLE, Int.reduceEq, Int.reduceToNat, Int.reduceAdd, Int.reduceSub, Int.reduceNeg, ↓reduceIte, reduceCtorEq, ↓C.q21_W, C.q21_B, C.q21, hq, hs, hz, Int.toNat_natCast, g0]
  · have hi2 : ¬ isDm D i := fun e => hi ⟨e.1, by rw [hgl]; exact e.2⟩
    rw [dif_neg hi, decide_eq_false hi2]
    simp only [↓Bp, Bq, Bs, ↓aop.eq_28, ↓aop.eq_30, Nat.reduceEqDiff, Nat.reduceAdd, Nat.reduceMul, Nat.reduceSub, Nat.reduceLeDiff, Nat.reduceLT, Int.reduceLT, Int.reduceLE, Int.reduceEq, Int.reduceToNat, Int.reduceAdd, Int.reduceSub, Int.reduceNeg, ↓reduceIte, reduceCtorEq, ↓C.q21_W, C.q21_B, C.q21]
theorem rup_none {i : Int} (hi : ¬ isDm D i) : ACalls Try.prog F.q24 [.ptr q 0, .int .i64 i] st fun r s => r = .int .i64 4 ∧ s = st := by
  refine calls_of_awp L.q24 rfl ?_
  simp only [↓Bp, Bq, Bs, ↓aop.eq_28, ↓aop.eq_30, Nat.reduceEqDiff, Nat.reduceAdd, Nat.reduceMul, Nat.reduceSub, Nat.reduceLeDiff, Nat.reduceLT, Int.reduceLT, Int.reduceLE, Int.reduceEq, Int.reduceToNat, Int.reduceAdd, Int.reduceSub, Int.reduceNeg, ↓reduceIte, reduceCtorEq, ↓C.q24_W, C.q24_B, C.q24]
  refine (rthere_spec h i).mono ?_
  rintro r s ⟨rfl, rfl⟩
  rw [decide_eq_false hi]
  simp only [↓Bp, Bq, Bs, ↓aop.eq_28, ↓aop.eq_30, Nat.reduceEqDiff, Nat.reduceAdd, Nat.reduceMul, Nat.reduceSub, Nat.reduceLeDiff, Nat.reduceLT, Int.reduceLT, Int.reduceLE, Int.reduceEq, Int.reduceToNat, Int.reduceAdd, Int.reduceSub, Int.reduceNeg, ↓reduceIte, reduceCtorEq, ↓C.q24_W, C.q24_B, C.q24]
theorem rdown_none {i : Int} (hi : ¬ isDm D i) (k : Bool) : ACalls Try.prog F.q20 [.ptr q 0, .int .i64 i, .bool k] st fun r s => r = .int .i64 4 ∧ s = st := by
  refine calls_of_awp L.q20 rfl ?_
  simp only [↓Bp, Bq, Bs, ↓aop.eq_28, ↓aop.eq_30, Nat.reduceEqDiff, Nat.reduceAdd, Nat.reduceMul, Nat.reduceSub, Nat.reduceLeDiff, Nat.reduceLT, Int.reduceLT, Int.reduceLE, Int.reduceEq, Int.reduceToNat, Int.reduceAdd, Int.reduceSub, Int.reduceNeg, ↓reduceIte, reduceCtorEq, ↓C.q20_W, C.q20_B, C.q20]
  refine (rthere_spec h i).mono ?_
  rintro r s ⟨rfl, rfl⟩
  rw [decide_eq_false hi]
  simp only [↓Bp, Bq, Bs, ↓aop.eq_28, ↓aop.eq_30, Nat.reduceEqDiff, Nat.reduceAdd, Nat.reduceMul, Nat.reduceSub, Nat.reduceLeDiff, Nat.reduceLT, Int.reduceLT, Int.reduceLE, Int.reduceEq, Int.reduceToNat, Int.reduceAdd, Int.reduceSub, Int.reduceNeg, ↓reduceIte, reduceCtorEq, ↓C.q20_W, C.q20_B, C.q20]
set_option maxHeartbeats 1000000 in
theorem rup_spec {gs : List Gd} (hR : RelL gs rs) (hI : GInv D gs) {i : Nat} (hi : i < gs.length) :
    ACalls Try.prog F.q24 [.ptr q 0, .int .i64 i] st fun r s => r = .int .i64 (upE gs i hi) ∧ ∃ rs', RefG base s q jd js D rs' ∧ RelL (upG gs i hi) rs' ∧ Kept base st s := by
  refine calls_of_awp L.q24 rfl ?_
  have hgl := hI.len
  have hiD : i < D.length := by omega
  have hir : i < rs.length := by rw [hR.len]; exact hi
  have hi2 : isDm D (i : Int) := ⟨by omega, by omega⟩
  have hz : (0:Int) ≤ (i : Int) ∧ (i : Int) < (D.length : Nat) := hi2
  have hq := h.hq
  have hs := h.hs
  have hd := h.hd
  have hrel := hR.rel i hi hir
  have hsame := hI.same i hi hiD
  have g0 := rs_get hir (j := 0) (by omega)
  rw [show rs[i].cells[0]? = some (.int .u8 rs[i].ph) from rfl, hrel.ph, Nat.add_zero] at g0
  have d0 := (dom_gets hiD).1
  rw [← hsame.1] at d0
  have d1 := (dom_gets hiD).2.1
  rw [← hsame.2.1] at d1
  simp only [↓Bp, Bq, Bs, ↓aop.eq_28, ↓aop.eq_30, Nat.reduceEqDiff, Nat.reduceAdd, Nat.reduceMul, Nat.reduceSub, Nat.reduceLeDiff, Nat.reduceLT, Int.reduceLT, Int.reduceLE, Int.reduceEq, Int.reduceToNat, Int.reduceAdd, Int.reduceSub, Int.reduceNeg, ↓reduceIte, reduceCtorEq, ↓C.q24_W, C.q24_B, C.q24]
  refine (rthere_spec h i).mono ?_
  rintro r s ⟨rfl, rfl⟩
  rw [decide_eq_true hi2]
  have no : upE gs i hi = 6 → upG gs i hi = gs := fun e => by
    unfold upE at e; unfold upG
    by_cases c : gs[i].isDown = false ∨ (gs[i].above ≠ -1 ∧ (gs.getD gs[i].above.toNat gs[i]).phase ≠ 49)
    · rw [if_pos c]
    · rw [if_neg c] at e; cases e
  have fail : upE gs i hi = 6 → (6 : Int) = upE gs i hi ∧ ∃ rs', RefG base s q jd js D rs' ∧ RelL (upG gs i hi) rs' ∧ Kept base s s := fun e => ⟨e.symm, rs, h, by rw [no e]; exact hR, Kept.refl _ _⟩
  cases hdn : gs[i].isDown
  · have he : upE gs i hi = 6 := by rw [upE, if_pos (.inl hdn)]
    have hh := isDown_false.mp hdn
    have T1 := eq_false hh.1
    have T2 := eq_false hh.2
    simp only [↓Bp, Bq, Bs, ↓aop.eq_28, ↓aop.eq_30, Nat.reduceEqDiff, Nat.reduceAdd, Nat.reduceMul, Nat.reduceSub, Nat.reduceLeDiff, Nat.reduceLT, Int.reduceLT, Int.reduceLE, Int.reduceEq, Int.reduceToNat, Int.reduceAdd, Int.reduceSub, Int.reduceNeg, ↓reduceIte, reduceCtorEq, ↓C.q24_W, C.q24_B, C.q24, hq, hs, hd, hz, Int.toNat_natCast, g0, d0, T1, T2]
    rw [he]
    exact ⟨rfl, rs, h, by rw [no he]; exact hR, Kept.refl _ _⟩
  have hh := isDown_true.mp hdn
  have fin : ∀ ph : Int, ph = gs[i].phase → upE gs i hi = 0 → awp Try.prog C.q24_c4 (Post [.slot 4] fun r s' => r = .int .i64 (upE gs i hi) ∧ ∃ rs', RefG base s' q jd js D rs' ∧ RelL (upG gs i hi) rs' ∧ Kept base s s') [(0, .ptr q 0), (1, .int .i64 i), (5, .int .u8 ph)] s := fun ph hph he => by
    subst hph
    have hfit := rs_fit hir
    have f0 : i * 3 < (rs.flatMap Rs.cells).length := by omega
    have p0 : (rs.flatMap Rs.cells).set (i * 3) (.int .u8 114) = (rs.set i { rs[i] with ph := 114 }).flatMap Rs.cells := rs_put (j := 0) hir (by omega) rfl
    obtain ⟨h1, k1⟩ := h.put (rs' := rs.set i { rs[i] with ph := 114 }) (by simp)
    simp only [↓Bp, Bq, Bs, ↓aop.eq_28, ↓aop.eq_30, Nat.reduceEqDiff, Nat.reduceAdd, Nat.reduceMul, Nat.reduceSub, Nat.reduceLeDiff, Nat.reduceLT, Int.reduceLT, Int.reduceLE, Int.reduceEq, Int.reduceToNat, Int.reduceAdd, Int.reduceSub, Int.reduceNeg, ↓reduceIte, reduceCtorEq, ↓C.q24_r7_w, C.q24_r7_b, ↓C.q24_c4_w, ↓C.q24_r6_w, C.q24_r6_b, ↓C.q24_c5_w, ↓C.q24_c6_w, ↓C.q24_r5_w, C.q24_r5_b, ↓C.q24_c7_w, ↓C.q24_r4_w, C.q24_r4_b, ↓C.q24_c8_w, ↓C.q24_r3_w, C.q24_r3_b, ↓C.q24_c9_w, ↓C.q24_r2_w, C.q24_r2_b, ↓C.q24_c10_w, ↓C.q24_c11_w, ↓C.q24_r1_w, C.q24_r1_b, ↓C.q24_c12_w, ↓C.q24_r0_w, C.q24_r0_b, C.q24, hq, hs, hz, Int.toNat_natCast, f0, p0]
    generalize s.set js (.cells ((rs.set i { rs[i] with ph := 114 }).flatMap Rs.cells)) = s1 at h1 k1
    have hq1 := h1.hq
    have hs1 := h1.hs
    have hd1 := h1.hd
    have hir1 : i < (rs.set i { rs[i] with ph := 114 }).length := by simpa using hir
    have f1 : i * 3 + 1 < ((rs.set i { rs[i] with ph := 114 }).flatMap Rs.cells).length := by have := rs_fit hir1; omega
    have p1 : ((rs.set i { rs[i] with ph := 114 }).flatMap Rs.cells).set (i * 3 + 1) (.int .i64 gs[i].delay) = (rs.set i { rs[i] with ph := 114, left := gs[i].delay }).flatMap Rs.cells := by
      rw [rs_put (j := 1) hir1 (by omega) (r := { rs[i] with ph := 114, left := gs[i].delay }) (by rw [List.getElem_set_self]; rfl), List.set_set]
    obtain ⟨h2, k2⟩ := h1.put (rs' := rs.set i { rs[i] with ph := 114, left := gs[i].delay }) (by simp)
    simp only [↓Bp, Bq, Bs, ↓aop.eq_28, ↓aop.eq_30, Nat.reduceEqDiff, Nat.reduceAdd, Nat.reduceMul, Nat.reduceSub, Nat.reduceLeDiff, Nat.reduceLT, Int.reduceLT, Int.reduceLE, Int.reduceEq, Int.reduceToNat, Int.reduceAdd, Int.reduceSub, Int.reduceNeg, ↓reduceIte, reduceCtorEq, ↓C.q24_r8_w, C.q24_r8_b, ↓C.q24_c3_w, ↓C.q24_r7_w, C.q24_r7_b, ↓C.q24_c4_w, ↓C.q24_r6_w, C.q24_r6_b, ↓C.q24_c5_w, ↓C.q24_c6_w, ↓C.q24_r5_w, C.q24_r5_b, ↓C.q24_c7_w, ↓C.q24_r4_w, C.q24_r4_b, ↓C.q24_c8_w, ↓C.q24_r3_w, C.q24_r3_b, ↓C.q24_c9_w, ↓C.q24_r2_w, C.q24_r2_b, ↓C.q24_c10_w, ↓C.q24_c11_w, ↓C.q24_r1_w, C.q24_r1_b, ↓C.q24_c12_w, ↓C.q24_r0_w, C.q24_r0_b, C.q24, hq1, hs1, hd1, hz, Int.toNat_natCast, f1, d1, p1]
    generalize s1.set js (.cells ((rs.set i { rs[i] with ph := 114, left := gs[i].delay }).flatMap Rs.cells)) = s2 at h2 k2
    have hq2 := h2.hq
    have hs2 := h2.hs
    have hir2 : i < (rs.set i { rs[i] with ph := 114, left := gs[i].delay }).length := by simpa using hir
    have f2 : i * 3 + 2 < ((rs.set i { rs[i] with ph := 114, left := gs[i].delay }).flatMap Rs.cells).length := by have := rs_fit hir2; omega
    have p2 : ((rs.set i { rs[i] with ph := 114, left := gs[i].delay }).flatMap Rs.cells).set (i * 3 + 2) (.bool (decide (gs[i].phase = 116))) = (rs.set i ⟨114, gs[i].delay, decide (gs[i].phase = 116)⟩).flatMap Rs.cells := by
      rw [rs_put (j := 2) hir2 (by omega) (r := ⟨114, gs[i].delay, decide (gs[i].phase = 116)⟩) (by rw [List.getElem_set_self]; rfl), List.set_set]
    obtain ⟨h3, k3⟩ := h2.put (rs' := rs.set i ⟨114, gs[i].delay, decide (gs[i].phase = 116)⟩) (by simp)
    simp only [↓Bp, Bq, Bs, ↓aop.eq_28, ↓aop.eq_30, Nat.reduceEqDiff, Nat.reduceAdd, Nat.reduceMul, Nat.reduceSub, Nat.reduceLeDiff, Nat.reduceLT, Int.reduceLT, Int.reduceLE, Int.reduceEq, Int.reduceToNat, Int.reduceAdd, Int.reduceSub, Int.reduceNeg, ↓reduceIte, reduceCtorEq, ↓C.q24_W, C.q24_B, C.q24, hq2, hs2, hz, Int.toNat_natCast, f2, p2]
    rw [he]
    refine ⟨rfl, _, h3, ?_, fun j hj => by rw [k3 j hj, k2 j hj, k1 j hj]⟩
    have hc : ¬ (gs[i].isDown = false ∨ (gs[i].above ≠ -1 ∧ (gs.getD gs[i].above.toNat gs[i]).phase ≠ 49)) := fun c => by rw [upE, if_pos c] at he; cases he
    rw [upG, if_neg hc]
    exact hR.set ⟨rfl, rfl, fun _ => rfl, fun e => absurd e (by show ¬ (114 : Int) = 99; decide)⟩
  have hlz := hI.lesser i hi
  have two : ∀ {A : Prop}, (gs[i].phase = 48 → A) → (gs[i].phase = 116 → A) → A := fun a b => hh.elim a b
  by_cases ha : gs[i].above = -1
  · have he : upE gs i hi = 0 := by rw [upE, if_neg (by simp [hdn, ha])]
    have fin2 := fin _ rfl he
    rw [ha] at d0
    refine two (fun e => ?_) (fun e => ?_)
    · rw [e] at g0 fin2
      simp only [↓Bp, Bq, Bs, ↓aop.eq_28, ↓aop.eq_30, Nat.reduceEqDiff, Nat.reduceAdd, Nat.reduceMul, Nat.reduceSub, Nat.reduceLeDiff, Nat.reduceLT, Int.reduceLT, Int.reduceLE, Int.reduceEq, Int.reduceToNat, Int.reduceAdd, Int.reduceSub, Int.reduceNeg, ↓reduceIte, reduceCtorEq, ↓C.q24_r6_w, C.q24_r6_b, ↓C.q24_c5_w, ↓C.q24_c6_w, ↓C.q24_r5_w, C.q24_r5_b, ↓C.q24_c7_w, ↓C.q24_r4_w, C.q24_r4_b, ↓C.q24_c8_w, ↓C.q24_r3_w, C.q24_r3_b, ↓C.q24_c9_w, ↓C.q24_r2_w, C.q24_r2_b, ↓C.q24_c10_w, ↓C.q24_c11_w, ↓C.q24_r1_w, C.q24_r1_b, ↓C.q24_c12_w, ↓C.q24_r0_w, C.q24_r0_b, C.q24, hq, hs, hd, hz, Int.toNat_natCast, g0, d0, ge_iff_le]
      rw [C.q24_c4_w, awp_keep]
      exact fin2
    · rw [e] at g0 fin2
      simp only [↓Bp, Bq, Bs, ↓aop.eq_28, ↓aop.eq_30, Nat.reduceEqDiff, Nat.reduceAdd, Nat.reduceMul, Nat.reduceSub, Nat.reduceLeDiff, Nat.reduceLT, Int.reduceLT, Int.reduceLE, Int.reduceEq, Int.reduceToNat, Int.reduceAdd, Int.reduceSub, Int.reduceNeg, ↓reduceIte, reduceCtorEq, ↓C.q24_r6_w, C.q24_r6_b, ↓C.q24_c5_w, ↓C.q24_c6_w, ↓C.q24_r5_w, C.q24_r5_b, ↓C.q24_c7_w, ↓C.q24_r4_w, C.q24_r4_b, ↓C.q24_c8_w, ↓C.q24_r3_w, C.q24_r3_b, ↓C.q24_c9_w, ↓C.q24_r2_w, C.q24_r2_b, ↓C.q24_c10_w, ↓C.q24_c11_w, ↓C.q24_r1_w, C.q24_r1_b, ↓C.q24_c12_w, ↓C.q24_r0_w, C.q24_r0_b, C.q24, hq, hs, hd, hz, Int.toNat_natCast, g0, d0, ge_iff_le]
      rw [C.q24_c4_w, awp_keep]
      exact fin2
  obtain ⟨a, haa⟩ : ∃ a : Nat, gs[i].above = a := ⟨gs[i].above.toNat, by omega⟩
  have hal : a < gs.length := by omega
  have har : a < rs.length := by rw [hR.len]; exact hal
  have hza : (0:Int) ≤ (a : Int) ∧ (a : Int) < (D.length : Nat) := by omega
  have T0 : ((0 : Int) ≤ (a : Int)) = True := eq_true (by omega)
  have b0 := rs_get har (j := 0) (by omega)
  rw [show rs[a].cells[0]? = some (.int .u8 rs[a].ph) from rfl, (hR.rel a hal har).ph, Nat.add_zero] at b0
  rw [haa] at d0
  have hD : gs.getD a gs[i] = gs[a] := by simp [hal]
  by_cases h1 : gs[a].phase = 49
  · have he : upE gs i hi = 0 := by rw [upE, if_neg (by rw [hdn, haa, Int.toNat_natCast, hD]; simp [h1])]
    have fin2 := fin _ rfl he
    rw [h1] at b0
    refine two (fun e => ?_) (fun e => ?_)
    · rw [e] at g0 fin2
      simp only [↓Bp, Bq, Bs, ↓aop.eq_28, ↓aop.eq_30, Nat.reduceEqDiff, Nat.reduceAdd, Nat.reduceMul, Nat.reduceSub, Nat.reduceLeDiff, Nat.reduceLT, Int.reduceLT, Int.reduceLE, Int.reduceEq, Int.reduceToNat, Int.reduceAdd, Int.reduceSub, Int.reduceNeg, ↓reduceIte, reduceCtorEq, ↓C.q24_r6_w, C.q24_r6_b, ↓C.q24_c5_w, ↓C.q24_c6_w, ↓C.q24_r5_w, C.q24_r5_b, ↓C.q24_c7_w, ↓C.q24_r4_w, C.q24_r4_b, ↓C.q24_c8_w, ↓C.q24_r3_w, C.q24_r3_b, ↓C.q24_c9_w, ↓C.q24_r2_w, C.q24_r2_b, ↓C.q24_c10_w, ↓C.q24_c11_w, ↓C.q24_r1_w, C.q24_r1_b, ↓C.q24_c12_w, ↓C.q24_r0_w, C.q24_r0_b, C.q24, hq, hs, hd, hz, hza, Int.toNat_natCast, g0, d0, b0, ge_iff_le, T0]
      rw [C.q24_c4_w, awp_keep]
      exact fin2
    · rw [e] at g0 fin2
      simp only [↓Bp, Bq, Bs, ↓aop.eq_28, ↓aop.eq_30, Nat.reduceEqDiff, Nat.reduceAdd, Nat.reduceMul, Nat.reduceSub, Nat.reduceLeDiff, Nat.reduceLT, Int.reduceLT, Int.reduceLE, Int.reduceEq, Int.reduceToNat, Int.reduceAdd, Int.reduceSub, Int.reduceNeg, ↓reduceIte, reduceCtorEq, ↓C.q24_r6_w, C.q24_r6_b, ↓C.q24_c5_w, ↓C.q24_c6_w, ↓C.q24_r5_w, C.q24_r5_b, ↓C.q24_c7_w, ↓C.q24_r4_w, C.q24_r4_b, ↓C.q24_c8_w, ↓C.q24_r3_w, C.q24_r3_b, ↓C.q24_c9_w, ↓C.q24_r2_w, C.q24_r2_b, ↓C.q24_c10_w, ↓C.q24_c11_w, ↓C.q24_r1_w, C.q24_r1_b, ↓C.q24_c12_w, ↓C.q24_r0_w, C.q24_r0_b, C.q24, hq, hs, hd, hz, hza, Int.toNat_natCast, g0, d0, b0, ge_iff_le, T0]
      rw [C.q24_c4_w, awp_keep]
      exact fin2
  · have he : upE gs i hi = 6 := by rw [upE, if_pos (.inr ⟨by omega, by rw [haa, Int.toNat_natCast, hD]; exact h1⟩)]
    have T1 := eq_false h1
    refine two (fun e => ?_) (fun e => ?_)
    · rw [e] at g0
      simp only [↓Bp, Bq, Bs, ↓aop.eq_28, ↓aop.eq_30, Nat.reduceEqDiff, Nat.reduceAdd, Nat.reduceMul, Nat.reduceSub, Nat.reduceLeDiff, Nat.reduceLT, Int.reduceLT, Int.reduceLE, Int.reduceEq, Int.reduceToNat, Int.reduceAdd, Int.reduceSub, Int.reduceNeg, ↓reduceIte, reduceCtorEq, ↓C.q24_W, C.q24_B, C.q24, hq, hs, hd, hz, hza, Int.toNat_natCast, g0, d0, b0, ge_iff_le, T0, T1]
      rw [he]
      exact ⟨rfl, rs, h, by rw [no he]; exact hR, Kept.refl _ _⟩
    · rw [e] at g0
      simp only [↓Bp, Bq, Bs, ↓aop.eq_28, ↓aop.eq_30, Nat.reduceEqDiff, Nat.reduceAdd, Nat.reduceMul, Nat.reduceSub, Nat.reduceLeDiff, Nat.reduceLT, Int.reduceLT, Int.reduceLE, Int.reduceEq, Int.reduceToNat, Int.reduceAdd, Int.reduceSub, Int.reduceNeg, ↓reduceIte, reduceCtorEq, ↓C.q24_W, C.q24_B, C.q24, hq, hs, hd, hz, hza, Int.toNat_natCast, g0, d0, b0, ge_iff_le, T0, T1]
      rw [he]
      exact ⟨rfl, rs, h, by rw [no he]; exact hR, Kept.refl _ _⟩
end
end Go.Proofs.Ytgfpnfnjnakoaaa.Cn
