/- Reset lines: ResetAll. -/
import Derived.Test.YtkabdilikndhbaaCnReset4
set_option linter.unusedSimpArgs false
set_option linter.unusedVariables false
set_option linter.unusedSectionVars false
namespace Go.Proofs.Ytkabdilikndhbaa.Cn
open Go Go.Proofs

theorem Shows.view {st : ASt} {v : AV} {n : Nat} {W : List Int} (h : Shows st 1 v n (ints W)) : SView st v (row W) ∧ n = W.length := by
  obtain ⟨h1, h2⟩ := h
  have hn : n = W.length := by simpa [ints] using h1.symm
  refine ⟨?_, hn⟩
  rcases h2 with ⟨h0, rfl⟩ | ⟨i, rfl, hi⟩
  · have : W = [] := List.eq_nil_of_length_eq_zero (by omega)
    subst this
    exact RepL.view (vs := [.nils]) (cs := [row []]) (i := 0) (.nils 1 .nil) (by simp) (by simp)
  · rw [hn]
    refine RepL.view (vs := [.sl 1 i 0 W.length]) (cs := [row W]) (i := 0) (.sl (L1 := []) (L2 := []) hi (RepL.scalars (by simp [ints, AV.scalar]) _) (by simp [ints]) (by simp) (by simp) .nil) (by simp) (by simp)
/-- One line of any. -/
theorem lnOf_set {G : List Ln} {k : Nat} (hk : k < G.length) (x : Ln) : lnOf (G.set k x) k = x := by
  rw [lnOf_at (by simpa using hk)]; simp
theorem isLn_set {G : List Ln} {k : Nat} (hk : k < G.length) (x : Ln) : isLn (G.set k x) k := isLn_at (by simpa using hk)
section
variable {st s : ASt} {ib p m : Nat} {R : List Int} {G : List Ln} {k : Nat} {x : Ln} (h : RSt st s ib p m R (G.set k x)) (hk : k < G.length)
include h hk
theorem RSt.assertG : ACalls Try.prog F.reset_Lines_Assert [.ptr p 0, .int .i64 k] s fun r s' => r = .int .i64 0 ∧ RSt st s' ib p m R (G.set k { x with held := true, left := x.least, wanted := false }) :=
  (h.assert k).mono fun r s' ⟨h1, h2⟩ => by
    rw [assertE, if_pos (isLn_set hk x)] at h1
    rw [assertL, if_pos (isLn_set hk x), lnOf_set hk, Int.toNat_natCast, List.set_set] at h2
    exact ⟨h1, h2⟩
theorem RSt.releaseG : ACalls Try.prog F.reset_Lines_Release [.ptr p 0, .int .i64 k] s fun r s' => r = .int .i64 (if x.held = true then 0 else 6) ∧ RSt st s' ib p m R (G.set k (if x.held = true then { x with wanted := true } else x)) :=
  (h.release k).mono fun r s' ⟨h1, h2⟩ => by
    rw [releaseE, if_pos (isLn_set hk x), lnOf_set hk] at h1
    rw [releaseL, lnOf_set hk, Int.toNat_natCast, List.set_set] at h2
    refine ⟨h1, ?_⟩
    by_cases e : x.held = true
    · rw [if_pos ⟨isLn_set hk x, e⟩] at h2; rw [if_pos e]; exact h2
    · rw [if_neg (fun h => e h.2)] at h2; rw [if_neg e]; exact h2
theorem RSt.heldG : ACalls Try.prog F.reset_Lines_Held [.ptr p 0, .int .i64 k] s fun r s' => r = .bool x.held ∧ s' = s :=
  (held_spec h.ln k).mono fun r s' ⟨h1, h2⟩ => by
    rw [lnOf_set hk, decide_eq_true (isLn_set hk x)] at h1
    exact ⟨h1, h2⟩
theorem RSt.leftG : ACalls Try.prog F.reset_Lines_Left [.ptr p 0, .int .i64 k] s fun r s' => r = .int .i64 (if x.held = true then x.left else 0) ∧ s' = s :=
  (left_spec h.ln k).mono fun r s' ⟨h1, h2⟩ => by
    rw [lnOf_set hk] at h1
    exact ⟨h1, h2⟩
end
/-- The first of a list have gone their way. -/
def pref (f : Int → Ln) (R : List Int) (i : Nat) : List Ln := (R.take i).map f ++ freshL (R.drop i)
theorem pref_len (f : Int → Ln) (R : List Int) (i : Nat) : (pref f R i).length = R.length := by simp [pref, freshL]; omega
theorem pref_set {f : Int → Ln} {R : List Int} {i : Nat} (h : i < R.length) (x : Ln) : (pref f R i).set i x = (R.take i).map f ++ x :: freshL (R.drop (i + 1)) := by
  simp only [pref]
  rw [List.set_append_right _ _ (by simp; omega), ← List.getElem_cons_drop (h := h)]
  have : i - ((R.take i).map f).length = 0 := by simp; omega
  rw [this]; rfl
theorem pref_same {f : Int → Ln} {R : List Int} {i : Nat} (h : i < R.length) : (pref f R i).set i ⟨R[i], 0, true, false⟩ = pref f R i := by
  rw [pref_set h, pref, ← List.getElem_cons_drop (h := h)]; rfl
theorem pref_next {f : Int → Ln} {R : List Int} {i : Nat} (h : i < R.length) : (pref f R i).set i (f R[i]) = pref f R (i + 1) := by
  rw [pref_set h, pref, List.take_succ_eq_append_getElem h, List.map_append, List.append_assoc]; rfl
theorem pref_zero (f : Int → Ln) (R : List Int) : pref f R 0 = freshL R := by simp [pref]
theorem pref_all (f : Int → Ln) (R : List Int) : pref f R R.length = R.map f := by simp [pref, freshL]

/-- A line of them all after t ticks. -/
def aLn (t n : Int) : Ln := if t ≤ n then ⟨n, n - t, true, true⟩ else ⟨n, 0, false, false⟩
theorem aLn_tick (t n : Int) : tick1 (aLn t n) = aLn (t + 1) n := by
  unfold aLn
  by_cases h : t ≤ n
  · rw [if_pos h, tick1_mk]
    by_cases h2 : t = n
    · rw [if_neg (by omega), if_pos rfl, if_neg (by omega), show n - t = 0 by omega]
    · rw [if_pos (by omega), if_pos (by omega), show n - t - 1 = n - (t + 1) by omega]
  · rw [if_neg h, if_neg (by omega)]; rfl
theorem aLn_goes (t n : Int) : goes (aLn t n) = decide (n = t) := by
  unfold aLn
  by_cases h : t ≤ n
  · rw [if_pos h, goes_mk]
    by_cases h2 : n = t
    · rw [decide_eq_false (by omega), decide_eq_true h2]; rfl
    · rw [decide_eq_true (by omega), decide_eq_false h2]; rfl
  · rw [if_neg h, goes_off, decide_eq_false (by omega)]
/-- The numbers of those that want t ticks. -/
def wantTo (R : List Int) (t : Int) (i : Nat) : List Nat := (List.range i).filter fun j => decide (R.getD j (-1) = t)
theorem wantTo_succ {R : List Int} {t : Int} {i : Nat} (h : i < R.length) : wantTo R t (i + 1) = if R[i] = t then wantTo R t i ++ [i] else wantTo R t i := by
  simp only [wantTo, List.range_succ, List.filter_append]
  have e : (R[i]?).getD (-1) = R[i] := by simp [h]
  by_cases hg : R[i] = t
  · rw [if_pos hg]; simp [e, hg, h]
  · rw [if_neg hg]; simp [e, hg, h]
theorem wantTo_len (R : List Int) (t : Int) (i : Nat) : (wantTo R t i).length ≤ i := by
  have := List.length_filter_le (fun j => decide (R.getD j (-1) = t)) (List.range i)
  simpa [wantTo] using this
theorem toldL_all (R : List Int) (t : Int) : toldL (R.map (aLn t)) = wantTo R t R.length := by
  rw [toldL, toldTo, wantTo, List.length_map]
  refine List.filter_congr fun j hj => ?_
  have hj' : j < R.length := List.mem_range.mp hj
  simp [hj', aLn_goes]
theorem tickL_all (R : List Int) (t : Int) : tickL (R.map (aLn t)) = R.map (aLn (t + 1)) := by
  simp only [tickL, List.map_map]
  exact List.map_congr_left fun n _ => aLn_tick t n
section
variable {st : ASt} {ib p m : Nat} {R : List Int} (hR : R.length ≤ 6) (hR2 : ∀ x ∈ R, 0 ≤ x ∧ x ≤ 20)
include hR hR2
/-- None is held any more. -/
theorem all_end {s : ASt} (h : RSt st s ib p m R (R.map (aLn 22))) :
    awp Try.prog C.catnaplaw8_ResetAll_c11 (Post [.slot 2] fun r s => r = .bool true ∧ st.le s)
      [(4, .ptr ib 0), (5, .ptr p 0)] s := by
  simp only [↓Bp, Bq, Bs, ↓aop.eq_28, ↓aop.eq_30, Nat.reduceEqDiff, Nat.reduceAdd, Nat.reduceMul, Nat.reduceSub, Nat.reduceLeDiff, Nat.reduceLT, Int.reduceLT, Int.reduceLE, Int.reduceEq, Int.reduceToNat, Int.reduceAdd, Int.reduceSub, Int.reduceNeg, ↓reduceIte, reduceCtorEq, ↓C.catnaplaw8_ResetAll_W, C.catnaplaw8_ResetAll_B, C.catnaplaw8_ResetAll]
  refine awp_midB (fun _ : Unit => []) (fun _ s => st.le s) ?_ ?_
  rotate_left
  · rintro - s hs
    simp only [↓Bp, Bq, Bs, ↓aop.eq_28, ↓aop.eq_30, Nat.reduceEqDiff, Nat.reduceAdd, Nat.reduceMul, Nat.reduceSub, Nat.reduceLeDiff, Nat.reduceLT, Int.reduceLT, Int.reduceLE, Int.reduceEq, Int.reduceToNat, Int.reduceAdd, Int.reduceSub, Int.reduceNeg, ↓reduceIte, reduceCtorEq, ↓C.catnaplaw8_ResetAll_W, C.catnaplaw8_ResetAll_B, C.catnaplaw8_ResetAll]
    exact hs
  refine awp_loopK (fun t : Nat => [(4, .ptr ib 0), (5, .ptr p 0), (11, .int .i64 t)]) (fun t s => t ≤ R.length ∧ RSt st s ib p m R (R.map (aLn 22))) (fun t => R.length - t) 0 rfl ⟨Nat.zero_le _, h⟩ ?_
  clear h s
  rintro t s ⟨ht, h⟩
  have hb := h.hb
  by_cases htl : t < R.length
  rotate_left
  · have htl' : ¬ (t : Int) < (R.length : Nat) := by omega
    simp only [↓Bp, Bq, Bs, ↓aop.eq_28, ↓aop.eq_30, Nat.reduceEqDiff, Nat.reduceAdd, Nat.reduceMul, Nat.reduceSub, Nat.reduceLeDiff, Nat.reduceLT, Int.reduceLT, Int.reduceLE, Int.reduceEq, Int.reduceToNat, Int.reduceAdd, Int.reduceSub, Int.reduceNeg, ↓reduceIte, reduceCtorEq, ↓C.catnaplaw8_ResetAll_W, C.catnaplaw8_ResetAll_B, C.catnaplaw8_ResetAll, htl', hb, rchip, Soc.cells, Soc.rstV]
    exact ⟨(), h.le⟩
  have htl' : (t : Int) < (R.length : Nat) := by omega
  have hw := wsucc htl (by omega)
  have hk : t < (R.map (aLn 22)).length := by simpa using htl
  have hx : (R.map (aLn 22)).set t ⟨R[t], 0, false, false⟩ = R.map (aLn 22) := by
    have e : (R.map (aLn 22))[t] = ⟨R[t], 0, false, false⟩ := by
      have := hR2 _ (List.getElem_mem htl)
      rw [List.getElem_map, aLn, if_neg (by omega)]
    rw [← e, List.set_getElem_self]
  rw [← hx] at h
  simp only [↓Bp, Bq, Bs, ↓aop.eq_28, ↓aop.eq_30, Nat.reduceEqDiff, Nat.reduceAdd, Nat.reduceMul, Nat.reduceSub, Nat.reduceLeDiff, Nat.reduceLT, Int.reduceLT, Int.reduceLE, Int.reduceEq, Int.reduceToNat, Int.reduceAdd, Int.reduceSub, Int.reduceNeg, ↓reduceIte, reduceCtorEq, ↓C.catnaplaw8_ResetAll_W, C.catnaplaw8_ResetAll_B, C.catnaplaw8_ResetAll, htl', hb, rchip, Soc.cells, Soc.rstV]
  refine (h.heldG hk).mono ?_
  rintro r s ⟨rfl, rfl⟩
  simp only [↓Bp, Bq, Bs, ↓aop.eq_28, ↓aop.eq_30, Nat.reduceEqDiff, Nat.reduceAdd, Nat.reduceMul, Nat.reduceSub, Nat.reduceLeDiff, Nat.reduceLT, Int.reduceLT, Int.reduceLE, Int.reduceEq, Int.reduceToNat, Int.reduceAdd, Int.reduceSub, Int.reduceNeg, ↓reduceIte, reduceCtorEq, ↓C.catnaplaw8_ResetAll_W, C.catnaplaw8_ResetAll_B, C.catnaplaw8_ResetAll]
  refine (h.releaseG hk).mono ?_
  rintro r s ⟨rfl, h⟩
  rw [if_neg (by simp)]
  rw [if_neg (by simp), hx] at h
  simp only [↓Bp, Bq, Bs, ↓aop.eq_28, ↓aop.eq_30, Nat.reduceEqDiff, Nat.reduceAdd, Nat.reduceMul, Nat.reduceSub, Nat.reduceLeDiff, Nat.reduceLT, Int.reduceLT, Int.reduceLE, Int.reduceEq, Int.reduceToNat, Int.reduceAdd, Int.reduceSub, Int.reduceNeg, ↓reduceIte, reduceCtorEq, ↓C.catnaplaw8_ResetAll_W, C.catnaplaw8_ResetAll_B, C.catnaplaw8_ResetAll, hw]
  exact ⟨t + 1, rfl, ⟨htl, h⟩, by omega⟩
/-- Tick by tick. -/
theorem all_mid {s : ASt} (h : RSt st s ib p m R (R.map (aLn 0))) :
    awp Try.prog C.catnaplaw8_ResetAll_c32 (Post [.slot 2] fun r s => r = .bool true ∧ st.le s)
      [(4, .ptr ib 0), (5, .ptr p 0)] s := by
  simp only [↓Bp, Bq, Bs, ↓aop.eq_28, ↓aop.eq_30, Nat.reduceEqDiff, Nat.reduceAdd, Nat.reduceMul, Nat.reduceSub, Nat.reduceLeDiff, Nat.reduceLT, Int.reduceLT, Int.reduceLE, Int.reduceEq, Int.reduceToNat, Int.reduceAdd, Int.reduceSub, Int.reduceNeg, ↓reduceIte, reduceCtorEq, ↓C.catnaplaw8_ResetAll_W, C.catnaplaw8_ResetAll_B, C.catnaplaw8_ResetAll]
  refine awp_midB (fun _ : Unit => [(4, .ptr ib 0), (5, .ptr p 0)]) (fun _ s => RSt st s ib p m R (R.map (aLn 22))) ?_ ?_
  rotate_left
  · rintro - s hs
    exact all_end hR hR2 hs
  refine awp_loopK (fun t : Nat => [(4, .ptr ib 0), (5, .ptr p 0), (8, .int .i64 t)]) (fun t s => t ≤ 22 ∧ RSt st s ib p m R (R.map (aLn t))) (fun t => 22 - t) 0 rfl ⟨Nat.zero_le _, h⟩ ?_
  clear h s
  rintro t s ⟨ht, h⟩
  by_cases htl : t < 22
  rotate_left
  · have htl' : ¬ (t : Int) < 22 := by omega
    simp only [↓Bp, Bq, Bs, ↓aop.eq_28, ↓aop.eq_30, Nat.reduceEqDiff, Nat.reduceAdd, Nat.reduceMul, Nat.reduceSub, Nat.reduceLeDiff, Nat.reduceLT, Int.reduceLT, Int.reduceLE, Int.reduceEq, Int.reduceToNat, Int.reduceAdd, Int.reduceSub, Int.reduceNeg, ↓reduceIte, reduceCtorEq, ↓C.catnaplaw8_ResetAll_W, C.catnaplaw8_ResetAll_B, C.catnaplaw8_ResetAll, htl']
    rw [show t = 22 by omega] at h
    exact ⟨(), h⟩
  have htl' : (t : Int) < 22 := by omega
  have hwt := wsucc htl (by omega)
  simp only [↓Bp, Bq, Bs, ↓aop.eq_28, ↓aop.eq_30, Nat.reduceEqDiff, Nat.reduceAdd, Nat.reduceMul, Nat.reduceSub, Nat.reduceLeDiff, Nat.reduceLT, Int.reduceLT, Int.reduceLE, Int.reduceEq, Int.reduceToNat, Int.reduceAdd, Int.reduceSub, Int.reduceNeg, ↓reduceIte, reduceCtorEq, ↓C.catnaplaw8_ResetAll_W, C.catnaplaw8_ResetAll_B, C.catnaplaw8_ResetAll, htl']
  refine awp_midB (fun v : AV => [(4, .ptr ib 0), (5, .ptr p 0), (8, .int .i64 t), (9, v)]) (fun v s' => Over s s' 1 v (wantTo R t R.length).length (ints (nats (wantTo R t R.length)))) ?_ ?_
  · refine awp_loopK (fun q : Nat × AV => [(4, .ptr ib 0), (5, .ptr p 0), (8, .int .i64 t), (9, q.2), (10, .int .i64 q.1)]) (fun q s' => q.1 ≤ R.length ∧ Over s s' 1 q.2 (wantTo R t q.1).length (ints (nats (wantTo R t q.1)))) (fun q => R.length - q.1) (0, .nils) rfl ⟨Nat.zero_le _, Over.nils (ASt.le.refl _) 1⟩ ?_
    rintro ⟨i, v⟩ s' ⟨hi, hO⟩
    simp only at hi hO
    have hb := hO.2.1 _ _ h.hb
    by_cases hil : i < R.length
    rotate_left
    · have hil' : ¬ (i : Int) < (R.length : Nat) := by omega
      simp only [↓Bp, Bq, Bs, ↓aop.eq_28, ↓aop.eq_30, Nat.reduceEqDiff, Nat.reduceAdd, Nat.reduceMul, Nat.reduceSub, Nat.reduceLeDiff, Nat.reduceLT, Int.reduceLT, Int.reduceLE, Int.reduceEq, Int.reduceToNat, Int.reduceAdd, Int.reduceSub, Int.reduceNeg, ↓reduceIte, reduceCtorEq, ↓C.catnaplaw8_ResetAll_W, C.catnaplaw8_ResetAll_B, C.catnaplaw8_ResetAll, hil', hb, rchip, Soc.cells, Soc.rstV]
      rw [show i = R.length by omega] at hO
      exact ⟨v, rfl, hO⟩
    have hil' : (i : Int) < (R.length : Nat) := by omega
    have hw := wsucc hil (by omega)
    have hz2 : (0:Int) ≤ (i : Int) ∧ (i : Int) < (R.length : Nat) := by omega
    have hkk : i + 1 ≤ (R.flatMap rstCells).length := by rw [flatMap_len rstCells_len]; omega
    have hg := rst_get hil
    have hwl : (wantTo R t i).length ≤ i := by
      have := List.length_filter_le (fun j => decide (R.getD j (-1) = (t : Int))) (List.range i)
      simpa [wantTo] using this
    by_cases he : R[i] = (t : Int)
    · have eT := eq_true he
      simp only [↓Bp, Bq, Bs, Nat.reduceEqDiff, Nat.reduceAdd, Nat.reduceMul, Nat.reduceSub, Nat.reduceLeDiff, Nat.reduceLT, Int.reduceLT, Int.reduceLE, Int.reduceEq, Int.reduceToNat, Int.reduceAdd, Int.reduceSub, Int.reduceNeg, ↓reduceIte, reduceCtorEq, ↓C.catnaplaw8_ResetAll_W, C.catnaplaw8_ResetAll_B, C.catnaplaw8_ResetAll, hil', hb, rchip, Soc.cells, Soc.rstV, hz2, Int.toNat_natCast, Nat.mul_one, hkk, hg, eT]
      refine aop_append_over hO (by omega) (new := [.int .i64 i]) rfl rfl rfl (fun _ => rfl) (fun _ => rfl) fun v1 v2 s2 hO2 => ?_
      simp only [↓Bp, Bq, Bs, ↓aop.eq_28, ↓aop.eq_30, Nat.reduceEqDiff, Nat.reduceAdd, Nat.reduceMul, Nat.reduceSub, Nat.reduceLeDiff, Nat.reduceLT, Int.reduceLT, Int.reduceLE, Int.reduceEq, Int.reduceToNat, Int.reduceAdd, Int.reduceSub, Int.reduceNeg, ↓reduceIte, reduceCtorEq, ↓C.catnaplaw8_ResetAll_W, C.catnaplaw8_ResetAll_B, C.catnaplaw8_ResetAll, hw]
      refine ⟨(i + 1, v2), rfl, ⟨hil, ?_⟩, by simp only; omega⟩
      simp only
      rw [wantTo_succ hil, if_pos he]
      have e1 : (wantTo R t i ++ [i]).length = (wantTo R t i).length + 1 := by simp
      have e2 : ints (nats (wantTo R t i ++ [i])) = ints (nats (wantTo R t i)) ++ [.int .i64 i] := by simp [ints, nats]
      rw [e1, e2]; exact hO2
    · have eT := eq_false he
      simp only [↓Bp, Bq, Bs, ↓aop.eq_28, ↓aop.eq_30, Nat.reduceEqDiff, Nat.reduceAdd, Nat.reduceMul, Nat.reduceSub, Nat.reduceLeDiff, Nat.reduceLT, Int.reduceLT, Int.reduceLE, Int.reduceEq, Int.reduceToNat, Int.reduceAdd, Int.reduceSub, Int.reduceNeg, ↓reduceIte, reduceCtorEq, ↓C.catnaplaw8_ResetAll_W, C.catnaplaw8_ResetAll_B, C.catnaplaw8_ResetAll, hil', hb, rchip, Soc.cells, Soc.rstV, hz2, Int.toNat_natCast, Nat.mul_one, hkk, hg, eT, hw]
      refine ⟨(i + 1, v), rfl, ⟨hil, ?_⟩, by simp only; omega⟩
      simp only
      rw [wantTo_succ hil, if_neg he]; exact hO
  · rintro v s' hO
    have h' := h.step hO.2.1
    have hvm : ∀ i off n sz, v = .sl sz i off n → i ≠ m := fun i off n sz e => by
      rintro rfl
      have := hO.2.2 _ _ _ _ e
      rw [h.ln.hm] at this; cases this
    have hbd : ∀ x ∈ R.map (aLn t), x.left ≤ 1000 := by
      intro x hx
      obtain ⟨n, hn, rfl⟩ := List.mem_map.mp hx
      have := hR2 n hn
      unfold aLn; split
      · show n - (t : Int) ≤ 1000; omega
      · show (0 : Int) ≤ 1000; omega
    simp only [↓Bp, Bq, Bs, ↓aop.eq_28, ↓aop.eq_30, Nat.reduceEqDiff, Nat.reduceAdd, Nat.reduceMul, Nat.reduceSub, Nat.reduceLeDiff, Nat.reduceLT, Int.reduceLT, Int.reduceLE, Int.reduceEq, Int.reduceToNat, Int.reduceAdd, Int.reduceSub, Int.reduceNeg, ↓reduceIte, reduceCtorEq, ↓C.catnaplaw8_ResetAll_W, C.catnaplaw8_ResetAll_B, C.catnaplaw8_ResetAll]
    refine (tick_spec h'.ln hbd (by rw [List.length_map]; omega)).mono ?_
    rintro r s2 ⟨rfl, rfl⟩
    have h2 := h'.set (tickL (R.map (aLn t)))
    rw [tickL_all] at h2
    rw [toldL_all]
    have hS : Shows (s'.set m (lnsE (tickL (R.map (aLn t))))) 1 v (wantTo R t R.length).length (ints (nats (wantTo R t R.length))) := by
      obtain ⟨q1, q2⟩ := hO.1
      refine ⟨q1, ?_⟩
      rcases q2 with q2 | ⟨i, rfl, hi⟩
      · exact .inl q2
      · exact .inr ⟨i, rfl, by rw [ASt.set_h, if_neg (hvm _ _ _ _ rfl)]; exact hi⟩
    rw [tickL_all] at hS ⊢
    generalize s'.set m (lnsE (R.map (aLn ((t : Int) + 1)))) = s3 at h2 hS
    simp only [↓Bp, Bq, Bs, ↓aop.eq_28, ↓aop.eq_30, Nat.reduceEqDiff, Nat.reduceAdd, Nat.reduceMul, Nat.reduceSub, Nat.reduceLeDiff, Nat.reduceLT, Int.reduceLT, Int.reduceLE, Int.reduceEq, Int.reduceToNat, Int.reduceAdd, Int.reduceSub, Int.reduceNeg, ↓reduceIte, reduceCtorEq, ↓C.catnaplaw8_ResetAll_W, C.catnaplaw8_ResetAll_B, C.catnaplaw8_ResetAll]
    refine (same_view (view_row _) hS.view.1 (by rw [nats_length]; have := wantTo_len R t R.length; omega)).mono ?_
    rintro r s4 ⟨rfl, rfl⟩
    rw [decide_eq_true rfl]
    simp only [↓Bp, Bq, Bs, ↓aop.eq_28, ↓aop.eq_30, Nat.reduceEqDiff, Nat.reduceAdd, Nat.reduceMul, Nat.reduceSub, Nat.reduceLeDiff, Nat.reduceLT, Int.reduceLT, Int.reduceLE, Int.reduceEq, Int.reduceToNat, Int.reduceAdd, Int.reduceSub, Int.reduceNeg, ↓reduceIte, reduceCtorEq, ↓C.catnaplaw8_ResetAll_W, C.catnaplaw8_ResetAll_B, C.catnaplaw8_ResetAll, hwt]
    exact ⟨t + 1, rfl, ⟨htl, h2⟩, by omega⟩
theorem all_first {s : ASt} (h : RSt st s ib p m R (freshL R)) :
    awp Try.prog C.catnaplaw8_ResetAll_c42 (Post [.slot 2] fun r s => r = .bool true ∧ st.le s)
      [(4, .ptr ib 0), (5, .ptr p 0)] s := by
  simp only [↓Bp, Bq, Bs, ↓aop.eq_28, ↓aop.eq_30, Nat.reduceEqDiff, Nat.reduceAdd, Nat.reduceMul, Nat.reduceSub, Nat.reduceLeDiff, Nat.reduceLT, Int.reduceLT, Int.reduceLE, Int.reduceEq, Int.reduceToNat, Int.reduceAdd, Int.reduceSub, Int.reduceNeg, ↓reduceIte, reduceCtorEq, ↓C.catnaplaw8_ResetAll_W, C.catnaplaw8_ResetAll_B, C.catnaplaw8_ResetAll]
  refine awp_midB (fun _ : Unit => [(4, .ptr ib 0), (5, .ptr p 0)]) (fun _ s => RSt st s ib p m R (R.map (aLn 0))) ?_ ?_
  rotate_left
  · rintro - s hs
    exact all_mid hR hR2 hs
  refine awp_loopK (fun t : Nat => [(4, .ptr ib 0), (5, .ptr p 0), (7, .int .i64 t)]) (fun t s => t ≤ R.length ∧ RSt st s ib p m R (pref (fun n => ⟨n, n, true, true⟩) R t)) (fun t => R.length - t) 0 rfl ⟨Nat.zero_le _, by rw [pref_zero]; exact h⟩ ?_
  clear h s
  rintro t s ⟨ht, h⟩
  have hb := h.hb
  by_cases htl : t < R.length
  rotate_left
  · have htl' : ¬ (t : Int) < (R.length : Nat) := by omega
    simp only [↓Bp, Bq, Bs, ↓aop.eq_28, ↓aop.eq_30, Nat.reduceEqDiff, Nat.reduceAdd, Nat.reduceMul, Nat.reduceSub, Nat.reduceLeDiff, Nat.reduceLT, Int.reduceLT, Int.reduceLE, Int.reduceEq, Int.reduceToNat, Int.reduceAdd, Int.reduceSub, Int.reduceNeg, ↓reduceIte, reduceCtorEq, ↓C.catnaplaw8_ResetAll_W, C.catnaplaw8_ResetAll_B, C.catnaplaw8_ResetAll, htl', hb, rchip, Soc.cells, Soc.rstV]
    rw [show t = R.length by omega, pref_all] at h
    have e : R.map (fun n => (⟨n, n, true, true⟩ : Ln)) = R.map (aLn 0) := List.map_congr_left fun n hn => by
      have := hR2 n hn
      rw [aLn, if_pos (by omega), show n - 0 = n by omega]
    rw [e] at h
    exact ⟨(), h⟩
  have htl' : (t : Int) < (R.length : Nat) := by omega
  have hw := wsucc htl (by omega)
  have hk : t < (pref (fun n => ⟨n, n, true, true⟩) R t).length := by rw [pref_len]; exact htl
  have hz2 : (0:Int) ≤ (t : Int) ∧ (t : Int) < (R.length : Nat) := by omega
  have hkk : t + 1 ≤ (R.flatMap rstCells).length := by rw [flatMap_len rstCells_len]; omega
  have hg := rst_get htl
  rw [← pref_same htl] at h
  simp only [↓Bp, Bq, Bs, ↓aop.eq_28, ↓aop.eq_30, Nat.reduceEqDiff, Nat.reduceAdd, Nat.reduceMul, Nat.reduceSub, Nat.reduceLeDiff, Nat.reduceLT, Int.reduceLT, Int.reduceLE, Int.reduceEq, Int.reduceToNat, Int.reduceAdd, Int.reduceSub, Int.reduceNeg, ↓reduceIte, reduceCtorEq, ↓C.catnaplaw8_ResetAll_W, C.catnaplaw8_ResetAll_B, C.catnaplaw8_ResetAll, htl', hb, rchip, Soc.cells, Soc.rstV]
  refine (h.assertG hk).mono ?_
  rintro r s ⟨rfl, h⟩
  simp only [↓Bp, Bq, Bs, ↓aop.eq_28, ↓aop.eq_30, Nat.reduceEqDiff, Nat.reduceAdd, Nat.reduceMul, Nat.reduceSub, Nat.reduceLeDiff, Nat.reduceLT, Int.reduceLT, Int.reduceLE, Int.reduceEq, Int.reduceToNat, Int.reduceAdd, Int.reduceSub, Int.reduceNeg, ↓reduceIte, reduceCtorEq, ↓C.catnaplaw8_ResetAll_W, C.catnaplaw8_ResetAll_B, C.catnaplaw8_ResetAll]
  refine (h.releaseG hk).mono ?_
  rintro r s ⟨rfl, h⟩
  rw [if_pos (by rfl)]
  simp only [if_true] at h
  have hb := h.hb
  simp only [↓Bp, Bq, Bs, ↓aop.eq_28, ↓aop.eq_30, Nat.reduceEqDiff, Nat.reduceAdd, Nat.reduceMul, Nat.reduceSub, Nat.reduceLeDiff, Nat.reduceLT, Int.reduceLT, Int.reduceLE, Int.reduceEq, Int.reduceToNat, Int.reduceAdd, Int.reduceSub, Int.reduceNeg, ↓reduceIte, reduceCtorEq, ↓C.catnaplaw8_ResetAll_r27_w, C.catnaplaw8_ResetAll_r27_b, ↓C.catnaplaw8_ResetAll_c1_w, ↓C.catnaplaw8_ResetAll_r24_w, C.catnaplaw8_ResetAll_r24_b, ↓C.catnaplaw8_ResetAll_c2_w, ↓C.catnaplaw8_ResetAll_r26_w, C.catnaplaw8_ResetAll_r26_b, ↓C.catnaplaw8_ResetAll_c3_w, ↓C.catnaplaw8_ResetAll_c4_w, ↓C.catnaplaw8_ResetAll_r25_w, C.catnaplaw8_ResetAll_r25_b, ↓C.catnaplaw8_ResetAll_b5_w, ↓C.catnaplaw8_ResetAll_c6_w, ↓C.catnaplaw8_ResetAll_c7_w, ↓C.catnaplaw8_ResetAll_r23_w, C.catnaplaw8_ResetAll_r23_b, ↓C.catnaplaw8_ResetAll_b9_w, ↓C.catnaplaw8_ResetAll_c10_w, ↓C.catnaplaw8_ResetAll_r22_w, C.catnaplaw8_ResetAll_r22_b, ↓C.catnaplaw8_ResetAll_c11_w, ↓C.catnaplaw8_ResetAll_r13_w, C.catnaplaw8_ResetAll_r13_b, ↓C.catnaplaw8_ResetAll_c12_w, ↓C.catnaplaw8_ResetAll_r21_w, C.catnaplaw8_ResetAll_r21_b, ↓C.catnaplaw8_ResetAll_c13_w, ↓C.catnaplaw8_ResetAll_c14_w, ↓C.catnaplaw8_ResetAll_r20_w, C.catnaplaw8_ResetAll_r20_b, ↓C.catnaplaw8_ResetAll_c15_w, ↓C.catnaplaw8_ResetAll_r17_w, C.catnaplaw8_ResetAll_r17_b, ↓C.catnaplaw8_ResetAll_c16_w, ↓C.catnaplaw8_ResetAll_r19_w, C.catnaplaw8_ResetAll_r19_b, ↓C.catnaplaw8_ResetAll_c17_w, ↓C.catnaplaw8_ResetAll_c18_w, ↓C.catnaplaw8_ResetAll_r18_w, C.catnaplaw8_ResetAll_r18_b, ↓C.catnaplaw8_ResetAll_b19_w, ↓C.catnaplaw8_ResetAll_c20_w, ↓C.catnaplaw8_ResetAll_c21_w, ↓C.catnaplaw8_ResetAll_r16_w, C.catnaplaw8_ResetAll_r16_b, ↓C.catnaplaw8_ResetAll_b23_w, ↓C.catnaplaw8_ResetAll_c24_w, ↓C.catnaplaw8_ResetAll_r15_w, C.catnaplaw8_ResetAll_r15_b, ↓C.catnaplaw8_ResetAll_c25_w, ↓C.catnaplaw8_ResetAll_r14_w, C.catnaplaw8_ResetAll_r14_b, ↓C.catnaplaw8_ResetAll_b26_w, ↓C.catnaplaw8_ResetAll_c27_w, ↓C.catnaplaw8_ResetAll_c28_w, ↓C.catnaplaw8_ResetAll_r12_w, C.catnaplaw8_ResetAll_r12_b, ↓C.catnaplaw8_ResetAll_b30_w, ↓C.catnaplaw8_ResetAll_c31_w, ↓C.catnaplaw8_ResetAll_r11_w, C.catnaplaw8_ResetAll_r11_b, ↓C.catnaplaw8_ResetAll_c32_w, ↓C.catnaplaw8_ResetAll_r8_w, C.catnaplaw8_ResetAll_r8_b, ↓C.catnaplaw8_ResetAll_c33_w, ↓C.catnaplaw8_ResetAll_r9_w, C.catnaplaw8_ResetAll_r9_b, ↓C.catnaplaw8_ResetAll_b36_w, ↓C.catnaplaw8_ResetAll_c37_w, ↓C.catnaplaw8_ResetAll_c38_w, ↓C.catnaplaw8_ResetAll_r7_w, C.catnaplaw8_ResetAll_r7_b, ↓C.catnaplaw8_ResetAll_b40_w, ↓C.catnaplaw8_ResetAll_c41_w, ↓C.catnaplaw8_ResetAll_r6_w, C.catnaplaw8_ResetAll_r6_b, ↓C.catnaplaw8_ResetAll_c42_w, ↓C.catnaplaw8_ResetAll_r5_w, C.catnaplaw8_ResetAll_r5_b, ↓C.catnaplaw8_ResetAll_c43_w, ↓C.catnaplaw8_ResetAll_c44_w, ↓C.catnaplaw8_ResetAll_r4_w, C.catnaplaw8_ResetAll_r4_b, ↓C.catnaplaw8_ResetAll_c45_w, ↓C.catnaplaw8_ResetAll_r3_w, C.catnaplaw8_ResetAll_r3_b, ↓C.catnaplaw8_ResetAll_c46_w, ↓C.catnaplaw8_ResetAll_r2_w, C.catnaplaw8_ResetAll_r2_b, ↓C.catnaplaw8_ResetAll_c47_w, ↓C.catnaplaw8_ResetAll_r1_w, C.catnaplaw8_ResetAll_r1_b, ↓C.catnaplaw8_ResetAll_c48_w, ↓C.catnaplaw8_ResetAll_r0_w, C.catnaplaw8_ResetAll_r0_b, C.catnaplaw8_ResetAll, hb, rchip, Soc.cells, Soc.rstV, hz2, Int.toNat_natCast, Nat.mul_one, hkk, hg]
  refine (h.leftG hk).mono ?_
  rintro r s ⟨rfl, rfl⟩
  rw [if_pos (by rfl)]
  rw [pref_next htl] at h
  simp only [↓Bp, Bq, Bs, ↓aop.eq_28, ↓aop.eq_30, Nat.reduceEqDiff, Nat.reduceAdd, Nat.reduceMul, Nat.reduceSub, Nat.reduceLeDiff, Nat.reduceLT, Int.reduceLT, Int.reduceLE, Int.reduceEq, Int.reduceToNat, Int.reduceAdd, Int.reduceSub, Int.reduceNeg, ↓reduceIte, reduceCtorEq, ↓C.catnaplaw8_ResetAll_W, C.catnaplaw8_ResetAll_B, C.catnaplaw8_ResetAll, hw]
  exact ⟨⟨fun _ => by rw [hb]; rfl, fun _ => hg⟩, t + 1, rfl, ⟨htl, h⟩, by omega⟩
end
theorem resetall_spec {st : ASt} {l : List Int} (hl : ∀ x ∈ l, -9223372036854775808 ≤ x ∧ x ≤ 9223372036854775807) (hll : l.length ≤ 9223372036854775807) :
    ACalls Try.prog F.catnaplaw8_ResetAll [row l] st fun r s => r = .bool true ∧ s = st := by
  refine ACalls.gc (Q' := fun r s => r = .bool true ∧ st.le s) (calls_of_awp L.catnaplaw8_ResetAll rfl ?_) (fun v s ⟨h, hl⟩ => ⟨st, hl, h, rfl⟩)
  simp only [↓Bp, Bq, Bs, ↓aop.eq_28, ↓aop.eq_30, Nat.reduceEqDiff, Nat.reduceAdd, Nat.reduceMul, Nat.reduceSub, Nat.reduceLeDiff, Nat.reduceLT, Int.reduceLT, Int.reduceLE, Int.reduceEq, Int.reduceToNat, Int.reduceAdd, Int.reduceSub, Int.reduceNeg, ↓reduceIte, reduceCtorEq, ↓C.catnaplaw8_ResetAll_W, C.catnaplaw8_ResetAll_B, C.catnaplaw8_ResetAll]
  refine (shown_spec st).mono ?_
  rintro r s ⟨rfl, rfl⟩
  simp only [↓Bp, Bq, Bs, ↓aop.eq_28, ↓aop.eq_30, Nat.reduceEqDiff, Nat.reduceAdd, Nat.reduceMul, Nat.reduceSub, Nat.reduceLeDiff, Nat.reduceLT, Int.reduceLT, Int.reduceLE, Int.reduceEq, Int.reduceToNat, Int.reduceAdd, Int.reduceSub, Int.reduceNeg, ↓reduceIte, reduceCtorEq, ↓C.catnaplaw8_ResetAll_W, C.catnaplaw8_ResetAll_B, C.catnaplaw8_ResetAll]
  refine (rchip_spec hl hll).mono ?_
  rintro r s ⟨rfl, rfl⟩
  have hR := rOf_len l
  have hR2 := rOf_ok l
  generalize rOf l = R at hR hR2
  have l4 : (rchip R).cells.length = 4 := rfl
  have e4 : AV.agg (List.take 4 (rchip R).cells) = .agg (rchip R).cells := rfl
  have f4 : allLeaf (rchip R).cells = true := rfl
  simp only [↓Bp, Bq, Bs, ↓aop.eq_28, ↓aop.eq_30, Nat.reduceEqDiff, Nat.reduceAdd, Nat.reduceMul, Nat.reduceSub, Nat.reduceLeDiff, Nat.reduceLT, Int.reduceLT, Int.reduceLE, Int.reduceEq, Int.reduceToNat, Int.reduceAdd, Int.reduceSub, Int.reduceNeg, ↓reduceIte, reduceCtorEq, ↓C.catnaplaw8_ResetAll_r2_w, C.catnaplaw8_ResetAll_r2_b, ↓C.catnaplaw8_ResetAll_c47_w, ↓C.catnaplaw8_ResetAll_r1_w, C.catnaplaw8_ResetAll_r1_b, ↓C.catnaplaw8_ResetAll_c48_w, ↓C.catnaplaw8_ResetAll_r0_w, C.catnaplaw8_ResetAll_r0_b, C.catnaplaw8_ResetAll, l4, f4]
  rintro ib hib
  simp only [↓Bp, Bq, Bs, ↓aop.eq_28, ↓aop.eq_30, Nat.reduceEqDiff, Nat.reduceAdd, Nat.reduceMul, Nat.reduceSub, Nat.reduceLeDiff, Nat.reduceLT, Int.reduceLT, Int.reduceLE, Int.reduceEq, Int.reduceToNat, Int.reduceAdd, Int.reduceSub, Int.reduceNeg, ↓reduceIte, reduceCtorEq, ↓C.catnaplaw8_ResetAll_r2_w, C.catnaplaw8_ResetAll_r2_b, ↓C.catnaplaw8_ResetAll_c47_w, ↓C.catnaplaw8_ResetAll_r1_w, C.catnaplaw8_ResetAll_r1_b, ↓C.catnaplaw8_ResetAll_c48_w, ↓C.catnaplaw8_ResetAll_r0_w, C.catnaplaw8_ResetAll_r0_b, C.catnaplaw8_ResetAll, hib, l4, f4]
  rw [ASt.new_set hib, show putN [AV.nils, AV.nils, AV.nils, AV.nils] 0 (rchip R).cells = (rchip R).cells from putN_all rfl]
  simp only [↓Bp, Bq, Bs, ↓aop.eq_28, ↓aop.eq_30, Nat.reduceEqDiff, Nat.reduceAdd, Nat.reduceMul, Nat.reduceSub, Nat.reduceLeDiff, Nat.reduceLT, Int.reduceLT, Int.reduceLE, Int.reduceEq, Int.reduceToNat, Int.reduceAdd, Int.reduceSub, Int.reduceNeg, ↓reduceIte, reduceCtorEq, ↓C.catnaplaw8_ResetAll_W, C.catnaplaw8_ResetAll_B, C.catnaplaw8_ResetAll, hib, l4, e4]
  refine (start_spec hib hR hR2).mono ?_
  rintro r s1 ⟨p, m, rfl, h⟩
  simp only [↓Bp, Bq, Bs, ↓aop.eq_28, ↓aop.eq_30, Nat.reduceEqDiff, Nat.reduceAdd, Nat.reduceMul, Nat.reduceSub, Nat.reduceLeDiff, Nat.reduceLT, Int.reduceLT, Int.reduceLE, Int.reduceEq, Int.reduceToNat, Int.reduceAdd, Int.reduceSub, Int.reduceNeg, ↓reduceIte, reduceCtorEq, ↓C.catnaplaw8_ResetAll_r5_w, C.catnaplaw8_ResetAll_r5_b, ↓C.catnaplaw8_ResetAll_c43_w, ↓C.catnaplaw8_ResetAll_c44_w, ↓C.catnaplaw8_ResetAll_r4_w, C.catnaplaw8_ResetAll_r4_b, ↓C.catnaplaw8_ResetAll_c45_w, ↓C.catnaplaw8_ResetAll_r3_w, C.catnaplaw8_ResetAll_r3_b, ↓C.catnaplaw8_ResetAll_c46_w, ↓C.catnaplaw8_ResetAll_r2_w, C.catnaplaw8_ResetAll_r2_b, ↓C.catnaplaw8_ResetAll_c47_w, ↓C.catnaplaw8_ResetAll_r1_w, C.catnaplaw8_ResetAll_r1_b, ↓C.catnaplaw8_ResetAll_c48_w, ↓C.catnaplaw8_ResetAll_r0_w, C.catnaplaw8_ResetAll_r0_b, C.catnaplaw8_ResetAll]
  rw [C.catnaplaw8_ResetAll_c42_w, awp_keep]
  exact all_first hR hR2 h
end Go.Proofs.Ytkabdilikndhbaa.Cn
