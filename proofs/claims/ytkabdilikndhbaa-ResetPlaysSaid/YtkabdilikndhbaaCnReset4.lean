/- Reset lines: what the laws walk over. -/
import Derived.Test.YtkabdilikndhbaaCnReset3
set_option linter.unusedSimpArgs false
set_option linter.unusedVariables false
namespace Go.Proofs.Ytkabdilikndhbaa.Cn
open Go Go.Proofs

theorem tick1_mk (n l : Int) (w : Bool) : tick1 ⟨n, l, true, w⟩ = if 0 < l then ⟨n, l - 1, true, w⟩ else if w = true then ⟨n, l, false, false⟩ else ⟨n, l, true, w⟩ := rfl
theorem tick1_off (n l : Int) (w : Bool) : tick1 ⟨n, l, false, w⟩ = ⟨n, l, false, w⟩ := rfl
theorem goes_mk (n l : Int) (w : Bool) : goes ⟨n, l, true, w⟩ = (!decide (0 < l) && w) := rfl
theorem goes_off (n l : Int) (w : Bool) : goes ⟨n, l, false, w⟩ = false := rfl
theorem assertL_len (ls : List Ln) (i : Int) : (assertL ls i).length = ls.length := by unfold assertL; split <;> simp
theorem releaseL_len (ls : List Ln) (i : Int) : (releaseL ls i).length = ls.length := by unfold releaseL; split <;> simp
theorem tickL_len (ls : List Ln) : (tickL ls).length = ls.length := by simp [tickL]
theorem freshL_len (R : List Int) : (freshL R).length = R.length := by simp [freshL]
theorem isLn_at {ls : List Ln} {i : Nat} (h : i < ls.length) : isLn ls (i : Int) := ⟨by omega, by omega⟩
theorem tickL_set (ls : List Ln) (k : Nat) (x : Ln) : tickL (ls.set k x) = (tickL ls).set k (tick1 x) := by simp [tickL, List.map_set]
theorem freshL_at {R : List Int} {i : Nat} (h : i < (freshL R).length) : (freshL R)[i] = ⟨R[i]'(by rw [freshL_len] at h; exact h), 0, true, false⟩ := by simp [freshL]
theorem tickL_fresh (R : List Int) : tickL (freshL R) = freshL R := by
  simp only [tickL, freshL, List.map_map]
  rfl
theorem toldL_nil {ls : List Ln} (h : ∀ j (hj : j < ls.length), goes ls[j] = false) : toldL ls = [] := by
  rw [toldL, toldTo, List.filter_eq_nil_iff]
  intro j hj
  have hj' : j < ls.length := List.mem_range.mp hj
  simp [hj', h j hj']
theorem filter_range_one {f : Nat → Bool} {k : Nat} : ∀ n, k < n → (∀ j, j < n → f j = decide (j = k)) → (List.range n).filter f = [k] := by
  intro n
  induction n with
  | zero => intro h; omega
  | succ n ih =>
    intro h hf
    rw [List.range_succ, List.filter_append]
    by_cases e : k = n
    · subst e
      rw [show (List.range k).filter f = [] from List.filter_eq_nil_iff.mpr fun j hj => by
        have hj' := List.mem_range.mp hj
        rw [hf j (by omega)]; simp; omega]
      simp [hf k (by omega)]
    · rw [ih (by omega) (fun j hj => hf j (by omega))]
      have : ¬ n = k := fun h => e h.symm
      simp [hf n (by omega), this]
theorem toldL_one {ls : List Ln} {k : Nat} (hk : k < ls.length) (h : ∀ j (hj : j < ls.length), goes ls[j] = decide (j = k)) : toldL ls = [k] := by
  rw [toldL, toldTo]
  refine filter_range_one _ hk fun j hj => ?_
  simp [hj, h j hj]
/-- All are fresh but one. -/
def oneL (R : List Int) (k : Nat) (x : Ln) : List Ln := (freshL R).set k x
theorem oneL_len (R : List Int) (k : Nat) (x : Ln) : (oneL R k x).length = R.length := by simp [oneL, freshL_len]
theorem tickL_one (R : List Int) (k : Nat) (x : Ln) : tickL (oneL R k x) = oneL R k (tick1 x) := by
  rw [oneL, tickL_set, tickL_fresh, oneL]
theorem toldL_oneL {R : List Int} {k : Nat} (hk : k < R.length) (x : Ln) : toldL (oneL R k x) = if goes x = true then [k] else [] := by
  have hg : ∀ j (hj : j < (oneL R k x).length), goes (oneL R k x)[j] = if j = k then goes x else false := by
    intro j hj
    simp only [oneL, List.getElem_set]
    by_cases e : k = j
    · rw [if_pos e, if_pos e.symm]
    · rw [if_neg e, if_neg (fun h => e h.symm), freshL_at]; rfl
  by_cases h : goes x = true
  · rw [if_pos h]
    refine toldL_one (by rw [oneL_len]; exact hk) fun j hj => ?_
    rw [hg j hj]
    by_cases e : j = k <;> simp [e, h]
  · rw [if_neg h]
    refine toldL_nil fun j hj => ?_
    rw [hg j hj]
    by_cases e : j = k <;> simp [e, h]
theorem oneL_set (R : List Int) (k : Nat) (x y : Ln) : (oneL R k x).set k y = oneL R k y := by simp [oneL, List.set_set]
theorem lnOf_oneL {R : List Int} {k : Nat} (hk : k < R.length) (x : Ln) : lnOf (oneL R k x) k = x := by
  rw [lnOf_at (by rw [oneL_len]; exact hk)]
  simp [oneL]
theorem isLn_oneL {R : List Int} {k : Nat} (hk : k < R.length) (x : Ln) : isLn (oneL R k x) k := isLn_at (by rw [oneL_len]; exact hk)
theorem oneL_self {R : List Int} {k : Nat} (hk : k < R.length) : oneL R k ⟨R[k], 0, true, false⟩ = freshL R := by
  have hk' : k < (freshL R).length := by rw [freshL_len]; exact hk
  rw [oneL, ← freshL_at hk', List.set_getElem_self]
theorem assertL_oneL {R : List Int} {k : Nat} (hk : k < R.length) (x : Ln) : assertL (oneL R k x) k = oneL R k { x with held := true, left := x.least, wanted := false } := by
  rw [assertL, if_pos (isLn_oneL hk x), lnOf_oneL hk, Int.toNat_natCast, oneL_set]
theorem releaseL_oneL {R : List Int} {k : Nat} (hk : k < R.length) (x : Ln) : releaseL (oneL R k x) k = if x.held = true then oneL R k { x with wanted := true } else oneL R k x := by
  rw [releaseL, lnOf_oneL hk, Int.toNat_natCast, oneL_set]
  by_cases h : x.held = true
  · rw [if_pos ⟨isLn_oneL hk x, h⟩, if_pos h]
  · rw [if_neg (fun e => h e.2), if_neg h]
theorem oneL_left {R : List Int} (k : Nat) {x : Ln} (h : x.left ≤ 1000) : ∀ y ∈ oneL R k x, y.left ≤ 1000 := by
  intro y hy
  rcases List.mem_or_eq_of_mem_set hy with h1 | rfl
  · obtain ⟨n, _, rfl⟩ := List.mem_map.mp h1
    show (0 : Int) ≤ 1000
    omega
  · exact h

theorem rst_ints (R : List Int) : R.flatMap rstCells = ints R := by
  induction R with
  | nil => rfl
  | cons x R ih => rw [List.flatMap_cons, ih]; rfl
theorem rst_get {R : List Int} {k : Nat} (h : k < R.length) : (R.flatMap rstCells)[k]? = some (.int .i64 R[k]) := by
  rw [rst_ints]; exact ints_get h
/-- What a law has in hand: a chip, its lines, all beside st. -/
structure RSt (st s : ASt) (ib p m : Nat) (R : List Int) (ls : List Ln) : Prop where
  le : st.le s
  hb : s.h ib = some (.cells (rchip R).cells)
  ln : LinesAt s p m ls
  fm : st.h m = none
  ne : ib ≠ m
theorem RSt.set {st s : ASt} {ib p m : Nat} {R : List Int} {ls : List Ln} (h : RSt st s ib p m R ls) (ls' : List Ln) : RSt st (s.set m (lnsE ls')) ib p m R ls' :=
  ⟨fun j x hj => by
    rw [ASt.set_h, if_neg (by rintro rfl; rw [h.fm] at hj; cases hj)]; exact h.le _ _ hj, by
    rw [ASt.set_h, if_neg h.ne]; exact h.hb, h.ln.set _, h.fm, h.ne⟩
theorem RSt.step {st s t : ASt} {ib p m : Nat} {R : List Int} {ls : List Ln} (h : RSt st s ib p m R ls) (hl : s.le t) : RSt st t ib p m R ls :=
  ⟨h.le.trans hl, hl _ _ h.hb, h.ln.le hl, h.fm, h.ne⟩
section
variable {st s : ASt} {ib p m : Nat} {R : List Int} {ls : List Ln} (h : RSt st s ib p m R ls)
include h
theorem RSt.assert (i : Int) : ACalls Try.prog F.reset_Lines_Assert [.ptr p 0, .int .i64 i] s fun r s' => r = .int .i64 (assertE ls i) ∧ RSt st s' ib p m R (assertL ls i) :=
  (assert_spec h.ln i).mono fun _ _ ⟨h1, h2⟩ => ⟨h1, h2 ▸ h.set _⟩
theorem RSt.release (i : Int) : ACalls Try.prog F.reset_Lines_Release [.ptr p 0, .int .i64 i] s fun r s' => r = .int .i64 (releaseE ls i) ∧ RSt st s' ib p m R (releaseL ls i) :=
  (release_spec h.ln i).mono fun _ _ ⟨h1, h2⟩ => ⟨h1, h2 ▸ h.set _⟩
theorem RSt.tick (hb : ∀ x ∈ ls, x.left ≤ 1000) (hn : ls.length ≤ 1000) : ACalls Try.prog F.reset_Lines_Tick [.ptr p 0] s fun r s' => r = row (nats (toldL ls)) ∧ RSt st s' ib p m R (tickL ls) :=
  (tick_spec h.ln hb hn).mono fun _ _ ⟨h1, h2⟩ => ⟨h1, h2 ▸ h.set _⟩
end
/-- One line alone has gone its way. -/
theorem RSt.assert1 {st s : ASt} {ib p m : Nat} {R : List Int} {k : Nat} {x : Ln} (h : RSt st s ib p m R (oneL R k x)) (hk : k < R.length) :
    ACalls Try.prog F.reset_Lines_Assert [.ptr p 0, .int .i64 k] s fun r s' => r = .int .i64 0 ∧ RSt st s' ib p m R (oneL R k { x with held := true, left := x.least, wanted := false }) :=
  (h.assert k).mono fun r s' ⟨h1, h2⟩ => by
    rw [assertE, if_pos (isLn_oneL hk x)] at h1
    rw [assertL_oneL hk] at h2
    exact ⟨h1, h2⟩
theorem RSt.release1 {st s : ASt} {ib p m : Nat} {R : List Int} {k : Nat} {x : Ln} (h : RSt st s ib p m R (oneL R k x)) (hk : k < R.length) :
    ACalls Try.prog F.reset_Lines_Release [.ptr p 0, .int .i64 k] s fun r s' => r = .int .i64 (if x.held = true then 0 else 6) ∧ RSt st s' ib p m R (oneL R k (if x.held = true then { x with wanted := true } else x)) :=
  (h.release k).mono fun r s' ⟨h1, h2⟩ => by
    rw [releaseE, if_pos (isLn_oneL hk x), lnOf_oneL hk] at h1
    rw [releaseL_oneL hk] at h2
    refine ⟨h1, ?_⟩
    split
    · rename_i e; rw [if_pos e] at h2; exact h2
    · rename_i e; rw [if_neg e] at h2; exact h2
theorem RSt.tick1 {st s : ASt} {ib p m : Nat} {R : List Int} {k : Nat} {x : Ln} (h : RSt st s ib p m R (oneL R k x)) (hk : k < R.length) (hx : x.left ≤ 1000) (hn : R.length ≤ 6) :
    ACalls Try.prog F.reset_Lines_Tick [.ptr p 0] s fun r s' => r = row (nats (if goes x = true then [k] else [])) ∧ RSt st s' ib p m R (oneL R k (Cn.tick1 x)) :=
  (h.tick (oneL_left k hx) (by rw [oneL_len]; omega)).mono fun r s' ⟨h1, h2⟩ => by
    rw [toldL_oneL hk] at h1
    rw [tickL_one] at h2
    exact ⟨h1, h2⟩
theorem RSt.held1 {st s : ASt} {ib p m : Nat} {R : List Int} {k : Nat} {x : Ln} (h : RSt st s ib p m R (oneL R k x)) (hk : k < R.length) :
    ACalls Try.prog F.reset_Lines_Held [.ptr p 0, .int .i64 k] s fun r s' => r = .bool x.held ∧ s' = s :=
  (held_spec h.ln k).mono fun r s' ⟨h1, h2⟩ => by
    rw [lnOf_oneL hk, decide_eq_true (isLn_oneL hk x)] at h1
    exact ⟨h1, h2⟩
theorem RSt.left1 {st s : ASt} {ib p m : Nat} {R : List Int} {k : Nat} {x : Ln} (h : RSt st s ib p m R (oneL R k x)) (hk : k < R.length) :
    ACalls Try.prog F.reset_Lines_Left [.ptr p 0, .int .i64 k] s fun r s' => r = .int .i64 (if x.held = true then x.left else 0) ∧ s' = s :=
  (left_spec h.ln k).mono fun r s' ⟨h1, h2⟩ => by
    rw [lnOf_oneL hk] at h1
    exact ⟨h1, h2⟩
/-- The chip of the law, and its new lines. -/
theorem start_spec {st : ASt} {ib : Nat} {R : List Int} (hib : st.h ib = none) (hR : R.length ≤ 6) (hR2 : ∀ x ∈ R, 0 ≤ x ∧ x ≤ 20) :
    ACalls Try.prog F.reset_New [.agg (rchip R).cells] (st.new ib (.cells (rchip R).cells)) fun r s => ∃ p m, r = .tup [.ptr p 0, .int .i64 0] ∧ RSt st s ib p m R (freshL R) := by
  refine (new_spec (rchip_fine R) (by show R.length ≤ 1000; omega)).mono ?_
  rintro r s (⟨h, _⟩ | ⟨_, p, m, rfl, hL, hp, hm, hle2⟩)
  · exact absurd (rchip_right hR hR2) h
  · have hself := ASt.new_self (AObj.cells (rchip R).cells) hib
    rw [ASt.new_none] at hm
    exact ⟨p, m, rfl, (ASt.le.new st ib _).trans hle2, hle2 _ _ hself, hL, hm.1, fun e => hm.2 e.symm⟩
end Go.Proofs.Ytkabdilikndhbaa.Cn
