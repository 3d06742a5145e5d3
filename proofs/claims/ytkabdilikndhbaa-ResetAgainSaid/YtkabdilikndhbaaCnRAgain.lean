/- Reset lines: ResetAgain. -/
import Derived.Test.YtkabdilikndhbaaCnRLate
set_option linter.unusedSimpArgs false
set_option linter.unusedVariables false
set_option linter.unusedSectionVars false
namespace Go.Proofs.Ytkabdilikndhbaa.Cn
open Go Go.Proofs

/-- All are fresh but two. -/
def twoL (R : List Int) (a : Nat) (x : Ln) (b : Nat) (y : Ln) : List Ln := (oneL R b y).set a x
section
variable {R : List Int} {a b : Nat} (ha : a < R.length) (hb : b < R.length) (x y : Ln)
theorem twoL_len : (twoL R a x b y).length = R.length := by simp [twoL, oneL_len]
theorem tickL_two : tickL (twoL R a x b y) = twoL R a (tick1 x) b (tick1 y) := by
  rw [twoL, tickL_set, tickL_one, twoL]
theorem twoL_seta (z : Ln) : (twoL R a x b y).set a z = twoL R a z b y := by simp [twoL, List.set_set]
theorem twoL_setb (z : Ln) (h : a ≠ b) : (twoL R a x b y).set b z = twoL R a x b z := by
  simp only [twoL, oneL]
  rw [List.set_comm _ _ h, List.set_set]
include ha in
theorem isLn_two : isLn (twoL R a x b y) a := isLn_at (by rw [twoL_len]; exact ha)
include hb in
theorem isLn_twob : isLn (twoL R a x b y) b := isLn_at (by rw [twoL_len]; exact hb)
include ha in
theorem lnOf_two : lnOf (twoL R a x b y) a = x := by
  rw [lnOf_at (by rw [twoL_len]; exact ha)]; simp [twoL]
include hb in
theorem lnOf_twob (h : a ≠ b) : lnOf (twoL R a x b y) b = y := by
  rw [lnOf_at (by rw [twoL_len]; exact hb)]; simp [twoL, oneL, List.getElem_set, h]
theorem two_goes {j : Nat} (hj : j < (twoL R a x b y).length) : goes (twoL R a x b y)[j] = if a = j then goes x else if b = j then goes y else false := by
  simp only [twoL, oneL, List.getElem_set]
  split
  · rfl
  · split
    · rfl
    · rw [freshL_at]; rfl
include ha hb in
theorem toldL_two (hx : goes x = false) (h : a ≠ b) (hy : goes y = true) : toldL (twoL R a x b y) = [b] :=
  toldL_one (by rw [twoL_len]; exact hb) fun j hj => by
    rw [two_goes]
    by_cases e : a = j
    · rw [if_pos e, hx, decide_eq_false (by omega)]
    · rw [if_neg e]
      by_cases e2 : b = j
      · rw [if_pos e2, hy, decide_eq_true e2.symm]
      · rw [if_neg e2, decide_eq_false (by omega)]
theorem toldL_none (hx : goes x = false) (h : a = b ∨ goes y = false) : toldL (twoL R a x b y) = [] :=
  toldL_nil fun j hj => by
    rw [two_goes]
    by_cases e : a = j
    · rw [if_pos e, hx]
    · rw [if_neg e]
      by_cases e2 : b = j
      · rw [if_pos e2]; rcases h with h | h
        · omega
        · exact h
      · rw [if_neg e2]
include ha in
theorem toldL_a (hx : goes x = true) (h : a = b ∨ goes y = false) : toldL (twoL R a x b y) = [a] :=
  toldL_one (by rw [twoL_len]; exact ha) fun j hj => by
    rw [two_goes]
    by_cases e : a = j
    · rw [if_pos e, hx, decide_eq_true e.symm]
    · rw [if_neg e, decide_eq_false (by omega)]
      by_cases e2 : b = j
      · rw [if_pos e2]; rcases h with h | h
        · omega
        · exact h
      · rw [if_neg e2]
include ha hb in
theorem two_self : twoL R a ⟨R[a], 0, true, false⟩ b ⟨R[b], 0, true, false⟩ = freshL R := by
  rw [twoL, oneL_self hb]; exact oneL_self ha
end
theorem two_left {R : List Int} {a b : Nat} {x y : Ln} (hx : x.left ≤ 1000) (hy : y.left ≤ 1000) : ∀ z ∈ twoL R a x b y, z.left ≤ 1000 := by
  intro z hz
  rcases List.mem_or_eq_of_mem_set hz with h1 | rfl
  · exact oneL_left b hy z h1
  · exact hx
section
variable {st s : ASt} {ib p m : Nat} {R : List Int} {a b : Nat} {x y : Ln} (h : RSt st s ib p m R (twoL R a x b y)) (ha : a < R.length) (hb : b < R.length)
include h ha
theorem RSt.assert2 : ACalls Try.prog F.reset_Lines_Assert [.ptr p 0, .int .i64 a] s fun r s' => r = .int .i64 0 ∧ RSt st s' ib p m R (twoL R a { x with held := true, left := x.least, wanted := false } b y) :=
  (h.assert a).mono fun r s' ⟨h1, h2⟩ => by
    rw [assertE, if_pos (isLn_two ha x y)] at h1
    rw [assertL, if_pos (isLn_two ha x y), lnOf_two ha, Int.toNat_natCast, twoL_seta] at h2
    exact ⟨h1, h2⟩
theorem RSt.release2 (hx : x.held = true) : ACalls Try.prog F.reset_Lines_Release [.ptr p 0, .int .i64 a] s fun r s' => r = .int .i64 0 ∧ RSt st s' ib p m R (twoL R a { x with wanted := true } b y) :=
  (h.release a).mono fun r s' ⟨h1, h2⟩ => by
    rw [releaseE, if_pos (isLn_two ha x y), lnOf_two ha, if_pos hx] at h1
    rw [releaseL, lnOf_two ha, if_pos ⟨isLn_two ha x y, hx⟩, Int.toNat_natCast, twoL_seta] at h2
    exact ⟨h1, h2⟩
theorem RSt.held2 : ACalls Try.prog F.reset_Lines_Held [.ptr p 0, .int .i64 a] s fun r s' => r = .bool x.held ∧ s' = s :=
  (held_spec h.ln a).mono fun r s' ⟨h1, h2⟩ => by
    rw [lnOf_two ha, decide_eq_true (isLn_two ha x y)] at h1
    exact ⟨h1, h2⟩
theorem RSt.left2 : ACalls Try.prog F.reset_Lines_Left [.ptr p 0, .int .i64 a] s fun r s' => r = .int .i64 (if x.held = true then x.left else 0) ∧ s' = s :=
  (left_spec h.ln a).mono fun r s' ⟨h1, h2⟩ => by
    rw [lnOf_two ha] at h1
    exact ⟨h1, h2⟩
omit ha
include hb
theorem RSt.release2b (hab : a ≠ b) (hy : y.held = true) : ACalls Try.prog F.reset_Lines_Release [.ptr p 0, .int .i64 b] s fun r s' => r = .int .i64 0 ∧ RSt st s' ib p m R (twoL R a x b { y with wanted := true }) :=
  (h.release b).mono fun r s' ⟨h1, h2⟩ => by
    rw [releaseE, if_pos (isLn_twob hb x y), lnOf_twob hb x y hab, if_pos hy] at h1
    rw [releaseL, lnOf_twob hb x y hab, if_pos ⟨isLn_twob hb x y, hy⟩, Int.toNat_natCast, twoL_setb _ _ _ hab] at h2
    exact ⟨h1, h2⟩
theorem RSt.held2b (hab : a ≠ b) : ACalls Try.prog F.reset_Lines_Held [.ptr p 0, .int .i64 b] s fun r s' => r = .bool y.held ∧ s' = s :=
  (held_spec h.ln b).mono fun r s' ⟨h1, h2⟩ => by
    rw [lnOf_twob hb x y hab, decide_eq_true (isLn_twob hb x y)] at h1
    exact ⟨h1, h2⟩
omit hb
theorem RSt.tick2 (hx : x.left ≤ 1000) (hy : y.left ≤ 1000) (hn : R.length ≤ 6) : ACalls Try.prog F.reset_Lines_Tick [.ptr p 0] s fun r s' => r = row (nats (toldL (twoL R a x b y))) ∧ RSt st s' ib p m R (twoL R a (Cn.tick1 x) b (Cn.tick1 y)) :=
  (h.tick (two_left hx hy) (by rw [twoL_len]; omega)).mono fun r s' ⟨h1, h2⟩ => by
    rw [tickL_two] at h2
    exact ⟨h1, h2⟩
end
end Go.Proofs.Ytkabdilikndhbaa.Cn
