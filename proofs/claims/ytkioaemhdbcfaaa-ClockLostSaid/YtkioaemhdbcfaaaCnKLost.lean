/- Clocks: ClockLost, what the tree is. -/
import Derived.Test.YtkioaemhdbcfaaaCnClock7
set_option linter.unusedSimpArgs false
set_option linter.unusedVariables false
set_option linter.unusedSectionVars false
namespace Go.Proofs.Ytkioaemhdbcfaaa.Cn
open Go Go.Proofs

def lostC (k : Int) : List Clk := [⟨111, [], 5, 0, 0, 0⟩, ⟨103, [0], 0, 0, 0, 0⟩, ⟨112, [1], 0, 2, 1, k⟩]
def lostN (k : Int) (g q : Bool) (l : Int) : List Nd := [⟨⟨111, [], 5, 0, 0, 0⟩, false, 0, 0, 0, 0⟩, ⟨⟨103, [0], 0, 0, 0, 0⟩, g, 0, 0, 0, 0⟩, ⟨⟨112, [1], 0, 2, 1, k⟩, q, l, 0, 0, 0⟩]
theorem lost_fresh (k : Int) : cfresh (lostC k) = lostN k false false k := rfl
theorem lost_len (k : Int) (g q : Bool) (l : Int) : (lostN k g q l).length = 3 := rfl
section
variable {k l : Int} (hk : 0 ≤ k ∧ k ≤ 20)
include hk
theorem lost_right : confErr ⟨lostC k, [], [], []⟩ = 0 := by
  refine clocks_right (by simp [lostC]) (fun i h => ?_) fun i h => ?_
  · have : i = 0 ∨ i = 1 ∨ i = 2 := by simp [lostC] at h; omega
    rcases this with rfl | rfl | rfl
    · exact (ClkOk.osc 5 (by omega) rfl).right h
    · exact (ClkOk.gate 0 (by omega)).right h
    · refine firstE_zero.mpr fun j hj => ?_
      have : j = 0 ∨ j = 1 ∨ j = 2 := by omega
      rcases this with rfl | rfl | rfl
      · rfl
      · refine firstE_zero.mpr fun j hj => ?_
        have : j = 0 := by simp [lostC] at hj; omega
        subst this; rfl
      · show (if (Clk.nums ⟨112, [1], 0, 2, 1, k⟩) = true then (0 : Int) else 3) = 0
        rw [if_pos]
        simp [Clk.nums]; omega
  · have : i = 0 ∨ i = 1 ∨ i = 2 := by simp [lostC] at h; omega
    rcases this with rfl | rfl | rfl <;> simp [lostC]
theorem lost_ok {g q : Bool} (hl : 0 ≤ l ∧ l ≤ 20) : NsOk (lostN k g q l) := fun i h => by
  have : i = 0 ∨ i = 1 ∨ i = 2 := by rw [lost_len] at h; omega
  rcases this with rfl | rfl | rfl
  · exact ⟨.inl rfl, by simp [lostN], by simp [lostN], by simp [lostN], by simp [lostN], by simp [lostN], by simp [lostN], by simp [lostN], by simp [lostN], by simp [lostN], by simp [lostN]⟩
  · exact ⟨.inr (.inr (.inr (.inl rfl))), by simp [lostN], by simp [lostN], by simp [lostN], by simp [lostN], by simp [lostN], by simp [lostN], by simp [lostN], by simp [lostN], by simp [lostN], by simp [lostN]⟩
  · exact ⟨.inr (.inl rfl), by simp [lostN], by simp [lostN], by simp [lostN], by simp [lostN], by simp [lostN], by simpa [lostN] using hl, by simpa [lostN] using hk, by simp [lostN], by simp [lostN], by simp [lostN]⟩
end
theorem lost_run (k : Int) (g q : Bool) (l : Int) : run (lostN k g q l) 2 = (q && decide (l = 0) && g) := by
  cases q <;> cases g <;> by_cases h : l = 0 <;> simp [run, runF, lostN, Nd.own, Nd.source, h]
theorem lost_run1 (k : Int) (g q : Bool) (l : Int) : run (lostN k g q l) 1 = g := by
  simp [run, runF, lostN, Nd.own, Nd.source]
theorem lost_rate (k : Int) (l : Int) : rateN (lostN k true true l) 2 = 10 := by
  rfl
theorem lost_tick (k : Int) (g q : Bool) (l : Int) : ctickL (lostN k g q l) = lostN k g q (if q = true then (if g = false then k else if 0 < l then l - 1 else l) else l) := by
  have h1 := lost_run1 k g q l
  unfold ctickL
  generalize run (lostN k g q l) = R at h1
  simp only [lostN, List.map_cons, List.map_nil, Nd.tick]
  simp [Nd.source, h1]
  cases q <;> simp
  cases g <;> simp
  split <;> rfl
theorem lost_on1 (k : Int) (g q : Bool) (l : Int) (b : Bool) (h : 1 < (lostN k g q l).length) : onL (lostN k g q l) 1 h b = lostN k b q l := by
  simp [onL, lostN, onE, Nd.turn]
theorem lost_on2 (k : Int) (g q : Bool) (l : Int) (h : 2 < (lostN k g q l).length) : onL (lostN k g q l) 2 h true = lostN k g true l := by
  simp [onL, lostN, onE, Nd.turn]
theorem lost_off2 (k : Int) (g q : Bool) (l : Int) (h : 2 < (lostN k g q l).length) : onL (lostN k g q l) 2 h false = lostN k g false k := by
  simp [onL, lostN, onE, Nd.turn]
end Go.Proofs.Ytkioaemhdbcfaaa.Cn
