/- Reset lines: ResetTicks, what stays true. -/
import Derived.Test.YtkabdilikndhbaaCnRAll
import Derived.Test.YtkabdilikndhbaaCnL2
set_option linter.unusedSimpArgs false
set_option linter.unusedVariables false
set_option linter.unusedSectionVars false
namespace Go.Proofs.Ytkabdilikndhbaa.Cn
open Go Go.Proofs

structure TInv (ls : List Ln) (A : List Bool) : Prop where
  len : A.length = ls.length
  want : ∀ j (h : j < ls.length) (h' : j < A.length), ls[j].wanted = true → A[j] = true
  low : ∀ x ∈ ls, 0 ≤ x.left ∧ x.left ≤ 20 ∧ 0 ≤ x.least ∧ x.least ≤ 20
theorem TInv.fresh {R : List Int} (hR2 : ∀ x ∈ R, 0 ≤ x ∧ x ≤ 20) : TInv (freshL R) (List.replicate R.length false) where
  len := by simp [freshL]
  want := fun j h h' e => by rw [freshL_at] at e; cases e
  low := fun x hx => by
    obtain ⟨n, hn, rfl⟩ := List.mem_map.mp hx
    have := hR2 n hn
    exact ⟨Int.le_refl 0, by show (0 : Int) ≤ 20; omega, this⟩
theorem TInv.put {ls : List Ln} {A : List Bool} (h : TInv ls A) {k : Nat} {x : Ln} {b : Bool} (hx : 0 ≤ x.left ∧ x.left ≤ 20 ∧ 0 ≤ x.least ∧ x.least ≤ 20) (hb : x.wanted = true → b = true) : TInv (ls.set k x) (A.set k b) where
  len := by simp [h.len]
  want := fun j h1 h2 e => by
    simp only [List.getElem_set] at e ⊢
    split
    · rename_i hk; rw [if_pos hk] at e; exact hb e
    · rename_i hk; rw [if_neg hk] at e; exact h.want j _ _ e
  low := fun y hy => by
    rcases List.mem_or_eq_of_mem_set hy with h1 | rfl
    · exact h.low y h1
    · exact hx
theorem TInv.off {ls : List Ln} {A : List Bool} (h : TInv ls A) {k : Nat} (hk : k < ls.length) (hb : ls[k].wanted = false) : TInv ls (A.set k false) := by
  have := h.put (k := k) (x := ls[k]) (b := false) (h.low _ (List.getElem_mem hk)) (fun e => by rw [hb] at e; cases e)
  rw [List.set_getElem_self] at this
  exact this
theorem tick1_wanted {x : Ln} (h : (Cn.tick1 x).wanted = true) : x.wanted = true := by
  obtain ⟨n, l, b, w⟩ := x
  cases b
  · exact h
  · rw [tick1_mk] at h
    split at h
    · exact h
    · split at h
      · cases h
      · exact h
theorem tick1_low {x : Ln} (h : 0 ≤ x.left ∧ x.left ≤ 20 ∧ 0 ≤ x.least ∧ x.least ≤ 20) : 0 ≤ (Cn.tick1 x).left ∧ (Cn.tick1 x).left ≤ 20 ∧ 0 ≤ (Cn.tick1 x).least ∧ (Cn.tick1 x).least ≤ 20 := by
  obtain ⟨n, l, b, w⟩ := x
  simp only at h
  cases b
  · exact h
  · rw [tick1_mk]
    split
    · refine ⟨?_, ?_, h.2.2⟩
      · show 0 ≤ l - 1; omega
      · show l - 1 ≤ 20; omega
    · split <;> exact h
theorem TInv.tick {ls : List Ln} {A : List Bool} (h : TInv ls A) : TInv (tickL ls) A where
  len := by rw [h.len, tickL_len]
  want := fun j h1 h2 e => by
    simp only [tickL, List.getElem_map] at e
    exact h.want j (by rw [tickL_len] at h1; exact h1) h2 (tick1_wanted e)
  low := fun y hy => by
    obtain ⟨x, hx, rfl⟩ := List.mem_map.mp hy
    exact tick1_low (h.low x hx)
theorem TInv.left {ls : List Ln} {A : List Bool} (h : TInv ls A) : ∀ x ∈ ls, x.left ≤ 1000 := fun x hx => by
  have := h.low x hx; omega
/-- What a tick that lets go of a line says of it. -/
theorem goes_says {x : Ln} (h : goes x = true) (h0 : 0 ≤ x.left) : x.held = true ∧ x.left = 0 ∧ x.wanted = true ∧ (Cn.tick1 x).held = false ∧ (Cn.tick1 x).wanted = false := by
  obtain ⟨n, l, b, w⟩ := x
  cases b
  · cases h
  · rw [goes_mk] at h
    simp only at h0
    cases w
    · rw [Bool.and_false] at h; cases h
    · have h2 : ¬ 0 < l := by simpa using h
      rw [tick1_mk, if_neg h2, if_pos rfl]
      exact ⟨rfl, by show l = 0; omega, rfl, rfl, rfl⟩
/-- What a tick does to what is left. -/
theorem tick1_left {x : Ln} (h0 : 0 ≤ x.left) : (if (Cn.tick1 x).held = true then (Cn.tick1 x).left else 0) = max ((if x.held = true then x.left else 0) - 1) 0 := by
  obtain ⟨n, l, b, w⟩ := x
  simp only at h0
  cases b
  · rw [tick1_off]; rfl
  · rw [tick1_mk]
    by_cases h : 0 < l
    · rw [if_pos h]
      show l - 1 = max (l - 1) 0
      omega
    · rw [if_neg h]
      cases w
      · show l = max (l - 1) 0
        omega
      · show (0 : Int) = max (l - 1) 0
        omega
theorem tick1_held {x : Ln} (h : x.held = false) : (Cn.tick1 x).held = false := by
  obtain ⟨n, l, b, w⟩ := x
  simp only at h
  subst h; rfl
theorem toldL_lt {ls : List Ln} {j : Nat} (h : j < (toldL ls).length) : (toldL ls)[j] < ls.length := by
  have := List.getElem_mem h
  simp only [toldL, toldTo, List.mem_filter, List.mem_range] at this
  exact this.1
theorem toldL_goes {ls : List Ln} {j : Nat} (h : j < (toldL ls).length) : goes (ls[(toldL ls)[j]]'(toldL_lt h)) = true := by
  have := List.getElem_mem h
  simp only [toldL, toldTo, List.mem_filter, List.mem_range] at this
  have h2 := this.2
  have h3 : (toldL ls)[j] < ls.length := toldL_lt h
  simp only [toldL, toldTo] at h3 ⊢
  rw [List.getD_eq_getElem?_getD, List.getElem?_eq_getElem h3] at h2
  exact h2
theorem toldL_up {ls : List Ln} {i j : Nat} (hij : i < j) (h : j < (toldL ls).length) : (toldL ls)[i]'(by omega) < (toldL ls)[j] := by
  have : (toldL ls).Pairwise (· < ·) := List.Pairwise.filter _ List.pairwise_lt_range
  exact List.pairwise_iff_getElem.mp this i j (by omega) h hij
theorem toldL_len (ls : List Ln) : (toldL ls).length ≤ ls.length := toldTo_len ls _

/-- A list taken over so far. -/
def upto {α β : Type} (f : α → β) (z : β) (l : List α) (i : Nat) : List β := (l.take i).map f ++ List.replicate (l.length - i) z
theorem upto_zero {α β : Type} (f : α → β) (z : β) (l : List α) : upto f z l 0 = List.replicate l.length z := by simp [upto]
theorem upto_all {α β : Type} (f : α → β) (z : β) (l : List α) : upto f z l l.length = l.map f := by simp [upto]
theorem upto_len {α β : Type} (f : α → β) (z : β) (l : List α) (i : Nat) : (upto f z l i).length = l.length := by simp [upto]; omega
theorem upto_set {α β : Type} (f : α → β) (z : β) {l : List α} {i : Nat} (h : i < l.length) : (upto f z l i).set i (f l[i]) = upto f z l (i + 1) := by
  simp only [upto]
  rw [List.set_append_right _ _ (by simp; omega), List.take_succ_eq_append_getElem h, List.map_append]
  have e1 : i - ((l.take i).map f).length = 0 := by simp; omega
  have e2 : l.length - i = (l.length - (i + 1)) + 1 := by omega
  rw [e1, e2, List.replicate_succ, List.set_cons_zero]
  simp
def bools (l : List Bool) : List AV := l.map .bool
theorem bools_length (l : List Bool) : (bools l).length = l.length := by simp [bools]
theorem bools_set (l : List Bool) (i : Nat) (b : Bool) : (bools l).set i (.bool b) = bools (l.set i b) := by simp [bools, List.map_set]
theorem bools_get {l : List Bool} {i : Nat} (h : i < l.length) : (bools l)[i]? = some (.bool l[i]) := by simp [bools, h]
theorem zeros_bool (n : Nat) : zeros [.bool false] n = bools (List.replicate n false) := by
  induction n with
  | zero => rfl
  | succ n ih => rw [zeros, ih]; rfl
theorem pair_gets : ∀ (l : List Pair) {i : Nat} (h : i < l.length), (l.flatMap encPair)[i * 2]? = some (.int .i64 l[i].a) ∧ (l.flatMap encPair)[i * 2 + 1]? = some (.int .i64 l[i].b)
  | [], i, h => by simp at h
  | p :: l, 0, h => ⟨rfl, rfl⟩
  | p :: l, i + 1, h => by
    have := pair_gets l (i := i) (by simpa using h)
    rw [List.flatMap_cons, show (i + 1) * 2 = i * 2 + 1 + 1 by omega]
    exact this
/-- Chip, lines, and what was asked for. -/
structure TSt (st s : ASt) (ib ia p m : Nat) (R : List Int) (ls : List Ln) (A : List Bool) : Prop where
  r : RSt st s ib p m R ls
  ha : s.h ia = some (.cells (bools A))
  fa : st.h ia = none
  inv : TInv ls A
  len : ls.length = R.length
theorem TSt.nm {st s : ASt} {ib ia p m : Nat} {R : List Int} {ls : List Ln} {A : List Bool} (h : TSt st s ib ia p m R ls A) : ia ≠ m := by
  rintro rfl
  have := h.ha
  rw [h.r.ln.hm] at this; cases this
theorem TSt.lines {st s : ASt} {ib ia p m : Nat} {R : List Int} {ls : List Ln} {A : List Bool} (h : TSt st s ib ia p m R ls A) (ls' : List Ln) (hi : TInv ls' A) (hl : ls'.length = ls.length) : TSt st (s.set m (lnsE ls')) ib ia p m R ls' A :=
  ⟨h.r.set ls', by rw [ASt.set_h, if_neg h.nm]; exact h.ha, h.fa, hi, hl.trans h.len⟩
theorem TSt.step {st s t : ASt} {ib ia p m : Nat} {R : List Int} {ls : List Ln} {A : List Bool} (h : TSt st s ib ia p m R ls A) (hl : s.le t) : TSt st t ib ia p m R ls A :=
  ⟨h.r.step hl, hl _ _ h.ha, h.fa, h.inv, h.len⟩
end Go.Proofs.Ytkabdilikndhbaa.Cn
