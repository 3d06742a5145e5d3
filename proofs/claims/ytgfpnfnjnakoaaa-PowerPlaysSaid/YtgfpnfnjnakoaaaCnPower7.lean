/- Power: chains, what stays as it is in a tick, and what stays true of what hangs on what. -/
import Derived.Test.YtgfpnfnjnakoaaaCnPower6
set_option linter.unusedSimpArgs false
set_option linter.unusedVariables false
namespace Go.Proofs.Ytgfpnfnjnakoaaa.Cn
open Go Go.Proofs

/-- A chain: the numbers, from the one on which all hangs down to one. -/
structure ChainOk (gs : List Gd) (c : List Nat) (x : Nat) : Prop where
  pos : 0 < c.length
  last : ∀ (h : c.length - 1 < c.length), c[c.length - 1] = x
  lt : ∀ j (h : j < c.length), c[j] < gs.length
  top : ∀ (h : 0 < c.length) (h2 : c[0] < gs.length), gs[c[0]].above = -1
  link : ∀ j (h : j + 1 < c.length) (h2 : c[j + 1] < gs.length), gs[c[j + 1]].above = (c[j] : Nat)
theorem chain_list {gs : List Gd} (hl : Lesser gs) : ∀ (f x : Nat), x < gs.length → x < f → ∃ c : List Nat, (chainR gs f (x : Int)).reverse = c.map Int.ofNat ∧ ChainOk gs c x
  | 0, x, hx, hf => by omega
  | f + 1, x, hx, hf => by
    have e1 : ¬ (x : Int) = -1 := by omega
    have hlx := hl x hx
    by_cases ha : gs[x].above = -1
    · refine ⟨[x], ?_, ⟨by simp, fun h => rfl, fun j h => ?_, fun h h2 => ha, fun j h => ?_⟩⟩
      · rw [chainR, if_neg e1, gAbove_at hx, ha]
        have : chainR gs f (-1) = [] := by cases f <;> rfl
        rw [this]; rfl
      · have : j = 0 := by simpa using h
        subst this; exact hx
      · simp at h
    · obtain ⟨u, hu⟩ : ∃ u : Nat, gs[x].above = u := ⟨gs[x].above.toNat, by omega⟩
      have hux : u < x := by omega
      obtain ⟨c, hc, hk⟩ := chain_list hl f u (by omega) (by omega)
      have hp := hk.pos
      refine ⟨c ++ [x], ?_, ⟨by simp, fun h => by simp, fun j h => ?_, fun h h2 => ?_, fun j h h2 => ?_⟩⟩
      · rw [chainR, if_neg e1, gAbove_at hx, hu, List.reverse_cons, hc, List.map_append]; rfl
      · rw [List.getElem_append]; split
        · exact hk.lt _ _
        · simpa using hx
      · have e0 : (c ++ [x])[0] = c[0] := List.getElem_append_left hp
        simp only [e0]
        exact hk.top hp (hk.lt 0 hp)
      · simp only [List.length_append, List.length_singleton] at h
        have e0 : (c ++ [x])[j] = c[j]'(by omega) := List.getElem_append_left (by omega)
        by_cases hj : j + 1 < c.length
        · have e2 : (c ++ [x])[j + 1] = c[j + 1] := List.getElem_append_left hj
          simp only [e0, e2]
          exact hk.link j hj (hk.lt _ hj)
        · have e2 : (c ++ [x])[j + 1] = x := by rw [List.getElem_append_right (by omega)]; simp
          have e3 : c[j]'(by omega) = u := by
            have := hk.last (by omega)
            simp only [show c.length - 1 = j by omega] at this
            exact this
          simp only [e0, e2, e3]
          exact hu
theorem chain_at {gs : List Gd} (hl : Lesser gs) {x : Nat} (hx : x < gs.length) : ∃ c : List Nat, chainOf gs (x : Int) = c.map Int.ofNat ∧ ChainOk gs c x ∧ c.length ≤ gs.length + 1 := by
  obtain ⟨c, h1, h2⟩ := chain_list hl (gs.length + 1) x hx (by omega)
  refine ⟨c, by rw [chainOf, if_pos (isGd_at hx), h1], h2, ?_⟩
  have := chainR_len gs (gs.length + 1) (x : Int)
  have e := congrArg List.length h1
  simp only [List.length_reverse, List.length_map] at e
  omega
theorem ChainOk.up {gs : List Gd} {c : List Nat} {x : Nat} (h : ChainOk gs c x) (hl : Lesser gs) {j : Nat} (hj : j + 1 < c.length) : c[j] < c[j + 1] := by
  have h2 := h.lt (j + 1) hj
  have := h.link j hj h2
  have := hl _ h2
  omega
theorem ChainOk.lt_of {gs : List Gd} {c : List Nat} {x : Nat} (h : ChainOk gs c x) (hl : Lesser gs) : ∀ (m i : Nat) (hi : i + m + 1 < c.length), c[i] < c[i + m + 1]
  | 0, i, hi => h.up hl hi
  | m + 1, i, hi => Nat.lt_trans (h.lt_of hl m i (by omega)) (h.up hl hi)
theorem ChainOk.mono {gs : List Gd} {c : List Nat} {x : Nat} (h : ChainOk gs c x) (hl : Lesser gs) {i j : Nat} (hij : i < j) (hj : j < c.length) : c[i] < c[j] := by
  have := h.lt_of hl (j - i - 1) i (by omega)
  simp only [show i + (j - i - 1) + 1 = j by omega] at this
  exact this
/-- The same chains, where all hang as before. -/
theorem ChainOk.same {gs gs' : List Gd} {c : List Nat} {x : Nat} (h : ChainOk gs c x) (hl : gs'.length = gs.length) (hs : ∀ i (h1 : i < gs'.length) (h2 : i < gs.length), gs'[i].above = gs[i].above) : ChainOk gs' c x where
  pos := h.pos
  last := h.last
  lt := fun j hj => by rw [hl]; exact h.lt j hj
  top := fun h1 h2 => by rw [hs _ h2 (h.lt _ h1)]; exact h.top _ _
  link := fun j hj h2 => by rw [hs _ h2 (h.lt _ hj)]; exact h.link j hj _
theorem GInv.same2 {D : List Dom} {gs gs' : List Gd} (h : GInv D gs) (h' : GInv D gs') : gs'.length = gs.length ∧ ∀ i (h1 : i < gs'.length) (h2 : i < gs.length), gs'[i].above = gs[i].above :=
  ⟨by rw [h.len, h'.len], fun i h1 h2 => by rw [(h.same i h2 (by rw [← h.len]; exact h2)).1, (h'.same i h1 (by rw [← h'.len]; exact h1)).1]⟩
theorem ints_nat (c : List Nat) : ints (c.map Int.ofNat) = c.map fun (n : Nat) => AV.int .i64 (n : Int) := by simp [ints]
theorem ints_nat_get {c : List Nat} {j : Nat} (h : j < c.length) : (ints (c.map Int.ofNat))[j]? = some (.int .i64 (c[j] : Nat)) := by rw [ints_nat]; simp [h]
theorem row_nat (c : List Nat) : row (c.map Int.ofNat) = .isl 1 (ints (c.map Int.ofNat)) c.length := by rw [row, List.length_map]
/-- What a tick leaves as it is. -/
def Gd.still (g : Gd) : Prop := g.phase = 48 ∨ g.phase = 49 ∨ g.phase = 116
theorem Gd.still.tick {g : Gd} (h : g.still) : gtick g = g ∧ gev g = 0 := by
  unfold Gd.still at h; unfold gtick gev
  rcases h with h | h | h <;> rw [h] <;> exact ⟨rfl, rfl⟩
/-- All but one stay as they are in a tick. -/
def Still (gs : List Gd) (k : Nat) : Prop := ∀ i (h : i < gs.length), i ≠ k → gs[i].still
theorem Still.tick {gs : List Gd} {k : Nat} (h : Still gs k) (hk : k < gs.length) : gtickL gs = gs.set k (gtick gs[k]) := by
  refine List.ext_getElem (by simp [gtickL]) fun i h1 h2 => ?_
  simp only [gtickL_len] at h1
  rw [List.getElem_set]
  simp only [gtickL, List.getElem_map]
  split
  · rename_i e; subst e; rfl
  · rename_i e; exact (h i h1 (Ne.symm e)).tick.1
theorem filter_one (k : Nat) (p : Nat → Bool) : ∀ n, k < n → (∀ i, i < n → i ≠ k → p i = false) → (List.range n).filter p = if p k then [k] else []
  | 0, h, _ => by omega
  | n + 1, h, hp => by
    rw [List.range_succ, List.filter_append]
    by_cases e : k = n
    · subst e
      have : (List.range k).filter p = [] := List.filter_eq_nil_iff.mpr fun i hi => by
        have := List.mem_range.mp hi
        simp [hp i (by omega) (by omega)]
      rw [this]
      cases hpk : p k <;> simp [hpk]
    · rw [filter_one k p n (by omega) fun i h1 h2 => hp i (by omega) h2]
      simp [hp n (by omega) (Ne.symm e)]
theorem Still.evs {gs : List Gd} {k : Nat} (h : Still gs k) (hk : k < gs.length) : evs gs = if gev gs[k] ≠ 0 then [(gev gs[k], k)] else [] := by
  rw [Cn.evs, evTo, filter_one k _ gs.length hk fun i h1 h2 => by simp [h1, (h i h1 h2).tick.2]]
  have e : gs.getD k ⟨0, 0, false, 0, 0, false, false⟩ = gs[k] := by simp [hk]
  simp only [e]
  by_cases h0 : gev gs[k] = 0
  · simp [h0]
  · simp [h0, hk]
theorem Still.set {gs : List Gd} {k : Nat} (h : Still gs k) (g : Gd) : Still (gs.set k g) k := fun i hi he => by
  simp only [List.length_set] at hi
  rw [List.getElem_set_ne (Ne.symm he)]; exact h i hi he
/-- All that is not down hangs on what lives; what is kept can be kept. -/
structure HInv (gs : List Gd) : Prop where
  par : ∀ i (h : i < gs.length) (a : Nat) (ha : a < gs.length), gs[i].isDown = false → gs[i].above = (a : Int) → gs[a].phase = 49
  kp : ∀ i (h : i < gs.length), (gs[i].phase = 99 → gs[i].keep = true → gs[i].ret = true) ∧ (gs[i].phase = 116 → gs[i].ret = true)
theorem isDown_false {g : Gd} : g.isDown = false ↔ g.phase ≠ 48 ∧ g.phase ≠ 116 := by unfold Gd.isDown; simp
theorem isDown_true {g : Gd} : g.isDown = true ↔ g.phase = 48 ∨ g.phase = 116 := by unfold Gd.isDown; simp
theorem HInv.fresh (D : List Dom) : HInv (gfresh D) where
  par := fun i h a ha hd => by
    have := (isDown_false.mp hd).1
    simp [gfresh] at this
  kp := fun i h => by simp [gfresh]
theorem HInv.up {gs : List Gd} (h : HInv gs) (hl : Lesser gs) {i : Nat} (hi : i < gs.length) : HInv (upG gs i hi) := by
  unfold upG
  split
  · exact h
  rename_i hc
  have hd : gs[i].isDown = true := by
    cases e : gs[i].isDown
    · exact absurd (.inl e) hc
    · rfl
  have hdd := isDown_true.mp hd
  constructor
  · intro j hj a ha hdj hab
    simp only [List.length_set] at hj ha
    have hne : ∀ (x : Nat) (hx : x < gs.length), gs[x].phase = 49 → x ≠ i := fun x hx e e2 => by subst e2; omega
    by_cases e : i = j
    · subst e
      rw [List.getElem_set_self] at hab
      have hab' : gs[i].above = (a : Int) := hab
      have hpa : gs[a].phase = 49 := by
        by_cases e2 : gs[a].phase = 49
        · exact e2
        · exact absurd (.inr ⟨by omega, by rw [hab', Int.toNat_natCast]; simpa [ha] using e2⟩) hc
      rw [List.getElem_set_ne (Ne.symm (hne a ha hpa))]; exact hpa
    · rw [List.getElem_set_ne e] at hdj hab
      have hpa := h.par j hj a ha hdj hab
      rw [List.getElem_set_ne (Ne.symm (hne a ha hpa))]; exact hpa
  · intro j hj
    simp only [List.length_set] at hj
    by_cases e : i = j
    · subst e
      rw [List.getElem_set_self]
      exact ⟨fun e => absurd e (by show ¬ (114 : Int) = 99; decide), fun e => absurd e (by show ¬ (114 : Int) = 116; decide)⟩
    · rw [List.getElem_set_ne e]; exact h.kp j hj
theorem HInv.down {gs : List Gd} (h : HInv gs) {i : Nat} (hi : i < gs.length) (k : Bool) (hl : Lesser gs) : HInv (downG gs i hi k) := by
  unfold downG
  split
  rotate_left
  · exact h
  rename_i hc
  unfold downE at hc
  by_cases h1 : gs[i].phase = 49
  rotate_left
  · rw [if_pos h1] at hc; simp at hc
  rw [if_neg (by simp [h1])] at hc
  by_cases h2 : k = true ∧ gs[i].ret = false
  · rw [if_pos h2] at hc; simp at hc
  rw [if_neg h2] at hc
  by_cases h3 : someUp gs i = true
  · rw [if_pos h3] at hc; simp at hc
  constructor
  · intro j hj a ha hdj hab
    simp only [List.length_set] at hj ha
    by_cases e : i = j
    · subst e
      rw [List.getElem_set_self] at hab
      have hab' : gs[i].above = (a : Int) := hab
      have := hl i hi
      rw [List.getElem_set_ne (by omega)]
      exact h.par i hi a ha (isDown_false.mpr ⟨by omega, by omega⟩) hab'
    · rw [List.getElem_set_ne e] at hdj hab
      have hia : i ≠ a := fun e2 => by subst e2; exact h3 (someUp_some hj hab hdj)
      rw [List.getElem_set_ne hia]
      exact h.par j hj a ha hdj hab
  · intro j hj
    simp only [List.length_set] at hj
    by_cases e : i = j
    · subst e
      rw [List.getElem_set_self]
      refine ⟨fun _ hk => ?_, fun e => absurd e (by show ¬ (99 : Int) = 116; decide)⟩
      have hk' : k = true := hk
      show gs[i].ret = true
      cases hr : gs[i].ret
      · exact absurd ⟨hk', hr⟩ h2
      · rfl
    · rw [List.getElem_set_ne e]; exact h.kp j hj
theorem gtick_up {g : Gd} (h : (gtick g).isDown = false) : g.isDown = false := by
  cases e : g.isDown
  · rfl
  · have := isDown_true.mp e
    have hs : g.still := by unfold Gd.still; omega
    rw [hs.tick.1, e] at h; exact h
theorem gtick_live {g : Gd} (h : g.phase = 49) : (gtick g).phase = 49 := by
  have hs : g.still := .inr (.inl h)
  rw [hs.tick.1]; exact h
theorem HInv.tick {gs : List Gd} (h : HInv gs) : HInv (gtickL gs) where
  par := fun i hi a ha hd hab => by
    simp only [gtickL_len] at hi ha
    simp only [gtickL, List.getElem_map] at hd hab ⊢
    rw [(gtick_same _).1] at hab
    exact gtick_live (h.par i hi a ha (gtick_up hd) hab)
  kp := fun i hi => by
    simp only [gtickL_len] at hi
    simp only [gtickL, List.getElem_map]
    have hk := h.kp i hi
    generalize gs[i] = g at hk
    obtain ⟨ab, de, re, ph, le, ba, ke⟩ := g
    simp only at hk
    unfold gtick
    simp only
    split
    · split
      · rename_i e _; exact ⟨fun e2 => by simp only at e2; omega, fun e2 => by simp only at e2; omega⟩
      · exact ⟨fun e2 => by simp at e2, fun e2 => by simp at e2⟩
    · split
      · exact ⟨fun e2 => by simp at e2, fun e2 => by simp at e2⟩
      · split
        · rename_i e
          split
          · rename_i e2; exact ⟨fun e3 => by simp at e3, fun _ => hk.1 e e2⟩
          · exact ⟨fun e3 => by simp at e3, fun e3 => by simp at e3⟩
        · exact hk
/-- Of what is not down all above lives. -/
theorem HInv.chain {gs : List Gd} (h : HInv gs) {c : List Nat} {x : Nat} (hc : ChainOk gs c x) (hx : x < gs.length) (hd : gs[x].isDown = false) :
    ∀ (m j : Nat) (hj : j + 1 + m + 1 = c.length), (gs[c[j]'(by omega)]'(hc.lt _ _)).phase = 49
  | 0, j, hj => by
    have h2 := hc.lt (j + 1) (by omega)
    have e : c[j + 1]'(by omega) = x := by
      have := hc.last (by omega)
      simp only [show c.length - 1 = j + 1 by omega] at this
      exact this
    have hlk := hc.link j (by omega) h2
    simp only [e] at hlk
    exact h.par x hx _ (hc.lt _ _) hd hlk
  | m + 1, j, hj => by
    have h2 := hc.lt (j + 1) (by omega)
    have ih := h.chain hc hx hd m (j + 1) (by omega)
    exact h.par _ h2 _ (hc.lt _ _) (isDown_false.mpr ⟨by omega, by omega⟩) (hc.link j (by omega) h2)
end Go.Proofs.Ytgfpnfnjnakoaaa.Cn
