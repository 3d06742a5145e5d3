/- Power: what stays true of a grid. -/
import Derived.Test.YtgfpnfnjnakoaaaCnPower5
set_option linter.unusedSimpArgs false
set_option linter.unusedVariables false
namespace Go.Proofs.Ytgfpnfnjnakoaaa.Cn
open Go Go.Proofs

/-- A grid of those domains. -/
structure GInv (D : List Dom) (gs : List Gd) : Prop where
  len : gs.length = D.length
  same : ∀ i (h : i < gs.length) (h' : i < D.length), gs[i].above = D[i].above ∧ gs[i].delay = D[i].delay ∧ gs[i].ret = D[i].ret
  dom : ∀ i (h : i < D.length), DomOk i D[i]
  left : ∀ g ∈ gs, 0 ≤ g.left ∧ g.left ≤ 20
theorem GInv.lesser {D : List Dom} {gs : List Gd} (h : GInv D gs) : Lesser gs := fun i hi => by
  have hD : i < D.length := by rw [← h.len]; exact hi
  have := h.same i hi hD
  have := (h.dom i hD).up
  omega
theorem GInv.above {D : List Dom} {gs : List Gd} (h : GInv D gs) : ∀ g ∈ gs, g.above = -1 ∨ (0 ≤ g.above ∧ g.above < (gs.length : Int)) := fun g hg => by
  obtain ⟨i, hi, rfl⟩ := List.getElem_of_mem hg
  have := h.lesser i hi
  omega
theorem GInv.low {D : List Dom} {gs : List Gd} (h : GInv D gs) : ∀ g ∈ gs, g.left ≤ 1000 := fun g hg => by have := h.left g hg; omega
theorem GInv.put {D : List Dom} {gs : List Gd} (h : GInv D gs) {i : Nat} (hi : i < gs.length) {g : Gd} (h1 : g.above = gs[i].above) (h2 : g.delay = gs[i].delay) (h3 : g.ret = gs[i].ret) (h4 : 0 ≤ g.left ∧ g.left ≤ 20) : GInv D (gs.set i g) where
  len := by simp [h.len]
  same := fun j hj hj' => by
    simp only [List.length_set] at hj
    rw [List.getElem_set]
    split
    · rename_i e; subst e
      rw [h1, h2, h3]; exact h.same _ _ _
    · exact h.same _ _ _
  dom := h.dom
  left := fun y hy => by
    rcases List.mem_or_eq_of_mem_set hy with h5 | rfl
    · exact h.left y h5
    · exact h4
theorem GInv.fresh {D : List Dom} (h : ∀ i (h : i < D.length), DomOk i D[i]) : GInv D (gfresh D) where
  len := gfresh_len D
  same := fun i hi hi' => by simp [gfresh]
  dom := h
  left := fun g hg => by
    obtain ⟨d, _, rfl⟩ := List.mem_map.mp hg
    exact ⟨Int.le_refl 0, by show (0 : Int) ≤ 20; omega⟩
theorem GInv.up {D : List Dom} {gs : List Gd} (h : GInv D gs) {i : Nat} (hi : i < gs.length) : GInv D (upG gs i hi) := by
  unfold upG
  split
  · exact h
  · have hD : i < D.length := by rw [← h.len]; exact hi
    have e := h.same i hi hD
    have := (h.dom i hD).delay
    exact h.put hi rfl rfl rfl (by show 0 ≤ gs[i].delay ∧ gs[i].delay ≤ 20; omega)
theorem GInv.down {D : List Dom} {gs : List Gd} (h : GInv D gs) {i : Nat} (hi : i < gs.length) (k : Bool) : GInv D (downG gs i hi k) := by
  unfold downG
  split
  · have hlf := h.left gs[i] (List.getElem_mem hi)
    exact h.put hi rfl rfl rfl hlf
  · exact h
theorem gtick_same (g : Gd) : (gtick g).above = g.above ∧ (gtick g).delay = g.delay ∧ (gtick g).ret = g.ret := by
  unfold gtick
  split
  · split <;> exact ⟨rfl, rfl, rfl⟩
  · split
    · exact ⟨rfl, rfl, rfl⟩
    · split
      · split <;> exact ⟨rfl, rfl, rfl⟩
      · exact ⟨rfl, rfl, rfl⟩
theorem gtick_left {g : Gd} (h : 0 ≤ g.left ∧ g.left ≤ 20) : 0 ≤ (gtick g).left ∧ (gtick g).left ≤ 20 := by
  unfold gtick
  split
  · split
    · show 0 ≤ g.left - 1 ∧ g.left - 1 ≤ 20; omega
    · exact h
  · split
    · exact h
    · split
      · split <;> exact h
      · exact h
theorem GInv.tick {D : List Dom} {gs : List Gd} (h : GInv D gs) : GInv D (gtickL gs) where
  len := by rw [gtickL_len, h.len]
  same := fun i hi hi' => by
    simp only [gtickL_len] at hi
    simp only [gtickL, List.getElem_map]
    obtain ⟨a, b, c⟩ := gtick_same gs[i]
    rw [a, b, c]; exact h.same _ _ _
  dom := h.dom
  left := fun y hy => by
    obtain ⟨g, hg, rfl⟩ := List.mem_map.mp hy
    exact gtick_left (h.left g hg)
theorem phase_at {st : ASt} {p ig : Nat} {gs : List Gd} (h : GridAt st p ig gs) {i : Nat} (hi : i < gs.length) : ACalls Try.prog F.q81 [.ptr p 0, .int .i64 i] st fun r s => r = .int .u8 gs[i].phase ∧ s = st :=
  (phase_spec h i).mono fun r s ⟨h1, h2⟩ => ⟨by rw [h1, dif_pos (isGd_at hi)]; simp, h2⟩
theorem gleft_at {st : ASt} {p ig : Nat} {gs : List Gd} (h : GridAt st p ig gs) {i : Nat} (hi : i < gs.length) : ACalls Try.prog F.q80 [.ptr p 0, .int .i64 i] st fun r s => r = .int .i64 (if gs[i].phase = 114 then gs[i].left else 0) ∧ s = st :=
  (gleft_spec h i).mono fun r s ⟨h1, h2⟩ => ⟨by rw [h1, dif_pos (isGd_at hi)]; simp, h2⟩
theorem dom_gets {D : List Dom} {i : Nat} (hi : i < D.length) : (D.flatMap Dom.cells)[i * 3]? = some (.int .i64 D[i].above) ∧ (D.flatMap Dom.cells)[i * 3 + 1]? = some (.int .i64 D[i].delay) ∧ (D.flatMap Dom.cells)[i * 3 + 2]? = some (.bool D[i].ret) :=
  ⟨rows_get Dom.cells (w := 3) (fun _ => rfl) hi (j := 0) (by omega), rows_get Dom.cells (w := 3) (fun _ => rfl) hi (j := 1) (by omega), rows_get Dom.cells (w := 3) (fun _ => rfl) hi (j := 2) (by omega)⟩
end Go.Proofs.Ytgfpnfnjnakoaaa.Cn
