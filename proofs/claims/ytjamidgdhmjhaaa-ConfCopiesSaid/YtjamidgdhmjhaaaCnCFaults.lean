/- Descriptions: ConfFaults. -/
import Derived.Test.YtjamidgdhmjhaaaCnConfS
set_option linter.unusedSimpArgs false
set_option linter.unusedVariables false
namespace Go.Proofs.Ytjamidgdhmjhaaa.Cn
open Go Go.Proofs

theorem confErr_at {S : Soc} {k : Nat} (h : ∀ i, i < k → confE S i = 0) (hk : confE S k ≠ 0) (h8 : k < 8) : confErr S = confE S k := firstE_stop (firstE_zero.mpr h) hk h8
theorem firstE_bad {α : Type} {l : List α} {f : α → Int} {i : Nat} (hi : i < l.length) (h : ∀ j (hj : j < l.length), j < i → f l[j] = 0) (hn : f l[i] ≠ 0) : firstE (ofAll l f) l.length = f l[i] := by
  rw [firstE_stop (k := i) (firstE_zero.mpr fun j hj => by rw [ofAll_at (by omega)]; exact h j (by omega) hj) (by rw [ofAll_at hi]; exact hn) hi, ofAll_at hi]

section
variable {S : Soc} (h : S.like)
include h
/-- With one more clock. -/
theorem more_clk {c : Clk} (hc : firstE (clkE (S.clocks.length + 1) c) 3 ≠ 0) : confErr { S with clocks := S.clocks ++ [c] } = firstE (clkE (S.clocks.length + 1) c) 3 := by
  have hl : (S.clocks ++ [c]).length = S.clocks.length + 1 := by simp
  have e1 : confE { S with clocks := S.clocks ++ [c] } 1 = firstE (clkE (S.clocks.length + 1) c) 3 := by
    show firstE (ofAll (S.clocks ++ [c]) fun x => firstE (clkE (S.clocks ++ [c]).length x) 3) (S.clocks ++ [c]).length = _
    have hg : (S.clocks ++ [c])[S.clocks.length]'(by simp) = c := by simp
    rw [firstE_bad (i := S.clocks.length) (by simp) (fun j hj hjl => ?_) (by rw [hg, hl]; exact hc), hg, hl]
    rw [List.getElem_append_left hjl, hl]
    exact (h.clk j hjl).right (by omega)
  rw [← e1] at hc ⊢
  refine confErr_at (fun i hi => ?_) hc (by omega)
  have : i = 0 := by omega
  subst this
  have hf := fullE_zero.mp h.full
  exact fullE_zero.mpr ⟨by simp; have := h.nc; omega, hf.2⟩
theorem more_clk_cycle (x : Int) (hx : x = S.clocks.length) : confErr { S with clocks := S.clocks ++ [⟨103, [x], 0, 0, 0, 0⟩] } = 5 := by
  have hl : (S.clocks ++ [(⟨103, [x], 0, 0, 0, 0⟩ : Clk)]).length = S.clocks.length + 1 := by simp
  have hg : grErr ((S.clocks ++ [(⟨103, [x], 0, 0, 0, 0⟩ : Clk)]).map Clk.src) = 5 := by
    refine grErr_cycle (v := S.clocks.length) (by simp; have := h.nc; omega) (fun r hr u hu => ?_) (.one ?_)
    · simp only [List.map_append, List.mem_append, List.mem_map, List.length_append, List.length_map] at hr ⊢
      rcases hr with ⟨c, hc, rfl⟩ | hr
      · obtain ⟨i, hi, rfl⟩ := List.getElem_of_mem hc
        have := (h.clk i hi).lesser u hu
        simp; omega
      · simp at hr; subst hr
        simp at hu; simp; omega
    · rw [deps_at (by simp)]
      simp [hx]
  have e2 : confE { S with clocks := S.clocks ++ [⟨103, [x], 0, 0, 0, 0⟩] } 2 = 5 := by
    show cycE _ = 5
    rw [cycE, if_pos hg]
  rw [← e2]
  refine confErr_at (fun i hi => ?_) (by rw [e2]; decide) (by omega)
  have hf := fullE_zero.mp h.full
  match i, hi with
  | 0, _ => exact fullE_zero.mpr ⟨by simp; have := h.nc; omega, hf.2⟩
  | 1, _ =>
    refine firstE_zero.mpr fun i hi => ?_
    rw [ofAll_at hi]
    simp only at hi ⊢
    rw [hl] at hi ⊢
    by_cases e : i < S.clocks.length
    · rw [List.getElem_append_left e]
      exact (h.clk i e).right (by omega)
    · have : i = S.clocks.length := by omega
      subst this
      simp only [List.getElem_concat_length]
      refine firstE_zero.mpr fun j hj => ?_
      match j, hj with
      | 0, _ => rfl
      | 1, _ =>
        refine firstE_zero.mpr fun k hk => ?_
        have : k = 0 := by simpa using hk
        subst this
        show noNode _ x = 0
        rw [noNode, if_pos (by omega)]
      | 2, _ => rfl
theorem clk_rate : confErr { S with clocks := S.clocks.set 0 { S.clocks[0]'h.nc.1 with rate := 0 } } = 3 := by
  have h0 := h.nc.1
  have hk := h.clk 0 h0
  have hosc : ∃ r, S.clocks[0] = ⟨111, [], r, 0, 0, 0⟩ := by
    cases e : S.clocks[0] with
    | mk a b c d f g =>
      rw [e] at hk
      cases hk with
      | osc r h hi => exact ⟨_, rfl⟩
      | pll x m d l hx => omega
      | div x d hx => omega
      | gate x hx => omega
      | mux x y hx => omega
  obtain ⟨r, hr⟩ := hosc
  have e1 : confE { S with clocks := S.clocks.set 0 { S.clocks[0] with rate := 0 } } 1 = 3 := by
    show firstE (ofAll (S.clocks.set 0 { S.clocks[0] with rate := 0 }) fun x => firstE (clkE (S.clocks.set 0 { S.clocks[0] with rate := 0 }).length x) 3) (S.clocks.set 0 { S.clocks[0] with rate := 0 }).length = _
    have hg : (S.clocks.set 0 { S.clocks[0] with rate := 0 })[0]'(by simpa using h0) = ⟨111, [], 0, 0, 0, 0⟩ := by
      rw [List.getElem_set_self, hr]
    have hv : ∀ n, firstE (clkE n ⟨111, [], 0, 0, 0, 0⟩) 3 = 3 := fun n => by
      have h2 : clkE n ⟨111, [], 0, 0, 0, 0⟩ 2 = 3 := by simp [clkE, Clk.nums]
      rw [firstE_stop (k := 2) (firstE_zero.mpr fun j hj => ?_) (by rw [h2]; decide) (by decide), h2]
      match j, hj with
      | 0, _ => rfl
      | 1, _ => rfl
    rw [firstE_bad (i := 0) (by simpa using h0) (fun j hj hjl => by omega) (by rw [hg, hv]; decide), hg, hv]
  rw [← e1]
  refine confErr_at (fun i hi => ?_) (by rw [e1]; decide) (by omega)
  have : i = 0 := by omega
  subst this
  have hf := fullE_zero.mp h.full
  exact fullE_zero.mpr ⟨by simp; exact hf.1, hf.2⟩
/-- What is asked ahead of domains, of resets and of devices is as it was. -/
theorem ahead_dom {D : List Dom} (hl : D.length = S.doms.length) {i : Nat} (hi : i < 3) : confE { S with doms := D } i = 0 := by
  have hf := fullE_zero.mp h.full
  match i, hi with
  | 0, _ => exact fullE_zero.mpr ⟨by simp only [hl]; exact hf.1, hf.2⟩
  | 1, _ => exact h.clks
  | 2, _ => exact cycE_zero h.clkG
theorem ahead_rst {R : List Int} (hl : R.length = S.rsts.length) {i : Nat} (hi : i < 5) : confE { S with rsts := R } i = 0 := by
  have hf := fullE_zero.mp h.full
  match i, hi with
  | 0, _ => exact fullE_zero.mpr ⟨by simp only [hl]; exact hf.1, hf.2⟩
  | 1, _ => exact h.clks
  | 2, _ => exact cycE_zero h.clkG
  | 3, _ => exact h.domsz
  | 4, _ => exact cycE_zero h.domG
theorem ahead_dev {D : List Dev} (hl : D.length = S.devs.length) (hd : ∀ d ∈ D, d.regs.length ≤ 8 ∧ d.needs.length ≤ 6) {i : Nat} (hi : i < 6) : confE { S with devs := D } i = 0 := by
  have hf := fullE_zero.mp h.full
  match i, hi with
  | 0, _ => exact fullE_zero.mpr ⟨by simp only [hl]; exact hf.1, hd⟩
  | 1, _ => exact h.clks
  | 2, _ => exact cycE_zero h.clkG
  | 3, _ => exact h.domsz
  | 4, _ => exact cycE_zero h.domG
  | 5, _ => exact h.rstsz
theorem dom_bad {r : Nat} (hr : r < S.doms.length) {d : Dom} (hd : firstE (domE S.doms.length d) 2 ≠ 0) : confErr { S with doms := S.doms.set r d } = firstE (domE S.doms.length d) 2 := by
  have e3 : confE { S with doms := S.doms.set r d } 3 = firstE (domE S.doms.length d) 2 := by
    show firstE (ofAll (S.doms.set r d) fun x => firstE (domE (S.doms.set r d).length x) 2) (S.doms.set r d).length = _
    have hg : (S.doms.set r d)[r]'(by simpa using hr) = d := by simp
    rw [firstE_bad (i := r) (by simpa using hr) (fun j hj hjl => ?_) (by rw [hg, List.length_set]; exact hd), hg, List.length_set]
    rw [List.getElem_set_ne (by omega), List.length_set]
    exact (h.dom j (by simpa using hj)).right (by simpa using hj)
  rw [← e3] at hd ⊢
  exact confErr_at (fun i hi => ahead_dom h (by simp) hi) hd (by omega)
theorem dom_cycle {r : Nat} (hr : r < S.doms.length) {d : Dom} (hd : d.above = r) (hd2 : 0 ≤ d.delay ∧ d.delay ≤ 20) : confErr { S with doms := S.doms.set r d } = 5 := by
  have hup : d.up = [(r : Int)] := by rw [Dom.up, if_neg (by omega), hd]
  have hg : grErr ((S.doms.set r d).map Dom.up) = 5 := by
    refine grErr_cycle (v := r) (by simp; have := h.nd; omega) (fun x hx u hu => ?_) (.one ?_)
    · simp only [List.mem_map, List.length_map, List.length_set] at hx ⊢
      obtain ⟨c, hc, rfl⟩ := hx
      rcases List.mem_or_eq_of_mem_set hc with hc | rfl
      · obtain ⟨i, hi, rfl⟩ := List.getElem_of_mem hc
        have := (h.dom i hi).up_mem u hu
        omega
      · rw [hup] at hu; simp at hu; omega
    · rw [deps_at (by simpa using hr)]
      simp [hup]
  have e4 : confE { S with doms := S.doms.set r d } 4 = 5 := by
    show cycE _ = 5
    rw [cycE, if_pos hg]
  rw [← e4]
  refine confErr_at (fun i hi => ?_) (by rw [e4]; decide) (by omega)
  rcases (show i < 3 ∨ i = 3 by omega) with h1 | rfl
  · exact ahead_dom h (by simp) h1
  · refine firstE_zero.mpr fun i hi => ?_
    rw [ofAll_at hi]
    simp only [List.length_set] at hi ⊢
    by_cases e : r = i
    · subst e
      rw [List.getElem_set_self]
      refine firstE_zero.mpr fun j hj => ?_
      match j, hj with
      | 0, _ => rw [domE, if_neg (by omega)]
      | 1, _ => rw [domE, if_pos hd2]; simp
    · rw [List.getElem_set_ne e]
      exact (h.dom i hi).right hi
theorem rst_bad : confErr { S with rsts := S.rsts.set 0 (-1) } = 3 := by
  have h0 := h.nr.1
  have e5 : confE { S with rsts := S.rsts.set 0 (-1) } 5 = 3 := by
    show firstE (ofAll (S.rsts.set 0 (-1)) rstErr) (S.rsts.set 0 (-1)).length = _
    have hg : (S.rsts.set 0 (-1))[0]'(by simpa using h0) = -1 := by simp
    rw [firstE_bad (i := 0) (by simpa using h0) (fun j hj hjl => by omega) (by rw [hg]; decide), hg]; rfl
  rw [← e5]
  exact confErr_at (fun i hi => ahead_rst h (by simp) hi) (by rw [e5]; decide) (by omega)
theorem dev_small {i : Nat} (hi : i < S.devs.length) : S.devs[i].regs.length ≤ 8 ∧ S.devs[i].needs.length ≤ 6 := by
  have := (h.dev i hi).regs; have := (h.dev i hi).few; omega
theorem dev_set_small {r : Nat} {d : Dev} (hd : d.regs.length ≤ 8 ∧ d.needs.length ≤ 6) : ∀ x ∈ S.devs.set r d, x.regs.length ≤ 8 ∧ x.needs.length ≤ 6 := by
  intro x hx
  rcases List.mem_or_eq_of_mem_set hx with hx | rfl
  · obtain ⟨i, hi, rfl⟩ := List.getElem_of_mem hx
    exact dev_small h hi
  · exact hd
theorem dev_bad {r : Nat} (hr : r < S.devs.length) {d : Dev} (hs : d.regs.length ≤ 8 ∧ d.needs.length ≤ 6) (hd : firstE (devE { S with devs := S.devs.set r d } d) 4 ≠ 0) : confErr { S with devs := S.devs.set r d } = firstE (devE { S with devs := S.devs.set r d } d) 4 := by
  have e6 : confE { S with devs := S.devs.set r d } 6 = firstE (devE { S with devs := S.devs.set r d } d) 4 := by
    show firstE (ofAll (S.devs.set r d) fun x => firstE (devE { S with devs := S.devs.set r d } x) 4) (S.devs.set r d).length = _
    have hg : (S.devs.set r d)[r]'(by simpa using hr) = d := by simp
    rw [firstE_bad (i := r) (by simpa using hr) (fun j hj hjl => ?_) (by rw [hg]; exact hd), hg]
    rw [List.getElem_set_ne (by omega)]
    have hk := h.dev j (by simpa using hj)
    exact DevOk.right (s := { S with devs := S.devs.set r d }) (i := j) ⟨hk.clock, hk.dom, hk.rst, hk.regs, hk.few, hk.needs⟩ (by simpa using hj)
  rw [← e6] at hd ⊢
  exact confErr_at (fun i hi => ahead_dev h (by simp) (dev_set_small h hs) hi) hd (by omega)
theorem dev_cycle {r : Nat} (hr : r < S.devs.length) : confErr { S with devs := S.devs.set r { S.devs[r] with needs := [(r : Int)] } } = 5 := by
  have hk := h.dev r hr
  have hg : grErr ((S.devs.set r { S.devs[r] with needs := [(r : Int)] }).map Dev.needs) = 5 := by
    refine grErr_cycle (v := r) (by simp; have := h.nv; omega) (fun x hx u hu => ?_) (.one ?_)
    · simp only [List.mem_map, List.length_map, List.length_set] at hx ⊢
      obtain ⟨c, hc, rfl⟩ := hx
      rcases List.mem_or_eq_of_mem_set hc with hc | rfl
      · obtain ⟨i, hi, rfl⟩ := List.getElem_of_mem hc
        have := (h.dev i hi).needs u hu
        omega
      · simp at hu; omega
    · rw [deps_at (by simpa using hr)]
      simp
  have e7 : confE { S with devs := S.devs.set r { S.devs[r] with needs := [(r : Int)] } } 7 = 5 := by
    show cycE _ = 5
    rw [cycE, if_pos hg]
  rw [← e7]
  refine confErr_at (fun i hi => ?_) (by rw [e7]; decide) (by omega)
  rcases (show i < 6 ∨ i = 6 by omega) with h1 | rfl
  · refine ahead_dev h (by simp) (dev_set_small h ⟨?_, by simp⟩) h1
    have := hk.regs; simp only; omega
  · refine firstE_zero.mpr fun i hi => ?_
    rw [ofAll_at hi]
    simp only [List.length_set] at hi ⊢
    by_cases e : r = i
    · subst e
      rw [List.getElem_set_self]
      refine firstE_zero.mpr fun j hj => ?_
      match j, hj with
      | 0, _ => rw [devE, noNode, if_pos hk.clock]
      | 1, _ => rw [devE, noNode, if_pos hk.dom]
      | 2, _ => rw [devE, noNode, if_pos hk.rst]
      | 3, _ =>
        refine firstE_zero.mpr fun k hk2 => ?_
        have : k = 0 := by simpa using hk2
        subst this
        show noNode _ (r : Int) = 0
        rw [noNode, if_pos (by simp; omega)]
    · rw [List.getElem_set_ne e]
      have hk := h.dev i hi
      exact DevOk.right (s := { S with devs := S.devs.set r { S.devs[r] with needs := [(r : Int)] } }) (i := i) ⟨hk.clock, hk.dom, hk.rst, hk.regs, hk.few, hk.needs⟩ (by simpa using hi)
theorem dev_full {r : Nat} (hr : r < S.devs.length) {d : Dev} (hd : 8 < d.regs.length) : confErr { S with devs := S.devs.set r d } = 8 := by
  have e0 : confE { S with devs := S.devs.set r d } 0 = 8 := by
    show Soc.fullE _ = 8
    have hf := fullE_zero.mp h.full
    unfold Soc.fullE
    have hb : ¬ (Soc.big { S with devs := S.devs.set r d } = true) := by
      simp only [Soc.big, decide_eq_true_eq, List.length_set]; omega
    rw [if_neg hb]
    have hg : (S.devs.set r d)[r]'(by simpa using hr) = d := by simp
    have hv : devFull d = 8 := by rw [devFull, if_pos (.inl hd)]
    rw [firstE_bad (l := S.devs.set r d) (i := r) (by simpa using hr) (fun j hj hjl => ?_) (by rw [hg, hv]; decide), hg, hv]
    rw [List.getElem_set_ne (by omega), devFull, if_neg]
    have := dev_small h (i := j) (by simpa using hj); omega
  rw [← e0]
  exact confErr_at (fun i hi => by omega) (by rw [e0]; decide) (by omega)
end
end Go.Proofs.Ytjamidgdhmjhaaa.Cn
