/- A chip that is made of raw numbers is right. -/
import Derived.Test.YtjamidgdhmjhaaaCnConf8
import Derived.Test.YtjamidgdhmjhaaaCnL3
set_option linter.unusedSimpArgs false
set_option linter.unusedVariables false
namespace Go.Proofs.Ytjamidgdhmjhaaa.Cn
open Go Go.Proofs

/-- A graph each of whose nodes hangs on lesser ones alone. -/
theorem grErr_lesser {g : Gr} (hl : g.length ≤ 100) (h : ∀ v (hv : v < g.length), ∀ u ∈ g[v], 0 ≤ u ∧ u < (v : Int)) : grErr g = 0 := by
  have hok : g.ok := fun r hr u hu => by
    obtain ⟨v, hv, rfl⟩ := List.getElem_of_mem hr
    have := h v hv u hu
    omega
  have hf := ord_full hok id fun v hv u hu => by
    rw [deps_at hv] at hu
    obtain ⟨x, hx, rfl⟩ := List.mem_map.mp hu
    have := h v hv x hx
    simp only [id]; omega
  unfold grErr
  rw [if_neg (by omega), if_pos hok, if_neg (by omega)]
theorem cycE_zero {g : Gr} (h : grErr g = 0) : cycE g = 0 := by rw [cycE, if_neg (by rw [h]; decide)]

section
variable {f : Nat → Nat} (hf : ∀ x, f x < 1000000)
theorem nClk_le (f : Nat → Nat) : nClk f ≤ 9 := by unfold nClk; omega
theorem nDom_le (f : Nat → Nat) : nDom f ≤ 4 := by unfold nDom; omega
theorem nRst_le (f : Nat → Nat) : nRst f ≤ 3 := by unfold nRst; omega
theorem nDev_le (f : Nat → Nat) : nDev f ≤ 4 := by unfold nDev; omega
theorem nClk_pos (f : Nat → Nat) : 0 < nClk f := by unfold nClk; omega
theorem nDom_pos (f : Nat → Nat) : 0 < nDom f := by unfold nDom; omega
theorem nRst_pos (f : Nat → Nat) : 0 < nRst f := by unfold nRst; omega
theorem nDev_pos (f : Nat → Nat) : 0 < nDev f := by unfold nDev; omega
theorem kindN_cases (n : Nat) : kindN n = 112 ∨ kindN n = 100 ∨ kindN n = 103 ∨ kindN n = 109 := by
  match n with
  | 0 => exact .inl rfl
  | 1 => exact .inr (.inl rfl)
  | 2 => exact .inr (.inr (.inl rfl))
  | 3 => exact .inr (.inr (.inr rfl))
  | n + 4 => exact .inr (.inr (.inl rfl))

/-- What a clock of a chip is. -/
inductive ClkOk (i : Nat) : Clk → Prop
  | osc (r : Int) (h : 1 ≤ r ∧ r ≤ 1000000) (hi : i = 0) : ClkOk i ⟨111, [], r, 0, 0, 0⟩
  | pll (x m d l : Int) (hx : 0 ≤ x ∧ x < i) (hm : 1 ≤ m ∧ m ≤ 8) (hd : 1 ≤ d ∧ d ≤ 4) (hl : 0 ≤ l ∧ l ≤ 3) : ClkOk i ⟨112, [x], 0, m, d, l⟩
  | div (x d : Int) (hx : 0 ≤ x ∧ x < i) (hd : 1 ≤ d ∧ d ≤ 8) : ClkOk i ⟨100, [x], 0, 0, d, 0⟩
  | gate (x : Int) (hx : 0 ≤ x ∧ x < i) : ClkOk i ⟨103, [x], 0, 0, 0, 0⟩
  | mux (x y : Int) (hx : 0 ≤ x ∧ x < i) (hy : 0 ≤ y ∧ y < i) : ClkOk i ⟨109, [x, y], 0, 0, 0, 0⟩
include hf in
theorem chClk_ok (i : Nat) : ClkOk i (chClk f i) := by
  cases i with
  | zero => exact .osc _ (by have := hf 0; omega) rfl
  | succ i =>
    have h1 : ∀ n : Nat, n % (i + 1) < i + 1 := fun n => Nat.mod_lt _ (by omega)
    have h2 := h1 (f (10 + 3 * i + 1))
    have h3 := h1 (f (10 + 3 * i + 2))
    generalize e1 : f (10 + 3 * i + 1) % (i + 1) = x at h2
    generalize e2 : f (10 + 3 * i + 2) % (i + 1) = y at h3
    rcases kindN_cases (f (10 + 3 * i) % 5) with e | e | e | e
    · simp only [chClk, e, e1, e2, if_true]
      exact .pll _ _ _ _ (by omega) (by omega) (by omega) (by omega)
    · simp only [chClk, e, e1, e2]
      exact .div _ _ (by omega) (by omega)
    · simp only [chClk, e, e1, e2]
      exact .gate _ (by omega)
    · simp only [chClk, e, e1, e2]
      exact .mux _ _ (by omega) (by omega)
theorem ClkOk.right {i n : Nat} {c : Clk} (h : ClkOk i c) (hi : i < n) : firstE (clkE n c) 3 = 0 := by
  have nn : ∀ x : Int, 0 ≤ x ∧ x < i → noNode n x = 0 := fun x hx => by rw [noNode, if_pos (by omega)]
  refine firstE_zero.mpr fun j hj => ?_
  match j, hj with
  | 0, _ => cases h <;> rfl
  | 1, _ =>
    refine firstE_zero.mpr fun k hk => ?_
    cases h with
    | osc => simp at hk
    | pll x m d l hx =>
      have : k = 0 := by simpa using hk
      subst this; exact nn x hx
    | div x d hx =>
      have : k = 0 := by simpa using hk
      subst this; exact nn x hx
    | gate x hx =>
      have : k = 0 := by simpa using hk
      subst this; exact nn x hx
    | mux x y hx hy =>
      match k, hk with
      | 0, _ => exact nn x hx
      | 1, _ => exact nn y hy
  | 2, _ =>
    cases h with
    | osc r h => simp [clkE, Clk.nums]; omega
    | pll x m d l hx hm hd hl => simp [clkE, Clk.nums]; omega
    | div x d hx hd => simp [clkE, Clk.nums]; omega
    | gate => rfl
    | mux => rfl
theorem ClkOk.lesser {i : Nat} {c : Clk} (h : ClkOk i c) : ∀ u ∈ c.src, 0 ≤ u ∧ u < (i : Int) := by
  intro u hu
  cases h with
  | osc => simp at hu
  | pll x m d l hx => simp at hu; omega
  | div x d hx => simp at hu; omega
  | gate x hx => simp at hu; omega
  | mux x y hx hy => simp at hu; omega
theorem ClkOk.few {i : Nat} {c : Clk} (h : ClkOk i c) : c.src.length ≤ 2 := by cases h <;> simp

/-- What a domain, a reset line and a device of a chip are. -/
structure DomOk (i : Nat) (d : Dom) : Prop where
  up : d.above = -1 ∨ (0 ≤ d.above ∧ d.above < i)
  delay : 0 ≤ d.delay ∧ d.delay ≤ 3
theorem chDom_ok (f : Nat → Nat) (i : Nat) : DomOk i (chDom f i) := by
  constructor
  · unfold chDom
    split
    · rename_i h
      have := Nat.mod_lt (f (44 + i) / 3) h.1
      generalize f (44 + i) / 3 % i = x at this
      right; simp only; omega
    · left; rfl
  · simp only [chDom]; omega
structure DevOk (s : Soc) (i : Nat) (d : Dev) : Prop where
  clock : 0 ≤ d.clock ∧ d.clock < s.clocks.length
  dom : 0 ≤ d.dom ∧ d.dom < s.doms.length
  rst : 0 ≤ d.rst ∧ d.rst < s.rsts.length
  regs : d.regs.length ≤ 4
  few : d.needs.length ≤ 2
  needs : ∀ u ∈ d.needs, 0 ≤ u ∧ u < (i : Int)
theorem chDev_ok (f : Nat → Nat) (i : Nat) : DevOk (chipD f) i (chDev f i) := by
  have h1 := Nat.mod_lt (f (60 + 12 * i)) (nClk_pos f)
  have h2 := Nat.mod_lt (f (60 + 12 * i + 1)) (nDom_pos f)
  have h3 := Nat.mod_lt (f (60 + 12 * i + 2)) (nRst_pos f)
  refine ⟨?_, ?_, ?_, ?_, ?_, ?_⟩
  · simp only [chDev, chipD, List.length_map, List.length_range]; omega
  · simp only [chDev, chipD, List.length_map, List.length_range]; omega
  · simp only [chDev, chipD, List.length_map, List.length_range]; omega
  · simp only [chDev, List.length_map, List.length_range]; omega
  · simp only [chDev, chNeeds, List.length_append]; split <;> split <;> simp
  · intro u hu
    simp only [chDev, chNeeds, List.mem_append] at hu
    rcases hu with hu | hu
    · split at hu
      · rename_i h
        have := Nat.mod_lt (f (60 + 12 * i + 10)) h.1
        simp only [List.mem_singleton] at hu
        generalize f (60 + 12 * i + 10) % i = x at this hu
        omega
      · cases hu
    · split at hu
      · rename_i h
        have := Nat.mod_lt (f (60 + 12 * i + 11) / 3) (show 0 < i by omega)
        simp only [List.mem_singleton] at hu
        generalize f (60 + 12 * i + 11) / 3 % i = x at this hu
        omega
      · cases hu

/-- A description like those that are made of raw numbers. -/
structure Soc.like (s : Soc) : Prop where
  nc : 0 < s.clocks.length ∧ s.clocks.length ≤ 9
  nd : 0 < s.doms.length ∧ s.doms.length ≤ 4
  nr : 0 < s.rsts.length ∧ s.rsts.length ≤ 3
  nv : 0 < s.devs.length ∧ s.devs.length ≤ 4
  clk : ∀ i (h : i < s.clocks.length), ClkOk i s.clocks[i]
  dom : ∀ i (h : i < s.doms.length), DomOk i s.doms[i]
  rst : ∀ i (h : i < s.rsts.length), 0 ≤ s.rsts[i] ∧ s.rsts[i] ≤ 3
  dev : ∀ i (h : i < s.devs.length), DevOk s i s.devs[i]
include hf in
theorem chipD_like : (chipD f).like := by
  refine ⟨?_, ?_, ?_, ?_, ?_, ?_, ?_, ?_⟩
  · simp only [chipD, List.length_map, List.length_range]; exact ⟨nClk_pos f, nClk_le f⟩
  · simp only [chipD, List.length_map, List.length_range]; exact ⟨nDom_pos f, nDom_le f⟩
  · simp only [chipD, List.length_map, List.length_range]; exact ⟨nRst_pos f, nRst_le f⟩
  · simp only [chipD, List.length_map, List.length_range]; exact ⟨nDev_pos f, nDev_le f⟩
  · intro i h
    simp only [chipD, List.getElem_map, List.getElem_range]
    exact chClk_ok hf i
  · intro i h
    simp only [chipD, List.getElem_map, List.getElem_range]
    exact chDom_ok f i
  · intro i h
    simp only [chipD, List.getElem_map, List.getElem_range, chRst]; omega
  · intro i h
    have := chDev_ok f i
    simpa only [chipD, List.getElem_map, List.getElem_range] using this
end
theorem chipS_like (l : List Int) : (chipS l).like := chipD_like (drawN_lt l)

theorem Soc.like.fine {s : Soc} (h : s.like) : s.fine := fun c hc => by
  obtain ⟨i, hi, rfl⟩ := List.getElem_of_mem hc
  have := (h.clk i hi).few
  omega
theorem Soc.like.clkG {s : Soc} (h : s.like) : grErr (s.clocks.map Clk.src) = 0 := by
  have h1 := h.nc
  refine grErr_lesser (by simp; omega) fun v hv => ?_
  rw [List.getElem_map]
  exact (h.clk v (by simpa using hv)).lesser
theorem DomOk.up_mem {i : Nat} {d : Dom} (h : DomOk i d) : ∀ u ∈ d.up, 0 ≤ u ∧ u < (i : Int) := by
  intro u hu
  unfold Dom.up at hu
  split at hu
  · cases hu
  · simp only [List.mem_singleton] at hu
    rcases h.up with e | e
    · omega
    · rw [hu]; exact e
theorem Soc.like.domG {s : Soc} (h : s.like) : grErr (s.doms.map Dom.up) = 0 := by
  have h1 := h.nd
  refine grErr_lesser (by simp; omega) fun v hv => ?_
  rw [List.getElem_map]
  exact (h.dom v (by simpa using hv)).up_mem
theorem Soc.like.devG {s : Soc} (h : s.like) : grErr (s.devs.map Dev.needs) = 0 := by
  have h1 := h.nv
  refine grErr_lesser (by simp; omega) fun v hv => ?_
  rw [List.getElem_map]
  exact (h.dev v (by simpa using hv)).needs
theorem DomOk.right {i n : Nat} {d : Dom} (h : DomOk i d) (hi : i < n) : firstE (domE n d) 2 = 0 := by
  refine firstE_zero.mpr fun j hj => ?_
  match j, hj with
  | 0, _ =>
    rw [domE, if_neg]
    have := h.up; omega
  | 1, _ =>
    have := h.delay
    rw [domE, if_pos (by omega)]
    simp
theorem DevOk.right {s : Soc} {i : Nat} {d : Dev} (h : DevOk s i d) (hi : i < s.devs.length) : firstE (devE s d) 4 = 0 := by
  refine firstE_zero.mpr fun j hj => ?_
  match j, hj with
  | 0, _ => rw [devE, noNode, if_pos h.clock]
  | 1, _ => rw [devE, noNode, if_pos h.dom]
  | 2, _ => rw [devE, noNode, if_pos h.rst]
  | 3, _ =>
    refine firstE_zero.mpr fun k hk => ?_
    have := h.needs d.needs[k] (List.getElem_mem hk)
    have e : d.needs.getD k 0 = d.needs[k] := by simp [hk]
    rw [e, noNode, if_pos (by omega)]
theorem Soc.like.full {s : Soc} (h : s.like) : s.fullE = 0 := by
  have h1 := h.nc; have h2 := h.nd; have h3 := h.nr; have h4 := h.nv
  refine fullE_zero.mpr ⟨by omega, fun d hd => ?_⟩
  obtain ⟨i, hi, rfl⟩ := List.getElem_of_mem hd
  have := (h.dev i hi).few
  have := (h.dev i hi).regs; omega
theorem Soc.like.clks {s : Soc} (h : s.like) : clksE s = 0 := firstE_zero.mpr fun i hi => by rw [ofAll_at hi]; exact (h.clk i hi).right hi
theorem Soc.like.domsz {s : Soc} (h : s.like) : domsE s = 0 := firstE_zero.mpr fun i hi => by rw [ofAll_at hi]; exact (h.dom i hi).right hi
theorem Soc.like.rstsz {s : Soc} (h : s.like) : rstsE s = 0 := firstE_zero.mpr fun i hi => by
  rw [ofAll_at hi, rstErr, if_pos]
  have := h.rst i hi; omega
theorem Soc.like.devsz {s : Soc} (h : s.like) : devsE s = 0 := firstE_zero.mpr fun i hi => by rw [ofAll_at hi]; exact (h.dev i hi).right hi
theorem Soc.like.right {s : Soc} (h : s.like) : confErr s = 0 := firstE_zero.mpr fun i hi => by
  match i, hi with
  | 0, _ => exact h.full
  | 1, _ => exact h.clks
  | 2, _ => exact cycE_zero h.clkG
  | 3, _ => exact h.domsz
  | 4, _ => exact cycE_zero h.domG
  | 5, _ => exact h.rstsz
  | 6, _ => exact h.devsz
  | 7, _ => exact cycE_zero h.devG

/-- What is only read may be owned. -/
theorem check_own {st : ASt} {vs : List AV} {s : Soc} {L : List Nat} (h : RepL st vs s.cells L) (hm : s.fine) : ACalls Try.prog F.conf_Check [.agg vs] st fun r s' => r = .int .i64 (confErr s) ∧ s' = st :=
  ACalls.borrow (Q := fun r => r = .int .i64 (confErr s)) ((conf_check_spec hm).mono fun _ _ h => h.1) (Views.cons h.viewAgg (Views.nil st)) fun v h => by rw [h]; exact .int _ _
end Go.Proofs.Ytjamidgdhmjhaaa.Cn
