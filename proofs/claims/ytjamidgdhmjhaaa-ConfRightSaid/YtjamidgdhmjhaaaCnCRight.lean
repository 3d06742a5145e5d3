/- Descriptions: ConfRight. -/
import Derived.Test.YtjamidgdhmjhaaaCnCFaultsM
set_option linter.unusedSimpArgs false
set_option linter.unusedVariables false
namespace Go.Proofs.Ytjamidgdhmjhaaa.Cn
open Go Go.Proofs

/-- Devices that are right beside the clocks, domains and lines of a chip. -/
structure DevsOk (S : Soc) (D : List Dev) : Prop where
  few : D.length ≤ 6
  clock : ∀ d ∈ D, 0 ≤ d.clock ∧ d.clock < S.clocks.length
  dom : ∀ d ∈ D, 0 ≤ d.dom ∧ d.dom < S.doms.length
  rst : ∀ d ∈ D, 0 ≤ d.rst ∧ d.rst < S.rsts.length
  small : ∀ d ∈ D, d.regs.length ≤ 8 ∧ d.needs.length ≤ 6
  ok : ∀ d ∈ D, ∀ u ∈ d.needs, 0 ≤ u ∧ u < (D.length : Int)
theorem devs_upto {S : Soc} (h : S.like) {D : List Dev} (hD : DevsOk S D) {i : Nat} (hi : i < 7) : confE { S with devs := D } i = 0 := by
  have hf := fullE_zero.mp h.full
  match i, hi with
  | 0, _ => exact fullE_zero.mpr ⟨⟨hf.1.1, hf.1.2.1, hf.1.2.2.1, hD.few⟩, hD.small⟩
  | 1, _ => exact h.clks
  | 2, _ => exact cycE_zero h.clkG
  | 3, _ => exact h.domsz
  | 4, _ => exact cycE_zero h.domG
  | 5, _ => exact h.rstsz
  | 6, _ =>
    refine firstE_zero.mpr fun i hi => ?_
    rw [ofAll_at hi]
    have hm : D[i] ∈ D := List.getElem_mem hi
    refine firstE_zero.mpr fun j hj => ?_
    match j, hj with
    | 0, _ => show noNode S.clocks.length D[i].clock = 0; rw [noNode, if_pos (hD.clock _ hm)]
    | 1, _ => show noNode S.doms.length D[i].dom = 0; rw [noNode, if_pos (hD.dom _ hm)]
    | 2, _ => show noNode S.rsts.length D[i].rst = 0; rw [noNode, if_pos (hD.rst _ hm)]
    | 3, _ =>
      refine firstE_zero.mpr fun k hk => ?_
      have := hD.ok D[i] hm D[i].needs[k] (List.getElem_mem hk)
      show noNode D.length (D[i].needs.getD k 0) = 0
      have e : D[i].needs.getD k 0 = D[i].needs[k] := by simp [hk]
      rw [e, noNode, if_pos this]
theorem devs_right {S : Soc} (h : S.like) {D : List Dev} (hD : DevsOk S D) (hl : ∀ i (hi : i < D.length), ∀ u ∈ D[i].needs, 0 ≤ u ∧ u < (i : Int)) : confErr { S with devs := D } = 0 := by
  refine firstE_zero.mpr fun i hi => ?_
  rcases (show i < 7 ∨ i = 7 by omega) with h1 | rfl
  · exact devs_upto h hD h1
  · refine cycE_zero (grErr_lesser (by simp; have := hD.few; omega) fun v hv => ?_)
    rw [List.getElem_map]
    exact hl v (by simpa using hv)
theorem devs_cycle {S : Soc} (h : S.like) {D : List Dev} (hD : DevsOk S D) {v : Nat} (hu : Up (D.map Dev.needs) v v) : confErr { S with devs := D } = 5 := by
  have hg : grErr (D.map Dev.needs) = 5 := by
    refine grErr_cycle (v := v) (by simp; have := hD.few; omega) (fun r hr u hx => ?_) hu
    obtain ⟨d, hd, rfl⟩ := List.mem_map.mp hr
    simpa using hD.ok d hd u hx
  have e7 : confE { S with devs := D } 7 = 5 := by
    show cycE _ = 5
    rw [cycE, if_pos hg]
  rw [← e7]
  exact confErr_at (fun i hi => devs_upto h hD hi) (by rw [e7]; decide) (by omega)
/-- A device that needs all. -/
def allDev (S : Soc) (n : Nat) : Dev := ⟨((S.clocks.length - 1 : Nat) : Int), ((S.doms.length - 1 : Nat) : Int), 0, 0, [], nats (List.range n)⟩
section
variable {S : Soc} (h : S.like)
include h
theorem own_ok : DevsOk S S.devs := by
  have h4 := h.nv
  refine ⟨by omega, fun d hd => ?_, fun d hd => ?_, fun d hd => ?_, fun d hd => ?_, fun d hd u hu => ?_⟩ <;> obtain ⟨i, hi, rfl⟩ := List.getElem_of_mem hd
  · exact (h.dev i hi).clock
  · exact (h.dev i hi).dom
  · exact (h.dev i hi).rst
  · exact dev_small h hi
  · have := (h.dev i hi).needs u hu; omega
theorem less_right : confErr { S with devs := S.devs.take (S.devs.length - 1) } = 0 := by
  have h4 := h.nv
  have hb := own_ok h
  have hm : ∀ d ∈ S.devs.take (S.devs.length - 1), d ∈ S.devs := fun d hd => List.mem_of_mem_take hd
  have hl : ∀ i (hi : i < (S.devs.take (S.devs.length - 1)).length), ∀ u ∈ (S.devs.take (S.devs.length - 1))[i].needs, 0 ≤ u ∧ u < (i : Int) := fun i hi u hu => by
    rw [List.getElem_take] at hu
    exact (h.dev i (by simp at hi; omega)).needs u hu
  refine devs_right h ⟨by simp; omega, fun d hd => hb.clock d (hm d hd), fun d hd => hb.dom d (hm d hd), fun d hd => hb.rst d (hm d hd), fun d hd => hb.small d (hm d hd), fun d hd u hu => ?_⟩ hl
  obtain ⟨i, hi, rfl⟩ := List.getElem_of_mem hd
  have := hl i hi u hu
  omega
theorem more_ok : DevsOk S (S.devs ++ [allDev S S.devs.length]) := by
  have h1 := h.nc; have h2 := h.nd; have h3 := h.nr; have h4 := h.nv
  have hb := own_ok h
  have sp : ∀ {p : Dev → Prop}, (∀ d ∈ S.devs, p d) → p (allDev S S.devs.length) → ∀ d ∈ S.devs ++ [allDev S S.devs.length], p d := fun a b d hd => by
    rcases List.mem_append.mp hd with hd | hd
    · exact a d hd
    · simp at hd; subst hd; exact b
  refine ⟨by simp; omega, sp hb.clock (by simp only [allDev]; omega), sp hb.dom (by simp only [allDev]; omega), sp hb.rst (by simp only [allDev]; omega), sp hb.small (by simp [allDev, nats]; omega), sp (fun d hd u hu => ?_) fun u hu => ?_⟩
  · have := hb.ok d hd u hu; simp; omega
  · simp only [allDev, nats, List.mem_map, List.mem_range] at hu
    obtain ⟨a, ha, rfl⟩ := hu
    simp; omega
theorem more_right : confErr { S with devs := S.devs ++ [allDev S S.devs.length] } = 0 := by
  refine devs_right h (more_ok h) fun i hi u hu => ?_
  by_cases e : i < S.devs.length
  · rw [List.getElem_append_left e] at hu
    exact (h.dev i e).needs u hu
  · have : i = S.devs.length := by simp at hi; omega
    subst this
    simp only [List.getElem_concat_length] at hu
    simp only [allDev, nats, List.mem_map, List.mem_range] at hu
    obtain ⟨a, ha, rfl⟩ := hu
    simp; omega
theorem dev0_needs : (S.devs[0]'h.nv.1).needs = [] := by
  have := (h.dev 0 h.nv.1).needs
  cases e : (S.devs[0]'h.nv.1).needs with
  | nil => rfl
  | cons u l =>
    have := this u (by rw [e]; simp)
    omega
theorem circle_err : confErr { S with devs := (S.devs ++ [allDev S S.devs.length]).set 0 { S.devs[0]'h.nv.1 with needs := [(S.devs.length : Int)] } } = 5 := by
  have h4 := h.nv
  have hb := more_ok h
  have hl0 : 0 < (S.devs ++ [allDev S S.devs.length]).length := by simp
  have h00 : (S.devs ++ [allDev S S.devs.length])[0] = S.devs[0]'h.nv.1 := List.getElem_append_left _
  have hm0 : S.devs[0]'h.nv.1 ∈ S.devs ++ [allDev S S.devs.length] := List.mem_append_left _ (List.getElem_mem _)
  have sp : ∀ {p : Dev → Prop}, (∀ d ∈ S.devs ++ [allDev S S.devs.length], p d) → p { S.devs[0]'h.nv.1 with needs := [(S.devs.length : Int)] } → ∀ d ∈ (S.devs ++ [allDev S S.devs.length]).set 0 { S.devs[0]'h.nv.1 with needs := [(S.devs.length : Int)] }, p d := fun a b d hd => by
    rcases List.mem_or_eq_of_mem_set hd with hd | rfl
    · exact a d hd
    · exact b
  refine devs_cycle (v := 0) h ⟨by simpa using hb.few, sp hb.clock (hb.clock (S.devs[0]'h.nv.1) hm0), sp hb.dom (hb.dom (S.devs[0]'h.nv.1) hm0), sp hb.rst (hb.rst (S.devs[0]'h.nv.1) hm0), sp hb.small ⟨(hb.small _ hm0).1, by simp⟩, sp (fun d hd u hu => by simpa using hb.ok d hd u hu) fun u hu => by simp at hu; simp; omega⟩ ?_
  refine .more (w := S.devs.length) ?_ (.one ?_)
  · rw [deps_at (by simp)]
    simp
  · rw [deps_at (by simp)]
    simp only [List.getElem_map]
    rw [List.getElem_set_ne (by omega)]
    simp only [List.getElem_concat_length, allDev]
    simp [nats]; omega
theorem more_sane (n : Nat) (hn : n ≤ 10) : ({ S with devs := S.devs ++ [allDev S n] } : Soc).sane := by
  have hs := h.sane
  have h4 := h.nv
  refine ⟨hs.c, hs.d, hs.r, by simp; omega, hs.cs, fun d hd => ?_⟩
  rcases List.mem_append.mp hd with hd | hd
  · exact hs.vs d hd
  · simp at hd; subst hd; simp [allDev, nats]; omega
end
end Go.Proofs.Ytjamidgdhmjhaaa.Cn
