/- Clocks: a tree that is as it must be stays so; the example. -/
import Derived.Test.YtkioaemhdbcfaaaCnClock5
import Derived.Test.YtkioaemhdbcfaaaCnChipT
import Derived.Test.YtkioaemhdbcfaaaCnPick
import Derived.Test.YtkioaemhdbcfaaaCnL2
set_option linter.unusedSimpArgs false
set_option linter.unusedVariables false
namespace Go.Proofs.Ytkioaemhdbcfaaa.Cn
open Go Go.Proofs

theorem NdOk.fresh {i : Nat} {c : Clk} (h : ClkOk i c) : NdOk i (Nd.fresh c) := by
  cases h with
  | osc r h hi => exact ⟨.inl rfl, by simp [Nd.fresh], by simp [Nd.fresh], by simp [Nd.fresh], by simp [Nd.fresh], by simp [Nd.fresh], by simp [Nd.fresh], by simp [Nd.fresh], by simp [Nd.fresh], by simp [Nd.fresh]; omega, by simp [Nd.fresh]⟩
  | pll x m d l hx hm hd hl => exact ⟨.inr (.inl rfl), by simp [Nd.fresh], by simp [Nd.fresh], by simpa [Nd.fresh] using hx, by simp [Nd.fresh], by simp [Nd.fresh], by simp [Nd.fresh]; omega, by simp [Nd.fresh]; omega, by simp [Nd.fresh], by simp [Nd.fresh], by simp [Nd.fresh]; omega⟩
  | div x d hx hd => exact ⟨.inr (.inr (.inl rfl)), by simp [Nd.fresh], by simp [Nd.fresh], by simpa [Nd.fresh] using hx, by simp [Nd.fresh], by simp [Nd.fresh], by simp [Nd.fresh], by simp [Nd.fresh], by simp [Nd.fresh]; omega, by simp [Nd.fresh], by simp [Nd.fresh]⟩
  | gate x hx => exact ⟨.inr (.inr (.inr (.inl rfl))), by simp [Nd.fresh], by simp [Nd.fresh], by simpa [Nd.fresh] using hx, by simp [Nd.fresh], by simp [Nd.fresh], by simp [Nd.fresh], by simp [Nd.fresh], by simp [Nd.fresh], by simp [Nd.fresh], by simp [Nd.fresh]⟩
  | mux x y hx hy => exact ⟨.inr (.inr (.inr (.inr rfl))), by simp [Nd.fresh], by simp [Nd.fresh], by simpa [Nd.fresh] using ⟨hx, hy⟩, by simp [Nd.fresh], by simp [Nd.fresh], by simp [Nd.fresh], by simp [Nd.fresh], by simp [Nd.fresh], by simp [Nd.fresh], by simp [Nd.fresh]⟩
theorem NsOk.fresh {l : List Clk} (h : ∀ i (hi : i < l.length), ClkOk i l[i]) : NsOk (cfresh l) := fun i hi => by
  simp only [cfresh, List.length_map] at hi
  simp only [cfresh, List.getElem_map]
  exact NdOk.fresh (h i hi)
theorem NsOk.set {ns : List Nd} (h : NsOk ns) {i : Nat} (hi : i < ns.length) {n : Nd} (hn : NdOk i n) : NsOk (ns.set i n) := fun j hj => by
  simp only [List.length_set] at hj
  rw [List.getElem_set]
  split
  · rename_i e; subst e; exact hn
  · exact h j hj
theorem NdOk.turn {i : Nat} {n : Nd} (h : NdOk i n) (b : Bool) : NdOk i (n.turn b) := by
  unfold Nd.turn; split
  · exact ⟨h.kind, h.osc, h.few, h.less, h.set, h.want, h.lock, h.lock, h.by_, h.rate, h.fac⟩
  · exact ⟨h.kind, h.osc, h.few, h.less, h.set, h.want, h.left, h.lock, h.by_, h.rate, h.fac⟩
theorem NdOk.tick {i : Nat} {n : Nd} (h : NdOk i n) (R : Nat → Bool) : NdOk i (n.tick R) := by
  unfold Nd.tick
  split
  · split
    · split
      · exact ⟨h.kind, h.osc, h.few, h.less, h.set, h.want, h.lock, h.lock, h.by_, h.rate, h.fac⟩
      · split
        · have := h.left
          exact ⟨h.kind, h.osc, h.few, h.less, h.set, h.want, ⟨by show 0 ≤ n.left - 1; omega, by show n.left - 1 ≤ 20; omega⟩, h.lock, h.by_, h.rate, h.fac⟩
        · exact h
    · exact h
  · split
    · exact ⟨h.kind, h.osc, h.few, h.less, h.want, h.want, h.left, h.lock, h.by_, h.rate, h.fac⟩
    · exact h
theorem NsOk.on {ns : List Nd} (h : NsOk ns) {i : Nat} (hi : i < ns.length) (b : Bool) : NsOk (onL ns i hi b) := by
  unfold onL; split
  · exact h.set hi ((h i hi).turn b)
  · exact h
theorem NsOk.sel {ns : List Nd} (h : NsOk ns) {i : Nat} (hi : i < ns.length) (k : Int) : NsOk (selL ns i hi k) := by
  unfold selL; split
  · rename_i e
    have ho := h i hi
    have hc : ns[i].c.kind = 109 ∧ 0 ≤ k ∧ k < (ns[i].c.src.length : Int) := by
      unfold selE at e; split at e
      · assumption
      · cases e
    exact h.set hi ⟨ho.kind, ho.osc, ho.few, ho.less, ho.set, ⟨hc.2.1, fun _ => hc.2.2, fun e => by have := ho.osc.mpr e; omega⟩, ho.left, ho.lock, ho.by_, ho.rate, ho.fac⟩
  · exact h
theorem NsOk.div {ns : List Nd} (h : NsOk ns) {i : Nat} (hi : i < ns.length) (k : Int) : NsOk (divL ns i hi k) := by
  unfold divL; split
  · rename_i e
    have ho := h i hi
    have hc : ns[i].c.kind = 100 ∧ 1 ≤ k ∧ k ≤ 1000 := by
      unfold divE at e; split at e
      · assumption
      · cases e
    exact h.set hi ⟨ho.kind, ho.osc, ho.few, ho.less, ho.set, ho.want, ho.left, ho.lock, fun _ => hc.2, ho.rate, ho.fac⟩
  · exact h
theorem NsOk.tick {ns : List Nd} (h : NsOk ns) : NsOk (ctickL ns) := fun i hi => by
  simp only [ctickL_len] at hi
  simp only [ctickL, List.getElem_map]
  exact (h i hi).tick _
theorem onL_len {ns : List Nd} {i : Nat} (hi : i < ns.length) (b : Bool) : (onL ns i hi b).length = ns.length := by unfold onL; split <;> simp
theorem selL_len {ns : List Nd} {i : Nat} (hi : i < ns.length) (k : Int) : (selL ns i hi k).length = ns.length := by unfold selL; split <;> simp
theorem divL_len {ns : List Nd} {i : Nat} (hi : i < ns.length) (k : Int) : (divL ns i hi k).length = ns.length := by unfold divL; split <;> simp
end Go.Proofs.Ytkioaemhdbcfaaa.Cn
