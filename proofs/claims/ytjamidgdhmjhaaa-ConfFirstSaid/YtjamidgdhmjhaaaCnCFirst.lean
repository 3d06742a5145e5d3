/- Descriptions: ConfFirst. -/
import Derived.Test.YtjamidgdhmjhaaaCnCFaultsM
set_option linter.unusedSimpArgs false
set_option linter.unusedVariables false
namespace Go.Proofs.Ytjamidgdhmjhaaa.Cn
open Go Go.Proofs

/-- One thing is made wrong (x: the lesser of both). -/
def fl (x : Nat) : Nat → Soc → Soc
  | 0, S => { S with devs := S.devs.modify 0 fun d => { d with regs := List.replicate 9 ⟨0, false⟩ } }
  | 1, S => { S with clocks := S.clocks.modify 0 fun c => { c with kind := 113 } }
  | 2, S => { S with doms := S.doms.modify 0 fun d => { d with above := 77 } }
  | 3, S => { S with doms := S.doms.modify (S.doms.length - 1) fun d => ⟨if x = 2 ∧ 1 < S.doms.length then -1 else d.above, 21, d.ret⟩ }
  | 4, S => { S with rsts := S.rsts.set 0 (-1) }
  | _, S => { S with devs := S.devs.modify 0 fun d => { d with needs := [0] } }
def wantE : Nat → Int
  | 0 => 8
  | 1 => 1
  | 2 => 4
  | 3 => 3
  | 4 => 3
  | _ => 5
/-- As many of all. -/
def Soc.asMany (S T : Soc) : Prop := T.clocks.length = S.clocks.length ∧ T.doms.length = S.doms.length ∧ T.rsts.length = S.rsts.length ∧ T.devs.length = S.devs.length
theorem Soc.asMany.refl (S : Soc) : S.asMany S := ⟨rfl, rfl, rfl, rfl⟩
theorem Soc.asMany.fl {S T : Soc} (h : S.asMany T) (x i : Nat) : S.asMany (fl x i T) := by
  obtain ⟨h1, h2, h3, h4⟩ := h
  match i with
  | 0 => exact ⟨h1, h2, h3, by simp [Cn.fl, h4]⟩
  | 1 => exact ⟨by simp [Cn.fl, h1], h2, h3, h4⟩
  | 2 => exact ⟨h1, by simp [Cn.fl, h2], h3, h4⟩
  | 3 => exact ⟨h1, by simp [Cn.fl, h2], h3, h4⟩
  | 4 => exact ⟨h1, h2, by simp [Cn.fl, h3], h4⟩
  | n + 5 => exact ⟨h1, h2, h3, by simp [Cn.fl, h4]⟩
theorem modify_eq_set {α : Type} {l : List α} {i : Nat} {f : α → α} (h : i < l.length) : l.modify i f = l.set i (f l[i]) := by
  apply List.ext_getElem
  · simp
  · intro j h1 h2
    rw [List.getElem_modify, List.getElem_set]
    split
    · rename_i e; subst e; rfl
    · rfl

theorem modify_twice {α : Type} {f : α → α} : ∀ (l : List α) (i : Nat), (∀ x, f (f x) = f x) → (l.modify i f).modify i f = l.modify i f := fun l i hf => by
  apply List.ext_getElem
  · simp
  · intro j h1 h2
    simp only [List.getElem_modify]
    split
    · exact hf _
    · rfl

section
variable {S : Soc} (h : S.like)
include h
theorem fl_first {x y : Nat} (hxy : x ≤ y) (hy : y ≤ 5) : confErr (fl x x (fl x y S)) = wantE x := by
  have hm := ((Soc.asMany.refl S).fl x y).fl x x
  have h1 := h.nc; have h2 := h.nd; have h3 := h.nr; have h4 := h.nv
  have hff := fullE_zero.mp h.full
  obtain ⟨T, hT⟩ : ∃ T, T = fl x x (fl x y S) := ⟨_, rfl⟩
  rw [← hT] at hm ⊢
  obtain ⟨m1, m2, m3, m4⟩ := hm
  have hbig : ¬ (T.big = true) := by
    simp only [Soc.big, decide_eq_true_eq]; omega
  -- all devices are few of all, but by the first fault
  have hdv : 0 < x → ∀ d ∈ T.devs, d.regs.length ≤ 8 ∧ d.needs.length ≤ 6 := by
    intro hx
    have base : ∀ d ∈ S.devs, d.regs.length ≤ 8 ∧ d.needs.length ≤ 6 := hff.2
    have five : ∀ {U : Soc}, 0 < U.devs.length → (∀ d ∈ U.devs, d.regs.length ≤ 8 ∧ d.needs.length ≤ 6) → ∀ {i : Nat}, 0 < i → ∀ d ∈ (fl x i U).devs, d.regs.length ≤ 8 ∧ d.needs.length ≤ 6 := by
      intro U hU0 hU i hi
      match i, hi with
      | 1, _ => exact hU
      | 2, _ => exact hU
      | 3, _ => exact hU
      | 4, _ => exact hU
      | n + 5, _ =>
        intro d hd
        simp only [fl] at hd
        rw [modify_eq_set hU0] at hd
        rcases List.mem_or_eq_of_mem_set hd with hd | rfl
        · exact hU d hd
        · exact ⟨(hU _ (List.getElem_mem hU0)).1, by simp⟩
    have hy0 := five h4.1 base (i := y) (by omega)
    have m := ((Soc.asMany.refl S).fl x y).2.2.2
    rw [hT]
    exact five (by omega) hy0 hx
  have hfull : 0 < x → confE T 0 = 0 := fun hx => fullE_zero.mpr ⟨by omega, hdv hx⟩
  have hclk : 1 < x → T.clocks = S.clocks := by
    have key : ∀ (i : Nat) (U : Soc), 1 < i → (fl x i U).clocks = U.clocks := fun i U hi => by
      match i, hi with
      | 2, _ | 3, _ | 4, _ => rfl
      | n + 5, _ => rfl
    intro hx
    rw [hT, key _ _ hx, key _ _ (by omega)]
  have hdom : 3 < x → T.doms = S.doms := by
    have key : ∀ (i : Nat) (U : Soc), 3 < i → (fl x i U).doms = U.doms := fun i U hi => by
      match i, hi with
      | 4, _ => rfl
      | n + 5, _ => rfl
    intro hx
    rw [hT, key _ _ hx, key _ _ (by omega)]
  have hclks : 1 < x → confE T 1 = 0 := fun hx => by
    show clksE T = 0
    unfold clksE; rw [hclk hx]; exact h.clks
  have hclkg : 1 < x → confE T 2 = 0 := fun hx => by
    show cycE (T.clocks.map Clk.src) = 0
    rw [hclk hx]; exact cycE_zero h.clkG
  have hdoms : 3 < x → confE T 3 = 0 := fun hx => by
    show domsE T = 0
    unfold domsE; rw [hdom hx]; exact h.domsz
  have hdomg : 3 < x → confE T 4 = 0 := fun hx => by
    show cycE (T.doms.map Dom.up) = 0
    rw [hdom hx]; exact cycE_zero h.domG
  rcases (show x = 0 ∨ x = 1 ∨ x = 2 ∨ x = 3 ∨ x = 4 ∨ x = 5 by omega) with rfl | rfl | rfl | rfl | rfl | rfl
  · have hl : 0 < T.devs.length := by omega
    have hreg : T.devs[0].regs = List.replicate 9 ⟨0, false⟩ := by
      simp only [hT, fl]
      rw [List.getElem_modify]; simp
    have e0 : confE T 0 = 8 := by
      show T.fullE = 8
      unfold Soc.fullE
      have hv : devFull T.devs[0] = 8 := by rw [devFull, if_pos]; left; rw [hreg]; simp
      rw [if_neg hbig, firstE_bad hl (fun j _ hj => by omega) (by rw [hv]; decide), hv]
    rw [confErr_at (k := 0) (fun i hi => by omega) (by rw [e0]; decide) (by omega), e0]; rfl
  · have hl : 0 < T.clocks.length := by omega
    have hkind : T.clocks[0].kind = 113 := by
      simp only [hT, fl]
      rw [List.getElem_modify]; simp
    have e1 : confE T 1 = 1 := by
      show clksE T = 1
      have hv : firstE (clkE T.clocks.length T.clocks[0]) 3 = 1 := by
        have h0 : clkE T.clocks.length T.clocks[0] 0 = 1 := by
          rw [clkE, if_neg]; simp [Clk.shape, hkind]
        rw [firstE_stop (k := 0) rfl (by rw [h0]; decide) (by omega), h0]
      unfold clksE
      rw [firstE_bad hl (fun j _ hj => by omega) (by rw [hv]; decide), hv]
    rw [confErr_at (k := 1) (fun i hi => by
      have : i = 0 := by omega
      subst this; exact hfull (by omega)) (by rw [e1]; decide) (by omega), e1]; rfl
  · have hl : 0 < T.doms.length := by omega
    have hab : T.doms[0].above = 77 := by
      simp only [hT, fl]
      rw [List.getElem_modify]; simp
    have e3 : confE T 3 = 4 := by
      show domsE T = 4
      have hv : firstE (domE T.doms.length T.doms[0]) 2 = 4 := by
        have h0 : domE T.doms.length T.doms[0] 0 = 4 := by
          rw [domE, if_pos]; omega
        rw [firstE_stop (k := 0) rfl (by rw [h0]; decide) (by omega), h0]
      unfold domsE
      rw [firstE_bad hl (fun j _ hj => by omega) (by rw [hv]; decide), hv]
    rw [confErr_at (k := 3) (fun i hi => by
      match i, hi with
      | 0, _ => exact hfull (by omega)
      | 1, _ => exact hclks (by omega)
      | 2, _ => exact hclkg (by omega)) (by rw [e3]; decide) (by omega), e3]; rfl
  · have hl : T.doms.length - 1 < T.doms.length := by omega
    have hS : S.doms.length - 1 < S.doms.length := by omega
    have hlast : ∀ (j : Nat) (hj : j < T.doms.length) (hj' : j < S.doms.length), T.doms[j] = if j = S.doms.length - 1 then ⟨S.doms[j].above, 21, S.doms[j].ret⟩ else S.doms[j] := by
      intro j hj hj'
      have key : T.doms = S.doms.modify (S.doms.length - 1) fun d => ⟨d.above, 21, d.ret⟩ := by
        rw [hT]
        rcases (show y = 3 ∨ y = 4 ∨ y = 5 by omega) with rfl | rfl | rfl
        · simp only [fl, List.length_modify]
          rw [modify_twice]
          · simp
          · intro d; simp
        · simp [fl]
        · simp [fl]
      simp only [key, List.getElem_modify]
      split
      · rename_i e; rw [if_pos e.symm]
      · rename_i e; rw [if_neg fun x => e x.symm]
    have e3 : confE T 3 = 3 := by
      show domsE T = 3
      have ev : T.doms[T.doms.length - 1] = ⟨S.doms[S.doms.length - 1].above, 21, S.doms[S.doms.length - 1].ret⟩ := by
        have := hlast (T.doms.length - 1) hl (by omega)
        rw [this, if_pos (by omega)]
        simp only [m2]
      have hv : firstE (domE T.doms.length T.doms[T.doms.length - 1]) 2 = 3 := by
        have hu := (h.dom (S.doms.length - 1) hS).up
        have h1' : domE T.doms.length T.doms[T.doms.length - 1] 1 = 3 := by rw [ev]; simp [domE]
        rw [firstE_stop (k := 1) (firstE_zero.mpr fun j hj => ?_) (by rw [h1']; decide) (by omega), h1']
        have : j = 0 := by omega
        subst this
        rw [ev, domE, if_neg]
        simp only; omega
      unfold domsE
      rw [firstE_bad hl (fun j hj hjl => ?_) (by rw [hv]; decide), hv]
      rw [hlast j hj (by omega), if_neg (by omega), m2]
      exact (h.dom j (by omega)).right (by omega)
    rw [confErr_at (k := 3) (fun i hi => by
      match i, hi with
      | 0, _ => exact hfull (by omega)
      | 1, _ => exact hclks (by omega)
      | 2, _ => exact hclkg (by omega)) (by rw [e3]; decide) (by omega), e3]; rfl
  · have hl : 0 < T.rsts.length := by omega
    have hv : T.rsts[0] = -1 := by simp [hT, fl]
    have e5 : confE T 5 = 3 := by
      show firstE (ofAll T.rsts rstErr) T.rsts.length = 3
      rw [firstE_bad hl (fun j _ hj => by omega) (by rw [hv]; decide), hv]; rfl
    rw [confErr_at (k := 5) (fun i hi => by
      match i, hi with
      | 0, _ => exact hfull (by omega)
      | 1, _ => exact hclks (by omega)
      | 2, _ => exact hclkg (by omega)
      | 3, _ => exact hdoms (by omega)
      | 4, _ => exact hdomg (by omega)) (by rw [e5]; decide) (by omega), e5]; rfl
  · have hye : y = 5 := by omega
    subst hye
    have hd0 : 0 < S.devs.length := h4.1
    have key : T = { S with devs := S.devs.set 0 { S.devs[0] with needs := [((0 : Nat) : Int)] } } := by
      rw [hT]
      simp only [fl]
      rw [modify_twice (f := fun d : Dev => { d with needs := [0] }) _ _ (fun d => rfl), modify_eq_set hd0]; rfl
    rw [key]
    exact dev_cycle h hd0
end
end Go.Proofs.Ytjamidgdhmjhaaa.Cn
