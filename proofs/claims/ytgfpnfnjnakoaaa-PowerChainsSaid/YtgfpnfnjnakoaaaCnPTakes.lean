/- Power: what Up and Down do where it is known that they may, or may not. -/
import Derived.Test.YtgfpnfnjnakoaaaCnPRisen
set_option linter.unusedSimpArgs false
set_option linter.unusedVariables false
set_option linter.unusedSectionVars false
namespace Go.Proofs.Ytgfpnfnjnakoaaa.Cn
open Go Go.Proofs

def Gd.rise (g : Gd) : Gd := { g with back := decide (g.phase = 116), phase := 114, left := g.delay }
def Gd.fall (g : Gd) (k : Bool) : Gd := { g with phase := 99, keep := k }
def Gd.risen (g : Gd) : Gd := { g.rise with phase := 49, left := 0 }
/-- What one hangs on lives. -/
def Hung (gs : List Gd) (k : Nat) (hk : k < gs.length) : Prop := gs[k].above = -1 ∨ ∃ (a : Nat) (h : a < gs.length), gs[k].above = (a : Int) ∧ gs[a].phase = 49
section
variable {st : ASt} {p ig : Nat} {gs : List Gd} {k : Nat}
theorem up_noS (h : GridAt st p ig gs) (hab : ∀ g ∈ gs, g.above = -1 ∨ (0 ≤ g.above ∧ g.above < (gs.length : Int))) (hk : k < gs.length) (hn : gs[k].isDown = false ∨ ∃ (a : Nat) (h : a < gs.length), gs[k].above = (a : Int) ∧ gs[a].phase ≠ 49) :
    ACalls Try.prog F.power_Grid_Up [.ptr p 0, .int .i64 k] st fun r s => r = .int .i64 6 ∧ s = st := by
  have hc : gs[k].isDown = false ∨ (gs[k].above ≠ -1 ∧ (gs.getD gs[k].above.toNat gs[k]).phase ≠ 49) := by
    rcases hn with hn | ⟨a, ha, e1, e2⟩
    · exact .inl hn
    · exact .inr ⟨by omega, by rw [e1, Int.toNat_natCast]; simpa [ha] using e2⟩
  refine (up_spec h hab hk).mono ?_
  rintro r s ⟨rfl, rfl⟩
  rw [upE, upG, if_pos hc, if_pos hc, ASt.set_id h.hg]
  exact ⟨rfl, rfl⟩
theorem up_yesS (h : GridAt st p ig gs) (hab : ∀ g ∈ gs, g.above = -1 ∨ (0 ≤ g.above ∧ g.above < (gs.length : Int))) (hk : k < gs.length) (hd : gs[k].isDown = true) (hu : Hung gs k hk) :
    ACalls Try.prog F.power_Grid_Up [.ptr p 0, .int .i64 k] st fun r s => r = .int .i64 0 ∧ s = st.set ig (gsC (gs.set k gs[k].rise)) := by
  have hc : ¬ (gs[k].isDown = false ∨ (gs[k].above ≠ -1 ∧ (gs.getD gs[k].above.toNat gs[k]).phase ≠ 49)) := by
    rintro (e | ⟨e1, e2⟩)
    · rw [hd] at e; cases e
    · rcases hu with e | ⟨a, ha, e3, e4⟩
      · exact e1 e
      · rw [e3, Int.toNat_natCast] at e2
        simp [ha] at e2
        exact e2 e4
  refine (up_spec h hab hk).mono ?_
  rintro r s ⟨rfl, rfl⟩
  rw [upE, upG, if_neg hc, if_neg hc]
  exact ⟨rfl, rfl⟩
theorem down_argS (h : GridAt st p ig gs) (hk : k < gs.length) (h1 : gs[k].phase = 49) (h2 : gs[k].ret = false) :
    ACalls Try.prog F.power_Grid_Down [.ptr p 0, .int .i64 k, .bool true] st fun r s => r = .int .i64 1 ∧ s = st := by
  refine (down_spec h hk true).mono ?_
  rintro r s ⟨rfl, rfl⟩
  have e : downE gs k hk true = 1 := by rw [downE, if_neg (by simp [h1]), if_pos ⟨rfl, h2⟩]
  rw [downG, e, if_neg (by decide), ASt.set_id h.hg]
  exact ⟨rfl, rfl⟩
theorem down_busyS (h : GridAt st p ig gs) (hk : k < gs.length) (h1 : gs[k].phase = 49) {i : Nat} (hi : i < gs.length) (h2 : gs[i].above = (k : Int)) (h3 : gs[i].isDown = false) :
    ACalls Try.prog F.power_Grid_Down [.ptr p 0, .int .i64 k, .bool false] st fun r s => r = .int .i64 7 ∧ s = st := by
  refine (down_spec h hk false).mono ?_
  rintro r s ⟨rfl, rfl⟩
  have e : downE gs k hk false = 7 := by rw [downE, if_neg (by simp [h1]), if_neg (by simp), if_pos (someUp_some hi h2 h3)]
  rw [downG, e, if_neg (by decide), ASt.set_id h.hg]
  exact ⟨rfl, rfl⟩
theorem someUp_none (hn : ∀ i (h : i < gs.length), gs[i].above = (k : Int) → gs[i].isDown = true) : someUp gs k = false := by
  cases e : someUp gs k
  · rfl
  · rw [someUp, List.any_eq_true] at e
    obtain ⟨g, hg, he⟩ := e
    obtain ⟨i, hi, rfl⟩ := List.getElem_of_mem hg
    simp only [Bool.and_eq_true, decide_eq_true_eq, Bool.not_eq_true'] at he
    rw [hn i hi he.1] at he
    cases he.2
theorem down_yesS (h : GridAt st p ig gs) (hk : k < gs.length) (kp : Bool) (h1 : gs[k].phase = 49) (h2 : kp = true → gs[k].ret = true) (hn : ∀ i (h : i < gs.length), gs[i].above = (k : Int) → gs[i].isDown = true) :
    ACalls Try.prog F.power_Grid_Down [.ptr p 0, .int .i64 k, .bool kp] st fun r s => r = .int .i64 0 ∧ s = st.set ig (gsC (gs.set k (gs[k].fall kp))) := by
  refine (down_spec h hk kp).mono ?_
  rintro r s ⟨rfl, rfl⟩
  have e : downE gs k hk kp = 0 := by
    rw [downE, if_neg (by simp [h1]), if_neg (by rintro ⟨a, b⟩; rw [h2 a] at b; cases b), someUp_none hn]; rfl
  rw [downG, e, if_pos rfl]
  exact ⟨rfl, rfl⟩
end
/-- Of a chain the first ones live, all others are off. -/
def TkInv (c : List Nat) (j : Nat) (gs : List Gd) : Prop := ∀ x (h : x < gs.length), gs[x].phase = if x ∈ c.take j then 49 else 48
theorem TkInv.fresh (c : List Nat) (D : List Dom) : TkInv c 0 (gfresh D) := fun x h => by simp [gfresh]
theorem GInv.rise {D : List Dom} {gs : List Gd} (h : GInv D gs) {k : Nat} (hk : k < gs.length) : GInv D (gs.set k gs[k].rise) := by
  have hD : k < D.length := by rw [← h.len]; exact hk
  have e := h.same k hk hD
  have := (h.dom k hD).delay
  exact h.put hk rfl rfl rfl (by show 0 ≤ gs[k].delay ∧ gs[k].delay ≤ 20; omega)
theorem GInv.risen {D : List Dom} {gs : List Gd} (h : GInv D gs) {k : Nat} (hk : k < gs.length) : GInv D (gs.set k gs[k].risen) :=
  h.put hk rfl rfl rfl (by show 0 ≤ (0 : Int) ∧ (0 : Int) ≤ 20; omega)
theorem GInv.fall {D : List Dom} {gs : List Gd} (h : GInv D gs) {k : Nat} (hk : k < gs.length) (b : Bool) : GInv D (gs.set k (gs[k].fall b)) :=
  have := h.left gs[k] (List.getElem_mem hk)
  h.put hk rfl rfl rfl this
end Go.Proofs.Ytgfpnfnjnakoaaa.Cn
