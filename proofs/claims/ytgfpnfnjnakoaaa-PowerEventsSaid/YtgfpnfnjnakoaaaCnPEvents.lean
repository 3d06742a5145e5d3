/- Power: PowerEvents, what has last come to pass of a domain. -/
import Derived.Test.YtgfpnfnjnakoaaaCnPower6
set_option linter.unusedSimpArgs false
set_option linter.unusedVariables false
set_option linter.unusedSectionVars false
namespace Go.Proofs.Ytgfpnfnjnakoaaa.Cn
open Go Go.Proofs

/-- What has last come to pass goes with the phase. -/
def EvOk (g : Gd) (e : Int) : Prop :=
  (g.phase = 48 ∧ (e = 0 ∨ e = 108)) ∨ (g.phase = 114 ∧ ((g.back = false ∧ (e = 0 ∨ e = 108)) ∨ (g.back = true ∧ e = 115))) ∨ (g.phase = 104 ∧ (e = 110 ∨ e = 114)) ∨ (g.phase = 49 ∧ e = 111) ∨ (g.phase = 99 ∧ e = 111) ∨ (g.phase = 116 ∧ e = 115)
/-- What may come behind what. -/
def evNext (e k : Int) : Prop := (k = 110 ∧ (e = 0 ∨ e = 108)) ∨ (k = 114 ∧ e = 115) ∨ (k = 111 ∧ (e = 110 ∨ e = 114)) ∨ ((k = 115 ∨ k = 108) ∧ e = 111)
theorem EvOk.tick {g : Gd} {e : Int} (h : EvOk g e) : (gev g ≠ 0 → evNext e (gev g)) ∧ EvOk (gtick g) (if gev g = 0 then e else gev g) := by
  obtain ⟨ab, de, re, ph, le, ba, ke⟩ := g
  unfold EvOk at h
  simp only at h
  rcases h with ⟨rfl, h⟩ | ⟨rfl, h⟩ | ⟨rfl, h⟩ | ⟨rfl, h⟩ | ⟨rfl, h⟩ | ⟨rfl, h⟩
  · exact ⟨fun e => absurd rfl e, .inl ⟨rfl, h⟩⟩
  · by_cases hl : 0 < le
    · have e1 : gev ⟨ab, de, re, 114, le, ba, ke⟩ = 0 := by simp [gev, hl]
      have e2 : gtick ⟨ab, de, re, 114, le, ba, ke⟩ = ⟨ab, de, re, 114, le - 1, ba, ke⟩ := by simp [gtick, hl]
      rw [e1, e2, if_pos rfl]
      exact ⟨fun e => absurd rfl e, .inr (.inl ⟨rfl, h⟩)⟩
    · have e2 : gtick ⟨ab, de, re, 114, le, ba, ke⟩ = ⟨ab, de, re, 104, le, ba, ke⟩ := by simp [gtick, hl]
      cases ba
      · have e1 : gev ⟨ab, de, re, 114, le, false, ke⟩ = 110 := by simp [gev, hl]
        rw [e1, e2, if_neg (by decide)]
        have h' : e = 0 ∨ e = 108 := by simpa using h
        exact ⟨fun _ => .inl ⟨rfl, h'⟩, .inr (.inr (.inl ⟨rfl, .inl rfl⟩))⟩
      · have e1 : gev ⟨ab, de, re, 114, le, true, ke⟩ = 114 := by simp [gev, hl]
        rw [e1, e2, if_neg (by decide)]
        have h' : e = 115 := by simpa using h
        exact ⟨fun _ => .inr (.inl ⟨rfl, h'⟩), .inr (.inr (.inl ⟨rfl, .inr rfl⟩))⟩
  · have e1 : gev ⟨ab, de, re, 104, le, ba, ke⟩ = 111 := by simp [gev]
    have e2 : gtick ⟨ab, de, re, 104, le, ba, ke⟩ = ⟨ab, de, re, 49, le, ba, ke⟩ := by simp [gtick]
    rw [e1, e2, if_neg (by decide)]
    exact ⟨fun _ => .inr (.inr (.inl ⟨rfl, h⟩)), .inr (.inr (.inr (.inl ⟨rfl, rfl⟩)))⟩
  · exact ⟨fun e => absurd rfl e, .inr (.inr (.inr (.inl ⟨rfl, h⟩)))⟩
  · cases ke
    · have e1 : gev ⟨ab, de, re, 99, le, ba, false⟩ = 108 := by simp [gev]
      have e2 : gtick ⟨ab, de, re, 99, le, ba, false⟩ = ⟨ab, de, re, 48, le, ba, false⟩ := by simp [gtick]
      rw [e1, e2, if_neg (by decide)]
      exact ⟨fun _ => .inr (.inr (.inr ⟨.inr rfl, h⟩)), .inl ⟨rfl, .inr rfl⟩⟩
    · have e1 : gev ⟨ab, de, re, 99, le, ba, true⟩ = 115 := by simp [gev]
      have e2 : gtick ⟨ab, de, re, 99, le, ba, true⟩ = ⟨ab, de, re, 116, le, ba, true⟩ := by simp [gtick]
      rw [e1, e2, if_neg (by decide)]
      exact ⟨fun _ => .inr (.inr (.inr ⟨.inl rfl, h⟩)), .inr (.inr (.inr (.inr (.inr ⟨rfl, rfl⟩))))⟩
  · exact ⟨fun e => absurd rfl e, .inr (.inr (.inr (.inr (.inr ⟨rfl, h⟩))))⟩
theorem EvOk.fresh (d : Dom) : EvOk ⟨d.above, d.delay, d.ret, 48, 0, false, false⟩ 0 := .inl ⟨rfl, .inl rfl⟩
structure EInv (gs : List Gd) (E : List Int) : Prop where
  len : E.length = gs.length
  ok : ∀ i (h : i < gs.length) (h' : i < E.length), EvOk gs[i] E[i]
theorem EInv.fresh (D : List Dom) : EInv (gfresh D) (List.replicate D.length 0) where
  len := by simp [gfresh]
  ok := fun i h h' => by
    simp only [gfresh, List.getElem_map, List.getElem_replicate]
    exact EvOk.fresh _
theorem EInv.put {gs : List Gd} {E : List Int} (h : EInv gs E) {i : Nat} (hi : i < gs.length) {g : Gd} (hg : EvOk g (E[i]'(by rw [h.len]; exact hi))) : EInv (gs.set i g) E where
  len := by simp [h.len]
  ok := fun j hj hj' => by
    simp only [List.length_set] at hj
    rw [List.getElem_set]
    split
    · rename_i e; subst e; exact hg
    · exact h.ok j hj hj'
theorem EInv.up {gs : List Gd} {E : List Int} (h : EInv gs E) {i : Nat} (hi : i < gs.length) : EInv (upG gs i hi) E := by
  have hE : i < E.length := by rw [h.len]; exact hi
  unfold upG
  split
  · exact h
  · rename_i hn
    refine h.put hi ?_
    have hd : gs[i].isDown = true := by
      cases e : gs[i].isDown
      · exact absurd (.inl e) hn
      · rfl
    have ho := h.ok i hi hE
    unfold Gd.isDown at hd
    have hd2 : gs[i].phase = 48 ∨ gs[i].phase = 116 := by simpa using hd
    unfold EvOk at ho ⊢
    simp only
    rcases hd2 with e | e
    · rw [e] at ho ⊢
      simp only [Int.reduceEq, false_and, or_false, true_and] at ho
      exact .inr (.inl ⟨trivial, .inl ⟨by decide, ho⟩⟩)
    · rw [e] at ho ⊢
      simp only [Int.reduceEq, false_and, false_or, true_and] at ho
      exact .inr (.inl ⟨trivial, .inr ⟨by decide, ho⟩⟩)
theorem EInv.down {gs : List Gd} {E : List Int} (h : EInv gs E) {i : Nat} (hi : i < gs.length) (k : Bool) : EInv (downG gs i hi k) E := by
  have hE : i < E.length := by rw [h.len]; exact hi
  unfold downG
  split
  · rename_i he
    refine h.put hi ?_
    have ho := h.ok i hi hE
    have hp : gs[i].phase = 49 := by
      unfold downE at he
      by_cases e : gs[i].phase = 49
      · exact e
      · rw [if_pos e] at he; simp at he
    unfold EvOk at ho ⊢
    rw [hp] at ho
    simp only [Int.reduceEq, false_and, false_or, or_false, true_and] at ho
    simp only
    exact .inr (.inr (.inr (.inr (.inl ⟨trivial, ho⟩))))
  · exact h
/-- Of which domains something came to pass. -/
def evIx (gs : List Gd) : List Nat := (List.range gs.length).filter fun j => decide (gev (gs.getD j ⟨0, 0, false, 0, 0, false, false⟩) ≠ 0)
theorem evs_ix (gs : List Gd) : evs gs = (evIx gs).map fun j => (gev (gs.getD j ⟨0, 0, false, 0, 0, false, false⟩), j) := rfl
theorem evs_len (gs : List Gd) : (evs gs).length = (evIx gs).length := by rw [evs_ix, List.length_map]
theorem evIx_len (gs : List Gd) : (evIx gs).length ≤ gs.length := by
  have := List.length_filter_le (fun j => decide (gev (gs.getD j ⟨0, 0, false, 0, 0, false, false⟩) ≠ 0)) (List.range gs.length)
  simpa [evIx] using this
theorem evIx_mem {gs : List Gd} {j : Nat} (h : j < gs.length) : j ∈ evIx gs ↔ gev gs[j] ≠ 0 := by
  simp [evIx, h]
theorem evIx_lt {gs : List Gd} {j : Nat} (h : j < (evIx gs).length) : (evIx gs)[j] < gs.length := by
  have := List.getElem_mem h
  simp only [evIx, List.mem_filter, List.mem_range] at this
  exact this.1
theorem evIx_ne {gs : List Gd} {j : Nat} (h : j < (evIx gs).length) : gev (gs[(evIx gs)[j]]'(evIx_lt h)) ≠ 0 := (evIx_mem (evIx_lt h)).mp (List.getElem_mem h)
theorem evIx_up {gs : List Gd} {i j : Nat} (hij : i < j) (h : j < (evIx gs).length) : (evIx gs)[i]'(by omega) < (evIx gs)[j] := by
  have : (evIx gs).Pairwise (· < ·) := List.Pairwise.filter _ List.pairwise_lt_range
  exact List.pairwise_iff_getElem.mp this i j (by omega) h hij
theorem evs_gets {gs : List Gd} {j : Nat} (h : j < (evIx gs).length) : ((evs gs).flatMap encEv)[j * 2]? = some (.int .u8 (gev (gs[(evIx gs)[j]]'(evIx_lt h)))) ∧ ((evs gs).flatMap encEv)[j * 2 + 1]? = some (.int .i64 ((evIx gs)[j] : Nat)) := by
  have h2 : j < (evs gs).length := by rw [evs_len]; exact h
  have e : (evs gs)[j] = (gev (gs[(evIx gs)[j]]'(evIx_lt h)), (evIx gs)[j]) := by
    simp only [evs_ix, List.getElem_map]
    have := evIx_lt h
    simp [this]
  have g0 := rows_get encEv (w := 2) (fun _ => rfl) h2 (j := 0) (by omega)
  have g1 := rows_get encEv (w := 2) (fun _ => rfl) h2 (j := 1) (by omega)
  rw [e] at g0 g1
  exact ⟨g0, g1⟩
def u8s (l : List Int) : List AV := l.map (AV.int .u8)
theorem u8s_len (l : List Int) : (u8s l).length = l.length := by simp [u8s]
theorem u8s_get {l : List Int} {i : Nat} (h : i < l.length) : (u8s l)[i]? = some (.int .u8 l[i]) := by simp [u8s, h]
theorem u8s_set (l : List Int) (i : Nat) (v : Int) : (u8s l).set i (.int .u8 v) = u8s (l.set i v) := by simp [u8s, List.map_set]
theorem zeros_u8s (n : Nat) : zeros [.int .u8 0] n = u8s (List.replicate n 0) := by
  induction n with
  | zero => rfl
  | succ n ih => rw [zeros, ih]; rfl
/-- Chip, grid, and what has come to pass. -/
structure ESt (st s : ASt) (ib ix p ig : Nat) (S : Soc) (gs : List Gd) (E : List Int) : Prop where
  w : WSt st s ib p ig S gs
  hx : s.h ix = some (.cells (u8s E))
  fx : st.h ix = none
  nx : ix ≠ ig
  np : ix ≠ p
  nb : ix ≠ ib
theorem ESt.set {st s : ASt} {ib ix p ig : Nat} {S : Soc} {gs gs' : List Gd} {E : List Int} (h : ESt st s ib ix p ig S gs E) (hl : gs'.length = gs.length) : ESt st (s.set ig (gsC gs')) ib ix p ig S gs' E :=
  ⟨h.w.set hl, by rw [ASt.set_h, if_neg h.nx]; exact h.hx, h.fx, h.nx, h.np, h.nb⟩
theorem ESt.put {st s : ASt} {ib ix p ig : Nat} {S : Soc} {gs : List Gd} {E : List Int} (h : ESt st s ib ix p ig S gs E) (E' : List Int) : ESt st (s.set ix (.cells (u8s E'))) ib ix p ig S gs E' :=
  ⟨⟨fun j o hj => by rw [ASt.set_h, if_neg (by rintro rfl; rw [h.fx] at hj; cases hj)]; exact h.w.le _ _ hj, by rw [ASt.set_h, if_neg (Ne.symm h.nb)]; exact h.w.hb,
    ⟨by rw [ASt.set_h, if_neg (Ne.symm h.np)]; exact h.w.g.hp, by rw [ASt.set_h, if_neg (Ne.symm h.nx)]; exact h.w.g.hg, h.w.g.ne, h.w.g.few⟩, h.w.fg, h.w.ne⟩,
   by rw [ASt.set_h, if_pos rfl, h.hx]; rfl, h.fx, h.nx, h.np, h.nb⟩
end Go.Proofs.Ytgfpnfnjnakoaaa.Cn
