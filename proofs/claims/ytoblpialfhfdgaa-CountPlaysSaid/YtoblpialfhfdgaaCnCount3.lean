/- Count: what the laws have in hand. -/
import Derived.Test.YtoblpialfhfdgaaCnCount2
import Derived.Test.YtoblpialfhfdgaaCnChipT
set_option linter.unusedSimpArgs false
set_option linter.unusedVariables false
set_option linter.unusedSectionVars false
namespace Go.Proofs.Ytoblpialfhfdgaa.Cn
open Go Go.Proofs

/-- The graph of what devices need. -/
def Soc.need (S : Soc) : Gr := S.devs.map Dev.needs
theorem Soc.need_len (S : Soc) : S.need.length = S.devs.length := by simp [Soc.need]
theorem Soc.like.need_few {S : Soc} (h : S.like) : S.need.few := ⟨by rw [Soc.need_len]; have := h.nv; omega, fun r hr => by
  obtain ⟨c, hc, rfl⟩ := List.mem_map.mp hr
  obtain ⟨i, hi, rfl⟩ := List.getElem_of_mem hc
  have := (h.dev i hi).few; omega⟩
theorem Soc.like.need_right {S : Soc} (h : S.like) : Right S.need := (grErr_zero.mp h.devG).2
def Lim (f : Int → Int) : Prop := ∀ i, 0 ≤ f i ∧ f i ≤ 7
theorem Lim.zero : Lim fun _ => 0 := fun i => ⟨Int.le_refl 0, by show (0 : Int) ≤ 7; omega⟩
theorem Lim.get {N : Gr} {f : Int → Int} {sl : Bool} (h : Lim f) (i : Int) : Lim (getF N f sl i) := fun j => by
  unfold getF
  split
  · rename_i e
    unfold addF
    have := h j; have := h i
    split
    · unfold getE at e
      split at e
      · cases e
      · split at e
        · cases e
        · split at e
          · cases e
          · omega
    · exact h j
  · exact h j
theorem Lim.put {N : Gr} {f : Int → Int} {sl : Bool} (h : Lim f) (i : Int) : Lim (putF N f sl i) := fun j => by
  unfold putF
  split
  · rename_i e
    unfold addF
    have := h j; have := h i
    split
    · unfold putE at e
      split at e
      · cases e
      · split at e
        · cases e
        · split at e
          · cases e
          · omega
    · exact h j
  · exact h j
/-- What a law has in hand: a description, counts of it, all beside a heap. -/
structure CW (st s : ASt) (ib p m : Nat) (S : Soc) (f : Int → Int) (sl : Bool) : Prop where
  le : st.le s
  hb : s.h ib = some (.cells S.cells)
  c : CAt s p m S.need f sl
  fp : st.h p = none
  fm : st.h m = none
  np : ib ≠ p
  nm : ib ≠ m
  lim : Lim f
theorem CW.move {st s t : ASt} {ib p m : Nat} {S : Soc} {f f' : Int → Int} {sl sl' : Bool} (h : CW st s ib p m S f sl) (hC : CAt t p m S.need f' sl') (hM : Moved p m s t) (hl : Lim f') : CW st t ib p m S f' sl' :=
  ⟨fun j o hj => by
    rw [hM j (by rintro rfl; rw [h.fp] at hj; cases hj) (by rintro rfl; rw [h.fm] at hj; cases hj)]; exact h.le _ _ hj,
   by rw [hM _ h.np h.nm]; exact h.hb, hC, h.fp, h.fm, h.np, h.nm, hl⟩
theorem CW.step {st s t : ASt} {ib p m : Nat} {S : Soc} {f : Int → Int} {sl : Bool} (h : CW st s ib p m S f sl) (hl : s.le t) : CW st t ib p m S f sl :=
  ⟨h.le.trans hl, hl _ _ h.hb, h.c.le hl, h.fp, h.fm, h.np, h.nm, h.lim⟩
theorem cstart_spec {st : ASt} {ib : Nat} {S : Soc} (hib : st.h ib = none) (h : S.like) :
    ACalls Try.prog F.q81 [.agg S.cells] (st.new ib (.cells S.cells)) fun r s => ∃ p m, r = .tup [.ptr p 0, .int .i64 0] ∧ CW st s ib p m S (fun _ => 0) false := by
  refine (cnew_spec h.fine h.right (by have := h.nv; omega) (fun c hc => ?_)).mono ?_
  · obtain ⟨i, hi, rfl⟩ := List.getElem_of_mem hc
    have := (h.dev i hi).few; omega
  rintro r s ⟨p, m, rfl, hC, hp, hm, hle2⟩
  have hself := ASt.new_self (AObj.cells S.cells) hib
  rw [ASt.new_none] at hp hm
  exact ⟨p, m, rfl, (ASt.le.new st ib _).trans hle2, hle2 _ _ hself, hC, hp.1, hm.1, fun e => hp.2 e.symm, fun e => hm.2 e.symm, Lim.zero⟩
theorem act_spec {st s : ASt} {ib p m : Nat} {S : Soc} {f : Int → Int} {sl : Bool} (hS : S.like) (h : CW st s ib p m S f sl) :
    ACalls Try.prog F.q72 [.ptr p 0] s fun r t => r = brow (useL S.need f sl) ∧ t = s :=
  active_spec h.c hS.devG hS.need_few (by rw [Soc.need_len]; have := hS.nv; omega)
theorem useL_get {N : Gr} {f : Int → Int} {i : Nat} (hi : i < (useL N f false).length) : (useL N f false)[i] = useTo N f N.length i := by
  simp [useL]
/-- Who is in use, was got, or is needed by one that is. -/
theorem use_step {N : Gr} {f : Int → Int} {i : Nat} (hR : Right N) (hi : i < N.length) : useTo N f N.length i = true ↔ 0 < f (i : Int) ∨ ∃ d, d < N.length ∧ i ∈ deps N d ∧ useTo N f N.length d = true := by
  constructor
  · intro h
    obtain ⟨d, h1, h2, h3⟩ := useTo_iff.mp h
    rcases h3 with rfl | h3
    · exact .inl h2
    · obtain ⟨b, hb, hd⟩ := h3.last
      exact .inr ⟨b, deps_of hd, hd, useTo_iff.mpr ⟨d, h1, h2, hb⟩⟩
  · rintro (h | ⟨d, h1, h2, h3⟩)
    · exact useTo_iff.mpr ⟨i, hi, h, .inl rfl⟩
    · obtain ⟨e, e1, e2, e3⟩ := useTo_iff.mp h3
      refine useTo_iff.mpr ⟨e, e1, e2, .inr ?_⟩
      rcases e3 with rfl | e3
      · exact .one h2
      · exact e3.snoc h2
theorem dev_needs_get {S : Soc} {j : Nat} (hj : j < S.devs.length) : (S.devs.flatMap Dev.cells)[j * 6 + 5]? = some (row S.devs[j].needs) :=
  rows_get Dev.cells (w := 6) (fun _ => rfl) hj (j := 5) (by omega)
theorem need_at {S : Soc} {j : Nat} (hj : j < S.need.length) : S.need[j] = (S.devs[j]'(by rw [← Soc.need_len]; exact hj)).needs := by simp [Soc.need]
theorem cpairs_get : ∀ (l : List Pair) {i : Nat} (h : i < l.length), (l.flatMap encPair)[i * 2]? = some (.int .i64 l[i].a) ∧ (l.flatMap encPair)[i * 2 + 1]? = some (.int .i64 l[i].b)
  | [], i, h => by simp at h
  | p :: l, 0, h => ⟨rfl, rfl⟩
  | p :: l, i + 1, h => by
    have := cpairs_get l (i := i) (by simpa using h)
    rw [List.flatMap_cons, show (i + 1) * 2 = i * 2 + 1 + 1 by omega]
    exact this
end Go.Proofs.Ytoblpialfhfdgaa.Cn
