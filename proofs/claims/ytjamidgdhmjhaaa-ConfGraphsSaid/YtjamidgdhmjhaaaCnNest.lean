/- The abstract layer, part 22: a slice of slices of integers, each in a block of its own; those of which nobody may append are values. No conditions. -/
import Derived.Test.YtjamidgdhmjhaaaCnRead
set_option linter.unusedSimpArgs false
set_option linter.unusedVariables false
namespace Go.Proofs.Ytjamidgdhmjhaaa.Cn
open Go Go.RowKit

def row (l : List Int) : AV := .isl 1 (ints l) l.length
/-- A graph that never changes. -/
def gval (g : List (List Int)) : AV := .isl 1 (g.map row) g.length

theorem row_pure (l : List Int) : (row l).Pure := .isl _ _ _ (ints_pure l)
theorem rows_pure (g : List (List Int)) (i : Nat) (hi : i < (g.map row).length) : (g.map row)[i].Pure := by
  simp only [List.getElem_map]; exact row_pure _

/-- A row: nil, a value, or a block's. -/
inductive RowAt (st : ASt) : AV → List Int → Option Nat → Prop
  | nils : RowAt st .nils [] none
  | val (l : List Int) : RowAt st (row l) l none
  | own (b : Nat) (l : List Int) (h : st.h b = some (.cells (ints l))) : RowAt st (.sl 1 b 0 l.length) l (some b)

theorem RowAt.le {st st' : ASt} {v : AV} {l : List Int} {b : Option Nat} (h : RowAt st v l b) (hb : ∀ x, b = some x → st'.h x = st.h x) : RowAt st' v l b := by
  cases h with
  | nils => exact .nils
  | val l => exact .val l
  | own b l h => exact .own b l (by rw [hb b rfl]; exact h)

/-- Slices in a block, each row a block's of its own, nil or a value; all else is as in a heap that stays. -/
structure Nest (base st : ASt) (id : Nat) (fz : Nat → Bool) (g : List (List Int)) : Prop where
  ex : ∃ (vs : List AV) (f : Nat → Option Nat), st.h id = some (.cells vs) ∧ vs.length = g.length ∧ (∀ i (h : i < g.length) (h' : i < vs.length), RowAt st vs[i] g[i] (f i) ∧ (fz i = false → g[i] ≠ [] → f i ≠ none) ∧ (fz i = false → g[i] = [] → vs[i] = .nils ∨ f i ≠ none)) ∧
    (∀ i j b, i < g.length → j < g.length → f i = some b → f j = some b → i = j) ∧ (∀ i b, i < g.length → f i = some b → b ≠ id ∧ base.h b = none)
  le : base.le st
  idn : base.h id = none

theorem nest_nils {base st : ASt} {id n : Nat} (h : st.h id = some (.cells (List.replicate n .nils))) (hl : base.le st) (hn : base.h id = none) (fz : Nat → Bool) : Nest base st id fz (List.replicate n []) :=
  ⟨⟨List.replicate n .nils, fun _ => none, h, by simp, fun i h h' => ⟨by rw [List.getElem_replicate, List.getElem_replicate]; exact .nils, fun _ e => absurd (List.getElem_replicate ..) e, fun _ _ => .inl (List.getElem_replicate ..)⟩, (fun i j b _ _ e _ => by cases e), (fun i b _ e => by cases e)⟩, hl, hn⟩

theorem Nest.rebase {base st base' st' : ASt} {id : Nat} {fz : Nat → Bool} {g : List (List Int)} (h : Nest base st id fz g) (hk : ∀ b, base.h b = none → st.h b ≠ none → st'.h b = st.h b ∧ base'.h b = none) (hle : base'.le st') : Nest base' st' id fz g := by
  obtain ⟨⟨vs, f, h1, h2, h3, h4, h5⟩, hl, hidn⟩ := h
  obtain ⟨k1, k2⟩ := hk id hidn (by rw [h1]; simp)
  have hrow : ∀ i b, i < g.length → f i = some b → st.h b ≠ none := by
    intro i b hi hb
    obtain ⟨q1, _⟩ := h3 i hi (by omega)
    generalize vs[i]'(by omega) = v at q1
    generalize g[i] = l at q1
    rw [hb] at q1
    cases q1 with
    | own _ _ hbl => rw [hbl]; simp
  refine ⟨⟨vs, f, by rw [k1]; exact h1, h2, fun i hi hi' => ?_, h4, fun i b hi hb => ⟨(h5 i b hi hb).1, (hk b (h5 i b hi hb).2 (hrow i b hi hb)).2⟩⟩, hle, k2⟩
  obtain ⟨q1, q2, q3⟩ := h3 i hi hi'
  exact ⟨q1.le fun x hx => (hk x (h5 i x hi hx).2 (hrow i x hi hx)).1, q2, q3⟩

/-- What a row reads. -/
theorem Nest.shows {base st : ASt} {id : Nat} {fz : Nat → Bool} {g : List (List Int)} (h : Nest base st id fz g) {j : Nat} (hj : j < g.length) (hf : fz j = false) :
    ∃ vs v, st.h id = some (.cells vs) ∧ vs.length = g.length ∧ vs[j]? = some v ∧ Shows st 1 v g[j].length (ints g[j]) ∧
      ∀ i2 st2 x, (st.without v).h i2 = none → (st.without v).le st2 → st2.h i2 = some (.cells (ints (g[j] ++ [x]))) →
        st2.h id = some (.cells vs) ∧ Nest base (st2.set id (.cells (vs.set j (.sl 1 i2 0 (g[j].length + 1))))) id fz (g.set j (g[j] ++ [x])) := by
  obtain ⟨⟨vs, f, h1, h2, h3, h4, h5⟩, hle, hidn⟩ := h
  have hj' : j < vs.length := by omega
  obtain ⟨hr, hr2, hr3⟩ := h3 j hj hj'
  have hsh : Shows st 1 vs[j] g[j].length (ints g[j]) ∧ ∀ b, f j = some b → vs[j] = .sl 1 b 0 g[j].length := by
    generalize hv : vs[j] = v at hr hr3
    generalize hl : g[j] = l at hr hr2 hr3
    generalize hfj : f j = b at hr hr2 hr3
    cases hr with
    | nils => exact ⟨Shows.nils _ _, fun b e => by cases e⟩
    | val =>
      by_cases e : l = []
      · rcases hr3 hf e with h | h
        · cases h
        · exact absurd rfl h
      · exact absurd rfl (hr2 hf e)
    | own b _ hb => exact ⟨⟨by simp [ints_length], .inr ⟨b, rfl, hb⟩⟩, fun b' e => by cases e; rfl⟩
  refine ⟨vs, vs[j], h1, h2, List.getElem?_eq_getElem hj', hsh.1, ?_⟩
  intro i2 st2 x hi2 hl2 hc2
  -- the row's block is none of the others
  have hwo : ∀ i, (∀ b, f j = some b → i ≠ b) → (st.without vs[j]).h i = st.h i := by
    intro i hi
    rcases hsh.1.2 with ⟨_, e⟩ | ⟨b, e, hb⟩
    · rw [e]; rfl
    · rw [e]
      show (st.kill b).h i = _
      rw [ASt.kill_h]
      by_cases hfb : f j = none
      · -- a row with no block of its own does not read so
        generalize hv : vs[j] = v at hr e
        generalize hl : g[j] = l at hr e
        rw [hfb] at hr
        cases hr <;> cases e
      · cases hfj : f j with
        | none => exact absurd hfj hfb
        | some b' =>
          have := hsh.2 b' hfj
          rw [e] at this
          cases this
          rw [if_neg (hi b hfj)]
  have hid : (st.without vs[j]).h id = some (.cells vs) := by
    rw [hwo id (fun b hb => (h5 j b hj hb).1.symm)]; exact h1
  have hne : i2 ≠ id := by rintro rfl; rw [hid] at hi2; cases hi2
  have hid2 := hl2 _ _ hid
  refine ⟨hid2, ⟨⟨vs.set j (.sl 1 i2 0 (g[j].length + 1)), fun i => if i = j then some i2 else f i, ?_, by simp [h2], ?_, ?_, ?_⟩, ?_, hidn⟩⟩
  · rw [ASt.set_h, if_pos rfl, hid2]; rfl
  · intro i hi hi'
    simp only [List.length_set] at hi hi'
    by_cases e : i = j
    · subst e
      simp only [List.getElem_set_self, if_true]
      refine ⟨?_, fun _ _ => by simp, fun _ _ => .inr (by simp)⟩
      have := RowAt.own (st := st2.set id (.cells (vs.set i (.sl 1 i2 0 (g[i].length + 1))))) i2 (g[i] ++ [x]) (by rw [ASt.set_h, if_neg hne]; exact hc2)
      simpa using this
    · simp only [List.getElem_set_ne (Ne.symm e), if_neg e]
      obtain ⟨q1, q2, q3⟩ := h3 i hi hi'
      refine ⟨?_, q2, q3⟩
      have hb : ∀ b, f i = some b → (st2.set id (.cells (vs.set j (.sl 1 i2 0 (g[j].length + 1))))).h b = st.h b := by
        intro b hb
        have hbi := (h5 i b hi hb).1
        rw [ASt.set_h, if_neg hbi]
        generalize vs[i] = v at q1
        generalize g[i] = l at q1
        rw [hb] at q1
        cases q1 with
        | own _ _ hbl =>
          rw [hbl]
          refine hl2 _ _ ?_
          rw [hwo b (fun b' hb' e' => by subst e'; exact e (h4 i j b hi hj hb hb'))]
          exact hbl
      exact q1.le hb
  · intro i k b hi hk e1 e2
    simp only [List.length_set] at hi hk
    have hb2 : ∀ m, m < g.length → f m = some i2 → m ≠ j → False := by
      intro m hm hfm hmj
      obtain ⟨q1, _⟩ := h3 m hm (by omega)
      generalize vs[m] = v at q1
      generalize g[m] = l at q1
      rw [hfm] at q1
      cases q1 with
      | own _ _ hbl =>
        rw [hwo i2 (fun b' hb' e' => by subst e'; exact hmj (h4 m j _ hm hj hfm hb'))] at hi2
        rw [hi2] at hbl; cases hbl
    by_cases ei : i = j
    · by_cases ek : k = j
      · rw [ei, ek]
      · simp only [if_pos ei, if_neg ek] at e1 e2
        cases e1
        exact (hb2 k hk e2 ek).elim
    · by_cases ek : k = j
      · simp only [if_neg ei, if_pos ek] at e1 e2
        cases e2
        exact (hb2 i hi e1 ei).elim
      · simp only [if_neg ei, if_neg ek] at e1 e2
        exact h4 i k b hi hk e1 e2
  · intro i b hi hb
    simp only [List.length_set] at hi
    by_cases ei : i = j
    · simp only [if_pos ei] at hb
      cases hb
      refine ⟨hne, ?_⟩
      cases hbase : base.h i2 with
      | none => rfl
      | some o =>
        have h6 := hle _ _ hbase
        by_cases hx : ∃ b', f j = some b' ∧ i2 = b'
        · obtain ⟨b', hb', rfl⟩ := hx
          rw [(h5 j _ hj hb').2] at hbase; cases hbase
        · rw [hwo i2 (fun b' hb' e' => hx ⟨b', hb', e'⟩), h6] at hi2; cases hi2
    · simp only [if_neg ei] at hb
      exact h5 i b hi hb
  · intro i o ho
    have hni : i ≠ id := by rintro rfl; rw [hidn] at ho; cases ho
    rw [ASt.set_h, if_neg hni]
    refine hl2 _ _ ?_
    rw [hwo i (fun b hb e => by subst e; rw [(h5 j _ hj hb).2] at ho; cases ho)]
    exact hle _ _ ho

/-- A row of which nobody appends becomes a value. -/
theorem Nest.put {base st : ASt} {id : Nat} {fz : Nat → Bool} {g : List (List Int)} (h : Nest base st id fz g) {j : Nat} (hj : j < g.length) (hf : fz j = true) :
    ∃ vs, st.h id = some (.cells vs) ∧ vs.length = g.length ∧ ∀ l, Nest base (st.set id (.cells (vs.set j (row l)))) id fz (g.set j l) := by
  obtain ⟨⟨vs, f, h1, h2, h3, h4, h5⟩, hle, hidn⟩ := h
  refine ⟨vs, h1, h2, fun l => ⟨⟨vs.set j (row l), fun i => if i = j then none else f i, by rw [ASt.set_h, if_pos rfl, h1]; rfl, by simp [h2], fun i hi hi' => ?_, fun i k b hi hk e1 e2 => ?_, fun i b hi hb => ?_⟩, fun i o ho => ?_, hidn⟩⟩
  · have hi2 : i < g.length := by simpa using hi
    by_cases e : i = j
    · subst e
      simp only [List.getElem_set_self, if_true]
      exact ⟨.val _, fun x => by rw [hf] at x; (cases x), fun x => by rw [hf] at x; (cases x)⟩
    · simp only [List.getElem_set_ne (Ne.symm e), if_neg e]
      obtain ⟨q1, q2, q3⟩ := h3 i hi2 (by simpa using hi')
      refine ⟨q1.le fun x hx => ?_, q2, q3⟩
      rw [ASt.set_h, if_neg (h5 i x hi2 hx).1]
  · simp only [List.length_set] at hi hk
    by_cases ei : i = j
    · simp only [if_pos ei] at e1; cases e1
    · by_cases ek : k = j
      · simp only [if_pos ek] at e2; cases e2
      · simp only [if_neg ei, if_neg ek] at e1 e2
        exact h4 i k b hi hk e1 e2
  · simp only [List.length_set] at hi
    by_cases ei : i = j
    · simp only [if_pos ei] at hb; cases hb
    · simp only [if_neg ei] at hb
      exact h5 i b hi hb
  · rw [ASt.set_h, if_neg (by rintro rfl; rw [hidn] at ho; cases ho)]
    exact hle _ _ ho

/-- The rows are let go for good, one behind the other; the block of the slices is owned still. -/
theorem Nest.freeze {base : ASt} {id : Nat} {fz : Nat → Bool} {g : List (List Int)} : ∀ {st : ASt}, Nest base st id fz g → ∀ v, ∃ st1, Ghost v st v st1 ∧ base.le st1 ∧ st1.h id = some (.cells (g.map row)) := by
  intro st h v
  -- the first k rows are values
  have key : ∀ k, k ≤ g.length → ∃ st1, Ghost v st v st1 ∧ Nest base st1 id (fun i => fz i || decide (i < k)) g ∧ ∀ vs, st1.h id = some (.cells vs) → ∀ i (h : i < vs.length) (h' : i < g.length), i < k → vs[i] = row g[i] := by
    intro k
    induction k with
    | zero =>
      intro _
      refine ⟨st, Ghost.refl _ _, ?_, fun vs _ i _ _ hi => absurd hi (by omega)⟩
      simpa using h
    | succ k ih =>
      intro hk
      obtain ⟨st1, hg, hn, hr⟩ := ih (by omega)
      obtain ⟨⟨vs, f, h1, h2, h3, h4, h5⟩, hle, hidn⟩ := hn
      have hkg : k < g.length := by omega
      have hkv : k < vs.length := by omega
      obtain ⟨q1, q2, q3⟩ := h3 k hkg hkv
      have hset : ∀ i (h : i < (vs.set k (row g[k])).length) (h' : i < g.length), i < k + 1 → (vs.set k (row g[k]))[i] = row g[i] := by
        intro i hi hi' hik
        by_cases e : i = k
        · subst e; simp
        · rw [List.getElem_set_ne (Ne.symm e)]
          exact hr vs h1 i (by simpa using hi) hi' (by omega)
      -- when the k-th row has a block, it goes
      have fin : ∀ st2, Ghost v st1 v st2 → st2.h id = some (.cells (vs.set k (row g[k]))) → (∀ b, f k = some b → st2.h b = none) → (∀ i, i ≠ id → (∀ b, f k = some b → i ≠ b) → st2.h i = st1.h i) →
          ∃ st1, Ghost v st v st1 ∧ Nest base st1 id (fun i => fz i || decide (i < k + 1)) g ∧ ∀ vs, st1.h id = some (.cells vs) → ∀ i (h : i < vs.length) (h' : i < g.length), i < k + 1 → vs[i] = row g[i] := by
        intro st2 g2 a1 a2 a3
        refine ⟨st2, hg.trans g2, ⟨⟨_, fun i => if i = k then none else f i, a1, by simp [h2], ?_, ?_, ?_⟩, ?_, hidn⟩, ?_⟩
        · intro i hi hi'
          by_cases e : i = k
          · subst e
            simp only [List.getElem_set_self, if_true]
            exact ⟨.val _, fun x => by simp at x, fun x => by simp at x⟩
          · simp only [List.getElem_set_ne (Ne.symm e), if_neg e]
            obtain ⟨r1, r2, r3⟩ := h3 i hi (by simpa using hi')
            refine ⟨r1.le fun x hx => a3 x (h5 i x hi hx).1 (fun b hb e' => ?_), fun x => r2 (by simp at x ⊢; exact ⟨x.1, by omega⟩), fun x => r3 (by simp at x ⊢; exact ⟨x.1, by omega⟩)⟩
            subst e'
            exact e (h4 i k _ hi hkg hx hb)
        · intro i j b hi hj e1 e2
          by_cases ei : i = k
          · simp only [if_pos ei] at e1; cases e1
          · by_cases ej : j = k
            · simp only [if_pos ej] at e2; cases e2
            · simp only [if_neg ei, if_neg ej] at e1 e2
              exact h4 i j b hi hj e1 e2
        · intro i b hi hb
          by_cases ei : i = k
          · simp only [if_pos ei] at hb; cases hb
          · simp only [if_neg ei] at hb
            exact h5 i b hi hb
        · intro i o ho
          rw [a3 i (by rintro rfl; rw [hidn] at ho; cases ho) (fun b hb e => by subst e; rw [(h5 k _ hkg hb).2] at ho; cases ho)]
          exact hle _ _ ho
        · intro vs' hvs'
          rw [a1] at hvs'
          cases hvs'
          exact hset
      have hsame : vs[k] = row g[k] → f k = none → ∃ st1, Ghost v st v st1 ∧ Nest base st1 id (fun i => fz i || decide (i < k + 1)) g ∧ ∀ vs, st1.h id = some (.cells vs) → ∀ i (h : i < vs.length) (h' : i < g.length), i < k + 1 → vs[i] = row g[i] := by
        intro e ef
        refine fin st1 (Ghost.refl _ _) ?_ (fun b hb => by rw [ef] at hb; cases hb) (fun _ _ _ => rfl)
        rw [← e, List.set_getElem_self]; exact h1
      generalize hvk : vs[k] = vk at q1
      generalize hgk : g[k] = l at q1
      generalize hfk : f k = fk at q1
      cases q1 with
      | val l => exact hsame (by rw [hvk, hgk]) hfk
      | nils =>
        refine fin (st1.set id (.cells (vs.set k (row g[k])))) ?_ ?_ (fun b hb => by rw [hfk] at hb; cases hb) (fun i hi _ => by rw [ASt.set_h, if_neg hi])
        · -- a nil is a row of no elements
          intro B w0 R wr C w rv s x
          refine ⟨C, .refl C, ?_, x⟩
          refine s.wrote h1 w _ rfl rfl rfl rfl (fun _ _ => rfl) ?_
          obtain ⟨a1, c, t, a2, a3, a4⟩ := s.obj id _ h1
          refine ⟨by simpa using a1, c, t, a2, a3, fun i hi => ?_⟩
          by_cases e : i = k
          · subst e
            have := a4 i hkv
            rw [hvk] at this
            simp only [List.getElem_set_self]
            rw [hgk]
            exact vs_nils_isl this 1 []
          · rw [List.getElem_set_ne (Ne.symm e)]
            exact a4 i (by simpa using hi)
        · rw [ASt.set_h, if_pos rfl, h1]; rfl
      | own b l hb =>
        have hbid : b ≠ id := (h5 k b hkg hfk).1
        refine fin ((st1.kill b).set id (.cells (vs.set k (row g[k])))) ?_ ?_ ?_ ?_
        · have := Ghost.cell (v := v) (j := k) (sz := 1) (len := l.length) h1 (by rw [List.getElem?_eq_getElem hkv, hvk]) hb hbid.symm
          rw [hgk]
          exact this
        · rw [ASt.set_h, if_pos rfl, ASt.kill_h, if_neg hbid.symm, h1]; rfl
        · intro b' hb'
          rw [hfk] at hb'; cases hb'
          rw [ASt.set_h, if_neg hbid, ASt.kill_h, if_pos rfl]
        · intro i hi hib
          rw [ASt.set_h, if_neg hi, ASt.kill_h, if_neg (hib b hfk)]
  obtain ⟨st1, hg, hn, hr⟩ := key g.length (Nat.le_refl _)
  obtain ⟨⟨vs, f, h1, h2, h3, h4, h5⟩, hle, hidn⟩ := hn
  refine ⟨st1, hg, hle, ?_⟩
  rw [h1]
  congr 2
  apply List.ext_getElem
  · simp [h2]
  · intro i hi hi'
    rw [hr vs h1 i hi (by simpa using hi') (by simpa using hi')]
    simp
end Go.Proofs.Ytjamidgdhmjhaaa.Cn
