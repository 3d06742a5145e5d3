/- The abstract layer, part 20: seeing a heap otherwise in mid-code; calls that only read; slices of slices. No conditions. -/
import Derived.Test.YtjamidgdhmjhaaaCnBase
set_option linter.unusedSimpArgs false
set_option linter.unusedVariables false
namespace Go.Proofs.Ytjamidgdhmjhaaa.Cn
open Go Go.RowKit

theorem FGhost.refl (fr : AFr) (st : ASt) : FGhost fr st fr st := fun _ _ _ _ C _ s => ⟨C, .refl C, s, fun _ _ h => h⟩
theorem FGhost.trans {fr fr1 fr2 : AFr} {st st1 st2 : ASt} (h : FGhost fr st fr1 st1) (k : FGhost fr1 st1 fr2 st2) : FGhost fr st fr2 st2 := fun B w0 R wr C w s => by
  obtain ⟨C1, h1, s1, x1⟩ := h B w0 R wr C w s
  obtain ⟨C2, h2, s2, x2⟩ := k B w0 R wr C1 w s1
  exact ⟨C2, h1.trans h2, s2, fun i v hv => x2 i v (x1 i v hv)⟩
theorem FGhost.sub (fr : AFr) {st st1 : ASt} (h : st1.le st) : FGhost fr st fr st1 := fun _ _ _ _ C _ s => ⟨C, .refl C, s.sub h, fun _ _ h => h⟩

theorem awp_ghost {P : Program} {c : ICode} {Q : IExit → AFr → ASt → Prop} {fr fr1 : AFr} {st st1 : ASt} (h : FGhost fr st fr1 st1) (k : awp P c Q fr1 st1) : awp P (.ghost c) Q fr st := ⟨fr1, st1, h, k⟩

/-- What is seen otherwise whatever is spoken of. -/
theorem FGhost.ofAny {st st1 : ASt} (h : Ghost .any st .any st1) (fr : AFr) : FGhost fr st fr st1 := fun B w0 R wr C w s => by
  obtain ⟨C', h1, h2, _⟩ := h B w0 R wr C w undef s (.any _)
  exact ⟨C', h1, h2, fun i v hv => hv.mono h1⟩

/-- A value that may speak of a block, seen when that block never changes any more. -/
inductive FrzV (id : Nat) (cm : List AV) : AV → AV → Prop
  | same (v : AV) : FrzV id cm v v
  | sl (sz off n : Nat) : FrzV id cm (.sl sz id off n) (.isl sz (cm.drop off) n)
  | ptr (off : Nat) : FrzV id cm (.ptr id off) (.iptr cm off)
  | nils (sz : Nat) : FrzV id cm .nils (.isl sz [] 0)
  | agg (cs cs1 : List AV) (h : cs1.length = cs.length) (hv : ∀ i (h : i < cs.length) (h' : i < cs1.length), FrzV id cm cs[i] cs1[i]) : FrzV id cm (.agg cs) (.agg cs1)
  | tup (cs cs1 : List AV) (h : cs1.length = cs.length) (hv : ∀ i (h : i < cs.length) (h' : i < cs1.length), FrzV id cm cs[i] cs1[i]) : FrzV id cm (.tup cs) (.tup cs1)

def FrzO (id : Nat) (cm : List AV) : AObj → AObj → Prop
  | .cells cs, .cells cs1 => cs1.length = cs.length ∧ ∀ i (h : i < cs.length) (h' : i < cs1.length), FrzV id cm cs[i] cs1[i]
  | o, o1 => o = o1

theorem FrzO.refl (id : Nat) (cm : List AV) (o : AObj) : FrzO id cm o o := by
  cases o with
  | cells cs => exact ⟨rfl, fun i _ _ => .same _⟩
  | map es => rfl

theorem vs_nils_isl {C : ACx} {v : Value} (h : VS C .nils v) (sz : Nat) (cs : List AV) : VS C (.isl sz cs 0) v := by
  cases h
  exact .isl _ _ _ 0 0 _ _ (fun e => absurd rfl e) (fun _ => rfl) (fun _ => undef) (fun e => absurd rfl e) (fun e => absurd rfl e) (Nat.le_refl _)

theorem FrzV.vs {C C' : ACx} {id : Nat} {cm : List AV} (hC : C.le C') (hs : ∀ sz off n rv, VS C (.sl sz id off n) rv → VS C' (.isl sz (cm.drop off) n) rv) (hp : ∀ off rv, VS C (.ptr id off) rv → VS C' (.iptr cm off) rv) :
    ∀ {a a1 : AV}, FrzV id cm a a1 → ∀ {v : Value}, VS C a v → VS C' a1 v := by
  intro a a1 h
  induction h with
  | same v => exact fun x => x.mono hC
  | sl sz off n => exact fun x => hs _ _ _ _ x
  | ptr off => exact fun x => hp _ _ x
  | nils sz => exact fun x => vs_nils_isl (x.mono hC) sz []
  | agg cs cs1 hl hv ih =>
    intro v x
    cases x with
    | agg _ vs hvl hvv =>
      refine .agg cs1 vs (by omega) fun i hi => ih i (by omega) hi (hvv i (by omega))
  | tup cs cs1 hl hv ih =>
    intro v x
    cases x with
    | tup _ vs hvl hvv =>
      refine .tup cs1 vs (by omega) fun i hi => ih i (by omega) hi (hvv i (by omega))

/-- A block is let go for good, wherever it is spoken of. -/
theorem ASim.frozen {B : Nat} {w0 : World} {R : Nat → Prop} {wr : World} {C : ACx} {st : ASt} {w : World} (s : ASim B w0 R wr C st w) {id : Nat} {cm : List AV} (h : st.h id = some (.cells cm)) {st1 : ASt}
    (hst : ∀ j o1, st1.h j = some o1 → j ≠ id ∧ ∃ o, st.h j = some o ∧ FrzO id cm o o1) :
    ∃ C', C.le C' ∧ ASim B w0 R wr C' st1 w ∧ ∀ a a1 v, FrzV id cm a a1 → VS C a v → VS C' a1 v := by
  obtain ⟨hl, c, t, hw, hs, hv⟩ := s.obj id _ h
  have hidl : st.h id ≠ none := by rw [h]; simp
  let C' : ACx := { C with K := fun b o => if b = (C.φ id).1 ∧ (C.φ id).2 ≤ o ∧ o < (C.φ id).2 + cm.length then some (c.getD o undef) else C.K b o }
  have hCle : C.le C' := ⟨Nat.le_refl _, fun _ _ => rfl, fun _ _ => rfl, fun b o v hk => by
    have : C'.K b o = C.K b o := by
      show (if b = (C.φ id).1 ∧ (C.φ id).2 ≤ o ∧ o < (C.φ id).2 + cm.length then some (c.getD o undef) else C.K b o) = _
      rw [if_neg]
      rintro ⟨rfl, _⟩
      exact (s.imm _ o v hk).2.2 id hidl rfl
    rw [this]; exact hk⟩
  have hK : ∀ i, i < cm.length → C'.K (C.φ id).1 ((C.φ id).2 + i) = some (c.getD ((C.φ id).2 + i) undef) := by
    intro i hi
    show (if _ ∧ _ then _ else _) = _
    rw [if_pos ⟨rfl, by omega, by omega⟩]
  have hconv : ∀ a a1 v, FrzV id cm a a1 → VS C a v → VS C' a1 v := by
    intro a a1 v hz hx
    refine hz.vs hCle ?_ ?_ hx
    · intro sz off n rv hx
      obtain ⟨off', cap, rfl, hid, hcc, ho', hb⟩ := hx.sl_inv
      by_cases h0 : n = 0
      · subst h0
        exact .isl _ _ _ 0 0 _ _ (fun e => absurd rfl e) (fun e => by cases e) (fun _ => undef) (fun e => absurd rfl e) (fun e => absurd rfl e) hcc
      · have : off' = off := ho'.resolve_left h0
        subst this
        refine .isl _ _ _ _ _ _ _ (fun _ => rfl) (fun e => by cases e) (fun i => c.getD ((C.φ id).2 + (off' + i)) undef) (fun _ i hi => ?_) (fun _ i hi => ?_) hcc
        · simp at hi
          have := hK (off' + i) (by omega)
          rwa [← Nat.add_assoc] at this ⊢
        · simp at hi
          have := (hv (off' + i) (by omega)).mono hCle
          simpa using this
    · intro off rv hx
      cases hx with
      | ptr _ _ hid => exact .iptr cm off _ _ (fun i => c.getD ((C.φ id).2 + i) undef) (fun i hi => hK i hi) (fun i hi => (hv i hi).mono hCle)
  have up : ∀ i, st1.h i ≠ none → i ≠ id ∧ st.h i ≠ none := by
    intro i hi
    cases hx : st1.h i with
    | none => exact absurd hx hi
    | some o =>
      obtain ⟨e, o', ho', _⟩ := hst i o hx
      exact ⟨e, by rw [ho']; simp⟩
  refine ⟨C', hCle, ?_, hconv⟩
  exact
  { live := fun i hi => s.live i (up i hi).2
    below := s.below
    hB := s.hB
    inj := fun i j hi hj e => s.inj i j (up i hi).2 (up j hj).2 e
    lo := fun i hi => s.lo i (up i hi).2
    obj := fun i o1 ho1 => by
      obtain ⟨e, o, ho, hz⟩ := hst i o1 ho1
      have x := s.obj i o ho
      cases o with
      | cells cs =>
        cases o1 with
        | cells cs1 =>
          obtain ⟨z1, z2⟩ := hz
          obtain ⟨a1, c', t', a2, a3, a4⟩ := x
          exact ⟨by rw [z1]; exact a1, c', t', a2, a3, fun k hk => hconv _ _ _ (z2 k (by omega) hk) (a4 k (by omega))⟩
        | map es => cases hz
      | map es =>
        cases hz
        exact ObjSim.mono hCle (s.lt ho) x
    imm := fun b o v hk => by
      have hk' : (if b = (C.φ id).1 ∧ (C.φ id).2 ≤ o ∧ o < (C.φ id).2 + cm.length then some (c.getD o undef) else C.K b o) = some v := hk
      split at hk'
      · rename_i hc
        obtain ⟨rfl, h1, h2⟩ := hc
        cases hk'
        refine ⟨?_, fun hr => (s.res _ hr).2.2 id hidl rfl, fun i hi e => ?_⟩
        · have : o < c.size := by omega
          simp [World.cell?, hw, this]
        · obtain ⟨hne, hli⟩ := up i hi
          exact hne (s.inj i id hli hidl e)
      · obtain ⟨a1, a2, a3⟩ := s.imm b o v hk'
        exact ⟨a1, a2, fun i hi => a3 i (up i hi).2⟩
    res := fun b hb => by
      obtain ⟨a1, a2, a3⟩ := s.res b hb
      exact ⟨a1, a2, fun i hi => a3 i (up i hi).2⟩ }

theorem FGhost.freeze {fr fr1 : AFr} {st st1 : ASt} {id : Nat} {cm : List AV} (h : st.h id = some (.cells cm)) (hfr : ∀ i, FrzV id cm (fr.get i) (fr1.get i))
    (hst : ∀ j o1, st1.h j = some o1 → j ≠ id ∧ ∃ o, st.h j = some o ∧ FrzO id cm o o1) : FGhost fr st fr1 st1 := fun B w0 R wr C w s => by
  obtain ⟨C', h1, h2, h3⟩ := s.frozen h hst
  exact ⟨C', h1, h2, fun i v hv => h3 _ _ _ (hfr i) hv⟩

theorem Ghost.freezeV {v v1 : AV} {st st1 : ASt} {id : Nat} {cm : List AV} (h : st.h id = some (.cells cm)) (hv : FrzV id cm v v1)
    (hst : ∀ j o1, st1.h j = some o1 → j ≠ id ∧ ∃ o, st.h j = some o ∧ FrzO id cm o o1) : Ghost v st v1 st1 := fun B w0 R wr C w rv s x => by
  obtain ⟨C', h1, h2, h3⟩ := s.frozen h hst
  exact ⟨C', h1, h2, h3 _ _ _ hv x⟩

/-- Nil is a slice of no elements. -/
theorem Ghost.nils {st : ASt} (sz : Nat) : Ghost .nils st (.isl sz [] 0) st := fun B w0 R wr C w rv s x => ⟨C, .refl C, s, vs_nils_isl x sz []⟩

/-- A slice over a heap that stays is let go for good. -/
theorem Over.frz {base st : ASt} {sz : Nat} {v : AV} {n : Nat} {cs : List AV} (h : Over base st sz v n cs) : Ghost v st (.isl sz cs n) base := by
  obtain ⟨⟨h1, h2⟩, h3, h4⟩ := h
  rcases h2 with ⟨rfl, rfl⟩ | ⟨i, rfl, hi⟩
  · have : cs = [] := List.eq_nil_of_length_eq_zero (by simpa using h1)
    subst this
    exact (Ghost.nils sz).trans (Ghost.sub h3)
  · exact (Ghost.freeze hi).trans (Ghost.sub (h3.unkill (h4 _ _ _ _ rfl)))

theorem FrzV.cons2 {id : Nat} {cm : List AV} {a b a1 b1 : AV} (h : FrzV id cm a a1) (k : FrzV id cm b b1) : FrzV id cm (.tup [a, b]) (.tup [a1, b1]) :=
  .tup _ _ rfl fun i h1 h2 => by
    match i, h1 with
    | 0, _ => exact h
    | 1, _ => exact k

theorem Ghost.freezeIn {v v1 : AV} {st : ASt} {id : Nat} {cm : List AV} (h : st.h id = some (.cells cm)) (hv : FrzV id cm v v1) : Ghost v st v1 (st.kill id) :=
  Ghost.freezeV h hv fun j o1 ho => by
    rw [ASt.kill_h] at ho
    split at ho
    · cases ho
    · rename_i e; exact ⟨e, o1, ho, FrzO.refl _ _ _⟩

theorem Ghost.tupL {a a1 : AV} {st st1 : ASt} (h : Ghost a st a1 st1) (b : AV) : Ghost (.tup [a, b]) st (.tup [a1, b]) st1 := fun B w0 R wr C w rv s x => by
  cases x with
  | tup _ vs hl hv =>
    have h0 := hv 0 (by simp)
    have h1 := hv 1 (by simp)
    obtain ⟨C', q1, q2, q3⟩ := h B w0 R wr C w _ s h0
    refine ⟨C', q1, q2, .tup _ _ (by simpa using hl) fun i hi => ?_⟩
    match i, hi with
    | 0, _ => exact q3
    | 1, _ => exact h1.mono q1

/-- What is owned beside a heap that stays is not touched by what is done in that. -/
theorem Over.rebase {base st base' st' : ASt} {sz n : Nat} {v : AV} {cs : List AV} (h : Over base st sz v n cs) (hk : ∀ b, base.h b = none → st.h b ≠ none → st'.h b = st.h b ∧ base'.h b = none) (hle : base'.le st') : Over base' st' sz v n cs := by
  obtain ⟨⟨h1, h2⟩, h3, h4⟩ := h
  rcases h2 with h2 | ⟨i, rfl, hi⟩
  · obtain ⟨rfl, rfl⟩ := h2
    exact ⟨⟨h1, .inl ⟨rfl, rfl⟩⟩, hle, fun _ _ _ _ e => by cases e⟩
  · obtain ⟨a, b⟩ := hk i (h4 _ _ _ _ rfl) (by rw [hi]; simp)
    exact ⟨⟨h1, .inr ⟨i, rfl, by rw [a]; exact hi⟩⟩, hle, fun _ _ _ _ e => by cases e; exact b⟩

theorem ASt.new_set {st : ASt} {m : Nat} (hm : st.h m = none) (a b : AObj) : (st.new m a).set m b = st.new m b := ASt.ext' fun i => by
  rw [ASt.set_h]
  split
  · rename_i e; subst e; rw [ASt.new_self _ hm, ASt.new_self _ hm]; rfl
  · rename_i e; rw [ASt.new_ne _ e, ASt.new_ne _ e]

theorem ASt.le.newB {s t : ASt} (h : s.le t) {m : Nat} (hm : t.h m = none) (o : AObj) : (s.new m o).le (t.new m o) := fun i x hx => by
  rw [ASt.new_o] at hx ⊢
  cases hs : s.h i with
  | some y => rw [hs] at hx; rw [h _ _ hs]; exact hx
  | none =>
    rw [hs, Option.none_or] at hx
    split at hx
    · rename_i e; subst e; rw [hm, Option.none_or, if_pos rfl]; exact hx
    · cases hx

/-- A block of the heap that stays is written; a new one is made. -/
theorem keep_set {base st : ASt} {j : Nat} {o : AObj} (hj : base.h j ≠ none) : ∀ b, base.h b = none → st.h b ≠ none → (st.set j o).h b = st.h b ∧ (base.set j o).h b = none := fun b hb _ => by
  have : b ≠ j := by rintro rfl; exact hj hb
  rw [ASt.set_h, ASt.set_h, if_neg this, if_neg this]; exact ⟨rfl, hb⟩
theorem keep_new {base st : ASt} {m : Nat} {o : AObj} (hm : st.h m = none) : ∀ b, base.h b = none → st.h b ≠ none → (st.new m o).h b = st.h b ∧ (base.new m o).h b = none := fun b hb hs => by
  have : b ≠ m := by rintro rfl; exact hs hm
  rw [ASt.new_ne _ this, ASt.new_ne _ this]; exact ⟨rfl, hb⟩

/-- An argument that is a slice of no elements is nil, or not. -/
theorem ACalls.empty {P : Program} {f : Nat} {a b : List AV} {sz : Nat} {st : ASt} {Q : AV → ASt → Prop} (h1 : ACalls P f (a ++ .nils :: b) st Q) (h2 : ACalls P f (a ++ .nn :: b) st Q) : ACalls P f (a ++ .isl sz [] 0 :: b) st Q := by
  intro B w0 R wr C w vs s hs hv
  have hi : a.length < (a ++ AV.isl sz [] 0 :: b).length := by simp
  have hx := hv a.length hi
  rw [List.getElem_append_right (Nat.le_refl _)] at hx
  simp only [Nat.sub_self, List.getElem_cons_zero] at hx
  have rest : ∀ x : AV, VS C x (vs.getD a.length undef) → ∀ i (h : i < (a ++ x :: b).length), VS C (a ++ x :: b)[i] (vs.getD i undef) := by
    intro x hx i hi
    have hvi := hv i (by simpa using hi)
    rcases Nat.lt_trichotomy i a.length with h | h | h
    · rw [List.getElem_append_left h] at hvi ⊢; exact hvi
    · subst h
      rw [List.getElem_append_right (Nat.le_refl _)]
      simpa using hx
    · obtain ⟨k, rfl⟩ : ∃ k, i = a.length + (k + 1) := ⟨i - a.length - 1, by omega⟩
      rw [List.getElem_append_right (by omega)] at hvi ⊢
      simpa using hvi
  generalize hrv : vs.getD a.length undef = rv at hx rest
  cases hx with
  | isl _ _ _ b' o cap p hp hn hvs hK hvv hc =>
    cases p with
    | none =>
      have hcap := hn rfl
      subst hcap
      exact h1 B w0 R wr C w vs s (by simpa using hs) (rest _ .nils)
    | some p => exact h2 B w0 R wr C w vs s (by simpa using hs) (rest _ (.nn _ _))

end Go.Proofs.Ytjamidgdhmjhaaa.Cn
