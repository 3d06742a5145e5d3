/- The abstract layer: what is owned, whole: cells whose slices are blocks of their own, again and again, and what they show. No conditions. -/
import Derived.Test.YtjamidgdhmjhaaaCnNest
set_option linter.unusedSimpArgs false
set_option linter.unusedVariables false
namespace Go.Proofs.Ytjamidgdhmjhaaa.Cn
open Go Go.RowKit

def AV.scalar : AV → Bool
  | .int .. | .bool .. | .nilp | .nilm | .nilf | .str .. => true
  | _ => false
theorem AV.scalar.pure {v : AV} (h : v.scalar = true) : v.Pure := by
  cases v <;> first | (constructor; done) | (cases h; done)
theorem AV.scalar.leaf {v : AV} (h : v.scalar = true) : v.leaf = true := by
  cases v <;> first | rfl | (cases h; done)

/-- Cells, what they show when all slices are values, and which blocks they own. -/
inductive RepL (st : ASt) : List AV → List AV → List Nat → Prop
  | nil : RepL st [] [] []
  | one {v : AV} {vs cs : List AV} {L : List Nat} (h : v.scalar = true) (t : RepL st vs cs L) : RepL st (v :: vs) (v :: cs) L
  | nils {vs cs : List AV} {L : List Nat} (sz : Nat) (t : RepL st vs cs L) : RepL st (.nils :: vs) (.isl sz [] 0 :: cs) L
  | sl {sz id n : Nat} {vs cs ws ds : List AV} {L1 L2 : List Nat} (h : st.h id = some (.cells ws)) (r : RepL st ws ds L1) (h1 : id ∉ L1) (h2 : id ∉ L2) (hd : ∀ j ∈ L1, j ∉ L2) (t : RepL st vs cs L2) :
      RepL st (.sl sz id 0 n :: vs) (.isl sz ds n :: cs) (id :: (L1 ++ L2))

section
variable {st st' : ASt} {vs cs : List AV} {L : List Nat}

theorem RepL.len (h : RepL st vs cs L) : cs.length = vs.length := by
  induction h with
  | nil => rfl
  | one h t ih => simp [ih]
  | nils sz t ih => simp [ih]
  | sl h r h1 h2 hd t ih1 ih2 => simp [ih2]

theorem RepL.leaf (h : RepL st vs cs L) : allLeaf vs = true := by
  induction h with
  | nil => rfl
  | one h t ih => simp only [allLeaf, List.all_cons, AV.scalar.leaf h, Bool.true_and]; exact ih
  | nils sz t ih => simp only [allLeaf, List.all_cons, AV.leaf, Bool.true_and]; exact ih
  | sl h r h1 h2 hd t ih1 ih2 => simp only [allLeaf, List.all_cons, AV.leaf, Bool.true_and]; exact ih2

theorem RepL.pure (h : RepL st vs cs L) : ∀ i (hi : i < cs.length), cs[i].Pure := by
  induction h with
  | nil => intro i hi; simp at hi
  | one h t ih =>
    intro i hi
    cases i with
    | zero => exact AV.scalar.pure h
    | succ i => exact ih i (by simpa using hi)
  | nils sz t ih =>
    intro i hi
    cases i with
    | zero => exact .isl _ _ _ fun i hi => by simp at hi
    | succ i => exact ih i (by simpa using hi)
  | sl h r h1 h2 hd t ih1 ih2 =>
    intro i hi
    cases i with
    | zero => exact .isl _ _ _ ih1
    | succ i => exact ih2 i (by simpa using hi)

theorem RepL.live (h : RepL st vs cs L) : ∀ j ∈ L, st.h j ≠ none := by
  induction h with
  | nil => intro j hj; cases hj
  | one h t ih => exact ih
  | nils sz t ih => exact ih
  | sl h r h1 h2 hd t ih1 ih2 =>
    intro j hj
    rcases List.mem_cons.mp hj with rfl | hj
    · rw [h]; simp
    · rcases List.mem_append.mp hj with hj | hj
      · exact ih1 j hj
      · exact ih2 j hj

theorem RepL.off (h : RepL st vs cs L) (ho : ∀ j ∈ L, st'.h j = st.h j) : RepL st' vs cs L := by
  induction h with
  | nil => exact .nil
  | one h t ih => exact .one h (ih ho)
  | nils sz t ih => exact .nils sz (ih ho)
  | sl h r h1 h2 hd t ih1 ih2 =>
    refine .sl (by rw [ho _ (by simp)]; exact h) (ih1 fun j hj => ho j (by simp [hj])) h1 h2 hd (ih2 fun j hj => ho j (by simp [hj]))

theorem RepL.le (h : RepL st vs cs L) (hl : st.le st') : RepL st' vs cs L := h.off fun j hj => by
  cases e : st.h j with
  | none => exact absurd e (h.live j hj)
  | some o => exact hl _ _ e

theorem RepL.app {vs' cs' : List AV} {L' : List Nat} (h : RepL st vs cs L) (h' : RepL st vs' cs' L') (hd : ∀ j ∈ L, j ∉ L') : RepL st (vs ++ vs') (cs ++ cs') (L ++ L') := by
  induction h with
  | nil => exact h'
  | one h t ih => exact .one h (ih hd)
  | nils sz t ih => exact .nils sz (ih hd)
  | sl h r h1 h2 hd2 t ih1 ih2 =>
    have := ih2 fun j hj => hd j (by simp [hj])
    rw [List.cons_append, List.cons_append, List.cons_append, List.append_assoc]
    refine .sl h r h1 (fun hm => ?_) (fun j hj hm => ?_) this
    · rcases List.mem_append.mp hm with hm | hm
      · exact h2 hm
      · exact hd _ (by simp) hm
    · rcases List.mem_append.mp hm with hm | hm
      · exact hd2 j hj hm
      · exact hd j (by simp [hj]) hm

theorem RepL.split : ∀ {vs1 vs2 cs : List AV} {L : List Nat}, RepL st (vs1 ++ vs2) cs L → ∃ cs1 cs2 L1 L2, cs = cs1 ++ cs2 ∧ L = L1 ++ L2 ∧ RepL st vs1 cs1 L1 ∧ RepL st vs2 cs2 L2 ∧ ∀ j ∈ L1, j ∉ L2
  | [], vs2, cs, L, h => ⟨[], cs, [], L, rfl, rfl, .nil, h, fun j hj => by cases hj⟩
  | v :: vs1, vs2, cs, L, h => by
    rw [List.cons_append] at h
    cases h with
    | one h t =>
      obtain ⟨cs1, cs2, L1, L2, rfl, rfl, h1, h2, h3⟩ := RepL.split t
      exact ⟨v :: cs1, cs2, L1, L2, rfl, rfl, .one h h1, h2, h3⟩
    | nils sz t =>
      obtain ⟨cs1, cs2, L1, L2, rfl, rfl, h1, h2, h3⟩ := RepL.split t
      exact ⟨_ :: cs1, cs2, L1, L2, rfl, rfl, .nils sz h1, h2, h3⟩
    | @sl sz id n _ cs' ws ds K1 K2 h r hi1 hi2 hd t =>
      obtain ⟨cs1, cs2, L1, L2, rfl, rfl, h1, h2, h3⟩ := RepL.split t
      refine ⟨.isl sz ds n :: cs1, cs2, id :: (K1 ++ L1), L2, rfl, by simp, .sl h r hi1 (fun hm => hi2 (by simp [hm])) (fun j hj hm => hd j hj (by simp [hm])) h1, h2, fun j hj => ?_⟩
      rcases List.mem_cons.mp hj with rfl | hj
      · exact fun hm => hi2 (by simp [hm])
      · rcases List.mem_append.mp hj with hj | hj
        · exact fun hm => hd j hj (by simp [hm])
        · exact h3 j hj

/-- One cell: what it shows and owns, and what becomes of all when it is another. -/
theorem RepL.at (h : RepL st vs cs L) {i : Nat} (hi : i < vs.length) :
    ∃ c Li, cs[i]? = some c ∧ RepL st [vs[i]] [c] Li ∧ (∀ j ∈ Li, j ∈ L) ∧ ∀ st' v' c' L', RepL st' [v'] [c'] L' → (∀ j ∈ L', j ∈ Li ∨ j ∉ L) → (∀ j ∈ L, j ∉ Li → st'.h j = st.h j) →
      ∃ L'', RepL st' (vs.set i v') (cs.set i c') L'' ∧ (∀ j, j ∈ L'' ↔ (j ∈ L ∧ j ∉ Li) ∨ j ∈ L') := by
  have e : vs = vs.take i ++ ([vs[i]] ++ vs.drop (i + 1)) := by
    rw [List.singleton_append, List.getElem_cons_drop, List.take_append_drop]
  have h0 := h
  rw [e] at h0
  obtain ⟨c1, c2, K1, K2, hc, hL, r1, r2, d1⟩ := h0.split
  obtain ⟨c3, c4, K3, K4, hc2, hL2, r3, r4, d2⟩ := r2.split
  subst hc; subst hL; subst hc2; subst hL2
  have l1 : c1.length = i := by rw [r1.len, List.length_take]; omega
  have l3 := r3.len
  match c3, l3 with
  | [c], _ =>
    refine ⟨c, K3, by rw [List.getElem?_append_right (by omega), l1]; simp, r3, fun j hj => by simp [hj], ?_⟩
    intro st' v' c' L' hr hd ho
    have q1 : RepL st' (vs.take i) c1 K1 := r1.off fun j hj => ho j (by simp [hj]) fun h => d1 j hj (by simp [h])
    have q4 : RepL st' (vs.drop (i + 1)) c4 K4 := r4.off fun j hj => ho j (by simp [hj]) fun h => d2 j h hj
    have e1 : vs.set i v' = vs.take i ++ ([v'] ++ vs.drop (i + 1)) := by
      rw [List.set_eq_take_append_cons_drop, if_pos hi]; rfl
    have e2 : (c1 ++ ([c] ++ c4)).set i c' = c1 ++ ([c'] ++ c4) := by
      rw [List.set_append_right _ _ (by omega), l1]; simp
    rw [e1, e2]
    refine ⟨_, q1.app (hr.app q4 fun j hj hm => ?_) fun j hj hm => ?_, fun j => ?_⟩
    · rcases hd j hj with h | h
      · exact d2 j h hm
      · exact h (by simp [hm])
    · rcases List.mem_append.mp hm with hm | hm
      · rcases hd j hm with h | h
        · exact d1 j hj (by simp [h])
        · exact h (by simp [hj])
      · exact d1 j hj (by simp [hm])
    · simp only [List.mem_append]
      constructor
      · rintro (h | h | h)
        · exact .inl ⟨.inl h, fun x => d1 j h (by simp [x])⟩
        · exact .inr h
        · exact .inl ⟨.inr (.inr h), fun x => d2 j x h⟩
      · rintro (⟨h | h | h, hn⟩ | h)
        · exact .inl h
        · exact absurd h hn
        · exact .inr (.inr h)
        · exact .inr (.inl h)

/-- A slice that is owned: nil, or a block. -/
theorem RepL.slice {v : AV} {sz n : Nat} {ds : List AV} {L : List Nat} (h : RepL st [v] [.isl sz ds n] L) :
    (v = .nils ∧ n = 0 ∧ ds = [] ∧ L = []) ∨ ∃ id ws L1, v = .sl sz id 0 n ∧ st.h id = some (.cells ws) ∧ RepL st ws ds L1 ∧ id ∉ L1 ∧ L = id :: L1 := by
  cases h with
  | one h t => cases h
  | nils sz t => cases t; exact .inl ⟨rfl, rfl, rfl, rfl⟩
  | sl h r h1 h2 hd t => cases t; exact .inr ⟨_, _, _, rfl, h, r, h1, by simp⟩
theorem RepL.scalar {v c : AV} {L : List Nat} (h : RepL st [v] [c] L) (hc : c.scalar = true) : v = c ∧ L = [] := by
  cases h with
  | one h t => cases t; exact ⟨rfl, rfl⟩
  | nils sz t => cases hc
  | sl h r h1 h2 hd t => cases hc
theorem RepL.scalars : ∀ {cs : List AV} (hc : cs.all AV.scalar = true) (st : ASt), RepL st cs cs []
  | [], _, st => .nil
  | c :: cs, hc, st => by
    simp only [List.all_cons, Bool.and_eq_true] at hc
    exact .one hc.1 (RepL.scalars hc.2 st)

/-- Nothing is lived without. -/
def ASt.killL (st : ASt) (L : List Nat) : ASt := ⟨fun j => if j ∈ L then none else st.h j⟩
theorem ASt.killL_le (st : ASt) (L : List Nat) : (st.killL L).le st := fun i o h => by
  have h : (if i ∈ L then none else st.h i) = some o := h
  split at h
  · cases h
  · exact h
theorem ASt.killL_h (st : ASt) (L : List Nat) (i : Nat) : (st.killL L).h i = if i ∈ L then none else st.h i := rfl
theorem ASt.le.killL {s t : ASt} (h : s.le t) {L : List Nat} (hL : ∀ j ∈ L, s.h j = none) : s.le (t.killL L) := fun i o hi => by
  rw [ASt.killL_h, if_neg (fun hm => by rw [hL i hm] at hi; cases hi)]
  exact h i o hi

/-- All that is owned is let go for good. -/
theorem RepL.frz (h : RepL st vs cs L) : ∀ {st1 : ASt} {B : Nat} {w0 : World} {R : Nat → Prop} {wr : World} {C : ACx} {w : World}, (∀ j ∈ L, st1.h j = st.h j) → ASim B w0 R wr C st1 w →
    ∃ C', C.le C' ∧ ASim B w0 R wr C' (st1.killL L) w ∧ ∀ i (h : i < vs.length) (h' : i < cs.length) v, VS C vs[i] v → VS C' cs[i] v := by
  induction h with
  | nil =>
    intro st1 B w0 R wr C w ho s
    refine ⟨C, .refl C, ?_, fun i hi => by simp at hi⟩
    have : st1.killL [] = st1 := ASt.ext' fun i => by simp [ASt.killL_h]
    rw [this]; exact s
  | one h t ih =>
    intro st1 B w0 R wr C w ho s
    obtain ⟨C', h1, h2, h3⟩ := ih ho s
    refine ⟨C', h1, h2, fun i hi hi' v hv => ?_⟩
    cases i with
    | zero => exact VS.mono h1 hv
    | succ i => exact h3 i (by simpa using hi) (by simpa using hi') v hv
  | nils sz t ih =>
    intro st1 B w0 R wr C w ho s
    obtain ⟨C', h1, h2, h3⟩ := ih ho s
    refine ⟨C', h1, h2, fun i hi hi' v hv => ?_⟩
    cases i with
    | zero => exact vs_nils_isl (VS.mono h1 hv) sz []
    | succ i => exact h3 i (by simpa using hi) (by simpa using hi') v hv
  | @sl sz id n _ _ ws ds L1 L2 h r hi1 hi2 hd t ih1 ih2 =>
    intro st1 B w0 R wr C w ho s
    have hid0 : st1.h id = some (.cells ws) := by rw [ho id (by simp)]; exact h
    obtain ⟨C1, h1, h2, h3⟩ := ih1 (fun j hj => ho j (by simp [hj])) s
    have hid : (st1.killL L1).h id = some (.cells ws) := by rw [ASt.killL_h, if_neg hi1]; exact hid0
    have s1 : ASim B w0 R wr C1 ((st1.killL L1).set id (.cells ds)) w := by
      refine h2.wrote hid w _ rfl rfl rfl rfl (fun _ _ => rfl) ?_
      obtain ⟨a1, c, t, a2, a3, a4⟩ := s.obj id _ hid0
      have hlt : id < C.N := s.live id (by rw [hid0]; simp)
      have hφ : C1.φ id = C.φ id := h1.φ id hlt
      have hb : C1.bs id = C.bs id := h1.bs id hlt
      have hl := r.len
      refine ⟨by omega, c, t, by rw [hφ]; exact a2, by rw [hφ, hb]; exact a3, fun i hi => ?_⟩
      rw [hφ]
      exact h3 i (by omega) hi _ (a4 i (by omega))
    have hid2 : ((st1.killL L1).set id (.cells ds)).h id = some (.cells ds) := by rw [ASt.set_h, if_pos rfl, hid]; rfl
    obtain ⟨C2, g1, g2, g3⟩ := s1.freeze hid2
    have hst : ∀ j, (((st1.killL L1).set id (.cells ds)).kill id).h j = if j = id then none else (st1.killL L1).h j := by
      intro j
      rw [ASt.kill_h]
      split
      · rfl
      · rename_i e; rw [ASt.set_h, if_neg e]
    obtain ⟨C3, k1, k2, k3⟩ := ih2 (fun j hj => by
      rw [hst, if_neg (by rintro rfl; exact hi2 hj), ASt.killL_h, if_neg (fun hm => hd j hm hj)]
      exact ho j (by simp [hj])) g2
    refine ⟨C3, (h1.trans g1).trans k1, ?_, fun i hi hi' v hv => ?_⟩
    · have : (((st1.killL L1).set id (.cells ds)).kill id).killL L2 = st1.killL (id :: (L1 ++ L2)) := ASt.ext' fun j => by
        rw [ASt.killL_h, hst, ASt.killL_h, ASt.killL_h]
        by_cases e1 : j ∈ L2 <;> by_cases e2 : j = id <;> by_cases e3 : j ∈ L1 <;> simp [e1, e2, e3]
      rw [← this]; exact k2
    · cases i with
      | zero =>
        have := g3 sz 0 n v (VS.mono h1 hv) (Nat.zero_le _)
        rw [List.drop_zero] at this
        exact this.mono k1
      | succ i => exact k3 i (by simpa using hi) (by simpa using hi') v (VS.mono (h1.trans g1) hv)

/-- What is owned may be read as a value. -/
theorem RepL.view (h : RepL st vs cs L) {i : Nat} (hi : i < vs.length) (hi' : i < cs.length) : SView st vs[i] cs[i] := by
  intro B w0 R wr C w v s x
  obtain ⟨C', h1, h2, h3⟩ := h.frz (fun _ _ => rfl) s
  exact SView.pure (h.pure i hi') _ _ _ _ _ _ _ h2 (h3 i hi hi' v x)
theorem RepL.viewAgg (h : RepL st vs cs L) : SView st (.agg vs) (.agg cs) := SView.agg h.len fun i hi hi' => h.view hi hi'

theorem RepL.ghostAgg (h : RepL st vs cs L) : Ghost (.agg vs) st (.agg cs) (st.killL L) := fun B w0 R wr C w rv s x => by
  obtain ⟨C', h1, h2, h3⟩ := h.frz (fun _ _ => rfl) s
  refine ⟨C', h1, h2, ?_⟩
  have hl := h.len
  cases x with
  | agg _ ws hl2 hv => exact .agg _ _ (by omega) fun i hi => h3 i (by omega) hi _ (hv i (by omega))
theorem RepL.ghost1 {v c : AV} (h : RepL st [v] [c] L) : Ghost v st c (st.killL L) := fun B w0 R wr C w rv s x => by
  obtain ⟨C', h1, h2, h3⟩ := h.frz (fun _ _ => rfl) s
  exact ⟨C', h1, h2, h3 0 (by simp) (by simp) rv x⟩

/-- A call whose arguments may be seen otherwise ahead of it. -/
theorem ACalls.seen {P : Program} {f : Nat} {args args1 : List AV} {st st1 : ASt} {Q : AV → ASt → Prop} (hl : args1.length = args.length)
    (g : ∀ B w0 R wr C w, ASim B w0 R wr C st w → ∃ C', C.le C' ∧ ASim B w0 R wr C' st1 w ∧ ∀ i (h : i < args.length) (h' : i < args1.length) v, VS C args[i] v → VS C' args1[i] v) (h : ACalls P f args1 st1 Q) : ACalls P f args st Q :=
  fun B w0 R wr C w vs s h1 h2 => by
    obtain ⟨C', g1, g2, g3⟩ := g B w0 R wr C w s
    refine (h B w0 R wr C' w vs g2 (by omega) (fun i hi => g3 i (by omega) hi _ (h2 i (by omega)))).mono ?_
    rintro e w' ⟨C2, v, st2, rv, a, b, c, d, q⟩
    exact ⟨C2, v, st2, rv, g1.trans a, b, c, d, q⟩

/-- The cells of a block that is owned are let go for good, and the block holds what they show. -/
theorem RepL.frzBox (h : RepL st vs cs L) {b : Nat} (hb : st.h b = some (.cells vs)) (hbL : b ∉ L) {B : Nat} {w0 : World} {R : Nat → Prop} {wr : World} {C : ACx} {w : World} (s : ASim B w0 R wr C st w) :
    ∃ C', C.le C' ∧ ASim B w0 R wr C' ((st.killL L).set b (.cells cs)) w ∧ ∀ i (h : i < vs.length) (h' : i < cs.length) v, VS C vs[i] v → VS C' cs[i] v := by
  obtain ⟨C1, h1, h2, h3⟩ := h.frz (fun _ _ => rfl) s
  have hid : (st.killL L).h b = some (.cells vs) := by rw [ASt.killL_h, if_neg hbL]; exact hb
  refine ⟨C1, h1, ?_, h3⟩
  refine h2.wrote hid w _ rfl rfl rfl rfl (fun _ _ => rfl) ?_
  obtain ⟨a1, c, t, a2, a3, a4⟩ := s.obj b _ hb
  have hlt : b < C.N := s.live b (by rw [hb]; simp)
  have hφ : C1.φ b = C.φ b := h1.φ b hlt
  have hbs : C1.bs b = C.bs b := h1.bs b hlt
  have hl := h.len
  refine ⟨by omega, c, t, by rw [hφ]; exact a2, by rw [hφ, hbs]; exact a3, fun i hi => ?_⟩
  rw [hφ]
  exact h3 i (by omega) hi _ (a4 i (by omega))
/-- The same, as it is seen ahead of a call that takes what the block holds, whole. -/
theorem ACalls.frzBox {P : Program} {f : Nat} {b : Nat} {Q : AV → ASt → Prop} (h : RepL st vs cs L) (hb : st.h b = some (.cells vs)) (hbL : b ∉ L) (k : ACalls P f [.agg cs] ((st.killL L).set b (.cells cs)) Q) : ACalls P f [.agg vs] st Q :=
  ACalls.seen (args1 := [.agg cs]) (st1 := (st.killL L).set b (.cells cs)) rfl (fun B w0 R wr C w s => by
    obtain ⟨C', h1, h2, h3⟩ := h.frzBox hb hbL s
    refine ⟨C', h1, h2, fun i hi hi' v hv => ?_⟩
    have e : i = 0 := by simpa using hi
    subst e
    have hl := h.len
    cases hv with
    | agg _ ws hl2 hv => exact .agg _ _ (by omega) fun i hk => h3 i (by omega) hk _ (hv i (by omega))) k
theorem RepL.ghostBox (h : RepL st vs cs L) {b : Nat} (hb : st.h b = some (.cells vs)) (hbL : b ∉ L) : Ghost .any st .any ((st.killL L).set b (.cells cs)) := fun B w0 R wr C w rv s x => by
  obtain ⟨C', h1, h2, h3⟩ := h.frzBox hb hbL s
  exact ⟨C', h1, h2, .any _⟩

/-- What a slice that is appended to owns, and what an element brings. -/
theorem aop_append_rep {P : Program} {sz b n : Nat} {zs : List AV} {parts : List (Nat × Nat × IArg)} {x y : IArg} {fr : AFr} {F : AV → AFr} {K : AV → AV → ASt → Prop} {v : AV} {ds new newc : List AV} {L Ln : List Nat}
    (hown : RepL st [v] [.isl sz ds n] L) (hds : ds.length = n * sz) (hn : n + 1 ≤ 4294967296) (hnew : aput (zeros zs 1) (parts.map fun p => (p.1, p.2.1, fr.val p.2.2)) = .some new) (hlen : new.length = sz)
    (hrep : RepL st new newc Ln) (hdis : ∀ j ∈ Ln, j ∉ L) (hx : ∀ v1, (F v1).val x = v) (hy : ∀ v1, (F v1).val y = v1)
    (hk : ∀ v1 i2 L2 st2, RepL st2 [.sl sz i2 0 (n + 1)] [.isl sz (ds ++ newc) (n + 1)] L2 → (∀ j ∈ L2, j ∈ L ∨ j ∈ Ln ∨ st.h j = none) → (∀ j, j ∉ L → ∀ o, st.h j = some o → st2.h j = some o) → K v1 (.sl sz i2 0 (n + 1)) st2) :
    aop P (.buildSlice sz 1 zs parts) fr st (fun v1 st1 => aop P (.append sz b x y) (F v1) st1 (K v1)) := by
  rcases hown.slice with ⟨rfl, rfl, rfl, rfl⟩ | ⟨id, ws, L1, rfl, hid, hr, hn1, rfl⟩
  · refine aop_append_one (v := .nils) (n := 0) (cs := []) (Shows.nils st sz) hn hnew hlen hrep.leaf hx hy fun v1 i2 st2 h1 h2 h3 => ?_
    obtain ⟨q1, q2⟩ := h3
    rcases q2 with ⟨q2, _⟩ | ⟨i, q2, q3⟩
    · omega
    cases q2
    refine hk v1 i2 (i2 :: (Ln ++ [])) st2 (.sl q3 ?_ ?_ (by simp) (by simp) .nil) ?_ fun j _ o ho => h2 j o ho
    · simpa using hrep.le h2
    · intro hm
      have := hrep.live i2 hm
      exact this h1
    · intro j hj
      rcases List.mem_cons.mp hj with rfl | hj
      · exact .inr (.inr h1)
      · exact .inr (.inl (by simpa using hj))
  · have hwl := hr.len
    refine aop_append_one (v := .sl sz id 0 n) (n := n) (cs := ws) ⟨by omega, .inr ⟨id, rfl, hid⟩⟩ hn hnew hlen hrep.leaf hx hy fun v1 i2 st2 h1 h2 h3 => ?_
    obtain ⟨q1, q2⟩ := h3
    rcases q2 with ⟨q2, _⟩ | ⟨i, q2, q3⟩
    · omega
    cases q2
    have hk1 : ∀ j, j ≠ id → ∀ o, st.h j = some o → st2.h j = some o := fun j hj o ho => h2 j o (by
      show (st.kill id).h j = _
      rw [ASt.kill_h, if_neg hj]; exact ho)
    have hi2 : i2 = id ∨ st.h i2 = none := by
      by_cases e : i2 = id
      · exact .inl e
      · refine .inr ?_
        have h1 : (st.kill id).h i2 = none := h1
        rw [ASt.kill_h, if_neg e] at h1; exact h1
    have hidn : id ∉ Ln := fun hm => hdis id hm (by simp)
    have live2 : ∀ {M : List Nat} {a c : List AV}, RepL st a c M → id ∉ M → RepL st2 a c M := fun {M a c} r hm => r.off fun j hj => by
      cases e : st.h j with
      | none => exact absurd e (r.live j hj)
      | some o => exact hk1 j (by rintro rfl; exact hm hj) o e
    have hnm : ∀ {M : List Nat} {a c : List AV}, RepL st a c M → id ∉ M → i2 ∉ M := fun {M a c} r hm hj => by
      rcases hi2 with e | e
      · subst e; exact hm hj
      · exact r.live i2 hj e
    have r1 := live2 hr hn1
    have r2 := live2 hrep hidn
    refine hk v1 i2 (i2 :: ((L1 ++ Ln) ++ [])) st2 (.sl q3 (r1.app r2 fun j hj hm => hdis j hm (by simp [hj])) ?_ (by simp) (by simp) .nil) ?_ fun j hj o ho => hk1 j (by rintro rfl; exact hj (by simp)) o ho
    · intro hm
      rcases List.mem_append.mp hm with hm | hm
      · exact hnm hr hn1 hm
      · exact hnm hrep hidn hm
    · intro j hj
      rcases List.mem_cons.mp hj with rfl | hj
      · rcases hi2 with e | e
        · exact .inl (by simp [e])
        · exact .inr (.inr e)
      · rw [List.append_nil] at hj
        rcases List.mem_append.mp hj with hj | hj
        · exact .inl (by simp [hj])
        · exact .inr (.inl hj)
/-- A cell that is no slice. -/
theorem RepL.get (h : RepL st vs cs L) {k : Nat} {c : AV} (hk : cs[k]? = some c) (hc : c.scalar = true) : vs[k]? = some c := by
  have hl := h.len
  have hi : k < vs.length := by
    rcases Nat.lt_or_ge k cs.length with h | h
    · omega
    · rw [List.getElem?_eq_none h] at hk; cases hk
  obtain ⟨c', Li, e, r, _, _⟩ := h.at hi
  rw [hk] at e; cases e
  rw [List.getElem?_eq_getElem hi, (r.scalar hc).1]
theorem RepL.setS (h : RepL st vs cs L) : ∀ {k : Nat} {c v : AV}, cs[k]? = some c → c.scalar = true → v.scalar = true → RepL st (vs.set k v) (cs.set k v) L := by
  induction h with
  | nil => intro k c v h; simp at h
  | one h t ih =>
    intro k c v hk hc hv
    cases k with
    | zero => exact .one hv t
    | succ k => exact .one h (ih (by simpa using hk) hc hv)
  | nils sz t ih =>
    intro k c v hk hc hv
    cases k with
    | zero => simp at hk; subst hk; cases hc
    | succ k => exact .nils sz (ih (by simpa using hk) hc hv)
  | sl h r h1 h2 hd t ih1 ih2 =>
    intro k c v hk hc hv
    cases k with
    | zero => simp at hk; subst hk; cases hc
    | succ k => exact .sl h r h1 h2 hd (ih2 (by simpa using hk) hc hv)
/-- A slice among cells, of its own block, and what becomes of all when that block holds something else. -/
theorem RepL.inner (h : RepL st vs cs L) {i sz n : Nat} {ds : List AV} (hc : cs[i]? = some (.isl sz ds n)) (hn : n ≠ 0) :
    ∃ id ws Lw, vs[i]? = some (.sl sz id 0 n) ∧ st.h id = some (.cells ws) ∧ RepL st ws ds Lw ∧ (∀ j ∈ Lw, j ∈ L) ∧ id ∈ L ∧ id ∉ Lw ∧
      ∀ st' ws' ds' Lw', st'.h id = some (.cells ws') → RepL st' ws' ds' Lw' → (∀ j ∈ Lw', j ≠ id ∧ (j ∈ Lw ∨ j ∉ L)) → (∀ j ∈ L, j ≠ id → j ∉ Lw → st'.h j = st.h j) →
        ∃ L'', RepL st' vs (cs.set i (.isl sz ds' n)) L'' ∧ (∀ j, j ∈ L'' ↔ (j ∈ L ∧ j ∉ Lw) ∨ j ∈ Lw') := by
  have hl := h.len
  have hi : i < vs.length := by
    rcases Nat.lt_or_ge i cs.length with h | h
    · omega
    · rw [List.getElem?_eq_none h] at hc; cases hc
  obtain ⟨c', Li, e, r, hsub, hup⟩ := h.at hi
  rw [hc] at e; cases e
  rcases r.slice with ⟨_, e, _⟩ | ⟨id, ws, Lw, ev, hid, rw', hn1, rfl⟩
  · exact absurd e hn
  refine ⟨id, ws, Lw, by rw [List.getElem?_eq_getElem hi, ev], hid, rw', fun j hj => hsub j (by simp [hj]), hsub id (by simp), hn1, ?_⟩
  intro st' ws' ds' Lw' h1 h2 h3 h4
  obtain ⟨L'', q1, q2⟩ := hup st' vs[i] (.isl sz ds' n) (id :: (Lw' ++ [])) (by rw [ev]; exact .sl h1 h2 (fun hm => (h3 id hm).1 rfl) (by simp) (by simp) .nil) (fun j hj => by
    rcases List.mem_cons.mp hj with rfl | hj
    · exact .inl (by simp)
    · rw [List.append_nil] at hj
      rcases (h3 j hj).2 with h | h
      · exact .inl (by simp [h])
      · exact .inr h) (fun j hj hjn => by
    simp only [List.mem_cons, not_or] at hjn
    exact h4 j hj hjn.1 hjn.2)
  rw [List.set_getElem_self] at q1
  refine ⟨L'', q1, fun j => ?_⟩
  rw [q2]
  simp only [List.mem_cons, List.append_nil, not_or]
  constructor
  · rintro (⟨a, _, c⟩ | rfl | h)
    · exact .inl ⟨a, c⟩
    · exact .inl ⟨hsub _ (by simp), hn1⟩
    · exact .inr h
  · rintro (⟨a, b⟩ | h)
    · by_cases e : j = id
      · exact .inr (.inl e)
      · exact .inl ⟨a, e, b⟩
    · exact .inr (.inr h)

/-- What is done to some blocks: all others are as they were, and what is owned then was owned, or is new. -/
def Upd (st : ASt) (L : List Nat) (st' : ASt) (L' : List Nat) : Prop := (∀ j, j ∉ L → ∀ o, st.h j = some o → st'.h j = some o) ∧ ∀ j ∈ L', j ∈ L ∨ st.h j = none
theorem Upd.refl (st : ASt) (L : List Nat) : Upd st L st L := ⟨fun _ _ _ h => h, fun _ h => .inl h⟩
theorem Upd.trans {a b c : ASt} {L1 L2 L3 : List Nat} (h : Upd a L1 b L2) (k : Upd b L2 c L3) : Upd a L1 c L3 := by
  have key : ∀ j, j ∉ L1 → ∀ o, a.h j = some o → j ∉ L2 := fun j hj o ho hm => by
    rcases h.2 j hm with h2 | h2
    · exact hj h2
    · rw [ho] at h2; cases h2
  refine ⟨fun j hj o ho => k.1 j (key j hj o ho) o (h.1 j hj o ho), fun j hj => ?_⟩
  rcases k.2 j hj with h2 | h2
  · exact h.2 j h2
  · by_cases e : j ∈ L1
    · exact .inl e
    · cases ha : a.h j with
      | none => exact .inr rfl
      | some o => rw [h.1 j e o ha] at h2; cases h2
theorem Upd.sub {a b : ASt} {L1 L2 L3 : List Nat} (h : Upd a L1 b L2) (k : ∀ j ∈ L3, j ∈ L2) : Upd a L1 b L3 := ⟨h.1, fun j hj => h.2 j (k j hj)⟩
/-- What is owned apart from these is not touched. -/
theorem Upd.keep {a b : ASt} {L1 L2 M : List Nat} {vs cs : List AV} (h : Upd a L1 b L2) (r : RepL a vs cs M) (hd : ∀ j ∈ M, j ∉ L1) : RepL b vs cs M ∧ ∀ j ∈ M, j ∉ L2 :=
  ⟨r.off fun j hj => by
    cases e : a.h j with
    | none => exact absurd e (r.live j hj)
    | some o => exact h.1 j (hd j hj) o e, fun j hj hm => by
    rcases h.2 j hm with h2 | h2
    · exact hd j hj h2
    · exact r.live j hj h2⟩
theorem Upd.le {a b : ASt} {L2 : List Nat} (h : Upd a [] b L2) : a.le b := fun j o ho => h.1 j (by simp) o ho
theorem Upd.ofLe {a b : ASt} (h : a.le b) : Upd a [] b [] := ⟨fun j _ o ho => h j o ho, fun j hj => by cases hj⟩
/-- One of the cells of a block becomes another one. -/
theorem RepL.store (h : RepL st vs cs L) {g i : Nat} {v c : AV} {Lv : List Nat} (hg : g ∉ L) (hi : i < vs.length) (hv : RepL st [v] [c] Lv) (hgv : g ∉ Lv) (hd : ∀ j ∈ Lv, j ∉ L) (o : AObj) :
    ∃ L', RepL (st.set g o) (vs.set i v) (cs.set i c) L' ∧ g ∉ L' ∧ ∀ j ∈ L', j ∈ L ∨ j ∈ Lv := by
  have ho : ∀ {M : List Nat}, g ∉ M → ∀ j ∈ M, (st.set g o).h j = st.h j := fun {M} hm j hj => by
    rw [ASt.set_h, if_neg (by rintro rfl; exact hm hj)]
  obtain ⟨c', Li, e, r, hsub, hup⟩ := h.at hi
  obtain ⟨L'', q1, q2⟩ := hup (st.set g o) v c Lv (hv.off (ho hgv)) (fun j hj => .inr (hd j hj)) (fun j hj _ => ho hg j hj)
  refine ⟨L'', q1, fun hm => ?_, fun j hj => ?_⟩
  · rcases (q2 g).mp hm with ⟨h1, _⟩ | h1
    · exact hg h1
    · exact hgv h1
  · rcases (q2 j).mp hj with ⟨h1, _⟩ | h1
    · exact .inl h1
    · exact .inr h1

/-- A copy of cells in a block of its own. -/
def Owned (st st' : ASt) (sz : Nat) (cs : List AV) (n : Nat) (r : AV) : Prop :=
  (n = 0 ∧ r = .nils ∧ st' = st) ∨ (n ≠ 0 ∧ ∃ id, st.h id = none ∧ r = .sl sz id 0 n ∧ st' = st.new id (.cells cs))
theorem Owned.le {sz n : Nat} {r : AV} (h : Owned st st' sz cs n r) : st.le st' := by
  rcases h with ⟨_, _, rfl⟩ | ⟨_, id, _, _, rfl⟩
  · exact ASt.le.refl _
  · exact ASt.le.new _ _ _
theorem Owned.leaf {sz n : Nat} {r : AV} (h : Owned st st' sz cs n r) : r.leaf = true := by
  rcases h with ⟨_, rfl, _⟩ | ⟨_, id, _, rfl, _⟩ <;> rfl
theorem Owned.rep {sz n : Nat} {r : AV} (h : Owned st st' sz cs n r) (hl : cs.length = n * sz) (hc : cs.all AV.scalar = true) : ∃ L, RepL st' [r] [.isl sz cs n] L ∧ ∀ j ∈ L, st.h j = none := by
  rcases h with ⟨rfl, rfl, rfl⟩ | ⟨hn, id, hid, rfl, rfl⟩
  · have : cs = [] := List.eq_nil_of_length_eq_zero (by simpa using hl)
    subst this
    exact ⟨[], .nils sz .nil, fun j hj => by cases hj⟩
  · exact ⟨[id], .sl (ASt.new_self _ hid) (RepL.scalars hc _) (by simp) (by simp) (by simp) .nil, fun j hj => by
      have : j = id := by simpa using hj
      rw [this]; exact hid⟩
theorem ints_scalar (l : List Int) : (ints l).all AV.scalar = true := by simp [ints, AV.scalar]
theorem fresh_of_le {s t : ASt} {j : Nat} (h : s.le t) (hj : t.h j = none) : s.h j = none := by
  cases e : s.h j with
  | none => rfl
  | some o => rw [h _ _ e] at hj; cases hj
theorem putN_app : ∀ (vs pre post mid : List AV) (n : Nat), pre.length = n → mid.length = vs.length → putN (pre ++ (mid ++ post)) n vs = pre ++ (vs ++ post)
  | [], pre, post, mid, n, h1, h2 => by
    have : mid = [] := List.eq_nil_of_length_eq_zero (by simpa using h2)
    subst this; rfl
  | v :: vs, pre, post, [], n, h1, h2 => by simp at h2
  | v :: vs, pre, post, m :: mid, n, h1, h2 => by
    rw [putN, List.set_append_right _ _ (by omega), h1, Nat.sub_self, List.cons_append, List.set_cons_zero]
    have := putN_app vs (pre ++ [v]) post mid (n + 1) (by simp [h1]) (by simpa using h2)
    simpa using this
theorem putN_all {vs zs : List AV} (h : zs.length = vs.length) : putN zs 0 vs = vs := by
  have := putN_app vs [] [] zs 0 rfl h
  simpa using this
theorem aput_one {sz : Nat} {zs vs : List AV} (hz : zs.length = sz) (hv : vs.length = sz) : aput (zeros zs 1) [(0, sz, .agg vs)] = some vs := by
  have h1 : zeros zs 1 = zs := by simp [zeros]
  simp [aput, AV.part, h1, hz, hv, putN_all (show zs.length = vs.length by omega)]

/-- A variable, with all that it owns, beside a heap that stays. -/
def Box (s0 s : ASt) (b : Nat) (cs : List AV) : Prop :=
  ∃ vs L, s.h b = some (.cells vs) ∧ RepL s vs cs L ∧ b ∉ L ∧ (∀ j ∈ L, s0.h j = none) ∧ s0.h b = none ∧ s0.le s
theorem Box.start {s : ASt} {b : Nat} {vs cs : List AV} (hb : s.h b = none) (h : RepL s vs cs []) : Box s (s.new b (.cells vs)) b cs :=
  ⟨vs, [], ASt.new_self _ hb, h.le (ASt.le.new _ _ _), by simp, fun j hj => by (cases hj), hb, ASt.le.new _ _ _⟩
theorem Box.base {s0 s : ASt} {b : Nat} (h : Box s0 s b cs) : s0.le s := by
  obtain ⟨_, _, _, _, _, _, _, h⟩ := h; exact h
theorem Box.grow {s0 s t : ASt} {b : Nat} (h : Box s0 s b cs) (hl : s.le t) : Box s0 t b cs := by
  obtain ⟨vs, L, h1, h2, h3, h4, h5, h6⟩ := h
  exact ⟨vs, L, hl _ _ h1, h2.le hl, h3, h4, h5, h6.trans hl⟩
theorem Box.less {s0 s1 s : ASt} {b : Nat} (h : Box s1 s b cs) (hl : s0.le s1) : Box s0 s b cs := by
  obtain ⟨vs, L, h1, h2, h3, h4, h5, h6⟩ := h
  exact ⟨vs, L, h1, h2, h3, fun j hj => fresh_of_le hl (h4 j hj), fresh_of_le hl h5, hl.trans h6⟩
/-- A cell that is no slice is read, and written. -/
theorem Box.get {s0 s : ASt} {b k : Nat} {c : AV} (h : Box s0 s b cs) (hk : cs[k]? = some c) (hc : c.scalar = true) :
    ∃ vs, s.h b = some (.cells vs) ∧ vs.length = cs.length ∧ vs[k]? = some c ∧ ∀ v, v.scalar = true → Box s0 (s.set b (.cells (vs.set k v))) b (cs.set k v) := by
  obtain ⟨vs, L, h1, h2, h3, h4, h5, h6⟩ := h
  refine ⟨vs, h1, h2.len.symm, h2.get hk hc, fun v hv => ?_⟩
  have ho : ∀ j ∈ L, (s.set b (.cells (vs.set k v))).h j = s.h j := fun j hj => by
    rw [ASt.set_h, if_neg (by rintro rfl; exact h3 hj)]
  refine ⟨vs.set k v, L, by rw [ASt.set_h, if_pos rfl, h1]; rfl, (h2.setS hk hc hv).off ho, h3, h4, h5, fun j o hj => ?_⟩
  rw [ASt.set_h, if_neg (by rintro rfl; rw [h5] at hj; cases hj)]
  exact h6 _ _ hj
/-- The same, its cells and blocks named. -/
def BoxL (s0 s : ASt) (b : Nat) (vs cs : List AV) (L : List Nat) : Prop := s.h b = some (.cells vs) ∧ RepL s vs cs L ∧ b ∉ L ∧ (∀ j ∈ L, s0.h j = none) ∧ s0.h b = none ∧ s0.le s
theorem BoxL.grow {s0 s t : ASt} {b : Nat} (h : BoxL s0 s b vs cs L) (hl : s.le t) : BoxL s0 t b vs cs L := by
  obtain ⟨h1, h2, h3, h4, h5, h6⟩ := h
  exact ⟨hl _ _ h1, h2.le hl, h3, h4, h5, h6.trans hl⟩
theorem RepL.slen {st : ASt} {vs cs : List AV} {L : List Nat} (h : RepL st vs cs L) {o sz n : Nat} {ds : List AV} (ho : cs[o]? = some (.isl sz ds n)) : ∃ v, vs[o]? = some v ∧ v.slen = some n := by
  have hl := h.len
  have hol : o < vs.length := by
    rcases Nat.lt_or_ge o cs.length with h | h
    · omega
    · rw [List.getElem?_eq_none h] at ho; cases ho
  obtain ⟨c', Li, e, r, hsub, hup⟩ := h.at hol
  rw [ho] at e; cases e
  refine ⟨vs[o], List.getElem?_eq_getElem hol, ?_⟩
  rcases r.slice with ⟨e, rfl, _⟩ | ⟨id, ws, L1, e, _⟩ <;> rw [e] <;> rfl
/-- A slice of a variable's is appended to. -/
theorem BoxL.append {s0 s : ASt} {b o sz n : Nat} {ds new newc : List AV} {Ln : List Nat} (h : BoxL s0 s b vs cs L) (ho : cs[o]? = some (.isl sz ds n)) (hds : ds.length = n * sz) (hn : n + 1 ≤ 4294967296)
    (hrep : RepL s new newc Ln) (hlen : new.length = sz) (hb : b ∉ Ln) (hf : ∀ j ∈ Ln, s0.h j = none) (hdis : ∀ j ∈ Ln, j ∉ L) :
    ∃ v, vs[o]? = some v ∧ v.slen = some n ∧
      ∀ {P : Program} {bt : Nat} {zs : List AV} {parts : List (Nat × Nat × IArg)} {x y : IArg} {fr : AFr} {F : AV → AFr} {K : AV → AV → ASt → Prop},
        aput (zeros zs 1) (parts.map fun p => (p.1, p.2.1, fr.val p.2.2)) = .some new → (∀ v1, (F v1).val x = v) → (∀ v1, (F v1).val y = v1) →
        (∀ v1 i2 st2, st2.h b = some (.cells vs) → Box s0 (st2.set b (.cells (vs.set o (.sl sz i2 0 (n + 1))))) b (cs.set o (.isl sz (ds ++ newc) (n + 1))) → K v1 (.sl sz i2 0 (n + 1)) st2) →
        aop P (.buildSlice sz 1 zs parts) fr s (fun v1 st1 => aop P (.append sz bt x y) (F v1) st1 (K v1)) := by
  obtain ⟨h1, h2, h3, h4, h5, h6⟩ := h
  have hl := h2.len
  have hol : o < vs.length := by
    rcases Nat.lt_or_ge o cs.length with h | h
    · omega
    · rw [List.getElem?_eq_none h] at ho; cases ho
  have hdis' := hdis
  obtain ⟨c', Li, e, r, hsub, hup⟩ := h2.at hol
  rw [ho] at e; cases e
  have hsl : vs[o].slen = some n := by
    rcases r.slice with ⟨e, rfl, _⟩ | ⟨id, ws, L1, e, _⟩ <;> rw [e] <;> rfl
  refine ⟨vs[o], List.getElem?_eq_getElem hol, hsl, ?_⟩
  intro P bt zs parts x y fr F K hnew hx hy hk
  refine aop_append_rep r hds hn hnew hlen hrep (fun j hj hm => hdis' j hj (hsub j hm)) hx hy fun v1 i2 L2 st2 q1 q2 q3 => ?_
  have hbi : b ∉ Li := fun hm => h3 (hsub b hm)
  have hb2 : st2.h b = some (.cells vs) := q3 b hbi _ h1
  have hbL2 : b ∉ L2 := fun hm => by
    rcases q2 b hm with h | h | h
    · exact hbi h
    · exact hb h
    · rw [h1] at h; cases h
  have hso : ∀ {M : List Nat} {ob : AObj}, b ∉ M → ∀ j ∈ M, (st2.set b ob).h j = st2.h j := fun {M ob} hm j hj => by
    rw [ASt.set_h, if_neg (by rintro rfl; exact hm hj)]
  refine hk v1 i2 st2 hb2 ?_
  obtain ⟨L'', g1, g2⟩ := hup (st2.set b (.cells (vs.set o (.sl sz i2 0 (n + 1))))) (.sl sz i2 0 (n + 1)) (.isl sz (ds ++ newc) (n + 1)) L2 (q1.off (hso hbL2)) (fun j hj => by
    rcases q2 j hj with h | h | h
    · exact .inl h
    · exact .inr (hdis' j h)
    · exact .inr fun hm => h2.live j hm h) (fun j hj hjn => by
    rw [ASt.set_h, if_neg (by rintro rfl; exact h3 hj)]
    cases e : s.h j with
    | none => exact absurd e (h2.live j hj)
    | some ob => exact q3 j hjn _ e)
  refine ⟨_, L'', by rw [ASt.set_h, if_pos rfl, hb2]; rfl, g1, fun hm => ?_, fun j hj => ?_, h5, fun j ob hj => ?_⟩
  · rcases (g2 b).mp hm with ⟨h, _⟩ | h
    · exact h3 h
    · exact hbL2 h
  · rcases (g2 j).mp hj with ⟨h, _⟩ | h
    · exact h4 j h
    · rcases q2 j h with h | h | h
      · exact h4 j (hsub j h)
      · exact hf j h
      · exact fresh_of_le h6 h
  · rw [ASt.set_h, if_neg (by rintro rfl; rw [h5] at hj; cases hj)]
    exact q3 j (fun hm => by rw [h4 j (hsub j hm)] at hj; cases hj) _ (h6 _ _ hj)
end
end Go.Proofs.Ytjamidgdhmjhaaa.Cn
