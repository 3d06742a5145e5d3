/- The abstract layer, part 18: whole functions: what is shown of the intermediate code holds of the program's code. -/
import Derived.Test.YtjamidgdhmjhaaaCnDraw3
set_option linter.unusedSimpArgs false
set_option linter.unusedVariables false
namespace Go.Proofs.Ytjamidgdhmjhaaa.Cn
open Go Go.RowKit

def predsOf (o : Oper) : List Nat := o.after.toList.filterMap fun e => if Region.binds .any e then some e.on else none

def noneff (P : Program) (o : Oper) : Bool :=
  match compOp P o.op with
  | some io => io.still || io.loads
  | none => false

def opAt (ops : Array Oper) (i : Nat) : Oper := (ops[i]?).getD default

/-- An order: what only reckons or loads as early as it can be. -/
def canonGo (P : Program) (ops : Array Oper) : Nat → List Nat → List Nat
  | 0, _ => []
  | f + 1, left =>
    let ready := left.filter fun i => (predsOf (opAt ops i)).all fun p => !left.contains p
    match ready.find? fun i => noneff P (opAt ops i) with
    | some i => i :: canonGo P ops f (left.filter (· != i))
    | none => match ready with
      | i :: _ => i :: canonGo P ops f (left.filter (· != i))
      | [] => []

/-- Of each operation which others it waits for, through others too: a bit for each. -/
def closTab : List Oper → List Nat → List Nat
  | [], acc => acc
  | o :: r, acc => closTab r (acc ++ [(predsOf o).foldl (fun m p => m ||| 2 ^ p ||| acc.getD p 0) 0])

def waits (tab : List Nat) (i t : Nat) : Bool := (tab.getD i 0).testBit t

def heldOf (tab : List Nat) (i : Nat) : List (Nat × IOper) → List IHeld
  | [] => []
  | (t, x) :: r => if x.op.loads && !waits tab i t then (match x.dst with | some d => [{ op := x.op, dst := d, guard := x.guard }] | none => []) ++ heldOf tab i r else heldOf tab i r

def aheadOf (tab : List Nat) (t : Nat) : List (Nat × IOper) → List (IArg × IArg)
  | [] => []
  | (i, x) :: r => match x.op with
    | .makeSlice _ _ _ l c => if waits tab i t then aheadOf tab t r else (l, c) :: aheadOf tab t r
    | _ => aheadOf tab t r

/-- What is owed is noted. -/
def annot (tab : List Nat) : List (Nat × IOper) → List (Nat × IOper) → List (Nat × IOper)
  | _, [] => []
  | pre, (i, x) :: r =>
    let h := if x.op.still || x.op.loads || x.op.allocs then [] else heldOf tab i pre
    let g := if x.op.calls || x.op.allocs then aheadOf tab i r else []
    (i, { x with held := h, ahead := g }) :: annot tab (pre ++ [(i, x)]) r

def pairOk (ops : Array Oper) (tab : List Nat) (x y : Nat × IOper) : Bool :=
  (condB x.2 y.2 || condD x.2 y.2 || waits tab y.1 x.1) && (!x.2.op.loads || (x.2.dst != y.2.dst && notIn y.2.dst x.2.looks)) && !(predsOf (opAt ops x.1)).contains y.1

def allPairs {α : Type} (f : α → α → Bool) : List α → Bool
  | [] => true
  | x :: r => r.all (f x) && allPairs f r

def nodupB : List Nat → Bool
  | [] => true
  | x :: r => !r.contains x && nodupB r

def predsOk (ops : Array Oper) (i : Nat) : Bool := (predsOf (opAt ops i)).all fun p => decide (p < ops.size) && p != i

def compDraw (P : Program) (n : Nat) (ops : Array Oper) : Option (List IOper) :=
  let perm := canonGo P ops ops.size (List.range ops.size)
  let tab := closTab ops.toList []
  match compIdx P n ops perm with
  | some il =>
    let T := annot tab [] (perm.zip il)
    if allPairs (pairOk ops tab) T && nodupB perm && (List.range ops.size).all (fun i => perm.contains i && predsOk ops i) && perm.all (fun i => decide (i < ops.size)) then some (T.map (·.2)) else none
  | none => none

def compRegion (P : Program) (n : Nat) (ops : Array Oper) (draw : Bool) : Option (List IOper) :=
  if draw then compDraw P n ops else compIdx P n ops (List.range ops.size)

def compCode (P : Program) (n : Nat) : Code → Option ICode
  | .skip => some .skip
  | .region _ ops draw => (compRegion P n ops draw).map .region
  | .seq a b => match compCode P n a, compCode P n b with
    | some x, some y => some (.seq x y)
    | _, _ => none
  | .cond c a b => match cArg c, compCode P n a, compCode P n b with
    | some z, some x, some y => some (.cond z x y)
    | _, _, _ => none
  | .block id c => (compCode P n c).map (.block id)
  | .loop c => (compCode P n c).map .loop
  | .exit id => some (.exit id)
  | .ret => some .ret
  | _ => none

def ICode.erase : ICode → ICode
  | .keep _ c => c.erase
  | .ghost c => c.erase
  | .seq a b => .seq a.erase b.erase
  | .cond c a b => .cond c a.erase b.erase
  | .block id c => .block id c.erase
  | .loop c => .loop c.erase
  | c => c

theorem allPairs_spec {α : Type} {f : α → α → Bool} : ∀ {l : List α}, allPairs f l = true → l.Pairwise fun x y => f x y = true
  | [], _ => .nil
  | x :: r, h => by
    simp only [allPairs, Bool.and_eq_true] at h
    exact List.pairwise_cons.2 ⟨fun y hy => List.all_eq_true.1 h.1 y hy, allPairs_spec h.2⟩

theorem nodupB_spec : ∀ {l : List Nat}, nodupB l = true → l.Nodup
  | [], _ => .nil
  | x :: r, h => by
    simp only [nodupB, Bool.and_eq_true] at h
    refine List.pairwise_cons.2 ⟨fun y hy e => ?_, nodupB_spec h.2⟩
    subst e
    simp [hy] at h

/-- All that an operation waits for has been done. -/
def Closed (ops : Array Oper) (listed : Array Bool) : Prop := ∀ i, listed.getD i false = true → ∀ p ∈ predsOf (opAt ops i), listed.getD p false = true

theorem foldl_bits (acc : List Nat) (t : Nat) : ∀ (l : List Nat) (m : Nat), (l.foldl (fun m p => m ||| 2 ^ p ||| acc.getD p 0) m).testBit t = true → m.testBit t = true ∨ ∃ p ∈ l, p = t ∨ (acc.getD p 0).testBit t = true
  | [], m, h => .inl h
  | p :: l, m, h => by
    simp only [List.foldl_cons] at h
    rcases foldl_bits acc t l _ h with h | ⟨q, hq, h⟩
    · simp only [Nat.testBit_or, Bool.or_eq_true, Nat.testBit_two_pow, decide_eq_true_eq] at h
      rcases h with (h | h) | h
      · exact .inl h
      · exact .inr ⟨p, by simp, .inl h⟩
      · exact .inr ⟨p, by simp, .inr h⟩
    · exact .inr ⟨q, by simp [hq], h⟩

theorem closTab_spec {ops : Array Oper} {listed : Array Bool} (hcl : Closed ops listed) : ∀ (l : List Oper) (acc : List Nat), (∀ j, l[j]? = ops[acc.length + j]?) →
    (∀ i t, (acc.getD i 0).testBit t = true → listed.getD i false = true → listed.getD t false = true) →
    ∀ i t, ((closTab l acc).getD i 0).testBit t = true → listed.getD i false = true → listed.getD t false = true
  | [], acc, _, h => h
  | o :: r, acc, hl, h => by
    refine closTab_spec hcl r _ (fun j => ?_) (fun i t hb hi => ?_)
    · have := hl (j + 1)
      simp only [List.getElem?_cons_succ] at this
      rw [this]
      congr 1
      simp
      omega
    · by_cases hlt : i < acc.length
      · rw [List.getD_eq_getElem?_getD, List.getElem?_append_left hlt, ← List.getD_eq_getElem?_getD] at hb
        exact h i t hb hi
      · by_cases he : i = acc.length
        · subst he
          rw [List.getD_eq_getElem?_getD, List.getElem?_append_right (by omega)] at hb
          simp only [Nat.sub_self, List.getElem?_cons_zero, Option.getD_some] at hb
          have ho : opAt ops acc.length = o := by
            have := hl 0
            simp at this
            simp [opAt, ← this]
          rcases foldl_bits acc t _ _ hb with h0 | ⟨p, hp, h0⟩
          · simp at h0
          · have hp' : listed.getD p false = true := hcl _ hi p (by rw [ho]; exact hp)
            rcases h0 with rfl | h0
            · exact hp'
            · exact h p t h0 hp'
        · rw [List.getD_eq_getElem?_getD, List.getElem?_append_right (by omega), List.getElem?_eq_none (by simp; omega)] at hb
          simp at hb

theorem waits_spec {ops : Array Oper} {listed : Array Bool} (hcl : Closed ops listed) {i t : Nat} (h : waits (closTab ops.toList []) i t = true) (hi : ∀ p ∈ predsOf (opAt ops i), listed.getD p false = true) (hsz : i < listed.size) :
    listed.getD t false = true ∨ t = i := by
  -- 'i' itself may be thought of as done: all that it waits for is
  have hcl' : Closed ops (listed.setIfInBounds i true) := by
    intro j hj p hp
    by_cases e : j = i
    · subst e
      by_cases ep : p = j
      · subst ep; exact hj
      · rw [getD_set_ne false (Ne.symm ep)]; exact hi p hp
    · rw [getD_set_ne false (Ne.symm e)] at hj
      exact getD_set_true (hcl j hj p hp)
  have hi' : (listed.setIfInBounds i true).getD i false = true := by
    simp [Array.getD_eq_getD_getElem?, hsz]
  have := closTab_spec hcl' ops.toList [] (fun j => by simp) (fun i t h => by simp at h) i t h hi'
  by_cases e : t = i
  · exact .inr e
  · rw [getD_set_ne false (Ne.symm e)] at this; exact .inl this

section
variable {P : Program} {B : Nat} {w0 : World} {R : Nat → Prop} {wr : World} {n : Nat}

structure TOk (P : Program) (n : Nat) (ops : Array Oper) (T : List (Nat × IOper)) : Prop where
  comp : ∀ p ∈ T, ∃ o b, ops[p.1]? = some o ∧ compOper P n ops o = some b ∧ p.2.dst = b.dst ∧ p.2.op = b.op ∧ p.2.guard = b.guard
  pairs : T.Pairwise fun x y => pairOk ops (closTab ops.toList []) x y = true
  nodup : (T.map (·.1)).Nodup

theorem TOk.sub {ops : Array Oper} {pre post : List (Nat × IOper)} {p : Nat × IOper} (h : TOk P n ops (pre ++ p :: post)) : TOk P n ops (pre ++ post) := by
  have hs : (pre ++ post).Sublist (pre ++ p :: post) := List.Sublist.append_left (List.sublist_cons_self _ _) _
  exact ⟨fun q hq => h.comp q (hs.subset hq), h.pairs.sublist hs, h.nodup.sublist (hs.map _)⟩

theorem kc_closed (k : AFr → ASt → Prop) : ∀ fr fr' st, FrEq fr fr' → (∃ f0, FrEq f0 fr ∧ k f0 st) → ∃ f0, FrEq f0 fr' ∧ k f0 st :=
  fun _ _ _ h ⟨f0, h0, hk⟩ => ⟨f0, fun s => (h0 s).trans (h s), hk⟩

theorem aops_mono : ∀ {os : List IOper} {k k' : AFr → ASt → Prop} {fr : AFr} {st : ASt}, (∀ fr st, k fr st → k' fr st) → aops P os k fr st → aops P os k' fr st
  | [], _, _, _, _, hk, h => hk _ _ h
  | o :: os, _, _, _, _, hk, h => ⟨h.1, astep0_mono (fun fr st x => ⟨x.1, aops_mono hk x.2⟩) h.2⟩

theorem any_sound {ops : Array Oper} {ds : List Deferred} {k : AFr → ASt → Prop} {Q : Exit → Act → World → Prop} {C0 : ACx} (hQ : ∀ a w, Owes B w0 R wr C0 n ds k a w → Q .normal a w)
    (hpo : ∀ i, i < ops.size → predsOk ops i = true) :
    ∀ (fuel : Nat) (listed : Array Bool) (T : List (Nat × IOper)) (C : ACx) (fr : AFr) (st : ASt) (a : Act) (w : World), TOk P n ops T → T.length ≤ fuel → listed.size = ops.size →
      (∀ i, i < ops.size → (listed.getD i false = false ↔ ∃ p ∈ T, p.1 = i)) → Closed ops listed →
      C0.le C → ASim B w0 R wr C st w → FSim C n fr a → a.defers = ds → aops P (T.map (·.2)) (fun fr st => ∃ f0, FrEq f0 fr ∧ k f0 st) fr st →
      wpAny P .any ops Q fuel listed a w := by
  -- with nothing left, all is done
  have base : ∀ (listed : Array Bool) (C : ACx) (fr : AFr) (st : ASt) (a : Act) (w : World), C0.le C → ASim B w0 R wr C st w → FSim C n fr a → a.defers = ds →
      aops P [] (fun fr st => ∃ f0, FrEq f0 fr ∧ k f0 st) fr st → Q .normal a w := by
    intro listed C fr st a w hC s f hd h
    obtain ⟨f0, h0, hk⟩ := h
    exact hQ a w ⟨C, f0, st, hC, s, ⟨f.size, fun i => by rw [h0 i]; exact f.get i⟩, hd, hk⟩
  -- what is ready, and the first one always is
  have rdy : ∀ {listed : Array Bool} {i : Nat}, listed.size = ops.size → i ∈ Region.ready .any ops listed → i < ops.size ∧ listed.getD i false = false ∧ ∀ p ∈ predsOf (opAt ops i), listed.getD p false = true := by
    intro listed i hs hi
    have hlt : i < ops.size := by
      have := (List.mem_filter.1 hi).1
      simpa using this
    have h2 := (List.mem_filter.1 hi).2
    rw [Array.getElem?_eq_getElem hlt] at h2
    simp only [Option.map_some, Option.getD_some, Bool.and_eq_true, Bool.not_eq_true'] at h2
    refine ⟨hlt, ?_, fun p hp => ?_⟩
    · have hl : i < listed.size := by omega
      have := h2.1
      simpa [Array.getD_eq_getD_getElem?, hl] using this
    · obtain ⟨e, he, hp⟩ := List.mem_filterMap.1 hp
      split at hp
      · rename_i hb
        cases hp
        have hoe : opAt ops i = ops[i] := by simp [opAt, hlt]
        rw [hoe] at he
        have h3 := Array.all_eq_true'.1 h2.2 e (by simpa using he)
        simpa [hb] using h3
      · cases hp
  have first : ∀ {listed : Array Bool} {p : Nat × IOper} {T : List (Nat × IOper)}, listed.size = ops.size → TOk P n ops (p :: T) → (∀ i, i < ops.size → (listed.getD i false = false ↔ ∃ q ∈ p :: T, q.1 = i)) →
      p.1 ∈ Region.ready .any ops listed := by
    intro listed p T hs ht hl
    obtain ⟨o, b, ho, _⟩ := ht.comp p (by simp)
    have hlt : p.1 < ops.size := by
      rcases Nat.lt_or_ge p.1 ops.size with h | h
      · exact h
      · rw [Array.getElem?_eq_none h] at ho; cases ho
    have hun := (hl p.1 hlt).2 ⟨p, by simp, rfl⟩
    refine List.mem_filter.2 ⟨by simpa using hlt, ?_⟩
    rw [Array.getElem?_eq_getElem hlt]
    simp only [Option.map_some, Option.getD_some, Bool.and_eq_true, Bool.not_eq_true']
    have hls : p.1 < listed.size := by omega
    refine ⟨by simpa [Array.getD_eq_getD_getElem?, hls] using hun, ?_⟩
    refine Array.all_eq_true'.2 fun e he => ?_
    cases hb : Region.binds .any e with
    | false => simp
    | true =>
      have hoe : opAt ops p.1 = ops[p.1] := by simp [opAt, hlt]
      have hmem : e.on ∈ predsOf (opAt ops p.1) := by
        rw [hoe]
        exact List.mem_filterMap.2 ⟨e, by simpa using he, by simp [hb]⟩
      have hpk := List.all_eq_true.1 (hpo p.1 hlt) e.on hmem
      simp only [Bool.and_eq_true, decide_eq_true_eq, bne_iff_ne, ne_eq] at hpk
      simp only [Bool.not_true, Bool.false_or]
      cases hle : listed.getD e.on false with
      | true => rfl
      | false =>
        obtain ⟨q, hq, hqe⟩ := (hl e.on hpk.1).1 hle
        rcases List.mem_cons.1 hq with rfl | hq
        · exact absurd hqe.symm hpk.2
        · have := (List.pairwise_cons.1 ht.pairs).1 q hq
          simp only [pairOk, Bool.and_eq_true, Bool.not_eq_true'] at this
          have h2 := this.2
          rw [hqe] at h2
          simp [hmem] at h2
  intro fuel
  induction fuel with
  | zero =>
    intro listed T C fr st a w ht hlen hs hl hcl hC s f hd h
    have hT : T = [] := by simpa using hlen
    subst hT
    refine ⟨?_, base listed C fr st a w hC s f hd h⟩
    cases hr : Region.ready .any ops listed with
    | nil => rfl
    | cons i r =>
      obtain ⟨h1, h2, _⟩ := rdy hs (i := i) (by rw [hr]; simp)
      obtain ⟨p, hp, _⟩ := (hl i h1).1 h2
      cases hp
  | succ fuel ih =>
    intro listed T C fr st a w ht hlen hs hl hcl hC s f hd h
    refine ⟨fun hr => ?_, fun i hi => ?_⟩
    · cases T with
      | nil => exact base listed C fr st a w hC s f hd h
      | cons p T => have := first hs ht hl; rw [hr] at this; cases this
    · obtain ⟨hlt, hun, hpr⟩ := rdy hs hi
      obtain ⟨p, hp, rfl⟩ := (hl i hlt).1 hun
      obtain ⟨pre, post, rfl⟩ := List.append_of_mem hp
      have hls : p.1 < listed.size := by omega
      have hbd : ∀ t ∈ pre.map (·.2), condB t p.2 = true ∨ condD t p.2 = true := by
        intro t htm
        obtain ⟨q, hq, rfl⟩ := List.mem_map.1 htm
        have hpair := (List.pairwise_append.1 ht.pairs).2.2 q hq p (by simp)
        simp only [pairOk, Bool.and_eq_true, Bool.or_eq_true] at hpair
        rcases hpair.1.1 with (h1 | h1) | h1
        · exact .inl h1
        · exact .inr h1
        · exfalso
          obtain ⟨o, b, ho, _⟩ := ht.comp q (by simp [hq])
          have hqlt : q.1 < ops.size := by
            rcases Nat.lt_or_ge q.1 ops.size with h | h
            · exact h
            · rw [Array.getElem?_eq_none h] at ho; cases ho
          have hqun := (hl q.1 hqlt).2 ⟨q, by simp [hq], rfl⟩
          rcases waits_spec hcl h1 hpr hls with e | e
          · rw [e] at hqun; cases hqun
          · have hnd := ht.nodup
            rw [List.map_append, List.map_cons] at hnd
            have := (List.pairwise_append.1 hnd).2.2 q.1 (List.mem_map_of_mem hq) p.1 (by simp)
            exact this e
      have hpw : (pre.map (·.2)).Pairwise LeftOk := by
        refine List.pairwise_map.2 ((List.pairwise_append.1 ht.pairs).1.imp fun {x y} hxy hld => ?_)
        simp only [pairOk, Bool.and_eq_true, Bool.or_eq_true] at hxy
        have := hxy.1.2
        simp only [hld, Bool.not_true, Bool.false_eq_true, false_or, bne_iff_ne, ne_eq] at this
        exact this
      rw [List.map_append, List.map_cons] at h
      have hfr := front (kc_closed k) (pre.map (·.2)) [] hbd hpw (fun _ ht => by cases ht) fr st h
      obtain ⟨o, b, ho, hb, e1, e2, e3⟩ := ht.comp p (by simp)
      have hfr' : astep0 P b (fun fr' st' => aops P ((pre ++ post).map (·.2)) (fun fr st => ∃ f0, FrEq f0 fr ∧ k f0 st) fr' st') fr st := by
        have := astep0_mono (k' := fun fr' st' => aops P ((pre ++ post).map (·.2)) (fun fr st => ∃ f0, FrEq f0 fr ∧ k f0 st) fr' st') (fun fr st x => by rw [List.map_append]; exact x.2) hfr
        unfold astep0 at this ⊢
        rw [← e1, ← e2, ← e3]
        exact this
      refine step_sound ho hb s f hfr' fun C' fr' st' a' w' hC' s' f' hd' hk => ?_
      refine ih (listed.setIfInBounds p.1 true) (pre ++ post) C' fr' st' a' w' ht.sub (by simp at hlen ⊢; omega) (by simpa using hs) (fun j hj => ?_) ?_ (hC.trans hC') s' f' (hd'.trans hd) hk
      · have hnd := ht.nodup
        rw [List.map_append, List.map_cons] at hnd
        by_cases e : j = p.1
        · subst e
          have : (listed.setIfInBounds p.1 true).getD p.1 false = true := by simp [Array.getD_eq_getD_getElem?, hls]
          rw [this]
          refine ⟨fun h => (by cases h), fun ⟨q, hq, hqe⟩ => ?_⟩
          exfalso
          rcases List.mem_append.1 hq with hq | hq
          · exact (List.pairwise_append.1 hnd).2.2 q.1 (List.mem_map_of_mem hq) p.1 (by simp) hqe
          · exact (List.pairwise_cons.1 (List.pairwise_append.1 hnd).2.1).1 q.1 (List.mem_map_of_mem hq) hqe.symm
        · rw [getD_set_ne false (Ne.symm e), hl j hj]
          constructor
          · rintro ⟨q, hq, rfl⟩
            rcases List.mem_append.1 hq with hq | hq
            · exact ⟨q, by simp [hq], rfl⟩
            · rcases List.mem_cons.1 hq with rfl | hq
              · exact absurd rfl e
              · exact ⟨q, by simp [hq], rfl⟩
          · rintro ⟨q, hq, rfl⟩
            rcases List.mem_append.1 hq with hq | hq
            · exact ⟨q, by simp [hq], rfl⟩
            · exact ⟨q, by simp [hq], rfl⟩
      · intro j hj q hq
        by_cases e : j = p.1
        · subst e
          exact getD_set_true (hpr q hq)
        · rw [getD_set_ne false (Ne.symm e)] at hj
          exact getD_set_true (hcl j hj q hq)

theorem compIdx_spec {ops : Array Oper} : ∀ {l : List Nat} {il : List IOper}, compIdx P n ops l = some il → il.length = l.length ∧ ∀ j (h : j < l.length) (h' : j < il.length), ∃ o, ops[l[j]]? = some o ∧ compOper P n ops o = some il[j]
  | [], il, h => by cases h; exact ⟨rfl, fun j h => absurd h (by simp)⟩
  | i :: r, il, h => by
    simp only [compIdx] at h
    split at h
    · rename_i o ho
      split at h
      · rename_i x xs hx hxs
        cases h
        obtain ⟨h1, h2⟩ := compIdx_spec hxs
        refine ⟨by simp [h1], fun j hj hj' => ?_⟩
        cases j with
        | zero => exact ⟨o, ho, hx⟩
        | succ j => simpa using h2 j (by simpa using hj) (by simpa using hj')
      · cases h
    · cases h

theorem annot_map (tab : List Nat) : ∀ (pre T : List (Nat × IOper)), (annot tab pre T).map (·.1) = T.map (·.1)
  | _, [] => rfl
  | pre, (i, x) :: r => by simp only [annot, List.map_cons]; rw [annot_map tab _ r]

theorem annot_mem (tab : List Nat) : ∀ (pre T : List (Nat × IOper)), ∀ p ∈ annot tab pre T, ∃ q ∈ T, p.1 = q.1 ∧ p.2.dst = q.2.dst ∧ p.2.op = q.2.op ∧ p.2.guard = q.2.guard
  | _, [], p, hp => by cases hp
  | pre, (i, x) :: r, p, hp => by
    simp only [annot, List.mem_cons] at hp
    rcases hp with rfl | hp
    · exact ⟨(i, x), by simp, rfl, rfl, rfl, rfl⟩
    · obtain ⟨q, hq, h⟩ := annot_mem tab _ r p hp
      exact ⟨q, by simp [hq], h⟩

/-- A region whose order is open. -/
theorem draw_sound {ops : Array Oper} {il : List IOper} (hc : compDraw P n ops = some il) (hm : P.follows .mixedOrders = true) {id : Nat} {C : ACx} {fr : AFr} {st : ASt} {a : Act} {w : World} {k : AFr → ASt → Prop} {Q : Exit → Act → World → Prop}
    (s : ASim B w0 R wr C st w) (f : FSim C n fr a) (h : aops P il k fr st) (hQ : ∀ a' w', Owes B w0 R wr C n a.defers k a' w' → Q .normal a' w') : (Code.region id ops true).wp P Q a w := by
  unfold compDraw at hc
  simp only at hc
  split at hc
  · rename_i il0 hil
    split at hc
    · rename_i hcond
      cases hc
      simp only [Bool.and_eq_true] at hcond
      obtain ⟨⟨⟨hpairs, hnd⟩, hall⟩, hlt⟩ := hcond
      obtain ⟨hlen, hcomp⟩ := compIdx_spec hil
      have hzip : ((canonGo P ops ops.size (List.range ops.size)).zip il0).map (·.1) = canonGo P ops ops.size (List.range ops.size) := List.map_fst_zip (by omega)
      have hT : TOk P n ops (annot (closTab ops.toList []) [] ((canonGo P ops ops.size (List.range ops.size)).zip il0)) := by
        refine ⟨fun p hp => ?_, allPairs_spec hpairs, by rw [annot_map, hzip]; exact nodupB_spec hnd⟩
        obtain ⟨q, hq, e0, e1, e2, e3⟩ := annot_mem _ _ _ p hp
        obtain ⟨j, hj, rfl⟩ := List.getElem_of_mem hq
        have hj1 : j < (canonGo P ops ops.size (List.range ops.size)).length := by simp at hj; omega
        have hj2 : j < il0.length := by simp at hj; omega
        obtain ⟨o, ho, hco⟩ := hcomp j hj1 hj2
        refine ⟨o, il0[j], ?_, hco, ?_, ?_, ?_⟩
        · rw [e0]; simpa using ho
        · rw [e1]; simp
        · rw [e2]; simp
        · rw [e3]; simp
      refine wp_region_any hm ?_
      have hall' := fun i (hi : i < ops.size) => List.all_eq_true.1 hall i (by simpa using hi)
      refine any_sound (C0 := C) (ds := a.defers) (k := k) hQ (fun i hi => by have := hall' i hi; simp only [Bool.and_eq_true] at this; exact this.2) ops.size _ _ C fr st a _ hT ?_ (by simp) (fun i hi => ?_) ?_ (.refl C) (s.draw _) f rfl
        (aops_mono (fun fr st hk => ⟨fr, fun _ => rfl, hk⟩) h)
      · have h1 : (annot (closTab ops.toList []) [] ((canonGo P ops ops.size (List.range ops.size)).zip il0)).length = (canonGo P ops ops.size (List.range ops.size)).length := by
          have := congrArg List.length (annot_map (closTab ops.toList []) [] ((canonGo P ops ops.size (List.range ops.size)).zip il0))
          simpa [hzip, hlen] using this
        rw [h1]
        have hsub : canonGo P ops ops.size (List.range ops.size) ⊆ List.range ops.size := fun x hx => by
          have := List.all_eq_true.1 hlt x hx
          simpa using this
        have := (nodupB_spec hnd).length_le_of_subset hsub
        simpa using this
      · have hget : (Array.replicate ops.size false).getD i false = false := by simp [Array.getD_eq_getD_getElem?, hi]
        rw [hget]
        refine ⟨fun _ => ?_, fun _ => rfl⟩
        have hmem : i ∈ canonGo P ops ops.size (List.range ops.size) := by
          have := hall' i hi
          simp only [Bool.and_eq_true] at this
          simpa using this.1
        rw [← hzip, ← annot_map (closTab ops.toList []) []] at hmem
        obtain ⟨p, hp, rfl⟩ := List.mem_map.1 hmem
        exact ⟨p, hp, rfl⟩
      · intro i hi
        by_cases hlt' : i < ops.size
        · simp [Array.getD_eq_getD_getElem?, hlt'] at hi
        · simp [Array.getD_eq_getD_getElem?, hlt'] at hi
    · cases hc
  · cases hc

/-- What the walk owes at the end of a piece of code. -/
def IPost (B : Nat) (w0 : World) (R : Nat → Prop) (wr : World) (C0 : ACx) (n : Nat) (ds : List Deferred) (Q : IExit → AFr → ASt → Prop) : Exit → Act → World → Prop
  | .normal, a, w => Owes B w0 R wr C0 n ds (Q .normal) a w
  | .exit id, a, w => Owes B w0 R wr C0 n ds (Q (.exit id)) a w
  | .ret, a, w => Owes B w0 R wr C0 n ds (Q .ret) a w
  | _, _, _ => False

theorem Owes.up {C0 C : ACx} (h : C0.le C) {ds : List Deferred} {k : AFr → ASt → Prop} {a : Act} {w : World} (x : Owes B w0 R wr C n ds k a w) : Owes B w0 R wr C0 n ds k a w := by
  obtain ⟨C', fr', st', hC, r⟩ := x
  exact ⟨C', fr', st', h.trans hC, r⟩

theorem IPost.up {C0 C : ACx} (h : C0.le C) {ds : List Deferred} {Q : IExit → AFr → ASt → Prop} {e : Exit} {a : Act} {w : World} (x : IPost B w0 R wr C n ds Q e a w) : IPost B w0 R wr C0 n ds Q e a w := by
  cases e <;> first | exact Owes.up h x | exact x

theorem least (p : Nat → Prop) : ∀ m, p m → ∃ k, p k ∧ ∀ j, p j → k ≤ j := by
  intro m
  induction m using Nat.strongRecOn with
  | _ m ih =>
    intro hm
    by_cases h : ∃ j, j < m ∧ p j
    · obtain ⟨j, hj, hp⟩ := h; exact ih j hj hp
    · refine ⟨m, hm, fun j hj => ?_⟩
      rcases Nat.lt_or_ge j m with h' | h'
      · exact absurd ⟨j, h', hj⟩ h
      · exact h'

theorem wp_loop_rep {c : Code} {Q : Exit → Act → World → Prop} {a : Act} {w : World} (I : Nat → Act → World → Prop) {m : Nat} (h0 : I m a w)
    (round : ∀ m a w, I m a w → c.wp P (Exit.then (fun a' w' => ∃ m', m' < m ∧ I m' a' w') Q) a w) : (Code.loop c).wp P Q a w := by
  have hmin : ∀ (a : Act) (w : World), (∃ m, I m a w) → ∃ k, I k a w ∧ ∀ j, I j a w → k ≤ j := fun a w ⟨m, h⟩ => least (fun m => I m a w) m h
  classical
  refine wp_loop (fun a w => ∃ m, I m a w) (fun a w => if h : ∃ m, I m a w then Classical.choose (hmin a w h) else 0) ⟨m, h0⟩ fun a w h => ?_
  have hm := Classical.choose_spec (hmin a w h)
  refine wp_mono (round _ a w hm.1) fun e a' w' he => ?_
  cases e with
  | normal =>
    obtain ⟨m', hlt, hI⟩ := he
    refine ⟨⟨m', hI⟩, ?_⟩
    rw [dif_pos ⟨m', hI⟩, dif_pos h]
    exact Nat.lt_of_le_of_lt ((Classical.choose_spec (hmin a' w' ⟨m', hI⟩)).2 _ hI) hlt
  | _ => exact he

theorem code_sound (hm : P.follows .mixedOrders = true) : ∀ (ic : ICode) (c : Code), compCode P n c = some ic.erase → ∀ (Q : IExit → AFr → ASt → Prop) (C : ACx) (fr : AFr) (st : ASt) (a : Act) (w : World),
    ASim B w0 R wr C st w → FSim C n fr a → awp P ic Q fr st → c.wp P (IPost B w0 R wr C n a.defers Q) a w
  | .keep ks ic, c, hc, Q, C, fr, st, a, w, s, f, h => code_sound hm ic c hc Q C _ st a w s (f.keep ks) h
  | .ghost ic, c, hc, Q, C, fr, st, a, w, s, f, h => by
    obtain ⟨fr1, st1, hg, h1⟩ := h
    obtain ⟨C1, g1, g2, g3⟩ := hg _ _ _ _ _ _ s
    exact wp_mono (code_sound hm ic c hc Q C1 fr1 st1 a w g2 ⟨f.size, fun i => g3 i _ (f.get i)⟩ h1) fun e a w x => IPost.up g1 x
  | .skip, c, hc, Q, C, fr, st, a, w, s, f, h => by
    have : c = .skip := by
      cases c <;> simp only [compCode, ICode.erase] at hc <;> try (cases hc; done)
      · rfl
      all_goals (first | (split at hc <;> cases hc; done) | (have hx := map_some hc; obtain ⟨y, _, e⟩ := hx; cases e; done))
    subst this
    exact wp_skip ⟨C, fr, st, .refl C, s, f, rfl, h⟩
  | .region il, c, hc, Q, C, fr, st, a, w, s, f, h => by
    cases c <;> simp only [compCode, ICode.erase] at hc <;> try (cases hc; done)
    · rename_i id ops draw
      obtain ⟨il', h1, e⟩ := map_some hc
      cases e
      unfold compRegion at h1
      cases draw with
      | true =>
        rw [if_pos rfl] at h1
        exact draw_sound h1 hm s f h fun a' w' x => x
      | false =>
        simp only [Bool.false_eq_true, if_false] at h1
        exact wp_region (ops_sound (C0 := C) (ds := a.defers) (k := Q .normal) (fun a' w' x => x) _ _ C fr st a w h1 (.refl C) s f rfl h)
    all_goals (first | (split at hc <;> cases hc; done) | (have hx := map_some hc; obtain ⟨y, _, e⟩ := hx; cases e; done))
  | .seq x y, c, hc, Q, C, fr, st, a, w, s, f, h => by
    cases c <;> simp only [compCode, ICode.erase] at hc <;> try (cases hc; done)
    case seq p q =>
      split at hc
      · rename_i ix iy hx hy
        cases hc
        refine wp_seq (wp_mono (code_sound hm x p hx _ C fr st a w s f h) fun e a' w' he => ?_)
        cases e with
        | normal =>
          obtain ⟨C', fr', st', hC, s', f', hd, hk⟩ := he
          have := code_sound hm y q hy Q C' fr' st' a' w' s' f' hk
          rw [hd] at this
          exact wp_mono this fun e a w x => IPost.up hC x
        | exit id => exact he
        | ret => exact he
        | goto l => exact he.elim
        | panic c => exact he.elim
        | outgrown => exact he.elim
      · cases hc
    all_goals (first | (split at hc <;> cases hc; done) | (have hx := map_some hc; obtain ⟨y, _, e⟩ := hx; cases e; done))
  | .cond z x y, c, hc, Q, C, fr, st, a, w, s, f, h => by
    cases c <;> simp only [compCode, ICode.erase] at hc <;> try (cases hc; done)
    case cond co p q =>
      split at hc
      · rename_i iz ix iy hz hx hy
        cases hc
        have hv := arg_vs f hz
        simp only [awp] at h
        split at h
        · rename_i t ht
          rw [ht] at hv
          refine wp_cond hv.bool_inv ?_
          cases t
          · simp only [Bool.false_eq_true, if_false] at h ⊢
            exact code_sound hm y q hy Q C fr st a w s f h
          · simp only [if_true] at h ⊢
            exact code_sound hm x p hx Q C fr st a w s f h
        · exact h.elim
      · cases hc
    all_goals (first | (split at hc <;> cases hc; done) | (have hx := map_some hc; obtain ⟨y, _, e⟩ := hx; cases e; done))
  | .block id x, c, hc, Q, C, fr, st, a, w, s, f, h => by
    cases c <;> simp only [compCode, ICode.erase] at hc <;> try (cases hc; done)
    case block id' p =>
      obtain ⟨ix, hx, e⟩ := map_some hc
      cases e
      refine wp_block (wp_mono (code_sound hm x p hx _ C fr st a w s f h) fun e a' w' he => ?_)
      cases e with
      | exit i =>
        simp only [Exit.inBlock]
        by_cases hi : i = id
        · rw [if_pos hi]
          obtain ⟨C', fr', st', hC, s', f', hd, hk⟩ := he
          simp only [IExit.inBlock, if_pos hi] at hk
          exact ⟨C', fr', st', hC, s', f', hd, hk⟩
        · rw [if_neg hi]
          obtain ⟨C', fr', st', hC, s', f', hd, hk⟩ := he
          simp only [IExit.inBlock, if_neg hi] at hk
          exact ⟨C', fr', st', hC, s', f', hd, hk⟩
      | normal => exact he
      | ret => exact he
      | goto l => exact he.elim
      | panic c => exact he.elim
      | outgrown => exact he.elim
    all_goals (first | (split at hc <;> cases hc; done) | (have hx := map_some hc; obtain ⟨y, _, e⟩ := hx; cases e; done))
  | .loop x, c, hc, Q, C, fr, st, a, w, s, f, h => by
    cases c <;> simp only [compCode, ICode.erase] at hc <;> try (cases hc; done)
    case loop p =>
      obtain ⟨ix, hx, e⟩ := map_some hc
      cases e
      simp only [awp] at h
      obtain ⟨I, μ, h0, hr⟩ := h
      refine wp_loop_rep (fun m a' w' => ∃ C' fr' st', C.le C' ∧ ASim B w0 R wr C' st' w' ∧ FSim C' n fr' a' ∧ a'.defers = a.defers ∧ I fr' st' ∧ μ fr' st' = m) ⟨C, fr, st, .refl C, s, f, rfl, h0, rfl⟩ ?_
      rintro m a1 w1 ⟨C1, fr1, st1, hC1, s1, f1, hd1, hI, rfl⟩
      refine wp_mono (code_sound hm x p hx _ C1 fr1 st1 a1 w1 s1 f1 (hr fr1 st1 hI)) fun e a' w' he => ?_
      rw [hd1] at he
      cases e with
      | normal =>
        obtain ⟨C', fr', st', hC, s', f', hd, hk1, hk2⟩ := he
        exact ⟨_, hk2, C', fr', st', hC1.trans hC, s', f', hd, hk1, rfl⟩
      | exit id => exact Owes.up hC1 he
      | ret => exact Owes.up hC1 he
      | goto l => exact he.elim
      | panic c => exact he.elim
      | outgrown => exact he.elim
    all_goals (first | (split at hc <;> cases hc; done) | (have hx := map_some hc; obtain ⟨y, _, e⟩ := hx; cases e; done))
  | .exit id, c, hc, Q, C, fr, st, a, w, s, f, h => by
    cases c <;> simp only [compCode, ICode.erase] at hc <;> try (cases hc; done)
    case exit i => cases hc; exact wp_exit ⟨C, fr, st, .refl C, s, f, rfl, h⟩
    all_goals (first | (split at hc <;> cases hc; done) | (have hx := map_some hc; obtain ⟨y, _, e⟩ := hx; cases e; done))
  | .ret, c, hc, Q, C, fr, st, a, w, s, f, h => by
    cases c <;> simp only [compCode, ICode.erase] at hc <;> try (cases hc; done)
    case ret => exact wp_ret ⟨C, fr, st, .refl C, s, f, rfl, h⟩
    all_goals (first | (split at hc <;> cases hc; done) | (have hx := map_some hc; obtain ⟨y, _, e⟩ := hx; cases e; done))

/-- Where a result lies: in a slot, in a cell behind a pointer, in a row of cells. -/
inductive IRes where
  | slot (n : Nat)
  | cell1 (n : Nat)
  | cellN (n sz : Nat)

/-- A function of the intermediate code: how many parameters, where the results are, the code. -/
structure IFunc where
  np : Nat
  res : List IRes
  code : ICode

def resSlots (P : Program) : List ResultVar → Option (List IRes)
  | [] => some []
  | .tmp t :: r => (resSlots P r).map (.slot t :: ·)
  | .cell x t :: r => match P.info? t, P.underlying t, resSlots P r with
    | some i, some _, some rs => some ((if aggB P t then .cellN x i.size else .cell1 x) :: rs)
    | _, _, _ => none

/-- The intermediate code of a function of the program is this one. -/
def Linked (P : Program) (f : Nat) (F : IFunc) : Prop :=
  ∃ fn c, P.funcs[f]? = some fn ∧ fn.body = some c ∧ compCode P fn.ntmps c = some F.code.erase ∧ resSlots P fn.results.toList = some F.res ∧ F.np ≤ fn.ntmps ∧ P.follows .mixedOrders = true

def initFr : Nat → List AV → AFr
  | _, [] => []
  | i, v :: r => (i, v) :: initFr (i + 1) r

def resVal (fr : AFr) (st : ASt) : IRes → Option AV
  | .slot n => some (fr.get n)
  | .cell1 n => st.ld1 (fr.get n)
  | .cellN n sz => st.ldN sz (fr.get n)

def resVals (fr : AFr) (st : ASt) : List IRes → Option (List AV)
  | [] => some []
  | r :: rs => match resVal fr st r, resVals fr st rs with
    | some v, some vs => some (v :: vs)
    | _, _ => none

/-- What a function hands back. -/
def Ret (res : List IRes) (Q : AV → ASt → Prop) (fr : AFr) (st : ASt) : Prop :=
  match resVals fr st res with
  | some [v] => Q v st
  | some vs => Q (.tup vs) st
  | none => False

def Post (res : List IRes) (Q : AV → ASt → Prop) : IExit → AFr → ASt → Prop
  | .exit _, _, _ => False
  | _, fr, st => Ret res Q fr st

theorem initFr_get : ∀ (l : List AV) (j i : Nat), (initFr j l).get i = if h : j ≤ i ∧ i - j < l.length then l[i - j]'h.2 else .any
  | [], j, i => by simp [initFr, AFr.get_nil]
  | v :: r, j, i => by
    simp only [initFr, AFr.get_cons]
    by_cases e : j = i
    · subst e; simp
    · rw [if_neg e, initFr_get r (j + 1) i]
      by_cases h : j + 1 ≤ i ∧ i - (j + 1) < r.length
      · have h' : j ≤ i ∧ i - j < (v :: r).length := by simp; omega
        rw [dif_pos h, dif_pos h']
        have : i - j = (i - (j + 1)) + 1 := by omega
        simp only [this, List.getElem_cons_succ]
      · have h' : ¬ (j ≤ i ∧ i - j < (v :: r).length) := by simp; omega
        rw [dif_neg h, dif_neg h']

theorem run_results {C : ACx} {st : ASt} {fr : AFr} {tm : Act} {w : World} (s : ASim B w0 R wr C st w) (f : FSim C n fr tm) (g : ResultVar → Sem Value) (hg : ∀ t, g (.tmp t) = pure (tm.tmps.getD t undef))
    (hg2 : ∀ x t, g (.cell x t) = (do loadVar t (← asAddr (tm.tmps.getD x undef)))) : ∀ {l : List ResultVar} {rs : List IRes} {vs : List AV}, resSlots P l = some rs → resVals fr st rs = some vs →
    ∃ ws : List Value, (l.mapM g).run P w = .ok ws w ∧ ws.length = vs.length ∧ ∀ i (h : i < vs.length), VS C vs[i] (ws.getD i undef)
  | [], rs, vs, h, hv => by cases h; cases hv; exact ⟨[], rfl, rfl, fun i hi => absurd hi (by simp)⟩
  | .tmp t :: r, rs, vs, h, hv => by
    simp only [resSlots] at h
    obtain ⟨rs', h1, rfl⟩ := map_some h
    simp only [resVals, resVal] at hv
    cases h2 : resVals fr st rs' with
    | none => rw [h2] at hv; cases hv
    | some vs' =>
      rw [h2] at hv; cases hv
      obtain ⟨ws, w1, w2, w3⟩ := run_results s f g hg hg2 h1 h2
      refine ⟨tm.tmps.getD t undef :: ws, by simp only [List.mapM_cons, Sem.run_bind, hg, Sem.run_pure, Result.andThen_ok, w1], by simp [w2], fun i hi => ?_⟩
      cases i with
      | zero => simpa using f.get t
      | succ i => simpa using w3 i (by simpa using hi)
  | .cell x t :: r, rs, vs, h, hv => by
    simp only [resSlots] at h
    split at h
    · rename_i inf d rs' hi hu h1
      cases h
      simp only [resVals] at hv
      cases h2 : resVals fr st rs' with
      | none => rw [h2] at hv; split at hv <;> simp_all
      | some vs' =>
        obtain ⟨ws, w1, w2, w3⟩ := run_results s f g hg hg2 h1 h2
        rw [h2] at hv
        have hx := f.get x
        cases ha : aggB P t with
        | true =>
          simp only [ha, if_true, resVal] at hv
          cases hl : st.ldN inf.size (fr.get x) with
          | none => rw [hl] at hv; cases hv
          | some v =>
            rw [hl] at hv; cases hv
            obtain ⟨b, p, rs2, e1, e2, e3⟩ := ldN_sound (P := P) s hl hx
            refine ⟨.agg rs2 :: ws, ?_, by simp [w2], fun i hi => ?_⟩
            · simp only [List.mapM_cons, Sem.run_bind, hg2, e1, asAddr, Sem.run_pure, Result.andThen_ok, loadVar, run_agg hu, ha, if_true, run_size hi, e2, w1]
            · cases i with
              | zero => simpa using e3
              | succ i => simpa using w3 i (by simpa using hi)
        | false =>
          simp only [ha, Bool.false_eq_true, if_false, resVal] at hv
          cases hl : st.ld1 (fr.get x) with
          | none => rw [hl] at hv; cases hv
          | some v =>
            rw [hl] at hv; cases hv
            obtain ⟨b, p, rv, e1, e2, e3⟩ := ld1_sound s hl hx
            refine ⟨rv :: ws, ?_, by simp [w2], fun i hi => ?_⟩
            · simp only [List.mapM_cons, Sem.run_bind, hg2, e1, asAddr, Sem.run_pure, Result.andThen_ok, loadVar, run_agg hu, ha, Bool.false_eq_true, if_false, run_load, e2, w1]
            · cases i with
              | zero => simpa using e3
              | succ i => simpa using w3 i (by simpa using hi)
    · cases h

/-- A contract of a function out of its intermediate code. -/
theorem calls_of_awp {f : Nat} {F : IFunc} (hl : Linked P f F) {args : List AV} (ha : args.length = F.np) {st : ASt} {Q : AV → ASt → Prop}
    (h : awp P F.code (Post F.res Q) (initFr 0 args) st) : ACalls P f args st Q := by
  obtain ⟨fn, c, hf, hb, hc, hr, hn, hm⟩ := hl
  intro B w0 R wr C w vs s hs hv
  refine calls_of_wp hf hb ?_
  have hfs : FSim C fn.ntmps (initFr 0 args) { tmps := vs ++ Array.replicate (fn.ntmps - vs.size) undef, defers := [] } := by
    refine ⟨by simp; omega, fun i => ?_⟩
    rw [initFr_get]
    split
    · rename_i hi
      have := hv (i - 0) (by simpa using hi.2)
      have hi2 : i < vs.size := by rw [hs]; simpa using hi.2
      simp only [Nat.sub_zero] at this ⊢
      rw [Array.getD_eq_getD_getElem?] at this ⊢
      rw [Array.getElem?_append_left hi2]
      exact this
    · exact .any _
  refine wp_mono (code_sound hm F.code c hc _ C _ st _ w s hfs h) fun e a' w' he => ?_
  have fin : ∀ (fr' : AFr) (C' : ACx) (st' : ASt), C.le C' → ASim B w0 R wr C' st' w' → FSim C' fn.ntmps fr' a' → a'.defers = [] → Ret F.res Q fr' st' →
      a'.defers = [] ∧ ∃ v, (results fn a'.tmps).run P w' = .ok v w' ∧ ∃ C' v' st' rv, C.le C' ∧ ASim B w0 R wr C' st' w' ∧ Ending.returned v = .returned rv ∧ VS C' v' rv ∧ Q v' st' := by
    intro fr' C' st' hC s' f' hd hq
    unfold Ret at hq
    cases hrv : resVals fr' st' F.res with
    | none => rw [hrv] at hq; exact hq.elim
    | some vs' =>
      rw [hrv] at hq
      obtain ⟨ws, w1, w2, w3⟩ := run_results (P := P) s' f' (fun | .tmp t => pure (a'.tmps.getD t undef) | .cell a t => do loadVar t (← asAddr (a'.tmps.getD a undef))) (fun _ => rfl) (fun _ _ => rfl) hr hrv
      have hrun : (results fn a'.tmps).run P w' = .ok (if hh : ws.toArray.size = 1 then ws.toArray[0] else .tuple ws.toArray) w' := by
        unfold results
        rw [Array.mapM_eq_mapM_toList]
        simp only [Sem.run_bind, Sem.run_map]
        have e : ∀ g : ResultVar → Sem Value, g = (fun | .tmp t => pure (a'.tmps.getD t undef) | .cell a t => do loadVar t (← asAddr (a'.tmps.getD a undef))) → (fn.results.toList.mapM g).run P w' = .ok ws w' := by
          rintro g rfl; exact w1
        rw [e]
        · rfl
        · funext x; cases x <;> rfl
      match vs', hq, w2, w3 with
      | [v], hq, w2, w3 =>
        obtain ⟨r, rfl⟩ := List.length_eq_one_iff.1 (by simpa using w2)
        exact ⟨hd, _, hrun, C', v, st', _, hC, s', rfl, by simpa using w3 0 (by simp), hq⟩
      | [], hq, w2, w3 =>
        refine ⟨hd, _, hrun, C', .tup [], st', _, hC, s', rfl, ?_, hq⟩
        have : ws = [] := by simpa using w2
        subst this
        exact vs_undef
      | v1 :: v2 :: r, hq, w2, w3 =>
        refine ⟨hd, _, hrun, C', .tup (v1 :: v2 :: r), st', _, hC, s', rfl, ?_, hq⟩
        have h1 : ¬ ws.toArray.size = 1 := by simp at w2 ⊢; omega
        rw [dif_neg h1]
        refine .tup _ _ (by simpa using w2) fun i hi => ?_
        have := w3 i hi
        simpa [List.getD_eq_getElem?_getD, Array.getD_eq_getD_getElem?] using this
  cases e with
  | normal => obtain ⟨C', fr', st', hC, s', f', hd, hk⟩ := he; exact fin fr' C' st' hC s' f' hd hk
  | ret => obtain ⟨C', fr', st', hC, s', f', hd, hk⟩ := he; exact fin fr' C' st' hC s' f' hd hk
  | exit id => obtain ⟨C', fr', st', hC, s', f', hd, hk⟩ := he; exact hk.elim
  | goto l => exact he.elim
  | panic c => exact he.elim
  | outgrown => exact he.elim

end
theorem awpE {c d : ICode} (h : c = d) {P : Program} {Q : IExit → AFr → ASt → Prop} {fr : AFr} {st : ASt} : awp P c Q fr st = awp P d Q fr st := by rw [h]
theorem aopsE {c d : List IOper} (h : c = d) {P : Program} {k : AFr → ASt → Prop} {fr : AFr} {st : ASt} : aops P c k fr st = aops P d k fr st := by rw [h]
end Go.Proofs.Ytjamidgdhmjhaaa.Cn
