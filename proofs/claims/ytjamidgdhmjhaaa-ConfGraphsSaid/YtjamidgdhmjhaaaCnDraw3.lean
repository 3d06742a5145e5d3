/- The abstract layer, part 17: regions whose order is open: one order serves for all. -/
import Derived.Test.YtjamidgdhmjhaaaCnDraw2
set_option linter.unusedSimpArgs false
set_option linter.unusedVariables false
namespace Go.Proofs.Ytjamidgdhmjhaaa.Cn
open Go Go.RowKit

def guardSlots : Option (Nat × Bool) → List Nat
  | none => []
  | some (g, _) => [g]

def IOper.looks (o : IOper) : List Nat := o.op.slots ++ guardSlots o.guard

def IHeld.slots (h : IHeld) : List Nat := h.dst :: (h.op.slots ++ guardSlots h.guard)

def notIn (d : Option Nat) (l : List Nat) : Bool :=
  match d with
  | none => true
  | some d => !l.contains d

/-- Two operations that know nothing of one another. -/
def indep (t i : IOper) : Bool := notIn t.dst i.looks && notIn i.dst t.looks && (match t.dst, i.dst with | some a, some b => a != b | _, _ => true)

def heldFor (t : IOper) (i : IOper) : Bool :=
  i.held.any fun h => t.dst == some h.dst && h.guard == t.guard && (match h.op, t.op with
    | .load1 (.slot a), .load1 (.slot b) => a == b
    | .loadN m (.slot a), .loadN n (.slot b) => a == b && m == n
    | _, _ => false)

/-- 'i' may be done ahead of 't', that reckons or loads. -/
def condB (t i : IOper) : Bool :=
  indep t i && (t.op.still || t.op.loads) && t.held.isEmpty && t.ahead.isEmpty &&
  (t.op.still || (notIn t.dst t.looks && (i.op.still || i.op.loads || i.op.allocs || heldFor t i)))

def sameSlot : IArg → IArg → Bool
  | .slot a, .slot b => a == b
  | .cst (.int .i64 a), .cst (.int .i64 b) => a == b
  | _, _ => false

/-- What 'i' asks for can be had. -/
def aheadHas (t i : IOper) : Bool :=
  match i.op with
  | .alloc _ => true
  | .makeSlice _ _ _ l c => t.ahead.any fun p => sameSlot p.1 l && sameSlot p.2 c
  | _ => false

/-- 'i', that lays new memory, may be done ahead of 't', that calls, or lays new memory. -/
def condD (t i : IOper) : Bool :=
  indep t i && aheadHas t i && i.guard.isNone && i.held.isEmpty && (t.op.calls || t.op.allocs) && t.guard.isNone &&
  t.held.all (fun h => notIn i.dst h.slots) && t.ahead.all (fun p => notIn i.dst (p.1.slots ++ p.2.slots))

def FrEq (fr fr' : AFr) : Prop := ∀ s, fr.get s = fr'.get s

theorem FrEq.agree {fr fr' : AFr} (h : FrEq fr fr') (l : List Nat) : Agree l fr fr' := fun s _ => h s
theorem FrEq.symm {fr fr' : AFr} (h : FrEq fr fr') : FrEq fr' fr := fun s => (h s).symm

theorem get_set (fr : AFr) (d : Option Nat) (v : AV) (s : Nat) : (fr.set d v).get s = if d = some s then v else fr.get s := by
  cases d with
  | none => simp [AFr.set]
  | some d => simp only [AFr.set, AFr.get_cons, Option.some.injEq]

theorem FrEq.set {fr fr' : AFr} (h : FrEq fr fr') (d : Option Nat) (v : AV) : FrEq (fr.set d v) (fr'.set d v) := fun s => by
  rw [get_set, get_set]; split
  · rfl
  · exact h s

theorem set_comm (fr : AFr) {d e : Option Nat} (u v : AV) (h : ∀ a b, d = some a → e = some b → a ≠ b) : FrEq ((fr.set d u).set e v) ((fr.set e v).set d u) := fun s => by
  simp only [get_set]
  by_cases hd : d = some s
  · by_cases he : e = some s
    · exact absurd rfl (h s s hd he)
    · simp [hd, he]
  · by_cases he : e = some s <;> simp [hd, he]

theorem notIn_spec {d : Option Nat} {l : List Nat} (h : notIn d l = true) : ∀ s ∈ l, d ≠ some s := by
  intro s hs e
  subst e
  simp [notIn, hs] at h

theorem Agree.set {fr : AFr} {d : Option Nat} {l : List Nat} (h : notIn d l = true) (v : AV) : Agree l (fr.set d v) fr := fun s hs => by
  rw [get_set, if_neg (notIn_spec h s hs)]

theorem Agree.sub {l m : List Nat} {fr fr' : AFr} (h : Agree l fr fr') (hs : ∀ s ∈ m, s ∈ l) : Agree m fr fr' := fun s x => h s (hs s x)
theorem Agree.symm {l : List Nat} {fr fr' : AFr} (h : Agree l fr fr') : Agree l fr' fr := fun s x => (h s x).symm

section
variable {P : Program} {fr fr' : AFr} {st : ASt}

def heldOne (st : ASt) (fr : AFr) (p : IHeld) : Prop :=
  match p.guard with
  | none => p.op.again st fr = some (fr.get p.dst)
  | some (g, want) => fr.get g = .bool want → p.op.again st fr = some (fr.get p.dst)

theorem heldOk_iff (st : ASt) (fr : AFr) : ∀ l, heldOk st fr l ↔ ∀ p ∈ l, heldOne st fr p
  | [] => by simp [heldOk]
  | p :: r => by
    simp only [heldOk, heldOk_iff st fr r, List.mem_cons, forall_eq_or_imp]
    exact Iff.rfl

theorem again_congr {op : IOp} (h : Agree op.slots fr fr') : op.again st fr = op.again st fr' := by
  cases op <;> simp only [IOp.again, IOp.slots] at h ⊢
  · rw [h.val]
  · rw [h.val]

theorem heldOne_congr {p : IHeld} (h : Agree p.slots fr fr') (x : heldOne st fr p) : heldOne st fr' p := by
  have h1 : fr.get p.dst = fr'.get p.dst := h _ (by simp [IHeld.slots])
  have h2 : Agree p.op.slots fr fr' := h.sub fun s hs => by simp [IHeld.slots, hs]
  unfold heldOne at x ⊢
  split at x
  · rw [← again_congr h2, ← h1]; exact x
  · rename_i g want hg
    have h3 : fr.get g = fr'.get g := h _ (by simp [IHeld.slots, hg, guardSlots])
    intro e
    rw [← again_congr h2, ← h1]
    exact x (by rw [h3]; exact e)

theorem heldOne_new {p : IHeld} (x : heldOne st fr p) (id : Nat) (o : AObj) : heldOne (st.new id o) fr p := by
  unfold heldOne at x ⊢
  split at x
  · exact again_new x id o
  · exact fun e => again_new (x e) id o

theorem aheadOk_congr : ∀ {l : List (IArg × IArg)}, (∀ p ∈ l, Agree (p.1.slots ++ p.2.slots) fr fr') → aheadOk fr l → aheadOk fr' l
  | [], _, _ => trivial
  | p :: r, h, x => by
    have h0 := h p (by simp)
    refine ⟨?_, aheadOk_congr (fun q hq => h q (by simp [hq])) x.2⟩
    have := x.1
    rw [h0.left.val, h0.right.val] at this
    exact this

theorem looks_op {o : IOper} (h : Agree o.looks fr fr') : Agree o.op.slots fr fr' := h.sub fun s hs => by simp [IOper.looks, hs]

theorem looks_guard {o : IOper} (h : Agree o.looks fr fr') {g : Nat} {b : Bool} (hg : o.guard = some (g, b)) : fr.get g = fr'.get g := h g (by simp [IOper.looks, hg, guardSlots])

/-- An operation in two frames that agree on what it looks at. -/
theorem astep0_congr {o : IOper} {k k' : AFr → ASt → Prop} (h : Agree o.looks fr fr') (hk : ∀ v st', k (fr.set o.dst v) st' → k' (fr'.set o.dst v) st') (x : astep0 P o k fr st) : astep0 P o k' fr' st := by
  unfold astep0 at x ⊢
  cases hg : o.guard with
  | none =>
    rw [hg] at x
    exact aop_congr (looks_op h) (aop_mono hk x)
  | some p =>
    obtain ⟨g, want⟩ := p
    rw [hg] at x
    simp only at x ⊢
    rw [← looks_guard h hg]
    split
    · rename_i b hb
      rw [hb] at x
      simp only at x
      split
      · rename_i hbw; rw [if_pos hbw] at x; exact aop_congr (looks_op h) (aop_mono hk x)
      · rename_i hbw; rw [if_neg hbw] at x; exact hk _ _ x
    · rename_i hb
      rw [hb] at x
      exact hk _ _ x
    · rename_i h1 h2
      revert x
      generalize fr.get g = a at h1 h2
      intro x
      split at x
      · exact absurd rfl (h1 _)
      · exact absurd rfl h2
      · exact x

theorem aops_ext {k : AFr → ASt → Prop} (hk : ∀ fr fr' st, FrEq fr fr' → k fr st → k fr' st) : ∀ (os : List IOper) (fr fr' : AFr) (st : ASt), FrEq fr fr' → aops P os k fr st → aops P os k fr' st
  | [], fr, fr', st, h, x => hk fr fr' st h x
  | o :: os, fr, fr', st, h, x => by
    refine ⟨aheadOk_congr (fun p _ => h.agree _) x.1, astep0_congr (h.agree _) (fun v st' y => ?_) x.2⟩
    rw [heldOk_iff] at y ⊢
    exact ⟨fun p hp => heldOne_congr ((h.set o.dst v).agree _) (y.1 p hp), aops_ext hk os _ _ st' (h.set o.dst v) y.2⟩

theorem indep_spec {t i : IOper} (h : indep t i = true) : notIn t.dst i.looks = true ∧ notIn i.dst t.looks = true ∧ ∀ a b, t.dst = some a → i.dst = some b → a ≠ b := by
  simp only [indep, Bool.and_eq_true] at h
  refine ⟨h.1.1, h.1.2, fun a b ha hb => ?_⟩
  have := h.2
  rw [ha, hb] at this
  simpa using this

theorem notIn_left {d : Option Nat} {l m : List Nat} (h : notIn d (l ++ m) = true) : notIn d l = true := by
  cases d with
  | none => rfl
  | some d => simp [notIn] at h ⊢; exact h.1

/-- What lays memory and can have what it asks for. -/
theorem allocs_ok {t i : IOper} (h : aheadHas t i = true) (ha : aheadOk fr t.ahead) : ∃ (o : AObj) (mk : Nat → AV), ∀ (k : AV → ASt → Prop) (st : ASt), aop P i.op fr st k ↔ ∀ id, st.h id = none → k (mk id) (st.new id o) := by
  unfold aheadHas at h
  split at h
  · rename_i zs hop; exact ⟨.cells zs, fun id => .ptr id 0, fun k st => by rw [hop]; simp [aop]⟩
  · rename_i sz b zs l c hop
    obtain ⟨p, hp, hs⟩ := List.any_eq_true.1 h
    have hmem : ∀ {l : List (IArg × IArg)}, aheadOk fr l → p ∈ l → ∃ n m, fr.val p.1 = .int .i64 n ∧ fr.val p.2 = .int .i64 m ∧ 0 ≤ n ∧ n = m ∧ n ≤ 4294967296 := by
      intro l
      induction l with
      | nil => intro _ h; cases h
      | cons q r ih =>
        intro hq hm
        rcases List.mem_cons.1 hm with rfl | hm
        · have := hq.1
          split at this
          · rename_i n m h1 h2; exact ⟨n, m, h1, h2, this⟩
          · exact this.elim
        · exact ih hq.2 hm
    obtain ⟨n, m, h1, h2, h3⟩ := hmem ha hp
    simp only [Bool.and_eq_true] at hs
    have same : ∀ {x y : IArg}, sameSlot x y = true → fr.val x = fr.val y := by
      intro x y hxy
      unfold sameSlot at hxy
      split at hxy
      · simp at hxy; rw [hxy]
      · simp at hxy; rw [hxy]
      · cases hxy
    rw [same hs.1] at h1
    rw [same hs.2] at h2
    refine ⟨.cells (zeros zs n.toNat), fun id => .sl sz id 0 n.toNat, fun k st => ?_⟩
    rw [hop]
    simp only [aop, h1, h2]
    exact ⟨fun x => x.2, fun x => ⟨h3, x⟩⟩
  · cases h

theorem frame_op {op : IOp} (h : (op.calls || op.allocs) = true) {Q : AV → ASt → Prop} (x : aop P op fr st Q) {id : Nat} (o : AObj) (hid : st.h id = none) :
    aop P op fr (st.new id o) fun v st'' => ∃ st', st'.h id = none ∧ st'' = st'.new id o ∧ Q v st' := by
  rw [Bool.or_eq_true] at h
  rcases h with h | h
  · cases op <;> simp only [IOp.calls] at h <;> try (cases h; done)
    · exact ACalls.frame x o hid
    · simp only [aop] at x ⊢
      split at x
      · exact ⟨x.1, x.2.frame o hid⟩
      · exact x
  · obtain ⟨c, ob, mk, hiff⟩ := allocs_iff (P := P) h fr
    rw [hiff] at x ⊢
    refine ⟨x.1, fun j hj => ?_⟩
    obtain ⟨h1, h2, h3⟩ := new_comm hid hj
    exact ⟨st.new j ob, h3, h1, x.2 j h2⟩

/-- What is owed for a load that is done later. -/
def heldV (t : IOper) (v : AV) (fr : AFr) (st : ASt) : Prop :=
  match t.guard with
  | none => t.op.again st fr = some v
  | some (g, want) => fr.get g = .bool want → t.op.again st fr = some v

theorem again_any {op : IOp} {v : AV} (hl : op.loads = true) (h : op.again st fr = some v) (k : AV → ASt → Prop) (hk : k v st) : aop P op fr st k := (loads_iff hl k fr st).2 ⟨v, h, hk⟩

/-- What reckons or loads yields a value, and the same one wherever it reads the same. -/
theorem nonEff_step {t : IOper} (h : t.op.still = true ∨ t.op.loads = true) {K : AFr → ASt → Prop} (x : astep0 P t K fr st) :
    ∃ v, K (fr.set t.dst v) st ∧ ∀ fr' st', Agree t.looks fr fr' → (t.op.still = true ∨ st' = st ∨ (∃ id o, st' = st.new id o) ∨ heldV t v fr' st') →
      ∀ K' : AFr → ASt → Prop, K' (fr'.set t.dst v) st' → astep0 P t K' fr' st' := by
  have run : aop P t.op fr st (fun v st' => K (fr.set t.dst v) st') → ∃ v, K (fr.set t.dst v) st ∧ ∀ fr' st', Agree t.looks fr fr' → (t.op.still = true ∨ st' = st ∨ (∃ id o, st' = st.new id o) ∨ t.op.again st' fr' = some v) →
      ∀ K' : AFr → ASt → Prop, K' (fr'.set t.dst v) st' → aop P t.op fr' st' fun u s => K' (fr'.set t.dst u) s := by
    intro y
    rcases h with h | h
    · rw [still_iff h] at y
      obtain ⟨v, y1, y2⟩ := y
      exact ⟨v, y2, fun fr' st' ha _ K' hk => (still_iff h _ fr' st').2 ⟨v, aop_congr (looks_op ha) y1, hk⟩⟩
    · rw [loads_iff h] at y
      obtain ⟨v, y1, y2⟩ := y
      refine ⟨v, y2, fun fr' st' ha hc K' hk => again_any h ?_ _ hk⟩
      rw [again_congr (looks_op ha)] at y1
      rcases hc with hc | rfl | ⟨id, o, rfl⟩ | hc
      · cases ho : t.op <;> rw [ho] at h hc <;> simp [IOp.loads, IOp.still] at h hc
      · exact y1
      · exact again_new y1 id o
      · exact hc
  unfold astep0 at x
  cases hg : t.guard with
  | none =>
    rw [hg] at x
    obtain ⟨v, h1, h2⟩ := run x
    refine ⟨v, h1, fun fr' st' ha hc K' hk => ?_⟩
    unfold astep0
    rw [hg]
    refine h2 fr' st' ha ?_ K' hk
    rcases hc with hc | hc | hc | hc
    · exact .inl hc
    · exact .inr (.inl hc)
    · exact .inr (.inr (.inl hc))
    · rw [heldV, hg] at hc; exact .inr (.inr (.inr hc))
  | some p =>
    obtain ⟨g, want⟩ := p
    rw [hg] at x
    simp only at x
    split at x
    · rename_i b hb
      split at x
      · rename_i hbw
        obtain ⟨v, h1, h2⟩ := run x
        refine ⟨v, h1, fun fr' st' ha hc K' hk => ?_⟩
        unfold astep0
        rw [hg]
        have hgb : fr'.get g = .bool b := by rw [← looks_guard ha hg]; exact hb
        simp only [hgb, if_pos hbw]
        refine h2 fr' st' ha ?_ K' hk
        rcases hc with hc | hc | hc | hc
        · exact .inl hc
        · exact .inr (.inl hc)
        · exact .inr (.inr (.inl hc))
        · rw [heldV, hg] at hc; exact .inr (.inr (.inr (hc (by rw [hgb, hbw]))))
      · rename_i hbw
        refine ⟨.tup [], x, fun fr' st' ha hc K' hk => ?_⟩
        unfold astep0
        rw [hg]
        have hgb : fr'.get g = .bool b := by rw [← looks_guard ha hg]; exact hb
        simp only [hgb, if_neg hbw]
        exact hk
    · rename_i hb
      refine ⟨.tup [], x, fun fr' st' ha hc K' hk => ?_⟩
      unfold astep0
      rw [hg]
      have hgb : fr'.get g = .tup [] := by rw [← looks_guard ha hg]; exact hb
      simp only [hgb]
      exact hk
    · exact x.elim

/-- What is known of the heap behind an operation, by its kind. -/
theorem astep0_know {i : IOper} {K : AFr → ASt → Prop} (x : astep0 P i K fr st) :
    astep0 P i (fun fr' st' => K fr' st' ∧ (i.op.still = true ∨ i.op.loads = true → st' = st) ∧ (i.op.allocs = true → st' = st ∨ ∃ id o, st' = st.new id o)) fr st := by
  have strong : ∀ Q : AV → ASt → Prop, aop P i.op fr st Q → aop P i.op fr st fun u st' => Q u st' ∧ (i.op.still = true ∨ i.op.loads = true → st' = st) ∧ (i.op.allocs = true → st' = st ∨ ∃ id o, st' = st.new id o) := by
    intro Q hq
    cases hs : i.op.still with
    | true =>
      rw [still_iff hs] at hq ⊢
      obtain ⟨x, hx, hq⟩ := hq
      exact ⟨x, hx, hq, fun _ => rfl, fun _ => .inl rfl⟩
    | false =>
      cases hl : i.op.loads with
      | true =>
        rw [loads_iff hl] at hq ⊢
        obtain ⟨x, hx, hq⟩ := hq
        exact ⟨x, hx, hq, fun _ => rfl, fun _ => .inl rfl⟩
      | false =>
        cases ha : i.op.allocs with
        | true =>
          obtain ⟨c, ob, mk, hiff⟩ := allocs_iff (P := P) ha fr
          rw [hiff] at hq ⊢
          exact ⟨hq.1, fun id hid => ⟨hq.2 id hid, fun e => by simp at e, fun _ => .inr ⟨id, ob, rfl⟩⟩⟩
        | false => exact aop_mono (fun u st' hq => ⟨hq, fun e => by simp at e, fun e => by simp at e⟩) hq
  unfold astep0 at x ⊢
  cases hg : i.guard with
  | none => rw [hg] at x; exact strong _ x
  | some p =>
    obtain ⟨g, want⟩ := p
    rw [hg] at x
    simp only at x ⊢
    split
    · rename_i b hb
      rw [hb] at x
      simp only at x
      split
      · rename_i hbw; rw [if_pos hbw] at x; exact strong _ x
      · rename_i hbw; rw [if_neg hbw] at x; exact ⟨x, by simp, by simp⟩
    · rename_i hb; rw [hb] at x; exact ⟨x, by simp, by simp⟩
    · rename_i h1 h2
      revert x
      generalize AFr.get fr g = a at h1 h2
      intro x
      split at x
      · exact absurd rfl (h1 _)
      · exact absurd rfl h2
      · exact x

theorem heldFor_spec {t i : IOper} (h : heldFor t i = true) : ∃ p ∈ i.held, t.dst = some p.dst ∧ p.guard = t.guard ∧ p.op = t.op := by
  obtain ⟨p, hp, h⟩ := List.any_eq_true.1 h
  simp only [Bool.and_eq_true, beq_iff_eq] at h
  refine ⟨p, hp, h.1.1, h.1.2, ?_⟩
  have h := h.2
  split at h
  · rename_i a b h1 h2; rw [h1, h2]; simp at h; rw [h]
  · rename_i m a n b h1 h2; rw [h1, h2]; simp at h; rw [h.1, h.2]
  · cases h

/-- A load that stands to the left of an operation: that one writes nothing that the load hangs on. -/
def LeftOk (t u : IOper) : Prop := t.op.loads = true → t.dst ≠ u.dst ∧ notIn u.dst t.looks = true

def EntryOf (t : IOper) (p : IHeld) : Prop := t.op.loads = true ∧ t.dst = some p.dst ∧ p.guard = t.guard ∧ p.op = t.op

theorem LeftOk.agree {t u : IOper} (h : LeftOk t u) {p : IHeld} (hp : EntryOf t p) (v : AV) : Agree p.slots (fr.set u.dst v) fr := by
  obtain ⟨h0, h1, h2, h3⟩ := hp
  obtain ⟨g1, g2⟩ := h h0
  intro s hs
  rw [get_set, if_neg]
  simp only [IHeld.slots, List.mem_cons] at hs
  rcases hs with rfl | hs
  · rw [← h1]; exact fun e => g1 e.symm
  · exact notIn_spec g2 s (by rw [h3, h2] at hs; exact hs)

/-- An operation that may go ahead of all that stand before it, is done first. -/
theorem front {k : AFr → ASt → Prop} (hk : ∀ fr fr' st, FrEq fr fr' → k fr st → k fr' st) {i : IOper} {post : List IOper} :
    ∀ (pre L : List IOper), (∀ t ∈ pre, condB t i = true ∨ condD t i = true) → pre.Pairwise LeftOk → (∀ t ∈ L, ∀ u ∈ pre, LeftOk t u) → ∀ fr st, aops P (pre ++ i :: post) k fr st →
      astep0 P i (fun fr' st' => (∀ t ∈ L, ∀ p ∈ i.held, EntryOf t p → heldOne st' fr' p) ∧ aops P (pre ++ post) k fr' st') fr st
  | [], L, _, _, _, fr, st, h => by
    refine astep0_mono (fun fr' st' x => ⟨fun t _ p hp _ => ?_, x.2⟩) h.2
    exact (heldOk_iff _ _ _).1 x.1 p hp
  | t :: pre, L, hc, hpw, hL, fr, st, h => by
    have hpw' := List.pairwise_cons.1 hpw
    have IH := front (post := post) hk pre (t :: L) (fun x hx => hc x (by simp [hx])) hpw'.2 (fun x hx u hu => by
      rcases List.mem_cons.1 hx with rfl | hx
      · exact hpw'.1 u hu
      · exact hL x hx u (by simp [hu]))
    obtain ⟨hah, hst⟩ := h
    rcases hc t (by simp) with hB | hD
    · -- 't' only reckons, or loads
      simp only [condB, Bool.and_eq_true] at hB
      obtain ⟨⟨⟨⟨hind, hnon⟩, htheld⟩, htahead⟩, hcl⟩ := hB
      obtain ⟨hti, hit, hne⟩ := indep_spec hind
      have htheld' : t.held = [] := by simpa using htheld
      have htahead' : t.ahead = [] := by simpa using htahead
      obtain ⟨v, h1, h2⟩ := nonEff_step (by simpa using hnon) hst
      have hI := astep0_know (IH _ _ h1.2)
      refine astep0_congr (Agree.set hti v) (fun u st' X => ?_) hI
      obtain ⟨⟨X1, X2⟩, X3, X4⟩ := X
      have hcomm : FrEq ((fr.set t.dst v).set i.dst u) ((fr.set i.dst u).set t.dst v) := set_comm fr v u hne
      refine ⟨fun x hx p hp he => ?_, ?_⟩
      · -- what is still owed
        refine heldOne_congr (fr := (fr.set t.dst v).set i.dst u) ?_ (X1 x (by simp [hx]) p hp he)
        intro s hs
        rw [hcomm s]
        exact (hL x hx t (by simp)).agree he v s hs
      · show aops P (t :: (pre ++ post)) k (fr.set i.dst u) st'
        refine ⟨by rw [htahead']; trivial, h2 _ _ (Agree.set hit u).symm ?_ _ ⟨by rw [htheld']; trivial, aops_ext hk _ _ _ _ hcomm X2⟩⟩
        rw [Bool.or_eq_true] at hcl
        rcases hcl with hcl | hcl
        · exact .inl hcl
        · simp only [Bool.and_eq_true, Bool.or_eq_true] at hcl
          obtain ⟨hself, ((hcl | hcl) | hcl) | hcl⟩ := hcl
          · exact .inr (.inl (X3 (.inl hcl)))
          · exact .inr (.inl (X3 (.inr hcl)))
          · rcases X4 hcl with e | e
            · exact .inr (.inl e)
            · exact .inr (.inr (.inl e))
          · obtain ⟨p, hp, hpd, hpg, hpo⟩ := heldFor_spec hcl
            by_cases hts : t.op.still = true
            · exact .inl hts
            have htl : t.op.loads = true := by simpa [hts] using hnon
            have hX := X1 t (by simp) p hp ⟨htl, hpd, hpg, hpo⟩
            have hdi : i.dst ≠ some p.dst := fun e => hne p.dst p.dst hpd e rfl
            have hget : ((fr.set t.dst v).set i.dst u).get p.dst = v := by
              rw [get_set, if_neg hdi, get_set, if_pos hpd]
            have hag : Agree t.op.slots ((fr.set t.dst v).set i.dst u) (fr.set i.dst u) := by
              intro s hs
              rw [hcomm s]
              exact Agree.set (notIn_left hself) v s hs
            refine .inr (.inr (.inr ?_))
            unfold heldOne at hX
            unfold heldV
            rw [hpg] at hX
            cases hg : t.guard with
            | none => rw [hg] at hX; simp only at hX ⊢; rw [hpo, again_congr hag, hget] at hX; exact hX
            | some q =>
              obtain ⟨g, want⟩ := q
              rw [hg] at hX
              simp only at hX ⊢
              intro e
              have hgl : (fr.set i.dst u).get g = ((fr.set t.dst v).set i.dst u).get g := by
                rw [hcomm g]
                refine (Agree.set (l := t.looks) hself v g ?_).symm
                simp [IOper.looks, hg, guardSlots]
              rw [hpo, again_congr hag, hget] at hX
              exact hX (by rw [← hgl]; exact e)
    · -- 't' calls, or lays new memory; 'i' lays new memory
      simp only [condD, Bool.and_eq_true] at hD
      obtain ⟨⟨⟨⟨⟨⟨⟨hind, hahas⟩, hig⟩, hih⟩, htc⟩, htg⟩, hth⟩, hta⟩ := hD
      obtain ⟨hti, hit, hne⟩ := indep_spec hind
      have hig' : i.guard = none := by simpa using hig
      have hih' : i.held = [] := by simpa using hih
      have htg' : t.guard = none := by simpa using htg
      obtain ⟨ob, mk, hiff⟩ := allocs_ok (P := P) hahas hah
      unfold astep0 at hst ⊢
      rw [htg'] at hst
      rw [hig']
      simp only at hst ⊢
      rw [hiff]
      intro id hid
      refine ⟨fun _ _ p hp _ => ?_, ?_⟩
      · rw [hih'] at hp; cases hp
      · show aops P (t :: (pre ++ post)) k (fr.set i.dst (mk id)) (st.new id ob)
        refine ⟨aheadOk_congr (fun p hp => (Agree.set (List.all_eq_true.1 hta p hp) _).symm) hah, ?_⟩
        unfold astep0
        rw [htg']
        simp only
        refine aop_congr (looks_op (Agree.set hit (mk id)).symm) ?_
        refine aop_mono ?_ (frame_op htc hst ob hid)
        rintro v st'' ⟨st1, hid1, rfl, hheld, hrest⟩
        have hcomm : FrEq ((fr.set t.dst v).set i.dst (mk id)) ((fr.set i.dst (mk id)).set t.dst v) := set_comm fr v (mk id) hne
        refine ⟨(heldOk_iff _ _ _).2 fun p hp => ?_, ?_⟩
        · have := heldOne_new ((heldOk_iff _ _ _).1 hheld p hp) id ob
          refine heldOne_congr ?_ this
          intro s hs
          rw [← hcomm s]
          exact (Agree.set (List.all_eq_true.1 hth p hp) (mk id) s hs).symm
        · have hI := IH _ _ hrest
          unfold astep0 at hI
          rw [hig'] at hI
          simp only at hI
          have hI2 := (hiff _ _).1 (aop_congr (looks_op (Agree.set hti v)) hI) id hid1
          exact aops_ext hk _ _ _ _ hcomm hI2.2

end
end Go.Proofs.Ytjamidgdhmjhaaa.Cn
