/- YtdmfgodajoojpaaGreatDoor: the abstract layer, texts CnDraw3, CnCode, CnRules, CnBase, CnMore, CnRead, CnNest, CnOwn, CnVals, CnTop, CnShapes, CnGraphM, CnChip: what each shows stands at its theorems; no condition. -/
import Derived.Test.YtdmfgodajoojpaaGreatDoorCnL1
import Derived.ChangeArms
import Derived.ChangeShapes
import Derived.Carry
import Derived.DataReads
/- The abstract layer, part 17: regions whose order is open: one order serves for all. -/
set_option linter.unusedSimpArgs false
set_option linter.unusedVariables false
namespace Go.Proofs.YtdmfgodajoojpaaGreatDoor.Cn
open Go Go.RowKit

def guardSlots : Option (Nat × Bool) → List Nat
  | none => []
  | some (g, _) => [g]

def IOper.looks (o : IOper) : List Nat := o.op.slots ++ guardSlots o.guard

def IHeld.slots (h : IHeld) : List Nat := h.dst :: (h.op.slots ++ guardSlots h.guard)

def notIn (d : Option Nat) (l : List Nat) : Bool :=
  match d with
  | none => true
  | some d => !l.contains d

def indep (t i : IOper) : Bool := notIn t.dst i.looks && notIn i.dst t.looks && (match t.dst, i.dst with | some a, some b => a != b | _, _ => true)

def heldFor (t : IOper) (i : IOper) : Bool :=
  i.held.any fun h => t.dst == some h.dst && h.guard == t.guard && (match h.op, t.op with
    | .load1 (.slot a), .load1 (.slot b) => a == b
    | .loadN m (.slot a), .loadN n (.slot b) => a == b && m == n
    | _, _ => false)

def condB (t i : IOper) : Bool :=
  indep t i && (t.op.still || t.op.loads) && t.held.isEmpty && t.ahead.isEmpty &&
  (t.op.still || (notIn t.dst t.looks && (i.op.still || i.op.loads || i.op.allocs || heldFor t i)))

def sameSlot : IArg → IArg → Bool
  | .slot a, .slot b => a == b
  | .cst (.int .i64 a), .cst (.int .i64 b) => a == b
  | _, _ => false

def aheadHas (t i : IOper) : Bool :=
  match i.op with
  | .alloc _ => true
  | .makeSlice _ _ _ l c => t.ahead.any fun p => sameSlot p.1 l && sameSlot p.2 c
  | _ => false

def condD (t i : IOper) : Bool :=
  indep t i && aheadHas t i && i.guard.isNone && i.held.isEmpty && (t.op.calls || t.op.allocs) && t.guard.isNone &&
  t.held.all (fun h => notIn i.dst h.slots) && t.ahead.all (fun p => notIn i.dst (p.1.slots ++ p.2.slots))

def FrEq (fr fr' : AFr) : Prop := ∀ s, fr.get s = fr'.get s

theorem FrEq.agree {fr fr' : AFr} (h : FrEq fr fr') (l : List Nat) : Agree l fr fr' := fun s _ => h s
theorem FrEq.symm {fr fr' : AFr} (h : FrEq fr fr') : FrEq fr' fr := fun s => (h s).symm

theorem get_set (fr : AFr) (d : Option Nat) (v : AV) (s : Nat) : (fr.set d v).get s = if d = some s then v else fr.get s := by
  cases d with
  | none => simp [AFr.set]
  | some d => simp only [AFr.set, AFr.get_cons, Option.some.injEq]

theorem FrEq.set {fr fr' : AFr} (h : FrEq fr fr') (d : Option Nat) (v : AV) : FrEq (fr.set d v) (fr'.set d v) := fun s => by
  rw [get_set, get_set]; split
  · rfl
  · exact h s

theorem set_comm (fr : AFr) {d e : Option Nat} (u v : AV) (h : ∀ a b, d = some a → e = some b → a ≠ b) : FrEq ((fr.set d u).set e v) ((fr.set e v).set d u) := fun s => by
  simp only [get_set]
  by_cases hd : d = some s
  · by_cases he : e = some s
    · exact absurd rfl (h s s hd he)
    · simp [hd, he]
  · by_cases he : e = some s <;> simp [hd, he]

theorem notIn_spec {d : Option Nat} {l : List Nat} (h : notIn d l = true) : ∀ s ∈ l, d ≠ some s := by
  intro s hs e
  subst e
  simp [notIn, hs] at h

theorem Agree.set {fr : AFr} {d : Option Nat} {l : List Nat} (h : notIn d l = true) (v : AV) : Agree l (fr.set d v) fr := fun s hs => by
  rw [get_set, if_neg (notIn_spec h s hs)]

theorem Agree.sub {l m : List Nat} {fr fr' : AFr} (h : Agree l fr fr') (hs : ∀ s ∈ m, s ∈ l) : Agree m fr fr' := fun s x => h s (hs s x)
theorem Agree.symm {l : List Nat} {fr fr' : AFr} (h : Agree l fr fr') : Agree l fr' fr := fun s x => (h s x).symm

section
variable {P : Program} {fr fr' : AFr} {st : ASt}

def heldOne (st : ASt) (fr : AFr) (p : IHeld) : Prop :=
  match p.guard with
  | none => p.op.again st fr = some (fr.get p.dst)
  | some (g, want) => fr.get g = .bool want → p.op.again st fr = some (fr.get p.dst)

theorem heldOk_iff (st : ASt) (fr : AFr) : ∀ l, heldOk st fr l ↔ ∀ p ∈ l, heldOne st fr p
  | [] => by simp [heldOk]
  | p :: r => by
    simp only [heldOk, heldOk_iff st fr r, List.mem_cons, forall_eq_or_imp]
    exact Iff.rfl

theorem again_congr {op : IOp} (h : Agree op.slots fr fr') : op.again st fr = op.again st fr' := by
  cases op <;> simp only [IOp.again, IOp.slots] at h ⊢
  · rw [h.val]
  · rw [h.val]

theorem heldOne_congr {p : IHeld} (h : Agree p.slots fr fr') (x : heldOne st fr p) : heldOne st fr' p := by
  have h1 : fr.get p.dst = fr'.get p.dst := h _ (by simp [IHeld.slots])
  have h2 : Agree p.op.slots fr fr' := h.sub fun s hs => by simp [IHeld.slots, hs]
  unfold heldOne at x ⊢
  split at x
  · rw [← again_congr h2, ← h1]; exact x
  · rename_i g want hg
    have h3 : fr.get g = fr'.get g := h _ (by simp [IHeld.slots, hg, guardSlots])
    intro e
    rw [← again_congr h2, ← h1]
    exact x (by rw [h3]; exact e)

theorem heldOne_new {p : IHeld} (x : heldOne st fr p) (id : Nat) (o : AObj) : heldOne (st.new id o) fr p := by
  unfold heldOne at x ⊢
  split at x
  · exact again_new x id o
  · exact fun e => again_new (x e) id o

theorem aheadOk_congr : ∀ {l : List (IArg × IArg)}, (∀ p ∈ l, Agree (p.1.slots ++ p.2.slots) fr fr') → aheadOk fr l → aheadOk fr' l
  | [], _, _ => trivial
  | p :: r, h, x => by
    have h0 := h p (by simp)
    refine ⟨?_, aheadOk_congr (fun q hq => h q (by simp [hq])) x.2⟩
    have := x.1
    rw [h0.left.val, h0.right.val] at this
    exact this

theorem looks_op {o : IOper} (h : Agree o.looks fr fr') : Agree o.op.slots fr fr' := h.sub fun s hs => by simp [IOper.looks, hs]

theorem looks_guard {o : IOper} (h : Agree o.looks fr fr') {g : Nat} {b : Bool} (hg : o.guard = some (g, b)) : fr.get g = fr'.get g := h g (by simp [IOper.looks, hg, guardSlots])

theorem astep0_congr {o : IOper} {k k' : AFr → ASt → Prop} (h : Agree o.looks fr fr') (hk : ∀ v st', k (fr.set o.dst v) st' → k' (fr'.set o.dst v) st') (x : astep0 P o k fr st) : astep0 P o k' fr' st := by
  unfold astep0 at x ⊢
  cases hg : o.guard with
  | none =>
    rw [hg] at x
    exact aop_congr (looks_op h) (aop_mono hk x)
  | some p =>
    obtain ⟨g, want⟩ := p
    rw [hg] at x
    simp only at x ⊢
    rw [← looks_guard h hg]
    split
    · rename_i b hb
      rw [hb] at x
      simp only at x
      split
      · rename_i hbw; rw [if_pos hbw] at x; exact aop_congr (looks_op h) (aop_mono hk x)
      · rename_i hbw; rw [if_neg hbw] at x; exact hk _ _ x
    · rename_i hb
      rw [hb] at x
      exact hk _ _ x
    · rename_i h1 h2
      revert x
      generalize fr.get g = a at h1 h2
      intro x
      split at x
      · exact absurd rfl (h1 _)
      · exact absurd rfl h2
      · exact x

theorem aops_ext {k : AFr → ASt → Prop} (hk : ∀ fr fr' st, FrEq fr fr' → k fr st → k fr' st) : ∀ (os : List IOper) (fr fr' : AFr) (st : ASt), FrEq fr fr' → aops P os k fr st → aops P os k fr' st
  | [], fr, fr', st, h, x => hk fr fr' st h x
  | o :: os, fr, fr', st, h, x => by
    refine ⟨aheadOk_congr (fun p _ => h.agree _) x.1, astep0_congr (h.agree _) (fun v st' y => ?_) x.2⟩
    rw [heldOk_iff] at y ⊢
    exact ⟨fun p hp => heldOne_congr ((h.set o.dst v).agree _) (y.1 p hp), aops_ext hk os _ _ st' (h.set o.dst v) y.2⟩

theorem indep_spec {t i : IOper} (h : indep t i = true) : notIn t.dst i.looks = true ∧ notIn i.dst t.looks = true ∧ ∀ a b, t.dst = some a → i.dst = some b → a ≠ b := by
  simp only [indep, Bool.and_eq_true] at h
  refine ⟨h.1.1, h.1.2, fun a b ha hb => ?_⟩
  have := h.2
  rw [ha, hb] at this
  simpa using this

theorem notIn_left {d : Option Nat} {l m : List Nat} (h : notIn d (l ++ m) = true) : notIn d l = true := by
  cases d with
  | none => rfl
  | some d => simp [notIn] at h ⊢; exact h.1

theorem allocs_ok {t i : IOper} (h : aheadHas t i = true) (ha : aheadOk fr t.ahead) : ∃ (o : AObj) (mk : Nat → AV), ∀ (k : AV → ASt → Prop) (st : ASt), aop P i.op fr st k ↔ ∀ id, st.h id = none → k (mk id) (st.new id o) := by
  unfold aheadHas at h
  split at h
  · rename_i zs hop; exact ⟨.cells zs, fun id => .ptr id 0, fun k st => by rw [hop]; simp [aop]⟩
  · rename_i sz b zs l c hop
    obtain ⟨p, hp, hs⟩ := List.any_eq_true.1 h
    have hmem : ∀ {l : List (IArg × IArg)}, aheadOk fr l → p ∈ l → ∃ n m, fr.val p.1 = .int .i64 n ∧ fr.val p.2 = .int .i64 m ∧ 0 ≤ n ∧ n = m ∧ n ≤ 4294967296 := by
      intro l
      induction l with
      | nil => intro _ h; cases h
      | cons q r ih =>
        intro hq hm
        rcases List.mem_cons.1 hm with rfl | hm
        · have := hq.1
          split at this
          · rename_i n m h1 h2; exact ⟨n, m, h1, h2, this⟩
          · exact this.elim
        · exact ih hq.2 hm
    obtain ⟨n, m, h1, h2, h3⟩ := hmem ha hp
    simp only [Bool.and_eq_true] at hs
    have same : ∀ {x y : IArg}, sameSlot x y = true → fr.val x = fr.val y := by
      intro x y hxy
      unfold sameSlot at hxy
      split at hxy
      · simp at hxy; rw [hxy]
      · simp at hxy; rw [hxy]
      · cases hxy
    rw [same hs.1] at h1
    rw [same hs.2] at h2
    refine ⟨.cells (zeros zs n.toNat), fun id => .sl sz id 0 n.toNat, fun k st => ?_⟩
    rw [hop]
    simp only [aop, h1, h2]
    exact ⟨fun x => x.2, fun x => ⟨h3, x⟩⟩
  · cases h

theorem frame_op {op : IOp} (h : (op.calls || op.allocs) = true) {Q : AV → ASt → Prop} (x : aop P op fr st Q) {id : Nat} (o : AObj) (hid : st.h id = none) :
    aop P op fr (st.new id o) fun v st'' => ∃ st', st'.h id = none ∧ st'' = st'.new id o ∧ Q v st' := by
  rw [Bool.or_eq_true] at h
  rcases h with h | h
  · cases op <;> simp only [IOp.calls] at h <;> try (cases h; done)
    · exact ACalls.frame x o hid
    · simp only [aop] at x ⊢
      split at x
      · exact ⟨x.1, x.2.frame o hid⟩
      · exact x
  · obtain ⟨c, ob, mk, hiff⟩ := allocs_iff (P := P) h fr
    rw [hiff] at x ⊢
    refine ⟨x.1, fun j hj => ?_⟩
    obtain ⟨h1, h2, h3⟩ := new_comm hid hj
    exact ⟨st.new j ob, h3, h1, x.2 j h2⟩

def heldV (t : IOper) (v : AV) (fr : AFr) (st : ASt) : Prop :=
  match t.guard with
  | none => t.op.again st fr = some v
  | some (g, want) => fr.get g = .bool want → t.op.again st fr = some v

theorem again_any {op : IOp} {v : AV} (hl : op.loads = true) (h : op.again st fr = some v) (k : AV → ASt → Prop) (hk : k v st) : aop P op fr st k := (loads_iff hl k fr st).2 ⟨v, h, hk⟩

theorem nonEff_step {t : IOper} (h : t.op.still = true ∨ t.op.loads = true) {K : AFr → ASt → Prop} (x : astep0 P t K fr st) :
    ∃ v, K (fr.set t.dst v) st ∧ ∀ fr' st', Agree t.looks fr fr' → (t.op.still = true ∨ st' = st ∨ (∃ id o, st' = st.new id o) ∨ heldV t v fr' st') →
      ∀ K' : AFr → ASt → Prop, K' (fr'.set t.dst v) st' → astep0 P t K' fr' st' := by
  have run : aop P t.op fr st (fun v st' => K (fr.set t.dst v) st') → ∃ v, K (fr.set t.dst v) st ∧ ∀ fr' st', Agree t.looks fr fr' → (t.op.still = true ∨ st' = st ∨ (∃ id o, st' = st.new id o) ∨ t.op.again st' fr' = some v) →
      ∀ K' : AFr → ASt → Prop, K' (fr'.set t.dst v) st' → aop P t.op fr' st' fun u s => K' (fr'.set t.dst u) s := by
    intro y
    rcases h with h | h
    · rw [still_iff h] at y
      obtain ⟨v, y1, y2⟩ := y
      exact ⟨v, y2, fun fr' st' ha _ K' hk => (still_iff h _ fr' st').2 ⟨v, aop_congr (looks_op ha) y1, hk⟩⟩
    · rw [loads_iff h] at y
      obtain ⟨v, y1, y2⟩ := y
      refine ⟨v, y2, fun fr' st' ha hc K' hk => again_any h ?_ _ hk⟩
      rw [again_congr (looks_op ha)] at y1
      rcases hc with hc | rfl | ⟨id, o, rfl⟩ | hc
      · cases ho : t.op <;> rw [ho] at h hc <;> simp [IOp.loads, IOp.still] at h hc
      · exact y1
      · exact again_new y1 id o
      · exact hc
  unfold astep0 at x
  cases hg : t.guard with
  | none =>
    rw [hg] at x
    obtain ⟨v, h1, h2⟩ := run x
    refine ⟨v, h1, fun fr' st' ha hc K' hk => ?_⟩
    unfold astep0
    rw [hg]
    refine h2 fr' st' ha ?_ K' hk
    rcases hc with hc | hc | hc | hc
    · exact .inl hc
    · exact .inr (.inl hc)
    · exact .inr (.inr (.inl hc))
    · rw [heldV, hg] at hc; exact .inr (.inr (.inr hc))
  | some p =>
    obtain ⟨g, want⟩ := p
    rw [hg] at x
    simp only at x
    split at x
    · rename_i b hb
      split at x
      · rename_i hbw
        obtain ⟨v, h1, h2⟩ := run x
        refine ⟨v, h1, fun fr' st' ha hc K' hk => ?_⟩
        unfold astep0
        rw [hg]
        have hgb : fr'.get g = .bool b := by rw [← looks_guard ha hg]; exact hb
        simp only [hgb, if_pos hbw]
        refine h2 fr' st' ha ?_ K' hk
        rcases hc with hc | hc | hc | hc
        · exact .inl hc
        · exact .inr (.inl hc)
        · exact .inr (.inr (.inl hc))
        · rw [heldV, hg] at hc; exact .inr (.inr (.inr (hc (by rw [hgb, hbw]))))
      · rename_i hbw
        refine ⟨.tup [], x, fun fr' st' ha hc K' hk => ?_⟩
        unfold astep0
        rw [hg]
        have hgb : fr'.get g = .bool b := by rw [← looks_guard ha hg]; exact hb
        simp only [hgb, if_neg hbw]
        exact hk
    · rename_i hb
      refine ⟨.tup [], x, fun fr' st' ha hc K' hk => ?_⟩
      unfold astep0
      rw [hg]
      have hgb : fr'.get g = .tup [] := by rw [← looks_guard ha hg]; exact hb
      simp only [hgb]
      exact hk
    · exact x.elim

theorem astep0_know {i : IOper} {K : AFr → ASt → Prop} (x : astep0 P i K fr st) :
    astep0 P i (fun fr' st' => K fr' st' ∧ (i.op.still = true ∨ i.op.loads = true → st' = st) ∧ (i.op.allocs = true → st' = st ∨ ∃ id o, st' = st.new id o)) fr st := by
  have strong : ∀ Q : AV → ASt → Prop, aop P i.op fr st Q → aop P i.op fr st fun u st' => Q u st' ∧ (i.op.still = true ∨ i.op.loads = true → st' = st) ∧ (i.op.allocs = true → st' = st ∨ ∃ id o, st' = st.new id o) := by
    intro Q hq
    cases hs : i.op.still with
    | true =>
      rw [still_iff hs] at hq ⊢
      obtain ⟨x, hx, hq⟩ := hq
      exact ⟨x, hx, hq, fun _ => rfl, fun _ => .inl rfl⟩
    | false =>
      cases hl : i.op.loads with
      | true =>
        rw [loads_iff hl] at hq ⊢
        obtain ⟨x, hx, hq⟩ := hq
        exact ⟨x, hx, hq, fun _ => rfl, fun _ => .inl rfl⟩
      | false =>
        cases ha : i.op.allocs with
        | true =>
          obtain ⟨c, ob, mk, hiff⟩ := allocs_iff (P := P) ha fr
          rw [hiff] at hq ⊢
          exact ⟨hq.1, fun id hid => ⟨hq.2 id hid, fun e => by simp at e, fun _ => .inr ⟨id, ob, rfl⟩⟩⟩
        | false => exact aop_mono (fun u st' hq => ⟨hq, fun e => by simp at e, fun e => by simp at e⟩) hq
  unfold astep0 at x ⊢
  cases hg : i.guard with
  | none => rw [hg] at x; exact strong _ x
  | some p =>
    obtain ⟨g, want⟩ := p
    rw [hg] at x
    simp only at x ⊢
    split
    · rename_i b hb
      rw [hb] at x
      simp only at x
      split
      · rename_i hbw; rw [if_pos hbw] at x; exact strong _ x
      · rename_i hbw; rw [if_neg hbw] at x; exact ⟨x, by simp, by simp⟩
    · rename_i hb; rw [hb] at x; exact ⟨x, by simp, by simp⟩
    · rename_i h1 h2
      revert x
      generalize AFr.get fr g = a at h1 h2
      intro x
      split at x
      · exact absurd rfl (h1 _)
      · exact absurd rfl h2
      · exact x

theorem heldFor_spec {t i : IOper} (h : heldFor t i = true) : ∃ p ∈ i.held, t.dst = some p.dst ∧ p.guard = t.guard ∧ p.op = t.op := by
  obtain ⟨p, hp, h⟩ := List.any_eq_true.1 h
  simp only [Bool.and_eq_true, beq_iff_eq] at h
  refine ⟨p, hp, h.1.1, h.1.2, ?_⟩
  have h := h.2
  split at h
  · rename_i a b h1 h2; rw [h1, h2]; simp at h; rw [h]
  · rename_i m a n b h1 h2; rw [h1, h2]; simp at h; rw [h.1, h.2]
  · cases h

def LeftOk (t u : IOper) : Prop := t.op.loads = true → t.dst ≠ u.dst ∧ notIn u.dst t.looks = true

def EntryOf (t : IOper) (p : IHeld) : Prop := t.op.loads = true ∧ t.dst = some p.dst ∧ p.guard = t.guard ∧ p.op = t.op

theorem LeftOk.agree {t u : IOper} (h : LeftOk t u) {p : IHeld} (hp : EntryOf t p) (v : AV) : Agree p.slots (fr.set u.dst v) fr := by
  obtain ⟨h0, h1, h2, h3⟩ := hp
  obtain ⟨g1, g2⟩ := h h0
  intro s hs
  rw [get_set, if_neg]
  simp only [IHeld.slots, List.mem_cons] at hs
  rcases hs with rfl | hs
  · rw [← h1]; exact fun e => g1 e.symm
  · exact notIn_spec g2 s (by rw [h3, h2] at hs; exact hs)

theorem front {k : AFr → ASt → Prop} (hk : ∀ fr fr' st, FrEq fr fr' → k fr st → k fr' st) {i : IOper} {post : List IOper} :
    ∀ (pre L : List IOper), (∀ t ∈ pre, condB t i = true ∨ condD t i = true) → pre.Pairwise LeftOk → (∀ t ∈ L, ∀ u ∈ pre, LeftOk t u) → ∀ fr st, aops P (pre ++ i :: post) k fr st →
      astep0 P i (fun fr' st' => (∀ t ∈ L, ∀ p ∈ i.held, EntryOf t p → heldOne st' fr' p) ∧ aops P (pre ++ post) k fr' st') fr st
  | [], L, _, _, _, fr, st, h => by
    refine astep0_mono (fun fr' st' x => ⟨fun t _ p hp _ => ?_, x.2⟩) h.2
    exact (heldOk_iff _ _ _).1 x.1 p hp
  | t :: pre, L, hc, hpw, hL, fr, st, h => by
    have hpw' := List.pairwise_cons.1 hpw
    have IH := front (post := post) hk pre (t :: L) (fun x hx => hc x (by simp [hx])) hpw'.2 (fun x hx u hu => by
      rcases List.mem_cons.1 hx with rfl | hx
      · exact hpw'.1 u hu
      · exact hL x hx u (by simp [hu]))
    obtain ⟨hah, hst⟩ := h
    rcases hc t (by simp) with hB | hD
    · -- 't' only reckons, or loads
      simp only [condB, Bool.and_eq_true] at hB
      obtain ⟨⟨⟨⟨hind, hnon⟩, htheld⟩, htahead⟩, hcl⟩ := hB
      obtain ⟨hti, hit, hne⟩ := indep_spec hind
      have htheld' : t.held = [] := by simpa using htheld
      have htahead' : t.ahead = [] := by simpa using htahead
      obtain ⟨v, h1, h2⟩ := nonEff_step (by simpa using hnon) hst
      have hI := astep0_know (IH _ _ h1.2)
      refine astep0_congr (Agree.set hti v) (fun u st' X => ?_) hI
      obtain ⟨⟨X1, X2⟩, X3, X4⟩ := X
      have hcomm : FrEq ((fr.set t.dst v).set i.dst u) ((fr.set i.dst u).set t.dst v) := set_comm fr v u hne
      refine ⟨fun x hx p hp he => ?_, ?_⟩
      · -- what is still owed
        refine heldOne_congr (fr := (fr.set t.dst v).set i.dst u) ?_ (X1 x (by simp [hx]) p hp he)
        intro s hs
        rw [hcomm s]
        exact (hL x hx t (by simp)).agree he v s hs
      · show aops P (t :: (pre ++ post)) k (fr.set i.dst u) st'
        refine ⟨by rw [htahead']; trivial, h2 _ _ (Agree.set hit u).symm ?_ _ ⟨by rw [htheld']; trivial, aops_ext hk _ _ _ _ hcomm X2⟩⟩
        rw [Bool.or_eq_true] at hcl
        rcases hcl with hcl | hcl
        · exact .inl hcl
        · simp only [Bool.and_eq_true, Bool.or_eq_true] at hcl
          obtain ⟨hself, ((hcl | hcl) | hcl) | hcl⟩ := hcl
          · exact .inr (.inl (X3 (.inl hcl)))
          · exact .inr (.inl (X3 (.inr hcl)))
          · rcases X4 hcl with e | e
            · exact .inr (.inl e)
            · exact .inr (.inr (.inl e))
          · obtain ⟨p, hp, hpd, hpg, hpo⟩ := heldFor_spec hcl
            by_cases hts : t.op.still = true
            · exact .inl hts
            have htl : t.op.loads = true := by simpa [hts] using hnon
            have hX := X1 t (by simp) p hp ⟨htl, hpd, hpg, hpo⟩
            have hdi : i.dst ≠ some p.dst := fun e => hne p.dst p.dst hpd e rfl
            have hget : ((fr.set t.dst v).set i.dst u).get p.dst = v := by
              rw [get_set, if_neg hdi, get_set, if_pos hpd]
            have hag : Agree t.op.slots ((fr.set t.dst v).set i.dst u) (fr.set i.dst u) := by
              intro s hs
              rw [hcomm s]
              exact Agree.set (notIn_left hself) v s hs
            refine .inr (.inr (.inr ?_))
            unfold heldOne at hX
            unfold heldV
            rw [hpg] at hX
            cases hg : t.guard with
            | none => rw [hg] at hX; simp only at hX ⊢; rw [hpo, again_congr hag, hget] at hX; exact hX
            | some q =>
              obtain ⟨g, want⟩ := q
              rw [hg] at hX
              simp only at hX ⊢
              intro e
              have hgl : (fr.set i.dst u).get g = ((fr.set t.dst v).set i.dst u).get g := by
                rw [hcomm g]
                refine (Agree.set (l := t.looks) hself v g ?_).symm
                simp [IOper.looks, hg, guardSlots]
              rw [hpo, again_congr hag, hget] at hX
              exact hX (by rw [← hgl]; exact e)
    · -- 't' calls, or lays new memory; 'i' lays new memory
      simp only [condD, Bool.and_eq_true] at hD
      obtain ⟨⟨⟨⟨⟨⟨⟨hind, hahas⟩, hig⟩, hih⟩, htc⟩, htg⟩, hth⟩, hta⟩ := hD
      obtain ⟨hti, hit, hne⟩ := indep_spec hind
      have hig' : i.guard = none := by simpa using hig
      have hih' : i.held = [] := by simpa using hih
      have htg' : t.guard = none := by simpa using htg
      obtain ⟨ob, mk, hiff⟩ := allocs_ok (P := P) hahas hah
      unfold astep0 at hst ⊢
      rw [htg'] at hst
      rw [hig']
      simp only at hst ⊢
      rw [hiff]
      intro id hid
      refine ⟨fun _ _ p hp _ => ?_, ?_⟩
      · rw [hih'] at hp; cases hp
      · show aops P (t :: (pre ++ post)) k (fr.set i.dst (mk id)) (st.new id ob)
        refine ⟨aheadOk_congr (fun p hp => (Agree.set (List.all_eq_true.1 hta p hp) _).symm) hah, ?_⟩
        unfold astep0
        rw [htg']
        simp only
        refine aop_congr (looks_op (Agree.set hit (mk id)).symm) ?_
        refine aop_mono ?_ (frame_op htc hst ob hid)
        rintro v st'' ⟨st1, hid1, rfl, hheld, hrest⟩
        have hcomm : FrEq ((fr.set t.dst v).set i.dst (mk id)) ((fr.set i.dst (mk id)).set t.dst v) := set_comm fr v (mk id) hne
        refine ⟨(heldOk_iff _ _ _).2 fun p hp => ?_, ?_⟩
        · have := heldOne_new ((heldOk_iff _ _ _).1 hheld p hp) id ob
          refine heldOne_congr ?_ this
          intro s hs
          rw [← hcomm s]
          exact (Agree.set (List.all_eq_true.1 hth p hp) (mk id) s hs).symm
        · have hI := IH _ _ hrest
          unfold astep0 at hI
          rw [hig'] at hI
          simp only at hI
          have hI2 := (hiff _ _).1 (aop_congr (looks_op (Agree.set hti v)) hI) id hid1
          exact aops_ext hk _ _ _ _ hcomm hI2.2

end
end Go.Proofs.YtdmfgodajoojpaaGreatDoor.Cn
/- The abstract layer, part 18: whole functions: what is shown of the intermediate code holds of the program's code. -/
set_option linter.unusedSimpArgs false
set_option linter.unusedVariables false
namespace Go.Proofs.YtdmfgodajoojpaaGreatDoor.Cn
open Go Go.RowKit

def predsOf (o : Oper) : List Nat := o.after.toList.filterMap fun e => if Region.binds .any e then some e.on else none

def noneff (P : Program) (o : Oper) : Bool :=
  match compOp P o.op with
  | some io => io.still || io.loads
  | none => false

def opAt (ops : Array Oper) (i : Nat) : Oper := (ops[i]?).getD default

def canonGo (P : Program) (ops : Array Oper) : Nat → List Nat → List Nat
  | 0, _ => []
  | f + 1, left =>
    let ready := left.filter fun i => (predsOf (opAt ops i)).all fun p => !left.contains p
    match ready.find? fun i => noneff P (opAt ops i) with
    | some i => i :: canonGo P ops f (left.filter (· != i))
    | none => match ready with
      | i :: _ => i :: canonGo P ops f (left.filter (· != i))
      | [] => []

def closTab : List Oper → List Nat → List Nat
  | [], acc => acc
  | o :: r, acc => closTab r (acc ++ [(predsOf o).foldl (fun m p => m ||| 2 ^ p ||| acc.getD p 0) 0])

def waits (tab : List Nat) (i t : Nat) : Bool := (tab.getD i 0).testBit t

def heldOf (tab : List Nat) (i : Nat) : List (Nat × IOper) → List IHeld
  | [] => []
  | (t, x) :: r => if x.op.loads && !waits tab i t then (match x.dst with | some d => [{ op := x.op, dst := d, guard := x.guard }] | none => []) ++ heldOf tab i r else heldOf tab i r

def aheadOf (tab : List Nat) (t : Nat) : List (Nat × IOper) → List (IArg × IArg)
  | [] => []
  | (i, x) :: r => match x.op with
    | .makeSlice _ _ _ l c => if waits tab i t then aheadOf tab t r else (l, c) :: aheadOf tab t r
    | _ => aheadOf tab t r

def annot (tab : List Nat) : List (Nat × IOper) → List (Nat × IOper) → List (Nat × IOper)
  | _, [] => []
  | pre, (i, x) :: r =>
    let h := if x.op.still || x.op.loads || x.op.allocs then [] else heldOf tab i pre
    let g := if x.op.calls || x.op.allocs then aheadOf tab i r else []
    (i, { x with held := h, ahead := g }) :: annot tab (pre ++ [(i, x)]) r

def pairOk (ops : Array Oper) (tab : List Nat) (x y : Nat × IOper) : Bool :=
  (condB x.2 y.2 || condD x.2 y.2 || waits tab y.1 x.1) && (!x.2.op.loads || (x.2.dst != y.2.dst && notIn y.2.dst x.2.looks)) && !(predsOf (opAt ops x.1)).contains y.1

def allPairs {α : Type} (f : α → α → Bool) : List α → Bool
  | [] => true
  | x :: r => r.all (f x) && allPairs f r

def nodupB : List Nat → Bool
  | [] => true
  | x :: r => !r.contains x && nodupB r

def predsOk (ops : Array Oper) (i : Nat) : Bool := (predsOf (opAt ops i)).all fun p => decide (p < ops.size) && p != i

def compDraw (P : Program) (n : Nat) (ops : Array Oper) : Option (List IOper) :=
  let perm := canonGo P ops ops.size (List.range ops.size)
  let tab := closTab ops.toList []
  match compIdx P n ops perm with
  | some il =>
    let T := annot tab [] (perm.zip il)
    if allPairs (pairOk ops tab) T && nodupB perm && (List.range ops.size).all (fun i => perm.contains i && predsOk ops i) && perm.all (fun i => decide (i < ops.size)) then some (T.map (·.2)) else none
  | none => none

def compRegion (P : Program) (n : Nat) (ops : Array Oper) (draw : Bool) : Option (List IOper) :=
  if draw then compDraw P n ops else compIdx P n ops (List.range ops.size)

def compCode (P : Program) (n : Nat) : Code → Option ICode
  | .skip => some .skip
  | .region _ ops draw => (compRegion P n ops draw).map .region
  | .seq a b => match compCode P n a, compCode P n b with
    | some x, some y => some (.seq x y)
    | _, _ => none
  | .cond c a b => match cArg c, compCode P n a, compCode P n b with
    | some z, some x, some y => some (.cond z x y)
    | _, _, _ => none
  | .block id c => (compCode P n c).map (.block id)
  | .loop c => (compCode P n c).map .loop
  | .exit id => some (.exit id)
  | .ret => some .ret
  | _ => none

def ICode.erase : ICode → ICode
  | .keep _ c => c.erase
  | .ghost c => c.erase
  | .seq a b => .seq a.erase b.erase
  | .cond c a b => .cond c a.erase b.erase
  | .block id c => .block id c.erase
  | .loop c => .loop c.erase
  | c => c

theorem allPairs_spec {α : Type} {f : α → α → Bool} : ∀ {l : List α}, allPairs f l = true → l.Pairwise fun x y => f x y = true
  | [], _ => .nil
  | x :: r, h => by
    simp only [allPairs, Bool.and_eq_true] at h
    exact List.pairwise_cons.2 ⟨fun y hy => List.all_eq_true.1 h.1 y hy, allPairs_spec h.2⟩

theorem nodupB_spec : ∀ {l : List Nat}, nodupB l = true → l.Nodup
  | [], _ => .nil
  | x :: r, h => by
    simp only [nodupB, Bool.and_eq_true] at h
    refine List.pairwise_cons.2 ⟨fun y hy e => ?_, nodupB_spec h.2⟩
    subst e
    simp [hy] at h

def Closed (ops : Array Oper) (listed : Array Bool) : Prop := ∀ i, listed.getD i false = true → ∀ p ∈ predsOf (opAt ops i), listed.getD p false = true

theorem foldl_bits (acc : List Nat) (t : Nat) : ∀ (l : List Nat) (m : Nat), (l.foldl (fun m p => m ||| 2 ^ p ||| acc.getD p 0) m).testBit t = true → m.testBit t = true ∨ ∃ p ∈ l, p = t ∨ (acc.getD p 0).testBit t = true
  | [], m, h => .inl h
  | p :: l, m, h => by
    simp only [List.foldl_cons] at h
    rcases foldl_bits acc t l _ h with h | ⟨q, hq, h⟩
    · simp only [Nat.testBit_or, Bool.or_eq_true, Nat.testBit_two_pow, decide_eq_true_eq] at h
      rcases h with (h | h) | h
      · exact .inl h
      · exact .inr ⟨p, by simp, .inl h⟩
      · exact .inr ⟨p, by simp, .inr h⟩
    · exact .inr ⟨q, by simp [hq], h⟩

theorem closTab_spec {ops : Array Oper} {listed : Array Bool} (hcl : Closed ops listed) : ∀ (l : List Oper) (acc : List Nat), (∀ j, l[j]? = ops[acc.length + j]?) →
    (∀ i t, (acc.getD i 0).testBit t = true → listed.getD i false = true → listed.getD t false = true) →
    ∀ i t, ((closTab l acc).getD i 0).testBit t = true → listed.getD i false = true → listed.getD t false = true
  | [], acc, _, h => h
  | o :: r, acc, hl, h => by
    refine closTab_spec hcl r _ (fun j => ?_) (fun i t hb hi => ?_)
    · have := hl (j + 1)
      simp only [List.getElem?_cons_succ] at this
      rw [this]
      congr 1
      simp
      omega
    · by_cases hlt : i < acc.length
      · rw [List.getD_eq_getElem?_getD, List.getElem?_append_left hlt, ← List.getD_eq_getElem?_getD] at hb
        exact h i t hb hi
      · by_cases he : i = acc.length
        · subst he
          rw [List.getD_eq_getElem?_getD, List.getElem?_append_right (by omega)] at hb
          simp only [Nat.sub_self, List.getElem?_cons_zero, Option.getD_some] at hb
          have ho : opAt ops acc.length = o := by
            have := hl 0
            simp at this
            simp [opAt, ← this]
          rcases foldl_bits acc t _ _ hb with h0 | ⟨p, hp, h0⟩
          · simp at h0
          · have hp' : listed.getD p false = true := hcl _ hi p (by rw [ho]; exact hp)
            rcases h0 with rfl | h0
            · exact hp'
            · exact h p t h0 hp'
        · rw [List.getD_eq_getElem?_getD, List.getElem?_append_right (by omega), List.getElem?_eq_none (by simp; omega)] at hb
          simp at hb

theorem waits_spec {ops : Array Oper} {listed : Array Bool} (hcl : Closed ops listed) {i t : Nat} (h : waits (closTab ops.toList []) i t = true) (hi : ∀ p ∈ predsOf (opAt ops i), listed.getD p false = true) (hsz : i < listed.size) :
    listed.getD t false = true ∨ t = i := by
  -- 'i' itself may be thought of as done: all that it waits for is
  have hcl' : Closed ops (listed.setIfInBounds i true) := by
    intro j hj p hp
    by_cases e : j = i
    · subst e
      by_cases ep : p = j
      · subst ep; exact hj
      · rw [getD_set_ne false (Ne.symm ep)]; exact hi p hp
    · rw [getD_set_ne false (Ne.symm e)] at hj
      exact getD_set_true (hcl j hj p hp)
  have hi' : (listed.setIfInBounds i true).getD i false = true := by
    simp [Array.getD_eq_getD_getElem?, hsz]
  have := closTab_spec hcl' ops.toList [] (fun j => by simp) (fun i t h => by simp at h) i t h hi'
  by_cases e : t = i
  · exact .inr e
  · rw [getD_set_ne false (Ne.symm e)] at this; exact .inl this

section
variable {P : Program} {B : Nat} {w0 : World} {R : Nat → Prop} {wr : World} {n : Nat}

structure TOk (P : Program) (n : Nat) (ops : Array Oper) (T : List (Nat × IOper)) : Prop where
  comp : ∀ p ∈ T, ∃ o b, ops[p.1]? = some o ∧ compOper P n ops o = some b ∧ p.2.dst = b.dst ∧ p.2.op = b.op ∧ p.2.guard = b.guard
  pairs : T.Pairwise fun x y => pairOk ops (closTab ops.toList []) x y = true
  nodup : (T.map (·.1)).Nodup

theorem TOk.sub {ops : Array Oper} {pre post : List (Nat × IOper)} {p : Nat × IOper} (h : TOk P n ops (pre ++ p :: post)) : TOk P n ops (pre ++ post) := by
  have hs : (pre ++ post).Sublist (pre ++ p :: post) := List.Sublist.append_left (List.sublist_cons_self _ _) _
  exact ⟨fun q hq => h.comp q (hs.subset hq), h.pairs.sublist hs, h.nodup.sublist (hs.map _)⟩

theorem kc_closed (k : AFr → ASt → Prop) : ∀ fr fr' st, FrEq fr fr' → (∃ f0, FrEq f0 fr ∧ k f0 st) → ∃ f0, FrEq f0 fr' ∧ k f0 st :=
  fun _ _ _ h ⟨f0, h0, hk⟩ => ⟨f0, fun s => (h0 s).trans (h s), hk⟩

theorem aops_mono : ∀ {os : List IOper} {k k' : AFr → ASt → Prop} {fr : AFr} {st : ASt}, (∀ fr st, k fr st → k' fr st) → aops P os k fr st → aops P os k' fr st
  | [], _, _, _, _, hk, h => hk _ _ h
  | o :: os, _, _, _, _, hk, h => ⟨h.1, astep0_mono (fun fr st x => ⟨x.1, aops_mono hk x.2⟩) h.2⟩

theorem any_sound {ops : Array Oper} {ds : List Deferred} {k : AFr → ASt → Prop} {Q : Exit → Act → World → Prop} {C0 : ACx} (hQ : ∀ a w, Owes B w0 R wr C0 n ds k a w → Q .normal a w)
    (hpo : ∀ i, i < ops.size → predsOk ops i = true) :
    ∀ (fuel : Nat) (listed : Array Bool) (T : List (Nat × IOper)) (C : ACx) (fr : AFr) (st : ASt) (a : Act) (w : World), TOk P n ops T → T.length ≤ fuel → listed.size = ops.size →
      (∀ i, i < ops.size → (listed.getD i false = false ↔ ∃ p ∈ T, p.1 = i)) → Closed ops listed →
      C0.le C → ASim B w0 R wr C st w → FSim C n fr a → a.defers = ds → aops P (T.map (·.2)) (fun fr st => ∃ f0, FrEq f0 fr ∧ k f0 st) fr st →
      wpAny P .any ops Q fuel listed a w := by
  -- with nothing left, all is done
  have base : ∀ (listed : Array Bool) (C : ACx) (fr : AFr) (st : ASt) (a : Act) (w : World), C0.le C → ASim B w0 R wr C st w → FSim C n fr a → a.defers = ds →
      aops P [] (fun fr st => ∃ f0, FrEq f0 fr ∧ k f0 st) fr st → Q .normal a w := by
    intro listed C fr st a w hC s f hd h
    obtain ⟨f0, h0, hk⟩ := h
    exact hQ a w ⟨C, f0, st, hC, s, ⟨f.size, fun i => by rw [h0 i]; exact f.get i⟩, hd, hk⟩
  -- what is ready, and the first one always is
  have rdy : ∀ {listed : Array Bool} {i : Nat}, listed.size = ops.size → i ∈ Region.ready .any ops listed → i < ops.size ∧ listed.getD i false = false ∧ ∀ p ∈ predsOf (opAt ops i), listed.getD p false = true := by
    intro listed i hs hi
    have hlt : i < ops.size := by
      have := (List.mem_filter.1 hi).1
      simpa using this
    have h2 := (List.mem_filter.1 hi).2
    rw [Array.getElem?_eq_getElem hlt] at h2
    simp only [Option.map_some, Option.getD_some, Bool.and_eq_true, Bool.not_eq_true'] at h2
    refine ⟨hlt, ?_, fun p hp => ?_⟩
    · have hl : i < listed.size := by omega
      have := h2.1
      simpa [Array.getD_eq_getD_getElem?, hl] using this
    · obtain ⟨e, he, hp⟩ := List.mem_filterMap.1 hp
      split at hp
      · rename_i hb
        cases hp
        have hoe : opAt ops i = ops[i] := by simp [opAt, hlt]
        rw [hoe] at he
        have h3 := Array.all_eq_true'.1 h2.2 e (by simpa using he)
        simpa [hb] using h3
      · cases hp
  have first : ∀ {listed : Array Bool} {p : Nat × IOper} {T : List (Nat × IOper)}, listed.size = ops.size → TOk P n ops (p :: T) → (∀ i, i < ops.size → (listed.getD i false = false ↔ ∃ q ∈ p :: T, q.1 = i)) →
      p.1 ∈ Region.ready .any ops listed := by
    intro listed p T hs ht hl
    obtain ⟨o, b, ho, _⟩ := ht.comp p (by simp)
    have hlt : p.1 < ops.size := by
      rcases Nat.lt_or_ge p.1 ops.size with h | h
      · exact h
      · rw [Array.getElem?_eq_none h] at ho; cases ho
    have hun := (hl p.1 hlt).2 ⟨p, by simp, rfl⟩
    refine List.mem_filter.2 ⟨by simpa using hlt, ?_⟩
    rw [Array.getElem?_eq_getElem hlt]
    simp only [Option.map_some, Option.getD_some, Bool.and_eq_true, Bool.not_eq_true']
    have hls : p.1 < listed.size := by omega
    refine ⟨by simpa [Array.getD_eq_getD_getElem?, hls] using hun, ?_⟩
    refine Array.all_eq_true'.2 fun e he => ?_
    cases hb : Region.binds .any e with
    | false => simp
    | true =>
      have hoe : opAt ops p.1 = ops[p.1] := by simp [opAt, hlt]
      have hmem : e.on ∈ predsOf (opAt ops p.1) := by
        rw [hoe]
        exact List.mem_filterMap.2 ⟨e, by simpa using he, by simp [hb]⟩
      have hpk := List.all_eq_true.1 (hpo p.1 hlt) e.on hmem
      simp only [Bool.and_eq_true, decide_eq_true_eq, bne_iff_ne, ne_eq] at hpk
      simp only [Bool.not_true, Bool.false_or]
      cases hle : listed.getD e.on false with
      | true => rfl
      | false =>
        obtain ⟨q, hq, hqe⟩ := (hl e.on hpk.1).1 hle
        rcases List.mem_cons.1 hq with rfl | hq
        · exact absurd hqe.symm hpk.2
        · have := (List.pairwise_cons.1 ht.pairs).1 q hq
          simp only [pairOk, Bool.and_eq_true, Bool.not_eq_true'] at this
          have h2 := this.2
          rw [hqe] at h2
          simp [hmem] at h2
  intro fuel
  induction fuel with
  | zero =>
    intro listed T C fr st a w ht hlen hs hl hcl hC s f hd h
    have hT : T = [] := by simpa using hlen
    subst hT
    refine ⟨?_, base listed C fr st a w hC s f hd h⟩
    cases hr : Region.ready .any ops listed with
    | nil => rfl
    | cons i r =>
      obtain ⟨h1, h2, _⟩ := rdy hs (i := i) (by rw [hr]; simp)
      obtain ⟨p, hp, _⟩ := (hl i h1).1 h2
      cases hp
  | succ fuel ih =>
    intro listed T C fr st a w ht hlen hs hl hcl hC s f hd h
    refine ⟨fun hr => ?_, fun i hi => ?_⟩
    · cases T with
      | nil => exact base listed C fr st a w hC s f hd h
      | cons p T => have := first hs ht hl; rw [hr] at this; cases this
    · obtain ⟨hlt, hun, hpr⟩ := rdy hs hi
      obtain ⟨p, hp, rfl⟩ := (hl i hlt).1 hun
      obtain ⟨pre, post, rfl⟩ := List.append_of_mem hp
      have hls : p.1 < listed.size := by omega
      have hbd : ∀ t ∈ pre.map (·.2), condB t p.2 = true ∨ condD t p.2 = true := by
        intro t htm
        obtain ⟨q, hq, rfl⟩ := List.mem_map.1 htm
        have hpair := (List.pairwise_append.1 ht.pairs).2.2 q hq p (by simp)
        simp only [pairOk, Bool.and_eq_true, Bool.or_eq_true] at hpair
        rcases hpair.1.1 with (h1 | h1) | h1
        · exact .inl h1
        · exact .inr h1
        · exfalso
          obtain ⟨o, b, ho, _⟩ := ht.comp q (by simp [hq])
          have hqlt : q.1 < ops.size := by
            rcases Nat.lt_or_ge q.1 ops.size with h | h
            · exact h
            · rw [Array.getElem?_eq_none h] at ho; cases ho
          have hqun := (hl q.1 hqlt).2 ⟨q, by simp [hq], rfl⟩
          rcases waits_spec hcl h1 hpr hls with e | e
          · rw [e] at hqun; cases hqun
          · have hnd := ht.nodup
            rw [List.map_append, List.map_cons] at hnd
            have := (List.pairwise_append.1 hnd).2.2 q.1 (List.mem_map_of_mem hq) p.1 (by simp)
            exact this e
      have hpw : (pre.map (·.2)).Pairwise LeftOk := by
        refine List.pairwise_map.2 ((List.pairwise_append.1 ht.pairs).1.imp fun {x y} hxy hld => ?_)
        simp only [pairOk, Bool.and_eq_true, Bool.or_eq_true] at hxy
        have := hxy.1.2
        simp only [hld, Bool.not_true, Bool.false_eq_true, false_or, bne_iff_ne, ne_eq] at this
        exact this
      rw [List.map_append, List.map_cons] at h
      have hfr := front (kc_closed k) (pre.map (·.2)) [] hbd hpw (fun _ ht => by cases ht) fr st h
      obtain ⟨o, b, ho, hb, e1, e2, e3⟩ := ht.comp p (by simp)
      have hfr' : astep0 P b (fun fr' st' => aops P ((pre ++ post).map (·.2)) (fun fr st => ∃ f0, FrEq f0 fr ∧ k f0 st) fr' st') fr st := by
        have := astep0_mono (k' := fun fr' st' => aops P ((pre ++ post).map (·.2)) (fun fr st => ∃ f0, FrEq f0 fr ∧ k f0 st) fr' st') (fun fr st x => by rw [List.map_append]; exact x.2) hfr
        unfold astep0 at this ⊢
        rw [← e1, ← e2, ← e3]
        exact this
      refine step_sound ho hb s f hfr' fun C' fr' st' a' w' hC' s' f' hd' hk => ?_
      refine ih (listed.setIfInBounds p.1 true) (pre ++ post) C' fr' st' a' w' ht.sub (by simp at hlen ⊢; omega) (by simpa using hs) (fun j hj => ?_) ?_ (hC.trans hC') s' f' (hd'.trans hd) hk
      · have hnd := ht.nodup
        rw [List.map_append, List.map_cons] at hnd
        by_cases e : j = p.1
        · subst e
          have : (listed.setIfInBounds p.1 true).getD p.1 false = true := by simp [Array.getD_eq_getD_getElem?, hls]
          rw [this]
          refine ⟨fun h => (by cases h), fun ⟨q, hq, hqe⟩ => ?_⟩
          exfalso
          rcases List.mem_append.1 hq with hq | hq
          · exact (List.pairwise_append.1 hnd).2.2 q.1 (List.mem_map_of_mem hq) p.1 (by simp) hqe
          · exact (List.pairwise_cons.1 (List.pairwise_append.1 hnd).2.1).1 q.1 (List.mem_map_of_mem hq) hqe.symm
        · rw [getD_set_ne false (Ne.symm e), hl j hj]
          constructor
          · rintro ⟨q, hq, rfl⟩
            rcases List.mem_append.1 hq with hq | hq
            · exact ⟨q, by simp [hq], rfl⟩
            · rcases List.mem_cons.1 hq with rfl | hq
              · exact absurd rfl e
              · exact ⟨q, by simp [hq], rfl⟩
          · rintro ⟨q, hq, rfl⟩
            rcases List.mem_append.1 hq with hq | hq
            · exact ⟨q, by simp [hq], rfl⟩
            · exact ⟨q, by simp [hq], rfl⟩
      · intro j hj q hq
        by_cases e : j = p.1
        · subst e
          exact getD_set_true (hpr q hq)
        · rw [getD_set_ne false (Ne.symm e)] at hj
          exact getD_set_true (hcl j hj q hq)

theorem compIdx_spec {ops : Array Oper} : ∀ {l : List Nat} {il : List IOper}, compIdx P n ops l = some il → il.length = l.length ∧ ∀ j (h : j < l.length) (h' : j < il.length), ∃ o, ops[l[j]]? = some o ∧ compOper P n ops o = some il[j]
  | [], il, h => by cases h; exact ⟨rfl, fun j h => absurd h (by simp)⟩
  | i :: r, il, h => by
    simp only [compIdx] at h
    split at h
    · rename_i o ho
      split at h
      · rename_i x xs hx hxs
        cases h
        obtain ⟨h1, h2⟩ := compIdx_spec hxs
        refine ⟨by simp [h1], fun j hj hj' => ?_⟩
        cases j with
        | zero => exact ⟨o, ho, hx⟩
        | succ j => simpa using h2 j (by simpa using hj) (by simpa using hj')
      · cases h
    · cases h

theorem annot_map (tab : List Nat) : ∀ (pre T : List (Nat × IOper)), (annot tab pre T).map (·.1) = T.map (·.1)
  | _, [] => rfl
  | pre, (i, x) :: r => by simp only [annot, List.map_cons]; rw [annot_map tab _ r]

theorem annot_mem (tab : List Nat) : ∀ (pre T : List (Nat × IOper)), ∀ p ∈ annot tab pre T, ∃ q ∈ T, p.1 = q.1 ∧ p.2.dst = q.2.dst ∧ p.2.op = q.2.op ∧ p.2.guard = q.2.guard
  | _, [], p, hp => by cases hp
  | pre, (i, x) :: r, p, hp => by
    simp only [annot, List.mem_cons] at hp
    rcases hp with rfl | hp
    · exact ⟨(i, x), by simp, rfl, rfl, rfl, rfl⟩
    · obtain ⟨q, hq, h⟩ := annot_mem tab _ r p hp
      exact ⟨q, by simp [hq], h⟩

theorem draw_sound {ops : Array Oper} {il : List IOper} (hc : compDraw P n ops = some il) (hm : P.follows .mixedOrders = true) {id : Nat} {C : ACx} {fr : AFr} {st : ASt} {a : Act} {w : World} {k : AFr → ASt → Prop} {Q : Exit → Act → World → Prop}
    (s : ASim B w0 R wr C st w) (f : FSim C n fr a) (h : aops P il k fr st) (hQ : ∀ a' w', Owes B w0 R wr C n a.defers k a' w' → Q .normal a' w') : (Code.region id ops true).wp P Q a w := by
  unfold compDraw at hc
  simp only at hc
  split at hc
  · rename_i il0 hil
    split at hc
    · rename_i hcond
      cases hc
      simp only [Bool.and_eq_true] at hcond
      obtain ⟨⟨⟨hpairs, hnd⟩, hall⟩, hlt⟩ := hcond
      obtain ⟨hlen, hcomp⟩ := compIdx_spec hil
      have hzip : ((canonGo P ops ops.size (List.range ops.size)).zip il0).map (·.1) = canonGo P ops ops.size (List.range ops.size) := List.map_fst_zip (by omega)
      have hT : TOk P n ops (annot (closTab ops.toList []) [] ((canonGo P ops ops.size (List.range ops.size)).zip il0)) := by
        refine ⟨fun p hp => ?_, allPairs_spec hpairs, by rw [annot_map, hzip]; exact nodupB_spec hnd⟩
        obtain ⟨q, hq, e0, e1, e2, e3⟩ := annot_mem _ _ _ p hp
        obtain ⟨j, hj, rfl⟩ := List.getElem_of_mem hq
        have hj1 : j < (canonGo P ops ops.size (List.range ops.size)).length := by simp at hj; omega
        have hj2 : j < il0.length := by simp at hj; omega
        obtain ⟨o, ho, hco⟩ := hcomp j hj1 hj2
        refine ⟨o, il0[j], ?_, hco, ?_, ?_, ?_⟩
        · rw [e0]; simpa using ho
        · rw [e1]; simp
        · rw [e2]; simp
        · rw [e3]; simp
      refine wp_region_any hm ?_
      have hall' := fun i (hi : i < ops.size) => List.all_eq_true.1 hall i (by simpa using hi)
      refine any_sound (C0 := C) (ds := a.defers) (k := k) hQ (fun i hi => by have := hall' i hi; simp only [Bool.and_eq_true] at this; exact this.2) ops.size _ _ C fr st a _ hT ?_ (by simp) (fun i hi => ?_) ?_ (.refl C) (s.draw _) f rfl
        (aops_mono (fun fr st hk => ⟨fr, fun _ => rfl, hk⟩) h)
      · have h1 : (annot (closTab ops.toList []) [] ((canonGo P ops ops.size (List.range ops.size)).zip il0)).length = (canonGo P ops ops.size (List.range ops.size)).length := by
          have := congrArg List.length (annot_map (closTab ops.toList []) [] ((canonGo P ops ops.size (List.range ops.size)).zip il0))
          simpa [hzip, hlen] using this
        rw [h1]
        have hsub : canonGo P ops ops.size (List.range ops.size) ⊆ List.range ops.size := fun x hx => by
          have := List.all_eq_true.1 hlt x hx
          simpa using this
        have := (nodupB_spec hnd).length_le_of_subset hsub
        simpa using this
      · have hget : (Array.replicate ops.size false).getD i false = false := by simp [Array.getD_eq_getD_getElem?, hi]
        rw [hget]
        refine ⟨fun _ => ?_, fun _ => rfl⟩
        have hmem : i ∈ canonGo P ops ops.size (List.range ops.size) := by
          have := hall' i hi
          simp only [Bool.and_eq_true] at this
          simpa using this.1
        rw [← hzip, ← annot_map (closTab ops.toList []) []] at hmem
        obtain ⟨p, hp, rfl⟩ := List.mem_map.1 hmem
        exact ⟨p, hp, rfl⟩
      · intro i hi
        by_cases hlt' : i < ops.size
        · simp [Array.getD_eq_getD_getElem?, hlt'] at hi
        · simp [Array.getD_eq_getD_getElem?, hlt'] at hi
    · cases hc
  · cases hc

def IPost (B : Nat) (w0 : World) (R : Nat → Prop) (wr : World) (C0 : ACx) (n : Nat) (ds : List Deferred) (Q : IExit → AFr → ASt → Prop) : Exit → Act → World → Prop
  | .normal, a, w => Owes B w0 R wr C0 n ds (Q .normal) a w
  | .exit id, a, w => Owes B w0 R wr C0 n ds (Q (.exit id)) a w
  | .ret, a, w => Owes B w0 R wr C0 n ds (Q .ret) a w
  | _, _, _ => False

theorem Owes.up {C0 C : ACx} (h : C0.le C) {ds : List Deferred} {k : AFr → ASt → Prop} {a : Act} {w : World} (x : Owes B w0 R wr C n ds k a w) : Owes B w0 R wr C0 n ds k a w := by
  obtain ⟨C', fr', st', hC, r⟩ := x
  exact ⟨C', fr', st', h.trans hC, r⟩

theorem IPost.up {C0 C : ACx} (h : C0.le C) {ds : List Deferred} {Q : IExit → AFr → ASt → Prop} {e : Exit} {a : Act} {w : World} (x : IPost B w0 R wr C n ds Q e a w) : IPost B w0 R wr C0 n ds Q e a w := by
  cases e <;> first | exact Owes.up h x | exact x

theorem least (p : Nat → Prop) : ∀ m, p m → ∃ k, p k ∧ ∀ j, p j → k ≤ j := by
  intro m
  induction m using Nat.strongRecOn with
  | _ m ih =>
    intro hm
    by_cases h : ∃ j, j < m ∧ p j
    · obtain ⟨j, hj, hp⟩ := h; exact ih j hj hp
    · refine ⟨m, hm, fun j hj => ?_⟩
      rcases Nat.lt_or_ge j m with h' | h'
      · exact absurd ⟨j, h', hj⟩ h
      · exact h'

theorem wp_loop_rep {c : Code} {Q : Exit → Act → World → Prop} {a : Act} {w : World} (I : Nat → Act → World → Prop) {m : Nat} (h0 : I m a w)
    (round : ∀ m a w, I m a w → c.wp P (Exit.then (fun a' w' => ∃ m', m' < m ∧ I m' a' w') Q) a w) : (Code.loop c).wp P Q a w := by
  have hmin : ∀ (a : Act) (w : World), (∃ m, I m a w) → ∃ k, I k a w ∧ ∀ j, I j a w → k ≤ j := fun a w ⟨m, h⟩ => least (fun m => I m a w) m h
  classical
  refine wp_loop (fun a w => ∃ m, I m a w) (fun a w => if h : ∃ m, I m a w then Classical.choose (hmin a w h) else 0) ⟨m, h0⟩ fun a w h => ?_
  have hm := Classical.choose_spec (hmin a w h)
  refine wp_mono (round _ a w hm.1) fun e a' w' he => ?_
  cases e with
  | normal =>
    obtain ⟨m', hlt, hI⟩ := he
    refine ⟨⟨m', hI⟩, ?_⟩
    rw [dif_pos ⟨m', hI⟩, dif_pos h]
    exact Nat.lt_of_le_of_lt ((Classical.choose_spec (hmin a' w' ⟨m', hI⟩)).2 _ hI) hlt
  | _ => exact he

theorem code_sound (hm : P.follows .mixedOrders = true) : ∀ (ic : ICode) (c : Code), compCode P n c = some ic.erase → ∀ (Q : IExit → AFr → ASt → Prop) (C : ACx) (fr : AFr) (st : ASt) (a : Act) (w : World),
    ASim B w0 R wr C st w → FSim C n fr a → awp P ic Q fr st → c.wp P (IPost B w0 R wr C n a.defers Q) a w
  | .keep ks ic, c, hc, Q, C, fr, st, a, w, s, f, h => code_sound hm ic c hc Q C _ st a w s (f.keep ks) h
  | .ghost ic, c, hc, Q, C, fr, st, a, w, s, f, h => by
    obtain ⟨fr1, st1, hg, h1⟩ := h
    obtain ⟨C1, g1, g2, g3⟩ := hg _ _ _ _ _ _ s
    exact wp_mono (code_sound hm ic c hc Q C1 fr1 st1 a w g2 ⟨f.size, fun i => g3 i _ (f.get i)⟩ h1) fun e a w x => IPost.up g1 x
  | .skip, c, hc, Q, C, fr, st, a, w, s, f, h => by
    have : c = .skip := by
      cases c <;> simp only [compCode, ICode.erase] at hc <;> try (cases hc; done)
      · rfl
      all_goals (first | (split at hc <;> cases hc; done) | (have hx := map_some hc; obtain ⟨y, _, e⟩ := hx; cases e; done))
    subst this
    exact wp_skip ⟨C, fr, st, .refl C, s, f, rfl, h⟩
  | .region il, c, hc, Q, C, fr, st, a, w, s, f, h => by
    cases c <;> simp only [compCode, ICode.erase] at hc <;> try (cases hc; done)
    · rename_i id ops draw
      obtain ⟨il', h1, e⟩ := map_some hc
      cases e
      unfold compRegion at h1
      cases draw with
      | true =>
        rw [if_pos rfl] at h1
        exact draw_sound h1 hm s f h fun a' w' x => x
      | false =>
        simp only [Bool.false_eq_true, if_false] at h1
        exact wp_region (ops_sound (C0 := C) (ds := a.defers) (k := Q .normal) (fun a' w' x => x) _ _ C fr st a w h1 (.refl C) s f rfl h)
    all_goals (first | (split at hc <;> cases hc; done) | (have hx := map_some hc; obtain ⟨y, _, e⟩ := hx; cases e; done))
  | .seq x y, c, hc, Q, C, fr, st, a, w, s, f, h => by
    cases c <;> simp only [compCode, ICode.erase] at hc <;> try (cases hc; done)
    case seq p q =>
      split at hc
      · rename_i ix iy hx hy
        cases hc
        refine wp_seq (wp_mono (code_sound hm x p hx _ C fr st a w s f h) fun e a' w' he => ?_)
        cases e with
        | normal =>
          obtain ⟨C', fr', st', hC, s', f', hd, hk⟩ := he
          have := code_sound hm y q hy Q C' fr' st' a' w' s' f' hk
          rw [hd] at this
          exact wp_mono this fun e a w x => IPost.up hC x
        | exit id => exact he
        | ret => exact he
        | goto l => exact he.elim
        | panic c => exact he.elim
        | outgrown => exact he.elim
      · cases hc
    all_goals (first | (split at hc <;> cases hc; done) | (have hx := map_some hc; obtain ⟨y, _, e⟩ := hx; cases e; done))
  | .cond z x y, c, hc, Q, C, fr, st, a, w, s, f, h => by
    cases c <;> simp only [compCode, ICode.erase] at hc <;> try (cases hc; done)
    case cond co p q =>
      split at hc
      · rename_i iz ix iy hz hx hy
        cases hc
        have hv := arg_vs s.glob f hz
        simp only [awp] at h
        split at h
        · rename_i t ht
          rw [ht] at hv
          refine wp_cond hv.bool_inv ?_
          cases t
          · simp only [Bool.false_eq_true, if_false] at h ⊢
            exact code_sound hm y q hy Q C fr st a w s f h
          · simp only [if_true] at h ⊢
            exact code_sound hm x p hx Q C fr st a w s f h
        · exact h.elim
      · cases hc
    all_goals (first | (split at hc <;> cases hc; done) | (have hx := map_some hc; obtain ⟨y, _, e⟩ := hx; cases e; done))
  | .block id x, c, hc, Q, C, fr, st, a, w, s, f, h => by
    cases c <;> simp only [compCode, ICode.erase] at hc <;> try (cases hc; done)
    case block id' p =>
      obtain ⟨ix, hx, e⟩ := map_some hc
      cases e
      refine wp_block (wp_mono (code_sound hm x p hx _ C fr st a w s f h) fun e a' w' he => ?_)
      cases e with
      | exit i =>
        simp only [Exit.inBlock]
        by_cases hi : i = id
        · rw [if_pos hi]
          obtain ⟨C', fr', st', hC, s', f', hd, hk⟩ := he
          simp only [IExit.inBlock, if_pos hi] at hk
          exact ⟨C', fr', st', hC, s', f', hd, hk⟩
        · rw [if_neg hi]
          obtain ⟨C', fr', st', hC, s', f', hd, hk⟩ := he
          simp only [IExit.inBlock, if_neg hi] at hk
          exact ⟨C', fr', st', hC, s', f', hd, hk⟩
      | normal => exact he
      | ret => exact he
      | goto l => exact he.elim
      | panic c => exact he.elim
      | outgrown => exact he.elim
    all_goals (first | (split at hc <;> cases hc; done) | (have hx := map_some hc; obtain ⟨y, _, e⟩ := hx; cases e; done))
  | .loop x, c, hc, Q, C, fr, st, a, w, s, f, h => by
    cases c <;> simp only [compCode, ICode.erase] at hc <;> try (cases hc; done)
    case loop p =>
      obtain ⟨ix, hx, e⟩ := map_some hc
      cases e
      simp only [awp] at h
      obtain ⟨I, μ, h0, hr⟩ := h
      refine wp_loop_rep (fun m a' w' => ∃ C' fr' st', C.le C' ∧ ASim B w0 R wr C' st' w' ∧ FSim C' n fr' a' ∧ a'.defers = a.defers ∧ I fr' st' ∧ μ fr' st' = m) ⟨C, fr, st, .refl C, s, f, rfl, h0, rfl⟩ ?_
      rintro m a1 w1 ⟨C1, fr1, st1, hC1, s1, f1, hd1, hI, rfl⟩
      refine wp_mono (code_sound hm x p hx _ C1 fr1 st1 a1 w1 s1 f1 (hr fr1 st1 hI)) fun e a' w' he => ?_
      rw [hd1] at he
      cases e with
      | normal =>
        obtain ⟨C', fr', st', hC, s', f', hd, hk1, hk2⟩ := he
        exact ⟨_, hk2, C', fr', st', hC1.trans hC, s', f', hd, hk1, rfl⟩
      | exit id => exact Owes.up hC1 he
      | ret => exact Owes.up hC1 he
      | goto l => exact he.elim
      | panic c => exact he.elim
      | outgrown => exact he.elim
    all_goals (first | (split at hc <;> cases hc; done) | (have hx := map_some hc; obtain ⟨y, _, e⟩ := hx; cases e; done))
  | .exit id, c, hc, Q, C, fr, st, a, w, s, f, h => by
    cases c <;> simp only [compCode, ICode.erase] at hc <;> try (cases hc; done)
    case exit i => cases hc; exact wp_exit ⟨C, fr, st, .refl C, s, f, rfl, h⟩
    all_goals (first | (split at hc <;> cases hc; done) | (have hx := map_some hc; obtain ⟨y, _, e⟩ := hx; cases e; done))
  | .ret, c, hc, Q, C, fr, st, a, w, s, f, h => by
    cases c <;> simp only [compCode, ICode.erase] at hc <;> try (cases hc; done)
    case ret => exact wp_ret ⟨C, fr, st, .refl C, s, f, rfl, h⟩
    all_goals (first | (split at hc <;> cases hc; done) | (have hx := map_some hc; obtain ⟨y, _, e⟩ := hx; cases e; done))

inductive IRes where
  | slot (n : Nat)
  | cell1 (n : Nat)
  | cellN (n sz : Nat)

structure IFunc where
  np : Nat
  res : List IRes
  code : ICode

def resSlots (P : Program) : List ResultVar → Option (List IRes)
  | [] => some []
  | .tmp t :: r => (resSlots P r).map (.slot t :: ·)
  | .cell x t :: r => match P.info? t, P.underlying t, resSlots P r with
    | some i, some _, some rs => some ((if aggB P t then .cellN x i.size else .cell1 x) :: rs)
    | _, _, _ => none

def Linked (P : Program) (f : Nat) (F : IFunc) : Prop :=
  ∃ fn c, P.funcs[f]? = some fn ∧ fn.body = some c ∧ compCode P fn.ntmps c = some F.code.erase ∧ resSlots P fn.results.toList = some F.res ∧ F.np ≤ fn.ntmps ∧ P.follows .mixedOrders = true

def initFr : Nat → List AV → AFr
  | _, [] => []
  | i, v :: r => (i, v) :: initFr (i + 1) r

def resVal (fr : AFr) (st : ASt) : IRes → Option AV
  | .slot n => some (fr.get n)
  | .cell1 n => st.ld1 (fr.get n)
  | .cellN n sz => st.ldN sz (fr.get n)

def resVals (fr : AFr) (st : ASt) : List IRes → Option (List AV)
  | [] => some []
  | r :: rs => match resVal fr st r, resVals fr st rs with
    | some v, some vs => some (v :: vs)
    | _, _ => none

def Ret (res : List IRes) (Q : AV → ASt → Prop) (fr : AFr) (st : ASt) : Prop :=
  match resVals fr st res with
  | some [v] => Q v st
  | some vs => Q (.tup vs) st
  | none => False

def Post (res : List IRes) (Q : AV → ASt → Prop) : IExit → AFr → ASt → Prop
  | .exit _, _, _ => False
  | _, fr, st => Ret res Q fr st

theorem initFr_get : ∀ (l : List AV) (j i : Nat), (initFr j l).get i = if h : j ≤ i ∧ i - j < l.length then l[i - j]'h.2 else .any
  | [], j, i => by simp [initFr, AFr.get_nil]
  | v :: r, j, i => by
    simp only [initFr, AFr.get_cons]
    by_cases e : j = i
    · subst e; simp
    · rw [if_neg e, initFr_get r (j + 1) i]
      by_cases h : j + 1 ≤ i ∧ i - (j + 1) < r.length
      · have h' : j ≤ i ∧ i - j < (v :: r).length := by simp; omega
        rw [dif_pos h, dif_pos h']
        have : i - j = (i - (j + 1)) + 1 := by omega
        simp only [this, List.getElem_cons_succ]
      · have h' : ¬ (j ≤ i ∧ i - j < (v :: r).length) := by simp; omega
        rw [dif_neg h, dif_neg h']

theorem run_results {C : ACx} {st : ASt} {fr : AFr} {tm : Act} {w : World} (s : ASim B w0 R wr C st w) (f : FSim C n fr tm) (g : ResultVar → Sem Value) (hg : ∀ t, g (.tmp t) = pure (tm.tmps.getD t undef))
    (hg2 : ∀ x t, g (.cell x t) = (do loadVar t (← asAddr (tm.tmps.getD x undef)))) : ∀ {l : List ResultVar} {rs : List IRes} {vs : List AV}, resSlots P l = some rs → resVals fr st rs = some vs →
    ∃ ws : List Value, (l.mapM g).run P w = .ok ws w ∧ ws.length = vs.length ∧ ∀ i (h : i < vs.length), VS C vs[i] (ws.getD i undef)
  | [], rs, vs, h, hv => by cases h; cases hv; exact ⟨[], rfl, rfl, fun i hi => absurd hi (by simp)⟩
  | .tmp t :: r, rs, vs, h, hv => by
    simp only [resSlots] at h
    obtain ⟨rs', h1, rfl⟩ := map_some h
    simp only [resVals, resVal] at hv
    cases h2 : resVals fr st rs' with
    | none => rw [h2] at hv; cases hv
    | some vs' =>
      rw [h2] at hv; cases hv
      obtain ⟨ws, w1, w2, w3⟩ := run_results s f g hg hg2 h1 h2
      refine ⟨tm.tmps.getD t undef :: ws, by simp only [List.mapM_cons, Sem.run_bind, hg, Sem.run_pure, Result.andThen_ok, w1], by simp [w2], fun i hi => ?_⟩
      cases i with
      | zero => simpa using f.get t
      | succ i => simpa using w3 i (by simpa using hi)
  | .cell x t :: r, rs, vs, h, hv => by
    simp only [resSlots] at h
    split at h
    · rename_i inf d rs' hi hu h1
      cases h
      simp only [resVals] at hv
      cases h2 : resVals fr st rs' with
      | none => rw [h2] at hv; split at hv <;> simp_all
      | some vs' =>
        obtain ⟨ws, w1, w2, w3⟩ := run_results s f g hg hg2 h1 h2
        rw [h2] at hv
        have hx := f.get x
        cases ha : aggB P t with
        | true =>
          simp only [ha, if_true, resVal] at hv
          cases hl : st.ldN inf.size (fr.get x) with
          | none => rw [hl] at hv; cases hv
          | some v =>
            rw [hl] at hv; cases hv
            obtain ⟨b, p, rs2, e1, e2, e3⟩ := ldN_sound (P := P) s hl hx
            refine ⟨.agg rs2 :: ws, ?_, by simp [w2], fun i hi => ?_⟩
            · simp only [List.mapM_cons, Sem.run_bind, hg2, e1, asAddr, Sem.run_pure, Result.andThen_ok, loadVar, run_agg hu, ha, if_true, run_size hi, e2, w1]
            · cases i with
              | zero => simpa using e3
              | succ i => simpa using w3 i (by simpa using hi)
        | false =>
          simp only [ha, Bool.false_eq_true, if_false, resVal] at hv
          cases hl : st.ld1 (fr.get x) with
          | none => rw [hl] at hv; cases hv
          | some v =>
            rw [hl] at hv; cases hv
            obtain ⟨b, p, rv, e1, e2, e3⟩ := ld1_sound s hl hx
            refine ⟨rv :: ws, ?_, by simp [w2], fun i hi => ?_⟩
            · simp only [List.mapM_cons, Sem.run_bind, hg2, e1, asAddr, Sem.run_pure, Result.andThen_ok, loadVar, run_agg hu, ha, Bool.false_eq_true, if_false, run_load, e2, w1]
            · cases i with
              | zero => simpa using e3
              | succ i => simpa using w3 i (by simpa using hi)
    · cases h

theorem calls_of_awp {f : Nat} {F : IFunc} (hl : Linked P f F) {args : List AV} (ha : args.length = F.np) {st : ASt} {Q : AV → ASt → Prop}
    (h : awp P F.code (Post F.res Q) (initFr 0 args) st) : ACalls P f args st Q := by
  obtain ⟨fn, c, hf, hb, hc, hr, hn, hm⟩ := hl
  intro B w0 R wr C w vs s hs hv
  refine calls_of_wp hf hb ?_
  have hfs : FSim C fn.ntmps (initFr 0 args) { tmps := vs ++ Array.replicate (fn.ntmps - vs.size) undef, defers := [] } := by
    refine ⟨by simp; omega, fun i => ?_⟩
    rw [initFr_get]
    split
    · rename_i hi
      have := hv (i - 0) (by simpa using hi.2)
      have hi2 : i < vs.size := by rw [hs]; simpa using hi.2
      simp only [Nat.sub_zero] at this ⊢
      rw [Array.getD_eq_getD_getElem?] at this ⊢
      rw [Array.getElem?_append_left hi2]
      exact this
    · exact .any _
  refine wp_mono (code_sound hm F.code c hc _ C _ st _ w s hfs h) fun e a' w' he => ?_
  have fin : ∀ (fr' : AFr) (C' : ACx) (st' : ASt), C.le C' → ASim B w0 R wr C' st' w' → FSim C' fn.ntmps fr' a' → a'.defers = [] → Ret F.res Q fr' st' →
      a'.defers = [] ∧ ∃ v, (results fn a'.tmps).run P w' = .ok v w' ∧ ∃ C' v' st' rv, C.le C' ∧ ASim B w0 R wr C' st' w' ∧ Ending.returned v = .returned rv ∧ VS C' v' rv ∧ Q v' st' := by
    intro fr' C' st' hC s' f' hd hq
    unfold Ret at hq
    cases hrv : resVals fr' st' F.res with
    | none => rw [hrv] at hq; exact hq.elim
    | some vs' =>
      rw [hrv] at hq
      obtain ⟨ws, w1, w2, w3⟩ := run_results (P := P) s' f' (fun | .tmp t => pure (a'.tmps.getD t undef) | .cell a t => do loadVar t (← asAddr (a'.tmps.getD a undef))) (fun _ => rfl) (fun _ _ => rfl) hr hrv
      have hrun : (results fn a'.tmps).run P w' = .ok (if hh : ws.toArray.size = 1 then ws.toArray[0] else .tuple ws.toArray) w' := by
        unfold results
        rw [Array.mapM_eq_mapM_toList]
        simp only [Sem.run_bind, Sem.run_map]
        have e : ∀ g : ResultVar → Sem Value, g = (fun | .tmp t => pure (a'.tmps.getD t undef) | .cell a t => do loadVar t (← asAddr (a'.tmps.getD a undef))) → (fn.results.toList.mapM g).run P w' = .ok ws w' := by
          rintro g rfl; exact w1
        rw [e]
        · rfl
        · funext x; cases x <;> rfl
      match vs', hq, w2, w3 with
      | [v], hq, w2, w3 =>
        obtain ⟨r, rfl⟩ := List.length_eq_one_iff.1 (by simpa using w2)
        exact ⟨hd, _, hrun, C', v, st', _, hC, s', rfl, by simpa using w3 0 (by simp), hq⟩
      | [], hq, w2, w3 =>
        refine ⟨hd, _, hrun, C', .tup [], st', _, hC, s', rfl, ?_, hq⟩
        have : ws = [] := by simpa using w2
        subst this
        exact vs_undef
      | v1 :: v2 :: r, hq, w2, w3 =>
        refine ⟨hd, _, hrun, C', .tup (v1 :: v2 :: r), st', _, hC, s', rfl, ?_, hq⟩
        have h1 : ¬ ws.toArray.size = 1 := by simp at w2 ⊢; omega
        rw [dif_neg h1]
        refine .tup _ _ (by simpa using w2) fun i hi => ?_
        have := w3 i hi
        simpa [List.getD_eq_getElem?_getD, Array.getD_eq_getD_getElem?] using this
  cases e with
  | normal => obtain ⟨C', fr', st', hC, s', f', hd, hk⟩ := he; exact fin fr' C' st' hC s' f' hd hk
  | ret => obtain ⟨C', fr', st', hC, s', f', hd, hk⟩ := he; exact fin fr' C' st' hC s' f' hd hk
  | exit id => obtain ⟨C', fr', st', hC, s', f', hd, hk⟩ := he; exact hk.elim
  | goto l => exact he.elim
  | panic c => exact he.elim
  | outgrown => exact he.elim

end
theorem awpE {c d : ICode} (h : c = d) {P : Program} {Q : IExit → AFr → ASt → Prop} {fr : AFr} {st : ASt} : awp P c Q fr st = awp P d Q fr st := by rw [h]
theorem aopsE {c d : List IOper} (h : c = d) {P : Program} {k : AFr → ASt → Prop} {fr : AFr} {st : ASt} : aops P c k fr st = aops P d k fr st := by rw [h]
end Go.Proofs.YtdmfgodajoojpaaGreatDoor.Cn
/- The abstract layer, part 19: rules for contracts. -/
set_option linter.unusedSimpArgs false
set_option linter.unusedVariables false
namespace Go.Proofs.YtdmfgodajoojpaaGreatDoor.Cn
open Go Go.RowKit

class Cont where
  k : AV → ASt → Prop

def ACallsK (P : Program) (f : Nat) (args : List AV) (st : ASt) [c : Cont] : Prop := ACalls P f args st c.k

theorem aop_call {P : Program} {f : Nat} {args : List IArg} {fr : AFr} {st : ASt} {k : AV → ASt → Prop} : aop P (.call f args) fr st k = @ACallsK P f (fr.vals args) st ⟨k⟩ := rfl
theorem aop_callv {P : Program} {f : IArg} {args : List IArg} {fr : AFr} {st : ASt} {k : AV → ASt → Prop} : aop P (.callv f args) fr st k = match fr.val f with
    | .fn g cap => hasBody P g = true ∧ @ACallsK P g (fr.vals args ++ cap) st ⟨k⟩
    | _ => False := rfl

section
variable {P : Program} {B : Nat} {w0 : World} {R : Nat → Prop} {wr : World} {C : ACx} {st st1 : ASt} {w : World}

theorem ASim.sub (s : ASim B w0 R wr C st w) (h : st1.le st) : ASim B w0 R wr C st1 w := by
  have up : ∀ i, st1.h i ≠ none → st.h i ≠ none := by
    intro i hi
    cases hx : st1.h i with
    | none => exact absurd hx hi
    | some o => rw [h i o hx]; simp
  exact
  { glob := s.glob
    live := fun i hi => s.live i (up i hi)
    below := s.below
    hB := s.hB
    inj := fun i j hi hj e => s.inj i j (up i hi) (up j hj) e
    lo := fun i hi => s.lo i (up i hi)
    obj := fun i o ho => s.obj i o (h i o ho)
    imm := fun b p v hv => by obtain ⟨a, b', c⟩ := s.imm b p v hv; exact ⟨a, b', fun i hi => c i (up i hi)⟩
    res := fun b hb => by obtain ⟨a, b', c⟩ := s.res b hb; exact ⟨a, b', fun i hi => c i (up i hi)⟩ }

def Ghost (v : AV) (st : ASt) (v1 : AV) (st1 : ASt) : Prop :=
  ∀ B w0 R wr C w rv, ASim B w0 R wr C st w → VS C v rv → ∃ C', C.le C' ∧ ASim B w0 R wr C' st1 w ∧ VS C' v1 rv

theorem Ghost.refl (v : AV) (st : ASt) : Ghost v st v st := fun _ _ _ _ C _ _ s h => ⟨C, .refl C, s, h⟩
theorem Ghost.trans {v v1 v2 : AV} {st st1 st2 : ASt} (h : Ghost v st v1 st1) (k : Ghost v1 st1 v2 st2) : Ghost v st v2 st2 := fun B w0 R wr C w rv s x => by
  obtain ⟨C1, h1, s1, x1⟩ := h B w0 R wr C w rv s x
  obtain ⟨C2, h2, s2, x2⟩ := k B w0 R wr C1 w rv s1 x1
  exact ⟨C2, h1.trans h2, s2, x2⟩
theorem Ghost.sub {v : AV} (h : st1.le st) : Ghost v st v st1 := fun _ _ _ _ C _ _ s x => ⟨C, .refl C, s.sub h, x⟩

theorem ACalls.ghost {f : Nat} {args : List AV} {Q Q' : AV → ASt → Prop} (h : ACalls P f args st Q') (hq : ∀ v st', Q' v st' → ∃ v1 st1, Ghost v st' v1 st1 ∧ Q v1 st1) : ACalls P f args st Q :=
  fun B w0 R wr C w vs s h1 h2 => (h B w0 R wr C w vs s h1 h2).mono fun e w' ⟨C', v, st', rv, a, b, c, d, q⟩ => by
    obtain ⟨v1, st1, g, hq1⟩ := hq v st' q
    obtain ⟨C2, g1, g2, g3⟩ := g B w0 R wr C' w' rv b d
    exact ⟨C2, v1, st1, rv, a.trans g1, g2, c, g3, hq1⟩

theorem ACalls.gc {f : Nat} {args : List AV} {Q Q' : AV → ASt → Prop} (h : ACalls P f args st Q') (hq : ∀ v st', Q' v st' → ∃ st1, st1.le st' ∧ Q v st1) : ACalls P f args st Q :=
  h.ghost fun v st' q => by obtain ⟨st1, hl, hq1⟩ := hq v st' q; exact ⟨v, st1, Ghost.sub hl, hq1⟩

theorem ACalls.less {f : Nat} {args : List AV} {Q : AV → ASt → Prop} (h : ACalls P f args st1 Q) (hl : st1.le st) : ACalls P f args st Q :=
  fun B w0 R wr C w vs s h1 h2 => h B w0 R wr C w vs (s.sub hl) h1 h2

end

theorem ASim.freeze {B : Nat} {w0 : World} {R : Nat → Prop} {wr : World} {C : ACx} {st : ASt} {w : World} (s : ASim B w0 R wr C st w) {id : Nat} {cm : List AV} (h : st.h id = some (.cells cm)) :
    ∃ C', C.le C' ∧ ASim B w0 R wr C' (st.kill id) w ∧ ∀ sz off len rv, VS C (.sl sz id off len) rv → off ≤ cm.length → VS C' (.isl sz (cm.drop off) len) rv := by
  obtain ⟨hl, c, t, hw, hs, hv⟩ := s.obj id _ h
  have hidl : st.h id ≠ none := by rw [h]; simp
  let C' : ACx := { C with K := fun b o => if b = (C.φ id).1 ∧ (C.φ id).2 ≤ o ∧ o < (C.φ id).2 + cm.length then some (c.getD o undef) else C.K b o }
  have hCle : C.le C' := ⟨Nat.le_refl _, fun _ _ => rfl, fun _ _ => rfl, fun b o v hk => by
    have : C'.K b o = C.K b o := by
      show (if b = (C.φ id).1 ∧ (C.φ id).2 ≤ o ∧ o < (C.φ id).2 + cm.length then some (c.getD o undef) else C.K b o) = _
      rw [if_neg]
      rintro ⟨rfl, _⟩
      exact (s.imm _ o v hk).2.2 id hidl rfl
    rw [this]; exact hk⟩
  have sk := s.kill id
  refine ⟨C', hCle, { glob := sk.glob.mono hCle, live := sk.live, below := sk.below, hB := sk.hB, inj := sk.inj, lo := sk.lo, obj := fun i o ho => ObjSim.mono hCle (sk.lt ho) (sk.obj i o ho), imm := fun b o v hk => ?_, res := sk.res }, ?_⟩
  · have hk' : (if b = (C.φ id).1 ∧ (C.φ id).2 ≤ o ∧ o < (C.φ id).2 + cm.length then some (c.getD o undef) else C.K b o) = some v := hk
    split at hk'
    · rename_i hc
      obtain ⟨rfl, h1, h2⟩ := hc
      cases hk'
      refine ⟨?_, fun hr => (s.res _ hr).2.2 id hidl rfl, fun i hi e => ?_⟩
      · have : o < c.size := by omega
        simp [World.cell?, hw, this]
      · obtain ⟨hne, hli⟩ := ASt.kill_live hi
        exact hne (s.inj i id hli hidl e)
    · exact sk.imm b o v hk'
  · intro sz off len rv hx hoff
    obtain ⟨off', cap, rfl, hid, hcc, ho', hb⟩ := hx.sl_inv
    by_cases h0 : len = 0
    · subst h0
      exact .isl _ _ _ 0 0 _ _ (fun e => absurd rfl e) (fun e => by cases e) (fun _ => undef) (fun e => absurd rfl e) (fun e => absurd rfl e) hcc
    · have : off' = off := ho'.resolve_left h0
      subst this
      refine .isl _ _ _ _ _ _ _ (fun _ => rfl) (fun e => by cases e) (fun i => c.getD ((C.φ id).2 + (off' + i)) undef) (fun _ i hi => ?_) (fun _ i hi => ?_) hcc
      · show (if _ ∧ _ then _ else _) = _
        simp at hi
        rw [if_pos ⟨rfl, by omega, by omega⟩, Nat.add_assoc]
      · simp at hi
        have := (hv (off' + i) (by omega)).mono hCle
        simpa using this

theorem Ghost.freeze {st : ASt} {id sz len : Nat} {cm : List AV} (h : st.h id = some (.cells cm)) : Ghost (.sl sz id 0 len) st (.isl sz cm len) (st.kill id) :=
  fun B w0 R wr C w rv s x => by
    obtain ⟨C', h1, h2, h3⟩ := s.freeze h
    exact ⟨C', h1, h2, by simpa using h3 sz 0 len rv x (Nat.zero_le _)⟩

theorem Ghost.cell {v : AV} {st : ASt} {id im sz len j : Nat} {cs cm : List AV} (h : st.h id = some (.cells cs)) (hj : cs[j]? = some (.sl sz im 0 len)) (hm : st.h im = some (.cells cm)) (hne : id ≠ im) :
    Ghost v st v ((st.kill im).set id (.cells (cs.set j (.isl sz cm len)))) :=
  fun B w0 R wr C w rv s x => by
    obtain ⟨C', h1, h2, h3⟩ := s.freeze hm
    refine ⟨C', h1, ?_, x.mono h1⟩
    have hk : (st.kill im).h id = some (.cells cs) := by rw [ASt.kill_h, if_neg hne]; exact h
    refine h2.wrote hk w _ rfl rfl rfl rfl (fun _ _ => rfl) ?_
    obtain ⟨a1, c, t, a2, a3, a4⟩ := h2.obj id _ hk
    have hjl : j < cs.length := by
      rcases Nat.lt_or_ge j cs.length with h' | h'
      · exact h'
      · rw [List.getElem?_eq_none h'] at hj; cases hj
    obtain ⟨b1, c', t', b2, b3, b4⟩ := s.obj id _ h
    refine ⟨by simpa using a1, c, t, a2, a3, fun i hi => ?_⟩
    by_cases e : j = i
    · subst e
      have hφ : C'.φ id = C.φ id := h1.φ id (s.lt h)
      rw [hφ] at a2 ⊢
      rw [a2] at b2
      cases b2
      have := b4 j hjl
      rw [List.getElem?_eq_getElem hjl] at hj
      cases hj' : cs[j] with
      | sl sz' im' off' len' =>
        rw [hj'] at hj this
        cases hj
        simpa using h3 _ _ _ _ this (Nat.zero_le _)
      | _ => rw [hj'] at hj; cases hj
    · simp only [List.getElem_set_ne e]
      exact a4 i (by simpa using hi)

theorem ASt.le.set {s t : ASt} (h : s.le t) (id : Nat) (o : AObj) : (s.set id o).le (t.set id o) := fun i x hx => by
  rw [ASt.set_h] at hx ⊢
  split at hx
  · rename_i e
    rw [if_pos e]
    cases hs : s.h i with
    | none => rw [hs] at hx; cases hx
    | some y => rw [hs] at hx; rw [h i y hs]; exact hx
  · rename_i e
    rw [if_neg e]
    exact h i x hx
theorem ASt.le.set_new (s : ASt) (a : Nat) (x : AObj) (id : Nat) (o : AObj) : (s.set id o).le ((s.new a x).set id o) := (ASt.le.new s a x).set id o

def ASt.off (l : List Nat) (s t : ASt) : Prop := ∀ j, j ∉ l → t.h j = s.h j
theorem ASt.off.refl (l : List Nat) (s : ASt) : s.off l s := fun _ _ => rfl
theorem ASt.off.trans {l : List Nat} {a b c : ASt} (h : a.off l b) (k : b.off l c) : a.off l c := fun j hj => (k j hj).trans (h j hj)
theorem ASt.off.set {l : List Nat} {s t : ASt} (h : s.off l t) {id : Nat} (o : AObj) (hi : id ∈ l) : s.off l (t.set id o) := fun j hj => by
  rw [ASt.set_h, if_neg (by rintro rfl; exact hj hi)]; exact h j hj

theorem slen_nils : AV.nils.slen = some 0 := rfl
theorem slen_emp : AV.emp.slen = some 0 := rfl
theorem slen_isl (sz : Nat) (cs : List AV) (n : Nat) : (AV.isl sz cs n).slen = some n := rfl
theorem slen_sl (sz id off n : Nat) : (AV.sl sz id off n).slen = some n := rfl
theorem isNil_nilp : AV.nilp.isNil 0 = some true := rfl
theorem isNil_ptr (id off : Nat) : (AV.ptr id off).isNil 0 = some false := rfl
theorem isNil_iptr (cs : List AV) (off : Nat) : (AV.iptr cs off).isNil 0 = some false := rfl
theorem isNil_nils : AV.nils.isNil 1 = some true := rfl
theorem isNil_sl (sz id off n : Nat) : (AV.sl sz id off n).isNil 1 = some false := rfl
theorem isNil_isl (sz : Nat) (cs : List AV) {n : Nat} (h : n ≠ 0) : (AV.isl sz cs n).isNil 1 = some false := by
  cases n with
  | zero => exact absurd rfl h
  | succ n => rfl
theorem isNil_nilm : AV.nilm.isNil 2 = some true := rfl
theorem isNil_map (id : Nat) : (AV.map id).isNil 2 = some false := rfl
theorem isNil_nilf : AV.nilf.isNil 3 = some true := rfl
theorem isNil_fn (f : Nat) (c : List AV) : (AV.fn f c).isNil 3 = some false := rfl
theorem ld1_ptr (st : ASt) (id off : Nat) : st.ld1 (.ptr id off) = match st.h id with
    | some (.cells cs) => cs[off]?
    | _ => none := rfl
theorem ld1_iptr (st : ASt) (cs : List AV) (off : Nat) : st.ld1 (.iptr cs off) = cs[off]? := rfl
theorem ldN_ptr (st : ASt) (sz id off : Nat) : st.ldN sz (.ptr id off) = match st.h id with
    | some (.cells cs) => if off + sz ≤ cs.length then some (.agg ((cs.drop off).take sz)) else none
    | _ => none := rfl
theorem ldN_iptr (st : ASt) (sz : Nat) (cs : List AV) (off : Nat) : st.ldN sz (.iptr cs off) = if off + sz ≤ cs.length then some (.agg ((cs.drop off).take sz)) else none := rfl
theorem leaf_int (k : IntKind) (n : Int) : (AV.int k n).leaf = true := rfl
theorem leaf_bool (b : Bool) : (AV.bool b).leaf = true := rfl
theorem leaf_ptr (id off : Nat) : (AV.ptr id off).leaf = true := rfl
theorem leaf_nilp : AV.nilp.leaf = true := rfl
theorem leaf_sl (sz id off n : Nat) : (AV.sl sz id off n).leaf = true := rfl
theorem leaf_isl (sz : Nat) (cs : List AV) (n : Nat) : (AV.isl sz cs n).leaf = true := rfl
theorem leaf_nils : AV.nils.leaf = true := rfl
theorem leaf_emp : AV.emp.leaf = true := rfl
theorem leaf_map (id : Nat) : (AV.map id).leaf = true := rfl
theorem leaf_nilm : AV.nilm.leaf = true := rfl
theorem leaf_fn (f : Nat) (c : List AV) : (AV.fn f c).leaf = true := rfl
theorem leaf_nilf : AV.nilf.leaf = true := rfl
theorem part_agg (cs : List AV) : (AV.agg cs).part = some cs := rfl
theorem part_leaf {v : AV} (h : v.leaf = true) : v.part = some [v] := by cases v <;> first | rfl | cases h
theorem part_int (k : IntKind) (n : Int) : (AV.int k n).part = some [.int k n] := rfl
theorem part_bool (b : Bool) : (AV.bool b).part = some [.bool b] := rfl
theorem part_sl (sz id off n : Nat) : (AV.sl sz id off n).part = some [.sl sz id off n] := rfl
theorem part_isl (sz : Nat) (cs : List AV) (n : Nat) : (AV.isl sz cs n).part = some [.isl sz cs n] := rfl
theorem part_nils : AV.nils.part = some [.nils] := rfl
theorem part_emp : AV.emp.part = some [.emp] := rfl
theorem part_ptr (id off : Nat) : (AV.ptr id off).part = some [.ptr id off] := rfl
theorem part_nilp : AV.nilp.part = some [.nilp] := rfl
theorem part_map (id : Nat) : (AV.map id).part = some [.map id] := rfl
theorem part_fn (f : Nat) (c : List AV) : (AV.fn f c).part = some [.fn f c] := rfl
theorem AFr.set_some (fr : AFr) (d : Nat) (v : AV) : fr.set (some d) v = (d, v) :: fr := rfl
theorem AFr.set_none (fr : AFr) (v : AV) : fr.set none v = fr := rfl
theorem AFr.keep_nil (fr : AFr) : fr.keep [] = [] := rfl
theorem AFr.keep_cons (fr : AFr) (k : Nat) (ks : List Nat) : fr.keep (k :: ks) = (k, fr.get k) :: fr.keep ks := rfl
theorem AFr.val_slot (fr : AFr) (n : Nat) : fr.val (.slot n) = fr.get n := rfl
theorem AFr.val_cst (fr : AFr) (v : AV) : fr.val (.cst v) = v := rfl
theorem AFr.val_fnc (fr : AFr) (f : Nat) : fr.val (.fnc f) = .fn f [] := rfl
theorem AFr.vals_nil (fr : AFr) : fr.vals [] = [] := rfl
theorem AFr.vals_cons (fr : AFr) (x : IArg) (r : List IArg) : fr.vals (x :: r) = fr.val x :: fr.vals r := rfl

section
variable {P : Program}
theorem awp_keep (ks : List Nat) (c : ICode) (Q : IExit → AFr → ASt → Prop) (fr : AFr) (st : ASt) : awp P (.keep ks c) Q fr st = awp P c Q (fr.keep ks) st := rfl
theorem awp_seq (a b : ICode) (Q : IExit → AFr → ASt → Prop) (fr : AFr) (st : ASt) : awp P (.seq a b) Q fr st = awp P a (IExit.then (awp P b Q) Q) fr st := rfl
theorem awp_skip (Q : IExit → AFr → ASt → Prop) (fr : AFr) (st : ASt) : awp P .skip Q fr st = Q .normal fr st := rfl
theorem awp_exit (id : Nat) (Q : IExit → AFr → ASt → Prop) (fr : AFr) (st : ASt) : awp P (.exit id) Q fr st = Q (.exit id) fr st := rfl
theorem awp_ret (Q : IExit → AFr → ASt → Prop) (fr : AFr) (st : ASt) : awp P .ret Q fr st = Q .ret fr st := rfl
theorem awp_region (ops : List IOper) (Q : IExit → AFr → ASt → Prop) (fr : AFr) (st : ASt) : awp P (.region ops) Q fr st = aops P ops (Q .normal) fr st := rfl
theorem awp_block (id : Nat) (c : ICode) (Q : IExit → AFr → ASt → Prop) (fr : AFr) (st : ASt) : awp P (.block id c) Q fr st = awp P c (IExit.inBlock id Q) fr st := rfl
theorem awp_cond (c : IArg) (a b : ICode) (Q : IExit → AFr → ASt → Prop) (fr : AFr) (st : ASt) : awp P (.cond c a b) Q fr st = match fr.val c with
    | .bool t => if t then awp P a Q fr st else awp P b Q fr st
    | _ => False := rfl
theorem awp_loop {c : ICode} {Q : IExit → AFr → ASt → Prop} {fr : AFr} {st : ASt} (I : AFr → ASt → Prop) (μ : AFr → ASt → Nat) (h0 : I fr st)
    (h : ∀ fr st, I fr st → awp P c (IExit.then (fun fr' st' => I fr' st' ∧ μ fr' st' < μ fr st) Q) fr st) : awp P (.loop c) Q fr st := ⟨I, μ, h0, h⟩
theorem aops_nil (k : AFr → ASt → Prop) (fr : AFr) (st : ASt) : aops P [] k fr st = k fr st := rfl
def Strict (v : AV) (st : ASt) [c : Cont] : Prop := c.k v st
theorem strict_go (v : AV) (st : ASt) (k : AV → ASt → Prop) : @Strict v st ⟨k⟩ = k v st := rfl

theorem aops_plain (d : Option Nat) (op : IOp) (os : List IOper) (k : AFr → ASt → Prop) (fr : AFr) (st : ASt) :
    aops P (⟨d, op, none, [], []⟩ :: os) k fr st = aop P op fr st fun v st' => @Strict v st' ⟨fun v st' => aops P os k (fr.set d v) st'⟩ := by
  simp only [aops, aheadOk, astep0, heldOk, true_and]; rfl
theorem aops_guard (d : Option Nat) (op : IOp) (g : Nat) (want : Bool) (os : List IOper) (k : AFr → ASt → Prop) (fr : AFr) (st : ASt) :
    aops P (⟨d, op, some (g, want), [], []⟩ :: os) k fr st = match fr.get g with
    | .bool b => if b = want then aop P op fr st (fun v st' => @Strict v st' ⟨fun v st' => aops P os k (fr.set d v) st'⟩) else aops P os k (fr.set d (.tup [])) st
    | .tup [] => aops P os k (fr.set d (.tup [])) st
    | _ => False := by
  simp only [aops, aheadOk, astep0, heldOk, true_and]
  rfl
theorem astep0_none (d : Option Nat) (op : IOp) (h : List IHeld) (a : List (IArg × IArg)) (k : AFr → ASt → Prop) (fr : AFr) (st : ASt) :
    astep0 P ⟨d, op, none, h, a⟩ k fr st = aop P op fr st fun v st' => @Strict v st' ⟨fun v st' => k (fr.set d v) st'⟩ := rfl
theorem astep0_some (d : Option Nat) (op : IOp) (g : Nat) (want : Bool) (h : List IHeld) (a : List (IArg × IArg)) (k : AFr → ASt → Prop) (fr : AFr) (st : ASt) :
    astep0 P ⟨d, op, some (g, want), h, a⟩ k fr st = match fr.get g with
    | .bool b => if b = want then aop P op fr st (fun v st' => @Strict v st' ⟨fun v st' => k (fr.set d v) st'⟩) else k (fr.set d (.tup [])) st
    | .tup [] => k (fr.set d (.tup [])) st
    | _ => False := rfl
theorem then_normal (next : AFr → ASt → Prop) (Q : IExit → AFr → ASt → Prop) (fr : AFr) (st : ASt) : IExit.then next Q .normal fr st = next fr st := rfl
theorem then_exit (next : AFr → ASt → Prop) (Q : IExit → AFr → ASt → Prop) (i : Nat) (fr : AFr) (st : ASt) : IExit.then next Q (.exit i) fr st = Q (.exit i) fr st := rfl
theorem then_ret (next : AFr → ASt → Prop) (Q : IExit → AFr → ASt → Prop) (fr : AFr) (st : ASt) : IExit.then next Q .ret fr st = Q .ret fr st := rfl
theorem in_normal (id : Nat) (Q : IExit → AFr → ASt → Prop) (fr : AFr) (st : ASt) : IExit.inBlock id Q .normal fr st = Q .normal fr st := rfl
theorem in_exit (id : Nat) (Q : IExit → AFr → ASt → Prop) (i : Nat) (fr : AFr) (st : ASt) : IExit.inBlock id Q (.exit i) fr st = if i = id then Q .normal fr st else Q (.exit i) fr st := rfl
theorem in_ret (id : Nat) (Q : IExit → AFr → ASt → Prop) (fr : AFr) (st : ASt) : IExit.inBlock id Q .ret fr st = Q .ret fr st := rfl
theorem then_normal' (next : AFr → ASt → Prop) (Q : IExit → AFr → ASt → Prop) : IExit.then next Q .normal = next := rfl
theorem in_normal' (id : Nat) (Q : IExit → AFr → ASt → Prop) : IExit.inBlock id Q .normal = Q .normal := rfl
theorem post_normal (res : List IRes) (Q : AV → ASt → Prop) (fr : AFr) (st : ASt) : Post res Q .normal fr st = Ret res Q fr st := rfl
theorem post_ret (res : List IRes) (Q : AV → ASt → Prop) (fr : AFr) (st : ASt) : Post res Q .ret fr st = Ret res Q fr st := rfl
theorem ret_1 (n : Nat) (Q : AV → ASt → Prop) (fr : AFr) (st : ASt) : Ret [.slot n] Q fr st = Q (fr.get n) st := rfl
theorem ret_2 (n m : Nat) (Q : AV → ASt → Prop) (fr : AFr) (st : ASt) : Ret [.slot n, .slot m] Q fr st = Q (.tup [fr.get n, fr.get m]) st := rfl
theorem ret_3 (n m l : Nat) (Q : AV → ASt → Prop) (fr : AFr) (st : ASt) : Ret [.slot n, .slot m, .slot l] Q fr st = Q (.tup [fr.get n, fr.get m, fr.get l]) st := rfl
theorem ret_N (n sz : Nat) (Q : AV → ASt → Prop) (fr : AFr) (st : ASt) : Ret [.cellN n sz] Q fr st = match st.ldN sz (fr.get n) with
    | some v => Q v st
    | none => False := by
  simp only [Ret, resVals, resVal]
  cases st.ldN sz (fr.get n) <;> rfl
theorem ret_N1 (n sz m : Nat) (Q : AV → ASt → Prop) (fr : AFr) (st : ASt) : Ret [.cellN n sz, .slot m] Q fr st = match st.ldN sz (fr.get n) with
    | some v => Q (.tup [v, fr.get m]) st
    | none => False := by
  simp only [Ret, resVals, resVal]
  cases st.ldN sz (fr.get n) <;> rfl
theorem ret_0 (Q : AV → ASt → Prop) (fr : AFr) (st : ASt) : Ret [] Q fr st = Q (.tup []) st := rfl
end

theorem awp_mono {P : Program} : ∀ (c : ICode) {Q Q' : IExit → AFr → ASt → Prop} {fr : AFr} {st : ASt}, (∀ e fr st, Q e fr st → Q' e fr st) → awp P c Q fr st → awp P c Q' fr st
  | .skip, _, _, _, _, hq, h => hq _ _ _ h
  | .region ops, _, _, _, _, hq, h => aops_mono (fun _ _ x => hq _ _ _ x) h
  | .keep ks c, _, _, _, _, hq, h => awp_mono c hq h
  | .ghost c, _, _, _, _, hq, h => by
    obtain ⟨fr1, st1, hg, h1⟩ := h
    exact ⟨fr1, st1, hg, awp_mono c hq h1⟩
  | .seq a b, Q, Q', _, _, hq, h => awp_mono a (fun e fr st x => by
      cases e with
      | normal => exact awp_mono b hq x
      | _ => exact hq _ _ _ x) h
  | .cond c a b, _, _, fr, st, hq, h => by
      simp only [awp] at h ⊢
      cases hv : fr.val c with
      | bool t =>
        rw [hv] at h
        dsimp only at h ⊢
        split
        · rename_i h'; rw [if_pos h'] at h; exact awp_mono a hq h
        · rename_i h'; rw [if_neg h'] at h; exact awp_mono b hq h
      | _ => rw [hv] at h; exact h
  | .block id c, Q, Q', _, _, hq, h => awp_mono c (fun e fr st x => by
      cases e with
      | exit i =>
        simp only [IExit.inBlock] at x ⊢
        split
        · rename_i h'; rw [if_pos h'] at x; exact hq _ _ _ x
        · rename_i h'; rw [if_neg h'] at x; exact hq _ _ _ x
      | _ => exact hq _ _ _ x) h
  | .loop c, Q, Q', _, _, hq, h => by
      obtain ⟨I, μ, h0, h⟩ := h
      exact ⟨I, μ, h0, fun fr st hi => awp_mono c (fun e fr st x => by
        cases e with
        | normal => exact x
        | _ => exact hq _ _ _ x) (h fr st hi)⟩
  | .exit id, _, _, _, _, hq, h => hq _ _ _ h
  | .ret, _, _, _, _, hq, h => hq _ _ _ h

open Classical in
noncomputable def lst (p : Nat → Prop) : Nat := if h : ∃ n, p n then Classical.choose (least p h.choose h.choose_spec) else 0
theorem lst_spec {p : Nat → Prop} (h : ∃ n, p n) : p (lst p) := by
  rw [lst, dif_pos h]; exact (Classical.choose_spec (least p h.choose h.choose_spec)).1
theorem lst_le {p : Nat → Prop} {m : Nat} (h : p m) : lst p ≤ m := by
  have h' : ∃ n, p n := ⟨m, h⟩
  rw [lst, dif_pos h']; exact (Classical.choose_spec (least p h'.choose h'.choose_spec)).2 m h

theorem awp_loopK {P : Program} {c : ICode} {ks : List Nat} {Q : IExit → AFr → ASt → Prop} {fr : AFr} {st : ASt} {σ : Type} (F : σ → AFr) (I : σ → ASt → Prop) (μ : σ → Nat) (s0 : σ) (h0 : fr.keep ks = F s0) (hI : I s0 st)
    (h : ∀ s st, I s st → awp P c (IExit.then (fun fr' st' => ∃ s', fr'.keep ks = F s' ∧ I s' st' ∧ μ s' < μ s) Q) (F s) st) : awp P (.loop (.keep ks c)) Q fr st := by
  refine awp_loop (fun fr st => ∃ s, fr.keep ks = F s ∧ I s st) (fun fr st => lst fun n => ∃ s, fr.keep ks = F s ∧ I s st ∧ μ s = n) ⟨s0, h0, hI⟩ ?_
  rintro fr st ⟨s, e1, e2⟩
  obtain ⟨x, x1, x2, x3⟩ := lst_spec (p := fun n => ∃ s, fr.keep ks = F s ∧ I s st ∧ μ s = n) ⟨_, s, e1, e2, rfl⟩
  rw [awp_keep, x1]
  refine awp_mono c ?_ (h x st x2)
  rintro e fr' st'
  cases e with
  | normal =>
    rintro ⟨y, y1, y2, y3⟩
    refine ⟨⟨y, y1, y2⟩, Nat.lt_of_le_of_lt (lst_le ⟨y, y1, y2, rfl⟩) ?_⟩
    rw [x1] at x3
    rw [← x3]; exact y3
  | _ => exact id

theorem ASt.le.unkill {s t : ASt} (h : s.le t) {id : Nat} (hid : s.h id = none) : s.le (t.kill id) := fun i o hi => by
  rw [ASt.kill_h, if_neg (by rintro rfl; rw [hid] at hi; cases hi)]
  exact h i o hi

theorem ASt.seen_le {s t : ASt} (h : s.le t) {n : Nat} {v : AV} {c : List AV} (hs : s.seen n v = some c) : t.seen n v = some c := by
  cases v <;> simp only [ASt.seen] at hs ⊢ <;> try exact hs
  rename_i sz id off len
  cases hx : s.h id with
  | none => rw [hx] at hs; cases hs
  | some o => rw [hx] at hs; rw [h _ _ hx]; exact hs
theorem ASt.new_o (st : ASt) (id : Nat) (o : AObj) (j : Nat) : (st.new id o).h j = (st.h j).or (if j = id then some o else none) := by
  rw [ASt.new_h]; cases st.h j <;> rfl
theorem ASt.new_none (st : ASt) (id : Nat) (o : AObj) (j : Nat) : (st.new id o).h j = none ↔ (st.h j = none ∧ ¬ j = id) := by
  rw [ASt.new_o]; simp
theorem ASt.set_none (st : ASt) (id : Nat) (o : AObj) (j : Nat) : (st.set id o).h j = none ↔ st.h j = none := by
  rw [ASt.set_h]; split <;> simp
theorem ASt.kill_none (st : ASt) (id : Nat) (j : Nat) : (st.kill id).h j = none ↔ (¬ j = id → st.h j = none) := by
  rw [ASt.kill_h]; split <;> simp_all
def ASt.only (st : ASt) (D : List Nat) : ASt := ⟨fun j => if j ∈ D then st.h j else none⟩
theorem ACalls.pre {P : Program} {f : Nat} {args : List AV} {st st1 : ASt} {Q : AV → ASt → Prop} (g : Ghost .any st .any st1) (h : ACalls P f args st1 Q) : ACalls P f args st Q :=
  fun B w0 R wr C w vs s h1 h2 => by
    obtain ⟨C', g1, g2, _⟩ := g B w0 R wr C w undef s (.any _)
    refine (h B w0 R wr C' w vs g2 h1 (fun i hi => (h2 i hi).mono g1)).mono ?_
    rintro e w' ⟨C2, v, st2, rv, a, b, c, d, q⟩
    exact ⟨C2, v, st2, rv, g1.trans a, b, c, d, q⟩
theorem aops_held {P : Program} (d : Option Nat) (op : IOp) (g : Option (Nat × Bool)) (h : IHeld) (hs : List IHeld) (a : List (IArg × IArg)) (os : List IOper) (k : AFr → ASt → Prop) (fr : AFr) (st : ASt) :
    aops P (⟨d, op, g, h :: hs, a⟩ :: os) k fr st = (aheadOk fr a ∧ astep0 P ⟨d, op, g, h :: hs, a⟩ (fun fr' st' => heldOk st' fr' (h :: hs) ∧ aops P os k fr' st') fr st) := rfl
theorem aops_ahead {P : Program} (d : Option Nat) (op : IOp) (g : Option (Nat × Bool)) (a : IArg × IArg) (al : List (IArg × IArg)) (os : List IOper) (k : AFr → ASt → Prop) (fr : AFr) (st : ASt) :
    aops P (⟨d, op, g, [], a :: al⟩ :: os) k fr st = (aheadOk fr (a :: al) ∧ astep0 P ⟨d, op, g, [], a :: al⟩ (fun fr' st' => heldOk st' fr' [] ∧ aops P os k fr' st') fr st) := rfl
theorem awp_mid {P : Program} {a c : ICode} {ks : List Nat} {Q1 Q2 : IExit → AFr → ASt → Prop} {fr : AFr} {st : ASt} {σ : Type} (F : σ → AFr) (I : σ → ASt → Prop)
    (h1 : awp P a (IExit.then (fun fr st => ∃ s, fr.keep ks = F s ∧ I s st) Q2) fr st) (h2 : ∀ s st, I s st → awp P c Q1 (F s) st) : awp P a (IExit.then (awp P (.keep ks c) Q1) Q2) fr st := by
  refine awp_mono a (fun e fr st h => ?_) h1
  cases e with
  | normal =>
    obtain ⟨s, e1, e2⟩ := h
    show awp P (.keep ks c) Q1 fr st
    rw [awp_keep, e1]; exact h2 s st e2
  | _ => exact h
theorem awp_midB {P : Program} {a c : ICode} {ks : List Nat} {i : Nat} {Q1 Q2 : IExit → AFr → ASt → Prop} {fr : AFr} {st : ASt} {σ : Type} (F : σ → AFr) (I : σ → ASt → Prop)
    (h1 : awp P a (IExit.inBlock i (IExit.then (fun fr st => ∃ s, fr.keep ks = F s ∧ I s st) Q2)) fr st) (h2 : ∀ s st, I s st → awp P c Q1 (F s) st) : awp P a (IExit.inBlock i (IExit.then (awp P (.keep ks c) Q1) Q2)) fr st := by
  refine awp_mono a (fun e fr st h => ?_) h1
  have hn : ∀ fr st, (∃ s, fr.keep ks = F s ∧ I s st) → awp P (.keep ks c) Q1 fr st := by
    rintro fr st ⟨s, e1, e2⟩
    rw [awp_keep, e1]; exact h2 s st e2
  cases e with
  | normal => exact hn _ _ h
  | exit j =>
    simp only [IExit.inBlock] at h ⊢
    split
    · rename_i e; rw [if_pos e] at h; exact hn _ _ h
    · rename_i e; rw [if_neg e] at h; exact h
  | ret => exact h
theorem rows_drop {α : Type} (enc : α → List AV) {w : Nat} (hw : ∀ x, (enc x).length = w) {l : List α} {i : Nat} (hi : i < l.length) : ((l.flatMap enc).drop (i * w)).take w = enc l[i] := by
  induction l generalizing i with
  | nil => simp at hi
  | cons x l ih =>
    cases i with
    | zero =>
      simp only [List.flatMap_cons, Nat.zero_mul, List.drop_zero, List.getElem_cons_zero]
      rw [List.take_append_of_le_length (by rw [hw]; exact Nat.le_refl _), List.take_of_length_le (by rw [hw]; exact Nat.le_refl _)]
    | succ i =>
      simp only [List.flatMap_cons, List.getElem_cons_succ]
      rw [show (i + 1) * w = (enc x).length + i * w by rw [hw, Nat.add_mul]; omega, ← List.drop_drop, List.drop_left]
      exact ih (by simpa using hi)
theorem rows_get {α : Type} (enc : α → List AV) {w : Nat} (hw : ∀ x, (enc x).length = w) {l : List α} {i j : Nat} (hi : i < l.length) (hj : j < w) : (l.flatMap enc)[i * w + j]? = (enc l[i])[j]? := by
  rw [← rows_drop enc hw hi, List.getElem?_take_of_lt hj, List.getElem?_drop]
def ArgAs (w : Nat) (cells : List AV) (n : Nat) (v : AV) : Prop := v = .isl w cells n ∨ (v = .nils ∧ n = 0 ∧ cells = [])
theorem ArgAs.slen {w : Nat} {cells : List AV} {n : Nat} {v : AV} (h : ArgAs w cells n v) : v.slen = some n := by
  rcases h with rfl | ⟨rfl, rfl, _⟩ <;> rfl
theorem ArgAs.isl {w : Nat} {cells : List AV} {n : Nat} {v : AV} (h : ArgAs w cells n v) (hn : n ≠ 0) : v = .isl w cells n := by
  rcases h with h | ⟨_, h, _⟩
  · exact h
  · exact absurd h hn

def ASt.without (st : ASt) : AV → ASt
  | .sl _ i _ _ => st.kill i
  | _ => st

def Shows (st : ASt) (sz : Nat) (v : AV) (n : Nat) (cs : List AV) : Prop :=
  cs.length = n * sz ∧ ((n = 0 ∧ v = .nils) ∨ ∃ i, v = .sl sz i 0 n ∧ st.h i = some (.cells cs))

theorem Shows.slen {st : ASt} {sz : Nat} {v : AV} {n : Nat} {cs : List AV} (h : Shows st sz v n cs) : v.slen = some n := by
  rcases h.2 with ⟨rfl, rfl⟩ | ⟨i, rfl, _⟩ <;> rfl

theorem Shows.leaf {st : ASt} {sz : Nat} {v : AV} {n : Nat} {cs : List AV} (h : Shows st sz v n cs) : v.leaf = true := by
  rcases h.2 with ⟨rfl, rfl⟩ | ⟨i, rfl, _⟩ <;> rfl

theorem Shows.part {st : ASt} {sz : Nat} {v : AV} {n : Nat} {cs : List AV} (h : Shows st sz v n cs) : v.part = some [v] := part_leaf h.leaf

theorem Shows.blk {st : ASt} {sz : Nat} {v : AV} {n : Nat} {cs : List AV} (h : Shows st sz v n cs) (hn : n ≠ 0) : ∃ i, v = .sl sz i 0 n ∧ st.h i = some (.cells cs) := by
  rcases h.2 with ⟨e, _⟩ | h
  · exact absurd e hn
  · exact h

theorem Shows.le {st st' : ASt} {sz : Nat} {v : AV} {n : Nat} {cs : List AV} (h : Shows st sz v n cs) (hl : st.le st') : Shows st' sz v n cs := by
  obtain ⟨h1, h2⟩ := h
  refine ⟨h1, ?_⟩
  rcases h2 with h2 | ⟨i, rfl, hi⟩
  · exact .inl h2
  · exact .inr ⟨i, rfl, hl _ _ hi⟩

theorem Shows.nils (st : ASt) (sz : Nat) : Shows st sz .nils 0 [] := ⟨by simp, .inl ⟨rfl, rfl⟩⟩

theorem Shows.seen {st : ASt} {sz : Nat} {v : AV} {n : Nat} {cs : List AV} (h : Shows st sz v n cs) : st.seen (n * sz) v = some cs := by
  obtain ⟨h1, h2⟩ := h
  rcases h2 with ⟨rfl, rfl⟩ | ⟨i, rfl, hi⟩
  · simp at h1; subst h1; rfl
  · simp only [ASt.seen, hi, Nat.zero_add, h1, Nat.le_refl, if_true, List.drop_zero]
    rw [← h1, List.take_length]

theorem aop_append_one {P : Program} {sz b : Nat} {zs : List AV} {parts : List (Nat × Nat × IArg)} {x y : IArg} {fr : AFr} {st : ASt} {F : AV → AFr} {K : AV → AV → ASt → Prop} {v : AV} {n : Nat} {cs new : List AV}
    (hown : Shows st sz v n cs) (hn : n + 1 ≤ 4294967296) (hnew : aput (zeros zs 1) (parts.map fun p => (p.1, p.2.1, fr.val p.2.2)) = .some new) (hlen : new.length = sz) (hleaf : allLeaf new = true)
    (hx : ∀ v1, (F v1).val x = v) (hy : ∀ v1, (F v1).val y = v1)
    (hk : ∀ v1 i2 st2, (st.without v).h i2 = none → (st.without v).le st2 → Shows st2 sz (.sl sz i2 0 (n + 1)) (n + 1) (cs ++ new) → K v1 (.sl sz i2 0 (n + 1)) st2) :
    aop P (.buildSlice sz 1 zs parts) fr st (fun v1 st1 => aop P (.append sz b x y) (F v1) st1 (K v1)) := by
  simp only [aop, hnew]
  intro i1 hi1
  have hlen2 : (cs ++ new).length = (n + 1) * sz := by rw [List.length_append, hown.1, hlen, Nat.add_mul, Nat.one_mul]
  have h1 : (st.new i1 (.cells new)).h i1 = .some (.cells new) := ASt.new_self _ hi1
  have hseen : (st.new i1 (.cells new)).seen (1 * sz) (.sl sz i1 0 1) = .some new := Shows.seen (n := 1) ⟨by rw [hlen, Nat.one_mul], .inr ⟨i1, rfl, h1⟩⟩
  simp only [hx, hy, hown.slen, slen_sl, hseen]
  refine ⟨⟨hn, hleaf⟩, ?_⟩
  rw [if_neg (by omega)]
  have key : ∀ i2 st2, (st.without v).h i2 = none → (st.without v).le st2 → st2.h i2 = .some (.cells (cs ++ new)) → K (.sl sz i1 0 1) (.sl sz i2 0 (n + 1)) st2 :=
    fun i2 st2 a b c => hk _ i2 st2 a b ⟨hlen2, .inr ⟨i2, rfl, c⟩⟩
  obtain ⟨hcs, hv⟩ := hown
  rcases hv with ⟨rfl, rfl⟩ | ⟨i, rfl, hi⟩
  · simp only
    intro i2 hi2
    rw [ASt.new_none] at hi2
    have hcs0 : cs = [] := List.eq_nil_of_length_eq_zero (by simpa using hcs)
    subst hcs0
    exact key i2 _ hi2.1 ((ASt.le.new _ _ _).trans (ASt.le.new _ _ _)) (ASt.new_self _ (by rw [ASt.new_none]; exact hi2))
  · have hne : i ≠ i1 := (ASt.ne hi1 hi).symm
    simp only [ASt.new_old hi, true_and, Nat.zero_add, List.drop_zero]
    refine ⟨hcs.symm, ?_⟩
    intro i2 hi2
    rw [ASt.new_none] at hi2
    refine key i2 _ ?_ ?_ ?_
    · show (st.kill i).h i2 = none
      rw [ASt.kill_none]; exact fun _ => hi2.1
    · show (st.kill i).le _
      intro j o hj
      rw [ASt.kill_h] at hj
      split at hj
      · cases hj
      · rename_i hji
        refine ASt.new_old ?_
        rw [ASt.kill_h, if_neg hji]
        exact ASt.new_old hj
    · refine ASt.new_self _ ?_
      rw [ASt.kill_none]; intro _; rw [ASt.new_none]; exact hi2

theorem ASt.le.without {s t : ASt} (h : s.le t) {v : AV} (hv : ∀ sz i off n, v = .sl sz i off n → s.h i = none) : s.le (t.without v) := by
  cases v with
  | sl sz i off n => exact h.unkill (hv _ _ _ _ rfl)
  | _ => exact h

def Over (base st : ASt) (sz : Nat) (v : AV) (n : Nat) (cs : List AV) : Prop := Shows st sz v n cs ∧ base.le st ∧ ∀ sz i off n, v = .sl sz i off n → base.h i = none
theorem Over.nils {base st : ASt} (h : base.le st) (sz : Nat) : Over base st sz .nils 0 [] := ⟨Shows.nils _ _, h, fun _ _ _ _ e => by cases e⟩

theorem aop_append_over {P : Program} {sz b : Nat} {zs : List AV} {parts : List (Nat × Nat × IArg)} {x y : IArg} {fr : AFr} {base st : ASt} {F : AV → AFr} {K : AV → AV → ASt → Prop} {v : AV} {n : Nat} {cs new : List AV}
    (hown : Over base st sz v n cs) (hn : n + 1 ≤ 4294967296) (hnew : aput (zeros zs 1) (parts.map fun p => (p.1, p.2.1, fr.val p.2.2)) = .some new) (hlen : new.length = sz) (hleaf : allLeaf new = true)
    (hx : ∀ v1, (F v1).val x = v) (hy : ∀ v1, (F v1).val y = v1)
    (hk : ∀ v1 v2 st2, Over base st2 sz v2 (n + 1) (cs ++ new) → K v1 v2 st2) :
    aop P (.buildSlice sz 1 zs parts) fr st (fun v1 st1 => aop P (.append sz b x y) (F v1) st1 (K v1)) :=
  aop_append_one hown.1 hn hnew hlen hleaf hx hy fun v1 i2 st2 h1 h2 h3 => hk v1 _ st2 ⟨h3, (hown.2.1.without hown.2.2).trans h2, fun sz i off n e => by
    cases e
    cases hb : base.h i2 with
    | none => rfl
    | some o =>
      rw [(hown.2.1.without hown.2.2) _ _ hb] at h1; cases h1⟩

theorem Over.freeze {base st : ASt} {sz : Nat} {v : AV} {n : Nat} {cs : List AV} (h : Over base st sz v n cs) : ∃ v', Ghost v st v' base ∧ ArgAs sz cs n v' := by
  obtain ⟨⟨h1, h2⟩, h3, h4⟩ := h
  rcases h2 with ⟨rfl, rfl⟩ | ⟨i, rfl, hi⟩
  · exact ⟨.nils, Ghost.sub h3, .inr ⟨rfl, rfl, List.eq_nil_of_length_eq_zero (by simpa using h1)⟩⟩
  · exact ⟨.isl sz cs n, (Ghost.freeze hi).trans (Ghost.sub (h3.unkill (h4 _ _ _ _ rfl))), .inl rfl⟩
end Go.Proofs.YtdmfgodajoojpaaGreatDoor.Cn
/- The abstract layer: the rules of a step, all in one. No conditions. -/
set_option linter.defProp false
namespace Go.Proofs.YtdmfgodajoojpaaGreatDoor.Cn
open Go Go.RowKit
def Bp := And.intro (And.intro @initFr.eq_1 @initFr.eq_2) (And.intro (And.intro (And.intro (And.intro (And.intro (And.intro @awp_seq @awp_region) (And.intro @awp_keep (And.intro @awp_block @awp_cond))) (And.intro (And.intro @awp_skip @awp_ret) (And.intro @awp_exit (And.intro @aops_nil @aops_plain)))) (And.intro (And.intro (And.intro @aops_guard @aops_held) (And.intro @aops_ahead (And.intro @aop.eq_1 @aop.eq_2))) (And.intro (And.intro @aop.eq_3 @aop.eq_4) (And.intro @aop.eq_5 (And.intro @aop.eq_6 @aop.eq_7))))) (And.intro (And.intro (And.intro (And.intro @aop.eq_8 @aop.eq_9) (And.intro @aop.eq_10 (And.intro @aop.eq_11 @aop.eq_12))) (And.intro (And.intro @aop.eq_13 @aop.eq_14) (And.intro @aop.eq_15 (And.intro @aop.eq_16 @aop.eq_17)))) (And.intro (And.intro (And.intro @aop.eq_18 @aop.eq_19) (And.intro @aop.eq_20 (And.intro @aop.eq_21 @aop.eq_22))) (And.intro (And.intro @aop.eq_23 @aop.eq_24) (And.intro @aop.eq_25 (And.intro @aop.eq_26 @aop.eq_27)))))) (And.intro (And.intro (And.intro (And.intro (And.intro @aop.eq_29 @aop.eq_31) (And.intro @aop.eq_32 (And.intro @aop.eq_33 @aop.eq_34))) (And.intro (And.intro @aop.eq_35 @aop.eq_36) (And.intro @aop.eq_37 (And.intro @aop.eq_38 @aop_call)))) (And.intro (And.intro (And.intro (And.intro @aop.eq_39 @aop.eq_42) (And.intro @aop_callv @AFr.set_some)) (And.intro @AFr.set_none (And.intro @AFr.keep_nil @AFr.keep_cons))) (And.intro (And.intro @AFr.val_slot @AFr.val_cst) (And.intro @AFr.val_fnc (And.intro @AFr.vals_nil @AFr.vals_cons))))) (And.intro (And.intro (And.intro (And.intro @AFr.get_cons @AFr.get_nil) (And.intro @then_normal (And.intro @then_exit @then_ret))) (And.intro (And.intro @then_normal' @in_normal) (And.intro @in_exit (And.intro @in_ret @in_normal')))) (And.intro (And.intro (And.intro @post_normal @post_ret) (And.intro @ret_0 (And.intro @ret_1 @ret_2))) (And.intro (And.intro @ret_3 (And.intro @astep0_none @astep0_some)) (And.intro @ASt.new_none (And.intro @ASt.set_none @ASt.kill_none)))))))
def Bq := And.intro (And.intro @ret_N @ret_N1) (And.intro (And.intro (And.intro (And.intro (And.intro @aops_nil (And.intro @aops_plain @aops_guard)) (And.intro @aops_held (And.intro @aops_ahead @isNil_nilp))) (And.intro (And.intro @isNil_ptr (And.intro @isNil_iptr @isNil_nils)) (And.intro @isNil_sl (And.intro @isNil_isl @isNil_nilm)))) (And.intro (And.intro (And.intro @isNil_map (And.intro @isNil_nilf @isNil_fn)) (And.intro @slen_nils (And.intro @slen_emp @slen_isl))) (And.intro (And.intro @slen_sl (And.intro @ld1_ptr @ld1_iptr)) (And.intro (And.intro @ldN_ptr @ldN_iptr) (And.intro @part_agg @part_int))))) (And.intro (And.intro (And.intro (And.intro @part_bool (And.intro @part_sl @part_isl)) (And.intro @part_nils (And.intro @part_emp @part_ptr))) (And.intro (And.intro @part_nilp (And.intro @part_map @part_fn)) (And.intro @strict_go (And.intro @ASt.new_o @ASt.set_h)))) (And.intro (And.intro (And.intro @ASt.kill_h (And.intro @leaf_int @leaf_bool)) (And.intro @leaf_ptr (And.intro @leaf_nilp @leaf_sl))) (And.intro (And.intro @leaf_isl (And.intro @leaf_nils @leaf_emp)) (And.intro (And.intro @leaf_map @leaf_nilm) (And.intro @leaf_fn @leaf_nilf))))))
def Bs := And.intro (And.intro (And.intro (And.intro (And.intro (And.intro @List.map_cons.{0,0} @List.map_nil.{0,0}) (And.intro @List.append_nil.{0} (And.intro @List.nil_append.{0} @not_false_eq_true))) (And.intro (And.intro @not_true_eq_false (And.intro @if_true.{1} @if_false.{1})) (And.intro @Bool.false_xor (And.intro @Bool.true_xor @Bool.false_eq_true)))) (And.intro (And.intro (And.intro @Bool.true_eq_false @Bool.not_true) (And.intro @Bool.not_false (And.intro @decide_true @decide_false))) (And.intro (And.intro @Nat.zero_add (And.intro @Nat.add_zero @List.getElem?_cons_zero.{0})) (And.intro @List.getElem?_cons_succ.{0} (And.intro @true_and @and_true))))) (And.intro (And.intro (And.intro (And.intro @and_self @List.length_cons.{0}) (And.intro @List.length_nil.{0} (And.intro @Option.some_or.{0} @Option.none_or.{0}))) (And.intro (And.intro @Option.or_none.{0} (And.intro @eq_self.{1} @Option.map_some.{0,0})) (And.intro @List.length_set.{0} (And.intro @List.set_cons_zero.{0} @List.set_cons_succ.{0})))) (And.intro (And.intro (And.intro @List.cons_append.{0} (And.intro @List.drop_zero.{0} @List.drop_succ_cons.{0})) (And.intro @List.take_succ_cons.{0} (And.intro @List.take_zero.{0} @List.all_cons.{0}))) (And.intro (And.intro @List.all_nil.{0} (And.intro @Bool.and_true @Option.isSome_some.{0})) (And.intro @Option.isSome_none.{0} (And.intro @Option.isNone_some.{0} @Option.isNone_none.{0})))))) (And.intro (And.intro (And.intro (And.intro (And.intro @false_and @and_false) (And.intro @aeqP.eq_1 (And.intro @abinv.eq_1 @abinv.eq_2))) (And.intro (And.intro @abinv.eq_3 (And.intro @abinv.eq_4 @abin.eq_1)) (And.intro @abin.eq_2 (And.intro @abin.eq_3 @abin.eq_4)))) (And.intro (And.intro (And.intro @abin.eq_5 (And.intro @abin.eq_6 @abin.eq_7)) (And.intro @abin.eq_8 (And.intro @abin.eq_9 @abin.eq_10))) (And.intro (And.intro @abin.eq_11 (And.intro @abin.eq_12 @abin.eq_13)) (And.intro @abin.eq_14 (And.intro @abin.eq_15 @abin.eq_16))))) (And.intro (And.intro (And.intro (And.intro @aun.eq_1 @aun.eq_2) (And.intro @aun.eq_3 (And.intro @aun.eq_4 @aun.eq_5))) (And.intro (And.intro @bound.eq_1 (And.intro @bound.eq_2 @aslice.eq_1)) (And.intro @aslice.eq_2 (And.intro @aslice.eq_3 @aput.eq_1)))) (And.intro (And.intro (And.intro @aput.eq_2 (And.intro @putN.eq_1 @putN.eq_2)) (And.intro @zeros.eq_1 (And.intro @zeros.eq_2 @heldOk.eq_1))) (And.intro (And.intro @heldOk.eq_2 (And.intro @aheadOk.eq_1 @aheadOk.eq_2)) (And.intro @IOp.again.eq_1 (And.intro @IOp.again.eq_2 @IOp.again.eq_3))))))
end Go.Proofs.YtdmfgodajoojpaaGreatDoor.Cn
/- The abstract layer, part 20: seeing a heap otherwise in mid-code; calls that only read; slices of slices. No conditions. -/
set_option linter.unusedSimpArgs false
set_option linter.unusedVariables false
namespace Go.Proofs.YtdmfgodajoojpaaGreatDoor.Cn
open Go Go.RowKit

theorem FGhost.refl (fr : AFr) (st : ASt) : FGhost fr st fr st := fun _ _ _ _ C _ s => ⟨C, .refl C, s, fun _ _ h => h⟩
theorem FGhost.trans {fr fr1 fr2 : AFr} {st st1 st2 : ASt} (h : FGhost fr st fr1 st1) (k : FGhost fr1 st1 fr2 st2) : FGhost fr st fr2 st2 := fun B w0 R wr C w s => by
  obtain ⟨C1, h1, s1, x1⟩ := h B w0 R wr C w s
  obtain ⟨C2, h2, s2, x2⟩ := k B w0 R wr C1 w s1
  exact ⟨C2, h1.trans h2, s2, fun i v hv => x2 i v (x1 i v hv)⟩
theorem FGhost.sub (fr : AFr) {st st1 : ASt} (h : st1.le st) : FGhost fr st fr st1 := fun _ _ _ _ C _ s => ⟨C, .refl C, s.sub h, fun _ _ h => h⟩

inductive FrzV (id : Nat) (cm : List AV) : AV → AV → Prop
  | same (v : AV) : FrzV id cm v v
  | sl (sz off n : Nat) : FrzV id cm (.sl sz id off n) (.isl sz (cm.drop off) n)
  | ptr (off : Nat) : FrzV id cm (.ptr id off) (.iptr cm off)
  | nils (sz : Nat) : FrzV id cm .nils (.isl sz [] 0)
  | agg (cs cs1 : List AV) (h : cs1.length = cs.length) (hv : ∀ i (h : i < cs.length) (h' : i < cs1.length), FrzV id cm cs[i] cs1[i]) : FrzV id cm (.agg cs) (.agg cs1)
  | tup (cs cs1 : List AV) (h : cs1.length = cs.length) (hv : ∀ i (h : i < cs.length) (h' : i < cs1.length), FrzV id cm cs[i] cs1[i]) : FrzV id cm (.tup cs) (.tup cs1)

def FrzO (id : Nat) (cm : List AV) : AObj → AObj → Prop
  | .cells cs, .cells cs1 => cs1.length = cs.length ∧ ∀ i (h : i < cs.length) (h' : i < cs1.length), FrzV id cm cs[i] cs1[i]
  | o, o1 => o = o1

theorem FrzO.refl (id : Nat) (cm : List AV) (o : AObj) : FrzO id cm o o := by
  cases o with
  | cells cs => exact ⟨rfl, fun i _ _ => .same _⟩
  | map es => rfl

theorem vs_nils_isl {C : ACx} {v : Value} (h : VS C .nils v) (sz : Nat) (cs : List AV) : VS C (.isl sz cs 0) v := by
  cases h
  exact .isl _ _ _ 0 0 _ _ (fun e => absurd rfl e) (fun _ => rfl) (fun _ => undef) (fun e => absurd rfl e) (fun e => absurd rfl e) (Nat.le_refl _)

theorem FrzV.vs {C C' : ACx} {id : Nat} {cm : List AV} (hC : C.le C') (hs : ∀ sz off n rv, VS C (.sl sz id off n) rv → VS C' (.isl sz (cm.drop off) n) rv) (hp : ∀ off rv, VS C (.ptr id off) rv → VS C' (.iptr cm off) rv) :
    ∀ {a a1 : AV}, FrzV id cm a a1 → ∀ {v : Value}, VS C a v → VS C' a1 v := by
  intro a a1 h
  induction h with
  | same v => exact fun x => x.mono hC
  | sl sz off n => exact fun x => hs _ _ _ _ x
  | ptr off => exact fun x => hp _ _ x
  | nils sz => exact fun x => vs_nils_isl (x.mono hC) sz []
  | agg cs cs1 hl hv ih =>
    intro v x
    cases x with
    | agg _ vs hvl hvv =>
      refine .agg cs1 vs (by omega) fun i hi => ih i (by omega) hi (hvv i (by omega))
  | tup cs cs1 hl hv ih =>
    intro v x
    cases x with
    | tup _ vs hvl hvv =>
      refine .tup cs1 vs (by omega) fun i hi => ih i (by omega) hi (hvv i (by omega))

theorem ASim.frozen {B : Nat} {w0 : World} {R : Nat → Prop} {wr : World} {C : ACx} {st : ASt} {w : World} (s : ASim B w0 R wr C st w) {id : Nat} {cm : List AV} (h : st.h id = some (.cells cm)) {st1 : ASt}
    (hst : ∀ j o1, st1.h j = some o1 → j ≠ id ∧ ∃ o, st.h j = some o ∧ FrzO id cm o o1) :
    ∃ C', C.le C' ∧ ASim B w0 R wr C' st1 w ∧ ∀ a a1 v, FrzV id cm a a1 → VS C a v → VS C' a1 v := by
  obtain ⟨hl, c, t, hw, hs, hv⟩ := s.obj id _ h
  have hidl : st.h id ≠ none := by rw [h]; simp
  let C' : ACx := { C with K := fun b o => if b = (C.φ id).1 ∧ (C.φ id).2 ≤ o ∧ o < (C.φ id).2 + cm.length then some (c.getD o undef) else C.K b o }
  have hCle : C.le C' := ⟨Nat.le_refl _, fun _ _ => rfl, fun _ _ => rfl, fun b o v hk => by
    have : C'.K b o = C.K b o := by
      show (if b = (C.φ id).1 ∧ (C.φ id).2 ≤ o ∧ o < (C.φ id).2 + cm.length then some (c.getD o undef) else C.K b o) = _
      rw [if_neg]
      rintro ⟨rfl, _⟩
      exact (s.imm _ o v hk).2.2 id hidl rfl
    rw [this]; exact hk⟩
  have hK : ∀ i, i < cm.length → C'.K (C.φ id).1 ((C.φ id).2 + i) = some (c.getD ((C.φ id).2 + i) undef) := by
    intro i hi
    show (if _ ∧ _ then _ else _) = _
    rw [if_pos ⟨rfl, by omega, by omega⟩]
  have hconv : ∀ a a1 v, FrzV id cm a a1 → VS C a v → VS C' a1 v := by
    intro a a1 v hz hx
    refine hz.vs hCle ?_ ?_ hx
    · intro sz off n rv hx
      obtain ⟨off', cap, rfl, hid, hcc, ho', hb⟩ := hx.sl_inv
      by_cases h0 : n = 0
      · subst h0
        exact .isl _ _ _ 0 0 _ _ (fun e => absurd rfl e) (fun e => by cases e) (fun _ => undef) (fun e => absurd rfl e) (fun e => absurd rfl e) hcc
      · have : off' = off := ho'.resolve_left h0
        subst this
        refine .isl _ _ _ _ _ _ _ (fun _ => rfl) (fun e => by cases e) (fun i => c.getD ((C.φ id).2 + (off' + i)) undef) (fun _ i hi => ?_) (fun _ i hi => ?_) hcc
        · simp at hi
          have := hK (off' + i) (by omega)
          rwa [← Nat.add_assoc] at this ⊢
        · simp at hi
          have := (hv (off' + i) (by omega)).mono hCle
          simpa using this
    · intro off rv hx
      cases hx with
      | ptr _ _ hid => exact .iptr cm off _ _ (fun i => c.getD ((C.φ id).2 + i) undef) (fun i hi => hK i hi) (fun i hi => (hv i hi).mono hCle)
  have up : ∀ i, st1.h i ≠ none → i ≠ id ∧ st.h i ≠ none := by
    intro i hi
    cases hx : st1.h i with
    | none => exact absurd hx hi
    | some o =>
      obtain ⟨e, o', ho', _⟩ := hst i o hx
      exact ⟨e, by rw [ho']; simp⟩
  refine ⟨C', hCle, ?_, hconv⟩
  exact
  { glob := s.glob.mono hCle
    live := fun i hi => s.live i (up i hi).2
    below := s.below
    hB := s.hB
    inj := fun i j hi hj e => s.inj i j (up i hi).2 (up j hj).2 e
    lo := fun i hi => s.lo i (up i hi).2
    obj := fun i o1 ho1 => by
      obtain ⟨e, o, ho, hz⟩ := hst i o1 ho1
      have x := s.obj i o ho
      cases o with
      | cells cs =>
        cases o1 with
        | cells cs1 =>
          obtain ⟨z1, z2⟩ := hz
          obtain ⟨a1, c', t', a2, a3, a4⟩ := x
          exact ⟨by rw [z1]; exact a1, c', t', a2, a3, fun k hk => hconv _ _ _ (z2 k (by omega) hk) (a4 k (by omega))⟩
        | map es => cases hz
      | map es =>
        cases hz
        exact ObjSim.mono hCle (s.lt ho) x
    imm := fun b o v hk => by
      have hk' : (if b = (C.φ id).1 ∧ (C.φ id).2 ≤ o ∧ o < (C.φ id).2 + cm.length then some (c.getD o undef) else C.K b o) = some v := hk
      split at hk'
      · rename_i hc
        obtain ⟨rfl, h1, h2⟩ := hc
        cases hk'
        refine ⟨?_, fun hr => (s.res _ hr).2.2 id hidl rfl, fun i hi e => ?_⟩
        · have : o < c.size := by omega
          simp [World.cell?, hw, this]
        · obtain ⟨hne, hli⟩ := up i hi
          exact hne (s.inj i id hli hidl e)
      · obtain ⟨a1, a2, a3⟩ := s.imm b o v hk'
        exact ⟨a1, a2, fun i hi => a3 i (up i hi).2⟩
    res := fun b hb => by
      obtain ⟨a1, a2, a3⟩ := s.res b hb
      exact ⟨a1, a2, fun i hi => a3 i (up i hi).2⟩ }

theorem FGhost.freeze {fr fr1 : AFr} {st st1 : ASt} {id : Nat} {cm : List AV} (h : st.h id = some (.cells cm)) (hfr : ∀ i, FrzV id cm (fr.get i) (fr1.get i))
    (hst : ∀ j o1, st1.h j = some o1 → j ≠ id ∧ ∃ o, st.h j = some o ∧ FrzO id cm o o1) : FGhost fr st fr1 st1 := fun B w0 R wr C w s => by
  obtain ⟨C', h1, h2, h3⟩ := s.frozen h hst
  exact ⟨C', h1, h2, fun i v hv => h3 _ _ _ (hfr i) hv⟩

theorem Ghost.freezeV {v v1 : AV} {st st1 : ASt} {id : Nat} {cm : List AV} (h : st.h id = some (.cells cm)) (hv : FrzV id cm v v1)
    (hst : ∀ j o1, st1.h j = some o1 → j ≠ id ∧ ∃ o, st.h j = some o ∧ FrzO id cm o o1) : Ghost v st v1 st1 := fun B w0 R wr C w rv s x => by
  obtain ⟨C', h1, h2, h3⟩ := s.frozen h hst
  exact ⟨C', h1, h2, h3 _ _ _ hv x⟩

theorem Ghost.nils {st : ASt} (sz : Nat) : Ghost .nils st (.isl sz [] 0) st := fun B w0 R wr C w rv s x => ⟨C, .refl C, s, vs_nils_isl x sz []⟩

theorem Over.frz {base st : ASt} {sz : Nat} {v : AV} {n : Nat} {cs : List AV} (h : Over base st sz v n cs) : Ghost v st (.isl sz cs n) base := by
  obtain ⟨⟨h1, h2⟩, h3, h4⟩ := h
  rcases h2 with ⟨rfl, rfl⟩ | ⟨i, rfl, hi⟩
  · have : cs = [] := List.eq_nil_of_length_eq_zero (by simpa using h1)
    subst this
    exact (Ghost.nils sz).trans (Ghost.sub h3)
  · exact (Ghost.freeze hi).trans (Ghost.sub (h3.unkill (h4 _ _ _ _ rfl)))

theorem FrzV.cons2 {id : Nat} {cm : List AV} {a b a1 b1 : AV} (h : FrzV id cm a a1) (k : FrzV id cm b b1) : FrzV id cm (.tup [a, b]) (.tup [a1, b1]) :=
  .tup _ _ rfl fun i h1 h2 => by
    match i, h1 with
    | 0, _ => exact h
    | 1, _ => exact k

theorem Ghost.freezeIn {v v1 : AV} {st : ASt} {id : Nat} {cm : List AV} (h : st.h id = some (.cells cm)) (hv : FrzV id cm v v1) : Ghost v st v1 (st.kill id) :=
  Ghost.freezeV h hv fun j o1 ho => by
    rw [ASt.kill_h] at ho
    split at ho
    · cases ho
    · rename_i e; exact ⟨e, o1, ho, FrzO.refl _ _ _⟩

theorem Ghost.tupL {a a1 : AV} {st st1 : ASt} (h : Ghost a st a1 st1) (b : AV) : Ghost (.tup [a, b]) st (.tup [a1, b]) st1 := fun B w0 R wr C w rv s x => by
  cases x with
  | tup _ vs hl hv =>
    have h0 := hv 0 (by simp)
    have h1 := hv 1 (by simp)
    obtain ⟨C', q1, q2, q3⟩ := h B w0 R wr C w _ s h0
    refine ⟨C', q1, q2, .tup _ _ (by simpa using hl) fun i hi => ?_⟩
    match i, hi with
    | 0, _ => exact q3
    | 1, _ => exact h1.mono q1

theorem Over.rebase {base st base' st' : ASt} {sz n : Nat} {v : AV} {cs : List AV} (h : Over base st sz v n cs) (hk : ∀ b, base.h b = none → st.h b ≠ none → st'.h b = st.h b ∧ base'.h b = none) (hle : base'.le st') : Over base' st' sz v n cs := by
  obtain ⟨⟨h1, h2⟩, h3, h4⟩ := h
  rcases h2 with h2 | ⟨i, rfl, hi⟩
  · obtain ⟨rfl, rfl⟩ := h2
    exact ⟨⟨h1, .inl ⟨rfl, rfl⟩⟩, hle, fun _ _ _ _ e => by cases e⟩
  · obtain ⟨a, b⟩ := hk i (h4 _ _ _ _ rfl) (by rw [hi]; simp)
    exact ⟨⟨h1, .inr ⟨i, rfl, by rw [a]; exact hi⟩⟩, hle, fun _ _ _ _ e => by cases e; exact b⟩

theorem ASt.new_set {st : ASt} {m : Nat} (hm : st.h m = none) (a b : AObj) : (st.new m a).set m b = st.new m b := ASt.ext' fun i => by
  rw [ASt.set_h]
  split
  · rename_i e; subst e; rw [ASt.new_self _ hm, ASt.new_self _ hm]; rfl
  · rename_i e; rw [ASt.new_ne _ e, ASt.new_ne _ e]

theorem ASt.le.newB {s t : ASt} (h : s.le t) {m : Nat} (hm : t.h m = none) (o : AObj) : (s.new m o).le (t.new m o) := fun i x hx => by
  rw [ASt.new_o] at hx ⊢
  cases hs : s.h i with
  | some y => rw [hs] at hx; rw [h _ _ hs]; exact hx
  | none =>
    rw [hs, Option.none_or] at hx
    split at hx
    · rename_i e; subst e; rw [hm, Option.none_or, if_pos rfl]; exact hx
    · cases hx

theorem keep_set {base st : ASt} {j : Nat} {o : AObj} (hj : base.h j ≠ none) : ∀ b, base.h b = none → st.h b ≠ none → (st.set j o).h b = st.h b ∧ (base.set j o).h b = none := fun b hb _ => by
  have : b ≠ j := by rintro rfl; exact hj hb
  rw [ASt.set_h, ASt.set_h, if_neg this, if_neg this]; exact ⟨rfl, hb⟩
theorem keep_new {base st : ASt} {m : Nat} {o : AObj} (hm : st.h m = none) : ∀ b, base.h b = none → st.h b ≠ none → (st.new m o).h b = st.h b ∧ (base.new m o).h b = none := fun b hb hs => by
  have : b ≠ m := by rintro rfl; exact hs hm
  rw [ASt.new_ne _ this, ASt.new_ne _ this]; exact ⟨rfl, hb⟩

theorem ACalls.empty {P : Program} {f : Nat} {a b : List AV} {sz : Nat} {st : ASt} {Q : AV → ASt → Prop} (h1 : ACalls P f (a ++ .nils :: b) st Q) (h2 : ACalls P f (a ++ .nn :: b) st Q) : ACalls P f (a ++ .isl sz [] 0 :: b) st Q := by
  intro B w0 R wr C w vs s hs hv
  have hi : a.length < (a ++ AV.isl sz [] 0 :: b).length := by simp
  have hx := hv a.length hi
  rw [List.getElem_append_right (Nat.le_refl _)] at hx
  simp only [Nat.sub_self, List.getElem_cons_zero] at hx
  have rest : ∀ x : AV, VS C x (vs.getD a.length undef) → ∀ i (h : i < (a ++ x :: b).length), VS C (a ++ x :: b)[i] (vs.getD i undef) := by
    intro x hx i hi
    have hvi := hv i (by simpa using hi)
    rcases Nat.lt_trichotomy i a.length with h | h | h
    · rw [List.getElem_append_left h] at hvi ⊢; exact hvi
    · subst h
      rw [List.getElem_append_right (Nat.le_refl _)]
      simpa using hx
    · obtain ⟨k, rfl⟩ : ∃ k, i = a.length + (k + 1) := ⟨i - a.length - 1, by omega⟩
      rw [List.getElem_append_right (by omega)] at hvi ⊢
      simpa using hvi
  generalize hrv : vs.getD a.length undef = rv at hx rest
  cases hx with
  | isl _ _ _ b' o cap p hp hn hvs hK hvv hc =>
    cases p with
    | none =>
      have hcap := hn rfl
      subst hcap
      exact h1 B w0 R wr C w vs s (by simpa using hs) (rest _ .nils)
    | some p => exact h2 B w0 R wr C w vs s (by simpa using hs) (rest _ (.nn _ _))

end Go.Proofs.YtdmfgodajoojpaaGreatDoor.Cn
/- The abstract layer, part 21: calls that only read what the caller owns; slices of slices. No conditions. -/
set_option linter.unusedSimpArgs false
set_option linter.unusedVariables false
namespace Go.Proofs.YtdmfgodajoojpaaGreatDoor.Cn
open Go Go.RowKit

def start (W : World) : ACx := ⟨0, fun _ => (0, 0), fun _ => 0, fun b o => W.cell? ⟨b, o, none⟩⟩

def SView (st : ASt) (a a1 : AV) : Prop := ∀ B w0 R wr C w v, ASim B w0 R wr C st w → VS C a v → VS (start w) a1 v

inductive AV.Pure : AV → Prop
  | bool (b : Bool) : Pure (.bool b)
  | int (k : IntKind) (n : Int) : Pure (.int k n)
  | nilp : Pure .nilp
  | nils : Pure .nils
  | emp : Pure .emp
  | nilm : Pure .nilm
  | nilf : Pure .nilf
  | str (bs : List Nat) : Pure (.str bs)
  | isl (sz : Nat) (cs : List AV) (n : Nat) (h : ∀ i (hi : i < cs.length), Pure cs[i]) : Pure (.isl sz cs n)
  | agg (cs : List AV) (h : ∀ i (hi : i < cs.length), Pure cs[i]) : Pure (.agg cs)
  | tup (cs : List AV) (h : ∀ i (hi : i < cs.length), Pure cs[i]) : Pure (.tup cs)

theorem SView.isl {st : ASt} {sz n : Nat} {cs cs1 : List AV} (hl : cs1.length = cs.length) (h : ∀ i (h : i < cs.length) (h' : i < cs1.length), SView st cs[i] cs1[i]) : SView st (.isl sz cs n) (.isl sz cs1 n) := by
  intro B w0 R wr C w v s x
  cases x with
  | isl _ _ _ b o cap p hp hn vs hK hv hc =>
    exact .isl _ _ _ b o _ _ hp hn vs (fun hn i hi => (s.imm _ _ _ (hK hn i (by omega))).1) (fun hn i hi => h i (by omega) hi _ _ _ _ _ _ _ s (hv hn i (by omega))) hc

theorem SView.agg {st : ASt} {cs cs1 : List AV} (hl : cs1.length = cs.length) (h : ∀ i (h : i < cs.length) (h' : i < cs1.length), SView st cs[i] cs1[i]) : SView st (.agg cs) (.agg cs1) := by
  intro B w0 R wr C w v s x
  cases x with
  | agg _ vs hvl hvv => exact .agg _ _ (by omega) fun i hi => h i (by omega) hi _ _ _ _ _ _ _ s (hvv i (by omega))

theorem SView.tup {st : ASt} {cs cs1 : List AV} (hl : cs1.length = cs.length) (h : ∀ i (h : i < cs.length) (h' : i < cs1.length), SView st cs[i] cs1[i]) : SView st (.tup cs) (.tup cs1) := by
  intro B w0 R wr C w v s x
  cases x with
  | tup _ vs hvl hvv => exact .tup _ _ (by omega) fun i hi => h i (by omega) hi _ _ _ _ _ _ _ s (hvv i (by omega))

theorem SView.pure {st : ASt} : ∀ {a : AV}, a.Pure → SView st a a := by
  intro a h
  induction h with
  | bool b => intro B w0 R wr C w v s x; cases x; exact .bool _
  | int k n => intro B w0 R wr C w v s x; cases x; exact .int _ _
  | nilp => intro B w0 R wr C w v s x; cases x; exact .nilp
  | nils => intro B w0 R wr C w v s x; cases x; exact .nils
  | emp => intro B w0 R wr C w v s x; cases x; exact .emp _
  | nilm => intro B w0 R wr C w v s x; cases x; exact .nilm
  | nilf => intro B w0 R wr C w v s x; cases x; exact .nilf
  | str bs => intro B w0 R wr C w v s x; cases x with | str s _ h => exact .str _ _ h
  | isl sz cs n h ih => exact SView.isl rfl fun i hi _ => ih i hi
  | agg cs h ih => exact SView.agg rfl fun i hi _ => ih i hi
  | tup cs h ih => exact SView.tup rfl fun i hi _ => ih i hi

def AV.num : AV → Bool
  | .int .. | .bool .. => true
  | _ => false
theorem AV.num.pure {v : AV} (h : v.num = true) : v.Pure := by
  cases v <;> first | (constructor; done) | (cases h; done)
theorem globTab_num : (globTab.all fun p => p.2.all AV.num) = true := rfl
theorem ASim.start {B : Nat} {w0 : World} {R : Nat → Prop} {wr : World} {C : ACx} {st : ASt} {w : World} (s : ASim B w0 R wr C st w) : Glob (start w) := fun p hp => by
  have h := s.glob p hp
  have hn := List.all_eq_true.1 globTab_num p hp
  generalize hv : Value.pointer (some { block := p.1, off := 0 }) = v at h
  cases h with
  | iptr cs off b o vs hK hvs =>
    simp only [Value.pointer.injEq, Option.some.injEq, Addr.mk.injEq] at hv
    obtain ⟨rfl, h0, _⟩ := hv
    have e : o = 0 := by omega
    subst e
    refine VS.iptr _ 0 _ 0 vs (fun i hi => (s.imm _ _ _ (hK i hi)).1) fun i hi => ?_
    exact SView.pure (AV.num.pure (List.all_eq_true.1 hn _ (List.getElem_mem hi))) _ _ _ _ _ _ _ s (hvs i hi)

theorem SView.sl {st : ASt} {sz id off n : Nat} {cs cs1 : List AV} (hid : st.h id = some (.cells cs)) (hl : cs1.length ≤ (cs.drop off).length) (h : ∀ i (h : i < (cs.drop off).length) (h' : i < cs1.length), SView st (cs.drop off)[i] cs1[i]) :
    SView st (.sl sz id off n) (.isl sz cs1 n) := by
  intro B w0 R wr C w v s x
  obtain ⟨off', cap, rfl, hi, hcc, ho', hb⟩ := x.sl_inv
  obtain ⟨hl', c, t, hw, hs, hv⟩ := s.obj id _ hid
  by_cases h0 : n = 0
  · subst h0
    exact .isl _ _ _ 0 0 _ _ (fun e => absurd rfl e) (fun e => by cases e) (fun _ => undef) (fun e => absurd rfl e) (fun e => absurd rfl e) hcc
  · have : off' = off := ho'.resolve_left h0
    subst this
    refine .isl _ _ _ _ _ _ _ (fun _ => rfl) (fun e => by cases e) (fun i => c.getD ((C.φ id).2 + (off' + i)) undef) (fun _ i hi => ?_) (fun _ i hi => ?_) hcc
    · have h1 : off' + i < cs.length := by simp at hl; omega
      have h2 : (C.φ id).2 + off' + i < c.size := by omega
      show w.cell? _ = _
      simp [World.cell?, hw, h2, Nat.add_assoc, show (C.φ id).2 + (off' + i) < c.size by omega]
    · have h1 : i < (cs.drop off').length := by omega
      have h2 : off' + i < cs.length := by simp at h1; omega
      refine h i h1 hi _ _ _ _ _ _ _ s ?_
      have := hv (off' + i) h2
      simpa using this

inductive AV.Ground : AV → Prop
  | bool (b : Bool) : Ground (.bool b)
  | int (k : IntKind) (n : Int) : Ground (.int k n)
  | agg (cs : List AV) (h : ∀ i (hi : i < cs.length), Ground cs[i]) : Ground (.agg cs)
  | tup (cs : List AV) (h : ∀ i (hi : i < cs.length), Ground cs[i]) : Ground (.tup cs)

theorem AV.Ground.vs {C C' : ACx} {a : AV} (h : a.Ground) : ∀ {v : Value}, VS C a v → VS C' a v := by
  induction h with
  | bool b => intro v x; cases x; exact .bool _
  | int k n => intro v x; cases x; exact .int _ _
  | agg cs h ih =>
    intro v x
    cases x with
    | agg _ vs hvl hvv => exact .agg _ _ hvl fun i hi => ih i hi (hvv i hi)
  | tup cs h ih =>
    intro v x
    cases x with
    | tup _ vs hvl hvv => exact .tup _ _ hvl fun i hi => ih i hi (hvv i hi)

def Views (st : ASt) (args fargs : List AV) : Prop := fargs.length = args.length ∧ ∀ i (h : i < args.length) (h' : i < fargs.length), SView st args[i] fargs[i]

theorem Views.nil (st : ASt) : Views st [] [] := ⟨rfl, fun i h => absurd h (by simp)⟩
theorem Views.cons {st : ASt} {a a1 : AV} {l l1 : List AV} (h : SView st a a1) (k : Views st l l1) : Views st (a :: l) (a1 :: l1) :=
  ⟨by simp [k.1], fun i hi hi' => by
    cases i with
    | zero => exact h
    | succ i => exact k.2 i (by simpa using hi) (by simpa using hi')⟩

section
variable {P : Program} {f : Nat} {args fargs : List AV} {st : ASt}

def ints (l : List Int) : List AV := l.map (AV.int .i64)
theorem ints_length (l : List Int) : (ints l).length = l.length := by simp [ints]
theorem ints_get {l : List Int} {i : Nat} (h : i < l.length) : (ints l)[i]? = some (.int .i64 l[i]) := by simp [ints, h]
theorem ints_set (l : List Int) (i : Nat) (v : Int) : (ints l).set i (.int .i64 v) = ints (l.set i v) := by simp [ints, List.map_set]
theorem ints_leaf (l : List Int) : allLeaf (ints l) = true := by simp [allLeaf, ints, AV.leaf]
theorem ints_append (l k : List Int) : ints (l ++ k) = ints l ++ ints k := by simp [ints]
end
theorem wrap64 {n : Int} (h0 : -9223372036854775808 ≤ n) (h1 : n ≤ 9223372036854775807) : IntKind.i64.wrap n = n := by
  have e : IntKind.bits .i64 = 64 := rfl
  have hs : IntKind.signed .i64 = true := rfl
  simp only [IntKind.wrap, e, hs, Bool.true_and, decide_eq_true_eq]
  split <;> omega
theorem wsucc {k n : Nat} (h : k < n) (hn : n ≤ 9223372036854775807) : IntKind.i64.wrap ((k : Int) + 1) = ((k + 1 : Nat) : Int) := by rw [wrap64] <;> omega

end Go.Proofs.YtdmfgodajoojpaaGreatDoor.Cn
/- The abstract layer, part 22: a slice of slices of integers, each in a block of its own; those of which nobody may append are values. No conditions. -/
set_option linter.unusedSimpArgs false
set_option linter.unusedVariables false
namespace Go.Proofs.YtdmfgodajoojpaaGreatDoor.Cn
open Go Go.RowKit

def row (l : List Int) : AV := .isl 1 (ints l) l.length
def gval (g : List (List Int)) : AV := .isl 1 (g.map row) g.length

inductive RowAt (st : ASt) : AV → List Int → Option Nat → Prop
  | nils : RowAt st .nils [] none
  | val (l : List Int) : RowAt st (row l) l none
  | own (b : Nat) (l : List Int) (h : st.h b = some (.cells (ints l))) : RowAt st (.sl 1 b 0 l.length) l (some b)

theorem RowAt.le {st st' : ASt} {v : AV} {l : List Int} {b : Option Nat} (h : RowAt st v l b) (hb : ∀ x, b = some x → st'.h x = st.h x) : RowAt st' v l b := by
  cases h with
  | nils => exact .nils
  | val l => exact .val l
  | own b l h => exact .own b l (by rw [hb b rfl]; exact h)

structure Nest (base st : ASt) (id : Nat) (fz : Nat → Bool) (g : List (List Int)) : Prop where
  ex : ∃ (vs : List AV) (f : Nat → Option Nat), st.h id = some (.cells vs) ∧ vs.length = g.length ∧ (∀ i (h : i < g.length) (h' : i < vs.length), RowAt st vs[i] g[i] (f i) ∧ (fz i = false → g[i] ≠ [] → f i ≠ none) ∧ (fz i = false → g[i] = [] → vs[i] = .nils ∨ f i ≠ none)) ∧
    (∀ i j b, i < g.length → j < g.length → f i = some b → f j = some b → i = j) ∧ (∀ i b, i < g.length → f i = some b → b ≠ id ∧ base.h b = none)
  le : base.le st
  idn : base.h id = none

theorem nest_nils {base st : ASt} {id n : Nat} (h : st.h id = some (.cells (List.replicate n .nils))) (hl : base.le st) (hn : base.h id = none) (fz : Nat → Bool) : Nest base st id fz (List.replicate n []) :=
  ⟨⟨List.replicate n .nils, fun _ => none, h, by simp, fun i h h' => ⟨by rw [List.getElem_replicate, List.getElem_replicate]; exact .nils, fun _ e => absurd (List.getElem_replicate ..) e, fun _ _ => .inl (List.getElem_replicate ..)⟩, (fun i j b _ _ e _ => by cases e), (fun i b _ e => by cases e)⟩, hl, hn⟩

theorem Nest.rebase {base st base' st' : ASt} {id : Nat} {fz : Nat → Bool} {g : List (List Int)} (h : Nest base st id fz g) (hk : ∀ b, base.h b = none → st.h b ≠ none → st'.h b = st.h b ∧ base'.h b = none) (hle : base'.le st') : Nest base' st' id fz g := by
  obtain ⟨⟨vs, f, h1, h2, h3, h4, h5⟩, hl, hidn⟩ := h
  obtain ⟨k1, k2⟩ := hk id hidn (by rw [h1]; simp)
  have hrow : ∀ i b, i < g.length → f i = some b → st.h b ≠ none := by
    intro i b hi hb
    obtain ⟨q1, _⟩ := h3 i hi (by omega)
    generalize vs[i]'(by omega) = v at q1
    generalize g[i] = l at q1
    rw [hb] at q1
    cases q1 with
    | own _ _ hbl => rw [hbl]; simp
  refine ⟨⟨vs, f, by rw [k1]; exact h1, h2, fun i hi hi' => ?_, h4, fun i b hi hb => ⟨(h5 i b hi hb).1, (hk b (h5 i b hi hb).2 (hrow i b hi hb)).2⟩⟩, hle, k2⟩
  obtain ⟨q1, q2, q3⟩ := h3 i hi hi'
  exact ⟨q1.le fun x hx => (hk x (h5 i x hi hx).2 (hrow i x hi hx)).1, q2, q3⟩

theorem Nest.shows {base st : ASt} {id : Nat} {fz : Nat → Bool} {g : List (List Int)} (h : Nest base st id fz g) {j : Nat} (hj : j < g.length) (hf : fz j = false) :
    ∃ vs v, st.h id = some (.cells vs) ∧ vs.length = g.length ∧ vs[j]? = some v ∧ Shows st 1 v g[j].length (ints g[j]) ∧
      ∀ i2 st2 x, (st.without v).h i2 = none → (st.without v).le st2 → st2.h i2 = some (.cells (ints (g[j] ++ [x]))) →
        st2.h id = some (.cells vs) ∧ Nest base (st2.set id (.cells (vs.set j (.sl 1 i2 0 (g[j].length + 1))))) id fz (g.set j (g[j] ++ [x])) := by
  obtain ⟨⟨vs, f, h1, h2, h3, h4, h5⟩, hle, hidn⟩ := h
  have hj' : j < vs.length := by omega
  obtain ⟨hr, hr2, hr3⟩ := h3 j hj hj'
  have hsh : Shows st 1 vs[j] g[j].length (ints g[j]) ∧ ∀ b, f j = some b → vs[j] = .sl 1 b 0 g[j].length := by
    generalize hv : vs[j] = v at hr hr3
    generalize hl : g[j] = l at hr hr2 hr3
    generalize hfj : f j = b at hr hr2 hr3
    cases hr with
    | nils => exact ⟨Shows.nils _ _, fun b e => by cases e⟩
    | val =>
      by_cases e : l = []
      · rcases hr3 hf e with h | h
        · cases h
        · exact absurd rfl h
      · exact absurd rfl (hr2 hf e)
    | own b _ hb => exact ⟨⟨by simp [ints_length], .inr ⟨b, rfl, hb⟩⟩, fun b' e => by cases e; rfl⟩
  refine ⟨vs, vs[j], h1, h2, List.getElem?_eq_getElem hj', hsh.1, ?_⟩
  intro i2 st2 x hi2 hl2 hc2
  -- the row's block is none of the others
  have hwo : ∀ i, (∀ b, f j = some b → i ≠ b) → (st.without vs[j]).h i = st.h i := by
    intro i hi
    rcases hsh.1.2 with ⟨_, e⟩ | ⟨b, e, hb⟩
    · rw [e]; rfl
    · rw [e]
      show (st.kill b).h i = _
      rw [ASt.kill_h]
      by_cases hfb : f j = none
      · -- a row with no block of its own does not read so
        generalize hv : vs[j] = v at hr e
        generalize hl : g[j] = l at hr e
        rw [hfb] at hr
        cases hr <;> cases e
      · cases hfj : f j with
        | none => exact absurd hfj hfb
        | some b' =>
          have := hsh.2 b' hfj
          rw [e] at this
          cases this
          rw [if_neg (hi b hfj)]
  have hid : (st.without vs[j]).h id = some (.cells vs) := by
    rw [hwo id (fun b hb => (h5 j b hj hb).1.symm)]; exact h1
  have hne : i2 ≠ id := by rintro rfl; rw [hid] at hi2; cases hi2
  have hid2 := hl2 _ _ hid
  refine ⟨hid2, ⟨⟨vs.set j (.sl 1 i2 0 (g[j].length + 1)), fun i => if i = j then some i2 else f i, ?_, by simp [h2], ?_, ?_, ?_⟩, ?_, hidn⟩⟩
  · rw [ASt.set_h, if_pos rfl, hid2]; rfl
  · intro i hi hi'
    simp only [List.length_set] at hi hi'
    by_cases e : i = j
    · subst e
      simp only [List.getElem_set_self, if_true]
      refine ⟨?_, fun _ _ => by simp, fun _ _ => .inr (by simp)⟩
      have := RowAt.own (st := st2.set id (.cells (vs.set i (.sl 1 i2 0 (g[i].length + 1))))) i2 (g[i] ++ [x]) (by rw [ASt.set_h, if_neg hne]; exact hc2)
      simpa using this
    · simp only [List.getElem_set_ne (Ne.symm e), if_neg e]
      obtain ⟨q1, q2, q3⟩ := h3 i hi hi'
      refine ⟨?_, q2, q3⟩
      have hb : ∀ b, f i = some b → (st2.set id (.cells (vs.set j (.sl 1 i2 0 (g[j].length + 1))))).h b = st.h b := by
        intro b hb
        have hbi := (h5 i b hi hb).1
        rw [ASt.set_h, if_neg hbi]
        generalize vs[i] = v at q1
        generalize g[i] = l at q1
        rw [hb] at q1
        cases q1 with
        | own _ _ hbl =>
          rw [hbl]
          refine hl2 _ _ ?_
          rw [hwo b (fun b' hb' e' => by subst e'; exact e (h4 i j b hi hj hb hb'))]
          exact hbl
      exact q1.le hb
  · intro i k b hi hk e1 e2
    simp only [List.length_set] at hi hk
    have hb2 : ∀ m, m < g.length → f m = some i2 → m ≠ j → False := by
      intro m hm hfm hmj
      obtain ⟨q1, _⟩ := h3 m hm (by omega)
      generalize vs[m] = v at q1
      generalize g[m] = l at q1
      rw [hfm] at q1
      cases q1 with
      | own _ _ hbl =>
        rw [hwo i2 (fun b' hb' e' => by subst e'; exact hmj (h4 m j _ hm hj hfm hb'))] at hi2
        rw [hi2] at hbl; cases hbl
    by_cases ei : i = j
    · by_cases ek : k = j
      · rw [ei, ek]
      · simp only [if_pos ei, if_neg ek] at e1 e2
        cases e1
        exact (hb2 k hk e2 ek).elim
    · by_cases ek : k = j
      · simp only [if_neg ei, if_pos ek] at e1 e2
        cases e2
        exact (hb2 i hi e1 ei).elim
      · simp only [if_neg ei, if_neg ek] at e1 e2
        exact h4 i k b hi hk e1 e2
  · intro i b hi hb
    simp only [List.length_set] at hi
    by_cases ei : i = j
    · simp only [if_pos ei] at hb
      cases hb
      refine ⟨hne, ?_⟩
      cases hbase : base.h i2 with
      | none => rfl
      | some o =>
        have h6 := hle _ _ hbase
        by_cases hx : ∃ b', f j = some b' ∧ i2 = b'
        · obtain ⟨b', hb', rfl⟩ := hx
          rw [(h5 j _ hj hb').2] at hbase; cases hbase
        · rw [hwo i2 (fun b' hb' e' => hx ⟨b', hb', e'⟩), h6] at hi2; cases hi2
    · simp only [if_neg ei] at hb
      exact h5 i b hi hb
  · intro i o ho
    have hni : i ≠ id := by rintro rfl; rw [hidn] at ho; cases ho
    rw [ASt.set_h, if_neg hni]
    refine hl2 _ _ ?_
    rw [hwo i (fun b hb e => by subst e; rw [(h5 j _ hj hb).2] at ho; cases ho)]
    exact hle _ _ ho

theorem Nest.put {base st : ASt} {id : Nat} {fz : Nat → Bool} {g : List (List Int)} (h : Nest base st id fz g) {j : Nat} (hj : j < g.length) (hf : fz j = true) :
    ∃ vs, st.h id = some (.cells vs) ∧ vs.length = g.length ∧ ∀ l, Nest base (st.set id (.cells (vs.set j (row l)))) id fz (g.set j l) := by
  obtain ⟨⟨vs, f, h1, h2, h3, h4, h5⟩, hle, hidn⟩ := h
  refine ⟨vs, h1, h2, fun l => ⟨⟨vs.set j (row l), fun i => if i = j then none else f i, by rw [ASt.set_h, if_pos rfl, h1]; rfl, by simp [h2], fun i hi hi' => ?_, fun i k b hi hk e1 e2 => ?_, fun i b hi hb => ?_⟩, fun i o ho => ?_, hidn⟩⟩
  · have hi2 : i < g.length := by simpa using hi
    by_cases e : i = j
    · subst e
      simp only [List.getElem_set_self, if_true]
      exact ⟨.val _, fun x => by rw [hf] at x; (cases x), fun x => by rw [hf] at x; (cases x)⟩
    · simp only [List.getElem_set_ne (Ne.symm e), if_neg e]
      obtain ⟨q1, q2, q3⟩ := h3 i hi2 (by simpa using hi')
      refine ⟨q1.le fun x hx => ?_, q2, q3⟩
      rw [ASt.set_h, if_neg (h5 i x hi2 hx).1]
  · simp only [List.length_set] at hi hk
    by_cases ei : i = j
    · simp only [if_pos ei] at e1; cases e1
    · by_cases ek : k = j
      · simp only [if_pos ek] at e2; cases e2
      · simp only [if_neg ei, if_neg ek] at e1 e2
        exact h4 i k b hi hk e1 e2
  · simp only [List.length_set] at hi
    by_cases ei : i = j
    · simp only [if_pos ei] at hb; cases hb
    · simp only [if_neg ei] at hb
      exact h5 i b hi hb
  · rw [ASt.set_h, if_neg (by rintro rfl; rw [hidn] at ho; cases ho)]
    exact hle _ _ ho

theorem Nest.freeze {base : ASt} {id : Nat} {fz : Nat → Bool} {g : List (List Int)} : ∀ {st : ASt}, Nest base st id fz g → ∀ v, ∃ st1, Ghost v st v st1 ∧ base.le st1 ∧ st1.h id = some (.cells (g.map row)) := by
  intro st h v
  -- the first k rows are values
  have key : ∀ k, k ≤ g.length → ∃ st1, Ghost v st v st1 ∧ Nest base st1 id (fun i => fz i || decide (i < k)) g ∧ ∀ vs, st1.h id = some (.cells vs) → ∀ i (h : i < vs.length) (h' : i < g.length), i < k → vs[i] = row g[i] := by
    intro k
    induction k with
    | zero =>
      intro _
      refine ⟨st, Ghost.refl _ _, ?_, fun vs _ i _ _ hi => absurd hi (by omega)⟩
      simpa using h
    | succ k ih =>
      intro hk
      obtain ⟨st1, hg, hn, hr⟩ := ih (by omega)
      obtain ⟨⟨vs, f, h1, h2, h3, h4, h5⟩, hle, hidn⟩ := hn
      have hkg : k < g.length := by omega
      have hkv : k < vs.length := by omega
      obtain ⟨q1, q2, q3⟩ := h3 k hkg hkv
      have hset : ∀ i (h : i < (vs.set k (row g[k])).length) (h' : i < g.length), i < k + 1 → (vs.set k (row g[k]))[i] = row g[i] := by
        intro i hi hi' hik
        by_cases e : i = k
        · subst e; simp
        · rw [List.getElem_set_ne (Ne.symm e)]
          exact hr vs h1 i (by simpa using hi) hi' (by omega)
      -- when the k-th row has a block, it goes
      have fin : ∀ st2, Ghost v st1 v st2 → st2.h id = some (.cells (vs.set k (row g[k]))) → (∀ b, f k = some b → st2.h b = none) → (∀ i, i ≠ id → (∀ b, f k = some b → i ≠ b) → st2.h i = st1.h i) →
          ∃ st1, Ghost v st v st1 ∧ Nest base st1 id (fun i => fz i || decide (i < k + 1)) g ∧ ∀ vs, st1.h id = some (.cells vs) → ∀ i (h : i < vs.length) (h' : i < g.length), i < k + 1 → vs[i] = row g[i] := by
        intro st2 g2 a1 a2 a3
        refine ⟨st2, hg.trans g2, ⟨⟨_, fun i => if i = k then none else f i, a1, by simp [h2], ?_, ?_, ?_⟩, ?_, hidn⟩, ?_⟩
        · intro i hi hi'
          by_cases e : i = k
          · subst e
            simp only [List.getElem_set_self, if_true]
            exact ⟨.val _, fun x => by simp at x, fun x => by simp at x⟩
          · simp only [List.getElem_set_ne (Ne.symm e), if_neg e]
            obtain ⟨r1, r2, r3⟩ := h3 i hi (by simpa using hi')
            refine ⟨r1.le fun x hx => a3 x (h5 i x hi hx).1 (fun b hb e' => ?_), fun x => r2 (by simp at x ⊢; exact ⟨x.1, by omega⟩), fun x => r3 (by simp at x ⊢; exact ⟨x.1, by omega⟩)⟩
            subst e'
            exact e (h4 i k _ hi hkg hx hb)
        · intro i j b hi hj e1 e2
          by_cases ei : i = k
          · simp only [if_pos ei] at e1; cases e1
          · by_cases ej : j = k
            · simp only [if_pos ej] at e2; cases e2
            · simp only [if_neg ei, if_neg ej] at e1 e2
              exact h4 i j b hi hj e1 e2
        · intro i b hi hb
          by_cases ei : i = k
          · simp only [if_pos ei] at hb; cases hb
          · simp only [if_neg ei] at hb
            exact h5 i b hi hb
        · intro i o ho
          rw [a3 i (by rintro rfl; rw [hidn] at ho; cases ho) (fun b hb e => by subst e; rw [(h5 k _ hkg hb).2] at ho; cases ho)]
          exact hle _ _ ho
        · intro vs' hvs'
          rw [a1] at hvs'
          cases hvs'
          exact hset
      have hsame : vs[k] = row g[k] → f k = none → ∃ st1, Ghost v st v st1 ∧ Nest base st1 id (fun i => fz i || decide (i < k + 1)) g ∧ ∀ vs, st1.h id = some (.cells vs) → ∀ i (h : i < vs.length) (h' : i < g.length), i < k + 1 → vs[i] = row g[i] := by
        intro e ef
        refine fin st1 (Ghost.refl _ _) ?_ (fun b hb => by rw [ef] at hb; cases hb) (fun _ _ _ => rfl)
        rw [← e, List.set_getElem_self]; exact h1
      generalize hvk : vs[k] = vk at q1
      generalize hgk : g[k] = l at q1
      generalize hfk : f k = fk at q1
      cases q1 with
      | val l => exact hsame (by rw [hvk, hgk]) hfk
      | nils =>
        refine fin (st1.set id (.cells (vs.set k (row g[k])))) ?_ ?_ (fun b hb => by rw [hfk] at hb; cases hb) (fun i hi _ => by rw [ASt.set_h, if_neg hi])
        · -- a nil is a row of no elements
          intro B w0 R wr C w rv s x
          refine ⟨C, .refl C, ?_, x⟩
          refine s.wrote h1 w _ rfl rfl rfl rfl (fun _ _ => rfl) ?_
          obtain ⟨a1, c, t, a2, a3, a4⟩ := s.obj id _ h1
          refine ⟨by simpa using a1, c, t, a2, a3, fun i hi => ?_⟩
          by_cases e : i = k
          · subst e
            have := a4 i hkv
            rw [hvk] at this
            simp only [List.getElem_set_self]
            rw [hgk]
            exact vs_nils_isl this 1 []
          · rw [List.getElem_set_ne (Ne.symm e)]
            exact a4 i (by simpa using hi)
        · rw [ASt.set_h, if_pos rfl, h1]; rfl
      | own b l hb =>
        have hbid : b ≠ id := (h5 k b hkg hfk).1
        refine fin ((st1.kill b).set id (.cells (vs.set k (row g[k])))) ?_ ?_ ?_ ?_
        · have := Ghost.cell (v := v) (j := k) (sz := 1) (len := l.length) h1 (by rw [List.getElem?_eq_getElem hkv, hvk]) hb hbid.symm
          rw [hgk]
          exact this
        · rw [ASt.set_h, if_pos rfl, ASt.kill_h, if_neg hbid.symm, h1]; rfl
        · intro b' hb'
          rw [hfk] at hb'; cases hb'
          rw [ASt.set_h, if_neg hbid, ASt.kill_h, if_pos rfl]
        · intro i hi hib
          rw [ASt.set_h, if_neg hi, ASt.kill_h, if_neg (hib b hfk)]
  obtain ⟨st1, hg, hn, hr⟩ := key g.length (Nat.le_refl _)
  obtain ⟨⟨vs, f, h1, h2, h3, h4, h5⟩, hle, hidn⟩ := hn
  refine ⟨st1, hg, hle, ?_⟩
  rw [h1]
  congr 2
  apply List.ext_getElem
  · simp [h2]
  · intro i hi hi'
    rw [hr vs h1 i hi (by simpa using hi') (by simpa using hi')]
    simp
end Go.Proofs.YtdmfgodajoojpaaGreatDoor.Cn
/- The abstract layer: what is owned, whole: cells whose slices are blocks of their own, again and again, and what they show. No conditions. -/
set_option linter.unusedSimpArgs false
set_option linter.unusedVariables false
namespace Go.Proofs.YtdmfgodajoojpaaGreatDoor.Cn
open Go Go.RowKit

def AV.scalar : AV → Bool
  | .int .. | .bool .. | .nilp | .nilm | .nilf | .str .. => true
  | _ => false
theorem AV.scalar.pure {v : AV} (h : v.scalar = true) : v.Pure := by
  cases v <;> first | (constructor; done) | (cases h; done)
theorem AV.scalar.leaf {v : AV} (h : v.scalar = true) : v.leaf = true := by
  cases v <;> first | rfl | (cases h; done)

inductive RepL (st : ASt) : List AV → List AV → List Nat → Prop
  | nil : RepL st [] [] []
  | one {v : AV} {vs cs : List AV} {L : List Nat} (h : v.scalar = true) (t : RepL st vs cs L) : RepL st (v :: vs) (v :: cs) L
  | nils {vs cs : List AV} {L : List Nat} (sz : Nat) (t : RepL st vs cs L) : RepL st (.nils :: vs) (.isl sz [] 0 :: cs) L
  | sl {sz id n : Nat} {vs cs ws ds : List AV} {L1 L2 : List Nat} (h : st.h id = some (.cells ws)) (r : RepL st ws ds L1) (h1 : id ∉ L1) (h2 : id ∉ L2) (hd : ∀ j ∈ L1, j ∉ L2) (t : RepL st vs cs L2) :
      RepL st (.sl sz id 0 n :: vs) (.isl sz ds n :: cs) (id :: (L1 ++ L2))

section
variable {st st' : ASt} {vs cs : List AV} {L : List Nat}

theorem RepL.len (h : RepL st vs cs L) : cs.length = vs.length := by
  induction h with
  | nil => rfl
  | one h t ih => simp [ih]
  | nils sz t ih => simp [ih]
  | sl h r h1 h2 hd t ih1 ih2 => simp [ih2]

theorem RepL.leaf (h : RepL st vs cs L) : allLeaf vs = true := by
  induction h with
  | nil => rfl
  | one h t ih => simp only [allLeaf, List.all_cons, AV.scalar.leaf h, Bool.true_and]; exact ih
  | nils sz t ih => simp only [allLeaf, List.all_cons, AV.leaf, Bool.true_and]; exact ih
  | sl h r h1 h2 hd t ih1 ih2 => simp only [allLeaf, List.all_cons, AV.leaf, Bool.true_and]; exact ih2

theorem RepL.pure (h : RepL st vs cs L) : ∀ i (hi : i < cs.length), cs[i].Pure := by
  induction h with
  | nil => intro i hi; simp at hi
  | one h t ih =>
    intro i hi
    cases i with
    | zero => exact AV.scalar.pure h
    | succ i => exact ih i (by simpa using hi)
  | nils sz t ih =>
    intro i hi
    cases i with
    | zero => exact .isl _ _ _ fun i hi => by simp at hi
    | succ i => exact ih i (by simpa using hi)
  | sl h r h1 h2 hd t ih1 ih2 =>
    intro i hi
    cases i with
    | zero => exact .isl _ _ _ ih1
    | succ i => exact ih2 i (by simpa using hi)

theorem RepL.live (h : RepL st vs cs L) : ∀ j ∈ L, st.h j ≠ none := by
  induction h with
  | nil => intro j hj; cases hj
  | one h t ih => exact ih
  | nils sz t ih => exact ih
  | sl h r h1 h2 hd t ih1 ih2 =>
    intro j hj
    rcases List.mem_cons.mp hj with rfl | hj
    · rw [h]; simp
    · rcases List.mem_append.mp hj with hj | hj
      · exact ih1 j hj
      · exact ih2 j hj

theorem RepL.off (h : RepL st vs cs L) (ho : ∀ j ∈ L, st'.h j = st.h j) : RepL st' vs cs L := by
  induction h with
  | nil => exact .nil
  | one h t ih => exact .one h (ih ho)
  | nils sz t ih => exact .nils sz (ih ho)
  | sl h r h1 h2 hd t ih1 ih2 =>
    refine .sl (by rw [ho _ (by simp)]; exact h) (ih1 fun j hj => ho j (by simp [hj])) h1 h2 hd (ih2 fun j hj => ho j (by simp [hj]))

theorem RepL.le (h : RepL st vs cs L) (hl : st.le st') : RepL st' vs cs L := h.off fun j hj => by
  cases e : st.h j with
  | none => exact absurd e (h.live j hj)
  | some o => exact hl _ _ e

theorem RepL.app {vs' cs' : List AV} {L' : List Nat} (h : RepL st vs cs L) (h' : RepL st vs' cs' L') (hd : ∀ j ∈ L, j ∉ L') : RepL st (vs ++ vs') (cs ++ cs') (L ++ L') := by
  induction h with
  | nil => exact h'
  | one h t ih => exact .one h (ih hd)
  | nils sz t ih => exact .nils sz (ih hd)
  | sl h r h1 h2 hd2 t ih1 ih2 =>
    have := ih2 fun j hj => hd j (by simp [hj])
    rw [List.cons_append, List.cons_append, List.cons_append, List.append_assoc]
    refine .sl h r h1 (fun hm => ?_) (fun j hj hm => ?_) this
    · rcases List.mem_append.mp hm with hm | hm
      · exact h2 hm
      · exact hd _ (by simp) hm
    · rcases List.mem_append.mp hm with hm | hm
      · exact hd2 j hj hm
      · exact hd j (by simp [hj]) hm

theorem RepL.split : ∀ {vs1 vs2 cs : List AV} {L : List Nat}, RepL st (vs1 ++ vs2) cs L → ∃ cs1 cs2 L1 L2, cs = cs1 ++ cs2 ∧ L = L1 ++ L2 ∧ RepL st vs1 cs1 L1 ∧ RepL st vs2 cs2 L2 ∧ ∀ j ∈ L1, j ∉ L2
  | [], vs2, cs, L, h => ⟨[], cs, [], L, rfl, rfl, .nil, h, fun j hj => by cases hj⟩
  | v :: vs1, vs2, cs, L, h => by
    rw [List.cons_append] at h
    cases h with
    | one h t =>
      obtain ⟨cs1, cs2, L1, L2, rfl, rfl, h1, h2, h3⟩ := RepL.split t
      exact ⟨v :: cs1, cs2, L1, L2, rfl, rfl, .one h h1, h2, h3⟩
    | nils sz t =>
      obtain ⟨cs1, cs2, L1, L2, rfl, rfl, h1, h2, h3⟩ := RepL.split t
      exact ⟨_ :: cs1, cs2, L1, L2, rfl, rfl, .nils sz h1, h2, h3⟩
    | @sl sz id n _ cs' ws ds K1 K2 h r hi1 hi2 hd t =>
      obtain ⟨cs1, cs2, L1, L2, rfl, rfl, h1, h2, h3⟩ := RepL.split t
      refine ⟨.isl sz ds n :: cs1, cs2, id :: (K1 ++ L1), L2, rfl, by simp, .sl h r hi1 (fun hm => hi2 (by simp [hm])) (fun j hj hm => hd j hj (by simp [hm])) h1, h2, fun j hj => ?_⟩
      rcases List.mem_cons.mp hj with rfl | hj
      · exact fun hm => hi2 (by simp [hm])
      · rcases List.mem_append.mp hj with hj | hj
        · exact fun hm => hd j hj (by simp [hm])
        · exact h3 j hj

theorem RepL.at (h : RepL st vs cs L) {i : Nat} (hi : i < vs.length) :
    ∃ c Li, cs[i]? = some c ∧ RepL st [vs[i]] [c] Li ∧ (∀ j ∈ Li, j ∈ L) ∧ ∀ st' v' c' L', RepL st' [v'] [c'] L' → (∀ j ∈ L', j ∈ Li ∨ j ∉ L) → (∀ j ∈ L, j ∉ Li → st'.h j = st.h j) →
      ∃ L'', RepL st' (vs.set i v') (cs.set i c') L'' ∧ (∀ j, j ∈ L'' ↔ (j ∈ L ∧ j ∉ Li) ∨ j ∈ L') := by
  have e : vs = vs.take i ++ ([vs[i]] ++ vs.drop (i + 1)) := by
    rw [List.singleton_append, List.getElem_cons_drop, List.take_append_drop]
  have h0 := h
  rw [e] at h0
  obtain ⟨c1, c2, K1, K2, hc, hL, r1, r2, d1⟩ := h0.split
  obtain ⟨c3, c4, K3, K4, hc2, hL2, r3, r4, d2⟩ := r2.split
  subst hc; subst hL; subst hc2; subst hL2
  have l1 : c1.length = i := by rw [r1.len, List.length_take]; omega
  have l3 := r3.len
  match c3, l3 with
  | [c], _ =>
    refine ⟨c, K3, by rw [List.getElem?_append_right (by omega), l1]; simp, r3, fun j hj => by simp [hj], ?_⟩
    intro st' v' c' L' hr hd ho
    have q1 : RepL st' (vs.take i) c1 K1 := r1.off fun j hj => ho j (by simp [hj]) fun h => d1 j hj (by simp [h])
    have q4 : RepL st' (vs.drop (i + 1)) c4 K4 := r4.off fun j hj => ho j (by simp [hj]) fun h => d2 j h hj
    have e1 : vs.set i v' = vs.take i ++ ([v'] ++ vs.drop (i + 1)) := by
      rw [List.set_eq_take_append_cons_drop, if_pos hi]; rfl
    have e2 : (c1 ++ ([c] ++ c4)).set i c' = c1 ++ ([c'] ++ c4) := by
      rw [List.set_append_right _ _ (by omega), l1]; simp
    rw [e1, e2]
    refine ⟨_, q1.app (hr.app q4 fun j hj hm => ?_) fun j hj hm => ?_, fun j => ?_⟩
    · rcases hd j hj with h | h
      · exact d2 j h hm
      · exact h (by simp [hm])
    · rcases List.mem_append.mp hm with hm | hm
      · rcases hd j hm with h | h
        · exact d1 j hj (by simp [h])
        · exact h (by simp [hj])
      · exact d1 j hj (by simp [hm])
    · simp only [List.mem_append]
      constructor
      · rintro (h | h | h)
        · exact .inl ⟨.inl h, fun x => d1 j h (by simp [x])⟩
        · exact .inr h
        · exact .inl ⟨.inr (.inr h), fun x => d2 j x h⟩
      · rintro (⟨h | h | h, hn⟩ | h)
        · exact .inl h
        · exact absurd h hn
        · exact .inr (.inr h)
        · exact .inr (.inl h)

theorem RepL.slice {v : AV} {sz n : Nat} {ds : List AV} {L : List Nat} (h : RepL st [v] [.isl sz ds n] L) :
    (v = .nils ∧ n = 0 ∧ ds = [] ∧ L = []) ∨ ∃ id ws L1, v = .sl sz id 0 n ∧ st.h id = some (.cells ws) ∧ RepL st ws ds L1 ∧ id ∉ L1 ∧ L = id :: L1 := by
  cases h with
  | one h t => cases h
  | nils sz t => cases t; exact .inl ⟨rfl, rfl, rfl, rfl⟩
  | sl h r h1 h2 hd t => cases t; exact .inr ⟨_, _, _, rfl, h, r, h1, by simp⟩
theorem RepL.scalar {v c : AV} {L : List Nat} (h : RepL st [v] [c] L) (hc : c.scalar = true) : v = c ∧ L = [] := by
  cases h with
  | one h t => cases t; exact ⟨rfl, rfl⟩
  | nils sz t => cases hc
  | sl h r h1 h2 hd t => cases hc
theorem RepL.scalars : ∀ {cs : List AV} (hc : cs.all AV.scalar = true) (st : ASt), RepL st cs cs []
  | [], _, st => .nil
  | c :: cs, hc, st => by
    simp only [List.all_cons, Bool.and_eq_true] at hc
    exact .one hc.1 (RepL.scalars hc.2 st)

def ASt.killL (st : ASt) (L : List Nat) : ASt := ⟨fun j => if j ∈ L then none else st.h j⟩
theorem ASt.killL_h (st : ASt) (L : List Nat) (i : Nat) : (st.killL L).h i = if i ∈ L then none else st.h i := rfl
theorem ASt.le.killL {s t : ASt} (h : s.le t) {L : List Nat} (hL : ∀ j ∈ L, s.h j = none) : s.le (t.killL L) := fun i o hi => by
  rw [ASt.killL_h, if_neg (fun hm => by rw [hL i hm] at hi; cases hi)]
  exact h i o hi

theorem RepL.frz (h : RepL st vs cs L) : ∀ {st1 : ASt} {B : Nat} {w0 : World} {R : Nat → Prop} {wr : World} {C : ACx} {w : World}, (∀ j ∈ L, st1.h j = st.h j) → ASim B w0 R wr C st1 w →
    ∃ C', C.le C' ∧ ASim B w0 R wr C' (st1.killL L) w ∧ ∀ i (h : i < vs.length) (h' : i < cs.length) v, VS C vs[i] v → VS C' cs[i] v := by
  induction h with
  | nil =>
    intro st1 B w0 R wr C w ho s
    refine ⟨C, .refl C, ?_, fun i hi => by simp at hi⟩
    have : st1.killL [] = st1 := ASt.ext' fun i => by simp [ASt.killL_h]
    rw [this]; exact s
  | one h t ih =>
    intro st1 B w0 R wr C w ho s
    obtain ⟨C', h1, h2, h3⟩ := ih ho s
    refine ⟨C', h1, h2, fun i hi hi' v hv => ?_⟩
    cases i with
    | zero => exact VS.mono h1 hv
    | succ i => exact h3 i (by simpa using hi) (by simpa using hi') v hv
  | nils sz t ih =>
    intro st1 B w0 R wr C w ho s
    obtain ⟨C', h1, h2, h3⟩ := ih ho s
    refine ⟨C', h1, h2, fun i hi hi' v hv => ?_⟩
    cases i with
    | zero => exact vs_nils_isl (VS.mono h1 hv) sz []
    | succ i => exact h3 i (by simpa using hi) (by simpa using hi') v hv
  | @sl sz id n _ _ ws ds L1 L2 h r hi1 hi2 hd t ih1 ih2 =>
    intro st1 B w0 R wr C w ho s
    have hid0 : st1.h id = some (.cells ws) := by rw [ho id (by simp)]; exact h
    obtain ⟨C1, h1, h2, h3⟩ := ih1 (fun j hj => ho j (by simp [hj])) s
    have hid : (st1.killL L1).h id = some (.cells ws) := by rw [ASt.killL_h, if_neg hi1]; exact hid0
    have s1 : ASim B w0 R wr C1 ((st1.killL L1).set id (.cells ds)) w := by
      refine h2.wrote hid w _ rfl rfl rfl rfl (fun _ _ => rfl) ?_
      obtain ⟨a1, c, t, a2, a3, a4⟩ := s.obj id _ hid0
      have hlt : id < C.N := s.live id (by rw [hid0]; simp)
      have hφ : C1.φ id = C.φ id := h1.φ id hlt
      have hb : C1.bs id = C.bs id := h1.bs id hlt
      have hl := r.len
      refine ⟨by omega, c, t, by rw [hφ]; exact a2, by rw [hφ, hb]; exact a3, fun i hi => ?_⟩
      rw [hφ]
      exact h3 i (by omega) hi _ (a4 i (by omega))
    have hid2 : ((st1.killL L1).set id (.cells ds)).h id = some (.cells ds) := by rw [ASt.set_h, if_pos rfl, hid]; rfl
    obtain ⟨C2, g1, g2, g3⟩ := s1.freeze hid2
    have hst : ∀ j, (((st1.killL L1).set id (.cells ds)).kill id).h j = if j = id then none else (st1.killL L1).h j := by
      intro j
      rw [ASt.kill_h]
      split
      · rfl
      · rename_i e; rw [ASt.set_h, if_neg e]
    obtain ⟨C3, k1, k2, k3⟩ := ih2 (fun j hj => by
      rw [hst, if_neg (by rintro rfl; exact hi2 hj), ASt.killL_h, if_neg (fun hm => hd j hm hj)]
      exact ho j (by simp [hj])) g2
    refine ⟨C3, (h1.trans g1).trans k1, ?_, fun i hi hi' v hv => ?_⟩
    · have : (((st1.killL L1).set id (.cells ds)).kill id).killL L2 = st1.killL (id :: (L1 ++ L2)) := ASt.ext' fun j => by
        rw [ASt.killL_h, hst, ASt.killL_h, ASt.killL_h]
        by_cases e1 : j ∈ L2 <;> by_cases e2 : j = id <;> by_cases e3 : j ∈ L1 <;> simp [e1, e2, e3]
      rw [← this]; exact k2
    · cases i with
      | zero =>
        have := g3 sz 0 n v (VS.mono h1 hv) (Nat.zero_le _)
        rw [List.drop_zero] at this
        exact this.mono k1
      | succ i => exact k3 i (by simpa using hi) (by simpa using hi') v (VS.mono (h1.trans g1) hv)

theorem RepL.view (h : RepL st vs cs L) {i : Nat} (hi : i < vs.length) (hi' : i < cs.length) : SView st vs[i] cs[i] := by
  intro B w0 R wr C w v s x
  obtain ⟨C', h1, h2, h3⟩ := h.frz (fun _ _ => rfl) s
  exact SView.pure (h.pure i hi') _ _ _ _ _ _ _ h2 (h3 i hi hi' v x)
theorem RepL.ghostAgg (h : RepL st vs cs L) : Ghost (.agg vs) st (.agg cs) (st.killL L) := fun B w0 R wr C w rv s x => by
  obtain ⟨C', h1, h2, h3⟩ := h.frz (fun _ _ => rfl) s
  refine ⟨C', h1, h2, ?_⟩
  have hl := h.len
  cases x with
  | agg _ ws hl2 hv => exact .agg _ _ (by omega) fun i hi => h3 i (by omega) hi _ (hv i (by omega))
theorem RepL.ghost1 {v c : AV} (h : RepL st [v] [c] L) : Ghost v st c (st.killL L) := fun B w0 R wr C w rv s x => by
  obtain ⟨C', h1, h2, h3⟩ := h.frz (fun _ _ => rfl) s
  exact ⟨C', h1, h2, h3 0 (by simp) (by simp) rv x⟩

theorem ACalls.seen {P : Program} {f : Nat} {args args1 : List AV} {st st1 : ASt} {Q : AV → ASt → Prop} (hl : args1.length = args.length)
    (g : ∀ B w0 R wr C w, ASim B w0 R wr C st w → ∃ C', C.le C' ∧ ASim B w0 R wr C' st1 w ∧ ∀ i (h : i < args.length) (h' : i < args1.length) v, VS C args[i] v → VS C' args1[i] v) (h : ACalls P f args1 st1 Q) : ACalls P f args st Q :=
  fun B w0 R wr C w vs s h1 h2 => by
    obtain ⟨C', g1, g2, g3⟩ := g B w0 R wr C w s
    refine (h B w0 R wr C' w vs g2 (by omega) (fun i hi => g3 i (by omega) hi _ (h2 i (by omega)))).mono ?_
    rintro e w' ⟨C2, v, st2, rv, a, b, c, d, q⟩
    exact ⟨C2, v, st2, rv, g1.trans a, b, c, d, q⟩

theorem RepL.frzBox (h : RepL st vs cs L) {b : Nat} (hb : st.h b = some (.cells vs)) (hbL : b ∉ L) {B : Nat} {w0 : World} {R : Nat → Prop} {wr : World} {C : ACx} {w : World} (s : ASim B w0 R wr C st w) :
    ∃ C', C.le C' ∧ ASim B w0 R wr C' ((st.killL L).set b (.cells cs)) w ∧ ∀ i (h : i < vs.length) (h' : i < cs.length) v, VS C vs[i] v → VS C' cs[i] v := by
  obtain ⟨C1, h1, h2, h3⟩ := h.frz (fun _ _ => rfl) s
  have hid : (st.killL L).h b = some (.cells vs) := by rw [ASt.killL_h, if_neg hbL]; exact hb
  refine ⟨C1, h1, ?_, h3⟩
  refine h2.wrote hid w _ rfl rfl rfl rfl (fun _ _ => rfl) ?_
  obtain ⟨a1, c, t, a2, a3, a4⟩ := s.obj b _ hb
  have hlt : b < C.N := s.live b (by rw [hb]; simp)
  have hφ : C1.φ b = C.φ b := h1.φ b hlt
  have hbs : C1.bs b = C.bs b := h1.bs b hlt
  have hl := h.len
  refine ⟨by omega, c, t, by rw [hφ]; exact a2, by rw [hφ, hbs]; exact a3, fun i hi => ?_⟩
  rw [hφ]
  exact h3 i (by omega) hi _ (a4 i (by omega))
theorem ACalls.frzBox {P : Program} {f : Nat} {b : Nat} {Q : AV → ASt → Prop} (h : RepL st vs cs L) (hb : st.h b = some (.cells vs)) (hbL : b ∉ L) (k : ACalls P f [.agg cs] ((st.killL L).set b (.cells cs)) Q) : ACalls P f [.agg vs] st Q :=
  ACalls.seen (args1 := [.agg cs]) (st1 := (st.killL L).set b (.cells cs)) rfl (fun B w0 R wr C w s => by
    obtain ⟨C', h1, h2, h3⟩ := h.frzBox hb hbL s
    refine ⟨C', h1, h2, fun i hi hi' v hv => ?_⟩
    have e : i = 0 := by simpa using hi
    subst e
    have hl := h.len
    cases hv with
    | agg _ ws hl2 hv => exact .agg _ _ (by omega) fun i hk => h3 i (by omega) hk _ (hv i (by omega))) k
theorem aop_append_rep {P : Program} {sz b n : Nat} {zs : List AV} {parts : List (Nat × Nat × IArg)} {x y : IArg} {fr : AFr} {F : AV → AFr} {K : AV → AV → ASt → Prop} {v : AV} {ds new newc : List AV} {L Ln : List Nat}
    (hown : RepL st [v] [.isl sz ds n] L) (hds : ds.length = n * sz) (hn : n + 1 ≤ 4294967296) (hnew : aput (zeros zs 1) (parts.map fun p => (p.1, p.2.1, fr.val p.2.2)) = .some new) (hlen : new.length = sz)
    (hrep : RepL st new newc Ln) (hdis : ∀ j ∈ Ln, j ∉ L) (hx : ∀ v1, (F v1).val x = v) (hy : ∀ v1, (F v1).val y = v1)
    (hk : ∀ v1 i2 L2 st2, RepL st2 [.sl sz i2 0 (n + 1)] [.isl sz (ds ++ newc) (n + 1)] L2 → (∀ j ∈ L2, j ∈ L ∨ j ∈ Ln ∨ st.h j = none) → (∀ j, j ∉ L → ∀ o, st.h j = some o → st2.h j = some o) → K v1 (.sl sz i2 0 (n + 1)) st2) :
    aop P (.buildSlice sz 1 zs parts) fr st (fun v1 st1 => aop P (.append sz b x y) (F v1) st1 (K v1)) := by
  rcases hown.slice with ⟨rfl, rfl, rfl, rfl⟩ | ⟨id, ws, L1, rfl, hid, hr, hn1, rfl⟩
  · refine aop_append_one (v := .nils) (n := 0) (cs := []) (Shows.nils st sz) hn hnew hlen hrep.leaf hx hy fun v1 i2 st2 h1 h2 h3 => ?_
    obtain ⟨q1, q2⟩ := h3
    rcases q2 with ⟨q2, _⟩ | ⟨i, q2, q3⟩
    · omega
    cases q2
    refine hk v1 i2 (i2 :: (Ln ++ [])) st2 (.sl q3 ?_ ?_ (by simp) (by simp) .nil) ?_ fun j _ o ho => h2 j o ho
    · simpa using hrep.le h2
    · intro hm
      have := hrep.live i2 hm
      exact this h1
    · intro j hj
      rcases List.mem_cons.mp hj with rfl | hj
      · exact .inr (.inr h1)
      · exact .inr (.inl (by simpa using hj))
  · have hwl := hr.len
    refine aop_append_one (v := .sl sz id 0 n) (n := n) (cs := ws) ⟨by omega, .inr ⟨id, rfl, hid⟩⟩ hn hnew hlen hrep.leaf hx hy fun v1 i2 st2 h1 h2 h3 => ?_
    obtain ⟨q1, q2⟩ := h3
    rcases q2 with ⟨q2, _⟩ | ⟨i, q2, q3⟩
    · omega
    cases q2
    have hk1 : ∀ j, j ≠ id → ∀ o, st.h j = some o → st2.h j = some o := fun j hj o ho => h2 j o (by
      show (st.kill id).h j = _
      rw [ASt.kill_h, if_neg hj]; exact ho)
    have hi2 : i2 = id ∨ st.h i2 = none := by
      by_cases e : i2 = id
      · exact .inl e
      · refine .inr ?_
        have h1 : (st.kill id).h i2 = none := h1
        rw [ASt.kill_h, if_neg e] at h1; exact h1
    have hidn : id ∉ Ln := fun hm => hdis id hm (by simp)
    have live2 : ∀ {M : List Nat} {a c : List AV}, RepL st a c M → id ∉ M → RepL st2 a c M := fun {M a c} r hm => r.off fun j hj => by
      cases e : st.h j with
      | none => exact absurd e (r.live j hj)
      | some o => exact hk1 j (by rintro rfl; exact hm hj) o e
    have hnm : ∀ {M : List Nat} {a c : List AV}, RepL st a c M → id ∉ M → i2 ∉ M := fun {M a c} r hm hj => by
      rcases hi2 with e | e
      · subst e; exact hm hj
      · exact r.live i2 hj e
    have r1 := live2 hr hn1
    have r2 := live2 hrep hidn
    refine hk v1 i2 (i2 :: ((L1 ++ Ln) ++ [])) st2 (.sl q3 (r1.app r2 fun j hj hm => hdis j hm (by simp [hj])) ?_ (by simp) (by simp) .nil) ?_ fun j hj o ho => hk1 j (by rintro rfl; exact hj (by simp)) o ho
    · intro hm
      rcases List.mem_append.mp hm with hm | hm
      · exact hnm hr hn1 hm
      · exact hnm hrep hidn hm
    · intro j hj
      rcases List.mem_cons.mp hj with rfl | hj
      · rcases hi2 with e | e
        · exact .inl (by simp [e])
        · exact .inr (.inr e)
      · rw [List.append_nil] at hj
        rcases List.mem_append.mp hj with hj | hj
        · exact .inl (by simp [hj])
        · exact .inr (.inl hj)
theorem RepL.get (h : RepL st vs cs L) {k : Nat} {c : AV} (hk : cs[k]? = some c) (hc : c.scalar = true) : vs[k]? = some c := by
  have hl := h.len
  have hi : k < vs.length := by
    rcases Nat.lt_or_ge k cs.length with h | h
    · omega
    · rw [List.getElem?_eq_none h] at hk; cases hk
  obtain ⟨c', Li, e, r, _, _⟩ := h.at hi
  rw [hk] at e; cases e
  rw [List.getElem?_eq_getElem hi, (r.scalar hc).1]
theorem RepL.setS (h : RepL st vs cs L) : ∀ {k : Nat} {c v : AV}, cs[k]? = some c → c.scalar = true → v.scalar = true → RepL st (vs.set k v) (cs.set k v) L := by
  induction h with
  | nil => intro k c v h; simp at h
  | one h t ih =>
    intro k c v hk hc hv
    cases k with
    | zero => exact .one hv t
    | succ k => exact .one h (ih (by simpa using hk) hc hv)
  | nils sz t ih =>
    intro k c v hk hc hv
    cases k with
    | zero => simp at hk; subst hk; cases hc
    | succ k => exact .nils sz (ih (by simpa using hk) hc hv)
  | sl h r h1 h2 hd t ih1 ih2 =>
    intro k c v hk hc hv
    cases k with
    | zero => simp at hk; subst hk; cases hc
    | succ k => exact .sl h r h1 h2 hd (ih2 (by simpa using hk) hc hv)
theorem RepL.inner (h : RepL st vs cs L) {i sz n : Nat} {ds : List AV} (hc : cs[i]? = some (.isl sz ds n)) (hn : n ≠ 0) :
    ∃ id ws Lw, vs[i]? = some (.sl sz id 0 n) ∧ st.h id = some (.cells ws) ∧ RepL st ws ds Lw ∧ (∀ j ∈ Lw, j ∈ L) ∧ id ∈ L ∧ id ∉ Lw ∧
      ∀ st' ws' ds' Lw', st'.h id = some (.cells ws') → RepL st' ws' ds' Lw' → (∀ j ∈ Lw', j ≠ id ∧ (j ∈ Lw ∨ j ∉ L)) → (∀ j ∈ L, j ≠ id → j ∉ Lw → st'.h j = st.h j) →
        ∃ L'', RepL st' vs (cs.set i (.isl sz ds' n)) L'' ∧ (∀ j, j ∈ L'' ↔ (j ∈ L ∧ j ∉ Lw) ∨ j ∈ Lw') := by
  have hl := h.len
  have hi : i < vs.length := by
    rcases Nat.lt_or_ge i cs.length with h | h
    · omega
    · rw [List.getElem?_eq_none h] at hc; cases hc
  obtain ⟨c', Li, e, r, hsub, hup⟩ := h.at hi
  rw [hc] at e; cases e
  rcases r.slice with ⟨_, e, _⟩ | ⟨id, ws, Lw, ev, hid, rw', hn1, rfl⟩
  · exact absurd e hn
  refine ⟨id, ws, Lw, by rw [List.getElem?_eq_getElem hi, ev], hid, rw', fun j hj => hsub j (by simp [hj]), hsub id (by simp), hn1, ?_⟩
  intro st' ws' ds' Lw' h1 h2 h3 h4
  obtain ⟨L'', q1, q2⟩ := hup st' vs[i] (.isl sz ds' n) (id :: (Lw' ++ [])) (by rw [ev]; exact .sl h1 h2 (fun hm => (h3 id hm).1 rfl) (by simp) (by simp) .nil) (fun j hj => by
    rcases List.mem_cons.mp hj with rfl | hj
    · exact .inl (by simp)
    · rw [List.append_nil] at hj
      rcases (h3 j hj).2 with h | h
      · exact .inl (by simp [h])
      · exact .inr h) (fun j hj hjn => by
    simp only [List.mem_cons, not_or] at hjn
    exact h4 j hj hjn.1 hjn.2)
  rw [List.set_getElem_self] at q1
  refine ⟨L'', q1, fun j => ?_⟩
  rw [q2]
  simp only [List.mem_cons, List.append_nil, not_or]
  constructor
  · rintro (⟨a, _, c⟩ | rfl | h)
    · exact .inl ⟨a, c⟩
    · exact .inl ⟨hsub _ (by simp), hn1⟩
    · exact .inr h
  · rintro (⟨a, b⟩ | h)
    · by_cases e : j = id
      · exact .inr (.inl e)
      · exact .inl ⟨a, e, b⟩
    · exact .inr (.inr h)

def Upd (st : ASt) (L : List Nat) (st' : ASt) (L' : List Nat) : Prop := (∀ j, j ∉ L → ∀ o, st.h j = some o → st'.h j = some o) ∧ ∀ j ∈ L', j ∈ L ∨ st.h j = none
theorem Upd.refl (st : ASt) (L : List Nat) : Upd st L st L := ⟨fun _ _ _ h => h, fun _ h => .inl h⟩
theorem Upd.trans {a b c : ASt} {L1 L2 L3 : List Nat} (h : Upd a L1 b L2) (k : Upd b L2 c L3) : Upd a L1 c L3 := by
  have key : ∀ j, j ∉ L1 → ∀ o, a.h j = some o → j ∉ L2 := fun j hj o ho hm => by
    rcases h.2 j hm with h2 | h2
    · exact hj h2
    · rw [ho] at h2; cases h2
  refine ⟨fun j hj o ho => k.1 j (key j hj o ho) o (h.1 j hj o ho), fun j hj => ?_⟩
  rcases k.2 j hj with h2 | h2
  · exact h.2 j h2
  · by_cases e : j ∈ L1
    · exact .inl e
    · cases ha : a.h j with
      | none => exact .inr rfl
      | some o => rw [h.1 j e o ha] at h2; cases h2
theorem Upd.sub {a b : ASt} {L1 L2 L3 : List Nat} (h : Upd a L1 b L2) (k : ∀ j ∈ L3, j ∈ L2) : Upd a L1 b L3 := ⟨h.1, fun j hj => h.2 j (k j hj)⟩
theorem Upd.keep {a b : ASt} {L1 L2 M : List Nat} {vs cs : List AV} (h : Upd a L1 b L2) (r : RepL a vs cs M) (hd : ∀ j ∈ M, j ∉ L1) : RepL b vs cs M ∧ ∀ j ∈ M, j ∉ L2 :=
  ⟨r.off fun j hj => by
    cases e : a.h j with
    | none => exact absurd e (r.live j hj)
    | some o => exact h.1 j (hd j hj) o e, fun j hj hm => by
    rcases h.2 j hm with h2 | h2
    · exact hd j hj h2
    · exact r.live j hj h2⟩
theorem Upd.le {a b : ASt} {L2 : List Nat} (h : Upd a [] b L2) : a.le b := fun j o ho => h.1 j (by simp) o ho
theorem RepL.store (h : RepL st vs cs L) {g i : Nat} {v c : AV} {Lv : List Nat} (hg : g ∉ L) (hi : i < vs.length) (hv : RepL st [v] [c] Lv) (hgv : g ∉ Lv) (hd : ∀ j ∈ Lv, j ∉ L) (o : AObj) :
    ∃ L', RepL (st.set g o) (vs.set i v) (cs.set i c) L' ∧ g ∉ L' ∧ ∀ j ∈ L', j ∈ L ∨ j ∈ Lv := by
  have ho : ∀ {M : List Nat}, g ∉ M → ∀ j ∈ M, (st.set g o).h j = st.h j := fun {M} hm j hj => by
    rw [ASt.set_h, if_neg (by rintro rfl; exact hm hj)]
  obtain ⟨c', Li, e, r, hsub, hup⟩ := h.at hi
  obtain ⟨L'', q1, q2⟩ := hup (st.set g o) v c Lv (hv.off (ho hgv)) (fun j hj => .inr (hd j hj)) (fun j hj _ => ho hg j hj)
  refine ⟨L'', q1, fun hm => ?_, fun j hj => ?_⟩
  · rcases (q2 g).mp hm with ⟨h1, _⟩ | h1
    · exact hg h1
    · exact hgv h1
  · rcases (q2 j).mp hj with ⟨h1, _⟩ | h1
    · exact .inl h1
    · exact .inr h1

def Owned (st st' : ASt) (sz : Nat) (cs : List AV) (n : Nat) (r : AV) : Prop :=
  (n = 0 ∧ r = .nils ∧ st' = st) ∨ (n ≠ 0 ∧ ∃ id, st.h id = none ∧ r = .sl sz id 0 n ∧ st' = st.new id (.cells cs))
theorem Owned.le {sz n : Nat} {r : AV} (h : Owned st st' sz cs n r) : st.le st' := by
  rcases h with ⟨_, _, rfl⟩ | ⟨_, id, _, _, rfl⟩
  · exact ASt.le.refl _
  · exact ASt.le.new _ _ _
theorem Owned.leaf {sz n : Nat} {r : AV} (h : Owned st st' sz cs n r) : r.leaf = true := by
  rcases h with ⟨_, rfl, _⟩ | ⟨_, id, _, rfl, _⟩ <;> rfl
theorem Owned.rep {sz n : Nat} {r : AV} (h : Owned st st' sz cs n r) (hl : cs.length = n * sz) (hc : cs.all AV.scalar = true) : ∃ L, RepL st' [r] [.isl sz cs n] L ∧ ∀ j ∈ L, st.h j = none := by
  rcases h with ⟨rfl, rfl, rfl⟩ | ⟨hn, id, hid, rfl, rfl⟩
  · have : cs = [] := List.eq_nil_of_length_eq_zero (by simpa using hl)
    subst this
    exact ⟨[], .nils sz .nil, fun j hj => by cases hj⟩
  · exact ⟨[id], .sl (ASt.new_self _ hid) (RepL.scalars hc _) (by simp) (by simp) (by simp) .nil, fun j hj => by
      have : j = id := by simpa using hj
      rw [this]; exact hid⟩
theorem ints_scalar (l : List Int) : (ints l).all AV.scalar = true := by simp [ints, AV.scalar]
theorem fresh_of_le {s t : ASt} {j : Nat} (h : s.le t) (hj : t.h j = none) : s.h j = none := by
  cases e : s.h j with
  | none => rfl
  | some o => rw [h _ _ e] at hj; cases hj
theorem putN_app : ∀ (vs pre post mid : List AV) (n : Nat), pre.length = n → mid.length = vs.length → putN (pre ++ (mid ++ post)) n vs = pre ++ (vs ++ post)
  | [], pre, post, mid, n, h1, h2 => by
    have : mid = [] := List.eq_nil_of_length_eq_zero (by simpa using h2)
    subst this; rfl
  | v :: vs, pre, post, [], n, h1, h2 => by simp at h2
  | v :: vs, pre, post, m :: mid, n, h1, h2 => by
    rw [putN, List.set_append_right _ _ (by omega), h1, Nat.sub_self, List.cons_append, List.set_cons_zero]
    have := putN_app vs (pre ++ [v]) post mid (n + 1) (by simp [h1]) (by simpa using h2)
    simpa using this
theorem putN_all {vs zs : List AV} (h : zs.length = vs.length) : putN zs 0 vs = vs := by
  have := putN_app vs [] [] zs 0 rfl h
  simpa using this
theorem aput_one {sz : Nat} {zs vs : List AV} (hz : zs.length = sz) (hv : vs.length = sz) : aput (zeros zs 1) [(0, sz, .agg vs)] = some vs := by
  have h1 : zeros zs 1 = zs := by simp [zeros]
  simp [aput, AV.part, h1, hz, hv, putN_all (show zs.length = vs.length by omega)]

def Box (s0 s : ASt) (b : Nat) (cs : List AV) : Prop :=
  ∃ vs L, s.h b = some (.cells vs) ∧ RepL s vs cs L ∧ b ∉ L ∧ (∀ j ∈ L, s0.h j = none) ∧ s0.h b = none ∧ s0.le s
theorem Box.start {s : ASt} {b : Nat} {vs cs : List AV} (hb : s.h b = none) (h : RepL s vs cs []) : Box s (s.new b (.cells vs)) b cs :=
  ⟨vs, [], ASt.new_self _ hb, h.le (ASt.le.new _ _ _), by simp, fun j hj => by (cases hj), hb, ASt.le.new _ _ _⟩
theorem Box.base {s0 s : ASt} {b : Nat} (h : Box s0 s b cs) : s0.le s := by
  obtain ⟨_, _, _, _, _, _, _, h⟩ := h; exact h
theorem Box.grow {s0 s t : ASt} {b : Nat} (h : Box s0 s b cs) (hl : s.le t) : Box s0 t b cs := by
  obtain ⟨vs, L, h1, h2, h3, h4, h5, h6⟩ := h
  exact ⟨vs, L, hl _ _ h1, h2.le hl, h3, h4, h5, h6.trans hl⟩
theorem Box.less {s0 s1 s : ASt} {b : Nat} (h : Box s1 s b cs) (hl : s0.le s1) : Box s0 s b cs := by
  obtain ⟨vs, L, h1, h2, h3, h4, h5, h6⟩ := h
  exact ⟨vs, L, h1, h2, h3, fun j hj => fresh_of_le hl (h4 j hj), fresh_of_le hl h5, hl.trans h6⟩
theorem Box.get {s0 s : ASt} {b k : Nat} {c : AV} (h : Box s0 s b cs) (hk : cs[k]? = some c) (hc : c.scalar = true) :
    ∃ vs, s.h b = some (.cells vs) ∧ vs.length = cs.length ∧ vs[k]? = some c ∧ ∀ v, v.scalar = true → Box s0 (s.set b (.cells (vs.set k v))) b (cs.set k v) := by
  obtain ⟨vs, L, h1, h2, h3, h4, h5, h6⟩ := h
  refine ⟨vs, h1, h2.len.symm, h2.get hk hc, fun v hv => ?_⟩
  have ho : ∀ j ∈ L, (s.set b (.cells (vs.set k v))).h j = s.h j := fun j hj => by
    rw [ASt.set_h, if_neg (by rintro rfl; exact h3 hj)]
  refine ⟨vs.set k v, L, by rw [ASt.set_h, if_pos rfl, h1]; rfl, (h2.setS hk hc hv).off ho, h3, h4, h5, fun j o hj => ?_⟩
  rw [ASt.set_h, if_neg (by rintro rfl; rw [h5] at hj; cases hj)]
  exact h6 _ _ hj
def BoxL (s0 s : ASt) (b : Nat) (vs cs : List AV) (L : List Nat) : Prop := s.h b = some (.cells vs) ∧ RepL s vs cs L ∧ b ∉ L ∧ (∀ j ∈ L, s0.h j = none) ∧ s0.h b = none ∧ s0.le s
theorem BoxL.grow {s0 s t : ASt} {b : Nat} (h : BoxL s0 s b vs cs L) (hl : s.le t) : BoxL s0 t b vs cs L := by
  obtain ⟨h1, h2, h3, h4, h5, h6⟩ := h
  exact ⟨hl _ _ h1, h2.le hl, h3, h4, h5, h6.trans hl⟩
theorem RepL.slen {st : ASt} {vs cs : List AV} {L : List Nat} (h : RepL st vs cs L) {o sz n : Nat} {ds : List AV} (ho : cs[o]? = some (.isl sz ds n)) : ∃ v, vs[o]? = some v ∧ v.slen = some n := by
  have hl := h.len
  have hol : o < vs.length := by
    rcases Nat.lt_or_ge o cs.length with h | h
    · omega
    · rw [List.getElem?_eq_none h] at ho; cases ho
  obtain ⟨c', Li, e, r, hsub, hup⟩ := h.at hol
  rw [ho] at e; cases e
  refine ⟨vs[o], List.getElem?_eq_getElem hol, ?_⟩
  rcases r.slice with ⟨e, rfl, _⟩ | ⟨id, ws, L1, e, _⟩ <;> rw [e] <;> rfl
theorem BoxL.append {s0 s : ASt} {b o sz n : Nat} {ds new newc : List AV} {Ln : List Nat} (h : BoxL s0 s b vs cs L) (ho : cs[o]? = some (.isl sz ds n)) (hds : ds.length = n * sz) (hn : n + 1 ≤ 4294967296)
    (hrep : RepL s new newc Ln) (hlen : new.length = sz) (hb : b ∉ Ln) (hf : ∀ j ∈ Ln, s0.h j = none) (hdis : ∀ j ∈ Ln, j ∉ L) :
    ∃ v, vs[o]? = some v ∧ v.slen = some n ∧
      ∀ {P : Program} {bt : Nat} {zs : List AV} {parts : List (Nat × Nat × IArg)} {x y : IArg} {fr : AFr} {F : AV → AFr} {K : AV → AV → ASt → Prop},
        aput (zeros zs 1) (parts.map fun p => (p.1, p.2.1, fr.val p.2.2)) = .some new → (∀ v1, (F v1).val x = v) → (∀ v1, (F v1).val y = v1) →
        (∀ v1 i2 st2, st2.h b = some (.cells vs) → Box s0 (st2.set b (.cells (vs.set o (.sl sz i2 0 (n + 1))))) b (cs.set o (.isl sz (ds ++ newc) (n + 1))) → K v1 (.sl sz i2 0 (n + 1)) st2) →
        aop P (.buildSlice sz 1 zs parts) fr s (fun v1 st1 => aop P (.append sz bt x y) (F v1) st1 (K v1)) := by
  obtain ⟨h1, h2, h3, h4, h5, h6⟩ := h
  have hl := h2.len
  have hol : o < vs.length := by
    rcases Nat.lt_or_ge o cs.length with h | h
    · omega
    · rw [List.getElem?_eq_none h] at ho; cases ho
  have hdis' := hdis
  obtain ⟨c', Li, e, r, hsub, hup⟩ := h2.at hol
  rw [ho] at e; cases e
  have hsl : vs[o].slen = some n := by
    rcases r.slice with ⟨e, rfl, _⟩ | ⟨id, ws, L1, e, _⟩ <;> rw [e] <;> rfl
  refine ⟨vs[o], List.getElem?_eq_getElem hol, hsl, ?_⟩
  intro P bt zs parts x y fr F K hnew hx hy hk
  refine aop_append_rep r hds hn hnew hlen hrep (fun j hj hm => hdis' j hj (hsub j hm)) hx hy fun v1 i2 L2 st2 q1 q2 q3 => ?_
  have hbi : b ∉ Li := fun hm => h3 (hsub b hm)
  have hb2 : st2.h b = some (.cells vs) := q3 b hbi _ h1
  have hbL2 : b ∉ L2 := fun hm => by
    rcases q2 b hm with h | h | h
    · exact hbi h
    · exact hb h
    · rw [h1] at h; cases h
  have hso : ∀ {M : List Nat} {ob : AObj}, b ∉ M → ∀ j ∈ M, (st2.set b ob).h j = st2.h j := fun {M ob} hm j hj => by
    rw [ASt.set_h, if_neg (by rintro rfl; exact hm hj)]
  refine hk v1 i2 st2 hb2 ?_
  obtain ⟨L'', g1, g2⟩ := hup (st2.set b (.cells (vs.set o (.sl sz i2 0 (n + 1))))) (.sl sz i2 0 (n + 1)) (.isl sz (ds ++ newc) (n + 1)) L2 (q1.off (hso hbL2)) (fun j hj => by
    rcases q2 j hj with h | h | h
    · exact .inl h
    · exact .inr (hdis' j h)
    · exact .inr fun hm => h2.live j hm h) (fun j hj hjn => by
    rw [ASt.set_h, if_neg (by rintro rfl; exact h3 hj)]
    cases e : s.h j with
    | none => exact absurd e (h2.live j hj)
    | some ob => exact q3 j hjn _ e)
  refine ⟨_, L'', by rw [ASt.set_h, if_pos rfl, hb2]; rfl, g1, fun hm => ?_, fun j hj => ?_, h5, fun j ob hj => ?_⟩
  · rcases (g2 b).mp hm with ⟨h, _⟩ | h
    · exact h3 h
    · exact hbL2 h
  · rcases (g2 j).mp hj with ⟨h, _⟩ | h
    · exact h4 j h
    · rcases q2 j h with h | h | h
      · exact h4 j (hsub j h)
      · exact hf j h
      · exact fresh_of_le h6 h
  · rw [ASt.set_h, if_neg (by rintro rfl; rw [h5] at hj; cases hj)]
    exact q3 j (fun hm => by rw [h4 j (hsub j hm)] at hj; cases hj) _ (h6 _ _ hj)
theorem BoxL.put {s0 s : ASt} {b o sz n k : Nat} {ds : List AV} {v c : AV} {Lv : List Nat} (h : BoxL s0 s b vs cs L) (ho : cs[o]? = some (.isl sz ds n)) (hn : n ≠ 0) (hk : k < ds.length)
    (hv : RepL s [v] [c] Lv) (hb : b ∉ Lv) (hf : ∀ j ∈ Lv, s0.h j = none) (hd : ∀ j ∈ Lv, j ∉ L) :
    ∃ id ws, vs[o]? = some (.sl sz id 0 n) ∧ s.h id = some (.cells ws) ∧ ws.length = ds.length ∧ id ≠ b ∧ (∀ x, ds[k]? = some x → x.scalar = true → ws[k]? = some x) ∧ ∃ L', BoxL s0 (s.set id (.cells (ws.set k v))) b vs (cs.set o (.isl sz (ds.set k c) n)) L' := by
  obtain ⟨h1, h2, h3, h4, h5, h6⟩ := h
  obtain ⟨id, ws, Lw, e1, e2, e3, e4, e5, e6, e7⟩ := h2.inner ho hn
  have hwl := e3.len
  have hidb : id ≠ b := by rintro rfl; exact h3 e5
  have hidv : id ∉ Lv := fun hm => hd id hm e5
  obtain ⟨L1, q1, q2, q3⟩ := e3.store (g := id) (i := k) e6 (by omega) hv hidv (fun j hj hm => hd j hj (e4 j hm)) (.cells (ws.set k v))
  refine ⟨id, ws, e1, e2, by omega, hidb, fun x hx hs => e3.get hx hs, ?_⟩
  obtain ⟨L'', g1, g2⟩ := e7 (s.set id (.cells (ws.set k v))) (ws.set k v) (ds.set k c) L1 (by rw [ASt.set_h, if_pos rfl, e2]; rfl) q1 (fun j hj => ⟨by rintro rfl; exact q2 hj, (q3 j hj).imp (fun x => x) (hd j)⟩) (fun j hj hne _ => by rw [ASt.set_h, if_neg hne])
  refine ⟨L'', by rw [ASt.set_h, if_neg hidb.symm]; exact h1, g1, fun hm => ?_, fun j hj => ?_, h5, fun j ob hj => ?_⟩
  · rcases (g2 b).mp hm with ⟨h, _⟩ | h
    · exact h3 h
    · rcases q3 b h with h | h
      · exact h3 (e4 b h)
      · exact hb h
  · rcases (g2 j).mp hj with ⟨h, _⟩ | h
    · exact h4 j h
    · rcases q3 j h with h | h
      · exact h4 j (e4 j h)
      · exact hf j h
  · rw [ASt.set_h, if_neg (by rintro rfl; rw [h4 _ e5] at hj; cases hj)]
    exact h6 _ _ hj
end
end Go.Proofs.YtdmfgodajoojpaaGreatDoor.Cn
/- The values of a chip's description, as cells. No conditions. -/
set_option linter.unusedSimpArgs false
set_option linter.unusedVariables false
namespace Go.Proofs.YtdmfgodajoojpaaGreatDoor.Cn
open Go Go.RowKit

theorem flatMap_len {α : Type} {f : α → List AV} {k : Nat} (hf : ∀ x, (f x).length = k) : ∀ (l : List α), (l.flatMap f).length = l.length * k
  | [] => by simp
  | x :: l => by rw [List.flatMap_cons, List.length_append, hf, flatMap_len hf l, List.length_cons, Nat.add_mul]; omega
theorem flatMap_at {α : Type} {f : α → List AV} {k : Nat} (hf : ∀ x, (f x).length = k) : ∀ {l : List α} {i : Nat} (h : i < l.length), ((l.flatMap f).drop (i * k)).take k = f l[i]
  | x :: l, 0, _ => by
    rw [List.flatMap_cons, Nat.zero_mul, List.drop_zero, ← hf x, List.take_left]; rfl
  | x :: l, i + 1, h => by
    have e : (i + 1) * k = (f x).length + i * k := by rw [hf, Nat.add_mul]; omega
    rw [List.flatMap_cons, e, List.drop_length_add_append]
    exact flatMap_at hf (by simpa using h)
theorem flatMap_fits {α : Type} {f : α → List AV} {k : Nat} (hf : ∀ x, (f x).length = k) {l : List α} {i : Nat} (h : i < l.length) : i * k + k ≤ (l.flatMap f).length := by
  rw [flatMap_len hf]
  calc i * k + k = (i + 1) * k := by rw [Nat.add_mul]; omega
    _ ≤ l.length * k := Nat.mul_le_mul_right k h

structure Reg where
  reset : Int
  ret : Bool

def encReg (r : Reg) : List AV := [.int .u32 r.reset, .bool r.ret]
def flat (l : List Reg) : List AV := l.flatMap encReg
def u32s (l : List Int) : List AV := l.map (AV.int .u32)

theorem flat_length (l : List Reg) : (flat l).length = l.length * 2 := by
  induction l with
  | nil => rfl
  | cons r l ih => simp [flat, encReg] at ih ⊢; omega

theorem flat_get {l : List Reg} {i : Nat} (h : i < l.length) : (flat l)[i * 2]? = some (.int .u32 l[i].reset) ∧ (flat l)[i * 2 + 1]? = some (.bool l[i].ret) := by
  induction l generalizing i with
  | nil => simp at h
  | cons r l ih =>
    cases i with
    | zero => simp [flat, encReg]
    | succ i =>
      have := ih (i := i) (by simpa using h)
      simp only [flat, List.flatMap_cons, encReg, List.cons_append, List.nil_append] at this ⊢
      rw [show (i + 1) * 2 = i * 2 + 1 + 1 by omega]
      simpa using this

theorem flat_drop {l : List Reg} {i : Nat} (h : i < l.length) : ((flat l).drop (i * 2)).take 2 = encReg l[i] := by
  apply List.ext_getElem?
  intro j
  obtain ⟨h1, h2⟩ := flat_get h
  match j with
  | 0 => simp [List.getElem?_take, h1, encReg]
  | 1 => simp [List.getElem?_take, h2, encReg]
  | j + 2 => rw [List.getElem?_eq_none (by simp; omega), List.getElem?_eq_none (by simp [encReg])]

theorem u32s_get {l : List Int} {i : Nat} (h : i < l.length) : (u32s l)[i]? = some (.int .u32 l[i]) := by simp [u32s, h]
theorem u32s_length (l : List Int) : (u32s l).length = l.length := by simp [u32s]
theorem u32s_set (l : List Int) (i : Nat) (v : Int) : (u32s l).set i (.int .u32 v) = u32s (l.set i v) := by simp [u32s, List.map_set]
theorem flat_leaf (l : List Reg) : allLeaf (flat l) = true := by
  simp only [allLeaf, flat, List.all_flatMap]
  simp [encReg, AV.leaf]

structure Clk where
  kind : Int
  src : List Int
  rate : Int
  mul : Int
  div : Int
  lock : Int
structure Dom where
  above : Int
  delay : Int
  ret : Bool
structure Dev where
  clock : Int
  dom : Int
  rst : Int
  clamp : Int
  regs : List Reg
  needs : List Int
structure Soc where
  clocks : List Clk
  doms : List Dom
  rsts : List Int
  devs : List Dev


def Clk.cells (c : Clk) : List AV := [.int .u8 c.kind, row c.src, .int .u64 c.rate, .int .i64 c.mul, .int .i64 c.div, .int .i64 c.lock]
def Dom.cells (d : Dom) : List AV := [.int .i64 d.above, .int .i64 d.delay, .bool d.ret]
def Dev.cells (d : Dev) : List AV := [.int .i64 d.clock, .int .i64 d.dom, .int .i64 d.rst, .int .u32 d.clamp, .isl 2 (flat d.regs) d.regs.length, row d.needs]
def rstCells (n : Int) : List AV := [.int .i64 n]
def Soc.clkV (s : Soc) : AV := .isl 6 (s.clocks.flatMap Clk.cells) s.clocks.length
def Soc.domV (s : Soc) : AV := .isl 3 (s.doms.flatMap Dom.cells) s.doms.length
def Soc.rstV (s : Soc) : AV := .isl 1 (s.rsts.flatMap rstCells) s.rsts.length
def Soc.devV (s : Soc) : AV := .isl 6 (s.devs.flatMap Dev.cells) s.devs.length
def Soc.cells (s : Soc) : List AV := [s.clkV, s.domV, s.rstV, s.devV]


theorem flatMap_set {α : Type} {f : α → List AV} {k : Nat} (hf : ∀ x, (f x).length = k) {l : List α} {i j : Nat} {x : α} {v : AV} (hi : i < l.length) (hj : j < k) (hx : (f l[i]).set j v = f x) : (l.flatMap f).set (i * k + j) v = (l.set i x).flatMap f := by
  induction l generalizing i with
  | nil => simp at hi
  | cons a l ih =>
    cases i with
    | zero =>
      simp only [List.getElem_cons_zero] at hx
      rw [List.flatMap_cons, List.set_cons_zero, List.flatMap_cons, List.set_append_left _ _ (by rw [hf]; omega), ← hx]
      simp
    | succ i =>
      simp only [List.getElem_cons_succ] at hx
      rw [List.flatMap_cons, List.set_cons_succ, List.flatMap_cons, List.set_append_right _ _ (by rw [hf, Nat.add_mul]; omega), hf, ← ih (by simpa using hi) hx]
      congr 1
      congr 1
      rw [Nat.add_mul]; omega
theorem Clk.cells_len (c : Clk) : c.cells.length = 6 := rfl
theorem Dom.cells_len (d : Dom) : d.cells.length = 3 := rfl
theorem Dev.cells_len (d : Dev) : d.cells.length = 6 := rfl
theorem rstCells_len (n : Int) : (rstCells n).length = 1 := rfl
end Go.Proofs.YtdmfgodajoojpaaGreatDoor.Cn
/- The abstract layer, the last part: from what is shown of abstract arguments to what is said of a world's. -/
set_option linter.unusedSimpArgs false
set_option linter.unusedVariables false
namespace Go.Proofs.YtdmfgodajoojpaaGreatDoor.Cn
open Go Go.RowKit Go.WideShapes Go.ChangeShapes

inductive Sh where
  | int (k : IntKind)
  | bool
  | slice (e : Sh)
  | strct (fs : Sh)
  | cons (a b : Sh)
  | unit

def Sh.size : Sh → Nat
  | .strct f => f.size
  | .cons a b => a.size + b.size
  | .unit => 0
  | _ => 1

def Sh.Is : Sh → List AV → Prop
  | .int k, cs => ∃ n, cs = [.int k n] ∧ (Lit.int k n).wf = true
  | .bool, cs => ∃ b, cs = [.bool b]
  | .slice e, cs => ∃ els : List (List AV), cs = [.isl e.size els.flatten els.length] ∧ els.length ≤ maxLen ∧ ∀ x ∈ els, e.Is x
  | .strct f, cs => f.Is cs
  | .cons a b, cs => ∃ x y, cs = x ++ y ∧ a.Is x ∧ b.Is y
  | .unit, cs => cs = []

def Sh.chain : Sh → Bool
  | .cons .. | .unit => true
  | _ => false

def Sh.fits (P : Program) : Sh → TypeId → List Field → Nat → Bool
  | .int k, t, _, _ => match P.underlying t with
    | some (.int k') => k' == k
    | _ => false
  | .bool, t, _, _ => match P.underlying t with
    | some .bool => true
    | _ => false
  | .slice e, t, _, _ => match P.underlying t with
    | some (.slice u) => e.fits P u [] 0 && P.cellsOf u == e.size && decide (0 < e.size) && !e.chain
    | _ => false
  | .strct f, t, _, _ => match P.underlying t with
    | some (.struct fs) => f.fits P 0 fs.toList 0 && P.cellsOf t == f.size && f.chain
    | _ => false
  | .cons a b, _, fd :: fds, off => a.fits P fd.type [] 0 && P.cellsOf fd.type == a.size && fd.offset == off && b.fits P 0 fds (off + a.size) && !a.chain && b.chain
  | .unit, _, [], _ => true
  | _, _, _, _ => false

def RowsVS (C : ACx) (avs : List AV) (cs : List Value) : Prop := avs.length = cs.length ∧ ∀ i (h : i < avs.length), VS C avs[i] (cs.getD i undef)

theorem RowsVS.one {C : ACx} {a : AV} {v : Value} (h : VS C a v) : RowsVS C [a] [v] := ⟨rfl, fun i hi => by
  have : i = 0 := by simpa using hi
  subst this; exact h⟩

theorem RowsVS.append {C : ACx} {a b : List AV} {x y : List Value} (h : RowsVS C a x) (k : RowsVS C b y) : RowsVS C (a ++ b) (x ++ y) := by
  refine ⟨by simp [h.1, k.1], fun i hi => ?_⟩
  by_cases e : i < a.length
  · have e2 : i < x.length := h.1 ▸ e
    have := h.2 i e
    rw [List.getElem_append_left e]
    simpa [List.getD_eq_getElem?_getD, List.getElem?_append_left e2] using this
  · have hb : i - a.length < b.length := by simp at hi; omega
    have := k.2 _ hb
    rw [List.getElem_append_right (by omega)]
    have e2 : x.length ≤ i := by rw [← h.1]; omega
    simpa [List.getD_eq_getElem?_getD, List.getElem?_append_right e2, h.1] using this

theorem flatten_size {n : Nat} : ∀ {els : List (List AV)}, (∀ x ∈ els, x.length = n) → els.flatten.length = els.length * n
  | [], _ => by simp
  | x :: els, h => by
    rw [List.flatten_cons, List.length_append, h x (by simp), flatten_size (fun y hy => h y (by simp [hy])), List.length_cons, Nat.add_mul]
    omega

theorem flatten_at {n : Nat} : ∀ {els : List (List AV)}, (∀ x ∈ els, x.length = n) → ∀ {i j : Nat} (hi : i < els.length), j < n → els.flatten[i * n + j]? = els[i][j]?
  | [], _, i, _, hi, _ => by simp at hi
  | x :: els, h, 0, j, _, hj => by
    rw [List.flatten_cons, Nat.zero_mul, Nat.zero_add, List.getElem?_append_left (by rw [h x (by simp)]; exact hj)]
    rfl
  | x :: els, h, i + 1, j, hi, hj => by
    rw [List.flatten_cons, List.getElem?_append_right (by rw [h x (by simp), Nat.add_mul]; omega), h x (by simp),
      show (i + 1) * n + j - n = i * n + j by rw [Nat.add_mul]; omega, flatten_at (fun y hy => h y (by simp [hy])) (by simpa using hi) hj]
    rfl

theorem Sh.Is.size_eq : ∀ {s : Sh} {cs : List AV}, s.Is cs → cs.length = s.size
  | .int k, cs, h => by obtain ⟨n, rfl, _⟩ := h; rfl
  | .bool, cs, h => by obtain ⟨b, rfl⟩ := h; rfl
  | .slice e, cs, h => by rcases h with ⟨els, rfl, _⟩; rfl
  | .strct f, cs, h => Sh.Is.size_eq (s := f) h
  | .cons a b, cs, h => by
    obtain ⟨x, y, rfl, h1, h2⟩ := h
    rw [List.length_append, Sh.Is.size_eq h1, Sh.Is.size_eq h2]; rfl
  | .unit, cs, h => by cases h; rfl

section
variable {H : Type} {enc : TypeId × Value → H} {P : Program} {W : World} {spare : Nat → Bool} {held : Bool}

theorem shape_read : ∀ (s : Sh) (t : TypeId) (fds : List Field) (off : Nat), s.fits P t fds off = true →
    (match s with
      | .cons .. | .unit => ∀ (n : Nat) (cs : List Value), cs.length = off + s.size → (∀ fd ∈ fds, ∃ y, DataW.trod enc P W 0 spare held n fd.type ((cs.drop fd.offset).take (P.cellsOf fd.type)) = some y) →
          ∃ avs, s.Is avs ∧ RowsVS (start W) avs (cs.drop off)
      | _ => ∀ (n : Nat) (cs : List Value) x, DataW.trod enc P W 0 spare held n t cs = some x → ∃ avs, s.Is avs ∧ RowsVS (start W) avs cs)
  | .int k, t, _, _, hf => by
    intro n cs x h
    simp only [Sh.fits] at hf
    split at hf
    · rename_i k' hu
      obtain ⟨m, rfl, _, hw⟩ := DataW.trod_int hu h
      have hk : k' = k := by simpa using hf
      subst hk
      exact ⟨[.int k' m], ⟨m, rfl, hw⟩, RowsVS.one (.int _ _)⟩
    · cases hf
  | .bool, t, _, _, hf => by
    intro n cs x h
    simp only [Sh.fits] at hf
    split at hf
    · rename_i hu
      obtain ⟨b, rfl, _⟩ := DataW.trod_bool hu h
      exact ⟨[.bool b], ⟨b, rfl⟩, RowsVS.one (.bool _)⟩
    · cases hf
  | .slice e, t, _, _, hf => by
    intro n cs x h
    simp only [Sh.fits] at hf
    split at hf
    · rename_i u hu
      simp only [Bool.and_eq_true, beq_iff_eq, decide_eq_true_eq] at hf
      obtain ⟨⟨⟨hfu, hsz⟩, hpos⟩, hch⟩ := hf
      rcases DataW.trod_slice hu h with ⟨rfl, _⟩ | ⟨a, len, cap, elems, rest, m, rfl, rfl, _, hb, hl, hm, hlen, hel, _, _⟩
      · exact ⟨[.isl e.size [] 0], ⟨[], rfl, by simp, fun x hx => by cases hx⟩, RowsVS.one (.isl _ _ _ 0 0 _ _ (fun e => absurd rfl e) (fun _ => rfl) (fun _ => undef) (fun e => absurd rfl e) (fun e => absurd rfl e) (Nat.zero_le _))⟩
      · rw [hsz] at hel
        have each : ∀ i, i < len → ∃ avs, e.Is avs ∧ ∃ ws : List Value, W.cells? 0 (a.add (i * e.size)) e.size = some ws ∧ RowsVS (start W) avs ws := by
          intro i hi
          have h1 := hel i hi
          rw [List.getElem?_eq_getElem (by omega)] at h1
          obtain ⟨ws, hw, ht⟩ := Option.bind_eq_some_iff.mp h1
          have ih := shape_read e u [] 0 hfu
          have : ∃ avs, e.Is avs ∧ RowsVS (start W) avs ws := by
            cases e with
            | cons a b => simp [Sh.chain] at hch
            | unit => simp [Sh.chain] at hch
            | _ => exact ih _ _ _ ht
          obtain ⟨avs, q1, q2⟩ := this
          exact ⟨avs, q1, ws, hw, q2⟩
        by_cases h0 : len = 0
        · subst h0
          refine ⟨[.isl e.size [] 0], ⟨[], rfl, by simp, fun x hx => by cases hx⟩, RowsVS.one ?_⟩
          exact .isl _ _ _ 0 0 _ _ (fun e => absurd rfl e) (fun e => by cases e) (fun _ => undef) (fun e => absurd rfl e) (fun e => absurd rfl e) hl
        · obtain ⟨av0, _, ws0, hw0, _⟩ := each 0 (by omega)
          have hc0 := (World.cells?_some hw0).2.2 0 hpos
          have hl0 := (World.cells?_some hw0).2.1
          have hsp : a.spot = none := by
            rw [List.getElem?_eq_getElem (by omega)] at hc0
            have := World.cell?_spot hc0
            simpa [Addr.add] using this
          obtain ⟨b, o, sp⟩ := a
          have hsp' : sp = none := hsp
          subst hsp'
          let els : List (List AV) := (List.range len).map fun i => if h : i < len then Classical.choose (each i h) else []
          have hels : els.length = len := by simp [els]
          have hget : ∀ i (hi : i < els.length), e.Is els[i] ∧ ∃ ws : List Value, W.cells? 0 ((Addr.mk b o none).add (i * e.size)) e.size = some ws ∧ RowsVS (start W) els[i] ws := by
            intro i hi
            have hi' : i < len := hels ▸ hi
            have : els[i] = Classical.choose (each i hi') := by simp [els, hi']
            rw [this]
            exact Classical.choose_spec (each i hi')
          have hsize : ∀ x ∈ els, x.length = e.size := by
            intro x hx
            obtain ⟨i, hi, rfl⟩ := List.getElem_of_mem hx
            exact (hget i hi).1.size_eq
          have hfl := flatten_size hsize
          refine ⟨[.isl e.size els.flatten els.length], ⟨els, rfl, by omega, fun x hx => ?_⟩, RowsVS.one ?_⟩
          · obtain ⟨i, hi, rfl⟩ := List.getElem_of_mem hx
            exact (hget i hi).1
          · have key : ∀ k (hk : k < els.flatten.length), ∃ v, W.cell? ⟨b, o + k, none⟩ = some v ∧ VS (start W) els.flatten[k] v := by
              intro k hk
              have hk1 : k / e.size < els.length := Nat.div_lt_of_lt_mul (by rw [Nat.mul_comm]; omega)
              have hk2 : k % e.size < e.size := Nat.mod_lt _ hpos
              have hk3 : k / e.size * e.size + k % e.size = k := by rw [Nat.mul_comm]; exact Nat.div_add_mod _ _
              obtain ⟨i1, ws, i2, i3, i4⟩ := hget _ hk1
              have hc := (World.cells?_some i2).2.2 _ hk2
              have hwl := (World.cells?_some i2).2.1
              have hfa := flatten_at hsize hk1 hk2
              rw [hk3, List.getElem?_eq_getElem hk, List.getElem?_eq_getElem (by rw [hsize _ (List.getElem_mem hk1)]; exact hk2)] at hfa
              have hcell : W.cell? ⟨b, o + k, none⟩ = ws[k % e.size]? := by
                rw [← hc]
                rw [addr_add, addr_add, Nat.add_assoc, hk3]
              refine ⟨ws[k % e.size]'(by omega), by rw [hcell]; exact List.getElem?_eq_getElem _, ?_⟩
              have hv := i4 (k % e.size) (by rw [hsize _ (List.getElem_mem hk1)]; exact hk2)
              injection hfa with hfa
              rw [hfa]
              have : ws.getD (k % e.size) undef = ws[k % e.size]'(by omega) := by
                rw [List.getD_eq_getElem?_getD, List.getElem?_eq_getElem (by omega)]; rfl
              rwa [this] at hv
            rw [← hels] at hl ⊢
            refine .isl _ _ _ b o cap _ (fun _ => rfl) (fun e => by cases e) (fun k => (W.cell? ⟨b, o + k, none⟩).getD undef) (fun _ k hk => ?_) (fun _ k hk => ?_) hl
            · obtain ⟨v, h1, _⟩ := key k hk
              show W.cell? _ = _
              rw [h1]; rfl
            · obtain ⟨v, h1, h2⟩ := key k hk
              rw [h1]; exact h2
    · cases hf
  | .strct f, t, _, _, hf => by
    intro n cs x h
    simp only [Sh.fits] at hf
    split at hf
    · rename_i fs hu
      simp only [Bool.and_eq_true, beq_iff_eq] at hf
      obtain ⟨⟨hff, hsz⟩, hch⟩ := hf
      obtain ⟨xs, m, rfl, _, hl, hxl, hx⟩ := DataW.trod_struct hu h
      have ih := shape_read f 0 fs.toList 0 hff
      have : ∀ fd ∈ fs.toList, ∃ y, DataW.trod enc P W 0 spare held m fd.type ((cs.drop fd.offset).take (P.cellsOf fd.type)) = some y := by
        intro fd hfd
        obtain ⟨i, hi, rfl⟩ := List.getElem_of_mem hfd
        have hi' : i < fs.size := by simpa using hi
        have := hx i fs[i] (by simp [hi'])
        rw [List.getElem?_eq_getElem (by omega)] at this
        exact ⟨_, by simpa using this⟩
      cases f with
      | cons a b =>
        obtain ⟨avs, h1, h2⟩ := ih m cs (by rw [hl, hsz]; omega) this
        exact ⟨avs, h1, h2⟩
      | unit =>
        obtain ⟨avs, h1, h2⟩ := ih m cs (by rw [hl, hsz]; omega) this
        exact ⟨avs, h1, h2⟩
      | _ => simp [Sh.chain] at hch
    · cases hf
  | .cons a b, t, fds, off, hf => by
    intro n cs hl hx
    cases fds with
    | nil => simp [Sh.fits] at hf
    | cons fd fds =>
      simp only [Sh.fits, Bool.and_eq_true, beq_iff_eq] at hf
      obtain ⟨⟨⟨⟨⟨h1, h2⟩, h3⟩, h4⟩, h5⟩, h6⟩ := hf
      obtain ⟨y, hy⟩ := hx fd (by simp)
      have ih1 := shape_read a fd.type [] 0 h1
      have ih2 := shape_read b 0 fds (off + a.size) h4
      rw [h3, h2] at hy
      have e1 : ∃ avs, a.Is avs ∧ RowsVS (start W) avs ((cs.drop off).take a.size) := by
        cases a with
        | cons x y => simp [Sh.chain] at h5
        | unit => simp [Sh.chain] at h5
        | _ => exact ih1 _ _ _ hy
      have e2 : ∃ avs, b.Is avs ∧ RowsVS (start W) avs (cs.drop (off + a.size)) := by
        have hl' : cs.length = off + a.size + b.size := by rw [hl]; simp only [Sh.size]; omega
        have hx' : ∀ fd ∈ fds, ∃ y, DataW.trod enc P W 0 spare held n fd.type ((cs.drop fd.offset).take (P.cellsOf fd.type)) = some y := fun fd hfd => hx fd (by simp [hfd])
        cases b with
        | cons x y => exact ih2 _ _ hl' hx'
        | unit => exact ih2 _ _ hl' hx'
        | _ => simp [Sh.chain] at h6
      obtain ⟨x, q1, q2⟩ := e1
      obtain ⟨z, q3, q4⟩ := e2
      refine ⟨x ++ z, ⟨x, z, rfl, q1, q3⟩, ?_⟩
      have := q2.append q4
      rwa [← List.drop_drop, List.take_append_drop] at this
  | .unit, t, fds, off, hf => by
    intro n cs hl hx
    refine ⟨[], rfl, ?_, fun i hi => absurd hi (by simp)⟩
    simp [Sh.size] at hl
    simp [hl]
end
section
variable {P : Program} {W : World}

def Sh.Arg (s : Sh) (a : AV) : Prop := match s with
  | .strct f => ∃ cs, a = .agg cs ∧ f.Is cs
  | s => s.Is [a]

def ArgsOf : List Sh → List AV → Prop
  | [], [] => True
  | s :: ss, a :: al => s.Arg a ∧ ArgsOf ss al
  | _, _ => False

def fitsAll (P : Program) : List Sh → List TypeId → Bool
  | [], [] => true
  | s :: ss, t :: ts => s.fits P t [] 0 && !s.chain && fitsAll P ss ts
  | _, _ => false

theorem arg_read {H : Type} {enc : TypeId × Value → H} {spare : Nat → Bool} {held : Bool} {s : Sh} {t : TypeId} {v : Value} {d : DataW H} {ps : List MemPlace} {r : Reach} {base : Nat} (hf : s.fits P t [] 0 = true) (hch : (!s.chain) = true)
    (hok : Value.okWide P W r base t v) (h : DataW.Trod enc P W 0 spare held t v d ps) : ∃ a, s.Arg a ∧ VS (start W) a v := by
  obtain ⟨n, h⟩ := h
  have hr := shape_read (enc := enc) (P := P) (W := W) (spare := spare) (held := held) s t [] 0 hf
  have one : ∀ {avs : List AV}, avs.length = 1 → v.cells = #[v] → RowsVS (start W) avs v.cells.toList → ∃ a, avs = [a] ∧ VS (start W) a v := by
    intro avs h1 h2 h3
    obtain ⟨a, rfl⟩ := List.length_eq_one_iff.mp h1
    refine ⟨a, rfl, ?_⟩
    have := h3.2 0 (by simp)
    simpa [h2] using this
  cases s with
  | int k =>
    obtain ⟨avs, h1, h2⟩ := hr n _ _ h
    simp only [Sh.fits] at hf
    split at hf
    · rename_i k' hu
      obtain ⟨m, rfl⟩ := okWide_int hu hok
      obtain ⟨a, rfl, ha⟩ := one h1.size_eq rfl h2
      exact ⟨a, h1, ha⟩
    · cases hf
  | bool =>
    obtain ⟨avs, h1, h2⟩ := hr n _ _ h
    simp only [Sh.fits] at hf
    split at hf
    · rename_i hu
      obtain ⟨m, rfl⟩ := okWide_bool hu hok
      obtain ⟨a, rfl, ha⟩ := one h1.size_eq rfl h2
      exact ⟨a, h1, ha⟩
    · cases hf
  | slice e =>
    obtain ⟨avs, h1, h2⟩ := hr n _ _ h
    simp only [Sh.fits] at hf
    split at hf
    · rename_i u hu
      obtain ⟨x, y, z, rfl⟩ := okWide_slice hu hok
      obtain ⟨a, rfl, ha⟩ := one h1.size_eq rfl h2
      exact ⟨a, h1, ha⟩
    · cases hf
  | strct f =>
    obtain ⟨avs, h1, h2⟩ := hr n _ _ h
    simp only [Sh.fits] at hf
    split at hf
    · rename_i fs hu
      simp only [Value.okWide, hu] at hok
      obtain ⟨cs, rfl, _⟩ := hok
      refine ⟨.agg avs, ⟨avs, rfl, h1⟩, .agg _ _ ?_ ?_⟩
      · have := h2.1; simpa [Value.cells] using this.symm
      · intro i hi
        have := h2.2 i hi
        simpa [Value.cells] using this
    · cases hf
  | cons a b => simp [Sh.chain] at hch
  | unit => simp [Sh.chain] at hch

theorem args_read {H : Type} {enc : TypeId × Value → H} {spare : Nat → Bool} {held : Bool} {r : Reach} {base : Nat} : ∀ {ss : List Sh} {ts : List TypeId} {vs : List Value} {ds : List (DataW H)} {ps : List MemPlace}, fitsAll P ss ts = true →
    (∀ (j : Nat) t v, ts[j]? = some t → vs[j]? = some v → Value.okWide P W r base t v) → DataW.TrodAll enc P W 0 spare held ts vs ds ps →
    ∃ al, ArgsOf ss al ∧ al.length = vs.length ∧ ∀ i (h : i < al.length), VS (start W) al[i] (vs.getD i undef)
  | [], [], vs, ds, ps, _, _, h => by
    cases vs <;> cases ds <;> simp only [DataW.TrodAll] at h
    exact ⟨[], trivial, rfl, fun i hi => absurd hi (by simp)⟩
  | s :: ss, t :: ts, vs, ds, ps, hf, hv, h => by
    cases vs with
    | nil => cases ds <;> simp [DataW.TrodAll] at h
    | cons v vs =>
      cases ds with
      | nil => simp [DataW.TrodAll] at h
      | cons d ds =>
        obtain ⟨p, q, h1, h2, _⟩ := h
        simp only [fitsAll, Bool.and_eq_true] at hf
        obtain ⟨⟨f1, f2⟩, f3⟩ := hf
        obtain ⟨a, a1, a2⟩ := arg_read f1 f2 (hv 0 t v rfl rfl) h1
        obtain ⟨al, b1, b2, b3⟩ := args_read f3 (fun j t v h1 h2 => hv (j + 1) t v (by simpa using h1) (by simpa using h2)) h2
        refine ⟨a :: al, ⟨a1, b1⟩, by simp [b2], fun i hi => ?_⟩
        cases i with
        | zero => exact a2
        | succ i =>
          have := b3 i (by simpa using hi)
          simpa using this
  | [], _ :: _, _, _, _, hf, _, _ => by simp [fitsAll] at hf
  | _ :: _, [], _, _, _, hf, _, _ => by simp [fitsAll] at hf

theorem trodAll_length {H : Type} {enc : TypeId × Value → H} {spare : Nat → Bool} {held : Bool} {base : Nat} : ∀ {ts : List TypeId} {vs : List Value} {ds : List (DataW H)} {ps : List MemPlace}, DataW.TrodAll enc P W base spare held ts vs ds ps → ds.length = ts.length
  | [], vs, ds, ps, h => by cases vs <;> cases ds <;> simp [DataW.TrodAll] at h ⊢
  | t :: ts, vs, ds, ps, h => by
    cases vs with
    | nil => cases ds <;> simp [DataW.TrodAll] at h
    | cons v vs =>
      cases ds with
      | nil => simp [DataW.TrodAll] at h
      | cons d ds =>
        obtain ⟨p, q, h1, h2, _⟩ := h
        simp [trodAll_length h2]

theorem trodAll_below {H : Type} {enc : TypeId × Value → H} (hl : laidOutB P = true) {W' : World} (hb : Below W.heap.size W W') : ∀ {ts : List TypeId} {vs : List Value} {ds : List (DataW H)} {ps : List MemPlace},
    (ts.all fun t => P.readableRec t && decide (t < P.types.size)) = true → DataW.TrodAll enc P W 0 (fun _ => true) true ts vs ds ps → DataW.TrodAll enc P W' 0 (fun b => decide (b < W.heap.size)) true ts vs ds ps
  | [], vs, ds, ps, _, h => by cases vs <;> cases ds <;> simp only [DataW.TrodAll] at h ⊢; exact h
  | t :: ts, vs, ds, ps, hr, h => by
    cases vs with
    | nil => cases ds <;> simp [DataW.TrodAll] at h
    | cons v vs =>
      cases ds with
      | nil => simp [DataW.TrodAll] at h
      | cons d ds =>
        obtain ⟨p, q, h1, h2, e⟩ := h
        simp only [List.all_cons, Bool.and_eq_true, decide_eq_true_eq] at hr
        refine ⟨p, q, Below.trod hl hr.1.1 hr.1.2 h1 hb ?_, trodAll_below hl hb hr.2 h2, e⟩
        obtain ⟨n, hn⟩ := h1
        exact fun x hx => DataW.trod_lt n _ _ _ hn x hx

theorem calls_start {f : Nat} {al : List AV} {vs : Array Value} (g : Glob (start W)) (h : ACalls P f al ⟨fun _ => none⟩ fun v _ => v = .bool true) (hl : vs.size = al.length) (hv : ∀ i (h : i < al.length), VS (start W) al[i] (vs.getD i undef)) :
    Calls P f vs W fun e w' => e = .returned (.bool true) ∧ Below W.heap.size W w' := by
  refine (h W.heap.size W (fun _ => False) W (start W) W vs ?_ hl hv).mono ?_
  · exact
      { glob := g
        live := fun i hi => absurd rfl hi
        below := Below.refl _ _
        hB := Nat.le_refl _
        inj := fun i j hi => absurd rfl hi
        lo := fun i hi => absurd rfl hi
        obj := fun i o ho => by cases ho
        imm := fun b o v hk => ⟨hk, id, fun i hi => absurd rfl hi⟩
        res := fun b hb => hb.elim }
  · rintro e w' ⟨C', v, st', rv, _, s, rfl, hrv, rfl⟩
    cases hrv
    exact ⟨rfl, s.below⟩

theorem contract_of {H : Type} {enc : TypeId × Value → H} {f : FuncId} {fn : Func} {s : ChangeSpec} {ss : List Sh} {tb : TypeId} (hlaid : laidOutB P = true) (hvars : s.vars = [])
    (hs : ∀ ds : List (DataW H), ds.length = fn.params.size → s.fn H ds = { results := [.lit (.bool true)], args := ds }) (hfit : fitsAll P ss fn.params.toList = true)
    (hrec : (fn.params.toList.all fun t => P.readableRec t && decide (t < P.types.size)) = true) (hres : fn.resultTypes = #[tb]) (hb : P.underlying tb = some .bool)
    (h : ∀ al, ArgsOf ss al → ACalls P f al ⟨fun _ => none⟩ fun v _ => v = .bool true) (W : World) (base : Nat) (args : Array Value) (ds gs : List (DataW H)) (before : List MemPlace)
    (hval : ∀ (j : Nat) t v, fn.params[j]? = some t → args[j]? = some v → Value.okWide P W .any base t v) (hW : DataW.Whole enc P fn.params.toList s.vars false W args.toList ds gs before) (hglob : Glob (start W)) :
    Calls P f args W fun e W' => ∃ v, e = .returned v ∧ s.post enc P fn false true false false W args v W' := by
  have hW' := hW
  obtain ⟨p, q, hA, hV, rfl, hfz, hnd⟩ := hW
  rw [hvars] at hV
  obtain ⟨rfl, rfl⟩ := trodVars_none hV
  obtain ⟨al, a1, a2, a3⟩ := args_read hfit (fun j t v h1 h2 => hval j t v (by simpa using h1) (by simpa using h2)) hA
  refine (calls_start (W := W) hglob (h al a1) (by simpa using a2.symm) (fun i hi => by simpa using a3 i hi)).mono fun e W' ⟨he, bel⟩ => ?_
  subst he
  have hdl : ds.length = fn.params.size := by rw [trodAll_length hA]; simp
  have hfn := hs (ds ++ []) (by simpa using hdl)
  refine ⟨_, rfl, _, _, _, [], p, [], hW', ?_, ?_, ?_, bel.frame _, fun h => by cases h⟩
  · rw [hfn, hres]
    exact trodAll_mk1 (shut_bool hb _)
  · rw [hfn, List.append_nil]
    exact trodAll_below hlaid bel hrec hA
  · rw [hfn, hvars]; rfl
end

theorem els_map {α : Type} {e : Sh} (enc : α → List AV) (ok : α → Prop) (hdec : ∀ cs, e.Is cs → ∃ x, cs = enc x ∧ ok x) : ∀ {els : List (List AV)}, (∀ x ∈ els, e.Is x) → ∃ l : List α, els = l.map enc ∧ ∀ x ∈ l, ok x
  | [], _ => ⟨[], rfl, fun x hx => by cases hx⟩
  | x :: els, h => by
    obtain ⟨y, rfl, hy⟩ := hdec x (h x (by simp))
    obtain ⟨l, rfl, hl⟩ := els_map enc ok hdec (els := els) (fun z hz => h z (by simp [hz]))
    exact ⟨y :: l, rfl, fun z hz => by
      rcases List.mem_cons.mp hz with rfl | hz
      · exact hy
      · exact hl z hz⟩

theorem slice_arg {α : Type} {e : Sh} (enc : α → List AV) (ok : α → Prop) (hdec : ∀ cs, e.Is cs → ∃ x, cs = enc x ∧ ok x) {a : AV} (h : (Sh.slice e).Is [a]) :
    ∃ l : List α, a = .isl e.size (l.flatMap enc) l.length ∧ (∀ x ∈ l, ok x) ∧ l.length ≤ maxLen := by
  obtain ⟨els, h, hm, he⟩ := h
  injection h with h
  subst h
  obtain ⟨l, rfl, hl⟩ := els_map enc ok hdec he
  refine ⟨l, ?_, hl, by simpa using hm⟩
  rw [List.length_map, List.flatMap_def]

theorem wf_i64 {n : Int} (h : (Lit.int .i64 n).wf = true) : -9223372036854775808 ≤ n ∧ n ≤ 9223372036854775807 := by
  simp only [Lit.wf, Bool.and_eq_true, decide_eq_true_eq] at h
  exact h
/- The abstract layer: the arguments that come in, by their shapes. No conditions. -/

def I64 (n : Int) : Prop := -9223372036854775808 ≤ n ∧ n ≤ 9223372036854775807
abbrev shInt : Sh := .int .i64
abbrev shInts : Sh := .slice (.int .i64)
theorem argInt {a : AV} (h : shInt.Arg a) : ∃ n, a = .int .i64 n ∧ I64 n := by
  obtain ⟨n, h1, h2⟩ := h
  injection h1 with h1
  exact ⟨n, h1, wf_i64 h2⟩
theorem flatMap_single {α β : Type} (f : α → β) (l : List α) : l.flatMap (fun x => [f x]) = l.map f := by
  induction l with
  | nil => rfl
  | cons x l ih => rw [List.flatMap_cons, ih]; rfl
theorem argInts {a : AV} (h : shInts.Arg a) : ∃ l : List Int, a = .isl 1 (ints l) l.length ∧ (∀ x ∈ l, I64 x) ∧ l.length ≤ maxLen := by
  obtain ⟨l, h1, h2, h3⟩ := slice_arg (fun n : Int => [AV.int .i64 n]) I64 (fun cs hc => by obtain ⟨n, rfl, hn⟩ := hc; exact ⟨n, rfl, wf_i64 hn⟩) h
  exact ⟨l, by rw [h1, flatMap_single]; rfl, h2, h3⟩
theorem args1 {s0 : Sh} {al : List AV} (h : ArgsOf [s0] al) : ∃ a0, al = [a0] ∧ s0.Arg a0 := by
  cases al with
  | nil => exact h.elim
  | cons a0 al =>
    cases al with
    | nil => exact ⟨a0, rfl, h.1⟩
    | cons a1 al => exact h.2.elim
theorem args2 {s0 s1 : Sh} {al : List AV} (h : ArgsOf [s0, s1] al) : ∃ a0 a1, al = [a0, a1] ∧ s0.Arg a0 ∧ s1.Arg a1 := by
  cases al with
  | nil => exact h.elim
  | cons a0 al =>
    obtain ⟨a1, rfl, h1⟩ := args1 h.2
    exact ⟨a0, a1, rfl, h.1, h1⟩
theorem args3 {s0 s1 s2 : Sh} {al : List AV} (h : ArgsOf [s0, s1, s2] al) : ∃ a0 a1 a2, al = [a0, a1, a2] ∧ s0.Arg a0 ∧ s1.Arg a1 ∧ s2.Arg a2 := by
  cases al with
  | nil => exact h.elim
  | cons a0 al =>
    obtain ⟨a1, a2, rfl, h1⟩ := args2 h.2
    exact ⟨a0, a1, a2, rfl, h.1, h1⟩
theorem args4 {s0 s1 s2 s3 : Sh} {al : List AV} (h : ArgsOf [s0, s1, s2, s3] al) : ∃ a0 a1 a2 a3, al = [a0, a1, a2, a3] ∧ s0.Arg a0 ∧ s1.Arg a1 ∧ s2.Arg a2 ∧ s3.Arg a3 := by
  cases al with
  | nil => exact h.elim
  | cons a0 al =>
    obtain ⟨a1, a2, a3, rfl, h1⟩ := args3 h.2
    exact ⟨a0, a1, a2, a3, rfl, h.1, h1⟩
end Go.Proofs.YtdmfgodajoojpaaGreatDoor.Cn
/- Graphs, plain: orders, and what is above and under a node. No conditions. -/
set_option linter.unusedSimpArgs false
set_option linter.unusedVariables false
set_option linter.unusedSectionVars false
namespace Go.Proofs.YtdmfgodajoojpaaGreatDoor.Cn
open Go

abbrev Gr := List (List Int)

def deps (g : Gr) (v : Nat) : List Nat := ((g[v]?).getD []).map Int.toNat

def Gr.ok (g : Gr) : Prop := ∀ r ∈ g, ∀ u ∈ r, 0 ≤ u ∧ u < g.length
instance (g : Gr) : Decidable g.ok := by unfold Gr.ok; infer_instance

theorem deps_at {g : Gr} {v : Nat} (h : v < g.length) : deps g v = g[v].map Int.toNat := by simp [deps, h]
theorem deps_lt {g : Gr} (h : g.ok) {u v : Nat} (hu : u ∈ deps g v) : u < g.length := by
  by_cases hv : v < g.length
  · rw [deps_at hv, List.mem_map] at hu
    obtain ⟨x, hx, rfl⟩ := hu
    have := h _ (List.getElem_mem hv) x hx
    omega
  · simp [deps, hv] at hu
theorem deps_of {g : Gr} {u v : Nat} (hu : u ∈ deps g v) : v < g.length := by
  by_cases hv : v < g.length
  · exact hv
  · simp [deps, hv] at hu

def ready (g : Gr) (out : List Nat) (v : Nat) : Bool := !out.contains v && (deps g v).all fun u => out.contains u
def next (g : Gr) (out : List Nat) : Option Nat := (List.range g.length).find? (ready g out)
def ordGo (g : Gr) : Nat → List Nat → List Nat
  | 0, out => out
  | f + 1, out => match next g out with
    | none => out
    | some v => ordGo g f (out ++ [v])
def ord (g : Gr) : List Nat := ordGo g g.length []

theorem ready_iff {g : Gr} {out : List Nat} {v : Nat} : ready g out v = true ↔ v ∉ out ∧ ∀ u ∈ deps g v, u ∈ out := by simp [ready]
theorem next_some {g : Gr} {out : List Nat} {v : Nat} : next g out = some v ↔ ready g out v = true ∧ v < g.length ∧ ∀ j, j < v → ready g out j = false := by
  simp [next, List.find?_range_eq_some]
theorem next_none {g : Gr} {out : List Nat} : next g out = none ↔ ∀ j, j < g.length → ready g out j = false := by
  simp [next, List.find?_range_eq_none]

inductive Topo (g : Gr) : List Nat → Prop
  | nil : Topo g []
  | snoc {out : List Nat} {v : Nat} (h : Topo g out) (hv : next g out = some v) : Topo g (out ++ [v])

theorem Topo.lt {g : Gr} {out : List Nat} (h : Topo g out) : ∀ v ∈ out, v < g.length := by
  induction h with
  | nil => intro v hv; cases hv
  | snoc h hv ih =>
    intro w hw
    rcases List.mem_append.mp hw with hw | hw
    · exact ih w hw
    · rw [List.mem_singleton] at hw; subst hw; exact (next_some.mp hv).2.1
theorem Topo.nodup {g : Gr} {out : List Nat} (h : Topo g out) : out.Nodup := by
  induction h with
  | nil => exact List.nodup_nil
  | snoc h hv ih =>
    rw [List.nodup_append]
    refine ⟨ih, by simp, fun a ha b hb => ?_⟩
    rw [List.mem_singleton] at hb; subst hb
    rintro rfl
    exact (ready_iff.mp (next_some.mp hv).1).1 ha
theorem Topo.deps {g : Gr} {out : List Nat} (h : Topo g out) : ∀ v ∈ out, ∀ u ∈ deps g v, u ∈ out ∧ out.idxOf u < out.idxOf v := by
  induction h with
  | nil => intro v hv; cases hv
  | @snoc out v h hv ih =>
    have hr := ready_iff.mp (next_some.mp hv).1
    intro w hw u hu
    rcases List.mem_append.mp hw with hw | hw
    · obtain ⟨h1, h2⟩ := ih w hw u hu
      exact ⟨List.mem_append_left _ h1, by rw [List.idxOf_append, List.idxOf_append, if_pos h1, if_pos hw]; exact h2⟩
    · rw [List.mem_singleton] at hw; subst hw
      have h1 := hr.2 u hu
      refine ⟨List.mem_append_left _ h1, ?_⟩
      rw [List.idxOf_append, List.idxOf_append, if_pos h1, if_neg hr.1]
      have := List.idxOf_lt_length_of_mem h1
      omega

theorem nodup_len {l k : List Nat} (h : l.Nodup) (hs : ∀ x ∈ l, x ∈ k) : l.length ≤ k.length := by
  induction l generalizing k with
  | nil => simp
  | cons x l ih =>
    rw [List.nodup_cons] at h
    have hx : x ∈ k := hs x (by simp)
    have := ih (k := k.erase x) h.2 (fun y hy => by
      have hne : y ≠ x := by rintro rfl; exact h.1 hy
      exact (List.mem_erase_of_ne hne).mpr (hs y (by simp [hy])))
    rw [List.length_erase_of_mem hx] at this
    have : 0 < k.length := List.length_pos_of_mem hx
    simp only [List.length_cons]; omega
theorem nodup_full {l : List Nat} {n : Nat} (h : l.Nodup) (hl : ∀ x ∈ l, x < n) (hn : l.length = n) : ∀ w, w < n → w ∈ l := by
  intro w hw
  refine Classical.byContradiction fun hc => ?_
  have := nodup_len (l := w :: l) (k := List.range n) (by rw [List.nodup_cons]; exact ⟨hc, h⟩) (fun x hx => by
    rcases List.mem_cons.mp hx with rfl | hx
    · simpa using hw
    · simpa using hl x hx)
  simp at this; omega
theorem full_len {l : List Nat} {n : Nat} (h : ∀ w, w < n → w ∈ l) : n ≤ l.length := by
  have := nodup_len (l := List.range n) (k := l) List.nodup_range (fun x hx => h x (by simpa using hx))
  simpa using this
theorem Topo.len {g : Gr} {out : List Nat} (h : Topo g out) : out.length ≤ g.length := by
  have := nodup_len (k := List.range g.length) h.nodup (fun x hx => by simpa using h.lt x hx)
  simpa using this

theorem ordGo_topo {g : Gr} : ∀ (f : Nat) {out : List Nat}, Topo g out → Topo g (ordGo g f out)
  | 0, _, h => h
  | f + 1, out, h => by
    unfold ordGo
    split
    · exact h
    · rename_i v hv; exact ordGo_topo f (.snoc h hv)
theorem ord_topo (g : Gr) : Topo g (ord g) := ordGo_topo _ .nil

theorem next_rank {g : Gr} (hg : g.ok) (r : Nat → Nat) (hr : ∀ v, v < g.length → ∀ u ∈ deps g v, r u < r v) {out : List Nat} (hl : out.length < g.length) : next g out ≠ none := by
  intro hn
  rw [next_none] at hn
  have key : ∀ m w, r w = m → w < g.length → w ∉ out → False := by
    intro m
    induction m using Nat.strongRecOn with
    | _ m ih =>
      intro w hw hwl hwo
      by_cases hd : ∀ u ∈ deps g w, u ∈ out
      · have := hn w hwl
        have h2 := ready_iff.mpr ⟨hwo, hd⟩
        rw [this] at h2; cases h2
      · have : ∃ u ∈ deps g w, u ∉ out := by
          refine Classical.byContradiction fun hc => hd fun u hu => ?_
          refine Classical.byContradiction fun hx => hc ⟨u, hu, hx⟩
        obtain ⟨u, hu, huo⟩ := this
        exact ih (r u) (by rw [← hw]; exact hr w hwl u hu) u rfl (deps_lt hg hu) huo
  have : g.length ≤ out.length := full_len fun w hw => Classical.byContradiction fun hc => key _ w rfl hw hc
  omega

theorem ordGo_full {g : Gr} (hg : g.ok) (r : Nat → Nat) (hr : ∀ v, v < g.length → ∀ u ∈ deps g v, r u < r v) : ∀ (f : Nat) (out : List Nat), Topo g out → out.length + f = g.length → (ordGo g f out).length = g.length
  | 0, out, _, h => by simpa [ordGo] using h
  | f + 1, out, ht, h => by
    unfold ordGo
    split
    · rename_i hn; exact absurd hn (next_rank hg r hr (by omega))
    · rename_i v hv
      exact ordGo_full hg r hr f _ (.snoc ht hv) (by simp; omega)
theorem ord_full {g : Gr} (hg : g.ok) (r : Nat → Nat) (hr : ∀ v, v < g.length → ∀ u ∈ deps g v, r u < r v) : (ord g).length = g.length :=
  ordGo_full hg r hr _ _ .nil (by simp)

inductive Up (g : Gr) : Nat → Nat → Prop
  | one {v u : Nat} (h : u ∈ deps g v) : Up g v u
  | more {v w u : Nat} (h : w ∈ deps g v) (k : Up g w u) : Up g v u

theorem Up.trans {g : Gr} {a b c : Nat} (h : Up g a b) (k : Up g b c) : Up g a c := by
  induction h with
  | one h => exact .more h k
  | more h _ ih => exact .more h (ih k)
theorem Up.snoc {g : Gr} {a b c : Nat} (h : Up g a b) (k : c ∈ deps g b) : Up g a c := h.trans (.one k)
theorem Up.last {g : Gr} {a c : Nat} (h : Up g a c) : ∃ b, (b = a ∨ Up g a b) ∧ c ∈ deps g b := by
  induction h with
  | @one v u h => exact ⟨v, .inl rfl, h⟩
  | @more v w u h k ih =>
    obtain ⟨b, hb, hc⟩ := ih
    rcases hb with rfl | hb
    · exact ⟨_, .inr (.one h), hc⟩
    · exact ⟨b, .inr (.more h hb), hc⟩
theorem Up.lt {g : Gr} (hg : g.ok) {a b : Nat} (h : Up g a b) : a < g.length ∧ b < g.length := by
  induction h with
  | one h => exact ⟨deps_of h, deps_lt hg h⟩
  | more h _ ih => exact ⟨deps_of h, ih.2⟩
theorem Up.rank {g : Gr} {r : Nat → Nat} (hr : ∀ v, v < g.length → ∀ u ∈ deps g v, r u < r v) {a b : Nat} (h : Up g a b) : r b < r a := by
  induction h with
  | one h => exact hr _ (deps_of h) _ h
  | more h _ ih => exact Nat.lt_trans ih (hr _ (deps_of h) _ h)

structure Right (g : Gr) : Prop where
  ok : g.ok
  full : (ord g).length = g.length

theorem Right.mem {g : Gr} (h : Right g) {v : Nat} (hv : v < g.length) : v ∈ ord g := nodup_full (ord_topo g).nodup (ord_topo g).lt h.full v hv
theorem Right.pos {g : Gr} (h : Right g) {v u : Nat} (hu : u ∈ deps g v) : (ord g).idxOf u < (ord g).idxOf v := ((ord_topo g).deps v (h.mem (deps_of hu)) u hu).2
theorem Right.at {g : Gr} (h : Right g) {v : Nat} (hv : v < g.length) : (ord g)[(ord g).idxOf v]'(List.idxOf_lt_length_of_mem (h.mem hv)) = v := List.getElem_idxOf _

def grErr (g : Gr) : Int := if 100 < g.length then 1 else if g.ok then (if (ord g).length < g.length then 5 else 0) else 4

theorem grErr_zero {g : Gr} : grErr g = 0 ↔ g.length ≤ 100 ∧ Right g := by
  unfold grErr
  have hl := (ord_topo g).len
  constructor
  · intro h
    by_cases h1 : 100 < g.length
    · simp [h1] at h
    · by_cases h2 : g.ok
      · by_cases h3 : (ord g).length < g.length
        · simp [h1, h2, h3] at h
        · exact ⟨by omega, h2, by omega⟩
      · simp [h1, h2] at h
  · rintro ⟨h1, h2, h3⟩
    have : ¬ 100 < g.length := by omega
    simp [this, h2, h3]

def nats (l : List Nat) : List Int := l.map Int.ofNat
theorem nats_length (l : List Nat) : (nats l).length = l.length := by simp [nats]
theorem nats_append (l k : List Nat) : nats (l ++ k) = nats l ++ nats k := by simp [nats]

open Classical in
noncomputable def aboveL (g : Gr) (v : Nat) : List Nat := (ord g).filter fun u => decide (u ≠ v ∧ Up g v u)
open Classical in
noncomputable def underL (g : Gr) (v : Nat) : List Nat := (ord g).filter fun u => decide (u ≠ v ∧ Up g u v)

def wcnt (g : Gr) (out : List Nat) (v : Nat) : Nat := (List.range g.length).countP fun u => decide (u ∈ deps g v ∧ u ∉ out)

theorem mem_deps {g : Gr} (h : g.ok) {v : Nat} (hv : v < g.length) {u : Nat} : u ∈ deps g v ↔ (u : Int) ∈ g[v] := by
  rw [deps_at hv, List.mem_map]
  constructor
  · rintro ⟨x, hx, rfl⟩
    have := h _ (List.getElem_mem hv) x hx
    rwa [Int.toNat_of_nonneg this.1]
  · exact fun hx => ⟨_, hx, by simp⟩

theorem countP_range_add {p q : Nat → Bool} {x : Nat} : ∀ {n : Nat}, x < n → p x = false → q x = true → (∀ y, y ≠ x → q y = p y) → (List.range n).countP q = (List.range n).countP p + 1
  | 0, hx, _, _, _ => by omega
  | n + 1, hx, hp, hq, h => by
    rw [List.range_succ, List.countP_append, List.countP_append, List.countP_singleton, List.countP_singleton]
    by_cases e : x = n
    · subst e
      have : (List.range x).countP q = (List.range x).countP p := by
        apply List.countP_congr
        intro y hy
        rw [h y (by simp at hy; omega)]
      rw [this, hp, hq]; simp
    · rw [countP_range_add (by omega) hp hq h, h n (Ne.symm e)]; omega

theorem wcnt_snoc {g : Gr} (hg : g.ok) {out : List Nat} {v u : Nat} (hv : v ∉ out) : wcnt g out u = wcnt g (out ++ [v]) u + if v ∈ deps g u then 1 else 0 := by
  unfold wcnt
  by_cases h : v ∈ deps g u
  · rw [if_pos h]
    refine countP_range_add (x := v) (deps_lt hg h) ?_ ?_ ?_
    · simp
    · simp [h, hv]
    · intro y hy
      simp [hy]
  · rw [if_neg h, Nat.add_zero]
    apply List.countP_congr
    intro y _
    have : y ∈ deps g u → y ≠ v := fun h1 h2 => h (h2 ▸ h1)
    simp only [List.mem_append, List.mem_singleton, not_or, decide_eq_true_eq]
    constructor
    · rintro ⟨a, b⟩; exact ⟨a, b, this a⟩
    · rintro ⟨a, b, _⟩; exact ⟨a, b⟩

theorem wcnt_zero {g : Gr} (hg : g.ok) {out : List Nat} {v : Nat} : wcnt g out v = 0 ↔ ∀ u ∈ deps g v, u ∈ out := by
  unfold wcnt
  rw [List.countP_eq_zero]
  constructor
  · intro h u hu
    have := h u (by simpa using deps_lt hg hu)
    simp only [decide_eq_true_eq, not_and, Classical.not_not] at this
    exact this hu
  · intro h u _
    simp only [decide_eq_true_eq, not_and, Classical.not_not]
    exact h u

def ordL (g : Gr) : List Nat := if grErr g = 0 then ord g else []
def nodeErr (g : Gr) (v : Int) : Int := if grErr g = 0 then (if v < 0 ∨ (g.length : Int) ≤ v then 4 else 0) else grErr g
section
variable {g : Gr} (h : Right g) {v : Nat}
include h

end

noncomputable def aboveR (g : Gr) (v : Int) : List Nat := if nodeErr g v = 0 then aboveL g v.toNat else []
noncomputable def underR (g : Gr) (v : Int) : List Nat := if nodeErr g v = 0 then underL g v.toNat else []
end Go.Proofs.YtdmfgodajoojpaaGreatDoor.Cn
/- What a chip is made of raw numbers: as the statements draw it. No conditions. -/
set_option linter.unusedSimpArgs false
set_option linter.unusedVariables false
namespace Go.Proofs.YtdmfgodajoojpaaGreatDoor.Cn
open Go Go.RowKit

def pickI (c : Int) (n : Nat) : Nat := (if c < 0 then -(c + 1) else c).toNat % n
theorem pickI_lt (c : Int) {n : Nat} (h : 0 < n) : pickI c n < n := Nat.mod_lt _ h

theorem wrapU64 {n : Int} (h0 : 0 ≤ n) (h1 : n ≤ 18446744073709551615) : IntKind.u64.wrap n = n := by
  have e : IntKind.bits .u64 = 64 := rfl
  have hs : IntKind.signed .u64 = false := rfl
  simp only [IntKind.wrap, e, hs, Bool.false_and, decide_eq_true_eq]
  simp; omega
theorem wrapU32 {n : Int} (h0 : 0 ≤ n) (h1 : n ≤ 4294967295) : IntKind.u32.wrap n = n := by
  have e : IntKind.bits .u32 = 32 := rfl
  have hs : IntKind.signed .u32 = false := rfl
  simp only [IntKind.wrap, e, hs, Bool.false_and, decide_eq_true_eq]
  simp; omega
def drawN (l : List Int) (i : Nat) : Nat := if l.length = 0 then 0 else pickI ((l.getD (i % l.length) 0).tdiv (1 + ((i / l.length : Nat) : Int))) 1000000
def kindN : Nat → Int
  | 0 => 112
  | 1 => 100
  | 2 => 103
  | 3 => 109
  | _ => 103
theorem drawN_lt (l : List Int) (i : Nat) : drawN l i < 1000000 := by
  unfold drawN; split
  · decide
  · exact pickI_lt _ (by decide)
def chClk (d : Nat → Nat) : Nat → Clk
  | 0 => ⟨111, [], 1 + (d 0 : Nat), 0, 0, 0⟩
  | i + 1 =>
    let k := 10 + 3 * i
    let kind := kindN (d k % 5)
    let x : Int := (d (k + 1) % (i + 1) : Nat)
    if kind = 112 then ⟨kind, [x], 0, 1 + (d (k + 2) % 8 : Nat), 1 + (d (k + 2) / 8 % 4 : Nat), (d (k + 2) / 32 % 4 : Nat)⟩
    else if kind = 100 then ⟨kind, [x], 0, 0, 1 + (d (k + 2) % 8 : Nat), 0⟩
    else if kind = 109 then ⟨kind, [x, (d (k + 2) % (i + 1) : Nat)], 0, 0, 0, 0⟩
    else ⟨kind, [x], 0, 0, 0, 0⟩
def chDom (d : Nat → Nat) (i : Nat) : Dom := ⟨if 0 < i ∧ 0 < d (44 + i) % 3 then (d (44 + i) / 3 % i : Nat) else -1, (d (40 + i) % 4 : Nat), decide (d (40 + i) / 4 % 2 = 1)⟩
def chRst (d : Nat → Nat) (i : Nat) : Int := (d (50 + i) % 4 : Nat)
def nClk (d : Nat → Nat) : Nat := d 1 % 9 + 1
def nDom (d : Nat → Nat) : Nat := d 2 % 4 + 1
def nRst (d : Nat → Nat) : Nat := d 3 % 3 + 1
def nDev (d : Nat → Nat) : Nat := d 4 % 4 + 1
def chReg (d : Nat → Nat) (k j : Nat) : Reg := ⟨(d (k + 5 + j) % 7 : Nat), decide (d (k + 5 + j) / 7 % 2 = 0)⟩
def chNeeds (d : Nat → Nat) (i k : Nat) : List Int :=
  (if 0 < i ∧ d (k + 9) % 2 = 1 then [((d (k + 10) % i : Nat) : Int)] else []) ++ (if 1 < i ∧ d (k + 11) % 3 = 1 then [((d (k + 11) / 3 % i : Nat) : Int)] else [])
def chDev (d : Nat → Nat) (i : Nat) : Dev :=
  let k := 60 + 12 * i
  ⟨(d k % nClk d : Nat), (d (k + 1) % nDom d : Nat), (d (k + 2) % nRst d : Nat), (d (k + 3) % 3 : Nat), (List.range (d (k + 4) % 5)).map (chReg d k), chNeeds d i k⟩
def chipD (d : Nat → Nat) : Soc := ⟨(List.range (nClk d)).map (chClk d), (List.range (nDom d)).map (chDom d), (List.range (nRst d)).map (chRst d), (List.range (nDev d)).map (chDev d)⟩
def chipS (l : List Int) : Soc := chipD (drawN l)
end Go.Proofs.YtdmfgodajoojpaaGreatDoor.Cn
