/- The abstract layer, part 15: what an operation hangs on, and what it leaves alone. -/
import Derived.Test.YtjamidgdhmjhaaaCnRegion
set_option linter.unusedSimpArgs false
set_option linter.unusedVariables false
namespace Go.Proofs.Ytjamidgdhmjhaaa.Cn
open Go Go.RowKit

section
variable {P : Program} {fr fr' : AFr} {st : ASt}

theorem ACalls.mono {f : Nat} {args : List AV} {Q Q' : AV → ASt → Prop} (h : ACalls P f args st Q) (hq : ∀ v st', Q v st' → Q' v st') : ACalls P f args st Q' :=
  fun B w0 R wr C w vs s h1 h2 => (h B w0 R wr C w vs s h1 h2).mono fun e w' ⟨C', v, st', rv, a, b, c, d, q⟩ => ⟨C', v, st', rv, a, b, c, d, hq _ _ q⟩

theorem aop_mono {op : IOp} {k k' : AV → ASt → Prop} (hk : ∀ v st', k v st' → k' v st') (h : aop P op fr st k) : aop P op fr st k' := by
  cases op <;> simp only [aop] at h ⊢
  case call => exact h.mono hk
  case callv =>
    split at h
    · exact ⟨h.1, h.2.mono hk⟩
    · exact h
  case append =>
    split at h
    · split at h
      · refine ⟨h.1, ?_⟩
        have h := h.2
        split at h
        · rename_i hm; rw [if_pos hm]; exact hk _ _ h
        · rename_i hm; rw [if_neg hm]
          split at h
          · exact fun id hid => hk _ _ (h id hid)
          · exact fun id hid => hk _ _ (h id hid)
          · split at h
            · exact ⟨h.1, fun id hid => hk _ _ (h.2 id hid)⟩
            · exact h
          · exact h
      · exact h
    · exact h
  case slice =>
    split at h
    · split at h
      · split at h
        · split at h
          · exact ⟨h.1, h.2.1, hk _ _ h.2.2⟩
          · exact h
        · exact h
      · exact h
    · exact h
  case pick => split at h <;> first | exact hk _ _ h | exact h.elim
  case minmax => split at h <;> first | exact ⟨h.1, hk _ _ h.2⟩ | exact h.elim
  case lookup =>
    split at h
    · split at h
      · exact hk _ _ h
      · split at h
        · split at h <;> exact hk _ _ h
        · exact h.elim
      · exact h.elim
    · exact h.elim
  case index1 =>
    split at h
    · refine ⟨h.1, ?_⟩
      have h := h.2
      split at h <;> first | exact hk _ _ h | exact h.elim
    · exact h.elim
  case strIdx =>
    split at h
    · refine ⟨h.1, ?_⟩
      have h := h.2
      split at h <;> first | exact hk _ _ h | exact h.elim
    · exact h.elim
  case entryStore =>
    split at h
    · split at h
      · refine ⟨h.1, ?_⟩
        have h := h.2
        split at h <;> first | exact hk _ _ h | exact h.elim
      · exact h.elim
    · exact h.elim
  all_goals
    repeat' split at h
    all_goals first
      | exact h.elim
      | exact hk _ _ h
      | exact fun id hid => hk _ _ (h id hid)
      | exact ⟨h.1, hk _ _ h.2⟩
      | exact ⟨h.1, fun id hid => hk _ _ (h.2 id hid)⟩
      | exact ⟨h.1, h.2.1, hk _ _ h.2.2⟩

theorem astep0_mono {o : IOper} {k k' : AFr → ASt → Prop} (hk : ∀ fr st, k fr st → k' fr st) (h : astep0 P o k fr st) : astep0 P o k' fr st := by
  unfold astep0 at h ⊢
  split at h
  · exact aop_mono (fun v st' x => hk _ _ x) h
  · split at h
    · split at h
      · rename_i hb; rw [if_pos hb]; exact aop_mono (fun v st' x => hk _ _ x) h
      · rename_i hb; rw [if_neg hb]; exact hk _ _ h
    · exact hk _ _ h
    · exact h

def IArg.slots : IArg → List Nat
  | .slot n => [n]
  | _ => []

def argsSlots : List IArg → List Nat
  | [] => []
  | x :: r => x.slots ++ argsSlots r

def optSlots : Option IArg → List Nat
  | none => []
  | some x => x.slots

def partSlots : List (Nat × Nat × IArg) → List Nat
  | [] => []
  | x :: r => x.2.2.slots ++ partSlots r

def IOp.slots : IOp → List Nat
  | .move x | .nilchk x | .un _ x | .conv _ x | .len x | .mlen x | .fldAddr _ x | .load1 x | .loadN _ x | .field1 _ x | .fieldN _ _ x | .box1 x | .boxN x | .extract x _ => x.slots
  | .pick c a b => c.slots ++ a.slots ++ b.slots
  | .bin _ x y | .eqB _ x y | .eqP _ _ x y | .eqS _ _ x y | .minmax _ x y | .idxAddr _ x y | .arrAddr _ _ x y | .store1 x y | .storeN _ x y | .index1 _ x y | .indexN _ _ x y | .strIdx x y | .makeSlice _ _ _ x y | .append _ _ x y | .lookup _ _ x y | .mapEntry _ x y => x.slots ++ y.slots
  | .alloc _ => []
  | .build _ ps | .buildSlice _ _ _ ps => partSlots ps
  | .slice _ x l h m => x.slots ++ optSlots l ++ optSlots h ++ optSlots m
  | .makeMap h => optSlots h
  | .mapSet x y z | .entryStore x y z => x.slots ++ y.slots ++ z.slots
  | .makeFunc _ c => argsSlots c
  | .call _ l => argsSlots l
  | .callv f l => f.slots ++ argsSlots l

/-- Two frames agree on some slots. -/
def Agree (l : List Nat) (fr fr' : AFr) : Prop := ∀ s ∈ l, fr.get s = fr'.get s

theorem Agree.val {x : IArg} (h : Agree x.slots fr fr') : fr.val x = fr'.val x := by
  cases x with
  | slot n => exact h n (by simp [IArg.slots])
  | _ => rfl

theorem Agree.left {l m : List Nat} (h : Agree (l ++ m) fr fr') : Agree l fr fr' := fun s hs => h s (by simp [hs])
theorem Agree.right {l m : List Nat} (h : Agree (l ++ m) fr fr') : Agree m fr fr' := fun s hs => h s (by simp [hs])

theorem Agree.vals : ∀ {l : List IArg}, Agree (argsSlots l) fr fr' → fr.vals l = fr'.vals l
  | [], _ => rfl
  | x :: r, h => by simp only [AFr.vals]; rw [h.left.val, Agree.vals h.right]

theorem Agree.parts : ∀ {l : List (Nat × Nat × IArg)}, Agree (partSlots l) fr fr' → (l.map fun p => (p.1, p.2.1, fr.val p.2.2)) = l.map fun p => (p.1, p.2.1, fr'.val p.2.2)
  | [], _ => rfl
  | x :: r, h => by simp only [List.map_cons]; rw [h.left.val, Agree.parts h.right]

theorem Agree.bound {x : Option IArg} (h : Agree (optSlots x) fr fr') (d : Nat) : bound fr d x = bound fr' d x := by
  cases x with
  | none => rfl
  | some x => simp only [Go.Proofs.Ytjamidgdhmjhaaa.Cn.bound]; rw [Agree.val h]

theorem aop_congr {op : IOp} {k : AV → ASt → Prop} (ha : Agree op.slots fr fr') (h : aop P op fr st k) : aop P op fr' st k := by
  cases op <;> simp only [aop, IOp.slots] at h ha ⊢
  case alloc => exact h
  case build => rw [← ha.parts]; exact h
  case buildSlice => rw [← ha.parts]; exact h
  case makeMap hint =>
    cases hint with
    | none => exact h
    | some x => simp only [Agree.val (x := x) ha] at h; exact h
  case makeFunc => rw [← ha.vals]; exact h
  case call => rw [← ha.vals]; exact h
  case callv => rw [← ha.left.val, ← ha.right.vals]; exact h
  case slice => simp only [← ha.left.left.left.val, ← ha.left.left.right.bound, ← ha.left.right.bound, ← ha.right.bound]; exact h
  case pick => rw [← ha.left.left.val, ← ha.left.right.val, ← ha.right.val]; exact h
  case mapSet => rw [← ha.left.left.val, ← ha.left.right.val, ← ha.right.val]; exact h
  case entryStore => rw [← ha.left.left.val, ← ha.left.right.val, ← ha.right.val]; exact h
  all_goals first
    | (rw [← ha.val]; exact h)
    | (rw [← ha.left.val, ← ha.right.val]; exact h)

end
end Go.Proofs.Ytjamidgdhmjhaaa.Cn
