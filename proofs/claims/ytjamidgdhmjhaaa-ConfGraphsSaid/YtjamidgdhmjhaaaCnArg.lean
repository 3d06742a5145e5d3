/- The abstract layer, part 5: frames and operands. -/
import Derived.Test.YtjamidgdhmjhaaaCnSim
namespace Go.Proofs.Ytjamidgdhmjhaaa.Cn
open Go Go.RowKit

/-- A frame's slots are like an abstract frame's. -/
structure FSim (C : ACx) (n : Nat) (fr : AFr) (a : Act) : Prop where
  size : a.tmps.size = n
  get : ∀ i, VS C (fr.get i) (a.tmps.getD i undef)

theorem FSim.mono {C C' : ACx} {n : Nat} {fr : AFr} {a : Act} (h : C.le C') (x : FSim C n fr a) : FSim C' n fr a :=
  ⟨x.size, fun i => (x.get i).mono h⟩

theorem AFr.get_cons (j : Nat) (v : AV) (r : AFr) (i : Nat) : AFr.get ((j, v) :: r) i = if j = i then v else AFr.get r i := rfl
theorem AFr.get_nil (i : Nat) : AFr.get [] i = .any := rfl

theorem put_tmps (a : Act) (d : Nat) (v : Value) : (a.put (some d) v).tmps = a.tmps.setIfInBounds d v := rfl

theorem getD_set (xs : Array Value) (d i : Nat) (v : Value) (h : d < xs.size) : (xs.setIfInBounds d v).getD i undef = if d = i then v else xs.getD i undef := by
  by_cases e : d = i
  · subst e; simp [Array.getD_eq_getD_getElem?, h]
  · simp [Array.getD_eq_getD_getElem?, Array.getElem?_setIfInBounds_ne e, e]

theorem FSim.put {C : ACx} {n : Nat} {fr : AFr} {a : Act} (x : FSim C n fr a) (d : Option Nat) (hd : ∀ t, d = some t → t < n) {av : AV} {v : Value} (h : VS C av v) :
    FSim C n (fr.set d av) (a.put d v) := by
  cases d with
  | none => exact ⟨x.size, x.get⟩
  | some t =>
    have ht := hd t rfl
    refine ⟨by rw [put_tmps]; simpa using x.size, fun i => ?_⟩
    rw [put_tmps, getD_set _ _ _ _ (by rw [x.size]; exact ht)]
    show VS C (AFr.get ((t, av) :: fr) i) _
    rw [AFr.get_cons]
    split
    · exact h
    · exact x.get i

theorem AFr.get_keep (fr : AFr) (ks : List Nat) (i : Nat) : (fr.keep ks).get i = fr.get i ∨ (fr.keep ks).get i = .any := by
  induction ks with
  | nil => exact .inr rfl
  | cons k ks ih =>
    show AFr.get ((k, fr.get k) :: fr.keep ks) i = _ ∨ AFr.get ((k, fr.get k) :: fr.keep ks) i = _
    rw [AFr.get_cons]
    split
    · rename_i e; subst e; exact .inl rfl
    · exact ih

theorem FSim.keep {C : ACx} {n : Nat} {fr : AFr} {a : Act} (x : FSim C n fr a) (ks : List Nat) : FSim C n (fr.keep ks) a :=
  ⟨x.size, fun i => by rcases fr.get_keep ks i with h | h <;> rw [h]; exact x.get i; exact .any _⟩

theorem put_defers (a : Act) (d : Option Nat) (v : Value) : (a.put d v).defers = a.defers := by cases d <;> rfl

theorem cvLeaf_vs (C : ACx) {v : Value} {a : AV} (h : cvLeaf v = some a) : VS C a v := by
  unfold cvLeaf at h
  split at h <;> cases h
  · exact .bool _
  · exact .int _ _
  · exact .nilp
  · exact .nils
  · exact .nilm
  · exact .nilf
  · exact .str _ _ rfl

theorem cvLeaf_leaf {v : Value} {a : AV} (h : cvLeaf v = some a) : a.leaf = true := by
  unfold cvLeaf at h
  split at h <;> cases h <;> rfl

theorem cvs_vs (C : ACx) : ∀ {l : List Value} {as : List AV}, cvs l = some as → l.length = as.length ∧ allLeaf as = true ∧ ∀ i (h : i < as.length), VS C as[i] (l.getD i undef)
  | [], as, h => by cases h; exact ⟨rfl, rfl, fun i hi => absurd hi (by simp)⟩
  | v :: r, as, h => by
    simp only [cvs] at h
    cases h1 : cvLeaf v with
    | none => simp [h1] at h
    | some a =>
      cases h2 : cvs r with
      | none => simp [h1, h2] at h
      | some b =>
        simp [h1, h2] at h
        subst h
        obtain ⟨i1, i2, i3⟩ := cvs_vs C h2
        refine ⟨by simp [i1], by simpa [allLeaf, cvLeaf_leaf h1] using i2, fun i hi => ?_⟩
        cases i with
        | zero => simpa using cvLeaf_vs C h1
        | succ i => simpa using i3 i (by simpa using hi)

theorem cv_vs (C : ACx) {v : Value} {a : AV} (h : cv v = some a) : VS C a v := by
  cases v with
  | agg cs =>
    simp only [cv] at h
    cases h1 : cvs cs.toList with
    | none => simp [h1] at h
    | some as =>
      simp [h1] at h
      subst h
      obtain ⟨i1, _, i3⟩ := cvs_vs C h1
      refine .agg as cs (by simpa using i1) fun i hi => ?_
      have := i3 i hi
      simpa [List.getD_eq_getElem?_getD, Array.getD_eq_getD_getElem?] using this
  | _ => exact cvLeaf_vs C h

theorem arg_vs {C : ACx} {n : Nat} {fr : AFr} {a : Act} (x : FSim C n fr a) {o : Operand} {ia : IArg} (h : cArg o = some ia) : VS C (fr.val ia) (a.eval o) := by
  cases o with
  | tmp t => cases h; exact x.get t
  | const v =>
    simp only [cArg] at h
    cases h1 : cv v with
    | none => simp [h1] at h
    | some av => simp [h1] at h; subst h; exact cv_vs C h1
  | global g => cases h
  | func f => cases h; exact .fn f [] #[] rfl fun i hi => absurd hi (by simp)

theorem AFr.vals_map (fr : AFr) (l : List IArg) : fr.vals l = l.map fr.val := by
  induction l with
  | nil => rfl
  | cons x l ih => simp [AFr.vals, ih]

theorem args_vs {C : ACx} {n : Nat} {fr : AFr} {a : Act} (x : FSim C n fr a) : ∀ {l : List Operand} {il : List IArg}, cArgs l = some il →
    l.length = (fr.vals il).length ∧ ∀ i (h : i < (fr.vals il).length), VS C (fr.vals il)[i] ((l.map a.eval).getD i undef)
  | [], il, h => by cases h; exact ⟨rfl, fun i hi => absurd hi (by simp [AFr.vals])⟩
  | o :: r, il, h => by
    simp only [cArgs] at h
    cases h1 : cArg o with
    | none => simp [h1] at h
    | some b =>
      cases h2 : cArgs r with
      | none => simp [h1, h2] at h
      | some c =>
        simp [h1, h2] at h
        subst h
        obtain ⟨i1, i2⟩ := args_vs x h2
        refine ⟨by simp [AFr.vals, i1], fun i hi => ?_⟩
        cases i with
        | zero => simpa [AFr.vals] using arg_vs x h1
        | succ i => simpa [AFr.vals] using i2 i (by simpa [AFr.vals] using hi)

end Go.Proofs.Ytjamidgdhmjhaaa.Cn
