/- The abstract layer, part 14: regions in the order of their text. -/
import Derived.Test.YtjamidgdhmjhaaaCnSound8
set_option linter.unusedSimpArgs false
set_option linter.unusedVariables false
namespace Go.Proofs.Ytjamidgdhmjhaaa.Cn
open Go Go.RowKit

def cGuard (ops : Array Oper) : Option (Nat × Bool) → Option (Option (Nat × Bool))
  | none => some none
  | some (j, want) => match ops[j]? with
    | some o => match o.dst with
      | some d => some (some (d, want))
      | none => none
    | none => none

def dstOk (n : Nat) : Option Nat → Bool
  | none => true
  | some d => decide (d < n)

def compOper (P : Program) (n : Nat) (ops : Array Oper) (o : Oper) : Option IOper :=
  match compOp P o.op, cGuard ops o.guard with
  | some io, some g => if dstOk n o.dst then some { dst := o.dst, op := io, guard := g, held := [], ahead := [] } else none
  | _, _ => none

def compIdx (P : Program) (n : Nat) (ops : Array Oper) : List Nat → Option (List IOper)
  | [] => some []
  | i :: r => match ops[i]? with
    | some o => match compOper P n ops o, compIdx P n ops r with
      | some x, some xs => some (x :: xs)
      | _, _ => none
    | none => none

section
variable {P : Program} {B : Nat} {w0 : World} {R : Nat → Prop} {wr : World} {C : ACx} {st : ASt} {w : World} {fr : AFr} {a : Act} {n : Nat}

/-- What the walk owes behind a region: a frame and a world that are like an abstract frame and heap of which 'k' holds. -/
def Owes (B : Nat) (w0 : World) (R : Nat → Prop) (wr : World) (C : ACx) (n : Nat) (ds : List Deferred) (k : AFr → ASt → Prop) (a : Act) (w : World) : Prop :=
  ∃ C' fr' st', C.le C' ∧ ASim B w0 R wr C' st' w ∧ FSim C' n fr' a ∧ a.defers = ds ∧ k fr' st'

theorem undef_vs {rv : Value} (h : VS C (.tup []) rv) : rv = undef := by
  cases h with
  | tup _ vs hl _ =>
    have : vs = #[] := Array.eq_empty_of_size_eq_zero (by simpa using hl)
    subst this; rfl

theorem vs_undef : VS C (.tup []) undef := .tup [] #[] rfl fun i hi => absurd hi (by simp)

/-- One operation of a region. -/
theorem step_sound {ops : Array Oper} {i : Nat} {o : Oper} {io : IOper} (hi : ops[i]? = some o) (hc : compOper P n ops o = some io) {k : AFr → ASt → Prop} (s : ASim B w0 R wr C st w) (f : FSim C n fr a)
    (h : astep0 P io k fr st) {Q : Exit → Act → World → Prop} {K : Act → World → Prop}
    (hK : ∀ C' fr' st' a' w', C.le C' → ASim B w0 R wr C' st' w' → FSim C' n fr' a' → a'.defers = a.defers → k fr' st' → K a' w') : wpOp P ops Q i K a w := by
  unfold compOper at hc
  split at hc
  · rename_i op g hop hg
    split at hc
    · rename_i hd
      cases hc
      have hd' : ∀ t, o.dst = some t → t < n := by
        intro t ht
        rw [ht] at hd
        simpa [dstOk] using hd
      have run : aop P op fr st (fun v st' => k (fr.set o.dst v) st') → o.wp P a w K Q := by
        intro h
        have hgood := op_good (P := P) (o := o) s f hop h
        unfold Oper.wp
        generalize (execOp a.eval o).run P w = r at hgood
        cases r with
        | ok x w' =>
          cases x with
          | value rv =>
            obtain ⟨C', v, st', hC, s', hv, hk⟩ := hgood
            exact hK C' _ st' _ w' hC s' ((f.mono hC).put o.dst hd' hv) (put_defers _ _ _) hk
          | skip =>
            obtain ⟨C', st', hC, s', hk⟩ := hgood
            exact hK C' _ st' _ w' hC s' ((f.mono hC).put o.dst hd' vs_undef) (put_defers _ _ _) hk
          | enter g args =>
            refine Calls.mono hgood ?_
            rintro e w'' ⟨C', v, st', rv, hC, s', rfl, hv, hk⟩
            exact hK C' _ st' _ w'' hC s' ((f.mono hC).put o.dst hd' hv) (put_defers _ _ _) hk
          | _ => exact hgood.elim
        | halt x w' => exact hgood.elim
      have skip : k (fr.set o.dst (.tup [])) st → K (a.put o.dst undef) w := fun h =>
        hK C _ st _ w (.refl C) s (f.put o.dst hd' vs_undef) (put_defers _ _ _) h
      unfold wpOp
      simp only [hi]
      unfold astep0 at h
      simp only at h
      cases hog : o.guard with
      | none =>
        rw [hog] at hg
        cases hg
        simp only [] at h
        have : Region.wanted o (yielded ops a.tmps) = true := by simp [Region.wanted, hog]
        rw [if_pos this]
        exact .inl (run h)
      | some jw =>
        obtain ⟨j, want⟩ := jw
        rw [hog] at hg
        simp only [cGuard] at hg
        split at hg
        · rename_i oj hj
          split at hg
          · rename_i d hdj
            cases hg
            simp only [] at h
            have hy : yielded ops a.tmps j = (match a.tmps[d]? with | some (.bool b) => some b | _ => none) := by
              simp only [yielded, hj, hdj, Option.bind_some]
              rcases a.tmps[d]? with _ | v
              · rfl
              · cases v <;> rfl
            have hget := f.get d
            split at h
            · rename_i b hb
              rw [hb] at hget
              have hbv := hget.bool_inv
              have hyb : yielded ops a.tmps j = some b := by
                rw [hy]
                have : a.tmps[d]? = some (.bool b) := by
                  rw [Array.getD_eq_getD_getElem?] at hbv
                  cases hx : a.tmps[d]? with
                  | none => rw [hx] at hbv; simp [undef] at hbv
                  | some x => rw [hx] at hbv; simp at hbv; rw [hbv]
                rw [this]
              by_cases hbw : b = want
              · rw [if_pos hbw] at h
                have : Region.wanted o (yielded ops a.tmps) = true := by simp [Region.wanted, hog, hyb, hbw]
                rw [if_pos this]
                exact .inl (run h)
              · rw [if_neg hbw] at h
                have : Region.wanted o (yielded ops a.tmps) = false := by simp [Region.wanted, hog, hyb, hbw]
                rw [this]
                simp only [Bool.false_eq_true, if_false]
                exact skip h
            · rename_i hb
              rw [hb] at hget
              have hyb : yielded ops a.tmps j = none := by
                rw [hy]
                have hu := undef_vs hget
                rw [Array.getD_eq_getD_getElem?] at hu
                cases hx : a.tmps[d]? with
                | none => rfl
                | some x => rw [hx] at hu; simp at hu; rw [hu]; rfl
              have : Region.wanted o (yielded ops a.tmps) = false := by simp [Region.wanted, hog, hyb]
              rw [this]
              simp only [Bool.false_eq_true, if_false]
              exact skip h
            · exact h.elim
          · cases hg
        · cases hg
    · cases hc
  · cases hc

/-- A region in a given order. -/
theorem ops_sound {ops : Array Oper} {ds : List Deferred} {k : AFr → ASt → Prop} {Q : Exit → Act → World → Prop} {C0 : ACx} (hQ : ∀ a w, Owes B w0 R wr C0 n ds k a w → Q .normal a w) :
    ∀ (l : List Nat) (il : List IOper) (C : ACx) (fr : AFr) (st : ASt) (a : Act) (w : World), compIdx P n ops l = some il → C0.le C → ASim B w0 R wr C st w → FSim C n fr a → a.defers = ds → aops P il k fr st → wpOps P ops Q l a w
  | [], il, C, fr, st, a, w, hc, hC, s, f, hd, h => by
    cases hc
    exact hQ a w ⟨C, fr, st, hC, s, f, hd, h⟩
  | i :: l, il, C, fr, st, a, w, hc, hC, s, f, hd, h => by
    simp only [compIdx] at hc
    split at hc
    · rename_i o ho
      split at hc
      · rename_i x xs hx hxs
        cases hc
        rw [wpOps_cons]
        refine step_sound ho hx s f h.2 fun C' fr' st' a' w' hC' s' f' hd' hk => ?_
        exact ops_sound hQ l xs C' fr' st' a' w' hxs (hC.trans hC') s' f' (hd'.trans hd) hk.2
      · cases hc
    · cases hc

end
end Go.Proofs.Ytjamidgdhmjhaaa.Cn
