/- Count: a copy, and two counts side by side. -/
import Derived.Test.YtoblpialfhfdgaaCnCount4
import Derived.Test.YtoblpialfhfdgaaCnClone
set_option linter.unusedSimpArgs false
set_option linter.unusedVariables false
set_option linter.unusedSectionVars false
namespace Go.Proofs.Ytoblpialfhfdgaa.Cn
open Go Go.Proofs

theorem copy_spec {st : ASt} {p m : Nat} {N : Gr} {f : Int → Int} {sl : Bool} (h : CAt st p m N f sl) :
    ACalls Try.prog F.q74 [.ptr p 0] st fun r s => ∃ p2 m2, r = .ptr p2 0 ∧ CAt s p2 m2 N f sl ∧ st.h p2 = none ∧ st.h m2 = none ∧ st.le s := by
  refine calls_of_awp L.q74 rfl ?_
  have hp := h.hp
  obtain ⟨es, hm, hf⟩ := h.hm
  rw [gval] at hp
  simp only [↓Bp, Bq, Bs, ↓aop.eq_28, ↓aop.eq_30, Nat.reduceEqDiff, Nat.reduceAdd, Nat.reduceMul, Nat.reduceSub, Nat.reduceLeDiff, Nat.reduceLT, Int.reduceLT, Int.reduceLE, Int.reduceEq, Int.reduceToNat, Int.reduceAdd, Int.reduceSub, Int.reduceNeg, ↓reduceIte, reduceCtorEq, ↓C.q74_W, C.q74_B, C.q74, hp]
  refine (clone_spec hm).mono ?_
  rintro r s ⟨m2, hm2, rfl, rfl⟩
  have hp2 := ASt.new_old (id := m2) (o := .map es) hp
  have hself := ASt.new_self (.map es) hm2
  have hle := ASt.le.new st m2 (.map es)
  generalize st.new m2 (.map es) = s1 at hp2 hself hle
  simp only [↓Bp, Bq, Bs, ↓aop.eq_28, ↓aop.eq_30, Nat.reduceEqDiff, Nat.reduceAdd, Nat.reduceMul, Nat.reduceSub, Nat.reduceLeDiff, Nat.reduceLT, Int.reduceLT, Int.reduceLE, Int.reduceEq, Int.reduceToNat, Int.reduceAdd, Int.reduceSub, Int.reduceNeg, ↓reduceIte, reduceCtorEq, ↓C.q74_W, C.q74_B, C.q74, hp2]
  rintro p2 hpn
  exact ⟨p2, m2, rfl, ⟨ASt.new_self _ hpn, es, ASt.new_old hself, hf⟩, fresh_of_le hle hpn, hm2, hle.trans (ASt.le.new _ _ _)⟩
/-- Two pairs of blocks lie apart. -/
structure Apart (p m p2 m2 : Nat) : Prop where
  a : p2 ≠ p
  b : p2 ≠ m
  c : m2 ≠ p
  d : m2 ≠ m
theorem Apart.symm {p m p2 m2 : Nat} (h : Apart p m p2 m2) : Apart p2 m2 p m := ⟨Ne.symm h.a, Ne.symm h.c, Ne.symm h.b, Ne.symm h.d⟩
/-- What is done with one leaves the other. -/
theorem CW.other {st s t : ASt} {ib p m p2 m2 : Nat} {S : Soc} {f f' : Int → Int} {sl sl' : Bool} (h : CW st s ib p m S f sl) (hA : Apart p m p2 m2) (h2 : CW st t ib p2 m2 S f' sl') (hM : Moved p2 m2 s t) : CW st t ib p m S f sl :=
  ⟨h2.le, h2.hb, ⟨by rw [hM _ (Ne.symm hA.a) (Ne.symm hA.c)]; exact h.c.hp, let ⟨es, e1, e2⟩ := h.c.hm; ⟨es, by rw [hM _ (Ne.symm hA.b) (Ne.symm hA.d)]; exact e1, e2⟩⟩, h.fp, h.fm, h.np, h.nm, h.lim⟩
theorem CW.copy {st s : ASt} {ib p m : Nat} {S : Soc} {f : Int → Int} {sl : Bool} (h : CW st s ib p m S f sl) :
    ACalls Try.prog F.q74 [.ptr p 0] s fun r t => ∃ p2 m2, r = .ptr p2 0 ∧ CW st t ib p m S f sl ∧ CW st t ib p2 m2 S f sl ∧ s.h p2 = none ∧ s.h m2 = none ∧ s.le t :=
  (copy_spec h.c).mono fun r t ⟨p2, m2, h1, h2, h3, h4, h5⟩ =>
    ⟨p2, m2, h1, h.step h5, ⟨h.le.trans h5, h5 _ _ h.hb, h2, fresh_of_le h.le h3, fresh_of_le h.le h4, (by rintro rfl; rw [h.hb] at h3; cases h3), (by rintro rfl; rw [h.hb] at h4; cases h4), h.lim⟩, h3, h4, h5⟩
theorem CW.apart {st s : ASt} {ib p m p2 m2 : Nat} {S : Soc} {f : Int → Int} {sl : Bool} (h : CW st s ib p m S f sl) (h3 : s.h p2 = none) (h4 : s.h m2 = none) : Apart p m p2 m2 := by
  obtain ⟨es, e, _⟩ := h.c.hm
  have e2 := h.c.hp
  exact ⟨(by rintro rfl; rw [e2] at h3; cases h3), (by rintro rfl; rw [e] at h3; cases h3), (by rintro rfl; rw [e2] at h4; cases h4), (by rintro rfl; rw [e] at h4; cases h4)⟩
theorem getF_at {N : Gr} {f : Int → Int} {sl : Bool} {x y : Int} (h : y ≠ x) : getF N f sl x y = f y := by
  unfold getF addF; split
  · show (if y = x then f x + 1 else f y) = f y
    rw [if_neg h]
  · rfl
theorem putF_at {N : Gr} {f : Int → Int} {sl : Bool} {x y : Int} (h : y ≠ x) : putF N f sl x y = f y := by
  unfold putF addF; split
  · show (if y = x then f x + -1 else f y) = f y
    rw [if_neg h]
  · rfl
theorem getE_congr {N : Gr} {f g : Int → Int} {sl : Bool} {x : Int} (h : f x = g x) : getE N f sl x = getE N g sl x := by unfold getE; rw [h]
theorem putE_congr {N : Gr} {f g : Int → Int} {sl : Bool} {x : Int} (h : f x = g x) : putE N f sl x = putE N g sl x := by unfold putE; rw [h]
theorem get_put {N : Gr} {f : Int → Int} {sl : Bool} {x y : Int} (h : x ≠ y) : putF N (getF N f sl x) sl y = getF N (putF N f sl y) sl x := by
  have e1 : putE N (getF N f sl x) sl y = putE N f sl y := putE_congr (getF_at (Ne.symm h))
  have e2 : getE N (putF N f sl y) sl x = getE N f sl x := getE_congr (putF_at h)
  have p1 : putF N (getF N f sl x) sl y = if putE N f sl y = 0 then addF (getF N f sl x) y (-1) else getF N f sl x := by rw [putF, e1]
  have p2 : getF N (putF N f sl y) sl x = if getE N f sl x = 0 then addF (putF N f sl y) x 1 else putF N f sl y := by rw [getF, e2]
  rw [p1, p2]
  by_cases a : putE N f sl y = 0 <;> by_cases b : getE N f sl x = 0
  · rw [if_pos a, if_pos b, getF, if_pos b, putF, if_pos a]
    funext j
    show (if j = y then (if y = x then f x + 1 else f y) + -1 else (if j = x then f x + 1 else f j)) = (if j = x then (if x = y then f y + -1 else f x) + 1 else (if j = y then f y + -1 else f j))
    rw [if_neg (Ne.symm h), if_neg h]
    by_cases j1 : j = y
    · rw [if_pos j1, if_pos j1, if_neg (by rw [j1]; exact Ne.symm h)]
    · rw [if_neg j1, if_neg j1]
  · rw [if_pos a, if_neg b, getF, if_neg b, putF, if_pos a]
  · rw [if_neg a, if_pos b, getF, if_pos b, putF, if_neg a]
  · rw [if_neg a, if_neg b, getF, if_neg b, putF, if_neg a]
end Go.Proofs.Ytoblpialfhfdgaa.Cn
