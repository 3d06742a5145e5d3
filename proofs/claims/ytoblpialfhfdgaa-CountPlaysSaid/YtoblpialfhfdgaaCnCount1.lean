/- Count: how often devices were got: what each function does. -/
import Derived.Test.YtoblpialfhfdgaaCnConf8
import Derived.Test.YtoblpialfhfdgaaCnGraph5b
import Derived.Test.YtoblpialfhfdgaaCnChipOk
set_option linter.unusedSimpArgs false
set_option linter.unusedVariables false
set_option linter.unusedSectionVars false
namespace Go.Proofs.Ytoblpialfhfdgaa.Cn
open Go Go.Proofs

theorem ASt.set_id {st : ASt} {id : Nat} {o : AObj} (h : st.h id = some o) : st.set id o = st := ASt.ext' fun i => by
  rw [ASt.set_h]; split
  · rename_i e; subst e; rw [h]; rfl
  · rfl
theorem mput_cons (e : Int × AV) (es : List (Int × AV)) (k : Int) (v : AV) : mput (e :: es) k v = if e.1 = k then (k, v) :: es else e :: mput es k v := by
  unfold mput spot
  by_cases h : e.1 = k
  · simp [List.findIdx?_cons, h]
  · have h2 : (e.1 == k) = false := by simp [h]
    simp only [List.findIdx?_cons, h2, if_neg h]
    cases es.findIdx? (fun e => e.1 == k) <;> simp
theorem look_cons (e : Int × AV) (es : List (Int × AV)) (j : Int) : look (e :: es) j = if e.1 = j then some e.2 else look es j := by
  unfold look
  by_cases h : e.1 = j
  · simp [List.find?_cons, h]
  · have h2 : (e.1 == j) = false := by simp [h]
    simp [List.find?_cons, h2, h]
theorem look_mput (k : Int) (v : AV) (j : Int) : ∀ es : List (Int × AV), look (mput es k v) j = if j = k then some v else look es j
  | [] => by
    show look [(k, v)] j = _
    rw [look_cons]
    by_cases h : k = j
    · rw [if_pos h, if_pos h.symm]
    · rw [if_neg h, if_neg (Ne.symm h)]
  | e :: es => by
    rw [mput_cons]
    by_cases h : e.1 = k
    · rw [if_pos h, look_cons, look_cons]
      by_cases hj : j = k
      · subst hj; rw [if_pos rfl, if_pos rfl]
      · rw [if_neg (Ne.symm hj), if_neg hj, if_neg (by rw [h]; exact Ne.symm hj)]
    · rw [if_neg h, look_cons, look_cons, look_mput k v j es]
      by_cases hj : e.1 = j
      · rw [if_pos hj, if_pos hj, if_neg (by rw [← hj]; exact h)]
      · rw [if_neg hj, if_neg hj]
/-- A map holds just what a function tells, or nothing where that is 0. -/
def MapIs (es : List (Int × AV)) (f : Int → Int) : Prop := ∀ i, (look es i = none ∧ f i = 0) ∨ look es i = some (.int .i64 (f i))
theorem MapIs.nil : MapIs [] fun _ => 0 := fun i => .inl ⟨rfl, rfl⟩
theorem MapIs.put {es : List (Int × AV)} {f : Int → Int} (h : MapIs es f) (k n : Int) : MapIs (mput es k (.int .i64 n)) fun j => if j = k then n else f j := fun i => by
  rw [look_mput]
  by_cases e : i = k
  · rw [if_pos e]; exact .inr (by simp only [if_pos e])
  · rw [if_neg e]; simp only [if_neg e]; exact h i
/-- Counts, and where they lie. -/
structure CAt (st : ASt) (p m : Nat) (N : Gr) (f : Int → Int) (sl : Bool) : Prop where
  hp : st.h p = some (.cells [gval N, .map m, .bool sl])
  hm : ∃ es, st.h m = some (.map es) ∧ MapIs es f
theorem CAt.ne {st : ASt} {p m : Nat} {N : Gr} {f : Int → Int} {sl : Bool} (h : CAt st p m N f sl) : p ≠ m := by
  rintro rfl
  obtain ⟨es, h2, _⟩ := h.hm
  have := h.hp
  rw [h2] at this; cases this
theorem CAt.le {st t : ASt} {p m : Nat} {N : Gr} {f : Int → Int} {sl : Bool} (h : CAt st p m N f sl) (hl : st.le t) : CAt t p m N f sl :=
  ⟨hl _ _ h.hp, let ⟨es, h1, h2⟩ := h.hm; ⟨es, hl _ _ h1, h2⟩⟩
theorem CAt.mapTo {st : ASt} {p m : Nat} {N : Gr} {f g : Int → Int} {sl : Bool} (h : CAt st p m N f sl) {es : List (Int × AV)} (he : MapIs es g) : CAt (st.set m (.map es)) p m N g sl :=
  ⟨by rw [ASt.set_h, if_neg h.ne]; exact h.hp, es, by obtain ⟨es0, h1, _⟩ := h.hm; rw [ASt.set_h, if_pos rfl, h1]; rfl, he⟩
theorem CAt.sleep {st : ASt} {p m : Nat} {N : Gr} {f : Int → Int} {sl : Bool} (h : CAt st p m N f sl) (b : Bool) : CAt (st.set p (.cells [gval N, .map m, .bool b])) p m N f b :=
  ⟨by rw [ASt.set_h, if_pos rfl, h.hp]; rfl, let ⟨es, h1, h2⟩ := h.hm; ⟨es, by rw [ASt.set_h, if_neg (Ne.symm h.ne)]; exact h1, h2⟩⟩
/-- Nothing but those two blocks is touched. -/
def Moved (p m : Nat) (s t : ASt) : Prop := ∀ j, j ≠ p → j ≠ m → t.h j = s.h j
theorem Moved.refl (p m : Nat) (s : ASt) : Moved p m s s := fun _ _ _ => rfl
theorem Moved.trans {p m : Nat} {s t u : ASt} (h : Moved p m s t) (k : Moved p m t u) : Moved p m s u := fun j h1 h2 => (k j h1 h2).trans (h j h1 h2)
theorem Moved.setM (p m : Nat) (s : ASt) (o : AObj) : Moved p m s (s.set m o) := fun j _ h2 => by rw [ASt.set_h, if_neg h2]
theorem Moved.setP (p m : Nat) (s : ASt) (o : AObj) : Moved p m s (s.set p o) := fun j h1 _ => by rw [ASt.set_h, if_neg h1]
/-- Is there a device of that number? -/
def isDv (N : Gr) (i : Int) : Prop := 0 ≤ i ∧ i < (N.length : Int)
instance (N : Gr) (i : Int) : Decidable (isDv N i) := inferInstanceAs (Decidable (_ ∧ _))
def getE (N : Gr) (f : Int → Int) (sl : Bool) (i : Int) : Int := if sl = true then 6 else if ¬ isDv N i then 4 else if 7 ≤ f i then 8 else 0
def putE (N : Gr) (f : Int → Int) (sl : Bool) (i : Int) : Int := if sl = true then 6 else if ¬ isDv N i then 4 else if f i ≤ 0 then 6 else 0
def addF (f : Int → Int) (i d : Int) : Int → Int := fun j => if j = i then f i + d else f j
def getF (N : Gr) (f : Int → Int) (sl : Bool) (i : Int) : Int → Int := if getE N f sl i = 0 then addF f i 1 else f
def putF (N : Gr) (f : Int → Int) (sl : Bool) (i : Int) : Int → Int := if putE N f sl i = 0 then addF f i (-1) else f
section
variable {st : ASt} {p m : Nat} {N : Gr} {f : Int → Int} {sl : Bool} (h : CAt st p m N f sl)
include h
theorem known_spec (i : Int) : ACalls Try.prog F.q80 [.ptr p 0, .int .i64 i] st fun r s => r = .bool (decide (isDv N i)) ∧ s = st := by
  refine calls_of_awp L.q80 rfl ?_
  have hp := h.hp
  rw [gval] at hp
  by_cases h0 : 0 ≤ i
  · have T0 := eq_true h0
    simp only [↓Bp, Bq, Bs, ↓aop.eq_28, ↓aop.eq_30, Nat.reduceEqDiff, Nat.reduceAdd, Nat.reduceMul, Nat.reduceSub, Nat.reduceLeDiff, Nat.reduceLT, Int.reduceLT, Int.reduceLE, Int.reduceEq, Int.reduceToNat, Int.reduceAdd, Int.reduceSub, Int.reduceNeg, ↓reduceIte, reduceCtorEq, ↓C.q80_W, C.q80_B, C.q80, ge_iff_le, T0, hp]
    simp [isDv, h0]
  · have T0 := eq_false h0
    simp only [↓Bp, Bq, Bs, ↓aop.eq_28, ↓aop.eq_30, Nat.reduceEqDiff, Nat.reduceAdd, Nat.reduceMul, Nat.reduceSub, Nat.reduceLeDiff, Nat.reduceLT, Int.reduceLT, Int.reduceLE, Int.reduceEq, Int.reduceToNat, Int.reduceAdd, Int.reduceSub, Int.reduceNeg, ↓reduceIte, reduceCtorEq, ↓C.q80_W, C.q80_B, C.q80, ge_iff_le, T0, hp]
    simp [isDv, h0]
theorem cnt_spec (i : Int) : ACalls Try.prog F.q75 [.ptr p 0, .int .i64 i] st fun r s => r = .int .i64 (f i) ∧ s = st := by
  refine calls_of_awp L.q75 rfl ?_
  have hp := h.hp
  obtain ⟨es, hm, hf⟩ := h.hm
  rcases hf i with ⟨h1, h2⟩ | h1
  · simp only [↓Bp, Bq, Bs, ↓aop.eq_28, ↓aop.eq_30, Nat.reduceEqDiff, Nat.reduceAdd, Nat.reduceMul, Nat.reduceSub, Nat.reduceLeDiff, Nat.reduceLT, Int.reduceLT, Int.reduceLE, Int.reduceEq, Int.reduceToNat, Int.reduceAdd, Int.reduceSub, Int.reduceNeg, ↓reduceIte, reduceCtorEq, ↓C.q75_W, C.q75_B, C.q75, hp, hm, h1]
    rw [h2]
  · simp only [↓Bp, Bq, Bs, ↓aop.eq_28, ↓aop.eq_30, Nat.reduceEqDiff, Nat.reduceAdd, Nat.reduceMul, Nat.reduceSub, Nat.reduceLeDiff, Nat.reduceLT, Int.reduceLT, Int.reduceLE, Int.reduceEq, Int.reduceToNat, Int.reduceAdd, Int.reduceSub, Int.reduceNeg, ↓reduceIte, reduceCtorEq, ↓C.q75_W, C.q75_B, C.q75, hp, hm, h1]
theorem asleep_spec : ACalls Try.prog F.q73 [.ptr p 0] st fun r s => r = .bool sl ∧ s = st := by
  refine calls_of_awp L.q73 rfl ?_
  have hp := h.hp
  simp only [↓Bp, Bq, Bs, ↓aop.eq_28, ↓aop.eq_30, Nat.reduceEqDiff, Nat.reduceAdd, Nat.reduceMul, Nat.reduceSub, Nat.reduceLeDiff, Nat.reduceLT, Int.reduceLT, Int.reduceLE, Int.reduceEq, Int.reduceToNat, Int.reduceAdd, Int.reduceSub, Int.reduceNeg, ↓reduceIte, reduceCtorEq, ↓C.q73_W, C.q73_B, C.q73, hp]
theorem suspend_spec : ACalls Try.prog F.q79 [.ptr p 0] st fun r s => r = .int .i64 (if sl = true then 6 else 0) ∧ CAt s p m N f true ∧ Moved p m st s := by
  refine calls_of_awp L.q79 rfl ?_
  have hp := h.hp
  have hz := h.sleep true
  cases sl
  · simp only [↓Bp, Bq, Bs, ↓aop.eq_28, ↓aop.eq_30, Nat.reduceEqDiff, Nat.reduceAdd, Nat.reduceMul, Nat.reduceSub, Nat.reduceLeDiff, Nat.reduceLT, Int.reduceLT, Int.reduceLE, Int.reduceEq, Int.reduceToNat, Int.reduceAdd, Int.reduceSub, Int.reduceNeg, ↓reduceIte, reduceCtorEq, ↓C.q79_W, C.q79_B, C.q79, hp]
    exact ⟨hz, Moved.setP _ _ _ _⟩
  · simp only [↓Bp, Bq, Bs, ↓aop.eq_28, ↓aop.eq_30, Nat.reduceEqDiff, Nat.reduceAdd, Nat.reduceMul, Nat.reduceSub, Nat.reduceLeDiff, Nat.reduceLT, Int.reduceLT, Int.reduceLE, Int.reduceEq, Int.reduceToNat, Int.reduceAdd, Int.reduceSub, Int.reduceNeg, ↓reduceIte, reduceCtorEq, ↓C.q79_W, C.q79_B, C.q79, hp]
    exact ⟨h, Moved.refl _ _ _⟩
theorem resume_spec : ACalls Try.prog F.q78 [.ptr p 0] st fun r s => r = .int .i64 (if sl = true then 0 else 6) ∧ CAt s p m N f false ∧ Moved p m st s := by
  refine calls_of_awp L.q78 rfl ?_
  have hp := h.hp
  have hz := h.sleep false
  cases sl
  · simp only [↓Bp, Bq, Bs, ↓aop.eq_28, ↓aop.eq_30, Nat.reduceEqDiff, Nat.reduceAdd, Nat.reduceMul, Nat.reduceSub, Nat.reduceLeDiff, Nat.reduceLT, Int.reduceLT, Int.reduceLE, Int.reduceEq, Int.reduceToNat, Int.reduceAdd, Int.reduceSub, Int.reduceNeg, ↓reduceIte, reduceCtorEq, ↓C.q78_W, C.q78_B, C.q78, hp]
    exact ⟨h, Moved.refl _ _ _⟩
  · simp only [↓Bp, Bq, Bs, ↓aop.eq_28, ↓aop.eq_30, Nat.reduceEqDiff, Nat.reduceAdd, Nat.reduceMul, Nat.reduceSub, Nat.reduceLeDiff, Nat.reduceLT, Int.reduceLT, Int.reduceLE, Int.reduceEq, Int.reduceToNat, Int.reduceAdd, Int.reduceSub, Int.reduceNeg, ↓reduceIte, reduceCtorEq, ↓C.q78_W, C.q78_B, C.q78, hp]
    exact ⟨hz, Moved.setP _ _ _ _⟩
theorem get_spec {i : Int} (hf : 0 ≤ f i ∧ f i ≤ 7) : ACalls Try.prog F.q76 [.ptr p 0, .int .i64 i] st fun r s => r = .int .i64 (getE N f sl i) ∧ CAt s p m N (getF N f sl i) sl ∧ Moved p m st s := by
  refine calls_of_awp L.q76 rfl ?_
  have hp := h.hp
  obtain ⟨es, hm, hfs⟩ := h.hm
  cases sl
  rotate_left
  · have e : getE N f true i = 6 := by rw [getE, if_pos rfl]
    simp only [↓Bp, Bq, Bs, ↓aop.eq_28, ↓aop.eq_30, Nat.reduceEqDiff, Nat.reduceAdd, Nat.reduceMul, Nat.reduceSub, Nat.reduceLeDiff, Nat.reduceLT, Int.reduceLT, Int.reduceLE, Int.reduceEq, Int.reduceToNat, Int.reduceAdd, Int.reduceSub, Int.reduceNeg, ↓reduceIte, reduceCtorEq, ↓C.q76_W, C.q76_B, C.q76, hp]
    rw [getF, e, if_neg (by decide)]
    first | exact ⟨rfl, h, Moved.refl _ _ _⟩ | exact ⟨h, Moved.refl _ _ _⟩
  simp only [↓Bp, Bq, Bs, ↓aop.eq_28, ↓aop.eq_30, Nat.reduceEqDiff, Nat.reduceAdd, Nat.reduceMul, Nat.reduceSub, Nat.reduceLeDiff, Nat.reduceLT, Int.reduceLT, Int.reduceLE, Int.reduceEq, Int.reduceToNat, Int.reduceAdd, Int.reduceSub, Int.reduceNeg, ↓reduceIte, reduceCtorEq, ↓C.q76_W, C.q76_B, C.q76, hp]
  refine (known_spec h i).mono ?_
  rintro r s ⟨rfl, rfl⟩
  by_cases hi : isDv N i
  rotate_left
  · have e : getE N f false i = 4 := by rw [getE, if_neg (by decide), if_pos hi]
    rw [decide_eq_false hi, getF, e, if_neg (by decide)]
    simp only [↓Bp, Bq, Bs, ↓aop.eq_28, ↓aop.eq_30, Nat.reduceEqDiff, Nat.reduceAdd, Nat.reduceMul, Nat.reduceSub, Nat.reduceLeDiff, Nat.reduceLT, Int.reduceLT, Int.reduceLE, Int.reduceEq, Int.reduceToNat, Int.reduceAdd, Int.reduceSub, Int.reduceNeg, ↓reduceIte, reduceCtorEq, ↓C.q76_W, C.q76_B, C.q76]
    first | exact ⟨rfl, h, Moved.refl _ _ _⟩ | exact ⟨h, Moved.refl _ _ _⟩
  rw [decide_eq_true hi]
  have hput := hfs.put i (f i + 1)
  have w : IntKind.i64.wrap (f i + 1) = f i + 1 := by rw [wrap64] <;> omega
  by_cases h7 : 7 ≤ f i
  · have e : getE N f false i = 8 := by rw [getE, if_neg (by decide), if_neg (by simp [hi]), if_pos h7]
    have T := eq_true h7
    rw [getF, e, if_neg (by decide)]
    rcases hfs i with ⟨h1, h2⟩ | h1
    · omega
    · simp only [↓Bp, Bq, Bs, ↓aop.eq_28, ↓aop.eq_30, Nat.reduceEqDiff, Nat.reduceAdd, Nat.reduceMul, Nat.reduceSub, Nat.reduceLeDiff, Nat.reduceLT, Int.reduceLT, Int.reduceLE, Int.reduceEq, Int.reduceToNat, Int.reduceAdd, Int.reduceSub, Int.reduceNeg, ↓reduceIte, reduceCtorEq, ↓C.q76_W, C.q76_B, C.q76, hp, hm, h1, ge_iff_le, T]
      first | exact ⟨rfl, h, Moved.refl _ _ _⟩ | exact ⟨h, Moved.refl _ _ _⟩
  · have e : getE N f false i = 0 := by rw [getE, if_neg (by decide), if_neg (by simp [hi]), if_neg h7]
    have T := eq_false h7
    rw [getF, e, if_pos rfl]
    rcases hfs i with ⟨h1, h2⟩ | h1
    · rw [h2, Int.zero_add] at w hput
      simp only [↓Bp, Bq, Bs, ↓aop.eq_28, ↓aop.eq_30, Nat.reduceEqDiff, Nat.reduceAdd, Nat.reduceMul, Nat.reduceSub, Nat.reduceLeDiff, Nat.reduceLT, Int.reduceLT, Int.reduceLE, Int.reduceEq, Int.reduceToNat, Int.reduceAdd, Int.reduceSub, Int.reduceNeg, ↓reduceIte, reduceCtorEq, ↓C.q76_W, C.q76_B, C.q76, hp, hm, h1, ge_iff_le, w]
      refine ⟨h.mapTo ?_, Moved.setM _ _ _ _⟩
      have : addF f i 1 = fun j => if j = i then 1 else f j := by unfold addF; rw [h2]; rfl
      rw [this]; exact hput
    · simp only [↓Bp, Bq, Bs, ↓aop.eq_28, ↓aop.eq_30, Nat.reduceEqDiff, Nat.reduceAdd, Nat.reduceMul, Nat.reduceSub, Nat.reduceLeDiff, Nat.reduceLT, Int.reduceLT, Int.reduceLE, Int.reduceEq, Int.reduceToNat, Int.reduceAdd, Int.reduceSub, Int.reduceNeg, ↓reduceIte, reduceCtorEq, ↓C.q76_W, C.q76_B, C.q76, hp, hm, h1, ge_iff_le, T, w]
      first | exact ⟨rfl, h.mapTo hput, Moved.setM _ _ _ _⟩ | exact ⟨h.mapTo hput, Moved.setM _ _ _ _⟩
theorem put_spec {i : Int} (hf : 0 ≤ f i ∧ f i ≤ 7) : ACalls Try.prog F.q77 [.ptr p 0, .int .i64 i] st fun r s => r = .int .i64 (putE N f sl i) ∧ CAt s p m N (putF N f sl i) sl ∧ Moved p m st s := by
  refine calls_of_awp L.q77 rfl ?_
  have hp := h.hp
  obtain ⟨es, hm, hfs⟩ := h.hm
  cases sl
  rotate_left
  · have e : putE N f true i = 6 := by rw [putE, if_pos rfl]
    simp only [↓Bp, Bq, Bs, ↓aop.eq_28, ↓aop.eq_30, Nat.reduceEqDiff, Nat.reduceAdd, Nat.reduceMul, Nat.reduceSub, Nat.reduceLeDiff, Nat.reduceLT, Int.reduceLT, Int.reduceLE, Int.reduceEq, Int.reduceToNat, Int.reduceAdd, Int.reduceSub, Int.reduceNeg, ↓reduceIte, reduceCtorEq, ↓C.q77_W, C.q77_B, C.q77, hp]
    rw [putF, e, if_neg (by decide)]
    first | exact ⟨rfl, h, Moved.refl _ _ _⟩ | exact ⟨h, Moved.refl _ _ _⟩
  simp only [↓Bp, Bq, Bs, ↓aop.eq_28, ↓aop.eq_30, Nat.reduceEqDiff, Nat.reduceAdd, Nat.reduceMul, Nat.reduceSub, Nat.reduceLeDiff, Nat.reduceLT, Int.reduceLT, Int.reduceLE, Int.reduceEq, Int.reduceToNat, Int.reduceAdd, Int.reduceSub, Int.reduceNeg, ↓reduceIte, reduceCtorEq, ↓C.q77_W, C.q77_B, C.q77, hp]
  refine (known_spec h i).mono ?_
  rintro r s ⟨rfl, rfl⟩
  by_cases hi : isDv N i
  rotate_left
  · have e : putE N f false i = 4 := by rw [putE, if_neg (by decide), if_pos hi]
    rw [decide_eq_false hi, putF, e, if_neg (by decide)]
    simp only [↓Bp, Bq, Bs, ↓aop.eq_28, ↓aop.eq_30, Nat.reduceEqDiff, Nat.reduceAdd, Nat.reduceMul, Nat.reduceSub, Nat.reduceLeDiff, Nat.reduceLT, Int.reduceLT, Int.reduceLE, Int.reduceEq, Int.reduceToNat, Int.reduceAdd, Int.reduceSub, Int.reduceNeg, ↓reduceIte, reduceCtorEq, ↓C.q77_W, C.q77_B, C.q77]
    first | exact ⟨rfl, h, Moved.refl _ _ _⟩ | exact ⟨h, Moved.refl _ _ _⟩
  rw [decide_eq_true hi]
  have hput := hfs.put i (f i + -1)
  have w : IntKind.i64.wrap (f i - 1) = f i + -1 := by rw [wrap64] <;> omega
  by_cases h7 : f i ≤ 0
  · have e : putE N f false i = 6 := by rw [putE, if_neg (by decide), if_neg (by simp [hi]), if_pos h7]
    have T := eq_true h7
    rw [putF, e, if_neg (by decide)]
    rcases hfs i with ⟨h1, h2⟩ | h1
    · simp only [↓Bp, Bq, Bs, ↓aop.eq_28, ↓aop.eq_30, Nat.reduceEqDiff, Nat.reduceAdd, Nat.reduceMul, Nat.reduceSub, Nat.reduceLeDiff, Nat.reduceLT, Int.reduceLT, Int.reduceLE, Int.reduceEq, Int.reduceToNat, Int.reduceAdd, Int.reduceSub, Int.reduceNeg, ↓reduceIte, reduceCtorEq, ↓C.q77_W, C.q77_B, C.q77, hp, hm, h1]
      first | exact ⟨rfl, h, Moved.refl _ _ _⟩ | exact ⟨h, Moved.refl _ _ _⟩
    · simp only [↓Bp, Bq, Bs, ↓aop.eq_28, ↓aop.eq_30, Nat.reduceEqDiff, Nat.reduceAdd, Nat.reduceMul, Nat.reduceSub, Nat.reduceLeDiff, Nat.reduceLT, Int.reduceLT, Int.reduceLE, Int.reduceEq, Int.reduceToNat, Int.reduceAdd, Int.reduceSub, Int.reduceNeg, ↓reduceIte, reduceCtorEq, ↓C.q77_W, C.q77_B, C.q77, hp, hm, h1, T]
      first | exact ⟨rfl, h, Moved.refl _ _ _⟩ | exact ⟨h, Moved.refl _ _ _⟩
  · have e : putE N f false i = 0 := by rw [putE, if_neg (by decide), if_neg (by simp [hi]), if_neg h7]
    have T := eq_false h7
    rw [putF, e, if_pos rfl]
    rcases hfs i with ⟨h1, h2⟩ | h1
    · omega
    · simp only [↓Bp, Bq, Bs, ↓aop.eq_28, ↓aop.eq_30, Nat.reduceEqDiff, Nat.reduceAdd, Nat.reduceMul, Nat.reduceSub, Nat.reduceLeDiff, Nat.reduceLT, Int.reduceLT, Int.reduceLE, Int.reduceEq, Int.reduceToNat, Int.reduceAdd, Int.reduceSub, Int.reduceNeg, ↓reduceIte, reduceCtorEq, ↓C.q77_W, C.q77_B, C.q77, hp, hm, h1, T, w]
      first | exact ⟨rfl, h.mapTo hput, Moved.setM _ _ _ _⟩ | exact ⟨h.mapTo hput, Moved.setM _ _ _ _⟩
end
theorem cnew_spec {st : ASt} {S : Soc} (hs : S.fine) (he : confErr S = 0) (hn : S.devs.length ≤ 6) (hm : ∀ c ∈ S.devs, c.needs.length ≤ 6) : ACalls Try.prog F.q81 [.agg S.cells] st fun r s => ∃ p m, r = .tup [.ptr p 0, .int .i64 0] ∧ CAt s p m (S.devs.map Dev.needs) (fun _ => 0) false ∧ st.h p = none ∧ st.h m = none ∧ st.le s := by
  refine calls_of_awp L.q81 rfl ?_
  have l4 : S.cells.length = 4 := rfl
  have e4 : AV.agg (List.take 4 S.cells) = .agg S.cells := rfl
  simp only [↓Bp, Bq, Bs, ↓aop.eq_28, ↓aop.eq_30, Nat.reduceEqDiff, Nat.reduceAdd, Nat.reduceMul, Nat.reduceSub, Nat.reduceLeDiff, Nat.reduceLT, Int.reduceLT, Int.reduceLE, Int.reduceEq, Int.reduceToNat, Int.reduceAdd, Int.reduceSub, Int.reduceNeg, ↓reduceIte, reduceCtorEq, ↓C.q81_r0_w, C.q81_r0_b, C.q81]
  rintro ib hib
  have hle0 := ASt.le.new st ib (.cells S.cells)
  have hb := ASt.new_self (.cells S.cells) hib
  generalize st.new ib (.cells S.cells) = s0 at hle0 hb
  simp only [↓Bp, Bq, Bs, ↓aop.eq_28, ↓aop.eq_30, Nat.reduceEqDiff, Nat.reduceAdd, Nat.reduceMul, Nat.reduceSub, Nat.reduceLeDiff, Nat.reduceLT, Int.reduceLT, Int.reduceLE, Int.reduceEq, Int.reduceToNat, Int.reduceAdd, Int.reduceSub, Int.reduceNeg, ↓reduceIte, reduceCtorEq, ↓C.q81_W, C.q81_B, C.q81, hb, l4, e4]
  refine (conf_check_spec hs).mono ?_
  rintro r s1 ⟨rfl, rfl⟩
  rw [he]
  simp only [↓Bp, Bq, Bs, ↓aop.eq_28, ↓aop.eq_30, Nat.reduceEqDiff, Nat.reduceAdd, Nat.reduceMul, Nat.reduceSub, Nat.reduceLeDiff, Nat.reduceLT, Int.reduceLT, Int.reduceLE, Int.reduceEq, Int.reduceToNat, Int.reduceAdd, Int.reduceSub, Int.reduceNeg, ↓reduceIte, reduceCtorEq, ↓C.q81_W, C.q81_B, C.q81, hb, l4, e4]
  refine (needs_spec (by omega) (fun c hc => by have := hm c hc; omega)).mono ?_
  rintro r s2 ⟨rfl, rfl⟩
  simp only [↓Bp, Bq, Bs, ↓aop.eq_28, ↓aop.eq_30, Nat.reduceEqDiff, Nat.reduceAdd, Nat.reduceMul, Nat.reduceSub, Nat.reduceLeDiff, Nat.reduceLT, Int.reduceLT, Int.reduceLE, Int.reduceEq, Int.reduceToNat, Int.reduceAdd, Int.reduceSub, Int.reduceNeg, ↓reduceIte, reduceCtorEq, ↓C.q81_W, C.q81_B, C.q81, gval]
  rintro m hmm p ⟨hpp, hpm⟩
  have hp' : (s2.new m (.map [])).h p = none := by rw [ASt.new_none]; exact ⟨hpp, hpm⟩
  exact ⟨p, m, rfl, ⟨ASt.new_self _ hp', [], ASt.new_old (ASt.new_self _ hmm), MapIs.nil⟩, fresh_of_le hle0 hpp, fresh_of_le hle0 hmm, hle0.trans ((ASt.le.new _ _ _).trans (ASt.le.new _ _ _))⟩
end Go.Proofs.Ytoblpialfhfdgaa.Cn
