/- Count: the document's counts. -/
import Derived.Test.YtoblpialfhfdgaaCnCount5
import Derived.Test.YtoblpialfhfdgaaCnRef4
set_option linter.unusedSimpArgs false
set_option linter.unusedVariables false
set_option linter.unusedSectionVars false
namespace Go.Proofs.Ytoblpialfhfdgaa.Cn
open Go Go.Proofs

/-- What is shown is appended to a slice that stands in a block of its own. -/
theorem aop_append_two {P : Program} {sz b e m n : Nat} {x y : IArg} {fr : AFr} {s st : ASt} {K : AV → ASt → Prop} {cx cs : List AV} (hx : fr.val x = .sl sz e 0 m) (he : st.h e = some (.cells cx)) (hcx : cx.length = m * sz) (hes : s.h e = none) (hle : s.le st)
    (hy : (fr.val y).slen = some n) (hsn : st.seen (n * sz) (fr.val y) = some cs) (hn : m + n ≤ 4294967296) (hl : cs.length = n * sz) (hlf : allLeaf cs = true) (hk : ∀ v st2, Over s st2 sz v (m + n) (cx ++ cs) → K v st2) : aop P (.append sz b x y) fr st K := by
  simp only [aop, hx, hy, slen_sl, hsn, Nat.zero_add]
  refine ⟨⟨hn, hlf⟩, ?_⟩
  by_cases h0 : n = 0
  · rw [if_pos h0]
    subst h0
    have : cs = [] := List.eq_nil_of_length_eq_zero (by simpa using hl)
    subst this
    rw [List.append_nil] at hk
    exact hk _ _ ⟨⟨hcx, .inr ⟨e, rfl, he⟩⟩, hle, fun sz i off n e' => by cases e'; exact hes⟩
  · rw [if_neg h0, he]
    refine ⟨⟨trivial, hcx.symm⟩, fun id' hid' => ?_⟩
    have hid2 : (st.kill e).h id' = none := by rw [ASt.kill_h]; split <;> simp_all
    refine hk _ _ ⟨⟨by rw [List.length_append, hcx, hl, Nat.add_mul], .inr ⟨id', rfl, ?_⟩⟩, ?_, fun sz i off n e' => by cases e'; exact fresh_of_le hle hid'⟩
    · rw [ASt.new_self _ hid2, List.drop_zero]
    · exact (hle.unkill hes).trans (ASt.le.new _ _ _)
/-- How often each was got, as a row. -/
def cntL (n : Nat) (f : Int → Int) : List Int := (List.range n).map fun (i : Nat) => f (i : Int)
theorem cntL_len (n : Nat) (f : Int → Int) : (cntL n f).length = n := by simp [cntL]
theorem cntL_get {n : Nat} {f : Int → Int} {i : Nat} (h : i < n) : (ints (cntL n f))[i]? = some (.int .i64 (f i)) := by simp [ints, cntL, h]
theorem cntL_set {n : Nat} {f : Int → Int} {i : Nat} (h : i < n) (d : Int) : (ints (cntL n f)).set i (.int .i64 (f i + d)) = ints (cntL n (addF f i d)) := by
  refine List.ext_getElem (by simp [ints, cntL]) fun j h1 h2 => ?_
  rw [List.getElem_set]
  simp only [ints, cntL, List.getElem_map, List.getElem_range, addF]
  by_cases e : i = j
  · subst e; rw [if_pos rfl, if_pos rfl]
  · rw [if_neg e, if_neg (by omega)]
theorem cntL_zero (n : Nat) : zeros [.int .i64 0] n = ints (cntL n fun _ => 0) := by
  have : ∀ n, zeros [AV.int .i64 0] n = List.replicate n (.int .i64 0) := fun n => by
    induction n with
    | zero => rfl
    | succ n ih => rw [zeros, ih]; rfl
  rw [this]
  refine List.ext_getElem (by simp [ints, cntL]) fun j h1 h2 => ?_
  simp [ints, cntL]
/-- The document's counts, and where they lie. -/
structure RAt (st : ASt) (q j : Nat) (N : Gr) (f : Int → Int) (sl : Bool) : Prop where
  hq : st.h q = some (.cells [gval N, .sl 1 j 0 N.length, .bool sl])
  hj : st.h j = some (.cells (ints (cntL N.length f)))
  ne : j ≠ q
theorem RAt.le {st t : ASt} {q j : Nat} {N : Gr} {f : Int → Int} {sl : Bool} (h : RAt st q j N f sl) (hl : st.le t) : RAt t q j N f sl := ⟨hl _ _ h.hq, hl _ _ h.hj, h.ne⟩
theorem RAt.count {st : ASt} {q j : Nat} {N : Gr} {f g : Int → Int} {sl : Bool} (h : RAt st q j N f sl) : RAt (st.set j (.cells (ints (cntL N.length g)))) q j N g sl :=
  ⟨by rw [ASt.set_h, if_neg (Ne.symm h.ne)]; exact h.hq, by rw [ASt.set_h, if_pos rfl, h.hj]; rfl, h.ne⟩
theorem RAt.sleep {st : ASt} {q j : Nat} {N : Gr} {f : Int → Int} {sl : Bool} (h : RAt st q j N f sl) (b : Bool) : RAt (st.set q (.cells [gval N, .sl 1 j 0 N.length, .bool b])) q j N f b :=
  ⟨by rw [ASt.set_h, if_pos rfl, h.hq]; rfl, by rw [ASt.set_h, if_neg h.ne]; exact h.hj, h.ne⟩
theorem getF_sl' (N : Gr) (f : Int → Int) (i : Int) : getF N f true i = f := by rw [getF, getE, if_pos rfl, if_neg (by decide)]
theorem putF_sl' (N : Gr) (f : Int → Int) (i : Int) : putF N f true i = f := by rw [putF, putE, if_pos rfl, if_neg (by decide)]
section
variable {st : ASt} {q j : Nat} {N : Gr} {f : Int → Int} {sl : Bool} (h : RAt st q j N f sl)
include h
theorem rcnt_spec (i : Int) : ACalls Try.prog F.q9 [.ptr q 0, .int .i64 i] st fun r s => r = .int .i64 (if isDv N i then f i else 0) ∧ s = st := by
  refine calls_of_awp L.q9 rfl ?_
  have hq := h.hq
  have hj := h.hj
  by_cases h0 : i < 0
  · have hn : ¬ isDv N i := fun e => by have := e.1; omega
    have T0 := eq_true h0
    rw [if_neg hn]
    simp only [↓Bp, Bq, Bs, ↓aop.eq_28, ↓aop.eq_30, Nat.reduceEqDiff, Nat.reduceAdd, Nat.reduceMul, Nat.reduceSub, Nat.reduceLeDiff, Nat.reduceLT, Int.reduceLT, Int.reduceLE, Int.reduceEq, Int.reduceToNat, Int.reduceAdd, Int.reduceSub, Int.reduceNeg, ↓reduceIte, reduceCtorEq, ↓C.q9_W, C.q9_B, C.q9, T0]
  have T0 := eq_false h0
  by_cases h1 : (N.length : Int) ≤ i
  · have hn : ¬ isDv N i := fun e => by have := e.2; omega
    have T1 := eq_true h1
    rw [if_neg hn]
    simp only [↓Bp, Bq, Bs, ↓aop.eq_28, ↓aop.eq_30, Nat.reduceEqDiff, Nat.reduceAdd, Nat.reduceMul, Nat.reduceSub, Nat.reduceLeDiff, Nat.reduceLT, Int.reduceLT, Int.reduceLE, Int.reduceEq, Int.reduceToNat, Int.reduceAdd, Int.reduceSub, Int.reduceNeg, ↓reduceIte, reduceCtorEq, ↓C.q9_W, C.q9_B, C.q9, T0, hq, T1, ge_iff_le]
  have T1 := eq_false h1
  obtain ⟨k, rfl⟩ : ∃ k : Nat, i = k := ⟨i.toNat, by omega⟩
  have hk : k < N.length := by omega
  have hz : (0:Int) ≤ (k : Int) ∧ (k : Int) < (N.length : Nat) := by omega
  have hg := cntL_get (f := f) hk
  rw [if_pos (show isDv N k from hz)]
  simp only [↓Bp, Bq, Bs, ↓aop.eq_28, ↓aop.eq_30, Nat.reduceEqDiff, Nat.reduceAdd, Nat.reduceMul, Nat.reduceSub, Nat.reduceLeDiff, Nat.reduceLT, Int.reduceLT, Int.reduceLE, Int.reduceEq, Int.reduceToNat, Int.reduceAdd, Int.reduceSub, Int.reduceNeg, ↓reduceIte, reduceCtorEq, ↓C.q9_W, C.q9_B, C.q9, T0, hq, hj, T1, ge_iff_le, hz, hg, Int.toNat_natCast, Nat.mul_one]
theorem rsuspend_spec : ACalls Try.prog F.q13 [.ptr q 0] st fun r s => r = .int .i64 (if sl = true then 6 else 0) ∧ RAt s q j N f true ∧ Moved q j st s := by
  refine calls_of_awp L.q13 rfl ?_
  have hq := h.hq
  have hz := h.sleep true
  cases sl
  · simp only [↓Bp, Bq, Bs, ↓aop.eq_28, ↓aop.eq_30, Nat.reduceEqDiff, Nat.reduceAdd, Nat.reduceMul, Nat.reduceSub, Nat.reduceLeDiff, Nat.reduceLT, Int.reduceLT, Int.reduceLE, Int.reduceEq, Int.reduceToNat, Int.reduceAdd, Int.reduceSub, Int.reduceNeg, ↓reduceIte, reduceCtorEq, ↓C.q13_W, C.q13_B, C.q13, hq]
    exact ⟨hz, Moved.setP _ _ _ _⟩
  · simp only [↓Bp, Bq, Bs, ↓aop.eq_28, ↓aop.eq_30, Nat.reduceEqDiff, Nat.reduceAdd, Nat.reduceMul, Nat.reduceSub, Nat.reduceLeDiff, Nat.reduceLT, Int.reduceLT, Int.reduceLE, Int.reduceEq, Int.reduceToNat, Int.reduceAdd, Int.reduceSub, Int.reduceNeg, ↓reduceIte, reduceCtorEq, ↓C.q13_W, C.q13_B, C.q13, hq]
    exact ⟨h, Moved.refl _ _ _⟩
theorem rresume_spec : ACalls Try.prog F.q12 [.ptr q 0] st fun r s => r = .int .i64 (if sl = true then 0 else 6) ∧ RAt s q j N f false ∧ Moved q j st s := by
  refine calls_of_awp L.q12 rfl ?_
  have hq := h.hq
  have hz := h.sleep false
  cases sl
  · simp only [↓Bp, Bq, Bs, ↓aop.eq_28, ↓aop.eq_30, Nat.reduceEqDiff, Nat.reduceAdd, Nat.reduceMul, Nat.reduceSub, Nat.reduceLeDiff, Nat.reduceLT, Int.reduceLT, Int.reduceLE, Int.reduceEq, Int.reduceToNat, Int.reduceAdd, Int.reduceSub, Int.reduceNeg, ↓reduceIte, reduceCtorEq, ↓C.q12_W, C.q12_B, C.q12, hq]
    exact ⟨h, Moved.refl _ _ _⟩
  · simp only [↓Bp, Bq, Bs, ↓aop.eq_28, ↓aop.eq_30, Nat.reduceEqDiff, Nat.reduceAdd, Nat.reduceMul, Nat.reduceSub, Nat.reduceLeDiff, Nat.reduceLT, Int.reduceLT, Int.reduceLE, Int.reduceEq, Int.reduceToNat, Int.reduceAdd, Int.reduceSub, Int.reduceNeg, ↓reduceIte, reduceCtorEq, ↓C.q12_W, C.q12_B, C.q12, hq]
    exact ⟨hz, Moved.setP _ _ _ _⟩
theorem rget_spec {i : Int} (hf : 0 ≤ f i ∧ f i ≤ 7) : ACalls Try.prog F.q10 [.ptr q 0, .int .i64 i] st fun r s => r = .int .i64 (getE N f sl i) ∧ RAt s q j N (getF N f sl i) sl ∧ Moved q j st s := by
  refine calls_of_awp L.q10 rfl ?_
  have hq := h.hq
  have hj := h.hj
  cases sl
  rotate_left
  · have e : getE N f true i = 6 := by rw [getE, if_pos rfl]
    rw [getF_sl', e]
    simp only [↓Bp, Bq, Bs, ↓aop.eq_28, ↓aop.eq_30, Nat.reduceEqDiff, Nat.reduceAdd, Nat.reduceMul, Nat.reduceSub, Nat.reduceLeDiff, Nat.reduceLT, Int.reduceLT, Int.reduceLE, Int.reduceEq, Int.reduceToNat, Int.reduceAdd, Int.reduceSub, Int.reduceNeg, ↓reduceIte, reduceCtorEq, ↓C.q10_W, C.q10_B, C.q10, hq]
    first | exact ⟨rfl, h, Moved.refl _ _ _⟩ | exact ⟨h, Moved.refl _ _ _⟩
  have none4 : ¬ isDv N i → getE N f false i = 4 := fun hi => by rw [getE, if_neg (by decide), if_pos hi]
  by_cases h0 : i < 0
  · have hn : ¬ isDv N i := fun e => by have := e.1; omega
    have T0 := eq_true h0
    rw [getF, none4 hn, if_neg (by decide)]
    simp only [↓Bp, Bq, Bs, ↓aop.eq_28, ↓aop.eq_30, Nat.reduceEqDiff, Nat.reduceAdd, Nat.reduceMul, Nat.reduceSub, Nat.reduceLeDiff, Nat.reduceLT, Int.reduceLT, Int.reduceLE, Int.reduceEq, Int.reduceToNat, Int.reduceAdd, Int.reduceSub, Int.reduceNeg, ↓reduceIte, reduceCtorEq, ↓C.q10_W, C.q10_B, C.q10, hq, T0]
    first | exact ⟨rfl, h, Moved.refl _ _ _⟩ | exact ⟨h, Moved.refl _ _ _⟩
  have T0 := eq_false h0
  by_cases h1 : (N.length : Int) ≤ i
  · have hn : ¬ isDv N i := fun e => by have := e.2; omega
    have T1 := eq_true h1
    rw [getF, none4 hn, if_neg (by decide)]
    simp only [↓Bp, Bq, Bs, ↓aop.eq_28, ↓aop.eq_30, Nat.reduceEqDiff, Nat.reduceAdd, Nat.reduceMul, Nat.reduceSub, Nat.reduceLeDiff, Nat.reduceLT, Int.reduceLT, Int.reduceLE, Int.reduceEq, Int.reduceToNat, Int.reduceAdd, Int.reduceSub, Int.reduceNeg, ↓reduceIte, reduceCtorEq, ↓C.q10_W, C.q10_B, C.q10, hq, T0, T1, ge_iff_le]
    first | exact ⟨rfl, h, Moved.refl _ _ _⟩ | exact ⟨h, Moved.refl _ _ _⟩
  have T1 := eq_false h1
  obtain ⟨k, rfl⟩ : ∃ k : Nat, i = k := ⟨i.toNat, by omega⟩
  have hk : k < N.length := by omega
  have hz : (0:Int) ≤ (k : Int) ∧ (k : Int) < (N.length : Nat) := by omega
  have hg := cntL_get (f := f) hk
  have hd : isDv N (k : Int) := hz
  have hset := cntL_set (f := f) hk 1
  have hfx : k < (ints (cntL N.length f)).length := by rw [ints_length, cntL_len]; exact hk
  have w : IntKind.i64.wrap (f k + 1) = f k + 1 := by rw [wrap64] <;> omega
  by_cases h7 : 7 ≤ f k
  · have e : getE N f false k = 8 := by rw [getE, if_neg (by decide), if_neg (by simp [hd]), if_pos h7]
    have T := eq_true h7
    rw [getF, e, if_neg (by decide)]
    simp only [↓Bp, Bq, Bs, ↓aop.eq_28, ↓aop.eq_30, Nat.reduceEqDiff, Nat.reduceAdd, Nat.reduceMul, Nat.reduceSub, Nat.reduceLeDiff, Nat.reduceLT, Int.reduceLT, Int.reduceLE, Int.reduceEq, Int.reduceToNat, Int.reduceAdd, Int.reduceSub, Int.reduceNeg, ↓reduceIte, reduceCtorEq, ↓C.q10_W, C.q10_B, C.q10, hq, hj, T0, T1, ge_iff_le, hz, hg, T, Int.toNat_natCast, Nat.mul_one]
    first | exact ⟨rfl, h, Moved.refl _ _ _⟩ | exact ⟨h, Moved.refl _ _ _⟩
  · have e : getE N f false k = 0 := by rw [getE, if_neg (by decide), if_neg (by simp [hd]), if_neg h7]
    have T := eq_false h7
    rw [getF, e, if_pos rfl]
    simp only [↓Bp, Bq, Bs, ↓aop.eq_28, ↓aop.eq_30, Nat.reduceEqDiff, Nat.reduceAdd, Nat.reduceMul, Nat.reduceSub, Nat.reduceLeDiff, Nat.reduceLT, Int.reduceLT, Int.reduceLE, Int.reduceEq, Int.reduceToNat, Int.reduceAdd, Int.reduceSub, Int.reduceNeg, ↓reduceIte, reduceCtorEq, ↓C.q10_W, C.q10_B, C.q10, hq, hj, T0, T1, ge_iff_le, hz, hg, T, hfx, w, hset, Int.toNat_natCast, Nat.mul_one]
    first | exact ⟨rfl, h.count, Moved.setM _ _ _ _⟩ | exact ⟨h.count, Moved.setM _ _ _ _⟩
theorem rput_spec {i : Int} (hf : 0 ≤ f i ∧ f i ≤ 7) : ACalls Try.prog F.q11 [.ptr q 0, .int .i64 i] st fun r s => r = .int .i64 (putE N f sl i) ∧ RAt s q j N (putF N f sl i) sl ∧ Moved q j st s := by
  refine calls_of_awp L.q11 rfl ?_
  have hq := h.hq
  have hj := h.hj
  cases sl
  rotate_left
  · have e : putE N f true i = 6 := by rw [putE, if_pos rfl]
    rw [putF_sl', e]
    simp only [↓Bp, Bq, Bs, ↓aop.eq_28, ↓aop.eq_30, Nat.reduceEqDiff, Nat.reduceAdd, Nat.reduceMul, Nat.reduceSub, Nat.reduceLeDiff, Nat.reduceLT, Int.reduceLT, Int.reduceLE, Int.reduceEq, Int.reduceToNat, Int.reduceAdd, Int.reduceSub, Int.reduceNeg, ↓reduceIte, reduceCtorEq, ↓C.q11_W, C.q11_B, C.q11, hq]
    first | exact ⟨rfl, h, Moved.refl _ _ _⟩ | exact ⟨h, Moved.refl _ _ _⟩
  have none4 : ¬ isDv N i → putE N f false i = 4 := fun hi => by rw [putE, if_neg (by decide), if_pos hi]
  by_cases h0 : i < 0
  · have hn : ¬ isDv N i := fun e => by have := e.1; omega
    have T0 := eq_true h0
    rw [putF, none4 hn, if_neg (by decide)]
    simp only [↓Bp, Bq, Bs, ↓aop.eq_28, ↓aop.eq_30, Nat.reduceEqDiff, Nat.reduceAdd, Nat.reduceMul, Nat.reduceSub, Nat.reduceLeDiff, Nat.reduceLT, Int.reduceLT, Int.reduceLE, Int.reduceEq, Int.reduceToNat, Int.reduceAdd, Int.reduceSub, Int.reduceNeg, ↓reduceIte, reduceCtorEq, ↓C.q11_W, C.q11_B, C.q11, hq, T0]
    first | exact ⟨rfl, h, Moved.refl _ _ _⟩ | exact ⟨h, Moved.refl _ _ _⟩
  have T0 := eq_false h0
  by_cases h1 : (N.length : Int) ≤ i
  · have hn : ¬ isDv N i := fun e => by have := e.2; omega
    have T1 := eq_true h1
    rw [putF, none4 hn, if_neg (by decide)]
    simp only [↓Bp, Bq, Bs, ↓aop.eq_28, ↓aop.eq_30, Nat.reduceEqDiff, Nat.reduceAdd, Nat.reduceMul, Nat.reduceSub, Nat.reduceLeDiff, Nat.reduceLT, Int.reduceLT, Int.reduceLE, Int.reduceEq, Int.reduceToNat, Int.reduceAdd, Int.reduceSub, Int.reduceNeg, ↓reduceIte, reduceCtorEq, ↓C.q11_W, C.q11_B, C.q11, hq, T0, T1, ge_iff_le]
    first | exact ⟨rfl, h, Moved.refl _ _ _⟩ | exact ⟨h, Moved.refl _ _ _⟩
  have T1 := eq_false h1
  obtain ⟨k, rfl⟩ : ∃ k : Nat, i = k := ⟨i.toNat, by omega⟩
  have hk : k < N.length := by omega
  have hz : (0:Int) ≤ (k : Int) ∧ (k : Int) < (N.length : Nat) := by omega
  have hg := cntL_get (f := f) hk
  have hd : isDv N (k : Int) := hz
  have hset := cntL_set (f := f) hk (-1)
  have hfx : k < (ints (cntL N.length f)).length := by rw [ints_length, cntL_len]; exact hk
  have w : IntKind.i64.wrap (f k - 1) = f k + -1 := by rw [wrap64] <;> omega
  by_cases h7 : f k = 0
  · have e : putE N f false k = 6 := by rw [putE, if_neg (by decide), if_neg (by simp [hd]), if_pos (by omega)]
    have T := eq_true h7
    rw [putF, e, if_neg (by decide)]
    simp only [↓Bp, Bq, Bs, ↓aop.eq_28, ↓aop.eq_30, Nat.reduceEqDiff, Nat.reduceAdd, Nat.reduceMul, Nat.reduceSub, Nat.reduceLeDiff, Nat.reduceLT, Int.reduceLT, Int.reduceLE, Int.reduceEq, Int.reduceToNat, Int.reduceAdd, Int.reduceSub, Int.reduceNeg, ↓reduceIte, reduceCtorEq, ↓C.q11_W, C.q11_B, C.q11, hq, hj, T0, T1, ge_iff_le, hz, hg, T, Int.toNat_natCast, Nat.mul_one]
    first | exact ⟨rfl, h, Moved.refl _ _ _⟩ | exact ⟨h, Moved.refl _ _ _⟩
  · have e : putE N f false k = 0 := by rw [putE, if_neg (by decide), if_neg (by simp [hd]), if_neg (by omega)]
    have T := eq_false h7
    rw [putF, e, if_pos rfl]
    simp only [↓Bp, Bq, Bs, ↓aop.eq_28, ↓aop.eq_30, Nat.reduceEqDiff, Nat.reduceAdd, Nat.reduceMul, Nat.reduceSub, Nat.reduceLeDiff, Nat.reduceLT, Int.reduceLT, Int.reduceLE, Int.reduceEq, Int.reduceToNat, Int.reduceAdd, Int.reduceSub, Int.reduceNeg, ↓reduceIte, reduceCtorEq, ↓C.q11_W, C.q11_B, C.q11, hq, hj, T0, T1, ge_iff_le, hz, hg, T, hfx, w, hset, Int.toNat_natCast, Nat.mul_one]
    first | exact ⟨rfl, h.count, Moved.setM _ _ _ _⟩ | exact ⟨h.count, Moved.setM _ _ _ _⟩
theorem rcopy_spec (hn : N.length ≤ 1000) (hn0 : N.length ≠ 0) : ACalls Try.prog F.q8 [.ptr q 0] st fun r s => ∃ q2 j2, r = .ptr q2 0 ∧ RAt s q2 j2 N f sl ∧ st.h q2 = none ∧ st.h j2 = none ∧ st.le s := by
  refine calls_of_awp L.q8 rfl ?_
  have hq := h.hq
  have hj := h.hj
  rw [gval] at hq
  simp only [↓Bp, Bq, Bs, Nat.reduceEqDiff, Nat.reduceAdd, Nat.reduceMul, Nat.reduceSub, Nat.reduceLeDiff, Nat.reduceLT, Int.reduceLT, Int.reduceLE, Int.reduceEq, Int.reduceToNat, Int.reduceAdd, Int.reduceSub, Int.reduceNeg, ↓reduceIte, reduceCtorEq, ↓C.q8_W, C.q8_B, C.q8, hq]
  refine aop_bs (cs := []) rfl fun e he => ?_
  have hq1 := ASt.new_old (id := e) (o := .cells []) hq
  have hj1 := ASt.new_old (id := e) (o := .cells []) hj
  have hself := ASt.new_self (.cells []) he
  have hle := ASt.le.new st e (.cells [])
  generalize st.new e (.cells []) = s1 at hq1 hj1 hself hle
  have hsh : Shows s1 1 (.sl 1 j 0 N.length) N.length (ints (cntL N.length f)) := ⟨by rw [ints_length, cntL_len, Nat.mul_one], .inr ⟨j, rfl, hj1⟩⟩
  refine aop_append_two (s := st) (cx := []) (cs := ints (cntL N.length f)) (n := N.length) rfl hself rfl he hle rfl hsh.seen (by omega) (by rw [ints_length, cntL_len, Nat.mul_one]) (ints_leaf _) fun v s2 hO => ?_
  rw [Nat.zero_add, List.nil_append] at hO
  obtain ⟨j2, rfl, hj2⟩ := hO.1.blk hn0
  have hjn := hO.2.2 _ _ _ _ rfl
  have hq2 := hO.2.1 _ _ hq
  have hle2 := hO.2.1
  simp only [↓Bp, Bq, Bs, ↓aop.eq_28, ↓aop.eq_30, Nat.reduceEqDiff, Nat.reduceAdd, Nat.reduceMul, Nat.reduceSub, Nat.reduceLeDiff, Nat.reduceLT, Int.reduceLT, Int.reduceLE, Int.reduceEq, Int.reduceToNat, Int.reduceAdd, Int.reduceSub, Int.reduceNeg, ↓reduceIte, reduceCtorEq, ↓C.q8_W, C.q8_B, C.q8, hq2]
  rintro q2 hqn
  have hne : j2 ≠ q2 := by rintro rfl; rw [hj2] at hqn; cases hqn
  exact ⟨q2, j2, rfl, ⟨ASt.new_self _ hqn, ASt.new_old hj2, hne⟩, fresh_of_le hle2 hqn, hjn, hle2.trans (ASt.le.new _ _ _)⟩
end
theorem rnew16 {st : ASt} {S : Soc} (hS : S.like) : ACalls Try.prog F.q14 [.agg S.cells] st fun r s => ∃ q j, r = .tup [.ptr q 0, .int .i64 0] ∧ RAt s q j S.need (fun _ => 0) false ∧ st.h q = none ∧ st.h j = none ∧ st.le s := by
  refine calls_of_awp L.q14 rfl ?_
  have hnv := hS.nv
  have l4 : S.cells.length = 4 := rfl
  have e4 : AV.agg (List.take 4 S.cells) = .agg S.cells := rfl
  simp only [↓Bp, Bq, Bs, ↓aop.eq_28, ↓aop.eq_30, Nat.reduceEqDiff, Nat.reduceAdd, Nat.reduceMul, Nat.reduceSub, Nat.reduceLeDiff, Nat.reduceLT, Int.reduceLT, Int.reduceLE, Int.reduceEq, Int.reduceToNat, Int.reduceAdd, Int.reduceSub, Int.reduceNeg, ↓reduceIte, reduceCtorEq, ↓C.q14_r0_w, C.q14_r0_b, C.q14]
  rintro ib hib
  have hb := ASt.new_self (.cells S.cells) hib
  have hle := ASt.le.new st ib (.cells S.cells)
  generalize st.new ib (.cells S.cells) = s0 at hb hle
  simp only [↓Bp, Bq, Bs, ↓aop.eq_28, ↓aop.eq_30, Nat.reduceEqDiff, Nat.reduceAdd, Nat.reduceMul, Nat.reduceSub, Nat.reduceLeDiff, Nat.reduceLT, Int.reduceLT, Int.reduceLE, Int.reduceEq, Int.reduceToNat, Int.reduceAdd, Int.reduceSub, Int.reduceNeg, ↓reduceIte, reduceCtorEq, ↓C.q14_W, C.q14_B, C.q14, hb, e4, l4]
  refine (refConf_spec (Soc.okR.of hS.right) hS.fine).mono ?_
  rintro r s1 ⟨rfl, rfl⟩
  have hbx := hb
  rw [Soc.cells, Soc.devV] at hbx
  have hzn : (0 : Int) ≤ (S.devs.length : Nat) ∧ ((S.devs.length : Nat) : Int) ≤ 4294967296 := by omega
  have g3 : S.cells[3]? = some (.isl 6 (S.devs.flatMap Dev.cells) S.devs.length) := rfl
  simp only [↓Bp, Bq, Bs, ↓aop.eq_28, ↓aop.eq_30, Nat.reduceEqDiff, Nat.reduceAdd, Nat.reduceMul, Nat.reduceSub, Nat.reduceLeDiff, Nat.reduceLT, Int.reduceLT, Int.reduceLE, Int.reduceEq, Int.reduceToNat, Int.reduceAdd, Int.reduceSub, Int.reduceNeg, ↓reduceIte, reduceCtorEq, ↓C.q14_W, C.q14_B, C.q14, hb, e4, l4, g3, hzn]
  refine (rNeeds_spec (s := S) (by omega) (fun c hc => ?_)).mono ?_
  · obtain ⟨i, hi, rfl⟩ := List.getElem_of_mem hc
    have := (hS.dev i hi).few; omega
  rintro r s2 ⟨rfl, rfl⟩
  simp only [↓Bp, Bq, Bs, ↓aop.eq_28, ↓aop.eq_30, Nat.reduceEqDiff, Nat.reduceAdd, Nat.reduceMul, Nat.reduceSub, Nat.reduceLeDiff, Nat.reduceLT, Int.reduceLT, Int.reduceLE, Int.reduceEq, Int.reduceToNat, Int.reduceAdd, Int.reduceSub, Int.reduceNeg, ↓reduceIte, reduceCtorEq, ↓C.q14_W, C.q14_B, C.q14, hb, g3, hzn, Int.toNat_natCast, cntL_zero, gval]
  rintro j hjn q ⟨hqn, hqj⟩
  have hq' : (s2.new j (.cells (ints (cntL S.devs.length fun _ => 0)))).h q = none := by rw [ASt.new_none]; exact ⟨hqn, hqj⟩
  have hlen : S.need.length = S.devs.length := S.need_len
  refine ⟨q, j, rfl, ⟨?_, ?_, fun e => hqj e.symm⟩, fresh_of_le hle hqn, fresh_of_le hle hjn, hle.trans ((ASt.le.new _ _ _).trans (ASt.le.new _ _ _))⟩
  · rw [ASt.new_self _ hq', hlen, gval, Soc.need]
  · rw [hlen]; exact ASt.new_old (ASt.new_self _ hjn)
end Go.Proofs.Ytoblpialfhfdgaa.Cn
