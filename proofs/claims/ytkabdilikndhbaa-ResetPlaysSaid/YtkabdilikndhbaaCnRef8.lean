/- Reset lines: the document's lines. -/
import Derived.Test.YtkabdilikndhbaaCnReset4
import Derived.Test.YtkabdilikndhbaaCnRef4
set_option linter.unusedSimpArgs false
set_option linter.unusedVariables false
namespace Go.Proofs.Ytkabdilikndhbaa.Cn
open Go Go.Proofs

def rl (x : Ln) : List AV := [.bool x.held, .bool x.wanted, .int .i64 x.left]
theorem rl_len (x : Ln) : (rl x).length = 3 := rfl
/-- The document's lines, in blocks of their own beside a heap. -/
structure RefAt (base st : ASt) (q : Nat) (v0 v1 : AV) (ls : List Ln) : Prop where
  hq : st.h q = some (.cells [v0, v1])
  s0 : Shows st 1 v0 ls.length (ints (ls.map Ln.least))
  s1 : Shows st 3 v1 ls.length (ls.flatMap rl)
  b0 : ∀ i, v0 = .sl 1 i 0 ls.length → i ≠ q ∧ base.h i = none
  b1 : ∀ i, v1 = .sl 3 i 0 ls.length → i ≠ q ∧ base.h i = none
  ne : ∀ i j, v0 = .sl 1 i 0 ls.length → v1 = .sl 3 j 0 ls.length → i ≠ j
  bq : base.h q = none
theorem RefAt.both {base st : ASt} {q : Nat} {v0 v1 : AV} {ls : List Ln} (h : RefAt base st q v0 v1 ls) (hn : ls.length ≠ 0) : ∃ il ir, v0 = .sl 1 il 0 ls.length ∧ v1 = .sl 3 ir 0 ls.length ∧ st.h il = some (.cells (ints (ls.map Ln.least))) ∧ st.h ir = some (.cells (ls.flatMap rl)) := by
  rcases h.s0.2 with ⟨e, _⟩ | ⟨il, e1, e2⟩
  · exact absurd e hn
  rcases h.s1.2 with ⟨e, _⟩ | ⟨ir, e3, e4⟩
  · exact absurd e hn
  exact ⟨il, ir, e1, e3, e2, e4⟩
/-- Nothing that stood in the base is touched. -/
def Kept (base s s' : ASt) : Prop := ∀ j, base.h j ≠ none → s'.h j = s.h j
theorem Kept.refl (base s : ASt) : Kept base s s := fun _ _ => rfl
theorem Kept.trans {base s t u : ASt} (h : Kept base s t) (k : Kept base t u) : Kept base s u := fun j hj => (k j hj).trans (h j hj)
theorem RefAt.put {base st : ASt} {q il ir : Nat} {ls : List Ln} (h : RefAt base st q (.sl 1 il 0 ls.length) (.sl 3 ir 0 ls.length) ls) (hir : st.h ir = some (.cells (ls.flatMap rl))) (ls' : List Ln) (hl : ls'.length = ls.length) (hle : ls'.map Ln.least = ls.map Ln.least) :
    RefAt base (st.set ir (.cells (ls'.flatMap rl))) q (.sl 1 il 0 ls.length) (.sl 3 ir 0 ls.length) ls' ∧ Kept base st (st.set ir (.cells (ls'.flatMap rl))) := by
  have h1 := h.b1 ir rfl
  have hne := h.ne il ir rfl rfl
  refine ⟨⟨?_, ⟨by rw [hl, hle]; exact h.s0.1, .inr ⟨il, by rw [hl], ?_⟩⟩, ⟨by rw [flatMap_len rl_len], .inr ⟨ir, by rw [hl], ?_⟩⟩, ?_, ?_, ?_, h.bq⟩, fun j hj => ?_⟩
  · rw [ASt.set_h, if_neg (Ne.symm h1.1)]; exact h.hq
  · rw [ASt.set_h, if_neg hne, hle]
    rcases h.s0.2 with ⟨e, e2⟩ | ⟨i, e1, e2⟩
    · cases e2
    · cases e1; exact e2
  · rw [ASt.set_h, if_pos rfl, hir]; rfl
  · rw [hl]; exact h.b0
  · rw [hl]; exact h.b1
  · rw [hl]; exact h.ne
  · rw [ASt.set_h, if_neg (by rintro rfl; exact hj h1.2)]
theorem least_same {ls : List Ln} {k : Nat} {x : Ln} (hk : k < ls.length) (hx : x.least = ls[k].least) : (ls.set k x).map Ln.least = ls.map Ln.least := by
  rw [List.map_set, hx]
  have : (ls.map Ln.least).set k ((ls.map Ln.least)[k]'(by simpa using hk)) = ls.map Ln.least := List.set_getElem_self _
  simpa using this
theorem rl_put1 {ls : List Ln} {k j : Nat} (hk : k < ls.length) (hj : j < 3) {v : AV} {x : Ln} (hx : (rl ls[k]).set j v = rl x) : (ls.flatMap rl).set (k * 3 + j) v = (ls.set k x).flatMap rl :=
  flatMap_set rl_len hk hj hx
theorem rl_put3 {ls : List Ln} {k : Nat} (hk : k < ls.length) (x : Ln) : (((ls.flatMap rl).set (k * 3) (.bool x.held)).set (k * 3 + 1) (.bool x.wanted)).set (k * 3 + 1 + 1) (.int .i64 x.left) = (ls.set k x).flatMap rl := by
  rw [show k * 3 = k * 3 + 0 from rfl, rl_put1 (j := 0) hk (by omega) (x := { ls[k] with held := x.held }) rfl]
  have hk2 : k < (ls.set k { ls[k] with held := x.held }).length := by simpa using hk
  rw [show k * 3 + 0 + 1 = k * 3 + 1 from rfl, rl_put1 (j := 1) hk2 (by omega) (x := { ls[k] with held := x.held, wanted := x.wanted }) (by simp [rl]), List.set_set]
  have hk3 : k < (ls.set k { ls[k] with held := x.held, wanted := x.wanted }).length := by simpa using hk
  rw [show k * 3 + 1 + 1 = k * 3 + 2 from rfl, rl_put1 (j := 2) hk3 (by omega) (x := x) (by simp [rl]), List.set_set]
section
variable {base st : ASt} {q : Nat} {v0 v1 : AV} {ls : List Ln} (h : RefAt base st q v0 v1 ls)
include h
theorem refHeld_spec (i : Int) : ACalls Try.prog F.catnapref8_Lines_Held [.ptr q 0, .int .i64 i] st fun r s => r = .bool (!decide (isLn ls i) || (lnOf ls i).held) ∧ s = st := by
  refine calls_of_awp L.catnapref8_Lines_Held rfl ?_
  have hq := h.hq
  have hsl := h.s1.slen
  by_cases h0 : i < 0
  · have hn : ¬ isLn ls i := fun e => by have := e.1; omega
    simp only [↓Bp, Bq, Bs, ↓aop.eq_28, ↓aop.eq_30, Nat.reduceEqDiff, Nat.reduceAdd, Nat.reduceMul, Nat.reduceSub, Nat.reduceLeDiff, Nat.reduceLT, Int.reduceLT, Int.reduceLE, Int.reduceEq, Int.reduceToNat, Int.reduceAdd, Int.reduceSub, Int.reduceNeg, ↓reduceIte, reduceCtorEq, ↓C.catnapref8_Lines_Held_W, C.catnapref8_Lines_Held_B, C.catnapref8_Lines_Held, h0, hn]
    rfl
  by_cases h1 : (ls.length : Int) ≤ i
  · have hn : ¬ isLn ls i := fun e => by have := e.2; omega
    simp only [↓Bp, Bq, Bs, ↓aop.eq_28, ↓aop.eq_30, Nat.reduceEqDiff, Nat.reduceAdd, Nat.reduceMul, Nat.reduceSub, Nat.reduceLeDiff, Nat.reduceLT, Int.reduceLT, Int.reduceLE, Int.reduceEq, Int.reduceToNat, Int.reduceAdd, Int.reduceSub, Int.reduceNeg, ↓reduceIte, reduceCtorEq, ↓C.catnapref8_Lines_Held_W, C.catnapref8_Lines_Held_B, C.catnapref8_Lines_Held, h0, hq, hsl, h1, hn, ge_iff_le]
    rfl
  obtain ⟨k, rfl⟩ : ∃ k : Nat, i = k := ⟨i.toNat, by omega⟩
  have hk : k < ls.length := by omega
  have hz : (0:Int) ≤ (k : Int) ∧ (k : Int) < (ls.length : Nat) := by omega
  obtain ⟨il, ir, rfl, rfl, hil, hir⟩ := h.both (by omega)
  have g0 : (ls.flatMap rl)[k * 3]? = some (.bool ls[k].held) := rows_get rl (w := 3) (fun _ => rfl) hk (j := 0) (by omega)
  simp only [↓Bp, Bq, Bs, ↓aop.eq_28, ↓aop.eq_30, Nat.reduceEqDiff, Nat.reduceAdd, Nat.reduceMul, Nat.reduceSub, Nat.reduceLeDiff, Nat.reduceLT, Int.reduceLT, Int.reduceLE, Int.reduceEq, Int.reduceToNat, Int.reduceAdd, Int.reduceSub, Int.reduceNeg, ↓reduceIte, reduceCtorEq, ↓C.catnapref8_Lines_Held_W, C.catnapref8_Lines_Held_B, C.catnapref8_Lines_Held, h0, hq, h1, hz, hir, g0, Int.toNat_natCast, ge_iff_le]
  rw [lnOf_at hk, decide_eq_true (isLn_at hk)]; rfl
theorem refLeft_spec (hi : ∀ x ∈ ls, x.held = false → x.left = 0) (i : Int) : ACalls Try.prog F.catnapref8_Lines_Left [.ptr q 0, .int .i64 i] st fun r s => r = .int .i64 (if (lnOf ls i).held = true then (lnOf ls i).left else 0) ∧ s = st := by
  refine calls_of_awp L.catnapref8_Lines_Left rfl ?_
  have hq := h.hq
  have hsl := h.s1.slen
  by_cases h0 : i < 0
  · have hn : ¬ isLn ls i := fun e => by have := e.1; omega
    simp only [↓Bp, Bq, Bs, ↓aop.eq_28, ↓aop.eq_30, Nat.reduceEqDiff, Nat.reduceAdd, Nat.reduceMul, Nat.reduceSub, Nat.reduceLeDiff, Nat.reduceLT, Int.reduceLT, Int.reduceLE, Int.reduceEq, Int.reduceToNat, Int.reduceAdd, Int.reduceSub, Int.reduceNeg, ↓reduceIte, reduceCtorEq, ↓C.catnapref8_Lines_Left_W, C.catnapref8_Lines_Left_B, C.catnapref8_Lines_Left, h0]
    rw [lnOf, if_neg hn]; rfl
  by_cases h1 : (ls.length : Int) ≤ i
  · have hn : ¬ isLn ls i := fun e => by have := e.2; omega
    simp only [↓Bp, Bq, Bs, ↓aop.eq_28, ↓aop.eq_30, Nat.reduceEqDiff, Nat.reduceAdd, Nat.reduceMul, Nat.reduceSub, Nat.reduceLeDiff, Nat.reduceLT, Int.reduceLT, Int.reduceLE, Int.reduceEq, Int.reduceToNat, Int.reduceAdd, Int.reduceSub, Int.reduceNeg, ↓reduceIte, reduceCtorEq, ↓C.catnapref8_Lines_Left_W, C.catnapref8_Lines_Left_B, C.catnapref8_Lines_Left, h0, hq, hsl, h1, ge_iff_le]
    rw [lnOf, if_neg hn]; rfl
  obtain ⟨k, rfl⟩ : ∃ k : Nat, i = k := ⟨i.toNat, by omega⟩
  have hk : k < ls.length := by omega
  have hz : (0:Int) ≤ (k : Int) ∧ (k : Int) < (ls.length : Nat) := by omega
  obtain ⟨il, ir, rfl, rfl, hil, hir⟩ := h.both (by omega)
  have g0 : (ls.flatMap rl)[k * 3 + 2]? = some (.int .i64 ls[k].left) := rows_get rl (w := 3) (fun _ => rfl) hk (j := 2) (by omega)
  simp only [↓Bp, Bq, Bs, ↓aop.eq_28, ↓aop.eq_30, Nat.reduceEqDiff, Nat.reduceAdd, Nat.reduceMul, Nat.reduceSub, Nat.reduceLeDiff, Nat.reduceLT, Int.reduceLT, Int.reduceLE, Int.reduceEq, Int.reduceToNat, Int.reduceAdd, Int.reduceSub, Int.reduceNeg, ↓reduceIte, reduceCtorEq, ↓C.catnapref8_Lines_Left_W, C.catnapref8_Lines_Left_B, C.catnapref8_Lines_Left, h0, hq, h1, hz, hir, g0, Int.toNat_natCast, ge_iff_le]
  rw [lnOf_at hk]
  by_cases hd : ls[k].held = true
  · rw [if_pos hd]
  · rw [if_neg hd, hi _ (List.getElem_mem hk) (by simpa using hd)]
theorem refAssert_spec (i : Int) : ACalls Try.prog F.catnapref8_Lines_Assert [.ptr q 0, .int .i64 i] st fun r s => r = .int .i64 (assertE ls i) ∧ RefAt base s q v0 v1 (assertL ls i) ∧ Kept base st s := by
  refine calls_of_awp L.catnapref8_Lines_Assert rfl ?_
  have hq := h.hq
  have hsl := h.s1.slen
  by_cases h0 : i < 0
  · have hn : ¬ isLn ls i := fun e => by have := e.1; omega
    simp only [↓Bp, Bq, Bs, ↓aop.eq_28, ↓aop.eq_30, Nat.reduceEqDiff, Nat.reduceAdd, Nat.reduceMul, Nat.reduceSub, Nat.reduceLeDiff, Nat.reduceLT, Int.reduceLT, Int.reduceLE, Int.reduceEq, Int.reduceToNat, Int.reduceAdd, Int.reduceSub, Int.reduceNeg, ↓reduceIte, reduceCtorEq, ↓C.catnapref8_Lines_Assert_W, C.catnapref8_Lines_Assert_B, C.catnapref8_Lines_Assert, h0]
    rw [assertE, if_neg hn, assertL, if_neg hn]
    exact ⟨rfl, h, Kept.refl _ _⟩
  by_cases h1 : (ls.length : Int) ≤ i
  · have hn : ¬ isLn ls i := fun e => by have := e.2; omega
    simp only [↓Bp, Bq, Bs, ↓aop.eq_28, ↓aop.eq_30, Nat.reduceEqDiff, Nat.reduceAdd, Nat.reduceMul, Nat.reduceSub, Nat.reduceLeDiff, Nat.reduceLT, Int.reduceLT, Int.reduceLE, Int.reduceEq, Int.reduceToNat, Int.reduceAdd, Int.reduceSub, Int.reduceNeg, ↓reduceIte, reduceCtorEq, ↓C.catnapref8_Lines_Assert_W, C.catnapref8_Lines_Assert_B, C.catnapref8_Lines_Assert, h0, hq, hsl, h1, ge_iff_le]
    rw [assertE, if_neg hn, assertL, if_neg hn]
    exact ⟨rfl, h, Kept.refl _ _⟩
  obtain ⟨k, rfl⟩ : ∃ k : Nat, i = k := ⟨i.toNat, by omega⟩
  have hk : k < ls.length := by omega
  have hz : (0:Int) ≤ (k : Int) ∧ (k : Int) < (ls.length : Nat) := by omega
  obtain ⟨il, ir, rfl, rfl, hil, hir⟩ := h.both (by omega)
  have hf : k * 3 + 3 ≤ (ls.flatMap rl).length := flatMap_fits (f := rl) (k := 3) rl_len hk
  have g0 : (ints (ls.map Ln.least))[k]? = some (.int .i64 ls[k].least) := by
    rw [ints_get (by simpa using hk)]; simp
  simp only [↓Bp, Bq, Bs, ↓aop.eq_28, ↓aop.eq_30, Nat.reduceEqDiff, Nat.reduceAdd, Nat.reduceMul, Nat.reduceSub, Nat.reduceLeDiff, Nat.reduceLT, Int.reduceLT, Int.reduceLE, Int.reduceEq, Int.reduceToNat, Int.reduceAdd, Int.reduceSub, Int.reduceNeg, ↓reduceIte, reduceCtorEq, ↓C.catnapref8_Lines_Assert_W, C.catnapref8_Lines_Assert_B, C.catnapref8_Lines_Assert, h0, hq, h1, hz, hir, hil, g0, Int.toNat_natCast, Nat.mul_one, hf, ge_iff_le]
  have hp := rl_put3 hk { ls[k] with held := true, left := ls[k].least, wanted := false }
  simp only at hp
  rw [hp]
  have hA : assertL ls k = ls.set k { ls[k] with held := true, left := ls[k].least, wanted := false } := by
    rw [assertL, if_pos (isLn_at hk), lnOf_at hk, Int.toNat_natCast]
  rw [assertE, if_pos (isLn_at hk), hA]
  exact ⟨rfl, rfl, h.put hir _ (by simp) (least_same hk rfl)⟩
theorem refRelease_spec (i : Int) : ACalls Try.prog F.catnapref8_Lines_Release [.ptr q 0, .int .i64 i] st fun r s => r = .int .i64 (releaseE ls i) ∧ RefAt base s q v0 v1 (releaseL ls i) ∧ Kept base st s := by
  refine calls_of_awp L.catnapref8_Lines_Release rfl ?_
  have hq := h.hq
  have hsl := h.s1.slen
  by_cases h0 : i < 0
  · have hn : ¬ isLn ls i := fun e => by have := e.1; omega
    simp only [↓Bp, Bq, Bs, ↓aop.eq_28, ↓aop.eq_30, Nat.reduceEqDiff, Nat.reduceAdd, Nat.reduceMul, Nat.reduceSub, Nat.reduceLeDiff, Nat.reduceLT, Int.reduceLT, Int.reduceLE, Int.reduceEq, Int.reduceToNat, Int.reduceAdd, Int.reduceSub, Int.reduceNeg, ↓reduceIte, reduceCtorEq, ↓C.catnapref8_Lines_Release_W, C.catnapref8_Lines_Release_B, C.catnapref8_Lines_Release, h0]
    rw [releaseE, if_neg hn, releaseL, if_neg (fun e => hn e.1)]
    exact ⟨rfl, h, Kept.refl _ _⟩
  by_cases h1 : (ls.length : Int) ≤ i
  · have hn : ¬ isLn ls i := fun e => by have := e.2; omega
    simp only [↓Bp, Bq, Bs, ↓aop.eq_28, ↓aop.eq_30, Nat.reduceEqDiff, Nat.reduceAdd, Nat.reduceMul, Nat.reduceSub, Nat.reduceLeDiff, Nat.reduceLT, Int.reduceLT, Int.reduceLE, Int.reduceEq, Int.reduceToNat, Int.reduceAdd, Int.reduceSub, Int.reduceNeg, ↓reduceIte, reduceCtorEq, ↓C.catnapref8_Lines_Release_W, C.catnapref8_Lines_Release_B, C.catnapref8_Lines_Release, h0, hq, hsl, h1, ge_iff_le]
    rw [releaseE, if_neg hn, releaseL, if_neg (fun e => hn e.1)]
    exact ⟨rfl, h, Kept.refl _ _⟩
  obtain ⟨k, rfl⟩ : ∃ k : Nat, i = k := ⟨i.toNat, by omega⟩
  have hk : k < ls.length := by omega
  have hz : (0:Int) ≤ (k : Int) ∧ (k : Int) < (ls.length : Nat) := by omega
  obtain ⟨il, ir, rfl, rfl, hil, hir⟩ := h.both (by omega)
  have hf : k * 3 + 3 ≤ (ls.flatMap rl).length := flatMap_fits (f := rl) (k := 3) rl_len hk
  have hf1 : k * 3 + 1 < (ls.flatMap rl).length := by omega
  have g0 : (ls.flatMap rl)[k * 3]? = some (.bool ls[k].held) := rows_get rl (w := 3) (fun _ => rfl) hk (j := 0) (by omega)
  rw [releaseE, if_pos (isLn_at hk), releaseL, lnOf_at hk, Int.toNat_natCast]
  by_cases hd : ls[k].held = true
  rotate_left
  · have hd' : ls[k].held = false := by simpa using hd
    rw [hd'] at g0
    simp only [↓Bp, Bq, Bs, ↓aop.eq_28, ↓aop.eq_30, Nat.reduceEqDiff, Nat.reduceAdd, Nat.reduceMul, Nat.reduceSub, Nat.reduceLeDiff, Nat.reduceLT, Int.reduceLT, Int.reduceLE, Int.reduceEq, Int.reduceToNat, Int.reduceAdd, Int.reduceSub, Int.reduceNeg, ↓reduceIte, reduceCtorEq, ↓C.catnapref8_Lines_Release_W, C.catnapref8_Lines_Release_B, C.catnapref8_Lines_Release, h0, hq, h1, hz, hir, g0, Int.toNat_natCast, Nat.mul_one, ge_iff_le]
    rw [if_neg hd, if_neg (fun e => hd e.2)]
    exact ⟨rfl, h, Kept.refl _ _⟩
  rw [hd] at g0
  simp only [↓Bp, Bq, Bs, ↓aop.eq_28, ↓aop.eq_30, Nat.reduceEqDiff, Nat.reduceAdd, Nat.reduceMul, Nat.reduceSub, Nat.reduceLeDiff, Nat.reduceLT, Int.reduceLT, Int.reduceLE, Int.reduceEq, Int.reduceToNat, Int.reduceAdd, Int.reduceSub, Int.reduceNeg, ↓reduceIte, reduceCtorEq, ↓C.catnapref8_Lines_Release_W, C.catnapref8_Lines_Release_B, C.catnapref8_Lines_Release, h0, hq, h1, hz, hir, g0, Int.toNat_natCast, Nat.mul_one, hf, hf1, ge_iff_le]
  rw [rl_put1 (j := 1) hk (by omega) (x := { ls[k] with wanted := true }) rfl, if_pos hd, if_pos ⟨isLn_at hk, hd⟩]
  exact ⟨rfl, h.put hir _ (by simp) (least_same hk rfl)⟩
end
end Go.Proofs.Ytkabdilikndhbaa.Cn
