/- Count: an act. -/
import Derived.Test.YtoblpialfhfdgaaCnCount3
set_option linter.unusedSimpArgs false
set_option linter.unusedVariables false
set_option linter.unusedSectionVars false
namespace Go.Proofs.Ytoblpialfhfdgaa.Cn
open Go Go.Proofs

def doneE (N : Gr) (f : Int → Int) (sl : Bool) (o : Nat) (i : Int) : Int := if o < 4 then getE N f sl i else if o < 8 then putE N f sl i else if o = 8 then (if sl = true then 6 else 0) else (if sl = true then 0 else 6)
def doneF (N : Gr) (f : Int → Int) (sl : Bool) (o : Nat) (i : Int) : Int → Int := if o < 4 then getF N f sl i else if o < 8 then putF N f sl i else f
def doneS (sl : Bool) (o : Nat) : Bool := if o < 8 then sl else if o = 8 then true else false
theorem Lim.done {N : Gr} {f : Int → Int} {sl : Bool} (h : Lim f) (o : Nat) (i : Int) : Lim (doneF N f sl o i) := by
  unfold doneF
  split
  · exact h.get i
  · split
    · exact h.put i
    · exact h
def actI (N : Gr) (b : Int) : Int := (pickI b (N.length + 2) : Int) - 1
theorem done_spec {st : ASt} {p m : Nat} {N : Gr} {f : Int → Int} {sl : Bool} (h : CAt st p m N f sl) (hl : Lim f) (hn : N.length ≤ 100) {a b : Int} (ha : I64 a) (hb : I64 b) :
    ACalls Try.prog F.q3 [.ptr p 0, .agg [.int .i64 a, .int .i64 b], .int .i64 N.length] st fun r s => r = .int .i64 (doneE N f sl (pickI a 10) (actI N b)) ∧ CAt s p m N (doneF N f sl (pickI a 10) (actI N b)) (doneS sl (pickI a 10)) ∧ Moved p m st s := by
  refine ACalls.gc (Q' := fun r s => ∃ i4, st.h i4 = none ∧ r = .int .i64 (doneE N f sl (pickI a 10) (actI N b)) ∧ CAt s p m N (doneF N f sl (pickI a 10) (actI N b)) (doneS sl (pickI a 10)) ∧ Moved p m (st.new i4 (.cells [.int .i64 a, .int .i64 b])) s) (calls_of_awp L.q3 rfl ?_) ?_
  rotate_left
  · rintro v s ⟨i4, h4, h1, h2, h3⟩
    have np : p ≠ i4 := by rintro rfl; rw [h.hp] at h4; cases h4
    have nm : m ≠ i4 := by rintro rfl; obtain ⟨es, e, _⟩ := h.hm; rw [e] at h4; cases h4
    refine ⟨s.kill i4, ASt.kill_le _ _, h1, ⟨by rw [ASt.kill_h, if_neg np]; exact h2.hp, ?_⟩, fun j j1 j2 => ?_⟩
    · obtain ⟨es, e1, e2⟩ := h2.hm
      exact ⟨es, by rw [ASt.kill_h, if_neg nm]; exact e1, e2⟩
    · rw [ASt.kill_h]
      split
      · rename_i e; subst e; exact h4.symm
      · rename_i e; rw [h3 j j1 j2, ASt.new_ne _ e]
  have w2 : IntKind.i64.wrap ((N.length : Int) + 2) = ((N.length + 2 : Nat) : Int) := by rw [wrap64] <;> omega
  have f2 : allLeaf [AV.int .i64 a, AV.int .i64 b] = true := rfl
  simp only [↓Bp, Bq, Bs, ↓aop.eq_28, ↓aop.eq_30, Nat.reduceEqDiff, Nat.reduceAdd, Nat.reduceMul, Nat.reduceSub, Nat.reduceLeDiff, Nat.reduceLT, Int.reduceLT, Int.reduceLE, Int.reduceEq, Int.reduceToNat, Int.reduceAdd, Int.reduceSub, Int.reduceNeg, ↓reduceIte, reduceCtorEq, ↓C.q3_r0_w, C.q3_r0_b, C.q3]
  rintro i4 h4
  have hself := ASt.new_self (.cells [.int .i64 a, .int .i64 b]) h4
  have hC := h.le (ASt.le.new st i4 (.cells [.int .i64 a, .int .i64 b]))
  generalize hst : st.new i4 (.cells [.int .i64 a, .int .i64 b]) = s0 at hself hC
  simp only [↓Bp, Bq, Bs, ↓aop.eq_28, ↓aop.eq_30, Nat.reduceEqDiff, Nat.reduceAdd, Nat.reduceMul, Nat.reduceSub, Nat.reduceLeDiff, Nat.reduceLT, Int.reduceLT, Int.reduceLE, Int.reduceEq, Int.reduceToNat, Int.reduceAdd, Int.reduceSub, Int.reduceNeg, ↓reduceIte, reduceCtorEq, ↓C.q3_W, C.q3_B, C.q3, hself, w2]
  refine (pick_spec hb (n := N.length + 2) (by omega)).mono ?_
  rintro r s ⟨rfl, rfl⟩
  have hkl := pickI_lt b (n := N.length + 2) (by omega)
  have w1 : IntKind.i64.wrap ((pickI b (N.length + 2) : Int) - 1) = actI N b := by rw [actI, wrap64] <;> omega
  simp only [↓Bp, Bq, Bs, ↓aop.eq_28, ↓aop.eq_30, Nat.reduceEqDiff, Nat.reduceAdd, Nat.reduceMul, Nat.reduceSub, Nat.reduceLeDiff, Nat.reduceLT, Int.reduceLT, Int.reduceLE, Int.reduceEq, Int.reduceToNat, Int.reduceAdd, Int.reduceSub, Int.reduceNeg, ↓reduceIte, reduceCtorEq, ↓C.q3_W, C.q3_B, C.q3, hself, w1]
  refine (pick_spec ha (n := 10) (by omega)).mono ?_
  rintro r s ⟨rfl, rfl⟩
  have hol := pickI_lt a (n := 10) (by omega)
  generalize pickI a 10 = o at hol
  generalize actI N b = i
  unfold doneE doneF doneS
  by_cases o4 : o < 4
  · have T := eq_true (show (o : Int) < 4 by omega)
    rw [if_pos o4, if_pos o4, if_pos (by omega)]
    simp only [↓Bp, Bq, Bs, ↓aop.eq_28, ↓aop.eq_30, Nat.reduceEqDiff, Nat.reduceAdd, Nat.reduceMul, Nat.reduceSub, Nat.reduceLeDiff, Nat.reduceLT, Int.reduceLT, Int.reduceLE, Int.reduceEq, Int.reduceToNat, Int.reduceAdd, Int.reduceSub, Int.reduceNeg, ↓reduceIte, reduceCtorEq, ↓C.q3_W, C.q3_B, C.q3, T]
    refine (get_spec hC (hl _)).mono ?_
    rintro r s1 ⟨rfl, h1, h2⟩
    simp only [↓Bp, Bq, Bs, ↓aop.eq_28, ↓aop.eq_30, Nat.reduceEqDiff, Nat.reduceAdd, Nat.reduceMul, Nat.reduceSub, Nat.reduceLeDiff, Nat.reduceLT, Int.reduceLT, Int.reduceLE, Int.reduceEq, Int.reduceToNat, Int.reduceAdd, Int.reduceSub, Int.reduceNeg, ↓reduceIte, reduceCtorEq, ↓C.q3_W, C.q3_B, C.q3]
    exact ⟨i4, h4, h1, by rw [hst]; exact h2⟩
  have T := eq_false (show ¬ (o : Int) < 4 by omega)
  rw [if_neg o4, if_neg o4]
  by_cases o8 : o < 8
  · have T8 := eq_true (show (o : Int) < 8 by omega)
    rw [if_pos o8, if_pos o8, if_pos o8]
    simp only [↓Bp, Bq, Bs, ↓aop.eq_28, ↓aop.eq_30, Nat.reduceEqDiff, Nat.reduceAdd, Nat.reduceMul, Nat.reduceSub, Nat.reduceLeDiff, Nat.reduceLT, Int.reduceLT, Int.reduceLE, Int.reduceEq, Int.reduceToNat, Int.reduceAdd, Int.reduceSub, Int.reduceNeg, ↓reduceIte, reduceCtorEq, ↓C.q3_W, C.q3_B, C.q3, T, T8]
    refine (put_spec hC (hl _)).mono ?_
    rintro r s1 ⟨rfl, h1, h2⟩
    simp only [↓Bp, Bq, Bs, ↓aop.eq_28, ↓aop.eq_30, Nat.reduceEqDiff, Nat.reduceAdd, Nat.reduceMul, Nat.reduceSub, Nat.reduceLeDiff, Nat.reduceLT, Int.reduceLT, Int.reduceLE, Int.reduceEq, Int.reduceToNat, Int.reduceAdd, Int.reduceSub, Int.reduceNeg, ↓reduceIte, reduceCtorEq, ↓C.q3_W, C.q3_B, C.q3]
    exact ⟨i4, h4, h1, by rw [hst]; exact h2⟩
  have T8 := eq_false (show ¬ (o : Int) < 8 by omega)
  rw [if_neg o8, if_neg o8, if_neg o8]
  by_cases o9 : o = 8
  · have T9 := eq_true (show (o : Int) = 8 by omega)
    rw [if_pos o9, if_pos o9]
    simp only [↓Bp, Bq, Bs, ↓aop.eq_28, ↓aop.eq_30, Nat.reduceEqDiff, Nat.reduceAdd, Nat.reduceMul, Nat.reduceSub, Nat.reduceLeDiff, Nat.reduceLT, Int.reduceLT, Int.reduceLE, Int.reduceEq, Int.reduceToNat, Int.reduceAdd, Int.reduceSub, Int.reduceNeg, ↓reduceIte, reduceCtorEq, ↓C.q3_W, C.q3_B, C.q3, T, T8, T9]
    refine (suspend_spec hC).mono ?_
    rintro r s1 ⟨rfl, h1, h2⟩
    simp only [↓Bp, Bq, Bs, ↓aop.eq_28, ↓aop.eq_30, Nat.reduceEqDiff, Nat.reduceAdd, Nat.reduceMul, Nat.reduceSub, Nat.reduceLeDiff, Nat.reduceLT, Int.reduceLT, Int.reduceLE, Int.reduceEq, Int.reduceToNat, Int.reduceAdd, Int.reduceSub, Int.reduceNeg, ↓reduceIte, reduceCtorEq, ↓C.q3_W, C.q3_B, C.q3]
    exact ⟨i4, h4, h1, by rw [hst]; exact h2⟩
  have T9 := eq_false (show ¬ (o : Int) = 8 by omega)
  rw [if_neg o9, if_neg o9]
  simp only [↓Bp, Bq, Bs, ↓aop.eq_28, ↓aop.eq_30, Nat.reduceEqDiff, Nat.reduceAdd, Nat.reduceMul, Nat.reduceSub, Nat.reduceLeDiff, Nat.reduceLT, Int.reduceLT, Int.reduceLE, Int.reduceEq, Int.reduceToNat, Int.reduceAdd, Int.reduceSub, Int.reduceNeg, ↓reduceIte, reduceCtorEq, ↓C.q3_W, C.q3_B, C.q3, T, T8, T9]
  refine (resume_spec hC).mono ?_
  rintro r s1 ⟨rfl, h1, h2⟩
  simp only [↓Bp, Bq, Bs, ↓aop.eq_28, ↓aop.eq_30, Nat.reduceEqDiff, Nat.reduceAdd, Nat.reduceMul, Nat.reduceSub, Nat.reduceLeDiff, Nat.reduceLT, Int.reduceLT, Int.reduceLE, Int.reduceEq, Int.reduceToNat, Int.reduceAdd, Int.reduceSub, Int.reduceNeg, ↓reduceIte, reduceCtorEq, ↓C.q3_W, C.q3_B, C.q3]
  exact ⟨i4, h4, h1, by rw [hst]; exact h2⟩
theorem CW.done {st s : ASt} {ib p m : Nat} {S : Soc} {f : Int → Int} {sl : Bool} (hS : S.like) (h : CW st s ib p m S f sl) {a b : Int} (ha : I64 a) (hb : I64 b) :
    ACalls Try.prog F.q3 [.ptr p 0, .agg [.int .i64 a, .int .i64 b], .int .i64 S.devs.length] s fun r t => r = .int .i64 (doneE S.need f sl (pickI a 10) (actI S.need b)) ∧ CW st t ib p m S (doneF S.need f sl (pickI a 10) (actI S.need b)) (doneS sl (pickI a 10)) := by
  have := hS.nv
  rw [← Soc.need_len]
  exact (done_spec h.c h.lim (by rw [Soc.need_len]; omega) ha hb).mono fun r t ⟨h1, h2, h3⟩ => ⟨h1, h.move h2 h3 (h.lim.done _ _)⟩
end Go.Proofs.Ytoblpialfhfdgaa.Cn
