/- Count: CountPlays. -/
import Derived.Test.YtoblpialfhfdgaaCnRef16b
set_option linter.unusedSimpArgs false
set_option linter.unusedVariables false
set_option linter.unusedSectionVars false
namespace Go.Proofs.Ytoblpialfhfdgaa.Cn
open Go Go.Proofs

/-- The document's counts in a law's hand. -/
structure RW (st s : ASt) (q j : Nat) (S : Soc) (f : Int → Int) (sl : Bool) : Prop where
  c : RAt s q j S.need f sl
  fq : st.h q = none
  fj : st.h j = none
theorem RW.step {st s t : ASt} {q j : Nat} {S : Soc} {f : Int → Int} {sl : Bool} (h : RW st s q j S f sl) (hl : s.le t) : RW st t q j S f sl := ⟨h.c.le hl, h.fq, h.fj⟩
theorem RW.keep {st s t : ASt} {q j a b : Nat} {S : Soc} {f : Int → Int} {sl : Bool} (h : RW st s q j S f sl) (hA : Apart q j a b) (hM : Moved a b s t) : RW st t q j S f sl :=
  ⟨⟨by rw [hM _ (Ne.symm hA.a) (Ne.symm hA.c)]; exact h.c.hq, by rw [hM _ (Ne.symm hA.b) (Ne.symm hA.d)]; exact h.c.hj, h.c.ne⟩, h.fq, h.fj⟩
/-- What is done with other blocks that were not there leaves all. -/
theorem CW.keep {st s t : ASt} {ib p m a b : Nat} {S : Soc} {f : Int → Int} {sl : Bool} (h : CW st s ib p m S f sl) (hA : Apart p m a b) (fa : st.h a = none) (fb : st.h b = none) (na : ib ≠ a) (nb : ib ≠ b) (hM : Moved a b s t) : CW st t ib p m S f sl :=
  ⟨fun j o hj => by
    rw [hM j (by rintro rfl; rw [fa] at hj; cases hj) (by rintro rfl; rw [fb] at hj; cases hj)]; exact h.le _ _ hj, by rw [hM _ na nb]; exact h.hb,
   ⟨by rw [hM _ (Ne.symm hA.a) (Ne.symm hA.c)]; exact h.c.hp, let ⟨es, e1, e2⟩ := h.c.hm; ⟨es, by rw [hM _ (Ne.symm hA.b) (Ne.symm hA.d)]; exact e1, e2⟩⟩, h.fp, h.fm, h.np, h.nm, h.lim⟩
/-- None was got that is not there. -/
def Out (N : Gr) (f : Int → Int) : Prop := ∀ i, ¬ isDv N i → f i = 0
theorem Out.get {N : Gr} {f : Int → Int} {sl : Bool} (h : Out N f) (i : Int) : Out N (getF N f sl i) := fun j hj => by
  unfold getF
  split
  · rename_i e
    unfold addF
    show (if j = i then f i + 1 else f j) = 0
    by_cases e2 : j = i
    · subst e2
      unfold getE at e
      split at e
      · cases e
      · cases e
    · rw [if_neg e2]; exact h j hj
  · exact h j hj
theorem Out.put {N : Gr} {f : Int → Int} {sl : Bool} (h : Out N f) (i : Int) : Out N (putF N f sl i) := fun j hj => by
  unfold putF
  split
  · rename_i e
    unfold addF
    show (if j = i then f i + -1 else f j) = 0
    by_cases e2 : j = i
    · subst e2
      unfold putE at e
      split at e
      · cases e
      · cases e
    · rw [if_neg e2]; exact h j hj
  · exact h j hj
theorem Out.done {N : Gr} {f : Int → Int} {sl : Bool} (h : Out N f) (o : Nat) (i : Int) : Out N (doneF N f sl o i) := by
  unfold doneF; split
  · exact h.get i
  · split
    · exact h.put i
    · exact h
theorem Out.at {N : Gr} {f : Int → Int} (h : Out N f) (i : Int) : (if isDv N i then f i else 0) = f i := by
  by_cases e : isDv N i
  · rw [if_pos e]
  · rw [if_neg e, h i e]
/-- Nothing but those four blocks is touched. -/
def Moved4 (p m q j : Nat) (s t : ASt) : Prop := ∀ x, x ≠ p → x ≠ m → x ≠ q → x ≠ j → t.h x = s.h x
theorem Moved.four {p m q j : Nat} {s t u : ASt} (h : Moved p m s t) (k : Moved q j t u) : Moved4 p m q j s u := fun x h1 h2 h3 h4 => (k x h3 h4).trans (h x h1 h2)
set_option maxHeartbeats 1000000 in
theorem does_spec {st : ASt} {p m q j : Nat} {N : Gr} {f : Int → Int} {sl : Bool} (h : CAt st p m N f sl) (k : RAt st q j N f sl) (hA : Apart p m q j) (hl : Lim f) (hn : N.length ≤ 100) {a b : Int} (ha : I64 a) (hb : I64 b) :
    ACalls Try.prog F.q2 [.ptr p 0, .ptr q 0, .agg [.int .i64 a, .int .i64 b], .int .i64 N.length] st fun r s => r = .bool true ∧ CAt s p m N (doneF N f sl (pickI a 10) (actI N b)) (doneS sl (pickI a 10)) ∧ RAt s q j N (doneF N f sl (pickI a 10) (actI N b)) (doneS sl (pickI a 10)) ∧ Moved4 p m q j st s := by
  refine ACalls.gc (Q' := fun r s => ∃ i4, st.h i4 = none ∧ r = .bool true ∧ CAt s p m N (doneF N f sl (pickI a 10) (actI N b)) (doneS sl (pickI a 10)) ∧ RAt s q j N (doneF N f sl (pickI a 10) (actI N b)) (doneS sl (pickI a 10)) ∧ Moved4 p m q j (st.new i4 (.cells [.int .i64 a, .int .i64 b])) s) (calls_of_awp L.q2 rfl ?_) ?_
  rotate_left
  · rintro v s ⟨i4, h4, h1, h2, k2, h3⟩
    have np : p ≠ i4 := by rintro rfl; rw [h.hp] at h4; cases h4
    have nm : m ≠ i4 := by rintro rfl; obtain ⟨es, e, _⟩ := h.hm; rw [e] at h4; cases h4
    have nq : q ≠ i4 := by rintro rfl; rw [k.hq] at h4; cases h4
    have nj : j ≠ i4 := by rintro rfl; rw [k.hj] at h4; cases h4
    refine ⟨s.kill i4, ASt.kill_le _ _, h1, ⟨by rw [ASt.kill_h, if_neg np]; exact h2.hp, ?_⟩, ⟨by rw [ASt.kill_h, if_neg nq]; exact k2.hq, by rw [ASt.kill_h, if_neg nj]; exact k2.hj, k2.ne⟩, fun x j1 j2 j3 j4 => ?_⟩
    · obtain ⟨es, e1, e2⟩ := h2.hm
      exact ⟨es, by rw [ASt.kill_h, if_neg nm]; exact e1, e2⟩
    · rw [ASt.kill_h]
      split
      · rename_i e; subst e; exact h4.symm
      · rename_i e; rw [h3 x j1 j2 j3 j4, ASt.new_ne _ e]
  have w2 : IntKind.i64.wrap ((N.length : Int) + 2) = ((N.length + 2 : Nat) : Int) := by rw [wrap64] <;> omega
  have f2 : allLeaf [AV.int .i64 a, AV.int .i64 b] = true := rfl
  have keepR : ∀ {s0 s1 : ASt} {f : Int → Int} {sl : Bool}, RAt s0 q j N f sl → Moved p m s0 s1 → RAt s1 q j N f sl := fun hr hM => ⟨by rw [hM _ hA.a hA.b]; exact hr.hq, by rw [hM _ hA.c hA.d]; exact hr.hj, hr.ne⟩
  have keepC : ∀ {s0 s1 : ASt} {f : Int → Int} {sl : Bool}, CAt s0 p m N f sl → Moved q j s0 s1 → CAt s1 p m N f sl := fun hc hM => ⟨by rw [hM _ (Ne.symm hA.a) (Ne.symm hA.c)]; exact hc.hp, let ⟨es, e1, e2⟩ := hc.hm; ⟨es, by rw [hM _ (Ne.symm hA.b) (Ne.symm hA.d)]; exact e1, e2⟩⟩
  simp only [↓Bp, Bq, Bs, ↓aop.eq_28, ↓aop.eq_30, Nat.reduceEqDiff, Nat.reduceAdd, Nat.reduceMul, Nat.reduceSub, Nat.reduceLeDiff, Nat.reduceLT, Int.reduceLT, Int.reduceLE, Int.reduceEq, Int.reduceToNat, Int.reduceAdd, Int.reduceSub, Int.reduceNeg, ↓reduceIte, reduceCtorEq, ↓C.q2_r0_w, C.q2_r0_b, C.q2]
  rintro i4 h4
  have hself := ASt.new_self (.cells [.int .i64 a, .int .i64 b]) h4
  have hC := h.le (ASt.le.new st i4 (.cells [.int .i64 a, .int .i64 b]))
  have hR := k.le (ASt.le.new st i4 (.cells [.int .i64 a, .int .i64 b]))
  generalize hst : st.new i4 (.cells [.int .i64 a, .int .i64 b]) = s0 at hself hC hR
  simp only [↓Bp, Bq, Bs, ↓aop.eq_28, ↓aop.eq_30, Nat.reduceEqDiff, Nat.reduceAdd, Nat.reduceMul, Nat.reduceSub, Nat.reduceLeDiff, Nat.reduceLT, Int.reduceLT, Int.reduceLE, Int.reduceEq, Int.reduceToNat, Int.reduceAdd, Int.reduceSub, Int.reduceNeg, ↓reduceIte, reduceCtorEq, ↓C.q2_W, C.q2_B, C.q2, hself, w2]
  refine (pick_spec hb (n := N.length + 2) (by omega)).mono ?_
  rintro r s ⟨rfl, rfl⟩
  have hkl := pickI_lt b (n := N.length + 2) (by omega)
  have w1 : IntKind.i64.wrap ((pickI b (N.length + 2) : Int) - 1) = actI N b := by rw [actI, wrap64] <;> omega
  simp only [↓Bp, Bq, Bs, ↓aop.eq_28, ↓aop.eq_30, Nat.reduceEqDiff, Nat.reduceAdd, Nat.reduceMul, Nat.reduceSub, Nat.reduceLeDiff, Nat.reduceLT, Int.reduceLT, Int.reduceLE, Int.reduceEq, Int.reduceToNat, Int.reduceAdd, Int.reduceSub, Int.reduceNeg, ↓reduceIte, reduceCtorEq, ↓C.q2_W, C.q2_B, C.q2, hself, w1]
  refine (pick_spec ha (n := 10) (by omega)).mono ?_
  rintro r s ⟨rfl, rfl⟩
  have hol := pickI_lt a (n := 10) (by omega)
  generalize pickI a 10 = o at hol
  generalize actI N b = i
  unfold doneF doneS
  by_cases o4 : o < 4
  · have T := eq_true (show (o : Int) < 4 by omega)
    rw [if_pos o4, if_pos (show o < 8 by omega)]
    simp only [↓Bp, Bq, Bs, ↓aop.eq_28, ↓aop.eq_30, Nat.reduceEqDiff, Nat.reduceAdd, Nat.reduceMul, Nat.reduceSub, Nat.reduceLeDiff, Nat.reduceLT, Int.reduceLT, Int.reduceLE, Int.reduceEq, Int.reduceToNat, Int.reduceAdd, Int.reduceSub, Int.reduceNeg, ↓reduceIte, reduceCtorEq, ↓C.q2_W, C.q2_B, C.q2, T]
    refine (get_spec hC (hl _)).mono ?_
    rintro r s1 ⟨rfl, h1, h2⟩
    simp only [↓Bp, Bq, Bs, ↓aop.eq_28, ↓aop.eq_30, Nat.reduceEqDiff, Nat.reduceAdd, Nat.reduceMul, Nat.reduceSub, Nat.reduceLeDiff, Nat.reduceLT, Int.reduceLT, Int.reduceLE, Int.reduceEq, Int.reduceToNat, Int.reduceAdd, Int.reduceSub, Int.reduceNeg, ↓reduceIte, reduceCtorEq, ↓C.q2_W, C.q2_B, C.q2]
    refine (rget_spec (keepR hR h2) (hl _)).mono ?_
    rintro r s2 ⟨rfl, h3, h5⟩
    simp only [↓Bp, Bq, Bs, ↓aop.eq_28, ↓aop.eq_30, Nat.reduceEqDiff, Nat.reduceAdd, Nat.reduceMul, Nat.reduceSub, Nat.reduceLeDiff, Nat.reduceLT, Int.reduceLT, Int.reduceLE, Int.reduceEq, Int.reduceToNat, Int.reduceAdd, Int.reduceSub, Int.reduceNeg, ↓reduceIte, reduceCtorEq, ↓C.q2_W, C.q2_B, C.q2]
    exact ⟨i4, h4, keepC h1 h5, h3, by rw [hst]; exact h2.four h5⟩
  have T := eq_false (show ¬ (o : Int) < 4 by omega)
  rw [if_neg o4]
  by_cases o8 : o < 8
  · have T8 := eq_true (show (o : Int) < 8 by omega)
    rw [if_pos o8, if_pos o8]
    simp only [↓Bp, Bq, Bs, ↓aop.eq_28, ↓aop.eq_30, Nat.reduceEqDiff, Nat.reduceAdd, Nat.reduceMul, Nat.reduceSub, Nat.reduceLeDiff, Nat.reduceLT, Int.reduceLT, Int.reduceLE, Int.reduceEq, Int.reduceToNat, Int.reduceAdd, Int.reduceSub, Int.reduceNeg, ↓reduceIte, reduceCtorEq, ↓C.q2_W, C.q2_B, C.q2, T, T8]
    refine (put_spec hC (hl _)).mono ?_
    rintro r s1 ⟨rfl, h1, h2⟩
    simp only [↓Bp, Bq, Bs, ↓aop.eq_28, ↓aop.eq_30, Nat.reduceEqDiff, Nat.reduceAdd, Nat.reduceMul, Nat.reduceSub, Nat.reduceLeDiff, Nat.reduceLT, Int.reduceLT, Int.reduceLE, Int.reduceEq, Int.reduceToNat, Int.reduceAdd, Int.reduceSub, Int.reduceNeg, ↓reduceIte, reduceCtorEq, ↓C.q2_W, C.q2_B, C.q2]
    refine (rput_spec (keepR hR h2) (hl _)).mono ?_
    rintro r s2 ⟨rfl, h3, h5⟩
    simp only [↓Bp, Bq, Bs, ↓aop.eq_28, ↓aop.eq_30, Nat.reduceEqDiff, Nat.reduceAdd, Nat.reduceMul, Nat.reduceSub, Nat.reduceLeDiff, Nat.reduceLT, Int.reduceLT, Int.reduceLE, Int.reduceEq, Int.reduceToNat, Int.reduceAdd, Int.reduceSub, Int.reduceNeg, ↓reduceIte, reduceCtorEq, ↓C.q2_W, C.q2_B, C.q2]
    exact ⟨i4, h4, keepC h1 h5, h3, by rw [hst]; exact h2.four h5⟩
  have T8 := eq_false (show ¬ (o : Int) < 8 by omega)
  rw [if_neg o8, if_neg o8]
  by_cases o9 : o = 8
  · have T9 := eq_true (show (o : Int) = 8 by omega)
    rw [if_pos o9]
    simp only [↓Bp, Bq, Bs, ↓aop.eq_28, ↓aop.eq_30, Nat.reduceEqDiff, Nat.reduceAdd, Nat.reduceMul, Nat.reduceSub, Nat.reduceLeDiff, Nat.reduceLT, Int.reduceLT, Int.reduceLE, Int.reduceEq, Int.reduceToNat, Int.reduceAdd, Int.reduceSub, Int.reduceNeg, ↓reduceIte, reduceCtorEq, ↓C.q2_W, C.q2_B, C.q2, T, T8, T9]
    refine (suspend_spec hC).mono ?_
    rintro r s1 ⟨rfl, h1, h2⟩
    simp only [↓Bp, Bq, Bs, ↓aop.eq_28, ↓aop.eq_30, Nat.reduceEqDiff, Nat.reduceAdd, Nat.reduceMul, Nat.reduceSub, Nat.reduceLeDiff, Nat.reduceLT, Int.reduceLT, Int.reduceLE, Int.reduceEq, Int.reduceToNat, Int.reduceAdd, Int.reduceSub, Int.reduceNeg, ↓reduceIte, reduceCtorEq, ↓C.q2_W, C.q2_B, C.q2]
    refine (rsuspend_spec (keepR hR h2)).mono ?_
    rintro r s2 ⟨rfl, h3, h5⟩
    simp only [↓Bp, Bq, Bs, ↓aop.eq_28, ↓aop.eq_30, Nat.reduceEqDiff, Nat.reduceAdd, Nat.reduceMul, Nat.reduceSub, Nat.reduceLeDiff, Nat.reduceLT, Int.reduceLT, Int.reduceLE, Int.reduceEq, Int.reduceToNat, Int.reduceAdd, Int.reduceSub, Int.reduceNeg, ↓reduceIte, reduceCtorEq, ↓C.q2_W, C.q2_B, C.q2]
    exact ⟨i4, h4, keepC h1 h5, h3, by rw [hst]; exact h2.four h5⟩
  have T9 := eq_false (show ¬ (o : Int) = 8 by omega)
  rw [if_neg o9]
  simp only [↓Bp, Bq, Bs, ↓aop.eq_28, ↓aop.eq_30, Nat.reduceEqDiff, Nat.reduceAdd, Nat.reduceMul, Nat.reduceSub, Nat.reduceLeDiff, Nat.reduceLT, Int.reduceLT, Int.reduceLE, Int.reduceEq, Int.reduceToNat, Int.reduceAdd, Int.reduceSub, Int.reduceNeg, ↓reduceIte, reduceCtorEq, ↓C.q2_W, C.q2_B, C.q2, T, T8, T9]
  refine (resume_spec hC).mono ?_
  rintro r s1 ⟨rfl, h1, h2⟩
  simp only [↓Bp, Bq, Bs, ↓aop.eq_28, ↓aop.eq_30, Nat.reduceEqDiff, Nat.reduceAdd, Nat.reduceMul, Nat.reduceSub, Nat.reduceLeDiff, Nat.reduceLT, Int.reduceLT, Int.reduceLE, Int.reduceEq, Int.reduceToNat, Int.reduceAdd, Int.reduceSub, Int.reduceNeg, ↓reduceIte, reduceCtorEq, ↓C.q2_W, C.q2_B, C.q2]
  refine (rresume_spec (keepR hR h2)).mono ?_
  rintro r s2 ⟨rfl, h3, h5⟩
  simp only [↓Bp, Bq, Bs, ↓aop.eq_28, ↓aop.eq_30, Nat.reduceEqDiff, Nat.reduceAdd, Nat.reduceMul, Nat.reduceSub, Nat.reduceLeDiff, Nat.reduceLT, Int.reduceLT, Int.reduceLE, Int.reduceEq, Int.reduceToNat, Int.reduceAdd, Int.reduceSub, Int.reduceNeg, ↓reduceIte, reduceCtorEq, ↓C.q2_W, C.q2_B, C.q2]
  exact ⟨i4, h4, keepC h1 h5, h3, by rw [hst]; exact h2.four h5⟩
/-- Both, and both copies, side by side. -/
structure P4 (st s : ASt) (ib p m q j : Nat) (S : Soc) (f : Int → Int) (sl : Bool) : Prop where
  c : CW st s ib p m S f sl
  r : RW st s q j S f sl
  a : Apart p m q j
  nq : ib ≠ q
  nj : ib ≠ j
  out : Out S.need f
theorem P4.dist {st s : ASt} {ib p m q j : Nat} {S : Soc} {f : Int → Int} {sl : Bool} (h : P4 st s ib p m q j S f sl) {x : Nat} (hx : s.h x = none) : x ≠ p ∧ x ≠ m ∧ x ≠ q ∧ x ≠ j := by
  have h1 := h.c.c.hp
  obtain ⟨es, h2, _⟩ := h.c.c.hm
  have h3 := h.r.c.hq
  have h4 := h.r.c.hj
  exact ⟨(by rintro rfl; rw [h1] at hx; cases hx), (by rintro rfl; rw [h2] at hx; cases hx), (by rintro rfl; rw [h3] at hx; cases hx), (by rintro rfl; rw [h4] at hx; cases hx)⟩
theorem P4.step {st s t : ASt} {ib p m q j : Nat} {S : Soc} {f : Int → Int} {sl : Bool} (h : P4 st s ib p m q j S f sl) (hl : s.le t) : P4 st t ib p m q j S f sl :=
  ⟨h.c.step hl, h.r.step hl, h.a, h.nq, h.nj, h.out⟩
theorem P4.move {st s t : ASt} {ib p m q j : Nat} {S : Soc} {f f' : Int → Int} {sl sl' : Bool} (h : P4 st s ib p m q j S f sl) (hC : CAt t p m S.need f' sl') (hR : RAt t q j S.need f' sl') (hM : Moved4 p m q j s t) (hl : Lim f') (ho : Out S.need f') : P4 st t ib p m q j S f' sl' :=
  ⟨⟨fun x o hx => by
    rw [hM x (by rintro rfl; rw [h.c.fp] at hx; cases hx) (by rintro rfl; rw [h.c.fm] at hx; cases hx) (by rintro rfl; rw [h.r.fq] at hx; cases hx) (by rintro rfl; rw [h.r.fj] at hx; cases hx)]; exact h.c.le _ _ hx,
    by rw [hM _ h.c.np h.c.nm h.nq h.nj]; exact h.c.hb, hC, h.c.fp, h.c.fm, h.c.np, h.c.nm, hl⟩, ⟨hR, h.r.fq, h.r.fj⟩, h.a, h.nq, h.nj, ho⟩
theorem P4.keep {st s t : ASt} {ib p m q j p2 m2 q2 j2 : Nat} {S : Soc} {f2 f' : Int → Int} {sl2 sl' : Bool} (k : P4 st s ib p2 m2 q2 j2 S f2 sl2) (h : P4 st t ib p m q j S f' sl') (hM : Moved4 p m q j s t)
    (d1 : p2 ≠ p ∧ p2 ≠ m ∧ p2 ≠ q ∧ p2 ≠ j) (d2 : m2 ≠ p ∧ m2 ≠ m ∧ m2 ≠ q ∧ m2 ≠ j) (d3 : q2 ≠ p ∧ q2 ≠ m ∧ q2 ≠ q ∧ q2 ≠ j) (d4 : j2 ≠ p ∧ j2 ≠ m ∧ j2 ≠ q ∧ j2 ≠ j) : P4 st t ib p2 m2 q2 j2 S f2 sl2 :=
  ⟨⟨h.c.le, h.c.hb, ⟨by rw [hM _ d1.1 d1.2.1 d1.2.2.1 d1.2.2.2]; exact k.c.c.hp, let ⟨es, e1, e2⟩ := k.c.c.hm; ⟨es, by rw [hM _ d2.1 d2.2.1 d2.2.2.1 d2.2.2.2]; exact e1, e2⟩⟩, k.c.fp, k.c.fm, k.c.np, k.c.nm, k.c.lim⟩,
   ⟨⟨by rw [hM _ d3.1 d3.2.1 d3.2.2.1 d3.2.2.2]; exact k.r.c.hq, by rw [hM _ d4.1 d4.2.1 d4.2.2.1 d4.2.2.2]; exact k.r.c.hj, k.r.c.ne⟩, k.r.fq, k.r.fj⟩, k.a, k.nq, k.nj, k.out⟩
section
variable {st : ASt} {ib p m q j : Nat} {S : Soc} (hS : S.like)
include hS
theorem ract {s : ASt} {q j : Nat} {f : Int → Int} {sl : Bool} (h : RW st s q j S f sl) (hl : Lim f) : ACalls Try.prog F.q7 [.ptr q 0] s fun r t => r = brow (useL S.need f sl) ∧ t = s :=
  ract_spec h.c hS.devG hS.need_few (by rw [Soc.need_len]; have := hS.nv; omega) hl
set_option maxHeartbeats 1000000 in
/-- What is counted. -/
theorem pl_ask {s : ASt} {f f0 : Int → Int} {sl sl0 : Bool} {va x8 x10 : AV} {i0 p2 m2 q2 j2 : Nat} (h : P4 st s ib p m q j S f sl) (k : P4 st s ib p2 m2 q2 j2 S f0 sl0) {Q : IExit → AFr → ASt → Prop}
    (hQ : ∀ fr, fr.keep [1, 6, 7, 8, 9, 10, 11] = [(1, va), (6, .ptr ib 0), (7, .ptr p 0), (8, x8), (9, .ptr q 0), (10, x10), (11, .int .i64 i0)] → Q .normal fr s) :
    awp Try.prog C.q0_c12 Q [(1, va), (6, .ptr ib 0), (7, .ptr p 0), (8, x8), (9, .ptr q 0), (10, x10), (11, .int .i64 i0), (12, .ptr p2 0), (13, .ptr q2 0)] s := by
  have hnv := hS.nv
  simp only [↓Bp, Bq, Bs, ↓aop.eq_28, ↓aop.eq_30, Nat.reduceEqDiff, Nat.reduceAdd, Nat.reduceMul, Nat.reduceSub, Nat.reduceLeDiff, Nat.reduceLT, Int.reduceLT, Int.reduceLE, Int.reduceEq, Int.reduceToNat, Int.reduceAdd, Int.reduceSub, Int.reduceNeg, ↓reduceIte, reduceCtorEq, ↓C.q0_W, C.q0_B, C.q0]
  refine awp_loopK (fun t : Nat => [(1, va), (6, .ptr ib 0), (7, .ptr p 0), (8, x8), (9, .ptr q 0), (10, x10), (11, .int .i64 i0), (12, .ptr p2 0), (13, .ptr q2 0), (14, .int .i64 ((t : Int) - 1))]) (fun t s' => t ≤ S.devs.length + 2 ∧ s' = s) (fun t => S.devs.length + 2 - t) 0 rfl ⟨Nat.zero_le _, rfl⟩ ?_
  rintro t s' ⟨ht, rfl⟩
  have hb := h.c.hb
  by_cases htl : t < S.devs.length + 2
  rotate_left
  · have htl' : ¬ ((t : Int) - 1) ≤ (S.devs.length : Nat) := by omega
    simp only [↓Bp, Bq, Bs, ↓aop.eq_28, ↓aop.eq_30, Nat.reduceEqDiff, Nat.reduceAdd, Nat.reduceMul, Nat.reduceSub, Nat.reduceLeDiff, Nat.reduceLT, Int.reduceLT, Int.reduceLE, Int.reduceEq, Int.reduceToNat, Int.reduceAdd, Int.reduceSub, Int.reduceNeg, ↓reduceIte, reduceCtorEq, ↓C.q0_W, C.q0_B, C.q0, htl', hb, Soc.cells, Soc.devV]
    exact hQ _ rfl
  have htl' : ((t : Int) - 1) ≤ (S.devs.length : Nat) := by omega
  have hw : IntKind.i64.wrap ((t : Int) - 1 + 1) = ((t + 1 : Nat) : Int) - 1 := by rw [wrap64] <;> omega
  simp only [↓Bp, Bq, Bs, ↓aop.eq_28, ↓aop.eq_30, Nat.reduceEqDiff, Nat.reduceAdd, Nat.reduceMul, Nat.reduceSub, Nat.reduceLeDiff, Nat.reduceLT, Int.reduceLT, Int.reduceLE, Int.reduceEq, Int.reduceToNat, Int.reduceAdd, Int.reduceSub, Int.reduceNeg, ↓reduceIte, reduceCtorEq, ↓C.q0_W, C.q0_B, C.q0, htl', hb, Soc.cells, Soc.devV]
  refine (cnt_spec h.c.c _).mono ?_
  rintro r s1 ⟨rfl, rfl⟩
  simp only [↓Bp, Bq, Bs, ↓aop.eq_28, ↓aop.eq_30, Nat.reduceEqDiff, Nat.reduceAdd, Nat.reduceMul, Nat.reduceSub, Nat.reduceLeDiff, Nat.reduceLT, Int.reduceLT, Int.reduceLE, Int.reduceEq, Int.reduceToNat, Int.reduceAdd, Int.reduceSub, Int.reduceNeg, ↓reduceIte, reduceCtorEq, ↓C.q0_W, C.q0_B, C.q0]
  refine (rcnt_spec h.r.c _).mono ?_
  rintro r s2 ⟨rfl, rfl⟩
  rw [h.out.at]
  simp only [↓Bp, Bq, Bs, ↓aop.eq_28, ↓aop.eq_30, Nat.reduceEqDiff, Nat.reduceAdd, Nat.reduceMul, Nat.reduceSub, Nat.reduceLeDiff, Nat.reduceLT, Int.reduceLT, Int.reduceLE, Int.reduceEq, Int.reduceToNat, Int.reduceAdd, Int.reduceSub, Int.reduceNeg, ↓reduceIte, reduceCtorEq, ↓C.q0_W, C.q0_B, C.q0]
  refine (cnt_spec k.c.c _).mono ?_
  rintro r s3 ⟨rfl, rfl⟩
  simp only [↓Bp, Bq, Bs, ↓aop.eq_28, ↓aop.eq_30, Nat.reduceEqDiff, Nat.reduceAdd, Nat.reduceMul, Nat.reduceSub, Nat.reduceLeDiff, Nat.reduceLT, Int.reduceLT, Int.reduceLE, Int.reduceEq, Int.reduceToNat, Int.reduceAdd, Int.reduceSub, Int.reduceNeg, ↓reduceIte, reduceCtorEq, ↓C.q0_W, C.q0_B, C.q0]
  refine (rcnt_spec k.r.c _).mono ?_
  rintro r s4 ⟨rfl, rfl⟩
  rw [k.out.at]
  simp only [↓Bp, Bq, Bs, ↓aop.eq_28, ↓aop.eq_30, Nat.reduceEqDiff, Nat.reduceAdd, Nat.reduceMul, Nat.reduceSub, Nat.reduceLeDiff, Nat.reduceLT, Int.reduceLT, Int.reduceLE, Int.reduceEq, Int.reduceToNat, Int.reduceAdd, Int.reduceSub, Int.reduceNeg, ↓reduceIte, reduceCtorEq, ↓C.q0_W, C.q0_B, C.q0, hw]
  exact ⟨t + 1, rfl, htl, by omega⟩
set_option maxHeartbeats 1000000 in
/-- Who is in use, and whether they sleep. -/
theorem pl_use {s : ASt} {f f0 : Int → Int} {sl sl0 : Bool} {va x8 x10 : AV} {i0 p2 m2 q2 j2 : Nat} (h : P4 st s ib p m q j S f sl) (k : P4 st s ib p2 m2 q2 j2 S f0 sl0) {Q : IExit → AFr → ASt → Prop}
    (hQ : ∀ fr, fr.keep [1, 6, 7, 8, 9, 10, 11] = [(1, va), (6, .ptr ib 0), (7, .ptr p 0), (8, x8), (9, .ptr q 0), (10, x10), (11, .int .i64 i0)] → Q .normal fr s) :
    awp Try.prog C.q0_c15 Q [(1, va), (6, .ptr ib 0), (7, .ptr p 0), (8, x8), (9, .ptr q 0), (10, x10), (11, .int .i64 i0), (12, .ptr p2 0), (13, .ptr q2 0)] s := by
  have hnv := hS.nv
  have hq := h.r.c.hq
  have hq2 := k.r.c.hq
  have eb : ∀ b : Bool, (true ^^ decide (b = b)) = false := fun b => by simp
  simp only [↓Bp, Bq, Bs, ↓aop.eq_28, ↓aop.eq_30, Nat.reduceEqDiff, Nat.reduceAdd, Nat.reduceMul, Nat.reduceSub, Nat.reduceLeDiff, Nat.reduceLT, Int.reduceLT, Int.reduceLE, Int.reduceEq, Int.reduceToNat, Int.reduceAdd, Int.reduceSub, Int.reduceNeg, ↓reduceIte, reduceCtorEq, ↓C.q0_r21_w, C.q0_r21_b, ↓C.q0_c1_w, ↓C.q0_r9_w, C.q0_r9_b, ↓C.q0_c2_w, ↓C.q0_r18_w, C.q0_r18_b, ↓C.q0_c3_w, ↓C.q0_r20_w, C.q0_r20_b, ↓C.q0_c4_w, ↓C.q0_c5_w, ↓C.q0_r19_w, C.q0_r19_b, ↓C.q0_b6_w, ↓C.q0_c7_w, ↓C.q0_c8_w, ↓C.q0_r17_w, C.q0_r17_b, ↓C.q0_b10_w, ↓C.q0_c11_w, ↓C.q0_r16_w, C.q0_r16_b, ↓C.q0_c12_w, ↓C.q0_r14_w, C.q0_r14_b, ↓C.q0_c15_w, ↓C.q0_r13_w, C.q0_r13_b, ↓C.q0_c16_w, ↓C.q0_c17_w, ↓C.q0_r12_w, C.q0_r12_b, ↓C.q0_c18_w, ↓C.q0_r11_w, C.q0_r11_b, ↓C.q0_c19_w, ↓C.q0_r10_w, C.q0_r10_b, ↓C.q0_b20_w, ↓C.q0_c21_w, ↓C.q0_c22_w, ↓C.q0_r8_w, C.q0_r8_b, ↓C.q0_b24_w, ↓C.q0_c25_w, ↓C.q0_r7_w, C.q0_r7_b, ↓C.q0_c26_w, ↓C.q0_r6_w, C.q0_r6_b, ↓C.q0_c27_w, ↓C.q0_c28_w, ↓C.q0_r5_w, C.q0_r5_b, ↓C.q0_c29_w, ↓C.q0_r4_w, C.q0_r4_b, ↓C.q0_c30_w, ↓C.q0_r3_w, C.q0_r3_b, ↓C.q0_c31_w, ↓C.q0_r2_w, C.q0_r2_b, ↓C.q0_c32_w, ↓C.q0_r1_w, C.q0_r1_b, ↓C.q0_c33_w, ↓C.q0_r0_w, C.q0_r0_b, C.q0]
  refine (act_spec hS h.c).mono ?_
  rintro r s1 ⟨rfl, rfl⟩
  simp only [↓Bp, Bq, Bs, ↓aop.eq_28, ↓aop.eq_30, Nat.reduceEqDiff, Nat.reduceAdd, Nat.reduceMul, Nat.reduceSub, Nat.reduceLeDiff, Nat.reduceLT, Int.reduceLT, Int.reduceLE, Int.reduceEq, Int.reduceToNat, Int.reduceAdd, Int.reduceSub, Int.reduceNeg, ↓reduceIte, reduceCtorEq, ↓C.q0_r21_w, C.q0_r21_b, ↓C.q0_c1_w, ↓C.q0_r9_w, C.q0_r9_b, ↓C.q0_c2_w, ↓C.q0_r18_w, C.q0_r18_b, ↓C.q0_c3_w, ↓C.q0_r20_w, C.q0_r20_b, ↓C.q0_c4_w, ↓C.q0_c5_w, ↓C.q0_r19_w, C.q0_r19_b, ↓C.q0_b6_w, ↓C.q0_c7_w, ↓C.q0_c8_w, ↓C.q0_r17_w, C.q0_r17_b, ↓C.q0_b10_w, ↓C.q0_c11_w, ↓C.q0_r16_w, C.q0_r16_b, ↓C.q0_c12_w, ↓C.q0_r14_w, C.q0_r14_b, ↓C.q0_c15_w, ↓C.q0_r13_w, C.q0_r13_b, ↓C.q0_c16_w, ↓C.q0_c17_w, ↓C.q0_r12_w, C.q0_r12_b, ↓C.q0_c18_w, ↓C.q0_r11_w, C.q0_r11_b, ↓C.q0_c19_w, ↓C.q0_r10_w, C.q0_r10_b, ↓C.q0_b20_w, ↓C.q0_c21_w, ↓C.q0_c22_w, ↓C.q0_r8_w, C.q0_r8_b, ↓C.q0_b24_w, ↓C.q0_c25_w, ↓C.q0_r7_w, C.q0_r7_b, ↓C.q0_c26_w, ↓C.q0_r6_w, C.q0_r6_b, ↓C.q0_c27_w, ↓C.q0_c28_w, ↓C.q0_r5_w, C.q0_r5_b, ↓C.q0_c29_w, ↓C.q0_r4_w, C.q0_r4_b, ↓C.q0_c30_w, ↓C.q0_r3_w, C.q0_r3_b, ↓C.q0_c31_w, ↓C.q0_r2_w, C.q0_r2_b, ↓C.q0_c32_w, ↓C.q0_r1_w, C.q0_r1_b, ↓C.q0_c33_w, ↓C.q0_r0_w, C.q0_r0_b, C.q0]
  refine (ract hS h.r h.c.lim).mono ?_
  rintro r s1 ⟨rfl, rfl⟩
  simp only [↓Bp, Bq, Bs, ↓aop.eq_28, ↓aop.eq_30, Nat.reduceEqDiff, Nat.reduceAdd, Nat.reduceMul, Nat.reduceSub, Nat.reduceLeDiff, Nat.reduceLT, Int.reduceLT, Int.reduceLE, Int.reduceEq, Int.reduceToNat, Int.reduceAdd, Int.reduceSub, Int.reduceNeg, ↓reduceIte, reduceCtorEq, ↓C.q0_r21_w, C.q0_r21_b, ↓C.q0_c1_w, ↓C.q0_r9_w, C.q0_r9_b, ↓C.q0_c2_w, ↓C.q0_r18_w, C.q0_r18_b, ↓C.q0_c3_w, ↓C.q0_r20_w, C.q0_r20_b, ↓C.q0_c4_w, ↓C.q0_c5_w, ↓C.q0_r19_w, C.q0_r19_b, ↓C.q0_b6_w, ↓C.q0_c7_w, ↓C.q0_c8_w, ↓C.q0_r17_w, C.q0_r17_b, ↓C.q0_b10_w, ↓C.q0_c11_w, ↓C.q0_r16_w, C.q0_r16_b, ↓C.q0_c12_w, ↓C.q0_r14_w, C.q0_r14_b, ↓C.q0_c15_w, ↓C.q0_r13_w, C.q0_r13_b, ↓C.q0_c16_w, ↓C.q0_c17_w, ↓C.q0_r12_w, C.q0_r12_b, ↓C.q0_c18_w, ↓C.q0_r11_w, C.q0_r11_b, ↓C.q0_c19_w, ↓C.q0_r10_w, C.q0_r10_b, ↓C.q0_b20_w, ↓C.q0_c21_w, ↓C.q0_c22_w, ↓C.q0_r8_w, C.q0_r8_b, ↓C.q0_b24_w, ↓C.q0_c25_w, ↓C.q0_r7_w, C.q0_r7_b, ↓C.q0_c26_w, ↓C.q0_r6_w, C.q0_r6_b, ↓C.q0_c27_w, ↓C.q0_c28_w, ↓C.q0_r5_w, C.q0_r5_b, ↓C.q0_c29_w, ↓C.q0_r4_w, C.q0_r4_b, ↓C.q0_c30_w, ↓C.q0_r3_w, C.q0_r3_b, ↓C.q0_c31_w, ↓C.q0_r2_w, C.q0_r2_b, ↓C.q0_c32_w, ↓C.q0_r1_w, C.q0_r1_b, ↓C.q0_c33_w, ↓C.q0_r0_w, C.q0_r0_b, C.q0]
  refine (sameB_spec (by rw [useL_len, Soc.need_len]; omega)).mono ?_
  rintro r s1 ⟨rfl, rfl⟩
  rw [decide_eq_true rfl]
  simp only [↓Bp, Bq, Bs, ↓aop.eq_28, ↓aop.eq_30, Nat.reduceEqDiff, Nat.reduceAdd, Nat.reduceMul, Nat.reduceSub, Nat.reduceLeDiff, Nat.reduceLT, Int.reduceLT, Int.reduceLE, Int.reduceEq, Int.reduceToNat, Int.reduceAdd, Int.reduceSub, Int.reduceNeg, ↓reduceIte, reduceCtorEq, ↓C.q0_r21_w, C.q0_r21_b, ↓C.q0_c1_w, ↓C.q0_r9_w, C.q0_r9_b, ↓C.q0_c2_w, ↓C.q0_r18_w, C.q0_r18_b, ↓C.q0_c3_w, ↓C.q0_r20_w, C.q0_r20_b, ↓C.q0_c4_w, ↓C.q0_c5_w, ↓C.q0_r19_w, C.q0_r19_b, ↓C.q0_b6_w, ↓C.q0_c7_w, ↓C.q0_c8_w, ↓C.q0_r17_w, C.q0_r17_b, ↓C.q0_b10_w, ↓C.q0_c11_w, ↓C.q0_r16_w, C.q0_r16_b, ↓C.q0_c12_w, ↓C.q0_r14_w, C.q0_r14_b, ↓C.q0_c15_w, ↓C.q0_r13_w, C.q0_r13_b, ↓C.q0_c16_w, ↓C.q0_c17_w, ↓C.q0_r12_w, C.q0_r12_b, ↓C.q0_c18_w, ↓C.q0_r11_w, C.q0_r11_b, ↓C.q0_c19_w, ↓C.q0_r10_w, C.q0_r10_b, ↓C.q0_b20_w, ↓C.q0_c21_w, ↓C.q0_c22_w, ↓C.q0_r8_w, C.q0_r8_b, ↓C.q0_b24_w, ↓C.q0_c25_w, ↓C.q0_r7_w, C.q0_r7_b, ↓C.q0_c26_w, ↓C.q0_r6_w, C.q0_r6_b, ↓C.q0_c27_w, ↓C.q0_c28_w, ↓C.q0_r5_w, C.q0_r5_b, ↓C.q0_c29_w, ↓C.q0_r4_w, C.q0_r4_b, ↓C.q0_c30_w, ↓C.q0_r3_w, C.q0_r3_b, ↓C.q0_c31_w, ↓C.q0_r2_w, C.q0_r2_b, ↓C.q0_c32_w, ↓C.q0_r1_w, C.q0_r1_b, ↓C.q0_c33_w, ↓C.q0_r0_w, C.q0_r0_b, C.q0, hq]
  refine (asleep_spec h.c.c).mono ?_
  rintro r s1 ⟨rfl, rfl⟩
  simp only [↓Bp, Bq, Bs, ↓aop.eq_28, ↓aop.eq_30, Nat.reduceEqDiff, Nat.reduceAdd, Nat.reduceMul, Nat.reduceSub, Nat.reduceLeDiff, Nat.reduceLT, Int.reduceLT, Int.reduceLE, Int.reduceEq, Int.reduceToNat, Int.reduceAdd, Int.reduceSub, Int.reduceNeg, ↓reduceIte, reduceCtorEq, ↓C.q0_r21_w, C.q0_r21_b, ↓C.q0_c1_w, ↓C.q0_r9_w, C.q0_r9_b, ↓C.q0_c2_w, ↓C.q0_r18_w, C.q0_r18_b, ↓C.q0_c3_w, ↓C.q0_r20_w, C.q0_r20_b, ↓C.q0_c4_w, ↓C.q0_c5_w, ↓C.q0_r19_w, C.q0_r19_b, ↓C.q0_b6_w, ↓C.q0_c7_w, ↓C.q0_c8_w, ↓C.q0_r17_w, C.q0_r17_b, ↓C.q0_b10_w, ↓C.q0_c11_w, ↓C.q0_r16_w, C.q0_r16_b, ↓C.q0_c12_w, ↓C.q0_r14_w, C.q0_r14_b, ↓C.q0_c15_w, ↓C.q0_r13_w, C.q0_r13_b, ↓C.q0_c16_w, ↓C.q0_c17_w, ↓C.q0_r12_w, C.q0_r12_b, ↓C.q0_c18_w, ↓C.q0_r11_w, C.q0_r11_b, ↓C.q0_c19_w, ↓C.q0_r10_w, C.q0_r10_b, ↓C.q0_b20_w, ↓C.q0_c21_w, ↓C.q0_c22_w, ↓C.q0_r8_w, C.q0_r8_b, ↓C.q0_b24_w, ↓C.q0_c25_w, ↓C.q0_r7_w, C.q0_r7_b, ↓C.q0_c26_w, ↓C.q0_r6_w, C.q0_r6_b, ↓C.q0_c27_w, ↓C.q0_c28_w, ↓C.q0_r5_w, C.q0_r5_b, ↓C.q0_c29_w, ↓C.q0_r4_w, C.q0_r4_b, ↓C.q0_c30_w, ↓C.q0_r3_w, C.q0_r3_b, ↓C.q0_c31_w, ↓C.q0_r2_w, C.q0_r2_b, ↓C.q0_c32_w, ↓C.q0_r1_w, C.q0_r1_b, ↓C.q0_c33_w, ↓C.q0_r0_w, C.q0_r0_b, C.q0, hq, eb]
  refine ⟨fun _ => trivial, (act_spec hS k.c).mono ?_⟩
  rintro r s1 ⟨rfl, rfl⟩
  simp only [↓Bp, Bq, Bs, ↓aop.eq_28, ↓aop.eq_30, Nat.reduceEqDiff, Nat.reduceAdd, Nat.reduceMul, Nat.reduceSub, Nat.reduceLeDiff, Nat.reduceLT, Int.reduceLT, Int.reduceLE, Int.reduceEq, Int.reduceToNat, Int.reduceAdd, Int.reduceSub, Int.reduceNeg, ↓reduceIte, reduceCtorEq, ↓C.q0_r21_w, C.q0_r21_b, ↓C.q0_c1_w, ↓C.q0_r9_w, C.q0_r9_b, ↓C.q0_c2_w, ↓C.q0_r18_w, C.q0_r18_b, ↓C.q0_c3_w, ↓C.q0_r20_w, C.q0_r20_b, ↓C.q0_c4_w, ↓C.q0_c5_w, ↓C.q0_r19_w, C.q0_r19_b, ↓C.q0_b6_w, ↓C.q0_c7_w, ↓C.q0_c8_w, ↓C.q0_r17_w, C.q0_r17_b, ↓C.q0_b10_w, ↓C.q0_c11_w, ↓C.q0_r16_w, C.q0_r16_b, ↓C.q0_c12_w, ↓C.q0_r14_w, C.q0_r14_b, ↓C.q0_c15_w, ↓C.q0_r13_w, C.q0_r13_b, ↓C.q0_c16_w, ↓C.q0_c17_w, ↓C.q0_r12_w, C.q0_r12_b, ↓C.q0_c18_w, ↓C.q0_r11_w, C.q0_r11_b, ↓C.q0_c19_w, ↓C.q0_r10_w, C.q0_r10_b, ↓C.q0_b20_w, ↓C.q0_c21_w, ↓C.q0_c22_w, ↓C.q0_r8_w, C.q0_r8_b, ↓C.q0_b24_w, ↓C.q0_c25_w, ↓C.q0_r7_w, C.q0_r7_b, ↓C.q0_c26_w, ↓C.q0_r6_w, C.q0_r6_b, ↓C.q0_c27_w, ↓C.q0_c28_w, ↓C.q0_r5_w, C.q0_r5_b, ↓C.q0_c29_w, ↓C.q0_r4_w, C.q0_r4_b, ↓C.q0_c30_w, ↓C.q0_r3_w, C.q0_r3_b, ↓C.q0_c31_w, ↓C.q0_r2_w, C.q0_r2_b, ↓C.q0_c32_w, ↓C.q0_r1_w, C.q0_r1_b, ↓C.q0_c33_w, ↓C.q0_r0_w, C.q0_r0_b, C.q0]
  refine (ract hS k.r k.c.lim).mono ?_
  rintro r s1 ⟨rfl, rfl⟩
  simp only [↓Bp, Bq, Bs, ↓aop.eq_28, ↓aop.eq_30, Nat.reduceEqDiff, Nat.reduceAdd, Nat.reduceMul, Nat.reduceSub, Nat.reduceLeDiff, Nat.reduceLT, Int.reduceLT, Int.reduceLE, Int.reduceEq, Int.reduceToNat, Int.reduceAdd, Int.reduceSub, Int.reduceNeg, ↓reduceIte, reduceCtorEq, ↓C.q0_r21_w, C.q0_r21_b, ↓C.q0_c1_w, ↓C.q0_r9_w, C.q0_r9_b, ↓C.q0_c2_w, ↓C.q0_r18_w, C.q0_r18_b, ↓C.q0_c3_w, ↓C.q0_r20_w, C.q0_r20_b, ↓C.q0_c4_w, ↓C.q0_c5_w, ↓C.q0_r19_w, C.q0_r19_b, ↓C.q0_b6_w, ↓C.q0_c7_w, ↓C.q0_c8_w, ↓C.q0_r17_w, C.q0_r17_b, ↓C.q0_b10_w, ↓C.q0_c11_w, ↓C.q0_r16_w, C.q0_r16_b, ↓C.q0_c12_w, ↓C.q0_r14_w, C.q0_r14_b, ↓C.q0_c15_w, ↓C.q0_r13_w, C.q0_r13_b, ↓C.q0_c16_w, ↓C.q0_c17_w, ↓C.q0_r12_w, C.q0_r12_b, ↓C.q0_c18_w, ↓C.q0_r11_w, C.q0_r11_b, ↓C.q0_c19_w, ↓C.q0_r10_w, C.q0_r10_b, ↓C.q0_b20_w, ↓C.q0_c21_w, ↓C.q0_c22_w, ↓C.q0_r8_w, C.q0_r8_b, ↓C.q0_b24_w, ↓C.q0_c25_w, ↓C.q0_r7_w, C.q0_r7_b, ↓C.q0_c26_w, ↓C.q0_r6_w, C.q0_r6_b, ↓C.q0_c27_w, ↓C.q0_c28_w, ↓C.q0_r5_w, C.q0_r5_b, ↓C.q0_c29_w, ↓C.q0_r4_w, C.q0_r4_b, ↓C.q0_c30_w, ↓C.q0_r3_w, C.q0_r3_b, ↓C.q0_c31_w, ↓C.q0_r2_w, C.q0_r2_b, ↓C.q0_c32_w, ↓C.q0_r1_w, C.q0_r1_b, ↓C.q0_c33_w, ↓C.q0_r0_w, C.q0_r0_b, C.q0]
  refine (sameB_spec (by rw [useL_len, Soc.need_len]; omega)).mono ?_
  rintro r s1 ⟨rfl, rfl⟩
  rw [decide_eq_true rfl]
  simp only [↓Bp, Bq, Bs, ↓aop.eq_28, ↓aop.eq_30, Nat.reduceEqDiff, Nat.reduceAdd, Nat.reduceMul, Nat.reduceSub, Nat.reduceLeDiff, Nat.reduceLT, Int.reduceLT, Int.reduceLE, Int.reduceEq, Int.reduceToNat, Int.reduceAdd, Int.reduceSub, Int.reduceNeg, ↓reduceIte, reduceCtorEq, ↓C.q0_r21_w, C.q0_r21_b, ↓C.q0_c1_w, ↓C.q0_r9_w, C.q0_r9_b, ↓C.q0_c2_w, ↓C.q0_r18_w, C.q0_r18_b, ↓C.q0_c3_w, ↓C.q0_r20_w, C.q0_r20_b, ↓C.q0_c4_w, ↓C.q0_c5_w, ↓C.q0_r19_w, C.q0_r19_b, ↓C.q0_b6_w, ↓C.q0_c7_w, ↓C.q0_c8_w, ↓C.q0_r17_w, C.q0_r17_b, ↓C.q0_b10_w, ↓C.q0_c11_w, ↓C.q0_r16_w, C.q0_r16_b, ↓C.q0_c12_w, ↓C.q0_r14_w, C.q0_r14_b, ↓C.q0_c15_w, ↓C.q0_r13_w, C.q0_r13_b, ↓C.q0_c16_w, ↓C.q0_c17_w, ↓C.q0_r12_w, C.q0_r12_b, ↓C.q0_c18_w, ↓C.q0_r11_w, C.q0_r11_b, ↓C.q0_c19_w, ↓C.q0_r10_w, C.q0_r10_b, ↓C.q0_b20_w, ↓C.q0_c21_w, ↓C.q0_c22_w, ↓C.q0_r8_w, C.q0_r8_b, ↓C.q0_b24_w, ↓C.q0_c25_w, ↓C.q0_r7_w, C.q0_r7_b, ↓C.q0_c26_w, ↓C.q0_r6_w, C.q0_r6_b, ↓C.q0_c27_w, ↓C.q0_c28_w, ↓C.q0_r5_w, C.q0_r5_b, ↓C.q0_c29_w, ↓C.q0_r4_w, C.q0_r4_b, ↓C.q0_c30_w, ↓C.q0_r3_w, C.q0_r3_b, ↓C.q0_c31_w, ↓C.q0_r2_w, C.q0_r2_b, ↓C.q0_c32_w, ↓C.q0_r1_w, C.q0_r1_b, ↓C.q0_c33_w, ↓C.q0_r0_w, C.q0_r0_b, C.q0, hq2]
  refine (asleep_spec k.c.c).mono ?_
  rintro r s1 ⟨rfl, rfl⟩
  simp only [↓Bp, Bq, Bs, ↓aop.eq_28, ↓aop.eq_30, Nat.reduceEqDiff, Nat.reduceAdd, Nat.reduceMul, Nat.reduceSub, Nat.reduceLeDiff, Nat.reduceLT, Int.reduceLT, Int.reduceLE, Int.reduceEq, Int.reduceToNat, Int.reduceAdd, Int.reduceSub, Int.reduceNeg, ↓reduceIte, reduceCtorEq, ↓C.q0_r21_w, C.q0_r21_b, ↓C.q0_c1_w, ↓C.q0_r9_w, C.q0_r9_b, ↓C.q0_c2_w, ↓C.q0_r15_w, C.q0_r15_b, ↓C.q0_c13_w, ↓C.q0_c14_w, ↓C.q0_r14_w, C.q0_r14_b, ↓C.q0_c15_w, ↓C.q0_r13_w, C.q0_r13_b, ↓C.q0_c16_w, ↓C.q0_c17_w, ↓C.q0_r12_w, C.q0_r12_b, ↓C.q0_c18_w, ↓C.q0_r11_w, C.q0_r11_b, ↓C.q0_c19_w, ↓C.q0_r10_w, C.q0_r10_b, ↓C.q0_b20_w, ↓C.q0_c21_w, ↓C.q0_c22_w, ↓C.q0_r8_w, C.q0_r8_b, ↓C.q0_b24_w, ↓C.q0_c25_w, ↓C.q0_r7_w, C.q0_r7_b, ↓C.q0_c26_w, ↓C.q0_r6_w, C.q0_r6_b, ↓C.q0_c27_w, ↓C.q0_c28_w, ↓C.q0_r5_w, C.q0_r5_b, ↓C.q0_c29_w, ↓C.q0_r4_w, C.q0_r4_b, ↓C.q0_c30_w, ↓C.q0_r3_w, C.q0_r3_b, ↓C.q0_c31_w, ↓C.q0_r2_w, C.q0_r2_b, ↓C.q0_c32_w, ↓C.q0_r1_w, C.q0_r1_b, ↓C.q0_c33_w, ↓C.q0_r0_w, C.q0_r0_b, C.q0, hq2, eb]
  refine ⟨fun _ => trivial, ?_⟩
  rw [C.q0_c12_w, awp_keep]
  exact pl_ask hS h k hQ
set_option maxHeartbeats 2000000 in
theorem pl_loop {s : ASt} {acts : List Pair} (hac : ∀ x ∈ acts, I64 x.a ∧ I64 x.b) (hal : acts.length ≤ 150) {f : Int → Int} {sl : Bool} (h : P4 st s ib p m q j S f sl) :
    awp Try.prog C.q0_c26 (Post [.slot 4] fun r s => r = .bool true ∧ st.le s)
      [(1, .isl 2 (acts.flatMap encPair) acts.length), (6, .ptr ib 0), (7, .ptr p 0), (8, .int .i64 0), (9, .ptr q 0), (10, .int .i64 0)] s := by
  have hnv := hS.nv
  have hnl := S.need_len
  simp only [↓Bp, Bq, Bs, ↓aop.eq_28, ↓aop.eq_30, Nat.reduceEqDiff, Nat.reduceAdd, Nat.reduceMul, Nat.reduceSub, Nat.reduceLeDiff, Nat.reduceLT, Int.reduceLT, Int.reduceLE, Int.reduceEq, Int.reduceToNat, Int.reduceAdd, Int.reduceSub, Int.reduceNeg, ↓reduceIte, reduceCtorEq, ↓C.q0_W, C.q0_B, C.q0]
  refine awp_midB (fun _ : Unit => [(8, .int .i64 0), (10, .int .i64 0)]) (fun _ s => st.le s) ?_ ?_
  rotate_left
  · rintro - s hs
    simp only [↓Bp, Bq, Bs, ↓aop.eq_28, ↓aop.eq_30, Nat.reduceEqDiff, Nat.reduceAdd, Nat.reduceMul, Nat.reduceSub, Nat.reduceLeDiff, Nat.reduceLT, Int.reduceLT, Int.reduceLE, Int.reduceEq, Int.reduceToNat, Int.reduceAdd, Int.reduceSub, Int.reduceNeg, ↓reduceIte, reduceCtorEq, ↓C.q0_W, C.q0_B, C.q0]
    exact hs
  refine awp_loopK (fun t : Nat => [(1, .isl 2 (acts.flatMap encPair) acts.length), (6, .ptr ib 0), (7, .ptr p 0), (8, .int .i64 0), (9, .ptr q 0), (10, .int .i64 0), (11, .int .i64 t)])
    (fun t s => t ≤ acts.length ∧ ∃ f sl, P4 st s ib p m q j S f sl) (fun t => acts.length - t) 0 rfl ⟨Nat.zero_le _, f, sl, h⟩ ?_
  clear h f sl s
  rintro t s ⟨ht, f, sl, h⟩
  have hb := h.c.hb
  by_cases htl : t < acts.length
  rotate_left
  · have htl' : ¬ (t : Int) < (acts.length : Nat) := by omega
    simp only [↓Bp, Bq, Bs, ↓aop.eq_28, ↓aop.eq_30, Nat.reduceEqDiff, Nat.reduceAdd, Nat.reduceMul, Nat.reduceSub, Nat.reduceLeDiff, Nat.reduceLT, Int.reduceLT, Int.reduceLE, Int.reduceEq, Int.reduceToNat, Int.reduceAdd, Int.reduceSub, Int.reduceNeg, ↓reduceIte, reduceCtorEq, ↓C.q0_W, C.q0_B, C.q0, htl']
    exact ⟨(), h.c.le⟩
  have htl' : (t : Int) < (acts.length : Nat) := by omega
  have hw := wsucc htl (by omega)
  have hz2 : (0:Int) ≤ (t : Int) ∧ (t : Int) < (acts.length : Nat) := by omega
  have hf := flatMap_fits (f := encPair) (k := 2) (fun _ => rfl) htl
  have hat := flatMap_at (f := encPair) (k := 2) (fun _ => rfl) htl
  have hIa := hac _ (List.getElem_mem htl)
  simp only [↓Bp, Bq, Bs, ↓aop.eq_28, ↓aop.eq_30, Nat.reduceEqDiff, Nat.reduceAdd, Nat.reduceMul, Nat.reduceSub, Nat.reduceLeDiff, Nat.reduceLT, Int.reduceLT, Int.reduceLE, Int.reduceEq, Int.reduceToNat, Int.reduceAdd, Int.reduceSub, Int.reduceNeg, ↓reduceIte, reduceCtorEq, ↓C.q0_W, C.q0_B, C.q0, htl']
  refine (h.c.copy).mono ?_
  rintro r s1 ⟨p2, m2, rfl, h1c, k1c, n1, n2, hle1⟩
  have d1 := h.dist n1
  have d2 := h.dist n2
  have h1 := h.step hle1
  simp only [↓Bp, Bq, Bs, ↓aop.eq_28, ↓aop.eq_30, Nat.reduceEqDiff, Nat.reduceAdd, Nat.reduceMul, Nat.reduceSub, Nat.reduceLeDiff, Nat.reduceLT, Int.reduceLT, Int.reduceLE, Int.reduceEq, Int.reduceToNat, Int.reduceAdd, Int.reduceSub, Int.reduceNeg, ↓reduceIte, reduceCtorEq, ↓C.q0_W, C.q0_B, C.q0]
  refine (rcopy_spec h1.r.c (by omega) (by omega)).mono ?_
  rintro r s2 ⟨q2, j2, rfl, kR, n3, n4, hle2⟩
  have d3 := h.dist (fresh_of_le hle1 n3)
  have d4 := h.dist (fresh_of_le hle1 n4)
  have h2 := h1.step hle2
  have hA := k1c.apart n3 n4
  have k2 : P4 st s2 ib p2 m2 q2 j2 S f sl := ⟨k1c.step hle2, ⟨kR, fresh_of_le h1.c.le n3, fresh_of_le h1.c.le n4⟩, hA, (by rintro rfl; rw [h1.c.hb] at n3; cases n3), (by rintro rfl; rw [h1.c.hb] at n4; cases n4), h.out⟩
  have hb2 := h2.c.hb
  simp only [↓Bp, Bq, Bs, ↓aop.eq_28, ↓aop.eq_30, Nat.reduceEqDiff, Nat.reduceAdd, Nat.reduceMul, Nat.reduceSub, Nat.reduceLeDiff, Nat.reduceLT, Int.reduceLT, Int.reduceLE, Int.reduceEq, Int.reduceToNat, Int.reduceAdd, Int.reduceSub, Int.reduceNeg, ↓reduceIte, reduceCtorEq, ↓C.q0_W, C.q0_B, C.q0, hb2, Soc.cells, Soc.devV, hz2, hf, hat, encPair, Int.toNat_natCast]
  rw [← hnl]
  refine (does_spec h2.c.c h2.r.c h.a h.c.lim (by omega) hIa.1 hIa.2).mono ?_
  rintro r s3 ⟨rfl, hC, hR, hM⟩
  have h3 := h2.move hC hR hM (h.c.lim.done _ _) (h.out.done _ _)
  have k3 := k2.keep h3 hM d1 d2 d3 d4
  simp only [↓Bp, Bq, Bs, ↓aop.eq_28, ↓aop.eq_30, Nat.reduceEqDiff, Nat.reduceAdd, Nat.reduceMul, Nat.reduceSub, Nat.reduceLeDiff, Nat.reduceLT, Int.reduceLT, Int.reduceLE, Int.reduceEq, Int.reduceToNat, Int.reduceAdd, Int.reduceSub, Int.reduceNeg, ↓reduceIte, reduceCtorEq, ↓C.q0_r21_w, C.q0_r21_b, ↓C.q0_c1_w, ↓C.q0_r9_w, C.q0_r9_b, ↓C.q0_c2_w, ↓C.q0_r13_w, C.q0_r13_b, ↓C.q0_c16_w, ↓C.q0_c17_w, ↓C.q0_r12_w, C.q0_r12_b, ↓C.q0_c18_w, ↓C.q0_r11_w, C.q0_r11_b, ↓C.q0_c19_w, ↓C.q0_r10_w, C.q0_r10_b, ↓C.q0_b20_w, ↓C.q0_c21_w, ↓C.q0_c22_w, ↓C.q0_r8_w, C.q0_r8_b, ↓C.q0_b24_w, ↓C.q0_c25_w, ↓C.q0_r7_w, C.q0_r7_b, ↓C.q0_c26_w, ↓C.q0_r6_w, C.q0_r6_b, ↓C.q0_c27_w, ↓C.q0_c28_w, ↓C.q0_r5_w, C.q0_r5_b, ↓C.q0_c29_w, ↓C.q0_r4_w, C.q0_r4_b, ↓C.q0_c30_w, ↓C.q0_r3_w, C.q0_r3_b, ↓C.q0_c31_w, ↓C.q0_r2_w, C.q0_r2_b, ↓C.q0_c32_w, ↓C.q0_r1_w, C.q0_r1_b, ↓C.q0_c33_w, ↓C.q0_r0_w, C.q0_r0_b, C.q0]
  rw [C.q0_c15_w, awp_keep]
  refine pl_use hS (va := .isl 2 (acts.flatMap encPair) acts.length) h3 k3 fun fr e => ?_
  show awp Try.prog C.q0_c2 _ fr s3
  rw [C.q0_c2_w, awp_keep, e]
  simp only [↓Bp, Bq, Bs, ↓aop.eq_28, ↓aop.eq_30, Nat.reduceEqDiff, Nat.reduceAdd, Nat.reduceMul, Nat.reduceSub, Nat.reduceLeDiff, Nat.reduceLT, Int.reduceLT, Int.reduceLE, Int.reduceEq, Int.reduceToNat, Int.reduceAdd, Int.reduceSub, Int.reduceNeg, ↓reduceIte, reduceCtorEq, ↓C.q0_W, C.q0_B, C.q0, hw]
  exact ⟨t + 1, rfl, ⟨htl, _, _, h3⟩, by omega⟩
end
theorem countplays_spec {st : ASt} {l : List Int} {acts : List Pair} (hl : ∀ x ∈ l, -9223372036854775808 ≤ x ∧ x ≤ 9223372036854775807) (hll : l.length ≤ 9223372036854775807)
    (hac : ∀ x ∈ acts, I64 x.a ∧ I64 x.b) (hal : acts.length ≤ 9223372036854775807) :
    ACalls Try.prog F.q0 [row l, .isl 2 (acts.flatMap encPair) acts.length] st fun r s => r = .bool true ∧ s = st := by
  refine ACalls.gc (Q' := fun r s => r = .bool true ∧ st.le s) (calls_of_awp L.q0 rfl ?_) (fun v s ⟨h, hl⟩ => ⟨st, hl, h, rfl⟩)
  simp only [↓Bp, Bq, Bs, ↓aop.eq_28, ↓aop.eq_30, Nat.reduceEqDiff, Nat.reduceAdd, Nat.reduceMul, Nat.reduceSub, Nat.reduceLeDiff, Nat.reduceLT, Int.reduceLT, Int.reduceLE, Int.reduceEq, Int.reduceToNat, Int.reduceAdd, Int.reduceSub, Int.reduceNeg, ↓reduceIte, reduceCtorEq, ↓C.q0_W, C.q0_B, C.q0]
  refine (cshown_spec st).mono ?_
  rintro r s ⟨rfl, rfl⟩
  simp only [↓Bp, Bq, Bs, ↓aop.eq_28, ↓aop.eq_30, Nat.reduceEqDiff, Nat.reduceAdd, Nat.reduceMul, Nat.reduceSub, Nat.reduceLeDiff, Nat.reduceLT, Int.reduceLT, Int.reduceLE, Int.reduceEq, Int.reduceToNat, Int.reduceAdd, Int.reduceSub, Int.reduceNeg, ↓reduceIte, reduceCtorEq, ↓C.q0_W, C.q0_B, C.q0]
  refine (chip_frz hl hll).mono ?_
  rintro r s ⟨rfl, rfl⟩
  have hS := chipS_like l
  generalize chipS l = S at hS
  have l4 : S.cells.length = 4 := rfl
  have e4 : AV.agg (List.take 4 S.cells) = .agg S.cells := rfl
  have f4 : allLeaf S.cells = true := rfl
  simp only [↓Bp, Bq, Bs, ↓aop.eq_28, ↓aop.eq_30, Nat.reduceEqDiff, Nat.reduceAdd, Nat.reduceMul, Nat.reduceSub, Nat.reduceLeDiff, Nat.reduceLT, Int.reduceLT, Int.reduceLE, Int.reduceEq, Int.reduceToNat, Int.reduceAdd, Int.reduceSub, Int.reduceNeg, ↓reduceIte, reduceCtorEq, ↓C.q0_r2_w, C.q0_r2_b, ↓C.q0_c32_w, ↓C.q0_r1_w, C.q0_r1_b, ↓C.q0_c33_w, ↓C.q0_r0_w, C.q0_r0_b, C.q0, l4, f4]
  rintro ib hib
  simp only [↓Bp, Bq, Bs, ↓aop.eq_28, ↓aop.eq_30, Nat.reduceEqDiff, Nat.reduceAdd, Nat.reduceMul, Nat.reduceSub, Nat.reduceLeDiff, Nat.reduceLT, Int.reduceLT, Int.reduceLE, Int.reduceEq, Int.reduceToNat, Int.reduceAdd, Int.reduceSub, Int.reduceNeg, ↓reduceIte, reduceCtorEq, ↓C.q0_r2_w, C.q0_r2_b, ↓C.q0_c32_w, ↓C.q0_r1_w, C.q0_r1_b, ↓C.q0_c33_w, ↓C.q0_r0_w, C.q0_r0_b, C.q0, hib, l4, f4]
  rw [ASt.new_set hib, show putN [AV.nils, AV.nils, AV.nils, AV.nils] 0 S.cells = S.cells from putN_all rfl]
  simp only [↓Bp, Bq, Bs, ↓aop.eq_28, ↓aop.eq_30, Nat.reduceEqDiff, Nat.reduceAdd, Nat.reduceMul, Nat.reduceSub, Nat.reduceLeDiff, Nat.reduceLT, Int.reduceLT, Int.reduceLE, Int.reduceEq, Int.reduceToNat, Int.reduceAdd, Int.reduceSub, Int.reduceNeg, ↓reduceIte, reduceCtorEq, ↓C.q0_W, C.q0_B, C.q0, hib, l4, e4]
  refine (cstart_spec hib hS).mono ?_
  rintro r s1 ⟨p, m, rfl, h⟩
  have hb := h.hb
  simp only [↓Bp, Bq, Bs, ↓aop.eq_28, ↓aop.eq_30, Nat.reduceEqDiff, Nat.reduceAdd, Nat.reduceMul, Nat.reduceSub, Nat.reduceLeDiff, Nat.reduceLT, Int.reduceLT, Int.reduceLE, Int.reduceEq, Int.reduceToNat, Int.reduceAdd, Int.reduceSub, Int.reduceNeg, ↓reduceIte, reduceCtorEq, ↓C.q0_W, C.q0_B, C.q0, hb, l4, e4]
  refine (rnew16 hS).mono ?_
  rintro r s2 ⟨q, j, rfl, hR, n1, n2, hle⟩
  have hP : P4 s s2 ib p m q j S (fun _ => 0) false := ⟨h.step hle, ⟨hR, fresh_of_le h.le n1, fresh_of_le h.le n2⟩, h.apart n1 n2, (by rintro rfl; rw [h.hb] at n1; cases n1), (by rintro rfl; rw [h.hb] at n2; cases n2), fun _ _ => rfl⟩
  by_cases hac0 : acts.length ≤ 150
  rotate_left
  · have hz0 : (150 : Int) < (acts.length : Nat) := by omega
    simp only [↓Bp, Bq, Bs, ↓aop.eq_28, ↓aop.eq_30, Nat.reduceEqDiff, Nat.reduceAdd, Nat.reduceMul, Nat.reduceSub, Nat.reduceLeDiff, Nat.reduceLT, Int.reduceLT, Int.reduceLE, Int.reduceEq, Int.reduceToNat, Int.reduceAdd, Int.reduceSub, Int.reduceNeg, ↓reduceIte, reduceCtorEq, ↓C.q0_W, C.q0_B, C.q0, hz0]
    exact hP.c.le
  have hz0 : ¬ (150 : Int) < (acts.length : Nat) := by omega
  simp only [↓Bp, Bq, Bs, ↓aop.eq_28, ↓aop.eq_30, Nat.reduceEqDiff, Nat.reduceAdd, Nat.reduceMul, Nat.reduceSub, Nat.reduceLeDiff, Nat.reduceLT, Int.reduceLT, Int.reduceLE, Int.reduceEq, Int.reduceToNat, Int.reduceAdd, Int.reduceSub, Int.reduceNeg, ↓reduceIte, reduceCtorEq, ↓C.q0_r6_w, C.q0_r6_b, ↓C.q0_c27_w, ↓C.q0_c28_w, ↓C.q0_r5_w, C.q0_r5_b, ↓C.q0_c29_w, ↓C.q0_r4_w, C.q0_r4_b, ↓C.q0_c30_w, ↓C.q0_r3_w, C.q0_r3_b, ↓C.q0_c31_w, ↓C.q0_r2_w, C.q0_r2_b, ↓C.q0_c32_w, ↓C.q0_r1_w, C.q0_r1_b, ↓C.q0_c33_w, ↓C.q0_r0_w, C.q0_r0_b, C.q0, hz0]
  rw [C.q0_c26_w, awp_keep]
  exact pl_loop hS hac hac0 hP
end Go.Proofs.Ytoblpialfhfdgaa.Cn
