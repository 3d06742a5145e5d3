/- Graphs: what the statements share. -/
import Derived.Test.YthmdiljjkogghaaCnRef3b
import Derived.Test.YthmdiljjkogghaaCnSame
set_option linter.unusedSimpArgs false
set_option linter.unusedVariables false
namespace Go.Proofs.Ythmdiljjkogghaa.Cn
open Go Go.Proofs

theorem SView.row {st : ASt} {b : Nat} {l : List Int} (h : st.h b = some (.cells (ints l))) : SView st (.sl 1 b 0 l.length) (row l) :=
  SView.sl h (by simp) fun i h1 h2 => by simp only [List.drop_zero]; exact SView.pure (ints_pure l i h2)
theorem SView.rowNil {st : ASt} : SView st .nils (Cn.row []) := by
  intro B w0 R wr C w v s x
  exact vs_nils_isl (by cases x; exact .nils) 1 []
/-- A graph that the caller owns. -/
theorem SView.graph {st : ASt} {id : Nat} {vs : List AV} {g : Gr} (h : st.h id = some (.cells vs)) (hl : vs.length = g.length) (hv : ∀ i (h1 : i < vs.length) (h2 : i < g.length), SView st vs[i] (Cn.row g[i])) : SView st (.sl 1 id 0 g.length) (.isl 1 (g.map Cn.row) g.length) :=
  SView.sl h (by simp [hl]) fun i h1 h2 => by
    simp only [List.drop_zero, List.getElem_map]
    exact hv i (by simpa using h1) (by simpa using h2)
theorem SView.graphVal {st : ASt} {id : Nat} {g : Gr} (h : st.h id = some (.cells (g.map Cn.row))) : SView st (.sl 1 id 0 g.length) (.isl 1 (g.map Cn.row) g.length) :=
  SView.graph h (by simp) fun i h1 h2 => by rw [List.getElem_map]; exact SView.pure (row_pure _)

section
variable {st : ASt} {g : Gr} {a : AV}

theorem orderB (hg : g.few) (hv : SView st a (.isl 1 (g.map row) g.length)) : ACalls Try.prog F.graph_Order [a] st fun v st' => v = .tup [row (nats (ordL g)), .int .i64 (grErr g)] ∧ st' = st := by
  refine (ACalls.borrowS (Q := fun l e => l = nats (ordL g) ∧ e = grErr g) ((order_spec0 hg).mono ?_) (Views.cons hv (Views.nil _))).mono ?_
  · rintro v st' (⟨h1, rfl, rfl⟩ | ⟨h1, x, rfl, hO⟩)
    · refine ⟨.nils, [], _, rfl, Shows.nils _ _, ?_, rfl⟩
      rw [ordL, if_neg h1]; rfl
    · have h2 := (grErr_zero.mp h1).2.full
      refine ⟨x, nats (ordL g), 0, rfl, ?_, rfl, h1.symm⟩
      rw [nats_length, ordL, if_pos h1, h2]; exact hO.1
  · rintro v st' ⟨l, e, rfl, ⟨rfl, rfl⟩, rfl⟩
    exact ⟨rfl, rfl⟩
theorem aboveB (hg : g.few) (hv : SView st a (.isl 1 (g.map row) g.length)) (v : Int) : ACalls Try.prog F.graph_Above [a, .int .i64 v] st fun r st' => r = .tup [row (nats (aboveR g v)), .int .i64 (nodeErr g v)] ∧ st' = st := by
  refine (ACalls.borrowS (Q := fun l e => l = nats (aboveR g v) ∧ e = nodeErr g v) ((above_spec0 hg v).mono ?_) (Views.cons hv (Views.cons (SView.pure (.int _ _)) (Views.nil _)))).mono ?_
  · rintro r st' ⟨x, rfl, hO⟩
    exact ⟨x, _, _, rfl, by rw [nats_length]; exact hO.1, rfl, rfl⟩
  · rintro v st' ⟨l, e, rfl, ⟨rfl, rfl⟩, rfl⟩
    exact ⟨rfl, rfl⟩
theorem underB (hg : g.few) (hv : SView st a (.isl 1 (g.map row) g.length)) (v : Int) : ACalls Try.prog F.graph_Under [a, .int .i64 v] st fun r st' => r = .tup [row (nats (underR g v)), .int .i64 (nodeErr g v)] ∧ st' = st := by
  refine (ACalls.borrowS (Q := fun l e => l = nats (underR g v) ∧ e = nodeErr g v) ((under_spec0 hg v).mono ?_) (Views.cons hv (Views.cons (SView.pure (.int _ _)) (Views.nil _)))).mono ?_
  · rintro r st' ⟨x, rfl, hO⟩
    exact ⟨x, _, _, rfl, by rw [nats_length]; exact hO.1, rfl, rfl⟩
  · rintro v st' ⟨l, e, rfl, ⟨rfl, rfl⟩, rfl⟩
    exact ⟨rfl, rfl⟩
theorem checkB (hg : g.few) (hv : SView st a (.isl 1 (g.map row) g.length)) : ACalls Try.prog F.graph_Check [a] st fun v st' => v = .int .i64 (grErr g) ∧ st' = st :=
  (ACalls.borrow (Q := fun v => v = .int .i64 (grErr g)) ((check_spec hg).mono fun v s h => h.1) (Views.cons hv (Views.nil _)) (fun v h => by rw [h]; exact .int _ _))
theorem sameB {x y : AV} {l k : List Int} (hl : l.length ≤ 9223372036854775807) (hx : SView st x (row l)) (hy : SView st y (row k)) : ACalls Try.prog F.catnaplaw3_same [x, y] st fun r st' => r = .bool (decide (l = k)) ∧ st' = st :=
  (ACalls.borrow (Q := fun v => v = .bool (decide (l = k))) ((same_spec hl).mono fun v s h => h.1) (Views.cons hx (Views.cons hy (Views.nil _))) (fun v h => by rw [h]; exact .bool _))

theorem shown_spec (st : ASt) : ACalls Try.prog F.catnaplaw3_shown [] st fun v st' => v = .bool true ∧ st' = st := by
  refine ACalls.gc (Q' := fun v st' => v = .bool true ∧ st.le st') (calls_of_awp L.catnaplaw3_shown rfl ?_) (fun v st' h => ⟨st, h.2, h.1, rfl⟩)
  simp only [↓Bp, Bq, ↓aop.eq_28, ↓aop.eq_30, ↓initFr, aeqP, abinv, abin, aun, bound, aslice, aput, putN, zeros, heldOk, aheadOk, IOp.again, List.map_cons, List.map_nil, List.append_nil, List.nil_append, Nat.reduceEqDiff, Nat.reduceAdd, Nat.reduceMul, Nat.reduceSub, Nat.reduceLeDiff, Nat.reduceLT, Int.reduceLT, Int.reduceLE, Int.reduceEq, Int.reduceToNat, Int.reduceAdd, Int.reduceSub, Int.reduceNeg, not_false_eq_true, not_true_eq_false, if_true, if_false, Bool.false_xor, Bool.true_xor, Bool.false_eq_true, Bool.true_eq_false, Bool.not_true, Bool.not_false, decide_true, decide_false, Nat.zero_add, Nat.add_zero, List.getElem?_cons_zero, List.getElem?_cons_succ, true_and, and_true, and_self, List.length_cons, List.length_nil, ↓reduceIte, reduceCtorEq, Option.some_or, Option.none_or, Option.or_none, eq_self, Option.map_some, List.length_set, List.set_cons_zero, List.set_cons_succ, List.cons_append, List.drop_zero, List.drop_succ_cons, List.take_succ_cons, List.take_zero, List.all_cons, List.all_nil, Bool.and_true, Option.isSome_some, Option.isSome_none, Option.isNone_some, Option.isNone_none, false_and, and_false, ↓C.catnaplaw3_shown_W, C.catnaplaw3_shown_B, C.catnaplaw3_shown]
  intro i1 h1 i2 ⟨h2, n21⟩ i3 ⟨⟨h3, n31⟩, n32⟩ i4 ⟨⟨⟨h4, n41⟩, n42⟩, n43⟩
  have hv : SView ((((st.new i1 (.cells [.int .i64 2])).new i2 (.cells [])).new i3 (.cells [.int .i64 1])).new i4 (.cells [.sl 1 i1 0 1, .sl 1 i2 0 0, .sl 1 i3 0 1])) (.sl 1 i4 0 3) (.isl 1 (List.map row [[2], [], [1]]) 3) := by
    refine SView.graph (g := [[2], [], [1]]) (vs := [.sl 1 i1 0 1, .sl 1 i2 0 0, .sl 1 i3 0 1]) ?_ rfl fun i q1 q2 => ?_
    · simp [ASt.new_o, h4, n41, n42, n43]
    · match i, q1 with
      | 0, _ => exact SView.row (l := [2]) (by simp [ASt.new_o, h1, ints])
      | 1, _ => exact SView.row (l := []) (by simp [ASt.new_o, h2, n21, ints])
      | 2, _ => exact SView.row (l := [1]) (by simp [ASt.new_o, h3, n31, n32, ints])
  refine (orderB (g := [[2], [], [1]]) ⟨by simp, by simp⟩ hv).mono ?_
  rintro v st' ⟨rfl, rfl⟩
  have e1 : grErr [[2], [], [1]] = 0 := by decide
  have e2 : nats (ordL [[2], [], [1]]) = [1, 2, 0] := by decide
  simp only [↓Bp, Bq, ↓aop.eq_28, ↓aop.eq_30, ↓initFr, aeqP, abinv, abin, aun, bound, aslice, aput, putN, zeros, heldOk, aheadOk, IOp.again, List.map_cons, List.map_nil, List.append_nil, List.nil_append, Nat.reduceEqDiff, Nat.reduceAdd, Nat.reduceMul, Nat.reduceSub, Nat.reduceLeDiff, Nat.reduceLT, Int.reduceLT, Int.reduceLE, Int.reduceEq, Int.reduceToNat, Int.reduceAdd, Int.reduceSub, Int.reduceNeg, not_false_eq_true, not_true_eq_false, if_true, if_false, Bool.false_xor, Bool.true_xor, Bool.false_eq_true, Bool.true_eq_false, Bool.not_true, Bool.not_false, decide_true, decide_false, Nat.zero_add, Nat.add_zero, List.getElem?_cons_zero, List.getElem?_cons_succ, true_and, and_true, and_self, List.length_cons, List.length_nil, ↓reduceIte, reduceCtorEq, Option.some_or, Option.none_or, Option.or_none, eq_self, Option.map_some, List.length_set, List.set_cons_zero, List.set_cons_succ, List.cons_append, List.drop_zero, List.drop_succ_cons, List.take_succ_cons, List.take_zero, List.all_cons, List.all_nil, Bool.and_true, Option.isSome_some, Option.isSome_none, Option.isNone_some, Option.isNone_none, false_and, and_false, ↓C.catnaplaw3_shown_W, C.catnaplaw3_shown_B, C.catnaplaw3_shown, e1, e2]
  intro i5 h5
  have hsm := sameB (st := (((((st.new i1 (.cells [.int .i64 2])).new i2 (.cells [])).new i3 (.cells [.int .i64 1])).new i4 (.cells [.sl 1 i1 0 1, .sl 1 i2 0 0, .sl 1 i3 0 1])).new i5 (.cells [.int .i64 1, .int .i64 2, .int .i64 0]))) (x := row [1, 2, 0]) (y := .sl 1 i5 0 3) (l := [1, 2, 0]) (k := [1, 2, 0]) (by simp) (SView.pure (row_pure _)) (SView.row (b := i5) (l := [1, 2, 0]) (by simp [ASt.new_o, h5, ints]))
  refine hsm.mono ?_
  rintro v st' ⟨rfl, rfl⟩
  simp only [↓Bp, Bq, ↓aop.eq_28, ↓aop.eq_30, ↓initFr, aeqP, abinv, abin, aun, bound, aslice, aput, putN, zeros, heldOk, aheadOk, IOp.again, List.map_cons, List.map_nil, List.append_nil, List.nil_append, Nat.reduceEqDiff, Nat.reduceAdd, Nat.reduceMul, Nat.reduceSub, Nat.reduceLeDiff, Nat.reduceLT, Int.reduceLT, Int.reduceLE, Int.reduceEq, Int.reduceToNat, Int.reduceAdd, Int.reduceSub, Int.reduceNeg, not_false_eq_true, not_true_eq_false, if_true, if_false, Bool.false_xor, Bool.true_xor, Bool.false_eq_true, Bool.true_eq_false, Bool.not_true, Bool.not_false, decide_true, decide_false, Nat.zero_add, Nat.add_zero, List.getElem?_cons_zero, List.getElem?_cons_succ, true_and, and_true, and_self, List.length_cons, List.length_nil, ↓reduceIte, reduceCtorEq, Option.some_or, Option.none_or, Option.or_none, eq_self, Option.map_some, List.length_set, List.set_cons_zero, List.set_cons_succ, List.cons_append, List.drop_zero, List.drop_succ_cons, List.take_succ_cons, List.take_zero, List.all_cons, List.all_nil, Bool.and_true, Option.isSome_some, Option.isSome_none, Option.isNone_some, Option.isNone_none, false_and, and_false, ↓C.catnaplaw3_shown_W, C.catnaplaw3_shown_B, C.catnaplaw3_shown]
  exact ((((ASt.le.new _ _ _).trans (ASt.le.new _ _ _)).trans (ASt.le.new _ _ _)).trans (ASt.le.new _ _ _)).trans (ASt.le.new _ _ _)
end
end Go.Proofs.Ythmdiljjkogghaa.Cn
