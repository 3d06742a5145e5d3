/- Graphs: marks, and on how many each node waits. -/
import Derived.Test.YthmdiljjkogghaaCnGraph1
set_option linter.unusedSimpArgs false
set_option linter.unusedVariables false
namespace Go.Proofs.Ythmdiljjkogghaa.Cn
open Go Go.Proofs

/-- Nodes that are met. -/
def kmap (ks : List Int) : List (Int × AV) := ks.map fun k => (k, .agg [])
theorem look_kmap (ks : List Int) (v : Int) : look (kmap ks) v = if v ∈ ks then some (.agg []) else none := by
  induction ks with
  | nil => rfl
  | cons k ks ih =>
    simp only [kmap, look, List.map_cons, List.find?_cons] at ih ⊢
    by_cases e : k = v
    · subst e; simp
    · have : (k == v) = false := by simp [e]
      have e2 : ¬ v = k := fun h => e h.symm
      simp only [this, List.mem_cons, e2, false_or]
      exact ih
theorem mput_kmap (ks : List Int) (v : Int) : ∃ ks', mput (kmap ks) v (.agg []) = kmap ks' ∧ ∀ x, x ∈ ks' ↔ x ∈ ks ∨ x = v := by
  unfold mput
  cases h : spot (kmap ks) v with
  | none => exact ⟨ks ++ [v], by simp [kmap], fun x => by simp⟩
  | some i =>
    simp only [spot] at h
    obtain ⟨hi, h1, -⟩ := List.findIdx?_eq_some_iff_getElem.mp h
    simp only [kmap, List.getElem_map, beq_iff_eq] at h1
    have hi2 : i < ks.length := by simpa [kmap] using hi
    refine ⟨ks, ?_, fun x => ⟨.inl, fun hx => ?_⟩⟩
    · show (kmap ks).set i (v, .agg []) = kmap ks
      have : (v, AV.agg []) = (kmap ks)[i] := by simp [kmap, h1]
      rw [this, List.set_getElem_self]
    · rcases hx with hx | rfl
      · exact hx
      · rw [← h1]; exact List.getElem_mem hi2

section
variable {st : ASt} {m : Nat} {ks : List Int}

theorem has_spec (h : st.h m = some (.map (kmap ks))) (v : Int) : ACalls Try.prog F.graph_marks_has [.map m, .int .i64 v] st fun r st' => r = .bool (decide (v ∈ ks)) ∧ st' = st := by
  refine ACalls.gc (Q' := fun r st' => r = .bool (decide (v ∈ ks)) ∧ st.le st') (calls_of_awp L.graph_marks_has rfl ?_) (fun v st' h => ⟨st, h.2, h.1, rfl⟩)
  by_cases hv : v ∈ ks
  · simp only [↓Bp, Bq, ↓aop.eq_28, ↓aop.eq_30, ↓initFr, aeqP, abinv, abin, aun, bound, aslice, aput, putN, zeros, heldOk, aheadOk, IOp.again, List.map_cons, List.map_nil, List.append_nil, List.nil_append, Nat.reduceEqDiff, Nat.reduceAdd, Nat.reduceMul, Nat.reduceSub, Nat.reduceLeDiff, Nat.reduceLT, Int.reduceLT, Int.reduceLE, Int.reduceEq, Int.reduceToNat, Int.reduceAdd, Int.reduceSub, Int.reduceNeg, not_false_eq_true, not_true_eq_false, if_true, if_false, Bool.false_xor, Bool.true_xor, Bool.false_eq_true, Bool.true_eq_false, Bool.not_true, Bool.not_false, decide_true, decide_false, Nat.zero_add, Nat.add_zero, List.getElem?_cons_zero, List.getElem?_cons_succ, true_and, and_true, and_self, List.length_cons, List.length_nil, ↓reduceIte, reduceCtorEq, Option.some_or, Option.none_or, Option.or_none, eq_self, Option.map_some, List.length_set, List.set_cons_zero, List.set_cons_succ, List.cons_append, List.drop_zero, List.drop_succ_cons, List.take_succ_cons, List.take_zero, List.all_cons, List.all_nil, Bool.and_true, Option.isSome_some, Option.isSome_none, Option.isNone_some, Option.isNone_none, false_and, and_false, ↓C.graph_marks_has_W, C.graph_marks_has_B, C.graph_marks_has, h, look_kmap, hv]
    intro i hi
    simp only [↓Bp, Bq, ↓aop.eq_28, ↓aop.eq_30, ↓initFr, aeqP, abinv, abin, aun, bound, aslice, aput, putN, zeros, heldOk, aheadOk, IOp.again, List.map_cons, List.map_nil, List.append_nil, List.nil_append, Nat.reduceEqDiff, Nat.reduceAdd, Nat.reduceMul, Nat.reduceSub, Nat.reduceLeDiff, Nat.reduceLT, Int.reduceLT, Int.reduceLE, Int.reduceEq, Int.reduceToNat, Int.reduceAdd, Int.reduceSub, Int.reduceNeg, not_false_eq_true, not_true_eq_false, if_true, if_false, Bool.false_xor, Bool.true_xor, Bool.false_eq_true, Bool.true_eq_false, Bool.not_true, Bool.not_false, decide_true, decide_false, Nat.zero_add, Nat.add_zero, List.getElem?_cons_zero, List.getElem?_cons_succ, true_and, and_true, and_self, List.length_cons, List.length_nil, ↓reduceIte, reduceCtorEq, Option.some_or, Option.none_or, Option.or_none, eq_self, Option.map_some, List.length_set, List.set_cons_zero, List.set_cons_succ, List.cons_append, List.drop_zero, List.drop_succ_cons, List.take_succ_cons, List.take_zero, List.all_cons, List.all_nil, Bool.and_true, Option.isSome_some, Option.isSome_none, Option.isNone_some, Option.isNone_none, false_and, and_false, ↓C.graph_marks_has_W, C.graph_marks_has_B, C.graph_marks_has, hi, allLeaf, putN]
    exact (ASt.le.new _ _ _).trans (fun j o hj => by
      rw [ASt.set_h]; split
      · rename_i e; subst e; rw [ASt.new_self _ hi] at hj ⊢; exact hj
      · exact hj)
  · simp only [↓Bp, Bq, ↓aop.eq_28, ↓aop.eq_30, ↓initFr, aeqP, abinv, abin, aun, bound, aslice, aput, putN, zeros, heldOk, aheadOk, IOp.again, List.map_cons, List.map_nil, List.append_nil, List.nil_append, Nat.reduceEqDiff, Nat.reduceAdd, Nat.reduceMul, Nat.reduceSub, Nat.reduceLeDiff, Nat.reduceLT, Int.reduceLT, Int.reduceLE, Int.reduceEq, Int.reduceToNat, Int.reduceAdd, Int.reduceSub, Int.reduceNeg, not_false_eq_true, not_true_eq_false, if_true, if_false, Bool.false_xor, Bool.true_xor, Bool.false_eq_true, Bool.true_eq_false, Bool.not_true, Bool.not_false, decide_true, decide_false, Nat.zero_add, Nat.add_zero, List.getElem?_cons_zero, List.getElem?_cons_succ, true_and, and_true, and_self, List.length_cons, List.length_nil, ↓reduceIte, reduceCtorEq, Option.some_or, Option.none_or, Option.or_none, eq_self, Option.map_some, List.length_set, List.set_cons_zero, List.set_cons_succ, List.cons_append, List.drop_zero, List.drop_succ_cons, List.take_succ_cons, List.take_zero, List.all_cons, List.all_nil, Bool.and_true, Option.isSome_some, Option.isSome_none, Option.isNone_some, Option.isNone_none, false_and, and_false, ↓C.graph_marks_has_W, C.graph_marks_has_B, C.graph_marks_has, h, look_kmap, hv]
    intro i hi
    simp only [↓Bp, Bq, ↓aop.eq_28, ↓aop.eq_30, ↓initFr, aeqP, abinv, abin, aun, bound, aslice, aput, putN, zeros, heldOk, aheadOk, IOp.again, List.map_cons, List.map_nil, List.append_nil, List.nil_append, Nat.reduceEqDiff, Nat.reduceAdd, Nat.reduceMul, Nat.reduceSub, Nat.reduceLeDiff, Nat.reduceLT, Int.reduceLT, Int.reduceLE, Int.reduceEq, Int.reduceToNat, Int.reduceAdd, Int.reduceSub, Int.reduceNeg, not_false_eq_true, not_true_eq_false, if_true, if_false, Bool.false_xor, Bool.true_xor, Bool.false_eq_true, Bool.true_eq_false, Bool.not_true, Bool.not_false, decide_true, decide_false, Nat.zero_add, Nat.add_zero, List.getElem?_cons_zero, List.getElem?_cons_succ, true_and, and_true, and_self, List.length_cons, List.length_nil, ↓reduceIte, reduceCtorEq, Option.some_or, Option.none_or, Option.or_none, eq_self, Option.map_some, List.length_set, List.set_cons_zero, List.set_cons_succ, List.cons_append, List.drop_zero, List.drop_succ_cons, List.take_succ_cons, List.take_zero, List.all_cons, List.all_nil, Bool.and_true, Option.isSome_some, Option.isSome_none, Option.isNone_some, Option.isNone_none, false_and, and_false, ↓C.graph_marks_has_W, C.graph_marks_has_B, C.graph_marks_has, hi, allLeaf, putN]
    exact (ASt.le.new _ _ _).trans (fun j o hj => by
      rw [ASt.set_h]; split
      · rename_i e; subst e; rw [ASt.new_self _ hi] at hj ⊢; exact hj
      · exact hj)

theorem add_spec (h : st.h m = some (.map (kmap ks))) (v : Int) : ACalls Try.prog F.graph_marks_add [.map m, .int .i64 v] st fun _ st' => ∃ ks', st' = st.set m (.map (kmap ks')) ∧ ∀ x, x ∈ ks' ↔ x ∈ ks ∨ x = v := by
  refine calls_of_awp L.graph_marks_add rfl ?_
  obtain ⟨ks', h1, h2⟩ := mput_kmap ks v
  simp only [↓Bp, Bq, ↓aop.eq_28, ↓aop.eq_30, ↓initFr, aeqP, abinv, abin, aun, bound, aslice, aput, putN, zeros, heldOk, aheadOk, IOp.again, List.map_cons, List.map_nil, List.append_nil, List.nil_append, Nat.reduceEqDiff, Nat.reduceAdd, Nat.reduceMul, Nat.reduceSub, Nat.reduceLeDiff, Nat.reduceLT, Int.reduceLT, Int.reduceLE, Int.reduceEq, Int.reduceToNat, Int.reduceAdd, Int.reduceSub, Int.reduceNeg, not_false_eq_true, not_true_eq_false, if_true, if_false, Bool.false_xor, Bool.true_xor, Bool.false_eq_true, Bool.true_eq_false, Bool.not_true, Bool.not_false, decide_true, decide_false, Nat.zero_add, Nat.add_zero, List.getElem?_cons_zero, List.getElem?_cons_succ, true_and, and_true, and_self, List.length_cons, List.length_nil, ↓reduceIte, reduceCtorEq, Option.some_or, Option.none_or, Option.or_none, eq_self, Option.map_some, List.length_set, List.set_cons_zero, List.set_cons_succ, List.cons_append, List.drop_zero, List.drop_succ_cons, List.take_succ_cons, List.take_zero, List.all_cons, List.all_nil, Bool.and_true, Option.isSome_some, Option.isSome_none, Option.isNone_some, Option.isNone_none, false_and, and_false, ↓C.graph_marks_add_W, C.graph_marks_add_B, C.graph_marks_add, h, h1]
  exact ⟨ks', rfl, h2⟩
end
end Go.Proofs.Ythmdiljjkogghaa.Cn
