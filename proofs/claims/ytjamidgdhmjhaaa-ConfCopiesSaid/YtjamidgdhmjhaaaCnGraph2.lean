/- Graphs: marks, and on how many each node waits. -/
import Derived.Test.YtjamidgdhmjhaaaCnGraph1
set_option linter.unusedSimpArgs false
set_option linter.unusedVariables false
namespace Go.Proofs.Ytjamidgdhmjhaaa.Cn
open Go Go.Proofs

/-- Nodes that are met. -/
def kmap (ks : List Int) : List (Int × AV) := ks.map fun k => (k, .agg [])
theorem look_kmap (ks : List Int) (v : Int) : look (kmap ks) v = if v ∈ ks then some (.agg []) else none := by
  induction ks with
  | nil => rfl
  | cons k ks ih =>
    simp only [kmap, look, List.map_cons, List.find?_cons] at ih ⊢
    by_cases e : k = v
    · subst e; simp
    · have : (k == v) = false := by simp [e]
      have e2 : ¬ v = k := fun h => e h.symm
      simp only [this, List.mem_cons, e2, false_or]
      exact ih
theorem mput_kmap (ks : List Int) (v : Int) : ∃ ks', mput (kmap ks) v (.agg []) = kmap ks' ∧ ∀ x, x ∈ ks' ↔ x ∈ ks ∨ x = v := by
  unfold mput
  cases h : spot (kmap ks) v with
  | none => exact ⟨ks ++ [v], by simp [kmap], fun x => by simp⟩
  | some i =>
    simp only [spot] at h
    obtain ⟨hi, h1, -⟩ := List.findIdx?_eq_some_iff_getElem.mp h
    simp only [kmap, List.getElem_map, beq_iff_eq] at h1
    have hi2 : i < ks.length := by simpa [kmap] using hi
    refine ⟨ks, ?_, fun x => ⟨.inl, fun hx => ?_⟩⟩
    · show (kmap ks).set i (v, .agg []) = kmap ks
      have : (v, AV.agg []) = (kmap ks)[i] := by simp [kmap, h1]
      rw [this, List.set_getElem_self]
    · rcases hx with hx | rfl
      · exact hx
      · rw [← h1]; exact List.getElem_mem hi2

section
variable {st : ASt} {m : Nat} {ks : List Int}

theorem has_spec (h : st.h m = some (.map (kmap ks))) (v : Int) : ACalls Try.prog F.graph_marks_has [.map m, .int .i64 v] st fun r st' => r = .bool (decide (v ∈ ks)) ∧ st' = st := by
  refine ACalls.gc (Q' := fun r st' => r = .bool (decide (v ∈ ks)) ∧ st.le st') (calls_of_awp L.graph_marks_has rfl ?_) (fun v st' h => ⟨st, h.2, h.1, rfl⟩)
  by_cases hv : v ∈ ks
  · simp only [↓Bp, Bq, Bs, ↓aop.eq_28, ↓aop.eq_30, Nat.reduceEqDiff, Nat.reduceAdd, Nat.reduceMul, Nat.reduceSub, Nat.reduceLeDiff, Nat.reduceLT, Int.reduceLT, Int.reduceLE, Int.reduceEq, Int.reduceToNat, Int.reduceAdd, Int.reduceSub, Int.reduceNeg, ↓reduceIte, reduceCtorEq, ↓C.graph_marks_has_W, C.graph_marks_has_B, C.graph_marks_has, h, look_kmap, hv]
    intro i hi
    simp only [↓Bp, Bq, Bs, ↓aop.eq_28, ↓aop.eq_30, Nat.reduceEqDiff, Nat.reduceAdd, Nat.reduceMul, Nat.reduceSub, Nat.reduceLeDiff, Nat.reduceLT, Int.reduceLT, Int.reduceLE, Int.reduceEq, Int.reduceToNat, Int.reduceAdd, Int.reduceSub, Int.reduceNeg, ↓reduceIte, reduceCtorEq, ↓C.graph_marks_has_W, C.graph_marks_has_B, C.graph_marks_has, hi, allLeaf, putN]
    exact (ASt.le.new _ _ _).trans (fun j o hj => by
      rw [ASt.set_h]; split
      · rename_i e; subst e; rw [ASt.new_self _ hi] at hj ⊢; exact hj
      · exact hj)
  · simp only [↓Bp, Bq, Bs, ↓aop.eq_28, ↓aop.eq_30, Nat.reduceEqDiff, Nat.reduceAdd, Nat.reduceMul, Nat.reduceSub, Nat.reduceLeDiff, Nat.reduceLT, Int.reduceLT, Int.reduceLE, Int.reduceEq, Int.reduceToNat, Int.reduceAdd, Int.reduceSub, Int.reduceNeg, ↓reduceIte, reduceCtorEq, ↓C.graph_marks_has_W, C.graph_marks_has_B, C.graph_marks_has, h, look_kmap, hv]
    intro i hi
    simp only [↓Bp, Bq, Bs, ↓aop.eq_28, ↓aop.eq_30, Nat.reduceEqDiff, Nat.reduceAdd, Nat.reduceMul, Nat.reduceSub, Nat.reduceLeDiff, Nat.reduceLT, Int.reduceLT, Int.reduceLE, Int.reduceEq, Int.reduceToNat, Int.reduceAdd, Int.reduceSub, Int.reduceNeg, ↓reduceIte, reduceCtorEq, ↓C.graph_marks_has_W, C.graph_marks_has_B, C.graph_marks_has, hi, allLeaf, putN]
    exact (ASt.le.new _ _ _).trans (fun j o hj => by
      rw [ASt.set_h]; split
      · rename_i e; subst e; rw [ASt.new_self _ hi] at hj ⊢; exact hj
      · exact hj)

theorem add_spec (h : st.h m = some (.map (kmap ks))) (v : Int) : ACalls Try.prog F.graph_marks_add [.map m, .int .i64 v] st fun _ st' => ∃ ks', st' = st.set m (.map (kmap ks')) ∧ ∀ x, x ∈ ks' ↔ x ∈ ks ∨ x = v := by
  refine calls_of_awp L.graph_marks_add rfl ?_
  obtain ⟨ks', h1, h2⟩ := mput_kmap ks v
  simp only [↓Bp, Bq, Bs, ↓aop.eq_28, ↓aop.eq_30, Nat.reduceEqDiff, Nat.reduceAdd, Nat.reduceMul, Nat.reduceSub, Nat.reduceLeDiff, Nat.reduceLT, Int.reduceLT, Int.reduceLE, Int.reduceEq, Int.reduceToNat, Int.reduceAdd, Int.reduceSub, Int.reduceNeg, ↓reduceIte, reduceCtorEq, ↓C.graph_marks_add_W, C.graph_marks_add_B, C.graph_marks_add, h, h1]
  exact ⟨ks', rfl, h2⟩
end
end Go.Proofs.Ytjamidgdhmjhaaa.Cn
