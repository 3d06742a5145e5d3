/- Graphs: what the program's functions do, in the words of the abstract layer, part 1. -/
import Derived.Test.YtjamidgdhmjhaaaCnLk
import Derived.Test.YtjamidgdhmjhaaaCnL2
import Derived.Test.YtjamidgdhmjhaaaCnL3
set_option linter.unusedSimpArgs false
set_option linter.unusedVariables false
namespace Go.Proofs.Ytjamidgdhmjhaaa.Cn
open Go Go.Proofs

theorem rowsG {g : Gr} {k : Nat} (h : k < g.length) : (g.map row)[k]? = some (.isl 1 (ints g[k]) g[k].length) := by simp [h, row]

/-- A graph of few enough edges. -/
def Gr.few (g : Gr) : Prop := g.length ≤ 9223372036854775807 ∧ ∀ r ∈ g, r.length ≤ 9223372036854775807

section
variable {st : ASt} {g : Gr}

theorem numbers_spec (hg : g.few) : ACalls Try.prog F.graph_numbers [.isl 1 (g.map row) g.length] st fun v st' => st' = st ∧ v = .int .i64 (if 100 < g.length then 1 else if g.ok then 0 else 4) := by
  refine calls_of_awp L.graph_numbers rfl ?_
  by_cases h1 : 100 < g.length
  · have h1' : (100 : Int) < (g.length : Nat) := by omega
    simp only [↓Bp, Bq, Bs, ↓aop.eq_28, ↓aop.eq_30, Nat.reduceEqDiff, Nat.reduceAdd, Nat.reduceMul, Nat.reduceSub, Nat.reduceLeDiff, Nat.reduceLT, Int.reduceLT, Int.reduceLE, Int.reduceEq, Int.reduceToNat, Int.reduceAdd, Int.reduceSub, Int.reduceNeg, ↓reduceIte, reduceCtorEq, ↓C.graph_numbers_W, C.graph_numbers_B, C.graph_numbers, h1', h1]
  have h1' : ¬ (100 : Int) < (g.length : Nat) := by omega
  simp only [↓Bp, Bq, Bs, ↓aop.eq_28, ↓aop.eq_30, Nat.reduceEqDiff, Nat.reduceAdd, Nat.reduceMul, Nat.reduceSub, Nat.reduceLeDiff, Nat.reduceLT, Int.reduceLT, Int.reduceLE, Int.reduceEq, Int.reduceToNat, Int.reduceAdd, Int.reduceSub, Int.reduceNeg, ↓reduceIte, reduceCtorEq, ↓C.graph_numbers_W, C.graph_numbers_B, C.graph_numbers, h1', h1]
  refine awp_loopK (fun k : Nat => [(0, .isl 1 (g.map row) g.length), (10, .isl 1 (g.map row) g.length), (11, .int .i64 g.length), (12, .int .i64 k)]) (fun k s => k ≤ g.length ∧ s = st ∧ ∀ i (hi : i < g.length), i < k → ∀ u ∈ g[i], 0 ≤ u ∧ u < g.length) (fun k => g.length - k) 0 rfl ⟨Nat.zero_le _, rfl, fun i _ h => by omega⟩ ?_
  rintro k s ⟨hk, rfl, hok⟩
  by_cases hlt : k < g.length
  · have hlt' : (k : Int) < (g.length : Nat) := by omega
    have hz : (0:Int) ≤ (k : Int) ∧ (k : Int) < (g.length : Nat) := by omega
    have hw := wsucc hlt hg.1
    simp only [↓Bp, Bq, Bs, ↓aop.eq_28, ↓aop.eq_30, Nat.reduceEqDiff, Nat.reduceAdd, Nat.reduceMul, Nat.reduceSub, Nat.reduceLeDiff, Nat.reduceLT, Int.reduceLT, Int.reduceLE, Int.reduceEq, Int.reduceToNat, Int.reduceAdd, Int.reduceSub, Int.reduceNeg, ↓reduceIte, reduceCtorEq, ↓C.graph_numbers_W, C.graph_numbers_B, C.graph_numbers, hlt', hz, Int.toNat_natCast, Nat.mul_one, rowsG hlt]
    refine awp_loopK (fun j : Nat => [(0, .isl 1 (g.map row) g.length), (10, .isl 1 (g.map row) g.length), (11, .int .i64 g.length), (12, .int .i64 k), (16, .isl 1 (ints g[k]) g[k].length), (17, .int .i64 g[k].length), (18, .int .i64 j)]) (fun j s' => j ≤ g[k].length ∧ s' = s ∧ ∀ i (hi : i < g[k].length), i < j → 0 ≤ g[k][i] ∧ g[k][i] < g.length) (fun j => g[k].length - j) 0 rfl ⟨Nat.zero_le _, rfl, fun i _ h => by omega⟩ ?_
    rintro j s ⟨hj, rfl, hok2⟩
    by_cases hjl : j < g[k].length
    · have hjl' : (j : Int) < (g[k].length : Nat) := by omega
      have hzj : (0:Int) ≤ (j : Int) ∧ (j : Int) < (g[k].length : Nat) := by omega
      have hwj := wsucc hjl (hg.2 _ (List.getElem_mem hlt))
      have bad : (g[k][j] < 0 ∨ (g.length : Int) ≤ g[k][j]) → ¬ g.ok := fun h hx => by have := hx _ (List.getElem_mem hlt) _ (List.getElem_mem hjl); omega
      by_cases hn : g[k][j] < 0
      · simp only [↓Bp, Bq, Bs, ↓aop.eq_28, ↓aop.eq_30, Nat.reduceEqDiff, Nat.reduceAdd, Nat.reduceMul, Nat.reduceSub, Nat.reduceLeDiff, Nat.reduceLT, Int.reduceLT, Int.reduceLE, Int.reduceEq, Int.reduceToNat, Int.reduceAdd, Int.reduceSub, Int.reduceNeg, ↓reduceIte, reduceCtorEq, ↓C.graph_numbers_W, C.graph_numbers_B, C.graph_numbers, hjl', hzj, Int.toNat_natCast, Nat.mul_one, ints_get hjl, hn, bad (.inl hn)]
      · by_cases hn2 : (g.length : Int) ≤ g[k][j]
        · simp only [↓Bp, Bq, Bs, ↓aop.eq_28, ↓aop.eq_30, Nat.reduceEqDiff, Nat.reduceAdd, Nat.reduceMul, Nat.reduceSub, Nat.reduceLeDiff, Nat.reduceLT, Int.reduceLT, Int.reduceLE, Int.reduceEq, Int.reduceToNat, Int.reduceAdd, Int.reduceSub, Int.reduceNeg, ↓reduceIte, reduceCtorEq, ↓C.graph_numbers_W, C.graph_numbers_B, C.graph_numbers, hjl', hzj, Int.toNat_natCast, Nat.mul_one, ints_get hjl, hn, hn2, bad (.inr hn2)]
        · simp only [↓Bp, Bq, Bs, ↓aop.eq_28, ↓aop.eq_30, Nat.reduceEqDiff, Nat.reduceAdd, Nat.reduceMul, Nat.reduceSub, Nat.reduceLeDiff, Nat.reduceLT, Int.reduceLT, Int.reduceLE, Int.reduceEq, Int.reduceToNat, Int.reduceAdd, Int.reduceSub, Int.reduceNeg, ↓reduceIte, reduceCtorEq, ↓C.graph_numbers_W, C.graph_numbers_B, C.graph_numbers, hjl', hzj, Int.toNat_natCast, Nat.mul_one, ints_get hjl, hn, hn2, hwj]
          refine ⟨j + 1, rfl, ⟨hjl, fun i hi hij => ?_⟩, by omega⟩
          by_cases e : i = j
          · subst e; omega
          · exact hok2 i hi (by omega)
    · have hjl' : ¬ (j : Int) < (g[k].length : Nat) := by omega
      simp only [↓Bp, Bq, Bs, ↓aop.eq_28, ↓aop.eq_30, Nat.reduceEqDiff, Nat.reduceAdd, Nat.reduceMul, Nat.reduceSub, Nat.reduceLeDiff, Nat.reduceLT, Int.reduceLT, Int.reduceLE, Int.reduceEq, Int.reduceToNat, Int.reduceAdd, Int.reduceSub, Int.reduceNeg, ↓reduceIte, reduceCtorEq, ↓C.graph_numbers_W, C.graph_numbers_B, C.graph_numbers, hjl', hw]
      refine ⟨k + 1, rfl, ⟨hlt, fun i hi hik => ?_⟩, by omega⟩
      by_cases e : i = k
      · subst e
        intro u hu
        obtain ⟨m, hm, rfl⟩ := List.getElem_of_mem hu
        exact hok2 m hm (by omega)
      · exact hok i hi (by omega)
  · have hlt' : ¬ (k : Int) < (g.length : Nat) := by omega
    have : g.ok := fun r hr u hu => by
      obtain ⟨i, hi, rfl⟩ := List.getElem_of_mem hr
      exact hok i hi (by omega) u hu
    simp only [↓Bp, Bq, Bs, ↓aop.eq_28, ↓aop.eq_30, Nat.reduceEqDiff, Nat.reduceAdd, Nat.reduceMul, Nat.reduceSub, Nat.reduceLeDiff, Nat.reduceLT, Int.reduceLT, Int.reduceLE, Int.reduceEq, Int.reduceToNat, Int.reduceAdd, Int.reduceSub, Int.reduceNeg, ↓reduceIte, reduceCtorEq, ↓C.graph_numbers_W, C.graph_numbers_B, C.graph_numbers, hlt', this]

end
end Go.Proofs.Ytjamidgdhmjhaaa.Cn
