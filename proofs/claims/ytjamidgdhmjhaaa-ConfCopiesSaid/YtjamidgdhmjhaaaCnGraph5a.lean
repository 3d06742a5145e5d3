/- Graphs: Check, Above, Under. -/
import Derived.Test.YtjamidgdhmjhaaaCnGraph4
set_option linter.unusedSimpArgs false
set_option linter.unusedVariables false
namespace Go.Proofs.Ytjamidgdhmjhaaa.Cn
open Go Go.Proofs

section
variable {st : ASt} {g : Gr}

theorem order_spec (hg : g.few) : ACalls Try.prog F.graph_Order [.isl 1 (g.map row) g.length] st fun v st' => v = .tup [row (nats (ordL g)), .int .i64 (grErr g)] ∧ st' = st := by
  refine (order_spec0 hg).ghost ?_
  rintro v st' (⟨h1, rfl, rfl⟩ | ⟨h1, x, rfl, hO⟩)
  · refine ⟨_, st', Ghost.tupL (Ghost.nils 1) _, ?_, rfl⟩
    rw [ordL, if_neg h1]; rfl
  · refine ⟨_, st, Ghost.tupL hO.frz _, ?_, rfl⟩
    have h2 := (grErr_zero.mp h1).2.full
    rw [ordL, if_pos h1, row, h1, nats_length, h2]

theorem check_spec (hg : g.few) : ACalls Try.prog F.graph_Check [.isl 1 (g.map row) g.length] st fun v st' => v = .int .i64 (grErr g) ∧ st' = st := by
  refine calls_of_awp L.graph_Check rfl ?_
  simp only [↓Bp, Bq, Bs, ↓aop.eq_28, ↓aop.eq_30, Nat.reduceEqDiff, Nat.reduceAdd, Nat.reduceMul, Nat.reduceSub, Nat.reduceLeDiff, Nat.reduceLT, Int.reduceLT, Int.reduceLE, Int.reduceEq, Int.reduceToNat, Int.reduceAdd, Int.reduceSub, Int.reduceNeg, ↓reduceIte, reduceCtorEq, ↓C.graph_Check_W, C.graph_Check_B, C.graph_Check]
  refine (order_spec hg).mono ?_
  rintro v st' ⟨rfl, rfl⟩
  simp only [↓Bp, Bq, Bs, ↓aop.eq_28, ↓aop.eq_30, Nat.reduceEqDiff, Nat.reduceAdd, Nat.reduceMul, Nat.reduceSub, Nat.reduceLeDiff, Nat.reduceLT, Int.reduceLT, Int.reduceLE, Int.reduceEq, Int.reduceToNat, Int.reduceAdd, Int.reduceSub, Int.reduceNeg, ↓reduceIte, reduceCtorEq, ↓C.graph_Check_W, C.graph_Check_B, C.graph_Check]

end
end Go.Proofs.Ytjamidgdhmjhaaa.Cn
