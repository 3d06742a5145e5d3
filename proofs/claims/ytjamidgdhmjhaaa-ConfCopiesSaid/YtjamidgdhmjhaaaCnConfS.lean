/- Descriptions: the example at the head of all statements. -/
import Derived.Test.YtjamidgdhmjhaaaCnConf9
import Derived.Test.YtjamidgdhmjhaaaCnChipSane
import Derived.Test.YtjamidgdhmjhaaaCnChipT
set_option linter.unusedSimpArgs false
set_option linter.unusedVariables false
namespace Go.Proofs.Ytjamidgdhmjhaaa.Cn
open Go Go.Proofs

theorem grErr_cycle {g : Gr} (hl : g.length ≤ 100) (hok : g.ok) {v : Nat} (hu : Up g v v) : grErr g = 5 := by
  by_cases h : (ord g).length < g.length
  · unfold grErr; rw [if_neg (by omega), if_pos hok, if_pos h]
  · have := (ord_topo g).len
    exact absurd hu (Right.irrefl ⟨hok, by omega⟩ v)
theorem same_own {st : ASt} {vs ws : List AV} {a b : Soc} {L M : List Nat} (h : RepL st vs a.cells L) (k : RepL st ws b.cells M) (ha : a.sane) : ACalls Try.prog F.conf_Same [.agg vs, .agg ws] st fun r s => (∃ t, r = .bool t ∧ (t = true ↔ a = b)) ∧ s = st :=
  ACalls.borrow (Q := fun r => ∃ t, r = .bool t ∧ (t = true ↔ a = b)) ((conf_same_spec ha).mono fun _ _ h => h.1) (Views.cons h.viewAgg (Views.cons k.viewAgg (Views.nil st))) fun v ⟨t, h, _⟩ => by rw [h]; exact .bool _

theorem shown_spec (st : ASt) : ACalls Try.prog F.catnaplaw4_shown [] st fun r s => r = .bool true ∧ s = st := by
  refine ACalls.gc (Q' := fun r s => r = .bool true ∧ st.le s) (calls_of_awp L.catnaplaw4_shown rfl ?_) (fun v s ⟨h, hl⟩ => ⟨st, hl, h, rfl⟩)
  simp only [↓Bp, Bq, Bs, ↓aop.eq_28, ↓aop.eq_30, Nat.reduceEqDiff, Nat.reduceAdd, Nat.reduceMul, Nat.reduceSub, Nat.reduceLeDiff, Nat.reduceLT, Int.reduceLT, Int.reduceLE, Int.reduceEq, Int.reduceToNat, Int.reduceAdd, Int.reduceSub, Int.reduceNeg, ↓reduceIte, reduceCtorEq, ↓C.catnaplaw4_shown_W, C.catnaplaw4_shown_B, C.catnaplaw4_shown]
  rintro i hi j ⟨hj, hji⟩
  have hj' : (st.new i (.cells [.int .i64 0])).h j = none := by rw [ASt.new_none]; exact ⟨hj, hji⟩
  have hr : RepL ((st.new i (.cells [.int .i64 0])).new j (.cells [.int .u8 103, .sl 1 i 0 1, .int .u64 0, .int .i64 0, .int .i64 0, .int .i64 0])) [.sl 6 j 0 1, .nils, .nils, .nils] (Soc.cells ⟨[⟨103, [0], 0, 0, 0, 0⟩], [], [], []⟩) [j, i] := by
    refine .sl (L1 := [i]) (L2 := []) (ASt.new_self _ hj') ?_ (by simpa using hji) (by simp) (by simp) (.nils 3 (.nils 1 (.nils 6 .nil)))
    exact .one rfl (.sl (L1 := []) (L2 := []) (ASt.new_old (ASt.new_self _ hi)) (RepL.scalars rfl _) (by simp) (by simp) (by simp) (RepL.scalars rfl _))
  have he : confErr ⟨[⟨103, [0], 0, 0, 0, 0⟩], [], [], []⟩ = 5 := by
    have hg : grErr [[0]] = 5 := by
      refine grErr_cycle (v := 0) (by decide) (fun r hr u hu => ?_) (.one (by decide))
      have : r = [0] := by simpa using hr
      subst this
      have : u = 0 := by simpa using hu
      subst this
      decide
    have h2 : cycE [[0]] = 5 := by rw [cycE, if_pos hg]
    rw [confErr, firstE_stop (k := 2) (firstE_zero.mpr fun i hi => ?_) (by show cycE [[0]] ≠ 0; rw [h2]; decide) (by decide)]
    · exact h2
    · match i, hi with
      | 0, _ => decide
      | 1, _ => decide
  refine (check_own hr (by intro c hc; simp at hc; subst hc; simp)).mono ?_
  rintro r s ⟨rfl, rfl⟩
  simp only [↓Bp, Bq, Bs, ↓aop.eq_28, ↓aop.eq_30, Nat.reduceEqDiff, Nat.reduceAdd, Nat.reduceMul, Nat.reduceSub, Nat.reduceLeDiff, Nat.reduceLT, Int.reduceLT, Int.reduceLE, Int.reduceEq, Int.reduceToNat, Int.reduceAdd, Int.reduceSub, Int.reduceNeg, ↓reduceIte, reduceCtorEq, ↓C.catnaplaw4_shown_W, C.catnaplaw4_shown_B, C.catnaplaw4_shown, he]
  refine (same_own (a := ⟨[], [], [], []⟩) (b := ⟨[], [], [], []⟩) (L := []) (M := []) (.nils 6 (.nils 3 (.nils 1 (.nils 6 .nil)))) (.nils 6 (.nils 3 (.nils 1 (.nils 6 .nil)))) ⟨by simp, by simp, by simp, by simp, by simp, by simp⟩).mono ?_
  rintro r s ⟨⟨t, rfl, ht⟩, rfl⟩
  simp only [↓Bp, Bq, Bs, ↓aop.eq_28, ↓aop.eq_30, Nat.reduceEqDiff, Nat.reduceAdd, Nat.reduceMul, Nat.reduceSub, Nat.reduceLeDiff, Nat.reduceLT, Int.reduceLT, Int.reduceLE, Int.reduceEq, Int.reduceToNat, Int.reduceAdd, Int.reduceSub, Int.reduceNeg, ↓reduceIte, reduceCtorEq, ↓C.catnaplaw4_shown_W, C.catnaplaw4_shown_B, C.catnaplaw4_shown]
  exact ⟨by rw [ht.mpr rfl], (ASt.le.new _ _ _).trans (ASt.le.new _ _ _)⟩
end Go.Proofs.Ytjamidgdhmjhaaa.Cn
