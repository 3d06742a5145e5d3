/- Graphs: how the statements make right ones. -/
import Derived.Test.YthmdiljjkogghaaCnGraphL
import Derived.Test.YthmdiljjkogghaaCnShapes
set_option linter.unusedSimpArgs false
set_option linter.unusedVariables false
namespace Go.Proofs.Ythmdiljjkogghaa.Cn
open Go Go.Proofs

/-- Each hangs on lesser ones, or, turned, on greater ones. -/
def Falls (t : Bool) (g : Gr) : Prop := ∀ v (h : v < g.length), g[v].length ≤ 40 ∧ ∀ u ∈ g[v], 0 ≤ u ∧ u < g.length ∧ if t = true then (v : Int) < u else u < v

theorem Falls.few {t : Bool} {g : Gr} (h : Falls t g) (hn : g.length ≤ 100) : g.few := ⟨by omega, fun r hr => by
  obtain ⟨i, hi, rfl⟩ := List.getElem_of_mem hr
  have := (h i hi).1
  omega⟩
theorem Falls.ok {t : Bool} {g : Gr} (h : Falls t g) : g.ok := fun r hr u hu => by
  obtain ⟨i, hi, rfl⟩ := List.getElem_of_mem hr
  have := (h i hi).2 u hu
  exact ⟨this.1, this.2.1⟩
theorem Falls.right {t : Bool} {g : Gr} (h : Falls t g) : Right g := by
  refine ⟨h.ok, ord_full h.ok (fun v => if t = true then g.length - v else v) fun v hv u hu => ?_⟩
  have hu' := (mem_deps h.ok hv).mp hu
  have := (h v hv).2 u hu'
  cases t
  · simp only [Bool.false_eq_true, if_false] at this ⊢
    omega
  · simp only [if_true] at this ⊢
    omega
theorem Falls.err {t : Bool} {g : Gr} (h : Falls t g) (hn : g.length ≤ 100) : grErr g = 0 := grErr_zero.mpr ⟨hn, h.right⟩

section
variable {st : ASt}

theorem falling_spec {n : Nat} {l : List Int} (hn : n ≤ 100) (hl : l.length ≤ 9223372036854775807) (hr : ∀ x ∈ l, I64 x) (t : Bool) : ACalls Try.prog F.catnaplaw3_falling [.int .i64 n, .isl 1 (ints l) l.length, .bool t] st fun r st' =>
    ∃ id g, r = .sl 1 id 0 n ∧ g.length = n ∧ Falls t g ∧ st'.h id = some (.cells (g.map row)) ∧ st.le st' ∧ st.h id = none := by
  have hz0 : (0 : Int) ≤ (n : Int) ∧ (n : Int) ≤ 4294967296 := by omega
  refine ACalls.ghost (Q' := fun r s => ∃ id g, r = .sl 1 id 0 n ∧ g.length = n ∧ Falls t g ∧ Nest st s id (fun _ => false) g) (calls_of_awp L.catnaplaw3_falling rfl ?_) ?_
  rotate_left
  · rintro r s ⟨id, g, rfl, h1, h2, h3⟩
    obtain ⟨st1, g1, g2, g3⟩ := h3.freeze (.sl 1 id 0 n)
    exact ⟨_, st1, g1, id, g, rfl, h1, h2, g3, g2, h3.idn⟩
  simp only [↓Bp, Bq, ↓aop.eq_28, ↓aop.eq_30, ↓initFr, aeqP, abinv, abin, aun, bound, aslice, aput, putN, zeros, heldOk, aheadOk, IOp.again, List.map_cons, List.map_nil, List.append_nil, List.nil_append, Nat.reduceEqDiff, Nat.reduceAdd, Nat.reduceMul, Nat.reduceSub, Nat.reduceLeDiff, Nat.reduceLT, Int.reduceLT, Int.reduceLE, Int.reduceEq, Int.reduceToNat, Int.reduceAdd, Int.reduceSub, Int.reduceNeg, not_false_eq_true, not_true_eq_false, if_true, if_false, Bool.false_xor, Bool.true_xor, Bool.false_eq_true, Bool.true_eq_false, Bool.not_true, Bool.not_false, decide_true, decide_false, Nat.zero_add, Nat.add_zero, List.getElem?_cons_zero, List.getElem?_cons_succ, true_and, and_true, and_self, List.length_cons, List.length_nil, ↓reduceIte, reduceCtorEq, Option.some_or, Option.none_or, Option.or_none, eq_self, Option.map_some, List.length_set, List.set_cons_zero, List.set_cons_succ, List.cons_append, List.drop_zero, List.drop_succ_cons, List.take_succ_cons, List.take_zero, List.all_cons, List.all_nil, Bool.and_true, Option.isSome_some, Option.isSome_none, Option.isNone_some, Option.isNone_none, false_and, and_false, ↓C.catnaplaw3_falling_W, C.catnaplaw3_falling_B, C.catnaplaw3_falling, hz0, Int.toNat_natCast, zeros_nils]
  intro id hid
  refine awp_loopK (fun i : Nat => [(0, .int .i64 n), (1, .isl 1 (ints l) l.length), (2, .bool t), (7, .sl 1 id 0 n), (8, .int .i64 i)]) (fun i s => i ≤ l.length ∧ i ≤ 40 ∧ ∃ g, Nest st s id (fun _ => false) g ∧ g.length = n ∧ Falls t g ∧ ∀ r ∈ g, r.length ≤ i) (fun i => l.length - i) 0 rfl
    ⟨Nat.zero_le _, Nat.zero_le _, List.replicate n [], nest_nils (ASt.new_self _ hid) (ASt.le.new _ _ _) hid _, by simp, fun v hv => by simp, fun r hr => by simp [List.eq_of_mem_replicate hr]⟩ ?_
  rintro i s ⟨hi, hi40, g, hN, hgn, hF, hgl⟩
  by_cases h1 : i < l.length
  rotate_left
  · have h1' : ¬ (i : Int) < (l.length : Nat) := by omega
    simp only [↓Bp, Bq, ↓aop.eq_28, ↓aop.eq_30, ↓initFr, aeqP, abinv, abin, aun, bound, aslice, aput, putN, zeros, heldOk, aheadOk, IOp.again, List.map_cons, List.map_nil, List.append_nil, List.nil_append, Nat.reduceEqDiff, Nat.reduceAdd, Nat.reduceMul, Nat.reduceSub, Nat.reduceLeDiff, Nat.reduceLT, Int.reduceLT, Int.reduceLE, Int.reduceEq, Int.reduceToNat, Int.reduceAdd, Int.reduceSub, Int.reduceNeg, not_false_eq_true, not_true_eq_false, if_true, if_false, Bool.false_xor, Bool.true_xor, Bool.false_eq_true, Bool.true_eq_false, Bool.not_true, Bool.not_false, decide_true, decide_false, Nat.zero_add, Nat.add_zero, List.getElem?_cons_zero, List.getElem?_cons_succ, true_and, and_true, and_self, List.length_cons, List.length_nil, ↓reduceIte, reduceCtorEq, Option.some_or, Option.none_or, Option.or_none, eq_self, Option.map_some, List.length_set, List.set_cons_zero, List.set_cons_succ, List.cons_append, List.drop_zero, List.drop_succ_cons, List.take_succ_cons, List.take_zero, List.all_cons, List.all_nil, Bool.and_true, Option.isSome_some, Option.isSome_none, Option.isNone_some, Option.isNone_none, false_and, and_false, ↓C.catnaplaw3_falling_W, C.catnaplaw3_falling_B, C.catnaplaw3_falling, h1']
    exact ⟨id, g, rfl, hgn, hF, hN⟩
  have h1' : (i : Int) < (l.length : Nat) := by omega
  by_cases h2 : i < 40
  rotate_left
  · have h2' : ¬ (i : Int) < 40 := by omega
    simp only [↓Bp, Bq, ↓aop.eq_28, ↓aop.eq_30, ↓initFr, aeqP, abinv, abin, aun, bound, aslice, aput, putN, zeros, heldOk, aheadOk, IOp.again, List.map_cons, List.map_nil, List.append_nil, List.nil_append, Nat.reduceEqDiff, Nat.reduceAdd, Nat.reduceMul, Nat.reduceSub, Nat.reduceLeDiff, Nat.reduceLT, Int.reduceLT, Int.reduceLE, Int.reduceEq, Int.reduceToNat, Int.reduceAdd, Int.reduceSub, Int.reduceNeg, not_false_eq_true, not_true_eq_false, if_true, if_false, Bool.false_xor, Bool.true_xor, Bool.false_eq_true, Bool.true_eq_false, Bool.not_true, Bool.not_false, decide_true, decide_false, Nat.zero_add, Nat.add_zero, List.getElem?_cons_zero, List.getElem?_cons_succ, true_and, and_true, and_self, List.length_cons, List.length_nil, ↓reduceIte, reduceCtorEq, Option.some_or, Option.none_or, Option.or_none, eq_self, Option.map_some, List.length_set, List.set_cons_zero, List.set_cons_succ, List.cons_append, List.drop_zero, List.drop_succ_cons, List.take_succ_cons, List.take_zero, List.all_cons, List.all_nil, Bool.and_true, Option.isSome_some, Option.isSome_none, Option.isNone_some, Option.isNone_none, false_and, and_false, ↓C.catnaplaw3_falling_W, C.catnaplaw3_falling_B, C.catnaplaw3_falling, h1', h2']
    exact ⟨id, g, rfl, hgn, hF, hN⟩
  have h2' : (i : Int) < 40 := by omega
  by_cases h3 : 1 < n
  rotate_left
  · have h3' : ¬ (1 : Int) < (n : Int) := by omega
    simp only [↓Bp, Bq, ↓aop.eq_28, ↓aop.eq_30, ↓initFr, aeqP, abinv, abin, aun, bound, aslice, aput, putN, zeros, heldOk, aheadOk, IOp.again, List.map_cons, List.map_nil, List.append_nil, List.nil_append, Nat.reduceEqDiff, Nat.reduceAdd, Nat.reduceMul, Nat.reduceSub, Nat.reduceLeDiff, Nat.reduceLT, Int.reduceLT, Int.reduceLE, Int.reduceEq, Int.reduceToNat, Int.reduceAdd, Int.reduceSub, Int.reduceNeg, not_false_eq_true, not_true_eq_false, if_true, if_false, Bool.false_xor, Bool.true_xor, Bool.false_eq_true, Bool.true_eq_false, Bool.not_true, Bool.not_false, decide_true, decide_false, Nat.zero_add, Nat.add_zero, List.getElem?_cons_zero, List.getElem?_cons_succ, true_and, and_true, and_self, List.length_cons, List.length_nil, ↓reduceIte, reduceCtorEq, Option.some_or, Option.none_or, Option.or_none, eq_self, Option.map_some, List.length_set, List.set_cons_zero, List.set_cons_succ, List.cons_append, List.drop_zero, List.drop_succ_cons, List.take_succ_cons, List.take_zero, List.all_cons, List.all_nil, Bool.and_true, Option.isSome_some, Option.isSome_none, Option.isNone_some, Option.isNone_none, false_and, and_false, ↓C.catnaplaw3_falling_W, C.catnaplaw3_falling_B, C.catnaplaw3_falling, h1', h2', h3']
    exact ⟨id, g, rfl, hgn, hF, hN⟩
  have h3' : (1 : Int) < (n : Int) := by omega
  have hz : (0:Int) ≤ (i : Int) ∧ (i : Int) < (l.length : Nat) := by omega
  have hw := wsucc h1 hl
  have hx := hr _ (List.getElem_mem h1)
  have e1 : IntKind.i64.wrap ((n : Int) - 1) = ((n - 1 : Nat) : Int) := by rw [wrap64] <;> omega
  simp only [↓Bp, Bq, ↓aop.eq_28, ↓aop.eq_30, ↓initFr, aeqP, abinv, abin, aun, bound, aslice, aput, putN, zeros, heldOk, aheadOk, IOp.again, List.map_cons, List.map_nil, List.append_nil, List.nil_append, Nat.reduceEqDiff, Nat.reduceAdd, Nat.reduceMul, Nat.reduceSub, Nat.reduceLeDiff, Nat.reduceLT, Int.reduceLT, Int.reduceLE, Int.reduceEq, Int.reduceToNat, Int.reduceAdd, Int.reduceSub, Int.reduceNeg, not_false_eq_true, not_true_eq_false, if_true, if_false, Bool.false_xor, Bool.true_xor, Bool.false_eq_true, Bool.true_eq_false, Bool.not_true, Bool.not_false, decide_true, decide_false, Nat.zero_add, Nat.add_zero, List.getElem?_cons_zero, List.getElem?_cons_succ, true_and, and_true, and_self, List.length_cons, List.length_nil, ↓reduceIte, reduceCtorEq, Option.some_or, Option.none_or, Option.or_none, eq_self, Option.map_some, List.length_set, List.set_cons_zero, List.set_cons_succ, List.cons_append, List.drop_zero, List.drop_succ_cons, List.take_succ_cons, List.take_zero, List.all_cons, List.all_nil, Bool.and_true, Option.isSome_some, Option.isSome_none, Option.isNone_some, Option.isNone_none, false_and, and_false, ↓C.catnaplaw3_falling_W, C.catnaplaw3_falling_B, C.catnaplaw3_falling, h1', h2', h3', hz, Int.toNat_natCast, Nat.mul_one, ints_get h1, e1]
  refine (pick_spec hx (by omega)).mono ?_
  rintro r s' ⟨rfl, rfl⟩
  have hal := pickI_lt l[i] (n := n - 1) (by omega)
  generalize pickI l[i] (n - 1) = a at hal
  have e2 : IntKind.i64.wrap (1 + (a : Int)) = ((a + 1 : Nat) : Int) := by rw [wrap64] <;> omega
  have hn0 : ¬ (n : Int) = 0 := by omega
  have hq1 : (l[i]).tdiv (n : Int) ≤ 9223372036854775807 ∧ -9223372036854775808 ≤ (l[i]).tdiv (n : Int) := by
    have h7 : ((l[i]).tdiv (n : Int)).natAbs = l[i].natAbs / n := by rw [Int.natAbs_tdiv, Int.natAbs_natCast]; rfl
    have h8 : l[i].natAbs / n ≤ l[i].natAbs / 2 := Nat.div_le_div_left (by omega) (by omega)
    obtain ⟨x1, x2⟩ := hx
    rw [← h7] at h8
    omega
  have e3 : IntKind.i64.wrap ((l[i]).tdiv (n : Int)) = (l[i]).tdiv (n : Int) := wrap64 hq1.2 hq1.1
  simp only [↓Bp, Bq, ↓aop.eq_28, ↓aop.eq_30, ↓initFr, aeqP, abinv, abin, aun, bound, aslice, aput, putN, zeros, heldOk, aheadOk, IOp.again, List.map_cons, List.map_nil, List.append_nil, List.nil_append, Nat.reduceEqDiff, Nat.reduceAdd, Nat.reduceMul, Nat.reduceSub, Nat.reduceLeDiff, Nat.reduceLT, Int.reduceLT, Int.reduceLE, Int.reduceEq, Int.reduceToNat, Int.reduceAdd, Int.reduceSub, Int.reduceNeg, not_false_eq_true, not_true_eq_false, if_true, if_false, Bool.false_xor, Bool.true_xor, Bool.false_eq_true, Bool.true_eq_false, Bool.not_true, Bool.not_false, decide_true, decide_false, Nat.zero_add, Nat.add_zero, List.getElem?_cons_zero, List.getElem?_cons_succ, true_and, and_true, and_self, List.length_cons, List.length_nil, ↓reduceIte, reduceCtorEq, Option.some_or, Option.none_or, Option.or_none, eq_self, Option.map_some, List.length_set, List.set_cons_zero, List.set_cons_succ, List.cons_append, List.drop_zero, List.drop_succ_cons, List.take_succ_cons, List.take_zero, List.all_cons, List.all_nil, Bool.and_true, Option.isSome_some, Option.isSome_none, Option.isNone_some, Option.isNone_none, false_and, and_false, ↓C.catnaplaw3_falling_W, C.catnaplaw3_falling_B, C.catnaplaw3_falling, e2, hz, Int.toNat_natCast, Nat.mul_one, ints_get h1, hn0, e3]
  refine (pick_spec ⟨hq1.2, hq1.1⟩ (by omega)).mono ?_
  rintro r s2 ⟨rfl, rfl⟩
  have hbl := pickI_lt (l[i].tdiv (n : Int)) (n := a + 1) (by omega)
  generalize pickI (l[i].tdiv (n : Int)) (a + 1) = b at hbl
  -- which row, which number
  have main : ∀ (j : Nat) (x : Int), j < n → (0 ≤ x ∧ x < n ∧ if t = true then (j : Int) < x else x < j) → ∀ g2, g2 = g.set j ((g[j]?).getD [] ++ [x]) → g2.length = n ∧ Falls t g2 ∧ ∀ r ∈ g2, r.length ≤ i + 1 := by
    rintro j x hj hx g2 rfl
    have hjg : j < g.length := by omega
    have hrow : ∀ v (hv : v < (g.set j ((g[j]?).getD [] ++ [x])).length), (g.set j ((g[j]?).getD [] ++ [x]))[v].length ≤ i + 1 ∧ ∀ u ∈ (g.set j ((g[j]?).getD [] ++ [x]))[v], 0 ≤ u ∧ u < g.length ∧ if t = true then (v : Int) < u else u < v := by
      intro v hv
      have hvg : v < g.length := by simpa using hv
      by_cases e : v = j
      · subst e
        simp only [List.getElem_set_self, List.getElem?_eq_getElem hvg, Option.getD_some]
        refine ⟨by have := hgl _ (List.getElem_mem hvg); simp; exact this, fun u hu => ?_⟩
        rcases List.mem_append.mp hu with hu | hu
        · exact (hF v hvg).2 u hu
        · rw [List.mem_singleton] at hu; subst hu; rw [hgn]; exact hx
      · simp only [List.getElem_set_ne (Ne.symm e)]
        exact ⟨by have := hgl _ (List.getElem_mem hvg); omega, (hF v hvg).2⟩
    refine ⟨by simpa using hgn, fun v hv => ⟨by have := (hrow v hv).1; omega, fun u hu => by simpa using (hrow v hv).2 u hu⟩, fun r hr => ?_⟩
    obtain ⟨v, hv, rfl⟩ := List.getElem_of_mem hr
    exact (hrow v hv).1
  cases t
  · have haz : (0:Int) ≤ ((a + 1 : Nat) : Int) ∧ ((a + 1 : Nat) : Int) < (n : Int) := by omega
    have hag : a + 1 < g.length := by omega
    obtain ⟨vs, v0, d1, d2, d3, d4, d5⟩ := hN.shows hag rfl
    have hlen := hgl _ (List.getElem_mem hag)
    have havs : a + 1 < vs.length := by omega
    simp only [↓Bp, Bq, ↓initFr, aeqP, abinv, abin, aun, bound, aslice, aput, putN, zeros, heldOk, aheadOk, IOp.again, List.map_cons, List.map_nil, List.append_nil, List.nil_append, Nat.reduceEqDiff, Nat.reduceAdd, Nat.reduceMul, Nat.reduceSub, Nat.reduceLeDiff, Nat.reduceLT, Int.reduceLT, Int.reduceLE, Int.reduceEq, Int.reduceToNat, Int.reduceAdd, Int.reduceSub, Int.reduceNeg, not_false_eq_true, not_true_eq_false, if_true, if_false, Bool.false_xor, Bool.true_xor, Bool.false_eq_true, Bool.true_eq_false, Bool.not_true, Bool.not_false, decide_true, decide_false, Nat.zero_add, Nat.add_zero, List.getElem?_cons_zero, List.getElem?_cons_succ, true_and, and_true, and_self, List.length_cons, List.length_nil, ↓reduceIte, reduceCtorEq, Option.some_or, Option.none_or, Option.or_none, eq_self, Option.map_some, List.length_set, List.set_cons_zero, List.set_cons_succ, List.cons_append, List.drop_zero, List.drop_succ_cons, List.take_succ_cons, List.take_zero, List.all_cons, List.all_nil, Bool.and_true, Option.isSome_some, Option.isSome_none, Option.isNone_some, Option.isNone_none, false_and, and_false, ↓C.catnaplaw3_falling_W, C.catnaplaw3_falling_B, C.catnaplaw3_falling, haz, Int.toNat_natCast, Nat.mul_one, d1, d3]
    refine aop_append_one d4 (by omega) (new := [.int .i64 b]) rfl rfl rfl (fun _ => rfl) (fun _ => rfl) ?_
    intro v1 i2 st2 f1 f2 f3
    obtain ⟨k1, k2⟩ := d5 i2 st2 b f1 f2 (by
      obtain ⟨i, q1, q2⟩ := f3.blk (by omega)
      cases q1
      rw [q2, ints_append]; rfl)
    simp only [↓Bp, Bq, ↓aop.eq_28, ↓aop.eq_30, ↓initFr, aeqP, abinv, abin, aun, bound, aslice, aput, putN, zeros, heldOk, aheadOk, IOp.again, List.map_cons, List.map_nil, List.append_nil, List.nil_append, Nat.reduceEqDiff, Nat.reduceAdd, Nat.reduceMul, Nat.reduceSub, Nat.reduceLeDiff, Nat.reduceLT, Int.reduceLT, Int.reduceLE, Int.reduceEq, Int.reduceToNat, Int.reduceAdd, Int.reduceSub, Int.reduceNeg, not_false_eq_true, not_true_eq_false, if_true, if_false, Bool.false_xor, Bool.true_xor, Bool.false_eq_true, Bool.true_eq_false, Bool.not_true, Bool.not_false, decide_true, decide_false, Nat.zero_add, Nat.add_zero, List.getElem?_cons_zero, List.getElem?_cons_succ, true_and, and_true, and_self, List.length_cons, List.length_nil, ↓reduceIte, reduceCtorEq, Option.some_or, Option.none_or, Option.or_none, eq_self, Option.map_some, List.length_set, List.set_cons_zero, List.set_cons_succ, List.cons_append, List.drop_zero, List.drop_succ_cons, List.take_succ_cons, List.take_zero, List.all_cons, List.all_nil, Bool.and_true, Option.isSome_some, Option.isSome_none, Option.isNone_some, Option.isNone_none, false_and, and_false, ↓C.catnaplaw3_falling_W, C.catnaplaw3_falling_B, C.catnaplaw3_falling, haz, Int.toNat_natCast, Nat.mul_one, k1, havs, hw]
    refine ⟨i + 1, rfl, ⟨h1, h2, _, k2, ?_⟩, by omega⟩
    refine main (a + 1) b (by omega) ?_ _ (by rw [List.getElem?_eq_getElem hag]; rfl)
    simp only [Bool.false_eq_true, if_false]; omega
  · have e4 : IntKind.i64.wrap (((n - 1 : Nat) : Int) - ((a + 1 : Nat) : Int)) = ((n - 1 - (a + 1) : Nat) : Int) := by rw [wrap64] <;> omega
    have e5 : IntKind.i64.wrap (((n - 1 : Nat) : Int) - (b : Int)) = ((n - 1 - b : Nat) : Int) := by rw [wrap64] <;> omega
    have haz : (0:Int) ≤ ((n - 1 - (a + 1) : Nat) : Int) ∧ ((n - 1 - (a + 1) : Nat) : Int) < (n : Int) := by omega
    have hag : n - 1 - (a + 1) < g.length := by omega
    obtain ⟨vs, v0, d1, d2, d3, d4, d5⟩ := hN.shows hag rfl
    have hlen := hgl _ (List.getElem_mem hag)
    have havs : n - 1 - (a + 1) < vs.length := by omega
    simp only [↓Bp, Bq, ↓initFr, aeqP, abinv, abin, aun, bound, aslice, aput, putN, zeros, heldOk, aheadOk, IOp.again, List.map_cons, List.map_nil, List.append_nil, List.nil_append, Nat.reduceEqDiff, Nat.reduceAdd, Nat.reduceMul, Nat.reduceSub, Nat.reduceLeDiff, Nat.reduceLT, Int.reduceLT, Int.reduceLE, Int.reduceEq, Int.reduceToNat, Int.reduceAdd, Int.reduceSub, Int.reduceNeg, not_false_eq_true, not_true_eq_false, if_true, if_false, Bool.false_xor, Bool.true_xor, Bool.false_eq_true, Bool.true_eq_false, Bool.not_true, Bool.not_false, decide_true, decide_false, Nat.zero_add, Nat.add_zero, List.getElem?_cons_zero, List.getElem?_cons_succ, true_and, and_true, and_self, List.length_cons, List.length_nil, ↓reduceIte, reduceCtorEq, Option.some_or, Option.none_or, Option.or_none, eq_self, Option.map_some, List.length_set, List.set_cons_zero, List.set_cons_succ, List.cons_append, List.drop_zero, List.drop_succ_cons, List.take_succ_cons, List.take_zero, List.all_cons, List.all_nil, Bool.and_true, Option.isSome_some, Option.isSome_none, Option.isNone_some, Option.isNone_none, false_and, and_false, ↓C.catnaplaw3_falling_W, C.catnaplaw3_falling_B, C.catnaplaw3_falling, e1, e4, e5, haz, Int.toNat_natCast, Nat.mul_one, d1, d3]
    refine aop_append_one d4 (by omega) (new := [.int .i64 ((n - 1 - b : Nat) : Int)]) rfl rfl rfl (fun _ => rfl) (fun _ => rfl) ?_
    intro v1 i2 st2 f1 f2 f3
    obtain ⟨k1, k2⟩ := d5 i2 st2 ((n - 1 - b : Nat) : Int) f1 f2 (by
      obtain ⟨i, q1, q2⟩ := f3.blk (by omega)
      cases q1
      rw [q2, ints_append]; rfl)
    simp only [↓Bp, Bq, ↓aop.eq_28, ↓aop.eq_30, ↓initFr, aeqP, abinv, abin, aun, bound, aslice, aput, putN, zeros, heldOk, aheadOk, IOp.again, List.map_cons, List.map_nil, List.append_nil, List.nil_append, Nat.reduceEqDiff, Nat.reduceAdd, Nat.reduceMul, Nat.reduceSub, Nat.reduceLeDiff, Nat.reduceLT, Int.reduceLT, Int.reduceLE, Int.reduceEq, Int.reduceToNat, Int.reduceAdd, Int.reduceSub, Int.reduceNeg, not_false_eq_true, not_true_eq_false, if_true, if_false, Bool.false_xor, Bool.true_xor, Bool.false_eq_true, Bool.true_eq_false, Bool.not_true, Bool.not_false, decide_true, decide_false, Nat.zero_add, Nat.add_zero, List.getElem?_cons_zero, List.getElem?_cons_succ, true_and, and_true, and_self, List.length_cons, List.length_nil, ↓reduceIte, reduceCtorEq, Option.some_or, Option.none_or, Option.or_none, eq_self, Option.map_some, List.length_set, List.set_cons_zero, List.set_cons_succ, List.cons_append, List.drop_zero, List.drop_succ_cons, List.take_succ_cons, List.take_zero, List.all_cons, List.all_nil, Bool.and_true, Option.isSome_some, Option.isSome_none, Option.isNone_some, Option.isNone_none, false_and, and_false, ↓C.catnaplaw3_falling_W, C.catnaplaw3_falling_B, C.catnaplaw3_falling, haz, Int.toNat_natCast, Nat.mul_one, k1, havs, hw]
    refine ⟨i + 1, rfl, ⟨h1, h2, _, k2, ?_⟩, by omega⟩
    refine main (n - 1 - (a + 1)) _ (by omega) ?_ _ (by rw [List.getElem?_eq_getElem hag]; rfl)
    simp only [if_true]; omega

/-- The same, as a value. -/
theorem falling_val {n : Nat} {l : List Int} (hn : n ≤ 100) (hl : l.length ≤ 9223372036854775807) (hr : ∀ x ∈ l, I64 x) (t : Bool) : ACalls Try.prog F.catnaplaw3_falling [.int .i64 n, .isl 1 (ints l) l.length, .bool t] st fun r st' =>
    ∃ g : Gr, r = .isl 1 (g.map row) g.length ∧ g.length = n ∧ Falls t g ∧ st' = st := by
  refine (falling_spec hn hl hr t).ghost ?_
  rintro r st' ⟨id, g, rfl, h1, h2, h3, h4, h5⟩
  refine ⟨_, st, (Ghost.freeze h3).trans (Ghost.sub (h4.unkill h5)), g, by rw [h1], h1, h2, rfl⟩
end
end Go.Proofs.Ythmdiljjkogghaa.Cn
