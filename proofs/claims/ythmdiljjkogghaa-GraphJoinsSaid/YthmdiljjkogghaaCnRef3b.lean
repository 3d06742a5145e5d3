/- Graphs: the document's answer, what is above and under. -/
import Derived.Test.YthmdiljjkogghaaCnRef3
set_option linter.unusedSimpArgs false
set_option linter.unusedVariables false
namespace Go.Proofs.Ythmdiljjkogghaa.Cn
open Go Go.Proofs

def NR (g : Gr) (v : Nat) (b : Bool) (i w : Nat) : Prop := if b = true then NearA g v (g.length - i) w else MetU g v i w
def NK (g : Gr) (b : Bool) (i : Nat) : Nat := if b = true then g.length - 1 - i else i
def NE (g : Gr) (b : Bool) (u x : Nat) : Prop := if b = true then x ∈ deps g u else u ∈ deps g x

theorem nr_start {g : Gr} (h : Right g) {v : Nat} (b : Bool) {w : Nat} : NR g v b 0 w ↔ w = v := by
  cases b
  · simp only [NR, Bool.false_eq_true, if_false]; exact metU_start h
  · simp only [NR, if_true, Nat.sub_zero]; exact nearA_start h
theorem nr_end {g : Gr} (h : Right g) {v : Nat} (b : Bool) {w : Nat} : NR g v b g.length w ↔ w = v ∨ (if b = true then Up g v w else Up g w v) := by
  cases b
  · simp only [NR, Bool.false_eq_true, if_false]; exact metU_end h
  · simp only [NR, if_true, Nat.sub_self]; exact nearA_end h
theorem nk_lt {g : Gr} (b : Bool) {i : Nat} (hi : i < g.length) : NK g b i < g.length := by
  cases b
  · simp only [NK, Bool.false_eq_true, if_false]; exact hi
  · simp only [NK, if_true]; omega
theorem nr_step {g : Gr} (h : Right g) {v : Nat} (b : Bool) {i w : Nat} (hi : i < g.length) (hk : NK g b i < (ord g).length) : NR g v b (i + 1) w ↔ NR g v b i w ∨ (w = (ord g)[NK g b i] ∧ ∃ u, NR g v b i u ∧ NE g b u w) := by
  cases b
  · simp only [NR, NK, NE, Bool.false_eq_true, if_false] at hk ⊢
    rw [metU_step h hk]
    constructor
    · rintro (a | ⟨a, u, c, d⟩)
      · exact .inl a
      · exact .inr ⟨a, u, d, c⟩
    · rintro (a | ⟨a, u, c, d⟩)
      · exact .inl a
      · exact .inr ⟨a, u, d, c⟩
  · simp only [NR, NK, NE, if_true] at hk ⊢
    have e1 : g.length - (i + 1) = g.length - 1 - i := by omega
    have e2 : g.length - i = g.length - 1 - i + 1 := by omega
    rw [e1, e2]
    exact nearA_step h hk
theorem ne_irrefl {g : Gr} (h : Right g) (b : Bool) (u : Nat) : ¬ NE g b u u := by
  intro hn
  have : u ∈ deps g u := by
    cases b
    · simpa [NE] using hn
    · simpa [NE] using hn
  exact h.irrefl u (.one this)

/-- Those of a row that are near, but for one. -/
def nearL (l : List Nat) (db : List Bool) (v : Nat) : List Nat := l.filter fun u => decide (u ≠ v ∧ db[u]? = some true)

section
variable {st : ASt} {g : Gr}

theorem some_spec0 (hg : g.few) (v : Int) (b : Bool) : ACalls Try.prog F.catnapref3_some [.isl 1 (g.map row) g.length, .int .i64 v, .bool b] st fun r st' =>
    ∃ x, r = .tup [x, .int .i64 (nodeErr g v)] ∧ Over st st' 1 x (if b = true then aboveR g v else underR g v).length (ints (nats (if b = true then aboveR g v else underR g v))) := by
  refine calls_of_awp L.catnapref3_some rfl ?_
  simp only [↓Bp, Bq, ↓aop.eq_28, ↓aop.eq_30, ↓initFr, aeqP, abinv, abin, aun, bound, aslice, aput, putN, zeros, heldOk, aheadOk, IOp.again, List.map_cons, List.map_nil, List.append_nil, List.nil_append, Nat.reduceEqDiff, Nat.reduceAdd, Nat.reduceMul, Nat.reduceSub, Nat.reduceLeDiff, Nat.reduceLT, Int.reduceLT, Int.reduceLE, Int.reduceEq, Int.reduceToNat, Int.reduceAdd, Int.reduceSub, Int.reduceNeg, not_false_eq_true, not_true_eq_false, if_true, if_false, Bool.false_xor, Bool.true_xor, Bool.false_eq_true, Bool.true_eq_false, Bool.not_true, Bool.not_false, decide_true, decide_false, Nat.zero_add, Nat.add_zero, List.getElem?_cons_zero, List.getElem?_cons_succ, true_and, and_true, and_self, List.length_cons, List.length_nil, ↓reduceIte, reduceCtorEq, Option.some_or, Option.none_or, Option.or_none, eq_self, Option.map_some, List.length_set, List.set_cons_zero, List.set_cons_succ, List.cons_append, List.drop_zero, List.drop_succ_cons, List.take_succ_cons, List.take_zero, List.all_cons, List.all_nil, Bool.and_true, Option.isSome_some, Option.isSome_none, Option.isNone_some, Option.isNone_none, false_and, and_false, ↓C.catnapref3_some_W, C.catnapref3_some_B, C.catnapref3_some]
  refine (refOrder_spec hg).mono ?_
  rintro r st' ⟨rfl, rfl⟩
  have hbad : nodeErr g v ≠ 0 → (if b = true then aboveR g v else underR g v) = [] := by
    intro h; cases b
    · rw [if_neg (by decide), underR, if_neg h]
    · rw [if_pos rfl, aboveR, if_neg h]
  by_cases hge : grErr g = 0
  rotate_left
  · have e : nodeErr g v = grErr g := by simp [nodeErr, hge]
    simp only [↓Bp, Bq, ↓aop.eq_28, ↓aop.eq_30, ↓initFr, aeqP, abinv, abin, aun, bound, aslice, aput, putN, zeros, heldOk, aheadOk, IOp.again, List.map_cons, List.map_nil, List.append_nil, List.nil_append, Nat.reduceEqDiff, Nat.reduceAdd, Nat.reduceMul, Nat.reduceSub, Nat.reduceLeDiff, Nat.reduceLT, Int.reduceLT, Int.reduceLE, Int.reduceEq, Int.reduceToNat, Int.reduceAdd, Int.reduceSub, Int.reduceNeg, not_false_eq_true, not_true_eq_false, if_true, if_false, Bool.false_xor, Bool.true_xor, Bool.false_eq_true, Bool.true_eq_false, Bool.not_true, Bool.not_false, decide_true, decide_false, Nat.zero_add, Nat.add_zero, List.getElem?_cons_zero, List.getElem?_cons_succ, true_and, and_true, and_self, List.length_cons, List.length_nil, ↓reduceIte, reduceCtorEq, Option.some_or, Option.none_or, Option.or_none, eq_self, Option.map_some, List.length_set, List.set_cons_zero, List.set_cons_succ, List.cons_append, List.drop_zero, List.drop_succ_cons, List.take_succ_cons, List.take_zero, List.all_cons, List.all_nil, Bool.and_true, Option.isSome_some, Option.isSome_none, Option.isNone_some, Option.isNone_none, false_and, and_false, ↓C.catnapref3_some_W, C.catnapref3_some_B, C.catnapref3_some, hge]
    refine ⟨_, by rw [e], ?_⟩
    rw [hbad (by rw [e]; exact hge)]
    exact Over.nils (ASt.le.refl _) 1
  by_cases hv0 : v < 0
  · have e : nodeErr g v = 4 := by simp [nodeErr, hge, hv0]
    simp only [↓Bp, Bq, ↓aop.eq_28, ↓aop.eq_30, ↓initFr, aeqP, abinv, abin, aun, bound, aslice, aput, putN, zeros, heldOk, aheadOk, IOp.again, List.map_cons, List.map_nil, List.append_nil, List.nil_append, Nat.reduceEqDiff, Nat.reduceAdd, Nat.reduceMul, Nat.reduceSub, Nat.reduceLeDiff, Nat.reduceLT, Int.reduceLT, Int.reduceLE, Int.reduceEq, Int.reduceToNat, Int.reduceAdd, Int.reduceSub, Int.reduceNeg, not_false_eq_true, not_true_eq_false, if_true, if_false, Bool.false_xor, Bool.true_xor, Bool.false_eq_true, Bool.true_eq_false, Bool.not_true, Bool.not_false, decide_true, decide_false, Nat.zero_add, Nat.add_zero, List.getElem?_cons_zero, List.getElem?_cons_succ, true_and, and_true, and_self, List.length_cons, List.length_nil, ↓reduceIte, reduceCtorEq, Option.some_or, Option.none_or, Option.or_none, eq_self, Option.map_some, List.length_set, List.set_cons_zero, List.set_cons_succ, List.cons_append, List.drop_zero, List.drop_succ_cons, List.take_succ_cons, List.take_zero, List.all_cons, List.all_nil, Bool.and_true, Option.isSome_some, Option.isSome_none, Option.isNone_some, Option.isNone_none, false_and, and_false, ↓C.catnapref3_some_W, C.catnapref3_some_B, C.catnapref3_some, hge, hv0]
    refine ⟨_, by rw [e], ?_⟩
    rw [hbad (by rw [e]; decide)]
    exact Over.nils (ASt.le.refl _) 1
  by_cases hv1 : (g.length : Int) ≤ v
  · have e : nodeErr g v = 4 := by simp [nodeErr, hge, hv1]
    simp only [↓Bp, Bq, ↓aop.eq_28, ↓aop.eq_30, ↓initFr, aeqP, abinv, abin, aun, bound, aslice, aput, putN, zeros, heldOk, aheadOk, IOp.again, List.map_cons, List.map_nil, List.append_nil, List.nil_append, Nat.reduceEqDiff, Nat.reduceAdd, Nat.reduceMul, Nat.reduceSub, Nat.reduceLeDiff, Nat.reduceLT, Int.reduceLT, Int.reduceLE, Int.reduceEq, Int.reduceToNat, Int.reduceAdd, Int.reduceSub, Int.reduceNeg, not_false_eq_true, not_true_eq_false, if_true, if_false, Bool.false_xor, Bool.true_xor, Bool.false_eq_true, Bool.true_eq_false, Bool.not_true, Bool.not_false, decide_true, decide_false, Nat.zero_add, Nat.add_zero, List.getElem?_cons_zero, List.getElem?_cons_succ, true_and, and_true, and_self, List.length_cons, List.length_nil, ↓reduceIte, reduceCtorEq, Option.some_or, Option.none_or, Option.or_none, eq_self, Option.map_some, List.length_set, List.set_cons_zero, List.set_cons_succ, List.cons_append, List.drop_zero, List.drop_succ_cons, List.take_succ_cons, List.take_zero, List.all_cons, List.all_nil, Bool.and_true, Option.isSome_some, Option.isSome_none, Option.isNone_some, Option.isNone_none, false_and, and_false, ↓C.catnapref3_some_W, C.catnapref3_some_B, C.catnapref3_some, hge, hv0, hv1]
    refine ⟨_, by rw [e], ?_⟩
    rw [hbad (by rw [e]; decide)]
    exact Over.nils (ASt.le.refl _) 1
  have h0 : nodeErr g v = 0 := by simp [nodeErr, hge, hv0, hv1]
  clear hbad
  obtain ⟨hsm, hR⟩ := grErr_zero.mp hge
  have hol : (ord g).length = g.length := hR.full
  obtain ⟨n, rfl⟩ : ∃ n : Nat, v = n := ⟨v.toNat, by omega⟩
  have hnl : n < g.length := by omega
  have hz0 : (0 : Int) ≤ (g.length : Nat) ∧ ((g.length : Nat) : Int) ≤ 4294967296 := by omega
  have hzn : (0 : Int) ≤ (n : Int) ∧ (n : Int) < (g.length : Nat) := by omega
  simp only [↓Bp, Bq, ↓aop.eq_28, ↓aop.eq_30, ↓initFr, aeqP, abinv, abin, aun, bound, aslice, aput, putN, zeros, heldOk, aheadOk, IOp.again, List.map_cons, List.map_nil, List.append_nil, List.nil_append, Nat.reduceEqDiff, Nat.reduceAdd, Nat.reduceMul, Nat.reduceSub, Nat.reduceLeDiff, Nat.reduceLT, Int.reduceLT, Int.reduceLE, Int.reduceEq, Int.reduceToNat, Int.reduceAdd, Int.reduceSub, Int.reduceNeg, not_false_eq_true, not_true_eq_false, if_true, if_false, Bool.false_xor, Bool.true_xor, Bool.false_eq_true, Bool.true_eq_false, Bool.not_true, Bool.not_false, decide_true, decide_false, Nat.zero_add, Nat.add_zero, List.getElem?_cons_zero, List.getElem?_cons_succ, true_and, and_true, and_self, List.length_cons, List.length_nil, ↓reduceIte, reduceCtorEq, Option.some_or, Option.none_or, Option.or_none, eq_self, Option.map_some, List.length_set, List.set_cons_zero, List.set_cons_succ, List.cons_append, List.drop_zero, List.drop_succ_cons, List.take_succ_cons, List.take_zero, List.all_cons, List.all_nil, Bool.and_true, Option.isSome_some, Option.isSome_none, Option.isNone_some, Option.isNone_none, false_and, and_false, ↓C.catnapref3_some_W, C.catnapref3_some_B, C.catnapref3_some, hge, hv0, hv1, hz0, hzn, Int.toNat_natCast, Nat.mul_one, zeros_bool, bools_length, List.length_replicate, hnl, bools_set, ordL, row]
  intro idd hidd
  simp only [↓Bp, Bq, ↓aop.eq_28, ↓aop.eq_30, ↓initFr, aeqP, abinv, abin, aun, bound, aslice, aput, putN, zeros, heldOk, aheadOk, IOp.again, List.map_cons, List.map_nil, List.append_nil, List.nil_append, Nat.reduceEqDiff, Nat.reduceAdd, Nat.reduceMul, Nat.reduceSub, Nat.reduceLeDiff, Nat.reduceLT, Int.reduceLT, Int.reduceLE, Int.reduceEq, Int.reduceToNat, Int.reduceAdd, Int.reduceSub, Int.reduceNeg, not_false_eq_true, not_true_eq_false, if_true, if_false, Bool.false_xor, Bool.true_xor, Bool.false_eq_true, Bool.true_eq_false, Bool.not_true, Bool.not_false, decide_true, decide_false, Nat.zero_add, Nat.add_zero, List.getElem?_cons_zero, List.getElem?_cons_succ, true_and, and_true, and_self, List.length_cons, List.length_nil, ↓reduceIte, reduceCtorEq, Option.some_or, Option.none_or, Option.or_none, eq_self, Option.map_some, List.length_set, List.set_cons_zero, List.set_cons_succ, List.cons_append, List.drop_zero, List.drop_succ_cons, List.take_succ_cons, List.take_zero, List.all_cons, List.all_nil, Bool.and_true, Option.isSome_some, Option.isSome_none, Option.isNone_some, Option.isNone_none, false_and, and_false, hidd, bools_length, List.length_replicate, hnl, bools_set]
  have hst : ∀ db, (st'.new idd (.cells (bools db))).h idd = some (.cells (bools db)) := fun db => ASt.new_self _ hidd
  have hset : ∀ a c, (st'.new idd (.cells (bools a))).set idd (.cells (bools c)) = st'.new idd (.cells (bools c)) := fun a c => ASt.new_set hidd _ _
  rw [hset]
  refine awp_midB (fun _ : Unit => [(1, .int .i64 n), (8, .isl 1 (ints (nats (ord g))) (nats (ord g)).length), (10, .sl 1 idd 0 g.length)]) (fun _ s => ∃ db, s = st'.new idd (.cells (bools db)) ∧ Tells db g.length (NR g n b g.length)) ?_ ?_
  · refine awp_loopK (fun i : Nat => [(0, .isl 1 (g.map row) g.length), (1, .int .i64 n), (2, .bool b), (8, .isl 1 (ints (nats (ord g))) (nats (ord g)).length), (10, .sl 1 idd 0 g.length), (11, .int .i64 i)]) (fun i s => i ≤ g.length ∧ ∃ db, s = st'.new idd (.cells (bools db)) ∧ Tells db g.length (NR g n b i)) (fun i => g.length - i) 0 rfl
      ⟨Nat.zero_le _, _, rfl, ((Tells.none g.length).set n).congr fun w _ => by rw [nr_start hR]; simp⟩ ?_
    rintro i s ⟨hi, db, rfl, hT⟩
    by_cases hil : i < g.length
    rotate_left
    · have hie : i = g.length := by omega
      subst hie
      have hlt' : ¬ ((g.length : Nat) : Int) < ((nats (ord g)).length : Nat) := by rw [nats_length]; omega
      simp only [↓Bp, Bq, ↓aop.eq_28, ↓aop.eq_30, ↓initFr, aeqP, abinv, abin, aun, bound, aslice, aput, putN, zeros, heldOk, aheadOk, IOp.again, List.map_cons, List.map_nil, List.append_nil, List.nil_append, Nat.reduceEqDiff, Nat.reduceAdd, Nat.reduceMul, Nat.reduceSub, Nat.reduceLeDiff, Nat.reduceLT, Int.reduceLT, Int.reduceLE, Int.reduceEq, Int.reduceToNat, Int.reduceAdd, Int.reduceSub, Int.reduceNeg, not_false_eq_true, not_true_eq_false, if_true, if_false, Bool.false_xor, Bool.true_xor, Bool.false_eq_true, Bool.true_eq_false, Bool.not_true, Bool.not_false, decide_true, decide_false, Nat.zero_add, Nat.add_zero, List.getElem?_cons_zero, List.getElem?_cons_succ, true_and, and_true, and_self, List.length_cons, List.length_nil, ↓reduceIte, reduceCtorEq, Option.some_or, Option.none_or, Option.or_none, eq_self, Option.map_some, List.length_set, List.set_cons_zero, List.set_cons_succ, List.cons_append, List.drop_zero, List.drop_succ_cons, List.take_succ_cons, List.take_zero, List.all_cons, List.all_nil, Bool.and_true, Option.isSome_some, Option.isSome_none, Option.isNone_some, Option.isNone_none, false_and, and_false, ↓C.catnapref3_some_W, C.catnapref3_some_B, C.catnapref3_some, hlt']
      exact ⟨(), db, rfl, hT⟩
    have hlt' : (i : Int) < ((nats (ord g)).length : Nat) := by rw [nats_length]; omega
    have hw := wsucc hil (by omega)
    have hkl := nk_lt b hil
    have hko : NK g b i < (ord g).length := by rw [hol]; exact hkl
    have hzk : (0:Int) ≤ (NK g b i : Int) ∧ (NK g b i : Int) < ((nats (ord g)).length : Nat) := by rw [nats_length]; omega
    have hxl := ord_lt hR hko
    have hzx : (0:Int) ≤ ((ord g)[NK g b i] : Int) ∧ ((ord g)[NK g b i] : Int) < (g.length : Nat) := by omega
    simp only [↓Bp, Bq, ↓aop.eq_28, ↓aop.eq_30, ↓initFr, aeqP, abinv, abin, aun, bound, aslice, aput, putN, zeros, heldOk, aheadOk, IOp.again, List.map_cons, List.map_nil, List.append_nil, List.nil_append, Nat.reduceEqDiff, Nat.reduceAdd, Nat.reduceMul, Nat.reduceSub, Nat.reduceLeDiff, Nat.reduceLT, Int.reduceLT, Int.reduceLE, Int.reduceEq, Int.reduceToNat, Int.reduceAdd, Int.reduceSub, Int.reduceNeg, not_false_eq_true, not_true_eq_false, if_true, if_false, Bool.false_xor, Bool.true_xor, Bool.false_eq_true, Bool.true_eq_false, Bool.not_true, Bool.not_false, decide_true, decide_false, Nat.zero_add, Nat.add_zero, List.getElem?_cons_zero, List.getElem?_cons_succ, true_and, and_true, and_self, List.length_cons, List.length_nil, ↓reduceIte, reduceCtorEq, Option.some_or, Option.none_or, Option.or_none, eq_self, Option.map_some, List.length_set, List.set_cons_zero, List.set_cons_succ, List.cons_append, List.drop_zero, List.drop_succ_cons, List.take_succ_cons, List.take_zero, List.all_cons, List.all_nil, Bool.and_true, Option.isSome_some, Option.isSome_none, Option.isNone_some, Option.isNone_none, false_and, and_false, ↓C.catnapref3_some_r25_w, C.catnapref3_some_r25_b, ↓C.catnapref3_some_c1_w, ↓C.catnapref3_some_r22_w, C.catnapref3_some_r22_b, ↓C.catnapref3_some_c2_w, ↓C.catnapref3_some_r24_w, C.catnapref3_some_r24_b, ↓C.catnapref3_some_c3_w, ↓C.catnapref3_some_r23_w, C.catnapref3_some_r23_b, ↓C.catnapref3_some_b4_w, ↓C.catnapref3_some_c5_w, ↓C.catnapref3_some_c6_w, ↓C.catnapref3_some_r21_w, C.catnapref3_some_r21_b, ↓C.catnapref3_some_b8_w, ↓C.catnapref3_some_c9_w, ↓C.catnapref3_some_r20_w, C.catnapref3_some_r20_b, ↓C.catnapref3_some_c10_w, ↓C.catnapref3_some_r19_w, C.catnapref3_some_r19_b, ↓C.catnapref3_some_c11_w, ↓C.catnapref3_some_r10_w, C.catnapref3_some_r10_b, ↓C.catnapref3_some_c12_w, ↓C.catnapref3_some_r16_w, C.catnapref3_some_r16_b, ↓C.catnapref3_some_c13_w, ↓C.catnapref3_some_r18_w, C.catnapref3_some_r18_b, ↓C.catnapref3_some_c14_w, ↓C.catnapref3_some_r17_w, C.catnapref3_some_r17_b, ↓C.catnapref3_some_b15_w, ↓C.catnapref3_some_c16_w, ↓C.catnapref3_some_c17_w, ↓C.catnapref3_some_r15_w, C.catnapref3_some_r15_b, ↓C.catnapref3_some_b19_w, ↓C.catnapref3_some_c20_w, ↓C.catnapref3_some_r14_w, C.catnapref3_some_r14_b, ↓C.catnapref3_some_c21_w, ↓C.catnapref3_some_r13_w, C.catnapref3_some_r13_b, ↓C.catnapref3_some_r12_w, C.catnapref3_some_r12_b, ↓C.catnapref3_some_c23_w, ↓C.catnapref3_some_r11_w, C.catnapref3_some_r11_b, ↓C.catnapref3_some_b24_w, ↓C.catnapref3_some_c25_w, ↓C.catnapref3_some_c26_w, ↓C.catnapref3_some_r9_w, C.catnapref3_some_r9_b, ↓C.catnapref3_some_b28_w, ↓C.catnapref3_some_c29_w, ↓C.catnapref3_some_r8_w, C.catnapref3_some_r8_b, ↓C.catnapref3_some_c30_w, ↓C.catnapref3_some_r7_w, C.catnapref3_some_r7_b, ↓C.catnapref3_some_c31_w, ↓C.catnapref3_some_r6_w, C.catnapref3_some_r6_b, ↓C.catnapref3_some_c32_w, ↓C.catnapref3_some_r5_w, C.catnapref3_some_r5_b, ↓C.catnapref3_some_c33_w, ↓C.catnapref3_some_c34_w, ↓C.catnapref3_some_r4_w, C.catnapref3_some_r4_b, ↓C.catnapref3_some_c35_w, ↓C.catnapref3_some_r3_w, C.catnapref3_some_r3_b, ↓C.catnapref3_some_c36_w, ↓C.catnapref3_some_r2_w, C.catnapref3_some_r2_b, ↓C.catnapref3_some_c37_w, ↓C.catnapref3_some_r1_w, C.catnapref3_some_r1_b, ↓C.catnapref3_some_c38_w, ↓C.catnapref3_some_r0_w, C.catnapref3_some_r0_b, C.catnapref3_some, hlt']
    rw [C.catnapref3_some_c22_w, awp_keep]
    refine awp_mid (fun _ : Unit => [(0, .isl 1 (g.map row) g.length), (1, .int .i64 n), (2, .bool b), (8, .isl 1 (ints (nats (ord g))) (nats (ord g)).length), (10, .sl 1 idd 0 g.length), (11, .int .i64 i), (12, .int .i64 (NK g b i))]) (fun _ s => s = st'.new idd (.cells (bools db))) ?_ ?_
    · cases b
      · simp only [↓Bp, Bq, ↓aop.eq_28, ↓aop.eq_30, ↓initFr, aeqP, abinv, abin, aun, bound, aslice, aput, putN, zeros, heldOk, aheadOk, IOp.again, List.map_cons, List.map_nil, List.append_nil, List.nil_append, Nat.reduceEqDiff, Nat.reduceAdd, Nat.reduceMul, Nat.reduceSub, Nat.reduceLeDiff, Nat.reduceLT, Int.reduceLT, Int.reduceLE, Int.reduceEq, Int.reduceToNat, Int.reduceAdd, Int.reduceSub, Int.reduceNeg, not_false_eq_true, not_true_eq_false, if_true, if_false, Bool.false_xor, Bool.true_xor, Bool.false_eq_true, Bool.true_eq_false, Bool.not_true, Bool.not_false, decide_true, decide_false, Nat.zero_add, Nat.add_zero, List.getElem?_cons_zero, List.getElem?_cons_succ, true_and, and_true, and_self, List.length_cons, List.length_nil, ↓reduceIte, reduceCtorEq, Option.some_or, Option.none_or, Option.or_none, eq_self, Option.map_some, List.length_set, List.set_cons_zero, List.set_cons_succ, List.cons_append, List.drop_zero, List.drop_succ_cons, List.take_succ_cons, List.take_zero, List.all_cons, List.all_nil, Bool.and_true, Option.isSome_some, Option.isSome_none, Option.isNone_some, Option.isNone_none, false_and, and_false, ↓C.catnapref3_some_W, C.catnapref3_some_B, C.catnapref3_some]
        exact ⟨(), rfl⟩
      · have e : IntKind.i64.wrap (IntKind.i64.wrap (((nats (ord g)).length : Int) - 1) - (i : Int)) = (NK g true i : Int) := by
          have e1 : IntKind.i64.wrap (((nats (ord g)).length : Int) - 1) = ((nats (ord g)).length : Int) - 1 := by rw [nats_length, wrap64] <;> omega
          rw [e1, nats_length, hol, wrap64 (by omega) (by omega)]
          simp only [NK, if_true]; omega
        simp only [↓Bp, Bq, ↓aop.eq_28, ↓aop.eq_30, ↓initFr, aeqP, abinv, abin, aun, bound, aslice, aput, putN, zeros, heldOk, aheadOk, IOp.again, List.map_cons, List.map_nil, List.append_nil, List.nil_append, Nat.reduceEqDiff, Nat.reduceAdd, Nat.reduceMul, Nat.reduceSub, Nat.reduceLeDiff, Nat.reduceLT, Int.reduceLT, Int.reduceLE, Int.reduceEq, Int.reduceToNat, Int.reduceAdd, Int.reduceSub, Int.reduceNeg, not_false_eq_true, not_true_eq_false, if_true, if_false, Bool.false_xor, Bool.true_xor, Bool.false_eq_true, Bool.true_eq_false, Bool.not_true, Bool.not_false, decide_true, decide_false, Nat.zero_add, Nat.add_zero, List.getElem?_cons_zero, List.getElem?_cons_succ, true_and, and_true, and_self, List.length_cons, List.length_nil, ↓reduceIte, reduceCtorEq, Option.some_or, Option.none_or, Option.or_none, eq_self, Option.map_some, List.length_set, List.set_cons_zero, List.set_cons_succ, List.cons_append, List.drop_zero, List.drop_succ_cons, List.take_succ_cons, List.take_zero, List.all_cons, List.all_nil, Bool.and_true, Option.isSome_some, Option.isSome_none, Option.isNone_some, Option.isNone_none, false_and, and_false, ↓C.catnapref3_some_W, C.catnapref3_some_B, C.catnapref3_some, e]
        exact ⟨(), trivial⟩
    rintro - s rfl
    simp only [↓Bp, Bq, ↓aop.eq_28, ↓aop.eq_30, ↓initFr, aeqP, abinv, abin, aun, bound, aslice, aput, putN, zeros, heldOk, aheadOk, IOp.again, List.map_cons, List.map_nil, List.append_nil, List.nil_append, Nat.reduceEqDiff, Nat.reduceAdd, Nat.reduceMul, Nat.reduceSub, Nat.reduceLeDiff, Nat.reduceLT, Int.reduceLT, Int.reduceLE, Int.reduceEq, Int.reduceToNat, Int.reduceAdd, Int.reduceSub, Int.reduceNeg, not_false_eq_true, not_true_eq_false, if_true, if_false, Bool.false_xor, Bool.true_xor, Bool.false_eq_true, Bool.true_eq_false, Bool.not_true, Bool.not_false, decide_true, decide_false, Nat.zero_add, Nat.add_zero, List.getElem?_cons_zero, List.getElem?_cons_succ, true_and, and_true, and_self, List.length_cons, List.length_nil, ↓reduceIte, reduceCtorEq, Option.some_or, Option.none_or, Option.or_none, eq_self, Option.map_some, List.length_set, List.set_cons_zero, List.set_cons_succ, List.cons_append, List.drop_zero, List.drop_succ_cons, List.take_succ_cons, List.take_zero, List.all_cons, List.all_nil, Bool.and_true, Option.isSome_some, Option.isSome_none, Option.isNone_some, Option.isNone_none, false_and, and_false, ↓C.catnapref3_some_W, C.catnapref3_some_B, C.catnapref3_some]
    refine awp_loopK (fun u : Nat => [(0, .isl 1 (g.map row) g.length), (1, .int .i64 n), (2, .bool b), (8, .isl 1 (ints (nats (ord g))) (nats (ord g)).length), (10, .sl 1 idd 0 g.length), (11, .int .i64 i), (12, .int .i64 (NK g b i)), (13, .int .i64 u)]) (fun u s => u ≤ g.length ∧ ∃ db, s = st'.new idd (.cells (bools db)) ∧ Tells db g.length (fun w => NR g n b i w ∨ (w = (ord g)[NK g b i] ∧ ∃ x, x < u ∧ NR g n b i x ∧ NE g b x w))) (fun u => g.length - u) 0 rfl
      ⟨Nat.zero_le _, db, rfl, hT.congr fun w _ => by simp⟩ ?_
    clear hT db
    rintro u s ⟨hu, db, rfl, hT⟩
    by_cases hul : u < g.length
    rotate_left
    · have hue : u = g.length := by omega
      subst hue
      have hlt2 : ¬ ((g.length : Nat) : Int) < (g.length : Nat) := by omega
      simp only [↓Bp, Bq, ↓aop.eq_28, ↓aop.eq_30, ↓initFr, aeqP, abinv, abin, aun, bound, aslice, aput, putN, zeros, heldOk, aheadOk, IOp.again, List.map_cons, List.map_nil, List.append_nil, List.nil_append, Nat.reduceEqDiff, Nat.reduceAdd, Nat.reduceMul, Nat.reduceSub, Nat.reduceLeDiff, Nat.reduceLT, Int.reduceLT, Int.reduceLE, Int.reduceEq, Int.reduceToNat, Int.reduceAdd, Int.reduceSub, Int.reduceNeg, not_false_eq_true, not_true_eq_false, if_true, if_false, Bool.false_xor, Bool.true_xor, Bool.false_eq_true, Bool.true_eq_false, Bool.not_true, Bool.not_false, decide_true, decide_false, Nat.zero_add, Nat.add_zero, List.getElem?_cons_zero, List.getElem?_cons_succ, true_and, and_true, and_self, List.length_cons, List.length_nil, ↓reduceIte, reduceCtorEq, Option.some_or, Option.none_or, Option.or_none, eq_self, Option.map_some, List.length_set, List.set_cons_zero, List.set_cons_succ, List.cons_append, List.drop_zero, List.drop_succ_cons, List.take_succ_cons, List.take_zero, List.all_cons, List.all_nil, Bool.and_true, Option.isSome_some, Option.isSome_none, Option.isNone_some, Option.isNone_none, false_and, and_false, ↓C.catnapref3_some_W, C.catnapref3_some_B, C.catnapref3_some, hlt2, hw]
      refine ⟨i + 1, rfl, ⟨hil, db, rfl, hT.congr fun w hwl => ?_⟩, by omega⟩
      rw [nr_step hR b hil hko]
      constructor
      · rintro (a | ⟨a, x, _, c, d⟩)
        · exact .inl a
        · exact .inr ⟨a, x, c, d⟩
      · rintro (a | ⟨a, x, c, d⟩)
        · exact .inl a
        · refine .inr ⟨a, x, ?_, c, d⟩
          cases b
          · simp only [NE, Bool.false_eq_true, if_false] at d
            exact deps_lt hR.ok d
          · simp only [NE, if_true] at d
            exact deps_of d
    have hlt2 : (u : Int) < (g.length : Nat) := by omega
    have hzu : (0:Int) ≤ (u : Int) ∧ (u : Int) < (g.length : Nat) := by omega
    have hwu := wsucc hul (by omega)
    have hud : u < db.length := by rw [hT.1]; exact hul
    have hxd : (ord g)[NK g b i] < db.length := by rw [hT.1]; exact hxl
    -- a round that changes nothing, one that does
    have hno : ¬ (NR g n b i u ∧ NE g b u (ord g)[NK g b i]) → Tells db g.length (fun w => NR g n b i w ∨ (w = (ord g)[NK g b i] ∧ ∃ x, x < u + 1 ∧ NR g n b i x ∧ NE g b x w)) := fun h => hT.congr fun w _ => by
      constructor
      · rintro (a | ⟨a, x, c, d⟩)
        · exact .inl a
        · exact .inr ⟨a, x, by omega, d⟩
      · rintro (a | ⟨rfl, x, c, d1, d2⟩)
        · exact .inl a
        · refine .inr ⟨rfl, x, ?_, d1, d2⟩
          by_cases e : x = u
          · subst e; exact absurd ⟨d1, d2⟩ h
          · omega
    have hyes : (NR g n b i u ∧ NE g b u (ord g)[NK g b i]) → Tells (db.set (ord g)[NK g b i] true) g.length (fun w => NR g n b i w ∨ (w = (ord g)[NK g b i] ∧ ∃ x, x < u + 1 ∧ NR g n b i x ∧ NE g b x w)) := fun h => (hT.set _).congr fun w _ => by
      constructor
      · rintro ((a | ⟨a, x, c, d⟩) | rfl)
        · exact .inl a
        · exact .inr ⟨a, x, by omega, d⟩
        · exact .inr ⟨rfl, u, by omega, h⟩
      · rintro (a | ⟨rfl, x, c, d⟩)
        · exact .inl (.inl a)
        · exact .inr rfl
    have hdu : db[u] = true → NE g b u (ord g)[NK g b i] → NR g n b i u := fun h1 h2 => by
      rcases (hT.2 u hud).mp h1 with h | ⟨e, _⟩
      · exact h
      · rw [← e] at h2; exact absurd h2 (ne_irrefl hR b u)
    have hdu2 : NR g n b i u → db[u] = true := fun h => (hT.2 u hud).mpr (.inl h)
    by_cases hd : db[u] = true
    rotate_left
    · have hd' : db[u] = false := by simpa using hd
      cases b
      · simp only [↓Bp, Bq, ↓aop.eq_28, ↓aop.eq_30, ↓initFr, aeqP, abinv, abin, aun, bound, aslice, aput, putN, zeros, heldOk, aheadOk, IOp.again, List.map_cons, List.map_nil, List.append_nil, List.nil_append, Nat.reduceEqDiff, Nat.reduceAdd, Nat.reduceMul, Nat.reduceSub, Nat.reduceLeDiff, Nat.reduceLT, Int.reduceLT, Int.reduceLE, Int.reduceEq, Int.reduceToNat, Int.reduceAdd, Int.reduceSub, Int.reduceNeg, not_false_eq_true, not_true_eq_false, if_true, if_false, Bool.false_xor, Bool.true_xor, Bool.false_eq_true, Bool.true_eq_false, Bool.not_true, Bool.not_false, decide_true, decide_false, Nat.zero_add, Nat.add_zero, List.getElem?_cons_zero, List.getElem?_cons_succ, true_and, and_true, and_self, List.length_cons, List.length_nil, ↓reduceIte, reduceCtorEq, Option.some_or, Option.none_or, Option.or_none, eq_self, Option.map_some, List.length_set, List.set_cons_zero, List.set_cons_succ, List.cons_append, List.drop_zero, List.drop_succ_cons, List.take_succ_cons, List.take_zero, List.all_cons, List.all_nil, Bool.and_true, Option.isSome_some, Option.isSome_none, Option.isNone_some, Option.isNone_none, false_and, and_false, ↓C.catnapref3_some_W, C.catnapref3_some_B, C.catnapref3_some, hlt2, hzu, Int.toNat_natCast, Nat.mul_one, hidd, bools_get hud, hd', hwu]
        exact ⟨u + 1, rfl, ⟨hul, db, rfl, hno fun h => hd (hdu2 h.1)⟩, by omega⟩
      · simp only [↓Bp, Bq, ↓aop.eq_28, ↓aop.eq_30, ↓initFr, aeqP, abinv, abin, aun, bound, aslice, aput, putN, zeros, heldOk, aheadOk, IOp.again, List.map_cons, List.map_nil, List.append_nil, List.nil_append, Nat.reduceEqDiff, Nat.reduceAdd, Nat.reduceMul, Nat.reduceSub, Nat.reduceLeDiff, Nat.reduceLT, Int.reduceLT, Int.reduceLE, Int.reduceEq, Int.reduceToNat, Int.reduceAdd, Int.reduceSub, Int.reduceNeg, not_false_eq_true, not_true_eq_false, if_true, if_false, Bool.false_xor, Bool.true_xor, Bool.false_eq_true, Bool.true_eq_false, Bool.not_true, Bool.not_false, decide_true, decide_false, Nat.zero_add, Nat.add_zero, List.getElem?_cons_zero, List.getElem?_cons_succ, true_and, and_true, and_self, List.length_cons, List.length_nil, ↓reduceIte, reduceCtorEq, Option.some_or, Option.none_or, Option.or_none, eq_self, Option.map_some, List.length_set, List.set_cons_zero, List.set_cons_succ, List.cons_append, List.drop_zero, List.drop_succ_cons, List.take_succ_cons, List.take_zero, List.all_cons, List.all_nil, Bool.and_true, Option.isSome_some, Option.isSome_none, Option.isNone_some, Option.isNone_none, false_and, and_false, ↓C.catnapref3_some_W, C.catnapref3_some_B, C.catnapref3_some, hlt2, hzu, Int.toNat_natCast, Nat.mul_one, hidd, bools_get hud, hd', hwu]
        exact ⟨u + 1, rfl, ⟨hul, db, rfl, hno fun h => hd (hdu2 h.1)⟩, by omega⟩
    cases b
    · simp only [↓Bp, Bq, ↓aop.eq_28, ↓aop.eq_30, ↓initFr, aeqP, abinv, abin, aun, bound, aslice, aput, putN, zeros, heldOk, aheadOk, IOp.again, List.map_cons, List.map_nil, List.append_nil, List.nil_append, Nat.reduceEqDiff, Nat.reduceAdd, Nat.reduceMul, Nat.reduceSub, Nat.reduceLeDiff, Nat.reduceLT, Int.reduceLT, Int.reduceLE, Int.reduceEq, Int.reduceToNat, Int.reduceAdd, Int.reduceSub, Int.reduceNeg, not_false_eq_true, not_true_eq_false, if_true, if_false, Bool.false_xor, Bool.true_xor, Bool.false_eq_true, Bool.true_eq_false, Bool.not_true, Bool.not_false, decide_true, decide_false, Nat.zero_add, Nat.add_zero, List.getElem?_cons_zero, List.getElem?_cons_succ, true_and, and_true, and_self, List.length_cons, List.length_nil, ↓reduceIte, reduceCtorEq, Option.some_or, Option.none_or, Option.or_none, eq_self, Option.map_some, List.length_set, List.set_cons_zero, List.set_cons_succ, List.cons_append, List.drop_zero, List.drop_succ_cons, List.take_succ_cons, List.take_zero, List.all_cons, List.all_nil, Bool.and_true, Option.isSome_some, Option.isSome_none, Option.isNone_some, Option.isNone_none, false_and, and_false, ↓C.catnapref3_some_W, C.catnapref3_some_B, C.catnapref3_some, hlt2, hzu, hzk, hzx, Int.toNat_natCast, Nat.mul_one, hidd, bools_get hud, hd, ints_nats_get hko, rowsG hxl]
      refine (refHas_spec (hg.2 _ (List.getElem_mem hxl)) _).mono ?_
      rintro r s' ⟨rfl, rfl⟩
      by_cases hin : (u : Int) ∈ g[(ord g)[NK g false i]]
      · have hE : NE g false u (ord g)[NK g false i] := by simp only [NE, Bool.false_eq_true, if_false]; exact (mem_deps hR.ok hxl).mpr hin
        simp only [↓Bp, Bq, ↓aop.eq_28, ↓aop.eq_30, ↓initFr, aeqP, abinv, abin, aun, bound, aslice, aput, putN, zeros, heldOk, aheadOk, IOp.again, List.map_cons, List.map_nil, List.append_nil, List.nil_append, Nat.reduceEqDiff, Nat.reduceAdd, Nat.reduceMul, Nat.reduceSub, Nat.reduceLeDiff, Nat.reduceLT, Int.reduceLT, Int.reduceLE, Int.reduceEq, Int.reduceToNat, Int.reduceAdd, Int.reduceSub, Int.reduceNeg, not_false_eq_true, not_true_eq_false, if_true, if_false, Bool.false_xor, Bool.true_xor, Bool.false_eq_true, Bool.true_eq_false, Bool.not_true, Bool.not_false, decide_true, decide_false, Nat.zero_add, Nat.add_zero, List.getElem?_cons_zero, List.getElem?_cons_succ, true_and, and_true, and_self, List.length_cons, List.length_nil, ↓reduceIte, reduceCtorEq, Option.some_or, Option.none_or, Option.or_none, eq_self, Option.map_some, List.length_set, List.set_cons_zero, List.set_cons_succ, List.cons_append, List.drop_zero, List.drop_succ_cons, List.take_succ_cons, List.take_zero, List.all_cons, List.all_nil, Bool.and_true, Option.isSome_some, Option.isSome_none, Option.isNone_some, Option.isNone_none, false_and, and_false, ↓C.catnapref3_some_W, C.catnapref3_some_B, C.catnapref3_some, hin, hzk, hzx, Int.toNat_natCast, Nat.mul_one, hidd, ints_nats_get hko, bools_length, hxd, bools_set, hset, hwu]
        exact ⟨u + 1, rfl, ⟨hul, _, rfl, hyes ⟨hdu hd hE, hE⟩⟩, by omega⟩
      · simp only [↓Bp, Bq, ↓aop.eq_28, ↓aop.eq_30, ↓initFr, aeqP, abinv, abin, aun, bound, aslice, aput, putN, zeros, heldOk, aheadOk, IOp.again, List.map_cons, List.map_nil, List.append_nil, List.nil_append, Nat.reduceEqDiff, Nat.reduceAdd, Nat.reduceMul, Nat.reduceSub, Nat.reduceLeDiff, Nat.reduceLT, Int.reduceLT, Int.reduceLE, Int.reduceEq, Int.reduceToNat, Int.reduceAdd, Int.reduceSub, Int.reduceNeg, not_false_eq_true, not_true_eq_false, if_true, if_false, Bool.false_xor, Bool.true_xor, Bool.false_eq_true, Bool.true_eq_false, Bool.not_true, Bool.not_false, decide_true, decide_false, Nat.zero_add, Nat.add_zero, List.getElem?_cons_zero, List.getElem?_cons_succ, true_and, and_true, and_self, List.length_cons, List.length_nil, ↓reduceIte, reduceCtorEq, Option.some_or, Option.none_or, Option.or_none, eq_self, Option.map_some, List.length_set, List.set_cons_zero, List.set_cons_succ, List.cons_append, List.drop_zero, List.drop_succ_cons, List.take_succ_cons, List.take_zero, List.all_cons, List.all_nil, Bool.and_true, Option.isSome_some, Option.isSome_none, Option.isNone_some, Option.isNone_none, false_and, and_false, ↓C.catnapref3_some_W, C.catnapref3_some_B, C.catnapref3_some, hin, hwu]
        refine ⟨u + 1, rfl, ⟨hul, db, rfl, hno fun h => hin ?_⟩, by omega⟩
        have h2 := h.2
        simp only [NE, Bool.false_eq_true, if_false] at h2
        exact (mem_deps hR.ok hxl).mp h2
    · simp only [↓Bp, Bq, ↓aop.eq_28, ↓aop.eq_30, ↓initFr, aeqP, abinv, abin, aun, bound, aslice, aput, putN, zeros, heldOk, aheadOk, IOp.again, List.map_cons, List.map_nil, List.append_nil, List.nil_append, Nat.reduceEqDiff, Nat.reduceAdd, Nat.reduceMul, Nat.reduceSub, Nat.reduceLeDiff, Nat.reduceLT, Int.reduceLT, Int.reduceLE, Int.reduceEq, Int.reduceToNat, Int.reduceAdd, Int.reduceSub, Int.reduceNeg, not_false_eq_true, not_true_eq_false, if_true, if_false, Bool.false_xor, Bool.true_xor, Bool.false_eq_true, Bool.true_eq_false, Bool.not_true, Bool.not_false, decide_true, decide_false, Nat.zero_add, Nat.add_zero, List.getElem?_cons_zero, List.getElem?_cons_succ, true_and, and_true, and_self, List.length_cons, List.length_nil, ↓reduceIte, reduceCtorEq, Option.some_or, Option.none_or, Option.or_none, eq_self, Option.map_some, List.length_set, List.set_cons_zero, List.set_cons_succ, List.cons_append, List.drop_zero, List.drop_succ_cons, List.take_succ_cons, List.take_zero, List.all_cons, List.all_nil, Bool.and_true, Option.isSome_some, Option.isSome_none, Option.isNone_some, Option.isNone_none, false_and, and_false, ↓C.catnapref3_some_W, C.catnapref3_some_B, C.catnapref3_some, hlt2, hzu, hzk, hzx, Int.toNat_natCast, Nat.mul_one, hidd, bools_get hud, hd, ints_nats_get hko, rowsG hul]
      refine (refHas_spec (hg.2 _ (List.getElem_mem hul)) _).mono ?_
      rintro r s' ⟨rfl, rfl⟩
      by_cases hin : ((ord g)[NK g true i] : Int) ∈ g[u]
      · have hE : NE g true u (ord g)[NK g true i] := by simp only [NE, if_true]; exact (mem_deps hR.ok hul).mpr hin
        simp only [↓Bp, Bq, ↓aop.eq_28, ↓aop.eq_30, ↓initFr, aeqP, abinv, abin, aun, bound, aslice, aput, putN, zeros, heldOk, aheadOk, IOp.again, List.map_cons, List.map_nil, List.append_nil, List.nil_append, Nat.reduceEqDiff, Nat.reduceAdd, Nat.reduceMul, Nat.reduceSub, Nat.reduceLeDiff, Nat.reduceLT, Int.reduceLT, Int.reduceLE, Int.reduceEq, Int.reduceToNat, Int.reduceAdd, Int.reduceSub, Int.reduceNeg, not_false_eq_true, not_true_eq_false, if_true, if_false, Bool.false_xor, Bool.true_xor, Bool.false_eq_true, Bool.true_eq_false, Bool.not_true, Bool.not_false, decide_true, decide_false, Nat.zero_add, Nat.add_zero, List.getElem?_cons_zero, List.getElem?_cons_succ, true_and, and_true, and_self, List.length_cons, List.length_nil, ↓reduceIte, reduceCtorEq, Option.some_or, Option.none_or, Option.or_none, eq_self, Option.map_some, List.length_set, List.set_cons_zero, List.set_cons_succ, List.cons_append, List.drop_zero, List.drop_succ_cons, List.take_succ_cons, List.take_zero, List.all_cons, List.all_nil, Bool.and_true, Option.isSome_some, Option.isSome_none, Option.isNone_some, Option.isNone_none, false_and, and_false, ↓C.catnapref3_some_W, C.catnapref3_some_B, C.catnapref3_some, hin, hzk, hzx, Int.toNat_natCast, Nat.mul_one, hidd, ints_nats_get hko, bools_length, hxd, bools_set, hset, hwu]
        exact ⟨u + 1, rfl, ⟨hul, _, rfl, hyes ⟨hdu hd hE, hE⟩⟩, by omega⟩
      · simp only [↓Bp, Bq, ↓aop.eq_28, ↓aop.eq_30, ↓initFr, aeqP, abinv, abin, aun, bound, aslice, aput, putN, zeros, heldOk, aheadOk, IOp.again, List.map_cons, List.map_nil, List.append_nil, List.nil_append, Nat.reduceEqDiff, Nat.reduceAdd, Nat.reduceMul, Nat.reduceSub, Nat.reduceLeDiff, Nat.reduceLT, Int.reduceLT, Int.reduceLE, Int.reduceEq, Int.reduceToNat, Int.reduceAdd, Int.reduceSub, Int.reduceNeg, not_false_eq_true, not_true_eq_false, if_true, if_false, Bool.false_xor, Bool.true_xor, Bool.false_eq_true, Bool.true_eq_false, Bool.not_true, Bool.not_false, decide_true, decide_false, Nat.zero_add, Nat.add_zero, List.getElem?_cons_zero, List.getElem?_cons_succ, true_and, and_true, and_self, List.length_cons, List.length_nil, ↓reduceIte, reduceCtorEq, Option.some_or, Option.none_or, Option.or_none, eq_self, Option.map_some, List.length_set, List.set_cons_zero, List.set_cons_succ, List.cons_append, List.drop_zero, List.drop_succ_cons, List.take_succ_cons, List.take_zero, List.all_cons, List.all_nil, Bool.and_true, Option.isSome_some, Option.isSome_none, Option.isNone_some, Option.isNone_none, false_and, and_false, ↓C.catnapref3_some_W, C.catnapref3_some_B, C.catnapref3_some, hin, hwu]
        refine ⟨u + 1, rfl, ⟨hul, db, rfl, hno fun h => hin ?_⟩, by omega⟩
        have h2 := h.2
        simp only [NE, if_true] at h2
        exact (mem_deps hR.ok hul).mp h2
  rintro - s ⟨db, rfl, hT⟩
  simp only [↓Bp, Bq, ↓aop.eq_28, ↓aop.eq_30, ↓initFr, aeqP, abinv, abin, aun, bound, aslice, aput, putN, zeros, heldOk, aheadOk, IOp.again, List.map_cons, List.map_nil, List.append_nil, List.nil_append, Nat.reduceEqDiff, Nat.reduceAdd, Nat.reduceMul, Nat.reduceSub, Nat.reduceLeDiff, Nat.reduceLT, Int.reduceLT, Int.reduceLE, Int.reduceEq, Int.reduceToNat, Int.reduceAdd, Int.reduceSub, Int.reduceNeg, not_false_eq_true, not_true_eq_false, if_true, if_false, Bool.false_xor, Bool.true_xor, Bool.false_eq_true, Bool.true_eq_false, Bool.not_true, Bool.not_false, decide_true, decide_false, Nat.zero_add, Nat.add_zero, List.getElem?_cons_zero, List.getElem?_cons_succ, true_and, and_true, and_self, List.length_cons, List.length_nil, ↓reduceIte, reduceCtorEq, Option.some_or, Option.none_or, Option.or_none, eq_self, Option.map_some, List.length_set, List.set_cons_zero, List.set_cons_succ, List.cons_append, List.drop_zero, List.drop_succ_cons, List.take_succ_cons, List.take_zero, List.all_cons, List.all_nil, Bool.and_true, Option.isSome_some, Option.isSome_none, Option.isNone_some, Option.isNone_none, false_and, and_false, ↓C.catnapref3_some_W, C.catnapref3_some_B, C.catnapref3_some]
  have hfin : nearL (ord g) db n = if b = true then aboveR g n else underR g n := by
    have hdb : ∀ w, w ∈ ord g → (db[w]? = some true ↔ w = n ∨ (if b = true then Up g n w else Up g w n)) := by
      intro w hw
      have hwl : w < db.length := by rw [hT.1]; exact (ord_topo g).lt w hw
      rw [← nr_end hR, ← hT.2 w hwl, List.getElem?_eq_getElem hwl, Option.some_inj]
    cases b
    · simp only [Bool.false_eq_true, if_false] at hdb ⊢
      rw [underR, if_pos h0, underL, Int.toNat_natCast]
      apply List.filter_congr
      intro w hw
      rw [Bool.eq_iff_iff, decide_eq_true_eq, hdb w hw]
      refine Iff.trans ?_ dec_iff.symm
      constructor
      · rintro ⟨a, c | c⟩
        · exact absurd c a
        · exact ⟨a, c⟩
      · rintro ⟨a, c⟩; exact ⟨a, .inr c⟩
    · simp only [if_true] at hdb ⊢
      rw [aboveR, if_pos h0, aboveL, Int.toNat_natCast]
      apply List.filter_congr
      intro w hw
      rw [Bool.eq_iff_iff, decide_eq_true_eq, hdb w hw]
      refine Iff.trans ?_ dec_iff.symm
      constructor
      · rintro ⟨a, c | c⟩
        · exact absurd c a
        · exact ⟨a, c⟩
      · rintro ⟨a, c⟩; exact ⟨a, .inr c⟩
  refine awp_loopK (fun p : Nat × AV => [(1, .int .i64 n), (8, .isl 1 (ints (nats (ord g))) (nats (ord g)).length), (10, .sl 1 idd 0 g.length), (14, p.2), (15, .int .i64 p.1)]) (fun p s => p.1 ≤ g.length ∧ Over (st'.new idd (.cells (bools db))) s 1 p.2 (nearL ((ord g).take p.1) db n).length (ints (nats (nearL ((ord g).take p.1) db n)))) (fun p => g.length - p.1) (0, .nils) rfl
    ⟨Nat.zero_le _, by simpa [nearL, nats, ints] using Over.nils (ASt.le.refl (st'.new idd (.cells (bools db)))) 1⟩ ?_
  rintro ⟨k, x⟩ s ⟨hk, hO⟩
  simp only at hk hO ⊢
  have hsd := hO.2.1 _ _ (hst db)
  by_cases hlt : k < g.length
  · have hko : k < (ord g).length := by omega
    have hlt' : (k : Int) < ((nats (ord g)).length : Nat) := by rw [nats_length]; omega
    have hz : (0:Int) ≤ (k : Int) ∧ (k : Int) < ((nats (ord g)).length : Nat) := by omega
    have hw := wsucc hlt (by omega)
    have hxl := ord_lt hR hko
    have hzx : (0:Int) ≤ ((ord g)[k] : Int) ∧ ((ord g)[k] : Int) < (g.length : Nat) := by omega
    have hxd : (ord g)[k] < db.length := by rw [hT.1]; exact hxl
    have hpick : nearL ((ord g).take (k + 1)) db n = nearL ((ord g).take k) db n ++ if (ord g)[k] ≠ n ∧ db[(ord g)[k]]? = some true then [(ord g)[k]] else [] := by
      rw [nearL, List.take_succ_eq_append_getElem hko, List.filter_append]
      congr 1
      by_cases h : (ord g)[k] ≠ n ∧ db[(ord g)[k]]? = some true
      · rw [if_pos h]; simp [h]
      · rw [if_neg h]; simp only [List.filter_cons, List.filter_nil, h, decide_false, Bool.false_eq_true, if_false]
    have hpl : (nearL ((ord g).take k) db n).length ≤ 100 := Nat.le_trans (List.length_filter_le _ _) (by simp; omega)
    by_cases hv : (ord g)[k] = n
    · have hv' : ((ord g)[k] : Int) = (n : Int) := by omega
      simp only [↓Bp, Bq, ↓aop.eq_28, ↓aop.eq_30, ↓initFr, aeqP, abinv, abin, aun, bound, aslice, aput, putN, zeros, heldOk, aheadOk, IOp.again, List.map_cons, List.map_nil, List.append_nil, List.nil_append, Nat.reduceEqDiff, Nat.reduceAdd, Nat.reduceMul, Nat.reduceSub, Nat.reduceLeDiff, Nat.reduceLT, Int.reduceLT, Int.reduceLE, Int.reduceEq, Int.reduceToNat, Int.reduceAdd, Int.reduceSub, Int.reduceNeg, not_false_eq_true, not_true_eq_false, if_true, if_false, Bool.false_xor, Bool.true_xor, Bool.false_eq_true, Bool.true_eq_false, Bool.not_true, Bool.not_false, decide_true, decide_false, Nat.zero_add, Nat.add_zero, List.getElem?_cons_zero, List.getElem?_cons_succ, true_and, and_true, and_self, List.length_cons, List.length_nil, ↓reduceIte, reduceCtorEq, Option.some_or, Option.none_or, Option.or_none, eq_self, Option.map_some, List.length_set, List.set_cons_zero, List.set_cons_succ, List.cons_append, List.drop_zero, List.drop_succ_cons, List.take_succ_cons, List.take_zero, List.all_cons, List.all_nil, Bool.and_true, Option.isSome_some, Option.isSome_none, Option.isNone_some, Option.isNone_none, false_and, and_false, ↓C.catnapref3_some_W, C.catnapref3_some_B, C.catnapref3_some, hlt', hz, Int.toNat_natCast, Nat.mul_one, ints_nats_get hko, hv', hw]
      refine ⟨(k + 1, x), rfl, ⟨hlt, ?_⟩, by simp only; omega⟩
      simp only
      rw [hpick, if_neg (fun h => h.1 hv), List.append_nil]
      exact hO
    · have hv' : ¬ ((ord g)[k] : Int) = (n : Int) := by omega
      have hget := List.getElem?_eq_getElem hxd
      cases hd : db[(ord g)[k]]
      · simp only [↓Bp, Bq, ↓aop.eq_28, ↓aop.eq_30, ↓initFr, aeqP, abinv, abin, aun, bound, aslice, aput, putN, zeros, heldOk, aheadOk, IOp.again, List.map_cons, List.map_nil, List.append_nil, List.nil_append, Nat.reduceEqDiff, Nat.reduceAdd, Nat.reduceMul, Nat.reduceSub, Nat.reduceLeDiff, Nat.reduceLT, Int.reduceLT, Int.reduceLE, Int.reduceEq, Int.reduceToNat, Int.reduceAdd, Int.reduceSub, Int.reduceNeg, not_false_eq_true, not_true_eq_false, if_true, if_false, Bool.false_xor, Bool.true_xor, Bool.false_eq_true, Bool.true_eq_false, Bool.not_true, Bool.not_false, decide_true, decide_false, Nat.zero_add, Nat.add_zero, List.getElem?_cons_zero, List.getElem?_cons_succ, true_and, and_true, and_self, List.length_cons, List.length_nil, ↓reduceIte, reduceCtorEq, Option.some_or, Option.none_or, Option.or_none, eq_self, Option.map_some, List.length_set, List.set_cons_zero, List.set_cons_succ, List.cons_append, List.drop_zero, List.drop_succ_cons, List.take_succ_cons, List.take_zero, List.all_cons, List.all_nil, Bool.and_true, Option.isSome_some, Option.isSome_none, Option.isNone_some, Option.isNone_none, false_and, and_false, ↓C.catnapref3_some_W, C.catnapref3_some_B, C.catnapref3_some, hlt', hz, hzx, Int.toNat_natCast, Nat.mul_one, ints_nats_get hko, hv', hsd, bools_get hxd, hd, hw]
        refine ⟨(k + 1, x), rfl, ⟨hlt, ?_⟩, by simp only; omega⟩
        simp only
        rw [hpick, if_neg (fun h => by rw [hget, hd] at h; cases h.2), List.append_nil]
        exact hO
      · simp only [↓Bp, Bq, ↓initFr, aeqP, abinv, abin, aun, bound, aslice, aput, putN, zeros, heldOk, aheadOk, IOp.again, List.map_cons, List.map_nil, List.append_nil, List.nil_append, Nat.reduceEqDiff, Nat.reduceAdd, Nat.reduceMul, Nat.reduceSub, Nat.reduceLeDiff, Nat.reduceLT, Int.reduceLT, Int.reduceLE, Int.reduceEq, Int.reduceToNat, Int.reduceAdd, Int.reduceSub, Int.reduceNeg, not_false_eq_true, not_true_eq_false, if_true, if_false, Bool.false_xor, Bool.true_xor, Bool.false_eq_true, Bool.true_eq_false, Bool.not_true, Bool.not_false, decide_true, decide_false, Nat.zero_add, Nat.add_zero, List.getElem?_cons_zero, List.getElem?_cons_succ, true_and, and_true, and_self, List.length_cons, List.length_nil, ↓reduceIte, reduceCtorEq, Option.some_or, Option.none_or, Option.or_none, eq_self, Option.map_some, List.length_set, List.set_cons_zero, List.set_cons_succ, List.cons_append, List.drop_zero, List.drop_succ_cons, List.take_succ_cons, List.take_zero, List.all_cons, List.all_nil, Bool.and_true, Option.isSome_some, Option.isSome_none, Option.isNone_some, Option.isNone_none, false_and, and_false, ↓C.catnapref3_some_W, C.catnapref3_some_B, C.catnapref3_some, hlt', hz, hzx, Int.toNat_natCast, Nat.mul_one, ints_nats_get hko, hv', hsd, bools_get hxd, hd]
        refine aop_append_over hO (by omega) (new := [.int .i64 (ord g)[k]]) rfl rfl rfl (fun _ => rfl) (fun _ => rfl) ?_
        intro v1 v2 s2 hO2
        simp only [↓Bp, Bq, ↓aop.eq_28, ↓aop.eq_30, ↓initFr, aeqP, abinv, abin, aun, bound, aslice, aput, putN, zeros, heldOk, aheadOk, IOp.again, List.map_cons, List.map_nil, List.append_nil, List.nil_append, Nat.reduceEqDiff, Nat.reduceAdd, Nat.reduceMul, Nat.reduceSub, Nat.reduceLeDiff, Nat.reduceLT, Int.reduceLT, Int.reduceLE, Int.reduceEq, Int.reduceToNat, Int.reduceAdd, Int.reduceSub, Int.reduceNeg, not_false_eq_true, not_true_eq_false, if_true, if_false, Bool.false_xor, Bool.true_xor, Bool.false_eq_true, Bool.true_eq_false, Bool.not_true, Bool.not_false, decide_true, decide_false, Nat.zero_add, Nat.add_zero, List.getElem?_cons_zero, List.getElem?_cons_succ, true_and, and_true, and_self, List.length_cons, List.length_nil, ↓reduceIte, reduceCtorEq, Option.some_or, Option.none_or, Option.or_none, eq_self, Option.map_some, List.length_set, List.set_cons_zero, List.set_cons_succ, List.cons_append, List.drop_zero, List.drop_succ_cons, List.take_succ_cons, List.take_zero, List.all_cons, List.all_nil, Bool.and_true, Option.isSome_some, Option.isSome_none, Option.isNone_some, Option.isNone_none, false_and, and_false, ↓C.catnapref3_some_W, C.catnapref3_some_B, C.catnapref3_some, hw]
        refine ⟨(k + 1, v2), rfl, ⟨hlt, ?_⟩, by simp only; omega⟩
        simp only
        rw [hpick, if_pos ⟨hv, by rw [hget, hd]⟩, nats_append, ints_append, List.length_append]
        exact hO2
  · have hke : k = g.length := by omega
    subst hke
    have hlt' : ¬ ((g.length : Nat) : Int) < ((nats (ord g)).length : Nat) := by rw [nats_length]; omega
    simp only [↓Bp, Bq, ↓aop.eq_28, ↓aop.eq_30, ↓initFr, aeqP, abinv, abin, aun, bound, aslice, aput, putN, zeros, heldOk, aheadOk, IOp.again, List.map_cons, List.map_nil, List.append_nil, List.nil_append, Nat.reduceEqDiff, Nat.reduceAdd, Nat.reduceMul, Nat.reduceSub, Nat.reduceLeDiff, Nat.reduceLT, Int.reduceLT, Int.reduceLE, Int.reduceEq, Int.reduceToNat, Int.reduceAdd, Int.reduceSub, Int.reduceNeg, not_false_eq_true, not_true_eq_false, if_true, if_false, Bool.false_xor, Bool.true_xor, Bool.false_eq_true, Bool.true_eq_false, Bool.not_true, Bool.not_false, decide_true, decide_false, Nat.zero_add, Nat.add_zero, List.getElem?_cons_zero, List.getElem?_cons_succ, true_and, and_true, and_self, List.length_cons, List.length_nil, ↓reduceIte, reduceCtorEq, Option.some_or, Option.none_or, Option.or_none, eq_self, Option.map_some, List.length_set, List.set_cons_zero, List.set_cons_succ, List.cons_append, List.drop_zero, List.drop_succ_cons, List.take_succ_cons, List.take_zero, List.all_cons, List.all_nil, Bool.and_true, Option.isSome_some, Option.isSome_none, Option.isNone_some, Option.isNone_none, false_and, and_false, ↓C.catnapref3_some_W, C.catnapref3_some_B, C.catnapref3_some, hlt']
    refine ⟨x, by rw [h0], ?_⟩
    rw [← hol, List.take_length, hfin] at hO
    exact hO.ofNew hidd

theorem refAbove_spec (hg : g.few) (v : Int) : ACalls Try.prog F.catnapref3_Above [.isl 1 (g.map row) g.length, .int .i64 v] st fun r st' => r = .tup [row (nats (aboveR g v)), .int .i64 (nodeErr g v)] ∧ st' = st := by
  refine calls_of_awp L.catnapref3_Above rfl ?_
  simp only [↓Bp, Bq, ↓aop.eq_28, ↓aop.eq_30, ↓initFr, aeqP, abinv, abin, aun, bound, aslice, aput, putN, zeros, heldOk, aheadOk, IOp.again, List.map_cons, List.map_nil, List.append_nil, List.nil_append, Nat.reduceEqDiff, Nat.reduceAdd, Nat.reduceMul, Nat.reduceSub, Nat.reduceLeDiff, Nat.reduceLT, Int.reduceLT, Int.reduceLE, Int.reduceEq, Int.reduceToNat, Int.reduceAdd, Int.reduceSub, Int.reduceNeg, not_false_eq_true, not_true_eq_false, if_true, if_false, Bool.false_xor, Bool.true_xor, Bool.false_eq_true, Bool.true_eq_false, Bool.not_true, Bool.not_false, decide_true, decide_false, Nat.zero_add, Nat.add_zero, List.getElem?_cons_zero, List.getElem?_cons_succ, true_and, and_true, and_self, List.length_cons, List.length_nil, ↓reduceIte, reduceCtorEq, Option.some_or, Option.none_or, Option.or_none, eq_self, Option.map_some, List.length_set, List.set_cons_zero, List.set_cons_succ, List.cons_append, List.drop_zero, List.drop_succ_cons, List.take_succ_cons, List.take_zero, List.all_cons, List.all_nil, Bool.and_true, Option.isSome_some, Option.isSome_none, Option.isNone_some, Option.isNone_none, false_and, and_false, ↓C.catnapref3_Above_W, C.catnapref3_Above_B, C.catnapref3_Above]
  refine ((some_spec0 hg v true).ghost (Q := fun r st' => r = .tup [row (nats (aboveR g v)), .int .i64 (nodeErr g v)] ∧ st' = st) ?_).mono ?_
  · rintro r st' ⟨x, rfl, hO⟩
    exact ⟨_, st, Ghost.tupL hO.frz _, by rw [row, nats_length]; rfl, rfl⟩
  · rintro r st' ⟨rfl, rfl⟩
    simp only [↓Bp, Bq, ↓aop.eq_28, ↓aop.eq_30, ↓initFr, aeqP, abinv, abin, aun, bound, aslice, aput, putN, zeros, heldOk, aheadOk, IOp.again, List.map_cons, List.map_nil, List.append_nil, List.nil_append, Nat.reduceEqDiff, Nat.reduceAdd, Nat.reduceMul, Nat.reduceSub, Nat.reduceLeDiff, Nat.reduceLT, Int.reduceLT, Int.reduceLE, Int.reduceEq, Int.reduceToNat, Int.reduceAdd, Int.reduceSub, Int.reduceNeg, not_false_eq_true, not_true_eq_false, if_true, if_false, Bool.false_xor, Bool.true_xor, Bool.false_eq_true, Bool.true_eq_false, Bool.not_true, Bool.not_false, decide_true, decide_false, Nat.zero_add, Nat.add_zero, List.getElem?_cons_zero, List.getElem?_cons_succ, true_and, and_true, and_self, List.length_cons, List.length_nil, ↓reduceIte, reduceCtorEq, Option.some_or, Option.none_or, Option.or_none, eq_self, Option.map_some, List.length_set, List.set_cons_zero, List.set_cons_succ, List.cons_append, List.drop_zero, List.drop_succ_cons, List.take_succ_cons, List.take_zero, List.all_cons, List.all_nil, Bool.and_true, Option.isSome_some, Option.isSome_none, Option.isNone_some, Option.isNone_none, false_and, and_false, ↓C.catnapref3_Above_W, C.catnapref3_Above_B, C.catnapref3_Above]
theorem refUnder_spec (hg : g.few) (v : Int) : ACalls Try.prog F.catnapref3_Under [.isl 1 (g.map row) g.length, .int .i64 v] st fun r st' => r = .tup [row (nats (underR g v)), .int .i64 (nodeErr g v)] ∧ st' = st := by
  refine calls_of_awp L.catnapref3_Under rfl ?_
  simp only [↓Bp, Bq, ↓aop.eq_28, ↓aop.eq_30, ↓initFr, aeqP, abinv, abin, aun, bound, aslice, aput, putN, zeros, heldOk, aheadOk, IOp.again, List.map_cons, List.map_nil, List.append_nil, List.nil_append, Nat.reduceEqDiff, Nat.reduceAdd, Nat.reduceMul, Nat.reduceSub, Nat.reduceLeDiff, Nat.reduceLT, Int.reduceLT, Int.reduceLE, Int.reduceEq, Int.reduceToNat, Int.reduceAdd, Int.reduceSub, Int.reduceNeg, not_false_eq_true, not_true_eq_false, if_true, if_false, Bool.false_xor, Bool.true_xor, Bool.false_eq_true, Bool.true_eq_false, Bool.not_true, Bool.not_false, decide_true, decide_false, Nat.zero_add, Nat.add_zero, List.getElem?_cons_zero, List.getElem?_cons_succ, true_and, and_true, and_self, List.length_cons, List.length_nil, ↓reduceIte, reduceCtorEq, Option.some_or, Option.none_or, Option.or_none, eq_self, Option.map_some, List.length_set, List.set_cons_zero, List.set_cons_succ, List.cons_append, List.drop_zero, List.drop_succ_cons, List.take_succ_cons, List.take_zero, List.all_cons, List.all_nil, Bool.and_true, Option.isSome_some, Option.isSome_none, Option.isNone_some, Option.isNone_none, false_and, and_false, ↓C.catnapref3_Under_W, C.catnapref3_Under_B, C.catnapref3_Under]
  refine ((some_spec0 hg v false).ghost (Q := fun r st' => r = .tup [row (nats (underR g v)), .int .i64 (nodeErr g v)] ∧ st' = st) ?_).mono ?_
  · rintro r st' ⟨x, rfl, hO⟩
    exact ⟨_, st, Ghost.tupL hO.frz _, by rw [row, nats_length]; rfl, rfl⟩
  · rintro r st' ⟨rfl, rfl⟩
    simp only [↓Bp, Bq, ↓aop.eq_28, ↓aop.eq_30, ↓initFr, aeqP, abinv, abin, aun, bound, aslice, aput, putN, zeros, heldOk, aheadOk, IOp.again, List.map_cons, List.map_nil, List.append_nil, List.nil_append, Nat.reduceEqDiff, Nat.reduceAdd, Nat.reduceMul, Nat.reduceSub, Nat.reduceLeDiff, Nat.reduceLT, Int.reduceLT, Int.reduceLE, Int.reduceEq, Int.reduceToNat, Int.reduceAdd, Int.reduceSub, Int.reduceNeg, not_false_eq_true, not_true_eq_false, if_true, if_false, Bool.false_xor, Bool.true_xor, Bool.false_eq_true, Bool.true_eq_false, Bool.not_true, Bool.not_false, decide_true, decide_false, Nat.zero_add, Nat.add_zero, List.getElem?_cons_zero, List.getElem?_cons_succ, true_and, and_true, and_self, List.length_cons, List.length_nil, ↓reduceIte, reduceCtorEq, Option.some_or, Option.none_or, Option.or_none, eq_self, Option.map_some, List.length_set, List.set_cons_zero, List.set_cons_succ, List.cons_append, List.drop_zero, List.drop_succ_cons, List.take_succ_cons, List.take_zero, List.all_cons, List.all_nil, Bool.and_true, Option.isSome_some, Option.isSome_none, Option.isNone_some, Option.isNone_none, false_and, and_false, ↓C.catnapref3_Under_W, C.catnapref3_Under_B, C.catnapref3_Under]
end
end Go.Proofs.Ythmdiljjkogghaa.Cn
