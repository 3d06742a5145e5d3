/- Graphs: GraphOrders. -/
import Derived.Test.YthmdiljjkogghaaCnGraphF
set_option linter.unusedSimpArgs false
set_option linter.unusedVariables false
namespace Go.Proofs.Ythmdiljjkogghaa.Cn
open Go Go.Proofs

/-- As long as a node could stand and does not, lesser ones go. -/
theorem topo_least {g : Gr} : ∀ {out : List Nat}, Topo g out → ∀ {i v : Nat} (hi : i < out.length), v < g.length → (∀ u ∈ deps g v, u ∈ out.take i) → v ∉ out.take i → out[i] ≤ v := by
  intro out h
  induction h with
  | nil => intro i v hi; simp at hi
  | @snoc out x h hv ih =>
    intro i v hi hvl hd hn
    simp only [List.length_append, List.length_cons, List.length_nil] at hi
    by_cases e : i < out.length
    · rw [List.getElem_append_left e]
      rw [List.take_append_of_le_length (by omega)] at hd hn
      exact ih e hvl hd hn
    · have hie : i = out.length := by omega
      subst hie
      rw [List.take_append_of_le_length (Nat.le_refl _), List.take_length] at hd hn
      have : (out ++ [x])[out.length] = x := by simp
      rw [this]
      refine Classical.byContradiction fun hc => ?_
      have := (next_some.mp hv).2.2 v (by omega)
      rw [ready_iff.mpr ⟨hn, hd⟩] at this
      cases this

theorem right_least {g : Gr} (h : Right g) {i v : Nat} (hv : v < g.length) (hi : i < (ord g).idxOf v) (hd : ∀ u ∈ deps g v, (ord g).idxOf u < i) (hio : i < (ord g).length) : (ord g)[i] ≤ v := by
  refine topo_least (ord_topo g) hio hv (fun u hu => ?_) (fun hn => ?_)
  · have h1 := h.mem (deps_lt h.ok hu)
    have h2 := hd u hu
    rw [List.mem_take_iff_getElem]
    exact ⟨(ord g).idxOf u, by have := List.idxOf_lt_length_of_mem h1; omega, List.getElem_idxOf _⟩
  · rw [List.mem_take_iff_getElem] at hn
    obtain ⟨j, hj, he⟩ := hn
    have : (ord g).idxOf v = j := by rw [← he]; exact h.idx (by omega)
    omega

section
variable {st : ASt} {g : Gr}

/-- Where each node stands that has been looked at. -/
def Places (g : Gr) (i : Nat) (pl : List Int) : Prop := pl.length = g.length ∧ ∀ v (h : v < pl.length), pl[v] = if (ord g).idxOf v < i then ((ord g).idxOf v : Int) else -1

theorem orders_spec {many : Int} {l : List Int} {t : Bool} (hm : I64 many) (hl : l.length ≤ 9223372036854775807) (hr : ∀ x ∈ l, I64 x) : ACalls Try.prog F.catnaplaw3_GraphOrders [.int .i64 many, .isl 1 (ints l) l.length, .bool t] st fun r _ => r = .bool true := by
  refine calls_of_awp L.catnaplaw3_GraphOrders rfl ?_
  simp only [↓Bp, Bq, ↓aop.eq_28, ↓aop.eq_30, ↓initFr, aeqP, abinv, abin, aun, bound, aslice, aput, putN, zeros, heldOk, aheadOk, IOp.again, List.map_cons, List.map_nil, List.append_nil, List.nil_append, Nat.reduceEqDiff, Nat.reduceAdd, Nat.reduceMul, Nat.reduceSub, Nat.reduceLeDiff, Nat.reduceLT, Int.reduceLT, Int.reduceLE, Int.reduceEq, Int.reduceToNat, Int.reduceAdd, Int.reduceSub, Int.reduceNeg, not_false_eq_true, not_true_eq_false, if_true, if_false, Bool.false_xor, Bool.true_xor, Bool.false_eq_true, Bool.true_eq_false, Bool.not_true, Bool.not_false, decide_true, decide_false, Nat.zero_add, Nat.add_zero, List.getElem?_cons_zero, List.getElem?_cons_succ, true_and, and_true, and_self, List.length_cons, List.length_nil, ↓reduceIte, reduceCtorEq, Option.some_or, Option.none_or, Option.or_none, eq_self, Option.map_some, List.length_set, List.set_cons_zero, List.set_cons_succ, List.cons_append, List.drop_zero, List.drop_succ_cons, List.take_succ_cons, List.take_zero, List.all_cons, List.all_nil, Bool.and_true, Option.isSome_some, Option.isSome_none, Option.isNone_some, Option.isNone_none, false_and, and_false, ↓C.catnaplaw3_GraphOrders_W, C.catnaplaw3_GraphOrders_B, C.catnaplaw3_GraphOrders]
  refine (shown_spec st).mono ?_
  rintro r s ⟨rfl, rfl⟩
  simp only [↓Bp, Bq, ↓aop.eq_28, ↓aop.eq_30, ↓initFr, aeqP, abinv, abin, aun, bound, aslice, aput, putN, zeros, heldOk, aheadOk, IOp.again, List.map_cons, List.map_nil, List.append_nil, List.nil_append, Nat.reduceEqDiff, Nat.reduceAdd, Nat.reduceMul, Nat.reduceSub, Nat.reduceLeDiff, Nat.reduceLT, Int.reduceLT, Int.reduceLE, Int.reduceEq, Int.reduceToNat, Int.reduceAdd, Int.reduceSub, Int.reduceNeg, not_false_eq_true, not_true_eq_false, if_true, if_false, Bool.false_xor, Bool.true_xor, Bool.false_eq_true, Bool.true_eq_false, Bool.not_true, Bool.not_false, decide_true, decide_false, Nat.zero_add, Nat.add_zero, List.getElem?_cons_zero, List.getElem?_cons_succ, true_and, and_true, and_self, List.length_cons, List.length_nil, ↓reduceIte, reduceCtorEq, Option.some_or, Option.none_or, Option.or_none, eq_self, Option.map_some, List.length_set, List.set_cons_zero, List.set_cons_succ, List.cons_append, List.drop_zero, List.drop_succ_cons, List.take_succ_cons, List.take_zero, List.all_cons, List.all_nil, Bool.and_true, Option.isSome_some, Option.isSome_none, Option.isNone_some, Option.isNone_none, false_and, and_false, ↓C.catnaplaw3_GraphOrders_W, C.catnaplaw3_GraphOrders_B, C.catnaplaw3_GraphOrders]
  refine (pick_spec (n := 12) hm (by omega)).mono ?_
  rintro r s' ⟨rfl, rfl⟩
  have hnl := pickI_lt many (n := 12) (by omega)
  generalize pickI many 12 = n at hnl
  simp only [↓Bp, Bq, ↓aop.eq_28, ↓aop.eq_30, ↓initFr, aeqP, abinv, abin, aun, bound, aslice, aput, putN, zeros, heldOk, aheadOk, IOp.again, List.map_cons, List.map_nil, List.append_nil, List.nil_append, Nat.reduceEqDiff, Nat.reduceAdd, Nat.reduceMul, Nat.reduceSub, Nat.reduceLeDiff, Nat.reduceLT, Int.reduceLT, Int.reduceLE, Int.reduceEq, Int.reduceToNat, Int.reduceAdd, Int.reduceSub, Int.reduceNeg, not_false_eq_true, not_true_eq_false, if_true, if_false, Bool.false_xor, Bool.true_xor, Bool.false_eq_true, Bool.true_eq_false, Bool.not_true, Bool.not_false, decide_true, decide_false, Nat.zero_add, Nat.add_zero, List.getElem?_cons_zero, List.getElem?_cons_succ, true_and, and_true, and_self, List.length_cons, List.length_nil, ↓reduceIte, reduceCtorEq, Option.some_or, Option.none_or, Option.or_none, eq_self, Option.map_some, List.length_set, List.set_cons_zero, List.set_cons_succ, List.cons_append, List.drop_zero, List.drop_succ_cons, List.take_succ_cons, List.take_zero, List.all_cons, List.all_nil, Bool.and_true, Option.isSome_some, Option.isSome_none, Option.isNone_some, Option.isNone_none, false_and, and_false, ↓C.catnaplaw3_GraphOrders_W, C.catnaplaw3_GraphOrders_B, C.catnaplaw3_GraphOrders]
  refine (falling_val (n := n) (by omega) hl hr t).mono ?_
  rintro r s2 ⟨g, rfl, hgn, hF, rfl⟩
  have hR := hF.right
  have hg := hF.few (by omega)
  have he := hF.err (by omega)
  have hol : (ord g).length = g.length := hR.full
  simp only [↓Bp, Bq, ↓aop.eq_28, ↓aop.eq_30, ↓initFr, aeqP, abinv, abin, aun, bound, aslice, aput, putN, zeros, heldOk, aheadOk, IOp.again, List.map_cons, List.map_nil, List.append_nil, List.nil_append, Nat.reduceEqDiff, Nat.reduceAdd, Nat.reduceMul, Nat.reduceSub, Nat.reduceLeDiff, Nat.reduceLT, Int.reduceLT, Int.reduceLE, Int.reduceEq, Int.reduceToNat, Int.reduceAdd, Int.reduceSub, Int.reduceNeg, not_false_eq_true, not_true_eq_false, if_true, if_false, Bool.false_xor, Bool.true_xor, Bool.false_eq_true, Bool.true_eq_false, Bool.not_true, Bool.not_false, decide_true, decide_false, Nat.zero_add, Nat.add_zero, List.getElem?_cons_zero, List.getElem?_cons_succ, true_and, and_true, and_self, List.length_cons, List.length_nil, ↓reduceIte, reduceCtorEq, Option.some_or, Option.none_or, Option.or_none, eq_self, Option.map_some, List.length_set, List.set_cons_zero, List.set_cons_succ, List.cons_append, List.drop_zero, List.drop_succ_cons, List.take_succ_cons, List.take_zero, List.all_cons, List.all_nil, Bool.and_true, Option.isSome_some, Option.isSome_none, Option.isNone_some, Option.isNone_none, false_and, and_false, ↓C.catnaplaw3_GraphOrders_W, C.catnaplaw3_GraphOrders_B, C.catnaplaw3_GraphOrders]
  refine (order_spec hg).mono ?_
  rintro r s3 ⟨rfl, rfl⟩
  simp only [↓Bp, Bq, ↓aop.eq_28, ↓aop.eq_30, ↓initFr, aeqP, abinv, abin, aun, bound, aslice, aput, putN, zeros, heldOk, aheadOk, IOp.again, List.map_cons, List.map_nil, List.append_nil, List.nil_append, Nat.reduceEqDiff, Nat.reduceAdd, Nat.reduceMul, Nat.reduceSub, Nat.reduceLeDiff, Nat.reduceLT, Int.reduceLT, Int.reduceLE, Int.reduceEq, Int.reduceToNat, Int.reduceAdd, Int.reduceSub, Int.reduceNeg, not_false_eq_true, not_true_eq_false, if_true, if_false, Bool.false_xor, Bool.true_xor, Bool.false_eq_true, Bool.true_eq_false, Bool.not_true, Bool.not_false, decide_true, decide_false, Nat.zero_add, Nat.add_zero, List.getElem?_cons_zero, List.getElem?_cons_succ, true_and, and_true, and_self, List.length_cons, List.length_nil, ↓reduceIte, reduceCtorEq, Option.some_or, Option.none_or, Option.or_none, eq_self, Option.map_some, List.length_set, List.set_cons_zero, List.set_cons_succ, List.cons_append, List.drop_zero, List.drop_succ_cons, List.take_succ_cons, List.take_zero, List.all_cons, List.all_nil, Bool.and_true, Option.isSome_some, Option.isSome_none, Option.isNone_some, Option.isNone_none, false_and, and_false, ↓C.catnaplaw3_GraphOrders_W, C.catnaplaw3_GraphOrders_B, C.catnaplaw3_GraphOrders, he]
  refine (check_spec hg).mono ?_
  rintro r s4 ⟨rfl, rfl⟩
  have hlen : ((nats (ord g)).length : Int) = (n : Int) := by rw [nats_length, hol, hgn]
  have hz0 : (0 : Int) ≤ (n : Int) ∧ (n : Int) ≤ 4294967296 := by omega
  simp only [↓Bp, Bq, ↓aop.eq_28, ↓aop.eq_30, ↓initFr, aeqP, abinv, abin, aun, bound, aslice, aput, putN, zeros, heldOk, aheadOk, IOp.again, List.map_cons, List.map_nil, List.append_nil, List.nil_append, Nat.reduceEqDiff, Nat.reduceAdd, Nat.reduceMul, Nat.reduceSub, Nat.reduceLeDiff, Nat.reduceLT, Int.reduceLT, Int.reduceLE, Int.reduceEq, Int.reduceToNat, Int.reduceAdd, Int.reduceSub, Int.reduceNeg, not_false_eq_true, not_true_eq_false, if_true, if_false, Bool.false_xor, Bool.true_xor, Bool.false_eq_true, Bool.true_eq_false, Bool.not_true, Bool.not_false, decide_true, decide_false, Nat.zero_add, Nat.add_zero, List.getElem?_cons_zero, List.getElem?_cons_succ, true_and, and_true, and_self, List.length_cons, List.length_nil, ↓reduceIte, reduceCtorEq, Option.some_or, Option.none_or, Option.or_none, eq_self, Option.map_some, List.length_set, List.set_cons_zero, List.set_cons_succ, List.cons_append, List.drop_zero, List.drop_succ_cons, List.take_succ_cons, List.take_zero, List.all_cons, List.all_nil, Bool.and_true, Option.isSome_some, Option.isSome_none, Option.isNone_some, Option.isNone_none, false_and, and_false, ↓C.catnaplaw3_GraphOrders_W, C.catnaplaw3_GraphOrders_B, C.catnaplaw3_GraphOrders, he, ordL, row, hlen, hz0, Int.toNat_natCast, zeros_i64]
  intro ip hip
  refine awp_midB (fun _ : Unit => [(8, .int .i64 n), (9, .isl 1 (g.map row) g.length), (10, .isl 1 (ints (nats (ord g))) (nats (ord g)).length), (12, .sl 1 ip 0 n)]) (fun _ s => ∃ pl, s = s4.new ip (.cells (ints pl)) ∧ Places g 0 pl) ?_ ?_
  · refine awp_loopK (fun i : Nat => [(8, .int .i64 n), (9, .isl 1 (g.map row) g.length), (10, .isl 1 (ints (nats (ord g))) (nats (ord g)).length), (12, .sl 1 ip 0 n), (13, .int .i64 i)]) (fun i s => i ≤ n ∧ ∃ pl, s = s4.new ip (.cells (ints pl)) ∧ pl.length = n ∧ ∀ v (h : v < pl.length), v < i → pl[v] = -1) (fun i => n - i) 0 rfl
      ⟨Nat.zero_le _, _, rfl, by simp, fun v _ h => by omega⟩ ?_
    rintro i s ⟨hi, pl, rfl, hpl, hp⟩
    by_cases hlt : i < n
    · have hlt' : (i : Int) < (n : Int) := by omega
      have hz : (0:Int) ≤ (i : Int) ∧ (i : Int) < (n : Int) := by omega
      have hw := wsucc hlt (by omega)
      have hip2 : i < pl.length := by omega
      simp only [↓Bp, Bq, ↓aop.eq_28, ↓aop.eq_30, ↓initFr, aeqP, abinv, abin, aun, bound, aslice, aput, putN, zeros, heldOk, aheadOk, IOp.again, List.map_cons, List.map_nil, List.append_nil, List.nil_append, Nat.reduceEqDiff, Nat.reduceAdd, Nat.reduceMul, Nat.reduceSub, Nat.reduceLeDiff, Nat.reduceLT, Int.reduceLT, Int.reduceLE, Int.reduceEq, Int.reduceToNat, Int.reduceAdd, Int.reduceSub, Int.reduceNeg, not_false_eq_true, not_true_eq_false, if_true, if_false, Bool.false_xor, Bool.true_xor, Bool.false_eq_true, Bool.true_eq_false, Bool.not_true, Bool.not_false, decide_true, decide_false, Nat.zero_add, Nat.add_zero, List.getElem?_cons_zero, List.getElem?_cons_succ, true_and, and_true, and_self, List.length_cons, List.length_nil, ↓reduceIte, reduceCtorEq, Option.some_or, Option.none_or, Option.or_none, eq_self, Option.map_some, List.length_set, List.set_cons_zero, List.set_cons_succ, List.cons_append, List.drop_zero, List.drop_succ_cons, List.take_succ_cons, List.take_zero, List.all_cons, List.all_nil, Bool.and_true, Option.isSome_some, Option.isSome_none, Option.isNone_some, Option.isNone_none, false_and, and_false, ↓C.catnaplaw3_GraphOrders_W, C.catnaplaw3_GraphOrders_B, C.catnaplaw3_GraphOrders, hlt', hz, Int.toNat_natCast, Nat.mul_one, hip, ints_length, hip2, ints_set, hw]
      refine ⟨i + 1, rfl, ⟨hlt, pl.set i (-1), ASt.new_set hip _ _, by simpa using hpl, fun v hv hvi => ?_⟩, by omega⟩
      by_cases e : v = i
      · subst e; simp
      · rw [List.getElem_set_ne (Ne.symm e)]; exact hp v (by simpa using hv) (by omega)
    · have hie : i = n := by omega
      subst hie
      have hlt' : ¬ (i : Int) < (i : Int) := by omega
      simp only [↓Bp, Bq, ↓aop.eq_28, ↓aop.eq_30, ↓initFr, aeqP, abinv, abin, aun, bound, aslice, aput, putN, zeros, heldOk, aheadOk, IOp.again, List.map_cons, List.map_nil, List.append_nil, List.nil_append, Nat.reduceEqDiff, Nat.reduceAdd, Nat.reduceMul, Nat.reduceSub, Nat.reduceLeDiff, Nat.reduceLT, Int.reduceLT, Int.reduceLE, Int.reduceEq, Int.reduceToNat, Int.reduceAdd, Int.reduceSub, Int.reduceNeg, not_false_eq_true, not_true_eq_false, if_true, if_false, Bool.false_xor, Bool.true_xor, Bool.false_eq_true, Bool.true_eq_false, Bool.not_true, Bool.not_false, decide_true, decide_false, Nat.zero_add, Nat.add_zero, List.getElem?_cons_zero, List.getElem?_cons_succ, true_and, and_true, and_self, List.length_cons, List.length_nil, ↓reduceIte, reduceCtorEq, Option.some_or, Option.none_or, Option.or_none, eq_self, Option.map_some, List.length_set, List.set_cons_zero, List.set_cons_succ, List.cons_append, List.drop_zero, List.drop_succ_cons, List.take_succ_cons, List.take_zero, List.all_cons, List.all_nil, Bool.and_true, Option.isSome_some, Option.isSome_none, Option.isNone_some, Option.isNone_none, false_and, and_false, ↓C.catnaplaw3_GraphOrders_W, C.catnaplaw3_GraphOrders_B, C.catnaplaw3_GraphOrders, hlt']
      exact ⟨(), pl, rfl, by omega, fun v hv => by rw [hp v hv (by omega)]; simp⟩
  rintro - s ⟨pl, rfl, hpl⟩
  simp only [↓Bp, Bq, ↓aop.eq_28, ↓aop.eq_30, ↓initFr, aeqP, abinv, abin, aun, bound, aslice, aput, putN, zeros, heldOk, aheadOk, IOp.again, List.map_cons, List.map_nil, List.append_nil, List.nil_append, Nat.reduceEqDiff, Nat.reduceAdd, Nat.reduceMul, Nat.reduceSub, Nat.reduceLeDiff, Nat.reduceLT, Int.reduceLT, Int.reduceLE, Int.reduceEq, Int.reduceToNat, Int.reduceAdd, Int.reduceSub, Int.reduceNeg, not_false_eq_true, not_true_eq_false, if_true, if_false, Bool.false_xor, Bool.true_xor, Bool.false_eq_true, Bool.true_eq_false, Bool.not_true, Bool.not_false, decide_true, decide_false, Nat.zero_add, Nat.add_zero, List.getElem?_cons_zero, List.getElem?_cons_succ, true_and, and_true, and_self, List.length_cons, List.length_nil, ↓reduceIte, reduceCtorEq, Option.some_or, Option.none_or, Option.or_none, eq_self, Option.map_some, List.length_set, List.set_cons_zero, List.set_cons_succ, List.cons_append, List.drop_zero, List.drop_succ_cons, List.take_succ_cons, List.take_zero, List.all_cons, List.all_nil, Bool.and_true, Option.isSome_some, Option.isSome_none, Option.isNone_some, Option.isNone_none, false_and, and_false, ↓C.catnaplaw3_GraphOrders_W, C.catnaplaw3_GraphOrders_B, C.catnaplaw3_GraphOrders]
  refine awp_midB (fun _ : Unit => [(8, .int .i64 n), (9, .isl 1 (g.map row) g.length), (10, .isl 1 (ints (nats (ord g))) (nats (ord g)).length), (12, .sl 1 ip 0 n)]) (fun _ s => ∃ pl, s = s4.new ip (.cells (ints pl)) ∧ Places g n pl) ?_ ?_
  · refine awp_loopK (fun i : Nat => [(8, .int .i64 n), (9, .isl 1 (g.map row) g.length), (10, .isl 1 (ints (nats (ord g))) (nats (ord g)).length), (12, .sl 1 ip 0 n), (14, .int .i64 i)]) (fun i s => i ≤ n ∧ ∃ pl, s = s4.new ip (.cells (ints pl)) ∧ Places g i pl) (fun i => n - i) 0 rfl
      ⟨Nat.zero_le _, pl, rfl, hpl⟩ ?_
    clear hpl pl
    rintro i s ⟨hi, pl, rfl, hpl, hp⟩
    by_cases hlt : i < n
    · have hlt' : (i : Int) < (n : Int) := by omega
      have hio : i < (ord g).length := by omega
      have hz : (0:Int) ≤ (i : Int) ∧ (i : Int) < ((nats (ord g)).length : Nat) := by rw [nats_length]; omega
      have hw := wsucc hlt (by omega)
      have hxl := ord_lt hR hio
      have hzx : (0:Int) ≤ ((ord g)[i] : Int) ∧ ((ord g)[i] : Int) < (n : Int) := by omega
      have hxp : (ord g)[i] < pl.length := by omega
      have hx0 : ¬ ((ord g)[i] : Int) < 0 := by omega
      have hx1 : ¬ (n : Int) ≤ ((ord g)[i] : Int) := by omega
      have hpx : pl[(ord g)[i]] = -1 := by
        rw [hp _ hxp, hR.idx hio, if_neg (Nat.lt_irrefl _)]
      have hlt4 : ¬ (0 : Int) ≤ -1 := by decide
      simp only [↓Bp, Bq, ↓aop.eq_28, ↓aop.eq_30, ↓initFr, aeqP, abinv, abin, aun, bound, aslice, aput, putN, zeros, heldOk, aheadOk, IOp.again, List.map_cons, List.map_nil, List.append_nil, List.nil_append, Nat.reduceEqDiff, Nat.reduceAdd, Nat.reduceMul, Nat.reduceSub, Nat.reduceLeDiff, Nat.reduceLT, Int.reduceLT, Int.reduceLE, Int.reduceEq, Int.reduceToNat, Int.reduceAdd, Int.reduceSub, Int.reduceNeg, not_false_eq_true, not_true_eq_false, if_true, if_false, Bool.false_xor, Bool.true_xor, Bool.false_eq_true, Bool.true_eq_false, Bool.not_true, Bool.not_false, decide_true, decide_false, Nat.zero_add, Nat.add_zero, List.getElem?_cons_zero, List.getElem?_cons_succ, true_and, and_true, and_self, List.length_cons, List.length_nil, ↓reduceIte, reduceCtorEq, Option.some_or, Option.none_or, Option.or_none, eq_self, Option.map_some, List.length_set, List.set_cons_zero, List.set_cons_succ, List.cons_append, List.drop_zero, List.drop_succ_cons, List.take_succ_cons, List.take_zero, List.all_cons, List.all_nil, Bool.and_true, Option.isSome_some, Option.isSome_none, Option.isNone_some, Option.isNone_none, false_and, and_false, ↓C.catnaplaw3_GraphOrders_W, C.catnaplaw3_GraphOrders_B, C.catnaplaw3_GraphOrders, hlt', hz, Int.toNat_natCast, Nat.mul_one, ints_nats_get hio, hx0, hx1, hzx, hip, ints_get hxp, hpx, hlt4, ints_length, hxp, ints_set, hw]
      refine ⟨i + 1, rfl, ⟨hlt, pl.set (ord g)[i] i, ASt.new_set hip _ _, by simpa using hpl, fun v hv => ?_⟩, by omega⟩
      have hv' : v < pl.length := by simpa using hv
      by_cases e : v = (ord g)[i]
      · subst e
        rw [List.getElem_set_self, hR.idx hio, if_pos (by omega)]
      · rw [List.getElem_set_ne (Ne.symm e), hp v hv']
        have : (ord g).idxOf v ≠ i := fun h => e (pos_eq hR hio (by omega) h)
        by_cases h5 : (ord g).idxOf v < i
        · rw [if_pos h5, if_pos (by omega)]
        · rw [if_neg h5, if_neg (by omega)]
    · have hie : i = n := by omega
      subst hie
      have hlt' : ¬ (i : Int) < (i : Int) := by omega
      simp only [↓Bp, Bq, ↓aop.eq_28, ↓aop.eq_30, ↓initFr, aeqP, abinv, abin, aun, bound, aslice, aput, putN, zeros, heldOk, aheadOk, IOp.again, List.map_cons, List.map_nil, List.append_nil, List.nil_append, Nat.reduceEqDiff, Nat.reduceAdd, Nat.reduceMul, Nat.reduceSub, Nat.reduceLeDiff, Nat.reduceLT, Int.reduceLT, Int.reduceLE, Int.reduceEq, Int.reduceToNat, Int.reduceAdd, Int.reduceSub, Int.reduceNeg, not_false_eq_true, not_true_eq_false, if_true, if_false, Bool.false_xor, Bool.true_xor, Bool.false_eq_true, Bool.true_eq_false, Bool.not_true, Bool.not_false, decide_true, decide_false, Nat.zero_add, Nat.add_zero, List.getElem?_cons_zero, List.getElem?_cons_succ, true_and, and_true, and_self, List.length_cons, List.length_nil, ↓reduceIte, reduceCtorEq, Option.some_or, Option.none_or, Option.or_none, eq_self, Option.map_some, List.length_set, List.set_cons_zero, List.set_cons_succ, List.cons_append, List.drop_zero, List.drop_succ_cons, List.take_succ_cons, List.take_zero, List.all_cons, List.all_nil, Bool.and_true, Option.isSome_some, Option.isSome_none, Option.isNone_some, Option.isNone_none, false_and, and_false, ↓C.catnaplaw3_GraphOrders_W, C.catnaplaw3_GraphOrders_B, C.catnaplaw3_GraphOrders, hlt']
      exact ⟨(), pl, rfl, hpl, hp⟩
  clear hpl pl
  rintro - s ⟨pl, rfl, hpl, hp⟩
  have hpos : ∀ v (h : v < pl.length), pl[v] = ((ord g).idxOf v : Int) := fun v h => by
    rw [hp v h, if_pos (by have := pos_lt hR (x := v) (by omega); omega)]
  clear hp
  have hcell : ∀ v (h : v < pl.length), (ints pl)[v]? = some (.int .i64 ((ord g).idxOf v)) := fun v h => by rw [ints_get h, hpos v h]
  simp only [↓Bp, Bq, ↓aop.eq_28, ↓aop.eq_30, ↓initFr, aeqP, abinv, abin, aun, bound, aslice, aput, putN, zeros, heldOk, aheadOk, IOp.again, List.map_cons, List.map_nil, List.append_nil, List.nil_append, Nat.reduceEqDiff, Nat.reduceAdd, Nat.reduceMul, Nat.reduceSub, Nat.reduceLeDiff, Nat.reduceLT, Int.reduceLT, Int.reduceLE, Int.reduceEq, Int.reduceToNat, Int.reduceAdd, Int.reduceSub, Int.reduceNeg, not_false_eq_true, not_true_eq_false, if_true, if_false, Bool.false_xor, Bool.true_xor, Bool.false_eq_true, Bool.true_eq_false, Bool.not_true, Bool.not_false, decide_true, decide_false, Nat.zero_add, Nat.add_zero, List.getElem?_cons_zero, List.getElem?_cons_succ, true_and, and_true, and_self, List.length_cons, List.length_nil, ↓reduceIte, reduceCtorEq, Option.some_or, Option.none_or, Option.or_none, eq_self, Option.map_some, List.length_set, List.set_cons_zero, List.set_cons_succ, List.cons_append, List.drop_zero, List.drop_succ_cons, List.take_succ_cons, List.take_zero, List.all_cons, List.all_nil, Bool.and_true, Option.isSome_some, Option.isSome_none, Option.isNone_some, Option.isNone_none, false_and, and_false, ↓C.catnaplaw3_GraphOrders_W, C.catnaplaw3_GraphOrders_B, C.catnaplaw3_GraphOrders]
  refine awp_loopK (fun i : Nat => [(8, .int .i64 n), (9, .isl 1 (g.map row) g.length), (10, .isl 1 (ints (nats (ord g))) (nats (ord g)).length), (12, .sl 1 ip 0 n), (15, .int .i64 i)]) (fun i s => i ≤ n ∧ s = s4.new ip (.cells (ints pl))) (fun i => n - i) 0 rfl
    ⟨Nat.zero_le _, rfl⟩ ?_
  rintro v s ⟨hv, rfl⟩
  by_cases hlt : v < n
  rotate_left
  · have hlt' : ¬ (v : Int) < (n : Int) := by omega
    simp only [↓Bp, Bq, ↓aop.eq_28, ↓aop.eq_30, ↓initFr, aeqP, abinv, abin, aun, bound, aslice, aput, putN, zeros, heldOk, aheadOk, IOp.again, List.map_cons, List.map_nil, List.append_nil, List.nil_append, Nat.reduceEqDiff, Nat.reduceAdd, Nat.reduceMul, Nat.reduceSub, Nat.reduceLeDiff, Nat.reduceLT, Int.reduceLT, Int.reduceLE, Int.reduceEq, Int.reduceToNat, Int.reduceAdd, Int.reduceSub, Int.reduceNeg, not_false_eq_true, not_true_eq_false, if_true, if_false, Bool.false_xor, Bool.true_xor, Bool.false_eq_true, Bool.true_eq_false, Bool.not_true, Bool.not_false, decide_true, decide_false, Nat.zero_add, Nat.add_zero, List.getElem?_cons_zero, List.getElem?_cons_succ, true_and, and_true, and_self, List.length_cons, List.length_nil, ↓reduceIte, reduceCtorEq, Option.some_or, Option.none_or, Option.or_none, eq_self, Option.map_some, List.length_set, List.set_cons_zero, List.set_cons_succ, List.cons_append, List.drop_zero, List.drop_succ_cons, List.take_succ_cons, List.take_zero, List.all_cons, List.all_nil, Bool.and_true, Option.isSome_some, Option.isSome_none, Option.isNone_some, Option.isNone_none, false_and, and_false, ↓C.catnaplaw3_GraphOrders_W, C.catnaplaw3_GraphOrders_B, C.catnaplaw3_GraphOrders, hlt']
  have hlt' : (v : Int) < (n : Int) := by omega
  have hvg : v < g.length := by omega
  have hvp : v < pl.length := by omega
  have hzv : (0:Int) ≤ (v : Int) ∧ (v : Int) < (n : Int) := by omega
  have hzvg : (0:Int) ≤ (v : Int) ∧ (v : Int) < (g.length : Nat) := by omega
  have hw := wsucc hlt (by omega)
  have hvpos := pos_lt hR hvg
  simp only [↓Bp, Bq, ↓aop.eq_28, ↓aop.eq_30, ↓initFr, aeqP, abinv, abin, aun, bound, aslice, aput, putN, zeros, heldOk, aheadOk, IOp.again, List.map_cons, List.map_nil, List.append_nil, List.nil_append, Nat.reduceEqDiff, Nat.reduceAdd, Nat.reduceMul, Nat.reduceSub, Nat.reduceLeDiff, Nat.reduceLT, Int.reduceLT, Int.reduceLE, Int.reduceEq, Int.reduceToNat, Int.reduceAdd, Int.reduceSub, Int.reduceNeg, not_false_eq_true, not_true_eq_false, if_true, if_false, Bool.false_xor, Bool.true_xor, Bool.false_eq_true, Bool.true_eq_false, Bool.not_true, Bool.not_false, decide_true, decide_false, Nat.zero_add, Nat.add_zero, List.getElem?_cons_zero, List.getElem?_cons_succ, true_and, and_true, and_self, List.length_cons, List.length_nil, ↓reduceIte, reduceCtorEq, Option.some_or, Option.none_or, Option.or_none, eq_self, Option.map_some, List.length_set, List.set_cons_zero, List.set_cons_succ, List.cons_append, List.drop_zero, List.drop_succ_cons, List.take_succ_cons, List.take_zero, List.all_cons, List.all_nil, Bool.and_true, Option.isSome_some, Option.isSome_none, Option.isNone_some, Option.isNone_none, false_and, and_false, ↓C.catnaplaw3_GraphOrders_W, C.catnaplaw3_GraphOrders_B, C.catnaplaw3_GraphOrders, hlt']
  refine awp_midB (fun f : Nat => [(8, .int .i64 n), (9, .isl 1 (g.map row) g.length), (10, .isl 1 (ints (nats (ord g))) (nats (ord g)).length), (12, .sl 1 ip 0 n), (15, .int .i64 v), (16, .int .i64 f)]) (fun f s => s = s4.new ip (.cells (ints pl)) ∧ ∀ u ∈ deps g v, (ord g).idxOf u < f) ?_ ?_
  · refine awp_loopK (fun p : Nat × Nat => [(8, .int .i64 n), (9, .isl 1 (g.map row) g.length), (10, .isl 1 (ints (nats (ord g))) (nats (ord g)).length), (12, .sl 1 ip 0 n), (15, .int .i64 v), (16, .int .i64 p.1), (17, .int .i64 p.2)]) (fun p s => p.2 ≤ g[v].length ∧ p.1 ≤ n ∧ s = s4.new ip (.cells (ints pl)) ∧ ∀ u : Nat, (u : Int) ∈ g[v].take p.2 → (ord g).idxOf u < p.1) (fun p => g[v].length - p.2) (0, 0) rfl
      ⟨Nat.zero_le _, Nat.zero_le _, rfl, fun u hu => by simp at hu⟩ ?_
    rintro ⟨f, j⟩ s ⟨hj, hf, rfl, hq⟩
    simp only at hj hf hq ⊢
    by_cases hjl : j < g[v].length
    rotate_left
    · have hje : j = g[v].length := by omega
      subst hje
      have hjl' : ¬ ((g[v].length : Nat) : Int) < (g[v].length : Nat) := by omega
      simp only [↓Bp, Bq, ↓aop.eq_28, ↓aop.eq_30, ↓initFr, aeqP, abinv, abin, aun, bound, aslice, aput, putN, zeros, heldOk, aheadOk, IOp.again, List.map_cons, List.map_nil, List.append_nil, List.nil_append, Nat.reduceEqDiff, Nat.reduceAdd, Nat.reduceMul, Nat.reduceSub, Nat.reduceLeDiff, Nat.reduceLT, Int.reduceLT, Int.reduceLE, Int.reduceEq, Int.reduceToNat, Int.reduceAdd, Int.reduceSub, Int.reduceNeg, not_false_eq_true, not_true_eq_false, if_true, if_false, Bool.false_xor, Bool.true_xor, Bool.false_eq_true, Bool.true_eq_false, Bool.not_true, Bool.not_false, decide_true, decide_false, Nat.zero_add, Nat.add_zero, List.getElem?_cons_zero, List.getElem?_cons_succ, true_and, and_true, and_self, List.length_cons, List.length_nil, ↓reduceIte, reduceCtorEq, Option.some_or, Option.none_or, Option.or_none, eq_self, Option.map_some, List.length_set, List.set_cons_zero, List.set_cons_succ, List.cons_append, List.drop_zero, List.drop_succ_cons, List.take_succ_cons, List.take_zero, List.all_cons, List.all_nil, Bool.and_true, Option.isSome_some, Option.isSome_none, Option.isNone_some, Option.isNone_none, false_and, and_false, ↓C.catnaplaw3_GraphOrders_W, C.catnaplaw3_GraphOrders_B, C.catnaplaw3_GraphOrders, hzvg, Int.toNat_natCast, Nat.mul_one, rowsG hvg, hjl']
      rw [List.take_length] at hq
      exact ⟨f, rfl, fun u hu => hq u ((mem_deps hR.ok hvg).mp hu)⟩
    have hjl' : (j : Int) < (g[v].length : Nat) := by omega
    have hzj : (0:Int) ≤ (j : Int) ∧ (j : Int) < (g[v].length : Nat) := by omega
    have hwj := wsucc hjl (hg.2 _ (List.getElem_mem hvg))
    obtain ⟨hx1, hx2⟩ := hR.ok _ (List.getElem_mem hvg) _ (List.getElem_mem hjl)
    obtain ⟨x, hx⟩ : ∃ x : Nat, g[v][j] = x := ⟨_, (Int.toNat_of_nonneg hx1).symm⟩
    have hzx : (0:Int) ≤ (x : Int) ∧ (x : Int) < (n : Int) := by omega
    have hxp : x < pl.length := by omega
    have hxd : x ∈ deps g v := (mem_deps hR.ok hvg).mpr (hx ▸ List.getElem_mem hjl)
    have hlt3 := hR.pos hxd
    have hge : ¬ (((ord g).idxOf v : Nat) : Int) ≤ ((ord g).idxOf x : Nat) := by omega
    have hxpos := pos_lt hR (x := x) (by omega)
    have hw5 : IntKind.i64.wrap ((((ord g).idxOf x : Nat) : Int) + 1) = (((ord g).idxOf x + 1 : Nat) : Int) := by rw [wrap64] <;> omega
    have hmax : (if (f : Int) < (((ord g).idxOf x + 1 : Nat) : Int) then (((ord g).idxOf x + 1 : Nat) : Int) else (f : Int)) = ((max f ((ord g).idxOf x + 1) : Nat) : Int) := by split <;> omega
    simp only [↓Bp, Bq, ↓aop.eq_28, ↓aop.eq_30, ↓initFr, aeqP, abinv, abin, aun, bound, aslice, aput, putN, zeros, heldOk, aheadOk, IOp.again, List.map_cons, List.map_nil, List.append_nil, List.nil_append, Nat.reduceEqDiff, Nat.reduceAdd, Nat.reduceMul, Nat.reduceSub, Nat.reduceLeDiff, Nat.reduceLT, Int.reduceLT, Int.reduceLE, Int.reduceEq, Int.reduceToNat, Int.reduceAdd, Int.reduceSub, Int.reduceNeg, not_false_eq_true, not_true_eq_false, if_true, if_false, Bool.false_xor, Bool.true_xor, Bool.false_eq_true, Bool.true_eq_false, Bool.not_true, Bool.not_false, decide_true, decide_false, Nat.zero_add, Nat.add_zero, List.getElem?_cons_zero, List.getElem?_cons_succ, true_and, and_true, and_self, List.length_cons, List.length_nil, ↓reduceIte, reduceCtorEq, Option.some_or, Option.none_or, Option.or_none, eq_self, Option.map_some, List.length_set, List.set_cons_zero, List.set_cons_succ, List.cons_append, List.drop_zero, List.drop_succ_cons, List.take_succ_cons, List.take_zero, List.all_cons, List.all_nil, Bool.and_true, Option.isSome_some, Option.isSome_none, Option.isNone_some, Option.isNone_none, false_and, and_false, ↓C.catnaplaw3_GraphOrders_W, C.catnaplaw3_GraphOrders_B, C.catnaplaw3_GraphOrders, hzvg, hzv, hzj, Int.toNat_natCast, Nat.mul_one, rowsG hvg, hjl', ints_get hjl, hx, hzx, hip, hcell x hxp, hcell v hvp, hge, hw5, hmax, hwj]
    refine ⟨(max f ((ord g).idxOf x + 1), j + 1), rfl, ⟨hjl, by simp only; omega, fun u hu => ?_⟩, by simp only; omega⟩
    simp only at hu ⊢
    rw [List.take_succ_eq_append_getElem hjl, List.mem_append, List.mem_singleton, hx] at hu
    rcases hu with hu | hu
    · have := hq u hu; omega
    · have : u = x := by omega
      subst this; omega
  rintro f s ⟨rfl, hf⟩
  simp only [↓Bp, Bq, ↓aop.eq_28, ↓aop.eq_30, ↓initFr, aeqP, abinv, abin, aun, bound, aslice, aput, putN, zeros, heldOk, aheadOk, IOp.again, List.map_cons, List.map_nil, List.append_nil, List.nil_append, Nat.reduceEqDiff, Nat.reduceAdd, Nat.reduceMul, Nat.reduceSub, Nat.reduceLeDiff, Nat.reduceLT, Int.reduceLT, Int.reduceLE, Int.reduceEq, Int.reduceToNat, Int.reduceAdd, Int.reduceSub, Int.reduceNeg, not_false_eq_true, not_true_eq_false, if_true, if_false, Bool.false_xor, Bool.true_xor, Bool.false_eq_true, Bool.true_eq_false, Bool.not_true, Bool.not_false, decide_true, decide_false, Nat.zero_add, Nat.add_zero, List.getElem?_cons_zero, List.getElem?_cons_succ, true_and, and_true, and_self, List.length_cons, List.length_nil, ↓reduceIte, reduceCtorEq, Option.some_or, Option.none_or, Option.or_none, eq_self, Option.map_some, List.length_set, List.set_cons_zero, List.set_cons_succ, List.cons_append, List.drop_zero, List.drop_succ_cons, List.take_succ_cons, List.take_zero, List.all_cons, List.all_nil, Bool.and_true, Option.isSome_some, Option.isSome_none, Option.isNone_some, Option.isNone_none, false_and, and_false, ↓C.catnaplaw3_GraphOrders_W, C.catnaplaw3_GraphOrders_B, C.catnaplaw3_GraphOrders]
  refine awp_loopK (fun i : Nat => [(8, .int .i64 n), (9, .isl 1 (g.map row) g.length), (10, .isl 1 (ints (nats (ord g))) (nats (ord g)).length), (12, .sl 1 ip 0 n), (15, .int .i64 v), (18, .int .i64 i)]) (fun i s => f ≤ i ∧ s = s4.new ip (.cells (ints pl))) (fun i => n - i) f rfl
    ⟨Nat.le_refl _, rfl⟩ ?_
  rintro i s ⟨hi, rfl⟩
  by_cases hil : i < (ord g).idxOf v
  · have hil' : (i : Int) < ((ord g).idxOf v : Nat) := by omega
    have hio : i < (ord g).length := by omega
    have hz : (0:Int) ≤ (i : Int) ∧ (i : Int) < ((nats (ord g)).length : Nat) := by rw [nats_length]; omega
    have hle := right_least hR hvg hil (fun u hu => by have := hf u hu; omega) hio
    have hle' : ¬ (v : Int) < ((ord g)[i] : Int) := by omega
    have hwi : IntKind.i64.wrap ((i : Int) + 1) = ((i + 1 : Nat) : Int) := by rw [wrap64] <;> omega
    simp only [↓Bp, Bq, ↓aop.eq_28, ↓aop.eq_30, ↓initFr, aeqP, abinv, abin, aun, bound, aslice, aput, putN, zeros, heldOk, aheadOk, IOp.again, List.map_cons, List.map_nil, List.append_nil, List.nil_append, Nat.reduceEqDiff, Nat.reduceAdd, Nat.reduceMul, Nat.reduceSub, Nat.reduceLeDiff, Nat.reduceLT, Int.reduceLT, Int.reduceLE, Int.reduceEq, Int.reduceToNat, Int.reduceAdd, Int.reduceSub, Int.reduceNeg, not_false_eq_true, not_true_eq_false, if_true, if_false, Bool.false_xor, Bool.true_xor, Bool.false_eq_true, Bool.true_eq_false, Bool.not_true, Bool.not_false, decide_true, decide_false, Nat.zero_add, Nat.add_zero, List.getElem?_cons_zero, List.getElem?_cons_succ, true_and, and_true, and_self, List.length_cons, List.length_nil, ↓reduceIte, reduceCtorEq, Option.some_or, Option.none_or, Option.or_none, eq_self, Option.map_some, List.length_set, List.set_cons_zero, List.set_cons_succ, List.cons_append, List.drop_zero, List.drop_succ_cons, List.take_succ_cons, List.take_zero, List.all_cons, List.all_nil, Bool.and_true, Option.isSome_some, Option.isSome_none, Option.isNone_some, Option.isNone_none, false_and, and_false, ↓C.catnaplaw3_GraphOrders_W, C.catnaplaw3_GraphOrders_B, C.catnaplaw3_GraphOrders, hzv, hz, Int.toNat_natCast, Nat.mul_one, hip, hcell v hvp, hil', ints_nats_get hio, hle', hwi]
    exact ⟨i + 1, rfl, by omega, by omega⟩
  · have hil' : ¬ (i : Int) < ((ord g).idxOf v : Nat) := by omega
    simp only [↓Bp, Bq, ↓aop.eq_28, ↓aop.eq_30, ↓initFr, aeqP, abinv, abin, aun, bound, aslice, aput, putN, zeros, heldOk, aheadOk, IOp.again, List.map_cons, List.map_nil, List.append_nil, List.nil_append, Nat.reduceEqDiff, Nat.reduceAdd, Nat.reduceMul, Nat.reduceSub, Nat.reduceLeDiff, Nat.reduceLT, Int.reduceLT, Int.reduceLE, Int.reduceEq, Int.reduceToNat, Int.reduceAdd, Int.reduceSub, Int.reduceNeg, not_false_eq_true, not_true_eq_false, if_true, if_false, Bool.false_xor, Bool.true_xor, Bool.false_eq_true, Bool.true_eq_false, Bool.not_true, Bool.not_false, decide_true, decide_false, Nat.zero_add, Nat.add_zero, List.getElem?_cons_zero, List.getElem?_cons_succ, true_and, and_true, and_self, List.length_cons, List.length_nil, ↓reduceIte, reduceCtorEq, Option.some_or, Option.none_or, Option.or_none, eq_self, Option.map_some, List.length_set, List.set_cons_zero, List.set_cons_succ, List.cons_append, List.drop_zero, List.drop_succ_cons, List.take_succ_cons, List.take_zero, List.all_cons, List.all_nil, Bool.and_true, Option.isSome_some, Option.isSome_none, Option.isNone_some, Option.isNone_none, false_and, and_false, ↓C.catnaplaw3_GraphOrders_W, C.catnaplaw3_GraphOrders_B, C.catnaplaw3_GraphOrders, hzv, Int.toNat_natCast, Nat.mul_one, hip, hcell v hvp, hil', hw]
    exact ⟨v + 1, rfl, hlt, by omega⟩
end
end Go.Proofs.Ythmdiljjkogghaa.Cn
