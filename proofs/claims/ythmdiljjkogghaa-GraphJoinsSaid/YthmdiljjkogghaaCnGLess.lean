/- Graphs: GraphLess. -/
import Derived.Test.YthmdiljjkogghaaCnGTells
set_option linter.unusedSimpArgs false
set_option linter.unusedVariables false
namespace Go.Proofs.Ythmdiljjkogghaa.Cn
open Go Go.Proofs

theorem right_above {g : Gr} (h : Right g) (hn : g.length ≤ 100) {v : Nat} (hv : v < g.length) : nodeErr g v = 0 ∧ aboveR g v = aboveL g v ∧ underR g v = underL g v := by
  have h0 : nodeErr g v = 0 := nodeErr_zero.mpr ⟨grErr_zero.mpr ⟨hn, h⟩, by omega, by omega⟩
  exact ⟨h0, by rw [aboveR, if_pos h0, Int.toNat_natCast], by rw [underR, if_pos h0, Int.toNat_natCast]⟩
theorem aboveL_nodup (g : Gr) (v : Nat) : (aboveL g v).Nodup := (ord_topo g).nodup.filter _
theorem underL_nodup (g : Gr) (v : Nat) : (underL g v).Nodup := (ord_topo g).nodup.filter _
theorem Up.mono {g h : Gr} (hd : ∀ v u, u ∈ deps g v → u ∈ deps h v) {a b : Nat} (k : Up g a b) : Up h a b := by
  induction k with
  | one x => exact .one (hd _ _ x)
  | more x _ ih => exact .more (hd _ _ x) ih
theorem Falls.drop {t : Bool} {g : Gr} (h : Falls t g) (k : Nat) : Falls t (g.set k (((g[k]?).getD []).drop 1)) := by
  intro v hv
  have hv' : v < g.length := by simpa using hv
  by_cases e : v = k
  · subst e
    simp only [List.getElem_set_self, List.getElem?_eq_getElem hv', Option.getD_some, List.length_set]
    refine ⟨by have := (h v hv').1; simp; omega, fun u hu => (h v hv').2 u (List.mem_of_mem_drop hu)⟩
  · simp only [List.getElem_set_ne (Ne.symm e), List.length_set]
    exact h v hv'
theorem deps_set {g : Gr} {k : Nat} {l : List Int} (hk : k < g.length) {v : Nat} : deps (g.set k l) v = if v = k then l.map Int.toNat else deps g v := by
  unfold deps
  by_cases e : v = k
  · subst e; rw [if_pos rfl, List.getElem?_set_self hk]; rfl
  · rw [if_neg e, List.getElem?_set_ne (Ne.symm e)]

section
variable {st : ASt}

theorem less_spec {many at_ node : Int} {l : List Int} {t : Bool} (hm : I64 many) (hat : I64 at_) (hno : I64 node) (hl : l.length ≤ 9223372036854775807) (hr : ∀ x ∈ l, I64 x) :
    ACalls Try.prog F.catnaplaw3_GraphLess [.int .i64 many, .isl 1 (ints l) l.length, .bool t, .int .i64 at_, .int .i64 node] st fun r _ => r = .bool true := by
  refine calls_of_awp L.catnaplaw3_GraphLess rfl ?_
  simp only [↓Bp, Bq, ↓aop.eq_28, ↓aop.eq_30, ↓initFr, aeqP, abinv, abin, aun, bound, aslice, aput, putN, zeros, heldOk, aheadOk, IOp.again, List.map_cons, List.map_nil, List.append_nil, List.nil_append, Nat.reduceEqDiff, Nat.reduceAdd, Nat.reduceMul, Nat.reduceSub, Nat.reduceLeDiff, Nat.reduceLT, Int.reduceLT, Int.reduceLE, Int.reduceEq, Int.reduceToNat, Int.reduceAdd, Int.reduceSub, Int.reduceNeg, not_false_eq_true, not_true_eq_false, if_true, if_false, Bool.false_xor, Bool.true_xor, Bool.false_eq_true, Bool.true_eq_false, Bool.not_true, Bool.not_false, decide_true, decide_false, Nat.zero_add, Nat.add_zero, List.getElem?_cons_zero, List.getElem?_cons_succ, true_and, and_true, and_self, List.length_cons, List.length_nil, ↓reduceIte, reduceCtorEq, Option.some_or, Option.none_or, Option.or_none, eq_self, Option.map_some, List.length_set, List.set_cons_zero, List.set_cons_succ, List.cons_append, List.drop_zero, List.drop_succ_cons, List.take_succ_cons, List.take_zero, List.all_cons, List.all_nil, Bool.and_true, Option.isSome_some, Option.isSome_none, Option.isNone_some, Option.isNone_none, false_and, and_false, ↓C.catnaplaw3_GraphLess_W, C.catnaplaw3_GraphLess_B, C.catnaplaw3_GraphLess]
  refine (shown_spec st).mono ?_
  rintro r s ⟨rfl, rfl⟩
  simp only [↓Bp, Bq, ↓aop.eq_28, ↓aop.eq_30, ↓initFr, aeqP, abinv, abin, aun, bound, aslice, aput, putN, zeros, heldOk, aheadOk, IOp.again, List.map_cons, List.map_nil, List.append_nil, List.nil_append, Nat.reduceEqDiff, Nat.reduceAdd, Nat.reduceMul, Nat.reduceSub, Nat.reduceLeDiff, Nat.reduceLT, Int.reduceLT, Int.reduceLE, Int.reduceEq, Int.reduceToNat, Int.reduceAdd, Int.reduceSub, Int.reduceNeg, not_false_eq_true, not_true_eq_false, if_true, if_false, Bool.false_xor, Bool.true_xor, Bool.false_eq_true, Bool.true_eq_false, Bool.not_true, Bool.not_false, decide_true, decide_false, Nat.zero_add, Nat.add_zero, List.getElem?_cons_zero, List.getElem?_cons_succ, true_and, and_true, and_self, List.length_cons, List.length_nil, ↓reduceIte, reduceCtorEq, Option.some_or, Option.none_or, Option.or_none, eq_self, Option.map_some, List.length_set, List.set_cons_zero, List.set_cons_succ, List.cons_append, List.drop_zero, List.drop_succ_cons, List.take_succ_cons, List.take_zero, List.all_cons, List.all_nil, Bool.and_true, Option.isSome_some, Option.isSome_none, Option.isNone_some, Option.isNone_none, false_and, and_false, ↓C.catnaplaw3_GraphLess_W, C.catnaplaw3_GraphLess_B, C.catnaplaw3_GraphLess]
  refine (pick_spec (n := 10) hm (by omega)).mono ?_
  rintro r s' ⟨rfl, rfl⟩
  have hnl := pickI_lt many (n := 10) (by omega)
  have hw2 : IntKind.i64.wrap (2 + ((pickI many 10 : Nat) : Int)) = ((pickI many 10 + 2 : Nat) : Int) := by rw [wrap64] <;> omega
  simp only [↓Bp, Bq, ↓aop.eq_28, ↓aop.eq_30, ↓initFr, aeqP, abinv, abin, aun, bound, aslice, aput, putN, zeros, heldOk, aheadOk, IOp.again, List.map_cons, List.map_nil, List.append_nil, List.nil_append, Nat.reduceEqDiff, Nat.reduceAdd, Nat.reduceMul, Nat.reduceSub, Nat.reduceLeDiff, Nat.reduceLT, Int.reduceLT, Int.reduceLE, Int.reduceEq, Int.reduceToNat, Int.reduceAdd, Int.reduceSub, Int.reduceNeg, not_false_eq_true, not_true_eq_false, if_true, if_false, Bool.false_xor, Bool.true_xor, Bool.false_eq_true, Bool.true_eq_false, Bool.not_true, Bool.not_false, decide_true, decide_false, Nat.zero_add, Nat.add_zero, List.getElem?_cons_zero, List.getElem?_cons_succ, true_and, and_true, and_self, List.length_cons, List.length_nil, ↓reduceIte, reduceCtorEq, Option.some_or, Option.none_or, Option.or_none, eq_self, Option.map_some, List.length_set, List.set_cons_zero, List.set_cons_succ, List.cons_append, List.drop_zero, List.drop_succ_cons, List.take_succ_cons, List.take_zero, List.all_cons, List.all_nil, Bool.and_true, Option.isSome_some, Option.isSome_none, Option.isNone_some, Option.isNone_none, false_and, and_false, ↓C.catnaplaw3_GraphLess_W, C.catnaplaw3_GraphLess_B, C.catnaplaw3_GraphLess, hw2]
  clear hw2
  generalize hN : pickI many 10 + 2 = n
  have hn : 2 ≤ n ∧ n ≤ 11 := by omega
  refine (falling_spec (n := n) (by omega) hl hr t).mono ?_
  rintro r s2 ⟨id, g, rfl, hgn, hF, hid, hle, hidn⟩
  have hR := hF.right
  have hg := hF.few (by omega)
  simp only [↓Bp, Bq, ↓aop.eq_28, ↓aop.eq_30, ↓initFr, aeqP, abinv, abin, aun, bound, aslice, aput, putN, zeros, heldOk, aheadOk, IOp.again, List.map_cons, List.map_nil, List.append_nil, List.nil_append, Nat.reduceEqDiff, Nat.reduceAdd, Nat.reduceMul, Nat.reduceSub, Nat.reduceLeDiff, Nat.reduceLT, Int.reduceLT, Int.reduceLE, Int.reduceEq, Int.reduceToNat, Int.reduceAdd, Int.reduceSub, Int.reduceNeg, not_false_eq_true, not_true_eq_false, if_true, if_false, Bool.false_xor, Bool.true_xor, Bool.false_eq_true, Bool.true_eq_false, Bool.not_true, Bool.not_false, decide_true, decide_false, Nat.zero_add, Nat.add_zero, List.getElem?_cons_zero, List.getElem?_cons_succ, true_and, and_true, and_self, List.length_cons, List.length_nil, ↓reduceIte, reduceCtorEq, Option.some_or, Option.none_or, Option.or_none, eq_self, Option.map_some, List.length_set, List.set_cons_zero, List.set_cons_succ, List.cons_append, List.drop_zero, List.drop_succ_cons, List.take_succ_cons, List.take_zero, List.all_cons, List.all_nil, Bool.and_true, Option.isSome_some, Option.isSome_none, Option.isNone_some, Option.isNone_none, false_and, and_false, ↓C.catnaplaw3_GraphLess_W, C.catnaplaw3_GraphLess_B, C.catnaplaw3_GraphLess]
  refine (pick_spec (n := n) hno (by omega)).mono ?_
  rintro r s3 ⟨rfl, rfl⟩
  have hvl := pickI_lt node (n := n) (by omega)
  generalize pickI node n = v at hvl
  obtain ⟨a1, a2, a3⟩ := right_above hR (by omega) (v := v) (by omega)
  simp only [↓Bp, Bq, ↓aop.eq_28, ↓aop.eq_30, ↓initFr, aeqP, abinv, abin, aun, bound, aslice, aput, putN, zeros, heldOk, aheadOk, IOp.again, List.map_cons, List.map_nil, List.append_nil, List.nil_append, Nat.reduceEqDiff, Nat.reduceAdd, Nat.reduceMul, Nat.reduceSub, Nat.reduceLeDiff, Nat.reduceLT, Int.reduceLT, Int.reduceLE, Int.reduceEq, Int.reduceToNat, Int.reduceAdd, Int.reduceSub, Int.reduceNeg, not_false_eq_true, not_true_eq_false, if_true, if_false, Bool.false_xor, Bool.true_xor, Bool.false_eq_true, Bool.true_eq_false, Bool.not_true, Bool.not_false, decide_true, decide_false, Nat.zero_add, Nat.add_zero, List.getElem?_cons_zero, List.getElem?_cons_succ, true_and, and_true, and_self, List.length_cons, List.length_nil, ↓reduceIte, reduceCtorEq, Option.some_or, Option.none_or, Option.or_none, eq_self, Option.map_some, List.length_set, List.set_cons_zero, List.set_cons_succ, List.cons_append, List.drop_zero, List.drop_succ_cons, List.take_succ_cons, List.take_zero, List.all_cons, List.all_nil, Bool.and_true, Option.isSome_some, Option.isSome_none, Option.isNone_some, Option.isNone_none, false_and, and_false, ↓C.catnaplaw3_GraphLess_W, C.catnaplaw3_GraphLess_B, C.catnaplaw3_GraphLess]
  refine (aboveB hg (by rw [← hgn]; exact SView.graphVal hid) v).mono ?_
  rintro r s4 ⟨rfl, rfl⟩
  rw [a1, a2]
  simp only [↓Bp, Bq, ↓aop.eq_28, ↓aop.eq_30, ↓initFr, aeqP, abinv, abin, aun, bound, aslice, aput, putN, zeros, heldOk, aheadOk, IOp.again, List.map_cons, List.map_nil, List.append_nil, List.nil_append, Nat.reduceEqDiff, Nat.reduceAdd, Nat.reduceMul, Nat.reduceSub, Nat.reduceLeDiff, Nat.reduceLT, Int.reduceLT, Int.reduceLE, Int.reduceEq, Int.reduceToNat, Int.reduceAdd, Int.reduceSub, Int.reduceNeg, not_false_eq_true, not_true_eq_false, if_true, if_false, Bool.false_xor, Bool.true_xor, Bool.false_eq_true, Bool.true_eq_false, Bool.not_true, Bool.not_false, decide_true, decide_false, Nat.zero_add, Nat.add_zero, List.getElem?_cons_zero, List.getElem?_cons_succ, true_and, and_true, and_self, List.length_cons, List.length_nil, ↓reduceIte, reduceCtorEq, Option.some_or, Option.none_or, Option.or_none, eq_self, Option.map_some, List.length_set, List.set_cons_zero, List.set_cons_succ, List.cons_append, List.drop_zero, List.drop_succ_cons, List.take_succ_cons, List.take_zero, List.all_cons, List.all_nil, Bool.and_true, Option.isSome_some, Option.isSome_none, Option.isNone_some, Option.isNone_none, false_and, and_false, ↓C.catnaplaw3_GraphLess_W, C.catnaplaw3_GraphLess_B, C.catnaplaw3_GraphLess]
  refine (pick_spec (n := n) hat (by omega)).mono ?_
  rintro r s5 ⟨rfl, rfl⟩
  have hkl := pickI_lt at_ (n := n) (by omega)
  generalize pickI at_ n = k at hkl
  have hkg : k < g.length := by omega
  have hzk : (0:Int) ≤ (k : Int) ∧ (k : Int) < (n : Int) := by omega
  by_cases h0 : g[k].length = 0
  · have h0' : ((g[k].length : Nat) : Int) = 0 := by omega
    simp only [↓Bp, Bq, ↓aop.eq_28, ↓aop.eq_30, ↓initFr, aeqP, abinv, abin, aun, bound, aslice, aput, putN, zeros, heldOk, aheadOk, IOp.again, List.map_cons, List.map_nil, List.append_nil, List.nil_append, Nat.reduceEqDiff, Nat.reduceAdd, Nat.reduceMul, Nat.reduceSub, Nat.reduceLeDiff, Nat.reduceLT, Int.reduceLT, Int.reduceLE, Int.reduceEq, Int.reduceToNat, Int.reduceAdd, Int.reduceSub, Int.reduceNeg, not_false_eq_true, not_true_eq_false, if_true, if_false, Bool.false_xor, Bool.true_xor, Bool.false_eq_true, Bool.true_eq_false, Bool.not_true, Bool.not_false, decide_true, decide_false, Nat.zero_add, Nat.add_zero, List.getElem?_cons_zero, List.getElem?_cons_succ, true_and, and_true, and_self, List.length_cons, List.length_nil, ↓reduceIte, reduceCtorEq, Option.some_or, Option.none_or, Option.or_none, eq_self, Option.map_some, List.length_set, List.set_cons_zero, List.set_cons_succ, List.cons_append, List.drop_zero, List.drop_succ_cons, List.take_succ_cons, List.take_zero, List.all_cons, List.all_nil, Bool.and_true, Option.isSome_some, Option.isSome_none, Option.isNone_some, Option.isNone_none, false_and, and_false, ↓C.catnaplaw3_GraphLess_W, C.catnaplaw3_GraphLess_B, C.catnaplaw3_GraphLess, hzk, Int.toNat_natCast, Nat.mul_one, hid, rowsG hkg, h0']
  have h0' : ¬ ((g[k].length : Nat) : Int) = 0 := by omega
  have hl1 : 1 ≤ g[k].length := by omega
  simp only [↓Bp, Bq, ↓aop.eq_28, ↓aop.eq_30, ↓initFr, aeqP, abinv, abin, aun, bound, aslice, aput, putN, zeros, heldOk, aheadOk, IOp.again, List.map_cons, List.map_nil, List.append_nil, List.nil_append, Nat.reduceEqDiff, Nat.reduceAdd, Nat.reduceMul, Nat.reduceSub, Nat.reduceLeDiff, Nat.reduceLT, Int.reduceLT, Int.reduceLE, Int.reduceEq, Int.reduceToNat, Int.reduceAdd, Int.reduceSub, Int.reduceNeg, not_false_eq_true, not_true_eq_false, if_true, if_false, Bool.false_xor, Bool.true_xor, Bool.false_eq_true, Bool.true_eq_false, Bool.not_true, Bool.not_false, decide_true, decide_false, Nat.zero_add, Nat.add_zero, List.getElem?_cons_zero, List.getElem?_cons_succ, true_and, and_true, and_self, List.length_cons, List.length_nil, ↓reduceIte, reduceCtorEq, Option.some_or, Option.none_or, Option.or_none, eq_self, Option.map_some, List.length_set, List.set_cons_zero, List.set_cons_succ, List.cons_append, List.drop_zero, List.drop_succ_cons, List.take_succ_cons, List.take_zero, List.all_cons, List.all_nil, Bool.and_true, Option.isSome_some, Option.isSome_none, Option.isNone_some, Option.isNone_none, false_and, and_false, ↓C.catnaplaw3_GraphLess_W, C.catnaplaw3_GraphLess_B, C.catnaplaw3_GraphLess, hzk, Int.toNat_natCast, Nat.mul_one, hid, rowsG hkg, h0', hl1, Nat.le_refl, Int.toNat_one, List.length_map, hkg]
  -- without the edge
  have hF2 : Falls t (g.set k (g[k].drop 1)) := by
    have := hF.drop k
    rwa [List.getElem?_eq_getElem hkg] at this
  have hR2 := hF2.right
  have hl2 : (g.set k (g[k].drop 1)).length = g.length := by simp
  have hg2 := hF2.few (by omega)
  obtain ⟨b1, b2, b3⟩ := right_above hR2 (by omega) (v := v) (by omega)
  have hsub : ∀ x, x ∈ aboveL (g.set k (g[k].drop 1)) v → x ∈ aboveL g v := fun x hx => by
    rw [mem_aboveL hR2] at hx
    rw [mem_aboveL hR]
    refine hx.mono fun a b hab => ?_
    rw [deps_set hkg] at hab
    split at hab
    · rename_i e; subst e
      rw [deps_at hkg]
      obtain ⟨y, hy, rfl⟩ := List.mem_map.mp hab
      exact List.mem_map.mpr ⟨y, List.mem_of_mem_drop hy, rfl⟩
    · exact hab
  have hlen := nodup_len (aboveL_nodup (g.set k (g[k].drop 1)) v) hsub
  have hcell : (g.map row).set k (.isl 1 ((ints g[k]).drop 1) (g[k].length - 1)) = (g.set k (g[k].drop 1)).map row := by
    rw [List.map_set]; congr 1
    simp [row, ints, List.map_drop]
  rw [hcell]
  have hv2 : SView (s5.set id (.cells ((g.set k (g[k].drop 1)).map row))) (.sl 1 id 0 n) (.isl 1 ((g.set k (g[k].drop 1)).map row) (g.set k (g[k].drop 1)).length) := by
    have := SView.graphVal (st := s5.set id (.cells ((g.set k (g[k].drop 1)).map row))) (id := id) (g := g.set k (g[k].drop 1)) (by rw [ASt.set_h, if_pos rfl, hid]; rfl)
    rw [hl2, hgn] at this ⊢
    exact this
  refine ⟨fun _ => trivial, (aboveB hg2 hv2 v).mono ?_⟩
  rintro r s6 ⟨rfl, rfl⟩
  rw [b1, b2]
  generalize aboveL (g.set k (g[k].drop 1)) v = now at hsub hlen
  have has := above_small hg v
  rw [a2] at has
  generalize aboveL g v = was at hsub hlen has
  have hlen' : ¬ ((nats was).length : Int) < ((nats now).length : Nat) := by rw [nats_length, nats_length]; omega
  simp only [↓Bp, Bq, ↓aop.eq_28, ↓aop.eq_30, ↓initFr, aeqP, abinv, abin, aun, bound, aslice, aput, putN, zeros, heldOk, aheadOk, IOp.again, List.map_cons, List.map_nil, List.append_nil, List.nil_append, Nat.reduceEqDiff, Nat.reduceAdd, Nat.reduceMul, Nat.reduceSub, Nat.reduceLeDiff, Nat.reduceLT, Int.reduceLT, Int.reduceLE, Int.reduceEq, Int.reduceToNat, Int.reduceAdd, Int.reduceSub, Int.reduceNeg, not_false_eq_true, not_true_eq_false, if_true, if_false, Bool.false_xor, Bool.true_xor, Bool.false_eq_true, Bool.true_eq_false, Bool.not_true, Bool.not_false, decide_true, decide_false, Nat.zero_add, Nat.add_zero, List.getElem?_cons_zero, List.getElem?_cons_succ, true_and, and_true, and_self, List.length_cons, List.length_nil, ↓reduceIte, reduceCtorEq, Option.some_or, Option.none_or, Option.or_none, eq_self, Option.map_some, List.length_set, List.set_cons_zero, List.set_cons_succ, List.cons_append, List.drop_zero, List.drop_succ_cons, List.take_succ_cons, List.take_zero, List.all_cons, List.all_nil, Bool.and_true, Option.isSome_some, Option.isSome_none, Option.isNone_some, Option.isNone_none, false_and, and_false, ↓C.catnaplaw3_GraphLess_W, C.catnaplaw3_GraphLess_B, C.catnaplaw3_GraphLess, row, hlen']
  refine awp_loopK (fun i : Nat => [(15, .isl 1 (ints (nats was)) (nats was).length), (18, .isl 1 (ints (nats now)) (nats now).length), (20, .int .i64 i)]) (fun i s => i ≤ now.length) (fun i => now.length - i) 0 rfl (Nat.zero_le _) ?_
  rintro i s hi
  by_cases hil : i < now.length
  · have hil' : (i : Int) < ((nats now).length : Nat) := by rw [nats_length]; omega
    have hz : (0:Int) ≤ (i : Int) ∧ (i : Int) < ((nats now).length : Nat) := by omega
    have hw := wsucc hil (by omega)
    simp only [↓Bp, Bq, ↓aop.eq_28, ↓aop.eq_30, ↓initFr, aeqP, abinv, abin, aun, bound, aslice, aput, putN, zeros, heldOk, aheadOk, IOp.again, List.map_cons, List.map_nil, List.append_nil, List.nil_append, Nat.reduceEqDiff, Nat.reduceAdd, Nat.reduceMul, Nat.reduceSub, Nat.reduceLeDiff, Nat.reduceLT, Int.reduceLT, Int.reduceLE, Int.reduceEq, Int.reduceToNat, Int.reduceAdd, Int.reduceSub, Int.reduceNeg, not_false_eq_true, not_true_eq_false, if_true, if_false, Bool.false_xor, Bool.true_xor, Bool.false_eq_true, Bool.true_eq_false, Bool.not_true, Bool.not_false, decide_true, decide_false, Nat.zero_add, Nat.add_zero, List.getElem?_cons_zero, List.getElem?_cons_succ, true_and, and_true, and_self, List.length_cons, List.length_nil, ↓reduceIte, reduceCtorEq, Option.some_or, Option.none_or, Option.or_none, eq_self, Option.map_some, List.length_set, List.set_cons_zero, List.set_cons_succ, List.cons_append, List.drop_zero, List.drop_succ_cons, List.take_succ_cons, List.take_zero, List.all_cons, List.all_nil, Bool.and_true, Option.isSome_some, Option.isSome_none, Option.isNone_some, Option.isNone_none, false_and, and_false, ↓C.catnaplaw3_GraphLess_W, C.catnaplaw3_GraphLess_B, C.catnaplaw3_GraphLess, hil', hz, Int.toNat_natCast, Nat.mul_one, ints_nats_get hil]
    refine (refHas_spec (by rw [nats_length]; exact has) _).mono ?_
    rintro r s' ⟨rfl, rfl⟩
    have hin : (now[i] : Int) ∈ nats was := mem_nats.mpr (hsub _ (List.getElem_mem hil))
    simp only [↓Bp, Bq, ↓aop.eq_28, ↓aop.eq_30, ↓initFr, aeqP, abinv, abin, aun, bound, aslice, aput, putN, zeros, heldOk, aheadOk, IOp.again, List.map_cons, List.map_nil, List.append_nil, List.nil_append, Nat.reduceEqDiff, Nat.reduceAdd, Nat.reduceMul, Nat.reduceSub, Nat.reduceLeDiff, Nat.reduceLT, Int.reduceLT, Int.reduceLE, Int.reduceEq, Int.reduceToNat, Int.reduceAdd, Int.reduceSub, Int.reduceNeg, not_false_eq_true, not_true_eq_false, if_true, if_false, Bool.false_xor, Bool.true_xor, Bool.false_eq_true, Bool.true_eq_false, Bool.not_true, Bool.not_false, decide_true, decide_false, Nat.zero_add, Nat.add_zero, List.getElem?_cons_zero, List.getElem?_cons_succ, true_and, and_true, and_self, List.length_cons, List.length_nil, ↓reduceIte, reduceCtorEq, Option.some_or, Option.none_or, Option.or_none, eq_self, Option.map_some, List.length_set, List.set_cons_zero, List.set_cons_succ, List.cons_append, List.drop_zero, List.drop_succ_cons, List.take_succ_cons, List.take_zero, List.all_cons, List.all_nil, Bool.and_true, Option.isSome_some, Option.isSome_none, Option.isNone_some, Option.isNone_none, false_and, and_false, ↓C.catnaplaw3_GraphLess_W, C.catnaplaw3_GraphLess_B, C.catnaplaw3_GraphLess, hin, hw]
    exact ⟨i + 1, rfl, hil, by omega⟩
  · have hil' : ¬ (i : Int) < ((nats now).length : Nat) := by rw [nats_length]; omega
    simp only [↓Bp, Bq, ↓aop.eq_28, ↓aop.eq_30, ↓initFr, aeqP, abinv, abin, aun, bound, aslice, aput, putN, zeros, heldOk, aheadOk, IOp.again, List.map_cons, List.map_nil, List.append_nil, List.nil_append, Nat.reduceEqDiff, Nat.reduceAdd, Nat.reduceMul, Nat.reduceSub, Nat.reduceLeDiff, Nat.reduceLT, Int.reduceLT, Int.reduceLE, Int.reduceEq, Int.reduceToNat, Int.reduceAdd, Int.reduceSub, Int.reduceNeg, not_false_eq_true, not_true_eq_false, if_true, if_false, Bool.false_xor, Bool.true_xor, Bool.false_eq_true, Bool.true_eq_false, Bool.not_true, Bool.not_false, decide_true, decide_false, Nat.zero_add, Nat.add_zero, List.getElem?_cons_zero, List.getElem?_cons_succ, true_and, and_true, and_self, List.length_cons, List.length_nil, ↓reduceIte, reduceCtorEq, Option.some_or, Option.none_or, Option.or_none, eq_self, Option.map_some, List.length_set, List.set_cons_zero, List.set_cons_succ, List.cons_append, List.drop_zero, List.drop_succ_cons, List.take_succ_cons, List.take_zero, List.all_cons, List.all_nil, Bool.and_true, Option.isSome_some, Option.isSome_none, Option.isNone_some, Option.isNone_none, false_and, and_false, ↓C.catnaplaw3_GraphLess_W, C.catnaplaw3_GraphLess_B, C.catnaplaw3_GraphLess, hil']
end
end Go.Proofs.Ythmdiljjkogghaa.Cn
