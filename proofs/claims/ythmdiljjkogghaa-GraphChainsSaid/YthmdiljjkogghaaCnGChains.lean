/- Graphs: GraphChains. -/
import Derived.Test.YthmdiljjkogghaaCnGLess
set_option linter.unusedSimpArgs false
set_option linter.unusedVariables false
namespace Go.Proofs.Ythmdiljjkogghaa.Cn
open Go Go.Proofs

/-- A chain, of which the first k nodes hang on the next. -/
def chainK (n k : Nat) : Gr := (List.range n).map fun v => if v < k then [((v + 1 : Nat) : Int)] else []
def chain (n : Nat) : Gr := chainK n (n - 1)
theorem chain_length (n k : Nat) : (chainK n k).length = n := by simp [chainK]
theorem chain_get {n k v : Nat} (hv : v < (chainK n k).length) : (chainK n k)[v] = if v < k then [((v + 1 : Nat) : Int)] else [] := by simp [chainK]
theorem chain_at {n v : Nat} (hv : v < (chain n).length) : (chain n)[v] = if v < n - 1 then [((v + 1 : Nat) : Int)] else [] := chain_get hv
theorem chain_deps {n v u : Nat} (hv : v < n) : u ∈ deps (chain n) v ↔ u = v + 1 ∧ v + 1 < n := by
  rw [deps_at (by rw [chain, chain_length]; exact hv), chain_at]
  by_cases h : v < n - 1
  · rw [if_pos h]; simp; omega
  · rw [if_neg h]; simp; omega
theorem chain_falls (n : Nat) : Falls true (chain n) := by
  intro v hv
  have hv' : v < n := by rw [chain, chain_length] at hv; exact hv
  have hl : (chain n).length = n := by rw [chain, chain_length]
  rw [chain_at hv, hl]
  by_cases h : v < n - 1
  · rw [if_pos h]
    refine ⟨by simp, fun u hu => ?_⟩
    rw [List.mem_singleton] at hu; subst hu
    simp only [if_true]; omega
  · rw [if_neg h]; simp

theorem chain_up {n a b : Nat} : Up (chain n) a b ↔ a < b ∧ b < n := by
  constructor
  · intro h
    induction h with
    | one h =>
      have := deps_of h
      rw [chain, chain_length] at this
      have := (chain_deps this).mp h
      omega
    | more h _ ih =>
      have := deps_of h
      rw [chain, chain_length] at this
      have := (chain_deps this).mp h
      omega
  · rintro ⟨h1, h2⟩
    obtain ⟨k, rfl⟩ : ∃ k, b = a + k + 1 := ⟨b - a - 1, by omega⟩
    clear h1
    induction k generalizing a with
    | zero => exact .one ((chain_deps (by omega)).mpr ⟨rfl, h2⟩)
    | succ k ih =>
      refine .more ((chain_deps (v := a) (by omega)).mpr ⟨rfl, by omega⟩) ?_
      have := ih (a := a + 1) (by omega)
      rwa [show a + 1 + k + 1 = a + (k + 1) + 1 by omega] at this

/-- The order of a chain: from its end on. -/
theorem chain_ordGo {n : Nat} : ∀ (f : Nat) (out : List Nat), out.length + f = n → (out = (List.range out.length).map fun i => n - 1 - i) → (ordGo (chain n) f out) = (List.range n).map fun i => n - 1 - i
  | 0, out, h, ho => by rw [ordGo, ho]; simp at h ⊢; rw [h]
  | f + 1, out, h, ho => by
    have hmem : ∀ w, w ∈ out ↔ n - out.length ≤ w ∧ w < n := by
      intro w
      rw [ho, List.mem_map]
      simp only [List.length_map, List.length_range, List.mem_range]
      constructor
      · rintro ⟨i, hi, rfl⟩; omega
      · rintro ⟨h1, h2⟩; exact ⟨n - 1 - w, by omega, by omega⟩
    have hlen : (chain n).length = n := by rw [chain, chain_length]
    have hnext : next (chain n) out = some (n - 1 - out.length) := by
      rw [next_some, ready_iff, hlen]
      refine ⟨⟨by rw [hmem]; omega, fun u hu => ?_⟩, by omega, fun j hj => ?_⟩
      · have := (chain_deps (by omega)).mp hu
        rw [hmem]; omega
      · cases hr : ready (chain n) out j with
        | false => rfl
        | true =>
          have h1 := (ready_iff.mp hr).2 (j + 1) ((chain_deps (by omega)).mpr ⟨rfl, by omega⟩)
          rw [hmem] at h1; omega
    rw [ordGo, hnext]
    refine chain_ordGo f _ (by simp; omega) ?_
    rw [List.length_append, List.length_singleton, List.range_succ, List.map_append]
    congr 1
theorem chain_ord (n : Nat) : ord (chain n) = (List.range n).map fun i => n - 1 - i := by
  have hlen : (chain n).length = n := by rw [chain, chain_length]
  rw [ord, hlen]
  exact chain_ordGo n [] (by simp) (by simp)

theorem filter_range_eq {n a b : Nat} {p : Nat → Bool} (hab : a ≤ b) (hb : b ≤ n) (hp : ∀ i, i < n → (p i = true ↔ a ≤ i ∧ i < b)) : (List.range n).filter p = (List.range (b - a)).map (a + ·) := by
  induction n generalizing b with
  | zero =>
    have : b - a = 0 := by omega
    rw [this]; rfl
  | succ n ih =>
    rw [List.range_succ, List.filter_append]
    by_cases h : b = n + 1
    · subst h
      by_cases h2 : a = n + 1
      · subst h2
        have h3 : (List.range n).filter p = [] := by
          rw [List.filter_eq_nil_iff]
          intro i hi; rw [hp i (by simp at hi; omega)]; simp at hi; omega
        have h4 : p n = false := by
          cases h5 : p n with
          | false => rfl
          | true => have := (hp n (by omega)).mp h5; omega
        rw [h3, List.filter_cons, h4]; simp
      · have h4 : p n = true := (hp n (by omega)).mpr ⟨by omega, by omega⟩
        rw [ih (b := n) (by omega) (Nat.le_refl _) (fun i hi => by rw [hp i (by omega)]; omega), List.filter_cons, h4]
        simp only [if_true, List.filter_nil]
        rw [show n + 1 - a = n - a + 1 by omega, List.range_succ, List.map_append]
        simp; omega
    · have h4 : p n = false := by
        cases h5 : p n with
        | false => rfl
        | true => have := (hp n (by omega)).mp h5; omega
      rw [ih (b := b) hab (by omega) (fun i hi => hp i (by omega)), List.filter_cons, h4]; simp

theorem chain_above {n v : Nat} (hv : v < n) : aboveL (chain n) v = (List.range (n - 1 - v)).map fun i => n - 1 - i := by
  rw [aboveL, chain_ord, List.filter_map]
  rw [filter_range_eq (a := 0) (b := n - 1 - v) (Nat.zero_le _) (by omega)]
  · simp
  · intro i hi
    refine dec_iff.trans ?_
    simp only [chain_up]; omega
theorem chain_under {n v : Nat} (hv : v < n) : underL (chain n) v = (List.range v).map fun i => v - 1 - i := by
  rw [underL, chain_ord, List.filter_map]
  rw [filter_range_eq (a := n - v) (b := n) (by omega) (Nat.le_refl _)]
  · rw [List.map_map, show n - (n - v) = v by omega]
    apply List.map_congr_left
    intro i hi
    simp at hi ⊢; omega
  · intro i hi
    refine dec_iff.trans ?_
    simp only [chain_up]; omega

section
variable {st : ASt}

/-- A row of integers is told one by one. -/
theorem ints_tab {n : Nat} {f : Nat → Nat} {i : Nat} (hi : i < n) : (ints (nats ((List.range n).map f)))[i]? = some (.int .i64 (f i)) := by
  rw [ints_nats_get (by simpa using hi)]; simp

theorem chains_spec {many at_ : Int} (hm : I64 many) (hat : I64 at_) : ACalls Try.prog F.catnaplaw3_GraphChains [.int .i64 many, .int .i64 at_] st fun r _ => r = .bool true := by
  refine calls_of_awp L.catnaplaw3_GraphChains rfl ?_
  simp only [↓Bp, Bq, ↓aop.eq_28, ↓aop.eq_30, ↓initFr, aeqP, abinv, abin, aun, bound, aslice, aput, putN, zeros, heldOk, aheadOk, IOp.again, List.map_cons, List.map_nil, List.append_nil, List.nil_append, Nat.reduceEqDiff, Nat.reduceAdd, Nat.reduceMul, Nat.reduceSub, Nat.reduceLeDiff, Nat.reduceLT, Int.reduceLT, Int.reduceLE, Int.reduceEq, Int.reduceToNat, Int.reduceAdd, Int.reduceSub, Int.reduceNeg, not_false_eq_true, not_true_eq_false, if_true, if_false, Bool.false_xor, Bool.true_xor, Bool.false_eq_true, Bool.true_eq_false, Bool.not_true, Bool.not_false, decide_true, decide_false, Nat.zero_add, Nat.add_zero, List.getElem?_cons_zero, List.getElem?_cons_succ, true_and, and_true, and_self, List.length_cons, List.length_nil, ↓reduceIte, reduceCtorEq, Option.some_or, Option.none_or, Option.or_none, eq_self, Option.map_some, List.length_set, List.set_cons_zero, List.set_cons_succ, List.cons_append, List.drop_zero, List.drop_succ_cons, List.take_succ_cons, List.take_zero, List.all_cons, List.all_nil, Bool.and_true, Option.isSome_some, Option.isSome_none, Option.isNone_some, Option.isNone_none, false_and, and_false, ↓C.catnaplaw3_GraphChains_W, C.catnaplaw3_GraphChains_B, C.catnaplaw3_GraphChains]
  refine (shown_spec st).mono ?_
  rintro r s ⟨rfl, rfl⟩
  simp only [↓Bp, Bq, ↓aop.eq_28, ↓aop.eq_30, ↓initFr, aeqP, abinv, abin, aun, bound, aslice, aput, putN, zeros, heldOk, aheadOk, IOp.again, List.map_cons, List.map_nil, List.append_nil, List.nil_append, Nat.reduceEqDiff, Nat.reduceAdd, Nat.reduceMul, Nat.reduceSub, Nat.reduceLeDiff, Nat.reduceLT, Int.reduceLT, Int.reduceLE, Int.reduceEq, Int.reduceToNat, Int.reduceAdd, Int.reduceSub, Int.reduceNeg, not_false_eq_true, not_true_eq_false, if_true, if_false, Bool.false_xor, Bool.true_xor, Bool.false_eq_true, Bool.true_eq_false, Bool.not_true, Bool.not_false, decide_true, decide_false, Nat.zero_add, Nat.add_zero, List.getElem?_cons_zero, List.getElem?_cons_succ, true_and, and_true, and_self, List.length_cons, List.length_nil, ↓reduceIte, reduceCtorEq, Option.some_or, Option.none_or, Option.or_none, eq_self, Option.map_some, List.length_set, List.set_cons_zero, List.set_cons_succ, List.cons_append, List.drop_zero, List.drop_succ_cons, List.take_succ_cons, List.take_zero, List.all_cons, List.all_nil, Bool.and_true, Option.isSome_some, Option.isSome_none, Option.isNone_some, Option.isNone_none, false_and, and_false, ↓C.catnaplaw3_GraphChains_W, C.catnaplaw3_GraphChains_B, C.catnaplaw3_GraphChains]
  refine (pick_spec (n := 100) hm (by omega)).mono ?_
  rintro r s' ⟨rfl, rfl⟩
  have hnl := pickI_lt many (n := 100) (by omega)
  have hw2 : IntKind.i64.wrap (1 + ((pickI many 100 : Nat) : Int)) = ((pickI many 100 + 1 : Nat) : Int) := by rw [wrap64] <;> omega
  have hz2 : (0 : Int) ≤ ((pickI many 100 + 1 : Nat) : Int) ∧ ((pickI many 100 + 1 : Nat) : Int) ≤ 4294967296 := by omega
  simp only [↓Bp, Bq, ↓aop.eq_28, ↓aop.eq_30, ↓initFr, aeqP, abinv, abin, aun, bound, aslice, aput, putN, zeros, heldOk, aheadOk, IOp.again, List.map_cons, List.map_nil, List.append_nil, List.nil_append, Nat.reduceEqDiff, Nat.reduceAdd, Nat.reduceMul, Nat.reduceSub, Nat.reduceLeDiff, Nat.reduceLT, Int.reduceLT, Int.reduceLE, Int.reduceEq, Int.reduceToNat, Int.reduceAdd, Int.reduceSub, Int.reduceNeg, not_false_eq_true, not_true_eq_false, if_true, if_false, Bool.false_xor, Bool.true_xor, Bool.false_eq_true, Bool.true_eq_false, Bool.not_true, Bool.not_false, decide_true, decide_false, Nat.zero_add, Nat.add_zero, List.getElem?_cons_zero, List.getElem?_cons_succ, true_and, and_true, and_self, List.length_cons, List.length_nil, ↓reduceIte, reduceCtorEq, Option.some_or, Option.none_or, Option.or_none, eq_self, Option.map_some, List.length_set, List.set_cons_zero, List.set_cons_succ, List.cons_append, List.drop_zero, List.drop_succ_cons, List.take_succ_cons, List.take_zero, List.all_cons, List.all_nil, Bool.and_true, Option.isSome_some, Option.isSome_none, Option.isNone_some, Option.isNone_none, false_and, and_false, ↓C.catnaplaw3_GraphChains_W, C.catnaplaw3_GraphChains_B, C.catnaplaw3_GraphChains, hw2, hz2, Int.toNat_natCast, zeros_nils]
  clear hw2 hz2
  generalize hN : pickI many 100 + 1 = n
  have hn : 1 ≤ n ∧ n ≤ 100 := by omega
  intro id hid
  have hlen : (chain n).length = n := by rw [chain, chain_length]
  refine awp_midB (fun _ : Unit => [(1, .int .i64 at_), (6, .int .i64 n), (7, .sl 1 id 0 n)]) (fun _ s => SView s (.sl 1 id 0 n) (.isl 1 ((chain n).map row) (chain n).length)) ?_ ?_
  · refine awp_loopK (fun k : Nat => [(1, .int .i64 at_), (6, .int .i64 n), (7, .sl 1 id 0 n), (8, .int .i64 k)]) (fun k s => k ≤ n - 1 ∧ ∃ vs : List AV, s.h id = some (.cells vs) ∧ vs.length = n ∧ ∀ i (h : i < vs.length), (i < k → ∃ b, b ≠ id ∧ vs[i] = .sl 1 b 0 1 ∧ s.h b = some (.cells (ints [((i + 1 : Nat) : Int)]))) ∧ (k ≤ i → vs[i] = .nils)) (fun k => n - k) 0 rfl
      ⟨Nat.zero_le _, List.replicate n .nils, ASt.new_self _ hid, by simp, fun i hi => ⟨fun h => by omega, fun _ => by simp⟩⟩ ?_
    rintro k s ⟨hk, vs, h1, h2, h3⟩
    have hw1 : IntKind.i64.wrap ((k : Int) + 1) = ((k + 1 : Nat) : Int) := by rw [wrap64] <;> omega
    by_cases hlt : k + 1 < n
    · have hlt' : ((k + 1 : Nat) : Int) < (n : Int) := by omega
      have hz : (0:Int) ≤ (k : Int) ∧ (k : Int) < (n : Int) := by omega
      have hkv : k < vs.length := by omega
      simp only [↓Bp, Bq, ↓aop.eq_28, ↓aop.eq_30, ↓initFr, aeqP, abinv, abin, aun, bound, aslice, aput, putN, zeros, heldOk, aheadOk, IOp.again, List.map_cons, List.map_nil, List.append_nil, List.nil_append, Nat.reduceEqDiff, Nat.reduceAdd, Nat.reduceMul, Nat.reduceSub, Nat.reduceLeDiff, Nat.reduceLT, Int.reduceLT, Int.reduceLE, Int.reduceEq, Int.reduceToNat, Int.reduceAdd, Int.reduceSub, Int.reduceNeg, not_false_eq_true, not_true_eq_false, if_true, if_false, Bool.false_xor, Bool.true_xor, Bool.false_eq_true, Bool.true_eq_false, Bool.not_true, Bool.not_false, decide_true, decide_false, Nat.zero_add, Nat.add_zero, List.getElem?_cons_zero, List.getElem?_cons_succ, true_and, and_true, and_self, List.length_cons, List.length_nil, ↓reduceIte, reduceCtorEq, Option.some_or, Option.none_or, Option.or_none, eq_self, Option.map_some, List.length_set, List.set_cons_zero, List.set_cons_succ, List.cons_append, List.drop_zero, List.drop_succ_cons, List.take_succ_cons, List.take_zero, List.all_cons, List.all_nil, Bool.and_true, Option.isSome_some, Option.isSome_none, Option.isNone_some, Option.isNone_none, false_and, and_false, ↓C.catnaplaw3_GraphChains_W, C.catnaplaw3_GraphChains_B, C.catnaplaw3_GraphChains, hw1, hlt', hz, Int.toNat_natCast, Nat.mul_one]
      intro b hb
      have hbid : ¬ b = id := by rintro rfl; rw [h1] at hb; cases hb
      simp only [↓Bp, Bq, ↓aop.eq_28, ↓aop.eq_30, ↓initFr, aeqP, abinv, abin, aun, bound, aslice, aput, putN, zeros, heldOk, aheadOk, IOp.again, List.map_cons, List.map_nil, List.append_nil, List.nil_append, Nat.reduceEqDiff, Nat.reduceAdd, Nat.reduceMul, Nat.reduceSub, Nat.reduceLeDiff, Nat.reduceLT, Int.reduceLT, Int.reduceLE, Int.reduceEq, Int.reduceToNat, Int.reduceAdd, Int.reduceSub, Int.reduceNeg, not_false_eq_true, not_true_eq_false, if_true, if_false, Bool.false_xor, Bool.true_xor, Bool.false_eq_true, Bool.true_eq_false, Bool.not_true, Bool.not_false, decide_true, decide_false, Nat.zero_add, Nat.add_zero, List.getElem?_cons_zero, List.getElem?_cons_succ, true_and, and_true, and_self, List.length_cons, List.length_nil, ↓reduceIte, reduceCtorEq, Option.some_or, Option.none_or, Option.or_none, eq_self, Option.map_some, List.length_set, List.set_cons_zero, List.set_cons_succ, List.cons_append, List.drop_zero, List.drop_succ_cons, List.take_succ_cons, List.take_zero, List.all_cons, List.all_nil, Bool.and_true, Option.isSome_some, Option.isSome_none, Option.isNone_some, Option.isNone_none, false_and, and_false, ↓C.catnaplaw3_GraphChains_W, C.catnaplaw3_GraphChains_B, C.catnaplaw3_GraphChains, h1, hkv, hw1]
      refine ⟨k + 1, rfl, ⟨by omega, vs.set k (.sl 1 b 0 1), by simp [ASt.set_h, ASt.new_o, h1], by simpa using h2, fun i hi => ?_⟩, by omega⟩
      have hi' : i < vs.length := by simpa using hi
      by_cases e : i = k
      · subst e
        refine ⟨fun _ => ⟨b, hbid, by simp, by simp [ASt.set_h, ASt.new_o, hbid, hb, ints]⟩, fun h => by omega⟩
      · rw [List.getElem_set_ne (Ne.symm e)]
        refine ⟨fun h => ?_, fun h => (h3 i hi').2 (by omega)⟩
        obtain ⟨b', q1, q2, q3⟩ := (h3 i hi').1 (by omega)
        exact ⟨b', q1, q2, by simp [ASt.set_h, ASt.new_o, q1, q3]⟩
    · have hlt' : ¬ ((k + 1 : Nat) : Int) < (n : Int) := by omega
      simp only [↓Bp, Bq, ↓aop.eq_28, ↓aop.eq_30, ↓initFr, aeqP, abinv, abin, aun, bound, aslice, aput, putN, zeros, heldOk, aheadOk, IOp.again, List.map_cons, List.map_nil, List.append_nil, List.nil_append, Nat.reduceEqDiff, Nat.reduceAdd, Nat.reduceMul, Nat.reduceSub, Nat.reduceLeDiff, Nat.reduceLT, Int.reduceLT, Int.reduceLE, Int.reduceEq, Int.reduceToNat, Int.reduceAdd, Int.reduceSub, Int.reduceNeg, not_false_eq_true, not_true_eq_false, if_true, if_false, Bool.false_xor, Bool.true_xor, Bool.false_eq_true, Bool.true_eq_false, Bool.not_true, Bool.not_false, decide_true, decide_false, Nat.zero_add, Nat.add_zero, List.getElem?_cons_zero, List.getElem?_cons_succ, true_and, and_true, and_self, List.length_cons, List.length_nil, ↓reduceIte, reduceCtorEq, Option.some_or, Option.none_or, Option.or_none, eq_self, Option.map_some, List.length_set, List.set_cons_zero, List.set_cons_succ, List.cons_append, List.drop_zero, List.drop_succ_cons, List.take_succ_cons, List.take_zero, List.all_cons, List.all_nil, Bool.and_true, Option.isSome_some, Option.isSome_none, Option.isNone_some, Option.isNone_none, false_and, and_false, ↓C.catnaplaw3_GraphChains_W, C.catnaplaw3_GraphChains_B, C.catnaplaw3_GraphChains, hw1, hlt']
      refine ⟨(), ?_⟩
      have := SView.graph (st := s) (id := id) (g := chain n) h1 (by omega) fun i q1 q2 => by
        rw [chain_at q2]
        by_cases e : i < n - 1
        · obtain ⟨b', q1', q2', q3⟩ := (h3 i q1).1 (by omega)
          rw [if_pos e, q2']
          exact SView.row q3
        · rw [if_neg e, (h3 i q1).2 (by omega)]
          exact SView.rowNil
      rw [hlen] at this ⊢
      exact this
  rintro - s hv
  have hF := chain_falls n
  have hR := hF.right
  have hg := hF.few (by omega)
  have he := hF.err (by omega)
  simp only [↓Bp, Bq, ↓aop.eq_28, ↓aop.eq_30, ↓initFr, aeqP, abinv, abin, aun, bound, aslice, aput, putN, zeros, heldOk, aheadOk, IOp.again, List.map_cons, List.map_nil, List.append_nil, List.nil_append, Nat.reduceEqDiff, Nat.reduceAdd, Nat.reduceMul, Nat.reduceSub, Nat.reduceLeDiff, Nat.reduceLT, Int.reduceLT, Int.reduceLE, Int.reduceEq, Int.reduceToNat, Int.reduceAdd, Int.reduceSub, Int.reduceNeg, not_false_eq_true, not_true_eq_false, if_true, if_false, Bool.false_xor, Bool.true_xor, Bool.false_eq_true, Bool.true_eq_false, Bool.not_true, Bool.not_false, decide_true, decide_false, Nat.zero_add, Nat.add_zero, List.getElem?_cons_zero, List.getElem?_cons_succ, true_and, and_true, and_self, List.length_cons, List.length_nil, ↓reduceIte, reduceCtorEq, Option.some_or, Option.none_or, Option.or_none, eq_self, Option.map_some, List.length_set, List.set_cons_zero, List.set_cons_succ, List.cons_append, List.drop_zero, List.drop_succ_cons, List.take_succ_cons, List.take_zero, List.all_cons, List.all_nil, Bool.and_true, Option.isSome_some, Option.isSome_none, Option.isNone_some, Option.isNone_none, false_and, and_false, ↓C.catnaplaw3_GraphChains_W, C.catnaplaw3_GraphChains_B, C.catnaplaw3_GraphChains]
  refine (pick_spec (n := n) hat (by omega)).mono ?_
  rintro r s2 ⟨rfl, rfl⟩
  have hvl := pickI_lt at_ (n := n) (by omega)
  generalize pickI at_ n = v at hvl
  obtain ⟨a1, a2, a3⟩ := right_above hR (by omega) (v := v) (by omega)
  rw [chain_above hvl] at a2
  rw [chain_under hvl] at a3
  simp only [↓Bp, Bq, ↓aop.eq_28, ↓aop.eq_30, ↓initFr, aeqP, abinv, abin, aun, bound, aslice, aput, putN, zeros, heldOk, aheadOk, IOp.again, List.map_cons, List.map_nil, List.append_nil, List.nil_append, Nat.reduceEqDiff, Nat.reduceAdd, Nat.reduceMul, Nat.reduceSub, Nat.reduceLeDiff, Nat.reduceLT, Int.reduceLT, Int.reduceLE, Int.reduceEq, Int.reduceToNat, Int.reduceAdd, Int.reduceSub, Int.reduceNeg, not_false_eq_true, not_true_eq_false, if_true, if_false, Bool.false_xor, Bool.true_xor, Bool.false_eq_true, Bool.true_eq_false, Bool.not_true, Bool.not_false, decide_true, decide_false, Nat.zero_add, Nat.add_zero, List.getElem?_cons_zero, List.getElem?_cons_succ, true_and, and_true, and_self, List.length_cons, List.length_nil, ↓reduceIte, reduceCtorEq, Option.some_or, Option.none_or, Option.or_none, eq_self, Option.map_some, List.length_set, List.set_cons_zero, List.set_cons_succ, List.cons_append, List.drop_zero, List.drop_succ_cons, List.take_succ_cons, List.take_zero, List.all_cons, List.all_nil, Bool.and_true, Option.isSome_some, Option.isSome_none, Option.isNone_some, Option.isNone_none, false_and, and_false, ↓C.catnaplaw3_GraphChains_W, C.catnaplaw3_GraphChains_B, C.catnaplaw3_GraphChains]
  refine (orderB hg hv).mono ?_
  rintro r s3 ⟨rfl, rfl⟩
  have ho : ordL (chain n) = (List.range n).map fun i => n - 1 - i := by rw [ordL, if_pos he, chain_ord]
  rw [ho, he]
  simp only [↓Bp, Bq, ↓aop.eq_28, ↓aop.eq_30, ↓initFr, aeqP, abinv, abin, aun, bound, aslice, aput, putN, zeros, heldOk, aheadOk, IOp.again, List.map_cons, List.map_nil, List.append_nil, List.nil_append, Nat.reduceEqDiff, Nat.reduceAdd, Nat.reduceMul, Nat.reduceSub, Nat.reduceLeDiff, Nat.reduceLT, Int.reduceLT, Int.reduceLE, Int.reduceEq, Int.reduceToNat, Int.reduceAdd, Int.reduceSub, Int.reduceNeg, not_false_eq_true, not_true_eq_false, if_true, if_false, Bool.false_xor, Bool.true_xor, Bool.false_eq_true, Bool.true_eq_false, Bool.not_true, Bool.not_false, decide_true, decide_false, Nat.zero_add, Nat.add_zero, List.getElem?_cons_zero, List.getElem?_cons_succ, true_and, and_true, and_self, List.length_cons, List.length_nil, ↓reduceIte, reduceCtorEq, Option.some_or, Option.none_or, Option.or_none, eq_self, Option.map_some, List.length_set, List.set_cons_zero, List.set_cons_succ, List.cons_append, List.drop_zero, List.drop_succ_cons, List.take_succ_cons, List.take_zero, List.all_cons, List.all_nil, Bool.and_true, Option.isSome_some, Option.isSome_none, Option.isNone_some, Option.isNone_none, false_and, and_false, ↓C.catnaplaw3_GraphChains_W, C.catnaplaw3_GraphChains_B, C.catnaplaw3_GraphChains]
  refine (aboveB hg hv v).mono ?_
  rintro r s4 ⟨rfl, rfl⟩
  rw [a1, a2]
  simp only [↓Bp, Bq, ↓aop.eq_28, ↓aop.eq_30, ↓initFr, aeqP, abinv, abin, aun, bound, aslice, aput, putN, zeros, heldOk, aheadOk, IOp.again, List.map_cons, List.map_nil, List.append_nil, List.nil_append, Nat.reduceEqDiff, Nat.reduceAdd, Nat.reduceMul, Nat.reduceSub, Nat.reduceLeDiff, Nat.reduceLT, Int.reduceLT, Int.reduceLE, Int.reduceEq, Int.reduceToNat, Int.reduceAdd, Int.reduceSub, Int.reduceNeg, not_false_eq_true, not_true_eq_false, if_true, if_false, Bool.false_xor, Bool.true_xor, Bool.false_eq_true, Bool.true_eq_false, Bool.not_true, Bool.not_false, decide_true, decide_false, Nat.zero_add, Nat.add_zero, List.getElem?_cons_zero, List.getElem?_cons_succ, true_and, and_true, and_self, List.length_cons, List.length_nil, ↓reduceIte, reduceCtorEq, Option.some_or, Option.none_or, Option.or_none, eq_self, Option.map_some, List.length_set, List.set_cons_zero, List.set_cons_succ, List.cons_append, List.drop_zero, List.drop_succ_cons, List.take_succ_cons, List.take_zero, List.all_cons, List.all_nil, Bool.and_true, Option.isSome_some, Option.isSome_none, Option.isNone_some, Option.isNone_none, false_and, and_false, ↓C.catnaplaw3_GraphChains_W, C.catnaplaw3_GraphChains_B, C.catnaplaw3_GraphChains]
  refine (underB hg hv v).mono ?_
  rintro r s5 ⟨rfl, rfl⟩
  rw [a1, a3]
  have w1 : IntKind.i64.wrap ((n : Int) - 1) = ((n - 1 : Nat) : Int) := by rw [wrap64] <;> omega
  have w2 : IntKind.i64.wrap (((n - 1 : Nat) : Int) - (v : Int)) = ((n - 1 - v : Nat) : Int) := by rw [wrap64] <;> omega
  simp only [↓Bp, Bq, ↓aop.eq_28, ↓aop.eq_30, ↓initFr, aeqP, abinv, abin, aun, bound, aslice, aput, putN, zeros, heldOk, aheadOk, IOp.again, List.map_cons, List.map_nil, List.append_nil, List.nil_append, Nat.reduceEqDiff, Nat.reduceAdd, Nat.reduceMul, Nat.reduceSub, Nat.reduceLeDiff, Nat.reduceLT, Int.reduceLT, Int.reduceLE, Int.reduceEq, Int.reduceToNat, Int.reduceAdd, Int.reduceSub, Int.reduceNeg, not_false_eq_true, not_true_eq_false, if_true, if_false, Bool.false_xor, Bool.true_xor, Bool.false_eq_true, Bool.true_eq_false, Bool.not_true, Bool.not_false, decide_true, decide_false, Nat.zero_add, Nat.add_zero, List.getElem?_cons_zero, List.getElem?_cons_succ, true_and, and_true, and_self, List.length_cons, List.length_nil, ↓reduceIte, reduceCtorEq, Option.some_or, Option.none_or, Option.or_none, eq_self, Option.map_some, List.length_set, List.set_cons_zero, List.set_cons_succ, List.cons_append, List.drop_zero, List.drop_succ_cons, List.take_succ_cons, List.take_zero, List.all_cons, List.all_nil, Bool.and_true, Option.isSome_some, Option.isSome_none, Option.isNone_some, Option.isNone_none, false_and, and_false, ↓C.catnaplaw3_GraphChains_W, C.catnaplaw3_GraphChains_B, C.catnaplaw3_GraphChains, row, nats_length, List.length_map, List.length_range, w1, w2]
  refine awp_midB (fun _ : Unit => [(6, .int .i64 n), (9, .int .i64 v), (12, .isl 1 (ints (nats ((List.range (n - 1 - v)).map fun i => n - 1 - i))) (n - 1 - v)), (14, .isl 1 (ints (nats ((List.range v).map fun i => v - 1 - i))) v)]) (fun _ _ => True) ?_ ?_
  · refine awp_loopK (fun i : Nat => [(6, .int .i64 n), (9, .int .i64 v), (10, .isl 1 (ints (nats ((List.range n).map fun i => n - 1 - i))) n), (12, .isl 1 (ints (nats ((List.range (n - 1 - v)).map fun i => n - 1 - i))) (n - 1 - v)), (14, .isl 1 (ints (nats ((List.range v).map fun i => v - 1 - i))) v), (16, .int .i64 i)]) (fun i _ => i ≤ n) (fun i => n - i) 0 rfl (Nat.zero_le _) ?_
    rintro i s hi
    by_cases hil : i < n
    · have hil' : (i : Int) < (n : Int) := by omega
      have hz : (0:Int) ≤ (i : Int) ∧ (i : Int) < (n : Int) := by omega
      have hw := wsucc hil (by omega)
      have w3 : IntKind.i64.wrap (((n - 1 : Nat) : Int) - (i : Int)) = ((n - 1 - i : Nat) : Int) := by rw [wrap64] <;> omega
      simp only [↓Bp, Bq, ↓aop.eq_28, ↓aop.eq_30, ↓initFr, aeqP, abinv, abin, aun, bound, aslice, aput, putN, zeros, heldOk, aheadOk, IOp.again, List.map_cons, List.map_nil, List.append_nil, List.nil_append, Nat.reduceEqDiff, Nat.reduceAdd, Nat.reduceMul, Nat.reduceSub, Nat.reduceLeDiff, Nat.reduceLT, Int.reduceLT, Int.reduceLE, Int.reduceEq, Int.reduceToNat, Int.reduceAdd, Int.reduceSub, Int.reduceNeg, not_false_eq_true, not_true_eq_false, if_true, if_false, Bool.false_xor, Bool.true_xor, Bool.false_eq_true, Bool.true_eq_false, Bool.not_true, Bool.not_false, decide_true, decide_false, Nat.zero_add, Nat.add_zero, List.getElem?_cons_zero, List.getElem?_cons_succ, true_and, and_true, and_self, List.length_cons, List.length_nil, ↓reduceIte, reduceCtorEq, Option.some_or, Option.none_or, Option.or_none, eq_self, Option.map_some, List.length_set, List.set_cons_zero, List.set_cons_succ, List.cons_append, List.drop_zero, List.drop_succ_cons, List.take_succ_cons, List.take_zero, List.all_cons, List.all_nil, Bool.and_true, Option.isSome_some, Option.isSome_none, Option.isNone_some, Option.isNone_none, false_and, and_false, ↓C.catnaplaw3_GraphChains_W, C.catnaplaw3_GraphChains_B, C.catnaplaw3_GraphChains, hil', hz, Int.toNat_natCast, Nat.mul_one, ints_tab hil, w1, w3, hw]
      exact ⟨i + 1, rfl, hil, by omega⟩
    · have hil' : ¬ (i : Int) < (n : Int) := by omega
      simp only [↓Bp, Bq, ↓aop.eq_28, ↓aop.eq_30, ↓initFr, aeqP, abinv, abin, aun, bound, aslice, aput, putN, zeros, heldOk, aheadOk, IOp.again, List.map_cons, List.map_nil, List.append_nil, List.nil_append, Nat.reduceEqDiff, Nat.reduceAdd, Nat.reduceMul, Nat.reduceSub, Nat.reduceLeDiff, Nat.reduceLT, Int.reduceLT, Int.reduceLE, Int.reduceEq, Int.reduceToNat, Int.reduceAdd, Int.reduceSub, Int.reduceNeg, not_false_eq_true, not_true_eq_false, if_true, if_false, Bool.false_xor, Bool.true_xor, Bool.false_eq_true, Bool.true_eq_false, Bool.not_true, Bool.not_false, decide_true, decide_false, Nat.zero_add, Nat.add_zero, List.getElem?_cons_zero, List.getElem?_cons_succ, true_and, and_true, and_self, List.length_cons, List.length_nil, ↓reduceIte, reduceCtorEq, Option.some_or, Option.none_or, Option.or_none, eq_self, Option.map_some, List.length_set, List.set_cons_zero, List.set_cons_succ, List.cons_append, List.drop_zero, List.drop_succ_cons, List.take_succ_cons, List.take_zero, List.all_cons, List.all_nil, Bool.and_true, Option.isSome_some, Option.isSome_none, Option.isNone_some, Option.isNone_none, false_and, and_false, ↓C.catnaplaw3_GraphChains_W, C.catnaplaw3_GraphChains_B, C.catnaplaw3_GraphChains, hil']
      exact ⟨(), trivial⟩
  rintro - s -
  simp only [↓Bp, Bq, ↓aop.eq_28, ↓aop.eq_30, ↓initFr, aeqP, abinv, abin, aun, bound, aslice, aput, putN, zeros, heldOk, aheadOk, IOp.again, List.map_cons, List.map_nil, List.append_nil, List.nil_append, Nat.reduceEqDiff, Nat.reduceAdd, Nat.reduceMul, Nat.reduceSub, Nat.reduceLeDiff, Nat.reduceLT, Int.reduceLT, Int.reduceLE, Int.reduceEq, Int.reduceToNat, Int.reduceAdd, Int.reduceSub, Int.reduceNeg, not_false_eq_true, not_true_eq_false, if_true, if_false, Bool.false_xor, Bool.true_xor, Bool.false_eq_true, Bool.true_eq_false, Bool.not_true, Bool.not_false, decide_true, decide_false, Nat.zero_add, Nat.add_zero, List.getElem?_cons_zero, List.getElem?_cons_succ, true_and, and_true, and_self, List.length_cons, List.length_nil, ↓reduceIte, reduceCtorEq, Option.some_or, Option.none_or, Option.or_none, eq_self, Option.map_some, List.length_set, List.set_cons_zero, List.set_cons_succ, List.cons_append, List.drop_zero, List.drop_succ_cons, List.take_succ_cons, List.take_zero, List.all_cons, List.all_nil, Bool.and_true, Option.isSome_some, Option.isSome_none, Option.isNone_some, Option.isNone_none, false_and, and_false, ↓C.catnaplaw3_GraphChains_W, C.catnaplaw3_GraphChains_B, C.catnaplaw3_GraphChains]
  refine awp_midB (fun _ : Unit => [(9, .int .i64 v), (14, .isl 1 (ints (nats ((List.range v).map fun i => v - 1 - i))) v)]) (fun _ _ => True) ?_ ?_
  · refine awp_loopK (fun i : Nat => [(6, .int .i64 n), (9, .int .i64 v), (12, .isl 1 (ints (nats ((List.range (n - 1 - v)).map fun i => n - 1 - i))) (n - 1 - v)), (14, .isl 1 (ints (nats ((List.range v).map fun i => v - 1 - i))) v), (17, .int .i64 i)]) (fun i _ => i ≤ n - 1 - v) (fun i => n - i) 0 rfl (Nat.zero_le _) ?_
    rintro i s hi
    by_cases hil : i < n - 1 - v
    · have hil' : (i : Int) < ((n - 1 - v : Nat) : Int) := by omega
      have hz : (0:Int) ≤ (i : Int) ∧ (i : Int) < ((n - 1 - v : Nat) : Int) := by omega
      have hw := wsucc hil (by omega)
      have w3 : IntKind.i64.wrap (((n - 1 : Nat) : Int) - (i : Int)) = ((n - 1 - i : Nat) : Int) := by rw [wrap64] <;> omega
      simp only [↓Bp, Bq, ↓aop.eq_28, ↓aop.eq_30, ↓initFr, aeqP, abinv, abin, aun, bound, aslice, aput, putN, zeros, heldOk, aheadOk, IOp.again, List.map_cons, List.map_nil, List.append_nil, List.nil_append, Nat.reduceEqDiff, Nat.reduceAdd, Nat.reduceMul, Nat.reduceSub, Nat.reduceLeDiff, Nat.reduceLT, Int.reduceLT, Int.reduceLE, Int.reduceEq, Int.reduceToNat, Int.reduceAdd, Int.reduceSub, Int.reduceNeg, not_false_eq_true, not_true_eq_false, if_true, if_false, Bool.false_xor, Bool.true_xor, Bool.false_eq_true, Bool.true_eq_false, Bool.not_true, Bool.not_false, decide_true, decide_false, Nat.zero_add, Nat.add_zero, List.getElem?_cons_zero, List.getElem?_cons_succ, true_and, and_true, and_self, List.length_cons, List.length_nil, ↓reduceIte, reduceCtorEq, Option.some_or, Option.none_or, Option.or_none, eq_self, Option.map_some, List.length_set, List.set_cons_zero, List.set_cons_succ, List.cons_append, List.drop_zero, List.drop_succ_cons, List.take_succ_cons, List.take_zero, List.all_cons, List.all_nil, Bool.and_true, Option.isSome_some, Option.isSome_none, Option.isNone_some, Option.isNone_none, false_and, and_false, ↓C.catnaplaw3_GraphChains_W, C.catnaplaw3_GraphChains_B, C.catnaplaw3_GraphChains, hil', hz, Int.toNat_natCast, Nat.mul_one, ints_tab hil, w1, w3, hw]
      exact ⟨i + 1, rfl, hil, by omega⟩
    · have hil' : ¬ (i : Int) < ((n - 1 - v : Nat) : Int) := by omega
      simp only [↓Bp, Bq, ↓aop.eq_28, ↓aop.eq_30, ↓initFr, aeqP, abinv, abin, aun, bound, aslice, aput, putN, zeros, heldOk, aheadOk, IOp.again, List.map_cons, List.map_nil, List.append_nil, List.nil_append, Nat.reduceEqDiff, Nat.reduceAdd, Nat.reduceMul, Nat.reduceSub, Nat.reduceLeDiff, Nat.reduceLT, Int.reduceLT, Int.reduceLE, Int.reduceEq, Int.reduceToNat, Int.reduceAdd, Int.reduceSub, Int.reduceNeg, not_false_eq_true, not_true_eq_false, if_true, if_false, Bool.false_xor, Bool.true_xor, Bool.false_eq_true, Bool.true_eq_false, Bool.not_true, Bool.not_false, decide_true, decide_false, Nat.zero_add, Nat.add_zero, List.getElem?_cons_zero, List.getElem?_cons_succ, true_and, and_true, and_self, List.length_cons, List.length_nil, ↓reduceIte, reduceCtorEq, Option.some_or, Option.none_or, Option.or_none, eq_self, Option.map_some, List.length_set, List.set_cons_zero, List.set_cons_succ, List.cons_append, List.drop_zero, List.drop_succ_cons, List.take_succ_cons, List.take_zero, List.all_cons, List.all_nil, Bool.and_true, Option.isSome_some, Option.isSome_none, Option.isNone_some, Option.isNone_none, false_and, and_false, ↓C.catnaplaw3_GraphChains_W, C.catnaplaw3_GraphChains_B, C.catnaplaw3_GraphChains, hil']
      exact ⟨(), trivial⟩
  rintro - s -
  simp only [↓Bp, Bq, ↓aop.eq_28, ↓aop.eq_30, ↓initFr, aeqP, abinv, abin, aun, bound, aslice, aput, putN, zeros, heldOk, aheadOk, IOp.again, List.map_cons, List.map_nil, List.append_nil, List.nil_append, Nat.reduceEqDiff, Nat.reduceAdd, Nat.reduceMul, Nat.reduceSub, Nat.reduceLeDiff, Nat.reduceLT, Int.reduceLT, Int.reduceLE, Int.reduceEq, Int.reduceToNat, Int.reduceAdd, Int.reduceSub, Int.reduceNeg, not_false_eq_true, not_true_eq_false, if_true, if_false, Bool.false_xor, Bool.true_xor, Bool.false_eq_true, Bool.true_eq_false, Bool.not_true, Bool.not_false, decide_true, decide_false, Nat.zero_add, Nat.add_zero, List.getElem?_cons_zero, List.getElem?_cons_succ, true_and, and_true, and_self, List.length_cons, List.length_nil, ↓reduceIte, reduceCtorEq, Option.some_or, Option.none_or, Option.or_none, eq_self, Option.map_some, List.length_set, List.set_cons_zero, List.set_cons_succ, List.cons_append, List.drop_zero, List.drop_succ_cons, List.take_succ_cons, List.take_zero, List.all_cons, List.all_nil, Bool.and_true, Option.isSome_some, Option.isSome_none, Option.isNone_some, Option.isNone_none, false_and, and_false, ↓C.catnaplaw3_GraphChains_W, C.catnaplaw3_GraphChains_B, C.catnaplaw3_GraphChains]
  refine awp_loopK (fun i : Nat => [(9, .int .i64 v), (14, .isl 1 (ints (nats ((List.range v).map fun i => v - 1 - i))) v), (18, .int .i64 i)]) (fun i _ => i ≤ v) (fun i => n - i) 0 rfl (Nat.zero_le _) ?_
  rintro i s hi
  by_cases hil : i < v
  · have hil' : (i : Int) < (v : Int) := by omega
    have hz : (0:Int) ≤ (i : Int) ∧ (i : Int) < (v : Int) := by omega
    have hw := wsucc hil (by omega)
    have w4 : IntKind.i64.wrap ((v : Int) - 1) = ((v - 1 : Nat) : Int) := by rw [wrap64] <;> omega
    have w3 : IntKind.i64.wrap (((v - 1 : Nat) : Int) - (i : Int)) = ((v - 1 - i : Nat) : Int) := by rw [wrap64] <;> omega
    simp only [↓Bp, Bq, ↓aop.eq_28, ↓aop.eq_30, ↓initFr, aeqP, abinv, abin, aun, bound, aslice, aput, putN, zeros, heldOk, aheadOk, IOp.again, List.map_cons, List.map_nil, List.append_nil, List.nil_append, Nat.reduceEqDiff, Nat.reduceAdd, Nat.reduceMul, Nat.reduceSub, Nat.reduceLeDiff, Nat.reduceLT, Int.reduceLT, Int.reduceLE, Int.reduceEq, Int.reduceToNat, Int.reduceAdd, Int.reduceSub, Int.reduceNeg, not_false_eq_true, not_true_eq_false, if_true, if_false, Bool.false_xor, Bool.true_xor, Bool.false_eq_true, Bool.true_eq_false, Bool.not_true, Bool.not_false, decide_true, decide_false, Nat.zero_add, Nat.add_zero, List.getElem?_cons_zero, List.getElem?_cons_succ, true_and, and_true, and_self, List.length_cons, List.length_nil, ↓reduceIte, reduceCtorEq, Option.some_or, Option.none_or, Option.or_none, eq_self, Option.map_some, List.length_set, List.set_cons_zero, List.set_cons_succ, List.cons_append, List.drop_zero, List.drop_succ_cons, List.take_succ_cons, List.take_zero, List.all_cons, List.all_nil, Bool.and_true, Option.isSome_some, Option.isSome_none, Option.isNone_some, Option.isNone_none, false_and, and_false, ↓C.catnaplaw3_GraphChains_W, C.catnaplaw3_GraphChains_B, C.catnaplaw3_GraphChains, hil', hz, Int.toNat_natCast, Nat.mul_one, ints_tab hil, w4, w3, hw]
    exact ⟨i + 1, rfl, hil, by omega⟩
  · have hil' : ¬ (i : Int) < (v : Int) := by omega
    simp only [↓Bp, Bq, ↓aop.eq_28, ↓aop.eq_30, ↓initFr, aeqP, abinv, abin, aun, bound, aslice, aput, putN, zeros, heldOk, aheadOk, IOp.again, List.map_cons, List.map_nil, List.append_nil, List.nil_append, Nat.reduceEqDiff, Nat.reduceAdd, Nat.reduceMul, Nat.reduceSub, Nat.reduceLeDiff, Nat.reduceLT, Int.reduceLT, Int.reduceLE, Int.reduceEq, Int.reduceToNat, Int.reduceAdd, Int.reduceSub, Int.reduceNeg, not_false_eq_true, not_true_eq_false, if_true, if_false, Bool.false_xor, Bool.true_xor, Bool.false_eq_true, Bool.true_eq_false, Bool.not_true, Bool.not_false, decide_true, decide_false, Nat.zero_add, Nat.add_zero, List.getElem?_cons_zero, List.getElem?_cons_succ, true_and, and_true, and_self, List.length_cons, List.length_nil, ↓reduceIte, reduceCtorEq, Option.some_or, Option.none_or, Option.or_none, eq_self, Option.map_some, List.length_set, List.set_cons_zero, List.set_cons_succ, List.cons_append, List.drop_zero, List.drop_succ_cons, List.take_succ_cons, List.take_zero, List.all_cons, List.all_nil, Bool.and_true, Option.isSome_some, Option.isSome_none, Option.isNone_some, Option.isNone_none, false_and, and_false, ↓C.catnaplaw3_GraphChains_W, C.catnaplaw3_GraphChains_B, C.catnaplaw3_GraphChains, hil']
end
end Go.Proofs.Ythmdiljjkogghaa.Cn
