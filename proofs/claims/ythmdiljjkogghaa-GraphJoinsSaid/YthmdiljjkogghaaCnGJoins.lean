/- Graphs: GraphJoins. -/
import Derived.Test.YthmdiljjkogghaaCnGSides
set_option linter.unusedSimpArgs false
set_option linter.unusedVariables false
set_option linter.unusedSectionVars false
namespace Go.Proofs.Ythmdiljjkogghaa.Cn
open Go Go.Proofs

def shift (n : Nat) (l : List Int) : List Int := l.map fun x => (n : Int) + x

/-- Two graphs beside one another. -/
def Beside (g h b : Gr) : Prop := b.length = g.length + h.length ∧ (∀ v, v < g.length → b[v]? = g[v]?) ∧ ∀ v (hv : v < h.length), b[g.length + v]? = some (shift g.length h[v])

section
variable {g h b : Gr} (hb : Beside g h b) (hg : g.ok) (hh : h.ok)
include hb hg hh

theorem beside_deps1 {v u : Nat} (hv : v < g.length) : u ∈ deps b v ↔ u ∈ deps g v := by
  unfold deps; rw [hb.2.1 v hv]
theorem beside_deps2 {v u : Nat} (hv : v < h.length) : u ∈ deps b (g.length + v) ↔ ∃ x, x ∈ deps h v ∧ u = g.length + x := by
  unfold deps
  rw [hb.2.2 v hv, List.getElem?_eq_getElem hv]
  simp only [Option.getD_some, shift, List.map_map, List.mem_map, Function.comp_apply]
  constructor
  · rintro ⟨y, hy, rfl⟩
    have := hh _ (List.getElem_mem hv) y hy
    exact ⟨y.toNat, ⟨y, hy, rfl⟩, by omega⟩
  · rintro ⟨x, ⟨y, hy, rfl⟩, rfl⟩
    have := hh _ (List.getElem_mem hv) y hy
    exact ⟨y, hy, by omega⟩
theorem beside_ok : b.ok := by
  intro r hr u hu
  obtain ⟨i, hi, rfl⟩ := List.getElem_of_mem hr
  rw [hb.1] at hi ⊢
  by_cases e : i < g.length
  · have h1 := hb.2.1 i e
    rw [List.getElem?_eq_getElem (by rw [hb.1]; omega), List.getElem?_eq_getElem e] at h1
    rw [Option.some.inj h1] at hu
    have := hg _ (List.getElem_mem e) u hu
    omega
  · obtain ⟨v, rfl⟩ : ∃ v, i = g.length + v := ⟨i - g.length, by omega⟩
    have hv : v < h.length := by omega
    have h1 := hb.2.2 v hv
    rw [List.getElem?_eq_getElem (by rw [hb.1]; omega)] at h1
    rw [Option.some.inj h1] at hu
    simp only [shift, List.mem_map] at hu
    obtain ⟨y, hy, rfl⟩ := hu
    have := hh _ (List.getElem_mem hv) y hy
    omega
theorem beside_up1 {v u : Nat} (hv : v < g.length) : Up b v u ↔ Up g v u := by
  constructor
  · intro k
    induction k with
    | one x => exact .one ((beside_deps1 hb hg hh hv).mp x)
    | more x _ ih =>
      have hx := (beside_deps1 hb hg hh hv).mp x
      exact .more hx (ih (deps_lt hg hx))
  · intro k
    induction k with
    | one x => exact .one ((beside_deps1 hb hg hh hv).mpr x)
    | more x _ ih => exact .more ((beside_deps1 hb hg hh hv).mpr x) (ih (deps_lt hg x))
theorem beside_up2 {v u : Nat} (hv : v < h.length) : Up b (g.length + v) u ↔ ∃ x, Up h v x ∧ u = g.length + x := by
  constructor
  · intro k
    generalize hz : g.length + v = z at k
    induction k generalizing v with
    | one x =>
      subst hz
      obtain ⟨y, hy, rfl⟩ := (beside_deps2 hb hg hh hv).mp x
      exact ⟨y, .one hy, rfl⟩
    | more x _ ih =>
      subst hz
      obtain ⟨y, hy, rfl⟩ := (beside_deps2 hb hg hh hv).mp x
      obtain ⟨c, hc, rfl⟩ := ih (deps_lt hh hy) rfl
      exact ⟨c, .more hy hc, rfl⟩
  · rintro ⟨x, k, rfl⟩
    induction k with
    | one hy => exact .one ((beside_deps2 hb hg hh hv).mpr ⟨_, hy, rfl⟩)
    | more hy _ ih => exact .more ((beside_deps2 hb hg hh hv).mpr ⟨_, hy, rfl⟩) (ih (deps_lt hh hy))
theorem beside_right (hRg : Right g) (hRh : Right h) : Right b := by
  refine ⟨beside_ok hb hg hh, ord_full (beside_ok hb hg hh) (fun x => if x < g.length then (ord g).idxOf x else (ord h).idxOf (x - g.length)) fun v hv u hu => ?_⟩
  rw [hb.1] at hv
  by_cases e : v < g.length
  · have hx := (beside_deps1 hb hg hh e).mp hu
    rw [if_pos (deps_lt hg hx), if_pos e]
    exact hRg.pos hx
  · obtain ⟨w, rfl⟩ : ∃ w, v = g.length + w := ⟨v - g.length, by omega⟩
    obtain ⟨y, hy, rfl⟩ := (beside_deps2 hb hg hh (by omega)).mp hu
    rw [if_neg (by omega), if_neg (by omega), Nat.add_sub_cancel_left, Nat.add_sub_cancel_left]
    exact hRh.pos hy

/-- The first graph's order comes first. -/
theorem beside_next {out : List Nat} {v : Nat} (ht : Topo g out) (hn : next g out = some v) : next b out = some v := by
  obtain ⟨h1, h2, h3⟩ := next_some.mp hn
  refine next_some.mpr ⟨?_, by rw [hb.1]; omega, fun j hj => ?_⟩
  · rw [ready_iff] at h1 ⊢
    exact ⟨h1.1, fun u hu => h1.2 u ((beside_deps1 hb hg hh h2).mp hu)⟩
  · cases hr : ready b out j with
    | false => rfl
    | true =>
      have h4 := h3 j hj
      have h5 := ready_iff.mp hr
      have : ready g out j = true := ready_iff.mpr ⟨h5.1, fun u hu => h5.2 u ((beside_deps1 hb hg hh (by omega)).mpr hu)⟩
      rw [h4] at this; cases this
theorem beside_ordGo (hRg : Right g) : ∀ (f : Nat) {out : List Nat}, Topo g out → out.length + f = g.length → ordGo b (f + h.length) out = ordGo b h.length (ordGo g f out)
  | 0, out, ht, hl => by rw [Nat.zero_add, ordGo]
  | f + 1, out, ht, hl => by
    have hne := next_rank hg (fun v => (ord g).idxOf v) (fun v _ u hu => hRg.pos hu) (out := out) (by omega)
    cases hn : next g out with
    | none => exact absurd hn hne
    | some v =>
      have hn2 := beside_next hb hg hh ht hn
      rw [show f + 1 + h.length = (f + h.length) + 1 by omega]
      simp only [ordGo, hn, hn2]
      exact beside_ordGo hRg f (.snoc ht hn) (by simp; omega)
theorem ordGo_prefix (f : Nat) : ∀ (out : List Nat), ∃ rest, ordGo b f out = out ++ rest := by
  induction f with
  | zero => exact fun out => ⟨[], by simp [ordGo]⟩
  | succ f ih =>
    intro out
    unfold ordGo
    split
    · exact ⟨[], by simp⟩
    · rename_i v hv
      obtain ⟨rest, hr⟩ := ih (out ++ [v])
      exact ⟨v :: rest, by rw [hr]; simp⟩
theorem beside_above (hRg : Right g) {v : Nat} (hv : v < g.length) : aboveL b v = aboveL g v := by
  have h1 : ord b = ordGo b h.length (ord g) := by
    rw [ord, hb.1, ord]
    exact beside_ordGo hb hg hh hRg g.length .nil (by simp)
  obtain ⟨rest, hr⟩ := ordGo_prefix hb hg hh h.length (ord g)
  rw [hr] at h1
  have hnd := (ord_topo b).nodup
  rw [h1, List.nodup_append] at hnd
  rw [aboveL, aboveL, h1, List.filter_append]
  refine (congr (congrArg HAppend.hAppend (List.filter_congr ?_)) (List.filter_eq_nil_iff.mpr ?_)).trans (List.append_nil _)
  · intro u _
    rw [Bool.eq_iff_iff]
    refine dec_iff.trans (Iff.trans ?_ dec_iff.symm)
    rw [beside_up1 hb hg hh hv]
  · intro u hu hc
    have hc := dec_iff.mp hc
    have h3 := (beside_up1 hb hg hh hv).mp hc.2
    exact hnd.2.2 u (hRg.mem (h3.lt hg).2) u hu rfl
end

theorem joined_above {b : Gr} (hRb : Right b) (hn : b.length ≤ 100) {v u : Nat} (hv : v < b.length) (hu : u < b.length) (hne : u ≠ v) (hnu : ¬ Up b u v) (hdis : ∀ y, Up b v y → y ≠ u ∧ ¬ Up b u y) :
    Right (b.set v (b[v] ++ [(u : Int)])) ∧ (aboveL (b.set v (b[v] ++ [(u : Int)])) v).length = (aboveL b v).length + (aboveL b u).length + 1 ∧ u ∈ aboveL (b.set v (b[v] ++ [(u : Int)])) v := by
  have he := @add_err b hRb hn v u hv hu (Classical.propDecidable _)
  rw [if_neg (fun h => h.elim hne hnu)] at he
  have hR2 := (grErr_zero.mp he).2
  have hmono : ∀ {a c : Nat}, Up b a c → Up (b.set v (b[v] ++ [(u : Int)])) a c := fun k => k.mono fun a c hac => (mem_deps_add hRb.ok hv).mpr (.inl hac)
  have hvu : u ∈ deps (b.set v (b[v] ++ [(u : Int)])) v := (mem_deps_add hRb.ok hv).mpr (.inr ⟨rfl, rfl⟩)
  have hup : ∀ {a y : Nat}, Up (b.set v (b[v] ++ [(u : Int)])) a y → Up b a y ∨ ((a = v ∨ Up b a v) ∧ (y = u ∨ Up b u y)) := by
    intro a y k
    induction k with
    | one x =>
      rcases (mem_deps_add hRb.ok hv).mp x with x | ⟨rfl, rfl⟩
      · exact .inl (.one x)
      · exact .inr ⟨.inl rfl, .inl rfl⟩
    | more x _ ih =>
      rcases (mem_deps_add hRb.ok hv).mp x with x2 | ⟨rfl, rfl⟩
      · rcases ih with ih | ⟨h1, h2⟩
        · exact .inl (.more x2 ih)
        · refine .inr ⟨.inr ?_, h2⟩
          rcases h1 with h1 | h1
          · exact .one (h1 ▸ x2)
          · exact .more x2 h1
      · rcases ih with ih | ⟨h1, h2⟩
        · exact .inr ⟨.inl rfl, .inr ih⟩
        · exact absurd h1 (fun h => h.elim hne hnu)
  have hmem : ∀ y, y ∈ aboveL (b.set v (b[v] ++ [(u : Int)])) v ↔ y ∈ aboveL b v ++ u :: aboveL b u := by
    intro y
    rw [mem_aboveL hR2, List.mem_append, List.mem_cons, mem_aboveL hRb, mem_aboveL hRb]
    constructor
    · intro k
      rcases hup k with h | ⟨_, h⟩
      · exact .inl h
      · exact .inr h
    · rintro (h | rfl | h)
      · exact hmono h
      · exact .one hvu
      · exact .more hvu (hmono h)
  have hnd : (aboveL b v ++ u :: aboveL b u).Nodup := by
    rw [List.nodup_append, List.nodup_cons]
    refine ⟨aboveL_nodup _ _, ⟨fun h => hRb.irrefl u ((mem_aboveL hRb).mp h), aboveL_nodup _ _⟩, fun a ha c hc => ?_⟩
    have ha := (mem_aboveL hRb).mp ha
    rintro rfl
    rcases List.mem_cons.mp hc with rfl | hc
    · exact (hdis _ ha).1 rfl
    · exact (hdis _ ha).2 ((mem_aboveL hRb).mp hc)
  have l1 := nodup_len (aboveL_nodup _ v) (fun y hy => (hmem y).mp hy)
  have l2 := nodup_len hnd (fun y hy => (hmem y).mpr hy)
  simp only [List.length_append, List.length_cons] at l1 l2
  exact ⟨hR2, by omega, (hmem u).mpr (by simp)⟩

section
variable {st : ASt}

/-- The two graphs, when the first i rows of the one have been laid; and those of the other ahead of v, and of that T. -/
def JoinI (g h : Gr) (i v : Nat) (T : List Int) (b : Gr) : Prop := b.length = 11 ∧ ∀ w (hw : w < b.length), b[w] = if w < 6 then (if w < i then (g[w]?).getD [] else []) else if w - 6 < v then shift 6 ((h[w - 6]?).getD []) else if w - 6 = v then shift 6 T else []

theorem joins_law {a_ b_ : Int} {l k : List Int} (ha : I64 a_) (hb : I64 b_) (hl : l.length ≤ 9223372036854775807) (hr : ∀ x ∈ l, I64 x) (hl2 : k.length ≤ 9223372036854775807) (hr2 : ∀ x ∈ k, I64 x) :
    ACalls Try.prog F.catnaplaw3_GraphJoins [.isl 1 (ints l) l.length, .isl 1 (ints k) k.length, .int .i64 a_, .int .i64 b_] st fun r _ => r = .bool true := by
  refine calls_of_awp L.catnaplaw3_GraphJoins rfl ?_
  simp only [↓Bp, Bq, ↓aop.eq_28, ↓aop.eq_30, ↓initFr, aeqP, abinv, abin, aun, bound, aslice, aput, putN, zeros, heldOk, aheadOk, IOp.again, List.map_cons, List.map_nil, List.append_nil, List.nil_append, Nat.reduceEqDiff, Nat.reduceAdd, Nat.reduceMul, Nat.reduceSub, Nat.reduceLeDiff, Nat.reduceLT, Int.reduceLT, Int.reduceLE, Int.reduceEq, Int.reduceToNat, Int.reduceAdd, Int.reduceSub, Int.reduceNeg, not_false_eq_true, not_true_eq_false, if_true, if_false, Bool.false_xor, Bool.true_xor, Bool.false_eq_true, Bool.true_eq_false, Bool.not_true, Bool.not_false, decide_true, decide_false, Nat.zero_add, Nat.add_zero, List.getElem?_cons_zero, List.getElem?_cons_succ, true_and, and_true, and_self, List.length_cons, List.length_nil, ↓reduceIte, reduceCtorEq, Option.some_or, Option.none_or, Option.or_none, eq_self, Option.map_some, List.length_set, List.set_cons_zero, List.set_cons_succ, List.cons_append, List.drop_zero, List.drop_succ_cons, List.take_succ_cons, List.take_zero, List.all_cons, List.all_nil, Bool.and_true, Option.isSome_some, Option.isSome_none, Option.isNone_some, Option.isNone_none, false_and, and_false, ↓C.catnaplaw3_GraphJoins_W, C.catnaplaw3_GraphJoins_B, C.catnaplaw3_GraphJoins]
  refine (shown_spec st).mono ?_
  rintro r s ⟨rfl, rfl⟩
  simp only [↓Bp, Bq, ↓aop.eq_28, ↓aop.eq_30, ↓initFr, aeqP, abinv, abin, aun, bound, aslice, aput, putN, zeros, heldOk, aheadOk, IOp.again, List.map_cons, List.map_nil, List.append_nil, List.nil_append, Nat.reduceEqDiff, Nat.reduceAdd, Nat.reduceMul, Nat.reduceSub, Nat.reduceLeDiff, Nat.reduceLT, Int.reduceLT, Int.reduceLE, Int.reduceEq, Int.reduceToNat, Int.reduceAdd, Int.reduceSub, Int.reduceNeg, not_false_eq_true, not_true_eq_false, if_true, if_false, Bool.false_xor, Bool.true_xor, Bool.false_eq_true, Bool.true_eq_false, Bool.not_true, Bool.not_false, decide_true, decide_false, Nat.zero_add, Nat.add_zero, List.getElem?_cons_zero, List.getElem?_cons_succ, true_and, and_true, and_self, List.length_cons, List.length_nil, ↓reduceIte, reduceCtorEq, Option.some_or, Option.none_or, Option.or_none, eq_self, Option.map_some, List.length_set, List.set_cons_zero, List.set_cons_succ, List.cons_append, List.drop_zero, List.drop_succ_cons, List.take_succ_cons, List.take_zero, List.all_cons, List.all_nil, Bool.and_true, Option.isSome_some, Option.isSome_none, Option.isNone_some, Option.isNone_none, false_and, and_false, ↓C.catnaplaw3_GraphJoins_W, C.catnaplaw3_GraphJoins_B, C.catnaplaw3_GraphJoins]
  refine (falling_val (n := 6) (by omega) hl hr false).mono ?_
  rintro r s1 ⟨g, rfl, hgn, hF, rfl⟩
  simp only [↓Bp, Bq, ↓aop.eq_28, ↓aop.eq_30, ↓initFr, aeqP, abinv, abin, aun, bound, aslice, aput, putN, zeros, heldOk, aheadOk, IOp.again, List.map_cons, List.map_nil, List.append_nil, List.nil_append, Nat.reduceEqDiff, Nat.reduceAdd, Nat.reduceMul, Nat.reduceSub, Nat.reduceLeDiff, Nat.reduceLT, Int.reduceLT, Int.reduceLE, Int.reduceEq, Int.reduceToNat, Int.reduceAdd, Int.reduceSub, Int.reduceNeg, not_false_eq_true, not_true_eq_false, if_true, if_false, Bool.false_xor, Bool.true_xor, Bool.false_eq_true, Bool.true_eq_false, Bool.not_true, Bool.not_false, decide_true, decide_false, Nat.zero_add, Nat.add_zero, List.getElem?_cons_zero, List.getElem?_cons_succ, true_and, and_true, and_self, List.length_cons, List.length_nil, ↓reduceIte, reduceCtorEq, Option.some_or, Option.none_or, Option.or_none, eq_self, Option.map_some, List.length_set, List.set_cons_zero, List.set_cons_succ, List.cons_append, List.drop_zero, List.drop_succ_cons, List.take_succ_cons, List.take_zero, List.all_cons, List.all_nil, Bool.and_true, Option.isSome_some, Option.isSome_none, Option.isNone_some, Option.isNone_none, false_and, and_false, ↓C.catnaplaw3_GraphJoins_W, C.catnaplaw3_GraphJoins_B, C.catnaplaw3_GraphJoins]
  refine (falling_val (n := 5) (by omega) hl2 hr2 true).mono ?_
  rintro r s2 ⟨h, rfl, hhn, hH, rfl⟩
  have hR := hF.right
  have hg := hF.few (by omega)
  have hRh := hH.right
  have hh := hH.few (by omega)
  have hz11 : (0 : Int) ≤ 11 ∧ (11 : Int) ≤ 4294967296 := by decide
  have e11 : (11 : Int).toNat = 11 := rfl
  simp only [↓Bp, Bq, ↓aop.eq_28, ↓aop.eq_30, ↓initFr, aeqP, abinv, abin, aun, bound, aslice, aput, putN, zeros, heldOk, aheadOk, IOp.again, List.map_cons, List.map_nil, List.append_nil, List.nil_append, Nat.reduceEqDiff, Nat.reduceAdd, Nat.reduceMul, Nat.reduceSub, Nat.reduceLeDiff, Nat.reduceLT, Int.reduceLT, Int.reduceLE, Int.reduceEq, Int.reduceToNat, Int.reduceAdd, Int.reduceSub, Int.reduceNeg, not_false_eq_true, not_true_eq_false, if_true, if_false, Bool.false_xor, Bool.true_xor, Bool.false_eq_true, Bool.true_eq_false, Bool.not_true, Bool.not_false, decide_true, decide_false, Nat.zero_add, Nat.add_zero, List.getElem?_cons_zero, List.getElem?_cons_succ, true_and, and_true, and_self, List.length_cons, List.length_nil, ↓reduceIte, reduceCtorEq, Option.some_or, Option.none_or, Option.or_none, eq_self, Option.map_some, List.length_set, List.set_cons_zero, List.set_cons_succ, List.cons_append, List.drop_zero, List.drop_succ_cons, List.take_succ_cons, List.take_zero, List.all_cons, List.all_nil, Bool.and_true, Option.isSome_some, Option.isSome_none, Option.isNone_some, Option.isNone_none, false_and, and_false, ↓C.catnaplaw3_GraphJoins_W, C.catnaplaw3_GraphJoins_B, C.catnaplaw3_GraphJoins, hz11, e11, zeros_nils]
  intro id hid
  have hst : Nest s2 (s2.new id (.cells (List.replicate 11 .nils))) id (fun i => decide (i < 6)) (List.replicate 11 []) := nest_nils (ASt.new_self _ hid) (ASt.le.new _ _ _) hid _
  refine awp_midB (fun _ : Unit => [(2, .int .i64 a_), (3, .int .i64 b_), (10, .isl 1 (g.map row) g.length), (11, .isl 1 (h.map row) h.length), (12, .sl 1 id 0 11)]) (fun _ s => ∃ B, Nest s2 s id (fun i => decide (i < 6)) B ∧ JoinI g h 6 0 [] B) ?_ ?_
  · refine awp_loopK (fun i : Nat => [(2, .int .i64 a_), (3, .int .i64 b_), (10, .isl 1 (g.map row) g.length), (11, .isl 1 (h.map row) h.length), (12, .sl 1 id 0 11), (13, .int .i64 i)]) (fun i s => i ≤ 6 ∧ ∃ B, Nest s2 s id (fun i => decide (i < 6)) B ∧ JoinI g h i 0 [] B) (fun i => 6 - i) 0 rfl
      ⟨Nat.zero_le _, _, hst, by simp, fun w hw => by rw [List.getElem_replicate]; simp [shift]⟩ ?_
    rintro i s ⟨hi, B, hN, hJ⟩
    by_cases hil : i < 6
    · have hil' : (i : Int) < 6 := by omega
      have hzi : (0:Int) ≤ (i : Int) ∧ (i : Int) < (g.length : Nat) := by omega
      have hzi2 : (0:Int) ≤ (i : Int) ∧ (i : Int) < 11 := by omega
      have hzi3 : (0:Int) ≤ (i : Int) ∧ (i : Int) < ((11 : Nat) : Int) := by omega
      have hw : IntKind.i64.wrap ((i : Int) + 1) = ((i + 1 : Nat) : Int) := by rw [wrap64] <;> omega
      have hig : i < g.length := by omega
      have hiB : i < B.length := by rw [hJ.1]; omega
      obtain ⟨vs, q1, q2, q3⟩ := hN.put hiB (by simp [hil])
      have hiv : i < vs.length := by omega
      simp only [↓Bp, Bq, ↓aop.eq_28, ↓aop.eq_30, ↓initFr, aeqP, abinv, abin, aun, bound, aslice, aput, putN, zeros, heldOk, aheadOk, IOp.again, List.map_cons, List.map_nil, List.append_nil, List.nil_append, Nat.reduceEqDiff, Nat.reduceAdd, Nat.reduceMul, Nat.reduceSub, Nat.reduceLeDiff, Nat.reduceLT, Int.reduceLT, Int.reduceLE, Int.reduceEq, Int.reduceToNat, Int.reduceAdd, Int.reduceSub, Int.reduceNeg, not_false_eq_true, not_true_eq_false, if_true, if_false, Bool.false_xor, Bool.true_xor, Bool.false_eq_true, Bool.true_eq_false, Bool.not_true, Bool.not_false, decide_true, decide_false, Nat.zero_add, Nat.add_zero, List.getElem?_cons_zero, List.getElem?_cons_succ, true_and, and_true, and_self, List.length_cons, List.length_nil, ↓reduceIte, reduceCtorEq, Option.some_or, Option.none_or, Option.or_none, eq_self, Option.map_some, List.length_set, List.set_cons_zero, List.set_cons_succ, List.cons_append, List.drop_zero, List.drop_succ_cons, List.take_succ_cons, List.take_zero, List.all_cons, List.all_nil, Bool.and_true, Option.isSome_some, Option.isSome_none, Option.isNone_some, Option.isNone_none, false_and, and_false, ↓C.catnaplaw3_GraphJoins_W, C.catnaplaw3_GraphJoins_B, C.catnaplaw3_GraphJoins, hil', hzi, hzi2, hzi3, Int.toNat_natCast, Nat.mul_one, rowsG hig, q1, hiv, hw]
      refine ⟨i + 1, rfl, ⟨by omega, _, q3 g[i], by simpa using hJ.1, fun w hw => ?_⟩, by omega⟩
      have hw' : w < B.length := by simpa using hw
      by_cases e : w = i
      · subst e
        rw [List.getElem_set_self, if_pos hil, if_pos (by omega), List.getElem?_eq_getElem hig]; rfl
      · rw [List.getElem_set_ne (Ne.symm e), hJ.2 w hw']
        have : w < i + 1 ↔ w < i := by omega
        simp only [this]
    · have hie : i = 6 := by omega
      subst hie
      have hil' : ¬ ((6 : Nat) : Int) < 6 := by omega
      simp only [↓Bp, Bq, ↓aop.eq_28, ↓aop.eq_30, ↓initFr, aeqP, abinv, abin, aun, bound, aslice, aput, putN, zeros, heldOk, aheadOk, IOp.again, List.map_cons, List.map_nil, List.append_nil, List.nil_append, Nat.reduceEqDiff, Nat.reduceAdd, Nat.reduceMul, Nat.reduceSub, Nat.reduceLeDiff, Nat.reduceLT, Int.reduceLT, Int.reduceLE, Int.reduceEq, Int.reduceToNat, Int.reduceAdd, Int.reduceSub, Int.reduceNeg, not_false_eq_true, not_true_eq_false, if_true, if_false, Bool.false_xor, Bool.true_xor, Bool.false_eq_true, Bool.true_eq_false, Bool.not_true, Bool.not_false, decide_true, decide_false, Nat.zero_add, Nat.add_zero, List.getElem?_cons_zero, List.getElem?_cons_succ, true_and, and_true, and_self, List.length_cons, List.length_nil, ↓reduceIte, reduceCtorEq, Option.some_or, Option.none_or, Option.or_none, eq_self, Option.map_some, List.length_set, List.set_cons_zero, List.set_cons_succ, List.cons_append, List.drop_zero, List.drop_succ_cons, List.take_succ_cons, List.take_zero, List.all_cons, List.all_nil, Bool.and_true, Option.isSome_some, Option.isSome_none, Option.isNone_some, Option.isNone_none, false_and, and_false, ↓C.catnaplaw3_GraphJoins_W, C.catnaplaw3_GraphJoins_B, C.catnaplaw3_GraphJoins, hil']
      exact ⟨(), B, hN, hJ⟩
  rintro - s ⟨B, hN, hJ⟩
  simp only [↓Bp, Bq, ↓aop.eq_28, ↓aop.eq_30, ↓initFr, aeqP, abinv, abin, aun, bound, aslice, aput, putN, zeros, heldOk, aheadOk, IOp.again, List.map_cons, List.map_nil, List.append_nil, List.nil_append, Nat.reduceEqDiff, Nat.reduceAdd, Nat.reduceMul, Nat.reduceSub, Nat.reduceLeDiff, Nat.reduceLT, Int.reduceLT, Int.reduceLE, Int.reduceEq, Int.reduceToNat, Int.reduceAdd, Int.reduceSub, Int.reduceNeg, not_false_eq_true, not_true_eq_false, if_true, if_false, Bool.false_xor, Bool.true_xor, Bool.false_eq_true, Bool.true_eq_false, Bool.not_true, Bool.not_false, decide_true, decide_false, Nat.zero_add, Nat.add_zero, List.getElem?_cons_zero, List.getElem?_cons_succ, true_and, and_true, and_self, List.length_cons, List.length_nil, ↓reduceIte, reduceCtorEq, Option.some_or, Option.none_or, Option.or_none, eq_self, Option.map_some, List.length_set, List.set_cons_zero, List.set_cons_succ, List.cons_append, List.drop_zero, List.drop_succ_cons, List.take_succ_cons, List.take_zero, List.all_cons, List.all_nil, Bool.and_true, Option.isSome_some, Option.isSome_none, Option.isNone_some, Option.isNone_none, false_and, and_false, ↓C.catnaplaw3_GraphJoins_W, C.catnaplaw3_GraphJoins_B, C.catnaplaw3_GraphJoins]
  refine awp_midB (fun _ : Unit => [(2, .int .i64 a_), (3, .int .i64 b_), (10, .isl 1 (g.map row) g.length), (11, .isl 1 (h.map row) h.length), (12, .sl 1 id 0 11)]) (fun _ s => ∃ B, Nest s2 s id (fun i => decide (i < 6)) B ∧ JoinI g h 6 5 [] B) ?_ ?_
  · refine awp_loopK (fun v : Nat => [(2, .int .i64 a_), (3, .int .i64 b_), (10, .isl 1 (g.map row) g.length), (11, .isl 1 (h.map row) h.length), (12, .sl 1 id 0 11), (14, .int .i64 v)]) (fun v s => v ≤ 5 ∧ ∃ B, Nest s2 s id (fun i => decide (i < 6)) B ∧ JoinI g h 6 v [] B) (fun v => 5 - v) 0 rfl
      ⟨Nat.zero_le _, B, hN, hJ⟩ ?_
    clear hN hJ B
    rintro v s ⟨hv, B, hN, hJ⟩
    by_cases hvl : v < 5
    rotate_left
    · have hve : v = 5 := by omega
      subst hve
      have hvl' : ¬ ((5 : Nat) : Int) < 5 := by omega
      simp only [↓Bp, Bq, ↓aop.eq_28, ↓aop.eq_30, ↓initFr, aeqP, abinv, abin, aun, bound, aslice, aput, putN, zeros, heldOk, aheadOk, IOp.again, List.map_cons, List.map_nil, List.append_nil, List.nil_append, Nat.reduceEqDiff, Nat.reduceAdd, Nat.reduceMul, Nat.reduceSub, Nat.reduceLeDiff, Nat.reduceLT, Int.reduceLT, Int.reduceLE, Int.reduceEq, Int.reduceToNat, Int.reduceAdd, Int.reduceSub, Int.reduceNeg, not_false_eq_true, not_true_eq_false, if_true, if_false, Bool.false_xor, Bool.true_xor, Bool.false_eq_true, Bool.true_eq_false, Bool.not_true, Bool.not_false, decide_true, decide_false, Nat.zero_add, Nat.add_zero, List.getElem?_cons_zero, List.getElem?_cons_succ, true_and, and_true, and_self, List.length_cons, List.length_nil, ↓reduceIte, reduceCtorEq, Option.some_or, Option.none_or, Option.or_none, eq_self, Option.map_some, List.length_set, List.set_cons_zero, List.set_cons_succ, List.cons_append, List.drop_zero, List.drop_succ_cons, List.take_succ_cons, List.take_zero, List.all_cons, List.all_nil, Bool.and_true, Option.isSome_some, Option.isSome_none, Option.isNone_some, Option.isNone_none, false_and, and_false, ↓C.catnaplaw3_GraphJoins_W, C.catnaplaw3_GraphJoins_B, C.catnaplaw3_GraphJoins, hvl']
      exact ⟨(), B, hN, hJ⟩
    have hvl' : (v : Int) < 5 := by omega
    have hvh : v < h.length := by omega
    have hzv : (0:Int) ≤ (v : Int) ∧ (v : Int) < (h.length : Nat) := by omega
    have hw : IntKind.i64.wrap ((v : Int) + 1) = ((v + 1 : Nat) : Int) := by rw [wrap64] <;> omega
    have hw6 : IntKind.i64.wrap (6 + (v : Int)) = ((6 + v : Nat) : Int) := by rw [wrap64] <;> omega
    simp only [↓Bp, Bq, ↓aop.eq_28, ↓aop.eq_30, ↓initFr, aeqP, abinv, abin, aun, bound, aslice, aput, putN, zeros, heldOk, aheadOk, IOp.again, List.map_cons, List.map_nil, List.append_nil, List.nil_append, Nat.reduceEqDiff, Nat.reduceAdd, Nat.reduceMul, Nat.reduceSub, Nat.reduceLeDiff, Nat.reduceLT, Int.reduceLT, Int.reduceLE, Int.reduceEq, Int.reduceToNat, Int.reduceAdd, Int.reduceSub, Int.reduceNeg, not_false_eq_true, not_true_eq_false, if_true, if_false, Bool.false_xor, Bool.true_xor, Bool.false_eq_true, Bool.true_eq_false, Bool.not_true, Bool.not_false, decide_true, decide_false, Nat.zero_add, Nat.add_zero, List.getElem?_cons_zero, List.getElem?_cons_succ, true_and, and_true, and_self, List.length_cons, List.length_nil, ↓reduceIte, reduceCtorEq, Option.some_or, Option.none_or, Option.or_none, eq_self, Option.map_some, List.length_set, List.set_cons_zero, List.set_cons_succ, List.cons_append, List.drop_zero, List.drop_succ_cons, List.take_succ_cons, List.take_zero, List.all_cons, List.all_nil, Bool.and_true, Option.isSome_some, Option.isSome_none, Option.isNone_some, Option.isNone_none, false_and, and_false, ↓C.catnaplaw3_GraphJoins_W, C.catnaplaw3_GraphJoins_B, C.catnaplaw3_GraphJoins, hvl']
    refine awp_loopK (fun j : Nat => [(2, .int .i64 a_), (3, .int .i64 b_), (10, .isl 1 (g.map row) g.length), (11, .isl 1 (h.map row) h.length), (12, .sl 1 id 0 11), (14, .int .i64 v), (15, .int .i64 j)]) (fun j s => j ≤ h[v].length ∧ ∃ B, Nest s2 s id (fun i => decide (i < 6)) B ∧ JoinI g h 6 v (h[v].take j) B) (fun j => h[v].length - j) 0 rfl
      ⟨Nat.zero_le _, B, hN, by simpa using hJ⟩ ?_
    clear hN hJ B
    rintro j s ⟨hj, B, hN, hJ⟩
    by_cases hjl : j < h[v].length
    rotate_left
    · have hje : j = h[v].length := by omega
      subst hje
      have hjl' : ¬ ((h[v].length : Nat) : Int) < (h[v].length : Nat) := by omega
      simp only [↓Bp, Bq, ↓aop.eq_28, ↓aop.eq_30, ↓initFr, aeqP, abinv, abin, aun, bound, aslice, aput, putN, zeros, heldOk, aheadOk, IOp.again, List.map_cons, List.map_nil, List.append_nil, List.nil_append, Nat.reduceEqDiff, Nat.reduceAdd, Nat.reduceMul, Nat.reduceSub, Nat.reduceLeDiff, Nat.reduceLT, Int.reduceLT, Int.reduceLE, Int.reduceEq, Int.reduceToNat, Int.reduceAdd, Int.reduceSub, Int.reduceNeg, not_false_eq_true, not_true_eq_false, if_true, if_false, Bool.false_xor, Bool.true_xor, Bool.false_eq_true, Bool.true_eq_false, Bool.not_true, Bool.not_false, decide_true, decide_false, Nat.zero_add, Nat.add_zero, List.getElem?_cons_zero, List.getElem?_cons_succ, true_and, and_true, and_self, List.length_cons, List.length_nil, ↓reduceIte, reduceCtorEq, Option.some_or, Option.none_or, Option.or_none, eq_self, Option.map_some, List.length_set, List.set_cons_zero, List.set_cons_succ, List.cons_append, List.drop_zero, List.drop_succ_cons, List.take_succ_cons, List.take_zero, List.all_cons, List.all_nil, Bool.and_true, Option.isSome_some, Option.isSome_none, Option.isNone_some, Option.isNone_none, false_and, and_false, ↓C.catnaplaw3_GraphJoins_W, C.catnaplaw3_GraphJoins_B, C.catnaplaw3_GraphJoins, hzv, Int.toNat_natCast, Nat.mul_one, rowsG hvh, hjl', hw]
      rw [List.take_length] at hJ
      refine ⟨v + 1, rfl, ⟨by omega, B, hN, hJ.1, fun w hwB => ?_⟩, by omega⟩
      rw [hJ.2 w hwB]
      by_cases h6 : w < 6
      · simp only [if_pos h6]
      · rw [if_neg h6, if_neg h6]
        by_cases h7 : w - 6 < v
        · rw [if_pos h7, if_pos (by omega)]
        · rw [if_neg h7]
          by_cases h8 : w - 6 = v
          · rw [if_pos h8, if_pos (by omega), h8, List.getElem?_eq_getElem hvh]; rfl
          · rw [if_neg h8, if_neg (by omega)]; split <;> simp [shift]
    have hjl' : (j : Int) < (h[v].length : Nat) := by omega
    have hzj : (0:Int) ≤ (j : Int) ∧ (j : Int) < (h[v].length : Nat) := by omega
    have hwj := wsucc hjl (hh.2 _ (List.getElem_mem hvh))
    obtain ⟨hx1, hx2⟩ := hRh.ok _ (List.getElem_mem hvh) _ (List.getElem_mem hjl)
    have hwx : IntKind.i64.wrap (6 + h[v][j]) = 6 + h[v][j] := by rw [wrap64] <;> omega
    have hz6 : (0:Int) ≤ ((6 + v : Nat) : Int) ∧ ((6 + v : Nat) : Int) < ((11 : Nat) : Int) := by omega
    have hz7 : (0:Int) ≤ ((6 + v : Nat) : Int) ∧ ((6 + v : Nat) : Int) < 11 := by omega
    have h6B : 6 + v < B.length := by rw [hJ.1]; omega
    have hfz : (fun i : Nat => decide (i < 6)) (6 + v) = false := by simp
    obtain ⟨vs, v0, d1, d2, d3, d4, d5⟩ := hN.shows h6B hfz
    have hrv : 6 + v < vs.length := by omega
    have hB6 : B[6 + v] = shift 6 (h[v].take j) := by
      rw [hJ.2 _ h6B, if_neg (by omega), if_neg (by omega), if_pos (by omega)]
    have hlen : B[6 + v].length ≤ 40 := by
      rw [hB6, shift, List.length_map, List.length_take]
      have := (hH v hvh).1; omega
    simp only [↓Bp, Bq, ↓initFr, aeqP, abinv, abin, aun, bound, aslice, aput, putN, zeros, heldOk, aheadOk, IOp.again, List.map_cons, List.map_nil, List.append_nil, List.nil_append, Nat.reduceEqDiff, Nat.reduceAdd, Nat.reduceMul, Nat.reduceSub, Nat.reduceLeDiff, Nat.reduceLT, Int.reduceLT, Int.reduceLE, Int.reduceEq, Int.reduceToNat, Int.reduceAdd, Int.reduceSub, Int.reduceNeg, not_false_eq_true, not_true_eq_false, if_true, if_false, Bool.false_xor, Bool.true_xor, Bool.false_eq_true, Bool.true_eq_false, Bool.not_true, Bool.not_false, decide_true, decide_false, Nat.zero_add, Nat.add_zero, List.getElem?_cons_zero, List.getElem?_cons_succ, true_and, and_true, and_self, List.length_cons, List.length_nil, ↓reduceIte, reduceCtorEq, Option.some_or, Option.none_or, Option.or_none, eq_self, Option.map_some, List.length_set, List.set_cons_zero, List.set_cons_succ, List.cons_append, List.drop_zero, List.drop_succ_cons, List.take_succ_cons, List.take_zero, List.all_cons, List.all_nil, Bool.and_true, Option.isSome_some, Option.isSome_none, Option.isNone_some, Option.isNone_none, false_and, and_false, ↓C.catnaplaw3_GraphJoins_W, C.catnaplaw3_GraphJoins_B, C.catnaplaw3_GraphJoins, hzv, hjl', hzj, Int.toNat_natCast, Nat.mul_one, rowsG hvh, ints_get hjl, hw6, hwx, hz6, hz7, d1, d3]
    refine aop_append_one d4 (by omega) (new := [.int .i64 (6 + h[v][j])]) rfl rfl rfl (fun _ => rfl) (fun _ => rfl) ?_
    intro v1 i2 st2 f1 f2 f3
    obtain ⟨k1, k2⟩ := d5 i2 st2 (6 + h[v][j]) f1 f2 (by
      obtain ⟨i, q1, q2⟩ := f3.blk (by omega)
      cases q1
      rw [q2, ints_append]; rfl)
    simp only [↓Bp, Bq, ↓aop.eq_28, ↓aop.eq_30, ↓initFr, aeqP, abinv, abin, aun, bound, aslice, aput, putN, zeros, heldOk, aheadOk, IOp.again, List.map_cons, List.map_nil, List.append_nil, List.nil_append, Nat.reduceEqDiff, Nat.reduceAdd, Nat.reduceMul, Nat.reduceSub, Nat.reduceLeDiff, Nat.reduceLT, Int.reduceLT, Int.reduceLE, Int.reduceEq, Int.reduceToNat, Int.reduceAdd, Int.reduceSub, Int.reduceNeg, not_false_eq_true, not_true_eq_false, if_true, if_false, Bool.false_xor, Bool.true_xor, Bool.false_eq_true, Bool.true_eq_false, Bool.not_true, Bool.not_false, decide_true, decide_false, Nat.zero_add, Nat.add_zero, List.getElem?_cons_zero, List.getElem?_cons_succ, true_and, and_true, and_self, List.length_cons, List.length_nil, ↓reduceIte, reduceCtorEq, Option.some_or, Option.none_or, Option.or_none, eq_self, Option.map_some, List.length_set, List.set_cons_zero, List.set_cons_succ, List.cons_append, List.drop_zero, List.drop_succ_cons, List.take_succ_cons, List.take_zero, List.all_cons, List.all_nil, Bool.and_true, Option.isSome_some, Option.isSome_none, Option.isNone_some, Option.isNone_none, false_and, and_false, ↓C.catnaplaw3_GraphJoins_W, C.catnaplaw3_GraphJoins_B, C.catnaplaw3_GraphJoins, hz6, hz7, Int.toNat_natCast, Nat.mul_one, k1, hrv, hwj]
    refine ⟨j + 1, rfl, ⟨hjl, _, k2, by simpa using hJ.1, fun w hwB => ?_⟩, by omega⟩
    have hwB' : w < B.length := by simpa using hwB
    by_cases e : w = 6 + v
    · subst e
      rw [List.getElem_set_self, hB6, if_neg (by omega), if_neg (by omega), if_pos (by omega), List.take_succ_eq_append_getElem hjl]
      simp only [shift, List.map_append, List.map_cons, List.map_nil]
      rfl
    · rw [List.getElem_set_ne (Ne.symm e), hJ.2 w hwB']
      by_cases h6 : w < 6
      · simp only [if_pos h6]
      · rw [if_neg h6, if_neg h6]
        by_cases h7 : w - 6 < v
        · rw [if_pos h7, if_pos h7]
        · rw [if_neg h7, if_neg h7, if_neg (by omega), if_neg (by omega)]
  clear hN hJ B
  rintro - s ⟨B, hN, hJ⟩
  have hBl := hJ.1
  have hbes : Beside g h B := by
    refine ⟨by omega, fun v hv => ?_, fun v hv => ?_⟩
    · rw [List.getElem?_eq_getElem (by omega), hJ.2 v (by omega), if_pos (by omega), if_pos (by omega), List.getElem?_eq_getElem hv]; rfl
    · rw [hgn, List.getElem?_eq_getElem (by omega), hJ.2 (6 + v) (by omega), if_neg (by omega), if_pos (by omega), Nat.add_sub_cancel_left, List.getElem?_eq_getElem hv]; rfl
  have hRB := beside_right hbes hR.ok hRh.ok hR hRh
  have hrowB : ∀ w (hw : w < B.length), B[w].length ≤ 40 := by
    intro w hw
    rw [hJ.2 w hw]
    split
    · rw [List.getElem?_eq_getElem (by omega)]
      exact (hF w (by omega)).1
    · rw [if_pos (by omega), List.getElem?_eq_getElem (by omega)]
      simp only [Option.getD_some, shift, List.length_map]
      exact (hH _ (by omega)).1
  have hgB : Gr.few B := ⟨by omega, fun r hr => by
    obtain ⟨i, hi, rfl⟩ := List.getElem_of_mem hr
    have := hrowB i hi; omega⟩
  obtain ⟨st1, g1, g2, g3⟩ := hN.freeze .any
  clear hN
  refine awp_ghost (FGhost.ofAny g1 _) ?_
  have hview : SView st1 (.sl 1 id 0 11) (.isl 1 (B.map row) B.length) := by
    have := SView.graphVal g3
    rw [hBl] at this ⊢
    exact this
  clear g1 hst
  have hn0 : ∀ x : Int, x = x := fun _ => rfl
  simp only [↓Bp, Bq, ↓aop.eq_28, ↓aop.eq_30, ↓initFr, aeqP, abinv, abin, aun, bound, aslice, aput, putN, zeros, heldOk, aheadOk, IOp.again, List.map_cons, List.map_nil, List.append_nil, List.nil_append, Nat.reduceEqDiff, Nat.reduceAdd, Nat.reduceMul, Nat.reduceSub, Nat.reduceLeDiff, Nat.reduceLT, Int.reduceLT, Int.reduceLE, Int.reduceEq, Int.reduceToNat, Int.reduceAdd, Int.reduceSub, Int.reduceNeg, not_false_eq_true, not_true_eq_false, if_true, if_false, Bool.false_xor, Bool.true_xor, Bool.false_eq_true, Bool.true_eq_false, Bool.not_true, Bool.not_false, decide_true, decide_false, Nat.zero_add, Nat.add_zero, List.getElem?_cons_zero, List.getElem?_cons_succ, true_and, and_true, and_self, List.length_cons, List.length_nil, ↓reduceIte, reduceCtorEq, Option.some_or, Option.none_or, Option.or_none, eq_self, Option.map_some, List.length_set, List.set_cons_zero, List.set_cons_succ, List.cons_append, List.drop_zero, List.drop_succ_cons, List.take_succ_cons, List.take_zero, List.all_cons, List.all_nil, Bool.and_true, Option.isSome_some, Option.isSome_none, Option.isNone_some, Option.isNone_none, false_and, and_false, ↓C.catnaplaw3_GraphJoins_W, C.catnaplaw3_GraphJoins_B, C.catnaplaw3_GraphJoins]
  refine (pick_spec (n := 6) ha (by omega)).mono ?_
  rintro r s3 ⟨rfl, rfl⟩
  have hul := pickI_lt a_ (n := 6) (by omega)
  generalize pickI a_ 6 = u at hul
  simp only [↓Bp, Bq, ↓aop.eq_28, ↓aop.eq_30, ↓initFr, aeqP, abinv, abin, aun, bound, aslice, aput, putN, zeros, heldOk, aheadOk, IOp.again, List.map_cons, List.map_nil, List.append_nil, List.nil_append, Nat.reduceEqDiff, Nat.reduceAdd, Nat.reduceMul, Nat.reduceSub, Nat.reduceLeDiff, Nat.reduceLT, Int.reduceLT, Int.reduceLE, Int.reduceEq, Int.reduceToNat, Int.reduceAdd, Int.reduceSub, Int.reduceNeg, not_false_eq_true, not_true_eq_false, if_true, if_false, Bool.false_xor, Bool.true_xor, Bool.false_eq_true, Bool.true_eq_false, Bool.not_true, Bool.not_false, decide_true, decide_false, Nat.zero_add, Nat.add_zero, List.getElem?_cons_zero, List.getElem?_cons_succ, true_and, and_true, and_self, List.length_cons, List.length_nil, ↓reduceIte, reduceCtorEq, Option.some_or, Option.none_or, Option.or_none, eq_self, Option.map_some, List.length_set, List.set_cons_zero, List.set_cons_succ, List.cons_append, List.drop_zero, List.drop_succ_cons, List.take_succ_cons, List.take_zero, List.all_cons, List.all_nil, Bool.and_true, Option.isSome_some, Option.isSome_none, Option.isNone_some, Option.isNone_none, false_and, and_false, ↓C.catnaplaw3_GraphJoins_W, C.catnaplaw3_GraphJoins_B, C.catnaplaw3_GraphJoins]
  refine (pick_spec (n := 5) hb (by omega)).mono ?_
  rintro r s4 ⟨rfl, rfl⟩
  have hwl := pickI_lt b_ (n := 5) (by omega)
  generalize pickI b_ 5 = w at hwl
  obtain ⟨a1, a2, -⟩ := right_above hR (by omega) (v := u) (by omega)
  obtain ⟨b1, b2, -⟩ := right_above hRB (by omega) (v := u) (by omega)
  obtain ⟨c1, c2, -⟩ := right_above hRh (by omega) (v := w) (by omega)
  rw [beside_above hbes hR.ok hRh.ok hR (by omega)] at b2
  simp only [↓Bp, Bq, ↓aop.eq_28, ↓aop.eq_30, ↓initFr, aeqP, abinv, abin, aun, bound, aslice, aput, putN, zeros, heldOk, aheadOk, IOp.again, List.map_cons, List.map_nil, List.append_nil, List.nil_append, Nat.reduceEqDiff, Nat.reduceAdd, Nat.reduceMul, Nat.reduceSub, Nat.reduceLeDiff, Nat.reduceLT, Int.reduceLT, Int.reduceLE, Int.reduceEq, Int.reduceToNat, Int.reduceAdd, Int.reduceSub, Int.reduceNeg, not_false_eq_true, not_true_eq_false, if_true, if_false, Bool.false_xor, Bool.true_xor, Bool.false_eq_true, Bool.true_eq_false, Bool.not_true, Bool.not_false, decide_true, decide_false, Nat.zero_add, Nat.add_zero, List.getElem?_cons_zero, List.getElem?_cons_succ, true_and, and_true, and_self, List.length_cons, List.length_nil, ↓reduceIte, reduceCtorEq, Option.some_or, Option.none_or, Option.or_none, eq_self, Option.map_some, List.length_set, List.set_cons_zero, List.set_cons_succ, List.cons_append, List.drop_zero, List.drop_succ_cons, List.take_succ_cons, List.take_zero, List.all_cons, List.all_nil, Bool.and_true, Option.isSome_some, Option.isSome_none, Option.isNone_some, Option.isNone_none, false_and, and_false, ↓C.catnaplaw3_GraphJoins_W, C.catnaplaw3_GraphJoins_B, C.catnaplaw3_GraphJoins]
  refine (above_spec hg u).mono ?_
  rintro r s5 ⟨rfl, rfl⟩
  simp only [↓Bp, Bq, ↓aop.eq_28, ↓aop.eq_30, ↓initFr, aeqP, abinv, abin, aun, bound, aslice, aput, putN, zeros, heldOk, aheadOk, IOp.again, List.map_cons, List.map_nil, List.append_nil, List.nil_append, Nat.reduceEqDiff, Nat.reduceAdd, Nat.reduceMul, Nat.reduceSub, Nat.reduceLeDiff, Nat.reduceLT, Int.reduceLT, Int.reduceLE, Int.reduceEq, Int.reduceToNat, Int.reduceAdd, Int.reduceSub, Int.reduceNeg, not_false_eq_true, not_true_eq_false, if_true, if_false, Bool.false_xor, Bool.true_xor, Bool.false_eq_true, Bool.true_eq_false, Bool.not_true, Bool.not_false, decide_true, decide_false, Nat.zero_add, Nat.add_zero, List.getElem?_cons_zero, List.getElem?_cons_succ, true_and, and_true, and_self, List.length_cons, List.length_nil, ↓reduceIte, reduceCtorEq, Option.some_or, Option.none_or, Option.or_none, eq_self, Option.map_some, List.length_set, List.set_cons_zero, List.set_cons_succ, List.cons_append, List.drop_zero, List.drop_succ_cons, List.take_succ_cons, List.take_zero, List.all_cons, List.all_nil, Bool.and_true, Option.isSome_some, Option.isSome_none, Option.isNone_some, Option.isNone_none, false_and, and_false, ↓C.catnaplaw3_GraphJoins_W, C.catnaplaw3_GraphJoins_B, C.catnaplaw3_GraphJoins]
  refine (aboveB hgB hview u).mono ?_
  rintro r s6 ⟨rfl, rfl⟩
  have sa := above_small hg u
  rw [a2] at sa
  simp only [↓Bp, Bq, ↓aop.eq_28, ↓aop.eq_30, ↓initFr, aeqP, abinv, abin, aun, bound, aslice, aput, putN, zeros, heldOk, aheadOk, IOp.again, List.map_cons, List.map_nil, List.append_nil, List.nil_append, Nat.reduceEqDiff, Nat.reduceAdd, Nat.reduceMul, Nat.reduceSub, Nat.reduceLeDiff, Nat.reduceLT, Int.reduceLT, Int.reduceLE, Int.reduceEq, Int.reduceToNat, Int.reduceAdd, Int.reduceSub, Int.reduceNeg, not_false_eq_true, not_true_eq_false, if_true, if_false, Bool.false_xor, Bool.true_xor, Bool.false_eq_true, Bool.true_eq_false, Bool.not_true, Bool.not_false, decide_true, decide_false, Nat.zero_add, Nat.add_zero, List.getElem?_cons_zero, List.getElem?_cons_succ, true_and, and_true, and_self, List.length_cons, List.length_nil, ↓reduceIte, reduceCtorEq, Option.some_or, Option.none_or, Option.or_none, eq_self, Option.map_some, List.length_set, List.set_cons_zero, List.set_cons_succ, List.cons_append, List.drop_zero, List.drop_succ_cons, List.take_succ_cons, List.take_zero, List.all_cons, List.all_nil, Bool.and_true, Option.isSome_some, Option.isSome_none, Option.isNone_some, Option.isNone_none, false_and, and_false, ↓C.catnaplaw3_GraphJoins_W, C.catnaplaw3_GraphJoins_B, C.catnaplaw3_GraphJoins, a1, a2, b1, b2, row]
  refine (same_spec (by rw [nats_length]; exact sa)).mono ?_
  rintro r s7 ⟨rfl, rfl⟩
  simp only [↓Bp, Bq, ↓aop.eq_28, ↓aop.eq_30, ↓initFr, aeqP, abinv, abin, aun, bound, aslice, aput, putN, zeros, heldOk, aheadOk, IOp.again, List.map_cons, List.map_nil, List.append_nil, List.nil_append, Nat.reduceEqDiff, Nat.reduceAdd, Nat.reduceMul, Nat.reduceSub, Nat.reduceLeDiff, Nat.reduceLT, Int.reduceLT, Int.reduceLE, Int.reduceEq, Int.reduceToNat, Int.reduceAdd, Int.reduceSub, Int.reduceNeg, not_false_eq_true, not_true_eq_false, if_true, if_false, Bool.false_xor, Bool.true_xor, Bool.false_eq_true, Bool.true_eq_false, Bool.not_true, Bool.not_false, decide_true, decide_false, Nat.zero_add, Nat.add_zero, List.getElem?_cons_zero, List.getElem?_cons_succ, true_and, and_true, and_self, List.length_cons, List.length_nil, ↓reduceIte, reduceCtorEq, Option.some_or, Option.none_or, Option.or_none, eq_self, Option.map_some, List.length_set, List.set_cons_zero, List.set_cons_succ, List.cons_append, List.drop_zero, List.drop_succ_cons, List.take_succ_cons, List.take_zero, List.all_cons, List.all_nil, Bool.and_true, Option.isSome_some, Option.isSome_none, Option.isNone_some, Option.isNone_none, false_and, and_false, ↓C.catnaplaw3_GraphJoins_W, C.catnaplaw3_GraphJoins_B, C.catnaplaw3_GraphJoins]
  refine (above_spec hh w).mono ?_
  rintro r s8 ⟨rfl, rfl⟩
  have h6w : 6 + w < B.length := by omega
  have huB : u < B.length := by omega
  have hz6 : (0:Int) ≤ ((6 + w : Nat) : Int) ∧ ((6 + w : Nat) : Int) < ((11 : Nat) : Int) := by omega
  have hz7 : (0:Int) ≤ ((6 + w : Nat) : Int) ∧ ((6 + w : Nat) : Int) < 11 := by omega
  have hw6 : IntKind.i64.wrap (6 + (w : Int)) = ((6 + w : Nat) : Int) := by rw [wrap64] <;> omega
  have hrb := hrowB _ h6w
  obtain ⟨m1, m2, m3⟩ := joined_above hRB (by omega) (v := 6 + w) (u := u) h6w huB (by omega)
    (fun k => by
      have := (beside_up1 hbes hR.ok hRh.ok (by omega)).mp k
      have := (this.lt hR.ok).2
      omega)
    (fun y k => by
      have k2 := (beside_up2 hbes hR.ok hRh.ok (v := w) (by omega)).mp (by rw [hgn]; exact k)
      obtain ⟨x, _, rfl⟩ := k2
      refine ⟨by omega, fun k3 => ?_⟩
      have := (beside_up1 hbes hR.ok hRh.ok (by omega)).mp k3
      have := (this.lt hR.ok).2
      omega)
  have hcnt : (aboveL B (6 + w)).length = (aboveL h w).length := by
    refine Nat.le_antisymm ?_ ?_
    · have := nodup_len (aboveL_nodup B (6 + w)) (k := (aboveL h w).map (6 + ·)) (fun y hy => by
        have k2 := (beside_up2 hbes hR.ok hRh.ok (v := w) (by omega)).mp (by rw [hgn]; exact (mem_aboveL hRB).mp hy)
        obtain ⟨x, hx, rfl⟩ := k2
        exact List.mem_map.mpr ⟨x, (mem_aboveL hRh).mpr hx, by rw [hgn]⟩)
      simpa using this
    · have hnd : ((aboveL h w).map (6 + ·)).Nodup := by
        rw [List.nodup_iff_pairwise_ne, List.pairwise_map]
        refine List.Pairwise.imp ?_ (aboveL_nodup h w)
        intro a b hne he
        exact hne (by omega)
      have := nodup_len hnd (k := aboveL B (6 + w)) (fun y hy => by
        obtain ⟨x, hx, rfl⟩ := List.mem_map.mp hy
        have k2 := (beside_up2 hbes hR.ok hRh.ok (v := w) (by omega)).mpr ⟨x, (mem_aboveL hRh).mp hx, rfl⟩
        rw [hgn] at k2
        exact (mem_aboveL hRB).mpr k2)
      simpa using this
  rw [hcnt, beside_above hbes hR.ok hRh.ok hR (by omega)] at m2
  -- behind the edge
  have hfin : ∀ (fr : AFr) (s2 : ASt) (i2 : Nat), fr.keep [12, 16, 17, 18, 22, 23] = [(12, .sl 1 id 0 11), (16, .int .i64 u), (17, .int .i64 w), (18, .isl 1 (ints (nats (aboveL g u))) (nats (aboveL g u)).length), (22, .isl 1 (ints (nats (aboveL h w))) (nats (aboveL h w)).length), (23, .int .i64 0)] →
      s2.h id = some (.cells ((B.map row).set (6 + w) (.sl 1 i2 0 (B[6 + w].length + 1)))) → s2.h i2 = some (.cells (ints (B[6 + w] ++ [(u : Int)]))) →
      awp Try.prog C.catnaplaw3_GraphJoins_c2 (Post [.slot 8] fun r _ => r = .bool true) fr s2 := by
    intro fr s2 i2 hfr h1 h2
    rw [C.catnaplaw3_GraphJoins_c2_w, awp_keep, hfr]
    have hl3 : (B.set (6 + w) (B[6 + w] ++ [(u : Int)])).length = 11 := by simp; exact hBl
    have hv2 : SView s2 (.sl 1 id 0 11) (.isl 1 ((B.set (6 + w) (B[6 + w] ++ [(u : Int)])).map row) (B.set (6 + w) (B[6 + w] ++ [(u : Int)])).length) := by
      have := SView.graph (st := s2) (id := id) (g := B.set (6 + w) (B[6 + w] ++ [(u : Int)])) h1 (by simp) fun i q1 q2 => by
        by_cases e : i = 6 + w
        · subst e
          simp only [List.getElem_set_self]
          have := SView.row h2
          simpa using this
        · simp only [List.getElem_set_ne (Ne.symm e), List.getElem_map]
          exact SView.pure (row_pure _)
      rw [hl3] at this ⊢
      exact this
    have hg2 : Gr.few (B.set (6 + w) (B[6 + w] ++ [(u : Int)])) := ⟨by omega, fun r hr => by
      obtain ⟨i, hi, rfl⟩ := List.getElem_of_mem hr
      have hi' : i < B.length := by simpa using hi
      by_cases e : i = 6 + w
      · subst e; simp; omega
      · rw [List.getElem_set_ne (Ne.symm e)]; have := hrowB i hi'; omega⟩
    obtain ⟨d1, d2, -⟩ := right_above m1 (by omega) (v := 6 + w) (by omega)
    have sd := above_small hg2 ((6 + w : Nat) : Int)
    rw [d2] at sd
    have hsum : IntKind.i64.wrap (IntKind.i64.wrap (((aboveL h w).length : Int) + ((aboveL g u).length : Int)) + 1) = (((aboveL h w).length + (aboveL g u).length + 1 : Nat) : Int) := by
      have x1 : (aboveL h w).length ≤ (ord h).length := List.length_filter_le _ _
      have x2 : (aboveL g u).length ≤ (ord g).length := List.length_filter_le _ _
      have x3 := hRh.full
      have x4 := hR.full
      have e1 : IntKind.i64.wrap (((aboveL h w).length : Int) + ((aboveL g u).length : Int)) = (((aboveL h w).length + (aboveL g u).length : Nat) : Int) := by rw [wrap64] <;> omega
      rw [e1, wrap64] <;> omega
    have hin : (u : Int) ∈ nats (aboveL (B.set (6 + w) (B[6 + w] ++ [(u : Int)])) (6 + w)) := mem_nats.mpr m3
    simp only [↓Bp, Bq, ↓aop.eq_28, ↓aop.eq_30, ↓initFr, aeqP, abinv, abin, aun, bound, aslice, aput, putN, zeros, heldOk, aheadOk, IOp.again, List.map_cons, List.map_nil, List.append_nil, List.nil_append, Nat.reduceEqDiff, Nat.reduceAdd, Nat.reduceMul, Nat.reduceSub, Nat.reduceLeDiff, Nat.reduceLT, Int.reduceLT, Int.reduceLE, Int.reduceEq, Int.reduceToNat, Int.reduceAdd, Int.reduceSub, Int.reduceNeg, not_false_eq_true, not_true_eq_false, if_true, if_false, Bool.false_xor, Bool.true_xor, Bool.false_eq_true, Bool.true_eq_false, Bool.not_true, Bool.not_false, decide_true, decide_false, Nat.zero_add, Nat.add_zero, List.getElem?_cons_zero, List.getElem?_cons_succ, true_and, and_true, and_self, List.length_cons, List.length_nil, ↓reduceIte, reduceCtorEq, Option.some_or, Option.none_or, Option.or_none, eq_self, Option.map_some, List.length_set, List.set_cons_zero, List.set_cons_succ, List.cons_append, List.drop_zero, List.drop_succ_cons, List.take_succ_cons, List.take_zero, List.all_cons, List.all_nil, Bool.and_true, Option.isSome_some, Option.isSome_none, Option.isNone_some, Option.isNone_none, false_and, and_false, ↓C.catnaplaw3_GraphJoins_W, C.catnaplaw3_GraphJoins_B, C.catnaplaw3_GraphJoins, hw6]
    refine (aboveB hg2 hv2 _).mono ?_
    rintro r s3 ⟨rfl, rfl⟩
    have hq : (((aboveL (B.set (6 + w) (B[6 + w] ++ [(u : Int)])) (6 + w)).length : Nat) : Int) = (((aboveL h w).length + (aboveL g u).length + 1 : Nat) : Int) := by rw [m2]
    simp only [↓Bp, Bq, ↓aop.eq_28, ↓aop.eq_30, ↓initFr, aeqP, abinv, abin, aun, bound, aslice, aput, putN, zeros, heldOk, aheadOk, IOp.again, List.map_cons, List.map_nil, List.append_nil, List.nil_append, Nat.reduceEqDiff, Nat.reduceAdd, Nat.reduceMul, Nat.reduceSub, Nat.reduceLeDiff, Nat.reduceLT, Int.reduceLT, Int.reduceLE, Int.reduceEq, Int.reduceToNat, Int.reduceAdd, Int.reduceSub, Int.reduceNeg, not_false_eq_true, not_true_eq_false, if_true, if_false, Bool.false_xor, Bool.true_xor, Bool.false_eq_true, Bool.true_eq_false, Bool.not_true, Bool.not_false, decide_true, decide_false, Nat.zero_add, Nat.add_zero, List.getElem?_cons_zero, List.getElem?_cons_succ, true_and, and_true, and_self, List.length_cons, List.length_nil, ↓reduceIte, reduceCtorEq, Option.some_or, Option.none_or, Option.or_none, eq_self, Option.map_some, List.length_set, List.set_cons_zero, List.set_cons_succ, List.cons_append, List.drop_zero, List.drop_succ_cons, List.take_succ_cons, List.take_zero, List.all_cons, List.all_nil, Bool.and_true, Option.isSome_some, Option.isSome_none, Option.isNone_some, Option.isNone_none, false_and, and_false, ↓C.catnaplaw3_GraphJoins_W, C.catnaplaw3_GraphJoins_B, C.catnaplaw3_GraphJoins, d1, d2, row, nats_length, hsum, hq]
    have hh2 := refHas_spec (st := s3) (l := nats (aboveL (B.set (6 + w) (B[6 + w] ++ [(u : Int)])) (6 + w))) (by rw [nats_length]; exact sd) (u : Int)
    rw [nats_length] at hh2
    refine hh2.mono ?_
    rintro r s4 ⟨rfl, rfl⟩
    simp only [↓Bp, Bq, ↓aop.eq_28, ↓aop.eq_30, ↓initFr, aeqP, abinv, abin, aun, bound, aslice, aput, putN, zeros, heldOk, aheadOk, IOp.again, List.map_cons, List.map_nil, List.append_nil, List.nil_append, Nat.reduceEqDiff, Nat.reduceAdd, Nat.reduceMul, Nat.reduceSub, Nat.reduceLeDiff, Nat.reduceLT, Int.reduceLT, Int.reduceLE, Int.reduceEq, Int.reduceToNat, Int.reduceAdd, Int.reduceSub, Int.reduceNeg, not_false_eq_true, not_true_eq_false, if_true, if_false, Bool.false_xor, Bool.true_xor, Bool.false_eq_true, Bool.true_eq_false, Bool.not_true, Bool.not_false, decide_true, decide_false, Nat.zero_add, Nat.add_zero, List.getElem?_cons_zero, List.getElem?_cons_succ, true_and, and_true, and_self, List.length_cons, List.length_nil, ↓reduceIte, reduceCtorEq, Option.some_or, Option.none_or, Option.or_none, eq_self, Option.map_some, List.length_set, List.set_cons_zero, List.set_cons_succ, List.cons_append, List.drop_zero, List.drop_succ_cons, List.take_succ_cons, List.take_zero, List.all_cons, List.all_nil, Bool.and_true, Option.isSome_some, Option.isSome_none, Option.isNone_some, Option.isNone_none, false_and, and_false, ↓C.catnaplaw3_GraphJoins_W, C.catnaplaw3_GraphJoins_B, C.catnaplaw3_GraphJoins, hin]
  have hid3 := g3
  rw [c1, c2]
  by_cases h0 : B[6 + w].length = 0
  · have hnil : B[6 + w] = [] := List.eq_nil_of_length_eq_zero h0
    simp only [↓Bp, Bq, ↓aop.eq_28, ↓aop.eq_30, ↓initFr, aeqP, abinv, abin, aun, bound, aslice, aput, putN, zeros, heldOk, aheadOk, IOp.again, List.map_cons, List.map_nil, List.append_nil, List.nil_append, Nat.reduceEqDiff, Nat.reduceAdd, Nat.reduceMul, Nat.reduceSub, Nat.reduceLeDiff, Nat.reduceLT, Int.reduceLT, Int.reduceLE, Int.reduceEq, Int.reduceToNat, Int.reduceAdd, Int.reduceSub, Int.reduceNeg, not_false_eq_true, not_true_eq_false, if_true, if_false, Bool.false_xor, Bool.true_xor, Bool.false_eq_true, Bool.true_eq_false, Bool.not_true, Bool.not_false, decide_true, decide_false, Nat.zero_add, Nat.add_zero, List.getElem?_cons_zero, List.getElem?_cons_succ, true_and, and_true, and_self, List.length_cons, List.length_nil, ↓reduceIte, reduceCtorEq, Option.some_or, Option.none_or, Option.or_none, eq_self, Option.map_some, List.length_set, List.set_cons_zero, List.set_cons_succ, List.cons_append, List.drop_zero, List.drop_succ_cons, List.take_succ_cons, List.take_zero, List.all_cons, List.all_nil, Bool.and_true, Option.isSome_some, Option.isSome_none, Option.isNone_some, Option.isNone_none, false_and, and_false, ↓C.catnaplaw3_GraphJoins_r27_w, C.catnaplaw3_GraphJoins_r27_b, ↓C.catnaplaw3_GraphJoins_c1_w, ↓C.catnaplaw3_GraphJoins_r26_w, C.catnaplaw3_GraphJoins_r26_b, ↓C.catnaplaw3_GraphJoins_r25_w, C.catnaplaw3_GraphJoins_r25_b, ↓C.catnaplaw3_GraphJoins_c3_w, ↓C.catnaplaw3_GraphJoins_r24_w, C.catnaplaw3_GraphJoins_r24_b, ↓C.catnaplaw3_GraphJoins_c4_w, ↓C.catnaplaw3_GraphJoins_r23_w, C.catnaplaw3_GraphJoins_r23_b, ↓C.catnaplaw3_GraphJoins_c5_w, ↓C.catnaplaw3_GraphJoins_c6_w, ↓C.catnaplaw3_GraphJoins_r22_w, C.catnaplaw3_GraphJoins_r22_b, ↓C.catnaplaw3_GraphJoins_c7_w, ↓C.catnaplaw3_GraphJoins_r21_w, C.catnaplaw3_GraphJoins_r21_b, ↓C.catnaplaw3_GraphJoins_c8_w, ↓C.catnaplaw3_GraphJoins_r20_w, C.catnaplaw3_GraphJoins_r20_b, ↓C.catnaplaw3_GraphJoins_c9_w, ↓C.catnaplaw3_GraphJoins_r19_w, C.catnaplaw3_GraphJoins_r19_b, ↓C.catnaplaw3_GraphJoins_c10_w, ↓C.catnaplaw3_GraphJoins_r18_w, C.catnaplaw3_GraphJoins_r18_b, ↓C.catnaplaw3_GraphJoins_c11_w, ↓C.catnaplaw3_GraphJoins_r13_w, C.catnaplaw3_GraphJoins_r13_b, ↓C.catnaplaw3_GraphJoins_c12_w, ↓C.catnaplaw3_GraphJoins_r16_w, C.catnaplaw3_GraphJoins_r16_b, ↓C.catnaplaw3_GraphJoins_c13_w, ↓C.catnaplaw3_GraphJoins_r17_w, C.catnaplaw3_GraphJoins_r17_b, ↓C.catnaplaw3_GraphJoins_b14_w, ↓C.catnaplaw3_GraphJoins_c15_w, ↓C.catnaplaw3_GraphJoins_c16_w, ↓C.catnaplaw3_GraphJoins_r15_w, C.catnaplaw3_GraphJoins_r15_b, ↓C.catnaplaw3_GraphJoins_b18_w, ↓C.catnaplaw3_GraphJoins_c19_w, ↓C.catnaplaw3_GraphJoins_r14_w, C.catnaplaw3_GraphJoins_r14_b, ↓C.catnaplaw3_GraphJoins_b20_w, ↓C.catnaplaw3_GraphJoins_c21_w, ↓C.catnaplaw3_GraphJoins_c22_w, ↓C.catnaplaw3_GraphJoins_r12_w, C.catnaplaw3_GraphJoins_r12_b, ↓C.catnaplaw3_GraphJoins_b24_w, ↓C.catnaplaw3_GraphJoins_c25_w, ↓C.catnaplaw3_GraphJoins_r11_w, C.catnaplaw3_GraphJoins_r11_b, ↓C.catnaplaw3_GraphJoins_c26_w, ↓C.catnaplaw3_GraphJoins_r9_w, C.catnaplaw3_GraphJoins_r9_b, ↓C.catnaplaw3_GraphJoins_c27_w, ↓C.catnaplaw3_GraphJoins_r10_w, C.catnaplaw3_GraphJoins_r10_b, ↓C.catnaplaw3_GraphJoins_b28_w, ↓C.catnaplaw3_GraphJoins_c29_w, ↓C.catnaplaw3_GraphJoins_c30_w, ↓C.catnaplaw3_GraphJoins_r8_w, C.catnaplaw3_GraphJoins_r8_b, ↓C.catnaplaw3_GraphJoins_b32_w, ↓C.catnaplaw3_GraphJoins_c33_w, ↓C.catnaplaw3_GraphJoins_r7_w, C.catnaplaw3_GraphJoins_r7_b, ↓C.catnaplaw3_GraphJoins_c34_w, ↓C.catnaplaw3_GraphJoins_r6_w, C.catnaplaw3_GraphJoins_r6_b, ↓C.catnaplaw3_GraphJoins_c35_w, ↓C.catnaplaw3_GraphJoins_r5_w, C.catnaplaw3_GraphJoins_r5_b, ↓C.catnaplaw3_GraphJoins_c36_w, ↓C.catnaplaw3_GraphJoins_r4_w, C.catnaplaw3_GraphJoins_r4_b, ↓C.catnaplaw3_GraphJoins_c37_w, ↓C.catnaplaw3_GraphJoins_r3_w, C.catnaplaw3_GraphJoins_r3_b, ↓C.catnaplaw3_GraphJoins_c38_w, ↓C.catnaplaw3_GraphJoins_c39_w, ↓C.catnaplaw3_GraphJoins_r2_w, C.catnaplaw3_GraphJoins_r2_b, ↓C.catnaplaw3_GraphJoins_c40_w, ↓C.catnaplaw3_GraphJoins_r1_w, C.catnaplaw3_GraphJoins_r1_b, ↓C.catnaplaw3_GraphJoins_c41_w, ↓C.catnaplaw3_GraphJoins_r0_w, C.catnaplaw3_GraphJoins_r0_b, C.catnaplaw3_GraphJoins, row, hz6, hz7, hw6, Int.toNat_natCast, Nat.mul_one]
    intro i1 hi1
    have e1 : ¬ id = i1 := fun e => by rw [← e, hid3] at hi1; cases hi1
    simp only [↓Bp, Bq, ↓aop.eq_28, ↓aop.eq_30, ↓initFr, aeqP, abinv, abin, aun, bound, aslice, aput, putN, zeros, heldOk, aheadOk, IOp.again, List.map_cons, List.map_nil, List.append_nil, List.nil_append, Nat.reduceEqDiff, Nat.reduceAdd, Nat.reduceMul, Nat.reduceSub, Nat.reduceLeDiff, Nat.reduceLT, Int.reduceLT, Int.reduceLE, Int.reduceEq, Int.reduceToNat, Int.reduceAdd, Int.reduceSub, Int.reduceNeg, not_false_eq_true, not_true_eq_false, if_true, if_false, Bool.false_xor, Bool.true_xor, Bool.false_eq_true, Bool.true_eq_false, Bool.not_true, Bool.not_false, decide_true, decide_false, Nat.zero_add, Nat.add_zero, List.getElem?_cons_zero, List.getElem?_cons_succ, true_and, and_true, and_self, List.length_cons, List.length_nil, ↓reduceIte, reduceCtorEq, Option.some_or, Option.none_or, Option.or_none, eq_self, Option.map_some, List.length_set, List.set_cons_zero, List.set_cons_succ, List.cons_append, List.drop_zero, List.drop_succ_cons, List.take_succ_cons, List.take_zero, List.all_cons, List.all_nil, Bool.and_true, Option.isSome_some, Option.isSome_none, Option.isNone_some, Option.isNone_none, false_and, and_false, ↓C.catnaplaw3_GraphJoins_r27_w, C.catnaplaw3_GraphJoins_r27_b, ↓C.catnaplaw3_GraphJoins_c1_w, ↓C.catnaplaw3_GraphJoins_r26_w, C.catnaplaw3_GraphJoins_r26_b, ↓C.catnaplaw3_GraphJoins_r25_w, C.catnaplaw3_GraphJoins_r25_b, ↓C.catnaplaw3_GraphJoins_c3_w, ↓C.catnaplaw3_GraphJoins_r24_w, C.catnaplaw3_GraphJoins_r24_b, ↓C.catnaplaw3_GraphJoins_c4_w, ↓C.catnaplaw3_GraphJoins_r23_w, C.catnaplaw3_GraphJoins_r23_b, ↓C.catnaplaw3_GraphJoins_c5_w, ↓C.catnaplaw3_GraphJoins_c6_w, ↓C.catnaplaw3_GraphJoins_r22_w, C.catnaplaw3_GraphJoins_r22_b, ↓C.catnaplaw3_GraphJoins_c7_w, ↓C.catnaplaw3_GraphJoins_r21_w, C.catnaplaw3_GraphJoins_r21_b, ↓C.catnaplaw3_GraphJoins_c8_w, ↓C.catnaplaw3_GraphJoins_r20_w, C.catnaplaw3_GraphJoins_r20_b, ↓C.catnaplaw3_GraphJoins_c9_w, ↓C.catnaplaw3_GraphJoins_r19_w, C.catnaplaw3_GraphJoins_r19_b, ↓C.catnaplaw3_GraphJoins_c10_w, ↓C.catnaplaw3_GraphJoins_r18_w, C.catnaplaw3_GraphJoins_r18_b, ↓C.catnaplaw3_GraphJoins_c11_w, ↓C.catnaplaw3_GraphJoins_r13_w, C.catnaplaw3_GraphJoins_r13_b, ↓C.catnaplaw3_GraphJoins_c12_w, ↓C.catnaplaw3_GraphJoins_r16_w, C.catnaplaw3_GraphJoins_r16_b, ↓C.catnaplaw3_GraphJoins_c13_w, ↓C.catnaplaw3_GraphJoins_r17_w, C.catnaplaw3_GraphJoins_r17_b, ↓C.catnaplaw3_GraphJoins_b14_w, ↓C.catnaplaw3_GraphJoins_c15_w, ↓C.catnaplaw3_GraphJoins_c16_w, ↓C.catnaplaw3_GraphJoins_r15_w, C.catnaplaw3_GraphJoins_r15_b, ↓C.catnaplaw3_GraphJoins_b18_w, ↓C.catnaplaw3_GraphJoins_c19_w, ↓C.catnaplaw3_GraphJoins_r14_w, C.catnaplaw3_GraphJoins_r14_b, ↓C.catnaplaw3_GraphJoins_b20_w, ↓C.catnaplaw3_GraphJoins_c21_w, ↓C.catnaplaw3_GraphJoins_c22_w, ↓C.catnaplaw3_GraphJoins_r12_w, C.catnaplaw3_GraphJoins_r12_b, ↓C.catnaplaw3_GraphJoins_b24_w, ↓C.catnaplaw3_GraphJoins_c25_w, ↓C.catnaplaw3_GraphJoins_r11_w, C.catnaplaw3_GraphJoins_r11_b, ↓C.catnaplaw3_GraphJoins_c26_w, ↓C.catnaplaw3_GraphJoins_r9_w, C.catnaplaw3_GraphJoins_r9_b, ↓C.catnaplaw3_GraphJoins_c27_w, ↓C.catnaplaw3_GraphJoins_r10_w, C.catnaplaw3_GraphJoins_r10_b, ↓C.catnaplaw3_GraphJoins_b28_w, ↓C.catnaplaw3_GraphJoins_c29_w, ↓C.catnaplaw3_GraphJoins_c30_w, ↓C.catnaplaw3_GraphJoins_r8_w, C.catnaplaw3_GraphJoins_r8_b, ↓C.catnaplaw3_GraphJoins_b32_w, ↓C.catnaplaw3_GraphJoins_c33_w, ↓C.catnaplaw3_GraphJoins_r7_w, C.catnaplaw3_GraphJoins_r7_b, ↓C.catnaplaw3_GraphJoins_c34_w, ↓C.catnaplaw3_GraphJoins_r6_w, C.catnaplaw3_GraphJoins_r6_b, ↓C.catnaplaw3_GraphJoins_c35_w, ↓C.catnaplaw3_GraphJoins_r5_w, C.catnaplaw3_GraphJoins_r5_b, ↓C.catnaplaw3_GraphJoins_c36_w, ↓C.catnaplaw3_GraphJoins_r4_w, C.catnaplaw3_GraphJoins_r4_b, ↓C.catnaplaw3_GraphJoins_c37_w, ↓C.catnaplaw3_GraphJoins_r3_w, C.catnaplaw3_GraphJoins_r3_b, ↓C.catnaplaw3_GraphJoins_c38_w, ↓C.catnaplaw3_GraphJoins_c39_w, ↓C.catnaplaw3_GraphJoins_r2_w, C.catnaplaw3_GraphJoins_r2_b, ↓C.catnaplaw3_GraphJoins_c40_w, ↓C.catnaplaw3_GraphJoins_r1_w, C.catnaplaw3_GraphJoins_r1_b, ↓C.catnaplaw3_GraphJoins_c41_w, ↓C.catnaplaw3_GraphJoins_r0_w, C.catnaplaw3_GraphJoins_r0_b, C.catnaplaw3_GraphJoins, hz6, hz7, hw6, Int.toNat_natCast, Nat.mul_one, hi1, e1, hid3, rowsG h6w, hnil, ASt.seen, allLeaf, ints, Nat.le_refl]
    rintro i2 ⟨h2, n21⟩
    simp only [↓Bp, Bq, ↓aop.eq_28, ↓aop.eq_30, ↓initFr, aeqP, abinv, abin, aun, bound, aslice, aput, putN, zeros, heldOk, aheadOk, IOp.again, List.map_cons, List.map_nil, List.append_nil, List.nil_append, Nat.reduceEqDiff, Nat.reduceAdd, Nat.reduceMul, Nat.reduceSub, Nat.reduceLeDiff, Nat.reduceLT, Int.reduceLT, Int.reduceLE, Int.reduceEq, Int.reduceToNat, Int.reduceAdd, Int.reduceSub, Int.reduceNeg, not_false_eq_true, not_true_eq_false, if_true, if_false, Bool.false_xor, Bool.true_xor, Bool.false_eq_true, Bool.true_eq_false, Bool.not_true, Bool.not_false, decide_true, decide_false, Nat.zero_add, Nat.add_zero, List.getElem?_cons_zero, List.getElem?_cons_succ, true_and, and_true, and_self, List.length_cons, List.length_nil, ↓reduceIte, reduceCtorEq, Option.some_or, Option.none_or, Option.or_none, eq_self, Option.map_some, List.length_set, List.set_cons_zero, List.set_cons_succ, List.cons_append, List.drop_zero, List.drop_succ_cons, List.take_succ_cons, List.take_zero, List.all_cons, List.all_nil, Bool.and_true, Option.isSome_some, Option.isSome_none, Option.isNone_some, Option.isNone_none, false_and, and_false, ↓C.catnaplaw3_GraphJoins_r27_w, C.catnaplaw3_GraphJoins_r27_b, ↓C.catnaplaw3_GraphJoins_c1_w, ↓C.catnaplaw3_GraphJoins_r26_w, C.catnaplaw3_GraphJoins_r26_b, ↓C.catnaplaw3_GraphJoins_r25_w, C.catnaplaw3_GraphJoins_r25_b, ↓C.catnaplaw3_GraphJoins_c3_w, ↓C.catnaplaw3_GraphJoins_r24_w, C.catnaplaw3_GraphJoins_r24_b, ↓C.catnaplaw3_GraphJoins_c4_w, ↓C.catnaplaw3_GraphJoins_r23_w, C.catnaplaw3_GraphJoins_r23_b, ↓C.catnaplaw3_GraphJoins_c5_w, ↓C.catnaplaw3_GraphJoins_c6_w, ↓C.catnaplaw3_GraphJoins_r22_w, C.catnaplaw3_GraphJoins_r22_b, ↓C.catnaplaw3_GraphJoins_c7_w, ↓C.catnaplaw3_GraphJoins_r21_w, C.catnaplaw3_GraphJoins_r21_b, ↓C.catnaplaw3_GraphJoins_c8_w, ↓C.catnaplaw3_GraphJoins_r20_w, C.catnaplaw3_GraphJoins_r20_b, ↓C.catnaplaw3_GraphJoins_c9_w, ↓C.catnaplaw3_GraphJoins_r19_w, C.catnaplaw3_GraphJoins_r19_b, ↓C.catnaplaw3_GraphJoins_c10_w, ↓C.catnaplaw3_GraphJoins_r18_w, C.catnaplaw3_GraphJoins_r18_b, ↓C.catnaplaw3_GraphJoins_c11_w, ↓C.catnaplaw3_GraphJoins_r13_w, C.catnaplaw3_GraphJoins_r13_b, ↓C.catnaplaw3_GraphJoins_c12_w, ↓C.catnaplaw3_GraphJoins_r16_w, C.catnaplaw3_GraphJoins_r16_b, ↓C.catnaplaw3_GraphJoins_c13_w, ↓C.catnaplaw3_GraphJoins_r17_w, C.catnaplaw3_GraphJoins_r17_b, ↓C.catnaplaw3_GraphJoins_b14_w, ↓C.catnaplaw3_GraphJoins_c15_w, ↓C.catnaplaw3_GraphJoins_c16_w, ↓C.catnaplaw3_GraphJoins_r15_w, C.catnaplaw3_GraphJoins_r15_b, ↓C.catnaplaw3_GraphJoins_b18_w, ↓C.catnaplaw3_GraphJoins_c19_w, ↓C.catnaplaw3_GraphJoins_r14_w, C.catnaplaw3_GraphJoins_r14_b, ↓C.catnaplaw3_GraphJoins_b20_w, ↓C.catnaplaw3_GraphJoins_c21_w, ↓C.catnaplaw3_GraphJoins_c22_w, ↓C.catnaplaw3_GraphJoins_r12_w, C.catnaplaw3_GraphJoins_r12_b, ↓C.catnaplaw3_GraphJoins_b24_w, ↓C.catnaplaw3_GraphJoins_c25_w, ↓C.catnaplaw3_GraphJoins_r11_w, C.catnaplaw3_GraphJoins_r11_b, ↓C.catnaplaw3_GraphJoins_c26_w, ↓C.catnaplaw3_GraphJoins_r9_w, C.catnaplaw3_GraphJoins_r9_b, ↓C.catnaplaw3_GraphJoins_c27_w, ↓C.catnaplaw3_GraphJoins_r10_w, C.catnaplaw3_GraphJoins_r10_b, ↓C.catnaplaw3_GraphJoins_b28_w, ↓C.catnaplaw3_GraphJoins_c29_w, ↓C.catnaplaw3_GraphJoins_c30_w, ↓C.catnaplaw3_GraphJoins_r8_w, C.catnaplaw3_GraphJoins_r8_b, ↓C.catnaplaw3_GraphJoins_b32_w, ↓C.catnaplaw3_GraphJoins_c33_w, ↓C.catnaplaw3_GraphJoins_r7_w, C.catnaplaw3_GraphJoins_r7_b, ↓C.catnaplaw3_GraphJoins_c34_w, ↓C.catnaplaw3_GraphJoins_r6_w, C.catnaplaw3_GraphJoins_r6_b, ↓C.catnaplaw3_GraphJoins_c35_w, ↓C.catnaplaw3_GraphJoins_r5_w, C.catnaplaw3_GraphJoins_r5_b, ↓C.catnaplaw3_GraphJoins_c36_w, ↓C.catnaplaw3_GraphJoins_r4_w, C.catnaplaw3_GraphJoins_r4_b, ↓C.catnaplaw3_GraphJoins_c37_w, ↓C.catnaplaw3_GraphJoins_r3_w, C.catnaplaw3_GraphJoins_r3_b, ↓C.catnaplaw3_GraphJoins_c38_w, ↓C.catnaplaw3_GraphJoins_c39_w, ↓C.catnaplaw3_GraphJoins_r2_w, C.catnaplaw3_GraphJoins_r2_b, ↓C.catnaplaw3_GraphJoins_c40_w, ↓C.catnaplaw3_GraphJoins_r1_w, C.catnaplaw3_GraphJoins_r1_b, ↓C.catnaplaw3_GraphJoins_c41_w, ↓C.catnaplaw3_GraphJoins_r0_w, C.catnaplaw3_GraphJoins_r0_b, C.catnaplaw3_GraphJoins, h2, n21, Nat.le_refl]
    rintro i3 ⟨⟨h3, n31⟩, n32⟩
    have e3 : ¬ id = i3 := fun e => by rw [← e, hid3] at h3; cases h3
    have e3' : ¬ i3 = id := fun e => e3 e.symm
    simp only [↓Bp, Bq, ↓aop.eq_28, ↓aop.eq_30, ↓initFr, aeqP, abinv, abin, aun, bound, aslice, aput, putN, zeros, heldOk, aheadOk, IOp.again, List.map_cons, List.map_nil, List.append_nil, List.nil_append, Nat.reduceEqDiff, Nat.reduceAdd, Nat.reduceMul, Nat.reduceSub, Nat.reduceLeDiff, Nat.reduceLT, Int.reduceLT, Int.reduceLE, Int.reduceEq, Int.reduceToNat, Int.reduceAdd, Int.reduceSub, Int.reduceNeg, not_false_eq_true, not_true_eq_false, if_true, if_false, Bool.false_xor, Bool.true_xor, Bool.false_eq_true, Bool.true_eq_false, Bool.not_true, Bool.not_false, decide_true, decide_false, Nat.zero_add, Nat.add_zero, List.getElem?_cons_zero, List.getElem?_cons_succ, true_and, and_true, and_self, List.length_cons, List.length_nil, ↓reduceIte, reduceCtorEq, Option.some_or, Option.none_or, Option.or_none, eq_self, Option.map_some, List.length_set, List.set_cons_zero, List.set_cons_succ, List.cons_append, List.drop_zero, List.drop_succ_cons, List.take_succ_cons, List.take_zero, List.all_cons, List.all_nil, Bool.and_true, Option.isSome_some, Option.isSome_none, Option.isNone_some, Option.isNone_none, false_and, and_false, ↓C.catnaplaw3_GraphJoins_r27_w, C.catnaplaw3_GraphJoins_r27_b, ↓C.catnaplaw3_GraphJoins_c1_w, ↓C.catnaplaw3_GraphJoins_r26_w, C.catnaplaw3_GraphJoins_r26_b, ↓C.catnaplaw3_GraphJoins_r25_w, C.catnaplaw3_GraphJoins_r25_b, ↓C.catnaplaw3_GraphJoins_c3_w, ↓C.catnaplaw3_GraphJoins_r24_w, C.catnaplaw3_GraphJoins_r24_b, ↓C.catnaplaw3_GraphJoins_c4_w, ↓C.catnaplaw3_GraphJoins_r23_w, C.catnaplaw3_GraphJoins_r23_b, ↓C.catnaplaw3_GraphJoins_c5_w, ↓C.catnaplaw3_GraphJoins_c6_w, ↓C.catnaplaw3_GraphJoins_r22_w, C.catnaplaw3_GraphJoins_r22_b, ↓C.catnaplaw3_GraphJoins_c7_w, ↓C.catnaplaw3_GraphJoins_r21_w, C.catnaplaw3_GraphJoins_r21_b, ↓C.catnaplaw3_GraphJoins_c8_w, ↓C.catnaplaw3_GraphJoins_r20_w, C.catnaplaw3_GraphJoins_r20_b, ↓C.catnaplaw3_GraphJoins_c9_w, ↓C.catnaplaw3_GraphJoins_r19_w, C.catnaplaw3_GraphJoins_r19_b, ↓C.catnaplaw3_GraphJoins_c10_w, ↓C.catnaplaw3_GraphJoins_r18_w, C.catnaplaw3_GraphJoins_r18_b, ↓C.catnaplaw3_GraphJoins_c11_w, ↓C.catnaplaw3_GraphJoins_r13_w, C.catnaplaw3_GraphJoins_r13_b, ↓C.catnaplaw3_GraphJoins_c12_w, ↓C.catnaplaw3_GraphJoins_r16_w, C.catnaplaw3_GraphJoins_r16_b, ↓C.catnaplaw3_GraphJoins_c13_w, ↓C.catnaplaw3_GraphJoins_r17_w, C.catnaplaw3_GraphJoins_r17_b, ↓C.catnaplaw3_GraphJoins_b14_w, ↓C.catnaplaw3_GraphJoins_c15_w, ↓C.catnaplaw3_GraphJoins_c16_w, ↓C.catnaplaw3_GraphJoins_r15_w, C.catnaplaw3_GraphJoins_r15_b, ↓C.catnaplaw3_GraphJoins_b18_w, ↓C.catnaplaw3_GraphJoins_c19_w, ↓C.catnaplaw3_GraphJoins_r14_w, C.catnaplaw3_GraphJoins_r14_b, ↓C.catnaplaw3_GraphJoins_b20_w, ↓C.catnaplaw3_GraphJoins_c21_w, ↓C.catnaplaw3_GraphJoins_c22_w, ↓C.catnaplaw3_GraphJoins_r12_w, C.catnaplaw3_GraphJoins_r12_b, ↓C.catnaplaw3_GraphJoins_b24_w, ↓C.catnaplaw3_GraphJoins_c25_w, ↓C.catnaplaw3_GraphJoins_r11_w, C.catnaplaw3_GraphJoins_r11_b, ↓C.catnaplaw3_GraphJoins_c26_w, ↓C.catnaplaw3_GraphJoins_r9_w, C.catnaplaw3_GraphJoins_r9_b, ↓C.catnaplaw3_GraphJoins_c27_w, ↓C.catnaplaw3_GraphJoins_r10_w, C.catnaplaw3_GraphJoins_r10_b, ↓C.catnaplaw3_GraphJoins_b28_w, ↓C.catnaplaw3_GraphJoins_c29_w, ↓C.catnaplaw3_GraphJoins_c30_w, ↓C.catnaplaw3_GraphJoins_r8_w, C.catnaplaw3_GraphJoins_r8_b, ↓C.catnaplaw3_GraphJoins_b32_w, ↓C.catnaplaw3_GraphJoins_c33_w, ↓C.catnaplaw3_GraphJoins_r7_w, C.catnaplaw3_GraphJoins_r7_b, ↓C.catnaplaw3_GraphJoins_c34_w, ↓C.catnaplaw3_GraphJoins_r6_w, C.catnaplaw3_GraphJoins_r6_b, ↓C.catnaplaw3_GraphJoins_c35_w, ↓C.catnaplaw3_GraphJoins_r5_w, C.catnaplaw3_GraphJoins_r5_b, ↓C.catnaplaw3_GraphJoins_c36_w, ↓C.catnaplaw3_GraphJoins_r4_w, C.catnaplaw3_GraphJoins_r4_b, ↓C.catnaplaw3_GraphJoins_c37_w, ↓C.catnaplaw3_GraphJoins_r3_w, C.catnaplaw3_GraphJoins_r3_b, ↓C.catnaplaw3_GraphJoins_c38_w, ↓C.catnaplaw3_GraphJoins_c39_w, ↓C.catnaplaw3_GraphJoins_r2_w, C.catnaplaw3_GraphJoins_r2_b, ↓C.catnaplaw3_GraphJoins_c40_w, ↓C.catnaplaw3_GraphJoins_r1_w, C.catnaplaw3_GraphJoins_r1_b, ↓C.catnaplaw3_GraphJoins_c41_w, ↓C.catnaplaw3_GraphJoins_r0_w, C.catnaplaw3_GraphJoins_r0_b, C.catnaplaw3_GraphJoins, e1, e3, List.length_map, h6w]
    refine hfin _ _ i3 rfl ?_ ?_
    · simp [ASt.set_h, ASt.new_o, ASt.kill_h, hid3, e1, e3, hnil]
    · simp [ASt.set_h, ASt.new_o, ASt.kill_h, h3, n31, n32, e3', hnil, ints]
  · have hle1 : 0 + B[6 + w].length ≤ 4294967296 := by omega
    have hle2 : B[6 + w].length + 1 ≤ 4294967296 := by omega
    have htk : (ints B[6 + w]).take B[6 + w].length = ints B[6 + w] := by rw [← ints_length, List.take_length]
    simp only [↓Bp, Bq, ↓aop.eq_28, ↓aop.eq_30, ↓initFr, aeqP, abinv, abin, aun, bound, aslice, aput, putN, zeros, heldOk, aheadOk, IOp.again, List.map_cons, List.map_nil, List.append_nil, List.nil_append, Nat.reduceEqDiff, Nat.reduceAdd, Nat.reduceMul, Nat.reduceSub, Nat.reduceLeDiff, Nat.reduceLT, Int.reduceLT, Int.reduceLE, Int.reduceEq, Int.reduceToNat, Int.reduceAdd, Int.reduceSub, Int.reduceNeg, not_false_eq_true, not_true_eq_false, if_true, if_false, Bool.false_xor, Bool.true_xor, Bool.false_eq_true, Bool.true_eq_false, Bool.not_true, Bool.not_false, decide_true, decide_false, Nat.zero_add, Nat.add_zero, List.getElem?_cons_zero, List.getElem?_cons_succ, true_and, and_true, and_self, List.length_cons, List.length_nil, ↓reduceIte, reduceCtorEq, Option.some_or, Option.none_or, Option.or_none, eq_self, Option.map_some, List.length_set, List.set_cons_zero, List.set_cons_succ, List.cons_append, List.drop_zero, List.drop_succ_cons, List.take_succ_cons, List.take_zero, List.all_cons, List.all_nil, Bool.and_true, Option.isSome_some, Option.isSome_none, Option.isNone_some, Option.isNone_none, false_and, and_false, ↓C.catnaplaw3_GraphJoins_r27_w, C.catnaplaw3_GraphJoins_r27_b, ↓C.catnaplaw3_GraphJoins_c1_w, ↓C.catnaplaw3_GraphJoins_r26_w, C.catnaplaw3_GraphJoins_r26_b, ↓C.catnaplaw3_GraphJoins_r25_w, C.catnaplaw3_GraphJoins_r25_b, ↓C.catnaplaw3_GraphJoins_c3_w, ↓C.catnaplaw3_GraphJoins_r24_w, C.catnaplaw3_GraphJoins_r24_b, ↓C.catnaplaw3_GraphJoins_c4_w, ↓C.catnaplaw3_GraphJoins_r23_w, C.catnaplaw3_GraphJoins_r23_b, ↓C.catnaplaw3_GraphJoins_c5_w, ↓C.catnaplaw3_GraphJoins_c6_w, ↓C.catnaplaw3_GraphJoins_r22_w, C.catnaplaw3_GraphJoins_r22_b, ↓C.catnaplaw3_GraphJoins_c7_w, ↓C.catnaplaw3_GraphJoins_r21_w, C.catnaplaw3_GraphJoins_r21_b, ↓C.catnaplaw3_GraphJoins_c8_w, ↓C.catnaplaw3_GraphJoins_r20_w, C.catnaplaw3_GraphJoins_r20_b, ↓C.catnaplaw3_GraphJoins_c9_w, ↓C.catnaplaw3_GraphJoins_r19_w, C.catnaplaw3_GraphJoins_r19_b, ↓C.catnaplaw3_GraphJoins_c10_w, ↓C.catnaplaw3_GraphJoins_r18_w, C.catnaplaw3_GraphJoins_r18_b, ↓C.catnaplaw3_GraphJoins_c11_w, ↓C.catnaplaw3_GraphJoins_r13_w, C.catnaplaw3_GraphJoins_r13_b, ↓C.catnaplaw3_GraphJoins_c12_w, ↓C.catnaplaw3_GraphJoins_r16_w, C.catnaplaw3_GraphJoins_r16_b, ↓C.catnaplaw3_GraphJoins_c13_w, ↓C.catnaplaw3_GraphJoins_r17_w, C.catnaplaw3_GraphJoins_r17_b, ↓C.catnaplaw3_GraphJoins_b14_w, ↓C.catnaplaw3_GraphJoins_c15_w, ↓C.catnaplaw3_GraphJoins_c16_w, ↓C.catnaplaw3_GraphJoins_r15_w, C.catnaplaw3_GraphJoins_r15_b, ↓C.catnaplaw3_GraphJoins_b18_w, ↓C.catnaplaw3_GraphJoins_c19_w, ↓C.catnaplaw3_GraphJoins_r14_w, C.catnaplaw3_GraphJoins_r14_b, ↓C.catnaplaw3_GraphJoins_b20_w, ↓C.catnaplaw3_GraphJoins_c21_w, ↓C.catnaplaw3_GraphJoins_c22_w, ↓C.catnaplaw3_GraphJoins_r12_w, C.catnaplaw3_GraphJoins_r12_b, ↓C.catnaplaw3_GraphJoins_b24_w, ↓C.catnaplaw3_GraphJoins_c25_w, ↓C.catnaplaw3_GraphJoins_r11_w, C.catnaplaw3_GraphJoins_r11_b, ↓C.catnaplaw3_GraphJoins_c26_w, ↓C.catnaplaw3_GraphJoins_r9_w, C.catnaplaw3_GraphJoins_r9_b, ↓C.catnaplaw3_GraphJoins_c27_w, ↓C.catnaplaw3_GraphJoins_r10_w, C.catnaplaw3_GraphJoins_r10_b, ↓C.catnaplaw3_GraphJoins_b28_w, ↓C.catnaplaw3_GraphJoins_c29_w, ↓C.catnaplaw3_GraphJoins_c30_w, ↓C.catnaplaw3_GraphJoins_r8_w, C.catnaplaw3_GraphJoins_r8_b, ↓C.catnaplaw3_GraphJoins_b32_w, ↓C.catnaplaw3_GraphJoins_c33_w, ↓C.catnaplaw3_GraphJoins_r7_w, C.catnaplaw3_GraphJoins_r7_b, ↓C.catnaplaw3_GraphJoins_c34_w, ↓C.catnaplaw3_GraphJoins_r6_w, C.catnaplaw3_GraphJoins_r6_b, ↓C.catnaplaw3_GraphJoins_c35_w, ↓C.catnaplaw3_GraphJoins_r5_w, C.catnaplaw3_GraphJoins_r5_b, ↓C.catnaplaw3_GraphJoins_c36_w, ↓C.catnaplaw3_GraphJoins_r4_w, C.catnaplaw3_GraphJoins_r4_b, ↓C.catnaplaw3_GraphJoins_c37_w, ↓C.catnaplaw3_GraphJoins_r3_w, C.catnaplaw3_GraphJoins_r3_b, ↓C.catnaplaw3_GraphJoins_c38_w, ↓C.catnaplaw3_GraphJoins_c39_w, ↓C.catnaplaw3_GraphJoins_r2_w, C.catnaplaw3_GraphJoins_r2_b, ↓C.catnaplaw3_GraphJoins_c40_w, ↓C.catnaplaw3_GraphJoins_r1_w, C.catnaplaw3_GraphJoins_r1_b, ↓C.catnaplaw3_GraphJoins_c41_w, ↓C.catnaplaw3_GraphJoins_r0_w, C.catnaplaw3_GraphJoins_r0_b, C.catnaplaw3_GraphJoins, row, hz6, hz7, hw6, Int.toNat_natCast, Nat.mul_one]
    intro i1 hi1
    have e1 : ¬ id = i1 := fun e => by rw [← e, hid3] at hi1; cases hi1
    simp only [↓Bp, Bq, ↓aop.eq_28, ↓aop.eq_30, ↓initFr, aeqP, abinv, abin, aun, bound, aslice, aput, putN, zeros, heldOk, aheadOk, IOp.again, List.map_cons, List.map_nil, List.append_nil, List.nil_append, Nat.reduceEqDiff, Nat.reduceAdd, Nat.reduceMul, Nat.reduceSub, Nat.reduceLeDiff, Nat.reduceLT, Int.reduceLT, Int.reduceLE, Int.reduceEq, Int.reduceToNat, Int.reduceAdd, Int.reduceSub, Int.reduceNeg, not_false_eq_true, not_true_eq_false, if_true, if_false, Bool.false_xor, Bool.true_xor, Bool.false_eq_true, Bool.true_eq_false, Bool.not_true, Bool.not_false, decide_true, decide_false, Nat.zero_add, Nat.add_zero, List.getElem?_cons_zero, List.getElem?_cons_succ, true_and, and_true, and_self, List.length_cons, List.length_nil, ↓reduceIte, reduceCtorEq, Option.some_or, Option.none_or, Option.or_none, eq_self, Option.map_some, List.length_set, List.set_cons_zero, List.set_cons_succ, List.cons_append, List.drop_zero, List.drop_succ_cons, List.take_succ_cons, List.take_zero, List.all_cons, List.all_nil, Bool.and_true, Option.isSome_some, Option.isSome_none, Option.isNone_some, Option.isNone_none, false_and, and_false, ↓C.catnaplaw3_GraphJoins_r27_w, C.catnaplaw3_GraphJoins_r27_b, ↓C.catnaplaw3_GraphJoins_c1_w, ↓C.catnaplaw3_GraphJoins_r26_w, C.catnaplaw3_GraphJoins_r26_b, ↓C.catnaplaw3_GraphJoins_r25_w, C.catnaplaw3_GraphJoins_r25_b, ↓C.catnaplaw3_GraphJoins_c3_w, ↓C.catnaplaw3_GraphJoins_r24_w, C.catnaplaw3_GraphJoins_r24_b, ↓C.catnaplaw3_GraphJoins_c4_w, ↓C.catnaplaw3_GraphJoins_r23_w, C.catnaplaw3_GraphJoins_r23_b, ↓C.catnaplaw3_GraphJoins_c5_w, ↓C.catnaplaw3_GraphJoins_c6_w, ↓C.catnaplaw3_GraphJoins_r22_w, C.catnaplaw3_GraphJoins_r22_b, ↓C.catnaplaw3_GraphJoins_c7_w, ↓C.catnaplaw3_GraphJoins_r21_w, C.catnaplaw3_GraphJoins_r21_b, ↓C.catnaplaw3_GraphJoins_c8_w, ↓C.catnaplaw3_GraphJoins_r20_w, C.catnaplaw3_GraphJoins_r20_b, ↓C.catnaplaw3_GraphJoins_c9_w, ↓C.catnaplaw3_GraphJoins_r19_w, C.catnaplaw3_GraphJoins_r19_b, ↓C.catnaplaw3_GraphJoins_c10_w, ↓C.catnaplaw3_GraphJoins_r18_w, C.catnaplaw3_GraphJoins_r18_b, ↓C.catnaplaw3_GraphJoins_c11_w, ↓C.catnaplaw3_GraphJoins_r13_w, C.catnaplaw3_GraphJoins_r13_b, ↓C.catnaplaw3_GraphJoins_c12_w, ↓C.catnaplaw3_GraphJoins_r16_w, C.catnaplaw3_GraphJoins_r16_b, ↓C.catnaplaw3_GraphJoins_c13_w, ↓C.catnaplaw3_GraphJoins_r17_w, C.catnaplaw3_GraphJoins_r17_b, ↓C.catnaplaw3_GraphJoins_b14_w, ↓C.catnaplaw3_GraphJoins_c15_w, ↓C.catnaplaw3_GraphJoins_c16_w, ↓C.catnaplaw3_GraphJoins_r15_w, C.catnaplaw3_GraphJoins_r15_b, ↓C.catnaplaw3_GraphJoins_b18_w, ↓C.catnaplaw3_GraphJoins_c19_w, ↓C.catnaplaw3_GraphJoins_r14_w, C.catnaplaw3_GraphJoins_r14_b, ↓C.catnaplaw3_GraphJoins_b20_w, ↓C.catnaplaw3_GraphJoins_c21_w, ↓C.catnaplaw3_GraphJoins_c22_w, ↓C.catnaplaw3_GraphJoins_r12_w, C.catnaplaw3_GraphJoins_r12_b, ↓C.catnaplaw3_GraphJoins_b24_w, ↓C.catnaplaw3_GraphJoins_c25_w, ↓C.catnaplaw3_GraphJoins_r11_w, C.catnaplaw3_GraphJoins_r11_b, ↓C.catnaplaw3_GraphJoins_c26_w, ↓C.catnaplaw3_GraphJoins_r9_w, C.catnaplaw3_GraphJoins_r9_b, ↓C.catnaplaw3_GraphJoins_c27_w, ↓C.catnaplaw3_GraphJoins_r10_w, C.catnaplaw3_GraphJoins_r10_b, ↓C.catnaplaw3_GraphJoins_b28_w, ↓C.catnaplaw3_GraphJoins_c29_w, ↓C.catnaplaw3_GraphJoins_c30_w, ↓C.catnaplaw3_GraphJoins_r8_w, C.catnaplaw3_GraphJoins_r8_b, ↓C.catnaplaw3_GraphJoins_b32_w, ↓C.catnaplaw3_GraphJoins_c33_w, ↓C.catnaplaw3_GraphJoins_r7_w, C.catnaplaw3_GraphJoins_r7_b, ↓C.catnaplaw3_GraphJoins_c34_w, ↓C.catnaplaw3_GraphJoins_r6_w, C.catnaplaw3_GraphJoins_r6_b, ↓C.catnaplaw3_GraphJoins_c35_w, ↓C.catnaplaw3_GraphJoins_r5_w, C.catnaplaw3_GraphJoins_r5_b, ↓C.catnaplaw3_GraphJoins_c36_w, ↓C.catnaplaw3_GraphJoins_r4_w, C.catnaplaw3_GraphJoins_r4_b, ↓C.catnaplaw3_GraphJoins_c37_w, ↓C.catnaplaw3_GraphJoins_r3_w, C.catnaplaw3_GraphJoins_r3_b, ↓C.catnaplaw3_GraphJoins_c38_w, ↓C.catnaplaw3_GraphJoins_c39_w, ↓C.catnaplaw3_GraphJoins_r2_w, C.catnaplaw3_GraphJoins_r2_b, ↓C.catnaplaw3_GraphJoins_c40_w, ↓C.catnaplaw3_GraphJoins_r1_w, C.catnaplaw3_GraphJoins_r1_b, ↓C.catnaplaw3_GraphJoins_c41_w, ↓C.catnaplaw3_GraphJoins_r0_w, C.catnaplaw3_GraphJoins_r0_b, C.catnaplaw3_GraphJoins, hz6, hz7, hw6, Int.toNat_natCast, Nat.mul_one, hi1, e1, hid3, rowsG h6w, ASt.seen, htk, ints_leaf, ints_length, Nat.le_refl, h0, hle1, Nat.zero_mul]
    refine ⟨by omega, ?_⟩
    rintro i2 ⟨h2, n21⟩ i3 ⟨h3, n32⟩
    have e2 : ¬ id = i2 := fun e => by rw [← e, hid3] at h2; cases h2
    have n23 : ¬ i2 = i3 := fun e => n32 e.symm
    have q3 : (if i3 = i1 then none else (s8.h i3).or (if i3 = i1 then some (AObj.cells []) else none)) = none := by
      split
      · rfl
      · rename_i e; rw [(h3 e).1]; rfl
    have hlf : allLeaf [AV.int .i64 (u : Int)] = true := rfl
    simp only [↓Bp, Bq, ↓aop.eq_28, ↓aop.eq_30, ↓initFr, aeqP, abinv, abin, aun, bound, aslice, aput, putN, zeros, heldOk, aheadOk, IOp.again, List.map_cons, List.map_nil, List.append_nil, List.nil_append, Nat.reduceEqDiff, Nat.reduceAdd, Nat.reduceMul, Nat.reduceSub, Nat.reduceLeDiff, Nat.reduceLT, Int.reduceLT, Int.reduceLE, Int.reduceEq, Int.reduceToNat, Int.reduceAdd, Int.reduceSub, Int.reduceNeg, not_false_eq_true, not_true_eq_false, if_true, if_false, Bool.false_xor, Bool.true_xor, Bool.false_eq_true, Bool.true_eq_false, Bool.not_true, Bool.not_false, decide_true, decide_false, Nat.zero_add, Nat.add_zero, List.getElem?_cons_zero, List.getElem?_cons_succ, true_and, and_true, and_self, List.length_cons, List.length_nil, ↓reduceIte, reduceCtorEq, Option.some_or, Option.none_or, Option.or_none, eq_self, Option.map_some, List.length_set, List.set_cons_zero, List.set_cons_succ, List.cons_append, List.drop_zero, List.drop_succ_cons, List.take_succ_cons, List.take_zero, List.all_cons, List.all_nil, Bool.and_true, Option.isSome_some, Option.isSome_none, Option.isNone_some, Option.isNone_none, false_and, and_false, ↓C.catnaplaw3_GraphJoins_r27_w, C.catnaplaw3_GraphJoins_r27_b, ↓C.catnaplaw3_GraphJoins_c1_w, ↓C.catnaplaw3_GraphJoins_r26_w, C.catnaplaw3_GraphJoins_r26_b, ↓C.catnaplaw3_GraphJoins_r25_w, C.catnaplaw3_GraphJoins_r25_b, ↓C.catnaplaw3_GraphJoins_c3_w, ↓C.catnaplaw3_GraphJoins_r24_w, C.catnaplaw3_GraphJoins_r24_b, ↓C.catnaplaw3_GraphJoins_c4_w, ↓C.catnaplaw3_GraphJoins_r23_w, C.catnaplaw3_GraphJoins_r23_b, ↓C.catnaplaw3_GraphJoins_c5_w, ↓C.catnaplaw3_GraphJoins_c6_w, ↓C.catnaplaw3_GraphJoins_r22_w, C.catnaplaw3_GraphJoins_r22_b, ↓C.catnaplaw3_GraphJoins_c7_w, ↓C.catnaplaw3_GraphJoins_r21_w, C.catnaplaw3_GraphJoins_r21_b, ↓C.catnaplaw3_GraphJoins_c8_w, ↓C.catnaplaw3_GraphJoins_r20_w, C.catnaplaw3_GraphJoins_r20_b, ↓C.catnaplaw3_GraphJoins_c9_w, ↓C.catnaplaw3_GraphJoins_r19_w, C.catnaplaw3_GraphJoins_r19_b, ↓C.catnaplaw3_GraphJoins_c10_w, ↓C.catnaplaw3_GraphJoins_r18_w, C.catnaplaw3_GraphJoins_r18_b, ↓C.catnaplaw3_GraphJoins_c11_w, ↓C.catnaplaw3_GraphJoins_r13_w, C.catnaplaw3_GraphJoins_r13_b, ↓C.catnaplaw3_GraphJoins_c12_w, ↓C.catnaplaw3_GraphJoins_r16_w, C.catnaplaw3_GraphJoins_r16_b, ↓C.catnaplaw3_GraphJoins_c13_w, ↓C.catnaplaw3_GraphJoins_r17_w, C.catnaplaw3_GraphJoins_r17_b, ↓C.catnaplaw3_GraphJoins_b14_w, ↓C.catnaplaw3_GraphJoins_c15_w, ↓C.catnaplaw3_GraphJoins_c16_w, ↓C.catnaplaw3_GraphJoins_r15_w, C.catnaplaw3_GraphJoins_r15_b, ↓C.catnaplaw3_GraphJoins_b18_w, ↓C.catnaplaw3_GraphJoins_c19_w, ↓C.catnaplaw3_GraphJoins_r14_w, C.catnaplaw3_GraphJoins_r14_b, ↓C.catnaplaw3_GraphJoins_b20_w, ↓C.catnaplaw3_GraphJoins_c21_w, ↓C.catnaplaw3_GraphJoins_c22_w, ↓C.catnaplaw3_GraphJoins_r12_w, C.catnaplaw3_GraphJoins_r12_b, ↓C.catnaplaw3_GraphJoins_b24_w, ↓C.catnaplaw3_GraphJoins_c25_w, ↓C.catnaplaw3_GraphJoins_r11_w, C.catnaplaw3_GraphJoins_r11_b, ↓C.catnaplaw3_GraphJoins_c26_w, ↓C.catnaplaw3_GraphJoins_r9_w, C.catnaplaw3_GraphJoins_r9_b, ↓C.catnaplaw3_GraphJoins_c27_w, ↓C.catnaplaw3_GraphJoins_r10_w, C.catnaplaw3_GraphJoins_r10_b, ↓C.catnaplaw3_GraphJoins_b28_w, ↓C.catnaplaw3_GraphJoins_c29_w, ↓C.catnaplaw3_GraphJoins_c30_w, ↓C.catnaplaw3_GraphJoins_r8_w, C.catnaplaw3_GraphJoins_r8_b, ↓C.catnaplaw3_GraphJoins_b32_w, ↓C.catnaplaw3_GraphJoins_c33_w, ↓C.catnaplaw3_GraphJoins_r7_w, C.catnaplaw3_GraphJoins_r7_b, ↓C.catnaplaw3_GraphJoins_c34_w, ↓C.catnaplaw3_GraphJoins_r6_w, C.catnaplaw3_GraphJoins_r6_b, ↓C.catnaplaw3_GraphJoins_c35_w, ↓C.catnaplaw3_GraphJoins_r5_w, C.catnaplaw3_GraphJoins_r5_b, ↓C.catnaplaw3_GraphJoins_c36_w, ↓C.catnaplaw3_GraphJoins_r4_w, C.catnaplaw3_GraphJoins_r4_b, ↓C.catnaplaw3_GraphJoins_c37_w, ↓C.catnaplaw3_GraphJoins_r3_w, C.catnaplaw3_GraphJoins_r3_b, ↓C.catnaplaw3_GraphJoins_c38_w, ↓C.catnaplaw3_GraphJoins_c39_w, ↓C.catnaplaw3_GraphJoins_r2_w, C.catnaplaw3_GraphJoins_r2_b, ↓C.catnaplaw3_GraphJoins_c40_w, ↓C.catnaplaw3_GraphJoins_r1_w, C.catnaplaw3_GraphJoins_r1_b, ↓C.catnaplaw3_GraphJoins_c41_w, ↓C.catnaplaw3_GraphJoins_r0_w, C.catnaplaw3_GraphJoins_r0_b, C.catnaplaw3_GraphJoins, h2, n21, n32, n23, q3, Nat.le_refl, hlf, ints_length]
    refine ⟨by omega, ?_⟩
    rintro i4 ⟨⟨h4, n42⟩, n43⟩
    have e4 : ¬ id = i4 := fun e => by
      have := (h4 (fun e' => e1 (e.trans e'))).1
      rw [← e, hid3] at this; cases this
    have e4' : ¬ i4 = id := fun e => e4 e.symm
    simp only [↓Bp, Bq, ↓aop.eq_28, ↓aop.eq_30, ↓initFr, aeqP, abinv, abin, aun, bound, aslice, aput, putN, zeros, heldOk, aheadOk, IOp.again, List.map_cons, List.map_nil, List.append_nil, List.nil_append, Nat.reduceEqDiff, Nat.reduceAdd, Nat.reduceMul, Nat.reduceSub, Nat.reduceLeDiff, Nat.reduceLT, Int.reduceLT, Int.reduceLE, Int.reduceEq, Int.reduceToNat, Int.reduceAdd, Int.reduceSub, Int.reduceNeg, not_false_eq_true, not_true_eq_false, if_true, if_false, Bool.false_xor, Bool.true_xor, Bool.false_eq_true, Bool.true_eq_false, Bool.not_true, Bool.not_false, decide_true, decide_false, Nat.zero_add, Nat.add_zero, List.getElem?_cons_zero, List.getElem?_cons_succ, true_and, and_true, and_self, List.length_cons, List.length_nil, ↓reduceIte, reduceCtorEq, Option.some_or, Option.none_or, Option.or_none, eq_self, Option.map_some, List.length_set, List.set_cons_zero, List.set_cons_succ, List.cons_append, List.drop_zero, List.drop_succ_cons, List.take_succ_cons, List.take_zero, List.all_cons, List.all_nil, Bool.and_true, Option.isSome_some, Option.isSome_none, Option.isNone_some, Option.isNone_none, false_and, and_false, ↓C.catnaplaw3_GraphJoins_r27_w, C.catnaplaw3_GraphJoins_r27_b, ↓C.catnaplaw3_GraphJoins_c1_w, ↓C.catnaplaw3_GraphJoins_r26_w, C.catnaplaw3_GraphJoins_r26_b, ↓C.catnaplaw3_GraphJoins_r25_w, C.catnaplaw3_GraphJoins_r25_b, ↓C.catnaplaw3_GraphJoins_c3_w, ↓C.catnaplaw3_GraphJoins_r24_w, C.catnaplaw3_GraphJoins_r24_b, ↓C.catnaplaw3_GraphJoins_c4_w, ↓C.catnaplaw3_GraphJoins_r23_w, C.catnaplaw3_GraphJoins_r23_b, ↓C.catnaplaw3_GraphJoins_c5_w, ↓C.catnaplaw3_GraphJoins_c6_w, ↓C.catnaplaw3_GraphJoins_r22_w, C.catnaplaw3_GraphJoins_r22_b, ↓C.catnaplaw3_GraphJoins_c7_w, ↓C.catnaplaw3_GraphJoins_r21_w, C.catnaplaw3_GraphJoins_r21_b, ↓C.catnaplaw3_GraphJoins_c8_w, ↓C.catnaplaw3_GraphJoins_r20_w, C.catnaplaw3_GraphJoins_r20_b, ↓C.catnaplaw3_GraphJoins_c9_w, ↓C.catnaplaw3_GraphJoins_r19_w, C.catnaplaw3_GraphJoins_r19_b, ↓C.catnaplaw3_GraphJoins_c10_w, ↓C.catnaplaw3_GraphJoins_r18_w, C.catnaplaw3_GraphJoins_r18_b, ↓C.catnaplaw3_GraphJoins_c11_w, ↓C.catnaplaw3_GraphJoins_r13_w, C.catnaplaw3_GraphJoins_r13_b, ↓C.catnaplaw3_GraphJoins_c12_w, ↓C.catnaplaw3_GraphJoins_r16_w, C.catnaplaw3_GraphJoins_r16_b, ↓C.catnaplaw3_GraphJoins_c13_w, ↓C.catnaplaw3_GraphJoins_r17_w, C.catnaplaw3_GraphJoins_r17_b, ↓C.catnaplaw3_GraphJoins_b14_w, ↓C.catnaplaw3_GraphJoins_c15_w, ↓C.catnaplaw3_GraphJoins_c16_w, ↓C.catnaplaw3_GraphJoins_r15_w, C.catnaplaw3_GraphJoins_r15_b, ↓C.catnaplaw3_GraphJoins_b18_w, ↓C.catnaplaw3_GraphJoins_c19_w, ↓C.catnaplaw3_GraphJoins_r14_w, C.catnaplaw3_GraphJoins_r14_b, ↓C.catnaplaw3_GraphJoins_b20_w, ↓C.catnaplaw3_GraphJoins_c21_w, ↓C.catnaplaw3_GraphJoins_c22_w, ↓C.catnaplaw3_GraphJoins_r12_w, C.catnaplaw3_GraphJoins_r12_b, ↓C.catnaplaw3_GraphJoins_b24_w, ↓C.catnaplaw3_GraphJoins_c25_w, ↓C.catnaplaw3_GraphJoins_r11_w, C.catnaplaw3_GraphJoins_r11_b, ↓C.catnaplaw3_GraphJoins_c26_w, ↓C.catnaplaw3_GraphJoins_r9_w, C.catnaplaw3_GraphJoins_r9_b, ↓C.catnaplaw3_GraphJoins_c27_w, ↓C.catnaplaw3_GraphJoins_r10_w, C.catnaplaw3_GraphJoins_r10_b, ↓C.catnaplaw3_GraphJoins_b28_w, ↓C.catnaplaw3_GraphJoins_c29_w, ↓C.catnaplaw3_GraphJoins_c30_w, ↓C.catnaplaw3_GraphJoins_r8_w, C.catnaplaw3_GraphJoins_r8_b, ↓C.catnaplaw3_GraphJoins_b32_w, ↓C.catnaplaw3_GraphJoins_c33_w, ↓C.catnaplaw3_GraphJoins_r7_w, C.catnaplaw3_GraphJoins_r7_b, ↓C.catnaplaw3_GraphJoins_c34_w, ↓C.catnaplaw3_GraphJoins_r6_w, C.catnaplaw3_GraphJoins_r6_b, ↓C.catnaplaw3_GraphJoins_c35_w, ↓C.catnaplaw3_GraphJoins_r5_w, C.catnaplaw3_GraphJoins_r5_b, ↓C.catnaplaw3_GraphJoins_c36_w, ↓C.catnaplaw3_GraphJoins_r4_w, C.catnaplaw3_GraphJoins_r4_b, ↓C.catnaplaw3_GraphJoins_c37_w, ↓C.catnaplaw3_GraphJoins_r3_w, C.catnaplaw3_GraphJoins_r3_b, ↓C.catnaplaw3_GraphJoins_c38_w, ↓C.catnaplaw3_GraphJoins_c39_w, ↓C.catnaplaw3_GraphJoins_r2_w, C.catnaplaw3_GraphJoins_r2_b, ↓C.catnaplaw3_GraphJoins_c40_w, ↓C.catnaplaw3_GraphJoins_r1_w, C.catnaplaw3_GraphJoins_r1_b, ↓C.catnaplaw3_GraphJoins_c41_w, ↓C.catnaplaw3_GraphJoins_r0_w, C.catnaplaw3_GraphJoins_r0_b, C.catnaplaw3_GraphJoins, e1, e2, e4, List.length_map, h6w]
    have q4 : (if i4 = i1 then none else (s8.h i4).or (if i4 = i1 then some (AObj.cells []) else none)) = none := by
      split
      · rfl
      · rename_i e; rw [(h4 e).1]; rfl
    have e3 : ¬ id = i3 := fun e => by
      have := (h3 (fun e' => e1 (e.trans e'))).1
      rw [← e, hid3] at this; cases this
    refine hfin _ _ i4 rfl ?_ ?_
    · simp [ASt.set_h, ASt.new_o, ASt.kill_h, hid3, e1, e2, e3, e4]
    · rw [ASt.set_h, if_neg e4', ASt.new_o, ASt.kill_h, if_neg n42, ASt.new_o, ASt.new_o, ASt.kill_h, ASt.new_o, q4, if_neg n42, if_neg n43, if_pos rfl, ints_append]
      rfl
end
end Go.Proofs.Ythmdiljjkogghaa.Cn
