/- Graphs: GraphNumbers. -/
import Derived.Test.YthmdiljjkogghaaCnGLess
set_option linter.unusedSimpArgs false
set_option linter.unusedVariables false
set_option linter.unusedSectionVars false
namespace Go.Proofs.Ythmdiljjkogghaa.Cn
open Go Go.Proofs

/-- A node's other number. -/
def rot (n k x : Nat) : Nat := (x + k) % n
theorem rot_lt {n k x : Nat} (hn : 0 < n) : rot n k x < n := Nat.mod_lt _ hn
theorem rot_back {n k x : Nat} (hk : k < n) (hx : x < n) : rot n (n - k) (rot n k x) = x := by
  unfold rot
  rw [Nat.mod_add_mod, show x + k + (n - k) = x + n by omega, Nat.add_mod_right, Nat.mod_eq_of_lt hx]
theorem rot_forth {n k x : Nat} (hk : k < n) (hx : x < n) : rot n k (rot n (n - k) x) = x := by
  unfold rot
  rw [Nat.mod_add_mod, show x + (n - k) + k = x + n by omega, Nat.add_mod_right, Nat.mod_eq_of_lt hx]
theorem rot_inj {n k x y : Nat} (hk : k < n) (hx : x < n) (hy : y < n) (h : rot n k x = rot n k y) : x = y := by
  rw [← rot_back hk hx, h, rot_back hk hy]

def rotI (n k : Nat) (x : Int) : Int := ((rot n k x.toNat : Nat) : Int)

/-- A graph, its nodes numbered otherwise, when the rows ahead of the v-th, and of that T, have been laid. -/
def RotG (g : Gr) (k v : Nat) (T : List Int) (h : Gr) : Prop := h.length = g.length ∧ ∀ w (hw : w < g.length), h[rot g.length k w]? = some (if w < v then g[w].map (rotI g.length k) else if w = v then T.map (rotI g.length k) else [])

theorem RotG.at {g h : Gr} {k v : Nat} {T : List Int} (hr : RotG g k v T h) (hn : 0 < g.length) {w : Nat} (hw : w < g.length) (hl : rot g.length k w < h.length) : h[rot g.length k w] = (if w < v then g[w].map (rotI g.length k) else if w = v then T.map (rotI g.length k) else []) := by
  have := hr.2 w hw
  rw [List.getElem?_eq_getElem hl] at this
  exact Option.some.inj this
theorem RotG.add {g h : Gr} {k v : Nat} {T : List Int} (hr : RotG g k v T h) (hk : k < g.length) (hv : v < g.length) (x : Int) (hl : rot g.length k v < h.length) : RotG g k v (T ++ [x]) (h.set (rot g.length k v) (h[rot g.length k v] ++ [rotI g.length k x])) := by
  have hn : 0 < g.length := by omega
  refine ⟨by simpa using hr.1, fun w hw => ?_⟩
  by_cases e : w = v
  · subst e
    rw [List.getElem?_set_self hl, hr.at hn hw hl]
    simp
  · rw [List.getElem?_set_ne (fun h => e (rot_inj hk hw hv h.symm)), hr.2 w hw]
    simp only [e, if_false]
theorem RotG.next {g h : Gr} {k v : Nat} (hv : v < g.length) (hr : RotG g k v g[v] h) : RotG g k (v + 1) [] h := by
  refine ⟨hr.1, fun w hw => ?_⟩
  rw [hr.2 w hw]
  congr 1
  by_cases e1 : w < v
  · rw [if_pos e1, if_pos (by omega)]
  · rw [if_neg e1]
    by_cases e2 : w = v
    · subst e2; rw [if_pos rfl, if_pos (by omega)]
    · rw [if_neg e2, if_neg (by omega)]; split <;> simp

section
variable {g h : Gr} {k : Nat} (hk : k < g.length) (hok : g.ok) (hr : RotG g k g.length [] h)
include hk hok hr

theorem rot_deps {a x : Nat} (ha : a < g.length) : x ∈ deps h (rot g.length k a) ↔ ∃ b, b ∈ deps g a ∧ x = rot g.length k b := by
  have hn : 0 < g.length := by omega
  have hl : rot g.length k a < h.length := by rw [hr.1]; exact rot_lt hn
  rw [deps_at hl, hr.at hn ha hl, if_pos ha, List.map_map, List.mem_map]
  constructor
  · rintro ⟨y, hy, rfl⟩
    have := hok _ (List.getElem_mem ha) y hy
    refine ⟨y.toNat, (mem_deps hok ha).mpr (by rwa [Int.toNat_of_nonneg this.1]), ?_⟩
    simp [rotI]
  · rintro ⟨b, hb, rfl⟩
    exact ⟨b, (mem_deps hok ha).mp hb, by simp [rotI]⟩
theorem rot_up {a b : Nat} (hu : Up g a b) : Up h (rot g.length k a) (rot g.length k b) := by
  induction hu with
  | one x => exact .one ((rot_deps hk hok hr (deps_of x)).mpr ⟨_, x, rfl⟩)
  | more x _ ih => exact .more ((rot_deps hk hok hr (deps_of x)).mpr ⟨_, x, rfl⟩) ih
theorem rot_down {x y : Nat} (hu : Up h x y) : ∀ {a : Nat}, a < g.length → x = rot g.length k a → ∃ b, y = rot g.length k b ∧ Up g a b := by
  induction hu with
  | one hd =>
    rintro a ha rfl
    obtain ⟨b, hb, rfl⟩ := (rot_deps hk hok hr ha).mp hd
    exact ⟨b, rfl, .one hb⟩
  | more hd _ ih =>
    rintro a ha rfl
    obtain ⟨b, hb, rfl⟩ := (rot_deps hk hok hr ha).mp hd
    obtain ⟨c, rfl, hc⟩ := ih (deps_lt hok hb) rfl
    exact ⟨c, rfl, .more hb hc⟩
theorem rot_ok : h.ok := by
  intro r hrr u hu
  have hn : 0 < g.length := by omega
  obtain ⟨i, hi, rfl⟩ := List.getElem_of_mem hrr
  have hi' : i < g.length := by rw [← hr.1]; exact hi
  have hlt : rot g.length (g.length - k) i < g.length := rot_lt hn
  have e : rot g.length k (rot g.length (g.length - k) i) = i := rot_forth hk hi'
  have hget := hr.2 _ hlt
  rw [e, List.getElem?_eq_getElem hi, if_pos hlt] at hget
  have hget := Option.some.inj hget
  rw [hget] at hu
  obtain ⟨y, hy, rfl⟩ := List.mem_map.mp hu
  have := rot_lt (n := g.length) (k := k) (x := y.toNat) hn
  rw [hr.1]
  exact ⟨by unfold rotI; omega, by unfold rotI; omega⟩
theorem rot_right (hR : Right g) : Right h := by
  have hn : 0 < g.length := by omega
  refine ⟨rot_ok hk hok hr, ord_full (rot_ok hk hok hr) (fun x => (ord g).idxOf (rot g.length (g.length - k) x)) fun x hx u hu => ?_⟩
  have hx' : x < g.length := by rw [← hr.1]; exact hx
  have ha : rot g.length (g.length - k) x < g.length := rot_lt hn
  rw [← rot_forth hk hx'] at hu
  obtain ⟨b, hb, rfl⟩ := (rot_deps hk hok hr ha).mp hu
  rw [rot_back hk (deps_lt hok hb)]
  exact hR.pos hb
theorem rot_above (hR : Right g) {v : Nat} (hv : v < g.length) : (aboveL h (rot g.length k v)).length = (aboveL g v).length ∧ ∀ x ∈ aboveL g v, rot g.length k x ∈ aboveL h (rot g.length k v) := by
  have hRh := rot_right hk hok hr hR
  have h1 : ∀ x ∈ aboveL g v, rot g.length k x ∈ aboveL h (rot g.length k v) := fun x hx => (mem_aboveL hRh).mpr (rot_up hk hok hr ((mem_aboveL hR).mp hx))
  refine ⟨Nat.le_antisymm ?_ ?_, h1⟩
  · have := nodup_len (l := aboveL h (rot g.length k v)) (k := (aboveL g v).map (rot g.length k)) (aboveL_nodup _ _) (fun y hy => by
      obtain ⟨b, rfl, hb⟩ := rot_down hk hok hr ((mem_aboveL hRh).mp hy) hv rfl
      exact List.mem_map.mpr ⟨b, (mem_aboveL hR).mpr hb, rfl⟩)
    simpa using this
  · have hnd : ((aboveL g v).map (rot g.length k)).Nodup := by
      rw [List.nodup_iff_pairwise_ne, List.pairwise_map]
      refine List.Pairwise.imp_of_mem ?_ (aboveL_nodup g v)
      intro a b ha hb hne he
      exact hne (rot_inj hk (((mem_aboveL hR).mp ha).lt hok).2 (((mem_aboveL hR).mp hb).lt hok).2 he)
    have := nodup_len hnd (k := aboveL h (rot g.length k v)) (fun y hy => by
      obtain ⟨x, hx, rfl⟩ := List.mem_map.mp hy
      exact h1 x hx)
    simpa using this
end

theorem rot_int {n k x : Nat} : (((x + k : Nat) : Int)).tmod (n : Int) = ((rot n k x : Nat) : Int) := by
  rw [Int.tmod_eq_emod_of_nonneg (by omega), rot, Int.natCast_emod]

section
variable {st : ASt}

theorem numbers_law {many by_ at_ : Int} {l : List Int} {t : Bool} (hm : I64 many) (hby : I64 by_) (hat : I64 at_) (hl : l.length ≤ 9223372036854775807) (hr : ∀ x ∈ l, I64 x) :
    ACalls Try.prog F.catnaplaw3_GraphNumbers [.int .i64 many, .isl 1 (ints l) l.length, .bool t, .int .i64 by_, .int .i64 at_] st fun r _ => r = .bool true := by
  refine calls_of_awp L.catnaplaw3_GraphNumbers rfl ?_
  simp only [↓Bp, Bq, ↓aop.eq_28, ↓aop.eq_30, ↓initFr, aeqP, abinv, abin, aun, bound, aslice, aput, putN, zeros, heldOk, aheadOk, IOp.again, List.map_cons, List.map_nil, List.append_nil, List.nil_append, Nat.reduceEqDiff, Nat.reduceAdd, Nat.reduceMul, Nat.reduceSub, Nat.reduceLeDiff, Nat.reduceLT, Int.reduceLT, Int.reduceLE, Int.reduceEq, Int.reduceToNat, Int.reduceAdd, Int.reduceSub, Int.reduceNeg, not_false_eq_true, not_true_eq_false, if_true, if_false, Bool.false_xor, Bool.true_xor, Bool.false_eq_true, Bool.true_eq_false, Bool.not_true, Bool.not_false, decide_true, decide_false, Nat.zero_add, Nat.add_zero, List.getElem?_cons_zero, List.getElem?_cons_succ, true_and, and_true, and_self, List.length_cons, List.length_nil, ↓reduceIte, reduceCtorEq, Option.some_or, Option.none_or, Option.or_none, eq_self, Option.map_some, List.length_set, List.set_cons_zero, List.set_cons_succ, List.cons_append, List.drop_zero, List.drop_succ_cons, List.take_succ_cons, List.take_zero, List.all_cons, List.all_nil, Bool.and_true, Option.isSome_some, Option.isSome_none, Option.isNone_some, Option.isNone_none, false_and, and_false, ↓C.catnaplaw3_GraphNumbers_W, C.catnaplaw3_GraphNumbers_B, C.catnaplaw3_GraphNumbers]
  refine (shown_spec st).mono ?_
  rintro r s ⟨rfl, rfl⟩
  simp only [↓Bp, Bq, ↓aop.eq_28, ↓aop.eq_30, ↓initFr, aeqP, abinv, abin, aun, bound, aslice, aput, putN, zeros, heldOk, aheadOk, IOp.again, List.map_cons, List.map_nil, List.append_nil, List.nil_append, Nat.reduceEqDiff, Nat.reduceAdd, Nat.reduceMul, Nat.reduceSub, Nat.reduceLeDiff, Nat.reduceLT, Int.reduceLT, Int.reduceLE, Int.reduceEq, Int.reduceToNat, Int.reduceAdd, Int.reduceSub, Int.reduceNeg, not_false_eq_true, not_true_eq_false, if_true, if_false, Bool.false_xor, Bool.true_xor, Bool.false_eq_true, Bool.true_eq_false, Bool.not_true, Bool.not_false, decide_true, decide_false, Nat.zero_add, Nat.add_zero, List.getElem?_cons_zero, List.getElem?_cons_succ, true_and, and_true, and_self, List.length_cons, List.length_nil, ↓reduceIte, reduceCtorEq, Option.some_or, Option.none_or, Option.or_none, eq_self, Option.map_some, List.length_set, List.set_cons_zero, List.set_cons_succ, List.cons_append, List.drop_zero, List.drop_succ_cons, List.take_succ_cons, List.take_zero, List.all_cons, List.all_nil, Bool.and_true, Option.isSome_some, Option.isSome_none, Option.isNone_some, Option.isNone_none, false_and, and_false, ↓C.catnaplaw3_GraphNumbers_W, C.catnaplaw3_GraphNumbers_B, C.catnaplaw3_GraphNumbers]
  refine (pick_spec (n := 12) hm (by omega)).mono ?_
  rintro r s' ⟨rfl, rfl⟩
  have hnl := pickI_lt many (n := 12) (by omega)
  have hw2 : IntKind.i64.wrap (1 + ((pickI many 12 : Nat) : Int)) = ((pickI many 12 + 1 : Nat) : Int) := by rw [wrap64] <;> omega
  simp only [↓Bp, Bq, ↓aop.eq_28, ↓aop.eq_30, ↓initFr, aeqP, abinv, abin, aun, bound, aslice, aput, putN, zeros, heldOk, aheadOk, IOp.again, List.map_cons, List.map_nil, List.append_nil, List.nil_append, Nat.reduceEqDiff, Nat.reduceAdd, Nat.reduceMul, Nat.reduceSub, Nat.reduceLeDiff, Nat.reduceLT, Int.reduceLT, Int.reduceLE, Int.reduceEq, Int.reduceToNat, Int.reduceAdd, Int.reduceSub, Int.reduceNeg, not_false_eq_true, not_true_eq_false, if_true, if_false, Bool.false_xor, Bool.true_xor, Bool.false_eq_true, Bool.true_eq_false, Bool.not_true, Bool.not_false, decide_true, decide_false, Nat.zero_add, Nat.add_zero, List.getElem?_cons_zero, List.getElem?_cons_succ, true_and, and_true, and_self, List.length_cons, List.length_nil, ↓reduceIte, reduceCtorEq, Option.some_or, Option.none_or, Option.or_none, eq_self, Option.map_some, List.length_set, List.set_cons_zero, List.set_cons_succ, List.cons_append, List.drop_zero, List.drop_succ_cons, List.take_succ_cons, List.take_zero, List.all_cons, List.all_nil, Bool.and_true, Option.isSome_some, Option.isSome_none, Option.isNone_some, Option.isNone_none, false_and, and_false, ↓C.catnaplaw3_GraphNumbers_W, C.catnaplaw3_GraphNumbers_B, C.catnaplaw3_GraphNumbers, hw2]
  clear hw2
  generalize hN : pickI many 12 + 1 = n
  have hn : 1 ≤ n ∧ n ≤ 12 := by omega
  refine (falling_val (n := n) (by omega) hl hr t).mono ?_
  rintro r s2 ⟨g, rfl, hgn, hF, rfl⟩
  have hR := hF.right
  have hg := hF.few (by omega)
  simp only [↓Bp, Bq, ↓aop.eq_28, ↓aop.eq_30, ↓initFr, aeqP, abinv, abin, aun, bound, aslice, aput, putN, zeros, heldOk, aheadOk, IOp.again, List.map_cons, List.map_nil, List.append_nil, List.nil_append, Nat.reduceEqDiff, Nat.reduceAdd, Nat.reduceMul, Nat.reduceSub, Nat.reduceLeDiff, Nat.reduceLT, Int.reduceLT, Int.reduceLE, Int.reduceEq, Int.reduceToNat, Int.reduceAdd, Int.reduceSub, Int.reduceNeg, not_false_eq_true, not_true_eq_false, if_true, if_false, Bool.false_xor, Bool.true_xor, Bool.false_eq_true, Bool.true_eq_false, Bool.not_true, Bool.not_false, decide_true, decide_false, Nat.zero_add, Nat.add_zero, List.getElem?_cons_zero, List.getElem?_cons_succ, true_and, and_true, and_self, List.length_cons, List.length_nil, ↓reduceIte, reduceCtorEq, Option.some_or, Option.none_or, Option.or_none, eq_self, Option.map_some, List.length_set, List.set_cons_zero, List.set_cons_succ, List.cons_append, List.drop_zero, List.drop_succ_cons, List.take_succ_cons, List.take_zero, List.all_cons, List.all_nil, Bool.and_true, Option.isSome_some, Option.isSome_none, Option.isNone_some, Option.isNone_none, false_and, and_false, ↓C.catnaplaw3_GraphNumbers_W, C.catnaplaw3_GraphNumbers_B, C.catnaplaw3_GraphNumbers]
  refine (pick_spec (n := n) hby (by omega)).mono ?_
  rintro r s3 ⟨rfl, rfl⟩
  have hkl := pickI_lt by_ (n := n) (by omega)
  generalize pickI by_ n = k at hkl
  have hkg : k < g.length := by omega
  have hz2 : (0 : Int) ≤ (n : Int) ∧ (n : Int) ≤ 4294967296 := by omega
  have hn0 : ¬ (n : Int) = 0 := by omega
  simp only [↓Bp, Bq, ↓aop.eq_28, ↓aop.eq_30, ↓initFr, aeqP, abinv, abin, aun, bound, aslice, aput, putN, zeros, heldOk, aheadOk, IOp.again, List.map_cons, List.map_nil, List.append_nil, List.nil_append, Nat.reduceEqDiff, Nat.reduceAdd, Nat.reduceMul, Nat.reduceSub, Nat.reduceLeDiff, Nat.reduceLT, Int.reduceLT, Int.reduceLE, Int.reduceEq, Int.reduceToNat, Int.reduceAdd, Int.reduceSub, Int.reduceNeg, not_false_eq_true, not_true_eq_false, if_true, if_false, Bool.false_xor, Bool.true_xor, Bool.false_eq_true, Bool.true_eq_false, Bool.not_true, Bool.not_false, decide_true, decide_false, Nat.zero_add, Nat.add_zero, List.getElem?_cons_zero, List.getElem?_cons_succ, true_and, and_true, and_self, List.length_cons, List.length_nil, ↓reduceIte, reduceCtorEq, Option.some_or, Option.none_or, Option.or_none, eq_self, Option.map_some, List.length_set, List.set_cons_zero, List.set_cons_succ, List.cons_append, List.drop_zero, List.drop_succ_cons, List.take_succ_cons, List.take_zero, List.all_cons, List.all_nil, Bool.and_true, Option.isSome_some, Option.isSome_none, Option.isNone_some, Option.isNone_none, false_and, and_false, ↓C.catnaplaw3_GraphNumbers_W, C.catnaplaw3_GraphNumbers_B, C.catnaplaw3_GraphNumbers, hz2, Int.toNat_natCast, zeros_nils]
  intro id hid
  have hvw : ∀ v : Nat, v < n → IntKind.i64.wrap ((v : Int) + (k : Int)) = ((v + k : Nat) : Int) := fun v hv => by rw [wrap64] <;> omega
  have hrl : ∀ x : Nat, rot n k x < n := fun x => rot_lt (by omega)
  refine awp_midB (fun _ : Unit => [(4, .int .i64 at_), (12, .int .i64 n), (13, .isl 1 (g.map row) g.length), (14, .int .i64 k), (15, .sl 1 id 0 n)]) (fun _ s => ∃ h, Nest s3 s id (fun _ => false) h ∧ RotG g k n [] h) ?_ ?_
  · refine awp_loopK (fun v : Nat => [(4, .int .i64 at_), (12, .int .i64 n), (13, .isl 1 (g.map row) g.length), (14, .int .i64 k), (15, .sl 1 id 0 n), (16, .int .i64 v)]) (fun v s => v ≤ n ∧ ∃ h, Nest s3 s id (fun _ => false) h ∧ RotG g k v [] h) (fun v => n - v) 0 rfl
      ⟨Nat.zero_le _, List.replicate n [], nest_nils (ASt.new_self _ hid) (ASt.le.new _ _ _) hid _, by simp [hgn], fun w hw => by
        rw [List.getElem?_replicate, hgn, if_pos (hrl w)]; simp⟩ ?_
    rintro v s ⟨hv, h, hN2, hrot⟩
    by_cases hvl : v < n
    rotate_left
    · have hve : v = n := by omega
      subst hve
      have hvl' : ¬ (v : Int) < (v : Int) := by omega
      simp only [↓Bp, Bq, ↓aop.eq_28, ↓aop.eq_30, ↓initFr, aeqP, abinv, abin, aun, bound, aslice, aput, putN, zeros, heldOk, aheadOk, IOp.again, List.map_cons, List.map_nil, List.append_nil, List.nil_append, Nat.reduceEqDiff, Nat.reduceAdd, Nat.reduceMul, Nat.reduceSub, Nat.reduceLeDiff, Nat.reduceLT, Int.reduceLT, Int.reduceLE, Int.reduceEq, Int.reduceToNat, Int.reduceAdd, Int.reduceSub, Int.reduceNeg, not_false_eq_true, not_true_eq_false, if_true, if_false, Bool.false_xor, Bool.true_xor, Bool.false_eq_true, Bool.true_eq_false, Bool.not_true, Bool.not_false, decide_true, decide_false, Nat.zero_add, Nat.add_zero, List.getElem?_cons_zero, List.getElem?_cons_succ, true_and, and_true, and_self, List.length_cons, List.length_nil, ↓reduceIte, reduceCtorEq, Option.some_or, Option.none_or, Option.or_none, eq_self, Option.map_some, List.length_set, List.set_cons_zero, List.set_cons_succ, List.cons_append, List.drop_zero, List.drop_succ_cons, List.take_succ_cons, List.take_zero, List.all_cons, List.all_nil, Bool.and_true, Option.isSome_some, Option.isSome_none, Option.isNone_some, Option.isNone_none, false_and, and_false, ↓C.catnaplaw3_GraphNumbers_W, C.catnaplaw3_GraphNumbers_B, C.catnaplaw3_GraphNumbers, hvl']
      exact ⟨(), h, hN2, hrot⟩
    have hvl' : (v : Int) < (n : Int) := by omega
    have hvg : v < g.length := by omega
    have hzv : (0:Int) ≤ (v : Int) ∧ (v : Int) < (g.length : Nat) := by omega
    have hw := wsucc hvl (by omega)
    simp only [↓Bp, Bq, ↓aop.eq_28, ↓aop.eq_30, ↓initFr, aeqP, abinv, abin, aun, bound, aslice, aput, putN, zeros, heldOk, aheadOk, IOp.again, List.map_cons, List.map_nil, List.append_nil, List.nil_append, Nat.reduceEqDiff, Nat.reduceAdd, Nat.reduceMul, Nat.reduceSub, Nat.reduceLeDiff, Nat.reduceLT, Int.reduceLT, Int.reduceLE, Int.reduceEq, Int.reduceToNat, Int.reduceAdd, Int.reduceSub, Int.reduceNeg, not_false_eq_true, not_true_eq_false, if_true, if_false, Bool.false_xor, Bool.true_xor, Bool.false_eq_true, Bool.true_eq_false, Bool.not_true, Bool.not_false, decide_true, decide_false, Nat.zero_add, Nat.add_zero, List.getElem?_cons_zero, List.getElem?_cons_succ, true_and, and_true, and_self, List.length_cons, List.length_nil, ↓reduceIte, reduceCtorEq, Option.some_or, Option.none_or, Option.or_none, eq_self, Option.map_some, List.length_set, List.set_cons_zero, List.set_cons_succ, List.cons_append, List.drop_zero, List.drop_succ_cons, List.take_succ_cons, List.take_zero, List.all_cons, List.all_nil, Bool.and_true, Option.isSome_some, Option.isSome_none, Option.isNone_some, Option.isNone_none, false_and, and_false, ↓C.catnaplaw3_GraphNumbers_W, C.catnaplaw3_GraphNumbers_B, C.catnaplaw3_GraphNumbers, hvl']
    refine awp_loopK (fun j : Nat => [(4, .int .i64 at_), (12, .int .i64 n), (13, .isl 1 (g.map row) g.length), (14, .int .i64 k), (15, .sl 1 id 0 n), (16, .int .i64 v), (17, .int .i64 j)]) (fun j s => j ≤ g[v].length ∧ ∃ h, Nest s3 s id (fun _ => false) h ∧ RotG g k v (g[v].take j) h) (fun j => g[v].length - j) 0 rfl
      ⟨Nat.zero_le _, h, hN2, by simpa using hrot⟩ ?_
    clear hN2 hrot h
    rintro j s ⟨hj, h, hN2, hrot⟩
    by_cases hjl : j < g[v].length
    rotate_left
    · have hje : j = g[v].length := by omega
      subst hje
      have hjl' : ¬ ((g[v].length : Nat) : Int) < (g[v].length : Nat) := by omega
      simp only [↓Bp, Bq, ↓aop.eq_28, ↓aop.eq_30, ↓initFr, aeqP, abinv, abin, aun, bound, aslice, aput, putN, zeros, heldOk, aheadOk, IOp.again, List.map_cons, List.map_nil, List.append_nil, List.nil_append, Nat.reduceEqDiff, Nat.reduceAdd, Nat.reduceMul, Nat.reduceSub, Nat.reduceLeDiff, Nat.reduceLT, Int.reduceLT, Int.reduceLE, Int.reduceEq, Int.reduceToNat, Int.reduceAdd, Int.reduceSub, Int.reduceNeg, not_false_eq_true, not_true_eq_false, if_true, if_false, Bool.false_xor, Bool.true_xor, Bool.false_eq_true, Bool.true_eq_false, Bool.not_true, Bool.not_false, decide_true, decide_false, Nat.zero_add, Nat.add_zero, List.getElem?_cons_zero, List.getElem?_cons_succ, true_and, and_true, and_self, List.length_cons, List.length_nil, ↓reduceIte, reduceCtorEq, Option.some_or, Option.none_or, Option.or_none, eq_self, Option.map_some, List.length_set, List.set_cons_zero, List.set_cons_succ, List.cons_append, List.drop_zero, List.drop_succ_cons, List.take_succ_cons, List.take_zero, List.all_cons, List.all_nil, Bool.and_true, Option.isSome_some, Option.isSome_none, Option.isNone_some, Option.isNone_none, false_and, and_false, ↓C.catnaplaw3_GraphNumbers_W, C.catnaplaw3_GraphNumbers_B, C.catnaplaw3_GraphNumbers, hzv, Int.toNat_natCast, Nat.mul_one, rowsG hvg, hjl', hw]
      rw [List.take_length] at hrot
      exact ⟨v + 1, rfl, ⟨hvl, h, hN2, hrot.next hvg⟩, by omega⟩
    have hjl' : (j : Int) < (g[v].length : Nat) := by omega
    have hzj : (0:Int) ≤ (j : Int) ∧ (j : Int) < (g[v].length : Nat) := by omega
    have hwj := wsucc hjl (hg.2 _ (List.getElem_mem hvg))
    obtain ⟨hx1, hx2⟩ := hR.ok _ (List.getElem_mem hvg) _ (List.getElem_mem hjl)
    obtain ⟨x, hx⟩ : ∃ x : Nat, g[v][j] = x := ⟨_, (Int.toNat_of_nonneg hx1).symm⟩
    have hxn : x < n := by omega
    have hzr : (0:Int) ≤ ((rot n k v : Nat) : Int) ∧ ((rot n k v : Nat) : Int) < (n : Int) := by have := hrl v; omega
    have hrh : rot g.length k v < h.length := by rw [hrot.1, hgn]; exact hrl v
    have hrh2 : rot n k v < h.length := by rw [← hgn]; exact hrh
    obtain ⟨vs, v0, d1, d2, d3, d4, d5⟩ := hN2.shows hrh2 rfl
    have hrv : rot n k v < vs.length := by omega
    have hlen : h[rot n k v].length ≤ 40 := by
      have h6 := hrot.at (by omega) hvg hrh
      simp only [hgn, Nat.lt_irrefl, if_false, if_true] at h6
      rw [h6, List.length_map, List.length_take]
      have := (hF v hvg).1; omega
    simp only [↓Bp, Bq, ↓initFr, aeqP, abinv, abin, aun, bound, aslice, aput, putN, zeros, heldOk, aheadOk, IOp.again, List.map_cons, List.map_nil, List.append_nil, List.nil_append, Nat.reduceEqDiff, Nat.reduceAdd, Nat.reduceMul, Nat.reduceSub, Nat.reduceLeDiff, Nat.reduceLT, Int.reduceLT, Int.reduceLE, Int.reduceEq, Int.reduceToNat, Int.reduceAdd, Int.reduceSub, Int.reduceNeg, not_false_eq_true, not_true_eq_false, if_true, if_false, Bool.false_xor, Bool.true_xor, Bool.false_eq_true, Bool.true_eq_false, Bool.not_true, Bool.not_false, decide_true, decide_false, Nat.zero_add, Nat.add_zero, List.getElem?_cons_zero, List.getElem?_cons_succ, true_and, and_true, and_self, List.length_cons, List.length_nil, ↓reduceIte, reduceCtorEq, Option.some_or, Option.none_or, Option.or_none, eq_self, Option.map_some, List.length_set, List.set_cons_zero, List.set_cons_succ, List.cons_append, List.drop_zero, List.drop_succ_cons, List.take_succ_cons, List.take_zero, List.all_cons, List.all_nil, Bool.and_true, Option.isSome_some, Option.isSome_none, Option.isNone_some, Option.isNone_none, false_and, and_false, ↓C.catnaplaw3_GraphNumbers_W, C.catnaplaw3_GraphNumbers_B, C.catnaplaw3_GraphNumbers, hzv, hjl', hzj, Int.toNat_natCast, Nat.mul_one, rowsG hvg, ints_get hjl, hx, hvw v hvl, hvw x hxn, hn0, rot_int, hzr, d1, d3]
    refine aop_append_one d4 (by omega) (new := [.int .i64 ((rot n k x : Nat) : Int)]) rfl rfl rfl (fun _ => rfl) (fun _ => rfl) ?_
    intro v1 i2 st2 f1 f2 f3
    obtain ⟨k1, k2⟩ := d5 i2 st2 ((rot n k x : Nat) : Int) f1 f2 (by
      obtain ⟨i, q1, q2⟩ := f3.blk (by omega)
      cases q1
      rw [q2, ints_append]; rfl)
    simp only [↓Bp, Bq, ↓aop.eq_28, ↓aop.eq_30, ↓initFr, aeqP, abinv, abin, aun, bound, aslice, aput, putN, zeros, heldOk, aheadOk, IOp.again, List.map_cons, List.map_nil, List.append_nil, List.nil_append, Nat.reduceEqDiff, Nat.reduceAdd, Nat.reduceMul, Nat.reduceSub, Nat.reduceLeDiff, Nat.reduceLT, Int.reduceLT, Int.reduceLE, Int.reduceEq, Int.reduceToNat, Int.reduceAdd, Int.reduceSub, Int.reduceNeg, not_false_eq_true, not_true_eq_false, if_true, if_false, Bool.false_xor, Bool.true_xor, Bool.false_eq_true, Bool.true_eq_false, Bool.not_true, Bool.not_false, decide_true, decide_false, Nat.zero_add, Nat.add_zero, List.getElem?_cons_zero, List.getElem?_cons_succ, true_and, and_true, and_self, List.length_cons, List.length_nil, ↓reduceIte, reduceCtorEq, Option.some_or, Option.none_or, Option.or_none, eq_self, Option.map_some, List.length_set, List.set_cons_zero, List.set_cons_succ, List.cons_append, List.drop_zero, List.drop_succ_cons, List.take_succ_cons, List.take_zero, List.all_cons, List.all_nil, Bool.and_true, Option.isSome_some, Option.isSome_none, Option.isNone_some, Option.isNone_none, false_and, and_false, ↓C.catnaplaw3_GraphNumbers_W, C.catnaplaw3_GraphNumbers_B, C.catnaplaw3_GraphNumbers, hzr, Int.toNat_natCast, Nat.mul_one, k1, hrv, hwj]
    refine ⟨j + 1, rfl, ⟨hjl, _, k2, ?_⟩, by omega⟩
    have h7 := hrot.add hkg hvg (g[v][j]) hrh
    rw [List.take_succ_eq_append_getElem hjl]
    have h8 : rotI g.length k g[v][j] = ((rot n k x : Nat) : Int) := by rw [hx, rotI, Int.toNat_natCast, hgn]
    rw [h8] at h7
    simp only [hgn] at h7
    exact h7
  rintro - s ⟨h, hN2, hrot⟩
  rw [← hgn] at hrot
  have hRh := rot_right hkg hR.ok hrot hR
  have hhl : h.length = n := by rw [hrot.1, hgn]
  have hgh : Gr.few h := ⟨by omega, fun r hr => by
    obtain ⟨i, hi, rfl⟩ := List.getElem_of_mem hr
    have hi' : i < g.length := by omega
    have hget := hrot.2 (rot g.length (g.length - k) i) (rot_lt (by omega))
    rw [rot_forth hkg hi', List.getElem?_eq_getElem hi, if_pos (rot_lt (by omega))] at hget
    rw [Option.some.inj hget, List.length_map]
    have := (hF _ (rot_lt (n := g.length) (k := g.length - k) (x := i) (by omega))).1
    omega⟩
  -- the rows are let go
  have hview : SView s (.sl 1 id 0 n) (.isl 1 (h.map row) h.length) := by
    obtain ⟨⟨vs, f, q1, q2, q3, q4, q5⟩, q6, q7⟩ := hN2
    have := SView.graph (st := s) (id := id) (g := h) q1 q2 fun i z1 z2 => by
      obtain ⟨z3, -⟩ := q3 i z2 z1
      generalize vs[i] = v at z3
      generalize h[i] = l at z3
      generalize f i = b at z3
      cases z3 with
      | nils => exact SView.rowNil
      | val => exact SView.pure (row_pure _)
      | own b _ hb => exact SView.row hb
    rw [hhl] at this ⊢
    exact this
  simp only [↓Bp, Bq, ↓aop.eq_28, ↓aop.eq_30, ↓initFr, aeqP, abinv, abin, aun, bound, aslice, aput, putN, zeros, heldOk, aheadOk, IOp.again, List.map_cons, List.map_nil, List.append_nil, List.nil_append, Nat.reduceEqDiff, Nat.reduceAdd, Nat.reduceMul, Nat.reduceSub, Nat.reduceLeDiff, Nat.reduceLT, Int.reduceLT, Int.reduceLE, Int.reduceEq, Int.reduceToNat, Int.reduceAdd, Int.reduceSub, Int.reduceNeg, not_false_eq_true, not_true_eq_false, if_true, if_false, Bool.false_xor, Bool.true_xor, Bool.false_eq_true, Bool.true_eq_false, Bool.not_true, Bool.not_false, decide_true, decide_false, Nat.zero_add, Nat.add_zero, List.getElem?_cons_zero, List.getElem?_cons_succ, true_and, and_true, and_self, List.length_cons, List.length_nil, ↓reduceIte, reduceCtorEq, Option.some_or, Option.none_or, Option.or_none, eq_self, Option.map_some, List.length_set, List.set_cons_zero, List.set_cons_succ, List.cons_append, List.drop_zero, List.drop_succ_cons, List.take_succ_cons, List.take_zero, List.all_cons, List.all_nil, Bool.and_true, Option.isSome_some, Option.isSome_none, Option.isNone_some, Option.isNone_none, false_and, and_false, ↓C.catnaplaw3_GraphNumbers_W, C.catnaplaw3_GraphNumbers_B, C.catnaplaw3_GraphNumbers]
  refine (pick_spec (n := n) hat (by omega)).mono ?_
  rintro r s4 ⟨rfl, rfl⟩
  have hvl := pickI_lt at_ (n := n) (by omega)
  generalize pickI at_ n = v at hvl
  have hvg : v < g.length := by omega
  obtain ⟨a1, a2, a3⟩ := right_above hR (by omega) (v := v) hvg
  have hrl2 := hrl v
  obtain ⟨b1, b2, b3⟩ := right_above hRh (by omega) (v := rot n k v) (by omega)
  obtain ⟨c1, c2⟩ := rot_above hkg hR.ok hrot hR hvg
  simp only [hgn] at c1 c2
  have sa := above_small hg v
  have sb := above_small hgh (rot n k v)
  rw [a2] at sa
  rw [b2] at sb
  simp only [↓Bp, Bq, ↓aop.eq_28, ↓aop.eq_30, ↓initFr, aeqP, abinv, abin, aun, bound, aslice, aput, putN, zeros, heldOk, aheadOk, IOp.again, List.map_cons, List.map_nil, List.append_nil, List.nil_append, Nat.reduceEqDiff, Nat.reduceAdd, Nat.reduceMul, Nat.reduceSub, Nat.reduceLeDiff, Nat.reduceLT, Int.reduceLT, Int.reduceLE, Int.reduceEq, Int.reduceToNat, Int.reduceAdd, Int.reduceSub, Int.reduceNeg, not_false_eq_true, not_true_eq_false, if_true, if_false, Bool.false_xor, Bool.true_xor, Bool.false_eq_true, Bool.true_eq_false, Bool.not_true, Bool.not_false, decide_true, decide_false, Nat.zero_add, Nat.add_zero, List.getElem?_cons_zero, List.getElem?_cons_succ, true_and, and_true, and_self, List.length_cons, List.length_nil, ↓reduceIte, reduceCtorEq, Option.some_or, Option.none_or, Option.or_none, eq_self, Option.map_some, List.length_set, List.set_cons_zero, List.set_cons_succ, List.cons_append, List.drop_zero, List.drop_succ_cons, List.take_succ_cons, List.take_zero, List.all_cons, List.all_nil, Bool.and_true, Option.isSome_some, Option.isSome_none, Option.isNone_some, Option.isNone_none, false_and, and_false, ↓C.catnaplaw3_GraphNumbers_W, C.catnaplaw3_GraphNumbers_B, C.catnaplaw3_GraphNumbers]
  refine (above_spec hg v).mono ?_
  rintro r s5 ⟨rfl, rfl⟩
  simp only [↓Bp, Bq, ↓aop.eq_28, ↓aop.eq_30, ↓initFr, aeqP, abinv, abin, aun, bound, aslice, aput, putN, zeros, heldOk, aheadOk, IOp.again, List.map_cons, List.map_nil, List.append_nil, List.nil_append, Nat.reduceEqDiff, Nat.reduceAdd, Nat.reduceMul, Nat.reduceSub, Nat.reduceLeDiff, Nat.reduceLT, Int.reduceLT, Int.reduceLE, Int.reduceEq, Int.reduceToNat, Int.reduceAdd, Int.reduceSub, Int.reduceNeg, not_false_eq_true, not_true_eq_false, if_true, if_false, Bool.false_xor, Bool.true_xor, Bool.false_eq_true, Bool.true_eq_false, Bool.not_true, Bool.not_false, decide_true, decide_false, Nat.zero_add, Nat.add_zero, List.getElem?_cons_zero, List.getElem?_cons_succ, true_and, and_true, and_self, List.length_cons, List.length_nil, ↓reduceIte, reduceCtorEq, Option.some_or, Option.none_or, Option.or_none, eq_self, Option.map_some, List.length_set, List.set_cons_zero, List.set_cons_succ, List.cons_append, List.drop_zero, List.drop_succ_cons, List.take_succ_cons, List.take_zero, List.all_cons, List.all_nil, Bool.and_true, Option.isSome_some, Option.isSome_none, Option.isNone_some, Option.isNone_none, false_and, and_false, ↓C.catnaplaw3_GraphNumbers_W, C.catnaplaw3_GraphNumbers_B, C.catnaplaw3_GraphNumbers, hvw v hvl, hn0, rot_int]
  refine (aboveB hgh hview _).mono ?_
  rintro r s6 ⟨rfl, rfl⟩
  simp only [↓Bp, Bq, ↓aop.eq_28, ↓aop.eq_30, ↓initFr, aeqP, abinv, abin, aun, bound, aslice, aput, putN, zeros, heldOk, aheadOk, IOp.again, List.map_cons, List.map_nil, List.append_nil, List.nil_append, Nat.reduceEqDiff, Nat.reduceAdd, Nat.reduceMul, Nat.reduceSub, Nat.reduceLeDiff, Nat.reduceLT, Int.reduceLT, Int.reduceLE, Int.reduceEq, Int.reduceToNat, Int.reduceAdd, Int.reduceSub, Int.reduceNeg, not_false_eq_true, not_true_eq_false, if_true, if_false, Bool.false_xor, Bool.true_xor, Bool.false_eq_true, Bool.true_eq_false, Bool.not_true, Bool.not_false, decide_true, decide_false, Nat.zero_add, Nat.add_zero, List.getElem?_cons_zero, List.getElem?_cons_succ, true_and, and_true, and_self, List.length_cons, List.length_nil, ↓reduceIte, reduceCtorEq, Option.some_or, Option.none_or, Option.or_none, eq_self, Option.map_some, List.length_set, List.set_cons_zero, List.set_cons_succ, List.cons_append, List.drop_zero, List.drop_succ_cons, List.take_succ_cons, List.take_zero, List.all_cons, List.all_nil, Bool.and_true, Option.isSome_some, Option.isSome_none, Option.isNone_some, Option.isNone_none, false_and, and_false, ↓C.catnaplaw3_GraphNumbers_W, C.catnaplaw3_GraphNumbers_B, C.catnaplaw3_GraphNumbers]
  refine (checkB hgh hview).mono ?_
  rintro r s7 ⟨rfl, rfl⟩
  have he := grErr_zero.mpr ⟨by omega, hRh⟩
  have hin : ∀ x, x ∈ aboveL g v → x < n := fun x hx => by rw [← hgn]; exact (((mem_aboveL hR).mp hx).lt hR.ok).2
  rw [a1, a2, b1, b2]
  generalize aboveL g v = al at sa c1 c2 hin
  generalize aboveL h (rot n k v) = bs at sb c1 c2
  simp only [↓Bp, Bq, ↓aop.eq_28, ↓aop.eq_30, ↓initFr, aeqP, abinv, abin, aun, bound, aslice, aput, putN, zeros, heldOk, aheadOk, IOp.again, List.map_cons, List.map_nil, List.append_nil, List.nil_append, Nat.reduceEqDiff, Nat.reduceAdd, Nat.reduceMul, Nat.reduceSub, Nat.reduceLeDiff, Nat.reduceLT, Int.reduceLT, Int.reduceLE, Int.reduceEq, Int.reduceToNat, Int.reduceAdd, Int.reduceSub, Int.reduceNeg, not_false_eq_true, not_true_eq_false, if_true, if_false, Bool.false_xor, Bool.true_xor, Bool.false_eq_true, Bool.true_eq_false, Bool.not_true, Bool.not_false, decide_true, decide_false, Nat.zero_add, Nat.add_zero, List.getElem?_cons_zero, List.getElem?_cons_succ, true_and, and_true, and_self, List.length_cons, List.length_nil, ↓reduceIte, reduceCtorEq, Option.some_or, Option.none_or, Option.or_none, eq_self, Option.map_some, List.length_set, List.set_cons_zero, List.set_cons_succ, List.cons_append, List.drop_zero, List.drop_succ_cons, List.take_succ_cons, List.take_zero, List.all_cons, List.all_nil, Bool.and_true, Option.isSome_some, Option.isSome_none, Option.isNone_some, Option.isNone_none, false_and, and_false, ↓C.catnaplaw3_GraphNumbers_W, C.catnaplaw3_GraphNumbers_B, C.catnaplaw3_GraphNumbers, row, he, nats_length, c1]
  refine awp_loopK (fun i : Nat => [(12, .int .i64 n), (14, .int .i64 k), (19, .isl 1 (ints (nats al)) al.length), (21, .isl 1 (ints (nats bs)) al.length), (23, .int .i64 i)]) (fun i _ => i ≤ al.length) (fun i => al.length - i) 0 rfl (Nat.zero_le _) ?_
  rintro i s hi
  by_cases hil : i < al.length
  · have hil' : (i : Int) < (al.length : Nat) := by omega
    have hz : (0:Int) ≤ (i : Int) ∧ (i : Int) < (al.length : Nat) := by omega
    have hw := wsucc hil (by omega)
    have hxn := hin _ (List.getElem_mem hil)
    simp only [↓Bp, Bq, ↓aop.eq_28, ↓aop.eq_30, ↓initFr, aeqP, abinv, abin, aun, bound, aslice, aput, putN, zeros, heldOk, aheadOk, IOp.again, List.map_cons, List.map_nil, List.append_nil, List.nil_append, Nat.reduceEqDiff, Nat.reduceAdd, Nat.reduceMul, Nat.reduceSub, Nat.reduceLeDiff, Nat.reduceLT, Int.reduceLT, Int.reduceLE, Int.reduceEq, Int.reduceToNat, Int.reduceAdd, Int.reduceSub, Int.reduceNeg, not_false_eq_true, not_true_eq_false, if_true, if_false, Bool.false_xor, Bool.true_xor, Bool.false_eq_true, Bool.true_eq_false, Bool.not_true, Bool.not_false, decide_true, decide_false, Nat.zero_add, Nat.add_zero, List.getElem?_cons_zero, List.getElem?_cons_succ, true_and, and_true, and_self, List.length_cons, List.length_nil, ↓reduceIte, reduceCtorEq, Option.some_or, Option.none_or, Option.or_none, eq_self, Option.map_some, List.length_set, List.set_cons_zero, List.set_cons_succ, List.cons_append, List.drop_zero, List.drop_succ_cons, List.take_succ_cons, List.take_zero, List.all_cons, List.all_nil, Bool.and_true, Option.isSome_some, Option.isSome_none, Option.isNone_some, Option.isNone_none, false_and, and_false, ↓C.catnaplaw3_GraphNumbers_W, C.catnaplaw3_GraphNumbers_B, C.catnaplaw3_GraphNumbers, hil', hz, Int.toNat_natCast, Nat.mul_one, ints_nats_get hil, hvw _ hxn, hn0, rot_int]
    have hh := refHas_spec (st := s) (l := nats bs) (by rw [nats_length]; exact sb) ((rot n k al[i] : Nat) : Int)
    rw [nats_length, c1] at hh
    refine hh.mono ?_
    rintro r s2 ⟨rfl, rfl⟩
    have hin2 : ((rot n k al[i] : Nat) : Int) ∈ nats bs := mem_nats.mpr (c2 _ (List.getElem_mem hil))
    simp only [↓Bp, Bq, ↓aop.eq_28, ↓aop.eq_30, ↓initFr, aeqP, abinv, abin, aun, bound, aslice, aput, putN, zeros, heldOk, aheadOk, IOp.again, List.map_cons, List.map_nil, List.append_nil, List.nil_append, Nat.reduceEqDiff, Nat.reduceAdd, Nat.reduceMul, Nat.reduceSub, Nat.reduceLeDiff, Nat.reduceLT, Int.reduceLT, Int.reduceLE, Int.reduceEq, Int.reduceToNat, Int.reduceAdd, Int.reduceSub, Int.reduceNeg, not_false_eq_true, not_true_eq_false, if_true, if_false, Bool.false_xor, Bool.true_xor, Bool.false_eq_true, Bool.true_eq_false, Bool.not_true, Bool.not_false, decide_true, decide_false, Nat.zero_add, Nat.add_zero, List.getElem?_cons_zero, List.getElem?_cons_succ, true_and, and_true, and_self, List.length_cons, List.length_nil, ↓reduceIte, reduceCtorEq, Option.some_or, Option.none_or, Option.or_none, eq_self, Option.map_some, List.length_set, List.set_cons_zero, List.set_cons_succ, List.cons_append, List.drop_zero, List.drop_succ_cons, List.take_succ_cons, List.take_zero, List.all_cons, List.all_nil, Bool.and_true, Option.isSome_some, Option.isSome_none, Option.isNone_some, Option.isNone_none, false_and, and_false, ↓C.catnaplaw3_GraphNumbers_W, C.catnaplaw3_GraphNumbers_B, C.catnaplaw3_GraphNumbers, hin2, hw]
    exact ⟨i + 1, rfl, hil, by omega⟩
  · have hil' : ¬ (i : Int) < (al.length : Nat) := by omega
    simp only [↓Bp, Bq, ↓aop.eq_28, ↓aop.eq_30, ↓initFr, aeqP, abinv, abin, aun, bound, aslice, aput, putN, zeros, heldOk, aheadOk, IOp.again, List.map_cons, List.map_nil, List.append_nil, List.nil_append, Nat.reduceEqDiff, Nat.reduceAdd, Nat.reduceMul, Nat.reduceSub, Nat.reduceLeDiff, Nat.reduceLT, Int.reduceLT, Int.reduceLE, Int.reduceEq, Int.reduceToNat, Int.reduceAdd, Int.reduceSub, Int.reduceNeg, not_false_eq_true, not_true_eq_false, if_true, if_false, Bool.false_xor, Bool.true_xor, Bool.false_eq_true, Bool.true_eq_false, Bool.not_true, Bool.not_false, decide_true, decide_false, Nat.zero_add, Nat.add_zero, List.getElem?_cons_zero, List.getElem?_cons_succ, true_and, and_true, and_self, List.length_cons, List.length_nil, ↓reduceIte, reduceCtorEq, Option.some_or, Option.none_or, Option.or_none, eq_self, Option.map_some, List.length_set, List.set_cons_zero, List.set_cons_succ, List.cons_append, List.drop_zero, List.drop_succ_cons, List.take_succ_cons, List.take_zero, List.all_cons, List.all_nil, Bool.and_true, Option.isSome_some, Option.isSome_none, Option.isNone_some, Option.isNone_none, false_and, and_false, ↓C.catnaplaw3_GraphNumbers_W, C.catnaplaw3_GraphNumbers_B, C.catnaplaw3_GraphNumbers, hil']
end
end Go.Proofs.Ythmdiljjkogghaa.Cn
