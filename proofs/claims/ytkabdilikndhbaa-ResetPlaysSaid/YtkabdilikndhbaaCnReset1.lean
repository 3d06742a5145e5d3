/- Reset lines: what the program's functions do. -/
import Derived.Test.YtkabdilikndhbaaCnConf8
set_option linter.unusedSimpArgs false
set_option linter.unusedVariables false
namespace Go.Proofs.Ytkabdilikndhbaa.Cn
open Go Go.Proofs

/-- A reset line: for how long it is held at least, how it is now. -/
structure Ln where
  least : Int
  left : Int
  held : Bool
  wanted : Bool
def Ln.cells (x : Ln) : List AV := [.int .i64 x.least, .int .i64 x.left, .bool x.held, .bool x.wanted]
/-- A table of values by their numbers. -/
def entFrom (f : Nat) : List AV → List (Int × AV)
  | [] => []
  | v :: l => ((f : Int), v) :: entFrom (f + 1) l
def ent (l : List AV) : List (Int × AV) := entFrom 0 l
theorem entFrom_len (l : List AV) : ∀ f, (entFrom f l).length = l.length := by
  induction l with
  | nil => intro f; rfl
  | cons v l ih => intro f; simp [entFrom, ih]
theorem entFrom_look (l : List AV) : ∀ (f : Nat) (i : Int), look (entFrom f l) i = if (f : Int) ≤ i then l[(i - f).toNat]? else none := by
  induction l with
  | nil => intro f i; simp [entFrom, look]
  | cons v l ih =>
    intro f i
    have := ih (f + 1) i
    simp only [look, entFrom, List.find?_cons] at this ⊢
    by_cases e : (f : Int) = i
    · subst e; simp
    · have e' : ((f : Int) == i) = false := by simpa using e
      rw [e']
      simp only
      rw [this]
      by_cases h : (f : Int) ≤ i
      · rw [if_pos (by omega), if_pos h]
        obtain ⟨k, hk⟩ : ∃ k : Nat, (i - f).toNat = k + 1 := ⟨(i - f).toNat - 1, by omega⟩
        rw [hk, List.getElem?_cons_succ]
        congr 1; omega
      · rw [if_neg (by omega), if_neg h]
theorem look_ent {l : List AV} {i : Int} : look (ent l) i = if 0 ≤ i then l[i.toNat]? else none := by
  rw [ent, entFrom_look]; simp
theorem entFrom_spot (l : List AV) : ∀ (f i : Nat), i < l.length → spot (entFrom f l) ((f + i : Nat) : Int) = some i := by
  induction l with
  | nil => intro f i h; simp at h
  | cons v l ih =>
    intro f i h
    simp only [spot, entFrom, List.findIdx?_cons]
    cases i with
    | zero => simp
    | succ i =>
      have e : ((f : Int) == ((f + (i + 1) : Nat) : Int)) = false := by simp; omega
      rw [e]
      have := ih (f + 1) i (by simpa using h)
      simp only [spot] at this
      rw [show ((f + (i + 1) : Nat) : Int) = ((f + 1 + i : Nat) : Int) by omega, this]
      rfl
theorem entFrom_none (l : List AV) : ∀ f : Nat, spot (entFrom f l) ((f + l.length : Nat) : Int) = none := by
  induction l with
  | nil => intro f; rfl
  | cons v l ih =>
    intro f
    simp only [spot, entFrom, List.findIdx?_cons]
    have e : ((f : Int) == ((f + (v :: l).length : Nat) : Int)) = false := by simp; omega
    rw [e]
    have := ih (f + 1)
    simp only [spot] at this
    rw [show ((f + (v :: l).length : Nat) : Int) = ((f + 1 + l.length : Nat) : Int) by simp; omega, this]
    rfl
theorem entFrom_set (l : List AV) (v : AV) : ∀ (f i : Nat), i < l.length → (entFrom f l).set i (((f + i : Nat) : Int), v) = entFrom f (l.set i v) := by
  induction l with
  | nil => intro f i h; simp at h
  | cons w l ih =>
    intro f i h
    cases i with
    | zero => simp [entFrom]
    | succ i =>
      simp only [entFrom, List.set_cons_succ]
      rw [show ((f + (i + 1) : Nat) : Int) = ((f + 1 + i : Nat) : Int) by omega, ih (f + 1) i (by simpa using h)]
theorem mput_ent {l : List AV} {i : Nat} (h : i < l.length) (v : AV) : mput (ent l) (i : Int) v = ent (l.set i v) := by
  have h1 := entFrom_spot l 0 i h
  have h2 := entFrom_set l v 0 i h
  rw [Nat.zero_add] at h1 h2
  rw [ent, mput, h1]; exact h2
theorem entFrom_app (l : List AV) (v : AV) : ∀ f : Nat, entFrom f l ++ [(((f + l.length : Nat) : Int), v)] = entFrom f (l ++ [v]) := by
  induction l with
  | nil => intro f; simp [entFrom]
  | cons w l ih =>
    intro f
    simp only [entFrom, List.cons_append]
    rw [← ih (f + 1)]
    congr 3
    simp; omega
theorem mput_ent_new {l : List AV} (v : AV) : mput (ent l) (l.length : Int) v = ent (l ++ [v]) := by
  have h1 := entFrom_none l 0
  have h2 := entFrom_app l v 0
  rw [Nat.zero_add] at h1 h2
  rw [ent, mput, h1]; exact h2

def lnAV (x : Ln) : AV := .agg x.cells
def lnsE (ls : List Ln) : AObj := .map (ent (ls.map lnAV))
/-- Lines, and where they lie. -/
structure LinesAt (st : ASt) (p m : Nat) (ls : List Ln) : Prop where
  hp : st.h p = some (.cells [.map m])
  hm : st.h m = some (lnsE ls)
theorem LinesAt.ne {st : ASt} {p m : Nat} {ls : List Ln} (h : LinesAt st p m ls) : p ≠ m := by
  rintro rfl
  have := h.hp
  rw [h.hm] at this; cases this
theorem LinesAt.set {st : ASt} {p m : Nat} {ls : List Ln} (h : LinesAt st p m ls) (ls' : List Ln) : LinesAt (st.set m (lnsE ls')) p m ls' :=
  ⟨by rw [ASt.set_h, if_neg h.ne]; exact h.hp, by rw [ASt.set_h, if_pos rfl, h.hm]; rfl⟩
theorem LinesAt.le {st t : ASt} {p m : Nat} {ls : List Ln} (h : LinesAt st p m ls) (hl : st.le t) : LinesAt t p m ls := ⟨hl _ _ h.hp, hl _ _ h.hm⟩
theorem ASt.set_same {st : ASt} {id : Nat} {o : AObj} (h : st.h id = some o) : st.set id o = st := ASt.ext' fun i => by
  rw [ASt.set_h]; split
  · rename_i e; subst e; rw [h]; rfl
  · rfl
/-- Is there a line of that number? -/
def isLn (ls : List Ln) (i : Int) : Prop := 0 ≤ i ∧ i < (ls.length : Int)
instance (ls : List Ln) (i : Int) : Decidable (isLn ls i) := inferInstanceAs (Decidable (_ ∧ _))
def zeroLn : Ln := ⟨0, 0, false, false⟩
instance : Inhabited Ln := ⟨zeroLn⟩
def lnOf (ls : List Ln) (i : Int) : Ln := if isLn ls i then ls.getD i.toNat zeroLn else zeroLn
theorem lnOf_at {ls : List Ln} {i : Nat} (h : i < ls.length) : lnOf ls (i : Int) = ls[i] := by
  rw [lnOf, if_pos ⟨by omega, by omega⟩]; simp [h]
theorem look_ln {ls : List Ln} {i : Int} : look (ent (ls.map lnAV)) i = if isLn ls i then some (lnAV (lnOf ls i)) else none := by
  rw [look_ent]
  by_cases h : isLn ls i
  · obtain ⟨h0, h1⟩ := h
    rw [if_pos h0, if_pos ⟨h0, h1⟩, lnOf, if_pos ⟨h0, h1⟩]
    have : i.toNat < ls.length := by omega
    simp [this]
  · rw [if_neg h]
    by_cases h0 : 0 ≤ i
    · rw [if_pos h0]
      have : ls.length ≤ i.toNat := by unfold isLn at h; omega
      simp [this]
    · rw [if_neg h0]

theorem mput_ln {ls : List Ln} {i : Int} (hi : isLn ls i) (x : Ln) : mput (ent (ls.map lnAV)) i (lnAV x) = ent ((ls.set i.toNat x).map lnAV) := by
  obtain ⟨h0, h1⟩ := hi
  obtain ⟨k, rfl⟩ : ∃ k : Nat, i = k := ⟨i.toNat, by omega⟩
  rw [mput_ent (by simp; omega)]
  simp
section
variable {st : ASt} {p m : Nat} {ls : List Ln} (h : LinesAt st p m ls)
include h
theorem find_spec (i : Int) : ACalls Try.prog F.reset_Lines_find [.ptr p 0, .int .i64 i] st fun r s => r = .tup [lnAV (lnOf ls i), .bool (decide (isLn ls i))] ∧ s = st := by
  refine ACalls.gc (Q' := fun r s => r = .tup [lnAV (lnOf ls i), .bool (decide (isLn ls i))] ∧ st.le s) (calls_of_awp L.reset_Lines_find rfl ?_) (fun v s ⟨h, hl⟩ => ⟨st, hl, h, rfl⟩)
  have hp := h.hp
  have hm := h.hm
  rw [lnsE] at hm
  have e4 : ∀ x : Ln, AV.agg (List.take 4 x.cells) = .agg x.cells := fun _ => rfl
  have l4 : ∀ x : Ln, x.cells.length = 4 := fun _ => rfl
  have f4 : ∀ x : Ln, allLeaf x.cells = true := fun _ => rfl
  obtain ⟨x, hx⟩ : ∃ x, x = lnOf ls i := ⟨_, rfl⟩
  rw [← hx]
  have fin : ∀ (ok : Bool) (i4 i6 : Nat) (s6 : ASt), st.h i4 = none → st.le s6 → s6.h i4 = some (.cells zeroLn.cells) → s6.h i6 = some (.cells x.cells) → i6 ≠ i4 →
      awp Try.prog C.reset_Lines_find_c1 (Post [.cellN 4 4, .slot 5] fun r s => r = .tup [lnAV x, .bool ok] ∧ st.le s) [(4, .ptr i4 0), (6, .ptr i6 0), (7, .bool ok)] s6 := by
    intro ok i4 i6 s6 h4 hle h1 h2 hne
    simp only [↓Bp, Bq, Bs, ↓aop.eq_28, ↓aop.eq_30, Nat.reduceEqDiff, Nat.reduceAdd, Nat.reduceMul, Nat.reduceSub, Nat.reduceLeDiff, Nat.reduceLT, Int.reduceLT, Int.reduceLE, Int.reduceEq, Int.reduceToNat, Int.reduceAdd, Int.reduceSub, Int.reduceNeg, ↓reduceIte, reduceCtorEq, ↓C.reset_Lines_find_W, C.reset_Lines_find_B, C.reset_Lines_find, h1, h2, e4, l4, f4]
    have hlen : (putN zeroLn.cells 0 x.cells) = x.cells := putN_all rfl
    rw [hlen]
    simp only [↓Bp, Bq, Bs, ↓aop.eq_28, ↓aop.eq_30, Nat.reduceEqDiff, Nat.reduceAdd, Nat.reduceMul, Nat.reduceSub, Nat.reduceLeDiff, Nat.reduceLT, Int.reduceLT, Int.reduceLE, Int.reduceEq, Int.reduceToNat, Int.reduceAdd, Int.reduceSub, Int.reduceNeg, ↓reduceIte, reduceCtorEq, l4, e4]
    exact ⟨rfl, fun j o hj => by
      rw [ASt.set_h, if_neg (by rintro rfl; rw [h4] at hj; cases hj)]; exact hle _ _ hj⟩
  simp only [↓Bp, Bq, Bs, ↓aop.eq_28, ↓aop.eq_30, Nat.reduceEqDiff, Nat.reduceAdd, Nat.reduceMul, Nat.reduceSub, Nat.reduceLeDiff, Nat.reduceLT, Int.reduceLT, Int.reduceLE, Int.reduceEq, Int.reduceToNat, Int.reduceAdd, Int.reduceSub, Int.reduceNeg, ↓reduceIte, reduceCtorEq, ↓C.reset_Lines_find_r0_w, C.reset_Lines_find_r0_b, C.reset_Lines_find]
  rintro i4 hi4
  by_cases hi : isLn ls i
  · simp only [↓Bp, Bq, Bs, ↓aop.eq_28, ↓aop.eq_30, Nat.reduceEqDiff, Nat.reduceAdd, Nat.reduceMul, Nat.reduceSub, Nat.reduceLeDiff, Nat.reduceLT, Int.reduceLT, Int.reduceLE, Int.reduceEq, Int.reduceToNat, Int.reduceAdd, Int.reduceSub, Int.reduceNeg, ↓reduceIte, reduceCtorEq, ↓C.reset_Lines_find_r3_w, C.reset_Lines_find_r3_b, ↓C.reset_Lines_find_c2_w, ↓C.reset_Lines_find_r2_w, C.reset_Lines_find_r2_b, ↓C.reset_Lines_find_c3_w, ↓C.reset_Lines_find_c4_w, ↓C.reset_Lines_find_r1_w, C.reset_Lines_find_r1_b, ↓C.reset_Lines_find_c5_w, ↓C.reset_Lines_find_r0_w, C.reset_Lines_find_r0_b, C.reset_Lines_find, hi4, hp, hm, look_ln, hi, lnAV, f4, l4]
    rintro i6 ⟨hi6, hne⟩
    have h6' : (st.new i4 (.cells zeroLn.cells)).h i6 = none := by rw [ASt.new_none]; exact ⟨hi6, hne⟩
    simp only [↓Bp, Bq, Bs, ↓aop.eq_28, ↓aop.eq_30, Nat.reduceEqDiff, Nat.reduceAdd, Nat.reduceMul, Nat.reduceSub, Nat.reduceLeDiff, Nat.reduceLT, Int.reduceLT, Int.reduceLE, Int.reduceEq, Int.reduceToNat, Int.reduceAdd, Int.reduceSub, Int.reduceNeg, ↓reduceIte, reduceCtorEq, ↓C.reset_Lines_find_r3_w, C.reset_Lines_find_r3_b, ↓C.reset_Lines_find_c2_w, ↓C.reset_Lines_find_r2_w, C.reset_Lines_find_r2_b, ↓C.reset_Lines_find_c3_w, ↓C.reset_Lines_find_c4_w, ↓C.reset_Lines_find_r1_w, C.reset_Lines_find_r1_b, ↓C.reset_Lines_find_c5_w, ↓C.reset_Lines_find_r0_w, C.reset_Lines_find_r0_b, C.reset_Lines_find, hi6, hne]
    rw [← hx, show putN [AV.int .i64 0, AV.int .i64 0, AV.bool false, AV.bool false] 0 x.cells = x.cells from putN_all rfl]
    rw [show [AV.int .i64 0, AV.int .i64 0, AV.bool false, AV.bool false] = zeroLn.cells from rfl, ASt.new_set h6', C.reset_Lines_find_c1_w, awp_keep]
    exact fin true i4 i6 _ hi4 ((ASt.le.new _ _ _).trans (ASt.le.new _ _ _)) (ASt.new_old (ASt.new_self _ hi4)) (ASt.new_self _ h6') hne
  · have hx0 : x = zeroLn := by rw [hx, lnOf, if_neg hi]
    simp only [↓Bp, Bq, Bs, ↓aop.eq_28, ↓aop.eq_30, Nat.reduceEqDiff, Nat.reduceAdd, Nat.reduceMul, Nat.reduceSub, Nat.reduceLeDiff, Nat.reduceLT, Int.reduceLT, Int.reduceLE, Int.reduceEq, Int.reduceToNat, Int.reduceAdd, Int.reduceSub, Int.reduceNeg, ↓reduceIte, reduceCtorEq, ↓C.reset_Lines_find_r3_w, C.reset_Lines_find_r3_b, ↓C.reset_Lines_find_c2_w, ↓C.reset_Lines_find_r2_w, C.reset_Lines_find_r2_b, ↓C.reset_Lines_find_c3_w, ↓C.reset_Lines_find_c4_w, ↓C.reset_Lines_find_r1_w, C.reset_Lines_find_r1_b, ↓C.reset_Lines_find_c5_w, ↓C.reset_Lines_find_r0_w, C.reset_Lines_find_r0_b, C.reset_Lines_find, hi4, hp, hm, look_ln, hi, lnAV, f4, l4]
    rintro i6 ⟨hi6, hne⟩
    have h6' : (st.new i4 (.cells zeroLn.cells)).h i6 = none := by rw [ASt.new_none]; exact ⟨hi6, hne⟩
    simp only [↓Bp, Bq, Bs, ↓aop.eq_28, ↓aop.eq_30, Nat.reduceEqDiff, Nat.reduceAdd, Nat.reduceMul, Nat.reduceSub, Nat.reduceLeDiff, Nat.reduceLT, Int.reduceLT, Int.reduceLE, Int.reduceEq, Int.reduceToNat, Int.reduceAdd, Int.reduceSub, Int.reduceNeg, ↓reduceIte, reduceCtorEq, ↓C.reset_Lines_find_r3_w, C.reset_Lines_find_r3_b, ↓C.reset_Lines_find_c2_w, ↓C.reset_Lines_find_r2_w, C.reset_Lines_find_r2_b, ↓C.reset_Lines_find_c3_w, ↓C.reset_Lines_find_c4_w, ↓C.reset_Lines_find_r1_w, C.reset_Lines_find_r1_b, ↓C.reset_Lines_find_c5_w, ↓C.reset_Lines_find_r0_w, C.reset_Lines_find_r0_b, C.reset_Lines_find, hi6, hne]
    rw [show [AV.int .i64 0, AV.int .i64 0, AV.bool false, AV.bool false] = zeroLn.cells from rfl, ASt.new_set h6', C.reset_Lines_find_c1_w, awp_keep]
    refine ⟨rfl, fin false i4 i6 _ hi4 ((ASt.le.new _ _ _).trans (ASt.le.new _ _ _)) (ASt.new_old (ASt.new_self _ hi4)) ?_ hne⟩
    rw [hx0]; exact ASt.new_self _ h6'

/-- What becomes of lines. -/
def assertL (ls : List Ln) (i : Int) : List Ln := if isLn ls i then ls.set i.toNat { lnOf ls i with held := true, left := (lnOf ls i).least, wanted := false } else ls
def releaseL (ls : List Ln) (i : Int) : List Ln := if isLn ls i ∧ (lnOf ls i).held = true then ls.set i.toNat { lnOf ls i with wanted := true } else ls
def assertE (ls : List Ln) (i : Int) : Int := if isLn ls i then 0 else 4
def releaseE (ls : List Ln) (i : Int) : Int := if isLn ls i then (if (lnOf ls i).held = true then 0 else 6) else 4
theorem assert_spec (i : Int) : ACalls Try.prog F.reset_Lines_Assert [.ptr p 0, .int .i64 i] st fun r s => r = .int .i64 (assertE ls i) ∧ s = st.set m (lnsE (assertL ls i)) := by
  refine ACalls.gc (Q' := fun r s => r = .int .i64 (assertE ls i) ∧ (st.set m (lnsE (assertL ls i))).le s) (calls_of_awp L.reset_Lines_Assert rfl ?_) (fun v s ⟨h, hl⟩ => ⟨_, hl, h, rfl⟩)
  simp only [↓Bp, Bq, Bs, ↓aop.eq_28, ↓aop.eq_30, Nat.reduceEqDiff, Nat.reduceAdd, Nat.reduceMul, Nat.reduceSub, Nat.reduceLeDiff, Nat.reduceLT, Int.reduceLT, Int.reduceLE, Int.reduceEq, Int.reduceToNat, Int.reduceAdd, Int.reduceSub, Int.reduceNeg, ↓reduceIte, reduceCtorEq, ↓C.reset_Lines_Assert_W, C.reset_Lines_Assert_B, C.reset_Lines_Assert]
  refine (find_spec h i).mono ?_
  rintro r s ⟨rfl, rfl⟩
  obtain ⟨x, hx⟩ : ∃ x, x = lnOf ls i := ⟨_, rfl⟩
  rw [← hx]
  have hp := h.hp
  have hm := h.hm
  have l4 : x.cells.length = 4 := rfl
  have f4 : allLeaf x.cells = true := rfl
  have hml : ∀ i6, s.h i6 = none → m ≠ i6 := fun i6 h6 => by rintro rfl; rw [hm] at h6; cases h6
  have hpl : ∀ i6, s.h i6 = none → p ≠ i6 := fun i6 h6 => by rintro rfl; rw [hp] at h6; cases h6
  simp only [↓Bp, Bq, Bs, ↓aop.eq_28, ↓aop.eq_30, Nat.reduceEqDiff, Nat.reduceAdd, Nat.reduceMul, Nat.reduceSub, Nat.reduceLeDiff, Nat.reduceLT, Int.reduceLT, Int.reduceLE, Int.reduceEq, Int.reduceToNat, Int.reduceAdd, Int.reduceSub, Int.reduceNeg, ↓reduceIte, reduceCtorEq, ↓C.reset_Lines_Assert_r1_w, C.reset_Lines_Assert_r1_b, ↓C.reset_Lines_Assert_c7_w, ↓C.reset_Lines_Assert_r0_w, C.reset_Lines_Assert_r0_b, C.reset_Lines_Assert, lnAV]
  rintro i5 hi5
  simp only [↓Bp, Bq, Bs, ↓aop.eq_28, ↓aop.eq_30, Nat.reduceEqDiff, Nat.reduceAdd, Nat.reduceMul, Nat.reduceSub, Nat.reduceLeDiff, Nat.reduceLT, Int.reduceLT, Int.reduceLE, Int.reduceEq, Int.reduceToNat, Int.reduceAdd, Int.reduceSub, Int.reduceNeg, ↓reduceIte, reduceCtorEq, ↓C.reset_Lines_Assert_r1_w, C.reset_Lines_Assert_r1_b, ↓C.reset_Lines_Assert_c7_w, ↓C.reset_Lines_Assert_r0_w, C.reset_Lines_Assert_r0_b, C.reset_Lines_Assert, hi5, l4, f4]
  rw [show putN [AV.int .i64 0, AV.int .i64 0, AV.bool false, AV.bool false] 0 x.cells = x.cells from putN_all rfl, ASt.new_set hi5]
  by_cases hi : isLn ls i
  rotate_left
  · simp only [↓Bp, Bq, Bs, ↓aop.eq_28, ↓aop.eq_30, Nat.reduceEqDiff, Nat.reduceAdd, Nat.reduceMul, Nat.reduceSub, Nat.reduceLeDiff, Nat.reduceLT, Int.reduceLT, Int.reduceLE, Int.reduceEq, Int.reduceToNat, Int.reduceAdd, Int.reduceSub, Int.reduceNeg, ↓reduceIte, reduceCtorEq, ↓C.reset_Lines_Assert_W, C.reset_Lines_Assert_B, C.reset_Lines_Assert, hi]
    refine ⟨by rw [assertE, if_neg hi], ?_⟩
    rw [assertL, if_neg hi, ASt.set_same hm]
    exact ASt.le.new _ _ _
  have hm5 := hml i5 hi5
  have hp5 := hpl i5 hi5
  rw [lnsE] at hm
  have hpm := h.ne
  simp only [↓Bp, Bq, Bs, ↓aop.eq_28, ↓aop.eq_30, Nat.reduceEqDiff, Nat.reduceAdd, Nat.reduceMul, Nat.reduceSub, Nat.reduceLeDiff, Nat.reduceLT, Int.reduceLT, Int.reduceLE, Int.reduceEq, Int.reduceToNat, Int.reduceAdd, Int.reduceSub, Int.reduceNeg, ↓reduceIte, reduceCtorEq, ↓C.reset_Lines_Assert_W, C.reset_Lines_Assert_B, C.reset_Lines_Assert, hi, hi5, Ln.cells, hp, hm, hm5, hp5, Ne.symm hm5, hpm, Ne.symm hpm]
  refine ⟨by rw [assertE, if_pos hi], ?_⟩
  rw [show AV.agg [AV.int .i64 x.least, AV.int .i64 x.least, AV.bool true, AV.bool false] = lnAV { x with held := true, left := x.least, wanted := false } from rfl, mput_ln hi, assertL, if_pos hi, ← hx]
  refine ASt.le.set ?_ _ _
  intro j o hj
  have : j ≠ i5 := by rintro rfl; rw [hi5] at hj; cases hj
  simp only [ASt.set_h, if_neg this]
  exact ASt.new_old hj
theorem release_spec (i : Int) : ACalls Try.prog F.reset_Lines_Release [.ptr p 0, .int .i64 i] st fun r s => r = .int .i64 (releaseE ls i) ∧ s = st.set m (lnsE (releaseL ls i)) := by
  refine ACalls.gc (Q' := fun r s => r = .int .i64 (releaseE ls i) ∧ (st.set m (lnsE (releaseL ls i))).le s) (calls_of_awp L.reset_Lines_Release rfl ?_) (fun v s ⟨h, hl⟩ => ⟨_, hl, h, rfl⟩)
  simp only [↓Bp, Bq, Bs, ↓aop.eq_28, ↓aop.eq_30, Nat.reduceEqDiff, Nat.reduceAdd, Nat.reduceMul, Nat.reduceSub, Nat.reduceLeDiff, Nat.reduceLT, Int.reduceLT, Int.reduceLE, Int.reduceEq, Int.reduceToNat, Int.reduceAdd, Int.reduceSub, Int.reduceNeg, ↓reduceIte, reduceCtorEq, ↓C.reset_Lines_Release_W, C.reset_Lines_Release_B, C.reset_Lines_Release]
  refine (find_spec h i).mono ?_
  rintro r s ⟨rfl, rfl⟩
  obtain ⟨x, hx⟩ : ∃ x, x = lnOf ls i := ⟨_, rfl⟩
  rw [← hx]
  have hp := h.hp
  have hm := h.hm
  have l4 : x.cells.length = 4 := rfl
  have f4 : allLeaf x.cells = true := rfl
  have hml : ∀ i6, s.h i6 = none → m ≠ i6 := fun i6 h6 => by rintro rfl; rw [hm] at h6; cases h6
  have hpl : ∀ i6, s.h i6 = none → p ≠ i6 := fun i6 h6 => by rintro rfl; rw [hp] at h6; cases h6
  simp only [↓Bp, Bq, Bs, ↓aop.eq_28, ↓aop.eq_30, Nat.reduceEqDiff, Nat.reduceAdd, Nat.reduceMul, Nat.reduceSub, Nat.reduceLeDiff, Nat.reduceLT, Int.reduceLT, Int.reduceLE, Int.reduceEq, Int.reduceToNat, Int.reduceAdd, Int.reduceSub, Int.reduceNeg, ↓reduceIte, reduceCtorEq, ↓C.reset_Lines_Release_r1_w, C.reset_Lines_Release_r1_b, ↓C.reset_Lines_Release_c10_w, ↓C.reset_Lines_Release_r0_w, C.reset_Lines_Release_r0_b, C.reset_Lines_Release, lnAV]
  rintro i5 hi5
  simp only [↓Bp, Bq, Bs, ↓aop.eq_28, ↓aop.eq_30, Nat.reduceEqDiff, Nat.reduceAdd, Nat.reduceMul, Nat.reduceSub, Nat.reduceLeDiff, Nat.reduceLT, Int.reduceLT, Int.reduceLE, Int.reduceEq, Int.reduceToNat, Int.reduceAdd, Int.reduceSub, Int.reduceNeg, ↓reduceIte, reduceCtorEq, ↓C.reset_Lines_Release_r1_w, C.reset_Lines_Release_r1_b, ↓C.reset_Lines_Release_c10_w, ↓C.reset_Lines_Release_r0_w, C.reset_Lines_Release_r0_b, C.reset_Lines_Release, hi5, l4, f4]
  rw [show putN [AV.int .i64 0, AV.int .i64 0, AV.bool false, AV.bool false] 0 x.cells = x.cells from putN_all rfl, ASt.new_set hi5]
  by_cases hi : isLn ls i
  rotate_left
  · simp only [↓Bp, Bq, Bs, ↓aop.eq_28, ↓aop.eq_30, Nat.reduceEqDiff, Nat.reduceAdd, Nat.reduceMul, Nat.reduceSub, Nat.reduceLeDiff, Nat.reduceLT, Int.reduceLT, Int.reduceLE, Int.reduceEq, Int.reduceToNat, Int.reduceAdd, Int.reduceSub, Int.reduceNeg, ↓reduceIte, reduceCtorEq, ↓C.reset_Lines_Release_W, C.reset_Lines_Release_B, C.reset_Lines_Release, hi]
    refine ⟨by rw [releaseE, if_neg hi], ?_⟩
    rw [releaseL, if_neg (fun h => hi h.1), ASt.set_same hm]
    exact ASt.le.new _ _ _
  have hm5 := hml i5 hi5
  have hp5 := hpl i5 hi5
  by_cases hh : x.held = true
  rotate_left
  · have hh' : x.held = false := by simpa using hh
    simp only [↓Bp, Bq, Bs, ↓aop.eq_28, ↓aop.eq_30, Nat.reduceEqDiff, Nat.reduceAdd, Nat.reduceMul, Nat.reduceSub, Nat.reduceLeDiff, Nat.reduceLT, Int.reduceLT, Int.reduceLE, Int.reduceEq, Int.reduceToNat, Int.reduceAdd, Int.reduceSub, Int.reduceNeg, ↓reduceIte, reduceCtorEq, ↓C.reset_Lines_Release_W, C.reset_Lines_Release_B, C.reset_Lines_Release, hi, hi5, Ln.cells, hh']
    refine ⟨by rw [releaseE, if_pos hi, ← hx, if_neg hh], ?_⟩
    rw [releaseL, if_neg (fun h => hh (by rw [hx]; exact h.2)), ASt.set_same hm]
    exact ASt.le.new _ _ _
  rw [lnsE] at hm
  have hpm := h.ne
  simp only [↓Bp, Bq, Bs, ↓aop.eq_28, ↓aop.eq_30, Nat.reduceEqDiff, Nat.reduceAdd, Nat.reduceMul, Nat.reduceSub, Nat.reduceLeDiff, Nat.reduceLT, Int.reduceLT, Int.reduceLE, Int.reduceEq, Int.reduceToNat, Int.reduceAdd, Int.reduceSub, Int.reduceNeg, ↓reduceIte, reduceCtorEq, ↓C.reset_Lines_Release_W, C.reset_Lines_Release_B, C.reset_Lines_Release, hi, hi5, Ln.cells, hp, hm, hm5, hp5, Ne.symm hm5, hpm, Ne.symm hpm, hh]
  refine ⟨by rw [releaseE, if_pos hi, ← hx, if_pos hh], ?_⟩
  rw [show AV.agg [AV.int .i64 x.least, AV.int .i64 x.left, AV.bool true, AV.bool true] = lnAV { x with held := true, wanted := true } from rfl, mput_ln hi, releaseL, if_pos ⟨hi, by rw [← hx]; exact hh⟩, ← hx, show ({ x with held := true, wanted := true } : Ln) = { x with wanted := true } by rw [← hh]]
  refine ASt.le.set ?_ _ _
  intro j o hj
  have : j ≠ i5 := by rintro rfl; rw [hi5] at hj; cases hj
  simp only [ASt.set_h, if_neg this]
  exact ASt.new_old hj
theorem held_spec (i : Int) : ACalls Try.prog F.reset_Lines_Held [.ptr p 0, .int .i64 i] st fun r s => r = .bool (!decide (isLn ls i) || (lnOf ls i).held) ∧ s = st := by
  refine ACalls.gc (Q' := fun r s => r = .bool (!decide (isLn ls i) || (lnOf ls i).held) ∧ st.le s) (calls_of_awp L.reset_Lines_Held rfl ?_) (fun v s ⟨h, hl⟩ => ⟨st, hl, h, rfl⟩)
  simp only [↓Bp, Bq, Bs, ↓aop.eq_28, ↓aop.eq_30, Nat.reduceEqDiff, Nat.reduceAdd, Nat.reduceMul, Nat.reduceSub, Nat.reduceLeDiff, Nat.reduceLT, Int.reduceLT, Int.reduceLE, Int.reduceEq, Int.reduceToNat, Int.reduceAdd, Int.reduceSub, Int.reduceNeg, ↓reduceIte, reduceCtorEq, ↓C.reset_Lines_Held_W, C.reset_Lines_Held_B, C.reset_Lines_Held]
  refine (find_spec h i).mono ?_
  rintro r s ⟨rfl, rfl⟩
  generalize lnOf ls i = x
  have l4 : x.cells.length = 4 := rfl
  have f4 : allLeaf x.cells = true := rfl
  simp only [↓Bp, Bq, Bs, ↓aop.eq_28, ↓aop.eq_30, Nat.reduceEqDiff, Nat.reduceAdd, Nat.reduceMul, Nat.reduceSub, Nat.reduceLeDiff, Nat.reduceLT, Int.reduceLT, Int.reduceLE, Int.reduceEq, Int.reduceToNat, Int.reduceAdd, Int.reduceSub, Int.reduceNeg, ↓reduceIte, reduceCtorEq, ↓C.reset_Lines_Held_r1_w, C.reset_Lines_Held_r1_b, ↓C.reset_Lines_Held_c2_w, ↓C.reset_Lines_Held_r0_w, C.reset_Lines_Held_r0_b, C.reset_Lines_Held, lnAV]
  rintro i5 hi5
  simp only [↓Bp, Bq, Bs, ↓aop.eq_28, ↓aop.eq_30, Nat.reduceEqDiff, Nat.reduceAdd, Nat.reduceMul, Nat.reduceSub, Nat.reduceLeDiff, Nat.reduceLT, Int.reduceLT, Int.reduceLE, Int.reduceEq, Int.reduceToNat, Int.reduceAdd, Int.reduceSub, Int.reduceNeg, ↓reduceIte, reduceCtorEq, ↓C.reset_Lines_Held_r1_w, C.reset_Lines_Held_r1_b, ↓C.reset_Lines_Held_c2_w, ↓C.reset_Lines_Held_r0_w, C.reset_Lines_Held_r0_b, C.reset_Lines_Held, hi5, l4, f4]
  rw [show putN [AV.int .i64 0, AV.int .i64 0, AV.bool false, AV.bool false] 0 x.cells = x.cells from putN_all rfl, ASt.new_set hi5]
  by_cases hi : isLn ls i
  · simp only [↓Bp, Bq, Bs, ↓aop.eq_28, ↓aop.eq_30, Nat.reduceEqDiff, Nat.reduceAdd, Nat.reduceMul, Nat.reduceSub, Nat.reduceLeDiff, Nat.reduceLT, Int.reduceLT, Int.reduceLE, Int.reduceEq, Int.reduceToNat, Int.reduceAdd, Int.reduceSub, Int.reduceNeg, ↓reduceIte, reduceCtorEq, ↓C.reset_Lines_Held_W, C.reset_Lines_Held_B, C.reset_Lines_Held, hi, hi5, Ln.cells, Bool.false_or]
    exact ASt.le.new _ _ _
  · simp only [↓Bp, Bq, Bs, ↓aop.eq_28, ↓aop.eq_30, Nat.reduceEqDiff, Nat.reduceAdd, Nat.reduceMul, Nat.reduceSub, Nat.reduceLeDiff, Nat.reduceLT, Int.reduceLT, Int.reduceLE, Int.reduceEq, Int.reduceToNat, Int.reduceAdd, Int.reduceSub, Int.reduceNeg, ↓reduceIte, reduceCtorEq, ↓C.reset_Lines_Held_W, C.reset_Lines_Held_B, C.reset_Lines_Held, hi, hi5, Ln.cells, Bool.true_or]
    exact ASt.le.new _ _ _
theorem left_spec (i : Int) : ACalls Try.prog F.reset_Lines_Left [.ptr p 0, .int .i64 i] st fun r s => r = .int .i64 (if (lnOf ls i).held = true then (lnOf ls i).left else 0) ∧ s = st := by
  refine ACalls.gc (Q' := fun r s => r = .int .i64 (if (lnOf ls i).held = true then (lnOf ls i).left else 0) ∧ st.le s) (calls_of_awp L.reset_Lines_Left rfl ?_) (fun v s ⟨h, hl⟩ => ⟨st, hl, h, rfl⟩)
  simp only [↓Bp, Bq, Bs, ↓aop.eq_28, ↓aop.eq_30, Nat.reduceEqDiff, Nat.reduceAdd, Nat.reduceMul, Nat.reduceSub, Nat.reduceLeDiff, Nat.reduceLT, Int.reduceLT, Int.reduceLE, Int.reduceEq, Int.reduceToNat, Int.reduceAdd, Int.reduceSub, Int.reduceNeg, ↓reduceIte, reduceCtorEq, ↓C.reset_Lines_Left_W, C.reset_Lines_Left_B, C.reset_Lines_Left]
  refine (find_spec h i).mono ?_
  rintro r s ⟨rfl, rfl⟩
  obtain ⟨x, hx⟩ : ∃ x, x = lnOf ls i := ⟨_, rfl⟩
  rw [← hx]
  have l4 : x.cells.length = 4 := rfl
  have f4 : allLeaf x.cells = true := rfl
  simp only [↓Bp, Bq, Bs, ↓aop.eq_28, ↓aop.eq_30, Nat.reduceEqDiff, Nat.reduceAdd, Nat.reduceMul, Nat.reduceSub, Nat.reduceLeDiff, Nat.reduceLT, Int.reduceLT, Int.reduceLE, Int.reduceEq, Int.reduceToNat, Int.reduceAdd, Int.reduceSub, Int.reduceNeg, ↓reduceIte, reduceCtorEq, ↓C.reset_Lines_Left_r1_w, C.reset_Lines_Left_r1_b, ↓C.reset_Lines_Left_c5_w, ↓C.reset_Lines_Left_r0_w, C.reset_Lines_Left_r0_b, C.reset_Lines_Left, lnAV]
  rintro i5 hi5
  simp only [↓Bp, Bq, Bs, ↓aop.eq_28, ↓aop.eq_30, Nat.reduceEqDiff, Nat.reduceAdd, Nat.reduceMul, Nat.reduceSub, Nat.reduceLeDiff, Nat.reduceLT, Int.reduceLT, Int.reduceLE, Int.reduceEq, Int.reduceToNat, Int.reduceAdd, Int.reduceSub, Int.reduceNeg, ↓reduceIte, reduceCtorEq, ↓C.reset_Lines_Left_r1_w, C.reset_Lines_Left_r1_b, ↓C.reset_Lines_Left_c5_w, ↓C.reset_Lines_Left_r0_w, C.reset_Lines_Left_r0_b, C.reset_Lines_Left, hi5, l4, f4]
  rw [show putN [AV.int .i64 0, AV.int .i64 0, AV.bool false, AV.bool false] 0 x.cells = x.cells from putN_all rfl, ASt.new_set hi5]
  by_cases hi : isLn ls i
  · by_cases hh : x.held = true
    · simp only [↓Bp, Bq, Bs, ↓aop.eq_28, ↓aop.eq_30, Nat.reduceEqDiff, Nat.reduceAdd, Nat.reduceMul, Nat.reduceSub, Nat.reduceLeDiff, Nat.reduceLT, Int.reduceLT, Int.reduceLE, Int.reduceEq, Int.reduceToNat, Int.reduceAdd, Int.reduceSub, Int.reduceNeg, ↓reduceIte, reduceCtorEq, ↓C.reset_Lines_Left_W, C.reset_Lines_Left_B, C.reset_Lines_Left, hi, hi5, Ln.cells, hh]
      exact ASt.le.new _ _ _
    · have hh' : x.held = false := by simpa using hh
      simp only [↓Bp, Bq, Bs, ↓aop.eq_28, ↓aop.eq_30, Nat.reduceEqDiff, Nat.reduceAdd, Nat.reduceMul, Nat.reduceSub, Nat.reduceLeDiff, Nat.reduceLT, Int.reduceLT, Int.reduceLE, Int.reduceEq, Int.reduceToNat, Int.reduceAdd, Int.reduceSub, Int.reduceNeg, ↓reduceIte, reduceCtorEq, ↓C.reset_Lines_Left_W, C.reset_Lines_Left_B, C.reset_Lines_Left, hi, hi5, Ln.cells, hh']
      exact ASt.le.new _ _ _
  · have hx0 : x.held = false := by rw [hx, lnOf, if_neg hi]; rfl
    simp only [↓Bp, Bq, Bs, ↓aop.eq_28, ↓aop.eq_30, Nat.reduceEqDiff, Nat.reduceAdd, Nat.reduceMul, Nat.reduceSub, Nat.reduceLeDiff, Nat.reduceLT, Int.reduceLT, Int.reduceLE, Int.reduceEq, Int.reduceToNat, Int.reduceAdd, Int.reduceSub, Int.reduceNeg, ↓reduceIte, reduceCtorEq, ↓C.reset_Lines_Left_W, C.reset_Lines_Left_B, C.reset_Lines_Left, hi, hi5, Ln.cells, hx0]
    exact ASt.le.new _ _ _
end
end Go.Proofs.Ytkabdilikndhbaa.Cn
