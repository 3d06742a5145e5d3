/- The abstract layer, part 21: calls that only read what the caller owns; slices of slices. No conditions. -/
import Derived.Test.YtjamidgdhmjhaaaCnMore
set_option linter.unusedSimpArgs false
set_option linter.unusedVariables false
namespace Go.Proofs.Ytjamidgdhmjhaaa.Cn
open Go Go.RowKit

/-- All that lies in a world at its start. -/
def start (W : World) : ACx := ⟨0, fun _ => (0, 0), fun _ => 0, fun b o => W.cell? ⟨b, o, none⟩⟩

theorem start_sim (W : World) : ASim W.heap.size W (fun _ => False) W (start W) ⟨fun _ => none⟩ W :=
  { live := fun i hi => absurd rfl hi
    below := Below.refl _ _
    hB := Nat.le_refl _
    inj := fun i j hi => absurd rfl hi
    lo := fun i hi => absurd rfl hi
    obj := fun i o ho => by cases ho
    imm := fun b o v hk => ⟨hk, id, fun i hi => absurd rfl hi⟩
    res := fun b hb => hb.elim }

/-- A value of a heap, seen by one who only reads. -/
def SView (st : ASt) (a a1 : AV) : Prop := ∀ B w0 R wr C w v, ASim B w0 R wr C st w → VS C a v → VS (start w) a1 v

/-- Values that speak of no block that may change. -/
inductive AV.Pure : AV → Prop
  | bool (b : Bool) : Pure (.bool b)
  | int (k : IntKind) (n : Int) : Pure (.int k n)
  | nilp : Pure .nilp
  | nils : Pure .nils
  | emp : Pure .emp
  | nilm : Pure .nilm
  | nilf : Pure .nilf
  | str (bs : List Nat) : Pure (.str bs)
  | isl (sz : Nat) (cs : List AV) (n : Nat) (h : ∀ i (hi : i < cs.length), Pure cs[i]) : Pure (.isl sz cs n)
  | agg (cs : List AV) (h : ∀ i (hi : i < cs.length), Pure cs[i]) : Pure (.agg cs)
  | tup (cs : List AV) (h : ∀ i (hi : i < cs.length), Pure cs[i]) : Pure (.tup cs)

theorem SView.isl {st : ASt} {sz n : Nat} {cs cs1 : List AV} (hl : cs1.length = cs.length) (h : ∀ i (h : i < cs.length) (h' : i < cs1.length), SView st cs[i] cs1[i]) : SView st (.isl sz cs n) (.isl sz cs1 n) := by
  intro B w0 R wr C w v s x
  cases x with
  | isl _ _ _ b o cap p hp hn vs hK hv hc =>
    exact .isl _ _ _ b o _ _ hp hn vs (fun hn i hi => (s.imm _ _ _ (hK hn i (by omega))).1) (fun hn i hi => h i (by omega) hi _ _ _ _ _ _ _ s (hv hn i (by omega))) hc

theorem SView.agg {st : ASt} {cs cs1 : List AV} (hl : cs1.length = cs.length) (h : ∀ i (h : i < cs.length) (h' : i < cs1.length), SView st cs[i] cs1[i]) : SView st (.agg cs) (.agg cs1) := by
  intro B w0 R wr C w v s x
  cases x with
  | agg _ vs hvl hvv => exact .agg _ _ (by omega) fun i hi => h i (by omega) hi _ _ _ _ _ _ _ s (hvv i (by omega))

theorem SView.tup {st : ASt} {cs cs1 : List AV} (hl : cs1.length = cs.length) (h : ∀ i (h : i < cs.length) (h' : i < cs1.length), SView st cs[i] cs1[i]) : SView st (.tup cs) (.tup cs1) := by
  intro B w0 R wr C w v s x
  cases x with
  | tup _ vs hvl hvv => exact .tup _ _ (by omega) fun i hi => h i (by omega) hi _ _ _ _ _ _ _ s (hvv i (by omega))

theorem SView.pure {st : ASt} : ∀ {a : AV}, a.Pure → SView st a a := by
  intro a h
  induction h with
  | bool b => intro B w0 R wr C w v s x; cases x; exact .bool _
  | int k n => intro B w0 R wr C w v s x; cases x; exact .int _ _
  | nilp => intro B w0 R wr C w v s x; cases x; exact .nilp
  | nils => intro B w0 R wr C w v s x; cases x; exact .nils
  | emp => intro B w0 R wr C w v s x; cases x; exact .emp _
  | nilm => intro B w0 R wr C w v s x; cases x; exact .nilm
  | nilf => intro B w0 R wr C w v s x; cases x; exact .nilf
  | str bs => intro B w0 R wr C w v s x; cases x with | str s _ h => exact .str _ _ h
  | isl sz cs n h ih => exact SView.isl rfl fun i hi _ => ih i hi
  | agg cs h ih => exact SView.agg rfl fun i hi _ => ih i hi
  | tup cs h ih => exact SView.tup rfl fun i hi _ => ih i hi

/-- A slice of a block that is owned. -/
theorem SView.sl {st : ASt} {sz id off n : Nat} {cs cs1 : List AV} (hid : st.h id = some (.cells cs)) (hl : cs1.length ≤ (cs.drop off).length) (h : ∀ i (h : i < (cs.drop off).length) (h' : i < cs1.length), SView st (cs.drop off)[i] cs1[i]) :
    SView st (.sl sz id off n) (.isl sz cs1 n) := by
  intro B w0 R wr C w v s x
  obtain ⟨off', cap, rfl, hi, hcc, ho', hb⟩ := x.sl_inv
  obtain ⟨hl', c, t, hw, hs, hv⟩ := s.obj id _ hid
  by_cases h0 : n = 0
  · subst h0
    exact .isl _ _ _ 0 0 _ _ (fun e => absurd rfl e) (fun e => by cases e) (fun _ => undef) (fun e => absurd rfl e) (fun e => absurd rfl e) hcc
  · have : off' = off := ho'.resolve_left h0
    subst this
    refine .isl _ _ _ _ _ _ _ (fun _ => rfl) (fun e => by cases e) (fun i => c.getD ((C.φ id).2 + (off' + i)) undef) (fun _ i hi => ?_) (fun _ i hi => ?_) hcc
    · have h1 : off' + i < cs.length := by simp at hl; omega
      have h2 : (C.φ id).2 + off' + i < c.size := by omega
      show w.cell? _ = _
      simp [World.cell?, hw, h2, Nat.add_assoc, show (C.φ id).2 + (off' + i) < c.size by omega]
    · have h1 : i < (cs.drop off').length := by omega
      have h2 : off' + i < cs.length := by simp at h1; omega
      refine h i h1 hi _ _ _ _ _ _ _ s ?_
      have := hv (off' + i) h2
      simpa using this

theorem ASim.grown {B : Nat} {w0 : World} {R : Nat → Prop} {wr : World} {C : ACx} {st : ASt} {w w' : World} (s : ASim B w0 R wr C st w) (b : Below w.heap.size w w') : ASim B w0 R wr C st w' :=
  { live := s.live
    below := s.below.trans (b.mono s.hB)
    hB := Nat.le_trans s.hB b.size
    inj := s.inj
    lo := s.lo
    obj := fun i o ho => (s.obj i o ho).world (b.block _ (s.block_lt (by rw [ho]; simp)))
    imm := fun x o v hk => by
      obtain ⟨a1, a2, a3⟩ := s.imm x o v hk
      exact ⟨(cell_of_heap (b.block _ (cell_lt a1))).trans a1, a2, a3⟩
    res := fun x hx => by
      obtain ⟨a1, a2, a3⟩ := s.res x hx
      exact ⟨Nat.lt_of_lt_of_le a1 b.size, (b.block _ a1).trans a2, a3⟩ }

/-- Values that speak of no block at all. -/
inductive AV.Ground : AV → Prop
  | bool (b : Bool) : Ground (.bool b)
  | int (k : IntKind) (n : Int) : Ground (.int k n)
  | agg (cs : List AV) (h : ∀ i (hi : i < cs.length), Ground cs[i]) : Ground (.agg cs)
  | tup (cs : List AV) (h : ∀ i (hi : i < cs.length), Ground cs[i]) : Ground (.tup cs)

theorem AV.Ground.vs {C C' : ACx} {a : AV} (h : a.Ground) : ∀ {v : Value}, VS C a v → VS C' a v := by
  induction h with
  | bool b => intro v x; cases x; exact .bool _
  | int k n => intro v x; cases x; exact .int _ _
  | agg cs h ih =>
    intro v x
    cases x with
    | agg _ vs hvl hvv => exact .agg _ _ hvl fun i hi => ih i hi (hvv i hi)
  | tup cs h ih =>
    intro v x
    cases x with
    | tup _ vs hvl hvv => exact .tup _ _ hvl fun i hi => ih i hi (hvv i hi)

/-- Each is a view of each. -/
def Views (st : ASt) (args fargs : List AV) : Prop := fargs.length = args.length ∧ ∀ i (h : i < args.length) (h' : i < fargs.length), SView st args[i] fargs[i]

theorem Views.nil (st : ASt) : Views st [] [] := ⟨rfl, fun i h => absurd h (by simp)⟩
theorem Views.cons {st : ASt} {a a1 : AV} {l l1 : List AV} (h : SView st a a1) (k : Views st l l1) : Views st (a :: l) (a1 :: l1) :=
  ⟨by simp [k.1], fun i hi hi' => by
    cases i with
    | zero => exact h
    | succ i => exact k.2 i (by simpa using hi) (by simpa using hi')⟩

section
variable {P : Program} {f : Nat} {args fargs : List AV} {st : ASt}

/-- What is done with what never changes is done with what the caller owns, too: it is as it was. -/
theorem ACalls.borrow {Q : AV → Prop} (h : ACalls P f fargs ⟨fun _ => none⟩ fun v _ => Q v) (hv : Views st args fargs) (hg : ∀ v, Q v → v.Ground) : ACalls P f args st fun v st' => Q v ∧ st' = st := by
  intro B w0 R wr C w vs s hs hvs
  refine (h w.heap.size w (fun _ => False) w (start w) w vs (start_sim w) (by rw [hs, hv.1]) fun i hi => hv.2 i (by rw [← hv.1]; exact hi) hi _ _ _ _ _ _ _ s (hvs i (by rw [← hv.1]; exact hi))).mono ?_
  rintro e w' ⟨C', v, st', rv, hC, s', rfl, hrv, hq⟩
  exact ⟨C, v, st, rv, .refl C, s.grown s'.below, rfl, (hg v hq).vs hrv, hq, rfl⟩

def ints (l : List Int) : List AV := l.map (AV.int .i64)
theorem ints_length (l : List Int) : (ints l).length = l.length := by simp [ints]
theorem ints_get {l : List Int} {i : Nat} (h : i < l.length) : (ints l)[i]? = some (.int .i64 l[i]) := by simp [ints, h]
theorem ints_set (l : List Int) (i : Nat) (v : Int) : (ints l).set i (.int .i64 v) = ints (l.set i v) := by simp [ints, List.map_set]
theorem ints_leaf (l : List Int) : allLeaf (ints l) = true := by simp [allLeaf, ints, AV.leaf]
theorem ints_append (l k : List Int) : ints (l ++ k) = ints l ++ ints k := by simp [ints]
theorem ints_pure (l : List Int) (i : Nat) (hi : i < (ints l).length) : (ints l)[i].Pure := by
  simp only [ints, List.getElem_map]; exact .int _ _

/-- The same, and a new slice of integers is handed back: as it was never written again, it is a value. -/
theorem ACalls.borrowS {Q : List Int → Int → Prop} (h : ACalls P f fargs ⟨fun _ => none⟩ fun v st' => ∃ x l e, v = .tup [x, .int .i64 e] ∧ Shows st' 1 x (l : List Int).length (ints l) ∧ Q l e) (hv : Views st args fargs) :
    ACalls P f args st fun v st' => ∃ l e, v = .tup [.isl 1 (ints l) l.length, .int .i64 e] ∧ Q l e ∧ st' = st := by
  intro B w0 R wr C w vs s hs hvs
  refine (h w.heap.size w (fun _ => False) w (start w) w vs (start_sim w) (by rw [hs, hv.1]) fun i hi => hv.2 i (by rw [← hv.1]; exact hi) hi _ _ _ _ _ _ _ s (hvs i (by rw [← hv.1]; exact hi))).mono ?_
  rintro e w' ⟨C', v, st', rv, hC, s', rfl, hrv, x, l, er, rfl, hsh, hq⟩
  have sg := s.grown s'.below
  cases hrv with
  | tup _ rs hrl hrr =>
  have hx := hrr 0 (by simp)
  have he := hrr 1 (by simp)
  simp only [List.getElem_cons_zero, List.getElem_cons_succ] at hx he
  have mk : ∀ C2 : ACx, VS C2 (.isl 1 (ints l) l.length) (rs.getD 0 undef) → VS C2 (.tup [.isl 1 (ints l) l.length, .int .i64 er]) (.tuple rs) := by
    intro C2 h2
    refine .tup _ _ (by simpa using hrl) fun i hi => ?_
    match i, hi with
    | 0, _ => exact h2
    | 1, _ => exact (AV.Ground.int _ _).vs he
  rcases hsh with ⟨_, ⟨h0, rfl⟩ | ⟨i, rfl, hi⟩⟩
  · have : l = [] := List.eq_nil_of_length_eq_zero h0
    subst this
    refine ⟨C, _, st, _, .refl C, sg, rfl, mk C ?_, [], er, rfl, hq, rfl⟩
    generalize rs.getD 0 undef = r0 at hx ⊢
    cases hx
    exact .isl _ _ _ 0 0 _ _ (fun e => absurd rfl e) (fun _ => rfl) (fun _ => undef) (fun e => absurd rfl e) (fun e => absurd rfl e) (Nat.le_refl _)
  · obtain ⟨off', cap, ev, hid, hcc, ho', hb⟩ := hx.sl_inv
    by_cases h0 : l.length = 0
    · have : l = [] := List.eq_nil_of_length_eq_zero h0
      subst this
      refine ⟨C, _, st, _, .refl C, sg, rfl, mk C ?_, [], er, rfl, hq, rfl⟩
      rw [ev]
      exact .isl _ _ _ 0 0 _ _ (fun e => absurd rfl e) (fun e => by cases e) (fun _ => undef) (fun e => absurd rfl e) (fun e => absurd rfl e) hcc
    · have : off' = 0 := ho'.resolve_left h0
      subst this
      obtain ⟨hl', c, t, hw, hsz, hcv⟩ := s'.obj i _ hi
      have hlo : w.heap.size ≤ (C'.φ i).1 := s'.lo i (by rw [hi]; simp)
      let C2 : ACx := { C with K := fun b o => if b = (C'.φ i).1 ∧ (C'.φ i).2 ≤ o ∧ o < (C'.φ i).2 + (ints l).length then some (c.getD o undef) else C.K b o }
      have hCle : C.le C2 := ⟨Nat.le_refl _, fun _ _ => rfl, fun _ _ => rfl, fun b o v hk => by
        show (if b = (C'.φ i).1 ∧ (C'.φ i).2 ≤ o ∧ o < (C'.φ i).2 + (ints l).length then some (c.getD o undef) else C.K b o) = _
        rw [if_neg]
        · exact hk
        · rintro ⟨rfl, _⟩
          have := cell_lt (s.imm _ o v hk).1
          omega⟩
      refine ⟨C2, _, st, _, hCle, ?_, rfl, mk C2 ?_, l, er, rfl, hq, rfl⟩
      · exact
        { live := sg.live
          below := sg.below
          hB := sg.hB
          inj := sg.inj
          lo := sg.lo
          obj := fun j o ho => ObjSim.mono hCle (sg.lt ho) (sg.obj j o ho)
          imm := fun b o v hk => by
            have hk' : (if b = (C'.φ i).1 ∧ (C'.φ i).2 ≤ o ∧ o < (C'.φ i).2 + (ints l).length then some (c.getD o undef) else C.K b o) = some v := hk
            split at hk'
            · rename_i hc
              obtain ⟨rfl, h1, h2⟩ := hc
              cases hk'
              refine ⟨?_, fun hr => ?_, fun j hj e => ?_⟩
              · have : o < c.size := by omega
                simp [World.cell?, hw, this]
              · have := (s.res _ hr).1; omega
              · have : (C.φ j).1 < w.heap.size := s.block_lt hj
                have e' : (C.φ j).1 = (C'.φ i).1 := e
                omega
            · exact sg.imm b o v hk'
          res := sg.res }
      · rw [ev]
        refine .isl _ _ _ _ _ _ _ (fun _ => rfl) (fun e => by cases e) (fun j => c.getD ((C'.φ i).2 + j) undef) (fun _ j hj => ?_) (fun _ j hj => ?_) hcc
        · show (if _ ∧ _ then _ else _) = _
          rw [if_pos ⟨rfl, by omega, by omega⟩]; rfl
        · have hv := hcv j hj
          simp only [ints, List.getElem_map] at hv ⊢
          exact (AV.Ground.int _ _).vs hv
end
theorem wrap64 {n : Int} (h0 : -9223372036854775808 ≤ n) (h1 : n ≤ 9223372036854775807) : IntKind.i64.wrap n = n := by
  have e : IntKind.bits .i64 = 64 := rfl
  have hs : IntKind.signed .i64 = true := rfl
  simp only [IntKind.wrap, e, hs, Bool.true_and, decide_eq_true_eq]
  split <;> omega
theorem wsucc {k n : Nat} (h : k < n) (hn : n ≤ 9223372036854775807) : IntKind.i64.wrap ((k : Int) + 1) = ((k + 1 : Nat) : Int) := by rw [wrap64] <;> omega

end Go.Proofs.Ytjamidgdhmjhaaa.Cn
