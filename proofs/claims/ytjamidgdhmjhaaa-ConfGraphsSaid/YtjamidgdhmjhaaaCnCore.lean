/- The abstract layer, part 1: abstract values, the abstract heap, and when a world is like an abstract heap. No conditions. -/
import Derived.Orders
import Derived.Below
import Derived.Laws.Entries
import Derived.ChangeKeysEq
namespace Go.Proofs.Ytjamidgdhmjhaaa.Cn
open Go Go.RowKit

/-- Abstract values. A slice of a block that is owned is 'sl', one whose cells never change is 'isl' (it bears them; of no elements, it may be nil or not); 'nn' is one of no elements that is not nil. -/
inductive AV where
  | any
  | bool (b : Bool)
  | int (k : IntKind) (n : Int)
  | nilp
  | ptr (id off : Nat)
  | iptr (cs : List AV) (off : Nat)
  | nils
  | emp
  | sl (sz id off len : Nat)
  | isl (sz : Nat) (cs : List AV) (len : Nat)
  | nilm
  | map (id : Nat)
  | nilf
  | fn (f : Nat) (cap : List AV)
  | agg (cs : List AV)
  | tup (cs : List AV)
  | nn
  | str (bs : List Nat)

instance : Inhabited AV := ⟨.any⟩

def AV.leaf : AV → Bool
  | .agg _ | .tup _ | .any => false
  | _ => true

def AV.cells : AV → List AV
  | .agg cs => cs
  | v => [v]

inductive AObj where
  | cells (cs : List AV)
  | map (es : List (Int × AV))

/-- The abstract heap: what each live block holds. -/
structure ASt where
  h : Nat → Option AObj

def ASt.new (st : ASt) (id : Nat) (o : AObj) : ASt :=
  ⟨fun i => match st.h i with
    | some x => some x
    | none => if i = id then some o else none⟩

def ASt.set (st : ASt) (id : Nat) (o : AObj) : ASt := ⟨fun i => if i = id then (st.h i).map (fun _ => o) else st.h i⟩

def ASt.kill (st : ASt) (id : Nat) : ASt := ⟨fun i => if i = id then none else st.h i⟩

theorem ASt.new_h (st : ASt) (id : Nat) (o : AObj) (i : Nat) : (st.new id o).h i = match st.h i with
    | some x => some x
    | none => if i = id then some o else none := rfl
theorem ASt.set_h (st : ASt) (id : Nat) (o : AObj) (i : Nat) : (st.set id o).h i = if i = id then (st.h i).map (fun _ => o) else st.h i := rfl
theorem ASt.kill_h (st : ASt) (id : Nat) (i : Nat) : (st.kill id).h i = if i = id then none else st.h i := rfl

theorem ASt.new_self {st : ASt} {id : Nat} (o : AObj) (h : st.h id = none) : (st.new id o).h id = some o := by simp [ASt.new_h, h]
theorem ASt.new_ne {st : ASt} {id i : Nat} (o : AObj) (h : i ≠ id) : (st.new id o).h i = st.h i := by
  simp only [ASt.new_h, if_neg h]; cases st.h i <;> rfl
theorem ASt.new_old {st : ASt} {id i : Nat} {o x : AObj} (h : st.h i = some x) : (st.new id o).h i = some x := by simp [ASt.new_h, h]

theorem ASt.ne {st : ASt} {i j : Nat} {o : AObj} (h : st.h i = none) (h' : st.h j = some o) : i ≠ j := by
  rintro rfl; rw [h] at h'; cases h'

theorem ASt.ext' {s t : ASt} (h : ∀ i, s.h i = t.h i) : s = t := by
  cases s; cases t
  have : ∀ {a b : Nat → Option AObj}, (∀ i, a i = b i) → a = b := funext
  cases this h
  rfl

/-- What was there is there: nothing that lived has turned. -/
def ASt.le (s t : ASt) : Prop := ∀ i o, s.h i = some o → t.h i = some o

theorem ASt.le.refl (s : ASt) : s.le s := fun _ _ h => h
theorem ASt.le.trans {a b c : ASt} (h : a.le b) (k : b.le c) : a.le c := fun i o x => k i o (h i o x)
theorem ASt.le.new (s : ASt) (id : Nat) (o : AObj) : s.le (s.new id o) := fun _ _ hx => ASt.new_old hx

/-- How abstract numbers stand for the world's blocks: which block, from which cell on, how many cells; and which cells are known never to change. -/
structure ACx where
  N : Nat
  φ : Nat → Nat × Nat
  bs : Nat → Nat
  K : Nat → Nat → Option Value

structure ACx.le (C C' : ACx) : Prop where
  n : C.N ≤ C'.N
  φ : ∀ i, i < C.N → C'.φ i = C.φ i
  bs : ∀ i, i < C.N → C'.bs i = C.bs i
  K : ∀ b o v, C.K b o = some v → C'.K b o = some v

theorem ACx.le.refl (C : ACx) : C.le C := ⟨Nat.le_refl _, fun _ _ => rfl, fun _ _ => rfl, fun _ _ _ h => h⟩
theorem ACx.le.trans {a b c : ACx} (h : a.le b) (k : b.le c) : a.le c :=
  ⟨Nat.le_trans h.n k.n, fun i hi => (k.φ i (Nat.lt_of_lt_of_le hi h.n)).trans (h.φ i hi), fun i hi => (k.bs i (Nat.lt_of_lt_of_le hi h.n)).trans (h.bs i hi),
    fun x y v hx => k.K x y v (h.K x y v hx)⟩

/-- Which values of the world an abstract value stands for. -/
inductive VS (C : ACx) : AV → Value → Prop
  | any (v : Value) : VS C .any v
  | bool (b : Bool) : VS C (.bool b) (.bool b)
  | int (k : IntKind) (n : Int) : VS C (.int k n) (.int k n)
  | nilp : VS C .nilp (.pointer none)
  | ptr (id off : Nat) (h : id < C.N) : VS C (.ptr id off) (.pointer (some ⟨(C.φ id).1, (C.φ id).2 + off, none⟩))
  | iptr (cs : List AV) (off b o : Nat) (vs : Nat → Value) (hK : ∀ i, i < cs.length → C.K b (o + i) = some (vs i))
      (hv : ∀ i (h : i < cs.length), VS C cs[i] (vs i)) : VS C (.iptr cs off) (.pointer (some ⟨b, o + off, none⟩))
  | nils : VS C .nils (.slice none 0 0)
  | emp (p : Option Addr) : VS C .emp (.slice p 0 0)
  | sl (sz id off len off' cap : Nat) (h : id < C.N) (hc : len ≤ cap) (ho : len = 0 ∨ off' = off) (hb : off' + cap * sz ≤ C.bs id) :
      VS C (.sl sz id off len) (.slice (some ⟨(C.φ id).1, (C.φ id).2 + off', none⟩) len cap)
  | isl (sz : Nat) (cs : List AV) (len b o cap : Nat) (p : Option Addr) (hp : len ≠ 0 → p = some ⟨b, o, none⟩) (hn : p = none → cap = 0) (vs : Nat → Value) (hK : len ≠ 0 → ∀ i, i < cs.length → C.K b (o + i) = some (vs i))
      (hv : len ≠ 0 → ∀ i (h : i < cs.length), VS C cs[i] (vs i)) (hc : len ≤ cap) : VS C (.isl sz cs len) (.slice p len cap)
  | nn (a : Addr) (cap : Nat) : VS C .nn (.slice (some a) 0 cap)
  | nilm : VS C .nilm (.map none)
  | map (id : Nat) (h : id < C.N) : VS C (.map id) (.map (some (C.φ id).1))
  | nilf : VS C .nilf .nilFunc
  | str (s : ByteArray) (bs : List Nat) (h : bs = s.data.toList.map UInt8.toNat) : VS C (.str bs) (.string s)
  | fn (f : Nat) (cap : List AV) (vs : Array Value) (hl : vs.size = cap.length) (hv : ∀ i (h : i < cap.length), VS C cap[i] (vs.getD i undef)) :
      VS C (.fn f cap) (.func (.func f) #[] vs)
  | agg (cs : List AV) (vs : Array Value) (hl : vs.size = cs.length) (hv : ∀ i (h : i < cs.length), VS C cs[i] (vs.getD i undef)) : VS C (.agg cs) (.agg vs)
  | tup (cs : List AV) (vs : Array Value) (hl : vs.size = cs.length) (hv : ∀ i (h : i < cs.length), VS C cs[i] (vs.getD i undef)) : VS C (.tup cs) (.tuple vs)

theorem VS.mono {C C' : ACx} (h : C.le C') {a : AV} {v : Value} (x : VS C a v) : VS C' a v := by
  induction x with
  | any v => exact .any v
  | bool b => exact .bool b
  | int k n => exact .int k n
  | nilp => exact .nilp
  | ptr id off hi => rw [← h.φ id hi]; exact .ptr id off (Nat.lt_of_lt_of_le hi h.n)
  | iptr cs off b o vs hK hv ih => exact .iptr cs off b o vs (fun i hi => h.K _ _ _ (hK i hi)) ih
  | nils => exact .nils
  | emp p => exact .emp p
  | sl sz id off len off' cap hi hc ho hb =>
    rw [← h.φ id hi]; exact .sl sz id off len off' cap (Nat.lt_of_lt_of_le hi h.n) hc ho (by rw [h.bs id hi]; exact hb)
  | isl sz cs len b o cap p hp hn vs hK hv hc ih => exact .isl sz cs len b o cap p hp hn vs (fun hl i hi => h.K _ _ _ (hK hl i hi)) ih hc
  | nn a cap => exact .nn a cap
  | nilm => exact .nilm
  | map id hi => rw [← h.φ id hi]; exact .map id (Nat.lt_of_lt_of_le hi h.n)
  | nilf => exact .nilf
  | str s bs h => exact .str s bs h
  | fn f cap vs hl hv ih => exact .fn f cap vs hl ih
  | agg cs vs hl hv ih => exact .agg cs vs hl ih
  | tup cs vs hl hv ih => exact .tup cs vs hl ih

theorem VS.leaf {C : ACx} {a : AV} {v : Value} (x : VS C a v) (h : a.leaf = true) : v.oneCell' = true := by
  cases x <;> simp [AV.leaf, Value.oneCell'] at h ⊢

/-- What a block of the world holds is what the abstract block holds. -/
def ObjSim (C : ACx) (id : Nat) (w : World) : AObj → Prop
  | .cells cs => cs.length ≤ C.bs id ∧ ∃ c t, w.heap[(C.φ id).1]? = some (.cells c t (0, 0)) ∧ (C.φ id).2 + C.bs id ≤ c.size ∧
      ∀ i (h : i < cs.length), VS C cs[i] (c.getD ((C.φ id).2 + i) undef)
  | .map es => ∃ rs, w.heap[(C.φ id).1]? = some (.map rs es.length) ∧ rs.size = es.length ∧
      ∀ i (h : i < es.length), (rs.getD i default).key = .int .i64 es[i].1 ∧ VS C es[i].2 (rs.getD i default).val ∧ (rs.getD i default).born = i

/-- The world w is like the abstract heap st. Below B it is as w0 was; the blocks of R are kept as wr has them. -/
structure ASim (B : Nat) (w0 : World) (R : Nat → Prop) (wr : World) (C : ACx) (st : ASt) (w : World) : Prop where
  live : ∀ i, st.h i ≠ none → i < C.N
  below : Below B w0 w
  hB : B ≤ w.heap.size
  inj : ∀ i j, st.h i ≠ none → st.h j ≠ none → (C.φ i).1 = (C.φ j).1 → i = j
  lo : ∀ i, st.h i ≠ none → B ≤ (C.φ i).1
  obj : ∀ i o, st.h i = some o → ObjSim C i w o
  imm : ∀ b o v, C.K b o = some v → w.cell? ⟨b, o, none⟩ = some v ∧ ¬ R b ∧ ∀ i, st.h i ≠ none → (C.φ i).1 ≠ b
  res : ∀ b, R b → b < w.heap.size ∧ w.heap[b]? = wr.heap[b]? ∧ ∀ i, st.h i ≠ none → (C.φ i).1 ≠ b

end Go.Proofs.Ytjamidgdhmjhaaa.Cn
