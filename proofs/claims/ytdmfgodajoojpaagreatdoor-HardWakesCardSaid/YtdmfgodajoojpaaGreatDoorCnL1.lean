/- YtdmfgodajoojpaaGreatDoor: the abstract layer, texts CnCore, CnOps, CnComp, CnSim, CnArg, CnSound1, CnSound2, CnSound3, CnSound4, CnSound5, CnSound6, CnSound7, CnSound8, CnRegion, CnDraw1, CnDraw2: what each shows stands at its theorems; no condition. -/
import Derived.Orders
import Derived.Below
import Derived.Laws.Entries
import Derived.ChangeKeysEq
import Derived.Shelf.Abstract
import Derived.Laws.Cells
import Derived.Laws.StructEq
/- The abstract layer, part 1: abstract values, the abstract heap, and when a world is like an abstract heap. No conditions. -/
namespace Go.Proofs.YtdmfgodajoojpaaGreatDoor.Cn
open Go Go.RowKit

inductive AV where
  | any
  | bool (b : Bool)
  | int (k : IntKind) (n : Int)
  | nilp
  | ptr (id off : Nat)
  | iptr (cs : List AV) (off : Nat)
  | nils
  | emp
  | sl (sz id off len : Nat)
  | isl (sz : Nat) (cs : List AV) (len : Nat)
  | nilm
  | map (id : Nat)
  | nilf
  | fn (f : Nat) (cap : List AV)
  | agg (cs : List AV)
  | tup (cs : List AV)
  | nn
  | str (bs : List Nat)

instance : Inhabited AV := ⟨.any⟩

def AV.leaf : AV → Bool
  | .agg _ | .tup _ | .any => false
  | _ => true

def AV.cells : AV → List AV
  | .agg cs => cs
  | v => [v]

inductive AObj where
  | cells (cs : List AV)
  | map (es : List (Int × AV))

structure ASt where
  h : Nat → Option AObj

def ASt.new (st : ASt) (id : Nat) (o : AObj) : ASt :=
  ⟨fun i => match st.h i with
    | some x => some x
    | none => if i = id then some o else none⟩

def ASt.set (st : ASt) (id : Nat) (o : AObj) : ASt := ⟨fun i => if i = id then (st.h i).map (fun _ => o) else st.h i⟩

def ASt.kill (st : ASt) (id : Nat) : ASt := ⟨fun i => if i = id then none else st.h i⟩

theorem ASt.new_h (st : ASt) (id : Nat) (o : AObj) (i : Nat) : (st.new id o).h i = match st.h i with
    | some x => some x
    | none => if i = id then some o else none := rfl
theorem ASt.set_h (st : ASt) (id : Nat) (o : AObj) (i : Nat) : (st.set id o).h i = if i = id then (st.h i).map (fun _ => o) else st.h i := rfl
theorem ASt.kill_h (st : ASt) (id : Nat) (i : Nat) : (st.kill id).h i = if i = id then none else st.h i := rfl

theorem ASt.new_self {st : ASt} {id : Nat} (o : AObj) (h : st.h id = none) : (st.new id o).h id = some o := by simp [ASt.new_h, h]
theorem ASt.new_ne {st : ASt} {id i : Nat} (o : AObj) (h : i ≠ id) : (st.new id o).h i = st.h i := by
  simp only [ASt.new_h, if_neg h]; cases st.h i <;> rfl
theorem ASt.new_old {st : ASt} {id i : Nat} {o x : AObj} (h : st.h i = some x) : (st.new id o).h i = some x := by simp [ASt.new_h, h]

theorem ASt.ne {st : ASt} {i j : Nat} {o : AObj} (h : st.h i = none) (h' : st.h j = some o) : i ≠ j := by
  rintro rfl; rw [h] at h'; cases h'

theorem ASt.ext' {s t : ASt} (h : ∀ i, s.h i = t.h i) : s = t := by
  cases s; cases t
  have : ∀ {a b : Nat → Option AObj}, (∀ i, a i = b i) → a = b := funext
  cases this h
  rfl

def ASt.le (s t : ASt) : Prop := ∀ i o, s.h i = some o → t.h i = some o

theorem ASt.le.refl (s : ASt) : s.le s := fun _ _ h => h
theorem ASt.le.trans {a b c : ASt} (h : a.le b) (k : b.le c) : a.le c := fun i o x => k i o (h i o x)
theorem ASt.le.new (s : ASt) (id : Nat) (o : AObj) : s.le (s.new id o) := fun _ _ hx => ASt.new_old hx

structure ACx where
  N : Nat
  φ : Nat → Nat × Nat
  bs : Nat → Nat
  K : Nat → Nat → Option Value

structure ACx.le (C C' : ACx) : Prop where
  n : C.N ≤ C'.N
  φ : ∀ i, i < C.N → C'.φ i = C.φ i
  bs : ∀ i, i < C.N → C'.bs i = C.bs i
  K : ∀ b o v, C.K b o = some v → C'.K b o = some v

theorem ACx.le.refl (C : ACx) : C.le C := ⟨Nat.le_refl _, fun _ _ => rfl, fun _ _ => rfl, fun _ _ _ h => h⟩
theorem ACx.le.trans {a b c : ACx} (h : a.le b) (k : b.le c) : a.le c :=
  ⟨Nat.le_trans h.n k.n, fun i hi => (k.φ i (Nat.lt_of_lt_of_le hi h.n)).trans (h.φ i hi), fun i hi => (k.bs i (Nat.lt_of_lt_of_le hi h.n)).trans (h.bs i hi),
    fun x y v hx => k.K x y v (h.K x y v hx)⟩

inductive VS (C : ACx) : AV → Value → Prop
  | any (v : Value) : VS C .any v
  | bool (b : Bool) : VS C (.bool b) (.bool b)
  | int (k : IntKind) (n : Int) : VS C (.int k n) (.int k n)
  | nilp : VS C .nilp (.pointer none)
  | ptr (id off : Nat) (h : id < C.N) : VS C (.ptr id off) (.pointer (some ⟨(C.φ id).1, (C.φ id).2 + off, none⟩))
  | iptr (cs : List AV) (off b o : Nat) (vs : Nat → Value) (hK : ∀ i, i < cs.length → C.K b (o + i) = some (vs i))
      (hv : ∀ i (h : i < cs.length), VS C cs[i] (vs i)) : VS C (.iptr cs off) (.pointer (some ⟨b, o + off, none⟩))
  | nils : VS C .nils (.slice none 0 0)
  | emp (p : Option Addr) : VS C .emp (.slice p 0 0)
  | sl (sz id off len off' cap : Nat) (h : id < C.N) (hc : len ≤ cap) (ho : len = 0 ∨ off' = off) (hb : off' + cap * sz ≤ C.bs id) :
      VS C (.sl sz id off len) (.slice (some ⟨(C.φ id).1, (C.φ id).2 + off', none⟩) len cap)
  | isl (sz : Nat) (cs : List AV) (len b o cap : Nat) (p : Option Addr) (hp : len ≠ 0 → p = some ⟨b, o, none⟩) (hn : p = none → cap = 0) (vs : Nat → Value) (hK : len ≠ 0 → ∀ i, i < cs.length → C.K b (o + i) = some (vs i))
      (hv : len ≠ 0 → ∀ i (h : i < cs.length), VS C cs[i] (vs i)) (hc : len ≤ cap) : VS C (.isl sz cs len) (.slice p len cap)
  | nn (a : Addr) (cap : Nat) : VS C .nn (.slice (some a) 0 cap)
  | nilm : VS C .nilm (.map none)
  | map (id : Nat) (h : id < C.N) : VS C (.map id) (.map (some (C.φ id).1))
  | nilf : VS C .nilf .nilFunc
  | str (s : ByteArray) (bs : List Nat) (h : bs = s.data.toList.map UInt8.toNat) : VS C (.str bs) (.string s)
  | fn (f : Nat) (cap : List AV) (vs : Array Value) (hl : vs.size = cap.length) (hv : ∀ i (h : i < cap.length), VS C cap[i] (vs.getD i undef)) :
      VS C (.fn f cap) (.func (.func f) #[] vs)
  | agg (cs : List AV) (vs : Array Value) (hl : vs.size = cs.length) (hv : ∀ i (h : i < cs.length), VS C cs[i] (vs.getD i undef)) : VS C (.agg cs) (.agg vs)
  | tup (cs : List AV) (vs : Array Value) (hl : vs.size = cs.length) (hv : ∀ i (h : i < cs.length), VS C cs[i] (vs.getD i undef)) : VS C (.tup cs) (.tuple vs)

theorem VS.mono {C C' : ACx} (h : C.le C') {a : AV} {v : Value} (x : VS C a v) : VS C' a v := by
  induction x with
  | any v => exact .any v
  | bool b => exact .bool b
  | int k n => exact .int k n
  | nilp => exact .nilp
  | ptr id off hi => rw [← h.φ id hi]; exact .ptr id off (Nat.lt_of_lt_of_le hi h.n)
  | iptr cs off b o vs hK hv ih => exact .iptr cs off b o vs (fun i hi => h.K _ _ _ (hK i hi)) ih
  | nils => exact .nils
  | emp p => exact .emp p
  | sl sz id off len off' cap hi hc ho hb =>
    rw [← h.φ id hi]; exact .sl sz id off len off' cap (Nat.lt_of_lt_of_le hi h.n) hc ho (by rw [h.bs id hi]; exact hb)
  | isl sz cs len b o cap p hp hn vs hK hv hc ih => exact .isl sz cs len b o cap p hp hn vs (fun hl i hi => h.K _ _ _ (hK hl i hi)) ih hc
  | nn a cap => exact .nn a cap
  | nilm => exact .nilm
  | map id hi => rw [← h.φ id hi]; exact .map id (Nat.lt_of_lt_of_le hi h.n)
  | nilf => exact .nilf
  | str s bs h => exact .str s bs h
  | fn f cap vs hl hv ih => exact .fn f cap vs hl ih
  | agg cs vs hl hv ih => exact .agg cs vs hl ih
  | tup cs vs hl hv ih => exact .tup cs vs hl ih

theorem VS.leaf {C : ACx} {a : AV} {v : Value} (x : VS C a v) (h : a.leaf = true) : v.oneCell' = true := by
  cases x <;> simp [AV.leaf, Value.oneCell'] at h ⊢

def ObjSim (C : ACx) (id : Nat) (w : World) : AObj → Prop
  | .cells cs => cs.length ≤ C.bs id ∧ ∃ c t, w.heap[(C.φ id).1]? = some (.cells c t (0, 0)) ∧ (C.φ id).2 + C.bs id ≤ c.size ∧
      ∀ i (h : i < cs.length), VS C cs[i] (c.getD ((C.φ id).2 + i) undef)
  | .map es => ∃ rs, w.heap[(C.φ id).1]? = some (.map rs es.length) ∧ rs.size = es.length ∧
      ∀ i (h : i < es.length), (rs.getD i default).key = .int .i64 es[i].1 ∧ VS C es[i].2 (rs.getD i default).val ∧ (rs.getD i default).born = i

def globTab : List (Nat × List AV) := [(0, [.int .u8 114, .int .u8 97, .int .u8 115, .int .u8 100])]
def globAt : List (Nat × List AV) → Nat → Option (List AV)
  | [], _ => none
  | p :: r, g => if p.1 = g then some p.2 else globAt r g
theorem globAt_mem : ∀ {l : List (Nat × List AV)} {g : Nat} {cs : List AV}, globAt l g = some cs → (g, cs) ∈ l
  | p :: r, g, cs, h => by
    simp only [globAt] at h
    split at h
    · rename_i e
      cases h
      subst e
      exact List.mem_cons_self
    · exact List.mem_cons_of_mem _ (globAt_mem h)
def Glob (C : ACx) : Prop := ∀ p ∈ globTab, VS C (.iptr p.2 0) (.pointer (some ⟨p.1, 0, none⟩))
theorem Glob.mono {C C' : ACx} (h : C.le C') (g : Glob C) : Glob C' := fun p hp => VS.mono h (g p hp)

structure ASim (B : Nat) (w0 : World) (R : Nat → Prop) (wr : World) (C : ACx) (st : ASt) (w : World) : Prop where
  glob : Glob C
  live : ∀ i, st.h i ≠ none → i < C.N
  below : Below B w0 w
  hB : B ≤ w.heap.size
  inj : ∀ i j, st.h i ≠ none → st.h j ≠ none → (C.φ i).1 = (C.φ j).1 → i = j
  lo : ∀ i, st.h i ≠ none → B ≤ (C.φ i).1
  obj : ∀ i o, st.h i = some o → ObjSim C i w o
  imm : ∀ b o v, C.K b o = some v → w.cell? ⟨b, o, none⟩ = some v ∧ ¬ R b ∧ ∀ i, st.h i ≠ none → (C.φ i).1 ≠ b
  res : ∀ b, R b → b < w.heap.size ∧ w.heap[b]? = wr.heap[b]? ∧ ∀ i, st.h i ≠ none → (C.φ i).1 ≠ b

end Go.Proofs.YtdmfgodajoojpaaGreatDoor.Cn
/- The abstract layer, part 2: the intermediate code, what its operations do to an abstract heap, and how it is made of the program's code. -/
namespace Go.Proofs.YtdmfgodajoojpaaGreatDoor.Cn
open Go Go.RowKit

inductive IArg where
  | slot (n : Nat)
  | cst (v : AV)
  | fnc (f : Nat)

inductive IOp where
  | move (x : IArg)
  | nilchk (x : IArg)
  | pick (c a b : IArg)
  | bin (op : BinOp) (x y : IArg)
  | eqB (neg : Bool) (x y : IArg)
  | eqP (kind : Nat) (neg : Bool) (x y : IArg)
  | eqS (ks : List Bool) (neg : Bool) (x y : IArg)
  | un (op : UnOp) (x : IArg)
  | conv (k : IntKind) (x : IArg)
  | len (x : IArg)
  | mlen (x : IArg)
  | minmax (mx : Bool) (x y : IArg)
  | idxAddr (sz : Nat) (x i : IArg)
  | arrAddr (sz n : Nat) (x i : IArg)
  | fldAddr (off : Nat) (x : IArg)
  | load1 (x : IArg)
  | loadN (sz : Nat) (x : IArg)
  | store1 (x v : IArg)
  | storeN (sz : Nat) (x v : IArg)
  | field1 (off : Nat) (x : IArg)
  | fieldN (off sz : Nat) (x : IArg)
  | index1 (n : Nat) (x i : IArg)
  | indexN (n sz : Nat) (x i : IArg)
  | alloc (zs : List AV)
  | box1 (x : IArg)
  | boxN (x : IArg)
  | build (zs : List AV) (parts : List (Nat × Nat × IArg))
  | buildSlice (sz n : Nat) (zs : List AV) (parts : List (Nat × Nat × IArg))
  | makeSlice (sz bytes : Nat) (zs : List AV) (l c : IArg)
  | append (sz bytes : Nat) (x y : IArg)
  | slice (sz : Nat) (x : IArg) (lo hi mx : Option IArg)
  | extract (x : IArg) (i : Nat)
  | makeMap (hint : Option IArg)
  | lookup (zero : AV) (ok : Bool) (m k : IArg)
  | mapSet (m k v : IArg)
  | mapEntry (zero : AV) (m k : IArg)
  | entryStore (m s v : IArg)
  | makeFunc (f : Nat) (cap : List IArg)
  | call (f : Nat) (args : List IArg)
  | callv (f : IArg) (args : List IArg)
  | strIdx (x i : IArg)

structure IHeld where
  op : IOp
  dst : Nat
  guard : Option (Nat × Bool)

structure IOper where
  dst : Option Nat
  op : IOp
  guard : Option (Nat × Bool) := none
  held : List IHeld := []
  ahead : List (IArg × IArg) := []

abbrev X.s (n : Nat) : IArg := .slot n
abbrev X.i (n : Int) : IArg := .cst (.int .i64 n)
abbrev X.o (d : Nat) (op : IOp) : IOper := ⟨some d, op, none, [], []⟩
abbrev X.m (d s : Nat) : IOper := ⟨some d, .move (.slot s), none, [], []⟩
abbrev X.n (op : IOp) : IOper := ⟨none, op, none, [], []⟩
abbrev X.t (g d : Nat) (op : IOp) : IOper := ⟨some d, op, some (g, true), [], []⟩
abbrev X.f (g d : Nat) (op : IOp) : IOper := ⟨some d, op, some (g, false), [], []⟩

inductive ICode where
  | skip
  | region (ops : List IOper)
  | keep (ks : List Nat) (c : ICode)
  | ghost (c : ICode)
  | seq (a b : ICode)
  | cond (c : IArg) (a b : ICode)
  | block (id : Nat) (c : ICode)
  | loop (c : ICode)
  | exit (id : Nat)
  | ret

abbrev AFr := List (Nat × AV)

def AFr.get : AFr → Nat → AV
  | [], _ => .any
  | (j, v) :: r, i => if j = i then v else AFr.get r i

def AFr.set (fr : AFr) (d : Option Nat) (v : AV) : AFr :=
  match d with
  | some d => (d, v) :: fr
  | none => fr

def AFr.keep (fr : AFr) (ks : List Nat) : AFr := ks.map fun k => (k, fr.get k)

def AFr.val (fr : AFr) : IArg → AV
  | .slot n => fr.get n
  | .cst v => v
  | .fnc f => .fn f []

def AFr.vals (fr : AFr) : List IArg → List AV
  | [] => []
  | x :: r => fr.val x :: AFr.vals fr r

def abin (op : BinOp) (k : IntKind) (a b : Int) : Option AV :=
  match op with
  | .add => some (.int k (k.wrap (a + b)))
  | .sub => some (.int k (k.wrap (a - b)))
  | .mul => some (.int k (k.wrap (a * b)))
  | .quo => if b = 0 then none else some (.int k (k.wrap (a.tdiv b)))
  | .rem => if b = 0 then none else some (.int k (a.tmod b))
  | .and => some (.int k (k.wrap (BitVec.ofInt k.bits a &&& BitVec.ofInt k.bits b).toNat))
  | .or => some (.int k (k.wrap (BitVec.ofInt k.bits a ||| BitVec.ofInt k.bits b).toNat))
  | .xor => some (.int k (k.wrap (BitVec.ofInt k.bits a ^^^ BitVec.ofInt k.bits b).toNat))
  | .andNot => some (.int k (k.wrap (BitVec.ofInt k.bits a &&& ~~~BitVec.ofInt k.bits b).toNat))
  | .eql => some (.bool (decide (a = b)))
  | .neq => some (.bool (!decide (a = b)))
  | .lss => some (.bool (decide (a < b)))
  | .leq => some (.bool (decide (a ≤ b)))
  | .gtr => some (.bool (decide (b < a)))
  | .geq => some (.bool (decide (b ≤ a)))
  | _ => none

def ashift (op : BinOp) (k : IntKind) (a b : Int) : Option AV :=
  if b < 0 then none else
  match op with
  | .shl => some (.int k (k.wrap (a * 2 ^ (min b.toNat k.bits))))
  | .shr => some (.int k (a.fdiv (2 ^ (min b.toNat k.bits))))
  | _ => none

def abinv (op : BinOp) : AV → AV → Option AV
  | .int k a, .int k' b => match op with
    | .shl => ashift .shl k a b
    | .shr => ashift .shr k a b
    | op => if k = k' then abin op k a b else none
  | _, _ => none

def aun (op : UnOp) : AV → Option AV
  | .int k n => match op with
    | .neg => some (.int k (k.wrap (0 - n)))
    | _ => none
  | .bool b => match op with
    | .not => some (.bool (!b))
    | _ => none
  | _ => none

def AV.isNil : Nat → AV → Option Bool
  | 0, .nilp | 1, .nils | 2, .nilm | 3, .nilf => some true
  | 0, .ptr .. | 0, .iptr .. | 1, .sl .. | 1, .isl _ _ (_ + 1) | 1, .nn | 2, .map .. | 3, .fn .. => some false
  | _, _ => none

def aeqP (kind : Nat) (x y : AV) : Option Bool :=
  match x.isNil kind, y.isNil kind with
  | some true, some b => some b
  | some b, some true => some b
  | _, _ => none

def aeqL : List Bool → List AV → List AV → Option Bool
  | [], [], [] => some true
  | true :: ks, .int k a :: xs, .int k' b :: ys => if k = k' then (aeqL ks xs ys).map (decide (a = b) && ·) else none
  | false :: ks, .bool a :: xs, .bool b :: ys => (aeqL ks xs ys).map (decide (a = b) && ·)
  | _, _, _ => none

def putN (cs : List AV) (off : Nat) : List AV → List AV
  | [] => cs
  | v :: vs => putN (cs.set off v) (off + 1) vs

def AV.part : AV → Option (List AV)
  | .agg cs => some cs
  | .any | .tup _ => none
  | v => some [v]

def aput (cs : List AV) : List (Nat × Nat × AV) → Option (List AV)
  | [] => some cs
  | (off, sz, v) :: r => match v.part with
    | some vs => if vs.length = sz ∧ off + sz ≤ cs.length then aput (putN cs off vs) r else none
    | none => none

def allLeaf (cs : List AV) : Bool := cs.all AV.leaf

def look (es : List (Int × AV)) (k : Int) : Option AV := (es.find? fun e => e.1 == k).map (·.2)

def spot (es : List (Int × AV)) (k : Int) : Option Nat := es.findIdx? fun e => e.1 == k

def mput (es : List (Int × AV)) (k : Int) (v : AV) : List (Int × AV) :=
  match spot es k with
  | some i => es.set i (k, v)
  | none => es ++ [(k, v)]

def ASt.seen (st : ASt) (n : Nat) : AV → Option (List AV)
  | .nils => some []
  | .emp => some []
  | .nn => some []
  | .isl _ cs _ => if n ≤ cs.length then some (cs.take n) else none
  | .sl _ id off _ => match st.h id with
    | some (.cells cs) => if off + n ≤ cs.length then some ((cs.drop off).take n) else none
    | _ => none
  | _ => none

def AV.slen : AV → Option Nat
  | .nils => some 0
  | .emp => some 0
  | .nn => some 0
  | .isl _ _ len => some len
  | .sl _ _ _ len => some len
  | _ => none

def ASt.ld1 (st : ASt) : AV → Option AV
  | .ptr id off => match st.h id with
    | some (.cells cs) => cs[off]?
    | _ => none
  | .iptr cs off => cs[off]?
  | _ => none

def ASt.ldN (st : ASt) (sz : Nat) : AV → Option AV
  | .ptr id off => match st.h id with
    | some (.cells cs) => if off + sz ≤ cs.length then some (.agg ((cs.drop off).take sz)) else none
    | _ => none
  | .iptr cs off => if off + sz ≤ cs.length then some (.agg ((cs.drop off).take sz)) else none
  | _ => none

def IOp.again (st : ASt) (fr : AFr) : IOp → Option AV
  | .load1 x => st.ld1 (fr.val x)
  | .loadN sz x => st.ldN sz (fr.val x)
  | _ => none

def ACalls (P : Program) (f : Nat) (args : List AV) (st : ASt) (Q : AV → ASt → Prop) : Prop :=
  ∀ B w0 R wr C w (vs : Array Value), ASim B w0 R wr C st w → vs.size = args.length → (∀ i (h : i < args.length), VS C args[i] (vs.getD i undef)) →
    Calls P f vs w fun e w' => ∃ C' v st' rv, C.le C' ∧ ASim B w0 R wr C' st' w' ∧ e = .returned rv ∧ VS C' v rv ∧ Q v st'

def amlen (st : ASt) : AV → Option Int
  | .nilm => some 0
  | .map id => match st.h id with
    | some (.map es) => some es.length
    | _ => none
  | _ => none

def aslice (sz : Nat) (x : AV) (lo hi : Nat) : AV :=
  match x with
  | .sl _ id off _ => .sl sz id (off + lo * sz) (hi - lo)
  | .isl _ cs _ => .isl sz (cs.drop (lo * sz)) (hi - lo)
  | x => x

def bound (fr : AFr) (d : Nat) : Option IArg → Option Nat
  | none => some d
  | some x => match fr.val x with
    | .int _ n => if 0 ≤ n then some n.toNat else none
    | _ => none

def zeros (zs : List AV) : Nat → List AV
  | 0 => []
  | n + 1 => zs ++ zeros zs n

def hasBody (P : Program) (g : Nat) : Bool :=
  match P.funcs[g]? with
  | some fn => fn.body.isSome && fn.name != "runtime.NumGoroutine"
  | none => false

def aop (P : Program) (op : IOp) (fr : AFr) (st : ASt) (k : AV → ASt → Prop) : Prop :=
  match op with
  | .move x => k (fr.val x) st
  | .nilchk x => match (fr.val x).isNil 0 with
    | some false => k (fr.val x) st
    | _ => False
  | .pick c a b => match fr.val c with
    | .bool t => k (if t then fr.val a else fr.val b) st
    | _ => False
  | .bin op x y => match abinv op (fr.val x) (fr.val y) with
    | some v => k v st
    | none => False
  | .eqB neg x y => match fr.val x, fr.val y with
    | .bool a, .bool b => k (.bool (neg ^^ decide (a = b))) st
    | _, _ => False
  | .eqP kind neg x y => match aeqP kind (fr.val x) (fr.val y) with
    | some b => k (.bool (neg ^^ b)) st
    | none => False
  | .eqS ks neg x y => match fr.val x, fr.val y with
    | .agg xs, .agg ys => match aeqL ks xs ys with
      | some b => k (.bool (neg ^^ b)) st
      | none => False
    | _, _ => False
  | .un op x => match aun op (fr.val x) with
    | some v => k v st
    | none => False
  | .conv kd x => match fr.val x with
    | .int _ n => k (.int kd (kd.wrap n)) st
    | _ => False
  | .len x => match (fr.val x).slen with
    | some n => k (.int .i64 n) st
    | none => False
  | .mlen x => match amlen st (fr.val x) with
    | some n => k (.int .i64 n) st
    | none => False
  | .minmax mx x y => match fr.val x, fr.val y with
    | .int kd a, .int kd' b => kd = kd' ∧ k (.int kd (if mx then (if a < b then b else a) else (if b < a then b else a))) st
    | _, _ => False
  | .idxAddr sz x i => match fr.val x, fr.val i with
    | .sl _ id off len, .int _ n => (0 ≤ n ∧ n < len) ∧ k (.ptr id (off + n.toNat * sz)) st
    | .isl _ cs len, .int _ n => (0 ≤ n ∧ n < len) ∧ k (.iptr cs (n.toNat * sz)) st
    | _, _ => False
  | .arrAddr sz len x i => match fr.val x, fr.val i with
    | .ptr id off, .int _ n => (0 ≤ n ∧ n < len) ∧ k (.ptr id (off + n.toNat * sz)) st
    | .iptr cs off, .int _ n => (0 ≤ n ∧ n < len) ∧ k (.iptr cs (off + n.toNat * sz)) st
    | _, _ => False
  | .fldAddr o x => match fr.val x with
    | .ptr id off => k (.ptr id (off + o)) st
    | .iptr cs off => k (.iptr cs (off + o)) st
    | _ => False
  | .load1 x => match st.ld1 (fr.val x) with
    | some v => k v st
    | none => False
  | .loadN sz x => match st.ldN sz (fr.val x) with
    | some v => k v st
    | none => False
  | .store1 x v => match fr.val x with
    | .ptr id off => match st.h id with
      | some (.cells cs) => ((fr.val v).leaf = true ∧ off < cs.length) ∧ k (.tup []) (st.set id (.cells (cs.set off (fr.val v))))
      | _ => False
    | _ => False
  | .storeN sz x v => match fr.val x, fr.val v with
    | .ptr id off, .agg vs => match st.h id with
      | some (.cells cs) => (vs.length = sz ∧ allLeaf vs = true ∧ off + sz ≤ cs.length) ∧ k (.tup []) (st.set id (.cells (putN cs off vs)))
      | _ => False
    | _, _ => False
  | .field1 off x => match fr.val x with
    | .agg cs => match cs[off]? with
      | some v => k v st
      | none => False
    | _ => False
  | .fieldN off sz x => match fr.val x with
    | .agg cs => off + sz ≤ cs.length ∧ k (.agg ((cs.drop off).take sz)) st
    | _ => False
  | .index1 len x i => match fr.val x, fr.val i with
    | .agg cs, .int _ n => (0 ≤ n ∧ n < len) ∧ match cs[n.toNat]? with
      | some v => k v st
      | none => False
    | _, _ => False
  | .indexN len sz x i => match fr.val x, fr.val i with
    | .agg cs, .int _ n => (0 ≤ n ∧ n < len ∧ n.toNat * sz + sz ≤ cs.length) ∧ k (.agg ((cs.drop (n.toNat * sz)).take sz)) st
    | _, _ => False
  | .alloc zs => ∀ id, st.h id = none → k (.ptr id 0) (st.new id (.cells zs))
  | .box1 x => (fr.val x).leaf = true ∧ ∀ id, st.h id = none → k (.ptr id 0) (st.new id (.cells [fr.val x]))
  | .boxN x => match fr.val x with
    | .agg cs => ∀ id, st.h id = none → k (.ptr id 0) (st.new id (.cells cs))
    | _ => False
  | .build zs parts => match aput zs (parts.map fun p => (p.1, p.2.1, fr.val p.2.2)) with
    | some cs => k (.agg cs) st
    | none => False
  | .buildSlice sz n zs parts => match aput (zeros zs n) (parts.map fun p => (p.1, p.2.1, fr.val p.2.2)) with
    | some cs => ∀ id, st.h id = none → k (.sl sz id 0 n) (st.new id (.cells cs))
    | none => False
  | .makeSlice sz _ zs l c => match fr.val l, fr.val c with
    | .int .i64 n, .int .i64 m => (0 ≤ n ∧ n = m ∧ n ≤ 4294967296) ∧ ∀ id, st.h id = none → k (.sl sz id 0 n.toNat) (st.new id (.cells (zeros zs n.toNat)))
    | _, _ => False
  | .append sz _ x y => match (fr.val y).slen, (fr.val x).slen with
    | some m, some n => match st.seen (m * sz) (fr.val y) with
      | some new => (n + m ≤ 4294967296 ∧ allLeaf new = true) ∧
        if m = 0 then k (fr.val x) st else
        match fr.val x with
        | .nils | .emp => ∀ id', st.h id' = none → k (.sl sz id' 0 m) (st.new id' (.cells new))
        | .sl sz' id off len => match st.h id with
          | some (.cells cs) => (sz' = sz ∧ off + len * sz = cs.length) ∧ ∀ id', st.h id' = none → k (.sl sz id' 0 (len + m)) ((st.kill id).new id' (.cells (cs.drop off ++ new)))
          | _ => False
        | _ => False
      | none => False
    | _, _ => False
  | .slice sz x lo hi mx => match fr.val x, bound fr 0 lo with
    | x', some l => match x'.slen with
      | some len => match bound fr len hi with
        | some h => match bound fr h mx with
          | some m => (l ≤ h ∧ h ≤ m ∧ m ≤ len ∧ (hi.isNone = true → mx.isNone = true)) ∧ (match x' with | .sl sz' .. => sz' = sz | .isl sz' .. => sz' = sz | .nils | .emp => True | _ => False) ∧ k (if mx.isSome = true ∧ l = m then .emp else aslice sz x' l h) st
          | none => False
        | none => False
      | none => False
    | _, _ => False
  | .extract x i => match fr.val x with
    | .tup vs => match vs[i]? with
      | some v => k v st
      | none => False
    | _ => False
  | .makeMap hint => match hint with
    | none => ∀ id, st.h id = none → k (.map id) (st.new id (.map []))
    | some x => match fr.val x with
      | .int _ _ => ∀ id, st.h id = none → k (.map id) (st.new id (.map []))
      | _ => False
  | .lookup zero ok m key => match fr.val key with
    | .int .i64 n => match fr.val m with
      | .nilm => k (if ok then .tup [zero, .bool false] else zero) st
      | .map id => match st.h id with
        | some (.map es) => match look es n with
          | some v => k (if ok then .tup [v, .bool true] else v) st
          | none => k (if ok then .tup [zero, .bool false] else zero) st
        | _ => False
      | _ => False
    | _ => False
  | .mapSet m key v => match fr.val key, fr.val m with
    | .int .i64 n, .map id => match st.h id with
      | some (.map es) => k (.tup []) (st.set id (.map (mput es n (fr.val v))))
      | _ => False
    | _, _ => False
  | .mapEntry zero m key => match fr.val key, fr.val m with
    | .int .i64 n, .map id => match st.h id with
      | some (.map es) => match spot es n with
        | some i => match es[i]? with
          | some e => k (.tup [e.2, .int .i64 i]) st
          | none => False
        | none => k (.tup [zero, .int .i64 es.length]) (st.set id (.map (es ++ [(n, zero)])))
      | _ => False
    | _, _ => False
  | .entryStore m s v => match fr.val s, fr.val m with
    | .int .i64 i, .map id => match st.h id with
      | some (.map es) => 0 ≤ i ∧ match es[i.toNat]? with
        | some e => k (.tup []) (st.set id (.map (es.set i.toNat (e.1, fr.val v))))
        | none => False
      | _ => False
    | _, _ => False
  | .makeFunc f cap => k (.fn f (fr.vals cap)) st
  | .call f args => ACalls P f (fr.vals args) st k
  | .callv f args => match fr.val f with
    | .fn g cap => hasBody P g = true ∧ ACalls P g (fr.vals args ++ cap) st k
    | _ => False
  | .strIdx x i => match fr.val x, fr.val i with
    | .str bs, .int _ n => 0 ≤ n ∧ match bs[n.toNat]? with
      | some b => k (.int .u8 b) st
      | none => False
    | _, _ => False

def heldOk (st : ASt) (fr : AFr) : List IHeld → Prop
  | [] => True
  | p :: r => (match p.guard with
      | none => p.op.again st fr = some (fr.get p.dst)
      | some (g, want) => fr.get g = .bool want → p.op.again st fr = some (fr.get p.dst)) ∧ heldOk st fr r

def astep0 (P : Program) (o : IOper) (k : AFr → ASt → Prop) (fr : AFr) (st : ASt) : Prop :=
  match o.guard with
  | none => aop P o.op fr st fun v st' => k (fr.set o.dst v) st'
  | some (g, want) => match fr.get g with
    | .bool b => if b = want then aop P o.op fr st fun v st' => k (fr.set o.dst v) st' else k (fr.set o.dst (.tup [])) st
    | .tup [] => k (fr.set o.dst (.tup [])) st
    | _ => False

def aheadOk (fr : AFr) : List (IArg × IArg) → Prop
  | [] => True
  | p :: r => (match fr.val p.1, fr.val p.2 with
      | .int .i64 n, .int .i64 m => 0 ≤ n ∧ n = m ∧ n ≤ 4294967296
      | _, _ => False) ∧ aheadOk fr r

def aops (P : Program) : List IOper → (AFr → ASt → Prop) → AFr → ASt → Prop
  | [], k, fr, st => k fr st
  | o :: os, k, fr, st => aheadOk fr o.ahead ∧ astep0 P o (fun fr' st' => heldOk st' fr' o.held ∧ aops P os k fr' st') fr st

inductive IExit where
  | normal
  | exit (id : Nat)
  | ret

def IExit.then (next : AFr → ASt → Prop) (Q : IExit → AFr → ASt → Prop) : IExit → AFr → ASt → Prop
  | .normal, fr, st => next fr st
  | e, fr, st => Q e fr st

def IExit.inBlock (id : Nat) (Q : IExit → AFr → ASt → Prop) : IExit → AFr → ASt → Prop
  | .exit i, fr, st => if i = id then Q .normal fr st else Q (.exit i) fr st
  | e, fr, st => Q e fr st

def FGhost (fr : AFr) (st : ASt) (fr1 : AFr) (st1 : ASt) : Prop :=
  ∀ B w0 R wr C w, ASim B w0 R wr C st w → ∃ C', C.le C' ∧ ASim B w0 R wr C' st1 w ∧ ∀ i v, VS C (fr.get i) v → VS C' (fr1.get i) v

def awp (P : Program) : ICode → (IExit → AFr → ASt → Prop) → AFr → ASt → Prop
  | .skip, Q, fr, st => Q .normal fr st
  | .region ops, Q, fr, st => aops P ops (Q .normal) fr st
  | .keep ks c, Q, fr, st => awp P c Q (fr.keep ks) st
  | .ghost c, Q, fr, st => ∃ fr1 st1, FGhost fr st fr1 st1 ∧ awp P c Q fr1 st1
  | .seq a b, Q, fr, st => awp P a (IExit.then (awp P b Q) Q) fr st
  | .cond c a b, Q, fr, st => match fr.val c with
    | .bool t => if t then awp P a Q fr st else awp P b Q fr st
    | _ => False
  | .block id c, Q, fr, st => awp P c (IExit.inBlock id Q) fr st
  | .loop c, Q, fr, st => ∃ (I : AFr → ASt → Prop) (μ : AFr → ASt → Nat), I fr st ∧
      ∀ fr st, I fr st → awp P c (IExit.then (fun fr' st' => I fr' st' ∧ μ fr' st' < μ fr st) Q) fr st
  | .exit id, Q, fr, st => Q (.exit id) fr st
  | .ret, Q, fr, st => Q .ret fr st

end Go.Proofs.YtdmfgodajoojpaaGreatDoor.Cn
/- The abstract layer, part 3: the intermediate code is made of the program's code. -/
namespace Go.Proofs.YtdmfgodajoojpaaGreatDoor.Cn
open Go Go.RowKit

def cvLeaf : Value → Option AV
  | .bool b => some (.bool b)
  | .int k n => some (.int k n)
  | .pointer none => some .nilp
  | .slice none 0 0 => some .nils
  | .map none => some .nilm
  | .nilFunc => some .nilf
  | .string s => some (.str (s.data.toList.map UInt8.toNat))
  | _ => none

def cvs : List Value → Option (List AV)
  | [] => some []
  | v :: r => match cvLeaf v, cvs r with
    | some a, some b => some (a :: b)
    | _, _ => none

def cv : Value → Option AV
  | .agg cs => (cvs cs.toList).map .agg
  | v => cvLeaf v

def cArg : Operand → Option IArg
  | .tmp t => some (.slot t)
  | .const v => (cv v).map .cst
  | .global g => (globAt globTab g).map fun cs => .cst (.iptr cs 0)
  | .func f => some (.fnc f)

def cArgs : List Operand → Option (List IArg)
  | [] => some []
  | x :: r => match cArg x, cArgs r with
    | some a, some b => some (a :: b)
    | _, _ => none

def cOpt : Option Operand → Option (Option IArg)
  | none => some none
  | some x => (cArg x).map some

def aggB (P : Program) (t : TypeId) : Bool :=
  match P.underlying t with
  | some (.struct _) | some (.array _ _) => true
  | _ => false

def zc (P : Program) (t : TypeId) : Option (List AV) :=
  match P.info? t with
  | some i => match i.zero with
    | some z => cvs z.cells.toList
    | none => none
  | none => none

def zv (P : Program) (t : TypeId) : Option AV :=
  match P.info? t with
  | some i => match i.zero with
    | some z => cv z
    | none => none
  | none => none

def fieldKinds (P : Program) : List Field → Nat → Option (List Bool)
  | [], _ => some []
  | f :: r, n => if f.name ≠ "_" ∧ f.offset = n then
      match P.underlying f.type, fieldKinds P r (n + 1) with
      | some (.int _), some ks => some (true :: ks)
      | some .bool, some ks => some (false :: ks)
      | _, _ => none
    else none

def nilKind : TypeDesc → Option Nat
  | .pointer _ => some 0
  | .slice _ => some 1
  | .map _ _ => some 2
  | .func _ _ _ => some 3
  | _ => none

def partsStruct (P : Program) (fs : Array Field) : List (Nat × Operand) → Option (List (Nat × Nat × IArg))
  | [] => some []
  | (i, x) :: r => match fs[i]? with
    | some f => match P.info? f.type, cArg x, partsStruct P fs r with
      | some inf, some a, some b => some ((f.offset, inf.size, a) :: b)
      | _, _, _ => none
    | none => none

def partsRow (sz : Nat) : List (Nat × Operand) → Option (List (Nat × Nat × IArg))
  | [] => some []
  | (i, x) :: r => match cArg x, partsRow sz r with
    | some a, some b => some ((i * sz, sz, a) :: b)
    | _, _ => none

def infosOk (P : Program) : List Field → Bool
  | [] => true
  | f :: r => (P.info? f.type).isSome && infosOk P r

def compCall (P : Program) (c : Call) : Option IOp :=
  match c.callee with
  | .value (.func f) => if hasBody P f then (cArgs c.args.toList).map (.call f) else none
  | .value (.tmp t) => (cArgs c.args.toList).map (.callv (.slot t))
  | .builtin .len => match c.args.toList, c.argTypes.toList with
    | [x], [t] => match P.underlying t with
      | some (.slice _) => (cArg x).map .len
      | some (.map _ _) => (cArg x).map .mlen
      | some (.array n _) => some (.move (.cst (.int .i64 n)))
      | _ => none
    | _, _ => none
  | .builtin .max => match c.args.toList with
    | [x, y] => match cArg x, cArg y with
      | some a, some b => some (.minmax true a b)
      | _, _ => none
    | _ => none
  | .builtin .min => match c.args.toList with
    | [x, y] => match cArg x, cArg y with
      | some a, some b => some (.minmax false a b)
      | _, _ => none
    | _ => none
  | .builtin .append => match c.args.toList, c.argTypes.toList with
    | [x, y], [t, u] => match P.underlying t, P.underlying u with
      | some (.slice e), some (.slice _) => match P.info? e, zc P e, cArg x, cArg y with
        | some i, some zs, some a, some b => if 0 < i.bytes ∧ i.bytes ≤ 4096 ∧ 0 < i.size ∧ zs.length = i.size then some (.append i.size i.bytes a b) else none
        | _, _, _, _ => none
      | _, _ => none
    | _, _ => none
  | _ => none

def compOp (P : Program) (op : Op) : Option IOp :=
  match op with
  | .move x | .assign x => (cArg x).map .move
  | .nilCheck x => (cArg x).map .nilchk
  | .pick c a b => match cArg c, cArg a, cArg b with
    | some c, some a, some b => some (.pick c a b)
    | _, _, _ => none
  | .binOp op t x y _ => match cArg x, cArg y with
    | some a, some b => match P.underlying t with
      | some (.int _) => some (.bin op a b)
      | some .bool => match op with
        | .eql => some (.eqB false a b)
        | .neq => some (.eqB true a b)
        | _ => none
      | some (.struct fs) => if !P.stoodInHeld t && !P.eqGuardType P.depth t then match op with
        | .eql => (fieldKinds P fs.toList 0).map fun ks => .eqS ks false a b
        | .neq => (fieldKinds P fs.toList 0).map fun ks => .eqS ks true a b
        | _ => none else none
      | some d => match nilKind d with
        | some kind => match op with
          | .eql => some (.eqP kind false a b)
          | .neq => some (.eqP kind true a b)
          | _ => none
        | none => none
      | none => none
    | _, _ => none
  | .unOp op _ x => (cArg x).map (.un op)
  | .convert src dst x => match P.underlying src, P.underlying dst with
    | some _, some (.int k) => (cArg x).map (.conv k)
    | _, _ => none
  | .indexAddr t x i => match cArg x, cArg i with
    | some a, some b => match P.underlying t with
      | some (.slice e) => (P.info? e).map fun i => .idxAddr i.size a b
      | some (.array n e) => (P.info? e).map fun i => .arrAddr i.size n a b
      | _ => none
    | _, _ => none
  | .fieldAddr s x f => match P.underlying s with
    | some (.struct fs) => match fs[f]? with
      | some fd => match P.info? fd.type with
        | some i => if i.size ≠ 0 then (cArg x).map (.fldAddr fd.offset) else none
        | none => none
      | none => none
    | _ => none
  | .load t x => match P.info? t, P.underlying t with
    | some i, some _ => (cArg x).map fun a => if aggB P t then .loadN i.size a else .load1 a
    | _, _ => none
  | .store t x v => match P.info? t, P.underlying t with
    | some i, some _ => match cArg x, cArg v with
      | some a, some b => if aggB P t then some (.storeN i.size a b) else if i.size = 1 then some (.store1 a b) else none
      | _, _ => none
    | _, _ => none
  | .field t x f => match P.underlying t with
    | some (.struct fs) => match fs[f]? with
      | some fd => match P.info? fd.type, P.underlying fd.type with
        | some i, some _ => (cArg x).map fun a => if aggB P fd.type then .fieldN fd.offset i.size a else .field1 fd.offset a
        | _, _ => none
      | none => none
    | _ => none
  | .index t x i => match cArg x, cArg i with
    | some a, some b => match P.underlying t with
      | some (.array n e) => match P.info? e, P.underlying e with
        | some inf, some _ => if aggB P e then some (.indexN n inf.size a b) else if inf.size = 1 then some (.index1 n a b) else none
        | _, _ => none
      | some .string => some (.strIdx a b)
      | _ => none
    | _, _ => none
  | .alloc e => (zc P e).map .alloc
  | .box e x => match P.underlying e with
    | some _ => (cArg x).map fun a => if aggB P e then .boxN a else .box1 a
    | none => none
  | .build t parts => match zc P t with
    | some zs => match P.underlying t with
      | some (.struct fs) => if infosOk P fs.toList then (partsStruct P fs parts.toList).map (.build zs) else none
      | some (.array _ e) => match P.info? e with
        | some i => (partsRow i.size parts.toList).map (.build zs)
        | none => none
      | _ => none
    | none => none
  | .buildSlice t len parts => match P.underlying t with
    | some (.slice e) => match P.info? e, zc P e with
      | some i, some zs => if len * i.size ≤ 16777216 ∧ zs.length = i.size ∧ 0 < i.size then (partsRow i.size parts.toList).map (.buildSlice i.size len zs) else none
      | _, _ => none
    | _ => none
  | .makeSlice t l c => match P.underlying t with
    | some (.slice e) => match P.info? e, zc P e, cArg l, cArg c with
      | some i, some zs, some a, some b => if i.bytes ≤ 4096 ∧ zs.length = i.size ∧ 0 < i.size then some (.makeSlice i.size i.bytes zs a b) else none
      | _, _, _, _ => none
    | _ => none
  | .slice t x lo hi mx => match P.underlying t with
    | some (.slice e) => match P.info? e, cArg x, cOpt lo, cOpt hi, cOpt mx with
      | some i, some a, some l, some h, some m => some (.slice i.size a l h m)
      | _, _, _, _, _ => none
    | _ => none
  | .extract x i => (cArg x).map fun a => .extract a i
  | .makeMap t r => match P.underlying t, cOpt r with
    | some (.map _ _), some h => some (.makeMap h)
    | _, _ => none
  | .lookup t x i ok => match P.underlying t with
    | some (.map key elem) => match P.underlying key, zv P elem, cArg x, cArg i with
      | some (.int _), some z, some a, some b => some (.lookup z ok a b)
      | _, _, _, _ => none
    | _ => none
  | .mapUpdate t m key v => match P.underlying t with
    | some (.map kt _) => match P.underlying kt, cArg m, cArg key, cArg v with
      | some (.int _), some a, some b, some c => some (.mapSet a b c)
      | _, _, _, _ => none
    | _ => none
  | .mapEntry t m key => match P.underlying t with
    | some (.map kt elem) => match P.underlying kt, zv P elem, cArg m, cArg key with
      | some (.int _), some z, some a, some b => some (.mapEntry z a b)
      | _, _, _, _ => none
    | _ => none
  | .entryStore _ m s v => match cArg m, cArg s, cArg v with
    | some a, some b, some c => some (.entryStore a b c)
    | _, _, _ => none
  | .makeFunc (.func f) first cap => if first.size = 0 then (cArgs cap.toList).map (.makeFunc f) else none
  | .call c => compCall P c
  | _ => none

def IOp.still : IOp → Bool
  | .move _ | .nilchk _ | .pick .. | .bin .. | .eqB .. | .eqP .. | .eqS .. | .un .. | .conv .. | .len _ | .minmax .. | .idxAddr .. | .arrAddr .. | .fldAddr .. | .field1 .. | .fieldN .. | .index1 .. | .indexN .. | .strIdx .. | .build .. | .slice .. | .extract .. | .makeFunc .. => true
  | _ => false

def IOp.loads : IOp → Bool
  | .load1 _ | .loadN _ _ => true
  | _ => false

end Go.Proofs.YtdmfgodajoojpaaGreatDoor.Cn
/- The abstract layer, part 4: how a like world stays like an abstract heap. -/
namespace Go.Proofs.YtdmfgodajoojpaaGreatDoor.Cn
open Go Go.RowKit

section
variable {B : Nat} {w0 : World} {R : Nat → Prop} {wr : World} {C : ACx} {st : ASt} {w : World}

theorem ASim.lt (s : ASim B w0 R wr C st w) {i : Nat} {o : AObj} (h : st.h i = some o) : i < C.N := s.live i (by rw [h]; simp)

theorem ASim.fresh (s : ASim B w0 R wr C st w) : st.h C.N = none := by
  cases h : st.h C.N with
  | none => rfl
  | some o => exact absurd (s.lt h) (Nat.lt_irrefl _)

theorem ASim.cell (s : ASim B w0 R wr C st w) {id : Nat} {cs : List AV} (h : st.h id = some (.cells cs)) {off : Nat} (ho : off < cs.length) :
    ∃ v, w.cell? ⟨(C.φ id).1, (C.φ id).2 + off, none⟩ = some v ∧ VS C cs[off] v ∧ w.frozen? ⟨(C.φ id).1, (C.φ id).2 + off, none⟩ = false := by
  obtain ⟨hl, c, t, hw, hs, hv⟩ := s.obj id _ h
  have hlt : (C.φ id).2 + off < c.size := by omega
  refine ⟨c.getD ((C.φ id).2 + off) undef, ?_, hv off ho, ?_⟩
  · simp [World.cell?, hw, hlt]
  · simp [World.frozen?, hw]

theorem ASim.draw (s : ASim B w0 R wr C st w) (n : Nat) : ASim B w0 R wr C st { w with drawn := n } :=
  { glob := s.glob, live := s.live, below := ⟨s.below.os, s.below.tape, s.below.output, s.below.size, s.below.block⟩, hB := s.hB, inj := s.inj, lo := s.lo
    obj := fun i o h => by have := s.obj i o h; cases o <;> exact this
    imm := s.imm
    res := s.res }

theorem ObjSim.mono {C C' : ACx} {id : Nat} {w : World} {o : AObj} (h : C.le C') (hi : id < C.N) (x : ObjSim C id w o) : ObjSim C' id w o := by
  cases o with
  | cells cs =>
    obtain ⟨hl, c, t, hw, hs, hv⟩ := x
    refine ⟨by rw [h.bs id hi]; exact hl, c, t, by rw [h.φ id hi]; exact hw, by rw [h.φ id hi, h.bs id hi]; exact hs, fun i hi' => ?_⟩
    rw [h.φ id hi]; exact (hv i hi').mono h
  | map es =>
    obtain ⟨rs, hw, hs, hv⟩ := x
    refine ⟨rs, by rw [h.φ id hi]; exact hw, hs, fun i hi' => ?_⟩
    obtain ⟨a, b, c⟩ := hv i hi'
    exact ⟨a, b.mono h, c⟩

theorem ObjSim.world {C : ACx} {id : Nat} {w w' : World} {o : AObj} (hw : w'.heap[(C.φ id).1]? = w.heap[(C.φ id).1]?) (x : ObjSim C id w o) : ObjSim C id w' o := by
  cases o with
  | cells cs => obtain ⟨hl, c, t, h, hs, hv⟩ := x; exact ⟨hl, c, t, hw.trans h, hs, hv⟩
  | map es => obtain ⟨rs, h, hs, hv⟩ := x; exact ⟨rs, hw.trans h, hs, hv⟩

theorem heap_lt {w : World} {b : Nat} {o : Obj} (h : w.heap[b]? = some o) : b < w.heap.size := by
  rcases Nat.lt_or_ge b w.heap.size with h' | h'
  · exact h'
  · rw [Array.getElem?_eq_none h'] at h; cases h

theorem ASim.block_lt (s : ASim B w0 R wr C st w) {id : Nat} (h : st.h id ≠ none) : (C.φ id).1 < w.heap.size := by
  cases ho : st.h id with
  | none => exact absurd ho h
  | some o =>
    have x := s.obj id o ho
    cases o with
    | cells cs => obtain ⟨_, c, t, hw, _⟩ := x; exact heap_lt hw
    | map es => obtain ⟨rs, hw, _⟩ := x; exact heap_lt hw

theorem cell_lt {w : World} {b o : Nat} {v : Value} (h : w.cell? ⟨b, o, none⟩ = some v) : b < w.heap.size := by
  rcases Nat.lt_or_ge b w.heap.size with h' | h'
  · exact h'
  · simp [World.cell?, Array.getElem?_eq_none h'] at h

def ACx.push (C : ACx) (p : Nat × Nat) (n : Nat) : ACx :=
  { N := C.N + 1, φ := fun i => if i = C.N then p else C.φ i, bs := fun i => if i = C.N then n else C.bs i, K := C.K }

theorem ACx.push_le (C : ACx) (p : Nat × Nat) (n : Nat) : C.le (C.push p n) :=
  ⟨Nat.le_succ _, fun i hi => by simp [ACx.push, Nat.ne_of_lt hi], fun i hi => by simp [ACx.push, Nat.ne_of_lt hi], fun _ _ _ h => h⟩

theorem ACx.push_φ (C : ACx) (p : Nat × Nat) (n : Nat) : (C.push p n).φ C.N = p := by simp [ACx.push]
theorem ACx.push_bs (C : ACx) (p : Nat × Nat) (n : Nat) : (C.push p n).bs C.N = n := by simp [ACx.push]
theorem ACx.push_N (C : ACx) (p : Nat × Nat) (n : Nat) : (C.push p n).N = C.N + 1 := rfl
theorem ACx.push_φ_ne (C : ACx) (p : Nat × Nat) (n : Nat) {i : Nat} (h : i ≠ C.N) : (C.push p n).φ i = C.φ i := by simp [ACx.push, h]

theorem heap_push_lt (w : World) (o : Obj) {b : Nat} (h : b < w.heap.size) : ({ w with heap := w.heap.push o } : World).heap[b]? = w.heap[b]? := by
  show (w.heap.push o)[b]? = _
  rw [Array.getElem?_push, if_neg (by omega)]

theorem heap_push_eq (w : World) (o : Obj) : ({ w with heap := w.heap.push o } : World).heap[w.heap.size]? = some o := by
  show (w.heap.push o)[w.heap.size]? = _
  rw [Array.getElem?_push, if_pos rfl]

theorem cell_of_heap {w w' : World} {b o : Nat} (h : w'.heap[b]? = w.heap[b]?) : w'.cell? ⟨b, o, none⟩ = w.cell? ⟨b, o, none⟩ := by
  simp [World.cell?, h]

theorem ASim.alloc (s : ASim B w0 R wr C st w) (o : Obj) (ao : AObj) (m : Nat)
    (ho : ObjSim (C.push (w.heap.size, 0) m) C.N { w with heap := w.heap.push o } ao) :
    ASim B w0 R wr (C.push (w.heap.size, 0) m) (st.new C.N ao) { w with heap := w.heap.push o } where
  glob := s.glob.mono (C.push_le _ _)
  live := by
    intro i hi
    rw [C.push_N]
    by_cases e : i = C.N
    · omega
    · rw [ASt.new_ne _ e] at hi; have := s.live i hi; omega
  below := s.below.trans ⟨rfl, rfl, rfl, by simp, fun k hk => heap_push_lt w o (Nat.lt_of_lt_of_le hk s.hB)⟩
  hB := by have := s.hB; simp; omega
  inj := by
    intro i j hi hj h
    by_cases ei : i = C.N
    · by_cases ej : j = C.N
      · rw [ei, ej]
      · rw [ASt.new_ne _ ej] at hj
        have := s.block_lt hj
        rw [ei, C.push_φ, C.push_φ_ne _ _ ej] at h
        simp only at h
        omega
    · rw [ASt.new_ne _ ei] at hi
      have hb := s.block_lt hi
      by_cases ej : j = C.N
      · rw [ej, C.push_φ, C.push_φ_ne _ _ ei] at h
        simp only at h
        omega
      · rw [ASt.new_ne _ ej] at hj
        rw [C.push_φ_ne _ _ ei, C.push_φ_ne _ _ ej] at h
        exact s.inj i j hi hj h
  lo := by
    intro i hi
    by_cases ei : i = C.N
    · rw [ei, C.push_φ]; exact s.hB
    · rw [ASt.new_ne _ ei] at hi; rw [C.push_φ_ne _ _ ei]; exact s.lo i hi
  obj := by
    intro i x hx
    by_cases ei : i = C.N
    · rw [ei, ASt.new_self _ s.fresh] at hx; cases hx; rw [ei]; exact ho
    · rw [ASt.new_ne _ ei] at hx
      have y := s.obj i x hx
      refine ObjSim.mono (C.push_le _ _) (s.lt hx) (y.world (heap_push_lt w o (s.block_lt (by rw [hx]; simp))))
  imm := by
    intro b p v hv
    obtain ⟨h1, h0, h2⟩ := s.imm b p v hv
    have hb := cell_lt h1
    refine ⟨(cell_of_heap (heap_push_lt w o hb)).trans h1, h0, fun i hi => ?_⟩
    by_cases ei : i = C.N
    · rw [ei, C.push_φ]; simp only; omega
    · rw [ASt.new_ne _ ei] at hi; rw [C.push_φ_ne _ _ ei]; exact h2 i hi
  res := by
    intro b hb
    obtain ⟨h1, h2, h3⟩ := s.res b hb
    refine ⟨by simp; omega, (heap_push_lt w o h1).trans h2, fun i hi => ?_⟩
    by_cases ei : i = C.N
    · rw [ei, C.push_φ]; simp only; omega
    · rw [ASt.new_ne _ ei] at hi; rw [C.push_φ_ne _ _ ei]; exact h3 i hi

theorem ASim.wrote (s : ASim B w0 R wr C st w) {id : Nat} {old : AObj} (h : st.h id = some old) (w' : World) (o : AObj)
    (hos : w'.os = w.os) (ht : w'.tape = w.tape) (hout : w'.output = w.output) (hsz : w'.heap.size = w.heap.size)
    (hk : ∀ k, k ≠ (C.φ id).1 → w'.heap[k]? = w.heap[k]?) (ho : ObjSim C id w' o) : ASim B w0 R wr C (st.set id o) w' where
  glob := s.glob
  live := by
    intro i hi
    refine s.live i ?_
    rw [ASt.set_h] at hi; split at hi <;> simp_all
  below := s.below.trans ⟨hos, ht, hout, by omega, fun k hk' => hk k (by have := s.lo id (by rw [h]; simp); omega)⟩
  hB := by rw [hsz]; exact s.hB
  inj := by
    intro i j hi hj e
    refine s.inj i j ?_ ?_ e
    · rw [ASt.set_h] at hi; split at hi <;> simp_all
    · rw [ASt.set_h] at hj; split at hj <;> simp_all
  lo := by
    intro i hi
    refine s.lo i ?_
    rw [ASt.set_h] at hi; split at hi <;> simp_all
  obj := by
    intro i x hx
    rw [ASt.set_h] at hx
    by_cases e : i = id
    · rw [if_pos e, e, h] at hx; simp at hx; rw [e, ← hx]; exact ho
    · rw [if_neg e] at hx
      refine (s.obj i x hx).world (hk _ fun e' => e (s.inj i id (by rw [hx]; simp) (by rw [h]; simp) e'))
  imm := by
    intro b p v hv
    obtain ⟨h1, h0, h2⟩ := s.imm b p v hv
    have hne := h2 id (by rw [h]; simp)
    refine ⟨(cell_of_heap (hk b fun e => hne e.symm)).trans h1, h0, fun i hi => h2 i ?_⟩
    rw [ASt.set_h] at hi; split at hi <;> simp_all
  res := by
    intro b hb
    obtain ⟨h1, h2, h3⟩ := s.res b hb
    have hne := h3 id (by rw [h]; simp)
    refine ⟨by rw [hsz]; exact h1, (hk b fun e => hne e.symm).trans h2, fun i hi => h3 i ?_⟩
    rw [ASt.set_h] at hi; split at hi <;> simp_all

end
end Go.Proofs.YtdmfgodajoojpaaGreatDoor.Cn
/- The abstract layer, part 5: frames and operands. -/
namespace Go.Proofs.YtdmfgodajoojpaaGreatDoor.Cn
open Go Go.RowKit

structure FSim (C : ACx) (n : Nat) (fr : AFr) (a : Act) : Prop where
  size : a.tmps.size = n
  get : ∀ i, VS C (fr.get i) (a.tmps.getD i undef)

theorem FSim.mono {C C' : ACx} {n : Nat} {fr : AFr} {a : Act} (h : C.le C') (x : FSim C n fr a) : FSim C' n fr a :=
  ⟨x.size, fun i => (x.get i).mono h⟩

theorem AFr.get_cons (j : Nat) (v : AV) (r : AFr) (i : Nat) : AFr.get ((j, v) :: r) i = if j = i then v else AFr.get r i := rfl
theorem AFr.get_nil (i : Nat) : AFr.get [] i = .any := rfl

theorem put_tmps (a : Act) (d : Nat) (v : Value) : (a.put (some d) v).tmps = a.tmps.setIfInBounds d v := rfl

theorem getD_set (xs : Array Value) (d i : Nat) (v : Value) (h : d < xs.size) : (xs.setIfInBounds d v).getD i undef = if d = i then v else xs.getD i undef := by
  by_cases e : d = i
  · subst e; simp [Array.getD_eq_getD_getElem?, h]
  · simp [Array.getD_eq_getD_getElem?, Array.getElem?_setIfInBounds_ne e, e]

theorem FSim.put {C : ACx} {n : Nat} {fr : AFr} {a : Act} (x : FSim C n fr a) (d : Option Nat) (hd : ∀ t, d = some t → t < n) {av : AV} {v : Value} (h : VS C av v) :
    FSim C n (fr.set d av) (a.put d v) := by
  cases d with
  | none => exact ⟨x.size, x.get⟩
  | some t =>
    have ht := hd t rfl
    refine ⟨by rw [put_tmps]; simpa using x.size, fun i => ?_⟩
    rw [put_tmps, getD_set _ _ _ _ (by rw [x.size]; exact ht)]
    show VS C (AFr.get ((t, av) :: fr) i) _
    rw [AFr.get_cons]
    split
    · exact h
    · exact x.get i

theorem AFr.get_keep (fr : AFr) (ks : List Nat) (i : Nat) : (fr.keep ks).get i = fr.get i ∨ (fr.keep ks).get i = .any := by
  induction ks with
  | nil => exact .inr rfl
  | cons k ks ih =>
    show AFr.get ((k, fr.get k) :: fr.keep ks) i = _ ∨ AFr.get ((k, fr.get k) :: fr.keep ks) i = _
    rw [AFr.get_cons]
    split
    · rename_i e; subst e; exact .inl rfl
    · exact ih

theorem FSim.keep {C : ACx} {n : Nat} {fr : AFr} {a : Act} (x : FSim C n fr a) (ks : List Nat) : FSim C n (fr.keep ks) a :=
  ⟨x.size, fun i => by rcases fr.get_keep ks i with h | h <;> rw [h]; exact x.get i; exact .any _⟩

theorem put_defers (a : Act) (d : Option Nat) (v : Value) : (a.put d v).defers = a.defers := by cases d <;> rfl

theorem cvLeaf_vs (C : ACx) {v : Value} {a : AV} (h : cvLeaf v = some a) : VS C a v := by
  unfold cvLeaf at h
  split at h <;> cases h
  · exact .bool _
  · exact .int _ _
  · exact .nilp
  · exact .nils
  · exact .nilm
  · exact .nilf
  · exact .str _ _ rfl

theorem cvLeaf_leaf {v : Value} {a : AV} (h : cvLeaf v = some a) : a.leaf = true := by
  unfold cvLeaf at h
  split at h <;> cases h <;> rfl

theorem cvs_vs (C : ACx) : ∀ {l : List Value} {as1 : List AV}, cvs l = some as1 → l.length = as1.length ∧ allLeaf as1 = true ∧ ∀ i (h : i < as1.length), VS C as1[i] (l.getD i undef)
  | [], as1, h => by cases h; exact ⟨rfl, rfl, fun i hi => absurd hi (by simp)⟩
  | v :: r, as1, h => by
    simp only [cvs] at h
    cases h1 : cvLeaf v with
    | none => simp [h1] at h
    | some a =>
      cases h2 : cvs r with
      | none => simp [h1, h2] at h
      | some b =>
        simp [h1, h2] at h
        subst h
        obtain ⟨i1, i2, i3⟩ := cvs_vs C h2
        refine ⟨by simp [i1], by simpa [allLeaf, cvLeaf_leaf h1] using i2, fun i hi => ?_⟩
        cases i with
        | zero => simpa using cvLeaf_vs C h1
        | succ i => simpa using i3 i (by simpa using hi)

theorem cv_vs (C : ACx) {v : Value} {a : AV} (h : cv v = some a) : VS C a v := by
  cases v with
  | agg cs =>
    simp only [cv] at h
    cases h1 : cvs cs.toList with
    | none => simp [h1] at h
    | some as1 =>
      simp [h1] at h
      subst h
      obtain ⟨i1, _, i3⟩ := cvs_vs C h1
      refine .agg as1 cs (by simpa using i1) fun i hi => ?_
      have := i3 i hi
      simpa [List.getD_eq_getElem?_getD, Array.getD_eq_getD_getElem?] using this
  | _ => exact cvLeaf_vs C h

theorem arg_vs {C : ACx} {n : Nat} {fr : AFr} {a : Act} (gl : Glob C) (x : FSim C n fr a) {o : Operand} {ia : IArg} (h : cArg o = some ia) : VS C (fr.val ia) (a.eval o) := by
  cases o with
  | tmp t => cases h; exact x.get t
  | const v =>
    simp only [cArg] at h
    cases h1 : cv v with
    | none => simp [h1] at h
    | some av => simp [h1] at h; subst h; exact cv_vs C h1
  | global g =>
    simp only [cArg] at h
    cases h1 : globAt globTab g with
    | none => simp [h1] at h
    | some cs => simp [h1] at h; subst h; exact gl (g, cs) (globAt_mem h1)
  | func f => cases h; exact .fn f [] #[] rfl fun i hi => absurd hi (by simp)

theorem args_vs {C : ACx} {n : Nat} {fr : AFr} {a : Act} (gl : Glob C) (x : FSim C n fr a) : ∀ {l : List Operand} {il : List IArg}, cArgs l = some il →
    l.length = (fr.vals il).length ∧ ∀ i (h : i < (fr.vals il).length), VS C (fr.vals il)[i] ((l.map a.eval).getD i undef)
  | [], il, h => by cases h; exact ⟨rfl, fun i hi => absurd hi (by simp [AFr.vals])⟩
  | o :: r, il, h => by
    simp only [cArgs] at h
    cases h1 : cArg o with
    | none => simp [h1] at h
    | some b =>
      cases h2 : cArgs r with
      | none => simp [h1, h2] at h
      | some c =>
        simp [h1, h2] at h
        subst h
        obtain ⟨i1, i2⟩ := args_vs gl x h2
        refine ⟨by simp [AFr.vals, i1], fun i hi => ?_⟩
        cases i with
        | zero => simpa [AFr.vals] using arg_vs gl x h1
        | succ i => simpa [AFr.vals] using i2 i (by simpa [AFr.vals] using hi)

end Go.Proofs.YtdmfgodajoojpaaGreatDoor.Cn
/- The abstract layer, part 6: operations that only reckon or look are sound. -/
namespace Go.Proofs.YtdmfgodajoojpaaGreatDoor.Cn
open Go Go.RowKit

def Good (P : Program) (B : Nat) (w0 : World) (R : Nat → Prop) (wr : World) (C : ACx) (k : AV → ASt → Prop) : Result Next → Prop
  | .ok (.value rv) w' => ∃ C' v st', C.le C' ∧ ASim B w0 R wr C' st' w' ∧ VS C' v rv ∧ k v st'
  | .ok .skip w' => ∃ C' st', C.le C' ∧ ASim B w0 R wr C' st' w' ∧ k (.tup []) st'
  | .ok (.enter f args) w' => Calls P f args w' fun e w'' => ∃ C' v st' rv, C.le C' ∧ ASim B w0 R wr C' st' w'' ∧ e = .returned rv ∧ VS C' v rv ∧ k v st'
  | _ => False

section
variable {P : Program} {B : Nat} {w0 : World} {R : Nat → Prop} {wr : World} {C : ACx} {st : ASt} {w : World} {k : AV → ASt → Prop} {fr : AFr} {a : Act} {n : Nat}

theorem Good.val (s : ASim B w0 R wr C st w) {v : AV} {rv : Value} (h : VS C v rv) (hk : k v st) : Good P B w0 R wr C k (.ok (.value rv) w) :=
  ⟨C, v, st, .refl C, s, h, hk⟩

theorem run_v {s : Sem Value} {w' : World} {rv : Value} (h : s.run P w = .ok rv w') : (do pure (Next.value (← s)) : Sem Next).run P w = .ok (.value rv) w' := by
  simp [h]

theorem run_u {s : Sem Unit} {w' : World} (h : s.run P w = .ok () w') : (do s; pure Next.skip : Sem Next).run P w = .ok .skip w' := by
  simp [h]

theorem run_und {t : TypeId} {d : TypeDesc} (h : P.underlying t = some d) (w : World) : (underlying t).run P w = .ok d w := by
  simp [underlying, h]

theorem run_info {t : TypeId} {i : TypeInfo} (h : P.info? t = some i) (w : World) : (typeInfo t).run P w = .ok i w := by
  simp [typeInfo, h]

theorem run_size {t : TypeId} {i : TypeInfo} (h : P.info? t = some i) (w : World) : (sizeOf t).run P w = .ok i.size w := by
  simp [Go.sizeOf, run_info h]

theorem run_zero {t : TypeId} {i : TypeInfo} {z : Value} (h : P.info? t = some i) (hz : i.zero = some z) (w : World) : (zeroValue t).run P w = .ok z w := by
  simp [zeroValue, run_info h, hz]

theorem run_agg {t : TypeId} {d : TypeDesc} (h : P.underlying t = some d) (w : World) : (isAgg t).run P w = .ok (aggB P t) w := by
  unfold isAgg aggB
  simp only [Sem.run_bind, run_und h, Result.andThen_ok, h]
  split <;> first | rfl | (split <;> simp_all)

theorem VS.int_inv {v : Value} {kd : IntKind} {m : Int} (h : VS C (.int kd m) v) : v = .int kd m := by cases h; rfl
theorem VS.bool_inv {v : Value} {b : Bool} (h : VS C (.bool b) v) : v = .bool b := by cases h; rfl

theorem abin_sound {op : BinOp} {kd : IntKind} {x y : Int} {v : AV} (h : abin op kd x y = some v) (t : TypeId) (w : World) :
    ∃ rv, (Go.binOp op t (.int kd x) (.int kd y)).run P w = .ok rv w ∧ VS C v rv := by
  cases op <;> simp only [abin] at h
  case add => cases h; exact ⟨_, by simp [Go.binOp, Op.intArith], .int _ _⟩
  case sub => cases h; exact ⟨_, by simp [Go.binOp, Op.intArith], .int _ _⟩
  case mul => cases h; exact ⟨_, by simp [Go.binOp, Op.intArith], .int _ _⟩
  case quo =>
    split at h
    · cases h
    · rename_i hy; cases h; exact ⟨_, by simp [Go.binOp, Op.intDiv, hy], .int _ _⟩
  case rem =>
    split at h
    · cases h
    · rename_i hy; cases h; exact ⟨_, by simp [Go.binOp, Op.intDiv, hy], .int _ _⟩
  case and => cases h; exact ⟨_, by simp [Go.binOp, Op.intBits], .int _ _⟩
  case or => cases h; exact ⟨_, by simp [Go.binOp, Op.intBits], .int _ _⟩
  case xor => cases h; exact ⟨_, by simp [Go.binOp, Op.intBits], .int _ _⟩
  case andNot => cases h; exact ⟨_, by simp [Go.binOp, Op.intBits], .int _ _⟩
  case eql => cases h; exact ⟨.bool (decide (x = y)), by simp only [Go.binOp, Op.intCmp, ne_eq, not_true_eq_false, if_false, Sem.run_pure]; rw [Bool.beq_eq_decide_eq], .bool _⟩
  case neq => cases h; exact ⟨.bool (!decide (x = y)), by simp only [Go.binOp, Op.intCmp, ne_eq, not_true_eq_false, if_false, Sem.run_pure, bne, Bool.beq_eq_decide_eq], .bool _⟩
  case lss => cases h; exact ⟨_, by simp only [Go.binOp, Op.intCmp, ne_eq, not_true_eq_false, if_false, Sem.run_pure], .bool _⟩
  case leq => cases h; exact ⟨_, by simp only [Go.binOp, Op.intCmp, ne_eq, not_true_eq_false, if_false, Sem.run_pure], .bool _⟩
  case gtr => cases h; exact ⟨_, by simp only [Go.binOp, Op.intCmp, ne_eq, not_true_eq_false, if_false, Sem.run_pure, gt_iff_lt], .bool _⟩
  case geq => cases h; exact ⟨_, by simp only [Go.binOp, Op.intCmp, ne_eq, not_true_eq_false, if_false, Sem.run_pure, ge_iff_le], .bool _⟩
  all_goals cases h

theorem abinv_sound {op : BinOp} {x y v : AV} {rx ry : Value} (h : abinv op x y = some v) (hx : VS C x rx) (hy : VS C y ry) (t : TypeId) (w : World) :
    ∃ rv, (Go.binOp op t rx ry).run P w = .ok rv w ∧ VS C v rv := by
  cases x <;> try (simp [abinv] at h; done)
  cases y <;> try (simp [abinv] at h; done)
  rename_i kd i kd' j
  cases hx.int_inv; cases hy.int_inv
  by_cases h1 : op = .shl
  · subst h1
    simp only [abinv, ashift] at h
    split at h
    · cases h
    · rename_i hj; cases h; exact ⟨_, by simp [Go.binOp, Op.shift, hj], .int _ _⟩
  · by_cases h2 : op = .shr
    · subst h2
      simp only [abinv, ashift] at h
      split at h
      · cases h
      · rename_i hj; cases h; exact ⟨_, by simp [Go.binOp, Op.shift, hj], .int _ _⟩
    · have h' : (if kd = kd' then abin op kd i j else none) = some v := by cases op <;> first | exact h | exact absurd rfl h1 | exact absurd rfl h2
      split at h'
      · rename_i e; subst e; exact abin_sound h' t w
      · cases h'

theorem aun_sound {op : UnOp} {x v : AV} {rx : Value} (h : aun op x = some v) (hx : VS C x rx) (w : World) :
    ∃ rv, (Op.unary op rx).run P w = .ok rv w ∧ VS C v rv := by
  cases x <;> try (simp [aun] at h; done)
  · cases hx.bool_inv
    cases op <;> simp [aun] at h
    subst h; exact ⟨_, by simp [Op.unary], .bool _⟩
  · cases hx.int_inv
    cases op <;> simp [aun] at h
    subst h; exact ⟨_, by simp [Op.unary, Op.intArith], .int _ _⟩

theorem isNil_vs {kind : Nat} {x : AV} {rx : Value} (h : VS C x rx) {b : Bool} (hb : x.isNil kind = some b) :
    (kind = 0 ∧ ∃ p, rx = .pointer p ∧ p.isNone = b) ∨ (kind = 1 ∧ ∃ p l c, rx = .slice p l c ∧ p.isNone = b) ∨ (kind = 2 ∧ ∃ p, rx = .map p ∧ p.isNone = b) ∨
    (kind = 3 ∧ ((b = true ∧ rx = .nilFunc) ∨ (b = false ∧ ∃ f x y, rx = .func f x y))) := by
  match kind with
  | 0 => cases h <;> simp [AV.isNil] at hb <;> subst hb <;> simp
  | 1 =>
    cases h with
    | isl sz cs len b o cap p hp =>
      cases len with
      | zero => simp [AV.isNil] at hb
      | succ len =>
        simp [AV.isNil] at hb
        subst hb
        have := hp (by omega)
        subst this
        simp
    | _ => simp [AV.isNil] at hb <;> subst hb <;> simp
  | 2 => cases h <;> simp [AV.isNil] at hb <;> subst hb <;> simp
  | 3 => cases h <;> simp [AV.isNil] at hb <;> subst hb <;> simp
  | _ + 4 => simp [AV.isNil] at hb

theorem aeqP_cases {kind : Nat} {x y : AV} {b : Bool} (h : aeqP kind x y = some b) :
    (x.isNil kind = some true ∧ y.isNil kind = some b) ∨ (x.isNil kind = some b ∧ y.isNil kind = some true) := by
  unfold aeqP at h
  cases hx : x.isNil kind with
  | none => simp [hx] at h
  | some p =>
    cases hy : y.isNil kind with
    | none => cases p <;> simp [hx, hy] at h
    | some q => cases p <;> cases q <;> simp [hx, hy] at h <;> subst h <;> simp

theorem aeqP_sound {kind : Nat} {x y : AV} {rx ry : Value} {b : Bool} {t : TypeId} {d : TypeDesc} (h : aeqP kind x y = some b) (hx : VS C x rx) (hy : VS C y ry)
    (ht : P.underlying t = some d) (hd : nilKind d = some kind) (w : World) : (Op.equal t rx ry).run P w = .ok b w := by
  have key : ∀ n, (Op.equalIn (n + 1) t rx ry).run P w = .ok b w := by
    intro n
    unfold Op.equalIn
    simp only [Sem.run_bind, run_und ht, Result.andThen_ok]
    cases d <;> simp [nilKind] at hd <;> subst hd
    all_goals
      rcases aeqP_cases h with ⟨h1, h2⟩ | ⟨h1, h2⟩ <;>
      rcases isNil_vs hx h1 with ⟨e, r⟩ | ⟨e, r⟩ | ⟨e, r⟩ | ⟨e, r⟩ <;> (first | cases e) <;>
      rcases isNil_vs hy h2 with ⟨e', r'⟩ | ⟨e', r'⟩ | ⟨e', r'⟩ | ⟨e', r'⟩ <;> (first | cases e')
    · obtain ⟨p, rfl, hp⟩ := r; obtain ⟨q, rfl, hq⟩ := r'
      simp at hp; subst hp; simp [hq]
    · obtain ⟨p, rfl, hp⟩ := r; obtain ⟨q, rfl, hq⟩ := r'
      simp at hq; subst hq
      cases p with
      | none => simp at hp; subst hp; simp
      | some p => simp at hp; subst hp; simp
    · obtain ⟨p, l, c, rfl, hp⟩ := r; obtain ⟨q, l', c', rfl, hq⟩ := r'
      simp at hp; subst hp; simp [hq]
    · obtain ⟨p, l, c, rfl, hp⟩ := r; obtain ⟨q, l', c', rfl, hq⟩ := r'
      simp at hq; subst hq
      cases p with
      | none => simp at hp; subst hp; simp
      | some p => simp at hp; subst hp; simp
    · obtain ⟨p, rfl, hp⟩ := r; obtain ⟨q, rfl, hq⟩ := r'
      simp at hp; subst hp; simp [hq]
    · obtain ⟨p, rfl, hp⟩ := r; obtain ⟨q, rfl, hq⟩ := r'
      simp at hq; subst hq
      cases p with
      | none => simp at hp; subst hp; simp
      | some p => simp at hp; subst hp; simp
    · rcases r with ⟨hb, rfl⟩ | ⟨hb, _⟩
      · rcases r' with ⟨rfl, rfl⟩ | ⟨rfl, f, u, v, rfl⟩ <;> simp
      · cases hb
    · rcases r' with ⟨hb, rfl⟩ | ⟨hb, _⟩
      · rcases r with ⟨rfl, rfl⟩ | ⟨rfl, f, u, v, rfl⟩ <;> simp
      · cases hb
  exact key 9999

end
end Go.Proofs.YtdmfgodajoojpaaGreatDoor.Cn
/- The abstract layer, part 7: loads and stores are sound. -/
namespace Go.Proofs.YtdmfgodajoojpaaGreatDoor.Cn
open Go Go.RowKit

section
variable {P : Program} {B : Nat} {w0 : World} {R : Nat → Prop} {wr : World} {C : ACx} {st : ASt} {w : World} {k : AV → ASt → Prop} {fr : AFr} {a : Act} {n : Nat}

theorem addr_add (b o i : Nat) : (⟨b, o, none⟩ : Addr).add i = ⟨b, o + i, none⟩ := by unfold Addr.add; split <;> simp_all

theorem ld1_sound (s : ASim B w0 R wr C st w) {x v : AV} {rx : Value} (h : st.ld1 x = some v) (hx : VS C x rx) :
    ∃ b o rv, rx = .pointer (some ⟨b, o, none⟩) ∧ w.cell? ⟨b, o, none⟩ = some rv ∧ VS C v rv := by
  cases hx <;> simp only [ASt.ld1] at h <;> try (cases h; done)
  · rename_i id off hid
    split at h
    · rename_i cs hh
      have ho : off < cs.length := by
        rcases Nat.lt_or_ge off cs.length with h' | h'
        · exact h'
        · rw [List.getElem?_eq_none h'] at h; cases h
      obtain ⟨rv, h1, h2, _⟩ := s.cell hh ho
      rw [List.getElem?_eq_getElem ho] at h; cases h
      exact ⟨_, _, rv, rfl, h1, h2⟩
    · cases h
  · rename_i cs off b o vs hK hv
    have ho : off < cs.length := by
      rcases Nat.lt_or_ge off cs.length with h' | h'
      · exact h'
      · rw [List.getElem?_eq_none h'] at h; cases h
    rw [List.getElem?_eq_getElem ho] at h; cases h
    exact ⟨_, _, vs off, rfl, (s.imm _ _ _ (hK off ho)).1, hv off ho⟩

theorem cellsAt (s : ASim B w0 R wr C st w) {id : Nat} {cs : List AV} (h : st.h id = some (.cells cs)) :
    ∃ f : Nat → Value, ∀ i (hi : i < cs.length), w.cell? ⟨(C.φ id).1, (C.φ id).2 + i, none⟩ = some (f i) ∧ VS C cs[i] (f i) := by
  obtain ⟨hl, c, t, hw, hs, hv⟩ := s.obj id _ h
  refine ⟨fun i => c.getD ((C.φ id).2 + i) undef, fun i hi => ⟨?_, hv i hi⟩⟩
  have hlt : (C.φ id).2 + i < c.size := by omega
  simp [World.cell?, hw, hlt]

theorem loadCells_sound {b o off sz : Nat} {cs : List AV} {f : Nat → Value} (hf : ∀ i (hi : i < cs.length), w.cell? ⟨b, o + i, none⟩ = some (f i) ∧ VS C cs[i] (f i))
    (hl : off + sz ≤ cs.length) :
    ∃ rs : Array Value, (loadCells ⟨b, o + off, none⟩ sz).run P w = .ok rs w ∧ rs.size = sz ∧
      ∀ i (h : i < ((cs.drop off).take sz).length), VS C ((cs.drop off).take sz)[i] (rs.getD i undef) := by
  refine ⟨((List.range sz).map fun j => f (off + j)).toArray, run_loadCells w _ _ (fun j => f (off + j)) fun j hj => ?_, by simp, fun i hi => ?_⟩
  · rw [addr_add, Nat.add_assoc]
    exact (hf (off + j) (by omega)).1
  · have hi' : i < sz := by simp at hi; omega
    have := (hf (off + i) (by omega)).2
    simpa [Array.getD_eq_getD_getElem?, hi'] using this

theorem take_drop_len (cs : List AV) (off sz : Nat) (h : off + sz ≤ cs.length) : ((cs.drop off).take sz).length = sz := by simp; omega

theorem ldN_sound (s : ASim B w0 R wr C st w) {x v : AV} {rx : Value} {sz : Nat} (h : st.ldN sz x = some v) (hx : VS C x rx) :
    ∃ b o rs, rx = .pointer (some ⟨b, o, none⟩) ∧ (loadCells ⟨b, o, none⟩ sz).run P w = .ok rs w ∧ VS C v (.agg rs) := by
  cases hx <;> simp only [ASt.ldN] at h <;> try (cases h; done)
  · rename_i id off hid
    split at h
    · rename_i cs hh
      split at h
      · rename_i hl
        cases h
        obtain ⟨f, hf⟩ := cellsAt s hh
        obtain ⟨rs, h1, h2, h3⟩ := loadCells_sound (P := P) hf hl
        exact ⟨_, _, rs, rfl, h1, .agg _ _ (by rw [h2, take_drop_len _ _ _ hl]) h3⟩
      · cases h
    · cases h
  · rename_i cs off b o vs hK hv
    split at h
    · rename_i hl
      cases h
      obtain ⟨rs, h1, h2, h3⟩ := loadCells_sound (P := P) (f := vs) (fun i hi => ⟨(s.imm _ _ _ (hK i hi)).1, hv i hi⟩) hl
      exact ⟨_, _, rs, rfl, h1, .agg _ _ (by rw [h2, take_drop_len _ _ _ hl]) h3⟩
    · cases h

theorem ASt.set_set (st : ASt) (id : Nat) (x y : AObj) : (st.set id x).set id y = st.set id y := by
  refine ASt.ext' (fun i => ?_)
  simp only [ASt.set_h]
  split
  · simp only [Option.map_map]; rfl
  · rfl

theorem ASt.set_self (st : ASt) (id : Nat) (x : AObj) (h : st.h id = some x) : st.set id x = st := by
  refine ASt.ext' (fun i => ?_)
  simp only [ASt.set_h]
  split
  · rename_i e; subst e; simp [h]
  · rfl

theorem store_sound (s : ASim B w0 R wr C st w) {id : Nat} {cs : List AV} (h : st.h id = some (.cells cs)) {off : Nat} (ho : off < cs.length) {v : AV} {rv : Value}
    (hv : VS C v rv) (hl : v.leaf = true) :
    ∃ w', (store ⟨(C.φ id).1, (C.φ id).2 + off, none⟩ rv).run P w = .ok () w' ∧ ASim B w0 R wr C (st.set id (.cells (cs.set off v))) w' := by
  obtain ⟨u, h1, _, h3⟩ := s.cell h ho
  refine ⟨w.setCell ⟨(C.φ id).1, (C.φ id).2 + off, none⟩ rv, ?_, ?_⟩
  · rw [run_store P w _ rv _ (hv.leaf hl), h1]; simp [h3]
  · obtain ⟨hl, c, t, hw, hs, hcv⟩ := s.obj id _ h
    refine s.wrote h _ _ rfl rfl rfl (by simp) (fun k hk => Below.heap_setCell _ _ _ _ hk) ⟨by simpa using hl, c.setIfInBounds ((C.φ id).2 + off) rv, t, ?_, by simpa using hs, fun i hi => ?_⟩
    · simp only [World.setCell, Array.getElem?_modify, hw, ↓reduceIte, Option.map_some]
      simp
    · rw [getD_set _ _ _ _ (by omega)]
      by_cases e : off = i
      · subst e; simpa using hv
      · have : ¬ (C.φ id).2 + off = (C.φ id).2 + i := by omega
        rw [if_neg this]
        simpa [List.getElem_set_ne e] using hcv i (by simpa using hi)

theorem putN_length (cs : List AV) (off : Nat) (vs : List AV) : (putN cs off vs).length = cs.length := by
  induction vs generalizing cs off with
  | nil => rfl
  | cons v vs ih => simp [putN, ih]

theorem storeCells_sound : ∀ (vs : List AV) (rs : List Value) (i off : Nat) (cs : List AV) (st : ASt) (w : World) (id : Nat), ASim B w0 R wr C st w → st.h id = some (.cells cs) →
    off + i + vs.length ≤ cs.length → rs.length = vs.length → allLeaf vs = true → (∀ j (h : j < vs.length), VS C vs[j] (rs.getD j undef)) →
    ∃ w', (storeCells ⟨(C.φ id).1, (C.φ id).2 + off, none⟩ rs i).run P w = .ok () w' ∧ ASim B w0 R wr C (st.set id (.cells (putN cs (off + i) vs))) w'
  | [], rs, i, off, cs, st, w, id, s, h, _, hr, _, _ => by
    have : rs = [] := by simpa using hr
    subst this
    exact ⟨w, rfl, by simpa [putN, ASt.set_self _ _ _ h] using s⟩
  | v :: vs, rs, i, off, cs, st, w, id, s, h, hl, hr, hlf, hv => by
    match rs, hr with
    | r :: rs, hr =>
      simp [allLeaf] at hlf
      simp at hl hr
      have h0 := hv 0 (by simp)
      simp at h0
      obtain ⟨w1, r1, s1⟩ := store_sound (P := P) s h (off := off + i) (by omega) h0 hlf.1
      obtain ⟨w2, r2, s2⟩ := storeCells_sound vs rs (i + 1) off (cs.set (off + i) v) _ w1 id s1 (by rw [ASt.set_h, if_pos rfl, h]; rfl) (by simp; omega) hr
        (by simpa [allLeaf] using hlf.2) (fun j hj => hv (j + 1) (by simpa using hj))
      refine ⟨w2, ?_, ?_⟩
      · simp only [storeCells, Sem.run_bind, addr_add, Nat.add_assoc, r1, Result.andThen_ok]
        exact r2
      · rw [ASt.set_set] at s2
        exact s2

end
end Go.Proofs.YtdmfgodajoojpaaGreatDoor.Cn
/- The abstract layer, part 8: each operation that only reckons, or looks, is sound. -/
set_option linter.unusedSimpArgs false
set_option linter.unusedVariables false
namespace Go.Proofs.YtdmfgodajoojpaaGreatDoor.Cn
open Go Go.RowKit

section
variable {P : Program} {B : Nat} {w0 : World} {R : Nat → Prop} {wr : World} {C : ACx} {st : ASt} {w : World} {k : AV → ASt → Prop} {fr : AFr} {a : Act} {n : Nat} {o : Oper} {io : IOp}

theorem map_some {α β : Type} {f : α → β} {x : Option α} {b : β} (h : x.map f = some b) : ∃ y, x = some y ∧ f y = b := by
  cases x with
  | none => cases h
  | some y => exact ⟨y, rfl, by simpa using h⟩

theorem good_move (s : ASim B w0 R wr C st w) (f : FSim C n fr a) {x : Operand} (ho : o.op = .move x ∨ o.op = .assign x) (hc : (cArg x).map IOp.move = some io) (h : aop P io fr st k) :
    Good P B w0 R wr C k ((execOp a.eval o).run P w) := by
  obtain ⟨ix, h1, rfl⟩ := map_some hc
  have e : execOp a.eval o = pure (.value (a.eval x)) := by unfold execOp; rcases ho with ho | ho <;> rw [ho]
  rw [e]
  exact Good.val s (arg_vs s.glob f h1) h

theorem good_nilchk (s : ASim B w0 R wr C st w) (f : FSim C n fr a) {x : Operand} (ho : o.op = .nilCheck x) (hc : compOp P (.nilCheck x) = some io) (h : aop P io fr st k) :
    Good P B w0 R wr C k ((execOp a.eval o).run P w) := by
  obtain ⟨ix, h1, rfl⟩ := map_some hc
  have hx := arg_vs s.glob f h1
  simp only [aop] at h
  split at h
  · rename_i hn
    rcases isNil_vs hx hn with ⟨_, p, hp, hb⟩ | ⟨e, _⟩ | ⟨e, _⟩ | ⟨e, _⟩ <;> try (cases e)
    have e : execOp a.eval o = pure (.value (a.eval x)) := by
      unfold execOp; rw [ho]
      cases p with
      | none => cases hb
      | some p => simp only [hp]
    rw [e]
    exact Good.val s hx h
  · exact h.elim

theorem good_pick (s : ASim B w0 R wr C st w) (f : FSim C n fr a) {c x y : Operand} (ho : o.op = .pick c x y) (hc : compOp P (.pick c x y) = some io) (h : aop P io fr st k) :
    Good P B w0 R wr C k ((execOp a.eval o).run P w) := by
  simp only [compOp] at hc
  cases h1 : cArg c with
  | none => simp [h1] at hc
  | some ic =>
  cases h2 : cArg x with
  | none => simp [h1, h2] at hc
  | some ix =>
  cases h3 : cArg y with
  | none => simp [h1, h2, h3] at hc
  | some iy =>
  simp [h1, h2, h3] at hc
  subst hc
  simp only [aop] at h
  have hcv := arg_vs s.glob f h1
  split at h
  · rename_i t ht
    rw [ht] at hcv
    have e : (execOp a.eval o).run P w = .ok (.value (if t then a.eval x else a.eval y)) w := by
      unfold execOp; rw [ho]; simp [hcv.bool_inv, asBool]
    rw [e]
    refine Good.val s ?_ h
    cases t
    · exact arg_vs s.glob f h3
    · exact arg_vs s.glob f h2
  · exact h.elim

theorem good_un (s : ASim B w0 R wr C st w) (f : FSim C n fr a) {op : UnOp} {t : TypeId} {x : Operand} (ho : o.op = .unOp op t x) (hc : compOp P (.unOp op t x) = some io) (h : aop P io fr st k) :
    Good P B w0 R wr C k ((execOp a.eval o).run P w) := by
  obtain ⟨ix, h1, rfl⟩ := map_some hc
  simp only [aop] at h
  split at h
  · rename_i v hv
    obtain ⟨rv, h2, h3⟩ := aun_sound (P := P) hv (arg_vs s.glob f h1) w
    unfold execOp; rw [ho]; rw [run_v h2]
    exact Good.val s h3 h
  · exact h.elim

theorem good_conv (s : ASim B w0 R wr C st w) (f : FSim C n fr a) {t u : TypeId} {x : Operand} (ho : o.op = .convert t u x) (hc : compOp P (.convert t u x) = some io) (h : aop P io fr st k) :
    Good P B w0 R wr C k ((execOp a.eval o).run P w) := by
  simp only [compOp] at hc
  split at hc
  · rename_i d kd hd hu
    obtain ⟨ix, h1, rfl⟩ := map_some hc
    simp only [aop] at h
    split at h
    · rename_i kk m hm
      have hx := arg_vs s.glob f h1
      rw [hm] at hx
      have e : (Go.convert t u (a.eval x)).run P w = .ok (.int kd (kd.wrap m)) w := by
        unfold Go.convert
        simp only [Sem.run_bind, run_und hd, run_und hu, Result.andThen_ok, hx.int_inv]
        simp [Conv.intToInt]
      unfold execOp; rw [ho]; rw [run_v e]
      exact Good.val s (.int _ _) h
    · exact h.elim
  · cases hc

theorem slen_vs {x : AV} {rx : Value} (h : VS C x rx) {m : Nat} (hm : x.slen = some m) : ∃ p c, rx = .slice p m c := by
  cases h <;> simp [AV.slen] at hm <;> subst hm <;> exact ⟨_, _, rfl⟩

theorem good_extract (s : ASim B w0 R wr C st w) (f : FSim C n fr a) {x : Operand} {i : Nat} (ho : o.op = .extract x i) (hc : compOp P (.extract x i) = some io) (h : aop P io fr st k) :
    Good P B w0 R wr C k ((execOp a.eval o).run P w) := by
  obtain ⟨ix, h1, rfl⟩ := map_some hc
  simp only [aop] at h
  split at h
  · rename_i vs hvs
    split at h
    · rename_i v hv
      have hx := arg_vs s.glob f h1
      rw [hvs] at hx
      generalize hrx : a.eval x = rx at hx
      cases hx with
      | tup _ rs hl hv' =>
        have hi : i < vs.length := by
          rcases Nat.lt_or_ge i vs.length with h' | h'
          · exact h'
          · rw [List.getElem?_eq_none h'] at hv; cases hv
        have e : (Instr.extract (a.eval x) i).run P w = .ok (rs.getD i undef) w := by
          rw [hrx]
          have : i < rs.size := by omega
          simp [Instr.extract, Array.getElem?_eq_getElem this, Array.getD_eq_getD_getElem?]
        unfold execOp; rw [ho]; rw [run_v e]
        rw [List.getElem?_eq_getElem hi] at hv
        cases hv
        exact Good.val s (hv' i hi) h
    · exact h.elim
  · exact h.elim

theorem good_load (s : ASim B w0 R wr C st w) (f : FSim C n fr a) {t : TypeId} {x : Operand} (ho : o.op = .load t x) (hc : compOp P (.load t x) = some io) (h : aop P io fr st k) :
    Good P B w0 R wr C k ((execOp a.eval o).run P w) := by
  simp only [compOp] at hc
  split at hc
  · rename_i inf d hi hu
    obtain ⟨ix, h1, rfl⟩ := map_some hc
    have hx := arg_vs s.glob f h1
    cases ha : aggB P t with
    | true =>
      simp only [ha, if_true, aop] at h
      split at h
      · rename_i v hv
        obtain ⟨b, p, rs, h2, h3, h4⟩ := ldN_sound (P := P) s hv hx
        have e : (Instr.loadAt t (a.eval x)).run P w = .ok (.agg rs) w := by
          simp [Instr.loadAt, Instr.sureAddr, loadVar, h2, run_agg hu, ha, run_size hi, h3]
        unfold execOp; rw [ho]; rw [run_v e]
        exact Good.val s h4 h
      · exact h.elim
    | false =>
      simp only [ha, Bool.false_eq_true, if_false, aop] at h
      split at h
      · rename_i v hv
        obtain ⟨b, p, rv, h2, h3, h4⟩ := ld1_sound s hv hx
        have e : (Instr.loadAt t (a.eval x)).run P w = .ok rv w := by
          simp [Instr.loadAt, Instr.sureAddr, loadVar, h2, run_agg hu, ha, h3]
        unfold execOp; rw [ho]; rw [run_v e]
        exact Good.val s h4 h
      · exact h.elim
  · cases hc

theorem asInt_run {m : Int} {kd : IntKind} (w : World) : (asIntOf (.int kd m)).run P w = .ok (kd, m) w := rfl

theorem good_idxAddr (s : ASim B w0 R wr C st w) (f : FSim C n fr a) {t : TypeId} {x i : Operand} (ho : o.op = .indexAddr t x i) (hc : compOp P (.indexAddr t x i) = some io) (h : aop P io fr st k) :
    Good P B w0 R wr C k ((execOp a.eval o).run P w) := by
  simp only [compOp] at hc
  cases h1 : cArg x with
  | none => simp [h1] at hc
  | some ix =>
  cases h2 : cArg i with
  | none => simp [h1, h2] at hc
  | some ii =>
  simp only [h1, h2] at hc
  have hx := arg_vs s.glob f h1
  have hi := arg_vs s.glob f h2
  split at hc
  · rename_i e hu
    obtain ⟨inf, h3, rfl⟩ := map_some hc
    simp only [aop] at h
    split at h
    · rename_i szz id off len kd m hxe hie
      obtain ⟨⟨hm1, hm2⟩, h⟩ := h
      rw [hxe] at hx; rw [hie] at hi
      generalize hrx : a.eval x = rx at hx
      cases hx with
      | sl _ _ _ _ off' cap hid hc' ho' hb =>
      have ho'' : off' = off := by rcases ho' with h' | h' <;> omega
      subst ho''
      have e : (Instr.indexAt t (a.eval x) (a.eval i)).run P w = .ok (.pointer (some ⟨(C.φ id).1, (C.φ id).2 + (off' + m.toNat * inf.size), none⟩)) w := by
        simp only [Instr.indexAt, hrx, hi.int_inv, Sem.run_bind, asInt_run, Result.andThen_ok, run_und hu, Sem.run_pure, hm1, hm2, and_self, if_true, run_size h3, addr_add, Nat.add_assoc]
      unfold execOp; rw [ho]; rw [run_v e]
      exact Good.val s (.ptr _ _ hid) h
    · rename_i szz cs len kd m hxe hie
      obtain ⟨⟨hm1, hm2⟩, h⟩ := h
      rw [hxe] at hx; rw [hie] at hi
      generalize hrx : a.eval x = rx at hx
      cases hx with
      | isl _ _ _ b p cap pp hs hn vs hK hv hc' =>
      have hne : len ≠ 0 := by omega
      have hsp := hs hne
      subst hsp
      have e : (Instr.indexAt t (a.eval x) (a.eval i)).run P w = .ok (.pointer (some ⟨b, p + m.toNat * inf.size, none⟩)) w := by
        simp only [Instr.indexAt, hrx, hi.int_inv, Sem.run_bind, asInt_run, Result.andThen_ok, run_und hu, Sem.run_pure, hm1, hm2, and_self, if_true, run_size h3, addr_add, Nat.add_assoc]
      unfold execOp; rw [ho]; rw [run_v e]
      exact Good.val s (.iptr _ _ _ _ vs (hK hne) (hv hne)) h
    · exact h.elim
  · rename_i len e hu
    obtain ⟨inf, h3, rfl⟩ := map_some hc
    simp only [aop] at h
    split at h
    · rename_i id off kd m hxe hie
      obtain ⟨⟨hm1, hm2⟩, h⟩ := h
      rw [hxe] at hx; rw [hie] at hi
      generalize hrx : a.eval x = rx at hx
      cases hx with
      | ptr _ _ hid =>
      have e : (Instr.indexAt t (a.eval x) (a.eval i)).run P w = .ok (.pointer (some ⟨(C.φ id).1, (C.φ id).2 + (off + m.toNat * inf.size), none⟩)) w := by
        simp only [Instr.indexAt, hrx, hi.int_inv, Sem.run_bind, asInt_run, Result.andThen_ok, run_und hu, Instr.sureAddr, Sem.run_pure, hm1, hm2, and_self, if_true, run_size h3, addr_add, Nat.add_assoc]
      unfold execOp; rw [ho]; rw [run_v e]
      exact Good.val s (.ptr _ _ hid) h
    · rename_i cs off kd m hxe hie
      obtain ⟨⟨hm1, hm2⟩, h⟩ := h
      rw [hxe] at hx; rw [hie] at hi
      generalize hrx : a.eval x = rx at hx
      cases hx with
      | iptr _ _ b p vs hK hv =>
      have e : (Instr.indexAt t (a.eval x) (a.eval i)).run P w = .ok (.pointer (some ⟨b, p + (off + m.toNat * inf.size), none⟩)) w := by
        simp only [Instr.indexAt, hrx, hi.int_inv, Sem.run_bind, asInt_run, Result.andThen_ok, run_und hu, Instr.sureAddr, Sem.run_pure, hm1, hm2, and_self, if_true, run_size h3, addr_add, Nat.add_assoc]
      unfold execOp; rw [ho]; rw [run_v e]
      exact Good.val s (.iptr _ _ _ _ vs hK hv) h
    · exact h.elim
  · cases hc

theorem good_fldAddr (s : ASim B w0 R wr C st w) (f : FSim C n fr a) {t : TypeId} {x : Operand} {j : Nat} (ho : o.op = .fieldAddr t x j) (hc : compOp P (.fieldAddr t x j) = some io) (h : aop P io fr st k) :
    Good P B w0 R wr C k ((execOp a.eval o).run P w) := by
  simp only [compOp] at hc
  split at hc
  · rename_i fs hu
    split at hc
    · rename_i fd hfd
      split at hc
      · rename_i inf hinf
        split at hc
        · rename_i hsz
          obtain ⟨ix, h1, rfl⟩ := map_some hc
          have hx := arg_vs s.glob f h1
          simp only [aop] at h
          split at h
          · rename_i id off hxe
            rw [hxe] at hx
            generalize hrx : a.eval x = rx at hx
            cases hx with
            | ptr _ _ hid =>
            have e : (Instr.fieldAt t (a.eval x) j).run P w = .ok (.pointer (some ⟨(C.φ id).1, (C.φ id).2 + (off + fd.offset), none⟩)) w := by
              simp [Instr.fieldAt, hrx, run_und hu, hfd, Instr.sureAddr, fieldPlace, run_size hinf, hsz, addr_add, Nat.add_assoc]
            unfold execOp; rw [ho]; rw [run_v e]
            exact Good.val s (.ptr _ _ hid) h
          · rename_i cs off hxe
            rw [hxe] at hx
            generalize hrx : a.eval x = rx at hx
            cases hx with
            | iptr _ _ b p vs hK hv =>
            have e : (Instr.fieldAt t (a.eval x) j).run P w = .ok (.pointer (some ⟨b, p + (off + fd.offset), none⟩)) w := by
              simp [Instr.fieldAt, hrx, run_und hu, hfd, Instr.sureAddr, fieldPlace, run_size hinf, hsz, addr_add, Nat.add_assoc]
            unfold execOp; rw [ho]; rw [run_v e]
            exact Good.val s (.iptr _ _ _ _ vs hK hv) h
          · exact h.elim
        · cases hc
      · cases hc
    · cases hc
  · cases hc

theorem agg_part {cs : List AV} {rs : Array Value} (hl : rs.size = cs.length) (hv : ∀ i (h : i < cs.length), VS C cs[i] (rs.getD i undef)) {off sz : Nat} (h : off + sz ≤ cs.length) :
    VS C (.agg ((cs.drop off).take sz)) (.agg (rs.extract off (off + sz))) := by
  refine .agg _ _ (by simp; omega) fun i hi => ?_
  have hi' : i < sz := by simp at hi; omega
  have := hv (off + i) (by omega)
  have h2 : i < (rs.extract off (off + sz)).size := by simp; omega
  have h3 : off + i < rs.size := by omega
  simp only [Array.getD_eq_getD_getElem?, Array.getElem?_eq_getElem h2, Array.getElem?_eq_getElem h3, Option.getD_some] at this ⊢
  simpa using this

theorem good_field (s : ASim B w0 R wr C st w) (f : FSim C n fr a) {t : TypeId} {x : Operand} {j : Nat} (ho : o.op = .field t x j) (hc : compOp P (.field t x j) = some io) (h : aop P io fr st k) :
    Good P B w0 R wr C k ((execOp a.eval o).run P w) := by
  simp only [compOp] at hc
  split at hc
  · rename_i fs hu
    split at hc
    · rename_i fd hfd
      split at hc
      · rename_i inf d hinf hud
        obtain ⟨ix, h1, rfl⟩ := map_some hc
        have hx := arg_vs s.glob f h1
        cases ha : aggB P fd.type with
        | true =>
          simp only [ha, if_true, aop] at h
          split at h
          · rename_i cs hxe
            obtain ⟨hl, h⟩ := h
            rw [hxe] at hx
            generalize hrx : a.eval x = rx at hx
            cases hx with
            | agg _ rs hls hv =>
            have e : (Instr.field t (a.eval x) j).run P w = .ok (.agg (rs.extract fd.offset (fd.offset + inf.size))) w := by
              simp [Instr.field, hrx, run_und hu, hfd, asAgg, part, run_agg hud, ha, run_size hinf]
            unfold execOp; rw [ho]; rw [run_v e]
            exact Good.val s (agg_part hls hv hl) h
          · exact h.elim
        | false =>
          simp only [ha, Bool.false_eq_true, if_false, aop] at h
          split at h
          · rename_i cs hxe
            split at h
            · rename_i v hv0
              rw [hxe] at hx
              generalize hrx : a.eval x = rx at hx
              cases hx with
              | agg _ rs hls hv =>
              have hi : fd.offset < cs.length := by
                rcases Nat.lt_or_ge fd.offset cs.length with h' | h'
                · exact h'
                · rw [List.getElem?_eq_none h'] at hv0; cases hv0
              have hi2 : fd.offset < rs.size := by omega
              have e : (Instr.field t (a.eval x) j).run P w = .ok (rs.getD fd.offset undef) w := by
                simp [Instr.field, hrx, run_und hu, hfd, asAgg, part, run_agg hud, ha, hi2]
              unfold execOp; rw [ho]; rw [run_v e]
              rw [List.getElem?_eq_getElem hi] at hv0
              cases hv0
              exact Good.val s (hv _ hi) h
            · exact h.elim
          · exact h.elim
      · cases hc
    · cases hc
  · cases hc

theorem strAt (s : ByteArray) (i : Nat) : s[i]? = s.data.toList[i]? := by
  rcases Nat.lt_or_ge i s.size with h | h
  · rw [getElem?_pos s i h]
    have h' : i < s.data.toList.length := by simpa using h
    rw [List.getElem?_eq_getElem h']
    rfl
  · rw [getElem?_neg s i (by omega)]
    have h' : s.data.toList.length ≤ i := by simpa using h
    rw [List.getElem?_eq_none h']

theorem good_index (s : ASim B w0 R wr C st w) (f : FSim C n fr a) {t : TypeId} {x i : Operand} (ho : o.op = .index t x i) (hc : compOp P (.index t x i) = some io) (h : aop P io fr st k) :
    Good P B w0 R wr C k ((execOp a.eval o).run P w) := by
  simp only [compOp] at hc
  cases h1 : cArg x with
  | none => simp [h1] at hc
  | some ix =>
  cases h2 : cArg i with
  | none => simp [h1, h2] at hc
  | some ii =>
  simp only [h1, h2] at hc
  have hx := arg_vs s.glob f h1
  have hi := arg_vs s.glob f h2
  split at hc
  · rename_i len el hu
    split at hc
    · rename_i inf d hinf hud
      cases ha : aggB P el with
      | true =>
        simp only [ha, if_true] at hc
        cases hc
        simp only [aop] at h
        split at h
        · rename_i cs kd m hxe hie
          obtain ⟨⟨hm1, hm2, hl⟩, h⟩ := h
          rw [hxe] at hx; rw [hie] at hi
          generalize hrx : a.eval x = rx at hx
          cases hx with
          | agg _ rs hls hv =>
          have e : (Instr.index t (a.eval x) (a.eval i)).run P w = .ok (.agg (rs.extract (m.toNat * inf.size) (m.toNat * inf.size + inf.size))) w := by
            simp [Instr.index, hrx, hi.int_inv, asInt_run, run_und hu, hm1, hm2, run_size hinf, part, run_agg hud, ha]
          unfold execOp; rw [ho]; rw [run_v e]
          exact Good.val s (agg_part hls hv hl) h
        · exact h.elim
      | false =>
        simp only [ha, Bool.false_eq_true, if_false] at hc
        split at hc
        · rename_i hsz
          cases hc
          simp only [aop] at h
          split at h
          · rename_i cs kd m hxe hie
            obtain ⟨⟨hm1, hm2⟩, h⟩ := h
            split at h
            · rename_i v hv0
              rw [hxe] at hx; rw [hie] at hi
              generalize hrx : a.eval x = rx at hx
              cases hx with
              | agg _ rs hls hv =>
              have hii : m.toNat < cs.length := by
                rcases Nat.lt_or_ge m.toNat cs.length with h' | h'
                · exact h'
                · rw [List.getElem?_eq_none h'] at hv0; cases hv0
              have hi2 : m.toNat < rs.size := by omega
              have e : (Instr.index t (a.eval x) (a.eval i)).run P w = .ok (rs.getD m.toNat undef) w := by
                simp [Instr.index, hrx, hi.int_inv, asInt_run, run_und hu, hm1, hm2, run_size hinf, part, run_agg hud, ha, hsz, hi2]
              unfold execOp; rw [ho]; rw [run_v e]
              rw [List.getElem?_eq_getElem hii] at hv0
              cases hv0
              exact Good.val s (hv _ hii) h
            · exact h.elim
          · exact h.elim
        · cases hc
    · cases hc
  · rename_i hu
    cases hc
    simp only [aop] at h
    split at h
    · rename_i bs kd m hxe hie
      obtain ⟨hm1, h⟩ := h
      split at h
      · rename_i b hv0
        rw [hxe] at hx; rw [hie] at hi
        generalize hrx : a.eval x = rx at hx
        cases hx with
        | str s0 _ hbs =>
        subst hbs
        have hb : ∃ c, s0[m.toNat]? = some c ∧ c.toNat = b := by
          simp only [List.getElem?_map, Option.map_eq_some_iff] at hv0
          obtain ⟨c, h1, h2⟩ := hv0
          refine ⟨c, ?_, h2⟩
          rw [← h1]
          exact strAt s0 m.toNat
        obtain ⟨c, hc1, rfl⟩ := hb
        have e : (Instr.index t (a.eval x) (a.eval i)).run P w = .ok (.int .u8 c.toNat) w := by
          simp [Instr.index, hrx, hi.int_inv, asInt_run, run_und hu, hm1, hc1]
        unfold execOp; rw [ho]; rw [run_v e]
        exact Good.val s (.int _ _) h
      · exact h.elim
    · exact h.elim
  · cases hc

end
end Go.Proofs.YtdmfgodajoojpaaGreatDoor.Cn
/- The abstract layer, part 9: the operations on two values, stores, new blocks, calls are sound. -/
set_option linter.unusedSimpArgs false
set_option linter.unusedVariables false
namespace Go.Proofs.YtdmfgodajoojpaaGreatDoor.Cn
open Go Go.RowKit

section
variable {P : Program} {B : Nat} {w0 : World} {R : Nat → Prop} {wr : World} {C : ACx} {st : ASt} {w : World} {k : AV → ASt → Prop} {fr : AFr} {a : Act} {n : Nat} {o : Oper} {io : IOp}

theorem eqGuard_pass {op : BinOp} {t : TypeId} {x y : Operand} {va vb : Value} (h : (∀ cs, va ≠ .agg cs) ∧ va ≠ .nilIface) : (eqGuard op t x y va vb).run P w = .ok () w := by
  unfold eqGuard
  cases op <;> first | rfl | (cases va <;> cases vb <;> first | rfl | exact absurd rfl h.2 | exact absurd rfl (h.1 _))

theorem binOp_eql {t : TypeId} {x y : Value} (h : (∀ k n, x ≠ .int k n) ∧ (∀ k n, x ≠ .float k n) ∧ (∀ k a b, x ≠ .complex k a b) ∧ ∀ s, x ≠ .string s) :
    Go.binOp .eql t x y = (do pure (.bool (← Op.equal t x y))) := by
  obtain ⟨h1, h2, h3, h4⟩ := h
  cases x <;> first | exact absurd rfl (h1 _ _) | exact absurd rfl (h2 _ _) | exact absurd rfl (h3 _ _ _) | exact absurd rfl (h4 _) | rfl

theorem binOp_neq {t : TypeId} {x y : Value} (h : (∀ k n, x ≠ .int k n) ∧ (∀ k n, x ≠ .float k n) ∧ (∀ k a b, x ≠ .complex k a b) ∧ ∀ s, x ≠ .string s) :
    Go.binOp .neq t x y = (do pure (.bool (!(← Op.equal t x y)))) := by
  obtain ⟨h1, h2, h3, h4⟩ := h
  cases x <;> first | exact absurd rfl (h1 _ _) | exact absurd rfl (h2 _ _) | exact absurd rfl (h3 _ _ _) | exact absurd rfl (h4 _) | rfl

theorem equal_bool {t : TypeId} (ht : P.underlying t = some .bool) (x y : Bool) (w : World) : (Op.equal t (.bool x) (.bool y)).run P w = .ok (decide (x = y)) w := by
  have : ∀ m, (Op.equalIn (m + 1) t (.bool x) (.bool y)).run P w = .ok (decide (x = y)) w := by
    intro m
    unfold Op.equalIn
    simp only [Sem.run_bind, run_und ht, Result.andThen_ok, Sem.run_pure]
    cases x <;> cases y <;> rfl
  exact this 9999

theorem nilShape {kind : Nat} {x : AV} {rx : Value} (h : VS C x rx) {b : Bool} (hb : x.isNil kind = some b) :
    ((∀ k n, rx ≠ .int k n) ∧ (∀ k n, rx ≠ .float k n) ∧ (∀ k a b, rx ≠ .complex k a b) ∧ ∀ s, rx ≠ .string s) ∧ (∀ cs, rx ≠ .agg cs) ∧ rx ≠ .nilIface := by
  rcases isNil_vs h hb with ⟨_, p, rfl, _⟩ | ⟨_, p, l, c, rfl, _⟩ | ⟨_, p, rfl, _⟩ | ⟨_, ⟨_, rfl⟩ | ⟨_, f, u, v, rfl⟩⟩ <;> simp

theorem good_minmax (s : ASim B w0 R wr C st w) (f : FSim C n fr a) {c : Call} {x y : Operand} {mx : Bool} (ho : o.op = .call c) (hcal : c.callee = .builtin (if mx then .max else .min))
    (hargs : c.args.toList = [x, y]) {ix iy : IArg} (h1 : cArg x = some ix) (h2 : cArg y = some iy) (h : aop P (.minmax mx ix iy) fr st k) :
    Good P B w0 R wr C k ((execOp a.eval o).run P w) := by
  simp only [aop] at h
  have hx := arg_vs s.glob f h1
  have hy := arg_vs s.glob f h2
  split at h
  · rename_i kd p kd' q hp hq
    obtain ⟨rfl, h⟩ := h
    rw [hp] at hx; rw [hq] at hy
    have ha : c.args.map a.eval = #[.int kd p, .int kd q] := by
      apply Array.ext'
      simp [hargs, hx.int_inv, hy.int_inv]
    have e : (execOp a.eval o).run P w = .ok (.value (.int kd (if mx then (if p < q then q else p) else (if q < p then q else p)))) w := by
      unfold execOp; rw [ho]
      simp only [resolve, hcal, Sem.run_bind, Sem.run_pure, Result.andThen_ok, invoke, ha]
      cases mx
      · simp [builtin, Builtin.min_, Builtin.min2]
      · simp [builtin, Builtin.max_, Builtin.max2]
    rw [e]
    exact Good.val s (.int _ _) h
  · exact h.elim

theorem good_len (s : ASim B w0 R wr C st w) (f : FSim C n fr a) {c : Call} {x : Operand} {t e : TypeId} (ho : o.op = .call c) (hcal : c.callee = .builtin .len)
    (hargs : c.args.toList = [x]) (hts : c.argTypes.toList = [t]) (hu : P.underlying t = some (.slice e)) {ix : IArg} (h1 : cArg x = some ix) (h : aop P (.len ix) fr st k) :
    Good P B w0 R wr C k ((execOp a.eval o).run P w) := by
  simp only [aop] at h
  have hx := arg_vs s.glob f h1
  split at h
  · rename_i m hm
    obtain ⟨p, cc, hp⟩ := slen_vs hx hm
    have ha : c.args.map a.eval = #[.slice p m cc] := by
      apply Array.ext'
      simp [hargs, hp]
    have hts' : c.argTypes = #[t] := Array.ext' hts
    have e : (execOp a.eval o).run P w = .ok (.value (.int .i64 m)) w := by
      unfold execOp; rw [ho]
      simp [resolve, hcal, invoke, ha, builtin, Builtin.len_, hts', run_und hu, goInt]
    rw [e]
    exact Good.val s (.int _ _) h
  · exact h.elim

theorem map_at (s : ASim B w0 R wr C st w) {id : Nat} {es : List (Int × AV)} (h : st.h id = some (.map es)) :
    ∃ rs, w.heap[(C.φ id).1]? = some (.map rs es.length) ∧ rs.size = es.length ∧
      ∀ i (h : i < es.length), (rs.getD i default).key = .int .i64 es[i].1 ∧ VS C es[i].2 (rs.getD i default).val ∧ (rs.getD i default).born = i := s.obj id _ h

theorem run_getMap {b : Nat} {rs : Array MapEntry} {c : Nat} (h : w.heap[b]? = some (.map rs c)) : (getObj b).run P w = .ok (.map rs c) w := by
  simp [getObj, Sem.run, h]

theorem good_mlen (s : ASim B w0 R wr C st w) (f : FSim C n fr a) {c : Call} {x : Operand} {t kt e : TypeId} (ho : o.op = .call c) (hcal : c.callee = .builtin .len)
    (hargs : c.args.toList = [x]) (hts : c.argTypes.toList = [t]) (hu : P.underlying t = some (.map kt e)) {ix : IArg} (h1 : cArg x = some ix) (h : aop P (.mlen ix) fr st k) :
    Good P B w0 R wr C k ((execOp a.eval o).run P w) := by
  simp only [aop] at h
  have hx := arg_vs s.glob f h1
  have hts' : c.argTypes = #[t] := Array.ext' hts
  split at h
  · rename_i m hm
    have ha : c.args.map a.eval = #[a.eval x] := by
      apply Array.ext'
      simp [hargs]
    have key : ∃ rv, a.eval x = rv ∧ (Builtin.len_ #[t] o.type #[rv]).run P w = .ok (.int .i64 m) w := by
      refine ⟨_, rfl, ?_⟩
      generalize a.eval x = rx at hx
      generalize fr.val ix = av at hx hm
      cases hx <;> simp only [amlen] at hm <;> try (cases hm; done)
      · simp [Builtin.len_, run_und hu, goInt] at hm ⊢; exact hm
      · split at hm
        · rename_i es hes
          cases hm
          obtain ⟨rs, r1, r2, _⟩ := map_at s hes
          simp [Builtin.len_, run_und hu, goInt, run_getMap r1, r2]
        · cases hm
    obtain ⟨rv, e1, e2⟩ := key
    have e : (execOp a.eval o).run P w = .ok (.value (.int .i64 m)) w := by
      unfold execOp; rw [ho]
      simp only [resolve, hcal, Sem.run_bind, Sem.run_pure, Result.andThen_ok, invoke, ha, builtin, hts']
      rw [e1, e2]; rfl
    rw [e]
    exact Good.val s (.int _ _) h
  · exact h.elim

theorem good_skip {C' : ACx} {st' : ASt} {w' : World} (hC : C.le C') (s : ASim B w0 R wr C' st' w') (h : k (.tup []) st') : Good P B w0 R wr C k (.ok .skip w') :=
  ⟨C', st', hC, s, h⟩

theorem good_store (s : ASim B w0 R wr C st w) (f : FSim C n fr a) {t : TypeId} {x y : Operand} (ho : o.op = .store t x y) (hc : compOp P (.store t x y) = some io) (h : aop P io fr st k) :
    Good P B w0 R wr C k ((execOp a.eval o).run P w) := by
  simp only [compOp] at hc
  split at hc
  · rename_i inf d hi hu
    cases h1 : cArg x with
    | none => simp [h1] at hc
    | some ix =>
    cases h2 : cArg y with
    | none => simp [h1, h2] at hc
    | some iy =>
    simp only [h1, h2] at hc
    have hx := arg_vs s.glob f h1
    have hy := arg_vs s.glob f h2
    cases ha : aggB P t with
    | true =>
      simp only [ha, if_true] at hc
      cases hc
      simp only [aop] at h
      split at h
      · rename_i id off vs hxe hye
        split at h
        · rename_i cs hh
          obtain ⟨⟨hl1, hl2, hl3⟩, h⟩ := h
          rw [hxe] at hx; rw [hye] at hy
          generalize hrx : a.eval x = rx at hx
          generalize hry : a.eval y = ry at hy
          cases hx with
          | ptr _ _ hid =>
          cases hy with
          | agg _ rs hls hv =>
          obtain ⟨w', r1, s1⟩ := storeCells_sound (P := P) vs rs.toList 0 off cs st w id s hh (by omega) (by simpa using hls) hl2 (fun j hj => by
            have := hv j hj; simpa [List.getD_eq_getElem?_getD, Array.getD_eq_getD_getElem?] using this)
          have e : (Instr.storeAt t (a.eval x) (a.eval y)).run P w = .ok () w' := by
            simp [Instr.storeAt, hrx, hry, Instr.sureAddr, storeVar, Value.cells, run_size hi, hls, hl1, r1]
          unfold execOp; rw [ho]; rw [run_u e]
          exact good_skip (.refl C) s1 (by simpa using h)
        · exact h.elim
      · exact h.elim
    | false =>
      simp only [ha, Bool.false_eq_true, if_false] at hc
      split at hc
      · rename_i hsz
        cases hc
        simp only [aop] at h
        split at h
        · rename_i id off hxe
          split at h
          · rename_i cs hh
            obtain ⟨⟨hlf, hl⟩, h⟩ := h
            rw [hxe] at hx
            generalize hrx : a.eval x = rx at hx
            cases hx with
            | ptr _ _ hid =>
            obtain ⟨w', r1, s1⟩ := store_sound (P := P) s hh hl hy hlf
            have hone := hy.leaf hlf
            have hcells : (a.eval y).cells = #[a.eval y] := by
              generalize a.eval y = ry at hone
              cases ry <;> first | rfl | (simp [Value.oneCell'] at hone)
            have e : (Instr.storeAt t (a.eval x) (a.eval y)).run P w = .ok () w' := by
              simp [Instr.storeAt, hrx, Instr.sureAddr, storeVar, hcells, run_size hi, hsz, storeCells, Addr.add, r1]
            unfold execOp; rw [ho]; rw [run_u e]
            exact good_skip (.refl C) s1 h
          · exact h.elim
        · exact h.elim
      · cases hc
  · cases hc

theorem alloc_cells (s : ASim B w0 R wr C st w) (t : TypeId) (cs : List AV) (rs : Array Value) (hl : cs.length ≤ rs.size) (hv : ∀ i (h : i < cs.length), VS C cs[i] (rs.getD i undef)) :
    ASim B w0 R wr (C.push (w.heap.size, 0) rs.size) (st.new C.N (.cells cs)) { w with heap := w.heap.push (.cells rs t) } := by
  refine s.alloc _ _ _ ⟨by rw [C.push_bs]; exact hl, rs, t, by rw [C.push_φ]; exact heap_push_eq _ _, by rw [C.push_φ, C.push_bs]; simp, fun i hi => ?_⟩
  rw [C.push_φ]
  simpa using (hv i hi).mono (C.push_le _ _)

theorem good_new (s : ASim B w0 R wr C st w) (t : TypeId) (cs : List AV) (rs : Array Value) (hl : cs.length ≤ rs.size) (hv : ∀ i (h : i < cs.length), VS C cs[i] (rs.getD i undef))
    (h : ∀ id, st.h id = none → k (.ptr id 0) (st.new id (.cells cs))) : Good P B w0 R wr C k (.ok (.value (.pointer (some ⟨w.heap.size, 0, none⟩))) { w with heap := w.heap.push (.cells rs t) }) := by
  refine ⟨_, _, _, C.push_le _ _, alloc_cells s t cs rs hl hv, ?_, h _ s.fresh⟩
  have := VS.ptr (C := C.push (w.heap.size, 0) rs.size) C.N 0 (by rw [C.push_N]; omega)
  rw [C.push_φ] at this
  exact this

theorem zc_spec {t : TypeId} {zs : List AV} (h : zc P t = some zs) (C : ACx) : ∃ i z, P.info? t = some i ∧ i.zero = some z ∧ z.cells.size = zs.length ∧ ∀ j (h : j < zs.length), VS C zs[j] (z.cells.getD j undef) := by
  unfold zc at h
  split at h
  · rename_i i hi
    split at h
    · rename_i z hz
      obtain ⟨h1, _, h3⟩ := cvs_vs C h
      refine ⟨i, z, hi, hz, by simpa using h1, fun j hj => ?_⟩
      have := h3 j hj
      simpa [List.getD_eq_getElem?_getD, Array.getD_eq_getD_getElem?] using this
    · cases h
  · cases h

theorem good_alloc (s : ASim B w0 R wr C st w) (f : FSim C n fr a) {t : TypeId} (ho : o.op = .alloc t) (hc : compOp P (.alloc t) = some io) (h : aop P io fr st k) :
    Good P B w0 R wr C k ((execOp a.eval o).run P w) := by
  obtain ⟨zs, h1, rfl⟩ := map_some hc
  obtain ⟨i, z, hi, hz, hl, hv⟩ := zc_spec h1 C
  have e : (Instr.alloc t true (.tuple #[])).run P w = .ok (.pointer (some ⟨w.heap.size, 0, none⟩)) { w with heap := w.heap.push (.cells z.cells t) } := by
    simp [Instr.alloc, run_zero hi hz, newVar, newRow]
  unfold execOp; rw [ho]; rw [run_v e]
  exact good_new s t zs z.cells (by omega) hv h

theorem good_box (s : ASim B w0 R wr C st w) (f : FSim C n fr a) {t : TypeId} {x : Operand} (ho : o.op = .box t x) (hc : compOp P (.box t x) = some io) (h : aop P io fr st k) :
    Good P B w0 R wr C k ((execOp a.eval o).run P w) := by
  simp only [compOp] at hc
  split at hc
  · obtain ⟨ix, h1, rfl⟩ := map_some hc
    have hx := arg_vs s.glob f h1
    have e : ∀ rv, (Instr.box t rv).run P w = .ok (.pointer (some ⟨w.heap.size, 0, none⟩)) { w with heap := w.heap.push (.cells rv.cells t) } := by
      intro rv; simp [Instr.box, newVar, newRow]
    unfold execOp; rw [ho]; rw [run_v (e _)]
    split at h
    · simp only [aop] at h
      split at h
      · rename_i cs hcs
        rw [hcs] at hx
        generalize hrx : a.eval x = rx at hx
        cases hx with
        | agg _ rs hl hv => exact good_new s t cs rs (by omega) hv h
      · exact h.elim
    · simp only [aop] at h
      obtain ⟨hlf, h⟩ := h
      have hone := hx.leaf hlf
      have hcells : (a.eval x).cells = #[a.eval x] := by
        generalize a.eval x = ry at hone
        cases ry <;> first | rfl | (simp [Value.oneCell'] at hone)
      rw [hcells]
      refine good_new s t [fr.val ix] #[a.eval x] (by simp) (fun i hi => ?_) h
      have : i = 0 := by simpa using hi
      subst this
      simpa using hx
  · cases hc

theorem good_makeFunc (s : ASim B w0 R wr C st w) (f : FSim C n fr a) {g : FuncId} {first cap : Array Operand} (ho : o.op = .makeFunc (.func g) first cap) (hc : compOp P (.makeFunc (.func g) first cap) = some io)
    (h : aop P io fr st k) : Good P B w0 R wr C k ((execOp a.eval o).run P w) := by
  simp only [compOp] at hc
  split at hc
  · rename_i h0
    obtain ⟨il, h1, rfl⟩ := map_some hc
    obtain ⟨h2, h3⟩ := args_vs s.glob f h1
    have hf : first = #[] := Array.eq_empty_of_size_eq_zero h0
    have e : (execOp a.eval o).run P w = .ok (.value (.func (.func g) #[] (cap.map a.eval))) w := by
      unfold execOp; rw [ho]; simp [Instr.makeFunc, hf]
    rw [e]
    refine Good.val s (.fn g _ _ (by simpa using h2) fun i hi => ?_) h
    have := h3 i hi
    simpa [List.getD_eq_getElem?_getD, Array.getD_eq_getD_getElem?] using this
  · cases hc

theorem hasBody_spec {g : Nat} (h : hasBody P g = true) : ∃ fn, P.funcs[g]? = some fn ∧ fn.body.isNone = false ∧ (fn.name == "runtime.NumGoroutine") = false := by
  unfold hasBody at h
  split at h
  · rename_i fn hf
    refine ⟨fn, hf, ?_, ?_⟩
    · simp at h; cases hb : fn.body with
      | none => simp [hb] at h
      | some b => rfl
    · simp at h; simpa using h.2
  · cases h

theorem run_callFunc {g : Nat} (h : hasBody P g = true) (vs : Array Value) : (callFunc g vs).run P w = .ok (.enter g vs) w := by
  obtain ⟨fn, h1, h2, h3⟩ := hasBody_spec h
  simp only [callFunc, Sem.run_bind, run_program, Result.andThen_ok, h1, h3, Bool.false_eq_true, if_false, h2]
  rfl

theorem good_enter (s : ASim B w0 R wr C st w) {g : Nat} {args : List AV} {vs : Array Value} (hs : vs.size = args.length) (hv : ∀ i (h : i < args.length), VS C args[i] (vs.getD i undef))
    (h : ACalls P g args st k) : Good P B w0 R wr C k (.ok (.enter g vs) w) := h B w0 R wr C w vs s hs hv

theorem good_call (s : ASim B w0 R wr C st w) (f : FSim C n fr a) {c : Call} {g : FuncId} (ho : o.op = .call c) (hcal : c.callee = .value (.func g)) {il : List IArg} (h1 : cArgs c.args.toList = some il)
    (hb : hasBody P g = true) (h : aop P (.call g il) fr st k) : Good P B w0 R wr C k ((execOp a.eval o).run P w) := by
  obtain ⟨h2, h3⟩ := args_vs s.glob f h1
  have e : (execOp a.eval o).run P w = .ok (.enter g (c.args.map a.eval)) w := by
    unfold execOp; rw [ho]
    simp [resolve, hcal, Act.eval, Deferred.ofValue, invoke, run_callFunc hb]
  rw [e]
  refine good_enter s (by simpa using h2) (fun i hi => ?_) h
  have := h3 i hi
  simpa [List.getD_eq_getElem?_getD, Array.getD_eq_getD_getElem?] using this

theorem good_callv (s : ASim B w0 R wr C st w) (f : FSim C n fr a) {c : Call} {t : Nat} (ho : o.op = .call c) (hcal : c.callee = .value (.tmp t)) {il : List IArg} (h1 : cArgs c.args.toList = some il)
    (h : aop P (.callv (.slot t) il) fr st k) : Good P B w0 R wr C k ((execOp a.eval o).run P w) := by
  obtain ⟨h2, h3⟩ := args_vs s.glob f h1
  simp only [aop] at h
  split at h
  · rename_i g cap hg
    obtain ⟨hb, h⟩ := h
    have hx := arg_vs s.glob f (o := .tmp t) (ia := .slot t) rfl
    rw [hg] at hx
    generalize hrx : a.eval (.tmp t) = rx at hx
    cases hx with
    | fn _ _ vs hl hv =>
    have e : (execOp a.eval o).run P w = .ok (.enter g (c.args.map a.eval ++ vs)) w := by
      unfold execOp; rw [ho]
      simp [resolve, hcal, hrx, Deferred.ofValue, invoke, run_callFunc hb]
    rw [e]
    have hl2 : (c.args.map a.eval).size = (fr.vals il).length := by simpa using h2
    refine good_enter s (by simp only [Array.size_append, List.length_append, hl2, hl]) (fun i hi => ?_) h
    by_cases hi' : i < (fr.vals il).length
    · have := h3 i hi'
      rw [List.getElem_append_left hi']
      simp only [Array.getD_eq_getD_getElem?, Array.getElem?_append_left (show i < (c.args.map a.eval).size by omega)]
      simpa [List.getD_eq_getElem?_getD, Array.getD_eq_getD_getElem?] using this
    · have hi2 : i - (fr.vals il).length < cap.length := by simp at hi; omega
      have := hv _ hi2
      rw [List.getElem_append_right (by omega)]
      simp only [Array.getD_eq_getD_getElem?, Array.getElem?_append_right (show (c.args.map a.eval).size ≤ i by omega), hl2]
      simpa [Array.getD_eq_getD_getElem?] using this
  · exact h.elim

end
end Go.Proofs.YtdmfgodajoojpaaGreatDoor.Cn
/- The abstract layer, part 10: aggregates, slices, append. -/
set_option linter.unusedSimpArgs false
set_option linter.unusedVariables false
namespace Go.Proofs.YtdmfgodajoojpaaGreatDoor.Cn
open Go Go.RowKit

section
variable {P : Program} {B : Nat} {w0 : World} {R : Nat → Prop} {wr : World} {C : ACx} {st : ASt} {w : World} {k : AV → ASt → Prop} {fr : AFr} {a : Act} {n : Nat} {o : Oper} {io : IOp}

def RowSim (C : ACx) (cs : List AV) (rs : Array Value) : Prop := rs.size = cs.length ∧ ∀ i (h : i < cs.length), VS C cs[i] (rs.getD i undef)

def rput (cells : Array Value) (off : Nat) : List Value → Array Value
  | [] => cells
  | v :: vs => rput (cells.setIfInBounds off v) (off + 1) vs

theorem foldl_rput (off : Nat) : ∀ (l : List Value) (j : Nat) (cells : Array Value), (l.zipIdx j).foldl (fun cs (x : Value × Nat) => cs.setIfInBounds (off + x.2) x.1) cells = rput cells (off + j) l
  | [], _, _ => rfl
  | v :: vs, j, cells => by
    simp only [List.zipIdx_cons, List.foldl_cons, rput]
    exact foldl_rput off vs (j + 1) _

theorem rput_sim : ∀ (vs : List AV) (rs : List Value) (off : Nat) (cs : List AV) (cells : Array Value), RowSim C cs cells → rs.length = vs.length → (∀ j (h : j < vs.length), VS C vs[j] (rs.getD j undef)) →
    off + vs.length ≤ cs.length → RowSim C (putN cs off vs) (rput cells off rs)
  | [], rs, off, cs, cells, h, hr, _, _ => by
    have : rs = [] := by simpa using hr
    subst this; exact h
  | v :: vs, rs, off, cs, cells, h, hr, hv, hl => by
    match rs, hr with
    | r :: rs, hr =>
      simp at hr hl
      refine rput_sim vs rs (off + 1) (cs.set off v) (cells.setIfInBounds off r) ⟨by simpa using h.1, fun i hi => ?_⟩ hr (fun j hj => hv (j + 1) (by simpa using hj)) (by simp; omega)
      rw [getD_set _ _ _ _ (by rw [h.1]; omega)]
      by_cases e : off = i
      · subst e; have := hv 0 (by simp); simpa using this
      · rw [if_neg e]; have := h.2 i (by simpa using hi); simpa [List.getElem_set_ne e] using this

theorem part_sim {x : AV} {rx : Value} {vs : List AV} (h : VS C x rx) (hp : x.part = some vs) : RowSim C vs rx.cells := by
  have one : ∀ {y : AV} {ry : Value}, VS C y ry → ry.cells = #[ry] → RowSim C [y] ry.cells := by
    intro y ry hy e
    rw [e]
    refine ⟨rfl, fun i hi => ?_⟩
    have : i = 0 := by simpa using hi
    subst this
    simpa using hy
  cases h <;> simp only [AV.part] at hp <;> cases hp
  case agg rs hl hv => exact ⟨hl, hv⟩
  all_goals (refine one ?_ rfl; constructor <;> assumption)

theorem fill_sound (place : Nat → Option (Nat × Nat)) : ∀ (parts : List (Nat × Value)) (ap : List (Nat × Nat × AV)) (cs out : List AV) (cells : Array Value), RowSim C cs cells → aput cs ap = some out →
    ap.length = parts.length → (∀ j (h : j < ap.length) (h' : j < parts.length), place (parts[j]).1 = some ((ap[j]).1, (ap[j]).2.1) ∧ VS C (ap[j]).2.2 (parts[j]).2) →
    ∃ res, Instr.fill place cells parts = some res ∧ RowSim C out res
  | [], ap, cs, out, cells, h, ho, hl, _ => by
    have : ap = [] := by simpa using hl
    subst this
    cases ho
    exact ⟨cells, rfl, h⟩
  | (i, v) :: parts, ap, cs, out, cells, h, ho, hl, hj => by
    match ap, hl with
    | (off, sz, x) :: ap, hl =>
      obtain ⟨h1, h2⟩ := hj 0 (by simp) (by simp)
      simp only [List.getElem_cons_zero] at h1 h2
      simp only [aput] at ho
      split at ho
      · rename_i vs hvs
        split at ho
        · rename_i hc
          obtain ⟨c1, c2⟩ := hc
          have hrow := part_sim h2 hvs
          have hstep := rput_sim (C := C) vs v.cells.toList off cs cells h (by simpa using hrow.1) (fun j hj => by
            have := hrow.2 j hj; simpa [List.getD_eq_getElem?_getD, Array.getD_eq_getD_getElem?] using this) (by omega)
          obtain ⟨res, r1, r2⟩ := fill_sound place parts ap (putN cs off vs) out _ hstep ho (by simpa using hl) (fun j ha hb => hj (j + 1) (by simpa using ha) (by simpa using hb))
          refine ⟨res, ?_, r2⟩
          have hsz : v.cells.size = sz := by rw [hrow.1]; exact c1
          have hb : ¬ (cells.size < off + sz) := by rw [h.1]; omega
          simp only [Instr.fill, h1, hsz, ne_eq, not_true_eq_false, decide_false, Bool.false_or, gt_iff_lt, decide_eq_true_eq, hb, if_false]
          have hfold : Array.foldl (fun cs (x : Value × Nat) => cs.setIfInBounds (off + x.2) x.1) cells v.cells.zipIdx = rput cells off v.cells.toList := by
            have := foldl_rput off v.cells.toList 0 cells
            simp only [Nat.add_zero] at this
            rw [← this, ← Array.foldl_toList, Array.toList_zipIdx]
          rw [hfold]
          exact r1
        · cases ho
      · cases ho

theorem infos_run : ∀ (fs : List Field), infosOk P fs = true → (fs.mapM (fun f => do pure (f.offset, ← Go.sizeOf f.type) : Field → Sem (Nat × Nat))).run P w = .ok (fs.map fun f => (f.offset, P.cellsOf f.type)) w
  | [], _ => rfl
  | f :: r, h => by
    simp [infosOk] at h
    obtain ⟨i, hi⟩ := Option.isSome_iff_exists.1 h.1
    have ih := infos_run r h.2
    simp only [List.mapM_cons, Sem.run_bind, run_size hi, Result.andThen_ok, Sem.run_pure, ih, List.map_cons]
    simp [Program.cellsOf, hi]

theorem partsStruct_spec {fs : Array Field} (gl : Glob C) (f : FSim C n fr a) : ∀ {l : List (Nat × Operand)} {ps : List (Nat × Nat × IArg)}, partsStruct P fs l = some ps →
    ps.length = l.length ∧ ∀ j (h : j < ps.length) (h' : j < l.length), ((fs.map fun f => (f.offset, P.cellsOf f.type))[(l[j]).1]? : Option (Nat × Nat)) = some ((ps[j]).1, (ps[j]).2.1) ∧ VS C (fr.val (ps[j]).2.2) (a.eval (l[j]).2)
  | [], ps, h => by cases h; exact ⟨rfl, fun j h => absurd h (by simp)⟩
  | (i, x) :: r, ps, h => by
    simp only [partsStruct] at h
    cases h1 : fs[i]? with
    | none => simp [h1] at h
    | some fd =>
    cases h2 : P.info? fd.type with
    | none => simp [h1, h2] at h
    | some inf =>
    cases h3 : cArg x with
    | none => simp [h1, h2, h3] at h
    | some ix =>
    cases h4 : partsStruct P fs r with
    | none => simp [h1, h2, h3, h4] at h
    | some rest =>
    simp [h1, h2, h3, h4] at h
    subst h
    obtain ⟨i1, i2⟩ := partsStruct_spec gl f h4
    refine ⟨by simp [i1], fun j hj hj' => ?_⟩
    cases j with
    | zero => simpa [h1, Program.cellsOf, h2] using arg_vs gl f h3
    | succ j => simpa using i2 j (by simpa using hj) (by simpa using hj')

theorem partsRow_spec {sz : Nat} (gl : Glob C) (f : FSim C n fr a) : ∀ {l : List (Nat × Operand)} {ps : List (Nat × Nat × IArg)}, partsRow sz l = some ps →
    ps.length = l.length ∧ ∀ j (h : j < ps.length) (h' : j < l.length), some ((l[j]).1 * sz, sz) = some ((ps[j]).1, (ps[j]).2.1) ∧ VS C (fr.val (ps[j]).2.2) (a.eval (l[j]).2)
  | [], ps, h => by cases h; exact ⟨rfl, fun j h => absurd h (by simp)⟩
  | (i, x) :: r, ps, h => by
    simp only [partsRow] at h
    cases h3 : cArg x with
    | none => simp [h3] at h
    | some ix =>
    cases h4 : partsRow sz r with
    | none => simp [h3, h4] at h
    | some rest =>
    simp [h3, h4] at h
    subst h
    obtain ⟨i1, i2⟩ := partsRow_spec gl f h4
    refine ⟨by simp [i1], fun j hj hj' => ?_⟩
    cases j with
    | zero => simpa using arg_vs gl f h3
    | succ j => simpa using i2 j (by simpa using hj) (by simpa using hj')

theorem toList_map_pair (parts : Array (Nat × Operand)) : (parts.map fun (i, x) => (i, a.eval x)).toList = parts.toList.map fun (p : Nat × Operand) => (p.1, a.eval p.2) := by simp

theorem good_build (s : ASim B w0 R wr C st w) (f : FSim C n fr a) {t : TypeId} {parts : Array (Nat × Operand)} (ho : o.op = .build t parts) (hc : compOp P (.build t parts) = some io) (h : aop P io fr st k) :
    Good P B w0 R wr C k ((execOp a.eval o).run P w) := by
  simp only [compOp] at hc
  split at hc
  · rename_i zs hzs
    obtain ⟨i, z, hi, hz, hl, hv⟩ := zc_spec hzs C
    split at hc
    · rename_i fs hu
      split at hc
      · rename_i hinf
        obtain ⟨ps, h1, rfl⟩ := map_some hc
        obtain ⟨p1, p2⟩ := partsStruct_spec (C := C) s.glob f h1
        simp only [aop] at h
        split at h
        · rename_i cs hcs
          obtain ⟨res, r1, r2⟩ := fill_sound (C := C) (fun i => (fs.map fun f => (f.offset, P.cellsOf f.type))[i]?) (parts.toList.map fun p => (p.1, a.eval p.2)) _ zs cs z.cells ⟨hl, hv⟩ hcs (by simp [p1])
            (fun j ha hb => by simp only [List.getElem_map]; exact p2 j (by simpa using ha) (by simpa using hb))
          have e : (Instr.build t (parts.map fun (i, x) => (i, a.eval x))).run P w = .ok (.agg res) w := by
            have em : (fs.mapM (fun f => do pure (f.offset, ← Go.sizeOf f.type) : Field → Sem (Nat × Nat))).run P w = .ok (fs.map fun f => (f.offset, P.cellsOf f.type)) w := by
              rw [Array.mapM_eq_mapM_toList]
              simp only [Sem.run_map, infos_run _ hinf, Result.andThen_ok]
              rw [← Array.toList_map]
            simp only [Instr.build, Sem.run_bind, run_zero hi hz, Result.andThen_ok, run_und hu, em, toList_map_pair, r1, Sem.run_pure]
          unfold execOp; rw [ho]; rw [run_v e]
          exact Good.val s (.agg _ _ r2.1 r2.2) h
        · exact h.elim
      · cases hc
    · rename_i len e hu
      split at hc
      · rename_i inf hinf
        obtain ⟨ps, h1, rfl⟩ := map_some hc
        obtain ⟨p1, p2⟩ := partsRow_spec (C := C) s.glob f h1
        simp only [aop] at h
        split at h
        · rename_i cs hcs
          obtain ⟨res, r1, r2⟩ := fill_sound (C := C) (fun i => some (i * inf.size, inf.size)) (parts.toList.map fun p => (p.1, a.eval p.2)) _ zs cs z.cells ⟨hl, hv⟩ hcs (by simp [p1])
            (fun j ha hb => by simp only [List.getElem_map]; exact p2 j (by simpa using ha) (by simpa using hb))
          have e : (Instr.build t (parts.map fun (i, x) => (i, a.eval x))).run P w = .ok (.agg res) w := by
            simp only [Instr.build, Sem.run_bind, run_zero hi hz, Result.andThen_ok, run_und hu, run_size hinf, toList_map_pair, r1, Sem.run_pure]
          unfold execOp; rw [ho]; rw [run_v e]
          exact Good.val s (.agg _ _ r2.1 r2.2) h
        · exact h.elim
      · cases hc
    · cases hc
  · cases hc

theorem zeros_length (zs : List AV) (m : Nat) : (zeros zs m).length = m * zs.length := by
  induction m with
  | zero => simp [zeros]
  | succ m ih => simp [zeros, ih, Nat.succ_mul, Nat.add_comm]

theorem zeros_get (zs : List AV) : ∀ (m i : Nat) (h : i < (zeros zs m).length) (h2 : i % zs.length < zs.length), (zeros zs m)[i] = zs[i % zs.length]
  | 0, i, h, _ => by simp [zeros] at h
  | m + 1, i, h, h2 => by
    simp only [zeros]
    by_cases hi : i < zs.length
    · rw [List.getElem_append_left hi]
      congr 1
      exact (Nat.mod_eq_of_lt hi).symm
    · have hm : (i - zs.length) % zs.length = i % zs.length := by
        conv => rhs; rw [show i = i - zs.length + zs.length by omega, Nat.add_mod_right]
      rw [List.getElem_append_right (by omega), zeros_get zs m (i - zs.length) (by simp [zeros] at h; omega) (by rw [hm]; exact h2)]
      congr 1

theorem zeros_sim {zs : List AV} {z : Array Value} (hl : z.size = zs.length) (hv : ∀ j (h : j < zs.length), VS C zs[j] (z.getD j undef)) (hp : 0 < zs.length) (m : Nat) :
    RowSim C (zeros zs m) ((Array.range (m * zs.length)).map (z[· % z.size]!)) := by
  refine ⟨by simp [zeros_length], fun i hi => ?_⟩
  have hlt := Nat.mod_lt i hp
  rw [zeros_get _ _ _ _ hlt]
  have := hv _ hlt
  have hi' : i < m * zs.length := by simpa [zeros_length] using hi
  have hz : i % zs.length < z.size := by omega
  simpa [Array.getD_eq_getD_getElem?, hi', hl, getElem!_pos, hz, hlt] using this

theorem good_newSlice (s : ASim B w0 R wr C st w) (t : TypeId) {cs : List AV} {rs : Array Value} (hr : RowSim C cs rs) {sz len cap : Nat} (hc : len ≤ cap) (hb : cap * sz ≤ rs.size)
    (h : ∀ id, st.h id = none → k (.sl sz id 0 len) (st.new id (.cells cs))) : Good P B w0 R wr C k (.ok (.value (.slice (some ⟨w.heap.size, 0, none⟩) len cap)) { w with heap := w.heap.push (.cells rs t) }) := by
  refine ⟨_, _, _, C.push_le _ _, alloc_cells s t cs rs (by rw [hr.1]; omega) hr.2, ?_, h _ s.fresh⟩
  have := VS.sl (C := C.push (w.heap.size, 0) rs.size) sz C.N 0 len 0 cap (by rw [C.push_N]; omega) hc (.inr rfl) (by rw [C.push_bs]; omega)
  rw [C.push_φ] at this
  exact this

theorem good_buildSlice (s : ASim B w0 R wr C st w) (f : FSim C n fr a) {t : TypeId} {len : Nat} {parts : Array (Nat × Operand)} (ho : o.op = .buildSlice t len parts) (hc : compOp P (.buildSlice t len parts) = some io)
    (h : aop P io fr st k) : Good P B w0 R wr C k ((execOp a.eval o).run P w) := by
  simp only [compOp] at hc
  split at hc
  · rename_i e hu
    split at hc
    · rename_i inf zs hinf hzs
      obtain ⟨i, z, hi, hz, hl, hv⟩ := zc_spec hzs C
      have e0 : i = inf := by rw [hi] at hinf; exact Option.some.inj hinf
      subst e0
      split at hc
      · rename_i hcond
        obtain ⟨c1, c2, c3⟩ := hcond
        obtain ⟨ps, h1, rfl⟩ := map_some hc
        obtain ⟨p1, p2⟩ := partsRow_spec (C := C) s.glob f h1
        simp only [aop] at h
        split at h
        · rename_i cs hcs
          have hz0 := zeros_sim (C := C) (zs := zs) (z := z.cells) hl hv (by omega) len
          rw [c2] at hz0
          obtain ⟨res, r1, r2⟩ := fill_sound (C := C) (fun j => some (j * i.size, i.size)) (parts.toList.map fun p => (p.1, a.eval p.2)) _ (zeros zs len) cs _ hz0 hcs (by simp [p1])
            (fun j ha hb => by simp only [List.getElem_map]; exact p2 j (by simpa using ha) (by simpa using hb))
          have hlen : cs.length = len * i.size := by
            have : ∀ (ap : List (Nat × Nat × AV)) (cs out : List AV), aput cs ap = some out → out.length = cs.length := by
              intro ap
              induction ap with
              | nil => intro cs out h; cases h; rfl
              | cons p ap ih =>
                intro cs out h
                obtain ⟨x, y, v⟩ := p
                simp only [aput] at h
                split at h
                · split at h
                  · rw [ih _ _ h, putN_length]
                  · cases h
                · cases h
            rw [this _ _ _ hcs, zeros_length, c2]
          have e : (Instr.buildSlice t len (parts.map fun (i, x) => (i, a.eval x))).run P w = .ok (.slice (some ⟨w.heap.size, 0, none⟩) len len) { w with heap := w.heap.push (.cells res e) } := by
            have hnb : ¬ (len * i.size > 2 ^ 24) := by omega
            simp only [Instr.buildSlice, Sem.run_bind, run_und hu, run_size hi, Result.andThen_ok, hnb, if_false, toList_map_pair]
            by_cases h0 : len * i.size = 0
            · have hz1 : (Array.range (len * i.size)).map (z.cells[· % z.cells.size]!) = #[] := by simp [h0]
              rw [hz1] at r1
              have hr : ∀ g : Nat → Value, (Array.range 0).map g = #[] := fun g => Array.ext' (by simp)
              have r1' : Instr.fill (fun j => some (j * i.size, i.size)) #[] (parts.toList.map fun p => (p.1, a.eval p.2)) = some res := r1
              simp only [h0, if_true, Sem.run_pure, Result.andThen_ok, hr, r1', newRow, Sem.run_bind, run_newObj]
            · simp only [h0, if_false, Sem.run_pure, Result.andThen_ok, Sem.run_bind, run_zero hi hz, r1, newRow, run_newObj]
          unfold execOp; rw [ho]; rw [run_v e]
          exact good_newSlice s _ r2 (Nat.le_refl _) (by rw [r2.1, hlen]; omega) h
        · exact h.elim
      · cases hc
    · cases hc
  · cases hc

theorem wrap_small {m : Int} (h0 : 0 ≤ m) (h1 : m ≤ 4294967296) : IntKind.i64.wrap m = m := by
  have e : IntKind.bits .i64 = 64 := rfl
  have hm : m % (2 ^ 64 : Int) = m := Int.emod_eq_of_lt h0 (by omega)
  simp only [IntKind.wrap, e, hm]
  rw [if_neg]
  intro h
  simp at h
  omega

theorem good_makeSlice (s : ASim B w0 R wr C st w) (f : FSim C n fr a) {t : TypeId} {l c : Operand} (ho : o.op = .makeSlice t l c) (hc : compOp P (.makeSlice t l c) = some io)
    (h : aop P io fr st k) : Good P B w0 R wr C k ((execOp a.eval o).run P w) := by
  simp only [compOp] at hc
  split at hc
  · rename_i e hu
    split at hc
    · rename_i inf zs il ic hinf hzs hil hic
      obtain ⟨i, z, hi, hz, hl, hv⟩ := zc_spec hzs C
      have e0 : i = inf := by rw [hi] at hinf; exact Option.some.inj hinf
      subst e0
      split at hc
      · rename_i hcond
        obtain ⟨c1, c2, c3⟩ := hcond
        cases hc
        simp only [aop] at h
        split at h
        · rename_i m m' hm hm'
          obtain ⟨⟨g1, rfl, g3⟩, h⟩ := h
          have hx := arg_vs s.glob f hil
          have hy := arg_vs s.glob f hic
          rw [hm] at hx; rw [hm'] at hy
          have hz0 := zeros_sim (C := C) (zs := zs) (z := z.cells) hl hv (by omega) m.toNat
          rw [c2] at hz0
          have hw := wrap_small g1 g3
          have hb1 : ((i.bytes : Int) * m) ≤ 4096 * 4294967296 := Int.mul_le_mul (by omega) g3 g1 (by omega)
          have htl : ¬ (m < 0 ∨ (2:Int) ^ 48 < (i.bytes : Int) * m) := by omega
          have e : (Instr.makeSlice t (a.eval l) (a.eval c)).run P w = .ok (.slice (some ⟨w.heap.size, 0, none⟩) m.toNat m.toNat)
              { w with heap := w.heap.push (.cells ((Array.range (m.toNat * i.size)).map (z.cells[· % z.cells.size]!)) e) } := by
            simp only [Instr.makeSlice, Sem.run_bind, run_und hu, Result.andThen_ok, asInt, hx.int_inv, hy.int_inv, asInt_run, Sem.run_pure, run_info hi, hw]
            have h1 : (decide (m < 0) || decide ((i.bytes : Int) * m > 2 ^ 48)) = false := by
              rw [Bool.or_eq_false_iff]; constructor <;> simp <;> omega
            have h2 : ¬ m < 0 := by omega
            simp only [h1, Bool.false_or, decide_eq_true_eq, h2, decide_false, Int.lt_irrefl, gt_iff_lt, Bool.false_eq_true, if_false, Sem.run_bind, run_askRoom, Result.andThen_ok, run_size hi, Sem.run_pure]
            have hq : ¬ (281474976710656 : Int) < (i.bytes : Int) * m := by omega
            have hr : ∀ g : Nat → Value, (Array.range 0).map g = #[] := fun g => Array.ext' (by simp)
            by_cases h0 : m.toNat * i.size = 0
            · simp [h0, newRow, hr, hq, run_size hi]
            · simp [h0, run_zero hi hz, newRow, hq, run_size hi]
          unfold execOp; rw [ho]; rw [run_v e]
          exact good_newSlice s _ hz0 (Nat.le_refl _) (by simp) h
        · exact h.elim
      · cases hc
    · cases hc
  · cases hc

end
end Go.Proofs.YtdmfgodajoojpaaGreatDoor.Cn
/- The abstract layer, part 11: append, slices of slices, maps, comparisons. -/
set_option linter.unusedSimpArgs false
set_option linter.unusedVariables false
namespace Go.Proofs.YtdmfgodajoojpaaGreatDoor.Cn
open Go Go.RowKit

section
variable {P : Program} {B : Nat} {w0 : World} {R : Nat → Prop} {wr : World} {C : ACx} {st : ASt} {w : World} {k : AV → ASt → Prop} {fr : AFr} {a : Act} {n : Nat} {o : Oper} {io : IOp}

theorem ASt.kill_live {st : ASt} {id i : Nat} (h : (st.kill id).h i ≠ none) : i ≠ id ∧ st.h i ≠ none := by
  rw [ASt.kill_h] at h; split at h <;> simp_all

theorem ASim.kill (s : ASim B w0 R wr C st w) (id : Nat) : ASim B w0 R wr C (st.kill id) w where
  glob := s.glob
  live := fun i hi => s.live i (ASt.kill_live hi).2
  below := s.below
  hB := s.hB
  inj := fun i j hi hj e => s.inj i j (ASt.kill_live hi).2 (ASt.kill_live hj).2 e
  lo := fun i hi => s.lo i (ASt.kill_live hi).2
  obj := by
    intro i x hx
    rw [ASt.kill_h] at hx
    split at hx
    · cases hx
    · exact s.obj i x hx
  imm := by
    intro b p v hv
    obtain ⟨h1, h0, h2⟩ := s.imm b p v hv
    exact ⟨h1, h0, fun i hi => h2 i (ASt.kill_live hi).2⟩
  res := by
    intro b hb
    obtain ⟨h1, h2, h3⟩ := s.res b hb
    exact ⟨h1, h2, fun i hi => h3 i (ASt.kill_live hi).2⟩

theorem ASim.rename (s : ASim B w0 R wr C st w) {id : Nat} {cs : List AV} (h : st.h id = some (.cells cs)) {off : Nat} {cs' : List AV} (ho : off ≤ C.bs id) (hcs : (off ≤ cs.length ∧ cs' = cs.drop off) ∨ cs' = []) :
    ASim B w0 R wr (C.push ((C.φ id).1, (C.φ id).2 + off) (C.bs id - off)) ((st.kill id).new C.N (.cells cs')) w := by
  have hid : st.h id ≠ none := by rw [h]; simp
  have hfr : (st.kill id).h C.N = none := by rw [ASt.kill_h]; split; rfl; exact s.fresh
  have old : ∀ {i}, ((st.kill id).new C.N (.cells cs')).h i ≠ none → i ≠ C.N → i ≠ id ∧ st.h i ≠ none := fun hi e => ASt.kill_live (by rwa [ASt.new_ne _ e] at hi)
  exact
  { glob := s.glob.mono (C.push_le _ _)
    live := by
      intro i hi
      rw [C.push_N]
      by_cases e : i = C.N
      · omega
      · have := s.live i (old hi e).2; omega
    below := s.below
    hB := s.hB
    inj := by
      intro i j hi hj e
      by_cases ei : i = C.N
      · by_cases ej : j = C.N
        · rw [ei, ej]
        · rw [ei, C.push_φ, C.push_φ_ne _ _ ej] at e
          exact absurd (s.inj j id (old hj ej).2 hid e.symm) (old hj ej).1
      · by_cases ej : j = C.N
        · rw [ej, C.push_φ, C.push_φ_ne _ _ ei] at e
          exact absurd (s.inj i id (old hi ei).2 hid e) (old hi ei).1
        · rw [C.push_φ_ne _ _ ei, C.push_φ_ne _ _ ej] at e
          exact s.inj i j (old hi ei).2 (old hj ej).2 e
    lo := by
      intro i hi
      by_cases ei : i = C.N
      · rw [ei, C.push_φ]; exact s.lo id hid
      · rw [C.push_φ_ne _ _ ei]; exact s.lo i (old hi ei).2
    obj := by
      intro i x hx
      by_cases ei : i = C.N
      · subst ei
        rw [ASt.new_self _ hfr] at hx; cases hx
        obtain ⟨hl, c, t, hw, hs, hv⟩ := s.obj id _ h
        refine ⟨?_, c, t, by rw [C.push_φ]; exact hw, by rw [C.push_φ, C.push_bs]; simp only; omega, fun j hj => ?_⟩
        · rw [C.push_bs]; rcases hcs with ⟨h1, rfl⟩ | rfl
          · simp; omega
          · simp
        · rw [C.push_φ]
          rcases hcs with ⟨h1, rfl⟩ | rfl
          · have := (hv (off + j) (by simp at hj; omega)).mono (C.push_le ((C.φ id).1, (C.φ id).2 + off) (C.bs id - off))
            simpa [Nat.add_assoc] using this
          · simp at hj
      · rw [ASt.new_ne _ ei, ASt.kill_h] at hx
        split at hx
        · cases hx
        · exact ObjSim.mono (C.push_le _ _) (s.lt hx) (s.obj i x hx)
    imm := by
      intro b p v hv
      obtain ⟨h1, h0, h2⟩ := s.imm b p v hv
      refine ⟨h1, h0, fun i hi => ?_⟩
      by_cases ei : i = C.N
      · rw [ei, C.push_φ]; exact h2 id hid
      · rw [C.push_φ_ne _ _ ei]; exact h2 i (old hi ei).2
    res := by
      intro b hb
      obtain ⟨h1, h2, h3⟩ := s.res b hb
      refine ⟨h1, h2, fun i hi => ?_⟩
      by_cases ei : i = C.N
      · rw [ei, C.push_φ]; exact h3 id hid
      · rw [C.push_φ_ne _ _ ei]; exact h3 i (old hi ei).2 }

theorem ASim.extend : ∀ (vs : List AV) (rs : List Value) (i off : Nat) (cs : List AV) (st : ASt) (w : World) (id : Nat), ASim B w0 R wr C st w → st.h id = some (.cells cs) →
    off + i = cs.length → cs.length + vs.length ≤ C.bs id → rs.length = vs.length → (∀ r ∈ rs, r.oneCell' = true) → (∀ j (h : j < vs.length), VS C vs[j] (rs.getD j undef)) →
    ∃ w', (storeCells ⟨(C.φ id).1, (C.φ id).2 + off, none⟩ rs i).run P w = .ok () w' ∧ ASim B w0 R wr C (st.set id (.cells (cs ++ vs))) w'
  | [], rs, i, off, cs, st, w, id, s, h, _, _, hr, _, _ => by
    have : rs = [] := by simpa using hr
    subst this
    exact ⟨w, rfl, by simpa [ASt.set_self _ _ _ h] using s⟩
  | v :: vs, rs, i, off, cs, st, w, id, s, h, he, hl, hr, hlf, hv => by
    match rs, hr with
    | r :: rs, hr =>
      simp at hl hr hlf
      have h0 := hv 0 (by simp)
      simp at h0
      obtain ⟨hbs, c, t, hw, hs, hcv⟩ := s.obj id _ h
      have hlt : (C.φ id).2 + cs.length < c.size := by omega
      have hcell : w.cell? ⟨(C.φ id).1, (C.φ id).2 + cs.length, none⟩ = some (c.getD ((C.φ id).2 + cs.length) undef) := by simp [World.cell?, hw, hlt]
      have hfz : w.frozen? ⟨(C.φ id).1, (C.φ id).2 + cs.length, none⟩ = false := by simp [World.frozen?, hw]
      have r1 : (store ⟨(C.φ id).1, (C.φ id).2 + cs.length, none⟩ r).run P w = .ok () (w.setCell ⟨(C.φ id).1, (C.φ id).2 + cs.length, none⟩ r) := by
        rw [run_store P w _ r _ hlf.1, hcell]; simp [hfz]
      have s1 : ASim B w0 R wr C (st.set id (.cells (cs ++ [v]))) (w.setCell ⟨(C.φ id).1, (C.φ id).2 + cs.length, none⟩ r) := by
        refine s.wrote h _ _ rfl rfl rfl (by simp) (fun k hk => Below.heap_setCell _ _ _ _ hk) ⟨by simp; omega, c.setIfInBounds ((C.φ id).2 + cs.length) r, t, ?_, by simpa using hs, fun j hj => ?_⟩
        · simp only [World.setCell, Array.getElem?_modify, hw, ↓reduceIte, Option.map_some]
          simp
        · rw [getD_set _ _ _ _ hlt]
          by_cases e : j = cs.length
          · subst e; simpa using h0
          · have h1 : ¬ (C.φ id).2 + cs.length = (C.φ id).2 + j := by omega
            have h2 : j < cs.length := by simp at hj; omega
            rw [if_neg h1, List.getElem_append_left h2]
            exact hcv j h2
      obtain ⟨w2, r2, s2⟩ := ASim.extend vs rs (i + 1) off (cs ++ [v]) _ _ id s1 (by rw [ASt.set_h, if_pos rfl, h]; rfl) (by simp; omega) (by simp; omega) hr hlf.2
        (fun j hj => hv (j + 1) (by simpa using hj))
      refine ⟨w2, ?_, ?_⟩
      · simp only [storeCells, Sem.run_bind, addr_add, Nat.add_assoc, he, r1, Result.andThen_ok]
        exact r2
      · rw [ASt.set_set] at s2
        simpa using s2

theorem seen_sound (s : ASim B w0 R wr C st w) {x : AV} {rx : Value} {m sz : Nat} {cs : List AV} (h : st.seen (m * sz) x = some cs) (hm : x.slen = some m) (hx : VS C x rx) :
    ∃ p c rs, rx = .slice p m c ∧ (Builtin.firstCells sz m rx).run P w = .ok rs w ∧ RowSim C cs rs := by
  cases hx <;> simp only [AV.slen] at hm <;> try (cases hm; done)
  · cases hm
    simp [ASt.seen] at h
    subst h
    exact ⟨_, _, #[], rfl, rfl, rfl, fun i hi => absurd hi (by simp)⟩
  · rename_i p
    cases hm
    simp [ASt.seen] at h
    subst h
    refine ⟨_, _, #[], rfl, ?_, rfl, fun i hi => absurd hi (by simp)⟩
    cases p with
    | none => rfl
    | some p => simp [Builtin.firstCells, loadCells, loadCellsFrom]
  · rename_i szz id off len' off' cap hid hc ho hb
    cases hm
    simp only [ASt.seen] at h
    split at h
    · rename_i cs0 hh
      split at h
      · rename_i hl
        cases h
        obtain ⟨f, hf⟩ := cellsAt s hh
        rcases ho with h0 | rfl
        · subst h0
          refine ⟨_, _, #[], rfl, ?_, by simp, fun i hi => absurd hi (by simp)⟩
          simp [Builtin.firstCells, loadCells, loadCellsFrom]
        · obtain ⟨rs, h1, h2, h3⟩ := loadCells_sound (P := P) hf hl
          exact ⟨_, _, rs, rfl, h1, by rw [h2, take_drop_len _ _ _ hl], h3⟩
      · cases h
    · cases h
  · rename_i szz cs0 len' b p cap pp hs hn vs hK hv hc
    cases hm
    simp only [ASt.seen] at h
    split at h
    · rename_i hl
      cases h
      by_cases h0 : m = 0
      · subst h0
        refine ⟨_, _, #[], rfl, ?_, by simp, fun i hi => absurd hi (by simp)⟩
        cases pp with
        | none => rfl
        | some pp => simp [Builtin.firstCells, loadCells, loadCellsFrom]
      · have hsp := hs h0
        subst hsp
        obtain ⟨rs, h1, h2, h3⟩ := loadCells_sound (P := P) (off := 0) (sz := m * sz) (f := vs) (o := p) (fun i hi => ⟨(s.imm _ _ _ (hK h0 i hi)).1, hv h0 i hi⟩) (by omega)
        refine ⟨_, _, rs, rfl, h1, ?_, ?_⟩
        · rw [h2]; simp; omega
        · simpa using h3
    · cases h
  · cases hm
    simp [ASt.seen] at h
    subst h
    exact ⟨_, _, #[], rfl, by simp [Builtin.firstCells, loadCells, loadCellsFrom], rfl, fun i hi => absurd hi (by simp)⟩

def AV.isEmp : AV → Bool
  | .nils | .emp | .nn => true
  | _ => false

theorem isEmp_seen {st : ASt} {x : AV} {m : Nat} {cs : List AV} (h : st.seen m x = some cs) (h0 : x.isEmp = true) : cs = [] := by
  cases x <;> simp only [AV.isEmp] at h0 <;> try (cases h0; done)
  all_goals (simp [ASt.seen] at h; exact h)

theorem isEmp_slen {x : AV} {m : Nat} (h : x.slen = some m) (h0 : x.isEmp = true) : m = 0 := by
  cases x <;> simp only [AV.isEmp] at h0 <;> try (cases h0; done)
  all_goals (simp [AV.slen] at h; exact h.symm)

theorem seen_len {st : ASt} {x : AV} {m : Nat} {cs : List AV} (h : st.seen m x = some cs) (h0 : x.isEmp = false) : cs.length = m := by
  cases x <;> simp only [ASt.seen] at h <;> try (cases h; done)
  · cases h0
  · cases h0
  · split at h
    · split at h
      · cases h; exact take_drop_len _ _ _ ‹_›
      · cases h
    · cases h
  · split at h
    · cases h; simp; omega
    · cases h
  · cases h0

theorem slen_le {x : AV} {rx : Value} (h : VS C x rx) {m : Nat} (hm : x.slen = some m) {p : Option Addr} {c m' : Nat} (e : rx = .slice p m' c) : m ≤ c := by
  cases h <;> simp [AV.slen] at hm <;> subst hm <;> cases e <;> first | omega | assumption

theorem allLeaf_spec {cs : List AV} {rs : Array Value} (h : allLeaf cs = true) (hr : RowSim C cs rs) : ∀ r ∈ rs.toList, r.oneCell' = true := by
  intro r hrm
  obtain ⟨i, hi, rfl⟩ := List.getElem_of_mem hrm
  have hi' : i < cs.length := by rw [← hr.1]; simpa using hi
  have hl : (cs[i]).leaf = true := by simp [allLeaf] at h; exact h _ (List.getElem_mem hi')
  have hi2 : i < rs.size := by simpa using hi
  have := (hr.2 i hi').leaf hl
  simpa [Array.getD_eq_getD_getElem?, hi2] using this

theorem compCall_append {c : Call} (hcal : c.callee = .builtin .append) (hc : compCall P c = some io) :
    ∃ x y t u e e' i zs ix iy, c.args.toList = [x, y] ∧ c.argTypes.toList = [t, u] ∧ P.underlying t = some (.slice e) ∧ P.underlying u = some (.slice e') ∧ P.info? e = some i ∧ zc P e = some zs ∧ cArg x = some ix ∧ cArg y = some iy ∧
      0 < i.bytes ∧ i.bytes ≤ 4096 ∧ 0 < i.size ∧ zs.length = i.size ∧ io = .append i.size i.bytes ix iy := by
  unfold compCall at hc
  simp only [hcal] at hc
  split at hc
  · rename_i x y t u h1 h2
    split at hc
    · rename_i e e' h3 h4
      split at hc
      · rename_i i zs ix iy h5 h6 h7 h8
        split at hc
        · rename_i h9
          cases hc
          exact ⟨x, y, t, u, e, e', i, zs, ix, iy, h1, h2, h3, h4, h5, h6, h7, h8, h9.1, h9.2.1, h9.2.2.1, h9.2.2.2, rfl⟩
        · cases hc
      · cases hc
    · cases hc
  · cases hc

theorem growBy_le (newLen : Nat) : ∀ (r c : Nat), c ≤ newLen → Builtin.growBy newLen r c ≤ newLen + (newLen + 768) / 4
  | 0, c, h => by simp only [Builtin.growBy]; omega
  | r + 1, c, h => by
    simp only [Builtin.growBy]
    split
    · omega
    · by_cases h' : c + (c + 768) / 4 ≤ newLen
      · exact growBy_le newLen r _ h'
      · have : Builtin.growBy newLen r (c + (c + 768) / 4) = c + (c + 768) / 4 := by
          cases r with
          | zero => rfl
          | succ r => simp only [Builtin.growBy]; rw [if_pos (by omega)]
        rw [this]; omega

theorem nextcap_le {need cap : Nat} (h : cap < need) : Builtin.nextslicecap need cap ≤ 2 * need + 1000 := by
  unfold Builtin.nextslicecap
  split
  · omega
  · split
    · omega
    · have := growBy_le need 4 cap (by omega); omega

theorem VS.sl_inv {sz id off len : Nat} {rv : Value} (h : VS C (.sl sz id off len) rv) : ∃ off' cap, rv = .slice (some ⟨(C.φ id).1, (C.φ id).2 + off', none⟩) len cap ∧
    id < C.N ∧ len ≤ cap ∧ (len = 0 ∨ off' = off) ∧ off' + cap * sz ≤ C.bs id := by
  cases h with
  | sl _ _ _ _ off' cap h hc ho hb => exact ⟨off', cap, rfl, h, hc, ho, hb⟩

theorem good_append (s : ASim B w0 R wr C st w) (f : FSim C n fr a) {c : Call} (ho : o.op = .call c) (hcal : c.callee = .builtin .append) (hc : compCall P c = some io) (h : aop P io fr st k) :
    Good P B w0 R wr C k ((execOp a.eval o).run P w) := by
  obtain ⟨x, y, t, u, e, e', i, zs, ix, iy, h1, h2, hu, hu', hi, hzs, hx0, hy0, hb1, hb2, hsz, hzl0, rfl⟩ := compCall_append hcal hc
  obtain ⟨i', z, hi', hz, hl, hv⟩ := zc_spec hzs C
  have e0 : i' = i := by rw [hi'] at hi; exact Option.some.inj hi
  subst e0
  have hx := arg_vs s.glob f hx0
  have hy := arg_vs s.glob f hy0
  simp only [aop] at h
  split at h
  · rename_i m nn hm hn
    split at h
    · rename_i new hnew
      obtain ⟨⟨hbound, hleaf⟩, h⟩ := h
      obtain ⟨py, cy, rs, ey, ry, hrow⟩ := seen_sound (P := P) s hnew hm hy
      obtain ⟨px, cx, ex⟩ := slen_vs hx hn
      have hargs : c.args.map a.eval = #[.slice px nn cx, .slice py m cy] := by
        apply Array.ext'
        simp [h1, ex, ey]
      have hts : c.argTypes = #[t, u] := Array.ext' h2
      have hzero : ((match (TypeDesc.slice e' : TypeDesc) with | .int _ => true | _ => false) : Bool) = false := rfl
      rw [ey] at ry
      have hone := allLeaf_spec hleaf hrow
      -- the run up to the test for room
      have hrun : (execOp a.eval o).run P w = ((Builtin.append_ #[t, u] o.type #[.slice px nn cx, .slice py m cy]).run P w).andThen fun v w' => .ok (.value v) w' := by
        unfold execOp; rw [ho]
        simp only [resolve, hcal, Sem.run_bind, Sem.run_pure, Result.andThen_ok, invoke, hargs, builtin, hts]
      by_cases hroom : nn + m ≤ cx
      · have happ : (Builtin.append_ #[t, u] o.type #[.slice px nn cx, .slice py m cy]).run P w =
            (match px with
              | some b => (storeCells (b.add (nn * i'.size)) rs.toList).run P w
              | none => .ok () w).andThen fun _ w' => .ok (.slice px (nn + m) cx) w' := by
          simp only [Builtin.append_, Sem.run_bind, run_und hu, run_und hu', Result.andThen_ok, run_size hi', Sem.run_pure, Bool.false_eq_true, if_false, Bool.not_false, if_true, Builtin.lenOf, hroom, List.getElem?_toArray, List.getElem?_cons_zero, List.getElem?_cons_succ]
          rw [ry]
          cases px <;> simp
        by_cases hm0 : m = 0
        · rw [if_pos hm0] at h
          subst hm0
          have hrs : rs = #[] := by
            have h0 : new.length = 0 := by
              cases hn0 : (fr.val iy).isEmp with
              | true => rw [isEmp_seen hnew hn0]; rfl
              | false => rw [seen_len hnew hn0]; omega
            exact Array.eq_empty_of_size_eq_zero (by rw [hrow.1, h0])
          rw [hrun, happ, hrs]
          have : (match px with
              | some b => (storeCells (b.add (nn * i'.size)) (#[] : Array Value).toList).run P w
              | none => .ok () w : Result Unit) = .ok () w := by cases px <;> rfl
          rw [this]
          simp only [Result.andThen_ok, Nat.add_zero]
          rw [← ex]
          exact Good.val s hx h
        · rw [if_neg hm0] at h
          generalize hxa : fr.val ix = xa at h hx hn
          rw [ex] at hx
          cases xa <;> simp only [] at h <;> try (exact h.elim)
          · cases hx; omega
          · cases hx; omega
          · rename_i szz id off len
            obtain ⟨off', cap, hv0, hid, hcc, ho', hb⟩ := hx.sl_inv
            cases hv0
            split at h
            · rename_i cs hh
              obtain ⟨⟨rfl, hend⟩, h⟩ := h
              simp only [AV.slen] at hn
              cases hn
              have hlm : (cs.drop off).length = nn * i'.size := by simp; omega
              obtain ⟨cs', hcs', hl', hsame⟩ : ∃ cs', ((off' ≤ cs.length ∧ cs' = cs.drop off') ∨ cs' = []) ∧ cs'.length = nn * i'.size ∧ cs' = cs.drop off := by
                rcases ho' with h0 | rfl
                · subst h0
                  refine ⟨[], .inr rfl, by simp, ?_⟩
                  rw [Nat.zero_mul] at hlm
                  exact (List.length_eq_zero_iff.1 hlm).symm
                · exact ⟨_, .inl ⟨by omega, rfl⟩, hlm, rfl⟩
              have hbs : off' + (nn * i'.size + m * i'.size) ≤ C.bs id := by
                rw [← Nat.add_mul]
                exact Nat.le_trans (Nat.add_le_add_left (Nat.mul_le_mul_right _ hroom) _) hb
              have s1 := s.rename hh (off := off') (cs' := cs') (by omega) hcs'
              have hnl : new.length = m * i'.size := by
                cases hn0 : (fr.val iy).isEmp with
                | true => exact absurd (isEmp_slen hm hn0) hm0
                | false => exact seen_len hnew hn0
              obtain ⟨w2, r2, s2⟩ := ASim.extend (P := P) new rs.toList 0 (nn * i'.size) cs' _ w C.N s1 (ASt.new_self _ (by rw [ASt.kill_h]; split; rfl; exact s.fresh)) (by omega)
                (by rw [C.push_bs]; omega) (by simpa using hrow.1) hone (fun j hj => by
                  have := (hrow.2 j hj).mono (C.push_le ((C.φ id).1, (C.φ id).2 + off') (C.bs id - off'))
                  simpa [List.getD_eq_getElem?_getD, Array.getD_eq_getD_getElem?] using this)
              rw [C.push_φ] at r2
              rw [hrun, happ]
              simp only [addr_add, r2, Result.andThen_ok]
              have hfr : (st.kill id).h C.N = none := by rw [ASt.kill_h]; split; rfl; exact s.fresh
              have hst : ((st.kill id).new C.N (.cells cs')).set C.N (.cells (cs' ++ new)) = (st.kill id).new C.N (.cells (cs.drop off ++ new)) := by
                rw [← hsame]
                refine ASt.ext' (fun i => ?_)
                rw [ASt.set_h]
                by_cases e : i = C.N
                · rw [if_pos e, e, ASt.new_self _ hfr, ASt.new_self _ hfr]; rfl
                · rw [if_neg e, ASt.new_ne _ e, ASt.new_ne _ e]
              rw [hst] at s2
              refine ⟨_, _, _, C.push_le _ _, s2, ?_, h _ s.fresh⟩
              have := VS.sl (C := C.push ((C.φ id).1, (C.φ id).2 + off') (C.bs id - off')) i'.size C.N 0 (nn + m) 0 cx (by rw [C.push_N]; omega) hroom (.inr rfl) (by rw [C.push_bs]; omega)
              rw [C.push_φ] at this
              exact this
            · exact h.elim
      · -- a new array
        have hle := slen_le hx hn ex
        have hm0 : m ≠ 0 := by omega
        rw [if_neg hm0] at h
        have hnl : new.length = m * i'.size := by
          cases hn0 : (fr.val iy).isEmp with
          | true => exact absurd (isEmp_slen hm hn0) hm0
          | false => exact seen_len hnew hn0
        have sd : ASim B w0 R wr C st { w with drawn := w.drawn + 1 } := s.draw _
        have key : ∀ (old : List AV) (st1 : ASt), ASim B w0 R wr C st1 { w with drawn := w.drawn + 1 } → old.length = nn * i'.size →
            (∃ ro, (Builtin.firstCells i'.size nn (.slice px nn cx)).run P { w with drawn := w.drawn + 1 } = .ok ro { w with drawn := w.drawn + 1 } ∧ RowSim C old ro) →
            (∀ id', st.h id' = none → k (.sl i'.size id' 0 (nn + m)) (st1.new id' (.cells (old ++ new)))) → Good P B w0 R wr C k ((execOp a.eval o).run P w) := by
          intro old st1 s1 hol hro h
          obtain ⟨ro, ro1, ro2⟩ := hro
          obtain ⟨_, _, rs', ey', ry', hrow'⟩ := seen_sound (P := P) sd hnew hm hy
          rw [ey] at ey'; cases ey'; rw [ey] at ry'
          have hcap := nextcap_le (show cx < nn + m by omega)
          have hfit : ¬ (Builtin.nextslicecap (nn + m) cx * i'.bytes > 2 ^ 48) := by
            have : Builtin.nextslicecap (nn + m) cx * i'.bytes ≤ (2 * 4294967296 + 1000) * 4096 := Nat.mul_le_mul (by omega) hb2
            omega
          have hpos : ¬ (((nn + m : Nat) : Int) > IntKind.i64.max ∧ (i'.bytes = 0)) := by omega
          obtain ⟨cap', hcap'⟩ : ∃ c', (choose (.appendCap (nn + m) cx e)).run P w = .ok (nn + m + c') { w with drawn := w.drawn + 1 } := by
            simp [Question.forced, Question.cut]
          have hb0 : i'.bytes ≠ 0 := by omega
          have happ : (Builtin.append_ #[t, u] o.type #[.slice px nn cx, .slice py m cy]).run P w =
              .ok (.slice (some ⟨w.heap.size, 0, none⟩) (nn + m) (nn + m + cap')) { w with drawn := w.drawn + 1, heap := w.heap.push (.cells (ro ++ rs' ++ Builtin.zeroCells z.cells (nn + m + cap' - (nn + m))) e) } := by
            simp only [Builtin.append_, Sem.run_bind, run_und hu, run_und hu', Result.andThen_ok, run_size hi', Sem.run_pure, Bool.false_eq_true, if_false, Bool.not_false, if_true, Builtin.lenOf, hroom, List.getElem?_toArray, List.getElem?_cons_zero, List.getElem?_cons_succ,
              run_info hi', false_or, hpos, hb0, and_false, hfit, hcap', run_askRoom, ro1, ry', run_zero hi' hz, newRow, run_newObj]
          rw [hrun, happ]
          simp only [Result.andThen_ok]
          have hall : RowSim C (old ++ new) (ro ++ rs') := by
            refine ⟨by simp [ro2.1, hrow'.1], fun j hj => ?_⟩
            by_cases hj' : j < old.length
            · rw [List.getElem_append_left hj']
              have := ro2.2 j hj'
              have h2 : j < ro.size := by rw [ro2.1]; exact hj'
              simpa [Array.getD_eq_getD_getElem?, Array.getElem?_append_left h2] using this
            · have h2 : ro.size ≤ j := by rw [ro2.1]; omega
              rw [List.getElem_append_right (by omega)]
              have := hrow'.2 (j - old.length) (by simp at hj; omega)
              simpa [Array.getD_eq_getD_getElem?, Array.getElem?_append_right h2, ro2.1] using this
          have hlen : (old ++ new).length = (nn + m) * i'.size := by simp [hol, hnl, Nat.add_mul]
          have hzl : (Builtin.zeroCells z.cells (nn + m + cap' - (nn + m))).size = cap' * i'.size := by
            have : z.cells.size = i'.size := by rw [hl, hzl0]
            simp [Builtin.zeroCells, this]
          have s3 := alloc_cells s1 e (old ++ new) (ro ++ rs' ++ Builtin.zeroCells z.cells (nn + m + cap' - (nn + m))) (by simp [ro2.1, hrow'.1]) (fun j hj => by
            have := hall.2 j hj
            have h2 : j < (ro ++ rs').size := by rw [hall.1]; exact hj
            rw [Array.getD_eq_getD_getElem?, Array.getElem?_append_left h2, ← Array.getD_eq_getD_getElem?]
            exact this)
          refine ⟨_, _, _, C.push_le _ _, s3, ?_, h _ s.fresh⟩
          have hsize : (ro ++ rs' ++ Builtin.zeroCells z.cells (nn + m + cap' - (nn + m))).size = (nn + m + cap') * i'.size := by
            rw [Array.size_append, hall.1, hlen, hzl, ← Nat.add_mul]
          have := VS.sl (C := C.push (w.heap.size, 0) (ro ++ rs' ++ Builtin.zeroCells z.cells (nn + m + cap' - (nn + m))).size) i'.size C.N 0 (nn + m) 0 (nn + m + cap') (by rw [C.push_N]; omega) (by omega) (.inr rfl)
            (by rw [C.push_bs, hsize]; omega)
          rw [C.push_φ] at this
          exact this
        generalize hxa : fr.val ix = xa at h hx hn
        rw [ex] at hx
        cases xa <;> simp only [] at h <;> try (exact h.elim)
        · simp only [AV.slen] at hn; cases hn
          cases hx
          refine key [] st sd (by simp) ⟨#[], rfl, rfl, fun i hi => absurd hi (by simp)⟩ ?_
          simpa using h
        · simp only [AV.slen] at hn; cases hn
          refine key [] st sd (by simp) ⟨#[], ?_, rfl, fun i hi => absurd hi (by simp)⟩ ?_
          · cases px with
            | none => rfl
            | some p => simp [Builtin.firstCells, loadCells, loadCellsFrom]
          · simpa using h
        · rename_i szz id off len
          obtain ⟨off', cap, hv0, hid, hcc, ho', hb⟩ := hx.sl_inv
          cases hv0
          split at h
          · rename_i cs hh
            obtain ⟨⟨rfl, hend⟩, h⟩ := h
            simp only [AV.slen] at hn
            cases hn
            have hlm : (cs.drop off).length = nn * i'.size := by simp; omega
            have hseen : st.seen (nn * i'.size) (.sl i'.size id off nn) = some (cs.drop off) := by
              simp only [ASt.seen, hh]
              rw [if_pos (by omega), ← hlm, List.take_length]
            obtain ⟨_, _, ro, e1, e2, e3⟩ := seen_sound (P := P) sd hseen rfl (VS.sl i'.size id off nn off' cx hid hcc ho' hb)
            cases e1
            exact key (cs.drop off) (st.kill id) (sd.kill id) hlm ⟨ro, e2, e3⟩ h
          · exact h.elim
    · exact h.elim
  · exact h.elim

end
end Go.Proofs.YtdmfgodajoojpaaGreatDoor.Cn
/- The abstract layer, part 12: slices of slices, maps. -/
set_option linter.unusedSimpArgs false
set_option linter.unusedVariables false
namespace Go.Proofs.YtdmfgodajoojpaaGreatDoor.Cn
open Go Go.RowKit

section
variable {P : Program} {B : Nat} {w0 : World} {R : Nat → Prop} {wr : World} {C : ACx} {st : ASt} {w : World} {k : AV → ASt → Prop} {fr : AFr} {a : Act} {n : Nat} {o : Oper} {io : IOp}

theorem bound_spec (gl : Glob C) (f : FSim C n fr a) {x : Option Operand} {ix : Option IArg} (h : cOpt x = some ix) {d b : Nat} (hb : bound fr d ix = some b) :
    (x = none ∧ ix = none ∧ b = d) ∨ ∃ x' ix' kd m, x = some x' ∧ ix = some ix' ∧ a.eval x' = .int kd m ∧ 0 ≤ m ∧ m.toNat = b := by
  cases x with
  | none => cases h; simp [bound] at hb; exact .inl ⟨rfl, rfl, hb.symm⟩
  | some x' =>
    simp only [cOpt] at h
    obtain ⟨ix', h1, rfl⟩ := map_some h
    have hx := arg_vs gl f h1
    simp only [bound] at hb
    split at hb
    · rename_i kd m hm
      rw [hm] at hx
      split at hb
      · rename_i h0; cases hb; exact .inr ⟨x', ix', kd, m, rfl, rfl, hx.int_inv, h0, rfl⟩
      · cases hb
    · cases hb

theorem run_sliceBound {kd : IntKind} {m : Int} {y : Nat} {code : BoundsCode} (h0 : 0 ≤ m) (h1 : m ≤ y) : (Instr.sliceBound (.int kd m) y code).run P w = .ok m.toNat w := by
  simp [Instr.sliceBound, asInt_run, h0, h1]

theorem run_bounds (gl : Glob C) (f : FSim C n fr a) {lo hi mx : Option Operand} {il ih im : Option IArg} (h1 : cOpt lo = some il) (h2 : cOpt hi = some ih) (h3 : cOpt mx = some im)
    {len cap l h m : Nat} (b1 : bound fr 0 il = some l) (b2 : bound fr len ih = some h) (b3 : bound fr h im = some m) (c1 : l ≤ h) (c2 : h ≤ m) (c3 : m ≤ len) (c4 : ih.isNone = true → im.isNone = true) (c5 : len ≤ cap) :
    ∃ mr, (Instr.sliceBounds true len cap (lo.map a.eval) (hi.map a.eval) (mx.map a.eval)).run P w = .ok (l, h, mr) w ∧ h ≤ mr ∧ mr ≤ cap ∧ (im.isSome = true → mr = m) := by
  rcases bound_spec gl f h3 b3 with ⟨rfl, rfl, rfl⟩ | ⟨x3, i3, k3, m3, rfl, rfl, e3, p3, rfl⟩
  · -- no third bound
    rcases bound_spec gl f h2 b2 with ⟨rfl, rfl, rfl⟩ | ⟨x2, i2, k2, m2, rfl, rfl, e2, p2, rfl⟩
    · rcases bound_spec gl f h1 b1 with ⟨rfl, rfl, rfl⟩ | ⟨x1, i1, k1, m1, rfl, rfl, e1, p1, rfl⟩
      · exact ⟨cap, by simp [Instr.sliceBounds], by omega, Nat.le_refl _, fun e => by simp at e⟩
      · refine ⟨cap, ?_, by omega, Nat.le_refl _, fun e => by simp at e⟩
        simp only [Instr.sliceBounds, Option.map_some, Option.map_none, Sem.run_bind, Sem.run_pure, Result.andThen_ok, e1]
        rw [run_sliceBound p1 (by omega)]; rfl
    · have hr2 : (Instr.sliceBound (.int k2 m2) cap .sliceAcap).run P w = .ok m2.toNat w := run_sliceBound p2 (by omega)
      rcases bound_spec gl f h1 b1 with ⟨rfl, rfl, rfl⟩ | ⟨x1, i1, k1, m1, rfl, rfl, e1, p1, rfl⟩
      · refine ⟨cap, ?_, by omega, Nat.le_refl _, fun e => by simp at e⟩
        simp only [Instr.sliceBounds, Option.map_some, Option.map_none, Sem.run_bind, Sem.run_pure, Result.andThen_ok, e2, if_true, hr2]
      · refine ⟨cap, ?_, by omega, Nat.le_refl _, fun e => by simp at e⟩
        simp only [Instr.sliceBounds, Option.map_some, Option.map_none, Sem.run_bind, Sem.run_pure, Result.andThen_ok, e1, e2, if_true, hr2]
        rw [run_sliceBound p1 (by omega)]; rfl
  · have hr3 : (Instr.sliceBound (.int k3 m3) cap .slice3Acap).run P w = .ok m3.toNat w := run_sliceBound p3 (by omega)
    rcases bound_spec gl f h2 b2 with ⟨rfl, rfl, rfl⟩ | ⟨x2, i2, k2, m2, rfl, rfl, e2, p2, rfl⟩
    · simp at c4
    · have hr2 : (Instr.sliceBound (.int k2 m2) m3.toNat .slice3B).run P w = .ok m2.toNat w := run_sliceBound p2 (by omega)
      rcases bound_spec gl f h1 b1 with ⟨rfl, rfl, rfl⟩ | ⟨x1, i1, k1, m1, rfl, rfl, e1, p1, rfl⟩
      · refine ⟨m3.toNat, ?_, by omega, by omega, fun _ => rfl⟩
        simp only [Instr.sliceBounds, Option.map_some, Option.map_none, Sem.run_bind, Sem.run_pure, Result.andThen_ok, e2, e3, if_true, hr3, hr2]
      · refine ⟨m3.toNat, ?_, by omega, by omega, fun _ => rfl⟩
        simp only [Instr.sliceBounds, Option.map_some, Option.map_none, Sem.run_bind, Sem.run_pure, Result.andThen_ok, e1, e2, e3, if_true, hr3, hr2, Option.isSome_some]
        rw [run_sliceBound p1 (by omega)]; rfl

theorem good_slice (s : ASim B w0 R wr C st w) (f : FSim C n fr a) {t : TypeId} {x : Operand} {lo hi mx : Option Operand} (ho : o.op = .slice t x lo hi mx) (hc : compOp P (.slice t x lo hi mx) = some io) (h : aop P io fr st k) :
    Good P B w0 R wr C k ((execOp a.eval o).run P w) := by
  simp only [compOp] at hc
  split at hc
  · rename_i e hu
    split at hc
    · rename_i i ix il ih im hi0 hx0 hl0 hh0 hm0
      cases hc
      have hx := arg_vs s.glob f hx0
      simp only [aop] at h
      split at h
      · rename_i l hl
        split at h
        · rename_i len hlen
          split at h
          · rename_i hh hhb
            split at h
            · rename_i m hmb
              obtain ⟨⟨c1, c2, c3, c4⟩, hszq, h⟩ := h
              obtain ⟨p0, cap0, e0⟩ := slen_vs hx hlen
              have hcap := slen_le hx hlen e0
              obtain ⟨mr, hrun, g1, g2, g3⟩ := run_bounds (P := P) (w := w) s.glob f hl0 hh0 hm0 hl hhb hmb c1 c2 c3 c4 hcap
              have hlm : l ≤ mr := by omega
              have er : (Instr.sliceAt t (a.eval x) (lo.map a.eval) (hi.map a.eval) (mx.map a.eval)).run P w =
                  .ok (.slice (if mr = l then p0 else p0.map (·.add (l * i.size))) (hh - l) (mr - l)) w := by
                simp only [Instr.sliceAt, Sem.run_bind, run_und hu, Result.andThen_ok, Instr.slice, e0, hrun, run_size hi0, Sem.run_pure]
              unfold execOp; rw [ho]; rw [run_v er]
              refine Good.val s ?_ h
              by_cases hemp : im.isSome = true ∧ l = m
              · rw [if_pos hemp]
                have e1 : mr = m := g3 hemp.1
                have e2 : hh - l = 0 := by omega
                have e3 : mr - l = 0 := by omega
                rw [e2, e3]
                exact .emp _
              rw [if_neg hemp]
              rw [e0] at hx
              generalize fr.val ix = xa at hx hlen hszq
              cases xa <;> simp only [] at hszq <;> try (exact hszq.elim)
              · cases hx
                have e1 : mr = 0 := by omega
                have e2 : l = 0 := by omega
                subst e1; subst e2
                simp only [Nat.sub_zero, if_true]
                have e3 : hh = 0 := by omega
                rw [e3]; exact .nils
              · cases hx
                have e1 : mr = 0 := by omega
                have e2 : l = 0 := by omega
                subst e1; subst e2
                simp only [Nat.sub_zero, if_true]
                have e3 : hh = 0 := by omega
                rw [e3]; exact .emp _
              · rename_i szz id off len'
                subst hszq
                obtain ⟨off', cap, hv0, hid, hcc, ho', hb⟩ := hx.sl_inv
                cases hv0
                simp only [aslice, Option.map_some, addr_add, Nat.add_assoc]
                by_cases hml : mr = l
                · subst hml
                  rw [if_pos rfl]
                  have : hh - mr = 0 := by omega
                  rw [this, Nat.sub_self]
                  exact .sl _ _ _ _ _ _ hid (Nat.le_refl _) (.inl rfl) (by
                    have := Nat.le_trans (Nat.le_add_right off' (cap0 * i.size)) hb; simpa using this)
                · rw [if_neg hml]
                  refine .sl _ _ _ _ _ _ hid (by omega) ?_ ?_
                  · rcases ho' with h0 | rfl
                    · left; omega
                    · right; rfl
                  · rw [Nat.add_assoc, ← Nat.add_mul]
                    exact Nat.le_trans (Nat.add_le_add_left (Nat.mul_le_mul_right _ (by omega)) _) hb
              · rename_i szz cs len'
                subst hszq
                cases hx with
                | isl _ _ _ b p cap pp hs hn vs hK hv hcc =>
                simp only [aslice]
                by_cases hz : hh - l = 0
                · rw [hz]
                  exact .isl _ _ _ b p _ _ (fun h0 => absurd rfl h0) (fun h0 => by have h1 : p0 = none := (by split at h0 <;> simpa using h0); have := hn h1; omega) vs (fun h0 => absurd rfl h0) (fun h0 => absurd rfl h0) (Nat.zero_le _)
                · have hl0 : len ≠ 0 := by omega
                  have hsp := hs hl0
                  subst hsp
                  have hml : ¬ mr = l := by omega
                  simp only [Option.map_some, addr_add, Nat.add_assoc]
                  rw [if_neg hml]
                  refine .isl _ _ _ _ _ _ _ (fun _ => rfl) (fun h0 => by cases h0) (fun j => vs (l * i.size + j)) (fun h0 j hj => ?_) (fun h0 j hj => ?_) (by omega)
                  · have := hK hl0 (l * i.size + j) (by simp at hj; omega)
                    rwa [Nat.add_assoc]
                  · have := hv hl0 (l * i.size + j) (by simp at hj; omega)
                    simpa using this
            · exact h.elim
          · exact h.elim
        · exact h.elim
      · exact h.elim
    · cases hc
  · cases hc

theorem good_makeMap (s : ASim B w0 R wr C st w) (f : FSim C n fr a) {t : TypeId} {r : Option Operand} (ho : o.op = .makeMap t r) (hc : compOp P (.makeMap t r) = some io) (h : aop P io fr st k) :
    Good P B w0 R wr C k ((execOp a.eval o).run P w) := by
  simp only [compOp] at hc
  split at hc
  · rename_i kt et hint hu hr
    cases hc
    have hg : (∀ id, st.h id = none → k (.map id) (st.new id (.map []))) → Good P B w0 R wr C k (.ok (.value (.map (some w.heap.size))) { w with heap := w.heap.push (.map #[] 0) }) := by
      intro h
      refine ⟨_, _, _, C.push_le (w.heap.size, 0) 0, s.alloc (.map #[] 0) (.map []) 0 ⟨#[], by rw [C.push_φ]; exact heap_push_eq _ _, rfl, fun i hi => absurd hi (by simp)⟩, ?_, h _ s.fresh⟩
      have := VS.map (C := C.push (w.heap.size, 0) 0) C.N (by rw [C.push_N]; omega)
      rw [C.push_φ] at this
      exact this
    simp only [aop] at h
    cases r with
    | none =>
      cases hr
      have e : (Instr.makeMap t none).run P w = .ok (.map (some w.heap.size)) { w with heap := w.heap.push (.map #[] 0) } := by simp [Instr.makeMap]
      unfold execOp; rw [ho]
      simp only [Option.map_none]
      rw [run_v e]
      exact hg h
    | some x =>
      simp only [cOpt] at hr
      obtain ⟨ix, h1, rfl⟩ := map_some hr
      have hx := arg_vs s.glob f h1
      simp only [] at h
      split at h
      · rename_i kd m hm
        rw [hm] at hx
        have e : (Instr.makeMap t (some (a.eval x))).run P w = .ok (.map (some w.heap.size)) { w with heap := w.heap.push (.map #[] 0) } := by
          simp [Instr.makeMap, run_und hu, hx.int_inv, asInt, asInt_run]
        unfold execOp; rw [ho]
        simp only [Option.map_some]
        rw [run_v e]
        exact hg h
      · exact h.elim
  · cases hc

theorem findNow_spec {kk : IntKind} {m : Int} : ∀ (rs : List MapEntry) (es : List (Int × AV)) (j : Nat), rs.length = es.length → (∀ i (h : i < es.length), (rs.getD i default).key = .int .i64 es[i].1) →
    Instr.findNow (.int kk) (.int .i64 m) rs j = some ((es.findIdx? fun e => e.1 == m).map fun i => (j + i, (rs.getD i default).val))
  | [], es, j, hl, _ => by
    have : es = [] := by simpa using hl.symm
    subst this; rfl
  | r :: rs, es, j, hl, hk => by
    match es, hl with
    | e :: es, hl =>
      have h0 := hk 0 (by simp)
      simp at h0
      have ih := findNow_spec (kk := kk) (m := m) rs es (j + 1) (by simpa using hl) (fun i hi => by have := hk (i + 1) (by simpa using hi); simpa using this)
      simp only [Instr.findNow, h0, Instr.sameNow, if_true]
      by_cases hem : e.1 = m
      · have h1 : (m == e.1) = true := by simp [hem]
        have h2 : (e.1 == m) = true := by simp [hem]
        simp [h1, h2, List.findIdx?_cons]
      · have h1 : (m == e.1) = false := by simp; exact fun h => hem h.symm
        have h2 : (e.1 == m) = false := by simp [hem]
        simp only [h1, ih, List.findIdx?_cons, h2, Bool.false_eq_true, if_false, Option.map_map]
        congr 2
        funext i
        simp [Nat.add_assoc, Nat.add_comm 1 i]

theorem run_findKey {kt : TypeId} {kk : IntKind} (hk : P.underlying kt = some (.int kk)) {m : Int} {rs : Array MapEntry} {es : List (Int × AV)} (hl : rs.size = es.length)
    (hkey : ∀ i (h : i < es.length), (rs.getD i default).key = .int .i64 es[i].1) :
    (Instr.findKey kt (.int .i64 m) rs.toList).run P w = .ok ((spot es m).map fun i => (i, (rs.getD i default).val)) w := by
  have hf := findNow_spec (kk := kk) (m := m) rs.toList es 0 (by simpa using hl) (fun i hi => by
    have := hkey i hi
    simpa [List.getD_eq_getElem?_getD, Array.getD_eq_getD_getElem?] using this)
  simp only [Instr.findKey, Sem.run_bind, run_und hk, Result.andThen_ok, hf, Sem.run_pure]
  congr 1
  unfold spot
  cases es.findIdx? fun e => e.1 == m <;> simp [List.getD_eq_getElem?_getD, Array.getD_eq_getD_getElem?]

theorem run_checkKey {kt : TypeId} {kk : IntKind} (hk : P.underlying kt = some (.int kk)) (b : Bool) (d : Nat) (v : Value) : (Instr.checkKey b (d + 1) kt v).run P w = .ok () w := by
  unfold Instr.checkKey
  simp only [Sem.run_bind, run_und hk, Result.andThen_ok]
  cases v <;> rfl

theorem zv_spec {t : TypeId} {z : AV} (h : zv P t = some z) (C : ACx) : ∃ v, (∀ w : World, (zeroValue t).run P w = .ok v w) ∧ VS C z v := by
  unfold zv at h
  split at h
  · rename_i i hi
    split at h
    · rename_i v hv
      exact ⟨v, fun w => run_zero hi hv w, cv_vs C h⟩
    · cases h
  · cases h

theorem look_spot (es : List (Int × AV)) (m : Int) : (look es m = none ∧ spot es m = none) ∨ ∃ i v, ∃ h : i < es.length, look es m = some v ∧ spot es m = some i ∧ es[i] = (m, v) := by
  unfold look spot
  induction es with
  | nil => left; exact ⟨rfl, rfl⟩
  | cons e es ih =>
    by_cases hem : e.1 = m
    · right
      refine ⟨0, e.2, by simp, ?_, ?_, ?_⟩
      · simp [List.find?_cons, hem]
      · simp [List.findIdx?_cons, hem]
      · simp [← hem]
    · have h2 : (e.1 == m) = false := by simp [hem]
      rcases ih with ⟨h3, h4⟩ | ⟨i, v, hi, h3, h4, h5⟩
      · left
        exact ⟨by simpa [List.find?_cons, h2] using h3, by simp [List.findIdx?_cons, h2, h4]⟩
      · right
        refine ⟨i + 1, v, by simp; omega, by simpa [List.find?_cons, h2] using h3, by simp [List.findIdx?_cons, h2, h4], by simpa using h5⟩

theorem tup2 {x y : AV} {rx ry : Value} (hx : VS C x rx) (hy : VS C y ry) : VS C (.tup [x, y]) (.tuple #[rx, ry]) := by
  refine .tup _ _ rfl fun i hi => ?_
  match i, hi with
  | 0, _ => simpa using hx
  | 1, _ => simpa using hy

theorem good_lookup (s : ASim B w0 R wr C st w) (f : FSim C n fr a) {t : TypeId} {x i : Operand} {ok : Bool} (ho : o.op = .lookup t x i ok) (hc : compOp P (.lookup t x i ok) = some io) (h : aop P io fr st k) :
    Good P B w0 R wr C k ((execOp a.eval o).run P w) := by
  simp only [compOp] at hc
  split at hc
  · rename_i kt et hu
    split at hc
    · rename_i kk z ix ii hk hz h1 h2
      cases hc
      obtain ⟨zr, hz1, hz2⟩ := zv_spec hz C
      have hx := arg_vs s.glob f h1
      have hi := arg_vs s.glob f h2
      simp only [aop] at h
      split at h
      · rename_i m hm
        rw [hm] at hi
        have hi' := hi.int_inv
        generalize hxa : fr.val ix = xa at h hx
        cases xa <;> simp only [] at h <;> try (exact h.elim)
        · have hx' : a.eval x = .map none := by generalize a.eval x = q at hx; cases hx; rfl
          have e : (Instr.lookup t (a.eval x) (a.eval i) ok).run P w = .ok (if ok then .tuple #[zr, .bool false] else zr) w := by
            simp only [Instr.lookup, Sem.run_bind, run_und hu, Result.andThen_ok, hx', hi', Sem.run_pure, run_checkKey hk, Instr.findKey, run_und hk, Instr.findNow, hz1]
          unfold execOp; rw [ho]; rw [run_v e]
          cases ok
          · exact Good.val s hz2 h
          · exact Good.val s (tup2 hz2 (.bool false)) h
        · rename_i id
          split at h
          · rename_i es hes
            obtain ⟨rs, r1, r2, r3⟩ := map_at s hes
            have hx' : a.eval x = .map (some (C.φ id).1) := by generalize a.eval x = q at hx; cases hx; rfl
            have hfk := run_findKey (P := P) (w := w) hk (m := m) r2 (fun j hj => (r3 j hj).1)
            rcases look_spot es m with ⟨l1, l2⟩ | ⟨j, v, hj, l1, l2, l3⟩
            · rw [l1] at h
              simp only [] at h
              have e : (Instr.lookup t (a.eval x) (a.eval i) ok).run P w = .ok (if ok then .tuple #[zr, .bool false] else zr) w := by
                simp only [Instr.lookup, Sem.run_bind, run_und hu, Result.andThen_ok, hx', hi', run_getMap r1, Sem.run_pure, run_checkKey hk, hfk, l2, Option.map_none, hz1]
              unfold execOp; rw [ho]; rw [run_v e]
              cases ok
              · exact Good.val s hz2 h
              · exact Good.val s (tup2 hz2 (.bool false)) h
            · rw [l1] at h
              simp only [] at h
              have e : (Instr.lookup t (a.eval x) (a.eval i) ok).run P w = .ok (if ok then .tuple #[(rs.getD j default).val, .bool true] else (rs.getD j default).val) w := by
                simp only [Instr.lookup, Sem.run_bind, run_und hu, Result.andThen_ok, hx', hi', run_getMap r1, Sem.run_pure, run_checkKey hk, hfk, l2, Option.map_some]
              unfold execOp; rw [ho]; rw [run_v e]
              have hv := (r3 j hj).2.1
              rw [l3] at hv
              cases ok
              · exact Good.val s hv h
              · exact Good.val s (tup2 hv (.bool true)) h
          · exact h.elim
      · exact h.elim
    · cases hc
  · cases hc

theorem wrote_map (s : ASim B w0 R wr C st w) {id : Nat} {es : List (Int × AV)} (h : st.h id = some (.map es)) {rs rs' : Array MapEntry} {c : Nat} (hr : w.heap[(C.φ id).1]? = some (.map rs c)) {es' : List (Int × AV)}
    (hs : rs'.size = es'.length) (hv : ∀ i (h : i < es'.length), (rs'.getD i default).key = .int .i64 es'[i].1 ∧ VS C es'[i].2 (rs'.getD i default).val ∧ (rs'.getD i default).born = i) :
    (setObj (C.φ id).1 (.map rs' es'.length)).run P w = .ok () { w with heap := w.heap.setIfInBounds (C.φ id).1 (.map rs' es'.length) } ∧
      ASim B w0 R wr C (st.set id (.map es')) { w with heap := w.heap.setIfInBounds (C.φ id).1 (.map rs' es'.length) } := by
  have hlt := heap_lt hr
  refine ⟨by simp [setObj, Sem.run, hr], s.wrote h _ _ rfl rfl rfl (by simp) (fun k hk => by simp [Array.getElem?_setIfInBounds_ne (Ne.symm hk)]) ⟨rs', by simp [hlt], hs, hv⟩⟩

theorem getD_modify (rs : Array MapEntry) (j i : Nat) (g : MapEntry → MapEntry) (h : i < rs.size) :
    (rs.modify j g).getD i default = if j = i then g (rs.getD i default) else rs.getD i default := by
  simp only [Array.getD_eq_getD_getElem?, Array.getElem?_modify, Array.getElem?_eq_getElem h]
  split <;> simp

theorem good_mapSet (s : ASim B w0 R wr C st w) (f : FSim C n fr a) {t : TypeId} {mm key v : Operand} (ho : o.op = .mapUpdate t mm key v) (hc : compOp P (.mapUpdate t mm key v) = some io) (h : aop P io fr st k) :
    Good P B w0 R wr C k ((execOp a.eval o).run P w) := by
  simp only [compOp] at hc
  split at hc
  · rename_i kt et hu
    split at hc
    · rename_i kk im ik iv hk h1 h2 h3
      cases hc
      have hx := arg_vs s.glob f h1
      have hi := arg_vs s.glob f h2
      have hv := arg_vs s.glob f h3
      simp only [aop] at h
      split at h
      · rename_i m id hm hid
        split at h
        · rename_i es hes
          rw [hm] at hi; rw [hid] at hx
          have hi' := hi.int_inv
          have hx' : a.eval mm = .map (some (C.φ id).1) := by generalize a.eval mm = q at hx; cases hx; rfl
          obtain ⟨rs, r1, r2, r3⟩ := map_at s hes
          have hfk := run_findKey (P := P) (w := w) hk (m := m) r2 (fun j hj => (r3 j hj).1)
          rcases look_spot es m with ⟨l1, l2⟩ | ⟨j, u, hj, l1, l2, l3⟩
          · have hes' : mput es m (fr.val iv) = es ++ [(m, fr.val iv)] := by simp [mput, l2]
            rw [hes'] at h
            obtain ⟨q1, q2⟩ := wrote_map (P := P) s hes r1 (rs' := rs.push { key := .int .i64 m, val := a.eval v, born := es.length }) (es' := es ++ [(m, fr.val iv)]) (by simp [r2]) (fun i hi2 => by
              by_cases e : i = es.length
              · subst e
                have h2 : es.length = rs.size := r2.symm
                simp [Array.getD_eq_getD_getElem?, h2]
                simpa [h2] using hv
              · have hlt : i < es.length := by simp at hi2; omega
                have hlt2 : i < rs.size := by omega
                have := r3 i hlt
                simpa [Array.getD_eq_getD_getElem?, Array.getElem?_push, hlt2, List.getElem_append_left hlt, Nat.ne_of_lt hlt2] using this)
            have e : (Instr.mapUpdate t (a.eval mm) (a.eval key) (a.eval v)).run P w = .ok () { w with heap := w.heap.setIfInBounds (C.φ id).1 (.map (rs.push { key := .int .i64 m, val := a.eval v, born := es.length }) (es ++ [(m, fr.val iv)]).length) } := by
              simp only [Instr.mapUpdate, Sem.run_bind, run_und hu, Result.andThen_ok, hx', hi', run_getMap r1, run_checkKey hk, hfk, l2, Option.map_none]
              rw [← q1]; simp
            unfold execOp; rw [ho]; rw [run_u e]
            exact good_skip (.refl C) q2 h
          · have hes' : mput es m (fr.val iv) = es.set j (m, fr.val iv) := by simp [mput, l2]
            rw [hes'] at h
            have hjr : j < rs.size := by omega
            have hkj := (r3 j hj).1
            rw [l3] at hkj
            simp only at hkj
            have hkj2 : (rs[j]).key = .int .i64 m := by simpa [Array.getD_eq_getD_getElem?, hjr] using hkj
            obtain ⟨q1, q2⟩ := wrote_map (P := P) s hes r1 (rs' := rs.modify j fun e => { e with key := .int .i64 m, val := a.eval v }) (es' := es.set j (m, fr.val iv)) (by simp [r2]) (fun i hi2 => by
              have hi3 : i < es.length := by simpa using hi2
              have hi4 : i < rs.size := by omega
              have := r3 i hi3
              rw [getD_modify _ _ _ _ hi4]
              by_cases e : j = i
              · subst e
                simp only [if_true, List.getElem_set_self]
                exact ⟨trivial, hv, this.2.2⟩
              · simp only [e, if_false, ne_eq, not_false_eq_true, List.getElem_set_ne]
                exact this)
            have hstay : (Instr.keyThatStays (((rs[j]?).map (·.key)).getD (.int .i64 m)) (.int .i64 m)).run P w = .ok (.int .i64 m) w := by
              simp [hjr, hkj2, Instr.keyThatStays, Instr.sameBits]
            have e : (Instr.mapUpdate t (a.eval mm) (a.eval key) (a.eval v)).run P w = .ok () { w with heap := w.heap.setIfInBounds (C.φ id).1 (.map (rs.modify j fun e => { e with key := .int .i64 m, val := a.eval v }) (es.set j (m, fr.val iv)).length) } := by
              simp only [Instr.mapUpdate, Sem.run_bind, run_und hu, Result.andThen_ok, hx', hi', run_getMap r1, run_checkKey hk, hfk, l2, Option.map_some, hstay]
              rw [← q1]; simp
            unfold execOp; rw [ho]; rw [run_u e]
            exact good_skip (.refl C) q2 h
        · exact h.elim
      · exact h.elim
    · cases hc
  · cases hc

theorem good_mapEntry (s : ASim B w0 R wr C st w) (f : FSim C n fr a) {t : TypeId} {mm key : Operand} (ho : o.op = .mapEntry t mm key) (hc : compOp P (.mapEntry t mm key) = some io) (h : aop P io fr st k) :
    Good P B w0 R wr C k ((execOp a.eval o).run P w) := by
  simp only [compOp] at hc
  split at hc
  · rename_i kt et hu
    split at hc
    · rename_i kk z im ik hk hz h1 h2
      cases hc
      obtain ⟨zr, hz1, hz2⟩ := zv_spec hz C
      have hx := arg_vs s.glob f h1
      have hi := arg_vs s.glob f h2
      simp only [aop] at h
      split at h
      · rename_i m id hm hid
        split at h
        · rename_i es hes
          rw [hm] at hi; rw [hid] at hx
          have hi' := hi.int_inv
          have hx' : a.eval mm = .map (some (C.φ id).1) := by generalize a.eval mm = q at hx; cases hx; rfl
          obtain ⟨rs, r1, r2, r3⟩ := map_at s hes
          have hfk := run_findKey (P := P) (w := w) hk (m := m) r2 (fun j hj => (r3 j hj).1)
          rcases look_spot es m with ⟨l1, l2⟩ | ⟨j, u, hj, l1, l2, l3⟩
          · rw [l2] at h
            simp only [] at h
            obtain ⟨q1, q2⟩ := wrote_map (P := P) s hes r1 (rs' := rs.push { key := .int .i64 m, val := zr, born := es.length }) (es' := es ++ [(m, z)]) (by simp [r2]) (fun i hi2 => by
              by_cases e : i = es.length
              · subst e
                have h2 : es.length = rs.size := r2.symm
                simp [Array.getD_eq_getD_getElem?, h2]
                simpa [h2] using hz2
              · have hlt : i < es.length := by simp at hi2; omega
                have hlt2 : i < rs.size := by omega
                have := r3 i hlt
                simpa [Array.getD_eq_getD_getElem?, Array.getElem?_push, hlt2, List.getElem_append_left hlt, Nat.ne_of_lt hlt2] using this)
            have e : (Instr.mapEntry t (a.eval mm) (a.eval key)).run P w = .ok (.tuple #[zr, .int .i64 es.length]) { w with heap := w.heap.setIfInBounds (C.φ id).1 (.map (rs.push { key := .int .i64 m, val := zr, born := es.length }) (es ++ [(m, z)]).length) } := by
              simp only [Instr.mapEntry, Sem.run_bind, run_und hu, Result.andThen_ok, hx', hi', run_getMap r1, run_checkKey hk, hfk, l2, Option.map_none, hz1]
              rw [List.length_append, List.length_singleton] at q1
              rw [q1]; simp [goInt]
            unfold execOp; rw [ho]; rw [run_v e]
            exact ⟨C, _, _, .refl C, q2, tup2 hz2 (.int _ _), h⟩
          · rw [l2] at h
            simp only [] at h
            rw [List.getElem?_eq_getElem hj] at h
            simp only [l3] at h
            have hjr : j < rs.size := by omega
            obtain ⟨b1, b2, b3⟩ := r3 j hj
            rw [l3] at b1 b2
            simp only at b1 b2
            have hkj2 : (rs[j]).key = .int .i64 m := by simpa [Array.getD_eq_getD_getElem?, hjr] using b1
            have hbj : (rs[j]).born = j := by simpa [Array.getD_eq_getD_getElem?, hjr] using b3
            obtain ⟨q1, q2⟩ := wrote_map (P := P) s hes r1 (rs' := rs.modify j fun e => { e with key := .int .i64 m }) (es' := es) (by simp [r2]) (fun i hi3 => by
              have hi4 : i < rs.size := by omega
              have := r3 i hi3
              rw [getD_modify _ _ _ _ hi4]
              by_cases e : j = i
              · subst e
                rw [l3] at this ⊢
                simp only [if_true]
                exact ⟨trivial, this.2.1, this.2.2⟩
              · simp only [e, if_false]
                exact this)
            rw [ASt.set_self _ _ _ hes] at q2
            have hstay : (Instr.keyThatStays (((rs[j]?).map (·.key)).getD (.int .i64 m)) (.int .i64 m)).run P w = .ok (.int .i64 m) w := by
              simp [hjr, hkj2, Instr.keyThatStays, Instr.sameBits]
            have e : (Instr.mapEntry t (a.eval mm) (a.eval key)).run P w = .ok (.tuple #[(rs.getD j default).val, .int .i64 j]) { w with heap := w.heap.setIfInBounds (C.φ id).1 (.map (rs.modify j fun e => { e with key := .int .i64 m }) es.length) } := by
              simp only [Instr.mapEntry, Sem.run_bind, run_und hu, Result.andThen_ok, hx', hi', run_getMap r1, run_checkKey hk, hfk, l2, Option.map_some, hstay, q1]
              simp [goInt, hjr, hbj]
            unfold execOp; rw [ho]; rw [run_v e]
            exact ⟨C, _, _, .refl C, q2, tup2 b2 (.int _ _), h⟩
        · exact h.elim
      · exact h.elim
    · cases hc
  · cases hc

theorem good_entryStore (s : ASim B w0 R wr C st w) (f : FSim C n fr a) {t : TypeId} {mm x v : Operand} (ho : o.op = .entryStore t mm x v) (hc : compOp P (.entryStore t mm x v) = some io) (h : aop P io fr st k) :
    Good P B w0 R wr C k ((execOp a.eval o).run P w) := by
  simp only [compOp] at hc
  cases h1 : cArg mm with
  | none => simp [h1] at hc
  | some im =>
  cases h2 : cArg x with
  | none => simp [h1, h2] at hc
  | some ix =>
  cases h3 : cArg v with
  | none => simp [h1, h2, h3] at hc
  | some iv =>
  simp [h1, h2, h3] at hc
  subst hc
  have hx := arg_vs s.glob f h1
  have hi := arg_vs s.glob f h2
  have hv := arg_vs s.glob f h3
  simp only [aop] at h
  split at h
  · rename_i m id hm hid
    split at h
    · rename_i es hes
      obtain ⟨h0, h⟩ := h
      split at h
      · rename_i e0 he0
        rw [hm] at hi; rw [hid] at hx
        have hi' := hi.int_inv
        have hx' : a.eval mm = .map (some (C.φ id).1) := by generalize a.eval mm = q at hx; cases hx; rfl
        obtain ⟨rs, r1, r2, r3⟩ := map_at s hes
        have hj : m.toNat < es.length := by
          rcases Nat.lt_or_ge m.toNat es.length with h' | h'
          · exact h'
          · rw [List.getElem?_eq_none h'] at he0; cases he0
        rw [List.getElem?_eq_getElem hj] at he0
        cases he0
        have hjr : m.toNat < rs.size := by omega
        have hfind : rs.findIdx? (fun e => (e.born : Int) == m) = some m.toNat := by
          rw [Array.findIdx?_eq_some_iff_getElem]
          refine ⟨hjr, ?_, fun i hi2 => ?_⟩
          · have := (r3 _ hj).2.2
            have e : (rs[m.toNat]).born = m.toNat := by simpa [Array.getD_eq_getD_getElem?, hjr] using this
            simp [e]; omega
          · have hi3 : i < rs.size := by omega
            have := (r3 i (by omega)).2.2
            have e : (rs[i]).born = i := by simpa [Array.getD_eq_getD_getElem?, hi3] using this
            simp [e]; omega
        obtain ⟨q1, q2⟩ := wrote_map (P := P) s hes r1 (rs' := rs.modify m.toNat fun e => { e with val := a.eval v }) (es' := es.set m.toNat (es[m.toNat].1, fr.val iv)) (by simp [r2]) (fun i hi2 => by
          have hi3 : i < es.length := by simpa using hi2
          have hi4 : i < rs.size := by omega
          have := r3 i hi3
          rw [getD_modify _ _ _ _ hi4]
          by_cases e : m.toNat = i
          · subst e
            simp only [if_true, List.getElem_set_self]
            exact ⟨this.1, hv, this.2.2⟩
          · simp only [e, if_false, ne_eq, not_false_eq_true, List.getElem_set_ne]
            exact this)
        have e : (Instr.entryStore t (a.eval mm) (a.eval x) (a.eval v)).run P w = .ok () { w with heap := w.heap.setIfInBounds (C.φ id).1 (.map (rs.modify m.toNat fun e => { e with val := a.eval v }) (es.set m.toNat (es[m.toNat].1, fr.val iv)).length) } := by
          simp only [Instr.entryStore, Sem.run_bind, Result.andThen_ok, hx', hi', run_getMap r1, asInt, asInt_run, Sem.run_pure, hfind]
          rw [← q1]; simp
        unfold execOp; rw [ho]; rw [run_u e]
        exact good_skip (.refl C) q2 h
      · exact h.elim
    · exact h.elim
  · exact h.elim

end
end Go.Proofs.YtdmfgodajoojpaaGreatDoor.Cn
/- The abstract layer, part 13: comparisons; every operation is sound. -/
set_option linter.unusedSimpArgs false
set_option linter.unusedVariables false
namespace Go.Proofs.YtdmfgodajoojpaaGreatDoor.Cn
open Go Go.RowKit

section
variable {P : Program} {B : Nat} {w0 : World} {R : Nat → Prop} {wr : World} {C : ACx} {st : ASt} {w : World} {k : AV → ASt → Prop} {fr : AFr} {a : Act} {n : Nat} {o : Oper} {io : IOp}

theorem eqFields_plain (rx ry : Array Value) (d : Nat) : ∀ (fs : List Field) (m : Nat) (ks : List Bool) (xs ys : List AV) (b : Bool), fieldKinds P fs m = some ks → aeqL ks xs ys = some b →
    (∀ i (h : i < xs.length), VS C xs[i] (rx.getD (m + i) undef)) → (∀ i (h : i < ys.length), VS C ys[i] (ry.getD (m + i) undef)) → m + xs.length ≤ rx.size → m + ys.length ≤ ry.size →
    (Op.eqFields (d + 1) rx ry fs).run P w = .ok b w
  | [], m, ks, xs, ys, b, hf, he, _, _, _, _ => by
    cases hf
    cases xs <;> cases ys <;> simp [aeqL] at he
    subst he; rfl
  | f :: fs, m, ks, xs, ys, b, hf, he, hx, hy, sx, sy => by
    simp only [fieldKinds] at hf
    split at hf
    · rename_i hc
      obtain ⟨hname, hoff⟩ := hc
      split at hf
      · rename_i kk ks' hu hk
        cases hf
        cases xs with
        | nil => simp [aeqL] at he
        | cons x xs =>
        cases ys with
        | nil => cases x <;> simp [aeqL] at he
        | cons y ys =>
        cases x <;> cases y <;> simp only [aeqL] at he <;> try (cases he; done)
        rename_i k1 i1 k2 i2
        split at he
        · rename_i hkk
          subst hkk
          obtain ⟨b', hb', rfl⟩ := map_some he
          have h0 := (hx 0 (by simp)).int_inv
          have h1 := (hy 0 (by simp)).int_inv
          simp only [Nat.add_zero] at h0 h1
          have lx : m < rx.size := by simp at sx; omega
          have ly : m < ry.size := by simp at sy; omega
          have ha : aggB P f.type = false := by simp [aggB, hu]
          have p0 : (part f.type rx m).run P w = .ok (.int k1 i1) w := by
            simp [part, run_agg hu, ha, lx]; simpa [Array.getD_eq_getD_getElem?, lx] using h0
          have p1 : (part f.type ry m).run P w = .ok (.int k1 i2) w := by
            simp [part, run_agg hu, ha, ly]; simpa [Array.getD_eq_getD_getElem?, ly] using h1
          have ih := eqFields_plain rx ry d fs (m + 1) ks' xs ys b' hk hb' (fun i hi => by have := hx (i + 1) (by simpa using hi); simpa [Nat.add_assoc, Nat.add_comm 1 i] using this)
            (fun i hi => by have := hy (i + 1) (by simpa using hi); simpa [Nat.add_assoc, Nat.add_comm 1 i] using this) (by simp at sx; omega) (by simp at sy; omega)
          simp only [Op.eqFields, hname, ne_eq, not_false_eq_true, if_true, Sem.run_bind, hoff, p0, p1, Result.andThen_ok, run_equalIn_int w d f.type k1 kk i1 i2 hu, Bool.beq_eq_decide_eq, Sem.run_ite, Sem.run_pure, ih]
          by_cases e : i1 = i2 <;> simp [e]
        · cases he
      · rename_i ks' hu hk
        cases hf
        cases xs with
        | nil => simp [aeqL] at he
        | cons x xs =>
        cases ys with
        | nil => cases x <;> simp [aeqL] at he
        | cons y ys =>
        cases x <;> cases y <;> simp only [aeqL] at he <;> try (cases he; done)
        rename_i i1 i2
        obtain ⟨b', hb', rfl⟩ := map_some he
        have h0 := (hx 0 (by simp)).bool_inv
        have h1 := (hy 0 (by simp)).bool_inv
        simp only [Nat.add_zero] at h0 h1
        have lx : m < rx.size := by simp at sx; omega
        have ly : m < ry.size := by simp at sy; omega
        have ha : aggB P f.type = false := by simp [aggB, hu]
        have p0 : (part f.type rx m).run P w = .ok (.bool i1) w := by
          simp [part, run_agg hu, ha, lx]; simpa [Array.getD_eq_getD_getElem?, lx] using h0
        have p1 : (part f.type ry m).run P w = .ok (.bool i2) w := by
          simp [part, run_agg hu, ha, ly]; simpa [Array.getD_eq_getD_getElem?, ly] using h1
        have ih := eqFields_plain rx ry d fs (m + 1) ks' xs ys b' hk hb' (fun i hi => by have := hx (i + 1) (by simpa using hi); simpa [Nat.add_assoc, Nat.add_comm 1 i] using this)
          (fun i hi => by have := hy (i + 1) (by simpa using hi); simpa [Nat.add_assoc, Nat.add_comm 1 i] using this) (by simp at sx; omega) (by simp at sy; omega)
        simp only [Op.eqFields, hname, ne_eq, not_false_eq_true, if_true, Sem.run_bind, hoff, p0, p1, Result.andThen_ok, run_equalIn_bool' w d f.type i1 i2 hu, Sem.run_ite, Sem.run_pure, ih]
        cases i1 <;> cases i2 <;> simp
      · cases hf
    · cases hf

theorem good_binOp (s : ASim B w0 R wr C st w) (f : FSim C n fr a) {op : BinOp} {t u : TypeId} {x y : Operand} (ho : o.op = .binOp op t x y u) (hc : compOp P (.binOp op t x y u) = some io) (h : aop P io fr st k) :
    Good P B w0 R wr C k ((execOp a.eval o).run P w) := by
  simp only [compOp] at hc
  cases h1 : cArg x with
  | none => simp [h1] at hc
  | some ix =>
  cases h2 : cArg y with
  | none => simp [h1, h2] at hc
  | some iy =>
  simp only [h1, h2] at hc
  have hx := arg_vs s.glob f h1
  have hy := arg_vs s.glob f h2
  have e0 : execOp a.eval o = (do pure (.value (← (do eqGuard op t x y (a.eval x) (a.eval y); Go.binOp op t (a.eval x) (a.eval y))))) := by unfold execOp; rw [ho]
  rw [e0]
  split at hc
  · rename_i kk hu
    cases hc
    simp only [aop] at h
    split at h
    · rename_i v hv
      obtain ⟨rv, r1, r2⟩ := abinv_sound (P := P) hv hx hy t w
      have hg : (eqGuard op t x y (a.eval x) (a.eval y)).run P w = .ok () w := by
        refine eqGuard_pass ?_
        revert hv hx
        generalize fr.val ix = ax
        generalize a.eval x = rx
        intro hx hv
        cases ax <;> try (simp [abinv] at hv; done)
        rw [hx.int_inv]; simp
      have e : (do eqGuard op t x y (a.eval x) (a.eval y); Go.binOp op t (a.eval x) (a.eval y) : Sem Value).run P w = .ok rv w := by
        simp only [Sem.run_bind, hg, Result.andThen_ok, r1]
      rw [run_v e]
      exact Good.val s r2 h
    · exact h.elim
  · rename_i hu
    have key : ∀ neg : Bool, (op = if neg then .neq else .eql) → aop P (.eqB neg ix iy) fr st k → Good P B w0 R wr C k ((do pure (.value (← (do eqGuard op t x y (a.eval x) (a.eval y); Go.binOp op t (a.eval x) (a.eval y)))) : Sem Next).run P w) := by
      intro neg hop h
      simp only [aop] at h
      split at h
      · rename_i p q hp hq
        rw [hp] at hx; rw [hq] at hy
        have e : (do eqGuard op t x y (a.eval x) (a.eval y); Go.binOp op t (a.eval x) (a.eval y) : Sem Value).run P w = .ok (.bool (neg ^^ decide (p = q))) w := by
          rw [hx.bool_inv, hy.bool_inv]
          have hg : (eqGuard op t x y (.bool p) (.bool q)).run P w = .ok () w := eqGuard_pass (by simp)
          simp only [Sem.run_bind, hg, Result.andThen_ok]
          cases neg
          · simp only [Bool.false_eq_true, if_false] at hop; subst hop
            rw [binOp_eql (by simp)]
            simp [equal_bool hu]
          · simp only [if_true] at hop; subst hop
            rw [binOp_neq (by simp)]
            simp [equal_bool hu]
        rw [run_v e]
        exact Good.val s (.bool _) h
      · exact h.elim
    cases op <;> simp only [] at hc <;> cases hc
    · exact key false rfl h
    · exact key true rfl h
  · rename_i fs hu
    split at hc
    · rename_i hcond
      simp only [Bool.and_eq_true, Bool.not_eq_true'] at hcond
      obtain ⟨hsi, hgu⟩ := hcond
      have key : ∀ (neg : Bool) (ks : List Bool), (op = if neg then .neq else .eql) → fieldKinds P fs.toList 0 = some ks → aop P (.eqS ks neg ix iy) fr st k →
          Good P B w0 R wr C k ((do pure (.value (← (do eqGuard op t x y (a.eval x) (a.eval y); Go.binOp op t (a.eval x) (a.eval y)))) : Sem Next).run P w) := by
        intro neg ks hop hks h
        simp only [aop] at h
        split at h
        · rename_i xs ys hp hq
          split at h
          · rename_i b hb
            rw [hp] at hx; rw [hq] at hy
            generalize a.eval x = rx at hx
            generalize a.eval y = ry at hy
            cases hx with
            | agg _ vx lx qx =>
            cases hy with
            | agg _ vy ly qy =>
            have hfo : P.fieldsOf t = fs := by simp [Program.fieldsOf, hu]
            have heq : (Op.equalIn 10000 t (.agg vx) (.agg vy)).run P w = .ok b w := by
              rw [run_equalIn_struct w 9999 t vx vy (by rw [hfo]; exact hu) hsi, hfo]
              exact eqFields_plain vx vy 9998 _ 0 ks xs ys b hks hb (fun i hi => by simpa using qx i hi) (fun i hi => by simpa using qy i hi) (by omega) (by omega)
            have e : (do eqGuard op t x y (.agg vx) (.agg vy); Go.binOp op t (.agg vx) (.agg vy) : Sem Value).run P w = .ok (.bool (neg ^^ b)) w := by
              simp only [Sem.run_bind, run_eqGuard_agg w op t x y vx vy hgu, Result.andThen_ok]
              cases neg
              · simp only [Bool.false_eq_true, if_false] at hop; subst hop
                rw [run_eql_struct, heq]; simp
              · simp only [if_true] at hop; subst hop
                rw [run_neq_struct, heq]; simp
            rw [run_v e]
            exact Good.val s (.bool _) h
          · exact h.elim
        · exact h.elim
      cases op <;> simp only [] at hc <;> try (cases hc; done)
      · obtain ⟨ks, h3, rfl⟩ := map_some hc
        exact key false ks rfl h3 h
      · obtain ⟨ks, h3, rfl⟩ := map_some hc
        exact key true ks rfl h3 h
    · cases hc
  · rename_i d hne1 hne2 hne3 hu
    split at hc
    · rename_i kind hkind
      have key : ∀ neg : Bool, (op = if neg then .neq else .eql) → aop P (.eqP kind neg ix iy) fr st k → Good P B w0 R wr C k ((do pure (.value (← (do eqGuard op t x y (a.eval x) (a.eval y); Go.binOp op t (a.eval x) (a.eval y)))) : Sem Next).run P w) := by
        intro neg hop h
        simp only [aop] at h
        split at h
        · rename_i b hb
          have heq := aeqP_sound (P := P) hb hx hy hu hkind w
          have hsh : ((∀ k n, a.eval x ≠ .int k n) ∧ (∀ k n, a.eval x ≠ .float k n) ∧ (∀ k p q, a.eval x ≠ .complex k p q) ∧ ∀ s, a.eval x ≠ .string s) ∧ (∀ cs, a.eval x ≠ .agg cs) ∧ a.eval x ≠ .nilIface := by
            rcases aeqP_cases hb with ⟨g1, g2⟩ | ⟨g1, g2⟩
            · exact nilShape hx g1
            · exact nilShape hx g1
          have e : (do eqGuard op t x y (a.eval x) (a.eval y); Go.binOp op t (a.eval x) (a.eval y) : Sem Value).run P w = .ok (.bool (neg ^^ b)) w := by
            have hg : (eqGuard op t x y (a.eval x) (a.eval y)).run P w = .ok () w := eqGuard_pass hsh.2
            simp only [Sem.run_bind, hg, Result.andThen_ok]
            cases neg
            · simp only [Bool.false_eq_true, if_false] at hop; subst hop
              rw [binOp_eql hsh.1]; simp [heq]
            · simp only [if_true] at hop; subst hop
              rw [binOp_neq hsh.1]; simp [heq]
          rw [run_v e]
          exact Good.val s (.bool _) h
        · exact h.elim
      cases op <;> simp only [] at hc <;> cases hc
      · exact key false rfl h
      · exact key true rfl h
    · cases hc
  · cases hc

theorem good_callAny (s : ASim B w0 R wr C st w) (f : FSim C n fr a) {c : Call} (ho : o.op = .call c) (hc : compCall P c = some io) (h : aop P io fr st k) :
    Good P B w0 R wr C k ((execOp a.eval o).run P w) := by
  have hc0 := hc
  unfold compCall at hc
  split at hc
  · rename_i g hcal
    split at hc
    · rename_i hb
      obtain ⟨il, h1, rfl⟩ := map_some hc
      exact good_call s f ho hcal h1 hb h
    · cases hc
  · rename_i t hcal
    obtain ⟨il, h1, rfl⟩ := map_some hc
    exact good_callv s f ho hcal h1 h
  · rename_i hcal
    split at hc
    · rename_i x t ha ht
      split at hc
      · rename_i e hu
        obtain ⟨ix, h1, rfl⟩ := map_some hc
        exact good_len s f ho hcal ha ht hu h1 h
      · rename_i kt e hu
        obtain ⟨ix, h1, rfl⟩ := map_some hc
        exact good_mlen s f ho hcal ha ht hu h1 h
      · rename_i m e hu
        cases hc
        simp only [aop] at h
        have hargs : c.args.map a.eval = #[a.eval x] := by
          apply Array.ext'
          simp [ha]
        have hts' : c.argTypes = #[t] := Array.ext' ht
        have e : (execOp a.eval o).run P w = .ok (.value (.int .i64 m)) w := by
          unfold execOp; rw [ho]
          simp only [resolve, hcal, Sem.run_bind, Sem.run_pure, Result.andThen_ok, invoke, hargs, builtin, hts', Builtin.len_, List.getElem?_toArray, List.getElem?_cons_zero, run_und hu]
          rfl
        rw [e]
        exact Good.val s (.int _ _) h
      · cases hc
    · cases hc
  · rename_i hcal
    split at hc
    · rename_i x y ha
      split at hc
      · rename_i ix iy h1 h2
        cases hc
        exact good_minmax (mx := true) s f ho hcal ha h1 h2 h
      · cases hc
    · cases hc
  · rename_i hcal
    split at hc
    · rename_i x y ha
      split at hc
      · rename_i ix iy h1 h2
        cases hc
        exact good_minmax (mx := false) s f ho hcal ha h1 h2 h
      · cases hc
    · cases hc
  · rename_i hcal
    exact good_append s f ho hcal hc0 h
  · cases hc

theorem op_good (s : ASim B w0 R wr C st w) (f : FSim C n fr a) (hc : compOp P o.op = some io) (h : aop P io fr st k) : Good P B w0 R wr C k ((execOp a.eval o).run P w) := by
  cases ho : o.op with
  | move x => rw [ho] at hc; exact good_move s f (.inl ho) hc h
  | assign x => rw [ho] at hc; exact good_move s f (.inr ho) hc h
  | pick c x y => rw [ho] at hc; exact good_pick s f ho hc h
  | nilCheck x => rw [ho] at hc; exact good_nilchk s f ho hc h
  | binOp op t x y u => rw [ho] at hc; exact good_binOp s f ho hc h
  | unOp op t x => rw [ho] at hc; exact good_un s f ho hc h
  | convert t u x => rw [ho] at hc; exact good_conv s f ho hc h
  | indexAddr t x i => rw [ho] at hc; exact good_idxAddr s f ho hc h
  | fieldAddr t x j => rw [ho] at hc; exact good_fldAddr s f ho hc h
  | load t x => rw [ho] at hc; exact good_load s f ho hc h
  | store t x y => rw [ho] at hc; exact good_store s f ho hc h
  | field t x j => rw [ho] at hc; exact good_field s f ho hc h
  | index t x i => rw [ho] at hc; exact good_index s f ho hc h
  | alloc t => rw [ho] at hc; exact good_alloc s f ho hc h
  | box t x => rw [ho] at hc; exact good_box s f ho hc h
  | build t p => rw [ho] at hc; exact good_build s f ho hc h
  | buildSlice t l p => rw [ho] at hc; exact good_buildSlice s f ho hc h
  | makeSlice t l c => rw [ho] at hc; exact good_makeSlice s f ho hc h
  | slice t x l h' m => rw [ho] at hc; exact good_slice s f ho hc h
  | extract x i => rw [ho] at hc; exact good_extract s f ho hc h
  | makeMap t r => rw [ho] at hc; exact good_makeMap s f ho hc h
  | lookup t x i b => rw [ho] at hc; exact good_lookup s f ho hc h
  | mapUpdate t m x v => rw [ho] at hc; exact good_mapSet s f ho hc h
  | mapEntry t m x => rw [ho] at hc; exact good_mapEntry s f ho hc h
  | entryStore t m x v => rw [ho] at hc; exact good_entryStore s f ho hc h
  | makeFunc fn first cap =>
    rw [ho] at hc
    cases fn with
    | func g => exact good_makeFunc s f ho hc h
    | _ => cases hc
  | call c => rw [ho] at hc; exact good_callAny s f ho hc h
  | _ => rw [ho] at hc; cases hc

end
end Go.Proofs.YtdmfgodajoojpaaGreatDoor.Cn
/- The abstract layer, part 14: regions in the order of their text. -/
set_option linter.unusedSimpArgs false
set_option linter.unusedVariables false
namespace Go.Proofs.YtdmfgodajoojpaaGreatDoor.Cn
open Go Go.RowKit

def cGuard (ops : Array Oper) : Option (Nat × Bool) → Option (Option (Nat × Bool))
  | none => some none
  | some (j, want) => match ops[j]? with
    | some o => match o.dst with
      | some d => some (some (d, want))
      | none => none
    | none => none

def dstOk (n : Nat) : Option Nat → Bool
  | none => true
  | some d => decide (d < n)

def compOper (P : Program) (n : Nat) (ops : Array Oper) (o : Oper) : Option IOper :=
  match compOp P o.op, cGuard ops o.guard with
  | some io, some g => if dstOk n o.dst then some { dst := o.dst, op := io, guard := g, held := [], ahead := [] } else none
  | _, _ => none

def compIdx (P : Program) (n : Nat) (ops : Array Oper) : List Nat → Option (List IOper)
  | [] => some []
  | i :: r => match ops[i]? with
    | some o => match compOper P n ops o, compIdx P n ops r with
      | some x, some xs => some (x :: xs)
      | _, _ => none
    | none => none

section
variable {P : Program} {B : Nat} {w0 : World} {R : Nat → Prop} {wr : World} {C : ACx} {st : ASt} {w : World} {fr : AFr} {a : Act} {n : Nat}

def Owes (B : Nat) (w0 : World) (R : Nat → Prop) (wr : World) (C : ACx) (n : Nat) (ds : List Deferred) (k : AFr → ASt → Prop) (a : Act) (w : World) : Prop :=
  ∃ C' fr' st', C.le C' ∧ ASim B w0 R wr C' st' w ∧ FSim C' n fr' a ∧ a.defers = ds ∧ k fr' st'

theorem undef_vs {rv : Value} (h : VS C (.tup []) rv) : rv = undef := by
  cases h with
  | tup _ vs hl _ =>
    have : vs = #[] := Array.eq_empty_of_size_eq_zero (by simpa using hl)
    subst this; rfl

theorem vs_undef : VS C (.tup []) undef := .tup [] #[] rfl fun i hi => absurd hi (by simp)

theorem step_sound {ops : Array Oper} {i : Nat} {o : Oper} {io : IOper} (hi : ops[i]? = some o) (hc : compOper P n ops o = some io) {k : AFr → ASt → Prop} (s : ASim B w0 R wr C st w) (f : FSim C n fr a)
    (h : astep0 P io k fr st) {Q : Exit → Act → World → Prop} {K : Act → World → Prop}
    (hK : ∀ C' fr' st' a' w', C.le C' → ASim B w0 R wr C' st' w' → FSim C' n fr' a' → a'.defers = a.defers → k fr' st' → K a' w') : wpOp P ops Q i K a w := by
  unfold compOper at hc
  split at hc
  · rename_i op g hop hg
    split at hc
    · rename_i hd
      cases hc
      have hd' : ∀ t, o.dst = some t → t < n := by
        intro t ht
        rw [ht] at hd
        simpa [dstOk] using hd
      have run : aop P op fr st (fun v st' => k (fr.set o.dst v) st') → o.wp P a w K Q := by
        intro h
        have hgood := op_good (P := P) (o := o) s f hop h
        unfold Oper.wp
        generalize (execOp a.eval o).run P w = r at hgood
        cases r with
        | ok x w' =>
          cases x with
          | value rv =>
            obtain ⟨C', v, st', hC, s', hv, hk⟩ := hgood
            exact hK C' _ st' _ w' hC s' ((f.mono hC).put o.dst hd' hv) (put_defers _ _ _) hk
          | skip =>
            obtain ⟨C', st', hC, s', hk⟩ := hgood
            exact hK C' _ st' _ w' hC s' ((f.mono hC).put o.dst hd' vs_undef) (put_defers _ _ _) hk
          | enter g args =>
            refine Calls.mono hgood ?_
            rintro e w'' ⟨C', v, st', rv, hC, s', rfl, hv, hk⟩
            exact hK C' _ st' _ w'' hC s' ((f.mono hC).put o.dst hd' hv) (put_defers _ _ _) hk
          | _ => exact hgood.elim
        | halt x w' => exact hgood.elim
      have skip : k (fr.set o.dst (.tup [])) st → K (a.put o.dst undef) w := fun h =>
        hK C _ st _ w (.refl C) s (f.put o.dst hd' vs_undef) (put_defers _ _ _) h
      unfold wpOp
      simp only [hi]
      unfold astep0 at h
      simp only at h
      cases hog : o.guard with
      | none =>
        rw [hog] at hg
        cases hg
        simp only [] at h
        have : Region.wanted o (yielded ops a.tmps) = true := by simp [Region.wanted, hog]
        rw [if_pos this]
        exact .inl (run h)
      | some jw =>
        obtain ⟨j, want⟩ := jw
        rw [hog] at hg
        simp only [cGuard] at hg
        split at hg
        · rename_i oj hj
          split at hg
          · rename_i d hdj
            cases hg
            simp only [] at h
            have hy : yielded ops a.tmps j = (match a.tmps[d]? with | some (.bool b) => some b | _ => none) := by
              simp only [yielded, hj, hdj, Option.bind_some]
              rcases a.tmps[d]? with _ | v
              · rfl
              · cases v <;> rfl
            have hget := f.get d
            split at h
            · rename_i b hb
              rw [hb] at hget
              have hbv := hget.bool_inv
              have hyb : yielded ops a.tmps j = some b := by
                rw [hy]
                have : a.tmps[d]? = some (.bool b) := by
                  rw [Array.getD_eq_getD_getElem?] at hbv
                  cases hx : a.tmps[d]? with
                  | none => rw [hx] at hbv; simp [undef] at hbv
                  | some x => rw [hx] at hbv; simp at hbv; rw [hbv]
                rw [this]
              by_cases hbw : b = want
              · rw [if_pos hbw] at h
                have : Region.wanted o (yielded ops a.tmps) = true := by simp [Region.wanted, hog, hyb, hbw]
                rw [if_pos this]
                exact .inl (run h)
              · rw [if_neg hbw] at h
                have : Region.wanted o (yielded ops a.tmps) = false := by simp [Region.wanted, hog, hyb, hbw]
                rw [this]
                simp only [Bool.false_eq_true, if_false]
                exact skip h
            · rename_i hb
              rw [hb] at hget
              have hyb : yielded ops a.tmps j = none := by
                rw [hy]
                have hu := undef_vs hget
                rw [Array.getD_eq_getD_getElem?] at hu
                cases hx : a.tmps[d]? with
                | none => rfl
                | some x => rw [hx] at hu; simp at hu; rw [hu]; rfl
              have : Region.wanted o (yielded ops a.tmps) = false := by simp [Region.wanted, hog, hyb]
              rw [this]
              simp only [Bool.false_eq_true, if_false]
              exact skip h
            · exact h.elim
          · cases hg
        · cases hg
    · cases hc
  · cases hc

theorem ops_sound {ops : Array Oper} {ds : List Deferred} {k : AFr → ASt → Prop} {Q : Exit → Act → World → Prop} {C0 : ACx} (hQ : ∀ a w, Owes B w0 R wr C0 n ds k a w → Q .normal a w) :
    ∀ (l : List Nat) (il : List IOper) (C : ACx) (fr : AFr) (st : ASt) (a : Act) (w : World), compIdx P n ops l = some il → C0.le C → ASim B w0 R wr C st w → FSim C n fr a → a.defers = ds → aops P il k fr st → wpOps P ops Q l a w
  | [], il, C, fr, st, a, w, hc, hC, s, f, hd, h => by
    cases hc
    exact hQ a w ⟨C, fr, st, hC, s, f, hd, h⟩
  | i :: l, il, C, fr, st, a, w, hc, hC, s, f, hd, h => by
    simp only [compIdx] at hc
    split at hc
    · rename_i o ho
      split at hc
      · rename_i x xs hx hxs
        cases hc
        rw [wpOps_cons]
        refine step_sound ho hx s f h.2 fun C' fr' st' a' w' hC' s' f' hd' hk => ?_
        exact ops_sound hQ l xs C' fr' st' a' w' hxs (hC.trans hC') s' f' (hd'.trans hd) hk.2
      · cases hc
    · cases hc

end
end Go.Proofs.YtdmfgodajoojpaaGreatDoor.Cn
/- The abstract layer, part 15: what an operation hangs on, and what it leaves alone. -/
set_option linter.unusedSimpArgs false
set_option linter.unusedVariables false
namespace Go.Proofs.YtdmfgodajoojpaaGreatDoor.Cn
open Go Go.RowKit

section
variable {P : Program} {fr fr' : AFr} {st : ASt}

theorem ACalls.mono {f : Nat} {args : List AV} {Q Q' : AV → ASt → Prop} (h : ACalls P f args st Q) (hq : ∀ v st', Q v st' → Q' v st') : ACalls P f args st Q' :=
  fun B w0 R wr C w vs s h1 h2 => (h B w0 R wr C w vs s h1 h2).mono fun e w' ⟨C', v, st', rv, a, b, c, d, q⟩ => ⟨C', v, st', rv, a, b, c, d, hq _ _ q⟩

theorem aop_mono {op : IOp} {k k' : AV → ASt → Prop} (hk : ∀ v st', k v st' → k' v st') (h : aop P op fr st k) : aop P op fr st k' := by
  cases op <;> simp only [aop] at h ⊢
  case call => exact h.mono hk
  case callv =>
    split at h
    · exact ⟨h.1, h.2.mono hk⟩
    · exact h
  case append =>
    split at h
    · split at h
      · refine ⟨h.1, ?_⟩
        have h := h.2
        split at h
        · rename_i hm; rw [if_pos hm]; exact hk _ _ h
        · rename_i hm; rw [if_neg hm]
          split at h
          · exact fun id hid => hk _ _ (h id hid)
          · exact fun id hid => hk _ _ (h id hid)
          · split at h
            · exact ⟨h.1, fun id hid => hk _ _ (h.2 id hid)⟩
            · exact h
          · exact h
      · exact h
    · exact h
  case slice =>
    split at h
    · split at h
      · split at h
        · split at h
          · exact ⟨h.1, h.2.1, hk _ _ h.2.2⟩
          · exact h
        · exact h
      · exact h
    · exact h
  case pick => split at h <;> first | exact hk _ _ h | exact h.elim
  case minmax => split at h <;> first | exact ⟨h.1, hk _ _ h.2⟩ | exact h.elim
  case lookup =>
    split at h
    · split at h
      · exact hk _ _ h
      · split at h
        · split at h <;> exact hk _ _ h
        · exact h.elim
      · exact h.elim
    · exact h.elim
  case index1 =>
    split at h
    · refine ⟨h.1, ?_⟩
      have h := h.2
      split at h <;> first | exact hk _ _ h | exact h.elim
    · exact h.elim
  case strIdx =>
    split at h
    · refine ⟨h.1, ?_⟩
      have h := h.2
      split at h <;> first | exact hk _ _ h | exact h.elim
    · exact h.elim
  case entryStore =>
    split at h
    · split at h
      · refine ⟨h.1, ?_⟩
        have h := h.2
        split at h <;> first | exact hk _ _ h | exact h.elim
      · exact h.elim
    · exact h.elim
  all_goals
    repeat' split at h
    all_goals first
      | exact h.elim
      | exact hk _ _ h
      | exact fun id hid => hk _ _ (h id hid)
      | exact ⟨h.1, hk _ _ h.2⟩
      | exact ⟨h.1, fun id hid => hk _ _ (h.2 id hid)⟩
      | exact ⟨h.1, h.2.1, hk _ _ h.2.2⟩

theorem astep0_mono {o : IOper} {k k' : AFr → ASt → Prop} (hk : ∀ fr st, k fr st → k' fr st) (h : astep0 P o k fr st) : astep0 P o k' fr st := by
  unfold astep0 at h ⊢
  split at h
  · exact aop_mono (fun v st' x => hk _ _ x) h
  · split at h
    · split at h
      · rename_i hb; rw [if_pos hb]; exact aop_mono (fun v st' x => hk _ _ x) h
      · rename_i hb; rw [if_neg hb]; exact hk _ _ h
    · exact hk _ _ h
    · exact h

def IArg.slots : IArg → List Nat
  | .slot n => [n]
  | _ => []

def argsSlots : List IArg → List Nat
  | [] => []
  | x :: r => x.slots ++ argsSlots r

def optSlots : Option IArg → List Nat
  | none => []
  | some x => x.slots

def partSlots : List (Nat × Nat × IArg) → List Nat
  | [] => []
  | x :: r => x.2.2.slots ++ partSlots r

def IOp.slots : IOp → List Nat
  | .move x | .nilchk x | .un _ x | .conv _ x | .len x | .mlen x | .fldAddr _ x | .load1 x | .loadN _ x | .field1 _ x | .fieldN _ _ x | .box1 x | .boxN x | .extract x _ => x.slots
  | .pick c a b => c.slots ++ a.slots ++ b.slots
  | .bin _ x y | .eqB _ x y | .eqP _ _ x y | .eqS _ _ x y | .minmax _ x y | .idxAddr _ x y | .arrAddr _ _ x y | .store1 x y | .storeN _ x y | .index1 _ x y | .indexN _ _ x y | .strIdx x y | .makeSlice _ _ _ x y | .append _ _ x y | .lookup _ _ x y | .mapEntry _ x y => x.slots ++ y.slots
  | .alloc _ => []
  | .build _ ps | .buildSlice _ _ _ ps => partSlots ps
  | .slice _ x l h m => x.slots ++ optSlots l ++ optSlots h ++ optSlots m
  | .makeMap h => optSlots h
  | .mapSet x y z | .entryStore x y z => x.slots ++ y.slots ++ z.slots
  | .makeFunc _ c => argsSlots c
  | .call _ l => argsSlots l
  | .callv f l => f.slots ++ argsSlots l

def Agree (l : List Nat) (fr fr' : AFr) : Prop := ∀ s ∈ l, fr.get s = fr'.get s

theorem Agree.val {x : IArg} (h : Agree x.slots fr fr') : fr.val x = fr'.val x := by
  cases x with
  | slot n => exact h n (by simp [IArg.slots])
  | _ => rfl

theorem Agree.left {l m : List Nat} (h : Agree (l ++ m) fr fr') : Agree l fr fr' := fun s hs => h s (by simp [hs])
theorem Agree.right {l m : List Nat} (h : Agree (l ++ m) fr fr') : Agree m fr fr' := fun s hs => h s (by simp [hs])

theorem Agree.vals : ∀ {l : List IArg}, Agree (argsSlots l) fr fr' → fr.vals l = fr'.vals l
  | [], _ => rfl
  | x :: r, h => by simp only [AFr.vals]; rw [h.left.val, Agree.vals h.right]

theorem Agree.parts : ∀ {l : List (Nat × Nat × IArg)}, Agree (partSlots l) fr fr' → (l.map fun p => (p.1, p.2.1, fr.val p.2.2)) = l.map fun p => (p.1, p.2.1, fr'.val p.2.2)
  | [], _ => rfl
  | x :: r, h => by simp only [List.map_cons]; rw [h.left.val, Agree.parts h.right]

theorem Agree.bound {x : Option IArg} (h : Agree (optSlots x) fr fr') (d : Nat) : bound fr d x = bound fr' d x := by
  cases x with
  | none => rfl
  | some x => simp only [Go.Proofs.YtdmfgodajoojpaaGreatDoor.Cn.bound]; rw [Agree.val h]

theorem aop_congr {op : IOp} {k : AV → ASt → Prop} (ha : Agree op.slots fr fr') (h : aop P op fr st k) : aop P op fr' st k := by
  cases op <;> simp only [aop, IOp.slots] at h ha ⊢
  case alloc => exact h
  case build => rw [← ha.parts]; exact h
  case buildSlice => rw [← ha.parts]; exact h
  case makeMap hint =>
    cases hint with
    | none => exact h
    | some x => simp only [Agree.val (x := x) ha] at h; exact h
  case makeFunc => rw [← ha.vals]; exact h
  case call => rw [← ha.vals]; exact h
  case callv => rw [← ha.left.val, ← ha.right.vals]; exact h
  case slice => simp only [← ha.left.left.left.val, ← ha.left.left.right.bound, ← ha.left.right.bound, ← ha.right.bound]; exact h
  case pick => rw [← ha.left.left.val, ← ha.left.right.val, ← ha.right.val]; exact h
  case mapSet => rw [← ha.left.left.val, ← ha.left.right.val, ← ha.right.val]; exact h
  case entryStore => rw [← ha.left.left.val, ← ha.left.right.val, ← ha.right.val]; exact h
  all_goals first
    | (rw [← ha.val]; exact h)
    | (rw [← ha.left.val, ← ha.right.val]; exact h)

end
end Go.Proofs.YtdmfgodajoojpaaGreatDoor.Cn
/- The abstract layer, part 16: operations that reckon, load or lay new memory; a block that is laid aside while others work. -/
set_option linter.unusedSimpArgs false
set_option linter.unusedVariables false
namespace Go.Proofs.YtdmfgodajoojpaaGreatDoor.Cn
open Go Go.RowKit

def IOp.allocs : IOp → Bool
  | .alloc _ | .box1 _ | .boxN _ | .buildSlice .. | .makeSlice .. | .makeMap _ => true
  | _ => false

def IOp.calls : IOp → Bool
  | .call .. | .callv .. => true
  | _ => false

section
variable {P : Program} {fr fr' : AFr} {st : ASt}

def st0 : ASt := ⟨fun _ => none⟩

theorem still_iff {op : IOp} (h : op.still = true) (k : AV → ASt → Prop) (fr : AFr) (st : ASt) : aop P op fr st k ↔ ∃ v, aop P op fr st0 (fun u _ => u = v) ∧ k v st := by
  cases op <;> simp only [IOp.still] at h <;> try (cases h; done)
  all_goals simp only [aop]
  case move => simp
  case nilchk => split <;> simp
  case pick => split <;> simp
  case bin => split <;> simp
  case eqB => split <;> simp
  case eqP => split <;> simp
  case eqS =>
    split
    · split <;> simp
    · simp
  case un => split <;> simp
  case conv => split <;> simp
  case len => split <;> simp
  case minmax => split <;> simp [and_assoc]
  case idxAddr => split <;> simp [and_assoc]
  case arrAddr => split <;> simp [and_assoc]
  case fldAddr => split <;> simp
  case field1 =>
    split
    · split <;> simp
    · simp
  case fieldN => split <;> simp [and_assoc]
  case index1 =>
    split
    · split <;> simp [and_assoc]
    · simp
  case indexN => split <;> simp [and_assoc]
  case strIdx =>
    split
    · split <;> simp [and_assoc]
    · simp
  case build => split <;> simp
  case slice =>
    split
    · split
      · split
        · split
          · simp [and_assoc]
          · simp
        · simp
      · simp
    · simp
  case extract =>
    split
    · split <;> simp
    · simp
  case makeFunc => simp

theorem loads_iff {op : IOp} (h : op.loads = true) (k : AV → ASt → Prop) (fr : AFr) (st : ASt) : aop P op fr st k ↔ ∃ v, op.again st fr = some v ∧ k v st := by
  cases op <;> simp only [IOp.loads] at h <;> try (cases h; done)
  all_goals
    simp only [aop, IOp.again]
    split <;> simp_all

theorem allocs_iff {op : IOp} (h : op.allocs = true) (fr : AFr) : ∃ (c : Prop) (o : AObj) (mk : Nat → AV), ∀ (k : AV → ASt → Prop) (st : ASt), aop P op fr st k ↔ c ∧ ∀ id, st.h id = none → k (mk id) (st.new id o) := by
  cases op <;> simp only [IOp.allocs] at h <;> try (cases h; done)
  case alloc zs => exact ⟨True, .cells zs, fun id => .ptr id 0, fun k st => by simp [aop]⟩
  case box1 x => exact ⟨(fr.val x).leaf = true, .cells [fr.val x], fun id => .ptr id 0, fun k st => by simp [aop]⟩
  case boxN x =>
    cases hx : fr.val x with
    | agg cs => exact ⟨True, .cells cs, fun id => .ptr id 0, fun k st => by simp [aop, hx]⟩
    | _ => exact ⟨False, .cells [], fun id => .any, fun k st => by simp [aop, hx]⟩
  case buildSlice sz n zs ps =>
    cases hx : aput (zeros zs n) (ps.map fun p => (p.1, p.2.1, fr.val p.2.2)) with
    | some cs => exact ⟨True, .cells cs, fun id => .sl sz id 0 n, fun k st => by simp [aop, hx]⟩
    | none => exact ⟨False, .cells [], fun id => .any, fun k st => by simp [aop, hx]⟩
  case makeSlice sz b zs l c =>
    by_cases hx : ∃ n m, fr.val l = .int .i64 n ∧ fr.val c = .int .i64 m
    · obtain ⟨n, m, h1, h2⟩ := hx
      exact ⟨0 ≤ n ∧ n = m ∧ n ≤ 4294967296, .cells (zeros zs n.toNat), fun id => .sl sz id 0 n.toNat, fun k st => by simp [aop, h1, h2]⟩
    · refine ⟨False, .cells [], fun id => .any, fun k st => ?_⟩
      simp only [aop]
      split
      · rename_i n m h1 h2; exact absurd ⟨n, m, h1, h2⟩ hx
      · simp
  case makeMap hint =>
    cases hint with
    | none => exact ⟨True, .map [], fun id => .map id, fun k st => by simp [aop]⟩
    | some x =>
      by_cases hx : ∃ kd n, fr.val x = .int kd n
      · obtain ⟨kd, n, h1⟩ := hx
        exact ⟨True, .map [], fun id => .map id, fun k st => by simp [aop, h1]⟩
      · refine ⟨False, .map [], fun id => .any, fun k st => ?_⟩
        simp only [aop]
        split
        · rename_i kd n h1; exact absurd ⟨kd, n, h1⟩ hx
        · simp

theorem ACalls.frame {f : Nat} {args : List AV} {Q : AV → ASt → Prop} (h : ACalls P f args st Q) {id : Nat} (o : AObj) (hid : st.h id = none) :
    ACalls P f args (st.new id o) fun v st'' => ∃ st', st'.h id = none ∧ st'' = st'.new id o ∧ Q v st' := by
  intro B w0 R wr C w vs s h1 h2
  have ho : (st.new id o).h id = some o := ASt.new_self o hid
  have hlive : ∀ i, st.h i ≠ none → i ≠ id ∧ (st.new id o).h i ≠ none := by
    intro i hi
    have e : i ≠ id := by rintro rfl; exact hi hid
    exact ⟨e, by rw [ASt.new_ne _ e]; exact hi⟩
  have hN : id < C.N := s.lt ho
  have hb : (C.φ id).1 < w.heap.size := s.block_lt (by rw [ho]; simp)
  have s1 : ASim B w0 (fun b => R b ∨ b = (C.φ id).1) w C st w :=
    { glob := s.glob
      live := fun i hi => s.live i (hlive i hi).2
      below := s.below
      hB := s.hB
      inj := fun i j hi hj e => s.inj i j (hlive i hi).2 (hlive j hj).2 e
      lo := fun i hi => s.lo i (hlive i hi).2
      obj := fun i x hx => s.obj i x (by rw [ASt.new_old hx])
      imm := fun b p v hv => by
        obtain ⟨a1, a2, a3⟩ := s.imm b p v hv
        refine ⟨a1, ?_, fun i hi => a3 i (hlive i hi).2⟩
        rintro (hr | rfl)
        · exact a2 hr
        · exact a3 id (by rw [ho]; simp) rfl
      res := fun b hb' => by
        rcases hb' with hr | rfl
        · obtain ⟨a1, a2, a3⟩ := s.res b hr
          exact ⟨a1, rfl, fun i hi => a3 i (hlive i hi).2⟩
        · exact ⟨hb, rfl, fun i hi e => (hlive i hi).1 (s.inj i id (hlive i hi).2 (by rw [ho]; simp) e)⟩ }
  refine (h B w0 _ w C w vs s1 h1 h2).mono ?_
  rintro e w' ⟨C', v, st', rv, hC, s', he, hv, hq⟩
  have hφ : C'.φ id = C.φ id := hC.φ id hN
  obtain ⟨r1, r2, r3⟩ := s'.res (C.φ id).1 (.inr rfl)
  have hid' : st'.h id = none := by
    cases hx : st'.h id with
    | none => rfl
    | some x => exact absurd (congrArg Prod.fst hφ) (r3 id (by rw [hx]; simp))
  refine ⟨C', v, st'.new id o, rv, hC, ?_, he, hv, st', hid', rfl, hq⟩
  have hold : ∀ {i}, (st'.new id o).h i ≠ none → i ≠ id → st'.h i ≠ none := fun hi e => by rwa [ASt.new_ne _ e] at hi
  exact
    { glob := s'.glob
      live := fun i hi => by
        by_cases e : i = id
        · subst e; exact Nat.lt_of_lt_of_le hN hC.n
        · exact s'.live i (hold hi e)
      below := s'.below
      hB := s'.hB
      inj := fun i j hi hj e => by
        by_cases ei : i = id
        · by_cases ej : j = id
          · rw [ei, ej]
          · rw [ei, hφ] at e; exact absurd e.symm (r3 j (hold hj ej))
        · by_cases ej : j = id
          · rw [ej, hφ] at e; exact absurd e (r3 i (hold hi ei))
          · exact s'.inj i j (hold hi ei) (hold hj ej) e
      lo := fun i hi => by
        by_cases e : i = id
        · rw [e, hφ]; exact s.lo id (by rw [ho]; simp)
        · exact s'.lo i (hold hi e)
      obj := fun i x hx => by
        by_cases e : i = id
        · subst e
          rw [ASt.new_self _ hid'] at hx; cases hx
          exact ((s.obj i _ ho).world (w' := w') r2).mono hC hN
        · rw [ASt.new_ne _ e] at hx; exact s'.obj i x hx
      imm := fun b p v hv => by
        obtain ⟨a1, a2, a3⟩ := s'.imm b p v hv
        refine ⟨a1, fun hr => a2 (.inl hr), fun i hi => ?_⟩
        by_cases e : i = id
        · rw [e, hφ]; exact fun e => a2 (.inr e.symm)
        · exact a3 i (hold hi e)
      res := fun b hb' => by
        obtain ⟨a1, a2, a3⟩ := s'.res b (.inl hb')
        obtain ⟨b1, b2, b3⟩ := s.res b hb'
        refine ⟨a1, a2.trans b2, fun i hi => ?_⟩
        by_cases e : i = id
        · rw [e, hφ]; exact b3 id (by rw [ho]; simp)
        · exact a3 i (hold hi e) }

theorem again_new {op : IOp} {v : AV} (h : op.again st fr = some v) (id : Nat) (o : AObj) : op.again (st.new id o) fr = some v := by
  have ld : ∀ (i : Nat) (x : AObj), st.h i = some x → (st.new id o).h i = some x := fun i x hx => ASt.new_old hx
  cases op <;> simp only [IOp.again] at h ⊢ <;> try (cases h; done)
  · rename_i x
    generalize fr.val x = a at h ⊢
    cases a <;> simp only [ASt.ld1] at h ⊢ <;> try (cases h; done)
    · rename_i i off
      cases hx : st.h i with
      | none => rw [hx] at h; cases h
      | some y => rw [ld _ _ hx]; rw [hx] at h; exact h
    · exact h
  · rename_i sz x
    generalize fr.val x = a at h ⊢
    cases a <;> simp only [ASt.ldN] at h ⊢ <;> try (cases h; done)
    · rename_i i off
      cases hx : st.h i with
      | none => rw [hx] at h; cases h
      | some y => rw [ld _ _ hx]; rw [hx] at h; exact h
    · exact h

theorem new_comm {i j : Nat} {x y : AObj} (hi : st.h i = none) (hj : (st.new i x).h j = none) : (st.new i x).new j y = (st.new j y).new i x ∧ st.h j = none ∧ (st.new j y).h i = none := by
  have hne : j ≠ i := by rintro rfl; rw [ASt.new_self _ hi] at hj; cases hj
  have hj' : st.h j = none := by rwa [ASt.new_ne _ hne] at hj
  refine ⟨ASt.ext' fun a => ?_, hj', by rw [ASt.new_ne _ (Ne.symm hne)]; exact hi⟩
  by_cases ea : a = i
  · subst ea
    rw [ASt.new_old (ASt.new_self _ hi), ASt.new_self _ (by rw [ASt.new_ne _ (Ne.symm hne)]; exact hi)]
  · by_cases eb : a = j
    · subst eb
      rw [ASt.new_self _ hj, ASt.new_old (ASt.new_self _ hj')]
    · rw [ASt.new_ne _ eb, ASt.new_ne _ ea, ASt.new_ne _ ea, ASt.new_ne _ eb]

end
end Go.Proofs.YtdmfgodajoojpaaGreatDoor.Cn
