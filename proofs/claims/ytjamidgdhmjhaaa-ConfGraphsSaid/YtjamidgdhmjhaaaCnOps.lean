/- The abstract layer, part 2: the intermediate code, what its operations do to an abstract heap, and how it is made of the program's code. -/
import Derived.Test.YtjamidgdhmjhaaaCnCore
namespace Go.Proofs.Ytjamidgdhmjhaaa.Cn
open Go Go.RowKit

inductive IArg where
  | slot (n : Nat)
  | cst (v : AV)
  | fnc (f : Nat)

inductive IOp where
  | move (x : IArg)
  | nilchk (x : IArg)
  | pick (c a b : IArg)
  | bin (op : BinOp) (x y : IArg)
  | eqB (neg : Bool) (x y : IArg)
  | eqP (kind : Nat) (neg : Bool) (x y : IArg)
  | eqS (ks : List Bool) (neg : Bool) (x y : IArg)
  | un (op : UnOp) (x : IArg)
  | conv (k : IntKind) (x : IArg)
  | len (x : IArg)
  | mlen (x : IArg)
  | minmax (mx : Bool) (x y : IArg)
  | idxAddr (sz : Nat) (x i : IArg)
  | arrAddr (sz n : Nat) (x i : IArg)
  | fldAddr (off : Nat) (x : IArg)
  | load1 (x : IArg)
  | loadN (sz : Nat) (x : IArg)
  | store1 (x v : IArg)
  | storeN (sz : Nat) (x v : IArg)
  | field1 (off : Nat) (x : IArg)
  | fieldN (off sz : Nat) (x : IArg)
  | index1 (n : Nat) (x i : IArg)
  | indexN (n sz : Nat) (x i : IArg)
  | alloc (zs : List AV)
  | box1 (x : IArg)
  | boxN (x : IArg)
  | build (zs : List AV) (parts : List (Nat × Nat × IArg))
  | buildSlice (sz n : Nat) (zs : List AV) (parts : List (Nat × Nat × IArg))
  | makeSlice (sz bytes : Nat) (zs : List AV) (l c : IArg)
  | append (sz bytes : Nat) (x y : IArg)
  | slice (sz : Nat) (x : IArg) (lo hi mx : Option IArg)
  | extract (x : IArg) (i : Nat)
  | makeMap (hint : Option IArg)
  | lookup (zero : AV) (ok : Bool) (m k : IArg)
  | mapSet (m k v : IArg)
  | mapEntry (zero : AV) (m k : IArg)
  | entryStore (m s v : IArg)
  | makeFunc (f : Nat) (cap : List IArg)
  | call (f : Nat) (args : List IArg)
  | callv (f : IArg) (args : List IArg)
  | strIdx (x i : IArg)

/-- A load of the region that must read the same behind an operation: the load, the slot of what was read, its guard. -/
structure IHeld where
  op : IOp
  dst : Nat
  guard : Option (Nat × Bool)

/-- Where it goes, what is done, whether it is done (the slot of a bool that must be so), and which loads of the region must read the same behind it. -/
structure IOper where
  dst : Option Nat
  op : IOp
  guard : Option (Nat × Bool) := none
  held : List IHeld := []
  ahead : List (IArg × IArg) := []

abbrev X.s (n : Nat) : IArg := .slot n
abbrev X.i (n : Int) : IArg := .cst (.int .i64 n)
abbrev X.o (d : Nat) (op : IOp) : IOper := ⟨some d, op, none, [], []⟩
abbrev X.m (d s : Nat) : IOper := ⟨some d, .move (.slot s), none, [], []⟩
abbrev X.n (op : IOp) : IOper := ⟨none, op, none, [], []⟩
abbrev X.t (g d : Nat) (op : IOp) : IOper := ⟨some d, op, some (g, true), [], []⟩
abbrev X.f (g d : Nat) (op : IOp) : IOper := ⟨some d, op, some (g, false), [], []⟩

inductive ICode where
  | skip
  | region (ops : List IOper)
  | keep (ks : List Nat) (c : ICode)
  | ghost (c : ICode)
  | seq (a b : ICode)
  | cond (c : IArg) (a b : ICode)
  | block (id : Nat) (c : ICode)
  | loop (c : ICode)
  | exit (id : Nat)
  | ret

abbrev AFr := List (Nat × AV)

def AFr.get : AFr → Nat → AV
  | [], _ => .any
  | (j, v) :: r, i => if j = i then v else AFr.get r i

def AFr.set (fr : AFr) (d : Option Nat) (v : AV) : AFr :=
  match d with
  | some d => (d, v) :: fr
  | none => fr

def AFr.keep (fr : AFr) (ks : List Nat) : AFr := ks.map fun k => (k, fr.get k)

def AFr.val (fr : AFr) : IArg → AV
  | .slot n => fr.get n
  | .cst v => v
  | .fnc f => .fn f []

def AFr.vals (fr : AFr) : List IArg → List AV
  | [] => []
  | x :: r => fr.val x :: AFr.vals fr r

/-- Arithmetic on integers. -/
def abin (op : BinOp) (k : IntKind) (a b : Int) : Option AV :=
  match op with
  | .add => some (.int k (k.wrap (a + b)))
  | .sub => some (.int k (k.wrap (a - b)))
  | .mul => some (.int k (k.wrap (a * b)))
  | .quo => if b = 0 then none else some (.int k (k.wrap (a.tdiv b)))
  | .rem => if b = 0 then none else some (.int k (a.tmod b))
  | .and => some (.int k (k.wrap (BitVec.ofInt k.bits a &&& BitVec.ofInt k.bits b).toNat))
  | .or => some (.int k (k.wrap (BitVec.ofInt k.bits a ||| BitVec.ofInt k.bits b).toNat))
  | .xor => some (.int k (k.wrap (BitVec.ofInt k.bits a ^^^ BitVec.ofInt k.bits b).toNat))
  | .andNot => some (.int k (k.wrap (BitVec.ofInt k.bits a &&& ~~~BitVec.ofInt k.bits b).toNat))
  | .eql => some (.bool (decide (a = b)))
  | .neq => some (.bool (!decide (a = b)))
  | .lss => some (.bool (decide (a < b)))
  | .leq => some (.bool (decide (a ≤ b)))
  | .gtr => some (.bool (decide (b < a)))
  | .geq => some (.bool (decide (b ≤ a)))
  | _ => none

def ashift (op : BinOp) (k : IntKind) (a b : Int) : Option AV :=
  if b < 0 then none else
  match op with
  | .shl => some (.int k (k.wrap (a * 2 ^ (min b.toNat k.bits))))
  | .shr => some (.int k (a.fdiv (2 ^ (min b.toNat k.bits))))
  | _ => none

def abinv (op : BinOp) : AV → AV → Option AV
  | .int k a, .int k' b => match op with
    | .shl => ashift .shl k a b
    | .shr => ashift .shr k a b
    | op => if k = k' then abin op k a b else none
  | _, _ => none

def aun (op : UnOp) : AV → Option AV
  | .int k n => match op with
    | .neg => some (.int k (k.wrap (0 - n)))
    | _ => none
  | .bool b => match op with
    | .not => some (.bool (!b))
    | _ => none
  | _ => none

/-- Is it nil? (kinds: 0 a pointer, 1 a slice, 2 a map, 3 a function) -/
def AV.isNil : Nat → AV → Option Bool
  | 0, .nilp | 1, .nils | 2, .nilm | 3, .nilf => some true
  | 0, .ptr .. | 0, .iptr .. | 1, .sl .. | 1, .isl _ _ (_ + 1) | 1, .nn | 2, .map .. | 3, .fn .. => some false
  | _, _ => none

/-- Two of which one at least is nil. -/
def aeqP (kind : Nat) (x y : AV) : Option Bool :=
  match x.isNil kind, y.isNil kind with
  | some true, some b => some b
  | some b, some true => some b
  | _, _ => none

/-- Two rows of integers (true) and bools (false). -/
def aeqL : List Bool → List AV → List AV → Option Bool
  | [], [], [] => some true
  | true :: ks, .int k a :: xs, .int k' b :: ys => if k = k' then (aeqL ks xs ys).map (decide (a = b) && ·) else none
  | false :: ks, .bool a :: xs, .bool b :: ys => (aeqL ks xs ys).map (decide (a = b) && ·)
  | _, _, _ => none

def putN (cs : List AV) (off : Nat) : List AV → List AV
  | [] => cs
  | v :: vs => putN (cs.set off v) (off + 1) vs

/-- The cells of a part of an aggregate. -/
def AV.part : AV → Option (List AV)
  | .agg cs => some cs
  | .any | .tup _ => none
  | v => some [v]

def aput (cs : List AV) : List (Nat × Nat × AV) → Option (List AV)
  | [] => some cs
  | (off, sz, v) :: r => match v.part with
    | some vs => if vs.length = sz ∧ off + sz ≤ cs.length then aput (putN cs off vs) r else none
    | none => none

def allLeaf (cs : List AV) : Bool := cs.all AV.leaf

def look (es : List (Int × AV)) (k : Int) : Option AV := (es.find? fun e => e.1 == k).map (·.2)

def spot (es : List (Int × AV)) (k : Int) : Option Nat := es.findIdx? fun e => e.1 == k

def mput (es : List (Int × AV)) (k : Int) (v : AV) : List (Int × AV) :=
  match spot es k with
  | some i => es.set i (k, v)
  | none => es ++ [(k, v)]

/-- The cells that a slice shows. -/
def ASt.seen (st : ASt) (n : Nat) : AV → Option (List AV)
  | .nils => some []
  | .emp => some []
  | .nn => some []
  | .isl _ cs _ => if n ≤ cs.length then some (cs.take n) else none
  | .sl _ id off _ => match st.h id with
    | some (.cells cs) => if off + n ≤ cs.length then some ((cs.drop off).take n) else none
    | _ => none
  | _ => none

def AV.slen : AV → Option Nat
  | .nils => some 0
  | .emp => some 0
  | .nn => some 0
  | .isl _ _ len => some len
  | .sl _ _ _ len => some len
  | _ => none

/-- A load of one cell, of an aggregate. -/
def ASt.ld1 (st : ASt) : AV → Option AV
  | .ptr id off => match st.h id with
    | some (.cells cs) => cs[off]?
    | _ => none
  | .iptr cs off => cs[off]?
  | _ => none

def ASt.ldN (st : ASt) (sz : Nat) : AV → Option AV
  | .ptr id off => match st.h id with
    | some (.cells cs) => if off + sz ≤ cs.length then some (.agg ((cs.drop off).take sz)) else none
    | _ => none
  | .iptr cs off => if off + sz ≤ cs.length then some (.agg ((cs.drop off).take sz)) else none
  | _ => none

def IOp.again (st : ASt) (fr : AFr) : IOp → Option AV
  | .load1 x => st.ld1 (fr.val x)
  | .loadN sz x => st.ldN sz (fr.val x)
  | _ => none

/-- A named function, called at abstract arguments in an abstract heap: it returns, and what it leaves is like an abstract heap of which 'Q' holds. -/
def ACalls (P : Program) (f : Nat) (args : List AV) (st : ASt) (Q : AV → ASt → Prop) : Prop :=
  ∀ B w0 R wr C w (vs : Array Value), ASim B w0 R wr C st w → vs.size = args.length → (∀ i (h : i < args.length), VS C args[i] (vs.getD i undef)) →
    Calls P f vs w fun e w' => ∃ C' v st' rv, C.le C' ∧ ASim B w0 R wr C' st' w' ∧ e = .returned rv ∧ VS C' v rv ∧ Q v st'

def amlen (st : ASt) : AV → Option Int
  | .nilm => some 0
  | .map id => match st.h id with
    | some (.map es) => some es.length
    | _ => none
  | _ => none

def aslice (sz : Nat) (x : AV) (lo hi : Nat) : AV :=
  match x with
  | .sl _ id off _ => .sl sz id (off + lo * sz) (hi - lo)
  | .isl _ cs _ => .isl sz (cs.drop (lo * sz)) (hi - lo)
  | x => x

def bound (fr : AFr) (d : Nat) : Option IArg → Option Nat
  | none => some d
  | some x => match fr.val x with
    | .int _ n => if 0 ≤ n then some n.toNat else none
    | _ => none

def zeros (zs : List AV) : Nat → List AV
  | 0 => []
  | n + 1 => zs ++ zeros zs n

def hasBody (P : Program) (g : Nat) : Bool :=
  match P.funcs[g]? with
  | some fn => fn.body.isSome && fn.name != "runtime.NumGoroutine"
  | none => false

/-- What an operation does: a predicate on what is to hold behind it. -/
def aop (P : Program) (op : IOp) (fr : AFr) (st : ASt) (k : AV → ASt → Prop) : Prop :=
  match op with
  | .move x => k (fr.val x) st
  | .nilchk x => match (fr.val x).isNil 0 with
    | some false => k (fr.val x) st
    | _ => False
  | .pick c a b => match fr.val c with
    | .bool t => k (if t then fr.val a else fr.val b) st
    | _ => False
  | .bin op x y => match abinv op (fr.val x) (fr.val y) with
    | some v => k v st
    | none => False
  | .eqB neg x y => match fr.val x, fr.val y with
    | .bool a, .bool b => k (.bool (neg ^^ decide (a = b))) st
    | _, _ => False
  | .eqP kind neg x y => match aeqP kind (fr.val x) (fr.val y) with
    | some b => k (.bool (neg ^^ b)) st
    | none => False
  | .eqS ks neg x y => match fr.val x, fr.val y with
    | .agg xs, .agg ys => match aeqL ks xs ys with
      | some b => k (.bool (neg ^^ b)) st
      | none => False
    | _, _ => False
  | .un op x => match aun op (fr.val x) with
    | some v => k v st
    | none => False
  | .conv kd x => match fr.val x with
    | .int _ n => k (.int kd (kd.wrap n)) st
    | _ => False
  | .len x => match (fr.val x).slen with
    | some n => k (.int .i64 n) st
    | none => False
  | .mlen x => match amlen st (fr.val x) with
    | some n => k (.int .i64 n) st
    | none => False
  | .minmax mx x y => match fr.val x, fr.val y with
    | .int kd a, .int kd' b => kd = kd' ∧ k (.int kd (if mx then (if a < b then b else a) else (if b < a then b else a))) st
    | _, _ => False
  | .idxAddr sz x i => match fr.val x, fr.val i with
    | .sl _ id off len, .int _ n => (0 ≤ n ∧ n < len) ∧ k (.ptr id (off + n.toNat * sz)) st
    | .isl _ cs len, .int _ n => (0 ≤ n ∧ n < len) ∧ k (.iptr cs (n.toNat * sz)) st
    | _, _ => False
  | .arrAddr sz len x i => match fr.val x, fr.val i with
    | .ptr id off, .int _ n => (0 ≤ n ∧ n < len) ∧ k (.ptr id (off + n.toNat * sz)) st
    | .iptr cs off, .int _ n => (0 ≤ n ∧ n < len) ∧ k (.iptr cs (off + n.toNat * sz)) st
    | _, _ => False
  | .fldAddr o x => match fr.val x with
    | .ptr id off => k (.ptr id (off + o)) st
    | .iptr cs off => k (.iptr cs (off + o)) st
    | _ => False
  | .load1 x => match st.ld1 (fr.val x) with
    | some v => k v st
    | none => False
  | .loadN sz x => match st.ldN sz (fr.val x) with
    | some v => k v st
    | none => False
  | .store1 x v => match fr.val x with
    | .ptr id off => match st.h id with
      | some (.cells cs) => ((fr.val v).leaf = true ∧ off < cs.length) ∧ k (.tup []) (st.set id (.cells (cs.set off (fr.val v))))
      | _ => False
    | _ => False
  | .storeN sz x v => match fr.val x, fr.val v with
    | .ptr id off, .agg vs => match st.h id with
      | some (.cells cs) => (vs.length = sz ∧ allLeaf vs = true ∧ off + sz ≤ cs.length) ∧ k (.tup []) (st.set id (.cells (putN cs off vs)))
      | _ => False
    | _, _ => False
  | .field1 off x => match fr.val x with
    | .agg cs => match cs[off]? with
      | some v => k v st
      | none => False
    | _ => False
  | .fieldN off sz x => match fr.val x with
    | .agg cs => off + sz ≤ cs.length ∧ k (.agg ((cs.drop off).take sz)) st
    | _ => False
  | .index1 len x i => match fr.val x, fr.val i with
    | .agg cs, .int _ n => (0 ≤ n ∧ n < len) ∧ match cs[n.toNat]? with
      | some v => k v st
      | none => False
    | _, _ => False
  | .indexN len sz x i => match fr.val x, fr.val i with
    | .agg cs, .int _ n => (0 ≤ n ∧ n < len ∧ n.toNat * sz + sz ≤ cs.length) ∧ k (.agg ((cs.drop (n.toNat * sz)).take sz)) st
    | _, _ => False
  | .alloc zs => ∀ id, st.h id = none → k (.ptr id 0) (st.new id (.cells zs))
  | .box1 x => (fr.val x).leaf = true ∧ ∀ id, st.h id = none → k (.ptr id 0) (st.new id (.cells [fr.val x]))
  | .boxN x => match fr.val x with
    | .agg cs => ∀ id, st.h id = none → k (.ptr id 0) (st.new id (.cells cs))
    | _ => False
  | .build zs parts => match aput zs (parts.map fun p => (p.1, p.2.1, fr.val p.2.2)) with
    | some cs => k (.agg cs) st
    | none => False
  | .buildSlice sz n zs parts => match aput (zeros zs n) (parts.map fun p => (p.1, p.2.1, fr.val p.2.2)) with
    | some cs => ∀ id, st.h id = none → k (.sl sz id 0 n) (st.new id (.cells cs))
    | none => False
  | .makeSlice sz _ zs l c => match fr.val l, fr.val c with
    | .int .i64 n, .int .i64 m => (0 ≤ n ∧ n = m ∧ n ≤ 4294967296) ∧ ∀ id, st.h id = none → k (.sl sz id 0 n.toNat) (st.new id (.cells (zeros zs n.toNat)))
    | _, _ => False
  | .append sz _ x y => match (fr.val y).slen, (fr.val x).slen with
    | some m, some n => match st.seen (m * sz) (fr.val y) with
      | some new => (n + m ≤ 4294967296 ∧ allLeaf new = true) ∧
        if m = 0 then k (fr.val x) st else
        match fr.val x with
        | .nils | .emp => ∀ id', st.h id' = none → k (.sl sz id' 0 m) (st.new id' (.cells new))
        | .sl sz' id off len => match st.h id with
          | some (.cells cs) => (sz' = sz ∧ off + len * sz = cs.length) ∧ ∀ id', st.h id' = none → k (.sl sz id' 0 (len + m)) ((st.kill id).new id' (.cells (cs.drop off ++ new)))
          | _ => False
        | _ => False
      | none => False
    | _, _ => False
  | .slice sz x lo hi mx => match fr.val x, bound fr 0 lo with
    | x', some l => match x'.slen with
      | some len => match bound fr len hi with
        | some h => match bound fr h mx with
          | some m => (l ≤ h ∧ h ≤ m ∧ m ≤ len ∧ (hi.isNone = true → mx.isNone = true)) ∧ (match x' with | .sl sz' .. => sz' = sz | .isl sz' .. => sz' = sz | .nils | .emp => True | _ => False) ∧ k (if mx.isSome = true ∧ l = m then .emp else aslice sz x' l h) st
          | none => False
        | none => False
      | none => False
    | _, _ => False
  | .extract x i => match fr.val x with
    | .tup vs => match vs[i]? with
      | some v => k v st
      | none => False
    | _ => False
  | .makeMap hint => match hint with
    | none => ∀ id, st.h id = none → k (.map id) (st.new id (.map []))
    | some x => match fr.val x with
      | .int _ _ => ∀ id, st.h id = none → k (.map id) (st.new id (.map []))
      | _ => False
  | .lookup zero ok m key => match fr.val key with
    | .int .i64 n => match fr.val m with
      | .nilm => k (if ok then .tup [zero, .bool false] else zero) st
      | .map id => match st.h id with
        | some (.map es) => match look es n with
          | some v => k (if ok then .tup [v, .bool true] else v) st
          | none => k (if ok then .tup [zero, .bool false] else zero) st
        | _ => False
      | _ => False
    | _ => False
  | .mapSet m key v => match fr.val key, fr.val m with
    | .int .i64 n, .map id => match st.h id with
      | some (.map es) => k (.tup []) (st.set id (.map (mput es n (fr.val v))))
      | _ => False
    | _, _ => False
  | .mapEntry zero m key => match fr.val key, fr.val m with
    | .int .i64 n, .map id => match st.h id with
      | some (.map es) => match spot es n with
        | some i => match es[i]? with
          | some e => k (.tup [e.2, .int .i64 i]) st
          | none => False
        | none => k (.tup [zero, .int .i64 es.length]) (st.set id (.map (es ++ [(n, zero)])))
      | _ => False
    | _, _ => False
  | .entryStore m s v => match fr.val s, fr.val m with
    | .int .i64 i, .map id => match st.h id with
      | some (.map es) => 0 ≤ i ∧ match es[i.toNat]? with
        | some e => k (.tup []) (st.set id (.map (es.set i.toNat (e.1, fr.val v))))
        | none => False
      | _ => False
    | _, _ => False
  | .makeFunc f cap => k (.fn f (fr.vals cap)) st
  | .call f args => ACalls P f (fr.vals args) st k
  | .callv f args => match fr.val f with
    | .fn g cap => hasBody P g = true ∧ ACalls P g (fr.vals args ++ cap) st k
    | _ => False
  | .strIdx x i => match fr.val x, fr.val i with
    | .str bs, .int _ n => 0 ≤ n ∧ match bs[n.toNat]? with
      | some b => k (.int .u8 b) st
      | none => False
    | _, _ => False

def heldOk (st : ASt) (fr : AFr) : List IHeld → Prop
  | [] => True
  | p :: r => (match p.guard with
      | none => p.op.again st fr = some (fr.get p.dst)
      | some (g, want) => fr.get g = .bool want → p.op.again st fr = some (fr.get p.dst)) ∧ heldOk st fr r

def astep0 (P : Program) (o : IOper) (k : AFr → ASt → Prop) (fr : AFr) (st : ASt) : Prop :=
  match o.guard with
  | none => aop P o.op fr st fun v st' => k (fr.set o.dst v) st'
  | some (g, want) => match fr.get g with
    | .bool b => if b = want then aop P o.op fr st fun v st' => k (fr.set o.dst v) st' else k (fr.set o.dst (.tup [])) st
    | .tup [] => k (fr.set o.dst (.tup [])) st
    | _ => False

/-- Lengths that are to be asked for later can be had. -/
def aheadOk (fr : AFr) : List (IArg × IArg) → Prop
  | [] => True
  | p :: r => (match fr.val p.1, fr.val p.2 with
      | .int .i64 n, .int .i64 m => 0 ≤ n ∧ n = m ∧ n ≤ 4294967296
      | _, _ => False) ∧ aheadOk fr r

def aops (P : Program) : List IOper → (AFr → ASt → Prop) → AFr → ASt → Prop
  | [], k, fr, st => k fr st
  | o :: os, k, fr, st => aheadOk fr o.ahead ∧ astep0 P o (fun fr' st' => heldOk st' fr' o.held ∧ aops P os k fr' st') fr st

inductive IExit where
  | normal
  | exit (id : Nat)
  | ret

def IExit.then (next : AFr → ASt → Prop) (Q : IExit → AFr → ASt → Prop) : IExit → AFr → ASt → Prop
  | .normal, fr, st => next fr st
  | e, fr, st => Q e fr st

def IExit.inBlock (id : Nat) (Q : IExit → AFr → ASt → Prop) : IExit → AFr → ASt → Prop
  | .exit i, fr, st => if i = id then Q .normal fr st else Q (.exit i) fr st
  | e, fr, st => Q e fr st

/-- A frame and a heap may be seen otherwise. -/
def FGhost (fr : AFr) (st : ASt) (fr1 : AFr) (st1 : ASt) : Prop :=
  ∀ B w0 R wr C w, ASim B w0 R wr C st w → ∃ C', C.le C' ∧ ASim B w0 R wr C' st1 w ∧ ∀ i v, VS C (fr.get i) v → VS C' (fr1.get i) v

def awp (P : Program) : ICode → (IExit → AFr → ASt → Prop) → AFr → ASt → Prop
  | .skip, Q, fr, st => Q .normal fr st
  | .region ops, Q, fr, st => aops P ops (Q .normal) fr st
  | .keep ks c, Q, fr, st => awp P c Q (fr.keep ks) st
  | .ghost c, Q, fr, st => ∃ fr1 st1, FGhost fr st fr1 st1 ∧ awp P c Q fr1 st1
  | .seq a b, Q, fr, st => awp P a (IExit.then (awp P b Q) Q) fr st
  | .cond c a b, Q, fr, st => match fr.val c with
    | .bool t => if t then awp P a Q fr st else awp P b Q fr st
    | _ => False
  | .block id c, Q, fr, st => awp P c (IExit.inBlock id Q) fr st
  | .loop c, Q, fr, st => ∃ (I : AFr → ASt → Prop) (μ : AFr → ASt → Nat), I fr st ∧
      ∀ fr st, I fr st → awp P c (IExit.then (fun fr' st' => I fr' st' ∧ μ fr' st' < μ fr st) Q) fr st
  | .exit id, Q, fr, st => Q (.exit id) fr st
  | .ret, Q, fr, st => Q .ret fr st

end Go.Proofs.Ytjamidgdhmjhaaa.Cn
