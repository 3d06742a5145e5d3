/- The abstract layer, part 3: the intermediate code is made of the program's code. -/
import Derived.Test.YtjamidgdhmjhaaaCnOps
namespace Go.Proofs.Ytjamidgdhmjhaaa.Cn
open Go Go.RowKit

def cvLeaf : Value → Option AV
  | .bool b => some (.bool b)
  | .int k n => some (.int k n)
  | .pointer none => some .nilp
  | .slice none 0 0 => some .nils
  | .map none => some .nilm
  | .nilFunc => some .nilf
  | .string s => some (.str (s.data.toList.map UInt8.toNat))
  | _ => none

def cvs : List Value → Option (List AV)
  | [] => some []
  | v :: r => match cvLeaf v, cvs r with
    | some a, some b => some (a :: b)
    | _, _ => none

def cv : Value → Option AV
  | .agg cs => (cvs cs.toList).map .agg
  | v => cvLeaf v

def cArg : Operand → Option IArg
  | .tmp t => some (.slot t)
  | .const v => (cv v).map .cst
  | .global _ => none
  | .func f => some (.fnc f)

def cArgs : List Operand → Option (List IArg)
  | [] => some []
  | x :: r => match cArg x, cArgs r with
    | some a, some b => some (a :: b)
    | _, _ => none

def cOpt : Option Operand → Option (Option IArg)
  | none => some none
  | some x => (cArg x).map some

def aggB (P : Program) (t : TypeId) : Bool :=
  match P.underlying t with
  | some (.struct _) | some (.array _ _) => true
  | _ => false

/-- The cells of a type's zero value. -/
def zc (P : Program) (t : TypeId) : Option (List AV) :=
  match P.info? t with
  | some i => match i.zero with
    | some z => cvs z.cells.toList
    | none => none
  | none => none

def zv (P : Program) (t : TypeId) : Option AV :=
  match P.info? t with
  | some i => match i.zero with
    | some z => cv z
    | none => none
  | none => none

/-- The fields of a struct of integers (true) and bools (false), one cell each. -/
def fieldKinds (P : Program) : List Field → Nat → Option (List Bool)
  | [], _ => some []
  | f :: r, n => if f.name ≠ "_" ∧ f.offset = n then
      match P.underlying f.type, fieldKinds P r (n + 1) with
      | some (.int _), some ks => some (true :: ks)
      | some .bool, some ks => some (false :: ks)
      | _, _ => none
    else none

def nilKind : TypeDesc → Option Nat
  | .pointer _ => some 0
  | .slice _ => some 1
  | .map _ _ => some 2
  | .func _ _ _ => some 3
  | _ => none

def partsStruct (P : Program) (fs : Array Field) : List (Nat × Operand) → Option (List (Nat × Nat × IArg))
  | [] => some []
  | (i, x) :: r => match fs[i]? with
    | some f => match P.info? f.type, cArg x, partsStruct P fs r with
      | some inf, some a, some b => some ((f.offset, inf.size, a) :: b)
      | _, _, _ => none
    | none => none

def partsRow (sz : Nat) : List (Nat × Operand) → Option (List (Nat × Nat × IArg))
  | [] => some []
  | (i, x) :: r => match cArg x, partsRow sz r with
    | some a, some b => some ((i * sz, sz, a) :: b)
    | _, _ => none

def infosOk (P : Program) : List Field → Bool
  | [] => true
  | f :: r => (P.info? f.type).isSome && infosOk P r

def compCall (P : Program) (c : Call) : Option IOp :=
  match c.callee with
  | .value (.func f) => if hasBody P f then (cArgs c.args.toList).map (.call f) else none
  | .value (.tmp t) => (cArgs c.args.toList).map (.callv (.slot t))
  | .builtin .len => match c.args.toList, c.argTypes.toList with
    | [x], [t] => match P.underlying t with
      | some (.slice _) => (cArg x).map .len
      | some (.map _ _) => (cArg x).map .mlen
      | some (.array n _) => some (.move (.cst (.int .i64 n)))
      | _ => none
    | _, _ => none
  | .builtin .max => match c.args.toList with
    | [x, y] => match cArg x, cArg y with
      | some a, some b => some (.minmax true a b)
      | _, _ => none
    | _ => none
  | .builtin .min => match c.args.toList with
    | [x, y] => match cArg x, cArg y with
      | some a, some b => some (.minmax false a b)
      | _, _ => none
    | _ => none
  | .builtin .append => match c.args.toList, c.argTypes.toList with
    | [x, y], [t, u] => match P.underlying t, P.underlying u with
      | some (.slice e), some (.slice _) => match P.info? e, zc P e, cArg x, cArg y with
        | some i, some zs, some a, some b => if 0 < i.bytes ∧ i.bytes ≤ 4096 ∧ 0 < i.size ∧ zs.length = i.size then some (.append i.size i.bytes a b) else none
        | _, _, _, _ => none
      | _, _ => none
    | _, _ => none
  | _ => none

def compOp (P : Program) (op : Op) : Option IOp :=
  match op with
  | .move x | .assign x => (cArg x).map .move
  | .nilCheck x => (cArg x).map .nilchk
  | .pick c a b => match cArg c, cArg a, cArg b with
    | some c, some a, some b => some (.pick c a b)
    | _, _, _ => none
  | .binOp op t x y _ => match cArg x, cArg y with
    | some a, some b => match P.underlying t with
      | some (.int _) => some (.bin op a b)
      | some .bool => match op with
        | .eql => some (.eqB false a b)
        | .neq => some (.eqB true a b)
        | _ => none
      | some (.struct fs) => if !P.stoodInHeld t && !P.eqGuardType P.depth t then match op with
        | .eql => (fieldKinds P fs.toList 0).map fun ks => .eqS ks false a b
        | .neq => (fieldKinds P fs.toList 0).map fun ks => .eqS ks true a b
        | _ => none else none
      | some d => match nilKind d with
        | some kind => match op with
          | .eql => some (.eqP kind false a b)
          | .neq => some (.eqP kind true a b)
          | _ => none
        | none => none
      | none => none
    | _, _ => none
  | .unOp op _ x => (cArg x).map (.un op)
  | .convert src dst x => match P.underlying src, P.underlying dst with
    | some _, some (.int k) => (cArg x).map (.conv k)
    | _, _ => none
  | .indexAddr t x i => match cArg x, cArg i with
    | some a, some b => match P.underlying t with
      | some (.slice e) => (P.info? e).map fun i => .idxAddr i.size a b
      | some (.array n e) => (P.info? e).map fun i => .arrAddr i.size n a b
      | _ => none
    | _, _ => none
  | .fieldAddr s x f => match P.underlying s with
    | some (.struct fs) => match fs[f]? with
      | some fd => match P.info? fd.type with
        | some i => if i.size ≠ 0 then (cArg x).map (.fldAddr fd.offset) else none
        | none => none
      | none => none
    | _ => none
  | .load t x => match P.info? t, P.underlying t with
    | some i, some _ => (cArg x).map fun a => if aggB P t then .loadN i.size a else .load1 a
    | _, _ => none
  | .store t x v => match P.info? t, P.underlying t with
    | some i, some _ => match cArg x, cArg v with
      | some a, some b => if aggB P t then some (.storeN i.size a b) else if i.size = 1 then some (.store1 a b) else none
      | _, _ => none
    | _, _ => none
  | .field t x f => match P.underlying t with
    | some (.struct fs) => match fs[f]? with
      | some fd => match P.info? fd.type, P.underlying fd.type with
        | some i, some _ => (cArg x).map fun a => if aggB P fd.type then .fieldN fd.offset i.size a else .field1 fd.offset a
        | _, _ => none
      | none => none
    | _ => none
  | .index t x i => match cArg x, cArg i with
    | some a, some b => match P.underlying t with
      | some (.array n e) => match P.info? e, P.underlying e with
        | some inf, some _ => if aggB P e then some (.indexN n inf.size a b) else if inf.size = 1 then some (.index1 n a b) else none
        | _, _ => none
      | some .string => some (.strIdx a b)
      | _ => none
    | _, _ => none
  | .alloc e => (zc P e).map .alloc
  | .box e x => match P.underlying e with
    | some _ => (cArg x).map fun a => if aggB P e then .boxN a else .box1 a
    | none => none
  | .build t parts => match zc P t with
    | some zs => match P.underlying t with
      | some (.struct fs) => if infosOk P fs.toList then (partsStruct P fs parts.toList).map (.build zs) else none
      | some (.array _ e) => match P.info? e with
        | some i => (partsRow i.size parts.toList).map (.build zs)
        | none => none
      | _ => none
    | none => none
  | .buildSlice t len parts => match P.underlying t with
    | some (.slice e) => match P.info? e, zc P e with
      | some i, some zs => if len * i.size ≤ 16777216 ∧ zs.length = i.size ∧ 0 < i.size then (partsRow i.size parts.toList).map (.buildSlice i.size len zs) else none
      | _, _ => none
    | _ => none
  | .makeSlice t l c => match P.underlying t with
    | some (.slice e) => match P.info? e, zc P e, cArg l, cArg c with
      | some i, some zs, some a, some b => if i.bytes ≤ 4096 ∧ zs.length = i.size ∧ 0 < i.size then some (.makeSlice i.size i.bytes zs a b) else none
      | _, _, _, _ => none
    | _ => none
  | .slice t x lo hi mx => match P.underlying t with
    | some (.slice e) => match P.info? e, cArg x, cOpt lo, cOpt hi, cOpt mx with
      | some i, some a, some l, some h, some m => some (.slice i.size a l h m)
      | _, _, _, _, _ => none
    | _ => none
  | .extract x i => (cArg x).map fun a => .extract a i
  | .makeMap t r => match P.underlying t, cOpt r with
    | some (.map _ _), some h => some (.makeMap h)
    | _, _ => none
  | .lookup t x i ok => match P.underlying t with
    | some (.map key elem) => match P.underlying key, zv P elem, cArg x, cArg i with
      | some (.int _), some z, some a, some b => some (.lookup z ok a b)
      | _, _, _, _ => none
    | _ => none
  | .mapUpdate t m key v => match P.underlying t with
    | some (.map kt _) => match P.underlying kt, cArg m, cArg key, cArg v with
      | some (.int _), some a, some b, some c => some (.mapSet a b c)
      | _, _, _, _ => none
    | _ => none
  | .mapEntry t m key => match P.underlying t with
    | some (.map kt elem) => match P.underlying kt, zv P elem, cArg m, cArg key with
      | some (.int _), some z, some a, some b => some (.mapEntry z a b)
      | _, _, _, _ => none
    | _ => none
  | .entryStore _ m s v => match cArg m, cArg s, cArg v with
    | some a, some b, some c => some (.entryStore a b c)
    | _, _, _ => none
  | .makeFunc (.func f) first cap => if first.size = 0 then (cArgs cap.toList).map (.makeFunc f) else none
  | .call c => compCall P c
  | _ => none

/-- Does it only reckon? Then it may stand anywhere that its operands allow. -/
def IOp.still : IOp → Bool
  | .move _ | .nilchk _ | .pick .. | .bin .. | .eqB .. | .eqP .. | .eqS .. | .un .. | .conv .. | .len _ | .minmax .. | .idxAddr .. | .arrAddr .. | .fldAddr .. | .field1 .. | .fieldN .. | .index1 .. | .indexN .. | .strIdx .. | .build .. | .slice .. | .extract .. | .makeFunc .. => true
  | _ => false

def IOp.loads : IOp → Bool
  | .load1 _ | .loadN _ _ => true
  | _ => false

end Go.Proofs.Ytjamidgdhmjhaaa.Cn
