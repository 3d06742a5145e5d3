/- The values of a chip's description, as cells. No conditions. -/
import Derived.Test.YtjamidgdhmjhaaaCnOwn
set_option linter.unusedSimpArgs false
set_option linter.unusedVariables false
namespace Go.Proofs.Ytjamidgdhmjhaaa.Cn
open Go Go.RowKit

theorem flatMap_len {α : Type} {f : α → List AV} {k : Nat} (hf : ∀ x, (f x).length = k) : ∀ (l : List α), (l.flatMap f).length = l.length * k
  | [] => by simp
  | x :: l => by rw [List.flatMap_cons, List.length_append, hf, flatMap_len hf l, List.length_cons, Nat.add_mul]; omega
theorem flatMap_at {α : Type} {f : α → List AV} {k : Nat} (hf : ∀ x, (f x).length = k) : ∀ {l : List α} {i : Nat} (h : i < l.length), ((l.flatMap f).drop (i * k)).take k = f l[i]
  | x :: l, 0, _ => by
    rw [List.flatMap_cons, Nat.zero_mul, List.drop_zero, ← hf x, List.take_left]; rfl
  | x :: l, i + 1, h => by
    have e : (i + 1) * k = (f x).length + i * k := by rw [hf, Nat.add_mul]; omega
    rw [List.flatMap_cons, e, List.drop_length_add_append]
    exact flatMap_at hf (by simpa using h)
theorem flatMap_fits {α : Type} {f : α → List AV} {k : Nat} (hf : ∀ x, (f x).length = k) {l : List α} {i : Nat} (h : i < l.length) : i * k + k ≤ (l.flatMap f).length := by
  rw [flatMap_len hf]
  calc i * k + k = (i + 1) * k := by rw [Nat.add_mul]; omega
    _ ≤ l.length * k := Nat.mul_le_mul_right k h

structure Reg where
  reset : Int
  ret : Bool

def encReg (r : Reg) : List AV := [.int .u32 r.reset, .bool r.ret]
def flat (l : List Reg) : List AV := l.flatMap encReg
def u32s (l : List Int) : List AV := l.map (AV.int .u32)

theorem flat_length (l : List Reg) : (flat l).length = l.length * 2 := by
  induction l with
  | nil => rfl
  | cons r l ih => simp [flat, encReg] at ih ⊢; omega

theorem flat_get {l : List Reg} {i : Nat} (h : i < l.length) : (flat l)[i * 2]? = some (.int .u32 l[i].reset) ∧ (flat l)[i * 2 + 1]? = some (.bool l[i].ret) := by
  induction l generalizing i with
  | nil => simp at h
  | cons r l ih =>
    cases i with
    | zero => simp [flat, encReg]
    | succ i =>
      have := ih (i := i) (by simpa using h)
      simp only [flat, List.flatMap_cons, encReg, List.cons_append, List.nil_append] at this ⊢
      rw [show (i + 1) * 2 = i * 2 + 1 + 1 by omega]
      simpa using this

theorem flat_drop {l : List Reg} {i : Nat} (h : i < l.length) : ((flat l).drop (i * 2)).take 2 = encReg l[i] := by
  apply List.ext_getElem?
  intro j
  obtain ⟨h1, h2⟩ := flat_get h
  match j with
  | 0 => simp [List.getElem?_take, h1, encReg]
  | 1 => simp [List.getElem?_take, h2, encReg]
  | j + 2 => rw [List.getElem?_eq_none (by simp; omega), List.getElem?_eq_none (by simp [encReg])]

theorem u32s_get {l : List Int} {i : Nat} (h : i < l.length) : (u32s l)[i]? = some (.int .u32 l[i]) := by simp [u32s, h]
theorem u32s_length (l : List Int) : (u32s l).length = l.length := by simp [u32s]
theorem u32s_set (l : List Int) (i : Nat) (v : Int) : (u32s l).set i (.int .u32 v) = u32s (l.set i v) := by simp [u32s, List.map_set]
theorem u32s_leaf (l : List Int) : allLeaf (u32s l) = true := by simp [allLeaf, u32s, AV.leaf]
theorem flat_leaf (l : List Reg) : allLeaf (flat l) = true := by
  simp only [allLeaf, flat, List.all_flatMap]
  simp [encReg, AV.leaf]

structure Clk where
  kind : Int
  src : List Int
  rate : Int
  mul : Int
  div : Int
  lock : Int
structure Dom where
  above : Int
  delay : Int
  ret : Bool
structure Dev where
  clock : Int
  dom : Int
  rst : Int
  clamp : Int
  regs : List Reg
  needs : List Int
structure Soc where
  clocks : List Clk
  doms : List Dom
  rsts : List Int
  devs : List Dev


def Clk.cells (c : Clk) : List AV := [.int .u8 c.kind, row c.src, .int .u64 c.rate, .int .i64 c.mul, .int .i64 c.div, .int .i64 c.lock]
def Dom.cells (d : Dom) : List AV := [.int .i64 d.above, .int .i64 d.delay, .bool d.ret]
def Dev.cells (d : Dev) : List AV := [.int .i64 d.clock, .int .i64 d.dom, .int .i64 d.rst, .int .u32 d.clamp, .isl 2 (flat d.regs) d.regs.length, row d.needs]
def rstCells (n : Int) : List AV := [.int .i64 n]
def Soc.clkV (s : Soc) : AV := .isl 6 (s.clocks.flatMap Clk.cells) s.clocks.length
def Soc.domV (s : Soc) : AV := .isl 3 (s.doms.flatMap Dom.cells) s.doms.length
def Soc.rstV (s : Soc) : AV := .isl 1 (s.rsts.flatMap rstCells) s.rsts.length
def Soc.devV (s : Soc) : AV := .isl 6 (s.devs.flatMap Dev.cells) s.devs.length
def Soc.cells (s : Soc) : List AV := [s.clkV, s.domV, s.rstV, s.devV]


theorem Clk.cells_len (c : Clk) : c.cells.length = 6 := rfl
theorem Dom.cells_len (d : Dom) : d.cells.length = 3 := rfl
theorem Dev.cells_len (d : Dev) : d.cells.length = 6 := rfl
theorem rstCells_len (n : Int) : (rstCells n).length = 1 := rfl
theorem encReg_len (r : Reg) : (encReg r).length = 2 := rfl
end Go.Proofs.Ytjamidgdhmjhaaa.Cn
