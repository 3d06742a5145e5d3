/- What a chip is made of raw numbers: as the statements draw it. No conditions. -/
import Derived.Test.YtjamidgdhmjhaaaCnVals
import Derived.Test.YtjamidgdhmjhaaaCnGraphM
set_option linter.unusedSimpArgs false
set_option linter.unusedVariables false
namespace Go.Proofs.Ytjamidgdhmjhaaa.Cn
open Go Go.RowKit

/-- Which of n things a number speaks of. -/
def pickI (c : Int) (n : Nat) : Nat := (if c < 0 then -(c + 1) else c).toNat % n
theorem pickI_lt (c : Int) {n : Nat} (h : 0 < n) : pickI c n < n := Nat.mod_lt _ h

theorem wrapU64 {n : Int} (h0 : 0 ≤ n) (h1 : n ≤ 18446744073709551615) : IntKind.u64.wrap n = n := by
  have e : IntKind.bits .u64 = 64 := rfl
  have hs : IntKind.signed .u64 = false := rfl
  simp only [IntKind.wrap, e, hs, Bool.false_and, decide_eq_true_eq]
  simp; omega
theorem wrapU32 {n : Int} (h0 : 0 ≤ n) (h1 : n ≤ 4294967295) : IntKind.u32.wrap n = n := by
  have e : IntKind.bits .u32 = 32 := rfl
  have hs : IntKind.signed .u32 = false := rfl
  simp only [IntKind.wrap, e, hs, Bool.false_and, decide_eq_true_eq]
  simp; omega
/-- The numbers that are drawn of a list. -/
def drawN (l : List Int) (i : Nat) : Nat := if l.length = 0 then 0 else pickI ((l.getD (i % l.length) 0).tdiv (1 + ((i / l.length : Nat) : Int))) 1000000
def kindN : Nat → Int
  | 0 => 112
  | 1 => 100
  | 2 => 103
  | 3 => 109
  | _ => 103
theorem drawN_lt (l : List Int) (i : Nat) : drawN l i < 1000000 := by
  unfold drawN; split
  · decide
  · exact pickI_lt _ (by decide)
/-- The clocks, by what is drawn: an oscillator, and others, each from lesser ones. -/
def chClk (d : Nat → Nat) : Nat → Clk
  | 0 => ⟨111, [], 1 + (d 0 : Nat), 0, 0, 0⟩
  | i + 1 =>
    let k := 10 + 3 * i
    let kind := kindN (d k % 5)
    let x : Int := (d (k + 1) % (i + 1) : Nat)
    if kind = 112 then ⟨kind, [x], 0, 1 + (d (k + 2) % 8 : Nat), 1 + (d (k + 2) / 8 % 4 : Nat), (d (k + 2) / 32 % 4 : Nat)⟩
    else if kind = 100 then ⟨kind, [x], 0, 0, 1 + (d (k + 2) % 8 : Nat), 0⟩
    else if kind = 109 then ⟨kind, [x, (d (k + 2) % (i + 1) : Nat)], 0, 0, 0, 0⟩
    else ⟨kind, [x], 0, 0, 0, 0⟩
def chDom (d : Nat → Nat) (i : Nat) : Dom := ⟨if 0 < i ∧ 0 < d (44 + i) % 3 then (d (44 + i) / 3 % i : Nat) else -1, (d (40 + i) % 4 : Nat), decide (d (40 + i) / 4 % 2 = 1)⟩
def chRst (d : Nat → Nat) (i : Nat) : Int := (d (50 + i) % 4 : Nat)
def nClk (d : Nat → Nat) : Nat := d 1 % 9 + 1
def nDom (d : Nat → Nat) : Nat := d 2 % 4 + 1
def nRst (d : Nat → Nat) : Nat := d 3 % 3 + 1
def nDev (d : Nat → Nat) : Nat := d 4 % 4 + 1
def chReg (d : Nat → Nat) (k j : Nat) : Reg := ⟨(d (k + 5 + j) % 7 : Nat), decide (d (k + 5 + j) / 7 % 2 = 0)⟩
def chNeeds (d : Nat → Nat) (i k : Nat) : List Int :=
  (if 0 < i ∧ d (k + 9) % 2 = 1 then [((d (k + 10) % i : Nat) : Int)] else []) ++ (if 1 < i ∧ d (k + 11) % 3 = 1 then [((d (k + 11) / 3 % i : Nat) : Int)] else [])
def chDev (d : Nat → Nat) (i : Nat) : Dev :=
  let k := 60 + 12 * i
  ⟨(d k % nClk d : Nat), (d (k + 1) % nDom d : Nat), (d (k + 2) % nRst d : Nat), (d (k + 3) % 3 : Nat), (List.range (d (k + 4) % 5)).map (chReg d k), chNeeds d i k⟩
def chipD (d : Nat → Nat) : Soc := ⟨(List.range (nClk d)).map (chClk d), (List.range (nDom d)).map (chDom d), (List.range (nRst d)).map (chRst d), (List.range (nDev d)).map (chDev d)⟩
def chipS (l : List Int) : Soc := chipD (drawN l)
end Go.Proofs.Ytjamidgdhmjhaaa.Cn
