/- The abstract layer: the arguments that come in, by their shapes. No conditions. -/
import Derived.Test.YtjamidgdhmjhaaaCnTop
import Derived.Test.YtjamidgdhmjhaaaCnNest
set_option linter.unusedSimpArgs false
set_option linter.unusedVariables false
namespace Go.Proofs.Ytjamidgdhmjhaaa.Cn
open Go Go.Proofs

def I64 (n : Int) : Prop := -9223372036854775808 ≤ n ∧ n ≤ 9223372036854775807
def U32 (n : Int) : Prop := 0 ≤ n ∧ n ≤ 4294967295
def U64 (n : Int) : Prop := 0 ≤ n ∧ n ≤ 18446744073709551615
theorem wf_u64 {n : Int} (h : (Lit.int .u64 n).wf = true) : U64 n := by
  simp only [Lit.wf, Bool.and_eq_true, decide_eq_true_eq] at h
  exact h

abbrev shInt : Sh := .int .i64
abbrev shU64 : Sh := .int .u64
abbrev shBool : Sh := .bool
abbrev shInts : Sh := .slice (.int .i64)
abbrev shU32s : Sh := .slice (.int .u32)
abbrev shGraph : Sh := .slice (.slice (.int .i64))
abbrev shPairs : Sh := .slice (.strct (.cons (.int .i64) (.cons (.int .i64) .unit)))
abbrev shReg : Sh := .slice (.strct (.cons (.int .u32) (.cons .bool .unit)))
abbrev shRAct : Sh := .slice (.strct (.cons (.int .i64) (.cons (.int .i64) (.cons (.int .u32) .unit))))

theorem argInt {a : AV} (h : shInt.Arg a) : ∃ n, a = .int .i64 n ∧ I64 n := by
  obtain ⟨n, h1, h2⟩ := h
  injection h1 with h1
  exact ⟨n, h1, wf_i64 h2⟩
abbrev shU32 : Sh := .int .u32
theorem argU32 {a : AV} (h : shU32.Arg a) : ∃ n, a = .int .u32 n ∧ U32 n := by
  obtain ⟨n, h1, h2⟩ := h
  injection h1 with h1
  exact ⟨n, h1, wf_u32 h2⟩
theorem argU64 {a : AV} (h : shU64.Arg a) : ∃ n, a = .int .u64 n ∧ U64 n := by
  obtain ⟨n, h1, h2⟩ := h
  injection h1 with h1
  exact ⟨n, h1, wf_u64 h2⟩
theorem argBool {a : AV} (h : shBool.Arg a) : ∃ b, a = .bool b := by
  obtain ⟨b, h1⟩ := h
  injection h1 with h1
  exact ⟨b, h1⟩
theorem flatMap_single {α β : Type} (f : α → β) (l : List α) : l.flatMap (fun x => [f x]) = l.map f := by
  induction l with
  | nil => rfl
  | cons x l ih => rw [List.flatMap_cons, ih]; rfl
theorem argInts {a : AV} (h : shInts.Arg a) : ∃ l : List Int, a = .isl 1 (ints l) l.length ∧ (∀ x ∈ l, I64 x) ∧ l.length ≤ maxLen := by
  obtain ⟨l, h1, h2, h3⟩ := slice_arg (fun n : Int => [AV.int .i64 n]) I64 (fun cs hc => by obtain ⟨n, rfl, hn⟩ := hc; exact ⟨n, rfl, wf_i64 hn⟩) h
  exact ⟨l, by rw [h1, flatMap_single]; rfl, h2, h3⟩
theorem argU32s {a : AV} (h : shU32s.Arg a) : ∃ l : List Int, a = .isl 1 (l.map (AV.int .u32)) l.length ∧ (∀ x ∈ l, U32 x) ∧ l.length ≤ maxLen := by
  obtain ⟨l, h1, h2, h3⟩ := slice_arg (fun n : Int => [AV.int .u32 n]) U32 (fun cs hc => by obtain ⟨n, rfl, hn⟩ := hc; exact ⟨n, rfl, wf_u32 hn⟩) h
  exact ⟨l, by rw [h1, flatMap_single]; rfl, h2, h3⟩
theorem argGraph {a : AV} (h : shGraph.Arg a) : ∃ g : List (List Int), a = .isl 1 (g.map row) g.length ∧ (∀ l ∈ g, (∀ x ∈ l, I64 x) ∧ l.length ≤ maxLen) ∧ g.length ≤ maxLen := by
  obtain ⟨l, h1, h2, h3⟩ := slice_arg (fun l : List Int => [row l]) (fun l => (∀ x ∈ l, I64 x) ∧ l.length ≤ maxLen) (fun cs hc => by
    obtain ⟨x, rfl⟩ : ∃ x, cs = [x] := by
      have := hc.size_eq
      exact List.length_eq_one_iff.mp this
    obtain ⟨l, q1, q2, q3⟩ := argInts (a := x) hc
    exact ⟨l, by rw [q1]; rfl, q2, q3⟩) h
  exact ⟨l, by rw [h1, flatMap_single]; rfl, h2, h3⟩

/-- An act of two numbers. -/
structure Pair where
  a : Int
  b : Int
def encPair (p : Pair) : List AV := [.int .i64 p.a, .int .i64 p.b]
theorem encPair_length (p : Pair) : (encPair p).length = 2 := rfl
theorem argPairs {a : AV} (h : shPairs.Arg a) : ∃ l : List Pair, a = .isl 2 (l.flatMap encPair) l.length ∧ (∀ x ∈ l, I64 x.a ∧ I64 x.b) ∧ l.length ≤ maxLen := by
  obtain ⟨l, h1, h2, h3⟩ := slice_arg encPair (fun x => I64 x.a ∧ I64 x.b) (fun cs hc => by
    obtain ⟨x, y, rfl, ⟨n, rfl, hn⟩, ⟨z, w, rfl, ⟨m, rfl, hm⟩, rfl⟩⟩ := hc
    exact ⟨⟨n, m⟩, rfl, wf_i64 hn, wf_i64 hm⟩) h
  exact ⟨l, h1, h2, h3⟩
theorem args1 {s0 : Sh} {al : List AV} (h : ArgsOf [s0] al) : ∃ a0, al = [a0] ∧ s0.Arg a0 := by
  cases al with
  | nil => exact h.elim
  | cons a0 al =>
    cases al with
    | nil => exact ⟨a0, rfl, h.1⟩
    | cons a1 al => exact h.2.elim
theorem args2 {s0 s1 : Sh} {al : List AV} (h : ArgsOf [s0, s1] al) : ∃ a0 a1, al = [a0, a1] ∧ s0.Arg a0 ∧ s1.Arg a1 := by
  cases al with
  | nil => exact h.elim
  | cons a0 al =>
    obtain ⟨a1, rfl, h1⟩ := args1 h.2
    exact ⟨a0, a1, rfl, h.1, h1⟩
theorem args3 {s0 s1 s2 : Sh} {al : List AV} (h : ArgsOf [s0, s1, s2] al) : ∃ a0 a1 a2, al = [a0, a1, a2] ∧ s0.Arg a0 ∧ s1.Arg a1 ∧ s2.Arg a2 := by
  cases al with
  | nil => exact h.elim
  | cons a0 al =>
    obtain ⟨a1, a2, rfl, h1⟩ := args2 h.2
    exact ⟨a0, a1, a2, rfl, h.1, h1⟩
theorem args4 {s0 s1 s2 s3 : Sh} {al : List AV} (h : ArgsOf [s0, s1, s2, s3] al) : ∃ a0 a1 a2 a3, al = [a0, a1, a2, a3] ∧ s0.Arg a0 ∧ s1.Arg a1 ∧ s2.Arg a2 ∧ s3.Arg a3 := by
  cases al with
  | nil => exact h.elim
  | cons a0 al =>
    obtain ⟨a1, a2, a3, rfl, h1⟩ := args3 h.2
    exact ⟨a0, a1, a2, a3, rfl, h.1, h1⟩
theorem args5 {s0 s1 s2 s3 s4 : Sh} {al : List AV} (h : ArgsOf [s0, s1, s2, s3, s4] al) : ∃ a0 a1 a2 a3 a4, al = [a0, a1, a2, a3, a4] ∧ s0.Arg a0 ∧ s1.Arg a1 ∧ s2.Arg a2 ∧ s3.Arg a3 ∧ s4.Arg a4 := by
  cases al with
  | nil => exact h.elim
  | cons a0 al =>
    obtain ⟨a1, a2, a3, a4, rfl, h1⟩ := args4 h.2
    exact ⟨a0, a1, a2, a3, a4, rfl, h.1, h1⟩
end Go.Proofs.Ytjamidgdhmjhaaa.Cn
