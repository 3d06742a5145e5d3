/- Clocks: a tree's nodes, and what each of its functions does. -/
import Derived.Test.YtkioaemhdbcfaaaCnConf8
import Derived.Test.YtkioaemhdbcfaaaCnChipOk
set_option linter.unusedSimpArgs false
set_option linter.unusedVariables false
namespace Go.Proofs.Ytkioaemhdbcfaaa.Cn
open Go Go.Proofs

/-- A node: a clock, and how it is. -/
structure Nd where
  c : Clk
  on : Bool
  left : Int
  set : Int
  want : Int
  by_ : Int
def Nd.cells (n : Nd) : List AV := [.int .u8 n.c.kind, row n.c.src, .int .u64 n.c.rate, .int .i64 n.c.mul, .int .i64 n.c.div, .int .i64 n.c.lock, .bool n.on, .int .i64 n.left, .int .i64 n.set, .int .i64 n.want, .int .i64 n.by_]
theorem Nd.cells_len (n : Nd) : n.cells.length = 11 := rfl
def nsC (ns : List Nd) : AObj := .cells (ns.flatMap Nd.cells)
/-- A tree, and where it lies. -/
structure TreeAt (st : ASt) (p ig : Nat) (ns : List Nd) : Prop where
  hp : st.h p = some (.cells [.sl 11 ig 0 ns.length])
  hg : st.h ig = some (nsC ns)
  ne : p ≠ ig
  few : ns.length ≤ 100
theorem TreeAt.set {st : ASt} {p ig : Nat} {ns : List Nd} (h : TreeAt st p ig ns) {ns' : List Nd} (hl : ns'.length = ns.length) : TreeAt (st.set ig (nsC ns')) p ig ns' :=
  ⟨by rw [ASt.set_h, if_neg h.ne, hl]; exact h.hp, by rw [ASt.set_h, if_pos rfl, h.hg]; rfl, h.ne, by rw [hl]; exact h.few⟩
theorem TreeAt.le {st t : ASt} {p ig : Nat} {ns : List Nd} (h : TreeAt st p ig ns) (hl : st.le t) : TreeAt t p ig ns := ⟨hl _ _ h.hp, hl _ _ h.hg, h.ne, h.few⟩
theorem ns_get {ns : List Nd} {i j : Nat} (hi : i < ns.length) (hj : j < 11) : (ns.flatMap Nd.cells)[i * 11 + j]? = ns[i].cells[j]? := rows_get Nd.cells (w := 11) (fun _ => rfl) hi hj
theorem ns_put {ns : List Nd} {i j : Nat} (hi : i < ns.length) (hj : j < 11) {v : AV} {n : Nd} (hx : ns[i].cells.set j v = n.cells) : (ns.flatMap Nd.cells).set (i * 11 + j) v = (ns.set i n).flatMap Nd.cells :=
  flatMap_set Nd.cells_len hi hj hx
theorem ns_fit {ns : List Nd} {i : Nat} (hi : i < ns.length) : i * 11 + 11 ≤ (ns.flatMap Nd.cells).length := flatMap_fits (f := Nd.cells) (k := 11) (fun _ => rfl) hi
theorem ASt.set_id {st : ASt} {id : Nat} {o : AObj} (h : st.h id = some o) : st.set id o = st := ASt.ext' fun i => by
  rw [ASt.set_h]; split
  · rename_i e; subst e; rw [h]; rfl
  · rfl
/-- Is there a clock of that number? -/
def isCk (ns : List Nd) (i : Int) : Prop := 0 ≤ i ∧ i < (ns.length : Int)
instance (ns : List Nd) (i : Int) : Decidable (isCk ns i) := inferInstanceAs (Decidable (_ ∧ _))
theorem isCk_at {ns : List Nd} {i : Nat} (h : i < ns.length) : isCk ns (i : Int) := ⟨by omega, by omega⟩
/-- From which one comes now, or -1. -/
def Nd.source (n : Nd) : Int := if n.c.src = [] then -1 else n.c.src.getD n.set.toNat 0
/-- A node as it must be: from lesser ones. -/
structure NdOk (i : Nat) (n : Nd) : Prop where
  kind : n.c.kind = 111 ∨ n.c.kind = 112 ∨ n.c.kind = 100 ∨ n.c.kind = 103 ∨ n.c.kind = 109
  osc : n.c.kind = 111 ↔ n.c.src = []
  few : n.c.src.length ≤ 2
  less : ∀ x ∈ n.c.src, 0 ≤ x ∧ x < (i : Int)
  set : 0 ≤ n.set ∧ (n.c.src ≠ [] → n.set < (n.c.src.length : Int)) ∧ (n.c.src = [] → n.set = 0)
  want : 0 ≤ n.want ∧ (n.c.src ≠ [] → n.want < (n.c.src.length : Int)) ∧ (n.c.src = [] → n.want = 0)
  left : 0 ≤ n.left ∧ n.left ≤ 20
  lock : 0 ≤ n.c.lock ∧ n.c.lock ≤ 20
  by_ : n.c.kind = 100 → 1 ≤ n.by_ ∧ n.by_ ≤ 1000
  rate : 0 ≤ n.c.rate ∧ n.c.rate ≤ 1000000
  fac : n.c.kind = 112 → (1 ≤ n.c.mul ∧ n.c.mul ≤ 1000) ∧ (1 ≤ n.c.div ∧ n.c.div ≤ 1000)
def NsOk (ns : List Nd) : Prop := ∀ i (h : i < ns.length), NdOk i ns[i]
theorem NdOk.src {i : Nat} {n : Nd} (h : NdOk i n) (h0 : n.c.src ≠ []) : ∃ x : Nat, n.source = (x : Int) ∧ x < i ∧ n.c.src[n.set.toNat]? = some (x : Int) := by
  have hs := h.set.2.1 h0
  have hs0 := h.set.1
  have hl : n.set.toNat < n.c.src.length := by omega
  have hm := h.less _ (List.getElem_mem hl)
  refine ⟨n.c.src[n.set.toNat].toNat, ?_, by omega, ?_⟩
  · rw [Nd.source, if_neg h0, List.getD_eq_getElem?_getD, List.getElem?_eq_getElem hl]
    simp only [Option.getD_some]; omega
  · rw [List.getElem?_eq_getElem hl]; congr 1; omega
theorem ints_get' {l : List Int} {i : Nat} {x : Int} (h : l[i]? = some x) : (ints l)[i]? = some (.int .i64 x) := by simp [ints, h]
section
variable {st : ASt} {p ig : Nat} {ns : List Nd} (h : TreeAt st p ig ns)
include h
theorem cat_spec (i : Int) : ACalls Try.prog F.q15 [.ptr p 0, .int .i64 i] st fun r s => r = (if isCk ns i then .ptr ig (i.toNat * 11) else .nilp) ∧ s = st := by
  refine calls_of_awp L.q15 rfl ?_
  have hp := h.hp
  by_cases h0 : i < 0
  · have hn : ¬ isCk ns i := fun e => by have := e.1; omega
    rw [if_neg hn]
    simp only [↓Bp, Bq, Bs, ↓aop.eq_28, ↓aop.eq_30, Nat.reduceEqDiff, Nat.reduceAdd, Nat.reduceMul, Nat.reduceSub, Nat.reduceLeDiff, Nat.reduceLT, Int.reduceLT, Int.reduceLE, Int.reduceEq, Int.reduceToNat, Int.reduceAdd, Int.reduceSub, Int.reduceNeg, ↓reduceIte, reduceCtorEq, ↓C.q15_W, C.q15_B, C.q15, h0]
  by_cases h1 : (ns.length : Int) ≤ i
  · have hn : ¬ isCk ns i := fun e => by have := e.2; omega
    rw [if_neg hn]
    simp only [↓Bp, Bq, Bs, ↓aop.eq_28, ↓aop.eq_30, Nat.reduceEqDiff, Nat.reduceAdd, Nat.reduceMul, Nat.reduceSub, Nat.reduceLeDiff, Nat.reduceLT, Int.reduceLT, Int.reduceLE, Int.reduceEq, Int.reduceToNat, Int.reduceAdd, Int.reduceSub, Int.reduceNeg, ↓reduceIte, reduceCtorEq, ↓C.q15_W, C.q15_B, C.q15, h0, hp, h1, ge_iff_le]
  obtain ⟨k, rfl⟩ : ∃ k : Nat, i = k := ⟨i.toNat, by omega⟩
  have hk : k < ns.length := by omega
  have hz : (0:Int) ≤ (k : Int) ∧ (k : Int) < (ns.length : Nat) := by omega
  rw [if_pos (isCk_at hk)]
  simp only [↓Bp, Bq, Bs, ↓aop.eq_28, ↓aop.eq_30, Nat.reduceEqDiff, Nat.reduceAdd, Nat.reduceMul, Nat.reduceSub, Nat.reduceLeDiff, Nat.reduceLT, Int.reduceLT, Int.reduceLE, Int.reduceEq, Int.reduceToNat, Int.reduceAdd, Int.reduceSub, Int.reduceNeg, ↓reduceIte, reduceCtorEq, ↓C.q15_W, C.q15_B, C.q15, h0, hp, h1, hz, Int.toNat_natCast, ge_iff_le]
theorem source_spec {i : Nat} (hi : i < ns.length) (ho : NdOk i ns[i]) : ACalls Try.prog F.q16 [.ptr p 0, .int .i64 i] st fun r s => r = .int .i64 ns[i].source ∧ s = st := by
  refine calls_of_awp L.q16 rfl ?_
  have hp := h.hp
  have hg := h.hg
  rw [nsC] at hg
  have hz : (0:Int) ≤ (i : Int) ∧ (i : Int) < (ns.length : Nat) := by omega
  have g1 := ns_get hi (j := 1) (by omega)
  rw [show ns[i].cells[1]? = some (row ns[i].c.src) from rfl] at g1
  have g8 := ns_get hi (j := 8) (by omega)
  rw [show ns[i].cells[8]? = some (.int .i64 ns[i].set) from rfl] at g8
  by_cases h0 : ns[i].c.src = []
  · rw [h0] at g1
    rw [Nd.source, if_pos h0]
    have c0 : ((0 : Nat) : Int) = 0 := rfl
    simp only [↓Bp, Bq, Bs, ↓aop.eq_28, ↓aop.eq_30, Nat.reduceEqDiff, Nat.reduceAdd, Nat.reduceMul, Nat.reduceSub, Nat.reduceLeDiff, Nat.reduceLT, Int.reduceLT, Int.reduceLE, Int.reduceEq, Int.reduceToNat, Int.reduceAdd, Int.reduceSub, Int.reduceNeg, ↓reduceIte, reduceCtorEq, ↓C.q16_W, C.q16_B, C.q16, hp, hg, hz, g1, row, c0, Int.toNat_natCast]
  · obtain ⟨x, h1, h2, h3⟩ := ho.src h0
    have hl : ns[i].c.src.length ≠ 0 := fun e => h0 (List.eq_nil_of_length_eq_zero e)
    have T := eq_false (show ¬ ((ns[i].c.src.length : Nat) : Int) = 0 by omega)
    have hs := ho.set.2.1 h0
    have hs0 := ho.set.1
    have hzs : 0 ≤ ns[i].set ∧ ns[i].set < (ns[i].c.src.length : Nat) := ⟨hs0, hs⟩
    have hgx := ints_get' h3
    rw [h1]
    simp only [↓Bp, Bq, Bs, ↓aop.eq_28, ↓aop.eq_30, Nat.reduceEqDiff, Nat.reduceAdd, Nat.reduceMul, Nat.reduceSub, Nat.reduceLeDiff, Nat.reduceLT, Int.reduceLT, Int.reduceLE, Int.reduceEq, Int.reduceToNat, Int.reduceAdd, Int.reduceSub, Int.reduceNeg, ↓reduceIte, reduceCtorEq, ↓C.q16_W, C.q16_B, C.q16, hp, hg, hz, g1, g8, row, T, hzs, hgx, Int.toNat_natCast, Nat.mul_one]
theorem cleft_spec (i : Int) : ACalls Try.prog F.q7 [.ptr p 0, .int .i64 i] st fun r s => r = .int .i64 (if h : isCk ns i then (ns[i.toNat]'(by have := h.1; have := h.2; omega)).left else 0) ∧ s = st := by
  refine calls_of_awp L.q7 rfl ?_
  simp only [↓Bp, Bq, Bs, ↓aop.eq_28, ↓aop.eq_30, Nat.reduceEqDiff, Nat.reduceAdd, Nat.reduceMul, Nat.reduceSub, Nat.reduceLeDiff, Nat.reduceLT, Int.reduceLT, Int.reduceLE, Int.reduceEq, Int.reduceToNat, Int.reduceAdd, Int.reduceSub, Int.reduceNeg, ↓reduceIte, reduceCtorEq, ↓C.q7_W, C.q7_B, C.q7]
  refine (cat_spec h i).mono ?_
  rintro r s ⟨rfl, rfl⟩
  by_cases hi : isCk ns i
  · obtain ⟨k, rfl⟩ : ∃ k : Nat, i = k := ⟨i.toNat, by have := hi.1; omega⟩
    have hk : k < ns.length := by have := hi.2; omega
    have hg := h.hg
    rw [nsC] at hg
    have g7 := ns_get hk (j := 7) (by omega)
    rw [show ns[k].cells[7]? = some (.int .i64 ns[k].left) from rfl] at g7
    rw [if_pos hi, dif_pos hi]
    simp only [↓Bp, Bq, Bs, ↓aop.eq_28, ↓aop.eq_30, Nat.reduceEqDiff, Nat.reduceAdd, Nat.reduceMul, Nat.reduceSub, Nat.reduceLeDiff, Nat.reduceLT, Int.reduceLT, Int.reduceLE, Int.reduceEq, Int.reduceToNat, Int.reduceAdd, Int.reduceSub, Int.reduceNeg, ↓reduceIte, reduceCtorEq, ↓C.q7_W, C.q7_B, C.q7, Int.toNat_natCast, hg, g7]
  · rw [if_neg hi, dif_neg hi]
    simp only [↓Bp, Bq, Bs, ↓aop.eq_28, ↓aop.eq_30, Nat.reduceEqDiff, Nat.reduceAdd, Nat.reduceMul, Nat.reduceSub, Nat.reduceLeDiff, Nat.reduceLT, Int.reduceLT, Int.reduceLE, Int.reduceEq, Int.reduceToNat, Int.reduceAdd, Int.reduceSub, Int.reduceNeg, ↓reduceIte, reduceCtorEq, ↓C.q7_W, C.q7_B, C.q7]
theorem cleft_at {i : Nat} (hi : i < ns.length) : ACalls Try.prog F.q7 [.ptr p 0, .int .i64 i] st fun r s => r = .int .i64 ns[i].left ∧ s = st :=
  (cleft_spec h i).mono fun r s ⟨h1, h2⟩ => ⟨by rw [h1, dif_pos (isCk_at hi)]; simp, h2⟩
end
/-- A node turned on or off. -/
def Nd.turn (n : Nd) (b : Bool) : Nd := if n.c.kind = 112 ∧ b = false then { n with on := b, left := n.c.lock } else { n with on := b }
def onE (n : Nd) : Int := if n.c.kind = 112 ∨ n.c.kind = 103 then 0 else 1
def onL (ns : List Nd) (i : Nat) (hi : i < ns.length) (b : Bool) : List Nd := if onE ns[i] = 0 then ns.set i (ns[i].turn b) else ns
theorem on_none {st : ASt} {p ig : Nat} {ns : List Nd} (h : TreeAt st p ig ns) {i : Int} (hi : ¬ isCk ns i) (b : Bool) : ACalls Try.prog F.q8 [.ptr p 0, .int .i64 i, .bool b] st fun r s => r = .int .i64 4 ∧ s = st := by
  refine calls_of_awp L.q8 rfl ?_
  simp only [↓Bp, Bq, Bs, ↓aop.eq_28, ↓aop.eq_30, Nat.reduceEqDiff, Nat.reduceAdd, Nat.reduceMul, Nat.reduceSub, Nat.reduceLeDiff, Nat.reduceLT, Int.reduceLT, Int.reduceLE, Int.reduceEq, Int.reduceToNat, Int.reduceAdd, Int.reduceSub, Int.reduceNeg, ↓reduceIte, reduceCtorEq, ↓C.q8_W, C.q8_B, C.q8]
  refine (cat_spec h i).mono ?_
  rintro r s ⟨rfl, rfl⟩
  rw [if_neg hi]
  simp only [↓Bp, Bq, Bs, ↓aop.eq_28, ↓aop.eq_30, Nat.reduceEqDiff, Nat.reduceAdd, Nat.reduceMul, Nat.reduceSub, Nat.reduceLeDiff, Nat.reduceLT, Int.reduceLT, Int.reduceLE, Int.reduceEq, Int.reduceToNat, Int.reduceAdd, Int.reduceSub, Int.reduceNeg, ↓reduceIte, reduceCtorEq, ↓C.q8_W, C.q8_B, C.q8]
theorem on_spec {st : ASt} {p ig : Nat} {ns : List Nd} (h : TreeAt st p ig ns) {i : Nat} (hi : i < ns.length) (b : Bool) :
    ACalls Try.prog F.q8 [.ptr p 0, .int .i64 i, .bool b] st fun r s => r = .int .i64 (onE ns[i]) ∧ s = st.set ig (nsC (onL ns i hi b)) := by
  refine calls_of_awp L.q8 rfl ?_
  have hg := h.hg
  have hgx := hg
  rw [nsC] at hg
  have g0 := ns_get hi (j := 0) (by omega)
  rw [show ns[i].cells[0]? = some (.int .u8 ns[i].c.kind) from rfl, Nat.add_zero] at g0
  have hfit := ns_fit hi
  have f6 : i * 11 + 6 < (ns.flatMap Nd.cells).length := by omega
  have p6 : (ns.flatMap Nd.cells).set (i * 11 + 6) (.bool b) = (ns.set i { ns[i] with on := b }).flatMap Nd.cells := ns_put hi (by omega) rfl
  have hi1 : i < (ns.set i { ns[i] with on := b }).length := by simpa using hi
  have q0 := ns_get hi1 (j := 0) (by omega)
  rw [List.getElem_set_self, show ({ ns[i] with on := b } : Nd).cells[0]? = some (.int .u8 ns[i].c.kind) from rfl, Nat.add_zero] at q0
  have q5 := ns_get hi1 (j := 5) (by omega)
  rw [List.getElem_set_self, show ({ ns[i] with on := b } : Nd).cells[5]? = some (.int .i64 ns[i].c.lock) from rfl] at q5
  have f7 : i * 11 + 7 < ((ns.set i { ns[i] with on := b }).flatMap Nd.cells).length := by have := ns_fit hi1; omega
  have p7 : ((ns.set i { ns[i] with on := b }).flatMap Nd.cells).set (i * 11 + 7) (.int .i64 ns[i].c.lock) = (ns.set i { ns[i] with on := b, left := ns[i].c.lock }).flatMap Nd.cells := by
    rw [ns_put hi1 (by omega) (n := { ns[i] with on := b, left := ns[i].c.lock }) (by rw [List.getElem_set_self]; rfl), List.set_set]
  simp only [↓Bp, Bq, Bs, ↓aop.eq_28, ↓aop.eq_30, Nat.reduceEqDiff, Nat.reduceAdd, Nat.reduceMul, Nat.reduceSub, Nat.reduceLeDiff, Nat.reduceLT, Int.reduceLT, Int.reduceLE, Int.reduceEq, Int.reduceToNat, Int.reduceAdd, Int.reduceSub, Int.reduceNeg, ↓reduceIte, reduceCtorEq, ↓C.q8_W, C.q8_B, C.q8]
  refine (cat_spec h i).mono ?_
  rintro r s ⟨rfl, rfl⟩
  rw [if_pos (isCk_at hi), Int.toNat_natCast]
  unfold onL onE
  by_cases h1 : ns[i].c.kind = 112
  · rw [if_pos (.inl h1), if_pos rfl, Nd.turn]
    rw [h1] at g0 q0
    cases b
    · rw [if_pos ⟨h1, rfl⟩]
      simp only [↓Bp, Bq, Bs, ↓aop.eq_28, ↓aop.eq_30, Nat.reduceEqDiff, Nat.reduceAdd, Nat.reduceMul, Nat.reduceSub, Nat.reduceLeDiff, Nat.reduceLT, Int.reduceLT, Int.reduceLE, Int.reduceEq, Int.reduceToNat, Int.reduceAdd, Int.reduceSub, Int.reduceNeg, ↓reduceIte, reduceCtorEq, ↓C.q8_W, C.q8_B, C.q8, hg, g0, f6, p6, q0, q5, f7, p7, ASt.set_set]
      rfl
    · rw [if_neg (by simp)]
      simp only [↓Bp, Bq, Bs, ↓aop.eq_28, ↓aop.eq_30, Nat.reduceEqDiff, Nat.reduceAdd, Nat.reduceMul, Nat.reduceSub, Nat.reduceLeDiff, Nat.reduceLT, Int.reduceLT, Int.reduceLE, Int.reduceEq, Int.reduceToNat, Int.reduceAdd, Int.reduceSub, Int.reduceNeg, ↓reduceIte, reduceCtorEq, ↓C.q8_W, C.q8_B, C.q8, hg, g0, f6, p6, q0, q5, f7, p7, ASt.set_set]
      rfl
  by_cases h2 : ns[i].c.kind = 103
  · rw [if_pos (.inr h2), if_pos rfl, Nd.turn, if_neg (by simp [h1])]
    rw [h2] at g0 q0
    simp only [↓Bp, Bq, Bs, ↓aop.eq_28, ↓aop.eq_30, Nat.reduceEqDiff, Nat.reduceAdd, Nat.reduceMul, Nat.reduceSub, Nat.reduceLeDiff, Nat.reduceLT, Int.reduceLT, Int.reduceLE, Int.reduceEq, Int.reduceToNat, Int.reduceAdd, Int.reduceSub, Int.reduceNeg, ↓reduceIte, reduceCtorEq, ↓C.q8_W, C.q8_B, C.q8, hg, g0, f6, p6, q0, q5, f7, p7, ASt.set_set]
    rfl
  · rw [if_neg (by simp [h1, h2]), if_neg (by decide), ASt.set_id hgx]
    have T1 := eq_false h1
    have T2 := eq_false h2
    simp only [↓Bp, Bq, Bs, ↓aop.eq_28, ↓aop.eq_30, Nat.reduceEqDiff, Nat.reduceAdd, Nat.reduceMul, Nat.reduceSub, Nat.reduceLeDiff, Nat.reduceLT, Int.reduceLT, Int.reduceLE, Int.reduceEq, Int.reduceToNat, Int.reduceAdd, Int.reduceSub, Int.reduceNeg, ↓reduceIte, reduceCtorEq, ↓C.q8_W, C.q8_B, C.q8, hg, g0, T1, T2]
def selE (n : Nd) (k : Int) : Int := if n.c.kind = 109 ∧ 0 ≤ k ∧ k < (n.c.src.length : Int) then 0 else 1
def selL (ns : List Nd) (i : Nat) (hi : i < ns.length) (k : Int) : List Nd := if selE ns[i] k = 0 then ns.set i { ns[i] with want := k } else ns
theorem sel_spec {st : ASt} {p ig : Nat} {ns : List Nd} (h : TreeAt st p ig ns) {i : Nat} (hi : i < ns.length) (k : Int) :
    ACalls Try.prog F.q13 [.ptr p 0, .int .i64 i, .int .i64 k] st fun r s => r = .int .i64 (selE ns[i] k) ∧ s = st.set ig (nsC (selL ns i hi k)) := by
  refine calls_of_awp L.q13 rfl ?_
  have hg := h.hg
  have hgx := hg
  rw [nsC] at hg
  have g0 := ns_get hi (j := 0) (by omega)
  rw [show ns[i].cells[0]? = some (.int .u8 ns[i].c.kind) from rfl, Nat.add_zero] at g0
  have g1 := ns_get hi (j := 1) (by omega)
  rw [show ns[i].cells[1]? = some (row ns[i].c.src) from rfl] at g1
  have hfit := ns_fit hi
  have f9 : i * 11 + 9 < (ns.flatMap Nd.cells).length := by omega
  have p9 : (ns.flatMap Nd.cells).set (i * 11 + 9) (.int .i64 k) = (ns.set i { ns[i] with want := k }).flatMap Nd.cells := ns_put hi (by omega) rfl
  simp only [↓Bp, Bq, Bs, ↓aop.eq_28, ↓aop.eq_30, Nat.reduceEqDiff, Nat.reduceAdd, Nat.reduceMul, Nat.reduceSub, Nat.reduceLeDiff, Nat.reduceLT, Int.reduceLT, Int.reduceLE, Int.reduceEq, Int.reduceToNat, Int.reduceAdd, Int.reduceSub, Int.reduceNeg, ↓reduceIte, reduceCtorEq, ↓C.q13_W, C.q13_B, C.q13]
  refine (cat_spec h i).mono ?_
  rintro r s ⟨rfl, rfl⟩
  rw [if_pos (isCk_at hi), Int.toNat_natCast]
  have no : ¬ (ns[i].c.kind = 109 ∧ 0 ≤ k ∧ k < (ns[i].c.src.length : Int)) → selE ns[i] k = 1 ∧ s.set ig (nsC (selL ns i hi k)) = s := fun hn => by
    have e : selE ns[i] k = 1 := by rw [selE, if_neg hn]
    exact ⟨e, by rw [selL, e, if_neg (by decide), ASt.set_id hgx]⟩
  by_cases h1 : ns[i].c.kind = 109
  rotate_left
  · obtain ⟨e1, e2⟩ := no (fun e => h1 e.1)
    have T1 := eq_false h1
    rw [e1, e2]
    simp only [↓Bp, Bq, Bs, ↓aop.eq_28, ↓aop.eq_30, Nat.reduceEqDiff, Nat.reduceAdd, Nat.reduceMul, Nat.reduceSub, Nat.reduceLeDiff, Nat.reduceLT, Int.reduceLT, Int.reduceLE, Int.reduceEq, Int.reduceToNat, Int.reduceAdd, Int.reduceSub, Int.reduceNeg, ↓reduceIte, reduceCtorEq, ↓C.q13_W, C.q13_B, C.q13, hg, g0, T1]
  have T1 := eq_true h1
  by_cases h2 : k < 0
  · obtain ⟨e1, e2⟩ := no (fun e => by have := e.2.1; omega)
    have T2 := eq_true h2
    rw [e1, e2]
    simp only [↓Bp, Bq, Bs, ↓aop.eq_28, ↓aop.eq_30, Nat.reduceEqDiff, Nat.reduceAdd, Nat.reduceMul, Nat.reduceSub, Nat.reduceLeDiff, Nat.reduceLT, Int.reduceLT, Int.reduceLE, Int.reduceEq, Int.reduceToNat, Int.reduceAdd, Int.reduceSub, Int.reduceNeg, ↓reduceIte, reduceCtorEq, ↓C.q13_W, C.q13_B, C.q13, hg, g0, T1, T2]
  have T2 := eq_false h2
  by_cases h3 : (ns[i].c.src.length : Int) ≤ k
  · obtain ⟨e1, e2⟩ := no (fun e => by have := e.2.2; omega)
    have T3 := eq_true h3
    rw [e1, e2]
    simp only [↓Bp, Bq, Bs, ↓aop.eq_28, ↓aop.eq_30, Nat.reduceEqDiff, Nat.reduceAdd, Nat.reduceMul, Nat.reduceSub, Nat.reduceLeDiff, Nat.reduceLT, Int.reduceLT, Int.reduceLE, Int.reduceEq, Int.reduceToNat, Int.reduceAdd, Int.reduceSub, Int.reduceNeg, ↓reduceIte, reduceCtorEq, ↓C.q13_W, C.q13_B, C.q13, hg, g0, g1, row, T1, T2, T3, ge_iff_le]
  have T3 := eq_false h3
  have e1 : selE ns[i] k = 0 := by rw [selE, if_pos ⟨h1, by omega, by omega⟩]
  rw [selL, e1, if_pos rfl]
  simp only [↓Bp, Bq, Bs, ↓aop.eq_28, ↓aop.eq_30, Nat.reduceEqDiff, Nat.reduceAdd, Nat.reduceMul, Nat.reduceSub, Nat.reduceLeDiff, Nat.reduceLT, Int.reduceLT, Int.reduceLE, Int.reduceEq, Int.reduceToNat, Int.reduceAdd, Int.reduceSub, Int.reduceNeg, ↓reduceIte, reduceCtorEq, ↓C.q13_W, C.q13_B, C.q13, hg, g0, g1, row, T1, T2, T3, ge_iff_le, f9, p9]
  rfl
def divE (n : Nd) (d : Int) : Int := if n.c.kind = 100 ∧ 1 ≤ d ∧ d ≤ 1000 then 0 else 1
def divL (ns : List Nd) (i : Nat) (hi : i < ns.length) (d : Int) : List Nd := if divE ns[i] d = 0 then ns.set i { ns[i] with by_ := d } else ns
theorem div_spec {st : ASt} {p ig : Nat} {ns : List Nd} (h : TreeAt st p ig ns) {i : Nat} (hi : i < ns.length) (k : Int) :
    ACalls Try.prog F.q6 [.ptr p 0, .int .i64 i, .int .i64 k] st fun r s => r = .int .i64 (divE ns[i] k) ∧ s = st.set ig (nsC (divL ns i hi k)) := by
  refine calls_of_awp L.q6 rfl ?_
  have hg := h.hg
  have hgx := hg
  rw [nsC] at hg
  have g0 := ns_get hi (j := 0) (by omega)
  rw [show ns[i].cells[0]? = some (.int .u8 ns[i].c.kind) from rfl, Nat.add_zero] at g0
  have hfit := ns_fit hi
  have f10 : i * 11 + 10 < (ns.flatMap Nd.cells).length := by omega
  have p10 : (ns.flatMap Nd.cells).set (i * 11 + 10) (.int .i64 k) = (ns.set i { ns[i] with by_ := k }).flatMap Nd.cells := ns_put hi (by omega) rfl
  simp only [↓Bp, Bq, Bs, ↓aop.eq_28, ↓aop.eq_30, Nat.reduceEqDiff, Nat.reduceAdd, Nat.reduceMul, Nat.reduceSub, Nat.reduceLeDiff, Nat.reduceLT, Int.reduceLT, Int.reduceLE, Int.reduceEq, Int.reduceToNat, Int.reduceAdd, Int.reduceSub, Int.reduceNeg, ↓reduceIte, reduceCtorEq, ↓C.q6_W, C.q6_B, C.q6]
  refine (cat_spec h i).mono ?_
  rintro r s ⟨rfl, rfl⟩
  rw [if_pos (isCk_at hi), Int.toNat_natCast]
  have no : ¬ (ns[i].c.kind = 100 ∧ 1 ≤ k ∧ k ≤ 1000) → divE ns[i] k = 1 ∧ s.set ig (nsC (divL ns i hi k)) = s := fun hn => by
    have e : divE ns[i] k = 1 := by rw [divE, if_neg hn]
    exact ⟨e, by rw [divL, e, if_neg (by decide), ASt.set_id hgx]⟩
  by_cases h1 : ns[i].c.kind = 100
  rotate_left
  · obtain ⟨e1, e2⟩ := no (fun e => h1 e.1)
    have T1 := eq_false h1
    rw [e1, e2]
    simp only [↓Bp, Bq, Bs, ↓aop.eq_28, ↓aop.eq_30, Nat.reduceEqDiff, Nat.reduceAdd, Nat.reduceMul, Nat.reduceSub, Nat.reduceLeDiff, Nat.reduceLT, Int.reduceLT, Int.reduceLE, Int.reduceEq, Int.reduceToNat, Int.reduceAdd, Int.reduceSub, Int.reduceNeg, ↓reduceIte, reduceCtorEq, ↓C.q6_W, C.q6_B, C.q6, hg, g0, T1]
  have T1 := eq_true h1
  by_cases h2 : k < 1
  · obtain ⟨e1, e2⟩ := no (fun e => by have := e.2.1; omega)
    have T2 := eq_true h2
    rw [e1, e2]
    simp only [↓Bp, Bq, Bs, ↓aop.eq_28, ↓aop.eq_30, Nat.reduceEqDiff, Nat.reduceAdd, Nat.reduceMul, Nat.reduceSub, Nat.reduceLeDiff, Nat.reduceLT, Int.reduceLT, Int.reduceLE, Int.reduceEq, Int.reduceToNat, Int.reduceAdd, Int.reduceSub, Int.reduceNeg, ↓reduceIte, reduceCtorEq, ↓C.q6_W, C.q6_B, C.q6, hg, g0, T1, T2]
  have T2 := eq_false h2
  by_cases h3 : 1000 < k
  · obtain ⟨e1, e2⟩ := no (fun e => by have := e.2.2; omega)
    have T3 := eq_true h3
    rw [e1, e2]
    simp only [↓Bp, Bq, Bs, ↓aop.eq_28, ↓aop.eq_30, Nat.reduceEqDiff, Nat.reduceAdd, Nat.reduceMul, Nat.reduceSub, Nat.reduceLeDiff, Nat.reduceLT, Int.reduceLT, Int.reduceLE, Int.reduceEq, Int.reduceToNat, Int.reduceAdd, Int.reduceSub, Int.reduceNeg, ↓reduceIte, reduceCtorEq, ↓C.q6_W, C.q6_B, C.q6, hg, g0, T1, T2, T3, gt_iff_lt]
  have T3 := eq_false h3
  have e1 : divE ns[i] k = 0 := by rw [divE, if_pos ⟨h1, by omega, by omega⟩]
  rw [divL, e1, if_pos rfl]
  simp only [↓Bp, Bq, Bs, ↓aop.eq_28, ↓aop.eq_30, Nat.reduceEqDiff, Nat.reduceAdd, Nat.reduceMul, Nat.reduceSub, Nat.reduceLeDiff, Nat.reduceLT, Int.reduceLT, Int.reduceLE, Int.reduceEq, Int.reduceToNat, Int.reduceAdd, Int.reduceSub, Int.reduceNeg, ↓reduceIte, reduceCtorEq, ↓C.q6_W, C.q6_B, C.q6, hg, g0, T1, T2, T3, gt_iff_lt, f10, p10]
  rfl
end Go.Proofs.Ytkioaemhdbcfaaa.Cn
