/- Clocks: which run. -/
import Derived.Test.YtkioaemhdbcfaaaCnClock1
set_option linter.unusedSimpArgs false
set_option linter.unusedVariables false
namespace Go.Proofs.Ytkioaemhdbcfaaa.Cn
open Go Go.Proofs

/-- Does a node let through? -/
def Nd.own (n : Nd) : Bool := if n.c.kind = 112 then n.on && decide (n.left = 0) else if n.c.kind = 103 then n.on else true
def runF (ns : List Nd) : Nat → Nat → Bool
  | 0, _ => false
  | f + 1, i => if h : i < ns.length then (if ns[i].c.kind = 111 then true else ns[i].own && runF ns f ns[i].source.toNat) else false
def run (ns : List Nd) (i : Nat) : Bool := runF ns (i + 1) i
theorem NdOk.low {i : Nat} {n : Nd} (h : NdOk i n) (h0 : n.c.kind ≠ 111) : ∃ x : Nat, n.source = (x : Int) ∧ x < i ∧ n.c.src[n.set.toNat]? = some (x : Int) :=
  h.src fun e => h0 (h.osc.mpr e)
theorem runF_same {ns : List Nd} (hN : NsOk ns) : ∀ (f g i : Nat), i < f → i < g → runF ns f i = runF ns g i
  | 0, _, _, h, _ => by omega
  | _, 0, _, _, h => by omega
  | f + 1, g + 1, i, h1, h2 => by
    rw [runF, runF]
    by_cases hi : i < ns.length
    · rw [dif_pos hi, dif_pos hi]
      by_cases hk : ns[i].c.kind = 111
      · rw [if_pos hk, if_pos hk]
      · obtain ⟨x, e1, e2, _⟩ := (hN i hi).low hk
        rw [if_neg hk, if_neg hk, e1, Int.toNat_natCast, runF_same hN f g x (by omega) (by omega)]
    · rw [dif_neg hi, dif_neg hi]
theorem run_eq {ns : List Nd} (hN : NsOk ns) {i : Nat} (hi : i < ns.length) : run ns i = if ns[i].c.kind = 111 then true else ns[i].own && run ns ns[i].source.toNat := by
  rw [run, runF, dif_pos hi]
  by_cases hk : ns[i].c.kind = 111
  · rw [if_pos hk, if_pos hk]
  · obtain ⟨x, e1, e2, _⟩ := (hN i hi).low hk
    rw [if_neg hk, if_neg hk, e1, Int.toNat_natCast, run, runF_same hN i (x + 1) x (by omega) (by omega)]
section
variable {st : ASt} {p ig : Nat} {ns : List Nd}
set_option maxHeartbeats 1000000 in
theorem runs_spec (h : TreeAt st p ig ns) (hN : NsOk ns) {b2 b5 : Nat} (h2 : st.h b2 = some (.cells [.ptr p 0])) (h5 : st.h b5 = some (.cells [.fn F.q12 [.ptr b2 0, .ptr b5 0]])) :
    ∀ i : Nat, i < ns.length → ACalls Try.prog F.q12 [.int .i64 i, .ptr b2 0, .ptr b5 0] st fun r s => r = .bool (run ns i) ∧ s = st := by
  intro i
  induction i using Nat.strongRecOn with
  | _ i ih =>
  intro hi
  refine calls_of_awp L.q12 rfl ?_
  have hp := h.hp
  have hg := h.hg
  rw [nsC] at hg
  have hz : (0:Int) ≤ (i : Int) ∧ (i : Int) < (ns.length : Nat) := by omega
  have g0 := ns_get hi (j := 0) (by omega)
  rw [show ns[i].cells[0]? = some (.int .u8 ns[i].c.kind) from rfl, Nat.add_zero] at g0
  have g6 := ns_get hi (j := 6) (by omega)
  rw [show ns[i].cells[6]? = some (.bool ns[i].on) from rfl] at g6
  have g7 := ns_get hi (j := 7) (by omega)
  rw [show ns[i].cells[7]? = some (.int .i64 ns[i].left) from rfl] at g7
  rw [run_eq hN hi, Nd.own]
  by_cases k1 : ns[i].c.kind = 111
  · rw [if_pos k1]
    rw [k1] at g0
    simp only [↓Bp, Bq, Bs, ↓aop.eq_28, ↓aop.eq_30, Nat.reduceEqDiff, Nat.reduceAdd, Nat.reduceMul, Nat.reduceSub, Nat.reduceLeDiff, Nat.reduceLT, Int.reduceLT, Int.reduceLE, Int.reduceEq, Int.reduceToNat, Int.reduceAdd, Int.reduceSub, Int.reduceNeg, ↓reduceIte, reduceCtorEq, ↓C.q12_W, C.q12_B, C.q12, h2, hp, hg, hz, g0, Int.toNat_natCast]
  obtain ⟨x, e1, e2, e3⟩ := (hN i hi).low k1
  have hxl : x < ns.length := by omega
  have src := source_spec h hi (hN i hi)
  have hx := ih x e2 hxl
  rw [if_neg k1]
  by_cases k2 : ns[i].c.kind = 112
  · rw [if_pos k2, e1, Int.toNat_natCast]
    rw [k2] at g0
    cases hon : ns[i].on
    · rw [hon] at g6
      simp only [↓Bp, Bq, Bs, ↓aop.eq_28, ↓aop.eq_30, Nat.reduceEqDiff, Nat.reduceAdd, Nat.reduceMul, Nat.reduceSub, Nat.reduceLeDiff, Nat.reduceLT, Int.reduceLT, Int.reduceLE, Int.reduceEq, Int.reduceToNat, Int.reduceAdd, Int.reduceSub, Int.reduceNeg, ↓reduceIte, reduceCtorEq, ↓C.q12_W, C.q12_B, C.q12, h2, hp, hg, hz, g0, g6, Int.toNat_natCast]
      exact ⟨(fun e => by cases e), rfl⟩
    rw [hon] at g6
    by_cases hl : ns[i].left = 0
    · have T := eq_true hl
      simp only [↓Bp, Bq, Bs, ↓aop.eq_28, ↓aop.eq_30, Nat.reduceEqDiff, Nat.reduceAdd, Nat.reduceMul, Nat.reduceSub, Nat.reduceLeDiff, Nat.reduceLT, Int.reduceLT, Int.reduceLE, Int.reduceEq, Int.reduceToNat, Int.reduceAdd, Int.reduceSub, Int.reduceNeg, ↓reduceIte, reduceCtorEq, ↓C.q12_W, C.q12_B, C.q12, h2, h5, hp, hg, hz, g0, g6, g7, T, Int.toNat_natCast]
      refine src.mono ?_
      rintro r s ⟨rfl, rfl⟩
      rw [e1]
      simp only [↓Bp, Bq, Bs, ↓aop.eq_28, ↓aop.eq_30, Nat.reduceEqDiff, Nat.reduceAdd, Nat.reduceMul, Nat.reduceSub, Nat.reduceLeDiff, Nat.reduceLT, Int.reduceLT, Int.reduceLE, Int.reduceEq, Int.reduceToNat, Int.reduceAdd, Int.reduceSub, Int.reduceNeg, ↓reduceIte, reduceCtorEq, ↓C.q12_W, C.q12_B, C.q12, h2, h5]
      refine ⟨fun _ => trivial, by kernel_rfl, hx.mono ?_⟩
      rintro r s ⟨rfl, rfl⟩
      simp only [↓Bp, Bq, Bs, ↓aop.eq_28, ↓aop.eq_30, Nat.reduceEqDiff, Nat.reduceAdd, Nat.reduceMul, Nat.reduceSub, Nat.reduceLeDiff, Nat.reduceLT, Int.reduceLT, Int.reduceLE, Int.reduceEq, Int.reduceToNat, Int.reduceAdd, Int.reduceSub, Int.reduceNeg, ↓reduceIte, reduceCtorEq, ↓C.q12_W, C.q12_B, C.q12]
      rw [Bool.true_and]
    · have T := eq_false hl
      simp only [↓Bp, Bq, Bs, ↓aop.eq_28, ↓aop.eq_30, Nat.reduceEqDiff, Nat.reduceAdd, Nat.reduceMul, Nat.reduceSub, Nat.reduceLeDiff, Nat.reduceLT, Int.reduceLT, Int.reduceLE, Int.reduceEq, Int.reduceToNat, Int.reduceAdd, Int.reduceSub, Int.reduceNeg, ↓reduceIte, reduceCtorEq, ↓C.q12_W, C.q12_B, C.q12, h2, hp, hg, hz, g0, g6, g7, T, Int.toNat_natCast]
      exact ⟨(fun e => by cases e), rfl⟩
  rw [if_neg k2]
  have T112 := eq_false k2
  have T111 := eq_false k1
  by_cases k3 : ns[i].c.kind = 103
  · rw [if_pos k3, e1, Int.toNat_natCast]
    rw [k3] at g0
    cases hon : ns[i].on
    · rw [hon] at g6
      simp only [↓Bp, Bq, Bs, ↓aop.eq_28, ↓aop.eq_30, Nat.reduceEqDiff, Nat.reduceAdd, Nat.reduceMul, Nat.reduceSub, Nat.reduceLeDiff, Nat.reduceLT, Int.reduceLT, Int.reduceLE, Int.reduceEq, Int.reduceToNat, Int.reduceAdd, Int.reduceSub, Int.reduceNeg, ↓reduceIte, reduceCtorEq, ↓C.q12_W, C.q12_B, C.q12, h2, hp, hg, hz, g0, g6, Int.toNat_natCast]
      exact ⟨(fun e => by cases e), rfl⟩
    rw [hon] at g6
    simp only [↓Bp, Bq, Bs, ↓aop.eq_28, ↓aop.eq_30, Nat.reduceEqDiff, Nat.reduceAdd, Nat.reduceMul, Nat.reduceSub, Nat.reduceLeDiff, Nat.reduceLT, Int.reduceLT, Int.reduceLE, Int.reduceEq, Int.reduceToNat, Int.reduceAdd, Int.reduceSub, Int.reduceNeg, ↓reduceIte, reduceCtorEq, ↓C.q12_W, C.q12_B, C.q12, h2, h5, hp, hg, hz, g0, g6, Int.toNat_natCast]
    refine src.mono ?_
    rintro r s ⟨rfl, rfl⟩
    rw [e1]
    simp only [↓Bp, Bq, Bs, ↓aop.eq_28, ↓aop.eq_30, Nat.reduceEqDiff, Nat.reduceAdd, Nat.reduceMul, Nat.reduceSub, Nat.reduceLeDiff, Nat.reduceLT, Int.reduceLT, Int.reduceLE, Int.reduceEq, Int.reduceToNat, Int.reduceAdd, Int.reduceSub, Int.reduceNeg, ↓reduceIte, reduceCtorEq, ↓C.q12_W, C.q12_B, C.q12, h2, h5]
    refine ⟨fun _ => trivial, by kernel_rfl, hx.mono ?_⟩
    rintro r s ⟨rfl, rfl⟩
    simp only [↓Bp, Bq, Bs, ↓aop.eq_28, ↓aop.eq_30, Nat.reduceEqDiff, Nat.reduceAdd, Nat.reduceMul, Nat.reduceSub, Nat.reduceLeDiff, Nat.reduceLT, Int.reduceLT, Int.reduceLE, Int.reduceEq, Int.reduceToNat, Int.reduceAdd, Int.reduceSub, Int.reduceNeg, ↓reduceIte, reduceCtorEq, ↓C.q12_W, C.q12_B, C.q12]
    rw [Bool.true_and]
  rw [if_neg k3, e1, Int.toNat_natCast, Bool.true_and]
  have T103 := eq_false k3
  simp only [↓Bp, Bq, Bs, ↓aop.eq_28, ↓aop.eq_30, Nat.reduceEqDiff, Nat.reduceAdd, Nat.reduceMul, Nat.reduceSub, Nat.reduceLeDiff, Nat.reduceLT, Int.reduceLT, Int.reduceLE, Int.reduceEq, Int.reduceToNat, Int.reduceAdd, Int.reduceSub, Int.reduceNeg, ↓reduceIte, reduceCtorEq, ↓C.q12_W, C.q12_B, C.q12, h2, h5, hp, hg, hz, g0, T111, T112, T103, Int.toNat_natCast]
  refine src.mono ?_
  rintro r s ⟨rfl, rfl⟩
  rw [e1]
  simp only [↓Bp, Bq, Bs, ↓aop.eq_28, ↓aop.eq_30, Nat.reduceEqDiff, Nat.reduceAdd, Nat.reduceMul, Nat.reduceSub, Nat.reduceLeDiff, Nat.reduceLT, Int.reduceLT, Int.reduceLE, Int.reduceEq, Int.reduceToNat, Int.reduceAdd, Int.reduceSub, Int.reduceNeg, ↓reduceIte, reduceCtorEq, ↓C.q12_W, C.q12_B, C.q12, h2, h5]
  refine ⟨by kernel_rfl, hx.mono ?_⟩
  rintro r s ⟨rfl, rfl⟩
  simp only [↓Bp, Bq, Bs, ↓aop.eq_28, ↓aop.eq_30, Nat.reduceEqDiff, Nat.reduceAdd, Nat.reduceMul, Nat.reduceSub, Nat.reduceLeDiff, Nat.reduceLT, Int.reduceLT, Int.reduceLE, Int.reduceEq, Int.reduceToNat, Int.reduceAdd, Int.reduceSub, Int.reduceNeg, ↓reduceIte, reduceCtorEq, ↓C.q12_W, C.q12_B, C.q12]
/-- Does a clock run? -/
def runI (ns : List Nd) (i : Int) : Bool := if isCk ns i then run ns i.toNat else false
theorem running_spec (h : TreeAt st p ig ns) (hN : NsOk ns) (i : Int) : ACalls Try.prog F.q11 [.ptr p 0, .int .i64 i] st fun r s => r = .bool (runI ns i) ∧ s = st := by
  refine ACalls.gc (Q' := fun r s => r = .bool (runI ns i) ∧ st.le s) (calls_of_awp L.q11 rfl ?_) (fun v s ⟨h, hl⟩ => ⟨st, hl, h, rfl⟩)
  simp only [↓Bp, Bq, Bs, ↓aop.eq_28, ↓aop.eq_30, Nat.reduceEqDiff, Nat.reduceAdd, Nat.reduceMul, Nat.reduceSub, Nat.reduceLeDiff, Nat.reduceLT, Int.reduceLT, Int.reduceLE, Int.reduceEq, Int.reduceToNat, Int.reduceAdd, Int.reduceSub, Int.reduceNeg, ↓reduceIte, reduceCtorEq, ↓C.q11_W, C.q11_B, C.q11]
  rintro b2 hb2
  simp only [↓Bp, Bq, Bs, ↓aop.eq_28, ↓aop.eq_30, Nat.reduceEqDiff, Nat.reduceAdd, Nat.reduceMul, Nat.reduceSub, Nat.reduceLeDiff, Nat.reduceLT, Int.reduceLT, Int.reduceLE, Int.reduceEq, Int.reduceToNat, Int.reduceAdd, Int.reduceSub, Int.reduceNeg, ↓reduceIte, reduceCtorEq, ↓C.q11_W, C.q11_B, C.q11, hb2]
  have h2 := ASt.new_self (.cells [.ptr p 0]) hb2
  have hle := ASt.le.new st b2 (.cells [.ptr p 0])
  have hT := h.le hle
  generalize st.new b2 (.cells [.ptr p 0]) = s0 at h2 hle hT
  refine (cat_spec hT i).mono ?_
  rintro r s ⟨rfl, rfl⟩
  unfold runI
  by_cases hi : isCk ns i
  rotate_left
  · rw [if_neg hi, if_neg hi]
    simp only [↓Bp, Bq, Bs, ↓aop.eq_28, ↓aop.eq_30, Nat.reduceEqDiff, Nat.reduceAdd, Nat.reduceMul, Nat.reduceSub, Nat.reduceLeDiff, Nat.reduceLT, Int.reduceLT, Int.reduceLE, Int.reduceEq, Int.reduceToNat, Int.reduceAdd, Int.reduceSub, Int.reduceNeg, ↓reduceIte, reduceCtorEq, ↓C.q11_W, C.q11_B, C.q11]
    exact hle
  rw [if_pos hi, if_pos hi]
  obtain ⟨k, rfl⟩ : ∃ k : Nat, i = k := ⟨i.toNat, by have := hi.1; omega⟩
  have hk : k < ns.length := by have := hi.2; omega
  simp only [↓Bp, Bq, Bs, ↓aop.eq_28, ↓aop.eq_30, Nat.reduceEqDiff, Nat.reduceAdd, Nat.reduceMul, Nat.reduceSub, Nat.reduceLeDiff, Nat.reduceLT, Int.reduceLT, Int.reduceLE, Int.reduceEq, Int.reduceToNat, Int.reduceAdd, Int.reduceSub, Int.reduceNeg, ↓reduceIte, reduceCtorEq, ↓C.q11_W, C.q11_B, C.q11]
  rintro b5 hb5
  simp only [↓Bp, Bq, Bs, ↓aop.eq_28, ↓aop.eq_30, Nat.reduceEqDiff, Nat.reduceAdd, Nat.reduceMul, Nat.reduceSub, Nat.reduceLeDiff, Nat.reduceLT, Int.reduceLT, Int.reduceLE, Int.reduceEq, Int.reduceToNat, Int.reduceAdd, Int.reduceSub, Int.reduceNeg, ↓reduceIte, reduceCtorEq, hb5]
  refine ⟨by kernel_rfl, ?_⟩
  rw [ASt.new_set hb5]
  have hle5 := ASt.le.new s b5 (.cells [.fn F.q12 [.ptr b2 0, .ptr b5 0]])
  have hT5 := hT.le hle5
  have h25 := hle5 _ _ h2
  have h55 := ASt.new_self (.cells [.fn F.q12 [.ptr b2 0, .ptr b5 0]]) hb5
  refine (runs_spec hT5 hN h25 h55 k hk).mono ?_
  rintro r s2 ⟨rfl, rfl⟩
  simp only [↓Bp, Bq, Bs, ↓aop.eq_28, ↓aop.eq_30, Nat.reduceEqDiff, Nat.reduceAdd, Nat.reduceMul, Nat.reduceSub, Nat.reduceLeDiff, Nat.reduceLT, Int.reduceLT, Int.reduceLE, Int.reduceEq, Int.reduceToNat, Int.reduceAdd, Int.reduceSub, Int.reduceNeg, ↓reduceIte, reduceCtorEq, ↓C.q11_W, C.q11_B, C.q11]
  rw [Int.toNat_natCast]
  exact ⟨rfl, hle.trans hle5⟩
theorem running_at (h : TreeAt st p ig ns) (hN : NsOk ns) {i : Nat} (hi : i < ns.length) : ACalls Try.prog F.q11 [.ptr p 0, .int .i64 i] st fun r s => r = .bool (run ns i) ∧ s = st :=
  (running_spec h hN i).mono fun r s ⟨h1, h2⟩ => ⟨by rw [h1, runI, if_pos (isCk_at hi), Int.toNat_natCast], h2⟩
/-- From the one that has no source down to one. -/
def cchain (ns : List Nd) : Nat → Nat → List Nat
  | 0, _ => []
  | f + 1, i => if h : i < ns.length then (if ns[i].c.kind = 111 then [i] else cchain ns f ns[i].source.toNat ++ [i]) else []
def chainN (ns : List Nd) (i : Nat) : List Nat := cchain ns (i + 1) i
theorem cchain_same (hN : NsOk ns) : ∀ (f g i : Nat), i < f → i < g → cchain ns f i = cchain ns g i
  | 0, _, _, h, _ => by omega
  | _, 0, _, _, h => by omega
  | f + 1, g + 1, i, h1, h2 => by
    rw [cchain, cchain]
    by_cases hi : i < ns.length
    · rw [dif_pos hi, dif_pos hi]
      by_cases hk : ns[i].c.kind = 111
      · rw [if_pos hk, if_pos hk]
      · obtain ⟨x, e1, e2, _⟩ := (hN i hi).low hk
        rw [if_neg hk, if_neg hk, e1, Int.toNat_natCast, cchain_same hN f g x (by omega) (by omega)]
    · rw [dif_neg hi, dif_neg hi]
theorem chainN_eq (hN : NsOk ns) {i : Nat} (hi : i < ns.length) : chainN ns i = if ns[i].c.kind = 111 then [i] else chainN ns ns[i].source.toNat ++ [i] := by
  rw [chainN, cchain, dif_pos hi]
  by_cases hk : ns[i].c.kind = 111
  · rw [if_pos hk, if_pos hk]
  · obtain ⟨x, e1, e2, _⟩ := (hN i hi).low hk
    rw [if_neg hk, if_neg hk, e1, Int.toNat_natCast, chainN, cchain_same hN i (x + 1) x (by omega) (by omega)]
end
end Go.Proofs.Ytkioaemhdbcfaaa.Cn
