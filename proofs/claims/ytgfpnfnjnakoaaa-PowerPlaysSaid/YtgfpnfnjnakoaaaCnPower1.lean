/- Power: a grid's domains, and what each of its functions does. -/
import Derived.Test.YtgfpnfnjnakoaaaCnConf8
set_option linter.unusedSimpArgs false
set_option linter.unusedVariables false
namespace Go.Proofs.Ytgfpnfnjnakoaaa.Cn
open Go Go.Proofs

/-- A domain of a grid: its description, its phase, what is left, whether it comes back, whether it is to be kept. -/
structure Gd where
  above : Int
  delay : Int
  ret : Bool
  phase : Int
  left : Int
  back : Bool
  keep : Bool
def Gd.cells (g : Gd) : List AV := [.int .i64 g.above, .int .i64 g.delay, .bool g.ret, .int .u8 g.phase, .int .i64 g.left, .bool g.back, .bool g.keep]
theorem Gd.cells_len (g : Gd) : g.cells.length = 7 := rfl
def gsC (gs : List Gd) : AObj := .cells (gs.flatMap Gd.cells)
/-- A grid, and where it lies. -/
structure GridAt (st : ASt) (p ig : Nat) (gs : List Gd) : Prop where
  hp : st.h p = some (.cells [.sl 7 ig 0 gs.length])
  hg : st.h ig = some (gsC gs)
  ne : p ≠ ig
  few : gs.length ≤ 1000
theorem GridAt.set {st : ASt} {p ig : Nat} {gs : List Gd} (h : GridAt st p ig gs) {gs' : List Gd} (hl : gs'.length = gs.length) : GridAt (st.set ig (gsC gs')) p ig gs' :=
  ⟨by rw [ASt.set_h, if_neg h.ne, hl]; exact h.hp, by rw [ASt.set_h, if_pos rfl, h.hg]; rfl, h.ne, by rw [hl]; exact h.few⟩
theorem GridAt.le {st t : ASt} {p ig : Nat} {gs : List Gd} (h : GridAt st p ig gs) (hl : st.le t) : GridAt t p ig gs := ⟨hl _ _ h.hp, hl _ _ h.hg, h.ne, h.few⟩
/-- Is there a domain of that number? -/
def isGd (gs : List Gd) (i : Int) : Prop := 0 ≤ i ∧ i < (gs.length : Int)
instance (gs : List Gd) (i : Int) : Decidable (isGd gs i) := inferInstanceAs (Decidable (_ ∧ _))
theorem isGd_at {gs : List Gd} {i : Nat} (h : i < gs.length) : isGd gs (i : Int) := ⟨by omega, by omega⟩
theorem gs_get {gs : List Gd} {i j : Nat} (hi : i < gs.length) (hj : j < 7) : (gs.flatMap Gd.cells)[i * 7 + j]? = gs[i].cells[j]? := rows_get Gd.cells (w := 7) (fun _ => rfl) hi hj
theorem gs_put {gs : List Gd} {i j : Nat} (hi : i < gs.length) (hj : j < 7) {v : AV} {g : Gd} (hx : gs[i].cells.set j v = g.cells) : (gs.flatMap Gd.cells).set (i * 7 + j) v = (gs.set i g).flatMap Gd.cells :=
  flatMap_set Gd.cells_len hi hj hx
theorem gs_fit {gs : List Gd} {i : Nat} (hi : i < gs.length) : i * 7 + 7 ≤ (gs.flatMap Gd.cells).length := flatMap_fits (f := Gd.cells) (k := 7) (fun _ => rfl) hi
theorem ASt.set_id {st : ASt} {id : Nat} {o : AObj} (h : st.h id = some o) : st.set id o = st := ASt.ext' fun i => by
  rw [ASt.set_h]; split
  · rename_i e; subst e; rw [h]; rfl
  · rfl
def Gd.isDown (g : Gd) : Bool := decide (g.phase = 48) || decide (g.phase = 116)
def gtick (g : Gd) : Gd :=
  if g.phase = 114 then (if 0 < g.left then { g with left := g.left - 1 } else { g with phase := 104 })
  else if g.phase = 104 then { g with phase := 49 }
  else if g.phase = 99 then (if g.keep = true then { g with phase := 116 } else { g with phase := 48 })
  else g
def gev (g : Gd) : Int :=
  if g.phase = 114 then (if 0 < g.left then 0 else if g.back = true then 114 else 110)
  else if g.phase = 104 then 111
  else if g.phase = 99 then (if g.keep = true then 115 else 108)
  else 0
section
variable {st : ASt} {p ig : Nat} {gs : List Gd}
theorem ddown_spec {i : Nat} (hi : i < gs.length) (hg : st.h ig = some (gsC gs)) : ACalls Try.prog F.q86 [.ptr ig (i * 7)] st fun r s => r = .bool gs[i].isDown ∧ s = st := by
  refine calls_of_awp L.q86 rfl ?_
  rw [gsC] at hg
  have g3 := gs_get hi (j := 3) (by omega)
  rw [show gs[i].cells[3]? = some (.int .u8 gs[i].phase) from rfl] at g3
  unfold Gd.isDown
  by_cases h : gs[i].phase = 48
  · simp only [↓Bp, Bq, Bs, ↓aop.eq_28, ↓aop.eq_30, Nat.reduceEqDiff, Nat.reduceAdd, Nat.reduceMul, Nat.reduceSub, Nat.reduceLeDiff, Nat.reduceLT, Int.reduceLT, Int.reduceLE, Int.reduceEq, Int.reduceToNat, Int.reduceAdd, Int.reduceSub, Int.reduceNeg, ↓reduceIte, reduceCtorEq, ↓C.q86_W, C.q86_B, C.q86, hg, g3, h]
    rfl
  · simp only [↓Bp, Bq, Bs, ↓aop.eq_28, ↓aop.eq_30, Nat.reduceEqDiff, Nat.reduceAdd, Nat.reduceMul, Nat.reduceSub, Nat.reduceLeDiff, Nat.reduceLT, Int.reduceLT, Int.reduceLE, Int.reduceEq, Int.reduceToNat, Int.reduceAdd, Int.reduceSub, Int.reduceNeg, ↓reduceIte, reduceCtorEq, ↓C.q86_W, C.q86_B, C.q86, hg, g3, h]
    rw [Bool.false_or]
theorem dtick_spec {i : Nat} (hi : i < gs.length) (hg : st.h ig = some (gsC gs)) (hl : gs[i].left ≤ 1000) : ACalls Try.prog F.q87 [.ptr ig (i * 7)] st fun r s => r = .int .u8 (gev gs[i]) ∧ s = st.set ig (gsC (gs.set i (gtick gs[i]))) := by
  refine calls_of_awp L.q87 rfl ?_
  have hgx := hg
  rw [gsC] at hg
  have g3 := gs_get hi (j := 3) (by omega)
  have g4 := gs_get hi (j := 4) (by omega)
  have g5 := gs_get hi (j := 5) (by omega)
  have g6 := gs_get hi (j := 6) (by omega)
  have hfit := gs_fit hi
  have f3 : i * 7 + 3 < (gs.flatMap Gd.cells).length := by omega
  have f4 : i * 7 + 4 < (gs.flatMap Gd.cells).length := by omega
  rw [show gs[i].cells[3]? = some (.int .u8 gs[i].phase) from rfl] at g3
  rw [show gs[i].cells[4]? = some (.int .i64 gs[i].left) from rfl] at g4
  rw [show gs[i].cells[5]? = some (.bool gs[i].back) from rfl] at g5
  rw [show gs[i].cells[6]? = some (.bool gs[i].keep) from rfl] at g6
  have p3 : ∀ v : Int, (gs.flatMap Gd.cells).set (i * 7 + 3) (.int .u8 v) = (gs.set i { gs[i] with phase := v }).flatMap Gd.cells := fun v => gs_put hi (by omega) rfl
  have p4 : ∀ v : Int, (gs.flatMap Gd.cells).set (i * 7 + 4) (.int .i64 v) = (gs.set i { gs[i] with left := v }).flatMap Gd.cells := fun v => gs_put hi (by omega) rfl
  have q5 : ∀ v : Int, ((gs.set i { gs[i] with phase := v }).flatMap Gd.cells)[i * 7 + 5]? = some (.bool gs[i].back) := fun v => by
    rw [gs_get (by simpa using hi) (by omega)]; simp [Gd.cells]
  unfold gev gtick
  by_cases h1 : gs[i].phase = 114
  · rw [if_pos h1, if_pos h1]
    rw [h1] at g3
    by_cases h2 : 0 < gs[i].left
    · have w : IntKind.i64.wrap (gs[i].left - 1) = gs[i].left - 1 := by rw [wrap64] <;> omega
      rw [if_pos h2, if_pos h2]
      have hT := eq_true h2
      simp only [↓Bp, Bq, Bs, ↓aop.eq_28, ↓aop.eq_30, Nat.reduceEqDiff, Nat.reduceAdd, Nat.reduceMul, Nat.reduceSub, Nat.reduceLeDiff, Nat.reduceLT, Int.reduceLT, Int.reduceLE, Int.reduceEq, Int.reduceToNat, Int.reduceAdd, Int.reduceSub, Int.reduceNeg, ↓reduceIte, reduceCtorEq, ↓C.q87_W, C.q87_B, C.q87, hg, g3, g4, hT, gt_iff_lt, w, f4, p4]
      rfl
    · rw [if_neg h2, if_neg h2]
      have hT := eq_false h2
      by_cases h3 : gs[i].back = true
      · rw [if_pos h3]
        rw [h3] at q5
        simp only [↓Bp, Bq, Bs, ↓aop.eq_28, ↓aop.eq_30, Nat.reduceEqDiff, Nat.reduceAdd, Nat.reduceMul, Nat.reduceSub, Nat.reduceLeDiff, Nat.reduceLT, Int.reduceLT, Int.reduceLE, Int.reduceEq, Int.reduceToNat, Int.reduceAdd, Int.reduceSub, Int.reduceNeg, ↓reduceIte, reduceCtorEq, ↓C.q87_W, C.q87_B, C.q87, hg, g3, g4, hT, gt_iff_lt, f3, p3, q5]
        rfl
      · have h3' : gs[i].back = false := by simpa using h3
        rw [if_neg h3]
        rw [h3'] at q5
        simp only [↓Bp, Bq, Bs, ↓aop.eq_28, ↓aop.eq_30, Nat.reduceEqDiff, Nat.reduceAdd, Nat.reduceMul, Nat.reduceSub, Nat.reduceLeDiff, Nat.reduceLT, Int.reduceLT, Int.reduceLE, Int.reduceEq, Int.reduceToNat, Int.reduceAdd, Int.reduceSub, Int.reduceNeg, ↓reduceIte, reduceCtorEq, ↓C.q87_W, C.q87_B, C.q87, hg, g3, g4, hT, gt_iff_lt, f3, p3, q5]
        rfl
  rw [if_neg h1, if_neg h1]
  have t1 := eq_false h1
  by_cases h2 : gs[i].phase = 104
  · rw [if_pos h2, if_pos h2]
    rw [h2] at g3
    simp only [↓Bp, Bq, Bs, ↓aop.eq_28, ↓aop.eq_30, Nat.reduceEqDiff, Nat.reduceAdd, Nat.reduceMul, Nat.reduceSub, Nat.reduceLeDiff, Nat.reduceLT, Int.reduceLT, Int.reduceLE, Int.reduceEq, Int.reduceToNat, Int.reduceAdd, Int.reduceSub, Int.reduceNeg, ↓reduceIte, reduceCtorEq, ↓C.q87_W, C.q87_B, C.q87, hg, g3, f3, p3]
    rfl
  rw [if_neg h2, if_neg h2]
  have t2 := eq_false h2
  by_cases h3 : gs[i].phase = 99
  · rw [if_pos h3, if_pos h3]
    rw [h3] at g3
    by_cases h4 : gs[i].keep = true
    · rw [if_pos h4, if_pos h4]
      rw [h4] at g6
      simp only [↓Bp, Bq, Bs, ↓aop.eq_28, ↓aop.eq_30, Nat.reduceEqDiff, Nat.reduceAdd, Nat.reduceMul, Nat.reduceSub, Nat.reduceLeDiff, Nat.reduceLT, Int.reduceLT, Int.reduceLE, Int.reduceEq, Int.reduceToNat, Int.reduceAdd, Int.reduceSub, Int.reduceNeg, ↓reduceIte, reduceCtorEq, ↓C.q87_W, C.q87_B, C.q87, hg, g3, g6, f3, p3]
      rfl
    · have h4' : gs[i].keep = false := by simpa using h4
      rw [if_neg h4, if_neg h4]
      rw [h4'] at g6
      simp only [↓Bp, Bq, Bs, ↓aop.eq_28, ↓aop.eq_30, Nat.reduceEqDiff, Nat.reduceAdd, Nat.reduceMul, Nat.reduceSub, Nat.reduceLeDiff, Nat.reduceLT, Int.reduceLT, Int.reduceLE, Int.reduceEq, Int.reduceToNat, Int.reduceAdd, Int.reduceSub, Int.reduceNeg, ↓reduceIte, reduceCtorEq, ↓C.q87_W, C.q87_B, C.q87, hg, g3, g6, f3, p3]
      rfl
  rw [if_neg h3, if_neg h3, List.set_getElem_self, ASt.set_id hgx]
  have t3 := eq_false h3
  simp only [↓Bp, Bq, Bs, ↓aop.eq_28, ↓aop.eq_30, Nat.reduceEqDiff, Nat.reduceAdd, Nat.reduceMul, Nat.reduceSub, Nat.reduceLeDiff, Nat.reduceLT, Int.reduceLT, Int.reduceLE, Int.reduceEq, Int.reduceToNat, Int.reduceAdd, Int.reduceSub, Int.reduceNeg, ↓reduceIte, reduceCtorEq, ↓C.q87_W, C.q87_B, C.q87, hg, g3, t1, t2, t3]
variable (h : GridAt st p ig gs)
include h
theorem at_spec (i : Int) : ACalls Try.prog F.q84 [.ptr p 0, .int .i64 i] st fun r s => r = (if isGd gs i then .ptr ig (i.toNat * 7) else .nilp) ∧ s = st := by
  refine calls_of_awp L.q84 rfl ?_
  have hp := h.hp
  by_cases h0 : i < 0
  · have hn : ¬ isGd gs i := fun e => by have := e.1; omega
    rw [if_neg hn]
    simp only [↓Bp, Bq, Bs, ↓aop.eq_28, ↓aop.eq_30, Nat.reduceEqDiff, Nat.reduceAdd, Nat.reduceMul, Nat.reduceSub, Nat.reduceLeDiff, Nat.reduceLT, Int.reduceLT, Int.reduceLE, Int.reduceEq, Int.reduceToNat, Int.reduceAdd, Int.reduceSub, Int.reduceNeg, ↓reduceIte, reduceCtorEq, ↓C.q84_W, C.q84_B, C.q84, h0]
  by_cases h1 : (gs.length : Int) ≤ i
  · have hn : ¬ isGd gs i := fun e => by have := e.2; omega
    rw [if_neg hn]
    simp only [↓Bp, Bq, Bs, ↓aop.eq_28, ↓aop.eq_30, Nat.reduceEqDiff, Nat.reduceAdd, Nat.reduceMul, Nat.reduceSub, Nat.reduceLeDiff, Nat.reduceLT, Int.reduceLT, Int.reduceLE, Int.reduceEq, Int.reduceToNat, Int.reduceAdd, Int.reduceSub, Int.reduceNeg, ↓reduceIte, reduceCtorEq, ↓C.q84_W, C.q84_B, C.q84, h0, hp, h1, ge_iff_le]
  obtain ⟨k, rfl⟩ : ∃ k : Nat, i = k := ⟨i.toNat, by omega⟩
  have hk : k < gs.length := by omega
  have hz : (0:Int) ≤ (k : Int) ∧ (k : Int) < (gs.length : Nat) := by omega
  rw [if_pos (isGd_at hk)]
  simp only [↓Bp, Bq, Bs, ↓aop.eq_28, ↓aop.eq_30, Nat.reduceEqDiff, Nat.reduceAdd, Nat.reduceMul, Nat.reduceSub, Nat.reduceLeDiff, Nat.reduceLT, Int.reduceLT, Int.reduceLE, Int.reduceEq, Int.reduceToNat, Int.reduceAdd, Int.reduceSub, Int.reduceNeg, ↓reduceIte, reduceCtorEq, ↓C.q84_W, C.q84_B, C.q84, h0, hp, h1, hz, Int.toNat_natCast, ge_iff_le]
theorem phase_spec (i : Int) : ACalls Try.prog F.q81 [.ptr p 0, .int .i64 i] st fun r s => r = .int .u8 (if h : isGd gs i then (gs[i.toNat]'(by have := h.1; have := h.2; omega)).phase else 0) ∧ s = st := by
  refine calls_of_awp L.q81 rfl ?_
  simp only [↓Bp, Bq, Bs, ↓aop.eq_28, ↓aop.eq_30, Nat.reduceEqDiff, Nat.reduceAdd, Nat.reduceMul, Nat.reduceSub, Nat.reduceLeDiff, Nat.reduceLT, Int.reduceLT, Int.reduceLE, Int.reduceEq, Int.reduceToNat, Int.reduceAdd, Int.reduceSub, Int.reduceNeg, ↓reduceIte, reduceCtorEq, ↓C.q81_W, C.q81_B, C.q81]
  refine (at_spec h i).mono ?_
  rintro r s ⟨rfl, rfl⟩
  by_cases hi : isGd gs i
  · obtain ⟨k, rfl⟩ : ∃ k : Nat, i = k := ⟨i.toNat, by have := hi.1; omega⟩
    have hk : k < gs.length := by have := hi.2; omega
    have hg := h.hg
    rw [gsC] at hg
    have g3 := gs_get hk (j := 3) (by omega)
    rw [show gs[k].cells[3]? = some (.int .u8 gs[k].phase) from rfl] at g3
    rw [if_pos hi, dif_pos hi]
    simp only [↓Bp, Bq, Bs, ↓aop.eq_28, ↓aop.eq_30, Nat.reduceEqDiff, Nat.reduceAdd, Nat.reduceMul, Nat.reduceSub, Nat.reduceLeDiff, Nat.reduceLT, Int.reduceLT, Int.reduceLE, Int.reduceEq, Int.reduceToNat, Int.reduceAdd, Int.reduceSub, Int.reduceNeg, ↓reduceIte, reduceCtorEq, ↓C.q81_W, C.q81_B, C.q81, Int.toNat_natCast, hg, g3]
  · rw [if_neg hi, dif_neg hi]
    simp only [↓Bp, Bq, Bs, ↓aop.eq_28, ↓aop.eq_30, Nat.reduceEqDiff, Nat.reduceAdd, Nat.reduceMul, Nat.reduceSub, Nat.reduceLeDiff, Nat.reduceLT, Int.reduceLT, Int.reduceLE, Int.reduceEq, Int.reduceToNat, Int.reduceAdd, Int.reduceSub, Int.reduceNeg, ↓reduceIte, reduceCtorEq, ↓C.q81_W, C.q81_B, C.q81]
theorem gleft_spec (i : Int) : ACalls Try.prog F.q80 [.ptr p 0, .int .i64 i] st fun r s => r = .int .i64 (if h : isGd gs i then (if (gs[i.toNat]'(by have := h.1; have := h.2; omega)).phase = 114 then (gs[i.toNat]'(by have := h.1; have := h.2; omega)).left else 0) else 0) ∧ s = st := by
  refine calls_of_awp L.q80 rfl ?_
  simp only [↓Bp, Bq, Bs, ↓aop.eq_28, ↓aop.eq_30, Nat.reduceEqDiff, Nat.reduceAdd, Nat.reduceMul, Nat.reduceSub, Nat.reduceLeDiff, Nat.reduceLT, Int.reduceLT, Int.reduceLE, Int.reduceEq, Int.reduceToNat, Int.reduceAdd, Int.reduceSub, Int.reduceNeg, ↓reduceIte, reduceCtorEq, ↓C.q80_W, C.q80_B, C.q80]
  refine (at_spec h i).mono ?_
  rintro r s ⟨rfl, rfl⟩
  by_cases hi : isGd gs i
  · obtain ⟨k, rfl⟩ : ∃ k : Nat, i = k := ⟨i.toNat, by have := hi.1; omega⟩
    have hk : k < gs.length := by have := hi.2; omega
    have hg := h.hg
    rw [gsC] at hg
    have g3 := gs_get hk (j := 3) (by omega)
    have g4 := gs_get hk (j := 4) (by omega)
    rw [show gs[k].cells[3]? = some (.int .u8 gs[k].phase) from rfl] at g3
    rw [show gs[k].cells[4]? = some (.int .i64 gs[k].left) from rfl] at g4
    rw [if_pos hi, dif_pos hi]
    by_cases h1 : gs[k].phase = 114
    · rw [h1] at g3
      rw [if_pos (by simpa using h1)]
      simp only [↓Bp, Bq, Bs, ↓aop.eq_28, ↓aop.eq_30, Nat.reduceEqDiff, Nat.reduceAdd, Nat.reduceMul, Nat.reduceSub, Nat.reduceLeDiff, Nat.reduceLT, Int.reduceLT, Int.reduceLE, Int.reduceEq, Int.reduceToNat, Int.reduceAdd, Int.reduceSub, Int.reduceNeg, ↓reduceIte, reduceCtorEq, ↓C.q80_W, C.q80_B, C.q80, Int.toNat_natCast, hg, g3, g4]
    · have hT := eq_false h1
      rw [if_neg (by simpa using h1)]
      simp only [↓Bp, Bq, Bs, ↓aop.eq_28, ↓aop.eq_30, Nat.reduceEqDiff, Nat.reduceAdd, Nat.reduceMul, Nat.reduceSub, Nat.reduceLeDiff, Nat.reduceLT, Int.reduceLT, Int.reduceLE, Int.reduceEq, Int.reduceToNat, Int.reduceAdd, Int.reduceSub, Int.reduceNeg, ↓reduceIte, reduceCtorEq, ↓C.q80_W, C.q80_B, C.q80, Int.toNat_natCast, hg, g3, hT]
  · rw [if_neg hi, dif_neg hi]
    simp only [↓Bp, Bq, Bs, ↓aop.eq_28, ↓aop.eq_30, Nat.reduceEqDiff, Nat.reduceAdd, Nat.reduceMul, Nat.reduceSub, Nat.reduceLeDiff, Nat.reduceLT, Int.reduceLT, Int.reduceLE, Int.reduceEq, Int.reduceToNat, Int.reduceAdd, Int.reduceSub, Int.reduceNeg, ↓reduceIte, reduceCtorEq, ↓C.q80_W, C.q80_B, C.q80]
end
/-- The document's numbers of what is wrong. -/
def upE (gs : List Gd) (i : Nat) (hi : i < gs.length) : Int :=
  if gs[i].isDown = false ∨ (gs[i].above ≠ -1 ∧ (gs.getD gs[i].above.toNat gs[i]).phase ≠ 49) then 6 else 0
def upG (gs : List Gd) (i : Nat) (hi : i < gs.length) : List Gd :=
  if gs[i].isDown = false ∨ (gs[i].above ≠ -1 ∧ (gs.getD gs[i].above.toNat gs[i]).phase ≠ 49) then gs else gs.set i { gs[i] with back := decide (gs[i].phase = 116), phase := 114, left := gs[i].delay }
theorem up_none {st : ASt} {p ig : Nat} {gs : List Gd} (h : GridAt st p ig gs) {i : Int} (hi : ¬ isGd gs i) : ACalls Try.prog F.q83 [.ptr p 0, .int .i64 i] st fun r s => r = .int .i64 4 ∧ s = st := by
  refine calls_of_awp L.q83 rfl ?_
  simp only [↓Bp, Bq, Bs, ↓aop.eq_28, ↓aop.eq_30, Nat.reduceEqDiff, Nat.reduceAdd, Nat.reduceMul, Nat.reduceSub, Nat.reduceLeDiff, Nat.reduceLT, Int.reduceLT, Int.reduceLE, Int.reduceEq, Int.reduceToNat, Int.reduceAdd, Int.reduceSub, Int.reduceNeg, ↓reduceIte, reduceCtorEq, ↓C.q83_W, C.q83_B, C.q83]
  refine (at_spec h i).mono ?_
  rintro r s ⟨rfl, rfl⟩
  rw [if_neg hi]
  simp only [↓Bp, Bq, Bs, ↓aop.eq_28, ↓aop.eq_30, Nat.reduceEqDiff, Nat.reduceAdd, Nat.reduceMul, Nat.reduceSub, Nat.reduceLeDiff, Nat.reduceLT, Int.reduceLT, Int.reduceLE, Int.reduceEq, Int.reduceToNat, Int.reduceAdd, Int.reduceSub, Int.reduceNeg, ↓reduceIte, reduceCtorEq, ↓C.q83_W, C.q83_B, C.q83]
theorem up_spec {st : ASt} {p ig : Nat} {gs : List Gd} (h : GridAt st p ig gs) (hab : ∀ g ∈ gs, g.above = -1 ∨ (0 ≤ g.above ∧ g.above < (gs.length : Int))) {i : Nat} (hi : i < gs.length) :
    ACalls Try.prog F.q83 [.ptr p 0, .int .i64 i] st fun r s => r = .int .i64 (upE gs i hi) ∧ s = st.set ig (gsC (upG gs i hi)) := by
  refine calls_of_awp L.q83 rfl ?_
  simp only [↓Bp, Bq, Bs, ↓aop.eq_28, ↓aop.eq_30, Nat.reduceEqDiff, Nat.reduceAdd, Nat.reduceMul, Nat.reduceSub, Nat.reduceLeDiff, Nat.reduceLT, Int.reduceLT, Int.reduceLE, Int.reduceEq, Int.reduceToNat, Int.reduceAdd, Int.reduceSub, Int.reduceNeg, ↓reduceIte, reduceCtorEq, ↓C.q83_W, C.q83_B, C.q83]
  refine (at_spec h i).mono ?_
  rintro r s ⟨rfl, rfl⟩
  rw [if_pos (isGd_at hi), Int.toNat_natCast]
  have hg := h.hg
  have hp := h.hp
  have hne := h.ne
  simp only [↓Bp, Bq, Bs, ↓aop.eq_28, ↓aop.eq_30, Nat.reduceEqDiff, Nat.reduceAdd, Nat.reduceMul, Nat.reduceSub, Nat.reduceLeDiff, Nat.reduceLT, Int.reduceLT, Int.reduceLE, Int.reduceEq, Int.reduceToNat, Int.reduceAdd, Int.reduceSub, Int.reduceNeg, ↓reduceIte, reduceCtorEq, ↓C.q83_W, C.q83_B, C.q83]
  refine (ddown_spec hi hg).mono ?_
  rintro r s ⟨rfl, rfl⟩
  have hgx := hg
  rw [gsC] at hg
  have g0 := gs_get hi (j := 0) (by omega)
  rw [show gs[i].cells[0]? = some (.int .i64 gs[i].above) from rfl, Nat.add_zero] at g0
  have g1 := gs_get hi (j := 1) (by omega)
  rw [show gs[i].cells[1]? = some (.int .i64 gs[i].delay) from rfl] at g1
  have g3 := gs_get hi (j := 3) (by omega)
  rw [show gs[i].cells[3]? = some (.int .u8 gs[i].phase) from rfl] at g3
  have hfit := gs_fit hi
  have f5 : i * 7 + 5 < (gs.flatMap Gd.cells).length := by omega
  have fin : awp Try.prog C.q83_c3 (Post [.slot 4] fun r s' => r = .int .i64 0 ∧ s' = s.set ig (gsC (gs.set i { gs[i] with back := decide (gs[i].phase = 116), phase := 114, left := gs[i].delay }))) [(5, .ptr ig (i * 7))] s := by
    have p5 : (gs.flatMap Gd.cells).set (i * 7 + 5) (.bool (decide (gs[i].phase = 116))) = (gs.set i { gs[i] with back := decide (gs[i].phase = 116) }).flatMap Gd.cells := gs_put hi (by omega) rfl
    simp only [↓Bp, Bq, Bs, ↓aop.eq_28, ↓aop.eq_30, Nat.reduceEqDiff, Nat.reduceAdd, Nat.reduceMul, Nat.reduceSub, Nat.reduceLeDiff, Nat.reduceLT, Int.reduceLT, Int.reduceLE, Int.reduceEq, Int.reduceToNat, Int.reduceAdd, Int.reduceSub, Int.reduceNeg, ↓reduceIte, reduceCtorEq, ↓C.q83_r6_w, C.q83_r6_b, ↓C.q83_c3_w, ↓C.q83_r5_w, C.q83_r5_b, ↓C.q83_c4_w, ↓C.q83_c5_w, ↓C.q83_r4_w, C.q83_r4_b, ↓C.q83_c6_w, ↓C.q83_r3_w, C.q83_r3_b, ↓C.q83_c7_w, ↓C.q83_c8_w, ↓C.q83_r2_w, C.q83_r2_b, ↓C.q83_c9_w, ↓C.q83_r1_w, C.q83_r1_b, ↓C.q83_c10_w, ↓C.q83_r0_w, C.q83_r0_b, C.q83, hg, g3, f5, p5]
    obtain ⟨g1', hg1⟩ : ∃ g1' : Gd, g1' = { gs[i] with back := decide (gs[i].phase = 116) } := ⟨_, rfl⟩
    rw [← hg1]
    have hi2 : i < (gs.set i g1').length := by simpa using hi
    have q1 := gs_get hi2 (j := 1) (by omega)
    rw [List.getElem_set_self, show g1'.cells[1]? = some (.int .i64 gs[i].delay) by rw [hg1]; rfl] at q1
    have p3 : ((gs.set i g1').flatMap Gd.cells).set (i * 7 + 3) (.int .u8 114) = (gs.set i { g1' with phase := 114 }).flatMap Gd.cells := by
      rw [gs_put hi2 (by omega) (g := { g1' with phase := 114 }) (by rw [List.getElem_set_self]; rfl), List.set_set]
    have hi3 : i < (gs.set i { g1' with phase := 114 }).length := by simpa using hi
    have p4 : ((gs.set i { g1' with phase := 114 }).flatMap Gd.cells).set (i * 7 + 4) (.int .i64 gs[i].delay) = (gs.set i { g1' with phase := 114, left := gs[i].delay }).flatMap Gd.cells := by
      rw [gs_put hi3 (by omega) (g := { g1' with phase := 114, left := gs[i].delay }) (by rw [List.getElem_set_self]; rfl), List.set_set]
    have l3 : i * 7 + 3 < ((gs.set i g1').flatMap Gd.cells).length := by have := gs_fit hi2; omega
    have l4 : i * 7 + 4 < ((gs.set i { g1' with phase := 114 }).flatMap Gd.cells).length := by have := gs_fit hi3; omega
    have hgs : (s.set ig (.cells ((gs.set i g1').flatMap Gd.cells))).h ig = some (.cells ((gs.set i g1').flatMap Gd.cells)) := by rw [ASt.set_h, if_pos rfl, hg]; rfl
    simp only [↓Bp, Bq, Bs, ↓aop.eq_28, ↓aop.eq_30, Nat.reduceEqDiff, Nat.reduceAdd, Nat.reduceMul, Nat.reduceSub, Nat.reduceLeDiff, Nat.reduceLT, Int.reduceLT, Int.reduceLE, Int.reduceEq, Int.reduceToNat, Int.reduceAdd, Int.reduceSub, Int.reduceNeg, ↓reduceIte, reduceCtorEq, ↓C.q83_W, C.q83_B, C.q83, hg, q1, l3, l4, p3, p4, ASt.set_set]
    rw [hg1]; rfl
  unfold upE upG
  cases hd : gs[i].isDown
  · rw [if_pos (.inl rfl), if_pos (.inl rfl)]
    simp only [↓Bp, Bq, Bs, ↓aop.eq_28, ↓aop.eq_30, Nat.reduceEqDiff, Nat.reduceAdd, Nat.reduceMul, Nat.reduceSub, Nat.reduceLeDiff, Nat.reduceLT, Int.reduceLT, Int.reduceLE, Int.reduceEq, Int.reduceToNat, Int.reduceAdd, Int.reduceSub, Int.reduceNeg, ↓reduceIte, reduceCtorEq, ↓C.q83_W, C.q83_B, C.q83]
    exact (ASt.set_id hgx).symm
  by_cases ha : gs[i].above = -1
  · have hT := eq_true ha
    rw [if_neg (by simp [ha]), if_neg (by simp [ha])]
    simp only [↓Bp, Bq, Bs, ↓aop.eq_28, ↓aop.eq_30, Nat.reduceEqDiff, Nat.reduceAdd, Nat.reduceMul, Nat.reduceSub, Nat.reduceLeDiff, Nat.reduceLT, Int.reduceLT, Int.reduceLE, Int.reduceEq, Int.reduceToNat, Int.reduceAdd, Int.reduceSub, Int.reduceNeg, ↓reduceIte, reduceCtorEq, ↓C.q83_r5_w, C.q83_r5_b, ↓C.q83_c4_w, ↓C.q83_c5_w, ↓C.q83_r4_w, C.q83_r4_b, ↓C.q83_c6_w, ↓C.q83_r3_w, C.q83_r3_b, ↓C.q83_c7_w, ↓C.q83_c8_w, ↓C.q83_r2_w, C.q83_r2_b, ↓C.q83_c9_w, ↓C.q83_r1_w, C.q83_r1_b, ↓C.q83_c10_w, ↓C.q83_r0_w, C.q83_r0_b, C.q83, hg, g0, hT]
    rw [C.q83_c3_w, awp_keep]
    exact fin
  have hT := eq_false ha
  have hab2 := hab _ (List.getElem_mem hi)
  obtain ⟨a, haa⟩ : ∃ a : Nat, gs[i].above = a := ⟨gs[i].above.toNat, by omega⟩
  have hal : a < gs.length := by omega
  have hz : (0:Int) ≤ (a : Int) ∧ (a : Int) < (gs.length : Nat) := by omega
  have b3 := gs_get hal (j := 3) (by omega)
  rw [show gs[a].cells[3]? = some (.int .u8 gs[a].phase) from rfl] at b3
  rw [haa] at g0 hT ⊢
  have hD : gs.getD a gs[i] = gs[a] := by simp [hal]
  rw [Int.toNat_natCast, hD]
  have hT2 : ((a : Int) = -1) = False := eq_false (by omega)
  by_cases h1 : gs[a].phase = 49
  · rw [if_neg (by simp [h1]), if_neg (by simp [h1])]
    rw [h1] at b3
    simp only [↓Bp, Bq, Bs, ↓aop.eq_28, ↓aop.eq_30, Nat.reduceEqDiff, Nat.reduceAdd, Nat.reduceMul, Nat.reduceSub, Nat.reduceLeDiff, Nat.reduceLT, Int.reduceLT, Int.reduceLE, Int.reduceEq, Int.reduceToNat, Int.reduceAdd, Int.reduceSub, Int.reduceNeg, ↓reduceIte, reduceCtorEq, ↓C.q83_r5_w, C.q83_r5_b, ↓C.q83_c4_w, ↓C.q83_c5_w, ↓C.q83_r4_w, C.q83_r4_b, ↓C.q83_c6_w, ↓C.q83_r3_w, C.q83_r3_b, ↓C.q83_c7_w, ↓C.q83_c8_w, ↓C.q83_r2_w, C.q83_r2_b, ↓C.q83_c9_w, ↓C.q83_r1_w, C.q83_r1_b, ↓C.q83_c10_w, ↓C.q83_r0_w, C.q83_r0_b, C.q83, hg, hp, g0, hT2, hz, b3, Int.toNat_natCast]
    rw [C.q83_c3_w, awp_keep]
    exact fin
  · have hT3 := eq_false h1
    rw [if_pos (.inr ⟨by omega, h1⟩), if_pos (.inr ⟨by omega, h1⟩)]
    simp only [↓Bp, Bq, Bs, ↓aop.eq_28, ↓aop.eq_30, Nat.reduceEqDiff, Nat.reduceAdd, Nat.reduceMul, Nat.reduceSub, Nat.reduceLeDiff, Nat.reduceLT, Int.reduceLT, Int.reduceLE, Int.reduceEq, Int.reduceToNat, Int.reduceAdd, Int.reduceSub, Int.reduceNeg, ↓reduceIte, reduceCtorEq, ↓C.q83_W, C.q83_B, C.q83, hg, hp, g0, hT2, hz, b3, hT3, Int.toNat_natCast]
    exact (ASt.set_id hgx).symm
end Go.Proofs.Ytgfpnfnjnakoaaa.Cn
