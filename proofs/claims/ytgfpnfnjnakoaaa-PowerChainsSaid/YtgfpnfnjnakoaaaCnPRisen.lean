/- Power: how one rises, while all others stay as they are. -/
import Derived.Test.YtgfpnfnjnakoaaaCnPower7
set_option linter.unusedSimpArgs false
set_option linter.unusedVariables false
set_option linter.unusedSectionVars false
namespace Go.Proofs.Ytgfpnfnjnakoaaa.Cn
open Go Go.Proofs

section
variable {st : ASt} {p ig : Nat} {gs : List Gd} {k : Nat}
theorem tickS (h : GridAt st p ig gs) (hk : k < gs.length) (hs : Still gs k) (hlow : ∀ g ∈ gs, g.left ≤ 1000) {g' : Gd} (hg' : g'.left ≤ 1000) :
    ACalls Try.prog F.power_Grid_Tick [.ptr p 0] (st.set ig (gsC (gs.set k g'))) fun r s => r = evsV (if gev g' ≠ 0 then [(gev g', k)] else []) ∧ s = st.set ig (gsC (gs.set k (gtick g'))) := by
  have hk2 : k < (gs.set k g').length := by simpa using hk
  refine (gtick_spec (h.set (gs' := gs.set k g') (by simp)) fun g hg => ?_).mono ?_
  · rcases List.mem_or_eq_of_mem_set hg with h5 | rfl
    · exact hlow g h5
    · exact hg'
  rintro r s ⟨rfl, rfl⟩
  have e := (hs.set g').tick hk2
  have e2 := (hs.set g').evs hk2
  rw [List.getElem_set_self, List.set_set] at e
  simp only [List.getElem_set_self] at e2
  rw [e, e2, ASt.set_set]
  exact ⟨rfl, rfl⟩
theorem phaseS (h : GridAt st p ig gs) (hk : k < gs.length) (g' : Gd) :
    ACalls Try.prog F.power_Grid_Phase [.ptr p 0, .int .i64 k] (st.set ig (gsC (gs.set k g'))) fun r s => r = .int .u8 g'.phase ∧ s = st.set ig (gsC (gs.set k g')) :=
  (phase_at (h.set (gs' := gs.set k g') (by simp)) (i := k) (by simpa using hk)).mono fun r s ⟨h1, h2⟩ => ⟨by rw [h1, List.getElem_set_self], h2⟩
theorem leftS (h : GridAt st p ig gs) (hk : k < gs.length) (g' : Gd) :
    ACalls Try.prog F.power_Grid_Left [.ptr p 0, .int .i64 k] (st.set ig (gsC (gs.set k g'))) fun r s => r = .int .i64 (if g'.phase = 114 then g'.left else 0) ∧ s = st.set ig (gsC (gs.set k g')) :=
  (gleft_at (h.set (gs' := gs.set k g') (by simp)) (i := k) (by simpa using hk)).mono fun r s ⟨h1, h2⟩ => ⟨by rw [h1, List.getElem_set_self], h2⟩
end
theorem aeqL2 (k1 k2 : IntKind) (a b : Int) : aeqL [true, true] [.int k1 a, .int k2 b] [.int k1 a, .int k2 b] = some true := by simp [aeqL]
theorem evsV_nil : evsV [] = .isl 2 [] 0 := rfl
theorem evsV_one (a : Int) (k : Nat) : evsV [(a, k)] = .isl 2 [.int .u8 a, .int .i64 k] 1 := rfl
theorem risen_spec {st : ASt} {p ig : Nat} {gs : List Gd} {k d : Nat} {kd : Int} (h : GridAt st p ig gs) (hk : k < gs.length) (hs : Still gs k) (hlow : ∀ g ∈ gs, g.left ≤ 1000) (hd : d ≤ 1000) (hph : gs[k].phase = 114) (hdl : gs[k].left = (d : Int))
    (hkd : kd = if gs[k].back = true then 114 else 110) :
    ACalls Try.prog F.catnaplaw7_risen [.ptr p 0, .int .i64 k, .int .i64 d, .int .u8 kd] st fun r s => r = .bool true ∧ s = st.set ig (gsC (gs.set k { gs[k] with phase := 49, left := 0 })) := by
  refine calls_of_awp L.catnaplaw7_risen rfl ?_
  simp only [↓Bp, Bq, Bs, ↓aop.eq_28, ↓aop.eq_30, Nat.reduceEqDiff, Nat.reduceAdd, Nat.reduceMul, Nat.reduceSub, Nat.reduceLeDiff, Nat.reduceLT, Int.reduceLT, Int.reduceLE, Int.reduceEq, Int.reduceToNat, Int.reduceAdd, Int.reduceSub, Int.reduceNeg, ↓reduceIte, reduceCtorEq, ↓C.catnaplaw7_risen_W, C.catnaplaw7_risen_B, C.catnaplaw7_risen]
  refine awp_midB (fun _ : Unit => [(0, .ptr p 0), (1, .int .i64 k), (3, .int .u8 kd)]) (fun _ s => s = st.set ig (gsC (gs.set k { gs[k] with left := 0 }))) ?_ ?_
  · refine awp_loopK (fun i : Nat => [(0, .ptr p 0), (1, .int .i64 k), (2, .int .i64 d), (3, .int .u8 kd), (9, .int .i64 i)]) (fun i s => i ≤ d ∧ s = st.set ig (gsC (gs.set k { gs[k] with left := (d : Int) - (i : Int) }))) (fun i => d - i) 0 rfl ⟨Nat.zero_le _, ?_⟩ ?_
    · have e : ({ gs[k] with left := (d : Int) - ((0 : Nat) : Int) } : Gd) = gs[k] := by
        rw [show (d : Int) - ((0 : Nat) : Int) = gs[k].left by rw [hdl]; omega]
      rw [e, List.set_getElem_self, ASt.set_id h.hg]
    rintro i s ⟨hi, rfl⟩
    by_cases hil : i < d
    rotate_left
    · have hil' : ¬ (i : Int) < (d : Nat) := by omega
      simp only [↓Bp, Bq, Bs, ↓aop.eq_28, ↓aop.eq_30, Nat.reduceEqDiff, Nat.reduceAdd, Nat.reduceMul, Nat.reduceSub, Nat.reduceLeDiff, Nat.reduceLT, Int.reduceLT, Int.reduceLE, Int.reduceEq, Int.reduceToNat, Int.reduceAdd, Int.reduceSub, Int.reduceNeg, ↓reduceIte, reduceCtorEq, ↓C.catnaplaw7_risen_W, C.catnaplaw7_risen_B, C.catnaplaw7_risen, hil']
      refine ⟨(), ?_⟩
      rw [show (d : Int) - (i : Int) = 0 by omega]
    have hil' : (i : Int) < (d : Nat) := by omega
    have hw := wsucc hil (by omega)
    have w1 : IntKind.i64.wrap ((d : Int) - (i : Int)) = (d : Int) - (i : Int) := by rw [wrap64] <;> omega
    have hx : 0 < (d : Int) - (i : Int) := by omega
    simp only [↓Bp, Bq, Bs, ↓aop.eq_28, ↓aop.eq_30, Nat.reduceEqDiff, Nat.reduceAdd, Nat.reduceMul, Nat.reduceSub, Nat.reduceLeDiff, Nat.reduceLT, Int.reduceLT, Int.reduceLE, Int.reduceEq, Int.reduceToNat, Int.reduceAdd, Int.reduceSub, Int.reduceNeg, ↓reduceIte, reduceCtorEq, ↓C.catnaplaw7_risen_W, C.catnaplaw7_risen_B, C.catnaplaw7_risen, hil']
    refine (leftS h hk _).mono ?_
    rintro r s ⟨rfl, rfl⟩
    rw [if_pos (show ({ gs[k] with left := (d : Int) - (i : Int) } : Gd).phase = 114 from hph)]
    simp only [↓Bp, Bq, Bs, ↓aop.eq_28, ↓aop.eq_30, Nat.reduceEqDiff, Nat.reduceAdd, Nat.reduceMul, Nat.reduceSub, Nat.reduceLeDiff, Nat.reduceLT, Int.reduceLT, Int.reduceLE, Int.reduceEq, Int.reduceToNat, Int.reduceAdd, Int.reduceSub, Int.reduceNeg, ↓reduceIte, reduceCtorEq, ↓C.catnaplaw7_risen_W, C.catnaplaw7_risen_B, C.catnaplaw7_risen, w1]
    refine (tickS h hk hs hlow (by show (d : Int) - (i : Int) ≤ 1000; omega)).mono ?_
    rintro r s ⟨rfl, rfl⟩
    have e1 : gev ({ gs[k] with left := (d : Int) - (i : Int) } : Gd) = 0 := by unfold gev; simp only; rw [if_pos hph, if_pos hx]
    have e2 : gtick ({ gs[k] with left := (d : Int) - (i : Int) } : Gd) = { gs[k] with left := (d : Int) - ((i + 1 : Nat) : Int) } := by
      unfold gtick; simp only; rw [if_pos hph, if_pos hx, show (d : Int) - (i : Int) - 1 = (d : Int) - ((i + 1 : Nat) : Int) by omega]
    rw [e1, e2, if_neg (by simp), evsV_nil]
    have c0 : ((0 : Nat) : Int) = 0 := rfl
    simp only [↓Bp, Bq, Bs, ↓aop.eq_28, ↓aop.eq_30, Nat.reduceEqDiff, Nat.reduceAdd, Nat.reduceMul, Nat.reduceSub, Nat.reduceLeDiff, Nat.reduceLT, Int.reduceLT, Int.reduceLE, Int.reduceEq, Int.reduceToNat, Int.reduceAdd, Int.reduceSub, Int.reduceNeg, ↓reduceIte, reduceCtorEq, ↓C.catnaplaw7_risen_W, C.catnaplaw7_risen_B, C.catnaplaw7_risen, c0]
    refine (phaseS h hk _).mono ?_
    rintro r s ⟨rfl, rfl⟩
    rw [show ({ gs[k] with left := (d : Int) - ((i + 1 : Nat) : Int) } : Gd).phase = 114 from hph]
    simp only [↓Bp, Bq, Bs, ↓aop.eq_28, ↓aop.eq_30, Nat.reduceEqDiff, Nat.reduceAdd, Nat.reduceMul, Nat.reduceSub, Nat.reduceLeDiff, Nat.reduceLT, Int.reduceLT, Int.reduceLE, Int.reduceEq, Int.reduceToNat, Int.reduceAdd, Int.reduceSub, Int.reduceNeg, ↓reduceIte, reduceCtorEq, ↓C.catnaplaw7_risen_W, C.catnaplaw7_risen_B, C.catnaplaw7_risen, hw]
    exact ⟨i + 1, rfl, ⟨hil, rfl⟩, by omega⟩
  rintro - s rfl
  have hkd0 : kd = 114 ∨ kd = 110 := by rw [hkd]; split <;> simp
  have e1 : gev ({ gs[k] with left := 0 } : Gd) = kd := by unfold gev; simp only; rw [if_pos hph, if_neg (by omega), hkd]
  have e2 : gtick ({ gs[k] with left := 0 } : Gd) = { gs[k] with phase := 104, left := 0 } := by
    unfold gtick; simp only; rw [if_pos hph, if_neg (by omega)]
  simp only [↓Bp, Bq, Bs, ↓aop.eq_28, ↓aop.eq_30, Nat.reduceEqDiff, Nat.reduceAdd, Nat.reduceMul, Nat.reduceSub, Nat.reduceLeDiff, Nat.reduceLT, Int.reduceLT, Int.reduceLE, Int.reduceEq, Int.reduceToNat, Int.reduceAdd, Int.reduceSub, Int.reduceNeg, ↓reduceIte, reduceCtorEq, ↓C.catnaplaw7_risen_W, C.catnaplaw7_risen_B, C.catnaplaw7_risen]
  refine (tickS h hk hs hlow (by show (0 : Int) ≤ 1000; omega)).mono ?_
  rintro r s ⟨rfl, rfl⟩
  rw [e1, e2, if_pos (by omega), evsV_one]
  simp only [↓Bp, Bq, Bs, ↓aop.eq_28, ↓aop.eq_30, Nat.reduceEqDiff, Nat.reduceAdd, Nat.reduceMul, Nat.reduceSub, Nat.reduceLeDiff, Nat.reduceLT, Int.reduceLT, Int.reduceLE, Int.reduceEq, Int.reduceToNat, Int.reduceAdd, Int.reduceSub, Int.reduceNeg, ↓reduceIte, reduceCtorEq, ↓C.catnaplaw7_risen_W, C.catnaplaw7_risen_B, C.catnaplaw7_risen]
  refine (phaseS h hk _).mono ?_
  rintro r s ⟨rfl, rfl⟩
  rw [show ({ gs[k] with phase := 104, left := 0 } : Gd).phase = 104 from rfl]
  simp only [↓Bp, Bq, Bs, ↓aop.eq_28, ↓aop.eq_30, Nat.reduceEqDiff, Nat.reduceAdd, Nat.reduceMul, Nat.reduceSub, Nat.reduceLeDiff, Nat.reduceLT, Int.reduceLT, Int.reduceLE, Int.reduceEq, Int.reduceToNat, Int.reduceAdd, Int.reduceSub, Int.reduceNeg, ↓reduceIte, reduceCtorEq, ↓C.catnaplaw7_risen_W, C.catnaplaw7_risen_B, C.catnaplaw7_risen]
  refine (tickS h hk hs hlow (by show (0 : Int) ≤ 1000; omega)).mono ?_
  rintro r s ⟨rfl, rfl⟩
  rw [show gev ({ gs[k] with phase := 104, left := 0 } : Gd) = 111 from rfl, show gtick ({ gs[k] with phase := 104, left := 0 } : Gd) = { gs[k] with phase := 49, left := 0 } from rfl, if_pos (by decide), evsV_one]
  have c1 : ((1 : Nat) : Int) = 1 := rfl
  simp only [↓Bp, Bq, Bs, ↓aop.eq_28, ↓aop.eq_30, Nat.reduceEqDiff, Nat.reduceAdd, Nat.reduceMul, Nat.reduceSub, Nat.reduceLeDiff, Nat.reduceLT, Int.reduceLT, Int.reduceLE, Int.reduceEq, Int.reduceToNat, Int.reduceAdd, Int.reduceSub, Int.reduceNeg, ↓reduceIte, reduceCtorEq, ↓C.catnaplaw7_risen_W, C.catnaplaw7_risen_B, C.catnaplaw7_risen, c1, aeqL2]
  refine (phaseS h hk _).mono ?_
  rintro r s ⟨rfl, rfl⟩
  rw [show ({ gs[k] with phase := 49, left := 0 } : Gd).phase = 49 from rfl]
  simp only [↓Bp, Bq, Bs, ↓aop.eq_28, ↓aop.eq_30, Nat.reduceEqDiff, Nat.reduceAdd, Nat.reduceMul, Nat.reduceSub, Nat.reduceLeDiff, Nat.reduceLT, Int.reduceLT, Int.reduceLE, Int.reduceEq, Int.reduceToNat, Int.reduceAdd, Int.reduceSub, Int.reduceNeg, ↓reduceIte, reduceCtorEq, ↓C.catnaplaw7_risen_W, C.catnaplaw7_risen_B, C.catnaplaw7_risen, c1, aeqL2]
  refine (tickS h hk hs hlow (by show (0 : Int) ≤ 1000; omega)).mono ?_
  rintro r s ⟨rfl, rfl⟩
  rw [show gev ({ gs[k] with phase := 49, left := 0 } : Gd) = 0 from rfl, show gtick ({ gs[k] with phase := 49, left := 0 } : Gd) = { gs[k] with phase := 49, left := 0 } from rfl, if_neg (by decide), evsV_nil]
  have c0 : ((0 : Nat) : Int) = 0 := rfl
  simp only [↓Bp, Bq, Bs, ↓aop.eq_28, ↓aop.eq_30, Nat.reduceEqDiff, Nat.reduceAdd, Nat.reduceMul, Nat.reduceSub, Nat.reduceLeDiff, Nat.reduceLT, Int.reduceLT, Int.reduceLE, Int.reduceEq, Int.reduceToNat, Int.reduceAdd, Int.reduceSub, Int.reduceNeg, ↓reduceIte, reduceCtorEq, ↓C.catnaplaw7_risen_W, C.catnaplaw7_risen_B, C.catnaplaw7_risen, c0]
end Go.Proofs.Ytgfpnfnjnakoaaa.Cn
