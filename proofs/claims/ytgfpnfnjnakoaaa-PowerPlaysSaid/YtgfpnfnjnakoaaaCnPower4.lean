/- Power: Chain. -/
import Derived.Test.YtgfpnfnjnakoaaaCnPower3
set_option linter.unusedSimpArgs false
set_option linter.unusedVariables false
namespace Go.Proofs.Ytgfpnfnjnakoaaa.Cn
open Go Go.Proofs

theorem reverse_spec {st : ASt} {v : AV} {Z : List Int} (h : Shows st 1 v Z.length (ints Z)) (hn : Z.length ≤ 1000) :
    ACalls Try.prog F.q88 [v] st fun r s => Shows s 1 v Z.length (ints Z.reverse) ∧ ∀ j, v ≠ .sl 1 j 0 Z.length → s.h j = st.h j := by
  refine calls_of_awp L.q88 rfl ?_
  have hsl := h.slen
  obtain ⟨h1, h2⟩ := h
  rcases h2 with ⟨h0, rfl⟩ | ⟨ix, rfl, hx⟩
  · have : Z = [] := List.eq_nil_of_length_eq_zero h0
    subst this
    have c0 : ((([] : List Int).length : Nat) : Int) = 0 := rfl
    have w : IntKind.i64.wrap (0 - 1) = -1 := by rw [wrap64] <;> omega
    have hsl' : AV.nils.slen = some 0 := rfl
    simp only [↓Bp, Bq, Bs, ↓aop.eq_28, ↓aop.eq_30, Nat.reduceEqDiff, Nat.reduceAdd, Nat.reduceMul, Nat.reduceSub, Nat.reduceLeDiff, Nat.reduceLT, Int.reduceLT, Int.reduceLE, Int.reduceEq, Int.reduceToNat, Int.reduceAdd, Int.reduceSub, Int.reduceNeg, ↓reduceIte, reduceCtorEq, ↓C.q88_W, C.q88_B, C.q88, hsl', Int.natCast_zero, w]
    refine awp_loopK (fun _ : Unit => [(0, .nils), (2, .int .i64 0), (3, .int .i64 (-1))]) (fun _ s => s = st) (fun _ => 0) () rfl rfl ?_
    rintro - s rfl
    simp only [↓Bp, Bq, Bs, ↓aop.eq_28, ↓aop.eq_30, Nat.reduceEqDiff, Nat.reduceAdd, Nat.reduceMul, Nat.reduceSub, Nat.reduceLeDiff, Nat.reduceLT, Int.reduceLT, Int.reduceLE, Int.reduceEq, Int.reduceToNat, Int.reduceAdd, Int.reduceSub, Int.reduceNeg, ↓reduceIte, reduceCtorEq, ↓C.q88_W, C.q88_B, C.q88]
    exact ⟨⟨rfl, .inl ⟨rfl, rfl⟩⟩, fun _ _ => trivial⟩
  have w : IntKind.i64.wrap ((Z.length : Int) - 1) = (Z.length : Int) - 1 := by rw [wrap64] <;> omega
  simp only [↓Bp, Bq, Bs, ↓aop.eq_28, ↓aop.eq_30, Nat.reduceEqDiff, Nat.reduceAdd, Nat.reduceMul, Nat.reduceSub, Nat.reduceLeDiff, Nat.reduceLT, Int.reduceLT, Int.reduceLE, Int.reduceEq, Int.reduceToNat, Int.reduceAdd, Int.reduceSub, Int.reduceNeg, ↓reduceIte, reduceCtorEq, ↓C.q88_W, C.q88_B, C.q88, w]
  refine awp_loopK (fun i : Nat => [(0, .sl 1 ix 0 Z.length), (2, .int .i64 i), (3, .int .i64 ((Z.length : Int) - 1 - i))]) (fun i s => i ≤ Z.length ∧ ∃ M : List Int, s = st.set ix (.cells (ints M)) ∧ M.length = Z.length ∧ ∀ k (hk : k < M.length) (hk2 : Z.length - 1 - k < Z.length) (hk3 : k < Z.length), M[k] = if k < i ∨ Z.length - 1 - i < k then Z[Z.length - 1 - k] else Z[k]) (fun i => Z.length - i) 0
    (by rw [show (Z.length : Int) - 1 - ((0 : Nat) : Int) = (Z.length : Int) - 1 by omega]; rfl) ⟨Nat.zero_le _, Z, (ASt.set_id hx).symm, rfl, fun k hk _ _ => by rw [if_neg (by omega)]⟩ ?_
  rintro i s ⟨hi, M, rfl, hM, hMk⟩
  have hxs : (st.set ix (.cells (ints M))).h ix = some (.cells (ints M)) := by rw [ASt.set_h, if_pos rfl, hx]; rfl
  by_cases hlt : 2 * i + 1 < Z.length
  rotate_left
  · have hlt' : ¬ (i : Int) < (Z.length : Int) - 1 - i := by omega
    simp only [↓Bp, Bq, Bs, ↓aop.eq_28, ↓aop.eq_30, Nat.reduceEqDiff, Nat.reduceAdd, Nat.reduceMul, Nat.reduceSub, Nat.reduceLeDiff, Nat.reduceLT, Int.reduceLT, Int.reduceLE, Int.reduceEq, Int.reduceToNat, Int.reduceAdd, Int.reduceSub, Int.reduceNeg, ↓reduceIte, reduceCtorEq, ↓C.q88_W, C.q88_B, C.q88, hlt']
    have hrev : M = Z.reverse := by
      refine List.ext_getElem (by rw [hM, List.length_reverse]) fun k hk1 hk2 => ?_
      rw [List.getElem_reverse, hMk k hk1 (by omega) (by omega)]
      by_cases e : k < i ∨ Z.length - 1 - i < k
      · rw [if_pos e]
      · rw [if_neg e]
        have : k = Z.length - 1 - k := by omega
        congr 1
    refine ⟨⟨by rw [ints_length, List.length_reverse, Nat.mul_one], .inr ⟨ix, rfl, by rw [← hrev]; exact hxs⟩⟩, fun j hj => ?_⟩
    rw [if_neg (by rintro rfl; exact hj rfl)]
  have hlt' : (i : Int) < (Z.length : Int) - 1 - i := by omega
  obtain ⟨j, hj⟩ : ∃ j : Nat, (Z.length : Int) - 1 - i = j := ⟨Z.length - 1 - i, by omega⟩
  have hz1 : (0:Int) ≤ (i : Int) ∧ (i : Int) < (Z.length : Nat) := by omega
  have hz2 : (0:Int) ≤ (j : Int) ∧ (j : Int) < (Z.length : Nat) := by omega
  have hiM : i < M.length := by omega
  have hjM : j < M.length := by omega
  have gi := ints_get hiM
  have gj := ints_get hjM
  have w1 : IntKind.i64.wrap ((i : Int) + 1) = ((i + 1 : Nat) : Int) := by rw [wrap64] <;> omega
  have w2 : IntKind.i64.wrap ((j : Int) - 1) = (Z.length : Int) - 1 - ((i + 1 : Nat) : Int) := by rw [wrap64] <;> omega
  have l1 : i < (ints M).length := by rw [ints_length]; exact hiM
  have l2 : j < (ints (M.set i M[j])).length := by rw [ints_length]; simpa using hjM
  rw [hj] at hlt' ⊢
  generalize hs : st.set ix (.cells (ints M)) = s at hxs
  simp only [↓Bp, Bq, Bs, ↓aop.eq_28, ↓aop.eq_30, Nat.reduceEqDiff, Nat.reduceAdd, Nat.reduceMul, Nat.reduceSub, Nat.reduceLeDiff, Nat.reduceLT, Int.reduceLT, Int.reduceLE, Int.reduceEq, Int.reduceToNat, Int.reduceAdd, Int.reduceSub, Int.reduceNeg, ↓reduceIte, reduceCtorEq, ↓C.q88_W, C.q88_B, C.q88, hlt', hxs, hz1, hz2, Int.toNat_natCast, Nat.mul_one, gi, gj, l1, l2, ints_set, w1, w2]
  refine ⟨i + 1, rfl, ⟨by omega, (M.set i M[j]).set j M[i], ?_, by simpa using hM, fun k hk hk2 hk3 => ?_⟩, by omega⟩
  · rw [← hs]; simp only [ASt.set_set]
  · have hkM : k < M.length := by simpa using hk
    have vi := hMk i hiM (by omega) (by omega)
    have vj := hMk j hjM (by omega) (by omega)
    rw [if_neg (by omega)] at vi vj
    by_cases e1 : k = j
    · subst e1
      rw [List.getElem_set_self, vi, if_pos (by omega)]
      congr 1; omega
    · rw [List.getElem_set_ne (Ne.symm e1)]
      by_cases e2 : k = i
      · subst e2
        rw [List.getElem_set_self, vj, if_pos (by omega)]
        congr 1; omega
      · rw [List.getElem_set_ne (Ne.symm e2), hMk k hkM hk2 hk3]
        by_cases e : k < i ∨ Z.length - 1 - i < k
        · rw [if_pos e, if_pos (by omega)]
        · rw [if_neg e, if_neg (by omega)]

/-- The domain above one, as a grid has it. -/
def gAbove (gs : List Gd) (x : Int) : Int := (gs.getD x.toNat ⟨-1, 0, false, 0, 0, false, false⟩).above
/-- From a domain up to that on which all hangs. -/
def chainR (gs : List Gd) : Nat → Int → List Int
  | 0, _ => []
  | n + 1, x => if x = -1 then [] else x :: chainR gs n (gAbove gs x)
/-- Each hangs on a lesser one, or on none. -/
def Lesser (gs : List Gd) : Prop := ∀ i (h : i < gs.length), gs[i].above = -1 ∨ (0 ≤ gs[i].above ∧ gs[i].above < (i : Int))
theorem gAbove_at {gs : List Gd} {i : Nat} (h : i < gs.length) : gAbove gs (i : Int) = gs[i].above := by simp [gAbove, h]
theorem chainR_more {gs : List Gd} (h : Lesser gs) : ∀ (f : Nat) (x : Int), (x = -1 ∨ (0 ≤ x ∧ x < (gs.length : Int))) → x < f → chainR gs (f + 1) x = chainR gs f x
  | 0, x, hx, hf => by
    have : x = -1 := by omega
    show (if x = -1 then [] else x :: chainR gs 0 (gAbove gs x)) = []
    rw [if_pos this]
  | f + 1, x, hx, hf => by
    rw [chainR]
    conv => rhs; rw [chainR]
    by_cases e : x = -1
    · rw [if_pos e, if_pos e]
    · rw [if_neg e, if_neg e]
      obtain ⟨k, rfl⟩ : ∃ k : Nat, x = k := ⟨x.toNat, by omega⟩
      have hk : k < gs.length := by omega
      have := h k hk
      rw [gAbove_at hk]
      rw [chainR_more h f gs[k].above (by omega) (by omega)]
def chainOf (gs : List Gd) (i : Int) : List Int := if isGd gs i then (chainR gs (gs.length + 1) i).reverse else []
theorem chainR_len (gs : List Gd) : ∀ (f : Nat) (x : Int), (chainR gs f x).length ≤ f
  | 0, _ => Nat.le_refl _
  | f + 1, x => by
    rw [chainR]; split
    · exact Nat.zero_le _
    · have := chainR_len gs f (gAbove gs x); simp; omega
theorem chain_spec {st : ASt} {p ig : Nat} {gs : List Gd} (h : GridAt st p ig gs) (hl : Lesser gs) (hn : gs.length ≤ 100) (i : Int) :
    ACalls Try.prog F.q78 [.ptr p 0, .int .i64 i] st fun r s => r = row (chainOf gs i) ∧ s = st := by
  by_cases hi : isGd gs i
  rotate_left
  · refine ACalls.ghost (Q' := fun r s => r = .nils ∧ s = st) (calls_of_awp L.q78 rfl ?_) (fun r s ⟨h1, h2⟩ => ⟨row [], st, by rw [h1, h2]; exact Ghost.nils 1, by rw [chainOf, if_neg hi], rfl⟩)
    simp only [↓Bp, Bq, Bs, ↓aop.eq_28, ↓aop.eq_30, Nat.reduceEqDiff, Nat.reduceAdd, Nat.reduceMul, Nat.reduceSub, Nat.reduceLeDiff, Nat.reduceLT, Int.reduceLT, Int.reduceLE, Int.reduceEq, Int.reduceToNat, Int.reduceAdd, Int.reduceSub, Int.reduceNeg, ↓reduceIte, reduceCtorEq, ↓C.q78_W, C.q78_B, C.q78]
    refine (at_spec h i).mono ?_
    rintro r s ⟨rfl, rfl⟩
    rw [if_neg hi]
    simp only [↓Bp, Bq, Bs, ↓aop.eq_28, ↓aop.eq_30, Nat.reduceEqDiff, Nat.reduceAdd, Nat.reduceMul, Nat.reduceSub, Nat.reduceLeDiff, Nat.reduceLT, Int.reduceLT, Int.reduceLE, Int.reduceEq, Int.reduceToNat, Int.reduceAdd, Int.reduceSub, Int.reduceNeg, ↓reduceIte, reduceCtorEq, ↓C.q78_W, C.q78_B, C.q78]
  refine ACalls.ghost (Q' := fun r s => Over st s 1 r (chainOf gs i).length (ints (chainOf gs i))) (calls_of_awp L.q78 rfl ?_) (fun r s hO => ⟨_, _, hO.frz, rfl, rfl⟩)
  simp only [↓Bp, Bq, Bs, ↓aop.eq_28, ↓aop.eq_30, Nat.reduceEqDiff, Nat.reduceAdd, Nat.reduceMul, Nat.reduceSub, Nat.reduceLeDiff, Nat.reduceLT, Int.reduceLT, Int.reduceLE, Int.reduceEq, Int.reduceToNat, Int.reduceAdd, Int.reduceSub, Int.reduceNeg, ↓reduceIte, reduceCtorEq, ↓C.q78_W, C.q78_B, C.q78]
  refine (at_spec h i).mono ?_
  rintro r s ⟨rfl, rfl⟩
  rw [if_pos hi]
  have hie : ¬ i = -1 := by have := hi.1; omega
  simp only [↓Bp, Bq, Bs, ↓aop.eq_28, ↓aop.eq_30, Nat.reduceEqDiff, Nat.reduceAdd, Nat.reduceMul, Nat.reduceSub, Nat.reduceLeDiff, Nat.reduceLT, Int.reduceLT, Int.reduceLE, Int.reduceEq, Int.reduceToNat, Int.reduceAdd, Int.reduceSub, Int.reduceNeg, ↓reduceIte, reduceCtorEq, ↓C.q78_W, C.q78_B, C.q78]
  refine awp_midB (fun v : AV => [(5, v)]) (fun v t => Over s t 1 v (chainR gs (gs.length + 1) i).length (ints (chainR gs (gs.length + 1) i))) ?_ ?_
  · refine awp_loopK (fun q : Int × AV × List Int × Nat => [(0, .ptr p 0), (1, .int .i64 q.1), (5, q.2.1)]) (fun q t => (q.1 = -1 ∨ (0 ≤ q.1 ∧ q.1 < (gs.length : Int))) ∧ q.2.2.1.length + q.2.2.2 = gs.length + 1 ∧ q.1 < (q.2.2.2 : Int) ∧ q.2.2.1 ++ chainR gs q.2.2.2 q.1 = chainR gs (gs.length + 1) i ∧ Over s t 1 q.2.1 q.2.2.1.length (ints q.2.2.1)) (fun q => (q.1 + 1).toNat) (i, .nils, [], gs.length + 1) rfl
      ⟨.inr hi, by simp, by have := hi.2; simp only; omega, rfl, Over.nils (ASt.le.refl _) 1⟩ ?_
    rintro ⟨x, v, acc, f⟩ t ⟨hx, hlen, hxf, hacc, hO⟩
    simp only at hx hlen hxf hacc hO
    by_cases e : x = -1
    · have hT := eq_true e
      simp only [↓Bp, Bq, Bs, ↓aop.eq_28, ↓aop.eq_30, Nat.reduceEqDiff, Nat.reduceAdd, Nat.reduceMul, Nat.reduceSub, Nat.reduceLeDiff, Nat.reduceLT, Int.reduceLT, Int.reduceLE, Int.reduceEq, Int.reduceToNat, Int.reduceAdd, Int.reduceSub, Int.reduceNeg, ↓reduceIte, reduceCtorEq, ↓C.q78_W, C.q78_B, C.q78, hT]
      have : chainR gs f x = [] := by
        cases f with
        | zero => rfl
        | succ f => rw [chainR, if_pos e]
      rw [this, List.append_nil] at hacc
      rw [← hacc]
      exact ⟨v, rfl, hO⟩
    have hT := eq_false e
    obtain ⟨k, rfl⟩ : ∃ k : Nat, x = k := ⟨x.toNat, by omega⟩
    have hk : k < gs.length := by omega
    obtain ⟨f, rfl⟩ : ∃ f', f = f' + 1 := ⟨f - 1, by omega⟩
    have hz : (0:Int) ≤ (k : Int) ∧ (k : Int) < (gs.length : Nat) := by omega
    simp only [↓Bp, Bq, Bs, Nat.reduceEqDiff, Nat.reduceAdd, Nat.reduceMul, Nat.reduceSub, Nat.reduceLeDiff, Nat.reduceLT, Int.reduceLT, Int.reduceLE, Int.reduceEq, Int.reduceToNat, Int.reduceAdd, Int.reduceSub, Int.reduceNeg, ↓reduceIte, reduceCtorEq, ↓C.q78_W, C.q78_B, C.q78, hT]
    refine aop_append_over hO (by omega) (new := [.int .i64 k]) rfl rfl rfl (fun _ => rfl) (fun _ => rfl) fun v1 v2 t2 hP => ?_
    have hp := hP.2.1 _ _ h.hp
    have hg := hP.2.1 _ _ h.hg
    rw [gsC] at hg
    have g0 := gs_get hk (j := 0) (by omega)
    rw [show gs[k].cells[0]? = some (.int .i64 gs[k].above) from rfl, Nat.add_zero] at g0
    simp only [↓Bp, Bq, Bs, ↓aop.eq_28, ↓aop.eq_30, Nat.reduceEqDiff, Nat.reduceAdd, Nat.reduceMul, Nat.reduceSub, Nat.reduceLeDiff, Nat.reduceLT, Int.reduceLT, Int.reduceLE, Int.reduceEq, Int.reduceToNat, Int.reduceAdd, Int.reduceSub, Int.reduceNeg, ↓reduceIte, reduceCtorEq, ↓C.q78_W, C.q78_B, C.q78, hp, hg, hz, Int.toNat_natCast, g0]
    have hlk := hl k hk
    refine ⟨(gs[k].above, v2, acc ++ [(k : Int)], f), rfl, ⟨by simp only; omega, by simp; omega, by simp only; omega, ?_, ?_⟩, by simp only; omega⟩
    · simp only
      rw [chainR, if_neg e, gAbove_at hk] at hacc
      rw [← hacc]; simp
    · simp only
      rw [ints_append, List.length_append]; exact hP
  · rintro v t hO
    have hcl := chainR_len gs (gs.length + 1) i
    simp only [↓Bp, Bq, Bs, ↓aop.eq_28, ↓aop.eq_30, Nat.reduceEqDiff, Nat.reduceAdd, Nat.reduceMul, Nat.reduceSub, Nat.reduceLeDiff, Nat.reduceLT, Int.reduceLT, Int.reduceLE, Int.reduceEq, Int.reduceToNat, Int.reduceAdd, Int.reduceSub, Int.reduceNeg, ↓reduceIte, reduceCtorEq, ↓C.q78_W, C.q78_B, C.q78]
    refine (reverse_spec hO.1 (by omega)).mono ?_
    rintro r t2 ⟨hS, hk⟩
    simp only [↓Bp, Bq, Bs, ↓aop.eq_28, ↓aop.eq_30, Nat.reduceEqDiff, Nat.reduceAdd, Nat.reduceMul, Nat.reduceSub, Nat.reduceLeDiff, Nat.reduceLT, Int.reduceLT, Int.reduceLE, Int.reduceEq, Int.reduceToNat, Int.reduceAdd, Int.reduceSub, Int.reduceNeg, ↓reduceIte, reduceCtorEq, ↓C.q78_W, C.q78_B, C.q78]
    rw [chainOf, if_pos hi, List.length_reverse]
    refine ⟨hS, fun j o hj => ?_, hO.2.2⟩
    rw [hk j (by rintro rfl; have := hO.2.2 _ _ _ _ rfl; rw [hj] at this; cases this)]
    exact hO.2.1 _ _ hj
end Go.Proofs.Ytgfpnfnjnakoaaa.Cn
