/- Count: CountNeeds. -/
import Derived.Test.YtoblpialfhfdgaaCnCount3
set_option linter.unusedSimpArgs false
set_option linter.unusedVariables false
set_option linter.unusedSectionVars false
namespace Go.Proofs.Ytoblpialfhfdgaa.Cn
open Go Go.Proofs

/-- Is i got, or needed by one of the first that is in use? -/
def ByP (S : Soc) (U : List Bool) (f : Int → Int) (i j : Nat) : Prop := 0 < f (i : Int) ∨ ∃ d, ∃ h : d < S.devs.length, d < j ∧ (i : Int) ∈ S.devs[d].needs ∧ U[d]? = some true
section
variable {st : ASt} {ib p m : Nat} {S : Soc} (hS : S.like)
include hS
set_option maxHeartbeats 1000000 in
/-- What one device needs. -/
theorem need_in {s : ASt} {f : Int → Int} {va : AV} {i0 i j : Nat} {U : List Bool} {b : Bool} (h : CW st s ib p m S f false) (hj : j < S.devs.length) (hU : U.length = S.devs.length) (hi : i < S.devs.length) (hb : b = true ↔ ByP S U f i j) {Q : IExit → AFr → ASt → Prop}
    (hQ : ∀ fr b', (b' = true ↔ ByP S U f i (j + 1)) → fr.keep [1, 6, 7, 9, 11, 12, 13, 14] = [(1, va), (6, .ptr ib 0), (7, .ptr p 0), (9, .int .i64 i0), (11, brow U), (12, .int .i64 i), (13, .bool b'), (14, .int .i64 (j + 1 : Nat))] → Q .normal fr s) :
    awp Try.prog C.catnaplaw16_CountNeeds_c18 Q [(1, va), (6, .ptr ib 0), (7, .ptr p 0), (9, .int .i64 i0), (11, brow U), (12, .int .i64 i), (13, .bool b), (14, .int .i64 j)] s := by
  have hnv := hS.nv
  have hfewn := (hS.dev j hj).few
  have hbb := h.hb
  have hgj := dev_needs_get hj
  have hwj := wsucc hj (by omega)
  have hzj : (0:Int) ≤ (j : Int) ∧ (j : Int) < (S.devs.length : Nat) := by omega
  have hzjU : (0:Int) ≤ (j : Int) ∧ (j : Int) < (U.length : Nat) := by omega
  have hjU : j < U.length := by omega
  have gU := bools_get hjU
  rw [brow]
  simp only [↓Bp, Bq, Bs, ↓aop.eq_28, ↓aop.eq_30, Nat.reduceEqDiff, Nat.reduceAdd, Nat.reduceMul, Nat.reduceSub, Nat.reduceLeDiff, Nat.reduceLT, Int.reduceLT, Int.reduceLE, Int.reduceEq, Int.reduceToNat, Int.reduceAdd, Int.reduceSub, Int.reduceNeg, ↓reduceIte, reduceCtorEq, ↓C.catnaplaw16_CountNeeds_W, C.catnaplaw16_CountNeeds_B, C.catnaplaw16_CountNeeds]
  refine awp_loopK (fun w : Nat × Bool => [(1, va), (6, .ptr ib 0), (7, .ptr p 0), (9, .int .i64 i0), (11, .isl 1 (bools U) U.length), (12, .int .i64 i), (13, .bool w.2), (14, .int .i64 j), (15, .int .i64 w.1)]) (fun w s' => w.1 ≤ S.devs[j].needs.length ∧ s' = s ∧ (w.2 = true ↔ ByP S U f i j ∨ ((i : Int) ∈ S.devs[j].needs.take w.1 ∧ U[j]? = some true))) (fun w => S.devs[j].needs.length - w.1) (0, b) rfl
    ⟨Nat.zero_le _, rfl, by simp [hb]⟩ ?_
  rintro ⟨n, b'⟩ s ⟨hn, rfl, hb'⟩
  simp only at hn hb'
  by_cases hnl : n < S.devs[j].needs.length
  rotate_left
  · have hnl' : ¬ (n : Int) < (S.devs[j].needs.length : Nat) := by omega
    simp only [↓Bp, Bq, Bs, ↓aop.eq_28, ↓aop.eq_30, Nat.reduceEqDiff, Nat.reduceAdd, Nat.reduceMul, Nat.reduceSub, Nat.reduceLeDiff, Nat.reduceLT, Int.reduceLT, Int.reduceLE, Int.reduceEq, Int.reduceToNat, Int.reduceAdd, Int.reduceSub, Int.reduceNeg, ↓reduceIte, reduceCtorEq, ↓C.catnaplaw16_CountNeeds_W, C.catnaplaw16_CountNeeds_B, C.catnaplaw16_CountNeeds, hbb, Soc.cells, Soc.devV, hzj, hgj, row, hnl', Int.toNat_natCast, hwj]
    refine hQ _ b' ?_ rfl
    rw [hb', show n = S.devs[j].needs.length by omega, List.take_length]
    constructor
    · rintro ((e | ⟨d, h1, h2, h3, h4⟩) | ⟨h1, h2⟩)
      · exact .inl e
      · exact .inr ⟨d, h1, by omega, h3, h4⟩
      · exact .inr ⟨j, hj, by omega, h1, h2⟩
    · rintro (e | ⟨d, h1, h2, h3, h4⟩)
      · exact .inl (.inl e)
      · by_cases e : d = j
        · subst e; exact .inr ⟨h3, h4⟩
        · exact .inl (.inr ⟨d, h1, by omega, h3, h4⟩)
  have hnl' : (n : Int) < (S.devs[j].needs.length : Nat) := by omega
  have hzn : (0:Int) ≤ (n : Int) ∧ (n : Int) < (S.devs[j].needs.length : Nat) := by omega
  have hw := wsucc hnl (by omega)
  have gn : (ints S.devs[j].needs)[n]? = some (.int .i64 S.devs[j].needs[n]) := ints_get hnl
  have htk : ∀ x : Int, x ∈ S.devs[j].needs.take (n + 1) ↔ x ∈ S.devs[j].needs.take n ∨ x = S.devs[j].needs[n] := fun x => by rw [List.take_succ_eq_append_getElem hnl, List.mem_append, List.mem_singleton]
  have hUj : U[j]? = some U[j] := by simp [hjU]
  by_cases he : S.devs[j].needs[n] = (i : Int)
  rotate_left
  · have T := eq_false he
    simp only [↓Bp, Bq, Bs, ↓aop.eq_28, ↓aop.eq_30, Nat.reduceEqDiff, Nat.reduceAdd, Nat.reduceMul, Nat.reduceSub, Nat.reduceLeDiff, Nat.reduceLT, Int.reduceLT, Int.reduceLE, Int.reduceEq, Int.reduceToNat, Int.reduceAdd, Int.reduceSub, Int.reduceNeg, ↓reduceIte, reduceCtorEq, ↓C.catnaplaw16_CountNeeds_W, C.catnaplaw16_CountNeeds_B, C.catnaplaw16_CountNeeds, hbb, Soc.cells, Soc.devV, hzj, hgj, row, hnl', hzn, gn, T, Int.toNat_natCast, Nat.mul_one, hw]
    refine ⟨(n + 1, b'), rfl, ⟨hnl, ?_⟩, by simp only; omega⟩
    simp only
    rw [hb', htk]; simp [Ne.symm he]
  have T := eq_true he
  cases hu : U[j]
  · rw [hu] at gU hUj
    simp only [↓Bp, Bq, Bs, ↓aop.eq_28, ↓aop.eq_30, Nat.reduceEqDiff, Nat.reduceAdd, Nat.reduceMul, Nat.reduceSub, Nat.reduceLeDiff, Nat.reduceLT, Int.reduceLT, Int.reduceLE, Int.reduceEq, Int.reduceToNat, Int.reduceAdd, Int.reduceSub, Int.reduceNeg, ↓reduceIte, reduceCtorEq, ↓C.catnaplaw16_CountNeeds_W, C.catnaplaw16_CountNeeds_B, C.catnaplaw16_CountNeeds, hbb, Soc.cells, Soc.devV, hzj, hzjU, hgj, row, hnl', hzn, gn, T, gU, Int.toNat_natCast, Nat.mul_one, hw]
    refine ⟨(n + 1, b'), rfl, ⟨hnl, ?_⟩, by simp only; omega⟩
    simp only
    rw [hb', hUj]; simp
  · rw [hu] at gU hUj
    simp only [↓Bp, Bq, Bs, ↓aop.eq_28, ↓aop.eq_30, Nat.reduceEqDiff, Nat.reduceAdd, Nat.reduceMul, Nat.reduceSub, Nat.reduceLeDiff, Nat.reduceLT, Int.reduceLT, Int.reduceLE, Int.reduceEq, Int.reduceToNat, Int.reduceAdd, Int.reduceSub, Int.reduceNeg, ↓reduceIte, reduceCtorEq, ↓C.catnaplaw16_CountNeeds_W, C.catnaplaw16_CountNeeds_B, C.catnaplaw16_CountNeeds, hbb, Soc.cells, Soc.devV, hzj, hzjU, hgj, row, hnl', hzn, gn, T, gU, Int.toNat_natCast, Nat.mul_one, hw]
    refine ⟨(n + 1, true), rfl, ⟨hnl, ?_⟩, by simp only; omega⟩
    simp only
    rw [htk, hUj]; simp [he]
set_option maxHeartbeats 1000000 in
/-- All are looked at. -/
theorem need_look {s : ASt} {f : Int → Int} {va : AV} {i0 : Nat} (h : CW st s ib p m S f false) {Q : IExit → AFr → ASt → Prop}
    (hQ : ∀ fr, fr.keep [1, 6, 7, 9] = [(1, va), (6, .ptr ib 0), (7, .ptr p 0), (9, .int .i64 i0)] → Q .normal fr s) :
    awp Try.prog C.catnaplaw16_CountNeeds_c30 Q [(1, va), (6, .ptr ib 0), (7, .ptr p 0), (9, .int .i64 i0), (11, brow (useL S.need f false))] s := by
  have hnv := hS.nv
  have hR := hS.need_right
  have hnl := Soc.need_len S
  have hUl : (useL S.need f false).length = S.devs.length := by rw [useL_len, hnl]
  have hUg : ∀ i (hi : i < (useL S.need f false).length), (useL S.need f false)[i] = true ↔ ByP S (useL S.need f false) f i S.devs.length := fun i hi => by
    rw [useL_get hi, use_step hR (by omega)]
    constructor
    · rintro (e | ⟨d, h1, h2, h3⟩)
      · exact .inl e
      · have hd : d < S.devs.length := by omega
        refine .inr ⟨d, hd, hd, ?_, ?_⟩
        · have := (mem_deps hR.ok h1).mp h2
          rwa [need_at h1] at this
        · have hdu : d < (useL S.need f false).length := by omega
          rw [List.getElem?_eq_getElem hdu, useL_get hdu, h3]
    · rintro (e | ⟨d, hd, _, h3, h4⟩)
      · exact .inl e
      · have h1 : d < S.need.length := by omega
        refine .inr ⟨d, h1, (mem_deps hR.ok h1).mpr (by rw [need_at h1]; exact h3), ?_⟩
        have hdu : d < (useL S.need f false).length := by omega
        rw [List.getElem?_eq_getElem hdu, useL_get hdu] at h4
        exact Option.some.inj h4
  generalize useL S.need f false = U at hUl hUg
  simp only [↓Bp, Bq, Bs, ↓aop.eq_28, ↓aop.eq_30, Nat.reduceEqDiff, Nat.reduceAdd, Nat.reduceMul, Nat.reduceSub, Nat.reduceLeDiff, Nat.reduceLT, Int.reduceLT, Int.reduceLE, Int.reduceEq, Int.reduceToNat, Int.reduceAdd, Int.reduceSub, Int.reduceNeg, ↓reduceIte, reduceCtorEq, ↓C.catnaplaw16_CountNeeds_W, C.catnaplaw16_CountNeeds_B, C.catnaplaw16_CountNeeds]
  refine awp_loopK (fun t : Nat => [(1, va), (6, .ptr ib 0), (7, .ptr p 0), (9, .int .i64 i0), (11, brow U), (12, .int .i64 t)]) (fun t s' => t ≤ U.length ∧ s' = s) (fun t => U.length - t) 0 rfl ⟨Nat.zero_le _, rfl⟩ ?_
  rintro t s ⟨ht, rfl⟩
  by_cases htl : t < U.length
  rotate_left
  · have htl' : ¬ (t : Int) < (U.length : Nat) := by omega
    simp only [↓Bp, Bq, Bs, ↓aop.eq_28, ↓aop.eq_30, Nat.reduceEqDiff, Nat.reduceAdd, Nat.reduceMul, Nat.reduceSub, Nat.reduceLeDiff, Nat.reduceLT, Int.reduceLT, Int.reduceLE, Int.reduceEq, Int.reduceToNat, Int.reduceAdd, Int.reduceSub, Int.reduceNeg, ↓reduceIte, reduceCtorEq, ↓C.catnaplaw16_CountNeeds_W, C.catnaplaw16_CountNeeds_B, C.catnaplaw16_CountNeeds, brow, htl']
    exact hQ _ rfl
  have htl' : (t : Int) < (U.length : Nat) := by omega
  have hw := wsucc htl (by omega)
  have hz : (0:Int) ≤ (t : Int) ∧ (t : Int) < (U.length : Nat) := by omega
  have hbb := h.hb
  have gU := bools_get htl
  have hlim := h.lim (t : Int)
  simp only [↓Bp, Bq, Bs, ↓aop.eq_28, ↓aop.eq_30, Nat.reduceEqDiff, Nat.reduceAdd, Nat.reduceMul, Nat.reduceSub, Nat.reduceLeDiff, Nat.reduceLT, Int.reduceLT, Int.reduceLE, Int.reduceEq, Int.reduceToNat, Int.reduceAdd, Int.reduceSub, Int.reduceNeg, ↓reduceIte, reduceCtorEq, ↓C.catnaplaw16_CountNeeds_W, C.catnaplaw16_CountNeeds_B, C.catnaplaw16_CountNeeds, brow, htl']
  refine (cnt_spec h.c _).mono ?_
  rintro r s ⟨rfl, rfl⟩
  simp only [↓Bp, Bq, Bs, ↓aop.eq_28, ↓aop.eq_30, Nat.reduceEqDiff, Nat.reduceAdd, Nat.reduceMul, Nat.reduceSub, Nat.reduceLeDiff, Nat.reduceLT, Int.reduceLT, Int.reduceLE, Int.reduceEq, Int.reduceToNat, Int.reduceAdd, Int.reduceSub, Int.reduceNeg, ↓reduceIte, reduceCtorEq, ↓C.catnaplaw16_CountNeeds_W, C.catnaplaw16_CountNeeds_B, C.catnaplaw16_CountNeeds, gt_iff_lt]
  refine awp_midB (fun b : Bool => [(1, va), (6, .ptr ib 0), (7, .ptr p 0), (9, .int .i64 i0), (11, .isl 1 (bools U) U.length), (12, .int .i64 t), (13, .bool b)]) (fun b s' => s' = s ∧ (b = true ↔ ByP S U f t S.devs.length)) ?_ ?_
  · refine awp_loopK (fun w : Nat × Bool => [(1, va), (6, .ptr ib 0), (7, .ptr p 0), (9, .int .i64 i0), (11, .isl 1 (bools U) U.length), (12, .int .i64 t), (13, .bool w.2), (14, .int .i64 w.1)]) (fun w s' => w.1 ≤ S.devs.length ∧ s' = s ∧ (w.2 = true ↔ ByP S U f t w.1)) (fun w => S.devs.length - w.1) (0, decide (0 < f (t : Int))) rfl
      ⟨Nat.zero_le _, rfl, by simp [ByP]⟩ ?_
    rintro ⟨j, b⟩ s ⟨hj, rfl, hb⟩
    simp only at hj hb
    by_cases hjl : j < S.devs.length
    rotate_left
    · have hjl' : ¬ (j : Int) < (S.devs.length : Nat) := by omega
      simp only [↓Bp, Bq, Bs, ↓aop.eq_28, ↓aop.eq_30, Nat.reduceEqDiff, Nat.reduceAdd, Nat.reduceMul, Nat.reduceSub, Nat.reduceLeDiff, Nat.reduceLT, Int.reduceLT, Int.reduceLE, Int.reduceEq, Int.reduceToNat, Int.reduceAdd, Int.reduceSub, Int.reduceNeg, ↓reduceIte, reduceCtorEq, ↓C.catnaplaw16_CountNeeds_W, C.catnaplaw16_CountNeeds_B, C.catnaplaw16_CountNeeds, hbb, Soc.cells, Soc.devV, hjl']
      rw [show j = S.devs.length by omega] at hb
      exact ⟨b, rfl, hb⟩
    have hjl' : (j : Int) < (S.devs.length : Nat) := by omega
    have hwj := wsucc hjl (by omega)
    simp only [↓Bp, Bq, Bs, ↓aop.eq_28, ↓aop.eq_30, Nat.reduceEqDiff, Nat.reduceAdd, Nat.reduceMul, Nat.reduceSub, Nat.reduceLeDiff, Nat.reduceLT, Int.reduceLT, Int.reduceLE, Int.reduceEq, Int.reduceToNat, Int.reduceAdd, Int.reduceSub, Int.reduceNeg, ↓reduceIte, reduceCtorEq, ↓C.catnaplaw16_CountNeeds_r30_w, C.catnaplaw16_CountNeeds_r30_b, ↓C.catnaplaw16_CountNeeds_c1_w, ↓C.catnaplaw16_CountNeeds_r8_w, C.catnaplaw16_CountNeeds_r8_b, ↓C.catnaplaw16_CountNeeds_c2_w, ↓C.catnaplaw16_CountNeeds_r18_w, C.catnaplaw16_CountNeeds_r18_b, ↓C.catnaplaw16_CountNeeds_c3_w, ↓C.catnaplaw16_CountNeeds_r29_w, C.catnaplaw16_CountNeeds_r29_b, ↓C.catnaplaw16_CountNeeds_c4_w, ↓C.catnaplaw16_CountNeeds_c5_w, ↓C.catnaplaw16_CountNeeds_r28_w, C.catnaplaw16_CountNeeds_r28_b, ↓C.catnaplaw16_CountNeeds_c6_w, ↓C.catnaplaw16_CountNeeds_c19_w, ↓C.catnaplaw16_CountNeeds_r21_w, C.catnaplaw16_CountNeeds_r21_b, ↓C.catnaplaw16_CountNeeds_b21_w, ↓C.catnaplaw16_CountNeeds_c22_w, ↓C.catnaplaw16_CountNeeds_r20_w, C.catnaplaw16_CountNeeds_r20_b, ↓C.catnaplaw16_CountNeeds_c23_w, ↓C.catnaplaw16_CountNeeds_r19_w, C.catnaplaw16_CountNeeds_r19_b, ↓C.catnaplaw16_CountNeeds_b24_w, ↓C.catnaplaw16_CountNeeds_c25_w, ↓C.catnaplaw16_CountNeeds_c26_w, ↓C.catnaplaw16_CountNeeds_r17_w, C.catnaplaw16_CountNeeds_r17_b, ↓C.catnaplaw16_CountNeeds_b28_w, ↓C.catnaplaw16_CountNeeds_c29_w, ↓C.catnaplaw16_CountNeeds_r16_w, C.catnaplaw16_CountNeeds_r16_b, ↓C.catnaplaw16_CountNeeds_c30_w, ↓C.catnaplaw16_CountNeeds_r15_w, C.catnaplaw16_CountNeeds_r15_b, ↓C.catnaplaw16_CountNeeds_c31_w, ↓C.catnaplaw16_CountNeeds_c32_w, ↓C.catnaplaw16_CountNeeds_r14_w, C.catnaplaw16_CountNeeds_r14_b, ↓C.catnaplaw16_CountNeeds_c33_w, ↓C.catnaplaw16_CountNeeds_r13_w, C.catnaplaw16_CountNeeds_r13_b, ↓C.catnaplaw16_CountNeeds_c34_w, ↓C.catnaplaw16_CountNeeds_r11_w, C.catnaplaw16_CountNeeds_r11_b, ↓C.catnaplaw16_CountNeeds_r12_w, C.catnaplaw16_CountNeeds_r12_b, ↓C.catnaplaw16_CountNeeds_c35_w, ↓C.catnaplaw16_CountNeeds_c36_w, ↓C.catnaplaw16_CountNeeds_c37_w, ↓C.catnaplaw16_CountNeeds_r10_w, C.catnaplaw16_CountNeeds_r10_b, ↓C.catnaplaw16_CountNeeds_c38_w, ↓C.catnaplaw16_CountNeeds_r9_w, C.catnaplaw16_CountNeeds_r9_b, ↓C.catnaplaw16_CountNeeds_b39_w, ↓C.catnaplaw16_CountNeeds_c40_w, ↓C.catnaplaw16_CountNeeds_c41_w, ↓C.catnaplaw16_CountNeeds_r7_w, C.catnaplaw16_CountNeeds_r7_b, ↓C.catnaplaw16_CountNeeds_b43_w, ↓C.catnaplaw16_CountNeeds_c44_w, ↓C.catnaplaw16_CountNeeds_r6_w, C.catnaplaw16_CountNeeds_r6_b, ↓C.catnaplaw16_CountNeeds_c45_w, ↓C.catnaplaw16_CountNeeds_r5_w, C.catnaplaw16_CountNeeds_r5_b, ↓C.catnaplaw16_CountNeeds_c46_w, ↓C.catnaplaw16_CountNeeds_c47_w, ↓C.catnaplaw16_CountNeeds_r4_w, C.catnaplaw16_CountNeeds_r4_b, ↓C.catnaplaw16_CountNeeds_c48_w, ↓C.catnaplaw16_CountNeeds_r3_w, C.catnaplaw16_CountNeeds_r3_b, ↓C.catnaplaw16_CountNeeds_c49_w, ↓C.catnaplaw16_CountNeeds_r2_w, C.catnaplaw16_CountNeeds_r2_b, ↓C.catnaplaw16_CountNeeds_c50_w, ↓C.catnaplaw16_CountNeeds_r1_w, C.catnaplaw16_CountNeeds_r1_b, ↓C.catnaplaw16_CountNeeds_c51_w, ↓C.catnaplaw16_CountNeeds_r0_w, C.catnaplaw16_CountNeeds_r0_b, C.catnaplaw16_CountNeeds, hbb, Soc.cells, Soc.devV, hjl']
    rw [C.catnaplaw16_CountNeeds_c18_w, awp_keep]
    refine need_in hS (p := p) (va := va) (i0 := i0) h hjl hUl (by omega) hb fun fr b' hb' e => ?_
    exact ⟨(j + 1, b'), e, ⟨hjl, rfl, hb'⟩, by simp only; omega⟩
  · rintro b s' ⟨rfl, hb⟩
    have e : U[t] = b := by rw [Bool.eq_iff_iff, hUg t htl, hb]
    rw [e] at gU
    have T1 := eq_false (show ¬ f (t : Int) < 0 by omega)
    have T2 := eq_false (show ¬ 7 < f (t : Int) by omega)
    have eb : (true ^^ decide (b = b)) = false := by simp
    simp only [↓Bp, Bq, Bs, ↓aop.eq_28, ↓aop.eq_30, Nat.reduceEqDiff, Nat.reduceAdd, Nat.reduceMul, Nat.reduceSub, Nat.reduceLeDiff, Nat.reduceLT, Int.reduceLT, Int.reduceLE, Int.reduceEq, Int.reduceToNat, Int.reduceAdd, Int.reduceSub, Int.reduceNeg, ↓reduceIte, reduceCtorEq, ↓C.catnaplaw16_CountNeeds_W, C.catnaplaw16_CountNeeds_B, C.catnaplaw16_CountNeeds, hz, gU, Int.toNat_natCast, Nat.mul_one, eb]
    refine (cnt_spec h.c _).mono ?_
    rintro r s ⟨rfl, rfl⟩
    simp only [↓Bp, Bq, Bs, ↓aop.eq_28, ↓aop.eq_30, Nat.reduceEqDiff, Nat.reduceAdd, Nat.reduceMul, Nat.reduceSub, Nat.reduceLeDiff, Nat.reduceLT, Int.reduceLT, Int.reduceLE, Int.reduceEq, Int.reduceToNat, Int.reduceAdd, Int.reduceSub, Int.reduceNeg, ↓reduceIte, reduceCtorEq, ↓C.catnaplaw16_CountNeeds_W, C.catnaplaw16_CountNeeds_B, C.catnaplaw16_CountNeeds, T1]
    refine (cnt_spec h.c _).mono ?_
    rintro r s ⟨rfl, rfl⟩
    simp only [↓Bp, Bq, Bs, ↓aop.eq_28, ↓aop.eq_30, Nat.reduceEqDiff, Nat.reduceAdd, Nat.reduceMul, Nat.reduceSub, Nat.reduceLeDiff, Nat.reduceLT, Int.reduceLT, Int.reduceLE, Int.reduceEq, Int.reduceToNat, Int.reduceAdd, Int.reduceSub, Int.reduceNeg, ↓reduceIte, reduceCtorEq, ↓C.catnaplaw16_CountNeeds_W, C.catnaplaw16_CountNeeds_B, C.catnaplaw16_CountNeeds, gt_iff_lt, T2, hw]
    exact ⟨t + 1, rfl, htl, by omega⟩
set_option maxHeartbeats 1000000 in
theorem need_loop {s : ASt} {acts : List Pair} (hac : ∀ x ∈ acts, I64 x.a ∧ I64 x.b) (hal : acts.length ≤ 150) {f : Int → Int} (h : CW st s ib p m S f false) :
    awp Try.prog C.catnaplaw16_CountNeeds_c45 (Post [.slot 4] fun r s => r = .bool true ∧ st.le s)
      [(1, .isl 2 (acts.flatMap encPair) acts.length), (6, .ptr ib 0), (7, .ptr p 0)] s := by
  have hnv := hS.nv
  simp only [↓Bp, Bq, Bs, ↓aop.eq_28, ↓aop.eq_30, Nat.reduceEqDiff, Nat.reduceAdd, Nat.reduceMul, Nat.reduceSub, Nat.reduceLeDiff, Nat.reduceLT, Int.reduceLT, Int.reduceLE, Int.reduceEq, Int.reduceToNat, Int.reduceAdd, Int.reduceSub, Int.reduceNeg, ↓reduceIte, reduceCtorEq, ↓C.catnaplaw16_CountNeeds_W, C.catnaplaw16_CountNeeds_B, C.catnaplaw16_CountNeeds]
  refine awp_midB (fun _ : Unit => ([] : AFr)) (fun _ s => st.le s) ?_ ?_
  · refine awp_loopK (fun t : Nat => [(1, .isl 2 (acts.flatMap encPair) acts.length), (6, .ptr ib 0), (7, .ptr p 0), (9, .int .i64 t)])
      (fun t s => t ≤ acts.length ∧ ∃ f, CW st s ib p m S f false) (fun t => acts.length - t) 0 rfl ⟨Nat.zero_le _, f, h⟩ ?_
    clear h f s
    rintro t s ⟨ht, f, h⟩
    have hb := h.hb
    by_cases htl : t < acts.length
    rotate_left
    · have htl' : ¬ (t : Int) < (acts.length : Nat) := by omega
      simp only [↓Bp, Bq, Bs, ↓aop.eq_28, ↓aop.eq_30, Nat.reduceEqDiff, Nat.reduceAdd, Nat.reduceMul, Nat.reduceSub, Nat.reduceLeDiff, Nat.reduceLT, Int.reduceLT, Int.reduceLE, Int.reduceEq, Int.reduceToNat, Int.reduceAdd, Int.reduceSub, Int.reduceNeg, ↓reduceIte, reduceCtorEq, ↓C.catnaplaw16_CountNeeds_W, C.catnaplaw16_CountNeeds_B, C.catnaplaw16_CountNeeds, htl']
      exact ⟨(), h.le⟩
    have htl' : (t : Int) < (acts.length : Nat) := by omega
    have hw := wsucc htl (by omega)
    have hz2 : (0:Int) ≤ (t : Int) ∧ (t : Int) < (acts.length : Nat) := by omega
    have hg := cpairs_get acts htl
    have hIa := hac _ (List.getElem_mem htl)
    simp only [↓Bp, Bq, Bs, ↓aop.eq_28, ↓aop.eq_30, Nat.reduceEqDiff, Nat.reduceAdd, Nat.reduceMul, Nat.reduceSub, Nat.reduceLeDiff, Nat.reduceLT, Int.reduceLT, Int.reduceLE, Int.reduceEq, Int.reduceToNat, Int.reduceAdd, Int.reduceSub, Int.reduceNeg, ↓reduceIte, reduceCtorEq, ↓C.catnaplaw16_CountNeeds_W, C.catnaplaw16_CountNeeds_B, C.catnaplaw16_CountNeeds, htl', hb, Soc.cells, Soc.devV, hz2, Int.toNat_natCast, hg.1, hg.2]
    refine (pick_spec hIa.2 (n := S.devs.length) (by omega)).mono ?_
    rintro r s ⟨rfl, rfl⟩
    have hkl := pickI_lt acts[t].b (n := S.devs.length) (by omega)
    generalize pickI acts[t].b S.devs.length = k at hkl
    simp only [↓Bp, Bq, Bs, ↓aop.eq_28, ↓aop.eq_30, Nat.reduceEqDiff, Nat.reduceAdd, Nat.reduceMul, Nat.reduceSub, Nat.reduceLeDiff, Nat.reduceLT, Int.reduceLT, Int.reduceLE, Int.reduceEq, Int.reduceToNat, Int.reduceAdd, Int.reduceSub, Int.reduceNeg, ↓reduceIte, reduceCtorEq, ↓C.catnaplaw16_CountNeeds_W, C.catnaplaw16_CountNeeds_B, C.catnaplaw16_CountNeeds, hz2, Int.toNat_natCast, hg.1, hg.2]
    refine (pick_spec hIa.1 (n := 10) (by omega)).mono ?_
    rintro r s ⟨rfl, rfl⟩
    generalize pickI acts[t].a 10 = o
    by_cases ho : o < 5
    · have T := eq_true (show (o : Int) < 5 by omega)
      simp only [↓Bp, Bq, Bs, ↓aop.eq_28, ↓aop.eq_30, Nat.reduceEqDiff, Nat.reduceAdd, Nat.reduceMul, Nat.reduceSub, Nat.reduceLeDiff, Nat.reduceLT, Int.reduceLT, Int.reduceLE, Int.reduceEq, Int.reduceToNat, Int.reduceAdd, Int.reduceSub, Int.reduceNeg, ↓reduceIte, reduceCtorEq, ↓C.catnaplaw16_CountNeeds_W, C.catnaplaw16_CountNeeds_B, C.catnaplaw16_CountNeeds, T]
      refine (get_spec h.c (h.lim _)).mono ?_
      rintro r s1 ⟨rfl, hC, hM⟩
      have h2 := h.move hC hM (h.lim.get _)
      have hb2 := h2.hb
      have eN : ((useL S.need (getF S.need f false k) false).length : Int) = (S.devs.length : Nat) := by rw [useL_len, Soc.need_len]
      simp only [↓Bp, Bq, Bs, ↓aop.eq_28, ↓aop.eq_30, Nat.reduceEqDiff, Nat.reduceAdd, Nat.reduceMul, Nat.reduceSub, Nat.reduceLeDiff, Nat.reduceLT, Int.reduceLT, Int.reduceLE, Int.reduceEq, Int.reduceToNat, Int.reduceAdd, Int.reduceSub, Int.reduceNeg, ↓reduceIte, reduceCtorEq, ↓C.catnaplaw16_CountNeeds_W, C.catnaplaw16_CountNeeds_B, C.catnaplaw16_CountNeeds]
      refine (act_spec hS h2).mono ?_
      rintro r s2 ⟨rfl, rfl⟩
      simp only [↓Bp, Bq, Bs, ↓aop.eq_28, ↓aop.eq_30, Nat.reduceEqDiff, Nat.reduceAdd, Nat.reduceMul, Nat.reduceSub, Nat.reduceLeDiff, Nat.reduceLT, Int.reduceLT, Int.reduceLE, Int.reduceEq, Int.reduceToNat, Int.reduceAdd, Int.reduceSub, Int.reduceNeg, ↓reduceIte, reduceCtorEq, ↓C.catnaplaw16_CountNeeds_r30_w, C.catnaplaw16_CountNeeds_r30_b, ↓C.catnaplaw16_CountNeeds_c1_w, ↓C.catnaplaw16_CountNeeds_r8_w, C.catnaplaw16_CountNeeds_r8_b, ↓C.catnaplaw16_CountNeeds_c2_w, ↓C.catnaplaw16_CountNeeds_r15_w, C.catnaplaw16_CountNeeds_r15_b, ↓C.catnaplaw16_CountNeeds_c31_w, ↓C.catnaplaw16_CountNeeds_c32_w, ↓C.catnaplaw16_CountNeeds_r14_w, C.catnaplaw16_CountNeeds_r14_b, ↓C.catnaplaw16_CountNeeds_c33_w, ↓C.catnaplaw16_CountNeeds_r13_w, C.catnaplaw16_CountNeeds_r13_b, ↓C.catnaplaw16_CountNeeds_c34_w, ↓C.catnaplaw16_CountNeeds_r11_w, C.catnaplaw16_CountNeeds_r11_b, ↓C.catnaplaw16_CountNeeds_r12_w, C.catnaplaw16_CountNeeds_r12_b, ↓C.catnaplaw16_CountNeeds_c35_w, ↓C.catnaplaw16_CountNeeds_c36_w, ↓C.catnaplaw16_CountNeeds_c37_w, ↓C.catnaplaw16_CountNeeds_r10_w, C.catnaplaw16_CountNeeds_r10_b, ↓C.catnaplaw16_CountNeeds_c38_w, ↓C.catnaplaw16_CountNeeds_r9_w, C.catnaplaw16_CountNeeds_r9_b, ↓C.catnaplaw16_CountNeeds_b39_w, ↓C.catnaplaw16_CountNeeds_c40_w, ↓C.catnaplaw16_CountNeeds_c41_w, ↓C.catnaplaw16_CountNeeds_r7_w, C.catnaplaw16_CountNeeds_r7_b, ↓C.catnaplaw16_CountNeeds_b43_w, ↓C.catnaplaw16_CountNeeds_c44_w, ↓C.catnaplaw16_CountNeeds_r6_w, C.catnaplaw16_CountNeeds_r6_b, ↓C.catnaplaw16_CountNeeds_c45_w, ↓C.catnaplaw16_CountNeeds_r5_w, C.catnaplaw16_CountNeeds_r5_b, ↓C.catnaplaw16_CountNeeds_c46_w, ↓C.catnaplaw16_CountNeeds_c47_w, ↓C.catnaplaw16_CountNeeds_r4_w, C.catnaplaw16_CountNeeds_r4_b, ↓C.catnaplaw16_CountNeeds_c48_w, ↓C.catnaplaw16_CountNeeds_r3_w, C.catnaplaw16_CountNeeds_r3_b, ↓C.catnaplaw16_CountNeeds_c49_w, ↓C.catnaplaw16_CountNeeds_r2_w, C.catnaplaw16_CountNeeds_r2_b, ↓C.catnaplaw16_CountNeeds_c50_w, ↓C.catnaplaw16_CountNeeds_r1_w, C.catnaplaw16_CountNeeds_r1_b, ↓C.catnaplaw16_CountNeeds_c51_w, ↓C.catnaplaw16_CountNeeds_r0_w, C.catnaplaw16_CountNeeds_r0_b, C.catnaplaw16_CountNeeds, brow, hb2, Soc.cells, Soc.devV, eN]
      rw [C.catnaplaw16_CountNeeds_c30_w, awp_keep]
      refine need_look hS (va := .isl 2 (acts.flatMap encPair) acts.length) h2 fun fr e => ?_
      show awp Try.prog C.catnaplaw16_CountNeeds_c2 _ fr s2
      rw [C.catnaplaw16_CountNeeds_c2_w, awp_keep, e]
      simp only [↓Bp, Bq, Bs, ↓aop.eq_28, ↓aop.eq_30, Nat.reduceEqDiff, Nat.reduceAdd, Nat.reduceMul, Nat.reduceSub, Nat.reduceLeDiff, Nat.reduceLT, Int.reduceLT, Int.reduceLE, Int.reduceEq, Int.reduceToNat, Int.reduceAdd, Int.reduceSub, Int.reduceNeg, ↓reduceIte, reduceCtorEq, ↓C.catnaplaw16_CountNeeds_W, C.catnaplaw16_CountNeeds_B, C.catnaplaw16_CountNeeds, hw]
      exact ⟨t + 1, rfl, ⟨htl, _, h2⟩, by omega⟩
    · have T := eq_false (show ¬ (o : Int) < 5 by omega)
      simp only [↓Bp, Bq, Bs, ↓aop.eq_28, ↓aop.eq_30, Nat.reduceEqDiff, Nat.reduceAdd, Nat.reduceMul, Nat.reduceSub, Nat.reduceLeDiff, Nat.reduceLT, Int.reduceLT, Int.reduceLE, Int.reduceEq, Int.reduceToNat, Int.reduceAdd, Int.reduceSub, Int.reduceNeg, ↓reduceIte, reduceCtorEq, ↓C.catnaplaw16_CountNeeds_W, C.catnaplaw16_CountNeeds_B, C.catnaplaw16_CountNeeds, T]
      refine (put_spec h.c (h.lim _)).mono ?_
      rintro r s1 ⟨rfl, hC, hM⟩
      have h2 := h.move hC hM (h.lim.put _)
      have hb2 := h2.hb
      have eN : ((useL S.need (putF S.need f false k) false).length : Int) = (S.devs.length : Nat) := by rw [useL_len, Soc.need_len]
      simp only [↓Bp, Bq, Bs, ↓aop.eq_28, ↓aop.eq_30, Nat.reduceEqDiff, Nat.reduceAdd, Nat.reduceMul, Nat.reduceSub, Nat.reduceLeDiff, Nat.reduceLT, Int.reduceLT, Int.reduceLE, Int.reduceEq, Int.reduceToNat, Int.reduceAdd, Int.reduceSub, Int.reduceNeg, ↓reduceIte, reduceCtorEq, ↓C.catnaplaw16_CountNeeds_W, C.catnaplaw16_CountNeeds_B, C.catnaplaw16_CountNeeds]
      refine (act_spec hS h2).mono ?_
      rintro r s2 ⟨rfl, rfl⟩
      simp only [↓Bp, Bq, Bs, ↓aop.eq_28, ↓aop.eq_30, Nat.reduceEqDiff, Nat.reduceAdd, Nat.reduceMul, Nat.reduceSub, Nat.reduceLeDiff, Nat.reduceLT, Int.reduceLT, Int.reduceLE, Int.reduceEq, Int.reduceToNat, Int.reduceAdd, Int.reduceSub, Int.reduceNeg, ↓reduceIte, reduceCtorEq, ↓C.catnaplaw16_CountNeeds_r30_w, C.catnaplaw16_CountNeeds_r30_b, ↓C.catnaplaw16_CountNeeds_c1_w, ↓C.catnaplaw16_CountNeeds_r8_w, C.catnaplaw16_CountNeeds_r8_b, ↓C.catnaplaw16_CountNeeds_c2_w, ↓C.catnaplaw16_CountNeeds_r15_w, C.catnaplaw16_CountNeeds_r15_b, ↓C.catnaplaw16_CountNeeds_c31_w, ↓C.catnaplaw16_CountNeeds_c32_w, ↓C.catnaplaw16_CountNeeds_r14_w, C.catnaplaw16_CountNeeds_r14_b, ↓C.catnaplaw16_CountNeeds_c33_w, ↓C.catnaplaw16_CountNeeds_r13_w, C.catnaplaw16_CountNeeds_r13_b, ↓C.catnaplaw16_CountNeeds_c34_w, ↓C.catnaplaw16_CountNeeds_r11_w, C.catnaplaw16_CountNeeds_r11_b, ↓C.catnaplaw16_CountNeeds_r12_w, C.catnaplaw16_CountNeeds_r12_b, ↓C.catnaplaw16_CountNeeds_c35_w, ↓C.catnaplaw16_CountNeeds_c36_w, ↓C.catnaplaw16_CountNeeds_c37_w, ↓C.catnaplaw16_CountNeeds_r10_w, C.catnaplaw16_CountNeeds_r10_b, ↓C.catnaplaw16_CountNeeds_c38_w, ↓C.catnaplaw16_CountNeeds_r9_w, C.catnaplaw16_CountNeeds_r9_b, ↓C.catnaplaw16_CountNeeds_b39_w, ↓C.catnaplaw16_CountNeeds_c40_w, ↓C.catnaplaw16_CountNeeds_c41_w, ↓C.catnaplaw16_CountNeeds_r7_w, C.catnaplaw16_CountNeeds_r7_b, ↓C.catnaplaw16_CountNeeds_b43_w, ↓C.catnaplaw16_CountNeeds_c44_w, ↓C.catnaplaw16_CountNeeds_r6_w, C.catnaplaw16_CountNeeds_r6_b, ↓C.catnaplaw16_CountNeeds_c45_w, ↓C.catnaplaw16_CountNeeds_r5_w, C.catnaplaw16_CountNeeds_r5_b, ↓C.catnaplaw16_CountNeeds_c46_w, ↓C.catnaplaw16_CountNeeds_c47_w, ↓C.catnaplaw16_CountNeeds_r4_w, C.catnaplaw16_CountNeeds_r4_b, ↓C.catnaplaw16_CountNeeds_c48_w, ↓C.catnaplaw16_CountNeeds_r3_w, C.catnaplaw16_CountNeeds_r3_b, ↓C.catnaplaw16_CountNeeds_c49_w, ↓C.catnaplaw16_CountNeeds_r2_w, C.catnaplaw16_CountNeeds_r2_b, ↓C.catnaplaw16_CountNeeds_c50_w, ↓C.catnaplaw16_CountNeeds_r1_w, C.catnaplaw16_CountNeeds_r1_b, ↓C.catnaplaw16_CountNeeds_c51_w, ↓C.catnaplaw16_CountNeeds_r0_w, C.catnaplaw16_CountNeeds_r0_b, C.catnaplaw16_CountNeeds, brow, hb2, Soc.cells, Soc.devV, eN]
      rw [C.catnaplaw16_CountNeeds_c30_w, awp_keep]
      refine need_look hS (va := .isl 2 (acts.flatMap encPair) acts.length) h2 fun fr e => ?_
      show awp Try.prog C.catnaplaw16_CountNeeds_c2 _ fr s2
      rw [C.catnaplaw16_CountNeeds_c2_w, awp_keep, e]
      simp only [↓Bp, Bq, Bs, ↓aop.eq_28, ↓aop.eq_30, Nat.reduceEqDiff, Nat.reduceAdd, Nat.reduceMul, Nat.reduceSub, Nat.reduceLeDiff, Nat.reduceLT, Int.reduceLT, Int.reduceLE, Int.reduceEq, Int.reduceToNat, Int.reduceAdd, Int.reduceSub, Int.reduceNeg, ↓reduceIte, reduceCtorEq, ↓C.catnaplaw16_CountNeeds_W, C.catnaplaw16_CountNeeds_B, C.catnaplaw16_CountNeeds, hw]
      exact ⟨t + 1, rfl, ⟨htl, _, h2⟩, by omega⟩
  · clear h f s
    rintro - s h
    simp only [↓Bp, Bq, Bs, ↓aop.eq_28, ↓aop.eq_30, Nat.reduceEqDiff, Nat.reduceAdd, Nat.reduceMul, Nat.reduceSub, Nat.reduceLeDiff, Nat.reduceLT, Int.reduceLT, Int.reduceLE, Int.reduceEq, Int.reduceToNat, Int.reduceAdd, Int.reduceSub, Int.reduceNeg, ↓reduceIte, reduceCtorEq, ↓C.catnaplaw16_CountNeeds_W, C.catnaplaw16_CountNeeds_B, C.catnaplaw16_CountNeeds]
    exact h
end
theorem countneeds_spec {st : ASt} {l : List Int} {acts : List Pair} (hl : ∀ x ∈ l, -9223372036854775808 ≤ x ∧ x ≤ 9223372036854775807) (hll : l.length ≤ 9223372036854775807)
    (hac : ∀ x ∈ acts, I64 x.a ∧ I64 x.b) (hal : acts.length ≤ 9223372036854775807) :
    ACalls Try.prog F.catnaplaw16_CountNeeds [row l, .isl 2 (acts.flatMap encPair) acts.length] st fun r s => r = .bool true ∧ s = st := by
  refine ACalls.gc (Q' := fun r s => r = .bool true ∧ st.le s) (calls_of_awp L.catnaplaw16_CountNeeds rfl ?_) (fun v s ⟨h, hl⟩ => ⟨st, hl, h, rfl⟩)
  simp only [↓Bp, Bq, Bs, ↓aop.eq_28, ↓aop.eq_30, Nat.reduceEqDiff, Nat.reduceAdd, Nat.reduceMul, Nat.reduceSub, Nat.reduceLeDiff, Nat.reduceLT, Int.reduceLT, Int.reduceLE, Int.reduceEq, Int.reduceToNat, Int.reduceAdd, Int.reduceSub, Int.reduceNeg, ↓reduceIte, reduceCtorEq, ↓C.catnaplaw16_CountNeeds_W, C.catnaplaw16_CountNeeds_B, C.catnaplaw16_CountNeeds]
  refine (cshown_spec st).mono ?_
  rintro r s ⟨rfl, rfl⟩
  simp only [↓Bp, Bq, Bs, ↓aop.eq_28, ↓aop.eq_30, Nat.reduceEqDiff, Nat.reduceAdd, Nat.reduceMul, Nat.reduceSub, Nat.reduceLeDiff, Nat.reduceLT, Int.reduceLT, Int.reduceLE, Int.reduceEq, Int.reduceToNat, Int.reduceAdd, Int.reduceSub, Int.reduceNeg, ↓reduceIte, reduceCtorEq, ↓C.catnaplaw16_CountNeeds_W, C.catnaplaw16_CountNeeds_B, C.catnaplaw16_CountNeeds]
  refine (chip_frz hl hll).mono ?_
  rintro r s ⟨rfl, rfl⟩
  have hS := chipS_like l
  generalize chipS l = S at hS
  have l4 : S.cells.length = 4 := rfl
  have e4 : AV.agg (List.take 4 S.cells) = .agg S.cells := rfl
  have f4 : allLeaf S.cells = true := rfl
  simp only [↓Bp, Bq, Bs, ↓aop.eq_28, ↓aop.eq_30, Nat.reduceEqDiff, Nat.reduceAdd, Nat.reduceMul, Nat.reduceSub, Nat.reduceLeDiff, Nat.reduceLT, Int.reduceLT, Int.reduceLE, Int.reduceEq, Int.reduceToNat, Int.reduceAdd, Int.reduceSub, Int.reduceNeg, ↓reduceIte, reduceCtorEq, ↓C.catnaplaw16_CountNeeds_r2_w, C.catnaplaw16_CountNeeds_r2_b, ↓C.catnaplaw16_CountNeeds_c50_w, ↓C.catnaplaw16_CountNeeds_r1_w, C.catnaplaw16_CountNeeds_r1_b, ↓C.catnaplaw16_CountNeeds_c51_w, ↓C.catnaplaw16_CountNeeds_r0_w, C.catnaplaw16_CountNeeds_r0_b, C.catnaplaw16_CountNeeds, l4, f4]
  rintro ib hib
  simp only [↓Bp, Bq, Bs, ↓aop.eq_28, ↓aop.eq_30, Nat.reduceEqDiff, Nat.reduceAdd, Nat.reduceMul, Nat.reduceSub, Nat.reduceLeDiff, Nat.reduceLT, Int.reduceLT, Int.reduceLE, Int.reduceEq, Int.reduceToNat, Int.reduceAdd, Int.reduceSub, Int.reduceNeg, ↓reduceIte, reduceCtorEq, ↓C.catnaplaw16_CountNeeds_r2_w, C.catnaplaw16_CountNeeds_r2_b, ↓C.catnaplaw16_CountNeeds_c50_w, ↓C.catnaplaw16_CountNeeds_r1_w, C.catnaplaw16_CountNeeds_r1_b, ↓C.catnaplaw16_CountNeeds_c51_w, ↓C.catnaplaw16_CountNeeds_r0_w, C.catnaplaw16_CountNeeds_r0_b, C.catnaplaw16_CountNeeds, hib, l4, f4]
  rw [ASt.new_set hib, show putN [AV.nils, AV.nils, AV.nils, AV.nils] 0 S.cells = S.cells from putN_all rfl]
  simp only [↓Bp, Bq, Bs, ↓aop.eq_28, ↓aop.eq_30, Nat.reduceEqDiff, Nat.reduceAdd, Nat.reduceMul, Nat.reduceSub, Nat.reduceLeDiff, Nat.reduceLT, Int.reduceLT, Int.reduceLE, Int.reduceEq, Int.reduceToNat, Int.reduceAdd, Int.reduceSub, Int.reduceNeg, ↓reduceIte, reduceCtorEq, ↓C.catnaplaw16_CountNeeds_W, C.catnaplaw16_CountNeeds_B, C.catnaplaw16_CountNeeds, hib, l4, e4]
  refine (cstart_spec hib hS).mono ?_
  rintro r s1 ⟨p, m, rfl, h⟩
  by_cases hac0 : acts.length ≤ 150
  rotate_left
  · have hz0 : (150 : Int) < (acts.length : Nat) := by omega
    simp only [↓Bp, Bq, Bs, ↓aop.eq_28, ↓aop.eq_30, Nat.reduceEqDiff, Nat.reduceAdd, Nat.reduceMul, Nat.reduceSub, Nat.reduceLeDiff, Nat.reduceLT, Int.reduceLT, Int.reduceLE, Int.reduceEq, Int.reduceToNat, Int.reduceAdd, Int.reduceSub, Int.reduceNeg, ↓reduceIte, reduceCtorEq, ↓C.catnaplaw16_CountNeeds_W, C.catnaplaw16_CountNeeds_B, C.catnaplaw16_CountNeeds, hz0]
    exact h.le
  have hz0 : ¬ (150 : Int) < (acts.length : Nat) := by omega
  simp only [↓Bp, Bq, Bs, ↓aop.eq_28, ↓aop.eq_30, Nat.reduceEqDiff, Nat.reduceAdd, Nat.reduceMul, Nat.reduceSub, Nat.reduceLeDiff, Nat.reduceLT, Int.reduceLT, Int.reduceLE, Int.reduceEq, Int.reduceToNat, Int.reduceAdd, Int.reduceSub, Int.reduceNeg, ↓reduceIte, reduceCtorEq, ↓C.catnaplaw16_CountNeeds_r5_w, C.catnaplaw16_CountNeeds_r5_b, ↓C.catnaplaw16_CountNeeds_c46_w, ↓C.catnaplaw16_CountNeeds_c47_w, ↓C.catnaplaw16_CountNeeds_r4_w, C.catnaplaw16_CountNeeds_r4_b, ↓C.catnaplaw16_CountNeeds_c48_w, ↓C.catnaplaw16_CountNeeds_r3_w, C.catnaplaw16_CountNeeds_r3_b, ↓C.catnaplaw16_CountNeeds_c49_w, ↓C.catnaplaw16_CountNeeds_r2_w, C.catnaplaw16_CountNeeds_r2_b, ↓C.catnaplaw16_CountNeeds_c50_w, ↓C.catnaplaw16_CountNeeds_r1_w, C.catnaplaw16_CountNeeds_r1_b, ↓C.catnaplaw16_CountNeeds_c51_w, ↓C.catnaplaw16_CountNeeds_r0_w, C.catnaplaw16_CountNeeds_r0_b, C.catnaplaw16_CountNeeds, hz0]
  rw [C.catnaplaw16_CountNeeds_c45_w, awp_keep]
  exact need_loop hS hac hac0 h
end Go.Proofs.Ytoblpialfhfdgaa.Cn
