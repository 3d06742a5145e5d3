/- Descriptions: each. -/
import Derived.Test.YtkioaemhdbcfaaaCnConf1
import Derived.Test.YtkioaemhdbcfaaaCnL2
set_option linter.unusedSimpArgs false
set_option linter.unusedVariables false
namespace Go.Proofs.Ytkioaemhdbcfaaa.Cn
open Go Go.Proofs

theorem le_new_set {st : ASt} {id : Nat} {a b : AObj} (hid : st.h id = none) : st.le ((st.new id a).set id b) := fun i o h => by
  have hne : i ≠ id := by rintro rfl; rw [hid] at h; cases h
  simp [ASt.set_h, hne, ASt.new_old h]

theorem conf_each_api_Clock_spec {st : ASt} {l : List Clk} {g : Nat} {cap : List AV} {e : Nat → Int} (hb : hasBody Try.prog g = true) (hs : l.length ≤ 4294967296)
    (ha : ∀ i (h : i < l.length), firstE e i = 0 → ACalls Try.prog g (.agg (Clk.cells l[i]) :: cap) st fun r s => r = .int .i64 (e i) ∧ s = st) :
    ACalls Try.prog F.q48 [.isl 6 (l.flatMap Clk.cells) l.length, .fn g cap] st fun r s => r = .int .i64 (firstE e l.length) ∧ s = st := by
  refine calls_of_awp L.q48 rfl ?_
  simp only [↓Bp, Bq, Bs, ↓aop.eq_28, ↓aop.eq_30, Nat.reduceEqDiff, Nat.reduceAdd, Nat.reduceMul, Nat.reduceSub, Nat.reduceLeDiff, Nat.reduceLT, Int.reduceLT, Int.reduceLE, Int.reduceEq, Int.reduceToNat, Int.reduceAdd, Int.reduceSub, Int.reduceNeg, ↓reduceIte, reduceCtorEq, ↓C.q48_W, C.q48_B, C.q48]
  refine awp_loopK (fun i : Nat => [(1, .fn g cap), (8, .isl 6 (l.flatMap Clk.cells) l.length), (9, .int .i64 l.length), (10, .int .i64 i)]) (fun i s => s = st ∧ i ≤ l.length ∧ firstE e i = 0) (fun i => l.length - i) 0 rfl ⟨rfl, Nat.zero_le _, rfl⟩ ?_
  rintro i s ⟨rfl, hi, h0⟩
  by_cases hil : i < l.length
  · have hil' : (i : Int) < (l.length : Nat) := by omega
    have hz : (0:Int) ≤ (i : Int) ∧ (i : Int) < (l.length : Nat) := by omega
    have hw : IntKind.i64.wrap ((i : Int) + 1) = ((i + 1 : Nat) : Int) := by rw [wrap64] <;> omega
    have hf := flatMap_fits (f := Clk.cells) (k := 6) (fun _ => rfl) hil
    have ht := flatMap_at (f := Clk.cells) (k := 6) (fun _ => rfl) hil
    obtain ⟨cs, hcs⟩ : ∃ cs, cs = Clk.cells l[i] := ⟨_, rfl⟩
    have hc := ha i hil h0
    rw [← hcs] at ht hc
    simp only [↓Bp, Bq, Bs, ↓aop.eq_28, ↓aop.eq_30, Nat.reduceEqDiff, Nat.reduceAdd, Nat.reduceMul, Nat.reduceSub, Nat.reduceLeDiff, Nat.reduceLT, Int.reduceLT, Int.reduceLE, Int.reduceEq, Int.reduceToNat, Int.reduceAdd, Int.reduceSub, Int.reduceNeg, ↓reduceIte, reduceCtorEq, ↓C.q48_r8_w, C.q48_r8_b, ↓C.q48_c1_w, ↓C.q48_r7_w, C.q48_r7_b, ↓C.q48_c2_w, ↓C.q48_r3_w, C.q48_r3_b, ↓C.q48_b7_w, ↓C.q48_c8_w, ↓C.q48_c9_w, ↓C.q48_r2_w, C.q48_r2_b, ↓C.q48_b11_w, ↓C.q48_c12_w, ↓C.q48_r1_w, C.q48_r1_b, ↓C.q48_c13_w, ↓C.q48_r0_w, C.q48_r0_b, C.q48, hil', hz, Int.toNat_natCast, hf, ht]
    intro id hid
    rw [hcs] at hc ⊢
    simp only [↓Bp, Bq, Bs, ↓aop.eq_28, ↓aop.eq_30, Nat.reduceEqDiff, Nat.reduceAdd, Nat.reduceMul, Nat.reduceSub, Nat.reduceLeDiff, Nat.reduceLT, Int.reduceLT, Int.reduceLE, Int.reduceEq, Int.reduceToNat, Int.reduceAdd, Int.reduceSub, Int.reduceNeg, ↓reduceIte, reduceCtorEq, ↓C.q48_W, C.q48_B, C.q48, Clk.cells, hid, hb]
    refine ⟨rfl, (hc.less (le_new_set hid)).mono ?_⟩
    rintro r s2 ⟨rfl, rfl⟩
    by_cases he : e i = 0
    · simp only [↓Bp, Bq, Bs, ↓aop.eq_28, ↓aop.eq_30, Nat.reduceEqDiff, Nat.reduceAdd, Nat.reduceMul, Nat.reduceSub, Nat.reduceLeDiff, Nat.reduceLT, Int.reduceLT, Int.reduceLE, Int.reduceEq, Int.reduceToNat, Int.reduceAdd, Int.reduceSub, Int.reduceNeg, ↓reduceIte, reduceCtorEq, ↓C.q48_W, C.q48_B, C.q48, he, hw]
      exact ⟨i + 1, rfl, ⟨hil, by rw [firstE, if_pos h0, he]⟩, by omega⟩
    · simp only [↓Bp, Bq, Bs, ↓aop.eq_28, ↓aop.eq_30, Nat.reduceEqDiff, Nat.reduceAdd, Nat.reduceMul, Nat.reduceSub, Nat.reduceLeDiff, Nat.reduceLT, Int.reduceLT, Int.reduceLE, Int.reduceEq, Int.reduceToNat, Int.reduceAdd, Int.reduceSub, Int.reduceNeg, ↓reduceIte, reduceCtorEq, ↓C.q48_W, C.q48_B, C.q48, he]
      rw [firstE_stop h0 he hil]
  · have hie : i = l.length := by omega
    have hil' : ¬ ((i : Nat) : Int) < (l.length : Nat) := by omega
    simp only [↓Bp, Bq, Bs, ↓aop.eq_28, ↓aop.eq_30, Nat.reduceEqDiff, Nat.reduceAdd, Nat.reduceMul, Nat.reduceSub, Nat.reduceLeDiff, Nat.reduceLT, Int.reduceLT, Int.reduceLE, Int.reduceEq, Int.reduceToNat, Int.reduceAdd, Int.reduceSub, Int.reduceNeg, ↓reduceIte, reduceCtorEq, ↓C.q48_W, C.q48_B, C.q48, hil']
    rw [← hie, h0]


theorem conf_each_api_Domain_spec {st : ASt} {l : List Dom} {g : Nat} {cap : List AV} {e : Nat → Int} (hb : hasBody Try.prog g = true) (hs : l.length ≤ 4294967296)
    (ha : ∀ i (h : i < l.length), firstE e i = 0 → ACalls Try.prog g (.agg (Dom.cells l[i]) :: cap) st fun r s => r = .int .i64 (e i) ∧ s = st) :
    ACalls Try.prog F.q50 [.isl 3 (l.flatMap Dom.cells) l.length, .fn g cap] st fun r s => r = .int .i64 (firstE e l.length) ∧ s = st := by
  refine calls_of_awp L.q50 rfl ?_
  simp only [↓Bp, Bq, Bs, ↓aop.eq_28, ↓aop.eq_30, Nat.reduceEqDiff, Nat.reduceAdd, Nat.reduceMul, Nat.reduceSub, Nat.reduceLeDiff, Nat.reduceLT, Int.reduceLT, Int.reduceLE, Int.reduceEq, Int.reduceToNat, Int.reduceAdd, Int.reduceSub, Int.reduceNeg, ↓reduceIte, reduceCtorEq, ↓C.q50_W, C.q50_B, C.q50]
  refine awp_loopK (fun i : Nat => [(1, .fn g cap), (8, .isl 3 (l.flatMap Dom.cells) l.length), (9, .int .i64 l.length), (10, .int .i64 i)]) (fun i s => s = st ∧ i ≤ l.length ∧ firstE e i = 0) (fun i => l.length - i) 0 rfl ⟨rfl, Nat.zero_le _, rfl⟩ ?_
  rintro i s ⟨rfl, hi, h0⟩
  by_cases hil : i < l.length
  · have hil' : (i : Int) < (l.length : Nat) := by omega
    have hz : (0:Int) ≤ (i : Int) ∧ (i : Int) < (l.length : Nat) := by omega
    have hw : IntKind.i64.wrap ((i : Int) + 1) = ((i + 1 : Nat) : Int) := by rw [wrap64] <;> omega
    have hf := flatMap_fits (f := Dom.cells) (k := 3) (fun _ => rfl) hil
    have ht := flatMap_at (f := Dom.cells) (k := 3) (fun _ => rfl) hil
    obtain ⟨cs, hcs⟩ : ∃ cs, cs = Dom.cells l[i] := ⟨_, rfl⟩
    have hc := ha i hil h0
    rw [← hcs] at ht hc
    simp only [↓Bp, Bq, Bs, ↓aop.eq_28, ↓aop.eq_30, Nat.reduceEqDiff, Nat.reduceAdd, Nat.reduceMul, Nat.reduceSub, Nat.reduceLeDiff, Nat.reduceLT, Int.reduceLT, Int.reduceLE, Int.reduceEq, Int.reduceToNat, Int.reduceAdd, Int.reduceSub, Int.reduceNeg, ↓reduceIte, reduceCtorEq, ↓C.q50_r8_w, C.q50_r8_b, ↓C.q50_c1_w, ↓C.q50_r7_w, C.q50_r7_b, ↓C.q50_c2_w, ↓C.q50_r3_w, C.q50_r3_b, ↓C.q50_b7_w, ↓C.q50_c8_w, ↓C.q50_c9_w, ↓C.q50_r2_w, C.q50_r2_b, ↓C.q50_b11_w, ↓C.q50_c12_w, ↓C.q50_r1_w, C.q50_r1_b, ↓C.q50_c13_w, ↓C.q50_r0_w, C.q50_r0_b, C.q50, hil', hz, Int.toNat_natCast, hf, ht]
    intro id hid
    rw [hcs] at hc ⊢
    simp only [↓Bp, Bq, Bs, ↓aop.eq_28, ↓aop.eq_30, Nat.reduceEqDiff, Nat.reduceAdd, Nat.reduceMul, Nat.reduceSub, Nat.reduceLeDiff, Nat.reduceLT, Int.reduceLT, Int.reduceLE, Int.reduceEq, Int.reduceToNat, Int.reduceAdd, Int.reduceSub, Int.reduceNeg, ↓reduceIte, reduceCtorEq, ↓C.q50_W, C.q50_B, C.q50, Dom.cells, hid, hb]
    refine ⟨rfl, (hc.less (le_new_set hid)).mono ?_⟩
    rintro r s2 ⟨rfl, rfl⟩
    by_cases he : e i = 0
    · simp only [↓Bp, Bq, Bs, ↓aop.eq_28, ↓aop.eq_30, Nat.reduceEqDiff, Nat.reduceAdd, Nat.reduceMul, Nat.reduceSub, Nat.reduceLeDiff, Nat.reduceLT, Int.reduceLT, Int.reduceLE, Int.reduceEq, Int.reduceToNat, Int.reduceAdd, Int.reduceSub, Int.reduceNeg, ↓reduceIte, reduceCtorEq, ↓C.q50_W, C.q50_B, C.q50, he, hw]
      exact ⟨i + 1, rfl, ⟨hil, by rw [firstE, if_pos h0, he]⟩, by omega⟩
    · simp only [↓Bp, Bq, Bs, ↓aop.eq_28, ↓aop.eq_30, Nat.reduceEqDiff, Nat.reduceAdd, Nat.reduceMul, Nat.reduceSub, Nat.reduceLeDiff, Nat.reduceLT, Int.reduceLT, Int.reduceLE, Int.reduceEq, Int.reduceToNat, Int.reduceAdd, Int.reduceSub, Int.reduceNeg, ↓reduceIte, reduceCtorEq, ↓C.q50_W, C.q50_B, C.q50, he]
      rw [firstE_stop h0 he hil]
  · have hie : i = l.length := by omega
    have hil' : ¬ ((i : Nat) : Int) < (l.length : Nat) := by omega
    simp only [↓Bp, Bq, Bs, ↓aop.eq_28, ↓aop.eq_30, Nat.reduceEqDiff, Nat.reduceAdd, Nat.reduceMul, Nat.reduceSub, Nat.reduceLeDiff, Nat.reduceLT, Int.reduceLT, Int.reduceLE, Int.reduceEq, Int.reduceToNat, Int.reduceAdd, Int.reduceSub, Int.reduceNeg, ↓reduceIte, reduceCtorEq, ↓C.q50_W, C.q50_B, C.q50, hil']
    rw [← hie, h0]


theorem conf_each_api_Reset_spec {st : ASt} {l : List Int} {g : Nat} {cap : List AV} {e : Nat → Int} (hb : hasBody Try.prog g = true) (hs : l.length ≤ 4294967296)
    (ha : ∀ i (h : i < l.length), firstE e i = 0 → ACalls Try.prog g (.agg (rstCells l[i]) :: cap) st fun r s => r = .int .i64 (e i) ∧ s = st) :
    ACalls Try.prog F.q51 [.isl 1 (l.flatMap rstCells) l.length, .fn g cap] st fun r s => r = .int .i64 (firstE e l.length) ∧ s = st := by
  refine calls_of_awp L.q51 rfl ?_
  simp only [↓Bp, Bq, Bs, ↓aop.eq_28, ↓aop.eq_30, Nat.reduceEqDiff, Nat.reduceAdd, Nat.reduceMul, Nat.reduceSub, Nat.reduceLeDiff, Nat.reduceLT, Int.reduceLT, Int.reduceLE, Int.reduceEq, Int.reduceToNat, Int.reduceAdd, Int.reduceSub, Int.reduceNeg, ↓reduceIte, reduceCtorEq, ↓C.q51_W, C.q51_B, C.q51]
  refine awp_loopK (fun i : Nat => [(1, .fn g cap), (8, .isl 1 (l.flatMap rstCells) l.length), (9, .int .i64 l.length), (10, .int .i64 i)]) (fun i s => s = st ∧ i ≤ l.length ∧ firstE e i = 0) (fun i => l.length - i) 0 rfl ⟨rfl, Nat.zero_le _, rfl⟩ ?_
  rintro i s ⟨rfl, hi, h0⟩
  by_cases hil : i < l.length
  · have hil' : (i : Int) < (l.length : Nat) := by omega
    have hz : (0:Int) ≤ (i : Int) ∧ (i : Int) < (l.length : Nat) := by omega
    have hw : IntKind.i64.wrap ((i : Int) + 1) = ((i + 1 : Nat) : Int) := by rw [wrap64] <;> omega
    have hf := flatMap_fits (f := rstCells) (k := 1) (fun _ => rfl) hil
    have ht := flatMap_at (f := rstCells) (k := 1) (fun _ => rfl) hil
    obtain ⟨cs, hcs⟩ : ∃ cs, cs = rstCells l[i] := ⟨_, rfl⟩
    have hc := ha i hil h0
    rw [← hcs] at ht hc
    simp only [↓Bp, Bq, Bs, ↓aop.eq_28, ↓aop.eq_30, Nat.reduceEqDiff, Nat.reduceAdd, Nat.reduceMul, Nat.reduceSub, Nat.reduceLeDiff, Nat.reduceLT, Int.reduceLT, Int.reduceLE, Int.reduceEq, Int.reduceToNat, Int.reduceAdd, Int.reduceSub, Int.reduceNeg, ↓reduceIte, reduceCtorEq, ↓C.q51_r8_w, C.q51_r8_b, ↓C.q51_c1_w, ↓C.q51_r7_w, C.q51_r7_b, ↓C.q51_c2_w, ↓C.q51_r3_w, C.q51_r3_b, ↓C.q51_b7_w, ↓C.q51_c8_w, ↓C.q51_c9_w, ↓C.q51_r2_w, C.q51_r2_b, ↓C.q51_b11_w, ↓C.q51_c12_w, ↓C.q51_r1_w, C.q51_r1_b, ↓C.q51_c13_w, ↓C.q51_r0_w, C.q51_r0_b, C.q51, hil', hz, Int.toNat_natCast, hf, ht]
    intro id hid
    rw [hcs] at hc ⊢
    simp only [↓Bp, Bq, Bs, ↓aop.eq_28, ↓aop.eq_30, Nat.reduceEqDiff, Nat.reduceAdd, Nat.reduceMul, Nat.reduceSub, Nat.reduceLeDiff, Nat.reduceLT, Int.reduceLT, Int.reduceLE, Int.reduceEq, Int.reduceToNat, Int.reduceAdd, Int.reduceSub, Int.reduceNeg, ↓reduceIte, reduceCtorEq, ↓C.q51_W, C.q51_B, C.q51, rstCells, hid, hb]
    refine ⟨rfl, (hc.less (le_new_set hid)).mono ?_⟩
    rintro r s2 ⟨rfl, rfl⟩
    by_cases he : e i = 0
    · simp only [↓Bp, Bq, Bs, ↓aop.eq_28, ↓aop.eq_30, Nat.reduceEqDiff, Nat.reduceAdd, Nat.reduceMul, Nat.reduceSub, Nat.reduceLeDiff, Nat.reduceLT, Int.reduceLT, Int.reduceLE, Int.reduceEq, Int.reduceToNat, Int.reduceAdd, Int.reduceSub, Int.reduceNeg, ↓reduceIte, reduceCtorEq, ↓C.q51_W, C.q51_B, C.q51, he, hw]
      exact ⟨i + 1, rfl, ⟨hil, by rw [firstE, if_pos h0, he]⟩, by omega⟩
    · simp only [↓Bp, Bq, Bs, ↓aop.eq_28, ↓aop.eq_30, Nat.reduceEqDiff, Nat.reduceAdd, Nat.reduceMul, Nat.reduceSub, Nat.reduceLeDiff, Nat.reduceLT, Int.reduceLT, Int.reduceLE, Int.reduceEq, Int.reduceToNat, Int.reduceAdd, Int.reduceSub, Int.reduceNeg, ↓reduceIte, reduceCtorEq, ↓C.q51_W, C.q51_B, C.q51, he]
      rw [firstE_stop h0 he hil]
  · have hie : i = l.length := by omega
    have hil' : ¬ ((i : Nat) : Int) < (l.length : Nat) := by omega
    simp only [↓Bp, Bq, Bs, ↓aop.eq_28, ↓aop.eq_30, Nat.reduceEqDiff, Nat.reduceAdd, Nat.reduceMul, Nat.reduceSub, Nat.reduceLeDiff, Nat.reduceLT, Int.reduceLT, Int.reduceLE, Int.reduceEq, Int.reduceToNat, Int.reduceAdd, Int.reduceSub, Int.reduceNeg, ↓reduceIte, reduceCtorEq, ↓C.q51_W, C.q51_B, C.q51, hil']
    rw [← hie, h0]


theorem conf_each_api_Device_spec {st : ASt} {l : List Dev} {g : Nat} {cap : List AV} {e : Nat → Int} (hb : hasBody Try.prog g = true) (hs : l.length ≤ 4294967296)
    (ha : ∀ i (h : i < l.length), firstE e i = 0 → ACalls Try.prog g (.agg (Dev.cells l[i]) :: cap) st fun r s => r = .int .i64 (e i) ∧ s = st) :
    ACalls Try.prog F.q49 [.isl 6 (l.flatMap Dev.cells) l.length, .fn g cap] st fun r s => r = .int .i64 (firstE e l.length) ∧ s = st := by
  refine calls_of_awp L.q49 rfl ?_
  simp only [↓Bp, Bq, Bs, ↓aop.eq_28, ↓aop.eq_30, Nat.reduceEqDiff, Nat.reduceAdd, Nat.reduceMul, Nat.reduceSub, Nat.reduceLeDiff, Nat.reduceLT, Int.reduceLT, Int.reduceLE, Int.reduceEq, Int.reduceToNat, Int.reduceAdd, Int.reduceSub, Int.reduceNeg, ↓reduceIte, reduceCtorEq, ↓C.q49_W, C.q49_B, C.q49]
  refine awp_loopK (fun i : Nat => [(1, .fn g cap), (8, .isl 6 (l.flatMap Dev.cells) l.length), (9, .int .i64 l.length), (10, .int .i64 i)]) (fun i s => s = st ∧ i ≤ l.length ∧ firstE e i = 0) (fun i => l.length - i) 0 rfl ⟨rfl, Nat.zero_le _, rfl⟩ ?_
  rintro i s ⟨rfl, hi, h0⟩
  by_cases hil : i < l.length
  · have hil' : (i : Int) < (l.length : Nat) := by omega
    have hz : (0:Int) ≤ (i : Int) ∧ (i : Int) < (l.length : Nat) := by omega
    have hw : IntKind.i64.wrap ((i : Int) + 1) = ((i + 1 : Nat) : Int) := by rw [wrap64] <;> omega
    have hf := flatMap_fits (f := Dev.cells) (k := 6) (fun _ => rfl) hil
    have ht := flatMap_at (f := Dev.cells) (k := 6) (fun _ => rfl) hil
    obtain ⟨cs, hcs⟩ : ∃ cs, cs = Dev.cells l[i] := ⟨_, rfl⟩
    have hc := ha i hil h0
    rw [← hcs] at ht hc
    simp only [↓Bp, Bq, Bs, ↓aop.eq_28, ↓aop.eq_30, Nat.reduceEqDiff, Nat.reduceAdd, Nat.reduceMul, Nat.reduceSub, Nat.reduceLeDiff, Nat.reduceLT, Int.reduceLT, Int.reduceLE, Int.reduceEq, Int.reduceToNat, Int.reduceAdd, Int.reduceSub, Int.reduceNeg, ↓reduceIte, reduceCtorEq, ↓C.q49_r8_w, C.q49_r8_b, ↓C.q49_c1_w, ↓C.q49_r7_w, C.q49_r7_b, ↓C.q49_c2_w, ↓C.q49_r3_w, C.q49_r3_b, ↓C.q49_b7_w, ↓C.q49_c8_w, ↓C.q49_c9_w, ↓C.q49_r2_w, C.q49_r2_b, ↓C.q49_b11_w, ↓C.q49_c12_w, ↓C.q49_r1_w, C.q49_r1_b, ↓C.q49_c13_w, ↓C.q49_r0_w, C.q49_r0_b, C.q49, hil', hz, Int.toNat_natCast, hf, ht]
    intro id hid
    rw [hcs] at hc ⊢
    simp only [↓Bp, Bq, Bs, ↓aop.eq_28, ↓aop.eq_30, Nat.reduceEqDiff, Nat.reduceAdd, Nat.reduceMul, Nat.reduceSub, Nat.reduceLeDiff, Nat.reduceLT, Int.reduceLT, Int.reduceLE, Int.reduceEq, Int.reduceToNat, Int.reduceAdd, Int.reduceSub, Int.reduceNeg, ↓reduceIte, reduceCtorEq, ↓C.q49_W, C.q49_B, C.q49, Dev.cells, hid, hb]
    refine ⟨rfl, (hc.less (le_new_set hid)).mono ?_⟩
    rintro r s2 ⟨rfl, rfl⟩
    by_cases he : e i = 0
    · simp only [↓Bp, Bq, Bs, ↓aop.eq_28, ↓aop.eq_30, Nat.reduceEqDiff, Nat.reduceAdd, Nat.reduceMul, Nat.reduceSub, Nat.reduceLeDiff, Nat.reduceLT, Int.reduceLT, Int.reduceLE, Int.reduceEq, Int.reduceToNat, Int.reduceAdd, Int.reduceSub, Int.reduceNeg, ↓reduceIte, reduceCtorEq, ↓C.q49_W, C.q49_B, C.q49, he, hw]
      exact ⟨i + 1, rfl, ⟨hil, by rw [firstE, if_pos h0, he]⟩, by omega⟩
    · simp only [↓Bp, Bq, Bs, ↓aop.eq_28, ↓aop.eq_30, Nat.reduceEqDiff, Nat.reduceAdd, Nat.reduceMul, Nat.reduceSub, Nat.reduceLeDiff, Nat.reduceLT, Int.reduceLT, Int.reduceLE, Int.reduceEq, Int.reduceToNat, Int.reduceAdd, Int.reduceSub, Int.reduceNeg, ↓reduceIte, reduceCtorEq, ↓C.q49_W, C.q49_B, C.q49, he]
      rw [firstE_stop h0 he hil]
  · have hie : i = l.length := by omega
    have hil' : ¬ ((i : Nat) : Int) < (l.length : Nat) := by omega
    simp only [↓Bp, Bq, Bs, ↓aop.eq_28, ↓aop.eq_30, Nat.reduceEqDiff, Nat.reduceAdd, Nat.reduceMul, Nat.reduceSub, Nat.reduceLeDiff, Nat.reduceLT, Int.reduceLT, Int.reduceLE, Int.reduceEq, Int.reduceToNat, Int.reduceAdd, Int.reduceSub, Int.reduceNeg, ↓reduceIte, reduceCtorEq, ↓C.q49_W, C.q49_B, C.q49, hil']
    rw [← hie, h0]

end Go.Proofs.Ytkioaemhdbcfaaa.Cn
