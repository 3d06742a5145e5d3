/- Descriptions: each. -/
import Derived.Test.YtjamidgdhmjhaaaCnConf1
import Derived.Test.YtjamidgdhmjhaaaCnL2
set_option linter.unusedSimpArgs false
set_option linter.unusedVariables false
namespace Go.Proofs.Ytjamidgdhmjhaaa.Cn
open Go Go.Proofs

theorem le_new_set {st : ASt} {id : Nat} {a b : AObj} (hid : st.h id = none) : st.le ((st.new id a).set id b) := fun i o h => by
  have hne : i ≠ id := by rintro rfl; rw [hid] at h; cases h
  simp [ASt.set_h, hne, ASt.new_old h]

theorem conf_each_api_Clock_spec {st : ASt} {l : List Clk} {g : Nat} {cap : List AV} {e : Nat → Int} (hb : hasBody Try.prog g = true) (hs : l.length ≤ 4294967296)
    (ha : ∀ i (h : i < l.length), firstE e i = 0 → ACalls Try.prog g (.agg (Clk.cells l[i]) :: cap) st fun r s => r = .int .i64 (e i) ∧ s = st) :
    ACalls Try.prog F.conf_each_api_Clock [.isl 6 (l.flatMap Clk.cells) l.length, .fn g cap] st fun r s => r = .int .i64 (firstE e l.length) ∧ s = st := by
  refine calls_of_awp L.conf_each_api_Clock rfl ?_
  simp only [↓Bp, Bq, Bs, ↓aop.eq_28, ↓aop.eq_30, Nat.reduceEqDiff, Nat.reduceAdd, Nat.reduceMul, Nat.reduceSub, Nat.reduceLeDiff, Nat.reduceLT, Int.reduceLT, Int.reduceLE, Int.reduceEq, Int.reduceToNat, Int.reduceAdd, Int.reduceSub, Int.reduceNeg, ↓reduceIte, reduceCtorEq, ↓C.conf_each_api_Clock_W, C.conf_each_api_Clock_B, C.conf_each_api_Clock]
  refine awp_loopK (fun i : Nat => [(1, .fn g cap), (8, .isl 6 (l.flatMap Clk.cells) l.length), (9, .int .i64 l.length), (10, .int .i64 i)]) (fun i s => s = st ∧ i ≤ l.length ∧ firstE e i = 0) (fun i => l.length - i) 0 rfl ⟨rfl, Nat.zero_le _, rfl⟩ ?_
  rintro i s ⟨rfl, hi, h0⟩
  by_cases hil : i < l.length
  · have hil' : (i : Int) < (l.length : Nat) := by omega
    have hz : (0:Int) ≤ (i : Int) ∧ (i : Int) < (l.length : Nat) := by omega
    have hw : IntKind.i64.wrap ((i : Int) + 1) = ((i + 1 : Nat) : Int) := by rw [wrap64] <;> omega
    have hf := flatMap_fits (f := Clk.cells) (k := 6) (fun _ => rfl) hil
    have ht := flatMap_at (f := Clk.cells) (k := 6) (fun _ => rfl) hil
    obtain ⟨cs, hcs⟩ : ∃ cs, cs = Clk.cells l[i] := ⟨_, rfl⟩
    have hc := ha i hil h0
    rw [← hcs] at ht hc
    simp only [↓Bp, Bq, Bs, ↓aop.eq_28, ↓aop.eq_30, Nat.reduceEqDiff, Nat.reduceAdd, Nat.reduceMul, Nat.reduceSub, Nat.reduceLeDiff, Nat.reduceLT, Int.reduceLT, Int.reduceLE, Int.reduceEq, Int.reduceToNat, Int.reduceAdd, Int.reduceSub, Int.reduceNeg, ↓reduceIte, reduceCtorEq, ↓C.conf_each_api_Clock_r8_w, C.conf_each_api_Clock_r8_b, ↓C.conf_each_api_Clock_c1_w, ↓C.conf_each_api_Clock_r7_w, C.conf_each_api_Clock_r7_b, ↓C.conf_each_api_Clock_c2_w, ↓C.conf_each_api_Clock_r3_w, C.conf_each_api_Clock_r3_b, ↓C.conf_each_api_Clock_b7_w, ↓C.conf_each_api_Clock_c8_w, ↓C.conf_each_api_Clock_c9_w, ↓C.conf_each_api_Clock_r2_w, C.conf_each_api_Clock_r2_b, ↓C.conf_each_api_Clock_b11_w, ↓C.conf_each_api_Clock_c12_w, ↓C.conf_each_api_Clock_r1_w, C.conf_each_api_Clock_r1_b, ↓C.conf_each_api_Clock_c13_w, ↓C.conf_each_api_Clock_r0_w, C.conf_each_api_Clock_r0_b, C.conf_each_api_Clock, hil', hz, Int.toNat_natCast, hf, ht]
    intro id hid
    rw [hcs] at hc ⊢
    simp only [↓Bp, Bq, Bs, ↓aop.eq_28, ↓aop.eq_30, Nat.reduceEqDiff, Nat.reduceAdd, Nat.reduceMul, Nat.reduceSub, Nat.reduceLeDiff, Nat.reduceLT, Int.reduceLT, Int.reduceLE, Int.reduceEq, Int.reduceToNat, Int.reduceAdd, Int.reduceSub, Int.reduceNeg, ↓reduceIte, reduceCtorEq, ↓C.conf_each_api_Clock_W, C.conf_each_api_Clock_B, C.conf_each_api_Clock, Clk.cells, hid, hb]
    refine ⟨rfl, (hc.less (le_new_set hid)).mono ?_⟩
    rintro r s2 ⟨rfl, rfl⟩
    by_cases he : e i = 0
    · simp only [↓Bp, Bq, Bs, ↓aop.eq_28, ↓aop.eq_30, Nat.reduceEqDiff, Nat.reduceAdd, Nat.reduceMul, Nat.reduceSub, Nat.reduceLeDiff, Nat.reduceLT, Int.reduceLT, Int.reduceLE, Int.reduceEq, Int.reduceToNat, Int.reduceAdd, Int.reduceSub, Int.reduceNeg, ↓reduceIte, reduceCtorEq, ↓C.conf_each_api_Clock_W, C.conf_each_api_Clock_B, C.conf_each_api_Clock, he, hw]
      exact ⟨i + 1, rfl, ⟨hil, by rw [firstE, if_pos h0, he]⟩, by omega⟩
    · simp only [↓Bp, Bq, Bs, ↓aop.eq_28, ↓aop.eq_30, Nat.reduceEqDiff, Nat.reduceAdd, Nat.reduceMul, Nat.reduceSub, Nat.reduceLeDiff, Nat.reduceLT, Int.reduceLT, Int.reduceLE, Int.reduceEq, Int.reduceToNat, Int.reduceAdd, Int.reduceSub, Int.reduceNeg, ↓reduceIte, reduceCtorEq, ↓C.conf_each_api_Clock_W, C.conf_each_api_Clock_B, C.conf_each_api_Clock, he]
      rw [firstE_stop h0 he hil]
  · have hie : i = l.length := by omega
    have hil' : ¬ ((i : Nat) : Int) < (l.length : Nat) := by omega
    simp only [↓Bp, Bq, Bs, ↓aop.eq_28, ↓aop.eq_30, Nat.reduceEqDiff, Nat.reduceAdd, Nat.reduceMul, Nat.reduceSub, Nat.reduceLeDiff, Nat.reduceLT, Int.reduceLT, Int.reduceLE, Int.reduceEq, Int.reduceToNat, Int.reduceAdd, Int.reduceSub, Int.reduceNeg, ↓reduceIte, reduceCtorEq, ↓C.conf_each_api_Clock_W, C.conf_each_api_Clock_B, C.conf_each_api_Clock, hil']
    rw [← hie, h0]


theorem conf_each_api_Domain_spec {st : ASt} {l : List Dom} {g : Nat} {cap : List AV} {e : Nat → Int} (hb : hasBody Try.prog g = true) (hs : l.length ≤ 4294967296)
    (ha : ∀ i (h : i < l.length), firstE e i = 0 → ACalls Try.prog g (.agg (Dom.cells l[i]) :: cap) st fun r s => r = .int .i64 (e i) ∧ s = st) :
    ACalls Try.prog F.conf_each_api_Domain [.isl 3 (l.flatMap Dom.cells) l.length, .fn g cap] st fun r s => r = .int .i64 (firstE e l.length) ∧ s = st := by
  refine calls_of_awp L.conf_each_api_Domain rfl ?_
  simp only [↓Bp, Bq, Bs, ↓aop.eq_28, ↓aop.eq_30, Nat.reduceEqDiff, Nat.reduceAdd, Nat.reduceMul, Nat.reduceSub, Nat.reduceLeDiff, Nat.reduceLT, Int.reduceLT, Int.reduceLE, Int.reduceEq, Int.reduceToNat, Int.reduceAdd, Int.reduceSub, Int.reduceNeg, ↓reduceIte, reduceCtorEq, ↓C.conf_each_api_Domain_W, C.conf_each_api_Domain_B, C.conf_each_api_Domain]
  refine awp_loopK (fun i : Nat => [(1, .fn g cap), (8, .isl 3 (l.flatMap Dom.cells) l.length), (9, .int .i64 l.length), (10, .int .i64 i)]) (fun i s => s = st ∧ i ≤ l.length ∧ firstE e i = 0) (fun i => l.length - i) 0 rfl ⟨rfl, Nat.zero_le _, rfl⟩ ?_
  rintro i s ⟨rfl, hi, h0⟩
  by_cases hil : i < l.length
  · have hil' : (i : Int) < (l.length : Nat) := by omega
    have hz : (0:Int) ≤ (i : Int) ∧ (i : Int) < (l.length : Nat) := by omega
    have hw : IntKind.i64.wrap ((i : Int) + 1) = ((i + 1 : Nat) : Int) := by rw [wrap64] <;> omega
    have hf := flatMap_fits (f := Dom.cells) (k := 3) (fun _ => rfl) hil
    have ht := flatMap_at (f := Dom.cells) (k := 3) (fun _ => rfl) hil
    obtain ⟨cs, hcs⟩ : ∃ cs, cs = Dom.cells l[i] := ⟨_, rfl⟩
    have hc := ha i hil h0
    rw [← hcs] at ht hc
    simp only [↓Bp, Bq, Bs, ↓aop.eq_28, ↓aop.eq_30, Nat.reduceEqDiff, Nat.reduceAdd, Nat.reduceMul, Nat.reduceSub, Nat.reduceLeDiff, Nat.reduceLT, Int.reduceLT, Int.reduceLE, Int.reduceEq, Int.reduceToNat, Int.reduceAdd, Int.reduceSub, Int.reduceNeg, ↓reduceIte, reduceCtorEq, ↓C.conf_each_api_Domain_r8_w, C.conf_each_api_Domain_r8_b, ↓C.conf_each_api_Domain_c1_w, ↓C.conf_each_api_Domain_r7_w, C.conf_each_api_Domain_r7_b, ↓C.conf_each_api_Domain_c2_w, ↓C.conf_each_api_Domain_r3_w, C.conf_each_api_Domain_r3_b, ↓C.conf_each_api_Domain_b7_w, ↓C.conf_each_api_Domain_c8_w, ↓C.conf_each_api_Domain_c9_w, ↓C.conf_each_api_Domain_r2_w, C.conf_each_api_Domain_r2_b, ↓C.conf_each_api_Domain_b11_w, ↓C.conf_each_api_Domain_c12_w, ↓C.conf_each_api_Domain_r1_w, C.conf_each_api_Domain_r1_b, ↓C.conf_each_api_Domain_c13_w, ↓C.conf_each_api_Domain_r0_w, C.conf_each_api_Domain_r0_b, C.conf_each_api_Domain, hil', hz, Int.toNat_natCast, hf, ht]
    intro id hid
    rw [hcs] at hc ⊢
    simp only [↓Bp, Bq, Bs, ↓aop.eq_28, ↓aop.eq_30, Nat.reduceEqDiff, Nat.reduceAdd, Nat.reduceMul, Nat.reduceSub, Nat.reduceLeDiff, Nat.reduceLT, Int.reduceLT, Int.reduceLE, Int.reduceEq, Int.reduceToNat, Int.reduceAdd, Int.reduceSub, Int.reduceNeg, ↓reduceIte, reduceCtorEq, ↓C.conf_each_api_Domain_W, C.conf_each_api_Domain_B, C.conf_each_api_Domain, Dom.cells, hid, hb]
    refine ⟨rfl, (hc.less (le_new_set hid)).mono ?_⟩
    rintro r s2 ⟨rfl, rfl⟩
    by_cases he : e i = 0
    · simp only [↓Bp, Bq, Bs, ↓aop.eq_28, ↓aop.eq_30, Nat.reduceEqDiff, Nat.reduceAdd, Nat.reduceMul, Nat.reduceSub, Nat.reduceLeDiff, Nat.reduceLT, Int.reduceLT, Int.reduceLE, Int.reduceEq, Int.reduceToNat, Int.reduceAdd, Int.reduceSub, Int.reduceNeg, ↓reduceIte, reduceCtorEq, ↓C.conf_each_api_Domain_W, C.conf_each_api_Domain_B, C.conf_each_api_Domain, he, hw]
      exact ⟨i + 1, rfl, ⟨hil, by rw [firstE, if_pos h0, he]⟩, by omega⟩
    · simp only [↓Bp, Bq, Bs, ↓aop.eq_28, ↓aop.eq_30, Nat.reduceEqDiff, Nat.reduceAdd, Nat.reduceMul, Nat.reduceSub, Nat.reduceLeDiff, Nat.reduceLT, Int.reduceLT, Int.reduceLE, Int.reduceEq, Int.reduceToNat, Int.reduceAdd, Int.reduceSub, Int.reduceNeg, ↓reduceIte, reduceCtorEq, ↓C.conf_each_api_Domain_W, C.conf_each_api_Domain_B, C.conf_each_api_Domain, he]
      rw [firstE_stop h0 he hil]
  · have hie : i = l.length := by omega
    have hil' : ¬ ((i : Nat) : Int) < (l.length : Nat) := by omega
    simp only [↓Bp, Bq, Bs, ↓aop.eq_28, ↓aop.eq_30, Nat.reduceEqDiff, Nat.reduceAdd, Nat.reduceMul, Nat.reduceSub, Nat.reduceLeDiff, Nat.reduceLT, Int.reduceLT, Int.reduceLE, Int.reduceEq, Int.reduceToNat, Int.reduceAdd, Int.reduceSub, Int.reduceNeg, ↓reduceIte, reduceCtorEq, ↓C.conf_each_api_Domain_W, C.conf_each_api_Domain_B, C.conf_each_api_Domain, hil']
    rw [← hie, h0]


theorem conf_each_api_Reset_spec {st : ASt} {l : List Int} {g : Nat} {cap : List AV} {e : Nat → Int} (hb : hasBody Try.prog g = true) (hs : l.length ≤ 4294967296)
    (ha : ∀ i (h : i < l.length), firstE e i = 0 → ACalls Try.prog g (.agg (rstCells l[i]) :: cap) st fun r s => r = .int .i64 (e i) ∧ s = st) :
    ACalls Try.prog F.conf_each_api_Reset [.isl 1 (l.flatMap rstCells) l.length, .fn g cap] st fun r s => r = .int .i64 (firstE e l.length) ∧ s = st := by
  refine calls_of_awp L.conf_each_api_Reset rfl ?_
  simp only [↓Bp, Bq, Bs, ↓aop.eq_28, ↓aop.eq_30, Nat.reduceEqDiff, Nat.reduceAdd, Nat.reduceMul, Nat.reduceSub, Nat.reduceLeDiff, Nat.reduceLT, Int.reduceLT, Int.reduceLE, Int.reduceEq, Int.reduceToNat, Int.reduceAdd, Int.reduceSub, Int.reduceNeg, ↓reduceIte, reduceCtorEq, ↓C.conf_each_api_Reset_W, C.conf_each_api_Reset_B, C.conf_each_api_Reset]
  refine awp_loopK (fun i : Nat => [(1, .fn g cap), (8, .isl 1 (l.flatMap rstCells) l.length), (9, .int .i64 l.length), (10, .int .i64 i)]) (fun i s => s = st ∧ i ≤ l.length ∧ firstE e i = 0) (fun i => l.length - i) 0 rfl ⟨rfl, Nat.zero_le _, rfl⟩ ?_
  rintro i s ⟨rfl, hi, h0⟩
  by_cases hil : i < l.length
  · have hil' : (i : Int) < (l.length : Nat) := by omega
    have hz : (0:Int) ≤ (i : Int) ∧ (i : Int) < (l.length : Nat) := by omega
    have hw : IntKind.i64.wrap ((i : Int) + 1) = ((i + 1 : Nat) : Int) := by rw [wrap64] <;> omega
    have hf := flatMap_fits (f := rstCells) (k := 1) (fun _ => rfl) hil
    have ht := flatMap_at (f := rstCells) (k := 1) (fun _ => rfl) hil
    obtain ⟨cs, hcs⟩ : ∃ cs, cs = rstCells l[i] := ⟨_, rfl⟩
    have hc := ha i hil h0
    rw [← hcs] at ht hc
    simp only [↓Bp, Bq, Bs, ↓aop.eq_28, ↓aop.eq_30, Nat.reduceEqDiff, Nat.reduceAdd, Nat.reduceMul, Nat.reduceSub, Nat.reduceLeDiff, Nat.reduceLT, Int.reduceLT, Int.reduceLE, Int.reduceEq, Int.reduceToNat, Int.reduceAdd, Int.reduceSub, Int.reduceNeg, ↓reduceIte, reduceCtorEq, ↓C.conf_each_api_Reset_r8_w, C.conf_each_api_Reset_r8_b, ↓C.conf_each_api_Reset_c1_w, ↓C.conf_each_api_Reset_r7_w, C.conf_each_api_Reset_r7_b, ↓C.conf_each_api_Reset_c2_w, ↓C.conf_each_api_Reset_r3_w, C.conf_each_api_Reset_r3_b, ↓C.conf_each_api_Reset_b7_w, ↓C.conf_each_api_Reset_c8_w, ↓C.conf_each_api_Reset_c9_w, ↓C.conf_each_api_Reset_r2_w, C.conf_each_api_Reset_r2_b, ↓C.conf_each_api_Reset_b11_w, ↓C.conf_each_api_Reset_c12_w, ↓C.conf_each_api_Reset_r1_w, C.conf_each_api_Reset_r1_b, ↓C.conf_each_api_Reset_c13_w, ↓C.conf_each_api_Reset_r0_w, C.conf_each_api_Reset_r0_b, C.conf_each_api_Reset, hil', hz, Int.toNat_natCast, hf, ht]
    intro id hid
    rw [hcs] at hc ⊢
    simp only [↓Bp, Bq, Bs, ↓aop.eq_28, ↓aop.eq_30, Nat.reduceEqDiff, Nat.reduceAdd, Nat.reduceMul, Nat.reduceSub, Nat.reduceLeDiff, Nat.reduceLT, Int.reduceLT, Int.reduceLE, Int.reduceEq, Int.reduceToNat, Int.reduceAdd, Int.reduceSub, Int.reduceNeg, ↓reduceIte, reduceCtorEq, ↓C.conf_each_api_Reset_W, C.conf_each_api_Reset_B, C.conf_each_api_Reset, rstCells, hid, hb]
    refine ⟨rfl, (hc.less (le_new_set hid)).mono ?_⟩
    rintro r s2 ⟨rfl, rfl⟩
    by_cases he : e i = 0
    · simp only [↓Bp, Bq, Bs, ↓aop.eq_28, ↓aop.eq_30, Nat.reduceEqDiff, Nat.reduceAdd, Nat.reduceMul, Nat.reduceSub, Nat.reduceLeDiff, Nat.reduceLT, Int.reduceLT, Int.reduceLE, Int.reduceEq, Int.reduceToNat, Int.reduceAdd, Int.reduceSub, Int.reduceNeg, ↓reduceIte, reduceCtorEq, ↓C.conf_each_api_Reset_W, C.conf_each_api_Reset_B, C.conf_each_api_Reset, he, hw]
      exact ⟨i + 1, rfl, ⟨hil, by rw [firstE, if_pos h0, he]⟩, by omega⟩
    · simp only [↓Bp, Bq, Bs, ↓aop.eq_28, ↓aop.eq_30, Nat.reduceEqDiff, Nat.reduceAdd, Nat.reduceMul, Nat.reduceSub, Nat.reduceLeDiff, Nat.reduceLT, Int.reduceLT, Int.reduceLE, Int.reduceEq, Int.reduceToNat, Int.reduceAdd, Int.reduceSub, Int.reduceNeg, ↓reduceIte, reduceCtorEq, ↓C.conf_each_api_Reset_W, C.conf_each_api_Reset_B, C.conf_each_api_Reset, he]
      rw [firstE_stop h0 he hil]
  · have hie : i = l.length := by omega
    have hil' : ¬ ((i : Nat) : Int) < (l.length : Nat) := by omega
    simp only [↓Bp, Bq, Bs, ↓aop.eq_28, ↓aop.eq_30, Nat.reduceEqDiff, Nat.reduceAdd, Nat.reduceMul, Nat.reduceSub, Nat.reduceLeDiff, Nat.reduceLT, Int.reduceLT, Int.reduceLE, Int.reduceEq, Int.reduceToNat, Int.reduceAdd, Int.reduceSub, Int.reduceNeg, ↓reduceIte, reduceCtorEq, ↓C.conf_each_api_Reset_W, C.conf_each_api_Reset_B, C.conf_each_api_Reset, hil']
    rw [← hie, h0]


theorem conf_each_api_Device_spec {st : ASt} {l : List Dev} {g : Nat} {cap : List AV} {e : Nat → Int} (hb : hasBody Try.prog g = true) (hs : l.length ≤ 4294967296)
    (ha : ∀ i (h : i < l.length), firstE e i = 0 → ACalls Try.prog g (.agg (Dev.cells l[i]) :: cap) st fun r s => r = .int .i64 (e i) ∧ s = st) :
    ACalls Try.prog F.conf_each_api_Device [.isl 6 (l.flatMap Dev.cells) l.length, .fn g cap] st fun r s => r = .int .i64 (firstE e l.length) ∧ s = st := by
  refine calls_of_awp L.conf_each_api_Device rfl ?_
  simp only [↓Bp, Bq, Bs, ↓aop.eq_28, ↓aop.eq_30, Nat.reduceEqDiff, Nat.reduceAdd, Nat.reduceMul, Nat.reduceSub, Nat.reduceLeDiff, Nat.reduceLT, Int.reduceLT, Int.reduceLE, Int.reduceEq, Int.reduceToNat, Int.reduceAdd, Int.reduceSub, Int.reduceNeg, ↓reduceIte, reduceCtorEq, ↓C.conf_each_api_Device_W, C.conf_each_api_Device_B, C.conf_each_api_Device]
  refine awp_loopK (fun i : Nat => [(1, .fn g cap), (8, .isl 6 (l.flatMap Dev.cells) l.length), (9, .int .i64 l.length), (10, .int .i64 i)]) (fun i s => s = st ∧ i ≤ l.length ∧ firstE e i = 0) (fun i => l.length - i) 0 rfl ⟨rfl, Nat.zero_le _, rfl⟩ ?_
  rintro i s ⟨rfl, hi, h0⟩
  by_cases hil : i < l.length
  · have hil' : (i : Int) < (l.length : Nat) := by omega
    have hz : (0:Int) ≤ (i : Int) ∧ (i : Int) < (l.length : Nat) := by omega
    have hw : IntKind.i64.wrap ((i : Int) + 1) = ((i + 1 : Nat) : Int) := by rw [wrap64] <;> omega
    have hf := flatMap_fits (f := Dev.cells) (k := 6) (fun _ => rfl) hil
    have ht := flatMap_at (f := Dev.cells) (k := 6) (fun _ => rfl) hil
    obtain ⟨cs, hcs⟩ : ∃ cs, cs = Dev.cells l[i] := ⟨_, rfl⟩
    have hc := ha i hil h0
    rw [← hcs] at ht hc
    simp only [↓Bp, Bq, Bs, ↓aop.eq_28, ↓aop.eq_30, Nat.reduceEqDiff, Nat.reduceAdd, Nat.reduceMul, Nat.reduceSub, Nat.reduceLeDiff, Nat.reduceLT, Int.reduceLT, Int.reduceLE, Int.reduceEq, Int.reduceToNat, Int.reduceAdd, Int.reduceSub, Int.reduceNeg, ↓reduceIte, reduceCtorEq, ↓C.conf_each_api_Device_r8_w, C.conf_each_api_Device_r8_b, ↓C.conf_each_api_Device_c1_w, ↓C.conf_each_api_Device_r7_w, C.conf_each_api_Device_r7_b, ↓C.conf_each_api_Device_c2_w, ↓C.conf_each_api_Device_r3_w, C.conf_each_api_Device_r3_b, ↓C.conf_each_api_Device_b7_w, ↓C.conf_each_api_Device_c8_w, ↓C.conf_each_api_Device_c9_w, ↓C.conf_each_api_Device_r2_w, C.conf_each_api_Device_r2_b, ↓C.conf_each_api_Device_b11_w, ↓C.conf_each_api_Device_c12_w, ↓C.conf_each_api_Device_r1_w, C.conf_each_api_Device_r1_b, ↓C.conf_each_api_Device_c13_w, ↓C.conf_each_api_Device_r0_w, C.conf_each_api_Device_r0_b, C.conf_each_api_Device, hil', hz, Int.toNat_natCast, hf, ht]
    intro id hid
    rw [hcs] at hc ⊢
    simp only [↓Bp, Bq, Bs, ↓aop.eq_28, ↓aop.eq_30, Nat.reduceEqDiff, Nat.reduceAdd, Nat.reduceMul, Nat.reduceSub, Nat.reduceLeDiff, Nat.reduceLT, Int.reduceLT, Int.reduceLE, Int.reduceEq, Int.reduceToNat, Int.reduceAdd, Int.reduceSub, Int.reduceNeg, ↓reduceIte, reduceCtorEq, ↓C.conf_each_api_Device_W, C.conf_each_api_Device_B, C.conf_each_api_Device, Dev.cells, hid, hb]
    refine ⟨rfl, (hc.less (le_new_set hid)).mono ?_⟩
    rintro r s2 ⟨rfl, rfl⟩
    by_cases he : e i = 0
    · simp only [↓Bp, Bq, Bs, ↓aop.eq_28, ↓aop.eq_30, Nat.reduceEqDiff, Nat.reduceAdd, Nat.reduceMul, Nat.reduceSub, Nat.reduceLeDiff, Nat.reduceLT, Int.reduceLT, Int.reduceLE, Int.reduceEq, Int.reduceToNat, Int.reduceAdd, Int.reduceSub, Int.reduceNeg, ↓reduceIte, reduceCtorEq, ↓C.conf_each_api_Device_W, C.conf_each_api_Device_B, C.conf_each_api_Device, he, hw]
      exact ⟨i + 1, rfl, ⟨hil, by rw [firstE, if_pos h0, he]⟩, by omega⟩
    · simp only [↓Bp, Bq, Bs, ↓aop.eq_28, ↓aop.eq_30, Nat.reduceEqDiff, Nat.reduceAdd, Nat.reduceMul, Nat.reduceSub, Nat.reduceLeDiff, Nat.reduceLT, Int.reduceLT, Int.reduceLE, Int.reduceEq, Int.reduceToNat, Int.reduceAdd, Int.reduceSub, Int.reduceNeg, ↓reduceIte, reduceCtorEq, ↓C.conf_each_api_Device_W, C.conf_each_api_Device_B, C.conf_each_api_Device, he]
      rw [firstE_stop h0 he hil]
  · have hie : i = l.length := by omega
    have hil' : ¬ ((i : Nat) : Int) < (l.length : Nat) := by omega
    simp only [↓Bp, Bq, Bs, ↓aop.eq_28, ↓aop.eq_30, Nat.reduceEqDiff, Nat.reduceAdd, Nat.reduceMul, Nat.reduceSub, Nat.reduceLeDiff, Nat.reduceLT, Int.reduceLT, Int.reduceLE, Int.reduceEq, Int.reduceToNat, Int.reduceAdd, Int.reduceSub, Int.reduceNeg, ↓reduceIte, reduceCtorEq, ↓C.conf_each_api_Device_W, C.conf_each_api_Device_B, C.conf_each_api_Device, hil']
    rw [← hie, h0]

end Go.Proofs.Ytjamidgdhmjhaaa.Cn
