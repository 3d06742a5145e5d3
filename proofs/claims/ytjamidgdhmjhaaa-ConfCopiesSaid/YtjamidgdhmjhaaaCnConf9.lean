/- Descriptions: whether two are the same. -/
import Derived.Test.YtjamidgdhmjhaaaCnSaneD
set_option linter.unusedSimpArgs false
set_option linter.unusedVariables false
namespace Go.Proofs.Ytjamidgdhmjhaaa.Cn
open Go Go.Proofs

theorem Clk.eq_iff {a b : Clk} : a = b ↔ a.kind = b.kind ∧ a.src = b.src ∧ a.rate = b.rate ∧ a.mul = b.mul ∧ a.div = b.div ∧ a.lock = b.lock := by
  cases a; cases b; simp
theorem Dom.eq_iff {a b : Dom} : a = b ↔ a.above = b.above ∧ a.delay = b.delay ∧ a.ret = b.ret := by
  cases a; cases b; simp
theorem Reg.eq_iff {a b : Reg} : a = b ↔ a.reset = b.reset ∧ a.ret = b.ret := by
  cases a; cases b; simp
theorem Dev.eq_iff {a b : Dev} : a = b ↔ a.clock = b.clock ∧ a.dom = b.dom ∧ a.rst = b.rst ∧ a.clamp = b.clamp ∧ a.regs = b.regs ∧ a.needs = b.needs := by
  cases a; cases b; simp
theorem Soc.eq_iff {a b : Soc} : a = b ↔ a.clocks = b.clocks ∧ a.doms = b.doms ∧ a.rsts = b.rsts ∧ a.devs = b.devs := by
  cases a; cases b; simp
theorem take_eq_step {α : Type} {a b : List α} {i : Nat} (ha : i < a.length) (hb : i < b.length) (h : a.take i = b.take i) (he : a[i] = b[i]) : a.take (i + 1) = b.take (i + 1) := by
  rw [List.take_succ_eq_append_getElem ha, List.take_succ_eq_append_getElem hb, h, he]

theorem eq_int_spec {st : ASt} {a b : List Int} (hs : a.length ≤ 4294967296) :
    ACalls Try.prog F.slices_Equal_int_int [row a, row b] st fun r s => (∃ t, r = .bool t ∧ (t = true ↔ a = b)) ∧ s = st := by
  refine calls_of_awp L.slices_Equal_int_int rfl ?_
  by_cases hab : a.length = b.length
  rotate_left
  · have hab' : ¬ ((a.length : Nat) : Int) = (b.length : Nat) := by omega
    simp only [↓Bp, Bq, Bs, ↓aop.eq_28, ↓aop.eq_30, Nat.reduceEqDiff, Nat.reduceAdd, Nat.reduceMul, Nat.reduceSub, Nat.reduceLeDiff, Nat.reduceLT, Int.reduceLT, Int.reduceLE, Int.reduceEq, Int.reduceToNat, Int.reduceAdd, Int.reduceSub, Int.reduceNeg, ↓reduceIte, reduceCtorEq, ↓C.slices_Equal_int_int_W, C.slices_Equal_int_int_B, C.slices_Equal_int_int, row, hab']
    exact ⟨false, rfl, by simp; rintro rfl; exact hab rfl⟩
  have hab' : ((a.length : Nat) : Int) = (b.length : Nat) := by omega
  simp only [↓Bp, Bq, Bs, ↓aop.eq_28, ↓aop.eq_30, Nat.reduceEqDiff, Nat.reduceAdd, Nat.reduceMul, Nat.reduceSub, Nat.reduceLeDiff, Nat.reduceLT, Int.reduceLT, Int.reduceLE, Int.reduceEq, Int.reduceToNat, Int.reduceAdd, Int.reduceSub, Int.reduceNeg, ↓reduceIte, reduceCtorEq, ↓C.slices_Equal_int_int_W, C.slices_Equal_int_int_B, C.slices_Equal_int_int, row, hab']
  refine awp_loopK (fun i : Nat => [(0, .isl 1 (ints a) a.length), (1, .isl 1 (ints b) b.length), (12, .int .i64 b.length), (13, .int .i64 i)]) (fun i s => s = st ∧ i ≤ b.length ∧ a.take i = b.take i) (fun i => b.length - i) 0 rfl ⟨rfl, Nat.zero_le _, by simp⟩ ?_
  rintro i s ⟨rfl, hi, h0⟩
  by_cases hil : i < b.length
  rotate_left
  · have hie : i = b.length := by omega
    have hil' : ¬ (i : Int) < (b.length : Nat) := by omega
    simp only [↓Bp, Bq, Bs, ↓aop.eq_28, ↓aop.eq_30, Nat.reduceEqDiff, Nat.reduceAdd, Nat.reduceMul, Nat.reduceSub, Nat.reduceLeDiff, Nat.reduceLT, Int.reduceLT, Int.reduceLE, Int.reduceEq, Int.reduceToNat, Int.reduceAdd, Int.reduceSub, Int.reduceNeg, ↓reduceIte, reduceCtorEq, ↓C.slices_Equal_int_int_W, C.slices_Equal_int_int_B, C.slices_Equal_int_int, hil']
    refine ⟨true, rfl, ?_⟩
    rw [hie, List.take_length, ← hab, List.take_length] at h0
    simp [h0]
  have hia : i < a.length := by omega
  have hil' : (i : Int) < (b.length : Nat) := by omega
  have hz : (0:Int) ≤ (i : Int) ∧ (i : Int) < (a.length : Nat) := by omega
  have hz2 : (0:Int) ≤ (i : Int) ∧ (i : Int) < (b.length : Nat) := by omega
  have hw : IntKind.i64.wrap ((i : Int) + 1) = ((i + 1 : Nat) : Int) := by rw [wrap64] <;> omega
  have hga : (ints a)[i]? = some (.int .i64 a[i]) := by simp [ints, hia]
  have hgb : (ints b)[i]? = some (.int .i64 b[i]) := by simp [ints, hil]
  by_cases he : a[i] = b[i]
  · rw [← he] at hgb
    simp only [↓Bp, Bq, Bs, ↓aop.eq_28, ↓aop.eq_30, Nat.reduceEqDiff, Nat.reduceAdd, Nat.reduceMul, Nat.reduceSub, Nat.reduceLeDiff, Nat.reduceLT, Int.reduceLT, Int.reduceLE, Int.reduceEq, Int.reduceToNat, Int.reduceAdd, Int.reduceSub, Int.reduceNeg, ↓reduceIte, reduceCtorEq, ↓C.slices_Equal_int_int_W, C.slices_Equal_int_int_B, C.slices_Equal_int_int, row, hil', hz, hz2, Int.toNat_natCast, Nat.mul_one, hga, hgb,  aeqL, hw]
    exact ⟨i + 1, rfl, ⟨by omega, take_eq_step hia hil h0 he⟩, by omega⟩
  · have hne : decide (a[i] = b[i]) = false := by simp [he]
    simp only [↓Bp, Bq, Bs, ↓aop.eq_28, ↓aop.eq_30, Nat.reduceEqDiff, Nat.reduceAdd, Nat.reduceMul, Nat.reduceSub, Nat.reduceLeDiff, Nat.reduceLT, Int.reduceLT, Int.reduceLE, Int.reduceEq, Int.reduceToNat, Int.reduceAdd, Int.reduceSub, Int.reduceNeg, ↓reduceIte, reduceCtorEq, ↓C.slices_Equal_int_int_W, C.slices_Equal_int_int_B, C.slices_Equal_int_int, row, hil', hz, hz2, Int.toNat_natCast, Nat.mul_one, hga, hgb,  aeqL, hne]
    exact ⟨false, rfl, by simp; rintro rfl; exact he rfl⟩

theorem eq_dom_spec {st : ASt} {a b : List Dom} (hs : a.length ≤ 4294967296) :
    ACalls Try.prog F.slices_Equal_api_Domain_api_Domain [.isl 3 (a.flatMap Dom.cells) a.length, .isl 3 (b.flatMap Dom.cells) b.length] st fun r s => (∃ t, r = .bool t ∧ (t = true ↔ a = b)) ∧ s = st := by
  refine calls_of_awp L.slices_Equal_api_Domain_api_Domain rfl ?_
  by_cases hab : a.length = b.length
  rotate_left
  · have hab' : ¬ ((a.length : Nat) : Int) = (b.length : Nat) := by omega
    simp only [↓Bp, Bq, Bs, ↓aop.eq_28, ↓aop.eq_30, Nat.reduceEqDiff, Nat.reduceAdd, Nat.reduceMul, Nat.reduceSub, Nat.reduceLeDiff, Nat.reduceLT, Int.reduceLT, Int.reduceLE, Int.reduceEq, Int.reduceToNat, Int.reduceAdd, Int.reduceSub, Int.reduceNeg, ↓reduceIte, reduceCtorEq, ↓C.slices_Equal_api_Domain_api_Domain_W, C.slices_Equal_api_Domain_api_Domain_B, C.slices_Equal_api_Domain_api_Domain, row, hab']
    exact ⟨false, rfl, by simp; rintro rfl; exact hab rfl⟩
  have hab' : ((a.length : Nat) : Int) = (b.length : Nat) := by omega
  simp only [↓Bp, Bq, Bs, ↓aop.eq_28, ↓aop.eq_30, Nat.reduceEqDiff, Nat.reduceAdd, Nat.reduceMul, Nat.reduceSub, Nat.reduceLeDiff, Nat.reduceLT, Int.reduceLT, Int.reduceLE, Int.reduceEq, Int.reduceToNat, Int.reduceAdd, Int.reduceSub, Int.reduceNeg, ↓reduceIte, reduceCtorEq, ↓C.slices_Equal_api_Domain_api_Domain_W, C.slices_Equal_api_Domain_api_Domain_B, C.slices_Equal_api_Domain_api_Domain, row, hab']
  refine awp_loopK (fun i : Nat => [(0, .isl 3 (a.flatMap Dom.cells) a.length), (1, .isl 3 (b.flatMap Dom.cells) b.length), (12, .int .i64 b.length), (13, .int .i64 i)]) (fun i s => s = st ∧ i ≤ b.length ∧ a.take i = b.take i) (fun i => b.length - i) 0 rfl ⟨rfl, Nat.zero_le _, by simp⟩ ?_
  rintro i s ⟨rfl, hi, h0⟩
  by_cases hil : i < b.length
  rotate_left
  · have hie : i = b.length := by omega
    have hil' : ¬ (i : Int) < (b.length : Nat) := by omega
    simp only [↓Bp, Bq, Bs, ↓aop.eq_28, ↓aop.eq_30, Nat.reduceEqDiff, Nat.reduceAdd, Nat.reduceMul, Nat.reduceSub, Nat.reduceLeDiff, Nat.reduceLT, Int.reduceLT, Int.reduceLE, Int.reduceEq, Int.reduceToNat, Int.reduceAdd, Int.reduceSub, Int.reduceNeg, ↓reduceIte, reduceCtorEq, ↓C.slices_Equal_api_Domain_api_Domain_W, C.slices_Equal_api_Domain_api_Domain_B, C.slices_Equal_api_Domain_api_Domain, hil']
    refine ⟨true, rfl, ?_⟩
    rw [hie, List.take_length, ← hab, List.take_length] at h0
    simp [h0]
  have hia : i < a.length := by omega
  have hil' : (i : Int) < (b.length : Nat) := by omega
  have hz : (0:Int) ≤ (i : Int) ∧ (i : Int) < (a.length : Nat) := by omega
  have hz2 : (0:Int) ≤ (i : Int) ∧ (i : Int) < (b.length : Nat) := by omega
  have hw : IntKind.i64.wrap ((i : Int) + 1) = ((i + 1 : Nat) : Int) := by rw [wrap64] <;> omega
  have hfa := flatMap_fits (f := Dom.cells) (k := 3) (fun _ => rfl) (l := a) hia
  have hta := flatMap_at (f := Dom.cells) (k := 3) (fun _ => rfl) (l := a) hia
  have hfb := flatMap_fits (f := Dom.cells) (k := 3) (fun _ => rfl) (l := b) hil
  have htb := flatMap_at (f := Dom.cells) (k := 3) (fun _ => rfl) (l := b) hil
  by_cases he : a[i] = b[i]
  · rw [← he] at htb
    simp only [↓Bp, Bq, Bs, ↓aop.eq_28, ↓aop.eq_30, Nat.reduceEqDiff, Nat.reduceAdd, Nat.reduceMul, Nat.reduceSub, Nat.reduceLeDiff, Nat.reduceLT, Int.reduceLT, Int.reduceLE, Int.reduceEq, Int.reduceToNat, Int.reduceAdd, Int.reduceSub, Int.reduceNeg, ↓reduceIte, reduceCtorEq, ↓C.slices_Equal_api_Domain_api_Domain_W, C.slices_Equal_api_Domain_api_Domain_B, C.slices_Equal_api_Domain_api_Domain, row, hil', hz, hz2, Int.toNat_natCast, Nat.mul_one, hfa, hta, hfb, htb, Dom.cells,  aeqL, hw]
    exact ⟨i + 1, rfl, ⟨by omega, take_eq_step hia hil h0 he⟩, by omega⟩
  · have hne : (decide (a[i].above = b[i].above) && (decide (a[i].delay = b[i].delay) && decide (a[i].ret = b[i].ret))) = false := by
      cases h : (decide (a[i].above = b[i].above) && (decide (a[i].delay = b[i].delay) && decide (a[i].ret = b[i].ret))) with
      | false => rfl
      | true => simp only [Bool.and_eq_true, decide_eq_true_eq] at h; exact absurd (Dom.eq_iff.mpr h) he
    simp only [↓Bp, Bq, Bs, ↓aop.eq_28, ↓aop.eq_30, Nat.reduceEqDiff, Nat.reduceAdd, Nat.reduceMul, Nat.reduceSub, Nat.reduceLeDiff, Nat.reduceLT, Int.reduceLT, Int.reduceLE, Int.reduceEq, Int.reduceToNat, Int.reduceAdd, Int.reduceSub, Int.reduceNeg, ↓reduceIte, reduceCtorEq, ↓C.slices_Equal_api_Domain_api_Domain_W, C.slices_Equal_api_Domain_api_Domain_B, C.slices_Equal_api_Domain_api_Domain, row, hil', hz, hz2, Int.toNat_natCast, Nat.mul_one, hfa, hta, hfb, htb, Dom.cells,  aeqL, hne]
    exact ⟨false, rfl, by simp; rintro rfl; exact he rfl⟩

theorem eq_rst_spec {st : ASt} {a b : List Int} (hs : a.length ≤ 4294967296) :
    ACalls Try.prog F.slices_Equal_api_Reset_api_Reset [.isl 1 (a.flatMap rstCells) a.length, .isl 1 (b.flatMap rstCells) b.length] st fun r s => (∃ t, r = .bool t ∧ (t = true ↔ a = b)) ∧ s = st := by
  refine calls_of_awp L.slices_Equal_api_Reset_api_Reset rfl ?_
  by_cases hab : a.length = b.length
  rotate_left
  · have hab' : ¬ ((a.length : Nat) : Int) = (b.length : Nat) := by omega
    simp only [↓Bp, Bq, Bs, ↓aop.eq_28, ↓aop.eq_30, Nat.reduceEqDiff, Nat.reduceAdd, Nat.reduceMul, Nat.reduceSub, Nat.reduceLeDiff, Nat.reduceLT, Int.reduceLT, Int.reduceLE, Int.reduceEq, Int.reduceToNat, Int.reduceAdd, Int.reduceSub, Int.reduceNeg, ↓reduceIte, reduceCtorEq, ↓C.slices_Equal_api_Reset_api_Reset_W, C.slices_Equal_api_Reset_api_Reset_B, C.slices_Equal_api_Reset_api_Reset, row, hab']
    exact ⟨false, rfl, by simp; rintro rfl; exact hab rfl⟩
  have hab' : ((a.length : Nat) : Int) = (b.length : Nat) := by omega
  simp only [↓Bp, Bq, Bs, ↓aop.eq_28, ↓aop.eq_30, Nat.reduceEqDiff, Nat.reduceAdd, Nat.reduceMul, Nat.reduceSub, Nat.reduceLeDiff, Nat.reduceLT, Int.reduceLT, Int.reduceLE, Int.reduceEq, Int.reduceToNat, Int.reduceAdd, Int.reduceSub, Int.reduceNeg, ↓reduceIte, reduceCtorEq, ↓C.slices_Equal_api_Reset_api_Reset_W, C.slices_Equal_api_Reset_api_Reset_B, C.slices_Equal_api_Reset_api_Reset, row, hab']
  refine awp_loopK (fun i : Nat => [(0, .isl 1 (a.flatMap rstCells) a.length), (1, .isl 1 (b.flatMap rstCells) b.length), (12, .int .i64 b.length), (13, .int .i64 i)]) (fun i s => s = st ∧ i ≤ b.length ∧ a.take i = b.take i) (fun i => b.length - i) 0 rfl ⟨rfl, Nat.zero_le _, by simp⟩ ?_
  rintro i s ⟨rfl, hi, h0⟩
  by_cases hil : i < b.length
  rotate_left
  · have hie : i = b.length := by omega
    have hil' : ¬ (i : Int) < (b.length : Nat) := by omega
    simp only [↓Bp, Bq, Bs, ↓aop.eq_28, ↓aop.eq_30, Nat.reduceEqDiff, Nat.reduceAdd, Nat.reduceMul, Nat.reduceSub, Nat.reduceLeDiff, Nat.reduceLT, Int.reduceLT, Int.reduceLE, Int.reduceEq, Int.reduceToNat, Int.reduceAdd, Int.reduceSub, Int.reduceNeg, ↓reduceIte, reduceCtorEq, ↓C.slices_Equal_api_Reset_api_Reset_W, C.slices_Equal_api_Reset_api_Reset_B, C.slices_Equal_api_Reset_api_Reset, hil']
    refine ⟨true, rfl, ?_⟩
    rw [hie, List.take_length, ← hab, List.take_length] at h0
    simp [h0]
  have hia : i < a.length := by omega
  have hil' : (i : Int) < (b.length : Nat) := by omega
  have hz : (0:Int) ≤ (i : Int) ∧ (i : Int) < (a.length : Nat) := by omega
  have hz2 : (0:Int) ≤ (i : Int) ∧ (i : Int) < (b.length : Nat) := by omega
  have hw : IntKind.i64.wrap ((i : Int) + 1) = ((i + 1 : Nat) : Int) := by rw [wrap64] <;> omega
  have hfa := flatMap_fits (f := rstCells) (k := 1) (fun _ => rfl) (l := a) hia
  have hta := flatMap_at (f := rstCells) (k := 1) (fun _ => rfl) (l := a) hia
  have hfb := flatMap_fits (f := rstCells) (k := 1) (fun _ => rfl) (l := b) hil
  have htb := flatMap_at (f := rstCells) (k := 1) (fun _ => rfl) (l := b) hil
  rw [Nat.mul_one] at hfa hta hfb htb
  by_cases he : a[i] = b[i]
  · rw [← he] at htb
    simp only [↓Bp, Bq, Bs, ↓aop.eq_28, ↓aop.eq_30, Nat.reduceEqDiff, Nat.reduceAdd, Nat.reduceMul, Nat.reduceSub, Nat.reduceLeDiff, Nat.reduceLT, Int.reduceLT, Int.reduceLE, Int.reduceEq, Int.reduceToNat, Int.reduceAdd, Int.reduceSub, Int.reduceNeg, ↓reduceIte, reduceCtorEq, ↓C.slices_Equal_api_Reset_api_Reset_W, C.slices_Equal_api_Reset_api_Reset_B, C.slices_Equal_api_Reset_api_Reset, row, hil', hz, hz2, Int.toNat_natCast, Nat.mul_one, hfa, hta, hfb, htb, rstCells,  aeqL, hw]
    exact ⟨i + 1, rfl, ⟨by omega, take_eq_step hia hil h0 he⟩, by omega⟩
  · have hne : decide (a[i] = b[i]) = false := by simp [he]
    simp only [↓Bp, Bq, Bs, ↓aop.eq_28, ↓aop.eq_30, Nat.reduceEqDiff, Nat.reduceAdd, Nat.reduceMul, Nat.reduceSub, Nat.reduceLeDiff, Nat.reduceLT, Int.reduceLT, Int.reduceLE, Int.reduceEq, Int.reduceToNat, Int.reduceAdd, Int.reduceSub, Int.reduceNeg, ↓reduceIte, reduceCtorEq, ↓C.slices_Equal_api_Reset_api_Reset_W, C.slices_Equal_api_Reset_api_Reset_B, C.slices_Equal_api_Reset_api_Reset, row, hil', hz, hz2, Int.toNat_natCast, Nat.mul_one, hfa, hta, hfb, htb, rstCells,  aeqL, hne]
    exact ⟨false, rfl, by simp; rintro rfl; exact he rfl⟩

theorem eq_reg_spec {st : ASt} {a b : List Reg} (hs : a.length ≤ 4294967296) :
    ACalls Try.prog F.slices_Equal_api_Reg_api_Reg [.isl 2 (a.flatMap encReg) a.length, .isl 2 (b.flatMap encReg) b.length] st fun r s => (∃ t, r = .bool t ∧ (t = true ↔ a = b)) ∧ s = st := by
  refine calls_of_awp L.slices_Equal_api_Reg_api_Reg rfl ?_
  by_cases hab : a.length = b.length
  rotate_left
  · have hab' : ¬ ((a.length : Nat) : Int) = (b.length : Nat) := by omega
    simp only [↓Bp, Bq, Bs, ↓aop.eq_28, ↓aop.eq_30, Nat.reduceEqDiff, Nat.reduceAdd, Nat.reduceMul, Nat.reduceSub, Nat.reduceLeDiff, Nat.reduceLT, Int.reduceLT, Int.reduceLE, Int.reduceEq, Int.reduceToNat, Int.reduceAdd, Int.reduceSub, Int.reduceNeg, ↓reduceIte, reduceCtorEq, ↓C.slices_Equal_api_Reg_api_Reg_W, C.slices_Equal_api_Reg_api_Reg_B, C.slices_Equal_api_Reg_api_Reg, row, hab']
    exact ⟨false, rfl, by simp; rintro rfl; exact hab rfl⟩
  have hab' : ((a.length : Nat) : Int) = (b.length : Nat) := by omega
  simp only [↓Bp, Bq, Bs, ↓aop.eq_28, ↓aop.eq_30, Nat.reduceEqDiff, Nat.reduceAdd, Nat.reduceMul, Nat.reduceSub, Nat.reduceLeDiff, Nat.reduceLT, Int.reduceLT, Int.reduceLE, Int.reduceEq, Int.reduceToNat, Int.reduceAdd, Int.reduceSub, Int.reduceNeg, ↓reduceIte, reduceCtorEq, ↓C.slices_Equal_api_Reg_api_Reg_W, C.slices_Equal_api_Reg_api_Reg_B, C.slices_Equal_api_Reg_api_Reg, row, hab']
  refine awp_loopK (fun i : Nat => [(0, .isl 2 (a.flatMap encReg) a.length), (1, .isl 2 (b.flatMap encReg) b.length), (12, .int .i64 b.length), (13, .int .i64 i)]) (fun i s => s = st ∧ i ≤ b.length ∧ a.take i = b.take i) (fun i => b.length - i) 0 rfl ⟨rfl, Nat.zero_le _, by simp⟩ ?_
  rintro i s ⟨rfl, hi, h0⟩
  by_cases hil : i < b.length
  rotate_left
  · have hie : i = b.length := by omega
    have hil' : ¬ (i : Int) < (b.length : Nat) := by omega
    simp only [↓Bp, Bq, Bs, ↓aop.eq_28, ↓aop.eq_30, Nat.reduceEqDiff, Nat.reduceAdd, Nat.reduceMul, Nat.reduceSub, Nat.reduceLeDiff, Nat.reduceLT, Int.reduceLT, Int.reduceLE, Int.reduceEq, Int.reduceToNat, Int.reduceAdd, Int.reduceSub, Int.reduceNeg, ↓reduceIte, reduceCtorEq, ↓C.slices_Equal_api_Reg_api_Reg_W, C.slices_Equal_api_Reg_api_Reg_B, C.slices_Equal_api_Reg_api_Reg, hil']
    refine ⟨true, rfl, ?_⟩
    rw [hie, List.take_length, ← hab, List.take_length] at h0
    simp [h0]
  have hia : i < a.length := by omega
  have hil' : (i : Int) < (b.length : Nat) := by omega
  have hz : (0:Int) ≤ (i : Int) ∧ (i : Int) < (a.length : Nat) := by omega
  have hz2 : (0:Int) ≤ (i : Int) ∧ (i : Int) < (b.length : Nat) := by omega
  have hw : IntKind.i64.wrap ((i : Int) + 1) = ((i + 1 : Nat) : Int) := by rw [wrap64] <;> omega
  have hfa := flatMap_fits (f := encReg) (k := 2) (fun _ => rfl) (l := a) hia
  have hta := flatMap_at (f := encReg) (k := 2) (fun _ => rfl) (l := a) hia
  have hfb := flatMap_fits (f := encReg) (k := 2) (fun _ => rfl) (l := b) hil
  have htb := flatMap_at (f := encReg) (k := 2) (fun _ => rfl) (l := b) hil
  by_cases he : a[i] = b[i]
  · rw [← he] at htb
    simp only [↓Bp, Bq, Bs, ↓aop.eq_28, ↓aop.eq_30, Nat.reduceEqDiff, Nat.reduceAdd, Nat.reduceMul, Nat.reduceSub, Nat.reduceLeDiff, Nat.reduceLT, Int.reduceLT, Int.reduceLE, Int.reduceEq, Int.reduceToNat, Int.reduceAdd, Int.reduceSub, Int.reduceNeg, ↓reduceIte, reduceCtorEq, ↓C.slices_Equal_api_Reg_api_Reg_W, C.slices_Equal_api_Reg_api_Reg_B, C.slices_Equal_api_Reg_api_Reg, row, hil', hz, hz2, Int.toNat_natCast, Nat.mul_one, hfa, hta, hfb, htb, encReg,  aeqL, hw]
    exact ⟨i + 1, rfl, ⟨by omega, take_eq_step hia hil h0 he⟩, by omega⟩
  · have hne : (decide (a[i].reset = b[i].reset) && decide (a[i].ret = b[i].ret)) = false := by
      cases h : (decide (a[i].reset = b[i].reset) && decide (a[i].ret = b[i].ret)) with
      | false => rfl
      | true => simp only [Bool.and_eq_true, decide_eq_true_eq] at h; exact absurd (Reg.eq_iff.mpr h) he
    simp only [↓Bp, Bq, Bs, ↓aop.eq_28, ↓aop.eq_30, Nat.reduceEqDiff, Nat.reduceAdd, Nat.reduceMul, Nat.reduceSub, Nat.reduceLeDiff, Nat.reduceLT, Int.reduceLT, Int.reduceLE, Int.reduceEq, Int.reduceToNat, Int.reduceAdd, Int.reduceSub, Int.reduceNeg, ↓reduceIte, reduceCtorEq, ↓C.slices_Equal_api_Reg_api_Reg_W, C.slices_Equal_api_Reg_api_Reg_B, C.slices_Equal_api_Reg_api_Reg, row, hil', hz, hz2, Int.toNat_natCast, Nat.mul_one, hfa, hta, hfb, htb, encReg,  aeqL, hne]
    exact ⟨false, rfl, by simp; rintro rfl; exact he rfl⟩

theorem sameClock_spec {st : ASt} {a b : Clk} (hs : a.src.length ≤ 4294967296) : ACalls Try.prog F.conf_sameClock [.agg a.cells, .agg b.cells] st fun r s => (∃ t, r = .bool t ∧ (t = true ↔ a = b)) ∧ s = st := by
  refine ACalls.gc (Q' := fun r s => (∃ t, r = .bool t ∧ (t = true ↔ a = b)) ∧ st.le s) (calls_of_awp L.conf_sameClock rfl ?_) (fun v s ⟨h, hl⟩ => ⟨st, hl, h, rfl⟩)
  simp only [↓Bp, Bq, Bs, ↓aop.eq_28, ↓aop.eq_30, Nat.reduceEqDiff, Nat.reduceAdd, Nat.reduceMul, Nat.reduceSub, Nat.reduceLeDiff, Nat.reduceLT, Int.reduceLT, Int.reduceLE, Int.reduceEq, Int.reduceToNat, Int.reduceAdd, Int.reduceSub, Int.reduceNeg, ↓reduceIte, reduceCtorEq, ↓C.conf_sameClock_r0_w, C.conf_sameClock_r0_b, C.conf_sameClock]
  rintro i hi j ⟨hj, hij⟩
  have hle := (ASt.le.new st i (.cells a.cells)).trans (ASt.le.new _ j (.cells b.cells))
  have hji : ¬ i = j := fun e => hij e.symm
  rw [Clk.cells, Clk.cells] at *
  rw [Clk.eq_iff]
  by_cases h1 : a.kind = b.kind
  rotate_left
  · simp only [↓Bp, Bq, Bs, ↓aop.eq_28, ↓aop.eq_30, Nat.reduceEqDiff, Nat.reduceAdd, Nat.reduceMul, Nat.reduceSub, Nat.reduceLeDiff, Nat.reduceLT, Int.reduceLT, Int.reduceLE, Int.reduceEq, Int.reduceToNat, Int.reduceAdd, Int.reduceSub, Int.reduceNeg, ↓reduceIte, reduceCtorEq, ↓C.conf_sameClock_W, C.conf_sameClock_B, C.conf_sameClock, hi, hj, hij, hji, h1]
    exact ⟨⟨false, rfl, by simp⟩, (ASt.le.new _ _ _).trans (ASt.le.new _ _ _)⟩
  simp only [↓Bp, Bq, Bs, ↓aop.eq_28, ↓aop.eq_30, Nat.reduceEqDiff, Nat.reduceAdd, Nat.reduceMul, Nat.reduceSub, Nat.reduceLeDiff, Nat.reduceLT, Int.reduceLT, Int.reduceLE, Int.reduceEq, Int.reduceToNat, Int.reduceAdd, Int.reduceSub, Int.reduceNeg, ↓reduceIte, reduceCtorEq, ↓C.conf_sameClock_W, C.conf_sameClock_B, C.conf_sameClock, hi, hj, hij, hji, h1]
  refine (eq_int_spec hs).mono ?_
  rintro r s ⟨⟨t, rfl, ht⟩, rfl⟩
  cases t
  · have h2 : ¬ a.src = b.src := fun e => by simpa using ht.mpr e
    simp only [↓Bp, Bq, Bs, ↓aop.eq_28, ↓aop.eq_30, Nat.reduceEqDiff, Nat.reduceAdd, Nat.reduceMul, Nat.reduceSub, Nat.reduceLeDiff, Nat.reduceLT, Int.reduceLT, Int.reduceLE, Int.reduceEq, Int.reduceToNat, Int.reduceAdd, Int.reduceSub, Int.reduceNeg, ↓reduceIte, reduceCtorEq, ↓C.conf_sameClock_W, C.conf_sameClock_B, C.conf_sameClock, hi, hj, hij, hji, h2]
    exact ⟨⟨false, rfl, by simp⟩, (ASt.le.new _ _ _).trans (ASt.le.new _ _ _)⟩
  have h2 : a.src = b.src := ht.mp rfl
  by_cases h3 : a.rate = b.rate
  rotate_left
  · simp only [↓Bp, Bq, Bs, ↓aop.eq_28, ↓aop.eq_30, Nat.reduceEqDiff, Nat.reduceAdd, Nat.reduceMul, Nat.reduceSub, Nat.reduceLeDiff, Nat.reduceLT, Int.reduceLT, Int.reduceLE, Int.reduceEq, Int.reduceToNat, Int.reduceAdd, Int.reduceSub, Int.reduceNeg, ↓reduceIte, reduceCtorEq, ↓C.conf_sameClock_W, C.conf_sameClock_B, C.conf_sameClock, hi, hj, hij, hji, h2, h3]
    exact ⟨⟨false, rfl, by simp⟩, (ASt.le.new _ _ _).trans (ASt.le.new _ _ _)⟩
  by_cases h4 : a.mul = b.mul
  rotate_left
  · simp only [↓Bp, Bq, Bs, ↓aop.eq_28, ↓aop.eq_30, Nat.reduceEqDiff, Nat.reduceAdd, Nat.reduceMul, Nat.reduceSub, Nat.reduceLeDiff, Nat.reduceLT, Int.reduceLT, Int.reduceLE, Int.reduceEq, Int.reduceToNat, Int.reduceAdd, Int.reduceSub, Int.reduceNeg, ↓reduceIte, reduceCtorEq, ↓C.conf_sameClock_W, C.conf_sameClock_B, C.conf_sameClock, hi, hj, hij, hji, h2, h3, h4]
    exact ⟨⟨false, rfl, by simp⟩, (ASt.le.new _ _ _).trans (ASt.le.new _ _ _)⟩
  by_cases h5 : a.div = b.div
  rotate_left
  · simp only [↓Bp, Bq, Bs, ↓aop.eq_28, ↓aop.eq_30, Nat.reduceEqDiff, Nat.reduceAdd, Nat.reduceMul, Nat.reduceSub, Nat.reduceLeDiff, Nat.reduceLT, Int.reduceLT, Int.reduceLE, Int.reduceEq, Int.reduceToNat, Int.reduceAdd, Int.reduceSub, Int.reduceNeg, ↓reduceIte, reduceCtorEq, ↓C.conf_sameClock_W, C.conf_sameClock_B, C.conf_sameClock, hi, hj, hij, hji, h2, h3, h4, h5]
    exact ⟨⟨false, rfl, by simp⟩, (ASt.le.new _ _ _).trans (ASt.le.new _ _ _)⟩
  simp only [↓Bp, Bq, Bs, ↓aop.eq_28, ↓aop.eq_30, Nat.reduceEqDiff, Nat.reduceAdd, Nat.reduceMul, Nat.reduceSub, Nat.reduceLeDiff, Nat.reduceLT, Int.reduceLT, Int.reduceLE, Int.reduceEq, Int.reduceToNat, Int.reduceAdd, Int.reduceSub, Int.reduceNeg, ↓reduceIte, reduceCtorEq, ↓C.conf_sameClock_W, C.conf_sameClock_B, C.conf_sameClock, hi, hj, hij, hji, h2, h3, h4, h5]
  exact ⟨⟨_, rfl, by simp⟩, (ASt.le.new _ _ _).trans (ASt.le.new _ _ _)⟩

theorem sameDevice_spec {st : ASt} {a b : Dev} (hs : a.regs.length ≤ 4294967296) (hs2 : a.needs.length ≤ 4294967296) : ACalls Try.prog F.conf_sameDevice [.agg a.cells, .agg b.cells] st fun r s => (∃ t, r = .bool t ∧ (t = true ↔ a = b)) ∧ s = st := by
  refine ACalls.gc (Q' := fun r s => (∃ t, r = .bool t ∧ (t = true ↔ a = b)) ∧ st.le s) (calls_of_awp L.conf_sameDevice rfl ?_) (fun v s ⟨h, hl⟩ => ⟨st, hl, h, rfl⟩)
  simp only [↓Bp, Bq, Bs, ↓aop.eq_28, ↓aop.eq_30, Nat.reduceEqDiff, Nat.reduceAdd, Nat.reduceMul, Nat.reduceSub, Nat.reduceLeDiff, Nat.reduceLT, Int.reduceLT, Int.reduceLE, Int.reduceEq, Int.reduceToNat, Int.reduceAdd, Int.reduceSub, Int.reduceNeg, ↓reduceIte, reduceCtorEq, ↓C.conf_sameDevice_r0_w, C.conf_sameDevice_r0_b, C.conf_sameDevice]
  rintro i hi j ⟨hj, hij⟩
  have hle := (ASt.le.new st i (.cells a.cells)).trans (ASt.le.new _ j (.cells b.cells))
  have hji : ¬ i = j := fun e => hij e.symm
  rw [Dev.cells, Dev.cells] at *
  rw [Dev.eq_iff]
  by_cases h1 : a.clock = b.clock
  rotate_left
  · simp only [↓Bp, Bq, Bs, ↓aop.eq_28, ↓aop.eq_30, Nat.reduceEqDiff, Nat.reduceAdd, Nat.reduceMul, Nat.reduceSub, Nat.reduceLeDiff, Nat.reduceLT, Int.reduceLT, Int.reduceLE, Int.reduceEq, Int.reduceToNat, Int.reduceAdd, Int.reduceSub, Int.reduceNeg, ↓reduceIte, reduceCtorEq, ↓C.conf_sameDevice_W, C.conf_sameDevice_B, C.conf_sameDevice, hi, hj, hij, hji, h1]
    exact ⟨⟨false, rfl, by simp⟩, (ASt.le.new _ _ _).trans (ASt.le.new _ _ _)⟩
  by_cases h2 : a.dom = b.dom
  rotate_left
  · simp only [↓Bp, Bq, Bs, ↓aop.eq_28, ↓aop.eq_30, Nat.reduceEqDiff, Nat.reduceAdd, Nat.reduceMul, Nat.reduceSub, Nat.reduceLeDiff, Nat.reduceLT, Int.reduceLT, Int.reduceLE, Int.reduceEq, Int.reduceToNat, Int.reduceAdd, Int.reduceSub, Int.reduceNeg, ↓reduceIte, reduceCtorEq, ↓C.conf_sameDevice_W, C.conf_sameDevice_B, C.conf_sameDevice, hi, hj, hij, hji, h1, h2]
    exact ⟨⟨false, rfl, by simp⟩, (ASt.le.new _ _ _).trans (ASt.le.new _ _ _)⟩
  by_cases h3 : a.rst = b.rst
  rotate_left
  · simp only [↓Bp, Bq, Bs, ↓aop.eq_28, ↓aop.eq_30, Nat.reduceEqDiff, Nat.reduceAdd, Nat.reduceMul, Nat.reduceSub, Nat.reduceLeDiff, Nat.reduceLT, Int.reduceLT, Int.reduceLE, Int.reduceEq, Int.reduceToNat, Int.reduceAdd, Int.reduceSub, Int.reduceNeg, ↓reduceIte, reduceCtorEq, ↓C.conf_sameDevice_W, C.conf_sameDevice_B, C.conf_sameDevice, hi, hj, hij, hji, h1, h2, h3]
    exact ⟨⟨false, rfl, by simp⟩, (ASt.le.new _ _ _).trans (ASt.le.new _ _ _)⟩
  by_cases h4 : a.clamp = b.clamp
  rotate_left
  · simp only [↓Bp, Bq, Bs, ↓aop.eq_28, ↓aop.eq_30, Nat.reduceEqDiff, Nat.reduceAdd, Nat.reduceMul, Nat.reduceSub, Nat.reduceLeDiff, Nat.reduceLT, Int.reduceLT, Int.reduceLE, Int.reduceEq, Int.reduceToNat, Int.reduceAdd, Int.reduceSub, Int.reduceNeg, ↓reduceIte, reduceCtorEq, ↓C.conf_sameDevice_W, C.conf_sameDevice_B, C.conf_sameDevice, hi, hj, hij, hji, h1, h2, h3, h4]
    exact ⟨⟨false, rfl, by simp⟩, (ASt.le.new _ _ _).trans (ASt.le.new _ _ _)⟩
  simp only [↓Bp, Bq, Bs, ↓aop.eq_28, ↓aop.eq_30, Nat.reduceEqDiff, Nat.reduceAdd, Nat.reduceMul, Nat.reduceSub, Nat.reduceLeDiff, Nat.reduceLT, Int.reduceLT, Int.reduceLE, Int.reduceEq, Int.reduceToNat, Int.reduceAdd, Int.reduceSub, Int.reduceNeg, ↓reduceIte, reduceCtorEq, ↓C.conf_sameDevice_W, C.conf_sameDevice_B, C.conf_sameDevice, hi, hj, hij, hji, h1, h2, h3, h4]
  refine (eq_reg_spec hs).mono ?_
  rintro r s ⟨⟨t, rfl, ht⟩, rfl⟩
  cases t
  · have h5 : ¬ a.regs = b.regs := fun e => by simpa using ht.mpr e
    simp only [↓Bp, Bq, Bs, ↓aop.eq_28, ↓aop.eq_30, Nat.reduceEqDiff, Nat.reduceAdd, Nat.reduceMul, Nat.reduceSub, Nat.reduceLeDiff, Nat.reduceLT, Int.reduceLT, Int.reduceLE, Int.reduceEq, Int.reduceToNat, Int.reduceAdd, Int.reduceSub, Int.reduceNeg, ↓reduceIte, reduceCtorEq, ↓C.conf_sameDevice_W, C.conf_sameDevice_B, C.conf_sameDevice, hi, hj, hij, hji, h5]
    exact ⟨⟨false, rfl, by simp⟩, (ASt.le.new _ _ _).trans (ASt.le.new _ _ _)⟩
  have h5 : a.regs = b.regs := ht.mp rfl
  simp only [↓Bp, Bq, Bs, ↓aop.eq_28, ↓aop.eq_30, Nat.reduceEqDiff, Nat.reduceAdd, Nat.reduceMul, Nat.reduceSub, Nat.reduceLeDiff, Nat.reduceLT, Int.reduceLT, Int.reduceLE, Int.reduceEq, Int.reduceToNat, Int.reduceAdd, Int.reduceSub, Int.reduceNeg, ↓reduceIte, reduceCtorEq, ↓C.conf_sameDevice_W, C.conf_sameDevice_B, C.conf_sameDevice, hi, hj, hij, hji, h5]
  refine (eq_int_spec hs2).mono ?_
  rintro r s ⟨⟨t, rfl, ht⟩, rfl⟩
  simp only [↓Bp, Bq, Bs, ↓aop.eq_28, ↓aop.eq_30, Nat.reduceEqDiff, Nat.reduceAdd, Nat.reduceMul, Nat.reduceSub, Nat.reduceLeDiff, Nat.reduceLT, Int.reduceLT, Int.reduceLE, Int.reduceEq, Int.reduceToNat, Int.reduceAdd, Int.reduceSub, Int.reduceNeg, ↓reduceIte, reduceCtorEq, ↓C.conf_sameDevice_W, C.conf_sameDevice_B, C.conf_sameDevice]
  exact ⟨⟨_, rfl, by simpa [h1, h2, h3, h4, h5] using ht⟩, (ASt.le.new _ _ _).trans (ASt.le.new _ _ _)⟩

theorem eqf_clk_spec {st : ASt} {a b : List Clk} (hs : a.length ≤ 4294967296) (hx : ∀ c ∈ a, c.src.length ≤ 4294967296) :
    ACalls Try.prog F.slices_EqualFunc_api_Clock_api_Clock_api_Clock_api_Clock [.isl 6 (a.flatMap Clk.cells) a.length, .isl 6 (b.flatMap Clk.cells) b.length, .fn F.conf_sameClock []] st fun r s => (∃ t, r = .bool t ∧ (t = true ↔ a = b)) ∧ s = st := by
  refine ACalls.gc (Q' := fun r s => (∃ t, r = .bool t ∧ (t = true ↔ a = b)) ∧ st.le s) (calls_of_awp L.slices_EqualFunc_api_Clock_api_Clock_api_Clock_api_Clock rfl ?_) (fun v s ⟨h, hl⟩ => ⟨st, hl, h, rfl⟩)
  by_cases hab : a.length = b.length
  rotate_left
  · have hab' : ¬ ((a.length : Nat) : Int) = (b.length : Nat) := by omega
    simp only [↓Bp, Bq, Bs, ↓aop.eq_28, ↓aop.eq_30, Nat.reduceEqDiff, Nat.reduceAdd, Nat.reduceMul, Nat.reduceSub, Nat.reduceLeDiff, Nat.reduceLT, Int.reduceLT, Int.reduceLE, Int.reduceEq, Int.reduceToNat, Int.reduceAdd, Int.reduceSub, Int.reduceNeg, ↓reduceIte, reduceCtorEq, ↓C.slices_EqualFunc_api_Clock_api_Clock_api_Clock_api_Clock_W, C.slices_EqualFunc_api_Clock_api_Clock_api_Clock_api_Clock_B, C.slices_EqualFunc_api_Clock_api_Clock_api_Clock_api_Clock, hab']
    exact ⟨⟨false, rfl, by simp; rintro rfl; exact hab rfl⟩, ASt.le.refl _⟩
  have hab' : ((a.length : Nat) : Int) = (b.length : Nat) := by omega
  simp only [↓Bp, Bq, Bs, ↓aop.eq_28, ↓aop.eq_30, Nat.reduceEqDiff, Nat.reduceAdd, Nat.reduceMul, Nat.reduceSub, Nat.reduceLeDiff, Nat.reduceLT, Int.reduceLT, Int.reduceLE, Int.reduceEq, Int.reduceToNat, Int.reduceAdd, Int.reduceSub, Int.reduceNeg, ↓reduceIte, reduceCtorEq, ↓C.slices_EqualFunc_api_Clock_api_Clock_api_Clock_api_Clock_W, C.slices_EqualFunc_api_Clock_api_Clock_api_Clock_api_Clock_B, C.slices_EqualFunc_api_Clock_api_Clock_api_Clock_api_Clock, hab']
  refine awp_loopK (fun i : Nat => [(1, .isl 6 (b.flatMap Clk.cells) b.length), (2, .fn F.conf_sameClock []), (15, .isl 6 (a.flatMap Clk.cells) a.length), (16, .int .i64 b.length), (17, .int .i64 i)]) (fun i s => st.le s ∧ i ≤ b.length ∧ a.take i = b.take i) (fun i => b.length - i) 0 rfl ⟨ASt.le.refl _, Nat.zero_le _, by simp⟩ ?_
  rintro i s ⟨hle, hi, h0⟩
  by_cases hil : i < b.length
  rotate_left
  · have hie : i = b.length := by omega
    have hil' : ¬ (i : Int) < (b.length : Nat) := by omega
    simp only [↓Bp, Bq, Bs, ↓aop.eq_28, ↓aop.eq_30, Nat.reduceEqDiff, Nat.reduceAdd, Nat.reduceMul, Nat.reduceSub, Nat.reduceLeDiff, Nat.reduceLT, Int.reduceLT, Int.reduceLE, Int.reduceEq, Int.reduceToNat, Int.reduceAdd, Int.reduceSub, Int.reduceNeg, ↓reduceIte, reduceCtorEq, ↓C.slices_EqualFunc_api_Clock_api_Clock_api_Clock_api_Clock_W, C.slices_EqualFunc_api_Clock_api_Clock_api_Clock_api_Clock_B, C.slices_EqualFunc_api_Clock_api_Clock_api_Clock_api_Clock, hil']
    refine ⟨⟨true, rfl, ?_⟩, hle⟩
    rw [hie, List.take_length, ← hab, List.take_length] at h0
    simp [h0]
  have hia : i < a.length := by omega
  have hil' : (i : Int) < (b.length : Nat) := by omega
  have hz : (0:Int) ≤ (i : Int) ∧ (i : Int) < (a.length : Nat) := by omega
  have hz2 : (0:Int) ≤ (i : Int) ∧ (i : Int) < (b.length : Nat) := by omega
  have hw : IntKind.i64.wrap ((i : Int) + 1) = ((i + 1 : Nat) : Int) := by rw [wrap64] <;> omega
  have hfa := flatMap_fits (f := Clk.cells) (k := 6) (fun _ => rfl) (l := a) hia
  have hta := flatMap_at (f := Clk.cells) (k := 6) (fun _ => rfl) (l := a) hia
  have hfb := flatMap_fits (f := Clk.cells) (k := 6) (fun _ => rfl) (l := b) hil
  have htb := flatMap_at (f := Clk.cells) (k := 6) (fun _ => rfl) (l := b) hil
  obtain ⟨ca, hca⟩ : ∃ ca, ca = Clk.cells a[i] := ⟨_, rfl⟩
  obtain ⟨cb, hcb⟩ : ∃ cb, cb = Clk.cells b[i] := ⟨_, rfl⟩
  have hla : ca.length = 6 := by rw [hca]; rfl
  have hlb : cb.length = 6 := by rw [hcb]; rfl
  have hva : allLeaf ca = true := by rw [hca]; rfl
  have hvb : allLeaf cb = true := by rw [hcb]; rfl
  have hpa : putN [.int .u8 0, .nils, .int .u64 0, .int .i64 0, .int .i64 0, .int .i64 0] 0 ca = ca := by rw [hca]; rfl
  have hpb : putN [.int .u8 0, .nils, .int .u64 0, .int .i64 0, .int .i64 0, .int .i64 0] 0 cb = cb := by rw [hcb]; rfl
  rw [← hca] at hta
  rw [← hcb] at htb
  simp only [↓Bp, Bq, Bs, ↓aop.eq_28, ↓aop.eq_30, Nat.reduceEqDiff, Nat.reduceAdd, Nat.reduceMul, Nat.reduceSub, Nat.reduceLeDiff, Nat.reduceLT, Int.reduceLT, Int.reduceLE, Int.reduceEq, Int.reduceToNat, Int.reduceAdd, Int.reduceSub, Int.reduceNeg, ↓reduceIte, reduceCtorEq, ↓C.slices_EqualFunc_api_Clock_api_Clock_api_Clock_api_Clock_r10_w, C.slices_EqualFunc_api_Clock_api_Clock_api_Clock_api_Clock_r10_b, ↓C.slices_EqualFunc_api_Clock_api_Clock_api_Clock_api_Clock_c1_w, ↓C.slices_EqualFunc_api_Clock_api_Clock_api_Clock_api_Clock_r9_w, C.slices_EqualFunc_api_Clock_api_Clock_api_Clock_api_Clock_r9_b, ↓C.slices_EqualFunc_api_Clock_api_Clock_api_Clock_api_Clock_c2_w, ↓C.slices_EqualFunc_api_Clock_api_Clock_api_Clock_api_Clock_r5_w, C.slices_EqualFunc_api_Clock_api_Clock_api_Clock_api_Clock_r5_b, ↓C.slices_EqualFunc_api_Clock_api_Clock_api_Clock_api_Clock_b7_w, ↓C.slices_EqualFunc_api_Clock_api_Clock_api_Clock_api_Clock_c8_w, ↓C.slices_EqualFunc_api_Clock_api_Clock_api_Clock_api_Clock_c9_w, ↓C.slices_EqualFunc_api_Clock_api_Clock_api_Clock_api_Clock_r4_w, C.slices_EqualFunc_api_Clock_api_Clock_api_Clock_api_Clock_r4_b, ↓C.slices_EqualFunc_api_Clock_api_Clock_api_Clock_api_Clock_b11_w, ↓C.slices_EqualFunc_api_Clock_api_Clock_api_Clock_api_Clock_c12_w, ↓C.slices_EqualFunc_api_Clock_api_Clock_api_Clock_api_Clock_r3_w, C.slices_EqualFunc_api_Clock_api_Clock_api_Clock_api_Clock_r3_b, ↓C.slices_EqualFunc_api_Clock_api_Clock_api_Clock_api_Clock_c13_w, ↓C.slices_EqualFunc_api_Clock_api_Clock_api_Clock_api_Clock_r2_w, C.slices_EqualFunc_api_Clock_api_Clock_api_Clock_api_Clock_r2_b, ↓C.slices_EqualFunc_api_Clock_api_Clock_api_Clock_api_Clock_c14_w, ↓C.slices_EqualFunc_api_Clock_api_Clock_api_Clock_api_Clock_c15_w, ↓C.slices_EqualFunc_api_Clock_api_Clock_api_Clock_api_Clock_r1_w, C.slices_EqualFunc_api_Clock_api_Clock_api_Clock_api_Clock_r1_b, ↓C.slices_EqualFunc_api_Clock_api_Clock_api_Clock_api_Clock_c16_w, ↓C.slices_EqualFunc_api_Clock_api_Clock_api_Clock_api_Clock_r0_w, C.slices_EqualFunc_api_Clock_api_Clock_api_Clock_api_Clock_r0_b, C.slices_EqualFunc_api_Clock_api_Clock_api_Clock_api_Clock, hil', hz, Int.toNat_natCast, hfa, hta]
  intro x hx1
  simp only [↓Bp, Bq, Bs, ↓aop.eq_28, ↓aop.eq_30, Nat.reduceEqDiff, Nat.reduceAdd, Nat.reduceMul, Nat.reduceSub, Nat.reduceLeDiff, Nat.reduceLT, Int.reduceLT, Int.reduceLE, Int.reduceEq, Int.reduceToNat, Int.reduceAdd, Int.reduceSub, Int.reduceNeg, ↓reduceIte, reduceCtorEq, ↓C.slices_EqualFunc_api_Clock_api_Clock_api_Clock_api_Clock_r10_w, C.slices_EqualFunc_api_Clock_api_Clock_api_Clock_api_Clock_r10_b, ↓C.slices_EqualFunc_api_Clock_api_Clock_api_Clock_api_Clock_c1_w, ↓C.slices_EqualFunc_api_Clock_api_Clock_api_Clock_api_Clock_r9_w, C.slices_EqualFunc_api_Clock_api_Clock_api_Clock_api_Clock_r9_b, ↓C.slices_EqualFunc_api_Clock_api_Clock_api_Clock_api_Clock_c2_w, ↓C.slices_EqualFunc_api_Clock_api_Clock_api_Clock_api_Clock_r5_w, C.slices_EqualFunc_api_Clock_api_Clock_api_Clock_api_Clock_r5_b, ↓C.slices_EqualFunc_api_Clock_api_Clock_api_Clock_api_Clock_b7_w, ↓C.slices_EqualFunc_api_Clock_api_Clock_api_Clock_api_Clock_c8_w, ↓C.slices_EqualFunc_api_Clock_api_Clock_api_Clock_api_Clock_c9_w, ↓C.slices_EqualFunc_api_Clock_api_Clock_api_Clock_api_Clock_r4_w, C.slices_EqualFunc_api_Clock_api_Clock_api_Clock_api_Clock_r4_b, ↓C.slices_EqualFunc_api_Clock_api_Clock_api_Clock_api_Clock_b11_w, ↓C.slices_EqualFunc_api_Clock_api_Clock_api_Clock_api_Clock_c12_w, ↓C.slices_EqualFunc_api_Clock_api_Clock_api_Clock_api_Clock_r3_w, C.slices_EqualFunc_api_Clock_api_Clock_api_Clock_api_Clock_r3_b, ↓C.slices_EqualFunc_api_Clock_api_Clock_api_Clock_api_Clock_c13_w, ↓C.slices_EqualFunc_api_Clock_api_Clock_api_Clock_api_Clock_r2_w, C.slices_EqualFunc_api_Clock_api_Clock_api_Clock_api_Clock_r2_b, ↓C.slices_EqualFunc_api_Clock_api_Clock_api_Clock_api_Clock_c14_w, ↓C.slices_EqualFunc_api_Clock_api_Clock_api_Clock_api_Clock_c15_w, ↓C.slices_EqualFunc_api_Clock_api_Clock_api_Clock_api_Clock_r1_w, C.slices_EqualFunc_api_Clock_api_Clock_api_Clock_api_Clock_r1_b, ↓C.slices_EqualFunc_api_Clock_api_Clock_api_Clock_api_Clock_c16_w, ↓C.slices_EqualFunc_api_Clock_api_Clock_api_Clock_api_Clock_r0_w, C.slices_EqualFunc_api_Clock_api_Clock_api_Clock_api_Clock_r0_b, C.slices_EqualFunc_api_Clock_api_Clock_api_Clock_api_Clock, hla, hva, hx1]
  rw [hpa]
  simp only [↓Bp, Bq, Bs, ↓aop.eq_28, ↓aop.eq_30, Nat.reduceEqDiff, Nat.reduceAdd, Nat.reduceMul, Nat.reduceSub, Nat.reduceLeDiff, Nat.reduceLT, Int.reduceLT, Int.reduceLE, Int.reduceEq, Int.reduceToNat, Int.reduceAdd, Int.reduceSub, Int.reduceNeg, ↓reduceIte, reduceCtorEq, ↓C.slices_EqualFunc_api_Clock_api_Clock_api_Clock_api_Clock_r10_w, C.slices_EqualFunc_api_Clock_api_Clock_api_Clock_api_Clock_r10_b, ↓C.slices_EqualFunc_api_Clock_api_Clock_api_Clock_api_Clock_c1_w, ↓C.slices_EqualFunc_api_Clock_api_Clock_api_Clock_api_Clock_r9_w, C.slices_EqualFunc_api_Clock_api_Clock_api_Clock_api_Clock_r9_b, ↓C.slices_EqualFunc_api_Clock_api_Clock_api_Clock_api_Clock_c2_w, ↓C.slices_EqualFunc_api_Clock_api_Clock_api_Clock_api_Clock_r6_w, C.slices_EqualFunc_api_Clock_api_Clock_api_Clock_api_Clock_r6_b, ↓C.slices_EqualFunc_api_Clock_api_Clock_api_Clock_api_Clock_c6_w, ↓C.slices_EqualFunc_api_Clock_api_Clock_api_Clock_api_Clock_r5_w, C.slices_EqualFunc_api_Clock_api_Clock_api_Clock_api_Clock_r5_b, ↓C.slices_EqualFunc_api_Clock_api_Clock_api_Clock_api_Clock_b7_w, ↓C.slices_EqualFunc_api_Clock_api_Clock_api_Clock_api_Clock_c8_w, ↓C.slices_EqualFunc_api_Clock_api_Clock_api_Clock_api_Clock_c9_w, ↓C.slices_EqualFunc_api_Clock_api_Clock_api_Clock_api_Clock_r4_w, C.slices_EqualFunc_api_Clock_api_Clock_api_Clock_api_Clock_r4_b, ↓C.slices_EqualFunc_api_Clock_api_Clock_api_Clock_api_Clock_b11_w, ↓C.slices_EqualFunc_api_Clock_api_Clock_api_Clock_api_Clock_c12_w, ↓C.slices_EqualFunc_api_Clock_api_Clock_api_Clock_api_Clock_r3_w, C.slices_EqualFunc_api_Clock_api_Clock_api_Clock_api_Clock_r3_b, ↓C.slices_EqualFunc_api_Clock_api_Clock_api_Clock_api_Clock_c13_w, ↓C.slices_EqualFunc_api_Clock_api_Clock_api_Clock_api_Clock_r2_w, C.slices_EqualFunc_api_Clock_api_Clock_api_Clock_api_Clock_r2_b, ↓C.slices_EqualFunc_api_Clock_api_Clock_api_Clock_api_Clock_c14_w, ↓C.slices_EqualFunc_api_Clock_api_Clock_api_Clock_api_Clock_c15_w, ↓C.slices_EqualFunc_api_Clock_api_Clock_api_Clock_api_Clock_r1_w, C.slices_EqualFunc_api_Clock_api_Clock_api_Clock_api_Clock_r1_b, ↓C.slices_EqualFunc_api_Clock_api_Clock_api_Clock_api_Clock_c16_w, ↓C.slices_EqualFunc_api_Clock_api_Clock_api_Clock_api_Clock_r0_w, C.slices_EqualFunc_api_Clock_api_Clock_api_Clock_api_Clock_r0_b, C.slices_EqualFunc_api_Clock_api_Clock_api_Clock_api_Clock, hz2, Int.toNat_natCast, hfb, htb]
  rintro y ⟨hy1, hyx⟩
  have hxy : ¬ x = y := fun e => hyx e.symm
  simp only [↓Bp, Bq, Bs, ↓aop.eq_28, ↓aop.eq_30, Nat.reduceEqDiff, Nat.reduceAdd, Nat.reduceMul, Nat.reduceSub, Nat.reduceLeDiff, Nat.reduceLT, Int.reduceLT, Int.reduceLE, Int.reduceEq, Int.reduceToNat, Int.reduceAdd, Int.reduceSub, Int.reduceNeg, ↓reduceIte, reduceCtorEq, ↓C.slices_EqualFunc_api_Clock_api_Clock_api_Clock_api_Clock_r10_w, C.slices_EqualFunc_api_Clock_api_Clock_api_Clock_api_Clock_r10_b, ↓C.slices_EqualFunc_api_Clock_api_Clock_api_Clock_api_Clock_c1_w, ↓C.slices_EqualFunc_api_Clock_api_Clock_api_Clock_api_Clock_r9_w, C.slices_EqualFunc_api_Clock_api_Clock_api_Clock_api_Clock_r9_b, ↓C.slices_EqualFunc_api_Clock_api_Clock_api_Clock_api_Clock_c2_w, ↓C.slices_EqualFunc_api_Clock_api_Clock_api_Clock_api_Clock_r6_w, C.slices_EqualFunc_api_Clock_api_Clock_api_Clock_api_Clock_r6_b, ↓C.slices_EqualFunc_api_Clock_api_Clock_api_Clock_api_Clock_c6_w, ↓C.slices_EqualFunc_api_Clock_api_Clock_api_Clock_api_Clock_r5_w, C.slices_EqualFunc_api_Clock_api_Clock_api_Clock_api_Clock_r5_b, ↓C.slices_EqualFunc_api_Clock_api_Clock_api_Clock_api_Clock_b7_w, ↓C.slices_EqualFunc_api_Clock_api_Clock_api_Clock_api_Clock_c8_w, ↓C.slices_EqualFunc_api_Clock_api_Clock_api_Clock_api_Clock_c9_w, ↓C.slices_EqualFunc_api_Clock_api_Clock_api_Clock_api_Clock_r4_w, C.slices_EqualFunc_api_Clock_api_Clock_api_Clock_api_Clock_r4_b, ↓C.slices_EqualFunc_api_Clock_api_Clock_api_Clock_api_Clock_b11_w, ↓C.slices_EqualFunc_api_Clock_api_Clock_api_Clock_api_Clock_c12_w, ↓C.slices_EqualFunc_api_Clock_api_Clock_api_Clock_api_Clock_r3_w, C.slices_EqualFunc_api_Clock_api_Clock_api_Clock_api_Clock_r3_b, ↓C.slices_EqualFunc_api_Clock_api_Clock_api_Clock_api_Clock_c13_w, ↓C.slices_EqualFunc_api_Clock_api_Clock_api_Clock_api_Clock_r2_w, C.slices_EqualFunc_api_Clock_api_Clock_api_Clock_api_Clock_r2_b, ↓C.slices_EqualFunc_api_Clock_api_Clock_api_Clock_api_Clock_c14_w, ↓C.slices_EqualFunc_api_Clock_api_Clock_api_Clock_api_Clock_c15_w, ↓C.slices_EqualFunc_api_Clock_api_Clock_api_Clock_api_Clock_r1_w, C.slices_EqualFunc_api_Clock_api_Clock_api_Clock_api_Clock_r1_b, ↓C.slices_EqualFunc_api_Clock_api_Clock_api_Clock_api_Clock_c16_w, ↓C.slices_EqualFunc_api_Clock_api_Clock_api_Clock_api_Clock_r0_w, C.slices_EqualFunc_api_Clock_api_Clock_api_Clock_api_Clock_r0_b, C.slices_EqualFunc_api_Clock_api_Clock_api_Clock_api_Clock, hlb, hvb, hx1, hy1, hxy, hyx]
  rw [hpb]
  have e1 : AV.agg (List.take 6 ca) = .agg ca := by rw [← hla, List.take_length]
  have e2 : AV.agg (List.take 6 cb) = .agg cb := by rw [← hlb, List.take_length]
  simp only [↓Bp, Bq, Bs, ↓aop.eq_28, ↓aop.eq_30, Nat.reduceEqDiff, Nat.reduceAdd, Nat.reduceMul, Nat.reduceSub, Nat.reduceLeDiff, Nat.reduceLT, Int.reduceLT, Int.reduceLE, Int.reduceEq, Int.reduceToNat, Int.reduceAdd, Int.reduceSub, Int.reduceNeg, ↓reduceIte, reduceCtorEq, ↓C.slices_EqualFunc_api_Clock_api_Clock_api_Clock_api_Clock_W, C.slices_EqualFunc_api_Clock_api_Clock_api_Clock_api_Clock_B, C.slices_EqualFunc_api_Clock_api_Clock_api_Clock_api_Clock, hx1, hy1, hxy, hyx, hla, hlb, e1, e2]
  rw [hca, hcb]
  refine ⟨rfl, (sameClock_spec (hx _ (List.getElem_mem hia))).mono ?_⟩
  rintro r s2 ⟨⟨t, rfl, ht⟩, rfl⟩
  have hle2 := hle.trans ((le_new_set (a := AObj.cells [.int .u8 0, .nils, .int .u64 0, .int .i64 0, .int .i64 0, .int .i64 0]) (b := AObj.cells (Clk.cells a[i])) hx1).trans (le_new_set (id := y) (a := AObj.cells [.int .u8 0, .nils, .int .u64 0, .int .i64 0, .int .i64 0, .int .i64 0]) (b := AObj.cells (Clk.cells b[i])) (by rw [ASt.set_none, ASt.new_none]; exact ⟨hy1, hyx⟩)))
  cases t
  · have he : ¬ a[i] = b[i] := fun e => by simpa using ht.mpr e
    simp only [↓Bp, Bq, Bs, ↓aop.eq_28, ↓aop.eq_30, Nat.reduceEqDiff, Nat.reduceAdd, Nat.reduceMul, Nat.reduceSub, Nat.reduceLeDiff, Nat.reduceLT, Int.reduceLT, Int.reduceLE, Int.reduceEq, Int.reduceToNat, Int.reduceAdd, Int.reduceSub, Int.reduceNeg, ↓reduceIte, reduceCtorEq, ↓C.slices_EqualFunc_api_Clock_api_Clock_api_Clock_api_Clock_W, C.slices_EqualFunc_api_Clock_api_Clock_api_Clock_api_Clock_B, C.slices_EqualFunc_api_Clock_api_Clock_api_Clock_api_Clock]
    exact ⟨⟨false, rfl, by simp; rintro rfl; exact he rfl⟩, hle2⟩
  · simp only [↓Bp, Bq, Bs, ↓aop.eq_28, ↓aop.eq_30, Nat.reduceEqDiff, Nat.reduceAdd, Nat.reduceMul, Nat.reduceSub, Nat.reduceLeDiff, Nat.reduceLT, Int.reduceLT, Int.reduceLE, Int.reduceEq, Int.reduceToNat, Int.reduceAdd, Int.reduceSub, Int.reduceNeg, ↓reduceIte, reduceCtorEq, ↓C.slices_EqualFunc_api_Clock_api_Clock_api_Clock_api_Clock_W, C.slices_EqualFunc_api_Clock_api_Clock_api_Clock_api_Clock_B, C.slices_EqualFunc_api_Clock_api_Clock_api_Clock_api_Clock, hw]
    exact ⟨i + 1, rfl, ⟨hle2, by omega, take_eq_step hia hil h0 (ht.mp rfl)⟩, by omega⟩

theorem eqf_dev_spec {st : ASt} {a b : List Dev} (hs : a.length ≤ 4294967296) (hx : ∀ c ∈ a, c.regs.length ≤ 4294967296 ∧ c.needs.length ≤ 4294967296) :
    ACalls Try.prog F.slices_EqualFunc_api_Device_api_Device_api_Device_api_Device [.isl 6 (a.flatMap Dev.cells) a.length, .isl 6 (b.flatMap Dev.cells) b.length, .fn F.conf_sameDevice []] st fun r s => (∃ t, r = .bool t ∧ (t = true ↔ a = b)) ∧ s = st := by
  refine ACalls.gc (Q' := fun r s => (∃ t, r = .bool t ∧ (t = true ↔ a = b)) ∧ st.le s) (calls_of_awp L.slices_EqualFunc_api_Device_api_Device_api_Device_api_Device rfl ?_) (fun v s ⟨h, hl⟩ => ⟨st, hl, h, rfl⟩)
  by_cases hab : a.length = b.length
  rotate_left
  · have hab' : ¬ ((a.length : Nat) : Int) = (b.length : Nat) := by omega
    simp only [↓Bp, Bq, Bs, ↓aop.eq_28, ↓aop.eq_30, Nat.reduceEqDiff, Nat.reduceAdd, Nat.reduceMul, Nat.reduceSub, Nat.reduceLeDiff, Nat.reduceLT, Int.reduceLT, Int.reduceLE, Int.reduceEq, Int.reduceToNat, Int.reduceAdd, Int.reduceSub, Int.reduceNeg, ↓reduceIte, reduceCtorEq, ↓C.slices_EqualFunc_api_Device_api_Device_api_Device_api_Device_W, C.slices_EqualFunc_api_Device_api_Device_api_Device_api_Device_B, C.slices_EqualFunc_api_Device_api_Device_api_Device_api_Device, hab']
    exact ⟨⟨false, rfl, by simp; rintro rfl; exact hab rfl⟩, ASt.le.refl _⟩
  have hab' : ((a.length : Nat) : Int) = (b.length : Nat) := by omega
  simp only [↓Bp, Bq, Bs, ↓aop.eq_28, ↓aop.eq_30, Nat.reduceEqDiff, Nat.reduceAdd, Nat.reduceMul, Nat.reduceSub, Nat.reduceLeDiff, Nat.reduceLT, Int.reduceLT, Int.reduceLE, Int.reduceEq, Int.reduceToNat, Int.reduceAdd, Int.reduceSub, Int.reduceNeg, ↓reduceIte, reduceCtorEq, ↓C.slices_EqualFunc_api_Device_api_Device_api_Device_api_Device_W, C.slices_EqualFunc_api_Device_api_Device_api_Device_api_Device_B, C.slices_EqualFunc_api_Device_api_Device_api_Device_api_Device, hab']
  refine awp_loopK (fun i : Nat => [(1, .isl 6 (b.flatMap Dev.cells) b.length), (2, .fn F.conf_sameDevice []), (15, .isl 6 (a.flatMap Dev.cells) a.length), (16, .int .i64 b.length), (17, .int .i64 i)]) (fun i s => st.le s ∧ i ≤ b.length ∧ a.take i = b.take i) (fun i => b.length - i) 0 rfl ⟨ASt.le.refl _, Nat.zero_le _, by simp⟩ ?_
  rintro i s ⟨hle, hi, h0⟩
  by_cases hil : i < b.length
  rotate_left
  · have hie : i = b.length := by omega
    have hil' : ¬ (i : Int) < (b.length : Nat) := by omega
    simp only [↓Bp, Bq, Bs, ↓aop.eq_28, ↓aop.eq_30, Nat.reduceEqDiff, Nat.reduceAdd, Nat.reduceMul, Nat.reduceSub, Nat.reduceLeDiff, Nat.reduceLT, Int.reduceLT, Int.reduceLE, Int.reduceEq, Int.reduceToNat, Int.reduceAdd, Int.reduceSub, Int.reduceNeg, ↓reduceIte, reduceCtorEq, ↓C.slices_EqualFunc_api_Device_api_Device_api_Device_api_Device_W, C.slices_EqualFunc_api_Device_api_Device_api_Device_api_Device_B, C.slices_EqualFunc_api_Device_api_Device_api_Device_api_Device, hil']
    refine ⟨⟨true, rfl, ?_⟩, hle⟩
    rw [hie, List.take_length, ← hab, List.take_length] at h0
    simp [h0]
  have hia : i < a.length := by omega
  have hil' : (i : Int) < (b.length : Nat) := by omega
  have hz : (0:Int) ≤ (i : Int) ∧ (i : Int) < (a.length : Nat) := by omega
  have hz2 : (0:Int) ≤ (i : Int) ∧ (i : Int) < (b.length : Nat) := by omega
  have hw : IntKind.i64.wrap ((i : Int) + 1) = ((i + 1 : Nat) : Int) := by rw [wrap64] <;> omega
  have hfa := flatMap_fits (f := Dev.cells) (k := 6) (fun _ => rfl) (l := a) hia
  have hta := flatMap_at (f := Dev.cells) (k := 6) (fun _ => rfl) (l := a) hia
  have hfb := flatMap_fits (f := Dev.cells) (k := 6) (fun _ => rfl) (l := b) hil
  have htb := flatMap_at (f := Dev.cells) (k := 6) (fun _ => rfl) (l := b) hil
  obtain ⟨ca, hca⟩ : ∃ ca, ca = Dev.cells a[i] := ⟨_, rfl⟩
  obtain ⟨cb, hcb⟩ : ∃ cb, cb = Dev.cells b[i] := ⟨_, rfl⟩
  have hla : ca.length = 6 := by rw [hca]; rfl
  have hlb : cb.length = 6 := by rw [hcb]; rfl
  have hva : allLeaf ca = true := by rw [hca]; rfl
  have hvb : allLeaf cb = true := by rw [hcb]; rfl
  have hpa : putN [.int .i64 0, .int .i64 0, .int .i64 0, .int .u32 0, .nils, .nils] 0 ca = ca := by rw [hca]; rfl
  have hpb : putN [.int .i64 0, .int .i64 0, .int .i64 0, .int .u32 0, .nils, .nils] 0 cb = cb := by rw [hcb]; rfl
  rw [← hca] at hta
  rw [← hcb] at htb
  simp only [↓Bp, Bq, Bs, ↓aop.eq_28, ↓aop.eq_30, Nat.reduceEqDiff, Nat.reduceAdd, Nat.reduceMul, Nat.reduceSub, Nat.reduceLeDiff, Nat.reduceLT, Int.reduceLT, Int.reduceLE, Int.reduceEq, Int.reduceToNat, Int.reduceAdd, Int.reduceSub, Int.reduceNeg, ↓reduceIte, reduceCtorEq, ↓C.slices_EqualFunc_api_Device_api_Device_api_Device_api_Device_r10_w, C.slices_EqualFunc_api_Device_api_Device_api_Device_api_Device_r10_b, ↓C.slices_EqualFunc_api_Device_api_Device_api_Device_api_Device_c1_w, ↓C.slices_EqualFunc_api_Device_api_Device_api_Device_api_Device_r9_w, C.slices_EqualFunc_api_Device_api_Device_api_Device_api_Device_r9_b, ↓C.slices_EqualFunc_api_Device_api_Device_api_Device_api_Device_c2_w, ↓C.slices_EqualFunc_api_Device_api_Device_api_Device_api_Device_r5_w, C.slices_EqualFunc_api_Device_api_Device_api_Device_api_Device_r5_b, ↓C.slices_EqualFunc_api_Device_api_Device_api_Device_api_Device_b7_w, ↓C.slices_EqualFunc_api_Device_api_Device_api_Device_api_Device_c8_w, ↓C.slices_EqualFunc_api_Device_api_Device_api_Device_api_Device_c9_w, ↓C.slices_EqualFunc_api_Device_api_Device_api_Device_api_Device_r4_w, C.slices_EqualFunc_api_Device_api_Device_api_Device_api_Device_r4_b, ↓C.slices_EqualFunc_api_Device_api_Device_api_Device_api_Device_b11_w, ↓C.slices_EqualFunc_api_Device_api_Device_api_Device_api_Device_c12_w, ↓C.slices_EqualFunc_api_Device_api_Device_api_Device_api_Device_r3_w, C.slices_EqualFunc_api_Device_api_Device_api_Device_api_Device_r3_b, ↓C.slices_EqualFunc_api_Device_api_Device_api_Device_api_Device_c13_w, ↓C.slices_EqualFunc_api_Device_api_Device_api_Device_api_Device_r2_w, C.slices_EqualFunc_api_Device_api_Device_api_Device_api_Device_r2_b, ↓C.slices_EqualFunc_api_Device_api_Device_api_Device_api_Device_c14_w, ↓C.slices_EqualFunc_api_Device_api_Device_api_Device_api_Device_c15_w, ↓C.slices_EqualFunc_api_Device_api_Device_api_Device_api_Device_r1_w, C.slices_EqualFunc_api_Device_api_Device_api_Device_api_Device_r1_b, ↓C.slices_EqualFunc_api_Device_api_Device_api_Device_api_Device_c16_w, ↓C.slices_EqualFunc_api_Device_api_Device_api_Device_api_Device_r0_w, C.slices_EqualFunc_api_Device_api_Device_api_Device_api_Device_r0_b, C.slices_EqualFunc_api_Device_api_Device_api_Device_api_Device, hil', hz, Int.toNat_natCast, hfa, hta]
  intro x hx1
  simp only [↓Bp, Bq, Bs, ↓aop.eq_28, ↓aop.eq_30, Nat.reduceEqDiff, Nat.reduceAdd, Nat.reduceMul, Nat.reduceSub, Nat.reduceLeDiff, Nat.reduceLT, Int.reduceLT, Int.reduceLE, Int.reduceEq, Int.reduceToNat, Int.reduceAdd, Int.reduceSub, Int.reduceNeg, ↓reduceIte, reduceCtorEq, ↓C.slices_EqualFunc_api_Device_api_Device_api_Device_api_Device_r10_w, C.slices_EqualFunc_api_Device_api_Device_api_Device_api_Device_r10_b, ↓C.slices_EqualFunc_api_Device_api_Device_api_Device_api_Device_c1_w, ↓C.slices_EqualFunc_api_Device_api_Device_api_Device_api_Device_r9_w, C.slices_EqualFunc_api_Device_api_Device_api_Device_api_Device_r9_b, ↓C.slices_EqualFunc_api_Device_api_Device_api_Device_api_Device_c2_w, ↓C.slices_EqualFunc_api_Device_api_Device_api_Device_api_Device_r5_w, C.slices_EqualFunc_api_Device_api_Device_api_Device_api_Device_r5_b, ↓C.slices_EqualFunc_api_Device_api_Device_api_Device_api_Device_b7_w, ↓C.slices_EqualFunc_api_Device_api_Device_api_Device_api_Device_c8_w, ↓C.slices_EqualFunc_api_Device_api_Device_api_Device_api_Device_c9_w, ↓C.slices_EqualFunc_api_Device_api_Device_api_Device_api_Device_r4_w, C.slices_EqualFunc_api_Device_api_Device_api_Device_api_Device_r4_b, ↓C.slices_EqualFunc_api_Device_api_Device_api_Device_api_Device_b11_w, ↓C.slices_EqualFunc_api_Device_api_Device_api_Device_api_Device_c12_w, ↓C.slices_EqualFunc_api_Device_api_Device_api_Device_api_Device_r3_w, C.slices_EqualFunc_api_Device_api_Device_api_Device_api_Device_r3_b, ↓C.slices_EqualFunc_api_Device_api_Device_api_Device_api_Device_c13_w, ↓C.slices_EqualFunc_api_Device_api_Device_api_Device_api_Device_r2_w, C.slices_EqualFunc_api_Device_api_Device_api_Device_api_Device_r2_b, ↓C.slices_EqualFunc_api_Device_api_Device_api_Device_api_Device_c14_w, ↓C.slices_EqualFunc_api_Device_api_Device_api_Device_api_Device_c15_w, ↓C.slices_EqualFunc_api_Device_api_Device_api_Device_api_Device_r1_w, C.slices_EqualFunc_api_Device_api_Device_api_Device_api_Device_r1_b, ↓C.slices_EqualFunc_api_Device_api_Device_api_Device_api_Device_c16_w, ↓C.slices_EqualFunc_api_Device_api_Device_api_Device_api_Device_r0_w, C.slices_EqualFunc_api_Device_api_Device_api_Device_api_Device_r0_b, C.slices_EqualFunc_api_Device_api_Device_api_Device_api_Device, hla, hva, hx1]
  rw [hpa]
  simp only [↓Bp, Bq, Bs, ↓aop.eq_28, ↓aop.eq_30, Nat.reduceEqDiff, Nat.reduceAdd, Nat.reduceMul, Nat.reduceSub, Nat.reduceLeDiff, Nat.reduceLT, Int.reduceLT, Int.reduceLE, Int.reduceEq, Int.reduceToNat, Int.reduceAdd, Int.reduceSub, Int.reduceNeg, ↓reduceIte, reduceCtorEq, ↓C.slices_EqualFunc_api_Device_api_Device_api_Device_api_Device_r10_w, C.slices_EqualFunc_api_Device_api_Device_api_Device_api_Device_r10_b, ↓C.slices_EqualFunc_api_Device_api_Device_api_Device_api_Device_c1_w, ↓C.slices_EqualFunc_api_Device_api_Device_api_Device_api_Device_r9_w, C.slices_EqualFunc_api_Device_api_Device_api_Device_api_Device_r9_b, ↓C.slices_EqualFunc_api_Device_api_Device_api_Device_api_Device_c2_w, ↓C.slices_EqualFunc_api_Device_api_Device_api_Device_api_Device_r6_w, C.slices_EqualFunc_api_Device_api_Device_api_Device_api_Device_r6_b, ↓C.slices_EqualFunc_api_Device_api_Device_api_Device_api_Device_c6_w, ↓C.slices_EqualFunc_api_Device_api_Device_api_Device_api_Device_r5_w, C.slices_EqualFunc_api_Device_api_Device_api_Device_api_Device_r5_b, ↓C.slices_EqualFunc_api_Device_api_Device_api_Device_api_Device_b7_w, ↓C.slices_EqualFunc_api_Device_api_Device_api_Device_api_Device_c8_w, ↓C.slices_EqualFunc_api_Device_api_Device_api_Device_api_Device_c9_w, ↓C.slices_EqualFunc_api_Device_api_Device_api_Device_api_Device_r4_w, C.slices_EqualFunc_api_Device_api_Device_api_Device_api_Device_r4_b, ↓C.slices_EqualFunc_api_Device_api_Device_api_Device_api_Device_b11_w, ↓C.slices_EqualFunc_api_Device_api_Device_api_Device_api_Device_c12_w, ↓C.slices_EqualFunc_api_Device_api_Device_api_Device_api_Device_r3_w, C.slices_EqualFunc_api_Device_api_Device_api_Device_api_Device_r3_b, ↓C.slices_EqualFunc_api_Device_api_Device_api_Device_api_Device_c13_w, ↓C.slices_EqualFunc_api_Device_api_Device_api_Device_api_Device_r2_w, C.slices_EqualFunc_api_Device_api_Device_api_Device_api_Device_r2_b, ↓C.slices_EqualFunc_api_Device_api_Device_api_Device_api_Device_c14_w, ↓C.slices_EqualFunc_api_Device_api_Device_api_Device_api_Device_c15_w, ↓C.slices_EqualFunc_api_Device_api_Device_api_Device_api_Device_r1_w, C.slices_EqualFunc_api_Device_api_Device_api_Device_api_Device_r1_b, ↓C.slices_EqualFunc_api_Device_api_Device_api_Device_api_Device_c16_w, ↓C.slices_EqualFunc_api_Device_api_Device_api_Device_api_Device_r0_w, C.slices_EqualFunc_api_Device_api_Device_api_Device_api_Device_r0_b, C.slices_EqualFunc_api_Device_api_Device_api_Device_api_Device, hz2, Int.toNat_natCast, hfb, htb]
  rintro y ⟨hy1, hyx⟩
  have hxy : ¬ x = y := fun e => hyx e.symm
  simp only [↓Bp, Bq, Bs, ↓aop.eq_28, ↓aop.eq_30, Nat.reduceEqDiff, Nat.reduceAdd, Nat.reduceMul, Nat.reduceSub, Nat.reduceLeDiff, Nat.reduceLT, Int.reduceLT, Int.reduceLE, Int.reduceEq, Int.reduceToNat, Int.reduceAdd, Int.reduceSub, Int.reduceNeg, ↓reduceIte, reduceCtorEq, ↓C.slices_EqualFunc_api_Device_api_Device_api_Device_api_Device_r10_w, C.slices_EqualFunc_api_Device_api_Device_api_Device_api_Device_r10_b, ↓C.slices_EqualFunc_api_Device_api_Device_api_Device_api_Device_c1_w, ↓C.slices_EqualFunc_api_Device_api_Device_api_Device_api_Device_r9_w, C.slices_EqualFunc_api_Device_api_Device_api_Device_api_Device_r9_b, ↓C.slices_EqualFunc_api_Device_api_Device_api_Device_api_Device_c2_w, ↓C.slices_EqualFunc_api_Device_api_Device_api_Device_api_Device_r6_w, C.slices_EqualFunc_api_Device_api_Device_api_Device_api_Device_r6_b, ↓C.slices_EqualFunc_api_Device_api_Device_api_Device_api_Device_c6_w, ↓C.slices_EqualFunc_api_Device_api_Device_api_Device_api_Device_r5_w, C.slices_EqualFunc_api_Device_api_Device_api_Device_api_Device_r5_b, ↓C.slices_EqualFunc_api_Device_api_Device_api_Device_api_Device_b7_w, ↓C.slices_EqualFunc_api_Device_api_Device_api_Device_api_Device_c8_w, ↓C.slices_EqualFunc_api_Device_api_Device_api_Device_api_Device_c9_w, ↓C.slices_EqualFunc_api_Device_api_Device_api_Device_api_Device_r4_w, C.slices_EqualFunc_api_Device_api_Device_api_Device_api_Device_r4_b, ↓C.slices_EqualFunc_api_Device_api_Device_api_Device_api_Device_b11_w, ↓C.slices_EqualFunc_api_Device_api_Device_api_Device_api_Device_c12_w, ↓C.slices_EqualFunc_api_Device_api_Device_api_Device_api_Device_r3_w, C.slices_EqualFunc_api_Device_api_Device_api_Device_api_Device_r3_b, ↓C.slices_EqualFunc_api_Device_api_Device_api_Device_api_Device_c13_w, ↓C.slices_EqualFunc_api_Device_api_Device_api_Device_api_Device_r2_w, C.slices_EqualFunc_api_Device_api_Device_api_Device_api_Device_r2_b, ↓C.slices_EqualFunc_api_Device_api_Device_api_Device_api_Device_c14_w, ↓C.slices_EqualFunc_api_Device_api_Device_api_Device_api_Device_c15_w, ↓C.slices_EqualFunc_api_Device_api_Device_api_Device_api_Device_r1_w, C.slices_EqualFunc_api_Device_api_Device_api_Device_api_Device_r1_b, ↓C.slices_EqualFunc_api_Device_api_Device_api_Device_api_Device_c16_w, ↓C.slices_EqualFunc_api_Device_api_Device_api_Device_api_Device_r0_w, C.slices_EqualFunc_api_Device_api_Device_api_Device_api_Device_r0_b, C.slices_EqualFunc_api_Device_api_Device_api_Device_api_Device, hlb, hvb, hx1, hy1, hxy, hyx]
  rw [hpb]
  have e1 : AV.agg (List.take 6 ca) = .agg ca := by rw [← hla, List.take_length]
  have e2 : AV.agg (List.take 6 cb) = .agg cb := by rw [← hlb, List.take_length]
  simp only [↓Bp, Bq, Bs, ↓aop.eq_28, ↓aop.eq_30, Nat.reduceEqDiff, Nat.reduceAdd, Nat.reduceMul, Nat.reduceSub, Nat.reduceLeDiff, Nat.reduceLT, Int.reduceLT, Int.reduceLE, Int.reduceEq, Int.reduceToNat, Int.reduceAdd, Int.reduceSub, Int.reduceNeg, ↓reduceIte, reduceCtorEq, ↓C.slices_EqualFunc_api_Device_api_Device_api_Device_api_Device_W, C.slices_EqualFunc_api_Device_api_Device_api_Device_api_Device_B, C.slices_EqualFunc_api_Device_api_Device_api_Device_api_Device, hx1, hy1, hxy, hyx, hla, hlb, e1, e2]
  rw [hca, hcb]
  refine ⟨rfl, (sameDevice_spec (hx _ (List.getElem_mem hia)).1 (hx _ (List.getElem_mem hia)).2).mono ?_⟩
  rintro r s2 ⟨⟨t, rfl, ht⟩, rfl⟩
  have hle2 := hle.trans ((le_new_set (a := AObj.cells [.int .i64 0, .int .i64 0, .int .i64 0, .int .u32 0, .nils, .nils]) (b := AObj.cells (Dev.cells a[i])) hx1).trans (le_new_set (id := y) (a := AObj.cells [.int .i64 0, .int .i64 0, .int .i64 0, .int .u32 0, .nils, .nils]) (b := AObj.cells (Dev.cells b[i])) (by rw [ASt.set_none, ASt.new_none]; exact ⟨hy1, hyx⟩)))
  cases t
  · have he : ¬ a[i] = b[i] := fun e => by simpa using ht.mpr e
    simp only [↓Bp, Bq, Bs, ↓aop.eq_28, ↓aop.eq_30, Nat.reduceEqDiff, Nat.reduceAdd, Nat.reduceMul, Nat.reduceSub, Nat.reduceLeDiff, Nat.reduceLT, Int.reduceLT, Int.reduceLE, Int.reduceEq, Int.reduceToNat, Int.reduceAdd, Int.reduceSub, Int.reduceNeg, ↓reduceIte, reduceCtorEq, ↓C.slices_EqualFunc_api_Device_api_Device_api_Device_api_Device_W, C.slices_EqualFunc_api_Device_api_Device_api_Device_api_Device_B, C.slices_EqualFunc_api_Device_api_Device_api_Device_api_Device]
    exact ⟨⟨false, rfl, by simp; rintro rfl; exact he rfl⟩, hle2⟩
  · simp only [↓Bp, Bq, Bs, ↓aop.eq_28, ↓aop.eq_30, Nat.reduceEqDiff, Nat.reduceAdd, Nat.reduceMul, Nat.reduceSub, Nat.reduceLeDiff, Nat.reduceLT, Int.reduceLT, Int.reduceLE, Int.reduceEq, Int.reduceToNat, Int.reduceAdd, Int.reduceSub, Int.reduceNeg, ↓reduceIte, reduceCtorEq, ↓C.slices_EqualFunc_api_Device_api_Device_api_Device_api_Device_W, C.slices_EqualFunc_api_Device_api_Device_api_Device_api_Device_B, C.slices_EqualFunc_api_Device_api_Device_api_Device_api_Device, hw]
    exact ⟨i + 1, rfl, ⟨hle2, by omega, take_eq_step hia hil h0 (ht.mp rfl)⟩, by omega⟩

theorem conf_same_spec {st : ASt} {a b : Soc} (ha : a.sane) : ACalls Try.prog F.conf_Same [.agg a.cells, .agg b.cells] st fun r s => (∃ t, r = .bool t ∧ (t = true ↔ a = b)) ∧ s = st := by
  refine ACalls.gc (Q' := fun r s => (∃ t, r = .bool t ∧ (t = true ↔ a = b)) ∧ st.le s) (calls_of_awp L.conf_Same rfl ?_) (fun v s ⟨h, hl⟩ => ⟨st, hl, h, rfl⟩)
  simp only [↓Bp, Bq, Bs, ↓aop.eq_28, ↓aop.eq_30, Nat.reduceEqDiff, Nat.reduceAdd, Nat.reduceMul, Nat.reduceSub, Nat.reduceLeDiff, Nat.reduceLT, Int.reduceLT, Int.reduceLE, Int.reduceEq, Int.reduceToNat, Int.reduceAdd, Int.reduceSub, Int.reduceNeg, ↓reduceIte, reduceCtorEq, ↓C.conf_Same_r0_w, C.conf_Same_r0_b, C.conf_Same]
  rintro i hi j ⟨hj, hij⟩
  have hji : ¬ i = j := fun e => hij e.symm
  rw [Soc.cells, Soc.cells, Soc.eq_iff, Soc.clkV, Soc.clkV, Soc.domV, Soc.domV, Soc.rstV, Soc.rstV, Soc.devV, Soc.devV]
  simp only [↓Bp, Bq, Bs, ↓aop.eq_28, ↓aop.eq_30, Nat.reduceEqDiff, Nat.reduceAdd, Nat.reduceMul, Nat.reduceSub, Nat.reduceLeDiff, Nat.reduceLT, Int.reduceLT, Int.reduceLE, Int.reduceEq, Int.reduceToNat, Int.reduceAdd, Int.reduceSub, Int.reduceNeg, ↓reduceIte, reduceCtorEq, ↓C.conf_Same_W, C.conf_Same_B, C.conf_Same, hi, hj, hij, hji]
  refine (eqf_clk_spec ha.c ha.cs).mono ?_
  rintro r s ⟨⟨t, rfl, ht⟩, rfl⟩
  cases t
  · have h : ¬ a.clocks = b.clocks := fun e => by simpa using ht.mpr e
    simp only [↓Bp, Bq, Bs, ↓aop.eq_28, ↓aop.eq_30, Nat.reduceEqDiff, Nat.reduceAdd, Nat.reduceMul, Nat.reduceSub, Nat.reduceLeDiff, Nat.reduceLT, Int.reduceLT, Int.reduceLE, Int.reduceEq, Int.reduceToNat, Int.reduceAdd, Int.reduceSub, Int.reduceNeg, ↓reduceIte, reduceCtorEq, ↓C.conf_Same_W, C.conf_Same_B, C.conf_Same]
    exact ⟨⟨false, rfl, by simp [h]⟩, (ASt.le.new _ _ _).trans (ASt.le.new _ _ _)⟩
  have h1 : a.clocks = b.clocks := ht.mp rfl
  simp only [↓Bp, Bq, Bs, ↓aop.eq_28, ↓aop.eq_30, Nat.reduceEqDiff, Nat.reduceAdd, Nat.reduceMul, Nat.reduceSub, Nat.reduceLeDiff, Nat.reduceLT, Int.reduceLT, Int.reduceLE, Int.reduceEq, Int.reduceToNat, Int.reduceAdd, Int.reduceSub, Int.reduceNeg, ↓reduceIte, reduceCtorEq, ↓C.conf_Same_W, C.conf_Same_B, C.conf_Same, hi, hj, hij, hji]
  refine (eq_dom_spec ha.d).mono ?_
  rintro r s ⟨⟨t, rfl, ht⟩, rfl⟩
  cases t
  · have h : ¬ a.doms = b.doms := fun e => by simpa using ht.mpr e
    simp only [↓Bp, Bq, Bs, ↓aop.eq_28, ↓aop.eq_30, Nat.reduceEqDiff, Nat.reduceAdd, Nat.reduceMul, Nat.reduceSub, Nat.reduceLeDiff, Nat.reduceLT, Int.reduceLT, Int.reduceLE, Int.reduceEq, Int.reduceToNat, Int.reduceAdd, Int.reduceSub, Int.reduceNeg, ↓reduceIte, reduceCtorEq, ↓C.conf_Same_W, C.conf_Same_B, C.conf_Same]
    exact ⟨⟨false, rfl, by simp [h]⟩, (ASt.le.new _ _ _).trans (ASt.le.new _ _ _)⟩
  have h2 : a.doms = b.doms := ht.mp rfl
  simp only [↓Bp, Bq, Bs, ↓aop.eq_28, ↓aop.eq_30, Nat.reduceEqDiff, Nat.reduceAdd, Nat.reduceMul, Nat.reduceSub, Nat.reduceLeDiff, Nat.reduceLT, Int.reduceLT, Int.reduceLE, Int.reduceEq, Int.reduceToNat, Int.reduceAdd, Int.reduceSub, Int.reduceNeg, ↓reduceIte, reduceCtorEq, ↓C.conf_Same_W, C.conf_Same_B, C.conf_Same, hi, hj, hij, hji]
  refine (eq_rst_spec ha.r).mono ?_
  rintro r s ⟨⟨t, rfl, ht⟩, rfl⟩
  cases t
  · have h : ¬ a.rsts = b.rsts := fun e => by simpa using ht.mpr e
    simp only [↓Bp, Bq, Bs, ↓aop.eq_28, ↓aop.eq_30, Nat.reduceEqDiff, Nat.reduceAdd, Nat.reduceMul, Nat.reduceSub, Nat.reduceLeDiff, Nat.reduceLT, Int.reduceLT, Int.reduceLE, Int.reduceEq, Int.reduceToNat, Int.reduceAdd, Int.reduceSub, Int.reduceNeg, ↓reduceIte, reduceCtorEq, ↓C.conf_Same_W, C.conf_Same_B, C.conf_Same]
    exact ⟨⟨false, rfl, by simp [h]⟩, (ASt.le.new _ _ _).trans (ASt.le.new _ _ _)⟩
  have h3 : a.rsts = b.rsts := ht.mp rfl
  simp only [↓Bp, Bq, Bs, ↓aop.eq_28, ↓aop.eq_30, Nat.reduceEqDiff, Nat.reduceAdd, Nat.reduceMul, Nat.reduceSub, Nat.reduceLeDiff, Nat.reduceLT, Int.reduceLT, Int.reduceLE, Int.reduceEq, Int.reduceToNat, Int.reduceAdd, Int.reduceSub, Int.reduceNeg, ↓reduceIte, reduceCtorEq, ↓C.conf_Same_W, C.conf_Same_B, C.conf_Same, hi, hj, hij, hji]
  refine (eqf_dev_spec ha.v ha.vs).mono ?_
  rintro r s ⟨⟨t, rfl, ht⟩, rfl⟩
  simp only [↓Bp, Bq, Bs, ↓aop.eq_28, ↓aop.eq_30, Nat.reduceEqDiff, Nat.reduceAdd, Nat.reduceMul, Nat.reduceSub, Nat.reduceLeDiff, Nat.reduceLT, Int.reduceLT, Int.reduceLE, Int.reduceEq, Int.reduceToNat, Int.reduceAdd, Int.reduceSub, Int.reduceNeg, ↓reduceIte, reduceCtorEq, ↓C.conf_Same_W, C.conf_Same_B, C.conf_Same]
  exact ⟨⟨_, rfl, by simpa [h1, h2, h3] using ht⟩, (ASt.le.new _ _ _).trans (ASt.le.new _ _ _)⟩
end Go.Proofs.Ytjamidgdhmjhaaa.Cn
