/- Registers: the document's answer, and what the statements share. -/
import Derived.Test.YtlnhljcfcnmglaaCnRegs2
set_option linter.unusedSimpArgs false
set_option linter.unusedVariables false
set_option maxRecDepth 4000
namespace Go.Proofs.Ytlnhljcfcnmglaa.Cn
open Go Go.Proofs

theorem u32s_tab_snoc (n : Nat) (f : Nat → Int) : u32s (tab n f) ++ [.int .u32 (f n)] = u32s (tab (n + 1) f) := by
  simp [u32s, tab, List.range_succ]
theorem regs_getD {made : List Reg} {i : Nat} (h : i < made.length) : resets made i = made[i].reset ∧ retOf made i = made[i].ret := by
  simp [resets, retOf, h]

/-- The document's file. -/
structure RefAt (st : ASt) (id idv : Nat) (made : List Reg) (N S : Nat → Int) (kept : Bool) : Prop where
  file : ∃ m vV vS, st.h id = some (.cells [m, vV, vS, .bool kept]) ∧ MadeAs made m ∧ (made = [] → vV = .nils) ∧ (made ≠ [] → vV = .sl 1 idv 0 made.length) ∧ (kept = true → made ≠ [] → vS = .isl 1 (u32s (tab made.length S)) made.length)
  now : made ≠ [] → st.h idv = some (.cells (u32s (tab made.length N)))
  ne : id ≠ idv
  small : made.length ≤ 8

theorem RefAt.only {st : ASt} {id idv : Nat} {made : List Reg} {N S : Nat → Int} {kept : Bool} (h : RefAt st id idv made N S kept) : RefAt (st.only [id, idv]) id idv made N S kept := by
  obtain ⟨h1, h2, h3, h4⟩ := h
  refine ⟨?_, ?_, h3, h4⟩
  · rw [ASt.only_in (by simp)]; exact h1
  · rw [ASt.only_in (by simp)]; exact h2
theorem RefAt.le {st st' : ASt} {id idv : Nat} {made : List Reg} {N S : Nat → Int} {kept : Bool} (h : RefAt st id idv made N S kept) (hl : st.le st') : RefAt st' id idv made N S kept := by
  obtain ⟨⟨m, vV, vS, h1, h5⟩, h2, h3, h4⟩ := h
  exact ⟨⟨m, vV, vS, hl _ _ h1, h5⟩, fun hm => hl _ _ (h2 hm), h3, h4⟩
theorem RefAt.congr {st : ASt} {id idv : Nat} {made : List Reg} {N S N' S' : Nat → Int} {kept : Bool} (h : RefAt st id idv made N S kept) (hN : ∀ i, i < made.length → N i = N' i) (hS : kept = true → ∀ i, i < made.length → S i = S' i) : RefAt st id idv made N' S' kept := by
  obtain ⟨⟨m, vV, vS, h1, h5, h6, h7, h8⟩, h2, h3, h4⟩ := h
  refine ⟨⟨m, vV, vS, h1, h5, h6, h7, fun hk hm => ?_⟩, fun hm => ?_, h3, h4⟩
  · rw [h8 hk hm, tab_congr (hS hk)]
  · rw [h2 hm, tab_congr hN]

section
variable {st : ASt} {id idv : Nat} {made : List Reg} {N S : Nat → Int} {kept : Bool}

theorem ref_read (h : RefAt st id idv made N S kept) (i : Int) : ACalls Try.prog F.catnapref9_File_Read [.ptr id 0, .int .i64 i] st fun v st' =>
    st' = st ∧ v = if 0 ≤ i ∧ i < made.length then .tup [.int .u32 (N i.toNat), .int .i64 0] else .tup [.int .u32 0, .int .i64 4] := by
  obtain ⟨m, vV, vS, hf, hm, hV1, hV2, hS⟩ := h.file
  have hV : vV.slen = some made.length := by
    by_cases e : made = []
    · rw [hV1 e, e]; rfl
    · rw [hV2 e]; rfl
  refine calls_of_awp L.catnapref9_File_Read rfl ?_
  by_cases h0 : i < 0
  · have : ¬ (0 ≤ i ∧ i < made.length) := by omega
    simp only [↓Bp, Bq, ↓aop.eq_28, ↓aop.eq_30, ↓initFr, aeqP, abinv, abin, aun, bound, aslice, aput, putN, zeros, heldOk, aheadOk, IOp.again, List.map_cons, List.map_nil, List.append_nil, List.nil_append, Nat.reduceEqDiff, Nat.reduceAdd, Nat.reduceMul, Nat.reduceSub, Nat.reduceLeDiff, Nat.reduceLT, Int.reduceLT, Int.reduceLE, Int.reduceEq, Int.reduceToNat, Int.reduceAdd, Int.reduceSub, Int.reduceNeg, not_false_eq_true, not_true_eq_false, if_true, if_false, Bool.false_xor, Bool.true_xor, Bool.false_eq_true, Bool.true_eq_false, Bool.not_true, Bool.not_false, decide_true, decide_false, Nat.zero_add, Nat.add_zero, List.getElem?_cons_zero, List.getElem?_cons_succ, true_and, and_true, and_self, List.length_cons, List.length_nil, ↓reduceIte, reduceCtorEq, Option.some_or, Option.none_or, Option.or_none, eq_self, Option.map_some, List.length_set, List.set_cons_zero, List.set_cons_succ, List.cons_append, List.drop_zero, List.drop_succ_cons, List.take_succ_cons, List.take_zero, List.all_cons, List.all_nil, Bool.and_true, Option.isSome_some, Option.isSome_none, Option.isNone_some, Option.isNone_none, false_and, and_false, ↓C.catnapref9_File_Read_W, C.catnapref9_File_Read_B, C.catnapref9_File_Read, h0, this]
  · by_cases h1 : (made.length : Int) ≤ i
    · have : ¬ (0 ≤ i ∧ i < made.length) := by omega
      simp only [↓Bp, Bq, ↓aop.eq_28, ↓aop.eq_30, ↓initFr, aeqP, abinv, abin, aun, bound, aslice, aput, putN, zeros, heldOk, aheadOk, IOp.again, List.map_cons, List.map_nil, List.append_nil, List.nil_append, Nat.reduceEqDiff, Nat.reduceAdd, Nat.reduceMul, Nat.reduceSub, Nat.reduceLeDiff, Nat.reduceLT, Int.reduceLT, Int.reduceLE, Int.reduceEq, Int.reduceToNat, Int.reduceAdd, Int.reduceSub, Int.reduceNeg, not_false_eq_true, not_true_eq_false, if_true, if_false, Bool.false_xor, Bool.true_xor, Bool.false_eq_true, Bool.true_eq_false, Bool.not_true, Bool.not_false, decide_true, decide_false, Nat.zero_add, Nat.add_zero, List.getElem?_cons_zero, List.getElem?_cons_succ, true_and, and_true, and_self, List.length_cons, List.length_nil, ↓reduceIte, reduceCtorEq, Option.some_or, Option.none_or, Option.or_none, eq_self, Option.map_some, List.length_set, List.set_cons_zero, List.set_cons_succ, List.cons_append, List.drop_zero, List.drop_succ_cons, List.take_succ_cons, List.take_zero, List.all_cons, List.all_nil, Bool.and_true, Option.isSome_some, Option.isSome_none, Option.isNone_some, Option.isNone_none, false_and, and_false, ↓C.catnapref9_File_Read_W, C.catnapref9_File_Read_B, C.catnapref9_File_Read, h0, h1, this, hf, hV]
    · have h2 : 0 ≤ i ∧ i < made.length := by omega
      have hne : made ≠ [] := by rintro rfl; simp at h2; omega
      have hv := hV2 hne
      subst hv
      have h3 : i.toNat < (tab made.length N).length := by rw [tab_length]; omega
      simp only [↓Bp, Bq, ↓aop.eq_28, ↓aop.eq_30, ↓initFr, aeqP, abinv, abin, aun, bound, aslice, aput, putN, zeros, heldOk, aheadOk, IOp.again, List.map_cons, List.map_nil, List.append_nil, List.nil_append, Nat.reduceEqDiff, Nat.reduceAdd, Nat.reduceMul, Nat.reduceSub, Nat.reduceLeDiff, Nat.reduceLT, Int.reduceLT, Int.reduceLE, Int.reduceEq, Int.reduceToNat, Int.reduceAdd, Int.reduceSub, Int.reduceNeg, not_false_eq_true, not_true_eq_false, if_true, if_false, Bool.false_xor, Bool.true_xor, Bool.false_eq_true, Bool.true_eq_false, Bool.not_true, Bool.not_false, decide_true, decide_false, Nat.zero_add, Nat.add_zero, List.getElem?_cons_zero, List.getElem?_cons_succ, true_and, and_true, and_self, List.length_cons, List.length_nil, ↓reduceIte, reduceCtorEq, Option.some_or, Option.none_or, Option.or_none, eq_self, Option.map_some, List.length_set, List.set_cons_zero, List.set_cons_succ, List.cons_append, List.drop_zero, List.drop_succ_cons, List.take_succ_cons, List.take_zero, List.all_cons, List.all_nil, Bool.and_true, Option.isSome_some, Option.isSome_none, Option.isNone_some, Option.isNone_none, false_and, and_false, ↓C.catnapref9_File_Read_W, C.catnapref9_File_Read_B, C.catnapref9_File_Read, h0, h1, h2, hf, h.now hne, Nat.mul_one, u32s_get h3]
      simp [tab]

theorem ref_write0 (h : RefAt st id idv made N S kept) (i x : Int) : ACalls Try.prog F.catnapref9_File_Write [.ptr id 0, .int .i64 i, .int .u32 x] st fun v st' =>
    if 0 ≤ i ∧ i < made.length then v = .int .i64 0 ∧ RefAt st' id idv made (fun j => if j = i.toNat then x else N j) S kept else v = .int .i64 4 ∧ RefAt st' id idv made N S kept := by
  obtain ⟨m, vV, vS, hf, hm, hV1, hV2, hS⟩ := h.file
  have hV : vV.slen = some made.length := by
    by_cases e : made = []
    · rw [hV1 e, e]; rfl
    · rw [hV2 e]; rfl
  refine calls_of_awp L.catnapref9_File_Write rfl ?_
  by_cases h0 : i < 0
  · have : ¬ (0 ≤ i ∧ i < made.length) := by omega
    simp only [↓Bp, Bq, ↓aop.eq_28, ↓aop.eq_30, ↓initFr, aeqP, abinv, abin, aun, bound, aslice, aput, putN, zeros, heldOk, aheadOk, IOp.again, List.map_cons, List.map_nil, List.append_nil, List.nil_append, Nat.reduceEqDiff, Nat.reduceAdd, Nat.reduceMul, Nat.reduceSub, Nat.reduceLeDiff, Nat.reduceLT, Int.reduceLT, Int.reduceLE, Int.reduceEq, Int.reduceToNat, Int.reduceAdd, Int.reduceSub, Int.reduceNeg, not_false_eq_true, not_true_eq_false, if_true, if_false, Bool.false_xor, Bool.true_xor, Bool.false_eq_true, Bool.true_eq_false, Bool.not_true, Bool.not_false, decide_true, decide_false, Nat.zero_add, Nat.add_zero, List.getElem?_cons_zero, List.getElem?_cons_succ, true_and, and_true, and_self, List.length_cons, List.length_nil, ↓reduceIte, reduceCtorEq, Option.some_or, Option.none_or, Option.or_none, eq_self, Option.map_some, List.length_set, List.set_cons_zero, List.set_cons_succ, List.cons_append, List.drop_zero, List.drop_succ_cons, List.take_succ_cons, List.take_zero, List.all_cons, List.all_nil, Bool.and_true, Option.isSome_some, Option.isSome_none, Option.isNone_some, Option.isNone_none, false_and, and_false, ↓C.catnapref9_File_Write_W, C.catnapref9_File_Write_B, C.catnapref9_File_Write, h0, this]
    exact h
  · by_cases h1 : (made.length : Int) ≤ i
    · have : ¬ (0 ≤ i ∧ i < made.length) := by omega
      simp only [↓Bp, Bq, ↓aop.eq_28, ↓aop.eq_30, ↓initFr, aeqP, abinv, abin, aun, bound, aslice, aput, putN, zeros, heldOk, aheadOk, IOp.again, List.map_cons, List.map_nil, List.append_nil, List.nil_append, Nat.reduceEqDiff, Nat.reduceAdd, Nat.reduceMul, Nat.reduceSub, Nat.reduceLeDiff, Nat.reduceLT, Int.reduceLT, Int.reduceLE, Int.reduceEq, Int.reduceToNat, Int.reduceAdd, Int.reduceSub, Int.reduceNeg, not_false_eq_true, not_true_eq_false, if_true, if_false, Bool.false_xor, Bool.true_xor, Bool.false_eq_true, Bool.true_eq_false, Bool.not_true, Bool.not_false, decide_true, decide_false, Nat.zero_add, Nat.add_zero, List.getElem?_cons_zero, List.getElem?_cons_succ, true_and, and_true, and_self, List.length_cons, List.length_nil, ↓reduceIte, reduceCtorEq, Option.some_or, Option.none_or, Option.or_none, eq_self, Option.map_some, List.length_set, List.set_cons_zero, List.set_cons_succ, List.cons_append, List.drop_zero, List.drop_succ_cons, List.take_succ_cons, List.take_zero, List.all_cons, List.all_nil, Bool.and_true, Option.isSome_some, Option.isSome_none, Option.isNone_some, Option.isNone_none, false_and, and_false, ↓C.catnapref9_File_Write_W, C.catnapref9_File_Write_B, C.catnapref9_File_Write, h0, h1, this, hf, hV]
      exact h
    · have h2 : 0 ≤ i ∧ i < made.length := by omega
      have hne : made ≠ [] := by rintro rfl; simp at h2; omega
      have hv := hV2 hne
      subst hv
      have h3 : i.toNat < made.length := by omega
      simp only [↓Bp, Bq, ↓aop.eq_28, ↓aop.eq_30, ↓initFr, aeqP, abinv, abin, aun, bound, aslice, aput, putN, zeros, heldOk, aheadOk, IOp.again, List.map_cons, List.map_nil, List.append_nil, List.nil_append, Nat.reduceEqDiff, Nat.reduceAdd, Nat.reduceMul, Nat.reduceSub, Nat.reduceLeDiff, Nat.reduceLT, Int.reduceLT, Int.reduceLE, Int.reduceEq, Int.reduceToNat, Int.reduceAdd, Int.reduceSub, Int.reduceNeg, not_false_eq_true, not_true_eq_false, if_true, if_false, Bool.false_xor, Bool.true_xor, Bool.false_eq_true, Bool.true_eq_false, Bool.not_true, Bool.not_false, decide_true, decide_false, Nat.zero_add, Nat.add_zero, List.getElem?_cons_zero, List.getElem?_cons_succ, true_and, and_true, and_self, List.length_cons, List.length_nil, ↓reduceIte, reduceCtorEq, Option.some_or, Option.none_or, Option.or_none, eq_self, Option.map_some, List.length_set, List.set_cons_zero, List.set_cons_succ, List.cons_append, List.drop_zero, List.drop_succ_cons, List.take_succ_cons, List.take_zero, List.all_cons, List.all_nil, Bool.and_true, Option.isSome_some, Option.isSome_none, Option.isNone_some, Option.isNone_none, false_and, and_false, ↓C.catnapref9_File_Write_W, C.catnapref9_File_Write_B, C.catnapref9_File_Write, h0, h1, h2, hf, h.now hne, Nat.mul_one, u32s_length, tab_length, h3, u32s_set, tab_set]
      refine ⟨⟨m, _, vS, ?_, hm, hV1, hV2, hS⟩, fun _ => ?_, h.ne, h.small⟩
      · rw [ASt.set_h, if_neg h.ne, hf]
      · rw [ASt.set_h, if_pos rfl, h.now hne]; rfl

theorem u32s_take (n : Nat) (f : Nat → Int) : (u32s (tab n f)).take n = u32s (tab n f) := List.take_of_length_le (by rw [u32s_length, tab_length]; exact Nat.le_refl _)

theorem ref_save0 (h : RefAt st id idv made N S kept) : ACalls Try.prog F.catnapref9_File_Save [.ptr id 0] st fun _ st' => RefAt st' id idv made N N true := by
  obtain ⟨m, vV, vS, hf, hm, hV, hV2, hS⟩ := h.file
  have hsm := h.small
  by_cases hne : made = []
  · have hv := hV hne
    subst hne
    subst hv
    refine calls_of_awp L.catnapref9_File_Save rfl ?_
    simp only [↓Bp, Bq, ↓aop.eq_28, ↓aop.eq_30, ↓initFr, aeqP, abinv, abin, aun, bound, aslice, aput, putN, zeros, heldOk, aheadOk, IOp.again, List.map_cons, List.map_nil, List.append_nil, List.nil_append, Nat.reduceEqDiff, Nat.reduceAdd, Nat.reduceMul, Nat.reduceSub, Nat.reduceLeDiff, Nat.reduceLT, Int.reduceLT, Int.reduceLE, Int.reduceEq, Int.reduceToNat, Int.reduceAdd, Int.reduceSub, Int.reduceNeg, not_false_eq_true, not_true_eq_false, if_true, if_false, Bool.false_xor, Bool.true_xor, Bool.false_eq_true, Bool.true_eq_false, Bool.not_true, Bool.not_false, decide_true, decide_false, Nat.zero_add, Nat.add_zero, List.getElem?_cons_zero, List.getElem?_cons_succ, true_and, and_true, and_self, List.length_cons, List.length_nil, ↓reduceIte, reduceCtorEq, Option.some_or, Option.none_or, Option.or_none, eq_self, Option.map_some, List.length_set, List.set_cons_zero, List.set_cons_succ, List.cons_append, List.drop_zero, List.drop_succ_cons, List.take_succ_cons, List.take_zero, List.all_cons, List.all_nil, Bool.and_true, Option.isSome_some, Option.isSome_none, Option.isNone_some, Option.isNone_none, false_and, and_false, ↓C.catnapref9_File_Save_W, C.catnapref9_File_Save_B, C.catnapref9_File_Save, hf, ASt.seen, allLeaf]
    intro i1 hi1
    have e : id ≠ i1 := (ASt.ne hi1 hf).symm
    refine ⟨⟨m, .nils, .sl 1 i1 0 0, ?_, hm, fun _ => rfl, fun x => absurd rfl x, fun _ x => absurd rfl x⟩, fun x => absurd rfl x, h.ne, h.small⟩
    · simp only [↓Bp, Bq, ↓aop.eq_28, ↓aop.eq_30, ↓initFr, aeqP, abinv, abin, aun, bound, aslice, aput, putN, zeros, heldOk, aheadOk, IOp.again, List.map_cons, List.map_nil, List.append_nil, List.nil_append, Nat.reduceEqDiff, Nat.reduceAdd, Nat.reduceMul, Nat.reduceSub, Nat.reduceLeDiff, Nat.reduceLT, Int.reduceLT, Int.reduceLE, Int.reduceEq, Int.reduceToNat, Int.reduceAdd, Int.reduceSub, Int.reduceNeg, not_false_eq_true, not_true_eq_false, if_true, if_false, Bool.false_xor, Bool.true_xor, Bool.false_eq_true, Bool.true_eq_false, Bool.not_true, Bool.not_false, decide_true, decide_false, Nat.zero_add, Nat.add_zero, List.getElem?_cons_zero, List.getElem?_cons_succ, true_and, and_true, and_self, List.length_cons, List.length_nil, ↓reduceIte, reduceCtorEq, Option.some_or, Option.none_or, Option.or_none, eq_self, Option.map_some, List.length_set, List.set_cons_zero, List.set_cons_succ, List.cons_append, List.drop_zero, List.drop_succ_cons, List.take_succ_cons, List.take_zero, List.all_cons, List.all_nil, Bool.and_true, Option.isSome_some, Option.isSome_none, Option.isNone_some, Option.isNone_none, false_and, and_false, hf, e]
  · have hv := hV2 hne
    subst hv
    have hn := h.now hne
    have hl : made.length ≠ 0 := fun e => hne (List.eq_nil_of_length_eq_zero e)
    have hi := h.ne
    refine ACalls.ghost (Q' := fun v st' => ∃ i2, i2 ≠ id ∧ i2 ≠ idv ∧ st'.h id = some (.cells [m, .sl 1 idv 0 made.length, .sl 1 i2 0 made.length, .bool true]) ∧ st'.h idv = some (.cells (u32s (tab made.length N))) ∧ st'.h i2 = some (.cells (u32s (tab made.length N)))) (calls_of_awp L.catnapref9_File_Save rfl ?_) ?_
    · simp only [↓Bp, Bq, ↓aop.eq_28, ↓aop.eq_30, ↓initFr, aeqP, abinv, abin, aun, bound, aslice, aput, putN, zeros, heldOk, aheadOk, IOp.again, List.map_cons, List.map_nil, List.append_nil, List.nil_append, Nat.reduceEqDiff, Nat.reduceAdd, Nat.reduceMul, Nat.reduceSub, Nat.reduceLeDiff, Nat.reduceLT, Int.reduceLT, Int.reduceLE, Int.reduceEq, Int.reduceToNat, Int.reduceAdd, Int.reduceSub, Int.reduceNeg, not_false_eq_true, not_true_eq_false, if_true, if_false, Bool.false_xor, Bool.true_xor, Bool.false_eq_true, Bool.true_eq_false, Bool.not_true, Bool.not_false, decide_true, decide_false, Nat.zero_add, Nat.add_zero, List.getElem?_cons_zero, List.getElem?_cons_succ, true_and, and_true, and_self, List.length_cons, List.length_nil, ↓reduceIte, reduceCtorEq, Option.some_or, Option.none_or, Option.or_none, eq_self, Option.map_some, List.length_set, List.set_cons_zero, List.set_cons_succ, List.cons_append, List.drop_zero, List.drop_succ_cons, List.take_succ_cons, List.take_zero, List.all_cons, List.all_nil, Bool.and_true, Option.isSome_some, Option.isSome_none, Option.isNone_some, Option.isNone_none, false_and, and_false, ↓C.catnapref9_File_Save_W, C.catnapref9_File_Save_B, C.catnapref9_File_Save]
      intro i1 hi1
      have e1 : id ≠ i1 := (ASt.ne hi1 hf).symm
      have e2 : idv ≠ i1 := (ASt.ne hi1 hn).symm
      have hsm2 : 0 + made.length ≤ 4294967296 := by omega
      simp only [↓Bp, Bq, ↓aop.eq_28, ↓aop.eq_30, ↓initFr, aeqP, abinv, abin, aun, bound, aslice, aput, putN, zeros, heldOk, aheadOk, IOp.again, List.map_cons, List.map_nil, List.append_nil, List.nil_append, Nat.reduceEqDiff, Nat.reduceAdd, Nat.reduceMul, Nat.reduceSub, Nat.reduceLeDiff, Nat.reduceLT, Int.reduceLT, Int.reduceLE, Int.reduceEq, Int.reduceToNat, Int.reduceAdd, Int.reduceSub, Int.reduceNeg, not_false_eq_true, not_true_eq_false, if_true, if_false, Bool.false_xor, Bool.true_xor, Bool.false_eq_true, Bool.true_eq_false, Bool.not_true, Bool.not_false, decide_true, decide_false, Nat.zero_add, Nat.add_zero, List.getElem?_cons_zero, List.getElem?_cons_succ, true_and, and_true, and_self, List.length_cons, List.length_nil, ↓reduceIte, reduceCtorEq, Option.some_or, Option.none_or, Option.or_none, eq_self, Option.map_some, List.length_set, List.set_cons_zero, List.set_cons_succ, List.cons_append, List.drop_zero, List.drop_succ_cons, List.take_succ_cons, List.take_zero, List.all_cons, List.all_nil, Bool.and_true, Option.isSome_some, Option.isSome_none, Option.isNone_some, Option.isNone_none, false_and, and_false, ↓C.catnapref9_File_Save_W, C.catnapref9_File_Save_B, C.catnapref9_File_Save, hf, hn, e1, e2, ASt.seen, u32s_leaf, Nat.mul_one, u32s_length, tab_length, Nat.le_refl, u32s_take, hl, hsm2, hi1, Nat.zero_mul]
      refine ⟨by omega, fun i2 ⟨hi2, e5⟩ => ?_⟩
      have e3 : ¬ i2 = id := by rintro rfl; rw [hf] at hi2; cases hi2
      have e4 : ¬ i2 = idv := by rintro rfl; rw [hn] at hi2; cases hi2
      refine ⟨i2, e3, e4, rfl, ?_, ?_⟩
      · simp only [↓Bp, Bq, ↓aop.eq_28, ↓aop.eq_30, ↓initFr, aeqP, abinv, abin, aun, bound, aslice, aput, putN, zeros, heldOk, aheadOk, IOp.again, List.map_cons, List.map_nil, List.append_nil, List.nil_append, Nat.reduceEqDiff, Nat.reduceAdd, Nat.reduceMul, Nat.reduceSub, Nat.reduceLeDiff, Nat.reduceLT, Int.reduceLT, Int.reduceLE, Int.reduceEq, Int.reduceToNat, Int.reduceAdd, Int.reduceSub, Int.reduceNeg, not_false_eq_true, not_true_eq_false, if_true, if_false, Bool.false_xor, Bool.true_xor, Bool.false_eq_true, Bool.true_eq_false, Bool.not_true, Bool.not_false, decide_true, decide_false, Nat.zero_add, Nat.add_zero, List.getElem?_cons_zero, List.getElem?_cons_succ, true_and, and_true, and_self, List.length_cons, List.length_nil, ↓reduceIte, reduceCtorEq, Option.some_or, Option.none_or, Option.or_none, eq_self, Option.map_some, List.length_set, List.set_cons_zero, List.set_cons_succ, List.cons_append, List.drop_zero, List.drop_succ_cons, List.take_succ_cons, List.take_zero, List.all_cons, List.all_nil, Bool.and_true, Option.isSome_some, Option.isSome_none, Option.isNone_some, Option.isNone_none, false_and, and_false, hi.symm]
      · simp only [↓Bp, Bq, ↓aop.eq_28, ↓aop.eq_30, ↓initFr, aeqP, abinv, abin, aun, bound, aslice, aput, putN, zeros, heldOk, aheadOk, IOp.again, List.map_cons, List.map_nil, List.append_nil, List.nil_append, Nat.reduceEqDiff, Nat.reduceAdd, Nat.reduceMul, Nat.reduceSub, Nat.reduceLeDiff, Nat.reduceLT, Int.reduceLT, Int.reduceLE, Int.reduceEq, Int.reduceToNat, Int.reduceAdd, Int.reduceSub, Int.reduceNeg, not_false_eq_true, not_true_eq_false, if_true, if_false, Bool.false_xor, Bool.true_xor, Bool.false_eq_true, Bool.true_eq_false, Bool.not_true, Bool.not_false, decide_true, decide_false, Nat.zero_add, Nat.add_zero, List.getElem?_cons_zero, List.getElem?_cons_succ, true_and, and_true, and_self, List.length_cons, List.length_nil, ↓reduceIte, reduceCtorEq, Option.some_or, Option.none_or, Option.or_none, eq_self, Option.map_some, List.length_set, List.set_cons_zero, List.set_cons_succ, List.cons_append, List.drop_zero, List.drop_succ_cons, List.take_succ_cons, List.take_zero, List.all_cons, List.all_nil, Bool.and_true, Option.isSome_some, Option.isSome_none, Option.isNone_some, Option.isNone_none, false_and, and_false, hi2, e3, e5]
    · rintro v st' ⟨i2, e1, e2, h1, h2, h3⟩
      refine ⟨v, _, Ghost.cell h1 (j := 2) rfl h3 e1.symm, ⟨m, _, _, ?_, hm, fun x => absurd x hne, fun _ => rfl, fun _ _ => rfl⟩, fun _ => ?_, h.ne, h.small⟩
      · simp only [↓Bp, Bq, ↓aop.eq_28, ↓aop.eq_30, ↓initFr, aeqP, abinv, abin, aun, bound, aslice, aput, putN, zeros, heldOk, aheadOk, IOp.again, List.map_cons, List.map_nil, List.append_nil, List.nil_append, Nat.reduceEqDiff, Nat.reduceAdd, Nat.reduceMul, Nat.reduceSub, Nat.reduceLeDiff, Nat.reduceLT, Int.reduceLT, Int.reduceLE, Int.reduceEq, Int.reduceToNat, Int.reduceAdd, Int.reduceSub, Int.reduceNeg, not_false_eq_true, not_true_eq_false, if_true, if_false, Bool.false_xor, Bool.true_xor, Bool.false_eq_true, Bool.true_eq_false, Bool.not_true, Bool.not_false, decide_true, decide_false, Nat.zero_add, Nat.add_zero, List.getElem?_cons_zero, List.getElem?_cons_succ, true_and, and_true, and_self, List.length_cons, List.length_nil, ↓reduceIte, reduceCtorEq, Option.some_or, Option.none_or, Option.or_none, eq_self, Option.map_some, List.length_set, List.set_cons_zero, List.set_cons_succ, List.cons_append, List.drop_zero, List.drop_succ_cons, List.take_succ_cons, List.take_zero, List.all_cons, List.all_nil, Bool.and_true, Option.isSome_some, Option.isSome_none, Option.isNone_some, Option.isNone_none, false_and, and_false, e1.symm, h1]
      · simp only [↓Bp, Bq, ↓aop.eq_28, ↓aop.eq_30, ↓initFr, aeqP, abinv, abin, aun, bound, aslice, aput, putN, zeros, heldOk, aheadOk, IOp.again, List.map_cons, List.map_nil, List.append_nil, List.nil_append, Nat.reduceEqDiff, Nat.reduceAdd, Nat.reduceMul, Nat.reduceSub, Nat.reduceLeDiff, Nat.reduceLT, Int.reduceLT, Int.reduceLE, Int.reduceEq, Int.reduceToNat, Int.reduceAdd, Int.reduceSub, Int.reduceNeg, not_false_eq_true, not_true_eq_false, if_true, if_false, Bool.false_xor, Bool.true_xor, Bool.false_eq_true, Bool.true_eq_false, Bool.not_true, Bool.not_false, decide_true, decide_false, Nat.zero_add, Nat.add_zero, List.getElem?_cons_zero, List.getElem?_cons_succ, true_and, and_true, and_self, List.length_cons, List.length_nil, ↓reduceIte, reduceCtorEq, Option.some_or, Option.none_or, Option.or_none, eq_self, Option.map_some, List.length_set, List.set_cons_zero, List.set_cons_succ, List.cons_append, List.drop_zero, List.drop_succ_cons, List.take_succ_cons, List.take_zero, List.all_cons, List.all_nil, Bool.and_true, Option.isSome_some, Option.isSome_none, Option.isNone_some, Option.isNone_none, false_and, and_false, e1.symm, e2.symm, h2, hi.symm]

theorem ref_restore0 (h : RefAt st id idv made N S kept) : ACalls Try.prog F.catnapref9_File_Restore [.ptr id 0] st fun _ st' => RefAt st' id idv made (fun j => if (kept && retOf made j) = true then S j else resets made j) S kept := by
  refine calls_of_awp L.catnapref9_File_Restore rfl ?_
  simp only [↓Bp, Bq, ↓aop.eq_28, ↓aop.eq_30, ↓initFr, aeqP, abinv, abin, aun, bound, aslice, aput, putN, zeros, heldOk, aheadOk, IOp.again, List.map_cons, List.map_nil, List.append_nil, List.nil_append, Nat.reduceEqDiff, Nat.reduceAdd, Nat.reduceMul, Nat.reduceSub, Nat.reduceLeDiff, Nat.reduceLT, Int.reduceLT, Int.reduceLE, Int.reduceEq, Int.reduceToNat, Int.reduceAdd, Int.reduceSub, Int.reduceNeg, not_false_eq_true, not_true_eq_false, if_true, if_false, Bool.false_xor, Bool.true_xor, Bool.false_eq_true, Bool.true_eq_false, Bool.not_true, Bool.not_false, decide_true, decide_false, Nat.zero_add, Nat.add_zero, List.getElem?_cons_zero, List.getElem?_cons_succ, true_and, and_true, and_self, List.length_cons, List.length_nil, ↓reduceIte, reduceCtorEq, Option.some_or, Option.none_or, Option.or_none, eq_self, Option.map_some, List.length_set, List.set_cons_zero, List.set_cons_succ, List.cons_append, List.drop_zero, List.drop_succ_cons, List.take_succ_cons, List.take_zero, List.all_cons, List.all_nil, Bool.and_true, Option.isSome_some, Option.isSome_none, Option.isNone_some, Option.isNone_none, false_and, and_false, ↓C.catnapref9_File_Restore_W, C.catnapref9_File_Restore_B, C.catnapref9_File_Restore]
  refine awp_loopK (fun k : Nat => [(0, .ptr id 0), (2, .int .i64 k)]) (fun k s => k ≤ made.length ∧ RefAt s id idv made (fun j => if j < k then (if (kept && retOf made j) = true then S j else resets made j) else N j) S kept) (fun k => made.length - k) 0 rfl ⟨Nat.zero_le _, h.congr (fun i _ => by simp) (fun _ _ _ => rfl)⟩ ?_
  rintro k s ⟨hk, hr⟩
  obtain ⟨m, vV, vS, hf, ⟨hm1, hm2⟩, hV1, hV2, hS⟩ := hr.file
  by_cases hlt : k < made.length
  · have hne : made ≠ [] := by rintro rfl; simp at hlt
    have hv := hV2 hne
    have hm := hm2 hne
    subst hv
    subst hm
    have hn := hr.now hne
    have hlt' : (k : Int) < (made.length : Nat) := by omega
    have hz : (0:Int) ≤ (k : Int) ∧ (k : Int) < (made.length : Nat) := by omega
    have hw : IntKind.i64.wrap ((k : Int) + 1) = ((k + 1 : Nat) : Int) := by have := h.small; rw [wrap64] <;> omega
    obtain ⟨g1, g2⟩ := flat_get hlt
    obtain ⟨g3, g4⟩ := regs_getD hlt
    have hi := hr.ne
    have hset : ∀ (s' : ASt) (x : Int), s' = (s.set idv (.cells (u32s ((tab made.length fun j => if j < k then (if (kept && retOf made j) = true then S j else resets made j) else N j).set k x)))) → x = (if (kept && retOf made k) = true then S k else resets made k) →
        RefAt s' id idv made (fun j => if j < k + 1 then (if (kept && retOf made j) = true then S j else resets made j) else N j) S kept := by
      rintro s' x rfl hx
      refine ⟨⟨_, _, vS, ?_, ⟨hm1, hm2⟩, hV1, hV2, hS⟩, fun _ => ?_, hi, h.small⟩
      · rw [ASt.set_h, if_neg hi, hf]
      · rw [ASt.set_h, if_pos rfl, hn, Option.map_some, tab_set, hx]
        congr 3
        apply tab_congr
        intro j hj
        by_cases e : j = k
        · subst e; simp
        · simp only [e, if_false]
          by_cases e2 : j < k
          · have e3 : j < k + 1 := by omega
            simp only [e2, e3, if_true]
          · have e3 : ¬ j < k + 1 := by omega
            simp only [e2, e3, if_false]
    by_cases hb : (kept && retOf made k) = true
    · have hb1 : kept = true := by simpa using (Bool.and_eq_true _ _ ▸ hb).1
      subst hb1
      have hb2 : made[k].ret = true := by rw [← g4]; simpa using hb
      have hvS := hS rfl hne
      subst hvS
      have hks : k < (tab made.length S).length := by rw [tab_length]; exact hlt
      simp only [↓Bp, Bq, ↓aop.eq_28, ↓aop.eq_30, ↓initFr, aeqP, abinv, abin, aun, bound, aslice, aput, putN, zeros, heldOk, aheadOk, IOp.again, List.map_cons, List.map_nil, List.append_nil, List.nil_append, Nat.reduceEqDiff, Nat.reduceAdd, Nat.reduceMul, Nat.reduceSub, Nat.reduceLeDiff, Nat.reduceLT, Int.reduceLT, Int.reduceLE, Int.reduceEq, Int.reduceToNat, Int.reduceAdd, Int.reduceSub, Int.reduceNeg, not_false_eq_true, not_true_eq_false, if_true, if_false, Bool.false_xor, Bool.true_xor, Bool.false_eq_true, Bool.true_eq_false, Bool.not_true, Bool.not_false, decide_true, decide_false, Nat.zero_add, Nat.add_zero, List.getElem?_cons_zero, List.getElem?_cons_succ, true_and, and_true, and_self, List.length_cons, List.length_nil, ↓reduceIte, reduceCtorEq, Option.some_or, Option.none_or, Option.or_none, eq_self, Option.map_some, List.length_set, List.set_cons_zero, List.set_cons_succ, List.cons_append, List.drop_zero, List.drop_succ_cons, List.take_succ_cons, List.take_zero, List.all_cons, List.all_nil, Bool.and_true, Option.isSome_some, Option.isSome_none, Option.isNone_some, Option.isNone_none, false_and, and_false, ↓C.catnapref9_File_Restore_W, C.catnapref9_File_Restore_B, C.catnapref9_File_Restore, hf, hn, hlt', hz, hw, g1, g2, g3, g4, Int.toNat_natCast, Nat.mul_one, u32s_length, tab_length, hlt, hi, hi.symm, hb2, u32s_get hks, u32s_set, List.set_set]
      refine ⟨k + 1, rfl, ⟨hlt, hset _ _ (ASt.set_set _ _ _ _) ?_⟩, by omega⟩
      rw [if_pos hb]; simp [tab]
    · have hfin : RefAt (s.set idv (.cells (u32s ((tab made.length fun j => if j < k then (if (kept && retOf made j) = true then S j else resets made j) else N j).set k made[k].reset)))) id idv made (fun j => if j < k + 1 then (if (kept && retOf made j) = true then S j else resets made j) else N j) S kept :=
        hset _ _ rfl (by rw [if_neg hb, g3])
      cases kept
      · simp only [↓Bp, Bq, ↓aop.eq_28, ↓aop.eq_30, ↓initFr, aeqP, abinv, abin, aun, bound, aslice, aput, putN, zeros, heldOk, aheadOk, IOp.again, List.map_cons, List.map_nil, List.append_nil, List.nil_append, Nat.reduceEqDiff, Nat.reduceAdd, Nat.reduceMul, Nat.reduceSub, Nat.reduceLeDiff, Nat.reduceLT, Int.reduceLT, Int.reduceLE, Int.reduceEq, Int.reduceToNat, Int.reduceAdd, Int.reduceSub, Int.reduceNeg, not_false_eq_true, not_true_eq_false, if_true, if_false, Bool.false_xor, Bool.true_xor, Bool.false_eq_true, Bool.true_eq_false, Bool.not_true, Bool.not_false, decide_true, decide_false, Nat.zero_add, Nat.add_zero, List.getElem?_cons_zero, List.getElem?_cons_succ, true_and, and_true, and_self, List.length_cons, List.length_nil, ↓reduceIte, reduceCtorEq, Option.some_or, Option.none_or, Option.or_none, eq_self, Option.map_some, List.length_set, List.set_cons_zero, List.set_cons_succ, List.cons_append, List.drop_zero, List.drop_succ_cons, List.take_succ_cons, List.take_zero, List.all_cons, List.all_nil, Bool.and_true, Option.isSome_some, Option.isSome_none, Option.isNone_some, Option.isNone_none, false_and, and_false, ↓C.catnapref9_File_Restore_W, C.catnapref9_File_Restore_B, C.catnapref9_File_Restore, hf, hn, hlt', hz, hw, g1, g2, g3, Int.toNat_natCast, Nat.mul_one, u32s_length, tab_length, hlt, hi, hi.symm, u32s_set]
        exact ⟨k + 1, rfl, ⟨hlt, hfin⟩, by omega⟩
      · have hb2 : made[k].ret = false := by rw [← g4]; simpa using hb
        simp only [↓Bp, Bq, ↓aop.eq_28, ↓aop.eq_30, ↓initFr, aeqP, abinv, abin, aun, bound, aslice, aput, putN, zeros, heldOk, aheadOk, IOp.again, List.map_cons, List.map_nil, List.append_nil, List.nil_append, Nat.reduceEqDiff, Nat.reduceAdd, Nat.reduceMul, Nat.reduceSub, Nat.reduceLeDiff, Nat.reduceLT, Int.reduceLT, Int.reduceLE, Int.reduceEq, Int.reduceToNat, Int.reduceAdd, Int.reduceSub, Int.reduceNeg, not_false_eq_true, not_true_eq_false, if_true, if_false, Bool.false_xor, Bool.true_xor, Bool.false_eq_true, Bool.true_eq_false, Bool.not_true, Bool.not_false, decide_true, decide_false, Nat.zero_add, Nat.add_zero, List.getElem?_cons_zero, List.getElem?_cons_succ, true_and, and_true, and_self, List.length_cons, List.length_nil, ↓reduceIte, reduceCtorEq, Option.some_or, Option.none_or, Option.or_none, eq_self, Option.map_some, List.length_set, List.set_cons_zero, List.set_cons_succ, List.cons_append, List.drop_zero, List.drop_succ_cons, List.take_succ_cons, List.take_zero, List.all_cons, List.all_nil, Bool.and_true, Option.isSome_some, Option.isSome_none, Option.isNone_some, Option.isNone_none, false_and, and_false, ↓C.catnapref9_File_Restore_W, C.catnapref9_File_Restore_B, C.catnapref9_File_Restore, hf, hn, hlt', hz, hw, g1, g2, g3, Int.toNat_natCast, Nat.mul_one, u32s_length, tab_length, hlt, hi, hi.symm, u32s_set, hb2]
        exact ⟨k + 1, rfl, ⟨hlt, hfin⟩, by omega⟩
  · have : k = made.length := by omega
    subst this
    have hlt' : ¬ (((made.length : Nat) : Int) < (made.length : Nat)) := by omega
    simp only [↓Bp, Bq, ↓aop.eq_28, ↓aop.eq_30, ↓initFr, aeqP, abinv, abin, aun, bound, aslice, aput, putN, zeros, heldOk, aheadOk, IOp.again, List.map_cons, List.map_nil, List.append_nil, List.nil_append, Nat.reduceEqDiff, Nat.reduceAdd, Nat.reduceMul, Nat.reduceSub, Nat.reduceLeDiff, Nat.reduceLT, Int.reduceLT, Int.reduceLE, Int.reduceEq, Int.reduceToNat, Int.reduceAdd, Int.reduceSub, Int.reduceNeg, not_false_eq_true, not_true_eq_false, if_true, if_false, Bool.false_xor, Bool.true_xor, Bool.false_eq_true, Bool.true_eq_false, Bool.not_true, Bool.not_false, decide_true, decide_false, Nat.zero_add, Nat.add_zero, List.getElem?_cons_zero, List.getElem?_cons_succ, true_and, and_true, and_self, List.length_cons, List.length_nil, ↓reduceIte, reduceCtorEq, Option.some_or, Option.none_or, Option.or_none, eq_self, Option.map_some, List.length_set, List.set_cons_zero, List.set_cons_succ, List.cons_append, List.drop_zero, List.drop_succ_cons, List.take_succ_cons, List.take_zero, List.all_cons, List.all_nil, Bool.and_true, Option.isSome_some, Option.isSome_none, Option.isNone_some, Option.isNone_none, false_and, and_false, ↓C.catnapref9_File_Restore_W, C.catnapref9_File_Restore_B, C.catnapref9_File_Restore, hf, hm1, hlt']
    exact hr.congr (fun i hi => by simp [hi]) (fun _ _ _ => rfl)

end
end Go.Proofs.Ytlnhljcfcnmglaa.Cn
