/- Registers: both files side by side, and what the statements share. -/
import Derived.Test.YtlnhljcfcnmglaaCnRegs4
set_option linter.unusedSimpArgs false
set_option linter.unusedVariables false
namespace Go.Proofs.Ytlnhljcfcnmglaa.Cn
open Go Go.Proofs

theorem FileAt.off {st st' : ASt} {id idn ids r rv : Nat} {made : List Reg} {N S : Nat → Int} {kept : Bool} (h : RefAt st r rv made N S kept) (ho : st.off [id, idn, ids] st') (h1 : r ∉ [id, idn, ids]) (h2 : rv ∉ [id, idn, ids]) : RefAt st' r rv made N S kept := by
  obtain ⟨⟨m, vV, vS, q1, q5⟩, q2, q3, q4⟩ := h
  exact ⟨⟨m, vV, vS, by rw [ho _ h1]; exact q1, q5⟩, by rw [ho _ h2]; exact q2, q3, q4⟩

/-- Two files, one of the program and one of the document. -/
structure Both (st : ASt) (a b c r rv : Nat) (made : List Reg) (N S : Nat → Int) (k : Bool) (N' S' : Nat → Int) (k' : Bool) : Prop where
  f : FileF st a b c made N S k
  g : RefAt st r rv made N' S' k'
  h1 : r ∉ [a, b, c]
  h2 : rv ∉ [a, b, c]

section
variable {st : ASt} {a b c r rv : Nat} {made : List Reg} {N S N' S' : Nat → Int} {k k' : Bool}

theorem Both.file {g : Nat} {args : List AV} {R : AV → Prop} {N2 S2 : Nat → Int} {k2 : Bool} (h : Both st a b c r rv made N S k N' S' k')
    (hc : FileF st a b c made N S k → ACalls Try.prog g args st fun v st' => R v ∧ FileF st' a b c made N2 S2 k2 ∧ st.off [a, b, c] st') :
    ACalls Try.prog g args st fun v st' => R v ∧ Both st' a b c r rv made N2 S2 k2 N' S' k' := by
  refine (hc h.f).mono ?_
  rintro v st' ⟨h1, h2, h3⟩
  exact ⟨h1, h2, FileAt.off h.g h3 h.h1 h.h2, h.h1, h.h2⟩

theorem Both.of {st1 : ASt} (hf : FileF st a b c made N S k) (h2 : RefAt st1 r rv made N' S' k') (h3 : st1.le st) (hn : ∀ j ∈ [a, b, c], st1.h j = none) : ∃ rv', Both st a b c r rv' made N S k N' S' k' := by
  have hr : r ∉ [a, b, c] := by
    intro hm
    obtain ⟨m, vV, vS, x1, _⟩ := h2.file
    rw [hn r hm] at x1; cases x1
  by_cases hm : made = []
  · refine ⟨r + a + b + c + 1, hf, ?_, hr, ?_⟩
    · obtain ⟨q1, q2, q3, q4⟩ := h2.le h3
      obtain ⟨m, vV, vS, x1, x2, x3, x4, x5⟩ := q1
      exact ⟨⟨m, vV, vS, x1, x2, x3, fun y => absurd hm y, x5⟩, fun y => absurd hm y, by omega, q4⟩
    · simp only [List.mem_cons, List.not_mem_nil, or_false]; omega
  · refine ⟨rv, hf, h2.le h3, hr, fun hx => ?_⟩
    have hl := h2.now hm
    rw [hn rv hx] at hl; cases hl

theorem Both.ref {g : Nat} {args : List AV} {R : AV → Prop} {N2 S2 : Nat → Int} {k2 : Bool} (h : Both st a b c r rv made N S k N' S' k')
    (hc : ∀ st, RefAt st r rv made N' S' k' → ACalls Try.prog g args st fun v st' => R v ∧ ∃ rv', RefAt st' r rv' made N2 S2 k2) :
    ACalls Try.prog g args st fun v st' => R v ∧ ∃ rv', Both st' a b c r rv' made N S k N2 S2 k2 := by
  refine ((hc _ h.g.only).framed [a, b, c] ?_).mono ?_
  · intro j hj hm
    simp only [List.mem_cons, List.not_mem_nil, or_false] at hm
    rcases hm with rfl | rfl
    · exact h.h1 hj
    · exact h.h2 hj
  · rintro v st2 ⟨st1, ⟨h1, rv', h2⟩, h3, h4⟩
    obtain ⟨⟨m, fh, fh2⟩, fn, fs, f1, f2, f3, f4, f5, f6⟩ := h.f
    have ha := h4 a (by simp) _ fh2
    have hb := h4 b (by simp) _ fn
    have hcc := h4 c (by simp) _ fs
    have hf : FileF st2 a b c made N S k := ⟨⟨m, fh, ha.2⟩, hb.2, hcc.2, f1, f2, f3, f4, f5, f6⟩
    refine ⟨h1, Both.of hf h2 h3 ?_⟩
    simp only [List.mem_cons, List.not_mem_nil, or_false]
    rintro j (rfl | rfl | rfl)
    · exact ha.1
    · exact hb.1
    · exact hcc.1

theorem Readable.ofArg {v : AV} (h : ArgAs 2 (flat made) made.length v) (hl : made.length ≤ 4294967296) : Readable st made v := by
  rcases h with rfl | ⟨rfl, h, _⟩
  · exact Readable.isl st hl
  · have : made = [] := List.eq_nil_of_length_eq_zero h
    subst this
    exact Readable.nils st

/-- Two new files. -/
theorem ref_new_both {v : AV} (hf : FileF st a b c made N S k) (h : ArgAs 2 (flat made) made.length v) (hl : made.length ≤ 8) :
    ACalls Try.prog F.catnapref9_New [v] st fun x st' => ∃ r rv, x = .tup [.ptr r 0, .int .i64 0] ∧ Both st' a b c r rv made N S k (resets made) S' false := by
  refine ((ref_new0 (S := S') (Readable.ofArg (st := st.only []) h (by omega)) hl).framed [a, b, c] (by simp)).mono ?_
  rintro v st2 ⟨st1, ⟨r, rv, rfl, h2⟩, h3, h4⟩
  obtain ⟨⟨m, fh, fh2⟩, fn, fs, f1, f2, f3, f4, f5, f6⟩ := hf
  have ha := h4 a (by simp) _ fh2
  have hb := h4 b (by simp) _ fn
  have hcc := h4 c (by simp) _ fs
  have hf : FileF st2 a b c made N S k := ⟨⟨m, fh, ha.2⟩, hb.2, hcc.2, f1, f2, f3, f4, f5, f6⟩
  obtain ⟨rv', hb'⟩ := Both.of hf h2 h3 (by
    simp only [List.mem_cons, List.not_mem_nil, or_false]
    rintro j (rfl | rfl | rfl)
    · exact ha.1
    · exact hb.1
    · exact hcc.1)
  exact ⟨r, rv', rfl, hb'⟩
end

theorem shown_spec (st : ASt) : ACalls Try.prog F.catnaplaw9_shown [] st fun v st' => v = .bool true ∧ st' = st := by
  refine ACalls.gc (Q' := fun v st' => v = .bool true ∧ st.le st') (calls_of_awp L.catnaplaw9_shown rfl ?_) (fun v st' h => ⟨st, h.2, h.1, rfl⟩)
  simp only [↓Bp, Bq, ↓aop.eq_28, ↓aop.eq_30, ↓initFr, aeqP, abinv, abin, aun, bound, aslice, aput, putN, zeros, heldOk, aheadOk, IOp.again, List.map_cons, List.map_nil, List.append_nil, List.nil_append, Nat.reduceEqDiff, Nat.reduceAdd, Nat.reduceMul, Nat.reduceSub, Nat.reduceLeDiff, Nat.reduceLT, Int.reduceLT, Int.reduceLE, Int.reduceEq, Int.reduceToNat, Int.reduceAdd, Int.reduceSub, Int.reduceNeg, not_false_eq_true, not_true_eq_false, if_true, if_false, Bool.false_xor, Bool.true_xor, Bool.false_eq_true, Bool.true_eq_false, Bool.not_true, Bool.not_false, decide_true, decide_false, Nat.zero_add, Nat.add_zero, List.getElem?_cons_zero, List.getElem?_cons_succ, true_and, and_true, and_self, List.length_cons, List.length_nil, ↓reduceIte, reduceCtorEq, Option.some_or, Option.none_or, Option.or_none, eq_self, Option.map_some, List.length_set, List.set_cons_zero, List.set_cons_succ, List.cons_append, List.drop_zero, List.drop_succ_cons, List.take_succ_cons, List.take_zero, List.all_cons, List.all_nil, Bool.and_true, Option.isSome_some, Option.isSome_none, Option.isNone_some, Option.isNone_none, false_and, and_false, ↓C.catnaplaw9_shown_W, C.catnaplaw9_shown_B, C.catnaplaw9_shown]
  intro i hi
  have hs : (st.new i (.cells [.int .u32 5, .bool true])).h i = some (.cells (flat [⟨5, true⟩])) := by simp [ASt.new_o, hi, flat, encReg]
  refine (new_spec (l := [⟨5, true⟩]) (Readable.sl hs (by simp)) (by simp)).mono ?_
  rintro v st1 ⟨a, b, c, rfl, hf, hle, ha, hb, hc⟩
  simp only [↓Bp, Bq, ↓aop.eq_28, ↓aop.eq_30, ↓initFr, aeqP, abinv, abin, aun, bound, aslice, aput, putN, zeros, heldOk, aheadOk, IOp.again, List.map_cons, List.map_nil, List.append_nil, List.nil_append, Nat.reduceEqDiff, Nat.reduceAdd, Nat.reduceMul, Nat.reduceSub, Nat.reduceLeDiff, Nat.reduceLT, Int.reduceLT, Int.reduceLE, Int.reduceEq, Int.reduceToNat, Int.reduceAdd, Int.reduceSub, Int.reduceNeg, not_false_eq_true, not_true_eq_false, if_true, if_false, Bool.false_xor, Bool.true_xor, Bool.false_eq_true, Bool.true_eq_false, Bool.not_true, Bool.not_false, decide_true, decide_false, Nat.zero_add, Nat.add_zero, List.getElem?_cons_zero, List.getElem?_cons_succ, true_and, and_true, and_self, List.length_cons, List.length_nil, ↓reduceIte, reduceCtorEq, Option.some_or, Option.none_or, Option.or_none, eq_self, Option.map_some, List.length_set, List.set_cons_zero, List.set_cons_succ, List.cons_append, List.drop_zero, List.drop_succ_cons, List.take_succ_cons, List.take_zero, List.all_cons, List.all_nil, Bool.and_true, Option.isSome_some, Option.isSome_none, Option.isNone_some, Option.isNone_none, false_and, and_false, ↓C.catnaplaw9_shown_W, C.catnaplaw9_shown_B, C.catnaplaw9_shown]
  refine (write_at hf (i := 0) (by simp) 7).mono ?_
  rintro v st2 ⟨rfl, hf2, ho2⟩
  simp only [↓Bp, Bq, ↓aop.eq_28, ↓aop.eq_30, ↓initFr, aeqP, abinv, abin, aun, bound, aslice, aput, putN, zeros, heldOk, aheadOk, IOp.again, List.map_cons, List.map_nil, List.append_nil, List.nil_append, Nat.reduceEqDiff, Nat.reduceAdd, Nat.reduceMul, Nat.reduceSub, Nat.reduceLeDiff, Nat.reduceLT, Int.reduceLT, Int.reduceLE, Int.reduceEq, Int.reduceToNat, Int.reduceAdd, Int.reduceSub, Int.reduceNeg, not_false_eq_true, not_true_eq_false, if_true, if_false, Bool.false_xor, Bool.true_xor, Bool.false_eq_true, Bool.true_eq_false, Bool.not_true, Bool.not_false, decide_true, decide_false, Nat.zero_add, Nat.add_zero, List.getElem?_cons_zero, List.getElem?_cons_succ, true_and, and_true, and_self, List.length_cons, List.length_nil, ↓reduceIte, reduceCtorEq, Option.some_or, Option.none_or, Option.or_none, eq_self, Option.map_some, List.length_set, List.set_cons_zero, List.set_cons_succ, List.cons_append, List.drop_zero, List.drop_succ_cons, List.take_succ_cons, List.take_zero, List.all_cons, List.all_nil, Bool.and_true, Option.isSome_some, Option.isSome_none, Option.isNone_some, Option.isNone_none, false_and, and_false, ↓C.catnaplaw9_shown_W, C.catnaplaw9_shown_B, C.catnaplaw9_shown]
  refine (save_f hf2).mono ?_
  rintro v st3 ⟨hf3, ho3⟩
  simp only [↓Bp, Bq, ↓aop.eq_28, ↓aop.eq_30, ↓initFr, aeqP, abinv, abin, aun, bound, aslice, aput, putN, zeros, heldOk, aheadOk, IOp.again, List.map_cons, List.map_nil, List.append_nil, List.nil_append, Nat.reduceEqDiff, Nat.reduceAdd, Nat.reduceMul, Nat.reduceSub, Nat.reduceLeDiff, Nat.reduceLT, Int.reduceLT, Int.reduceLE, Int.reduceEq, Int.reduceToNat, Int.reduceAdd, Int.reduceSub, Int.reduceNeg, not_false_eq_true, not_true_eq_false, if_true, if_false, Bool.false_xor, Bool.true_xor, Bool.false_eq_true, Bool.true_eq_false, Bool.not_true, Bool.not_false, decide_true, decide_false, Nat.zero_add, Nat.add_zero, List.getElem?_cons_zero, List.getElem?_cons_succ, true_and, and_true, and_self, List.length_cons, List.length_nil, ↓reduceIte, reduceCtorEq, Option.some_or, Option.none_or, Option.or_none, eq_self, Option.map_some, List.length_set, List.set_cons_zero, List.set_cons_succ, List.cons_append, List.drop_zero, List.drop_succ_cons, List.take_succ_cons, List.take_zero, List.all_cons, List.all_nil, Bool.and_true, Option.isSome_some, Option.isSome_none, Option.isNone_some, Option.isNone_none, false_and, and_false, ↓C.catnaplaw9_shown_W, C.catnaplaw9_shown_B, C.catnaplaw9_shown]
  refine (write_at hf3 (i := 0) (by simp) 9).mono ?_
  rintro v st4 ⟨rfl, hf4, ho4⟩
  simp only [↓Bp, Bq, ↓aop.eq_28, ↓aop.eq_30, ↓initFr, aeqP, abinv, abin, aun, bound, aslice, aput, putN, zeros, heldOk, aheadOk, IOp.again, List.map_cons, List.map_nil, List.append_nil, List.nil_append, Nat.reduceEqDiff, Nat.reduceAdd, Nat.reduceMul, Nat.reduceSub, Nat.reduceLeDiff, Nat.reduceLT, Int.reduceLT, Int.reduceLE, Int.reduceEq, Int.reduceToNat, Int.reduceAdd, Int.reduceSub, Int.reduceNeg, not_false_eq_true, not_true_eq_false, if_true, if_false, Bool.false_xor, Bool.true_xor, Bool.false_eq_true, Bool.true_eq_false, Bool.not_true, Bool.not_false, decide_true, decide_false, Nat.zero_add, Nat.add_zero, List.getElem?_cons_zero, List.getElem?_cons_succ, true_and, and_true, and_self, List.length_cons, List.length_nil, ↓reduceIte, reduceCtorEq, Option.some_or, Option.none_or, Option.or_none, eq_self, Option.map_some, List.length_set, List.set_cons_zero, List.set_cons_succ, List.cons_append, List.drop_zero, List.drop_succ_cons, List.take_succ_cons, List.take_zero, List.all_cons, List.all_nil, Bool.and_true, Option.isSome_some, Option.isSome_none, Option.isNone_some, Option.isNone_none, false_and, and_false, ↓C.catnaplaw9_shown_W, C.catnaplaw9_shown_B, C.catnaplaw9_shown]
  refine (restore_f hf4).mono ?_
  rintro v st5 ⟨hf5, ho5⟩
  simp only [↓Bp, Bq, ↓aop.eq_28, ↓aop.eq_30, ↓initFr, aeqP, abinv, abin, aun, bound, aslice, aput, putN, zeros, heldOk, aheadOk, IOp.again, List.map_cons, List.map_nil, List.append_nil, List.nil_append, Nat.reduceEqDiff, Nat.reduceAdd, Nat.reduceMul, Nat.reduceSub, Nat.reduceLeDiff, Nat.reduceLT, Int.reduceLT, Int.reduceLE, Int.reduceEq, Int.reduceToNat, Int.reduceAdd, Int.reduceSub, Int.reduceNeg, not_false_eq_true, not_true_eq_false, if_true, if_false, Bool.false_xor, Bool.true_xor, Bool.false_eq_true, Bool.true_eq_false, Bool.not_true, Bool.not_false, decide_true, decide_false, Nat.zero_add, Nat.add_zero, List.getElem?_cons_zero, List.getElem?_cons_succ, true_and, and_true, and_self, List.length_cons, List.length_nil, ↓reduceIte, reduceCtorEq, Option.some_or, Option.none_or, Option.or_none, eq_self, Option.map_some, List.length_set, List.set_cons_zero, List.set_cons_succ, List.cons_append, List.drop_zero, List.drop_succ_cons, List.take_succ_cons, List.take_zero, List.all_cons, List.all_nil, Bool.and_true, Option.isSome_some, Option.isSome_none, Option.isNone_some, Option.isNone_none, false_and, and_false, ↓C.catnaplaw9_shown_W, C.catnaplaw9_shown_B, C.catnaplaw9_shown]
  refine (read_at hf5 (i := 0) (by simp)).mono ?_
  rintro v st6 ⟨rfl, rfl⟩
  simp only [↓Bp, Bq, ↓aop.eq_28, ↓aop.eq_30, ↓initFr, aeqP, abinv, abin, aun, bound, aslice, aput, putN, zeros, heldOk, aheadOk, IOp.again, List.map_cons, List.map_nil, List.append_nil, List.nil_append, Nat.reduceEqDiff, Nat.reduceAdd, Nat.reduceMul, Nat.reduceSub, Nat.reduceLeDiff, Nat.reduceLT, Int.reduceLT, Int.reduceLE, Int.reduceEq, Int.reduceToNat, Int.reduceAdd, Int.reduceSub, Int.reduceNeg, not_false_eq_true, not_true_eq_false, if_true, if_false, Bool.false_xor, Bool.true_xor, Bool.false_eq_true, Bool.true_eq_false, Bool.not_true, Bool.not_false, decide_true, decide_false, Nat.zero_add, Nat.add_zero, List.getElem?_cons_zero, List.getElem?_cons_succ, true_and, and_true, and_self, List.length_cons, List.length_nil, ↓reduceIte, reduceCtorEq, Option.some_or, Option.none_or, Option.or_none, eq_self, Option.map_some, List.length_set, List.set_cons_zero, List.set_cons_succ, List.cons_append, List.drop_zero, List.drop_succ_cons, List.take_succ_cons, List.take_zero, List.all_cons, List.all_nil, Bool.and_true, Option.isSome_some, Option.isSome_none, Option.isNone_some, Option.isNone_none, false_and, and_false, ↓C.catnaplaw9_shown_W, C.catnaplaw9_shown_B, C.catnaplaw9_shown, retOf, Bool.and_self, Option.getD_some]
  intro j o hj
  have h0 := hle j o (ASt.le.new _ _ _ j o hj)
  have hn : j ∉ [a, b, c] := by
    simp only [List.mem_cons, List.not_mem_nil, or_false]
    have hj2 := ASt.le.new st i (.cells [.int .u32 5, .bool true]) j o hj
    rintro (rfl | rfl | rfl) <;> simp_all
  rw [ho5 j hn, ho4 j hn, ho3 j hn, ho2 j hn]
  exact h0

end Go.Proofs.Ytlnhljcfcnmglaa.Cn
