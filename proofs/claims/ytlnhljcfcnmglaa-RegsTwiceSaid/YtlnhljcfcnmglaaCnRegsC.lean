/- Registers: RegsClears. -/
import Derived.Test.YtlnhljcfcnmglaaCnRegsA
set_option linter.unusedSimpArgs false
set_option linter.unusedVariables false
namespace Go.Proofs.Ytlnhljcfcnmglaa.Cn
open Go Go.Proofs

structure RAct where
  op : Int
  i : Int
  v : Int
def encRAct (a : RAct) : List AV := [.int .i64 a.op, .int .i64 a.i, .int .u32 a.v]
def RAct.ok (a : RAct) : Prop := I64 a.op ∧ I64 a.i
theorem encRAct_length (a : RAct) : (encRAct a).length = 3 := rfl

/-- What a file's values are behind an act. -/
structure RFile where
  N : Nat → Int
  S : Nat → Int
  kept : Bool
def RAct.place (a : RAct) (n : Nat) : Int := ((pickI a.i (n + 2) : Nat) : Int) - 1
def RFile.does (l : List Reg) (f : RFile) (a : RAct) : RFile :=
  match pickI a.op 6 with
  | 0 | 1 | 2 => if 0 ≤ a.place l.length ∧ a.place l.length < l.length then { f with N := fun j => if j = (a.place l.length).toNat then a.v else f.N j } else f
  | 3 => { f with S := fun j => if retOf l j = true then f.N j else f.S j, kept := true }
  | 4 => { f with N := fun j => if (f.kept && retOf l j) = true then f.S j else resets l j }
  | _ => { f with N := resets l, kept := false }
def RAct.tells (l : List Reg) (a : RAct) : Int := if pickI a.op 6 < 3 ∧ ¬ (0 ≤ a.place l.length ∧ a.place l.length < l.length) then 4 else 0

theorem FileAt.killed {st : ASt} {id idn ids : Nat} {made : List Reg} {now saved : List Int} {kept : Bool} (h : FileAt st id idn ids made now saved kept) {k : Nat} (hk : k ∉ [id, idn, ids]) : FileAt (st.kill k) id idn ids made now saved kept := by
  obtain ⟨⟨m, h1, h2⟩, h3, h4, h5, h6, h7, h8, h9, h10⟩ := h
  simp only [List.mem_cons, List.not_mem_nil, or_false, not_or] at hk
  exact ⟨⟨m, h1, by rw [ASt.kill_h, if_neg (Ne.symm hk.1)]; exact h2⟩, by rw [ASt.kill_h, if_neg (Ne.symm hk.2.1)]; exact h3, by rw [ASt.kill_h, if_neg (Ne.symm hk.2.2)]; exact h4, h5, h6, h7, h8, h9, h10⟩
theorem FileAt.fresh {st : ASt} {id idn ids : Nat} {made : List Reg} {now saved : List Int} {kept : Bool} (h : FileAt st id idn ids made now saved kept) {k : Nat} (hk : st.h k = none) : k ∉ [id, idn, ids] := by
  obtain ⟨⟨m, h1, h2⟩, h3, h4, _⟩ := h
  simp only [List.mem_cons, List.not_mem_nil, or_false]
  rintro (rfl | rfl | rfl)
  · rw [h2] at hk; cases hk
  · rw [h3] at hk; cases hk
  · rw [h4] at hk; cases hk

theorem does_spec {l : List Reg} {a : RAct} {f : RFile} {st : ASt} {x y z : Nat} (hl : l.length ≤ 8) (ha : a.ok) (h : FileF st x y z l f.N f.S f.kept) :
    ACalls Try.prog F.catnaplaw9_does [.ptr x 0, .agg (encRAct a), .int .i64 l.length] st fun r st' => r = .int .i64 (a.tells l) ∧ FileF st' x y z l (f.does l a).N (f.does l a).S (f.does l a).kept ∧ st.off [x, y, z] st' := by
  refine ACalls.gc (Q' := fun r st' => ∃ ib o, st.h ib = none ∧ r = .int .i64 (a.tells l) ∧ FileF st' x y z l (f.does l a).N (f.does l a).S (f.does l a).kept ∧ (st.new ib o).off [x, y, z] st') (calls_of_awp L.catnaplaw9_does rfl ?_) ?_
  rotate_left
  · rintro r st' ⟨ib, o, h1, h2, h3, h4⟩
    have hn := h.fresh h1
    refine ⟨st'.kill ib, ASt.kill_le _ _, h2, h3.killed hn, fun j hj => ?_⟩
    rw [ASt.kill_h]
    split
    · rename_i e; rw [e, h1]
    · rename_i e; rw [h4 j hj, ASt.new_ne _ e]
  have hb6 := pickI_lt a.op (n := 6) (by omega)
  have hw2 : IntKind.i64.wrap ((l.length : Int) + 2) = ((l.length + 2 : Nat) : Int) := by rw [wrap64] <;> omega
  have hil := pickI_lt a.i (n := l.length + 2) (by omega)
  have hw3 : IntKind.i64.wrap (((pickI a.i (l.length + 2) : Nat) : Int) - 1) = a.place l.length := by rw [RAct.place, wrap64] <;> omega
  simp only [↓Bp, Bq, ↓aop.eq_28, ↓aop.eq_30, ↓initFr, aeqP, abinv, abin, aun, bound, aslice, aput, putN, zeros, heldOk, aheadOk, IOp.again, List.map_cons, List.map_nil, List.append_nil, List.nil_append, Nat.reduceEqDiff, Nat.reduceAdd, Nat.reduceMul, Nat.reduceSub, Nat.reduceLeDiff, Nat.reduceLT, Int.reduceLT, Int.reduceLE, Int.reduceEq, Int.reduceToNat, Int.reduceAdd, Int.reduceSub, Int.reduceNeg, not_false_eq_true, not_true_eq_false, if_true, if_false, Bool.false_xor, Bool.true_xor, Bool.false_eq_true, Bool.true_eq_false, Bool.not_true, Bool.not_false, decide_true, decide_false, Nat.zero_add, Nat.add_zero, List.getElem?_cons_zero, List.getElem?_cons_succ, true_and, and_true, and_self, List.length_cons, List.length_nil, ↓reduceIte, reduceCtorEq, Option.some_or, Option.none_or, Option.or_none, eq_self, Option.map_some, List.length_set, List.set_cons_zero, List.set_cons_succ, List.cons_append, List.drop_zero, List.drop_succ_cons, List.take_succ_cons, List.take_zero, List.all_cons, List.all_nil, Bool.and_true, Option.isSome_some, Option.isSome_none, Option.isNone_some, Option.isNone_none, false_and, and_false, ↓C.catnaplaw9_does_W, C.catnaplaw9_does_B, C.catnaplaw9_does, encRAct]
  intro ib hib
  simp only [↓Bp, Bq, ↓aop.eq_28, ↓aop.eq_30, ↓initFr, aeqP, abinv, abin, aun, bound, aslice, aput, putN, zeros, heldOk, aheadOk, IOp.again, List.map_cons, List.map_nil, List.append_nil, List.nil_append, Nat.reduceEqDiff, Nat.reduceAdd, Nat.reduceMul, Nat.reduceSub, Nat.reduceLeDiff, Nat.reduceLT, Int.reduceLT, Int.reduceLE, Int.reduceEq, Int.reduceToNat, Int.reduceAdd, Int.reduceSub, Int.reduceNeg, not_false_eq_true, not_true_eq_false, if_true, if_false, Bool.false_xor, Bool.true_xor, Bool.false_eq_true, Bool.true_eq_false, Bool.not_true, Bool.not_false, decide_true, decide_false, Nat.zero_add, Nat.add_zero, List.getElem?_cons_zero, List.getElem?_cons_succ, true_and, and_true, and_self, List.length_cons, List.length_nil, ↓reduceIte, reduceCtorEq, Option.some_or, Option.none_or, Option.or_none, eq_self, Option.map_some, List.length_set, List.set_cons_zero, List.set_cons_succ, List.cons_append, List.drop_zero, List.drop_succ_cons, List.take_succ_cons, List.take_zero, List.all_cons, List.all_nil, Bool.and_true, Option.isSome_some, Option.isSome_none, Option.isNone_some, Option.isNone_none, false_and, and_false, ↓C.catnaplaw9_does_W, C.catnaplaw9_does_B, C.catnaplaw9_does, encRAct, hib]
  have hF : FileF (st.new ib (AObj.cells [AV.int .i64 a.op, AV.int .i64 a.i, AV.int .u32 a.v])) x y z l f.N f.S f.kept := h.le (ASt.le.new _ _ _)
  have hbox : (st.new ib (AObj.cells [AV.int .i64 a.op, AV.int .i64 a.i, AV.int .u32 a.v])).h ib = some (AObj.cells [AV.int .i64 a.op, AV.int .i64 a.i, AV.int .u32 a.v]) := ASt.new_self _ hib
  refine (pick_spec ha.1 (n := 6) (by omega)).mono ?_
  rintro r s ⟨rfl, hs⟩
  rw [← hs] at hF hbox
  have fin : ∀ (r : AV) (s' : ASt), r = .int .i64 (a.tells l) → FileF s' x y z l (f.does l a).N (f.does l a).S (f.does l a).kept → s.off [x, y, z] s' → ∃ ib o, st.h ib = none ∧ r = .int .i64 (a.tells l) ∧ FileF s' x y z l (f.does l a).N (f.does l a).S (f.does l a).kept ∧ (st.new ib o).off [x, y, z] s' := by
    intro r s' h1 h2 h3
    rw [hs] at h3
    exact ⟨ib, _, hib, h1, h2, h3⟩
  clear hs
  have hwrite : pickI a.op 6 < 3 → ACalls Try.prog F.regs_File_Write [.ptr x 0, .int .i64 (a.place l.length), .int .u32 a.v] s fun r st' => ∃ ib o, st.h ib = none ∧ r = .int .i64 (a.tells l) ∧ FileF st' x y z l (f.does l a).N (f.does l a).S (f.does l a).kept ∧ (st.new ib o).off [x, y, z] st' := by
    intro h3
    have hdo : f.does l a = if 0 ≤ a.place l.length ∧ a.place l.length < l.length then { f with N := fun j => if j = (a.place l.length).toNat then a.v else f.N j } else f := by
      rcases (show pickI a.op 6 = 0 ∨ pickI a.op 6 = 1 ∨ pickI a.op 6 = 2 by omega) with e | e | e <;> simp only [RFile.does, e]
    by_cases hp : 0 ≤ a.place l.length ∧ a.place l.length < l.length
    · obtain ⟨j, hj⟩ : ∃ j : Nat, a.place l.length = j := ⟨(a.place l.length).toNat, by omega⟩
      rw [if_pos hp] at hdo
      rw [hj]
      refine (write_at hF (i := j) (by omega) a.v).mono ?_
      rintro r s' ⟨rfl, h4, h5⟩
      refine fin _ _ (by rw [RAct.tells, if_neg (fun h => h.2 hp)]) ?_ h5
      rw [hdo]
      simp only [hj, Int.toNat_natCast]
      exact h4
    · rw [if_neg hp] at hdo
      refine (write_not hF hp a.v).mono ?_
      rintro r s' ⟨rfl, rfl⟩
      refine fin _ _ (by rw [RAct.tells, if_pos ⟨h3, hp⟩]) ?_ (ASt.off.refl _ _)
      rw [hdo]; exact hF
  have ht : ¬ pickI a.op 6 < 3 → a.tells l = 0 := fun h => by rw [RAct.tells, if_neg (fun x => h x.1)]
  rcases (show pickI a.op 6 = 0 ∨ pickI a.op 6 = 1 ∨ pickI a.op 6 = 2 ∨ pickI a.op 6 = 3 ∨ pickI a.op 6 = 4 ∨ pickI a.op 6 = 5 by omega) with e | e | e | e | e | e
  all_goals simp only [↓Bp, Bq, ↓aop.eq_28, ↓aop.eq_30, ↓initFr, aeqP, abinv, abin, aun, bound, aslice, aput, putN, zeros, heldOk, aheadOk, IOp.again, List.map_cons, List.map_nil, List.append_nil, List.nil_append, Nat.reduceEqDiff, Nat.reduceAdd, Nat.reduceMul, Nat.reduceSub, Nat.reduceLeDiff, Nat.reduceLT, Int.reduceLT, Int.reduceLE, Int.reduceEq, Int.reduceToNat, Int.reduceAdd, Int.reduceSub, Int.reduceNeg, not_false_eq_true, not_true_eq_false, if_true, if_false, Bool.false_xor, Bool.true_xor, Bool.false_eq_true, Bool.true_eq_false, Bool.not_true, Bool.not_false, decide_true, decide_false, Nat.zero_add, Nat.add_zero, List.getElem?_cons_zero, List.getElem?_cons_succ, true_and, and_true, and_self, List.length_cons, List.length_nil, ↓reduceIte, reduceCtorEq, Option.some_or, Option.none_or, Option.or_none, eq_self, Option.map_some, List.length_set, List.set_cons_zero, List.set_cons_succ, List.cons_append, List.drop_zero, List.drop_succ_cons, List.take_succ_cons, List.take_zero, List.all_cons, List.all_nil, Bool.and_true, Option.isSome_some, Option.isSome_none, Option.isNone_some, Option.isNone_none, false_and, and_false, ↓C.catnaplaw9_does_W, C.catnaplaw9_does_B, C.catnaplaw9_does, e, Int.cast_ofNat_Int, Int.natCast_zero, hbox, hw2]
  iterate 3
    · refine (pick_spec ha.2 (n := l.length + 2) (by omega)).mono ?_
      rintro r s' ⟨rfl, rfl⟩
      simp only [↓Bp, Bq, ↓aop.eq_28, ↓aop.eq_30, ↓initFr, aeqP, abinv, abin, aun, bound, aslice, aput, putN, zeros, heldOk, aheadOk, IOp.again, List.map_cons, List.map_nil, List.append_nil, List.nil_append, Nat.reduceEqDiff, Nat.reduceAdd, Nat.reduceMul, Nat.reduceSub, Nat.reduceLeDiff, Nat.reduceLT, Int.reduceLT, Int.reduceLE, Int.reduceEq, Int.reduceToNat, Int.reduceAdd, Int.reduceSub, Int.reduceNeg, not_false_eq_true, not_true_eq_false, if_true, if_false, Bool.false_xor, Bool.true_xor, Bool.false_eq_true, Bool.true_eq_false, Bool.not_true, Bool.not_false, decide_true, decide_false, Nat.zero_add, Nat.add_zero, List.getElem?_cons_zero, List.getElem?_cons_succ, true_and, and_true, and_self, List.length_cons, List.length_nil, ↓reduceIte, reduceCtorEq, Option.some_or, Option.none_or, Option.or_none, eq_self, Option.map_some, List.length_set, List.set_cons_zero, List.set_cons_succ, List.cons_append, List.drop_zero, List.drop_succ_cons, List.take_succ_cons, List.take_zero, List.all_cons, List.all_nil, Bool.and_true, Option.isSome_some, Option.isSome_none, Option.isNone_some, Option.isNone_none, false_and, and_false, ↓C.catnaplaw9_does_W, C.catnaplaw9_does_B, C.catnaplaw9_does, hbox, hw3]
      refine (hwrite (by omega)).mono ?_
      rintro r s2 h4
      simp only [↓Bp, Bq, ↓aop.eq_28, ↓aop.eq_30, ↓initFr, aeqP, abinv, abin, aun, bound, aslice, aput, putN, zeros, heldOk, aheadOk, IOp.again, List.map_cons, List.map_nil, List.append_nil, List.nil_append, Nat.reduceEqDiff, Nat.reduceAdd, Nat.reduceMul, Nat.reduceSub, Nat.reduceLeDiff, Nat.reduceLT, Int.reduceLT, Int.reduceLE, Int.reduceEq, Int.reduceToNat, Int.reduceAdd, Int.reduceSub, Int.reduceNeg, not_false_eq_true, not_true_eq_false, if_true, if_false, Bool.false_xor, Bool.true_xor, Bool.false_eq_true, Bool.true_eq_false, Bool.not_true, Bool.not_false, decide_true, decide_false, Nat.zero_add, Nat.add_zero, List.getElem?_cons_zero, List.getElem?_cons_succ, true_and, and_true, and_self, List.length_cons, List.length_nil, ↓reduceIte, reduceCtorEq, Option.some_or, Option.none_or, Option.or_none, eq_self, Option.map_some, List.length_set, List.set_cons_zero, List.set_cons_succ, List.cons_append, List.drop_zero, List.drop_succ_cons, List.take_succ_cons, List.take_zero, List.all_cons, List.all_nil, Bool.and_true, Option.isSome_some, Option.isSome_none, Option.isNone_some, Option.isNone_none, false_and, and_false, ↓C.catnaplaw9_does_W, C.catnaplaw9_does_B, C.catnaplaw9_does]
      exact h4
  · refine (save_f hF).mono ?_
    rintro r s' ⟨h4, h5⟩
    simp only [↓Bp, Bq, ↓aop.eq_28, ↓aop.eq_30, ↓initFr, aeqP, abinv, abin, aun, bound, aslice, aput, putN, zeros, heldOk, aheadOk, IOp.again, List.map_cons, List.map_nil, List.append_nil, List.nil_append, Nat.reduceEqDiff, Nat.reduceAdd, Nat.reduceMul, Nat.reduceSub, Nat.reduceLeDiff, Nat.reduceLT, Int.reduceLT, Int.reduceLE, Int.reduceEq, Int.reduceToNat, Int.reduceAdd, Int.reduceSub, Int.reduceNeg, not_false_eq_true, not_true_eq_false, if_true, if_false, Bool.false_xor, Bool.true_xor, Bool.false_eq_true, Bool.true_eq_false, Bool.not_true, Bool.not_false, decide_true, decide_false, Nat.zero_add, Nat.add_zero, List.getElem?_cons_zero, List.getElem?_cons_succ, true_and, and_true, and_self, List.length_cons, List.length_nil, ↓reduceIte, reduceCtorEq, Option.some_or, Option.none_or, Option.or_none, eq_self, Option.map_some, List.length_set, List.set_cons_zero, List.set_cons_succ, List.cons_append, List.drop_zero, List.drop_succ_cons, List.take_succ_cons, List.take_zero, List.all_cons, List.all_nil, Bool.and_true, Option.isSome_some, Option.isSome_none, Option.isNone_some, Option.isNone_none, false_and, and_false, ↓C.catnaplaw9_does_W, C.catnaplaw9_does_B, C.catnaplaw9_does]
    refine fin _ _ (by rw [ht (by omega)]) ?_ h5
    have : f.does l a = { f with S := fun j => if retOf l j = true then f.N j else f.S j, kept := true } := by simp only [RFile.does, e]
    rw [this]; exact h4
  · refine (restore_f hF).mono ?_
    rintro r s' ⟨h4, h5⟩
    simp only [↓Bp, Bq, ↓aop.eq_28, ↓aop.eq_30, ↓initFr, aeqP, abinv, abin, aun, bound, aslice, aput, putN, zeros, heldOk, aheadOk, IOp.again, List.map_cons, List.map_nil, List.append_nil, List.nil_append, Nat.reduceEqDiff, Nat.reduceAdd, Nat.reduceMul, Nat.reduceSub, Nat.reduceLeDiff, Nat.reduceLT, Int.reduceLT, Int.reduceLE, Int.reduceEq, Int.reduceToNat, Int.reduceAdd, Int.reduceSub, Int.reduceNeg, not_false_eq_true, not_true_eq_false, if_true, if_false, Bool.false_xor, Bool.true_xor, Bool.false_eq_true, Bool.true_eq_false, Bool.not_true, Bool.not_false, decide_true, decide_false, Nat.zero_add, Nat.add_zero, List.getElem?_cons_zero, List.getElem?_cons_succ, true_and, and_true, and_self, List.length_cons, List.length_nil, ↓reduceIte, reduceCtorEq, Option.some_or, Option.none_or, Option.or_none, eq_self, Option.map_some, List.length_set, List.set_cons_zero, List.set_cons_succ, List.cons_append, List.drop_zero, List.drop_succ_cons, List.take_succ_cons, List.take_zero, List.all_cons, List.all_nil, Bool.and_true, Option.isSome_some, Option.isSome_none, Option.isNone_some, Option.isNone_none, false_and, and_false, ↓C.catnaplaw9_does_W, C.catnaplaw9_does_B, C.catnaplaw9_does]
    refine fin _ _ (by rw [ht (by omega)]) ?_ h5
    have : f.does l a = { f with N := fun j => if (f.kept && retOf l j) = true then f.S j else resets l j } := by simp only [RFile.does, e]
    rw [this]; exact h4
  · refine (clear_f hF).mono ?_
    rintro r s' ⟨h4, h5⟩
    simp only [↓Bp, Bq, ↓aop.eq_28, ↓aop.eq_30, ↓initFr, aeqP, abinv, abin, aun, bound, aslice, aput, putN, zeros, heldOk, aheadOk, IOp.again, List.map_cons, List.map_nil, List.append_nil, List.nil_append, Nat.reduceEqDiff, Nat.reduceAdd, Nat.reduceMul, Nat.reduceSub, Nat.reduceLeDiff, Nat.reduceLT, Int.reduceLT, Int.reduceLE, Int.reduceEq, Int.reduceToNat, Int.reduceAdd, Int.reduceSub, Int.reduceNeg, not_false_eq_true, not_true_eq_false, if_true, if_false, Bool.false_xor, Bool.true_xor, Bool.false_eq_true, Bool.true_eq_false, Bool.not_true, Bool.not_false, decide_true, decide_false, Nat.zero_add, Nat.add_zero, List.getElem?_cons_zero, List.getElem?_cons_succ, true_and, and_true, and_self, List.length_cons, List.length_nil, ↓reduceIte, reduceCtorEq, Option.some_or, Option.none_or, Option.or_none, eq_self, Option.map_some, List.length_set, List.set_cons_zero, List.set_cons_succ, List.cons_append, List.drop_zero, List.drop_succ_cons, List.take_succ_cons, List.take_zero, List.all_cons, List.all_nil, Bool.and_true, Option.isSome_some, Option.isSome_none, Option.isNone_some, Option.isNone_none, false_and, and_false, ↓C.catnaplaw9_does_W, C.catnaplaw9_does_B, C.catnaplaw9_does]
    refine fin _ _ (by rw [ht (by omega)]) ?_ h5
    have : f.does l a = { f with N := resets l, kept := false } := by simp only [RFile.does, e]
    rw [this]; exact h4

theorem FileAt.keepOff {st st' : ASt} {id idn ids : Nat} {made : List Reg} {now saved : List Int} {kept : Bool} {L : List Nat} (h : FileAt st id idn ids made now saved kept) (ho : st.off L st') (h1 : ∀ j ∈ [id, idn, ids], j ∉ L) : FileAt st' id idn ids made now saved kept := by
  obtain ⟨⟨m, q1, q2⟩, q3, q4, q5, q6, q7, q8, q9, q10⟩ := h
  exact ⟨⟨m, q1, by rw [ho id (h1 id (by simp))]; exact q2⟩, by rw [ho idn (h1 idn (by simp))]; exact q3, by rw [ho ids (h1 ids (by simp))]; exact q4, q5, q6, q7, q8, q9, q10⟩

/-- Two files that tell the same from now on. -/
def RAlike (l : List Reg) (f g : RFile) : Prop := (∀ i, i < l.length → f.N i = g.N i) ∧ f.kept = g.kept ∧ (f.kept = true → ∀ i, i < l.length → retOf l i = true → f.S i = g.S i)
theorem RAlike.does {l : List Reg} {f g : RFile} (h : RAlike l f g) (a : RAct) : RAlike l (f.does l a) (g.does l a) := by
  obtain ⟨h1, h2, h3⟩ := h
  have hb6 := pickI_lt a.op (n := 6) (by omega)
  rcases (show pickI a.op 6 = 0 ∨ pickI a.op 6 = 1 ∨ pickI a.op 6 = 2 ∨ pickI a.op 6 = 3 ∨ pickI a.op 6 = 4 ∨ pickI a.op 6 = 5 by omega) with e | e | e | e | e | e
  iterate 3
    · simp only [RFile.does, e]
      split
      · refine ⟨fun i hi => ?_, h2, h3⟩
        simp only
        split
        · rfl
        · exact h1 i hi
      · exact ⟨h1, h2, h3⟩
  · simp only [RFile.does, e]
    refine ⟨h1, rfl, fun _ i hi hr => ?_⟩
    simp only [hr, if_true]; exact h1 i hi
  · simp only [RFile.does, e]
    refine ⟨fun i hi => ?_, h2, h3⟩
    simp only [← h2]
    by_cases hk : (f.kept && retOf l i) = true
    · rw [if_pos hk, if_pos hk]
      obtain ⟨k1, k2⟩ := Bool.and_eq_true_iff.mp hk
      exact h3 k1 i hi k2
    · rw [if_neg hk, if_neg hk]
  · simp only [RFile.does, e]
    exact ⟨fun _ _ => rfl, rfl, fun h => by cases h⟩

theorem clears_spec {l : List Reg} {acts then_ : List RAct} {st : ASt} (ha : ∀ a ∈ acts, a.ok) (ht : ∀ a ∈ then_, a.ok) :
    ACalls Try.prog F.catnaplaw9_RegsClears [.isl 2 (flat l) l.length, .isl 3 (acts.flatMap encRAct) acts.length, .isl 3 (then_.flatMap encRAct) then_.length] st fun r _ => r = .bool true := by
  refine calls_of_awp L.catnaplaw9_RegsClears rfl ?_
  simp only [↓Bp, Bq, ↓aop.eq_28, ↓aop.eq_30, ↓initFr, aeqP, abinv, abin, aun, bound, aslice, aput, putN, zeros, heldOk, aheadOk, IOp.again, List.map_cons, List.map_nil, List.append_nil, List.nil_append, Nat.reduceEqDiff, Nat.reduceAdd, Nat.reduceMul, Nat.reduceSub, Nat.reduceLeDiff, Nat.reduceLT, Int.reduceLT, Int.reduceLE, Int.reduceEq, Int.reduceToNat, Int.reduceAdd, Int.reduceSub, Int.reduceNeg, not_false_eq_true, not_true_eq_false, if_true, if_false, Bool.false_xor, Bool.true_xor, Bool.false_eq_true, Bool.true_eq_false, Bool.not_true, Bool.not_false, decide_true, decide_false, Nat.zero_add, Nat.add_zero, List.getElem?_cons_zero, List.getElem?_cons_succ, true_and, and_true, and_self, List.length_cons, List.length_nil, ↓reduceIte, reduceCtorEq, Option.some_or, Option.none_or, Option.or_none, eq_self, Option.map_some, List.length_set, List.set_cons_zero, List.set_cons_succ, List.cons_append, List.drop_zero, List.drop_succ_cons, List.take_succ_cons, List.take_zero, List.all_cons, List.all_nil, Bool.and_true, Option.isSome_some, Option.isSome_none, Option.isNone_some, Option.isNone_none, false_and, and_false, ↓C.catnaplaw9_RegsClears_W, C.catnaplaw9_RegsClears_B, C.catnaplaw9_RegsClears]
  refine (shown_spec st).mono ?_
  rintro r s ⟨rfl, rfl⟩
  by_cases h1 : (8 : Int) < (l.length : Nat)
  · simp only [↓Bp, Bq, ↓aop.eq_28, ↓aop.eq_30, ↓initFr, aeqP, abinv, abin, aun, bound, aslice, aput, putN, zeros, heldOk, aheadOk, IOp.again, List.map_cons, List.map_nil, List.append_nil, List.nil_append, Nat.reduceEqDiff, Nat.reduceAdd, Nat.reduceMul, Nat.reduceSub, Nat.reduceLeDiff, Nat.reduceLT, Int.reduceLT, Int.reduceLE, Int.reduceEq, Int.reduceToNat, Int.reduceAdd, Int.reduceSub, Int.reduceNeg, not_false_eq_true, not_true_eq_false, if_true, if_false, Bool.false_xor, Bool.true_xor, Bool.false_eq_true, Bool.true_eq_false, Bool.not_true, Bool.not_false, decide_true, decide_false, Nat.zero_add, Nat.add_zero, List.getElem?_cons_zero, List.getElem?_cons_succ, true_and, and_true, and_self, List.length_cons, List.length_nil, ↓reduceIte, reduceCtorEq, Option.some_or, Option.none_or, Option.or_none, eq_self, Option.map_some, List.length_set, List.set_cons_zero, List.set_cons_succ, List.cons_append, List.drop_zero, List.drop_succ_cons, List.take_succ_cons, List.take_zero, List.all_cons, List.all_nil, Bool.and_true, Option.isSome_some, Option.isSome_none, Option.isNone_some, Option.isNone_none, false_and, and_false, ↓C.catnaplaw9_RegsClears_W, C.catnaplaw9_RegsClears_B, C.catnaplaw9_RegsClears, h1]
  by_cases h2 : (100 : Int) < (acts.length : Nat)
  · simp only [↓Bp, Bq, ↓aop.eq_28, ↓aop.eq_30, ↓initFr, aeqP, abinv, abin, aun, bound, aslice, aput, putN, zeros, heldOk, aheadOk, IOp.again, List.map_cons, List.map_nil, List.append_nil, List.nil_append, Nat.reduceEqDiff, Nat.reduceAdd, Nat.reduceMul, Nat.reduceSub, Nat.reduceLeDiff, Nat.reduceLT, Int.reduceLT, Int.reduceLE, Int.reduceEq, Int.reduceToNat, Int.reduceAdd, Int.reduceSub, Int.reduceNeg, not_false_eq_true, not_true_eq_false, if_true, if_false, Bool.false_xor, Bool.true_xor, Bool.false_eq_true, Bool.true_eq_false, Bool.not_true, Bool.not_false, decide_true, decide_false, Nat.zero_add, Nat.add_zero, List.getElem?_cons_zero, List.getElem?_cons_succ, true_and, and_true, and_self, List.length_cons, List.length_nil, ↓reduceIte, reduceCtorEq, Option.some_or, Option.none_or, Option.or_none, eq_self, Option.map_some, List.length_set, List.set_cons_zero, List.set_cons_succ, List.cons_append, List.drop_zero, List.drop_succ_cons, List.take_succ_cons, List.take_zero, List.all_cons, List.all_nil, Bool.and_true, Option.isSome_some, Option.isSome_none, Option.isNone_some, Option.isNone_none, false_and, and_false, ↓C.catnaplaw9_RegsClears_W, C.catnaplaw9_RegsClears_B, C.catnaplaw9_RegsClears, h1, h2]
  by_cases h3 : (100 : Int) < (then_.length : Nat)
  · simp only [↓Bp, Bq, ↓aop.eq_28, ↓aop.eq_30, ↓initFr, aeqP, abinv, abin, aun, bound, aslice, aput, putN, zeros, heldOk, aheadOk, IOp.again, List.map_cons, List.map_nil, List.append_nil, List.nil_append, Nat.reduceEqDiff, Nat.reduceAdd, Nat.reduceMul, Nat.reduceSub, Nat.reduceLeDiff, Nat.reduceLT, Int.reduceLT, Int.reduceLE, Int.reduceEq, Int.reduceToNat, Int.reduceAdd, Int.reduceSub, Int.reduceNeg, not_false_eq_true, not_true_eq_false, if_true, if_false, Bool.false_xor, Bool.true_xor, Bool.false_eq_true, Bool.true_eq_false, Bool.not_true, Bool.not_false, decide_true, decide_false, Nat.zero_add, Nat.add_zero, List.getElem?_cons_zero, List.getElem?_cons_succ, true_and, and_true, and_self, List.length_cons, List.length_nil, ↓reduceIte, reduceCtorEq, Option.some_or, Option.none_or, Option.or_none, eq_self, Option.map_some, List.length_set, List.set_cons_zero, List.set_cons_succ, List.cons_append, List.drop_zero, List.drop_succ_cons, List.take_succ_cons, List.take_zero, List.all_cons, List.all_nil, Bool.and_true, Option.isSome_some, Option.isSome_none, Option.isNone_some, Option.isNone_none, false_and, and_false, ↓C.catnaplaw9_RegsClears_W, C.catnaplaw9_RegsClears_B, C.catnaplaw9_RegsClears, h1, h2, h3]
  simp only [↓Bp, Bq, ↓aop.eq_28, ↓aop.eq_30, ↓initFr, aeqP, abinv, abin, aun, bound, aslice, aput, putN, zeros, heldOk, aheadOk, IOp.again, List.map_cons, List.map_nil, List.append_nil, List.nil_append, Nat.reduceEqDiff, Nat.reduceAdd, Nat.reduceMul, Nat.reduceSub, Nat.reduceLeDiff, Nat.reduceLT, Int.reduceLT, Int.reduceLE, Int.reduceEq, Int.reduceToNat, Int.reduceAdd, Int.reduceSub, Int.reduceNeg, not_false_eq_true, not_true_eq_false, if_true, if_false, Bool.false_xor, Bool.true_xor, Bool.false_eq_true, Bool.true_eq_false, Bool.not_true, Bool.not_false, decide_true, decide_false, Nat.zero_add, Nat.add_zero, List.getElem?_cons_zero, List.getElem?_cons_succ, true_and, and_true, and_self, List.length_cons, List.length_nil, ↓reduceIte, reduceCtorEq, Option.some_or, Option.none_or, Option.or_none, eq_self, Option.map_some, List.length_set, List.set_cons_zero, List.set_cons_succ, List.cons_append, List.drop_zero, List.drop_succ_cons, List.take_succ_cons, List.take_zero, List.all_cons, List.all_nil, Bool.and_true, Option.isSome_some, Option.isSome_none, Option.isNone_some, Option.isNone_none, false_and, and_false, ↓C.catnaplaw9_RegsClears_W, C.catnaplaw9_RegsClears_B, C.catnaplaw9_RegsClears, h1, h2, h3]
  refine (new_spec (Readable.isl s (by omega)) (by omega)).mono ?_
  rintro r s1 ⟨a, b, c, rfl, hF, hle, ha1, hb1, hc1⟩
  simp only [↓Bp, Bq, ↓aop.eq_28, ↓aop.eq_30, ↓initFr, aeqP, abinv, abin, aun, bound, aslice, aput, putN, zeros, heldOk, aheadOk, IOp.again, List.map_cons, List.map_nil, List.append_nil, List.nil_append, Nat.reduceEqDiff, Nat.reduceAdd, Nat.reduceMul, Nat.reduceSub, Nat.reduceLeDiff, Nat.reduceLT, Int.reduceLT, Int.reduceLE, Int.reduceEq, Int.reduceToNat, Int.reduceAdd, Int.reduceSub, Int.reduceNeg, not_false_eq_true, not_true_eq_false, if_true, if_false, Bool.false_xor, Bool.true_xor, Bool.false_eq_true, Bool.true_eq_false, Bool.not_true, Bool.not_false, decide_true, decide_false, Nat.zero_add, Nat.add_zero, List.getElem?_cons_zero, List.getElem?_cons_succ, true_and, and_true, and_self, List.length_cons, List.length_nil, ↓reduceIte, reduceCtorEq, Option.some_or, Option.none_or, Option.or_none, eq_self, Option.map_some, List.length_set, List.set_cons_zero, List.set_cons_succ, List.cons_append, List.drop_zero, List.drop_succ_cons, List.take_succ_cons, List.take_zero, List.all_cons, List.all_nil, Bool.and_true, Option.isSome_some, Option.isSome_none, Option.isNone_some, Option.isNone_none, false_and, and_false, ↓C.catnaplaw9_RegsClears_W, C.catnaplaw9_RegsClears_B, C.catnaplaw9_RegsClears]
  refine (new_spec (Readable.isl s1 (by omega)) (by omega)).mono ?_
  rintro r s2 ⟨x, y, z, rfl, hG, hle2, hx1, hy1, hz1⟩
  have hd1 : ∀ j ∈ [x, y, z], j ∉ [a, b, c] := by
    intro j hj
    simp only [List.mem_cons, List.not_mem_nil, or_false] at hj
    rcases hj with rfl | rfl | rfl
    · exact hF.fresh hx1
    · exact hF.fresh hy1
    · exact hF.fresh hz1
  have hd2 : ∀ j ∈ [a, b, c], j ∉ [x, y, z] := fun j hj hj2 => hd1 j hj2 hj
  have hF2 := hF.le hle2
  clear hF
  simp only [↓Bp, Bq, ↓aop.eq_28, ↓aop.eq_30, ↓initFr, aeqP, abinv, abin, aun, bound, aslice, aput, putN, zeros, heldOk, aheadOk, IOp.again, List.map_cons, List.map_nil, List.append_nil, List.nil_append, Nat.reduceEqDiff, Nat.reduceAdd, Nat.reduceMul, Nat.reduceSub, Nat.reduceLeDiff, Nat.reduceLT, Int.reduceLT, Int.reduceLE, Int.reduceEq, Int.reduceToNat, Int.reduceAdd, Int.reduceSub, Int.reduceNeg, not_false_eq_true, not_true_eq_false, if_true, if_false, Bool.false_xor, Bool.true_xor, Bool.false_eq_true, Bool.true_eq_false, Bool.not_true, Bool.not_false, decide_true, decide_false, Nat.zero_add, Nat.add_zero, List.getElem?_cons_zero, List.getElem?_cons_succ, true_and, and_true, and_self, List.length_cons, List.length_nil, ↓reduceIte, reduceCtorEq, Option.some_or, Option.none_or, Option.or_none, eq_self, Option.map_some, List.length_set, List.set_cons_zero, List.set_cons_succ, List.cons_append, List.drop_zero, List.drop_succ_cons, List.take_succ_cons, List.take_zero, List.all_cons, List.all_nil, Bool.and_true, Option.isSome_some, Option.isSome_none, Option.isNone_some, Option.isNone_none, false_and, and_false, ↓C.catnaplaw9_RegsClears_W, C.catnaplaw9_RegsClears_B, C.catnaplaw9_RegsClears]
  refine awp_midB (fun _ : Unit => [(0, .isl 2 (flat l) l.length), (2, .isl 3 (then_.flatMap encRAct) then_.length), (8, .ptr a 0), (10, .ptr x 0)]) (fun _ s => (∃ f : RFile, FileF s a b c l f.N f.S f.kept) ∧ FileF s x y z l (resets l) (fun _ => 0) false) ?_ ?_
  · refine awp_loopK (fun k : Nat => [(0, .isl 2 (flat l) l.length), (1, .isl 3 (acts.flatMap encRAct) acts.length), (2, .isl 3 (then_.flatMap encRAct) then_.length), (8, .ptr a 0), (10, .ptr x 0), (12, .int .i64 k)]) (fun k s => k ≤ acts.length ∧ (∃ f : RFile, FileF s a b c l f.N f.S f.kept) ∧ FileF s x y z l (resets l) (fun _ => 0) false) (fun k => acts.length - k) 0 rfl
      ⟨Nat.zero_le _, ⟨⟨_, _, _⟩, hF2⟩, hG⟩ ?_
    rintro k s ⟨hk, ⟨f, hf⟩, hg⟩
    by_cases hlt : k < acts.length
    · have hlt' : (k : Int) < (acts.length : Nat) := by omega
      have hz : (0:Int) ≤ (k : Int) ∧ (k : Int) < (acts.length : Nat) := by omega
      have hw := wsucc hlt (by omega)
      have hd := rows_drop encRAct encRAct_length hlt
      have hl3 : k * 3 + 3 ≤ (acts.flatMap encRAct).length := by rw [rows_length encRAct encRAct_length]; omega
      simp only [↓Bp, Bq, ↓aop.eq_28, ↓aop.eq_30, ↓initFr, aeqP, abinv, abin, aun, bound, aslice, aput, putN, zeros, heldOk, aheadOk, IOp.again, List.map_cons, List.map_nil, List.append_nil, List.nil_append, Nat.reduceEqDiff, Nat.reduceAdd, Nat.reduceMul, Nat.reduceSub, Nat.reduceLeDiff, Nat.reduceLT, Int.reduceLT, Int.reduceLE, Int.reduceEq, Int.reduceToNat, Int.reduceAdd, Int.reduceSub, Int.reduceNeg, not_false_eq_true, not_true_eq_false, if_true, if_false, Bool.false_xor, Bool.true_xor, Bool.false_eq_true, Bool.true_eq_false, Bool.not_true, Bool.not_false, decide_true, decide_false, Nat.zero_add, Nat.add_zero, List.getElem?_cons_zero, List.getElem?_cons_succ, true_and, and_true, and_self, List.length_cons, List.length_nil, ↓reduceIte, reduceCtorEq, Option.some_or, Option.none_or, Option.or_none, eq_self, Option.map_some, List.length_set, List.set_cons_zero, List.set_cons_succ, List.cons_append, List.drop_zero, List.drop_succ_cons, List.take_succ_cons, List.take_zero, List.all_cons, List.all_nil, Bool.and_true, Option.isSome_some, Option.isSome_none, Option.isNone_some, Option.isNone_none, false_and, and_false, ↓C.catnaplaw9_RegsClears_W, C.catnaplaw9_RegsClears_B, C.catnaplaw9_RegsClears, hlt', hz, Int.toNat_natCast, hl3, hd]
      refine (does_spec (by omega) (ha _ (List.getElem_mem hlt)) hf).mono ?_
      rintro r s3 ⟨rfl, h4, h5⟩
      simp only [↓Bp, Bq, ↓aop.eq_28, ↓aop.eq_30, ↓initFr, aeqP, abinv, abin, aun, bound, aslice, aput, putN, zeros, heldOk, aheadOk, IOp.again, List.map_cons, List.map_nil, List.append_nil, List.nil_append, Nat.reduceEqDiff, Nat.reduceAdd, Nat.reduceMul, Nat.reduceSub, Nat.reduceLeDiff, Nat.reduceLT, Int.reduceLT, Int.reduceLE, Int.reduceEq, Int.reduceToNat, Int.reduceAdd, Int.reduceSub, Int.reduceNeg, not_false_eq_true, not_true_eq_false, if_true, if_false, Bool.false_xor, Bool.true_xor, Bool.false_eq_true, Bool.true_eq_false, Bool.not_true, Bool.not_false, decide_true, decide_false, Nat.zero_add, Nat.add_zero, List.getElem?_cons_zero, List.getElem?_cons_succ, true_and, and_true, and_self, List.length_cons, List.length_nil, ↓reduceIte, reduceCtorEq, Option.some_or, Option.none_or, Option.or_none, eq_self, Option.map_some, List.length_set, List.set_cons_zero, List.set_cons_succ, List.cons_append, List.drop_zero, List.drop_succ_cons, List.take_succ_cons, List.take_zero, List.all_cons, List.all_nil, Bool.and_true, Option.isSome_some, Option.isSome_none, Option.isNone_some, Option.isNone_none, false_and, and_false, ↓C.catnaplaw9_RegsClears_W, C.catnaplaw9_RegsClears_B, C.catnaplaw9_RegsClears, hw]
      exact ⟨k + 1, rfl, ⟨hlt, ⟨_, h4⟩, hg.keepOff h5 hd1⟩, by omega⟩
    · have hlt' : ¬ (k : Int) < (acts.length : Nat) := by omega
      simp only [↓Bp, Bq, ↓aop.eq_28, ↓aop.eq_30, ↓initFr, aeqP, abinv, abin, aun, bound, aslice, aput, putN, zeros, heldOk, aheadOk, IOp.again, List.map_cons, List.map_nil, List.append_nil, List.nil_append, Nat.reduceEqDiff, Nat.reduceAdd, Nat.reduceMul, Nat.reduceSub, Nat.reduceLeDiff, Nat.reduceLT, Int.reduceLT, Int.reduceLE, Int.reduceEq, Int.reduceToNat, Int.reduceAdd, Int.reduceSub, Int.reduceNeg, not_false_eq_true, not_true_eq_false, if_true, if_false, Bool.false_xor, Bool.true_xor, Bool.false_eq_true, Bool.true_eq_false, Bool.not_true, Bool.not_false, decide_true, decide_false, Nat.zero_add, Nat.add_zero, List.getElem?_cons_zero, List.getElem?_cons_succ, true_and, and_true, and_self, List.length_cons, List.length_nil, ↓reduceIte, reduceCtorEq, Option.some_or, Option.none_or, Option.or_none, eq_self, Option.map_some, List.length_set, List.set_cons_zero, List.set_cons_succ, List.cons_append, List.drop_zero, List.drop_succ_cons, List.take_succ_cons, List.take_zero, List.all_cons, List.all_nil, Bool.and_true, Option.isSome_some, Option.isSome_none, Option.isNone_some, Option.isNone_none, false_and, and_false, ↓C.catnaplaw9_RegsClears_W, C.catnaplaw9_RegsClears_B, C.catnaplaw9_RegsClears, hlt']
      exact ⟨(), ⟨f, hf⟩, hg⟩
  clear hF2 hG
  rintro - s ⟨⟨f, hf⟩, hg⟩
  simp only [↓Bp, Bq, ↓aop.eq_28, ↓aop.eq_30, ↓initFr, aeqP, abinv, abin, aun, bound, aslice, aput, putN, zeros, heldOk, aheadOk, IOp.again, List.map_cons, List.map_nil, List.append_nil, List.nil_append, Nat.reduceEqDiff, Nat.reduceAdd, Nat.reduceMul, Nat.reduceSub, Nat.reduceLeDiff, Nat.reduceLT, Int.reduceLT, Int.reduceLE, Int.reduceEq, Int.reduceToNat, Int.reduceAdd, Int.reduceSub, Int.reduceNeg, not_false_eq_true, not_true_eq_false, if_true, if_false, Bool.false_xor, Bool.true_xor, Bool.false_eq_true, Bool.true_eq_false, Bool.not_true, Bool.not_false, decide_true, decide_false, Nat.zero_add, Nat.add_zero, List.getElem?_cons_zero, List.getElem?_cons_succ, true_and, and_true, and_self, List.length_cons, List.length_nil, ↓reduceIte, reduceCtorEq, Option.some_or, Option.none_or, Option.or_none, eq_self, Option.map_some, List.length_set, List.set_cons_zero, List.set_cons_succ, List.cons_append, List.drop_zero, List.drop_succ_cons, List.take_succ_cons, List.take_zero, List.all_cons, List.all_nil, Bool.and_true, Option.isSome_some, Option.isSome_none, Option.isNone_some, Option.isNone_none, false_and, and_false, ↓C.catnaplaw9_RegsClears_W, C.catnaplaw9_RegsClears_B, C.catnaplaw9_RegsClears]
  refine (clear_f hf).mono ?_
  rintro r s3 ⟨hf3, ho3⟩
  have hg3 := hg.keepOff ho3 hd1
  simp only [↓Bp, Bq, ↓aop.eq_28, ↓aop.eq_30, ↓initFr, aeqP, abinv, abin, aun, bound, aslice, aput, putN, zeros, heldOk, aheadOk, IOp.again, List.map_cons, List.map_nil, List.append_nil, List.nil_append, Nat.reduceEqDiff, Nat.reduceAdd, Nat.reduceMul, Nat.reduceSub, Nat.reduceLeDiff, Nat.reduceLT, Int.reduceLT, Int.reduceLE, Int.reduceEq, Int.reduceToNat, Int.reduceAdd, Int.reduceSub, Int.reduceNeg, not_false_eq_true, not_true_eq_false, if_true, if_false, Bool.false_xor, Bool.true_xor, Bool.false_eq_true, Bool.true_eq_false, Bool.not_true, Bool.not_false, decide_true, decide_false, Nat.zero_add, Nat.add_zero, List.getElem?_cons_zero, List.getElem?_cons_succ, true_and, and_true, and_self, List.length_cons, List.length_nil, ↓reduceIte, reduceCtorEq, Option.some_or, Option.none_or, Option.or_none, eq_self, Option.map_some, List.length_set, List.set_cons_zero, List.set_cons_succ, List.cons_append, List.drop_zero, List.drop_succ_cons, List.take_succ_cons, List.take_zero, List.all_cons, List.all_nil, Bool.and_true, Option.isSome_some, Option.isSome_none, Option.isNone_some, Option.isNone_none, false_and, and_false, ↓C.catnaplaw9_RegsClears_W, C.catnaplaw9_RegsClears_B, C.catnaplaw9_RegsClears]
  refine awp_loopK (fun k : Nat => [(0, .isl 2 (flat l) l.length), (2, .isl 3 (then_.flatMap encRAct) then_.length), (8, .ptr a 0), (10, .ptr x 0), (13, .int .i64 k)]) (fun k s => k ≤ then_.length ∧ ∃ f g : RFile, FileF s a b c l f.N f.S f.kept ∧ FileF s x y z l g.N g.S g.kept ∧ RAlike l f g) (fun k => then_.length - k) 0 rfl
    ⟨Nat.zero_le _, ⟨resets l, f.S, false⟩, ⟨resets l, fun _ => 0, false⟩, hf3, hg3, ⟨fun _ _ => rfl, rfl, fun h => by cases h⟩⟩ ?_
  clear hf hg hf3 hg3 ho3
  rintro k s ⟨hk, f, g, hf, hg, hal⟩
  by_cases hlt : k < then_.length
  rotate_left
  · have hlt' : ¬ (k : Int) < (then_.length : Nat) := by omega
    simp only [↓Bp, Bq, ↓aop.eq_28, ↓aop.eq_30, ↓initFr, aeqP, abinv, abin, aun, bound, aslice, aput, putN, zeros, heldOk, aheadOk, IOp.again, List.map_cons, List.map_nil, List.append_nil, List.nil_append, Nat.reduceEqDiff, Nat.reduceAdd, Nat.reduceMul, Nat.reduceSub, Nat.reduceLeDiff, Nat.reduceLT, Int.reduceLT, Int.reduceLE, Int.reduceEq, Int.reduceToNat, Int.reduceAdd, Int.reduceSub, Int.reduceNeg, not_false_eq_true, not_true_eq_false, if_true, if_false, Bool.false_xor, Bool.true_xor, Bool.false_eq_true, Bool.true_eq_false, Bool.not_true, Bool.not_false, decide_true, decide_false, Nat.zero_add, Nat.add_zero, List.getElem?_cons_zero, List.getElem?_cons_succ, true_and, and_true, and_self, List.length_cons, List.length_nil, ↓reduceIte, reduceCtorEq, Option.some_or, Option.none_or, Option.or_none, eq_self, Option.map_some, List.length_set, List.set_cons_zero, List.set_cons_succ, List.cons_append, List.drop_zero, List.drop_succ_cons, List.take_succ_cons, List.take_zero, List.all_cons, List.all_nil, Bool.and_true, Option.isSome_some, Option.isSome_none, Option.isNone_some, Option.isNone_none, false_and, and_false, ↓C.catnaplaw9_RegsClears_W, C.catnaplaw9_RegsClears_B, C.catnaplaw9_RegsClears, hlt']
  have hlt' : (k : Int) < (then_.length : Nat) := by omega
  have hz : (0:Int) ≤ (k : Int) ∧ (k : Int) < (then_.length : Nat) := by omega
  have hw := wsucc hlt (by omega)
  have hd := rows_drop encRAct encRAct_length hlt
  have hl3 : k * 3 + 3 ≤ (then_.flatMap encRAct).length := by rw [rows_length encRAct encRAct_length]; omega
  simp only [↓Bp, Bq, ↓aop.eq_28, ↓aop.eq_30, ↓initFr, aeqP, abinv, abin, aun, bound, aslice, aput, putN, zeros, heldOk, aheadOk, IOp.again, List.map_cons, List.map_nil, List.append_nil, List.nil_append, Nat.reduceEqDiff, Nat.reduceAdd, Nat.reduceMul, Nat.reduceSub, Nat.reduceLeDiff, Nat.reduceLT, Int.reduceLT, Int.reduceLE, Int.reduceEq, Int.reduceToNat, Int.reduceAdd, Int.reduceSub, Int.reduceNeg, not_false_eq_true, not_true_eq_false, if_true, if_false, Bool.false_xor, Bool.true_xor, Bool.false_eq_true, Bool.true_eq_false, Bool.not_true, Bool.not_false, decide_true, decide_false, Nat.zero_add, Nat.add_zero, List.getElem?_cons_zero, List.getElem?_cons_succ, true_and, and_true, and_self, List.length_cons, List.length_nil, ↓reduceIte, reduceCtorEq, Option.some_or, Option.none_or, Option.or_none, eq_self, Option.map_some, List.length_set, List.set_cons_zero, List.set_cons_succ, List.cons_append, List.drop_zero, List.drop_succ_cons, List.take_succ_cons, List.take_zero, List.all_cons, List.all_nil, Bool.and_true, Option.isSome_some, Option.isSome_none, Option.isNone_some, Option.isNone_none, false_and, and_false, ↓C.catnaplaw9_RegsClears_W, C.catnaplaw9_RegsClears_B, C.catnaplaw9_RegsClears, hlt', hz, Int.toNat_natCast, hl3, hd]
  refine (does_spec (by omega) (ht _ (List.getElem_mem hlt)) hf).mono ?_
  rintro r s4 ⟨rfl, hf4, ho4⟩
  have hg4 := hg.keepOff ho4 hd1
  simp only [↓Bp, Bq, ↓aop.eq_28, ↓aop.eq_30, ↓initFr, aeqP, abinv, abin, aun, bound, aslice, aput, putN, zeros, heldOk, aheadOk, IOp.again, List.map_cons, List.map_nil, List.append_nil, List.nil_append, Nat.reduceEqDiff, Nat.reduceAdd, Nat.reduceMul, Nat.reduceSub, Nat.reduceLeDiff, Nat.reduceLT, Int.reduceLT, Int.reduceLE, Int.reduceEq, Int.reduceToNat, Int.reduceAdd, Int.reduceSub, Int.reduceNeg, not_false_eq_true, not_true_eq_false, if_true, if_false, Bool.false_xor, Bool.true_xor, Bool.false_eq_true, Bool.true_eq_false, Bool.not_true, Bool.not_false, decide_true, decide_false, Nat.zero_add, Nat.add_zero, List.getElem?_cons_zero, List.getElem?_cons_succ, true_and, and_true, and_self, List.length_cons, List.length_nil, ↓reduceIte, reduceCtorEq, Option.some_or, Option.none_or, Option.or_none, eq_self, Option.map_some, List.length_set, List.set_cons_zero, List.set_cons_succ, List.cons_append, List.drop_zero, List.drop_succ_cons, List.take_succ_cons, List.take_zero, List.all_cons, List.all_nil, Bool.and_true, Option.isSome_some, Option.isSome_none, Option.isNone_some, Option.isNone_none, false_and, and_false, ↓C.catnaplaw9_RegsClears_W, C.catnaplaw9_RegsClears_B, C.catnaplaw9_RegsClears, hl3, hd]
  refine (does_spec (by omega) (ht _ (List.getElem_mem hlt)) hg4).mono ?_
  rintro r s5 ⟨rfl, hg5, ho5⟩
  have hf5 := hf4.keepOff ho5 hd2
  have hal5 := hal.does then_[k]
  simp only [↓Bp, Bq, ↓aop.eq_28, ↓aop.eq_30, ↓initFr, aeqP, abinv, abin, aun, bound, aslice, aput, putN, zeros, heldOk, aheadOk, IOp.again, List.map_cons, List.map_nil, List.append_nil, List.nil_append, Nat.reduceEqDiff, Nat.reduceAdd, Nat.reduceMul, Nat.reduceSub, Nat.reduceLeDiff, Nat.reduceLT, Int.reduceLT, Int.reduceLE, Int.reduceEq, Int.reduceToNat, Int.reduceAdd, Int.reduceSub, Int.reduceNeg, not_false_eq_true, not_true_eq_false, if_true, if_false, Bool.false_xor, Bool.true_xor, Bool.false_eq_true, Bool.true_eq_false, Bool.not_true, Bool.not_false, decide_true, decide_false, Nat.zero_add, Nat.add_zero, List.getElem?_cons_zero, List.getElem?_cons_succ, true_and, and_true, and_self, List.length_cons, List.length_nil, ↓reduceIte, reduceCtorEq, Option.some_or, Option.none_or, Option.or_none, eq_self, Option.map_some, List.length_set, List.set_cons_zero, List.set_cons_succ, List.cons_append, List.drop_zero, List.drop_succ_cons, List.take_succ_cons, List.take_zero, List.all_cons, List.all_nil, Bool.and_true, Option.isSome_some, Option.isSome_none, Option.isNone_some, Option.isNone_none, false_and, and_false, ↓C.catnaplaw9_RegsClears_W, C.catnaplaw9_RegsClears_B, C.catnaplaw9_RegsClears]
  refine awp_loopK (fun j : Nat => [(0, .isl 2 (flat l) l.length), (2, .isl 3 (then_.flatMap encRAct) then_.length), (8, .ptr a 0), (10, .ptr x 0), (13, .int .i64 k), (14, .int .i64 j)]) (fun j s => j ≤ l.length ∧ s = s5) (fun j => l.length - j) 0 rfl ⟨Nat.zero_le _, rfl⟩ ?_
  rintro j s ⟨hj, rfl⟩
  by_cases hjl : j < l.length
  · have hjl' : (j : Int) < (l.length : Nat) := by omega
    have hwj := wsucc hjl (by omega)
    simp only [↓Bp, Bq, ↓aop.eq_28, ↓aop.eq_30, ↓initFr, aeqP, abinv, abin, aun, bound, aslice, aput, putN, zeros, heldOk, aheadOk, IOp.again, List.map_cons, List.map_nil, List.append_nil, List.nil_append, Nat.reduceEqDiff, Nat.reduceAdd, Nat.reduceMul, Nat.reduceSub, Nat.reduceLeDiff, Nat.reduceLT, Int.reduceLT, Int.reduceLE, Int.reduceEq, Int.reduceToNat, Int.reduceAdd, Int.reduceSub, Int.reduceNeg, not_false_eq_true, not_true_eq_false, if_true, if_false, Bool.false_xor, Bool.true_xor, Bool.false_eq_true, Bool.true_eq_false, Bool.not_true, Bool.not_false, decide_true, decide_false, Nat.zero_add, Nat.add_zero, List.getElem?_cons_zero, List.getElem?_cons_succ, true_and, and_true, and_self, List.length_cons, List.length_nil, ↓reduceIte, reduceCtorEq, Option.some_or, Option.none_or, Option.or_none, eq_self, Option.map_some, List.length_set, List.set_cons_zero, List.set_cons_succ, List.cons_append, List.drop_zero, List.drop_succ_cons, List.take_succ_cons, List.take_zero, List.all_cons, List.all_nil, Bool.and_true, Option.isSome_some, Option.isSome_none, Option.isNone_some, Option.isNone_none, false_and, and_false, ↓C.catnaplaw9_RegsClears_W, C.catnaplaw9_RegsClears_B, C.catnaplaw9_RegsClears, hjl']
    refine (read_at hf5 hjl).mono ?_
    rintro r s6 ⟨rfl, rfl⟩
    simp only [↓Bp, Bq, ↓aop.eq_28, ↓aop.eq_30, ↓initFr, aeqP, abinv, abin, aun, bound, aslice, aput, putN, zeros, heldOk, aheadOk, IOp.again, List.map_cons, List.map_nil, List.append_nil, List.nil_append, Nat.reduceEqDiff, Nat.reduceAdd, Nat.reduceMul, Nat.reduceSub, Nat.reduceLeDiff, Nat.reduceLT, Int.reduceLT, Int.reduceLE, Int.reduceEq, Int.reduceToNat, Int.reduceAdd, Int.reduceSub, Int.reduceNeg, not_false_eq_true, not_true_eq_false, if_true, if_false, Bool.false_xor, Bool.true_xor, Bool.false_eq_true, Bool.true_eq_false, Bool.not_true, Bool.not_false, decide_true, decide_false, Nat.zero_add, Nat.add_zero, List.getElem?_cons_zero, List.getElem?_cons_succ, true_and, and_true, and_self, List.length_cons, List.length_nil, ↓reduceIte, reduceCtorEq, Option.some_or, Option.none_or, Option.or_none, eq_self, Option.map_some, List.length_set, List.set_cons_zero, List.set_cons_succ, List.cons_append, List.drop_zero, List.drop_succ_cons, List.take_succ_cons, List.take_zero, List.all_cons, List.all_nil, Bool.and_true, Option.isSome_some, Option.isSome_none, Option.isNone_some, Option.isNone_none, false_and, and_false, ↓C.catnaplaw9_RegsClears_W, C.catnaplaw9_RegsClears_B, C.catnaplaw9_RegsClears]
    refine (read_at hg5 hjl).mono ?_
    rintro r s7 ⟨rfl, rfl⟩
    simp only [↓Bp, Bq, ↓aop.eq_28, ↓aop.eq_30, ↓initFr, aeqP, abinv, abin, aun, bound, aslice, aput, putN, zeros, heldOk, aheadOk, IOp.again, List.map_cons, List.map_nil, List.append_nil, List.nil_append, Nat.reduceEqDiff, Nat.reduceAdd, Nat.reduceMul, Nat.reduceSub, Nat.reduceLeDiff, Nat.reduceLT, Int.reduceLT, Int.reduceLE, Int.reduceEq, Int.reduceToNat, Int.reduceAdd, Int.reduceSub, Int.reduceNeg, not_false_eq_true, not_true_eq_false, if_true, if_false, Bool.false_xor, Bool.true_xor, Bool.false_eq_true, Bool.true_eq_false, Bool.not_true, Bool.not_false, decide_true, decide_false, Nat.zero_add, Nat.add_zero, List.getElem?_cons_zero, List.getElem?_cons_succ, true_and, and_true, and_self, List.length_cons, List.length_nil, ↓reduceIte, reduceCtorEq, Option.some_or, Option.none_or, Option.or_none, eq_self, Option.map_some, List.length_set, List.set_cons_zero, List.set_cons_succ, List.cons_append, List.drop_zero, List.drop_succ_cons, List.take_succ_cons, List.take_zero, List.all_cons, List.all_nil, Bool.and_true, Option.isSome_some, Option.isSome_none, Option.isNone_some, Option.isNone_none, false_and, and_false, ↓C.catnaplaw9_RegsClears_W, C.catnaplaw9_RegsClears_B, C.catnaplaw9_RegsClears, hal5.1 j hjl, hwj]
    exact ⟨j + 1, rfl, hjl, by omega⟩
  · have hjl' : ¬ (j : Int) < (l.length : Nat) := by omega
    simp only [↓Bp, Bq, ↓aop.eq_28, ↓aop.eq_30, ↓initFr, aeqP, abinv, abin, aun, bound, aslice, aput, putN, zeros, heldOk, aheadOk, IOp.again, List.map_cons, List.map_nil, List.append_nil, List.nil_append, Nat.reduceEqDiff, Nat.reduceAdd, Nat.reduceMul, Nat.reduceSub, Nat.reduceLeDiff, Nat.reduceLT, Int.reduceLT, Int.reduceLE, Int.reduceEq, Int.reduceToNat, Int.reduceAdd, Int.reduceSub, Int.reduceNeg, not_false_eq_true, not_true_eq_false, if_true, if_false, Bool.false_xor, Bool.true_xor, Bool.false_eq_true, Bool.true_eq_false, Bool.not_true, Bool.not_false, decide_true, decide_false, Nat.zero_add, Nat.add_zero, List.getElem?_cons_zero, List.getElem?_cons_succ, true_and, and_true, and_self, List.length_cons, List.length_nil, ↓reduceIte, reduceCtorEq, Option.some_or, Option.none_or, Option.or_none, eq_self, Option.map_some, List.length_set, List.set_cons_zero, List.set_cons_succ, List.cons_append, List.drop_zero, List.drop_succ_cons, List.take_succ_cons, List.take_zero, List.all_cons, List.all_nil, Bool.and_true, Option.isSome_some, Option.isSome_none, Option.isNone_some, Option.isNone_none, false_and, and_false, ↓C.catnaplaw9_RegsClears_W, C.catnaplaw9_RegsClears_B, C.catnaplaw9_RegsClears, hjl', hw]
    exact ⟨k + 1, rfl, ⟨hlt, _, _, hf5, hg5, hal5⟩, by omega⟩
end Go.Proofs.Ytlnhljcfcnmglaa.Cn
