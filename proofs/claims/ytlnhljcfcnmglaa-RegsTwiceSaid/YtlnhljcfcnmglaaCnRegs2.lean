/- Registers: what is made, picked, gathered. -/
import Derived.Test.YtlnhljcfcnmglaaCnRegs1
import Derived.Test.YtlnhljcfcnmglaaCnPick
set_option linter.unusedSimpArgs false
set_option linter.unusedVariables false
namespace Go.Proofs.Ytlnhljcfcnmglaa.Cn
open Go Go.Proofs

/-- A row of numbers, told one by one. -/
def tab (n : Nat) (f : Nat → Int) : List Int := (List.range n).map f
theorem tab_length (n : Nat) (f : Nat → Int) : (tab n f).length = n := by simp [tab]
theorem tab_getD {n i : Nat} (f : Nat → Int) (h : i < n) : (tab n f).getD i 0 = f i := by simp [tab, h]
theorem tab_set (n i : Nat) (f : Nat → Int) (v : Int) : (tab n f).set i v = tab n fun j => if j = i then v else f j := by
  apply List.ext_getElem
  · simp [tab]
  · intro j h1 h2
    simp only [tab, List.length_map, List.length_range] at h2
    simp only [tab, List.getElem_set, List.getElem_map, List.getElem_range]
    by_cases e : i = j
    · rw [if_pos e, if_pos e.symm]
    · rw [if_neg e, if_neg (Ne.symm e)]
theorem tab_congr {n : Nat} {f g : Nat → Int} (h : ∀ i, i < n → f i = g i) : tab n f = tab n g := by
  apply List.map_congr_left
  intro i hi; exact h i (by simpa using hi)
theorem upTo_tab (n : Nat) (f : Nat → Int) (val : Nat → Int) (i : Nat) : upTo val (tab n f) i = tab n fun j => if j < i then val j else f j := by
  induction i with
  | zero => simp [upTo]
  | succ i ih =>
    rw [upTo, ih, tab_set]
    apply tab_congr
    intro j _
    by_cases e : j = i
    · subst e; simp
    · rw [if_neg e]
      by_cases h : j < i
      · rw [if_pos h, if_pos (by omega)]
      · rw [if_neg h, if_neg (by omega)]
theorem upTo_full (n : Nat) (f : Nat → Int) (val : Nat → Int) : upTo val (tab n f) n = tab n val := by
  rw [upTo_tab]; exact tab_congr fun i hi => by rw [if_pos hi]

def retOf (made : List Reg) (i : Nat) : Bool := (made[i]?.map (·.ret)).getD false

theorem savedUp_tab {made : List Reg} (N S : Nat → Int) (i : Nat) (hi : i ≤ made.length) : savedUp made (tab made.length N) (tab made.length S) i = tab made.length fun j => if j < i ∧ retOf made j = true then N j else S j := by
  induction i with
  | zero => simp [savedUp]
  | succ i ih =>
    rw [savedUp, ih (by omega)]
    by_cases hr : retOf made i = true
    · have hr' := hr
      unfold retOf at hr'
      rw [if_pos hr', tab_getD _ (by omega), tab_set]
      apply tab_congr
      intro j _
      by_cases e : j = i
      · subst e; simp [hr]
      · rw [if_neg e]
        have : (j < i + 1 ∧ retOf made j = true) ↔ (j < i ∧ retOf made j = true) := by constructor <;> (rintro ⟨a, b⟩; exact ⟨by omega, b⟩)
        simp only [this]
    · have hr' := hr
      unfold retOf at hr'
      rw [if_neg hr']
      apply tab_congr
      intro j _
      have : (j < i + 1 ∧ retOf made j = true) ↔ (j < i ∧ retOf made j = true) := by
        constructor
        · rintro ⟨a, b⟩
          refine ⟨?_, b⟩
          rcases Nat.lt_or_ge j i with h | h
          · exact h
          · have : j = i := by omega
            subst this; exact absurd b hr
        · rintro ⟨a, b⟩; exact ⟨by omega, b⟩
      simp only [this]

/-- A file, its numbers told one by one. -/
abbrev FileF (st : ASt) (id idn ids : Nat) (made : List Reg) (N S : Nat → Int) (kept : Bool) : Prop := FileAt st id idn ids made (tab made.length N) (tab made.length S) kept

theorem FileF.congr {st : ASt} {id idn ids : Nat} {made : List Reg} {N S N' S' : Nat → Int} {kept : Bool} (h : FileF st id idn ids made N S kept) (hN : ∀ i, i < made.length → N i = N' i) (hS : ∀ i, i < made.length → S i = S' i) : FileF st id idn ids made N' S' kept := by
  unfold FileF at h ⊢
  rwa [tab_congr hN, tab_congr hS] at h

section
variable {st : ASt} {id idn ids : Nat} {made : List Reg} {N S : Nat → Int} {kept : Bool}

theorem read_at (h : FileF st id idn ids made N S kept) {i : Nat} (hi : i < made.length) : ACalls Try.prog F.regs_File_Read [.ptr id 0, .int .i64 i] st fun v st' => st' = st ∧ v = .tup [.int .u32 (N i), .int .i64 0] := by
  refine (read_spec h i).mono ?_
  rintro v st' ⟨rfl, rfl⟩
  refine ⟨rfl, ?_⟩
  rw [if_pos (by omega), Int.toNat_natCast, tab_getD _ hi]

theorem read_not (h : FileF st id idn ids made N S kept) {i : Int} (hi : ¬ (0 ≤ i ∧ i < made.length)) : ACalls Try.prog F.regs_File_Read [.ptr id 0, .int .i64 i] st fun v st' => st' = st ∧ v = .tup [.int .u32 0, .int .i64 4] := by
  refine (read_spec h i).mono ?_
  rintro v st' ⟨rfl, rfl⟩
  exact ⟨rfl, by rw [if_neg hi]⟩

theorem write_at (h : FileF st id idn ids made N S kept) {i : Nat} (hi : i < made.length) (x : Int) : ACalls Try.prog F.regs_File_Write [.ptr id 0, .int .i64 i, .int .u32 x] st fun v st' =>
    v = .int .i64 0 ∧ FileF st' id idn ids made (fun j => if j = i then x else N j) S kept ∧ st.off [id, idn, ids] st' := by
  refine (write_spec h i x).mono ?_
  rintro v st' hq
  rw [if_pos (by omega), Int.toNat_natCast, tab_set] at hq
  obtain ⟨rfl, rfl⟩ := hq
  exact ⟨rfl, FileAt.withNow h (tab_length _ _), (ASt.off.refl _ _).set _ (by simp)⟩

theorem write_not (h : FileF st id idn ids made N S kept) {i : Int} (hi : ¬ (0 ≤ i ∧ i < made.length)) (x : Int) : ACalls Try.prog F.regs_File_Write [.ptr id 0, .int .i64 i, .int .u32 x] st fun v st' => v = .int .i64 4 ∧ st' = st := by
  refine (write_spec h i x).mono ?_
  rintro v st' hq
  rw [if_neg hi] at hq
  exact hq

theorem save_f (h : FileF st id idn ids made N S kept) : ACalls Try.prog F.regs_File_Save [.ptr id 0] st fun _ st' =>
    FileF st' id idn ids made N (fun j => if retOf made j = true then N j else S j) true ∧ st.off [id, idn, ids] st' := by
  refine (save_spec h).mono ?_
  rintro v st' ⟨h1, h2⟩
  rw [savedUp_tab _ _ _ (Nat.le_refl _)] at h1
  refine ⟨?_, h2⟩
  have : tab made.length (fun j => if j < made.length ∧ retOf made j = true then N j else S j) = tab made.length (fun j => if retOf made j = true then N j else S j) := tab_congr fun i hi => by simp only [hi, true_and]
  rwa [this] at h1

theorem restore_f (h : FileF st id idn ids made N S kept) : ACalls Try.prog F.regs_File_Restore [.ptr id 0] st fun _ st' =>
    FileF st' id idn ids made (fun j => if (kept && retOf made j) = true then S j else resets made j) S kept ∧ st.off [id, idn, ids] st' := by
  refine (restore_spec h).mono ?_
  rintro v st' ⟨h1, h2⟩
  rw [upTo_full] at h1
  refine ⟨?_, h2⟩
  have : tab made.length (restored made (tab made.length S) kept) = tab made.length (fun j => if (kept && retOf made j) = true then S j else resets made j) := tab_congr fun i hi => by
    simp only [restored, retOf, resets, tab_getD _ hi]
    rfl
  rwa [this] at h1

theorem clear_f (h : FileF st id idn ids made N S kept) : ACalls Try.prog F.regs_File_Clear [.ptr id 0] st fun _ st' =>
    FileF st' id idn ids made (resets made) S false ∧ st.off [id, idn, ids] st' := by
  refine (clear_spec h).mono ?_
  rintro v st' ⟨h1, h2⟩
  rw [upTo_full] at h1
  exact ⟨h1, h2⟩
end

theorem flat_take (l : List Reg) : (flat l).take (l.length * 2) = flat l := by rw [← flat_length, List.take_length]

/-- A list of registers that can be read. -/
structure Readable (st : ASt) (l : List Reg) (v : AV) : Prop where
  len : v.slen = some l.length
  seen : st.seen (l.length * 2) v = some (flat l)
  nil : (∃ b, v.isNil 1 = some b ∧ (b = true → l = [])) ∨ (v = .isl 2 [] 0 ∧ l = [])
  small : l.length ≤ 4294967296

theorem Readable.le {st st' : ASt} {l : List Reg} {v : AV} (h : Readable st l v) (hl : st.le st') : Readable st' l v := ⟨h.len, ASt.seen_le hl h.seen, h.nil, h.small⟩
theorem Readable.nils (st : ASt) : Readable st [] .nils := ⟨rfl, rfl, .inl ⟨true, rfl, fun _ => rfl⟩, by simp⟩
theorem Readable.nn (st : ASt) : Readable st [] .nn := ⟨rfl, rfl, .inl ⟨false, rfl, fun e => by cases e⟩, by simp⟩
theorem Readable.isl (st : ASt) {l : List Reg} (h : l.length ≤ 4294967296) : Readable st l (.isl 2 (flat l) l.length) :=
  ⟨rfl, by simp only [ASt.seen, flat_length, Nat.le_refl, if_true]; rw [← flat_length, List.take_length], (by
    cases l with
    | nil => exact .inr ⟨rfl, rfl⟩
    | cons x l => exact .inl ⟨false, rfl, fun e => by cases e⟩), h⟩
theorem Readable.sl {st : ASt} {l : List Reg} {id : Nat} (h : st.h id = some (.cells (flat l))) (hs : l.length ≤ 4294967296) : Readable st l (.sl 2 id 0 l.length) :=
  ⟨rfl, by simp only [ASt.seen, h, flat_length, Nat.zero_add, Nat.le_refl, if_true, List.drop_zero]; rw [← flat_length, List.take_length], .inl ⟨false, rfl, fun e => by cases e⟩, hs⟩

theorem clone_spec0 {st : ASt} {l : List Reg} {v : AV} (h : Readable st l v) {b : Bool} (hb : v.isNil 1 = some b) (hb2 : b = true → l = []) : ACalls Try.prog F.slices_Clone_api_Reg_api_Reg [v] st fun r st' => MadeAs l r ∧ st' = st := by
  refine ACalls.ghost (Q' := fun r st' => (MadeAs l r ∧ st.le st') ∨ ∃ id, r = .sl 2 id 0 l.length ∧ st'.h id = some (.cells (flat l)) ∧ st.h id = none ∧ st.le st') (calls_of_awp L.slices_Clone_api_Reg_api_Reg rfl ?_) ?_
  · cases b
    · simp only [↓Bp, Bq, ↓aop.eq_28, ↓aop.eq_30, ↓initFr, aeqP, abinv, abin, aun, bound, aslice, aput, putN, zeros, heldOk, aheadOk, IOp.again, List.map_cons, List.map_nil, List.append_nil, List.nil_append, Nat.reduceEqDiff, Nat.reduceAdd, Nat.reduceMul, Nat.reduceSub, Nat.reduceLeDiff, Nat.reduceLT, Int.reduceLT, Int.reduceLE, Int.reduceEq, Int.reduceToNat, Int.reduceAdd, Int.reduceSub, Int.reduceNeg, not_false_eq_true, not_true_eq_false, if_true, if_false, Bool.false_xor, Bool.true_xor, Bool.false_eq_true, Bool.true_eq_false, Bool.not_true, Bool.not_false, decide_true, decide_false, Nat.zero_add, Nat.add_zero, List.getElem?_cons_zero, List.getElem?_cons_succ, true_and, and_true, and_self, List.length_cons, List.length_nil, ↓reduceIte, reduceCtorEq, Option.some_or, Option.none_or, Option.or_none, eq_self, Option.map_some, List.length_set, List.set_cons_zero, List.set_cons_succ, List.cons_append, List.drop_zero, List.drop_succ_cons, List.take_succ_cons, List.take_zero, List.all_cons, List.all_nil, Bool.and_true, Option.isSome_some, Option.isSome_none, Option.isNone_some, Option.isNone_none, false_and, and_false, ↓C.slices_Clone_api_Reg_api_Reg_W, C.slices_Clone_api_Reg_api_Reg_B, C.slices_Clone_api_Reg_api_Reg, hb]
      intro id hid
      have hs := ASt.seen_le (ASt.le.new st id (.cells [])) h.seen
      have hsm : l.length ≤ 4294967296 := h.small
      simp only [↓Bp, Bq, ↓aop.eq_28, ↓aop.eq_30, ↓initFr, aeqP, abinv, abin, aun, bound, aslice, aput, putN, zeros, heldOk, aheadOk, IOp.again, List.map_cons, List.map_nil, List.append_nil, List.nil_append, Nat.reduceEqDiff, Nat.reduceAdd, Nat.reduceMul, Nat.reduceSub, Nat.reduceLeDiff, Nat.reduceLT, Int.reduceLT, Int.reduceLE, Int.reduceEq, Int.reduceToNat, Int.reduceAdd, Int.reduceSub, Int.reduceNeg, not_false_eq_true, not_true_eq_false, if_true, if_false, Bool.false_xor, Bool.true_xor, Bool.false_eq_true, Bool.true_eq_false, Bool.not_true, Bool.not_false, decide_true, decide_false, Nat.zero_add, Nat.add_zero, List.getElem?_cons_zero, List.getElem?_cons_succ, true_and, and_true, and_self, List.length_cons, List.length_nil, ↓reduceIte, reduceCtorEq, Option.some_or, Option.none_or, Option.or_none, eq_self, Option.map_some, List.length_set, List.set_cons_zero, List.set_cons_succ, List.cons_append, List.drop_zero, List.drop_succ_cons, List.take_succ_cons, List.take_zero, List.all_cons, List.all_nil, Bool.and_true, Option.isSome_some, Option.isSome_none, Option.isNone_some, Option.isNone_none, false_and, and_false, ↓C.slices_Clone_api_Reg_api_Reg_W, C.slices_Clone_api_Reg_api_Reg_B, C.slices_Clone_api_Reg_api_Reg, hb, h.len, hs, hid, hsm, flat_leaf]
      by_cases h0 : l.length = 0
      · simp only [↓Bp, Bq, ↓aop.eq_28, ↓aop.eq_30, ↓initFr, aeqP, abinv, abin, aun, bound, aslice, aput, putN, zeros, heldOk, aheadOk, IOp.again, List.map_cons, List.map_nil, List.append_nil, List.nil_append, Nat.reduceEqDiff, Nat.reduceAdd, Nat.reduceMul, Nat.reduceSub, Nat.reduceLeDiff, Nat.reduceLT, Int.reduceLT, Int.reduceLE, Int.reduceEq, Int.reduceToNat, Int.reduceAdd, Int.reduceSub, Int.reduceNeg, not_false_eq_true, not_true_eq_false, if_true, if_false, Bool.false_xor, Bool.true_xor, Bool.false_eq_true, Bool.true_eq_false, Bool.not_true, Bool.not_false, decide_true, decide_false, Nat.zero_add, Nat.add_zero, List.getElem?_cons_zero, List.getElem?_cons_succ, true_and, and_true, and_self, List.length_cons, List.length_nil, ↓reduceIte, reduceCtorEq, Option.some_or, Option.none_or, Option.or_none, eq_self, Option.map_some, List.length_set, List.set_cons_zero, List.set_cons_succ, List.cons_append, List.drop_zero, List.drop_succ_cons, List.take_succ_cons, List.take_zero, List.all_cons, List.all_nil, Bool.and_true, Option.isSome_some, Option.isSome_none, Option.isNone_some, Option.isNone_none, false_and, and_false, h0]
        left
        refine ⟨⟨?_, fun hne => absurd (List.eq_nil_of_length_eq_zero h0) hne⟩, ASt.le.new _ _ _⟩
        simp [AV.slen, h0]
      · simp only [↓Bp, Bq, ↓aop.eq_28, ↓aop.eq_30, ↓initFr, aeqP, abinv, abin, aun, bound, aslice, aput, putN, zeros, heldOk, aheadOk, IOp.again, List.map_cons, List.map_nil, List.append_nil, List.nil_append, Nat.reduceEqDiff, Nat.reduceAdd, Nat.reduceMul, Nat.reduceSub, Nat.reduceLeDiff, Nat.reduceLT, Int.reduceLT, Int.reduceLE, Int.reduceEq, Int.reduceToNat, Int.reduceAdd, Int.reduceSub, Int.reduceNeg, not_false_eq_true, not_true_eq_false, if_true, if_false, Bool.false_xor, Bool.true_xor, Bool.false_eq_true, Bool.true_eq_false, Bool.not_true, Bool.not_false, decide_true, decide_false, Nat.zero_add, Nat.add_zero, List.getElem?_cons_zero, List.getElem?_cons_succ, true_and, and_true, and_self, List.length_cons, List.length_nil, ↓reduceIte, reduceCtorEq, Option.some_or, Option.none_or, Option.or_none, eq_self, Option.map_some, List.length_set, List.set_cons_zero, List.set_cons_succ, List.cons_append, List.drop_zero, List.drop_succ_cons, List.take_succ_cons, List.take_zero, List.all_cons, List.all_nil, Bool.and_true, Option.isSome_some, Option.isSome_none, Option.isNone_some, Option.isNone_none, false_and, and_false, h0]
        rintro id' ⟨hx, hx2⟩
        right
        refine ⟨id', rfl, ?_, hx, ((ASt.le.new _ _ _).unkill hid).trans (ASt.le.new _ _ _)⟩
        simp only [↓Bp, Bq, ↓aop.eq_28, ↓aop.eq_30, ↓initFr, aeqP, abinv, abin, aun, bound, aslice, aput, putN, zeros, heldOk, aheadOk, IOp.again, List.map_cons, List.map_nil, List.append_nil, List.nil_append, Nat.reduceEqDiff, Nat.reduceAdd, Nat.reduceMul, Nat.reduceSub, Nat.reduceLeDiff, Nat.reduceLT, Int.reduceLT, Int.reduceLE, Int.reduceEq, Int.reduceToNat, Int.reduceAdd, Int.reduceSub, Int.reduceNeg, not_false_eq_true, not_true_eq_false, if_true, if_false, Bool.false_xor, Bool.true_xor, Bool.false_eq_true, Bool.true_eq_false, Bool.not_true, Bool.not_false, decide_true, decide_false, Nat.zero_add, Nat.add_zero, List.getElem?_cons_zero, List.getElem?_cons_succ, true_and, and_true, and_self, List.length_cons, List.length_nil, ↓reduceIte, reduceCtorEq, Option.some_or, Option.none_or, Option.or_none, eq_self, Option.map_some, List.length_set, List.set_cons_zero, List.set_cons_succ, List.cons_append, List.drop_zero, List.drop_succ_cons, List.take_succ_cons, List.take_zero, List.all_cons, List.all_nil, Bool.and_true, Option.isSome_some, Option.isSome_none, Option.isNone_some, Option.isNone_none, false_and, and_false, hx, hx2]
    · have hl := hb2 rfl
      subst hl
      simp only [↓Bp, Bq, ↓aop.eq_28, ↓aop.eq_30, ↓initFr, aeqP, abinv, abin, aun, bound, aslice, aput, putN, zeros, heldOk, aheadOk, IOp.again, List.map_cons, List.map_nil, List.append_nil, List.nil_append, Nat.reduceEqDiff, Nat.reduceAdd, Nat.reduceMul, Nat.reduceSub, Nat.reduceLeDiff, Nat.reduceLT, Int.reduceLT, Int.reduceLE, Int.reduceEq, Int.reduceToNat, Int.reduceAdd, Int.reduceSub, Int.reduceNeg, not_false_eq_true, not_true_eq_false, if_true, if_false, Bool.false_xor, Bool.true_xor, Bool.false_eq_true, Bool.true_eq_false, Bool.not_true, Bool.not_false, decide_true, decide_false, Nat.zero_add, Nat.add_zero, List.getElem?_cons_zero, List.getElem?_cons_succ, true_and, and_true, and_self, List.length_cons, List.length_nil, ↓reduceIte, reduceCtorEq, Option.some_or, Option.none_or, Option.or_none, eq_self, Option.map_some, List.length_set, List.set_cons_zero, List.set_cons_succ, List.cons_append, List.drop_zero, List.drop_succ_cons, List.take_succ_cons, List.take_zero, List.all_cons, List.all_nil, Bool.and_true, Option.isSome_some, Option.isSome_none, Option.isNone_some, Option.isNone_none, false_and, and_false, ↓C.slices_Clone_api_Reg_api_Reg_W, C.slices_Clone_api_Reg_api_Reg_B, C.slices_Clone_api_Reg_api_Reg, hb]
      left
      exact ⟨⟨rfl, fun hne => absurd rfl hne⟩, ASt.le.refl _⟩
  · rintro r st' (⟨h1, h2⟩ | ⟨id, rfl, h1, h2, h3⟩)
    · exact ⟨r, st, Ghost.sub h2, h1, rfl⟩
    · exact ⟨_, st, (Ghost.freeze h1).trans (Ghost.sub (h3.unkill h2)), ⟨rfl, fun _ => rfl⟩, rfl⟩

theorem clone_spec {st : ASt} {l : List Reg} {v : AV} (h : Readable st l v) : ACalls Try.prog F.slices_Clone_api_Reg_api_Reg [v] st fun r st' => MadeAs l r ∧ st' = st := by
  rcases h.nil with ⟨b, hb, hb2⟩ | ⟨rfl, rfl⟩
  · exact clone_spec0 h hb hb2
  · exact ACalls.empty (a := []) (b := []) (clone_spec0 (Readable.nils st) (b := true) rfl fun _ => rfl) (clone_spec0 (Readable.nn st) (b := false) rfl fun e => by cases e)

theorem zeros_u32 (n : Nat) : zeros [.int .u32 0] n = u32s (tab n fun _ => 0) := by
  induction n with
  | zero => rfl
  | succ n ih =>
    rw [zeros, ih]
    simp only [u32s, tab, List.range_succ_eq_map, List.map_cons, List.map_map]
    rfl

theorem new_spec {st : ASt} {l : List Reg} {v : AV} (h : Readable st l v) (hl : l.length ≤ 8) : ACalls Try.prog F.regs_New [v] st fun r st' =>
    ∃ id idn ids, r = .tup [.ptr id 0, .int .i64 0] ∧ FileF st' id idn ids l (resets l) (fun _ => 0) false ∧ st.le st' ∧ st.h id = none ∧ st.h idn = none ∧ st.h ids = none := by
  have hl' : ¬ ((8 : Int) < (l.length : Nat)) := by omega
  have hsm : l.length ≤ 4294967296 := h.small
  have hz : (0 : Int) ≤ (l.length : Nat) ∧ ((l.length : Nat) : Int) ≤ 4294967296 := by omega
  refine calls_of_awp L.regs_New rfl ?_
  simp only [↓Bp, Bq, ↓aop.eq_28, ↓aop.eq_30, ↓initFr, aeqP, abinv, abin, aun, bound, aslice, aput, putN, zeros, heldOk, aheadOk, IOp.again, List.map_cons, List.map_nil, List.append_nil, List.nil_append, Nat.reduceEqDiff, Nat.reduceAdd, Nat.reduceMul, Nat.reduceSub, Nat.reduceLeDiff, Nat.reduceLT, Int.reduceLT, Int.reduceLE, Int.reduceEq, Int.reduceToNat, Int.reduceAdd, Int.reduceSub, Int.reduceNeg, not_false_eq_true, not_true_eq_false, if_true, if_false, Bool.false_xor, Bool.true_xor, Bool.false_eq_true, Bool.true_eq_false, Bool.not_true, Bool.not_false, decide_true, decide_false, Nat.zero_add, Nat.add_zero, List.getElem?_cons_zero, List.getElem?_cons_succ, true_and, and_true, and_self, List.length_cons, List.length_nil, ↓reduceIte, reduceCtorEq, Option.some_or, Option.none_or, Option.or_none, eq_self, Option.map_some, List.length_set, List.set_cons_zero, List.set_cons_succ, List.cons_append, List.drop_zero, List.drop_succ_cons, List.take_succ_cons, List.take_zero, List.all_cons, List.all_nil, Bool.and_true, Option.isSome_some, Option.isSome_none, Option.isNone_some, Option.isNone_none, false_and, and_false, ↓C.regs_New_W, C.regs_New_B, C.regs_New, h.len, hl', hz, Int.toNat_natCast, zeros_u32]
  refine (clone_spec h).mono ?_
  rintro m st' ⟨hm, rfl⟩
  have hmp : m.part = some [m] := by
    rcases hm with ⟨h1, h2⟩
    cases m <;> first | rfl | cases h1
  simp only [↓Bp, Bq, ↓aop.eq_28, ↓aop.eq_30, ↓initFr, aeqP, abinv, abin, aun, bound, aslice, aput, putN, zeros, heldOk, aheadOk, IOp.again, List.map_cons, List.map_nil, List.append_nil, List.nil_append, Nat.reduceEqDiff, Nat.reduceAdd, Nat.reduceMul, Nat.reduceSub, Nat.reduceLeDiff, Nat.reduceLT, Int.reduceLT, Int.reduceLE, Int.reduceEq, Int.reduceToNat, Int.reduceAdd, Int.reduceSub, Int.reduceNeg, not_false_eq_true, not_true_eq_false, if_true, if_false, Bool.false_xor, Bool.true_xor, Bool.false_eq_true, Bool.true_eq_false, Bool.not_true, Bool.not_false, decide_true, decide_false, Nat.zero_add, Nat.add_zero, List.getElem?_cons_zero, List.getElem?_cons_succ, true_and, and_true, and_self, List.length_cons, List.length_nil, ↓reduceIte, reduceCtorEq, Option.some_or, Option.none_or, Option.or_none, eq_self, Option.map_some, List.length_set, List.set_cons_zero, List.set_cons_succ, List.cons_append, List.drop_zero, List.drop_succ_cons, List.take_succ_cons, List.take_zero, List.all_cons, List.all_nil, Bool.and_true, Option.isSome_some, Option.isSome_none, Option.isNone_some, Option.isNone_none, false_and, and_false, ↓C.regs_New_W, C.regs_New_B, C.regs_New, hmp, hz, Int.toNat_natCast, zeros_u32]
  rintro idn hidn ids ⟨hids, e1⟩ id ⟨⟨hid, e3⟩, e2⟩
  have e1' : ¬ idn = ids := fun e => e1 e.symm
  have e2' : ¬ ids = id := fun e => e2 e.symm
  have e3' : ¬ idn = id := fun e => e3 e.symm
  have hfile : FileF (((st'.new idn (.cells (u32s (tab l.length fun _ => 0)))).new ids (.cells (u32s (tab l.length fun _ => 0)))).new id (.cells [m, .sl 1 idn 0 l.length, .sl 1 ids 0 l.length, .bool false])) id idn ids l (fun _ => 0) (fun _ => 0) false :=
    ⟨⟨m, hm, by simp [ASt.new_o, hid, e2, e3]⟩, by simp [ASt.new_o, hidn], by simp [ASt.new_o, hids, e1], tab_length _ _, tab_length _ _, e3, e2, e1', hl⟩
  try simp only [↓Bp, Bq, ↓aop.eq_28, ↓aop.eq_30, ↓initFr, aeqP, abinv, abin, aun, bound, aslice, aput, putN, zeros, heldOk, aheadOk, IOp.again, List.map_cons, List.map_nil, List.append_nil, List.nil_append, Nat.reduceEqDiff, Nat.reduceAdd, Nat.reduceMul, Nat.reduceSub, Nat.reduceLeDiff, Nat.reduceLT, Int.reduceLT, Int.reduceLE, Int.reduceEq, Int.reduceToNat, Int.reduceAdd, Int.reduceSub, Int.reduceNeg, not_false_eq_true, not_true_eq_false, if_true, if_false, Bool.false_xor, Bool.true_xor, Bool.false_eq_true, Bool.true_eq_false, Bool.not_true, Bool.not_false, decide_true, decide_false, Nat.zero_add, Nat.add_zero, List.getElem?_cons_zero, List.getElem?_cons_succ, true_and, and_true, and_self, List.length_cons, List.length_nil, ↓reduceIte, reduceCtorEq, Option.some_or, Option.none_or, Option.or_none, eq_self, Option.map_some, List.length_set, List.set_cons_zero, List.set_cons_succ, List.cons_append, List.drop_zero, List.drop_succ_cons, List.take_succ_cons, List.take_zero, List.all_cons, List.all_nil, Bool.and_true, Option.isSome_some, Option.isSome_none, Option.isNone_some, Option.isNone_none, false_and, and_false, ↓C.regs_New_W, C.regs_New_B, C.regs_New]
  refine (clear_f hfile).mono ?_
  rintro v st2 ⟨h1, h2⟩
  simp only [↓Bp, Bq, ↓aop.eq_28, ↓aop.eq_30, ↓initFr, aeqP, abinv, abin, aun, bound, aslice, aput, putN, zeros, heldOk, aheadOk, IOp.again, List.map_cons, List.map_nil, List.append_nil, List.nil_append, Nat.reduceEqDiff, Nat.reduceAdd, Nat.reduceMul, Nat.reduceSub, Nat.reduceLeDiff, Nat.reduceLT, Int.reduceLT, Int.reduceLE, Int.reduceEq, Int.reduceToNat, Int.reduceAdd, Int.reduceSub, Int.reduceNeg, not_false_eq_true, not_true_eq_false, if_true, if_false, Bool.false_xor, Bool.true_xor, Bool.false_eq_true, Bool.true_eq_false, Bool.not_true, Bool.not_false, decide_true, decide_false, Nat.zero_add, Nat.add_zero, List.getElem?_cons_zero, List.getElem?_cons_succ, true_and, and_true, and_self, List.length_cons, List.length_nil, ↓reduceIte, reduceCtorEq, Option.some_or, Option.none_or, Option.or_none, eq_self, Option.map_some, List.length_set, List.set_cons_zero, List.set_cons_succ, List.cons_append, List.drop_zero, List.drop_succ_cons, List.take_succ_cons, List.take_zero, List.all_cons, List.all_nil, Bool.and_true, Option.isSome_some, Option.isSome_none, Option.isNone_some, Option.isNone_none, false_and, and_false, ↓C.regs_New_W, C.regs_New_B, C.regs_New]
  refine ⟨id, idn, ids, rfl, h1, ?_, hid, hidn, hids⟩
  intro i o hi
  have hin : i ∉ [id, idn, ids] := by
    simp only [List.mem_cons, List.not_mem_nil, or_false, not_or]
    refine ⟨?_, ?_, ?_⟩ <;> (rintro rfl; simp_all)
  rw [h2 i hin]
  exact ((ASt.le.new _ _ _).trans ((ASt.le.new _ _ _).trans (ASt.le.new _ _ _))) i o hi

theorem new_full {st : ASt} {l : List Reg} {v : AV} (h : Readable st l v) (hl : 8 < l.length) : ACalls Try.prog F.regs_New [v] st fun r st' => r = .tup [.nilp, .int .i64 8] ∧ st' = st := by
  have hl' : ((8 : Int) < (l.length : Nat)) := by omega
  refine calls_of_awp L.regs_New rfl ?_
  simp only [↓Bp, Bq, ↓aop.eq_28, ↓aop.eq_30, ↓initFr, aeqP, abinv, abin, aun, bound, aslice, aput, putN, zeros, heldOk, aheadOk, IOp.again, List.map_cons, List.map_nil, List.append_nil, List.nil_append, Nat.reduceEqDiff, Nat.reduceAdd, Nat.reduceMul, Nat.reduceSub, Nat.reduceLeDiff, Nat.reduceLT, Int.reduceLT, Int.reduceLE, Int.reduceEq, Int.reduceToNat, Int.reduceAdd, Int.reduceSub, Int.reduceNeg, not_false_eq_true, not_true_eq_false, if_true, if_false, Bool.false_xor, Bool.true_xor, Bool.false_eq_true, Bool.true_eq_false, Bool.not_true, Bool.not_false, decide_true, decide_false, Nat.zero_add, Nat.add_zero, List.getElem?_cons_zero, List.getElem?_cons_succ, true_and, and_true, and_self, List.length_cons, List.length_nil, ↓reduceIte, reduceCtorEq, Option.some_or, Option.none_or, Option.or_none, eq_self, Option.map_some, List.length_set, List.set_cons_zero, List.set_cons_succ, List.cons_append, List.drop_zero, List.drop_succ_cons, List.take_succ_cons, List.take_zero, List.all_cons, List.all_nil, Bool.and_true, Option.isSome_some, Option.isSome_none, Option.isNone_some, Option.isNone_none, false_and, and_false, ↓C.regs_New_W, C.regs_New_B, C.regs_New, h.len, hl']

end Go.Proofs.Ytlnhljcfcnmglaa.Cn
