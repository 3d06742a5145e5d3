/- Count: CountCopies. -/
import Derived.Test.YtoblpialfhfdgaaCnCount5
set_option linter.unusedSimpArgs false
set_option linter.unusedVariables false
set_option linter.unusedSectionVars false
namespace Go.Proofs.Ytoblpialfhfdgaa.Cn
open Go Go.Proofs

def runAll (N : Gr) (q : (Int → Int) × Bool) (acts : List Pair) : (Int → Int) × Bool := acts.foldl (fun q x => (doneF N q.1 q.2 (pickI x.a 10) (actI N x.b), doneS q.2 (pickI x.a 10))) q
theorem runAll_succ {N : Gr} {q : (Int → Int) × Bool} {acts : List Pair} {t : Nat} (h : t < acts.length) :
    runAll N q (acts.take (t + 1)) = (doneF N (runAll N q (acts.take t)).1 (runAll N q (acts.take t)).2 (pickI acts[t].a 10) (actI N acts[t].b), doneS (runAll N q (acts.take t)).2 (pickI acts[t].a 10)) := by
  rw [List.take_succ_eq_append_getElem h, runAll, List.foldl_append]
  rfl
theorem CW.doneM {st s : ASt} {ib p m : Nat} {S : Soc} {f : Int → Int} {sl : Bool} (hS : S.like) (h : CW st s ib p m S f sl) {a b : Int} (ha : I64 a) (hb : I64 b) :
    ACalls Try.prog F.catnaplaw16_done [.ptr p 0, .agg [.int .i64 a, .int .i64 b], .int .i64 S.devs.length] s fun r t => r = .int .i64 (doneE S.need f sl (pickI a 10) (actI S.need b)) ∧ CW st t ib p m S (doneF S.need f sl (pickI a 10) (actI S.need b)) (doneS sl (pickI a 10)) ∧ Moved p m s t := by
  have := hS.nv
  rw [← Soc.need_len]
  exact (done_spec h.c h.lim (by rw [Soc.need_len]; omega) ha hb).mono fun r t ⟨h1, h2, h3⟩ => ⟨h1, h.move h2 h3 (h.lim.done _ _), h3⟩
/-- A count and two copies of it. -/
structure T3 (st s : ASt) (ib p m px mx py my : Nat) (S : Soc) (q qx : (Int → Int) × Bool) : Prop where
  c : CW st s ib p m S q.1 q.2
  x : CW st s ib px mx S qx.1 qx.2
  y : CW st s ib py my S qx.1 qx.2
  a1 : Apart p m px mx
  a2 : Apart p m py my
  a3 : Apart px mx py my
section
variable {st : ASt} {ib p m px mx py my : Nat} {S : Soc} (hS : S.like)
include hS
set_option maxHeartbeats 1000000 in
theorem cc_end {s : ASt} {q : (Int → Int) × Bool} (h : T3 st s ib p m px mx py my S q q) :
    awp Try.prog C.catnaplaw16_CountCopies_c11 (Post [.slot 6] fun r s => r = .bool true ∧ st.le s) [(8, .ptr ib 0), (9, .ptr p 0), (12, .ptr px 0), (13, .ptr py 0)] s := by
  have hnv := hS.nv
  simp only [↓Bp, Bq, Bs, ↓aop.eq_28, ↓aop.eq_30, Nat.reduceEqDiff, Nat.reduceAdd, Nat.reduceMul, Nat.reduceSub, Nat.reduceLeDiff, Nat.reduceLT, Int.reduceLT, Int.reduceLE, Int.reduceEq, Int.reduceToNat, Int.reduceAdd, Int.reduceSub, Int.reduceNeg, ↓reduceIte, reduceCtorEq, ↓C.catnaplaw16_CountCopies_W, C.catnaplaw16_CountCopies_B, C.catnaplaw16_CountCopies]
  refine awp_midB (fun _ : Unit => [(9, .ptr p 0), (12, .ptr px 0)]) (fun _ s' => s' = s) ?_ ?_
  rotate_left
  · rintro - s' rfl
    simp only [↓Bp, Bq, Bs, ↓aop.eq_28, ↓aop.eq_30, Nat.reduceEqDiff, Nat.reduceAdd, Nat.reduceMul, Nat.reduceSub, Nat.reduceLeDiff, Nat.reduceLT, Int.reduceLT, Int.reduceLE, Int.reduceEq, Int.reduceToNat, Int.reduceAdd, Int.reduceSub, Int.reduceNeg, ↓reduceIte, reduceCtorEq, ↓C.catnaplaw16_CountCopies_W, C.catnaplaw16_CountCopies_B, C.catnaplaw16_CountCopies]
    refine (act_spec hS h.c).mono ?_
    rintro r s6 ⟨rfl, rfl⟩
    simp only [↓Bp, Bq, Bs, ↓aop.eq_28, ↓aop.eq_30, Nat.reduceEqDiff, Nat.reduceAdd, Nat.reduceMul, Nat.reduceSub, Nat.reduceLeDiff, Nat.reduceLT, Int.reduceLT, Int.reduceLE, Int.reduceEq, Int.reduceToNat, Int.reduceAdd, Int.reduceSub, Int.reduceNeg, ↓reduceIte, reduceCtorEq, ↓C.catnaplaw16_CountCopies_W, C.catnaplaw16_CountCopies_B, C.catnaplaw16_CountCopies]
    refine (act_spec hS h.x).mono ?_
    rintro r s6 ⟨rfl, rfl⟩
    simp only [↓Bp, Bq, Bs, ↓aop.eq_28, ↓aop.eq_30, Nat.reduceEqDiff, Nat.reduceAdd, Nat.reduceMul, Nat.reduceSub, Nat.reduceLeDiff, Nat.reduceLT, Int.reduceLT, Int.reduceLE, Int.reduceEq, Int.reduceToNat, Int.reduceAdd, Int.reduceSub, Int.reduceNeg, ↓reduceIte, reduceCtorEq, ↓C.catnaplaw16_CountCopies_W, C.catnaplaw16_CountCopies_B, C.catnaplaw16_CountCopies]
    refine (sameB_spec (by rw [useL_len, Soc.need_len]; omega)).mono ?_
    rintro r s7 ⟨rfl, rfl⟩
    rw [decide_eq_true rfl]
    simp only [↓Bp, Bq, Bs, ↓aop.eq_28, ↓aop.eq_30, Nat.reduceEqDiff, Nat.reduceAdd, Nat.reduceMul, Nat.reduceSub, Nat.reduceLeDiff, Nat.reduceLT, Int.reduceLT, Int.reduceLE, Int.reduceEq, Int.reduceToNat, Int.reduceAdd, Int.reduceSub, Int.reduceNeg, ↓reduceIte, reduceCtorEq, ↓C.catnaplaw16_CountCopies_W, C.catnaplaw16_CountCopies_B, C.catnaplaw16_CountCopies]
    exact h.c.le
  refine awp_loopK (fun t : Nat => [(8, .ptr ib 0), (9, .ptr p 0), (12, .ptr px 0), (13, .ptr py 0), (17, .int .i64 t)]) (fun t s' => t ≤ S.devs.length ∧ s' = s) (fun t => S.devs.length - t) 0 rfl ⟨Nat.zero_le _, rfl⟩ ?_
  rintro t s ⟨ht, rfl⟩
  have hb := h.c.hb
  by_cases htl : t < S.devs.length
  rotate_left
  · have htl' : ¬ (t : Int) < (S.devs.length : Nat) := by omega
    simp only [↓Bp, Bq, Bs, ↓aop.eq_28, ↓aop.eq_30, Nat.reduceEqDiff, Nat.reduceAdd, Nat.reduceMul, Nat.reduceSub, Nat.reduceLeDiff, Nat.reduceLT, Int.reduceLT, Int.reduceLE, Int.reduceEq, Int.reduceToNat, Int.reduceAdd, Int.reduceSub, Int.reduceNeg, ↓reduceIte, reduceCtorEq, ↓C.catnaplaw16_CountCopies_W, C.catnaplaw16_CountCopies_B, C.catnaplaw16_CountCopies, hb, Soc.cells, Soc.devV, htl']
    exact ⟨(), trivial⟩
  have htl' : (t : Int) < (S.devs.length : Nat) := by omega
  have hw := wsucc htl (by omega)
  simp only [↓Bp, Bq, Bs, ↓aop.eq_28, ↓aop.eq_30, Nat.reduceEqDiff, Nat.reduceAdd, Nat.reduceMul, Nat.reduceSub, Nat.reduceLeDiff, Nat.reduceLT, Int.reduceLT, Int.reduceLE, Int.reduceEq, Int.reduceToNat, Int.reduceAdd, Int.reduceSub, Int.reduceNeg, ↓reduceIte, reduceCtorEq, ↓C.catnaplaw16_CountCopies_W, C.catnaplaw16_CountCopies_B, C.catnaplaw16_CountCopies, hb, Soc.cells, Soc.devV, htl']
  refine (cnt_spec h.c.c _).mono ?_
  rintro r s7 ⟨rfl, rfl⟩
  simp only [↓Bp, Bq, Bs, ↓aop.eq_28, ↓aop.eq_30, Nat.reduceEqDiff, Nat.reduceAdd, Nat.reduceMul, Nat.reduceSub, Nat.reduceLeDiff, Nat.reduceLT, Int.reduceLT, Int.reduceLE, Int.reduceEq, Int.reduceToNat, Int.reduceAdd, Int.reduceSub, Int.reduceNeg, ↓reduceIte, reduceCtorEq, ↓C.catnaplaw16_CountCopies_W, C.catnaplaw16_CountCopies_B, C.catnaplaw16_CountCopies]
  refine (cnt_spec h.x.c _).mono ?_
  rintro r s7 ⟨rfl, rfl⟩
  simp only [↓Bp, Bq, Bs, ↓aop.eq_28, ↓aop.eq_30, Nat.reduceEqDiff, Nat.reduceAdd, Nat.reduceMul, Nat.reduceSub, Nat.reduceLeDiff, Nat.reduceLT, Int.reduceLT, Int.reduceLE, Int.reduceEq, Int.reduceToNat, Int.reduceAdd, Int.reduceSub, Int.reduceNeg, ↓reduceIte, reduceCtorEq, ↓C.catnaplaw16_CountCopies_W, C.catnaplaw16_CountCopies_B, C.catnaplaw16_CountCopies]
  refine (cnt_spec h.x.c _).mono ?_
  rintro r s7 ⟨rfl, rfl⟩
  simp only [↓Bp, Bq, Bs, ↓aop.eq_28, ↓aop.eq_30, Nat.reduceEqDiff, Nat.reduceAdd, Nat.reduceMul, Nat.reduceSub, Nat.reduceLeDiff, Nat.reduceLT, Int.reduceLT, Int.reduceLE, Int.reduceEq, Int.reduceToNat, Int.reduceAdd, Int.reduceSub, Int.reduceNeg, ↓reduceIte, reduceCtorEq, ↓C.catnaplaw16_CountCopies_W, C.catnaplaw16_CountCopies_B, C.catnaplaw16_CountCopies]
  refine (cnt_spec h.y.c _).mono ?_
  rintro r s7 ⟨rfl, rfl⟩
  simp only [↓Bp, Bq, Bs, ↓aop.eq_28, ↓aop.eq_30, Nat.reduceEqDiff, Nat.reduceAdd, Nat.reduceMul, Nat.reduceSub, Nat.reduceLeDiff, Nat.reduceLT, Int.reduceLT, Int.reduceLE, Int.reduceEq, Int.reduceToNat, Int.reduceAdd, Int.reduceSub, Int.reduceNeg, ↓reduceIte, reduceCtorEq, ↓C.catnaplaw16_CountCopies_W, C.catnaplaw16_CountCopies_B, C.catnaplaw16_CountCopies, hw]
  exact ⟨t + 1, rfl, htl, by omega⟩
set_option maxHeartbeats 1000000 in
/-- The first one does what the copies did. -/
theorem cc_third {s : ASt} {q : (Int → Int) × Bool} {more : List Pair} (hmo : ∀ x ∈ more, I64 x.a ∧ I64 x.b) (hml : more.length ≤ 100) (h : T3 st s ib p m px mx py my S q (runAll S.need q more)) :
    awp Try.prog C.catnaplaw16_CountCopies_c19 (Post [.slot 6] fun r s => r = .bool true ∧ st.le s) [(2, .isl 2 (more.flatMap encPair) more.length), (8, .ptr ib 0), (9, .ptr p 0), (12, .ptr px 0), (13, .ptr py 0)] s := by
  have hnv := hS.nv
  simp only [↓Bp, Bq, Bs, ↓aop.eq_28, ↓aop.eq_30, Nat.reduceEqDiff, Nat.reduceAdd, Nat.reduceMul, Nat.reduceSub, Nat.reduceLeDiff, Nat.reduceLT, Int.reduceLT, Int.reduceLE, Int.reduceEq, Int.reduceToNat, Int.reduceAdd, Int.reduceSub, Int.reduceNeg, ↓reduceIte, reduceCtorEq, ↓C.catnaplaw16_CountCopies_W, C.catnaplaw16_CountCopies_B, C.catnaplaw16_CountCopies]
  refine awp_midB (fun _ : Unit => [(8, .ptr ib 0), (9, .ptr p 0), (12, .ptr px 0), (13, .ptr py 0)]) (fun _ s' => T3 st s' ib p m px mx py my S (runAll S.need q more) (runAll S.need q more)) ?_ ?_
  rotate_left
  · rintro - s' h; exact cc_end hS h
  refine awp_loopK (fun t : Nat => [(2, .isl 2 (more.flatMap encPair) more.length), (8, .ptr ib 0), (9, .ptr p 0), (12, .ptr px 0), (13, .ptr py 0), (16, .int .i64 t)]) (fun t s' => t ≤ more.length ∧ T3 st s' ib p m px mx py my S (runAll S.need q (more.take t)) (runAll S.need q more)) (fun t => more.length - t) 0 rfl ⟨Nat.zero_le _, h⟩ ?_
  clear h s
  rintro t s ⟨ht, h⟩
  have hb := h.c.hb
  by_cases htl : t < more.length
  rotate_left
  · have htl' : ¬ (t : Int) < (more.length : Nat) := by omega
    simp only [↓Bp, Bq, Bs, ↓aop.eq_28, ↓aop.eq_30, Nat.reduceEqDiff, Nat.reduceAdd, Nat.reduceMul, Nat.reduceSub, Nat.reduceLeDiff, Nat.reduceLT, Int.reduceLT, Int.reduceLE, Int.reduceEq, Int.reduceToNat, Int.reduceAdd, Int.reduceSub, Int.reduceNeg, ↓reduceIte, reduceCtorEq, ↓C.catnaplaw16_CountCopies_W, C.catnaplaw16_CountCopies_B, C.catnaplaw16_CountCopies, htl']
    rw [show t = more.length by omega, List.take_length] at h
    exact ⟨(), h⟩
  have htl' : (t : Int) < (more.length : Nat) := by omega
  have hw := wsucc htl (by omega)
  have hz2 : (0:Int) ≤ (t : Int) ∧ (t : Int) < (more.length : Nat) := by omega
  have hf := flatMap_fits (f := encPair) (k := 2) (fun _ => rfl) htl
  have hat := flatMap_at (f := encPair) (k := 2) (fun _ => rfl) htl
  have hIa := hmo _ (List.getElem_mem htl)
  simp only [↓Bp, Bq, Bs, ↓aop.eq_28, ↓aop.eq_30, Nat.reduceEqDiff, Nat.reduceAdd, Nat.reduceMul, Nat.reduceSub, Nat.reduceLeDiff, Nat.reduceLT, Int.reduceLT, Int.reduceLE, Int.reduceEq, Int.reduceToNat, Int.reduceAdd, Int.reduceSub, Int.reduceNeg, ↓reduceIte, reduceCtorEq, ↓C.catnaplaw16_CountCopies_W, C.catnaplaw16_CountCopies_B, C.catnaplaw16_CountCopies, htl', hb, Soc.cells, Soc.devV, hz2, hf, hat, encPair, Int.toNat_natCast]
  refine (CW.doneM hS h.c hIa.1 hIa.2).mono ?_
  rintro r s1 ⟨rfl, h2, hM⟩
  have h3 : T3 st s1 ib p m px mx py my S (runAll S.need q (more.take (t + 1))) (runAll S.need q more) :=
    ⟨by rw [runAll_succ htl]; exact h2, h.x.other h.a1.symm h2 hM, h.y.other h.a2.symm h2 hM, h.a1, h.a2, h.a3⟩
  simp only [↓Bp, Bq, Bs, ↓aop.eq_28, ↓aop.eq_30, Nat.reduceEqDiff, Nat.reduceAdd, Nat.reduceMul, Nat.reduceSub, Nat.reduceLeDiff, Nat.reduceLT, Int.reduceLT, Int.reduceLE, Int.reduceEq, Int.reduceToNat, Int.reduceAdd, Int.reduceSub, Int.reduceNeg, ↓reduceIte, reduceCtorEq, ↓C.catnaplaw16_CountCopies_W, C.catnaplaw16_CountCopies_B, C.catnaplaw16_CountCopies, hw]
  exact ⟨t + 1, rfl, ⟨htl, h3⟩, by omega⟩
set_option maxHeartbeats 2000000 in
/-- Both copies do the same. -/
theorem cc_second {s : ASt} {q : (Int → Int) × Bool} {more : List Pair} (hmo : ∀ x ∈ more, I64 x.a ∧ I64 x.b) (hml : more.length ≤ 100) (h : T3 st s ib p m px mx py my S q q) :
    awp Try.prog C.catnaplaw16_CountCopies_c33 (Post [.slot 6] fun r s => r = .bool true ∧ st.le s) [(2, .isl 2 (more.flatMap encPair) more.length), (8, .ptr ib 0), (9, .ptr p 0), (12, .ptr px 0), (13, .ptr py 0)] s := by
  have hnv := hS.nv
  simp only [↓Bp, Bq, Bs, ↓aop.eq_28, ↓aop.eq_30, Nat.reduceEqDiff, Nat.reduceAdd, Nat.reduceMul, Nat.reduceSub, Nat.reduceLeDiff, Nat.reduceLT, Int.reduceLT, Int.reduceLE, Int.reduceEq, Int.reduceToNat, Int.reduceAdd, Int.reduceSub, Int.reduceNeg, ↓reduceIte, reduceCtorEq, ↓C.catnaplaw16_CountCopies_W, C.catnaplaw16_CountCopies_B, C.catnaplaw16_CountCopies]
  refine (act_spec hS h.c).mono ?_
  rintro r s6 ⟨rfl, rfl⟩
  simp only [↓Bp, Bq, Bs, ↓aop.eq_28, ↓aop.eq_30, Nat.reduceEqDiff, Nat.reduceAdd, Nat.reduceMul, Nat.reduceSub, Nat.reduceLeDiff, Nat.reduceLT, Int.reduceLT, Int.reduceLE, Int.reduceEq, Int.reduceToNat, Int.reduceAdd, Int.reduceSub, Int.reduceNeg, ↓reduceIte, reduceCtorEq, ↓C.catnaplaw16_CountCopies_W, C.catnaplaw16_CountCopies_B, C.catnaplaw16_CountCopies]
  refine awp_midB (fun _ : Unit => [(2, .isl 2 (more.flatMap encPair) more.length), (8, .ptr ib 0), (9, .ptr p 0), (12, .ptr px 0), (13, .ptr py 0), (14, brow (useL S.need q.1 q.2))]) (fun _ s' => T3 st s' ib p m px mx py my S q (runAll S.need q more)) ?_ ?_
  rotate_left
  · rintro - s' h
    simp only [↓Bp, Bq, Bs, ↓aop.eq_28, ↓aop.eq_30, Nat.reduceEqDiff, Nat.reduceAdd, Nat.reduceMul, Nat.reduceSub, Nat.reduceLeDiff, Nat.reduceLT, Int.reduceLT, Int.reduceLE, Int.reduceEq, Int.reduceToNat, Int.reduceAdd, Int.reduceSub, Int.reduceNeg, ↓reduceIte, reduceCtorEq, ↓C.catnaplaw16_CountCopies_W, C.catnaplaw16_CountCopies_B, C.catnaplaw16_CountCopies]
    refine (act_spec hS h.c).mono ?_
    rintro r s6 ⟨rfl, rfl⟩
    simp only [↓Bp, Bq, Bs, ↓aop.eq_28, ↓aop.eq_30, Nat.reduceEqDiff, Nat.reduceAdd, Nat.reduceMul, Nat.reduceSub, Nat.reduceLeDiff, Nat.reduceLT, Int.reduceLT, Int.reduceLE, Int.reduceEq, Int.reduceToNat, Int.reduceAdd, Int.reduceSub, Int.reduceNeg, ↓reduceIte, reduceCtorEq, ↓C.catnaplaw16_CountCopies_W, C.catnaplaw16_CountCopies_B, C.catnaplaw16_CountCopies]
    refine (sameB_spec (by rw [useL_len, Soc.need_len]; omega)).mono ?_
    rintro r s7 ⟨rfl, rfl⟩
    rw [decide_eq_true rfl]
    simp only [↓Bp, Bq, Bs, ↓aop.eq_28, ↓aop.eq_30, Nat.reduceEqDiff, Nat.reduceAdd, Nat.reduceMul, Nat.reduceSub, Nat.reduceLeDiff, Nat.reduceLT, Int.reduceLT, Int.reduceLE, Int.reduceEq, Int.reduceToNat, Int.reduceAdd, Int.reduceSub, Int.reduceNeg, ↓reduceIte, reduceCtorEq, ↓C.catnaplaw16_CountCopies_r21_w, C.catnaplaw16_CountCopies_r21_b, ↓C.catnaplaw16_CountCopies_c20_w, ↓C.catnaplaw16_CountCopies_c21_w, ↓C.catnaplaw16_CountCopies_r20_w, C.catnaplaw16_CountCopies_r20_b, ↓C.catnaplaw16_CountCopies_c22_w, ↓C.catnaplaw16_CountCopies_r17_w, C.catnaplaw16_CountCopies_r17_b, ↓C.catnaplaw16_CountCopies_c23_w, ↓C.catnaplaw16_CountCopies_r19_w, C.catnaplaw16_CountCopies_r19_b, ↓C.catnaplaw16_CountCopies_c24_w, ↓C.catnaplaw16_CountCopies_c25_w, ↓C.catnaplaw16_CountCopies_r18_w, C.catnaplaw16_CountCopies_r18_b, ↓C.catnaplaw16_CountCopies_b26_w, ↓C.catnaplaw16_CountCopies_c27_w, ↓C.catnaplaw16_CountCopies_c28_w, ↓C.catnaplaw16_CountCopies_r16_w, C.catnaplaw16_CountCopies_r16_b, ↓C.catnaplaw16_CountCopies_b30_w, ↓C.catnaplaw16_CountCopies_c31_w, ↓C.catnaplaw16_CountCopies_r15_w, C.catnaplaw16_CountCopies_r15_b, ↓C.catnaplaw16_CountCopies_c32_w, ↓C.catnaplaw16_CountCopies_r14_w, C.catnaplaw16_CountCopies_r14_b, ↓C.catnaplaw16_CountCopies_c33_w, ↓C.catnaplaw16_CountCopies_r13_w, C.catnaplaw16_CountCopies_r13_b, ↓C.catnaplaw16_CountCopies_c34_w, ↓C.catnaplaw16_CountCopies_c35_w, ↓C.catnaplaw16_CountCopies_r12_w, C.catnaplaw16_CountCopies_r12_b, ↓C.catnaplaw16_CountCopies_c36_w, ↓C.catnaplaw16_CountCopies_r11_w, C.catnaplaw16_CountCopies_r11_b, ↓C.catnaplaw16_CountCopies_c37_w, ↓C.catnaplaw16_CountCopies_r10_w, C.catnaplaw16_CountCopies_r10_b, ↓C.catnaplaw16_CountCopies_c38_w, ↓C.catnaplaw16_CountCopies_r8_w, C.catnaplaw16_CountCopies_r8_b, ↓C.catnaplaw16_CountCopies_c39_w, ↓C.catnaplaw16_CountCopies_r9_w, C.catnaplaw16_CountCopies_r9_b, ↓C.catnaplaw16_CountCopies_b40_w, ↓C.catnaplaw16_CountCopies_c41_w, ↓C.catnaplaw16_CountCopies_c42_w, ↓C.catnaplaw16_CountCopies_r7_w, C.catnaplaw16_CountCopies_r7_b, ↓C.catnaplaw16_CountCopies_b44_w, ↓C.catnaplaw16_CountCopies_c45_w, ↓C.catnaplaw16_CountCopies_r6_w, C.catnaplaw16_CountCopies_r6_b, ↓C.catnaplaw16_CountCopies_c46_w, ↓C.catnaplaw16_CountCopies_r5_w, C.catnaplaw16_CountCopies_r5_b, ↓C.catnaplaw16_CountCopies_c47_w, ↓C.catnaplaw16_CountCopies_c48_w, ↓C.catnaplaw16_CountCopies_r4_w, C.catnaplaw16_CountCopies_r4_b, ↓C.catnaplaw16_CountCopies_c49_w, ↓C.catnaplaw16_CountCopies_r3_w, C.catnaplaw16_CountCopies_r3_b, ↓C.catnaplaw16_CountCopies_c50_w, ↓C.catnaplaw16_CountCopies_r2_w, C.catnaplaw16_CountCopies_r2_b, ↓C.catnaplaw16_CountCopies_c51_w, ↓C.catnaplaw16_CountCopies_r1_w, C.catnaplaw16_CountCopies_r1_b, ↓C.catnaplaw16_CountCopies_c52_w, ↓C.catnaplaw16_CountCopies_r0_w, C.catnaplaw16_CountCopies_r0_b, C.catnaplaw16_CountCopies]
    rw [C.catnaplaw16_CountCopies_c19_w, awp_keep]
    exact cc_third hS hmo hml h
  refine awp_loopK (fun t : Nat => [(2, .isl 2 (more.flatMap encPair) more.length), (8, .ptr ib 0), (9, .ptr p 0), (12, .ptr px 0), (13, .ptr py 0), (14, brow (useL S.need q.1 q.2)), (15, .int .i64 t)]) (fun t s' => t ≤ more.length ∧ T3 st s' ib p m px mx py my S q (runAll S.need q (more.take t))) (fun t => more.length - t) 0 rfl ⟨Nat.zero_le _, h⟩ ?_
  clear h s6
  rintro t s ⟨ht, h⟩
  have hb := h.c.hb
  by_cases htl : t < more.length
  rotate_left
  · have htl' : ¬ (t : Int) < (more.length : Nat) := by omega
    simp only [↓Bp, Bq, Bs, ↓aop.eq_28, ↓aop.eq_30, Nat.reduceEqDiff, Nat.reduceAdd, Nat.reduceMul, Nat.reduceSub, Nat.reduceLeDiff, Nat.reduceLT, Int.reduceLT, Int.reduceLE, Int.reduceEq, Int.reduceToNat, Int.reduceAdd, Int.reduceSub, Int.reduceNeg, ↓reduceIte, reduceCtorEq, ↓C.catnaplaw16_CountCopies_W, C.catnaplaw16_CountCopies_B, C.catnaplaw16_CountCopies, htl']
    rw [show t = more.length by omega, List.take_length] at h
    exact ⟨(), h⟩
  have htl' : (t : Int) < (more.length : Nat) := by omega
  have hw := wsucc htl (by omega)
  have hz2 : (0:Int) ≤ (t : Int) ∧ (t : Int) < (more.length : Nat) := by omega
  have hf := flatMap_fits (f := encPair) (k := 2) (fun _ => rfl) htl
  have hat := flatMap_at (f := encPair) (k := 2) (fun _ => rfl) htl
  have hIa := hmo _ (List.getElem_mem htl)
  simp only [↓Bp, Bq, Bs, ↓aop.eq_28, ↓aop.eq_30, Nat.reduceEqDiff, Nat.reduceAdd, Nat.reduceMul, Nat.reduceSub, Nat.reduceLeDiff, Nat.reduceLT, Int.reduceLT, Int.reduceLE, Int.reduceEq, Int.reduceToNat, Int.reduceAdd, Int.reduceSub, Int.reduceNeg, ↓reduceIte, reduceCtorEq, ↓C.catnaplaw16_CountCopies_W, C.catnaplaw16_CountCopies_B, C.catnaplaw16_CountCopies, htl', hb, Soc.cells, Soc.devV, hz2, hf, hat, encPair, Int.toNat_natCast]
  refine (CW.doneM hS h.x hIa.1 hIa.2).mono ?_
  rintro r s1 ⟨rfl, h2, hM⟩
  have hc2 := h.c.other h.a1 h2 hM
  have hy2 := h.y.other h.a3.symm h2 hM
  have hb1 := h2.hb
  simp only [↓Bp, Bq, Bs, ↓aop.eq_28, ↓aop.eq_30, Nat.reduceEqDiff, Nat.reduceAdd, Nat.reduceMul, Nat.reduceSub, Nat.reduceLeDiff, Nat.reduceLT, Int.reduceLT, Int.reduceLE, Int.reduceEq, Int.reduceToNat, Int.reduceAdd, Int.reduceSub, Int.reduceNeg, ↓reduceIte, reduceCtorEq, ↓C.catnaplaw16_CountCopies_W, C.catnaplaw16_CountCopies_B, C.catnaplaw16_CountCopies, hb1, Soc.cells, Soc.devV, hz2, hf, hat, encPair, Int.toNat_natCast]
  refine (CW.doneM hS hy2 hIa.1 hIa.2).mono ?_
  rintro r s2 ⟨rfl, h3, hM2⟩
  have hc3 := hc2.other h.a2 h3 hM2
  have hx3 := h2.other h.a3 h3 hM2
  have hT : T3 st s2 ib p m px mx py my S q (runAll S.need q (more.take (t + 1))) := ⟨hc3, by rw [runAll_succ htl]; exact hx3, by rw [runAll_succ htl]; exact h3, h.a1, h.a2, h.a3⟩
  simp only [↓Bp, Bq, Bs, ↓aop.eq_28, ↓aop.eq_30, Nat.reduceEqDiff, Nat.reduceAdd, Nat.reduceMul, Nat.reduceSub, Nat.reduceLeDiff, Nat.reduceLT, Int.reduceLT, Int.reduceLE, Int.reduceEq, Int.reduceToNat, Int.reduceAdd, Int.reduceSub, Int.reduceNeg, ↓reduceIte, reduceCtorEq, ↓C.catnaplaw16_CountCopies_W, C.catnaplaw16_CountCopies_B, C.catnaplaw16_CountCopies]
  refine (act_spec hS hT.x).mono ?_
  rintro r s6 ⟨rfl, rfl⟩
  simp only [↓Bp, Bq, Bs, ↓aop.eq_28, ↓aop.eq_30, Nat.reduceEqDiff, Nat.reduceAdd, Nat.reduceMul, Nat.reduceSub, Nat.reduceLeDiff, Nat.reduceLT, Int.reduceLT, Int.reduceLE, Int.reduceEq, Int.reduceToNat, Int.reduceAdd, Int.reduceSub, Int.reduceNeg, ↓reduceIte, reduceCtorEq, ↓C.catnaplaw16_CountCopies_W, C.catnaplaw16_CountCopies_B, C.catnaplaw16_CountCopies]
  refine (act_spec hS hT.y).mono ?_
  rintro r s6 ⟨rfl, rfl⟩
  simp only [↓Bp, Bq, Bs, ↓aop.eq_28, ↓aop.eq_30, Nat.reduceEqDiff, Nat.reduceAdd, Nat.reduceMul, Nat.reduceSub, Nat.reduceLeDiff, Nat.reduceLT, Int.reduceLT, Int.reduceLE, Int.reduceEq, Int.reduceToNat, Int.reduceAdd, Int.reduceSub, Int.reduceNeg, ↓reduceIte, reduceCtorEq, ↓C.catnaplaw16_CountCopies_W, C.catnaplaw16_CountCopies_B, C.catnaplaw16_CountCopies]
  refine (sameB_spec (by rw [useL_len, Soc.need_len]; omega)).mono ?_
  rintro r s7 ⟨rfl, rfl⟩
  rw [decide_eq_true rfl]
  simp only [↓Bp, Bq, Bs, ↓aop.eq_28, ↓aop.eq_30, Nat.reduceEqDiff, Nat.reduceAdd, Nat.reduceMul, Nat.reduceSub, Nat.reduceLeDiff, Nat.reduceLT, Int.reduceLT, Int.reduceLE, Int.reduceEq, Int.reduceToNat, Int.reduceAdd, Int.reduceSub, Int.reduceNeg, ↓reduceIte, reduceCtorEq, ↓C.catnaplaw16_CountCopies_W, C.catnaplaw16_CountCopies_B, C.catnaplaw16_CountCopies]
  refine (asleep_spec hT.x.c).mono ?_
  rintro r s7 ⟨rfl, rfl⟩
  simp only [↓Bp, Bq, Bs, ↓aop.eq_28, ↓aop.eq_30, Nat.reduceEqDiff, Nat.reduceAdd, Nat.reduceMul, Nat.reduceSub, Nat.reduceLeDiff, Nat.reduceLT, Int.reduceLT, Int.reduceLE, Int.reduceEq, Int.reduceToNat, Int.reduceAdd, Int.reduceSub, Int.reduceNeg, ↓reduceIte, reduceCtorEq, ↓C.catnaplaw16_CountCopies_W, C.catnaplaw16_CountCopies_B, C.catnaplaw16_CountCopies]
  refine (asleep_spec hT.y.c).mono ?_
  rintro r s7 ⟨rfl, rfl⟩
  simp only [↓Bp, Bq, Bs, ↓aop.eq_28, ↓aop.eq_30, Nat.reduceEqDiff, Nat.reduceAdd, Nat.reduceMul, Nat.reduceSub, Nat.reduceLeDiff, Nat.reduceLT, Int.reduceLT, Int.reduceLE, Int.reduceEq, Int.reduceToNat, Int.reduceAdd, Int.reduceSub, Int.reduceNeg, ↓reduceIte, reduceCtorEq, ↓C.catnaplaw16_CountCopies_W, C.catnaplaw16_CountCopies_B, C.catnaplaw16_CountCopies, hw]
  exact ⟨t + 1, rfl, ⟨htl, hT⟩, by omega⟩
theorem cc_first {s : ASt} {acts more : List Pair} (hac : ∀ x ∈ acts, I64 x.a ∧ I64 x.b) (hal : acts.length ≤ 100) (hmo : ∀ x ∈ more, I64 x.a ∧ I64 x.b) (hml : more.length ≤ 100) {f : Int → Int} {sl : Bool} (h : CW st s ib p m S f sl) :
    awp Try.prog C.catnaplaw16_CountCopies_c46 (Post [.slot 6] fun r s => r = .bool true ∧ st.le s)
      [(1, .isl 2 (acts.flatMap encPair) acts.length), (2, .isl 2 (more.flatMap encPair) more.length), (8, .ptr ib 0), (9, .ptr p 0)] s := by
  have hnv := hS.nv
  simp only [↓Bp, Bq, Bs, ↓aop.eq_28, ↓aop.eq_30, Nat.reduceEqDiff, Nat.reduceAdd, Nat.reduceMul, Nat.reduceSub, Nat.reduceLeDiff, Nat.reduceLT, Int.reduceLT, Int.reduceLE, Int.reduceEq, Int.reduceToNat, Int.reduceAdd, Int.reduceSub, Int.reduceNeg, ↓reduceIte, reduceCtorEq, ↓C.catnaplaw16_CountCopies_W, C.catnaplaw16_CountCopies_B, C.catnaplaw16_CountCopies]
  refine awp_midB (fun _ : Unit => [(2, .isl 2 (more.flatMap encPair) more.length), (8, .ptr ib 0), (9, .ptr p 0)]) (fun _ s => ∃ f sl, CW st s ib p m S f sl) ?_ ?_
  · refine awp_loopK (fun t : Nat => [(1, .isl 2 (acts.flatMap encPair) acts.length), (2, .isl 2 (more.flatMap encPair) more.length), (8, .ptr ib 0), (9, .ptr p 0), (11, .int .i64 t)])
      (fun t s => t ≤ acts.length ∧ ∃ f sl, CW st s ib p m S f sl) (fun t => acts.length - t) 0 rfl ⟨Nat.zero_le _, f, sl, h⟩ ?_
    clear h f sl s
    rintro t s ⟨ht, f, sl, h⟩
    have hb := h.hb
    by_cases htl : t < acts.length
    rotate_left
    · have htl' : ¬ (t : Int) < (acts.length : Nat) := by omega
      simp only [↓Bp, Bq, Bs, ↓aop.eq_28, ↓aop.eq_30, Nat.reduceEqDiff, Nat.reduceAdd, Nat.reduceMul, Nat.reduceSub, Nat.reduceLeDiff, Nat.reduceLT, Int.reduceLT, Int.reduceLE, Int.reduceEq, Int.reduceToNat, Int.reduceAdd, Int.reduceSub, Int.reduceNeg, ↓reduceIte, reduceCtorEq, ↓C.catnaplaw16_CountCopies_W, C.catnaplaw16_CountCopies_B, C.catnaplaw16_CountCopies, htl']
      exact ⟨(), f, sl, h⟩
    have htl' : (t : Int) < (acts.length : Nat) := by omega
    have hw := wsucc htl (by omega)
    have hz2 : (0:Int) ≤ (t : Int) ∧ (t : Int) < (acts.length : Nat) := by omega
    have hf := flatMap_fits (f := encPair) (k := 2) (fun _ => rfl) htl
    have hat := flatMap_at (f := encPair) (k := 2) (fun _ => rfl) htl
    have hIa := hac _ (List.getElem_mem htl)
    simp only [↓Bp, Bq, Bs, ↓aop.eq_28, ↓aop.eq_30, Nat.reduceEqDiff, Nat.reduceAdd, Nat.reduceMul, Nat.reduceSub, Nat.reduceLeDiff, Nat.reduceLT, Int.reduceLT, Int.reduceLE, Int.reduceEq, Int.reduceToNat, Int.reduceAdd, Int.reduceSub, Int.reduceNeg, ↓reduceIte, reduceCtorEq, ↓C.catnaplaw16_CountCopies_W, C.catnaplaw16_CountCopies_B, C.catnaplaw16_CountCopies, htl', hb, Soc.cells, Soc.devV, hz2, hf, hat, encPair, Int.toNat_natCast]
    refine (CW.done hS h hIa.1 hIa.2).mono ?_
    rintro r s1 ⟨rfl, h2⟩
    simp only [↓Bp, Bq, Bs, ↓aop.eq_28, ↓aop.eq_30, Nat.reduceEqDiff, Nat.reduceAdd, Nat.reduceMul, Nat.reduceSub, Nat.reduceLeDiff, Nat.reduceLT, Int.reduceLT, Int.reduceLE, Int.reduceEq, Int.reduceToNat, Int.reduceAdd, Int.reduceSub, Int.reduceNeg, ↓reduceIte, reduceCtorEq, ↓C.catnaplaw16_CountCopies_W, C.catnaplaw16_CountCopies_B, C.catnaplaw16_CountCopies, hw]
    exact ⟨t + 1, rfl, ⟨htl, _, _, h2⟩, by omega⟩
  · clear h f sl s
    rintro - s ⟨f, sl, h⟩
    simp only [↓Bp, Bq, Bs, ↓aop.eq_28, ↓aop.eq_30, Nat.reduceEqDiff, Nat.reduceAdd, Nat.reduceMul, Nat.reduceSub, Nat.reduceLeDiff, Nat.reduceLT, Int.reduceLT, Int.reduceLE, Int.reduceEq, Int.reduceToNat, Int.reduceAdd, Int.reduceSub, Int.reduceNeg, ↓reduceIte, reduceCtorEq, ↓C.catnaplaw16_CountCopies_W, C.catnaplaw16_CountCopies_B, C.catnaplaw16_CountCopies]
    refine (h.copy).mono ?_
    rintro r s1 ⟨px, mx, rfl, h1, k1, n1, n2, hle⟩
    have hA1 := h.apart n1 n2
    simp only [↓Bp, Bq, Bs, ↓aop.eq_28, ↓aop.eq_30, Nat.reduceEqDiff, Nat.reduceAdd, Nat.reduceMul, Nat.reduceSub, Nat.reduceLeDiff, Nat.reduceLT, Int.reduceLT, Int.reduceLE, Int.reduceEq, Int.reduceToNat, Int.reduceAdd, Int.reduceSub, Int.reduceNeg, ↓reduceIte, reduceCtorEq, ↓C.catnaplaw16_CountCopies_W, C.catnaplaw16_CountCopies_B, C.catnaplaw16_CountCopies]
    refine (h1.copy).mono ?_
    rintro r s2 ⟨py, my, rfl, h2, j2, n3, n4, hle2⟩
    have hA2 := h1.apart n3 n4
    have hA3 := k1.apart n3 n4
    have k2 := k1.step hle2
    simp only [↓Bp, Bq, Bs, ↓aop.eq_28, ↓aop.eq_30, Nat.reduceEqDiff, Nat.reduceAdd, Nat.reduceMul, Nat.reduceSub, Nat.reduceLeDiff, Nat.reduceLT, Int.reduceLT, Int.reduceLE, Int.reduceEq, Int.reduceToNat, Int.reduceAdd, Int.reduceSub, Int.reduceNeg, ↓reduceIte, reduceCtorEq, ↓C.catnaplaw16_CountCopies_r13_w, C.catnaplaw16_CountCopies_r13_b, ↓C.catnaplaw16_CountCopies_c34_w, ↓C.catnaplaw16_CountCopies_c35_w, ↓C.catnaplaw16_CountCopies_r12_w, C.catnaplaw16_CountCopies_r12_b, ↓C.catnaplaw16_CountCopies_c36_w, ↓C.catnaplaw16_CountCopies_r11_w, C.catnaplaw16_CountCopies_r11_b, ↓C.catnaplaw16_CountCopies_c37_w, ↓C.catnaplaw16_CountCopies_r10_w, C.catnaplaw16_CountCopies_r10_b, ↓C.catnaplaw16_CountCopies_c38_w, ↓C.catnaplaw16_CountCopies_r8_w, C.catnaplaw16_CountCopies_r8_b, ↓C.catnaplaw16_CountCopies_c39_w, ↓C.catnaplaw16_CountCopies_r9_w, C.catnaplaw16_CountCopies_r9_b, ↓C.catnaplaw16_CountCopies_b40_w, ↓C.catnaplaw16_CountCopies_c41_w, ↓C.catnaplaw16_CountCopies_c42_w, ↓C.catnaplaw16_CountCopies_r7_w, C.catnaplaw16_CountCopies_r7_b, ↓C.catnaplaw16_CountCopies_b44_w, ↓C.catnaplaw16_CountCopies_c45_w, ↓C.catnaplaw16_CountCopies_r6_w, C.catnaplaw16_CountCopies_r6_b, ↓C.catnaplaw16_CountCopies_c46_w, ↓C.catnaplaw16_CountCopies_r5_w, C.catnaplaw16_CountCopies_r5_b, ↓C.catnaplaw16_CountCopies_c47_w, ↓C.catnaplaw16_CountCopies_c48_w, ↓C.catnaplaw16_CountCopies_r4_w, C.catnaplaw16_CountCopies_r4_b, ↓C.catnaplaw16_CountCopies_c49_w, ↓C.catnaplaw16_CountCopies_r3_w, C.catnaplaw16_CountCopies_r3_b, ↓C.catnaplaw16_CountCopies_c50_w, ↓C.catnaplaw16_CountCopies_r2_w, C.catnaplaw16_CountCopies_r2_b, ↓C.catnaplaw16_CountCopies_c51_w, ↓C.catnaplaw16_CountCopies_r1_w, C.catnaplaw16_CountCopies_r1_b, ↓C.catnaplaw16_CountCopies_c52_w, ↓C.catnaplaw16_CountCopies_r0_w, C.catnaplaw16_CountCopies_r0_b, C.catnaplaw16_CountCopies]
    rw [C.catnaplaw16_CountCopies_c33_w, awp_keep]
    exact cc_second hS (q := (f, sl)) hmo hml ⟨h2, k2, j2, hA1, hA2, hA3⟩
end
theorem countcopies_spec {st : ASt} {l : List Int} {acts more : List Pair} (hl : ∀ x ∈ l, -9223372036854775808 ≤ x ∧ x ≤ 9223372036854775807) (hll : l.length ≤ 9223372036854775807)
    (hac : ∀ x ∈ acts, I64 x.a ∧ I64 x.b) (hal : acts.length ≤ 9223372036854775807) (hmo : ∀ x ∈ more, I64 x.a ∧ I64 x.b) (hml : more.length ≤ 9223372036854775807) :
    ACalls Try.prog F.catnaplaw16_CountCopies [row l, .isl 2 (acts.flatMap encPair) acts.length, .isl 2 (more.flatMap encPair) more.length] st fun r s => r = .bool true ∧ s = st := by
  refine ACalls.gc (Q' := fun r s => r = .bool true ∧ st.le s) (calls_of_awp L.catnaplaw16_CountCopies rfl ?_) (fun v s ⟨h, hl⟩ => ⟨st, hl, h, rfl⟩)
  simp only [↓Bp, Bq, Bs, ↓aop.eq_28, ↓aop.eq_30, Nat.reduceEqDiff, Nat.reduceAdd, Nat.reduceMul, Nat.reduceSub, Nat.reduceLeDiff, Nat.reduceLT, Int.reduceLT, Int.reduceLE, Int.reduceEq, Int.reduceToNat, Int.reduceAdd, Int.reduceSub, Int.reduceNeg, ↓reduceIte, reduceCtorEq, ↓C.catnaplaw16_CountCopies_W, C.catnaplaw16_CountCopies_B, C.catnaplaw16_CountCopies]
  refine (cshown_spec st).mono ?_
  rintro r s ⟨rfl, rfl⟩
  simp only [↓Bp, Bq, Bs, ↓aop.eq_28, ↓aop.eq_30, Nat.reduceEqDiff, Nat.reduceAdd, Nat.reduceMul, Nat.reduceSub, Nat.reduceLeDiff, Nat.reduceLT, Int.reduceLT, Int.reduceLE, Int.reduceEq, Int.reduceToNat, Int.reduceAdd, Int.reduceSub, Int.reduceNeg, ↓reduceIte, reduceCtorEq, ↓C.catnaplaw16_CountCopies_W, C.catnaplaw16_CountCopies_B, C.catnaplaw16_CountCopies]
  refine (chip_frz hl hll).mono ?_
  rintro r s ⟨rfl, rfl⟩
  have hS := chipS_like l
  generalize chipS l = S at hS
  have l4 : S.cells.length = 4 := rfl
  have e4 : AV.agg (List.take 4 S.cells) = .agg S.cells := rfl
  have f4 : allLeaf S.cells = true := rfl
  simp only [↓Bp, Bq, Bs, ↓aop.eq_28, ↓aop.eq_30, Nat.reduceEqDiff, Nat.reduceAdd, Nat.reduceMul, Nat.reduceSub, Nat.reduceLeDiff, Nat.reduceLT, Int.reduceLT, Int.reduceLE, Int.reduceEq, Int.reduceToNat, Int.reduceAdd, Int.reduceSub, Int.reduceNeg, ↓reduceIte, reduceCtorEq, ↓C.catnaplaw16_CountCopies_r2_w, C.catnaplaw16_CountCopies_r2_b, ↓C.catnaplaw16_CountCopies_c51_w, ↓C.catnaplaw16_CountCopies_r1_w, C.catnaplaw16_CountCopies_r1_b, ↓C.catnaplaw16_CountCopies_c52_w, ↓C.catnaplaw16_CountCopies_r0_w, C.catnaplaw16_CountCopies_r0_b, C.catnaplaw16_CountCopies, l4, f4]
  rintro ib hib
  simp only [↓Bp, Bq, Bs, ↓aop.eq_28, ↓aop.eq_30, Nat.reduceEqDiff, Nat.reduceAdd, Nat.reduceMul, Nat.reduceSub, Nat.reduceLeDiff, Nat.reduceLT, Int.reduceLT, Int.reduceLE, Int.reduceEq, Int.reduceToNat, Int.reduceAdd, Int.reduceSub, Int.reduceNeg, ↓reduceIte, reduceCtorEq, ↓C.catnaplaw16_CountCopies_r2_w, C.catnaplaw16_CountCopies_r2_b, ↓C.catnaplaw16_CountCopies_c51_w, ↓C.catnaplaw16_CountCopies_r1_w, C.catnaplaw16_CountCopies_r1_b, ↓C.catnaplaw16_CountCopies_c52_w, ↓C.catnaplaw16_CountCopies_r0_w, C.catnaplaw16_CountCopies_r0_b, C.catnaplaw16_CountCopies, hib, l4, f4]
  rw [ASt.new_set hib, show putN [AV.nils, AV.nils, AV.nils, AV.nils] 0 S.cells = S.cells from putN_all rfl]
  simp only [↓Bp, Bq, Bs, ↓aop.eq_28, ↓aop.eq_30, Nat.reduceEqDiff, Nat.reduceAdd, Nat.reduceMul, Nat.reduceSub, Nat.reduceLeDiff, Nat.reduceLT, Int.reduceLT, Int.reduceLE, Int.reduceEq, Int.reduceToNat, Int.reduceAdd, Int.reduceSub, Int.reduceNeg, ↓reduceIte, reduceCtorEq, ↓C.catnaplaw16_CountCopies_W, C.catnaplaw16_CountCopies_B, C.catnaplaw16_CountCopies, hib, l4, e4]
  refine (cstart_spec hib hS).mono ?_
  rintro r s1 ⟨p, m, rfl, h⟩
  by_cases hac0 : acts.length ≤ 100
  rotate_left
  · have hz0 : (100 : Int) < (acts.length : Nat) := by omega
    simp only [↓Bp, Bq, Bs, ↓aop.eq_28, ↓aop.eq_30, Nat.reduceEqDiff, Nat.reduceAdd, Nat.reduceMul, Nat.reduceSub, Nat.reduceLeDiff, Nat.reduceLT, Int.reduceLT, Int.reduceLE, Int.reduceEq, Int.reduceToNat, Int.reduceAdd, Int.reduceSub, Int.reduceNeg, ↓reduceIte, reduceCtorEq, ↓C.catnaplaw16_CountCopies_W, C.catnaplaw16_CountCopies_B, C.catnaplaw16_CountCopies, hz0]
    exact h.le
  have hz0 : ¬ (100 : Int) < (acts.length : Nat) := by omega
  by_cases hmo0 : more.length ≤ 100
  rotate_left
  · have hz1 : (100 : Int) < (more.length : Nat) := by omega
    simp only [↓Bp, Bq, Bs, ↓aop.eq_28, ↓aop.eq_30, Nat.reduceEqDiff, Nat.reduceAdd, Nat.reduceMul, Nat.reduceSub, Nat.reduceLeDiff, Nat.reduceLT, Int.reduceLT, Int.reduceLE, Int.reduceEq, Int.reduceToNat, Int.reduceAdd, Int.reduceSub, Int.reduceNeg, ↓reduceIte, reduceCtorEq, ↓C.catnaplaw16_CountCopies_W, C.catnaplaw16_CountCopies_B, C.catnaplaw16_CountCopies, hz0, hz1]
    exact h.le
  have hz1 : ¬ (100 : Int) < (more.length : Nat) := by omega
  simp only [↓Bp, Bq, Bs, ↓aop.eq_28, ↓aop.eq_30, Nat.reduceEqDiff, Nat.reduceAdd, Nat.reduceMul, Nat.reduceSub, Nat.reduceLeDiff, Nat.reduceLT, Int.reduceLT, Int.reduceLE, Int.reduceEq, Int.reduceToNat, Int.reduceAdd, Int.reduceSub, Int.reduceNeg, ↓reduceIte, reduceCtorEq, ↓C.catnaplaw16_CountCopies_r5_w, C.catnaplaw16_CountCopies_r5_b, ↓C.catnaplaw16_CountCopies_c47_w, ↓C.catnaplaw16_CountCopies_c48_w, ↓C.catnaplaw16_CountCopies_r4_w, C.catnaplaw16_CountCopies_r4_b, ↓C.catnaplaw16_CountCopies_c49_w, ↓C.catnaplaw16_CountCopies_r3_w, C.catnaplaw16_CountCopies_r3_b, ↓C.catnaplaw16_CountCopies_c50_w, ↓C.catnaplaw16_CountCopies_r2_w, C.catnaplaw16_CountCopies_r2_b, ↓C.catnaplaw16_CountCopies_c51_w, ↓C.catnaplaw16_CountCopies_r1_w, C.catnaplaw16_CountCopies_r1_b, ↓C.catnaplaw16_CountCopies_c52_w, ↓C.catnaplaw16_CountCopies_r0_w, C.catnaplaw16_CountCopies_r0_b, C.catnaplaw16_CountCopies, hz0, hz1]
  rw [C.catnaplaw16_CountCopies_c46_w, awp_keep]
  exact cc_first hS hac hac0 hmo hmo0 h
end Go.Proofs.Ytoblpialfhfdgaa.Cn
