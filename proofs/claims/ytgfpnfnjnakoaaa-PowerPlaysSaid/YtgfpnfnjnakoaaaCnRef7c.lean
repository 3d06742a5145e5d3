/- Power: the document's Chain, New and Same; events as the document has them. -/
import Derived.Test.YtgfpnfnjnakoaaaCnRef7b
import Derived.Test.YtgfpnfnjnakoaaaCnSame
set_option linter.unusedSimpArgs false
set_option linter.unusedVariables false
set_option linter.unusedSectionVars false
namespace Go.Proofs.Ytgfpnfnjnakoaaa.Cn
open Go Go.Proofs

/-- What is shown is appended to a slice that stands in a block of its own. -/
theorem aop_append_two {P : Program} {sz b e m n : Nat} {x y : IArg} {fr : AFr} {s st : ASt} {K : AV → ASt → Prop} {cx cs : List AV} (hx : fr.val x = .sl sz e 0 m) (he : st.h e = some (.cells cx)) (hcx : cx.length = m * sz) (hes : s.h e = none) (hle : s.le st)
    (hy : (fr.val y).slen = some n) (hsn : st.seen (n * sz) (fr.val y) = some cs) (hn : m + n ≤ 4294967296) (hl : cs.length = n * sz) (hlf : allLeaf cs = true) (hk : ∀ v st2, Over s st2 sz v (m + n) (cx ++ cs) → K v st2) : aop P (.append sz b x y) fr st K := by
  simp only [aop, hx, hy, slen_sl, hsn, Nat.zero_add]
  refine ⟨⟨hn, hlf⟩, ?_⟩
  by_cases h0 : n = 0
  · rw [if_pos h0]
    subst h0
    have : cs = [] := List.eq_nil_of_length_eq_zero (by simpa using hl)
    subst this
    rw [List.append_nil] at hk
    exact hk _ _ ⟨⟨hcx, .inr ⟨e, rfl, he⟩⟩, hle, fun sz i off n e' => by cases e'; exact hes⟩
  · rw [if_neg h0, he]
    refine ⟨⟨trivial, hcx.symm⟩, fun id' hid' => ?_⟩
    have hid2 : (st.kill e).h id' = none := by rw [ASt.kill_h]; split <;> simp_all
    refine hk _ _ ⟨⟨by rw [List.length_append, hcx, hl, Nat.add_mul], .inr ⟨id', rfl, ?_⟩⟩, ?_, fun sz i off n e' => by cases e'; exact fresh_of_le hle hid'⟩
    · rw [ASt.new_self _ hid2, List.drop_zero]
    · exact (hle.unkill hes).trans (ASt.le.new _ _ _)
theorem rchain_spec {base st : ASt} {q jd js : Nat} {D : List Dom} {rs : List Rs} (h : RefG base st q jd js D rs) {gs : List Gd} (hR : RelL gs rs) (hI : GInv D gs) (hn : D.length ≤ 100) (i : Int) :
    ACalls Try.prog F.q19 [.ptr q 0, .int .i64 i] st fun r s => r = row (chainOf gs i) ∧ s = st := by
  have hgl := hI.len
  by_cases hi : isGd gs i
  rotate_left
  · have hi2 : ¬ isDm D i := fun e => hi ⟨e.1, by rw [hgl]; exact e.2⟩
    refine ACalls.ghost (Q' := fun r s => r = .nils ∧ s = st) (calls_of_awp L.q19 rfl ?_) (fun r s ⟨h1, h2⟩ => ⟨row [], st, by rw [h1, h2]; exact Ghost.nils 1, by rw [chainOf, if_neg hi], rfl⟩)
    simp only [↓Bp, Bq, Bs, ↓aop.eq_28, ↓aop.eq_30, Nat.reduceEqDiff, Nat.reduceAdd, Nat.reduceMul, Nat.reduceSub, Nat.reduceLeDiff, Nat.reduceLT, Int.reduceLT, Int.reduceLE, Int.reduceEq, Int.reduceToNat, Int.reduceAdd, Int.reduceSub, Int.reduceNeg, ↓reduceIte, reduceCtorEq, ↓C.q19_W, C.q19_B, C.q19]
    refine (rthere_spec h i).mono ?_
    rintro r s ⟨rfl, rfl⟩
    rw [decide_eq_false hi2]
    simp only [↓Bp, Bq, Bs, ↓aop.eq_28, ↓aop.eq_30, Nat.reduceEqDiff, Nat.reduceAdd, Nat.reduceMul, Nat.reduceSub, Nat.reduceLeDiff, Nat.reduceLT, Int.reduceLT, Int.reduceLE, Int.reduceEq, Int.reduceToNat, Int.reduceAdd, Int.reduceSub, Int.reduceNeg, ↓reduceIte, reduceCtorEq, ↓C.q19_W, C.q19_B, C.q19]
  have hi2 : isDm D i := ⟨hi.1, by rw [← hgl]; exact hi.2⟩
  refine ACalls.ghost (Q' := fun r s => Over st s 1 r (chainOf gs i).length (ints (chainOf gs i))) (calls_of_awp L.q19 rfl ?_) (fun r s hO => ⟨_, _, hO.frz, rfl, rfl⟩)
  simp only [↓Bp, Bq, Bs, ↓aop.eq_28, ↓aop.eq_30, Nat.reduceEqDiff, Nat.reduceAdd, Nat.reduceMul, Nat.reduceSub, Nat.reduceLeDiff, Nat.reduceLT, Int.reduceLT, Int.reduceLE, Int.reduceEq, Int.reduceToNat, Int.reduceAdd, Int.reduceSub, Int.reduceNeg, ↓reduceIte, reduceCtorEq, ↓C.q19_W, C.q19_B, C.q19]
  refine (rthere_spec h i).mono ?_
  rintro r s ⟨rfl, rfl⟩
  rw [decide_eq_true hi2]
  simp only [↓Bp, Bq, Bs, ↓aop.eq_28, ↓aop.eq_30, Nat.reduceEqDiff, Nat.reduceAdd, Nat.reduceMul, Nat.reduceSub, Nat.reduceLeDiff, Nat.reduceLT, Int.reduceLT, Int.reduceLE, Int.reduceEq, Int.reduceToNat, Int.reduceAdd, Int.reduceSub, Int.reduceNeg, ↓reduceIte, reduceCtorEq, ↓C.q19_W, C.q19_B, C.q19]
  refine awp_midB (fun v : AV => [(5, v)]) (fun v t => Over s t 1 v (chainOf gs i).length (ints (chainOf gs i))) ?_ ?_
  rotate_left
  · intro v t hO
    simp only [↓Bp, Bq, Bs, ↓aop.eq_28, ↓aop.eq_30, Nat.reduceEqDiff, Nat.reduceAdd, Nat.reduceMul, Nat.reduceSub, Nat.reduceLeDiff, Nat.reduceLT, Int.reduceLT, Int.reduceLE, Int.reduceEq, Int.reduceToNat, Int.reduceAdd, Int.reduceSub, Int.reduceNeg, ↓reduceIte, reduceCtorEq, ↓C.q19_W, C.q19_B, C.q19]
    exact hO
  refine awp_loopK (fun w : Int × AV × List Int × Nat => [(0, .ptr q 0), (1, .int .i64 w.1), (5, w.2.1)]) (fun w t => (w.1 = -1 ∨ (0 ≤ w.1 ∧ w.1 < (gs.length : Int))) ∧ w.2.2.1.length + w.2.2.2 = gs.length + 1 ∧ w.1 < (w.2.2.2 : Int) ∧ (chainR gs w.2.2.2 w.1).reverse ++ w.2.2.1 = chainOf gs i ∧ Over s t 1 w.2.1 w.2.2.1.length (ints w.2.2.1)) (fun w => (w.1 + 1).toNat) (i, .nils, [], gs.length + 1) rfl
    ⟨.inr hi, by simp, by have := hi.2; simp only; omega, by rw [List.append_nil, chainOf, if_pos hi], Over.nils (ASt.le.refl _) 1⟩ ?_
  rintro ⟨x, v, acc, f⟩ t ⟨hx, hlen, hxf, hacc, hO⟩
  simp only at hx hlen hxf hacc hO
  by_cases e : x = -1
  · have T0 : ((0 : Int) ≤ x) = False := eq_false (by omega)
    simp only [↓Bp, Bq, Bs, ↓aop.eq_28, ↓aop.eq_30, Nat.reduceEqDiff, Nat.reduceAdd, Nat.reduceMul, Nat.reduceSub, Nat.reduceLeDiff, Nat.reduceLT, Int.reduceLT, Int.reduceLE, Int.reduceEq, Int.reduceToNat, Int.reduceAdd, Int.reduceSub, Int.reduceNeg, ↓reduceIte, reduceCtorEq, ↓C.q19_W, C.q19_B, C.q19, ge_iff_le, T0]
    have : chainR gs f x = [] := by
      cases f with
      | zero => rfl
      | succ f => rw [chainR, if_pos e]
    rw [this, List.reverse_nil, List.nil_append] at hacc
    rw [← hacc]
    exact ⟨v, rfl, hO⟩
  have T0 : ((0 : Int) ≤ x) = True := eq_true (by omega)
  obtain ⟨k, rfl⟩ : ∃ k : Nat, x = k := ⟨x.toNat, by omega⟩
  have hk : k < gs.length := by omega
  have hkD : k < D.length := by omega
  obtain ⟨f, rfl⟩ : ∃ f', f = f' + 1 := ⟨f - 1, by omega⟩
  have hz : (0:Int) ≤ (k : Int) ∧ (k : Int) < (D.length : Nat) := by omega
  simp only [↓Bp, Bq, Bs, Nat.reduceEqDiff, Nat.reduceAdd, Nat.reduceMul, Nat.reduceSub, Nat.reduceLeDiff, Nat.reduceLT, Int.reduceLT, Int.reduceLE, Int.reduceEq, Int.reduceToNat, Int.reduceAdd, Int.reduceSub, Int.reduceNeg, ↓reduceIte, reduceCtorEq, ↓C.q19_W, C.q19_B, C.q19, ge_iff_le, T0]
  refine aop_bs (cs := [.int .i64 k]) rfl fun e he => ?_
  have hO1 := hO.1.le (ASt.le.new t e (.cells [.int .i64 k]))
  have hle1 := hO.2.1.trans (ASt.le.new t e (.cells [.int .i64 k]))
  have hself := ASt.new_self (.cells [.int .i64 (k : Int)]) he
  have hes := fresh_of_le hO.2.1 he
  generalize t.new e (.cells [.int .i64 k]) = t1 at hO1 hle1 hself
  refine aop_append_two (s := s) (cx := [.int .i64 k]) (cs := ints acc) (n := acc.length) rfl hself rfl hes hle1 hO1.slen hO1.seen (by omega) (by rw [ints_length, Nat.mul_one]) (ints_leaf _) fun v2 t2 hP => ?_
  have hq := hP.2.1 _ _ h.hq
  have hd := hP.2.1 _ _ h.hd
  have d0 := (dom_gets hkD).1
  rw [← (hI.same k hk hkD).1] at d0
  simp only [↓Bp, Bq, Bs, ↓aop.eq_28, ↓aop.eq_30, Nat.reduceEqDiff, Nat.reduceAdd, Nat.reduceMul, Nat.reduceSub, Nat.reduceLeDiff, Nat.reduceLT, Int.reduceLT, Int.reduceLE, Int.reduceEq, Int.reduceToNat, Int.reduceAdd, Int.reduceSub, Int.reduceNeg, ↓reduceIte, reduceCtorEq, ↓C.q19_W, C.q19_B, C.q19, hq, hd, hz, Int.toNat_natCast, d0]
  have hlk := hI.lesser k hk
  have e1 : ¬ (k : Int) = -1 := by omega
  refine ⟨(gs[k].above, v2, (k : Int) :: acc, f), rfl, ⟨by simp only; omega, by simp only [List.length_cons]; omega, by simp only; omega, ?_, ?_⟩, by simp only; omega⟩
  · simp only
    rw [chainR, if_neg e1, gAbove_at hk] at hacc
    rw [← hacc]; simp
  · simp only
    rw [List.length_cons, Nat.add_comm]; exact hP
theorem dms_leaf (l : List Dom) : allLeaf (l.flatMap Dom.cells) = true := by
  simp [allLeaf, List.all_flatMap, Dom.cells, AV.leaf]
def rfresh (D : List Dom) : List Rs := D.map fun _ => ⟨48, 0, false⟩
theorem rfresh_len (D : List Dom) : (rfresh D).length = D.length := by simp [rfresh]
theorem RelL.fresh (D : List Dom) : RelL (gfresh D) (rfresh D) where
  len := by simp [gfresh, rfresh]
  rel := fun i h1 h2 => by
    simp only [gfresh, rfresh, List.getElem_map]
    exact ⟨rfl, rfl, fun e => absurd e (by show ¬ (48 : Int) = 114; decide), fun e => absurd e (by show ¬ (48 : Int) = 99; decide)⟩
theorem rnew_spec {st : ASt} {S : Soc} (hS : S.like) : ACalls Try.prog F.q26 [.agg S.cells] st fun r s => ∃ q jd js, r = .tup [.ptr q 0, .int .i64 0] ∧ RefG st s q jd js S.doms (rfresh S.doms) ∧ st.le s := by
  refine calls_of_awp L.q26 rfl ?_
  have hnd := hS.nd
  have l4 : S.cells.length = 4 := rfl
  have e4 : AV.agg (List.take 4 S.cells) = .agg S.cells := rfl
  simp only [↓Bp, Bq, Bs, ↓aop.eq_28, ↓aop.eq_30, Nat.reduceEqDiff, Nat.reduceAdd, Nat.reduceMul, Nat.reduceSub, Nat.reduceLeDiff, Nat.reduceLT, Int.reduceLT, Int.reduceLE, Int.reduceEq, Int.reduceToNat, Int.reduceAdd, Int.reduceSub, Int.reduceNeg, ↓reduceIte, reduceCtorEq, ↓C.q26_r0_w, C.q26_r0_b, C.q26]
  rintro ib hib
  have hb := ASt.new_self (.cells S.cells) hib
  have hle := ASt.le.new st ib (.cells S.cells)
  generalize st.new ib (.cells S.cells) = s0 at hb hle
  simp only [↓Bp, Bq, Bs, ↓aop.eq_28, ↓aop.eq_30, Nat.reduceEqDiff, Nat.reduceAdd, Nat.reduceMul, Nat.reduceSub, Nat.reduceLeDiff, Nat.reduceLT, Int.reduceLT, Int.reduceLE, Int.reduceEq, Int.reduceToNat, Int.reduceAdd, Int.reduceSub, Int.reduceNeg, ↓reduceIte, reduceCtorEq, ↓C.q26_W, C.q26_B, C.q26, hb, e4, l4]
  refine (refConf_spec (Soc.okR.of hS.right) hS.fine).mono ?_
  rintro r s1 ⟨rfl, rfl⟩
  rw [Soc.cells, Soc.domV] at hb
  simp only [↓Bp, Bq, Bs, Nat.reduceEqDiff, Nat.reduceAdd, Nat.reduceMul, Nat.reduceSub, Nat.reduceLeDiff, Nat.reduceLT, Int.reduceLT, Int.reduceLE, Int.reduceEq, Int.reduceToNat, Int.reduceAdd, Int.reduceSub, Int.reduceNeg, ↓reduceIte, reduceCtorEq, ↓C.q26_W, C.q26_B, C.q26]
  refine aop_bs (cs := []) rfl fun e he => ?_
  have hle1 := ASt.le.new s1 e (.cells [])
  have hb1 := hle1 _ _ hb
  have hself := ASt.new_self (.cells []) he
  generalize s1.new e (.cells []) = s2 at hle1 hb1 hself
  simp only [↓Bp, Bq, Bs, Nat.reduceEqDiff, Nat.reduceAdd, Nat.reduceMul, Nat.reduceSub, Nat.reduceLeDiff, Nat.reduceLT, Int.reduceLT, Int.reduceLE, Int.reduceEq, Int.reduceToNat, Int.reduceAdd, Int.reduceSub, Int.reduceNeg, ↓reduceIte, reduceCtorEq, ↓C.q26_W, C.q26_B, C.q26, hb1]
  have hDl : (S.doms.flatMap Dom.cells).length = S.doms.length * 3 := flatMap_len (f := Dom.cells) (k := 3) (fun _ => rfl) S.doms
  have hseen : s2.seen (S.doms.length * 3) (.isl 3 (S.doms.flatMap Dom.cells) S.doms.length) = some (S.doms.flatMap Dom.cells) := by
    simp only [ASt.seen, hDl, Nat.le_refl, if_true]; rw [← hDl, List.take_length]
  refine aop_append_two (s := s1) (cx := []) (cs := S.doms.flatMap Dom.cells) (n := S.doms.length) rfl hself rfl he hle1 rfl hseen (by omega) hDl (dms_leaf _) fun v s3 hO => ?_
  rw [Nat.zero_add, List.nil_append] at hO
  obtain ⟨jd, rfl, hjd⟩ := hO.1.blk (by omega)
  have hjb := hO.2.2 _ _ _ _ rfl
  rintro q hq
  have hsq := ASt.new_self (.cells [.sl 3 jd 0 S.doms.length, .nils]) hq
  simp only [↓Bp, Bq, Bs, ↓aop.eq_28, ↓aop.eq_30, Nat.reduceEqDiff, Nat.reduceAdd, Nat.reduceMul, Nat.reduceSub, Nat.reduceLeDiff, Nat.reduceLT, Int.reduceLT, Int.reduceLE, Int.reduceEq, Int.reduceToNat, Int.reduceAdd, Int.reduceSub, Int.reduceNeg, ↓reduceIte, reduceCtorEq, ↓C.q26_W, C.q26_B, C.q26]
  refine awp_midB (fun _ : Unit => [(5, .ptr q 0)]) (fun _ t => ∃ v, Over (s3.new q (.cells [.sl 3 jd 0 S.doms.length, v])) t 3 v S.doms.length ((rfresh S.doms).flatMap Rs.cells)) ?_ ?_
  · refine awp_loopK (fun i : Nat => [(5, .ptr q 0), (6, .int .i64 i)]) (fun i t => i ≤ S.doms.length ∧ ∃ v, Over (s3.new q (.cells [.sl 3 jd 0 S.doms.length, v])) t 3 v i ((rfresh (S.doms.take i)).flatMap Rs.cells)) (fun i => S.doms.length - i) 0 rfl ⟨Nat.zero_le _, .nils, Over.nils (ASt.le.refl _) 3⟩ ?_
    rintro i t ⟨hi, v, hP⟩
    have hqt := hP.2.1 _ _ (ASt.new_self (.cells [.sl 3 jd 0 S.doms.length, v]) hq)
    by_cases hil : i < S.doms.length
    rotate_left
    · have hil' : ¬ (i : Int) < (S.doms.length : Nat) := by omega
      simp only [↓Bp, Bq, Bs, ↓aop.eq_28, ↓aop.eq_30, Nat.reduceEqDiff, Nat.reduceAdd, Nat.reduceMul, Nat.reduceSub, Nat.reduceLeDiff, Nat.reduceLT, Int.reduceLT, Int.reduceLE, Int.reduceEq, Int.reduceToNat, Int.reduceAdd, Int.reduceSub, Int.reduceNeg, ↓reduceIte, reduceCtorEq, ↓C.q26_W, C.q26_B, C.q26, hil', hqt]
      rw [show i = S.doms.length by omega, List.take_length] at hP
      exact ⟨(), v, hP⟩
    have hil' : (i : Int) < (S.doms.length : Nat) := by omega
    have hw := wsucc hil (by omega)
    simp only [↓Bp, Bq, Bs, Nat.reduceEqDiff, Nat.reduceAdd, Nat.reduceMul, Nat.reduceSub, Nat.reduceLeDiff, Nat.reduceLT, Int.reduceLT, Int.reduceLE, Int.reduceEq, Int.reduceToNat, Int.reduceAdd, Int.reduceSub, Int.reduceNeg, ↓reduceIte, reduceCtorEq, ↓C.q26_W, C.q26_B, C.q26, hil', hqt]
    refine aop_append_over hP (by omega) (new := Rs.cells ⟨48, 0, false⟩) (aput_one rfl rfl) rfl rfl (fun _ => rfl) (fun _ => rfl) fun v1 v2 t3 hP2 => ?_
    have hqt3 := hP2.2.1 _ _ (ASt.new_self (.cells [.sl 3 jd 0 S.doms.length, v]) hq)
    simp only [↓Bp, Bq, Bs, ↓aop.eq_28, ↓aop.eq_30, Nat.reduceEqDiff, Nat.reduceAdd, Nat.reduceMul, Nat.reduceSub, Nat.reduceLeDiff, Nat.reduceLT, Int.reduceLT, Int.reduceLE, Int.reduceEq, Int.reduceToNat, Int.reduceAdd, Int.reduceSub, Int.reduceNeg, ↓reduceIte, reduceCtorEq, ↓C.q26_W, C.q26_B, C.q26, hqt3, hw]
    refine ⟨hP2.1.leaf, i + 1, rfl, ⟨hil, v2, ?_⟩, by omega⟩
    have hne : (s3.new q (.cells [.sl 3 jd 0 S.doms.length, v])).h q ≠ none := by rw [ASt.new_self _ hq]; simp
    have h3 := hP2.rebase (base' := (s3.new q (.cells [.sl 3 jd 0 S.doms.length, v])).set q (.cells [.sl 3 jd 0 S.doms.length, v2])) (st' := t3.set q (.cells [.sl 3 jd 0 S.doms.length, v2])) (keep_set hne) (hP2.2.1.set _ _)
    rw [ASt.new_set hq] at h3
    rw [show (rfresh (S.doms.take (i + 1))).flatMap Rs.cells = (rfresh (S.doms.take i)).flatMap Rs.cells ++ Rs.cells ⟨48, 0, false⟩ by
      rw [List.take_succ_eq_append_getElem hil, rfresh, List.map_append, List.flatMap_append]; simp [rfresh]]
    exact h3
  · rintro - t ⟨v, hP⟩
    simp only [↓Bp, Bq, Bs, ↓aop.eq_28, ↓aop.eq_30, Nat.reduceEqDiff, Nat.reduceAdd, Nat.reduceMul, Nat.reduceSub, Nat.reduceLeDiff, Nat.reduceLT, Int.reduceLT, Int.reduceLE, Int.reduceEq, Int.reduceToNat, Int.reduceAdd, Int.reduceSub, Int.reduceNeg, ↓reduceIte, reduceCtorEq, ↓C.q26_W, C.q26_B, C.q26]
    obtain ⟨js, rfl, hjs⟩ := hP.1.blk (by omega)
    have hbs := hP.2.2 _ _ _ _ rfl
    have hbs' := hbs
    rw [ASt.new_none] at hbs'
    have hls3 : st.le s3 := hle.trans hO.2.1
    refine ⟨q, jd, js, rfl, ⟨hP.2.1 _ _ (ASt.new_self _ hq), hP.2.1 _ _ (ASt.new_old hjd), hjs, rfresh_len _, hbs'.2, fun e => ?_, fresh_of_le hls3 hq, fresh_of_le hle hjb, fresh_of_le hls3 hbs'.1⟩, (hls3.trans (ASt.le.new _ _ _)).trans hP.2.1⟩
    rw [e, hjd] at hbs'; cases hbs'.1
theorem as_spec {st : ASt} {l : List (Int × Nat)} (hn : l.length ≤ 1000) : ACalls Try.prog F.q1 [evsV l] st fun r s => r = evsV l ∧ s = st := by
  refine ACalls.ghost (Q' := fun r s => Over st s 2 r l.length (l.flatMap encEv)) (calls_of_awp L.q1 rfl ?_) (fun r s hO => ⟨_, _, hO.frz, rfl, rfl⟩)
  rw [evsV]
  simp only [↓Bp, Bq, Bs, ↓aop.eq_28, ↓aop.eq_30, Nat.reduceEqDiff, Nat.reduceAdd, Nat.reduceMul, Nat.reduceSub, Nat.reduceLeDiff, Nat.reduceLT, Int.reduceLT, Int.reduceLE, Int.reduceEq, Int.reduceToNat, Int.reduceAdd, Int.reduceSub, Int.reduceNeg, ↓reduceIte, reduceCtorEq, ↓C.q1_W, C.q1_B, C.q1]
  refine awp_midB (fun v : AV => [(3, v)]) (fun v s => Over st s 2 v l.length (l.flatMap encEv)) ?_ ?_
  rotate_left
  · intro v s hO
    simp only [↓Bp, Bq, Bs, ↓aop.eq_28, ↓aop.eq_30, Nat.reduceEqDiff, Nat.reduceAdd, Nat.reduceMul, Nat.reduceSub, Nat.reduceLeDiff, Nat.reduceLT, Int.reduceLT, Int.reduceLE, Int.reduceEq, Int.reduceToNat, Int.reduceAdd, Int.reduceSub, Int.reduceNeg, ↓reduceIte, reduceCtorEq, ↓C.q1_W, C.q1_B, C.q1]
    exact hO
  refine awp_loopK (fun w : Nat × AV => [(0, .isl 2 (l.flatMap encEv) l.length), (3, w.2), (4, .int .i64 w.1)]) (fun w s => w.1 ≤ l.length ∧ Over st s 2 w.2 w.1 ((l.take w.1).flatMap encEv)) (fun w => l.length - w.1) (0, .nils) rfl
    ⟨Nat.zero_le _, Over.nils (ASt.le.refl _) 2⟩ ?_
  rintro ⟨i, v⟩ s ⟨hi, hO⟩
  simp only at hi hO
  by_cases hil : i < l.length
  rotate_left
  · have hil' : ¬ (i : Int) < (l.length : Nat) := by omega
    simp only [↓Bp, Bq, Bs, ↓aop.eq_28, ↓aop.eq_30, Nat.reduceEqDiff, Nat.reduceAdd, Nat.reduceMul, Nat.reduceSub, Nat.reduceLeDiff, Nat.reduceLT, Int.reduceLT, Int.reduceLE, Int.reduceEq, Int.reduceToNat, Int.reduceAdd, Int.reduceSub, Int.reduceNeg, ↓reduceIte, reduceCtorEq, ↓C.q1_W, C.q1_B, C.q1, hil']
    rw [show i = l.length by omega, List.take_length] at hO
    exact ⟨v, rfl, hO⟩
  have hil' : (i : Int) < (l.length : Nat) := by omega
  have hw := wsucc hil (by omega)
  have hz : (0:Int) ≤ (i : Int) ∧ (i : Int) < (l.length : Nat) := by omega
  have g0 : (l.flatMap encEv)[i * 2]? = some (.int .u8 l[i].1) := rows_get encEv (w := 2) (fun _ => rfl) hil (j := 0) (by omega)
  have g1 : (l.flatMap encEv)[i * 2 + 1]? = some (.int .i64 l[i].2) := rows_get encEv (w := 2) (fun _ => rfl) hil (j := 1) (by omega)
  simp only [↓Bp, Bq, Bs, Nat.reduceEqDiff, Nat.reduceAdd, Nat.reduceMul, Nat.reduceSub, Nat.reduceLeDiff, Nat.reduceLT, Int.reduceLT, Int.reduceLE, Int.reduceEq, Int.reduceToNat, Int.reduceAdd, Int.reduceSub, Int.reduceNeg, ↓reduceIte, reduceCtorEq, ↓C.q1_W, C.q1_B, C.q1, hil', hz, Int.toNat_natCast, g0, g1]
  refine aop_append_over hO (by omega) (new := encEv l[i]) (aput_one rfl rfl) rfl rfl (fun _ => rfl) (fun _ => rfl) fun v1 v2 t3 hP => ?_
  simp only [↓Bp, Bq, Bs, ↓aop.eq_28, ↓aop.eq_30, Nat.reduceEqDiff, Nat.reduceAdd, Nat.reduceMul, Nat.reduceSub, Nat.reduceLeDiff, Nat.reduceLT, Int.reduceLT, Int.reduceLE, Int.reduceEq, Int.reduceToNat, Int.reduceAdd, Int.reduceSub, Int.reduceNeg, ↓reduceIte, reduceCtorEq, ↓C.q1_W, C.q1_B, C.q1, hw]
  refine ⟨(i + 1, v2), rfl, ⟨hil, ?_⟩, by simp only; omega⟩
  simp only
  rw [List.take_succ_eq_append_getElem hil, List.flatMap_append]
  simpa using hP
theorem rsame_spec {st : ASt} {l : List (Int × Nat)} (hn : l.length ≤ 1000) : ACalls Try.prog F.q27 [evsV l, evsV l] st fun r s => r = .bool true ∧ s = st := by
  refine calls_of_awp L.q27 rfl ?_
  rw [evsV]
  simp only [↓Bp, Bq, Bs, ↓aop.eq_28, ↓aop.eq_30, Nat.reduceEqDiff, Nat.reduceAdd, Nat.reduceMul, Nat.reduceSub, Nat.reduceLeDiff, Nat.reduceLT, Int.reduceLT, Int.reduceLE, Int.reduceEq, Int.reduceToNat, Int.reduceAdd, Int.reduceSub, Int.reduceNeg, ↓reduceIte, reduceCtorEq, ↓C.q27_W, C.q27_B, C.q27]
  refine awp_midB (fun _ : Unit => ([] : AFr)) (fun _ s => s = st) ?_ ?_
  rotate_left
  · rintro - s rfl
    simp only [↓Bp, Bq, Bs, ↓aop.eq_28, ↓aop.eq_30, Nat.reduceEqDiff, Nat.reduceAdd, Nat.reduceMul, Nat.reduceSub, Nat.reduceLeDiff, Nat.reduceLT, Int.reduceLT, Int.reduceLE, Int.reduceEq, Int.reduceToNat, Int.reduceAdd, Int.reduceSub, Int.reduceNeg, ↓reduceIte, reduceCtorEq, ↓C.q27_W, C.q27_B, C.q27]
  refine awp_loopK (fun i : Nat => [(0, .isl 2 (l.flatMap encEv) l.length), (1, .isl 2 (l.flatMap encEv) l.length), (5, .int .i64 i)]) (fun i s => i ≤ l.length ∧ s = st) (fun i => l.length - i) 0 rfl ⟨Nat.zero_le _, rfl⟩ ?_
  rintro i s ⟨hi, rfl⟩
  by_cases hil : i < l.length
  rotate_left
  · have hil' : ¬ (i : Int) < (l.length : Nat) := by omega
    simp only [↓Bp, Bq, Bs, ↓aop.eq_28, ↓aop.eq_30, Nat.reduceEqDiff, Nat.reduceAdd, Nat.reduceMul, Nat.reduceSub, Nat.reduceLeDiff, Nat.reduceLT, Int.reduceLT, Int.reduceLE, Int.reduceEq, Int.reduceToNat, Int.reduceAdd, Int.reduceSub, Int.reduceNeg, ↓reduceIte, reduceCtorEq, ↓C.q27_W, C.q27_B, C.q27, hil']
    exact ⟨(), trivial⟩
  have hil' : (i : Int) < (l.length : Nat) := by omega
  have hw := wsucc hil (by omega)
  have hz : (0:Int) ≤ (i : Int) ∧ (i : Int) < (l.length : Nat) := by omega
  have g0 : (l.flatMap encEv)[i * 2]? = some (.int .u8 l[i].1) := rows_get encEv (w := 2) (fun _ => rfl) hil (j := 0) (by omega)
  have g1 : (l.flatMap encEv)[i * 2 + 1]? = some (.int .i64 l[i].2) := rows_get encEv (w := 2) (fun _ => rfl) hil (j := 1) (by omega)
  simp only [↓Bp, Bq, Bs, ↓aop.eq_28, ↓aop.eq_30, Nat.reduceEqDiff, Nat.reduceAdd, Nat.reduceMul, Nat.reduceSub, Nat.reduceLeDiff, Nat.reduceLT, Int.reduceLT, Int.reduceLE, Int.reduceEq, Int.reduceToNat, Int.reduceAdd, Int.reduceSub, Int.reduceNeg, ↓reduceIte, reduceCtorEq, ↓C.q27_W, C.q27_B, C.q27, hil', hz, Int.toNat_natCast, g0, g1, hw]
  exact ⟨i + 1, rfl, hil, by omega⟩
end Go.Proofs.Ytgfpnfnjnakoaaa.Cn
