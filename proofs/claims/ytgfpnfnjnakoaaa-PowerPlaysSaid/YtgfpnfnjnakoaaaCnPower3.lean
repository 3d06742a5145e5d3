/- Power: Tick, New, Chain. -/
import Derived.Test.YtgfpnfnjnakoaaaCnPower2
import Derived.Test.YtgfpnfnjnakoaaaCnChipOk
import Derived.Test.YtgfpnfnjnakoaaaCnChipT
set_option linter.unusedSimpArgs false
set_option linter.unusedVariables false
namespace Go.Proofs.Ytgfpnfnjnakoaaa.Cn
open Go Go.Proofs

/-- What has come to pass: a sign and a number. -/
def encEv (e : Int × Nat) : List AV := [.int .u8 e.1, .int .i64 e.2]
theorem encEv_len (e : Int × Nat) : (encEv e).length = 2 := rfl
def evsV (l : List (Int × Nat)) : AV := .isl 2 (l.flatMap encEv) l.length
def evTo (gs : List Gd) (i : Nat) : List (Int × Nat) := ((List.range i).filter fun j => decide (gev (gs.getD j ⟨0, 0, false, 0, 0, false, false⟩) ≠ 0)).map fun j => (gev (gs.getD j ⟨0, 0, false, 0, 0, false, false⟩), j)
def evs (gs : List Gd) : List (Int × Nat) := evTo gs gs.length
theorem evTo_succ {gs : List Gd} {i : Nat} (h : i < gs.length) : evTo gs (i + 1) = if gev gs[i] ≠ 0 then evTo gs i ++ [(gev gs[i], i)] else evTo gs i := by
  have e : gs.getD i ⟨0, 0, false, 0, 0, false, false⟩ = gs[i] := by simp [h]
  simp only [evTo, List.range_succ, List.filter_append]
  by_cases hg : gev gs[i] = 0
  · rw [if_neg (by simp [hg])]; simp only [List.filter_cons, List.filter_nil, e, hg]; simp
  · rw [if_pos hg]; simp only [List.filter_cons, List.filter_nil, e]; simp [hg, h]
theorem evTo_len (gs : List Gd) (i : Nat) : (evTo gs i).length ≤ i := by
  have := List.length_filter_le (fun j => decide (gev (gs.getD j ⟨0, 0, false, 0, 0, false, false⟩) ≠ 0)) (List.range i)
  simpa [evTo] using this
def gtickTo (gs : List Gd) (i : Nat) : List Gd := (gs.take i).map gtick ++ gs.drop i
def gtickL (gs : List Gd) : List Gd := gs.map gtick
theorem gtickTo_len (gs : List Gd) (i : Nat) : (gtickTo gs i).length = gs.length := by simp [gtickTo]; omega
theorem gtickTo_at {gs : List Gd} {i : Nat} (h : i < gs.length) : (gtickTo gs i)[i]'(by rw [gtickTo_len]; exact h) = gs[i] := by
  simp only [gtickTo]
  rw [List.getElem_append_right (by simp; omega)]
  simp [Nat.min_eq_left (Nat.le_of_lt h)]
theorem gtickTo_set {gs : List Gd} {i : Nat} (h : i < gs.length) : (gtickTo gs i).set i (gtick gs[i]) = gtickTo gs (i + 1) := by
  simp only [gtickTo]
  rw [List.set_append_right _ _ (by simp; omega), List.take_succ_eq_append_getElem h, List.map_append]
  have : i - ((gs.take i).map gtick).length = 0 := by simp; omega
  rw [this, ← List.getElem_cons_drop (h := h), List.set_cons_zero]
  simp
theorem gtickTo_zero (gs : List Gd) : gtickTo gs 0 = gs := by simp [gtickTo]
theorem gtickTo_all (gs : List Gd) : gtickTo gs gs.length = gtickL gs := by simp [gtickTo, gtickL]
theorem gtickL_len (gs : List Gd) : (gtickL gs).length = gs.length := by simp [gtickL]
theorem gtick_spec {st : ASt} {p ig : Nat} {gs : List Gd} (h : GridAt st p ig gs) (hl : ∀ g ∈ gs, g.left ≤ 1000) :
    ACalls Try.prog F.q82 [.ptr p 0] st fun r s => r = evsV (evs gs) ∧ s = st.set ig (gsC (gtickL gs)) := by
  refine ACalls.ghost (Q' := fun r s => Over (st.set ig (gsC (gtickL gs))) s 2 r (evs gs).length ((evs gs).flatMap encEv)) (calls_of_awp L.q82 rfl ?_) (fun r s hO => ⟨_, _, hO.frz, rfl, rfl⟩)
  have hp := h.hp
  simp only [↓Bp, Bq, Bs, ↓aop.eq_28, ↓aop.eq_30, Nat.reduceEqDiff, Nat.reduceAdd, Nat.reduceMul, Nat.reduceSub, Nat.reduceLeDiff, Nat.reduceLT, Int.reduceLT, Int.reduceLE, Int.reduceEq, Int.reduceToNat, Int.reduceAdd, Int.reduceSub, Int.reduceNeg, ↓reduceIte, reduceCtorEq, ↓C.q82_W, C.q82_B, C.q82, hp]
  refine awp_midB (fun v : AV => [(3, v)]) (fun v s => Over (st.set ig (gsC (gtickL gs))) s 2 v (evs gs).length ((evs gs).flatMap encEv)) ?_ ?_
  rotate_left
  · intro v s hO
    simp only [↓Bp, Bq, Bs, ↓aop.eq_28, ↓aop.eq_30, Nat.reduceEqDiff, Nat.reduceAdd, Nat.reduceMul, Nat.reduceSub, Nat.reduceLeDiff, Nat.reduceLT, Int.reduceLT, Int.reduceLE, Int.reduceEq, Int.reduceToNat, Int.reduceAdd, Int.reduceSub, Int.reduceNeg, ↓reduceIte, reduceCtorEq, ↓C.q82_W, C.q82_B, C.q82]
    exact hO
  refine awp_loopK (fun w : Nat × AV => [(0, .ptr p 0), (3, w.2), (12, .int .i64 gs.length), (13, .int .i64 w.1)]) (fun w s => w.1 ≤ gs.length ∧ Over (st.set ig (gsC (gtickTo gs w.1))) s 2 w.2 (evTo gs w.1).length ((evTo gs w.1).flatMap encEv)) (fun w => gs.length - w.1) (0, .nils) rfl
    ⟨Nat.zero_le _, by rw [gtickTo_zero, ASt.set_id h.hg]; exact Over.nils (ASt.le.refl _) 2⟩ ?_
  rintro ⟨i, v⟩ s ⟨hi, hO⟩
  simp only at hi hO
  by_cases hil : i < gs.length
  rotate_left
  · have hie : i = gs.length := by omega
    have hil' : ¬ (i : Int) < (gs.length : Nat) := by omega
    simp only [↓Bp, Bq, Bs, ↓aop.eq_28, ↓aop.eq_30, Nat.reduceEqDiff, Nat.reduceAdd, Nat.reduceMul, Nat.reduceSub, Nat.reduceLeDiff, Nat.reduceLT, Int.reduceLT, Int.reduceLE, Int.reduceEq, Int.reduceToNat, Int.reduceAdd, Int.reduceSub, Int.reduceNeg, ↓reduceIte, reduceCtorEq, ↓C.q82_W, C.q82_B, C.q82, hil']
    rw [hie, gtickTo_all] at hO
    exact ⟨v, rfl, hO⟩
  have hil' : (i : Int) < (gs.length : Nat) := by omega
  have hw := wsucc hil (by have := h.few; omega)
  have hz : (0:Int) ≤ (i : Int) ∧ (i : Int) < (gs.length : Nat) := by omega
  have hG := (h.set (gs' := gtickTo gs i) (gtickTo_len gs i)).le hO.2.1
  have hps := hG.hp
  rw [gtickTo_len] at hps
  have htl : i < (gtickTo gs i).length := by rw [gtickTo_len]; exact hil
  simp only [↓Bp, Bq, Bs, ↓aop.eq_28, ↓aop.eq_30, Nat.reduceEqDiff, Nat.reduceAdd, Nat.reduceMul, Nat.reduceSub, Nat.reduceLeDiff, Nat.reduceLT, Int.reduceLT, Int.reduceLE, Int.reduceEq, Int.reduceToNat, Int.reduceAdd, Int.reduceSub, Int.reduceNeg, ↓reduceIte, reduceCtorEq, ↓C.q82_W, C.q82_B, C.q82, hil', hps, hz, Int.toNat_natCast]
  refine (dtick_spec htl hG.hg (by rw [gtickTo_at hil]; exact hl _ (List.getElem_mem hil))).mono ?_
  rintro r s2 ⟨rfl, rfl⟩
  rw [gtickTo_at hil, gtickTo_set hil]
  have hbm : (st.set ig (gsC (gtickTo gs i))).h ig ≠ none := by rw [ASt.set_h, if_pos rfl, h.hg]; simp
  have hOm : Over (st.set ig (gsC (gtickTo gs (i + 1)))) (s.set ig (gsC (gtickTo gs (i + 1)))) 2 v (evTo gs i).length ((evTo gs i).flatMap encEv) := by
    have := hO.rebase (base' := (st.set ig (gsC (gtickTo gs i))).set ig (gsC (gtickTo gs (i + 1)))) (st' := s.set ig (gsC (gtickTo gs (i + 1)))) (keep_set hbm) (hO.2.1.set _ _)
    rw [ASt.set_set] at this
    exact this
  generalize s.set ig (gsC (gtickTo gs (i + 1))) = s3 at hOm
  have hlen := evTo_len gs i
  have hfew := h.few
  by_cases he : gev gs[i] = 0
  · have hT := eq_true he
    simp only [↓Bp, Bq, Bs, ↓aop.eq_28, ↓aop.eq_30, Nat.reduceEqDiff, Nat.reduceAdd, Nat.reduceMul, Nat.reduceSub, Nat.reduceLeDiff, Nat.reduceLT, Int.reduceLT, Int.reduceLE, Int.reduceEq, Int.reduceToNat, Int.reduceAdd, Int.reduceSub, Int.reduceNeg, ↓reduceIte, reduceCtorEq, ↓C.q82_W, C.q82_B, C.q82, hT, hw]
    refine ⟨(i + 1, v), rfl, ⟨hil, ?_⟩, by simp only; omega⟩
    simp only
    rw [evTo_succ hil, if_neg (by simp [he])]
    exact hOm
  · have hT := eq_false he
    simp only [↓Bp, Bq, Bs, Nat.reduceEqDiff, Nat.reduceAdd, Nat.reduceMul, Nat.reduceSub, Nat.reduceLeDiff, Nat.reduceLT, Int.reduceLT, Int.reduceLE, Int.reduceEq, Int.reduceToNat, Int.reduceAdd, Int.reduceSub, Int.reduceNeg, ↓reduceIte, reduceCtorEq, ↓C.q82_W, C.q82_B, C.q82, hT]
    refine aop_append_over hOm (by omega) (new := encEv (gev gs[i], i)) rfl rfl rfl (fun _ => rfl) (fun _ => rfl) fun v1 v2 t3 hP => ?_
    simp only [↓Bp, Bq, Bs, ↓aop.eq_28, ↓aop.eq_30, Nat.reduceEqDiff, Nat.reduceAdd, Nat.reduceMul, Nat.reduceSub, Nat.reduceLeDiff, Nat.reduceLT, Int.reduceLT, Int.reduceLE, Int.reduceEq, Int.reduceToNat, Int.reduceAdd, Int.reduceSub, Int.reduceNeg, ↓reduceIte, reduceCtorEq, ↓C.q82_W, C.q82_B, C.q82, hw]
    refine ⟨(i + 1, v2), rfl, ⟨hil, ?_⟩, by simp only; omega⟩
    simp only
    rw [evTo_succ hil, if_pos he, List.length_append, List.flatMap_append]
    simpa using hP

def gfresh (ds : List Dom) : List Gd := ds.map fun d => ⟨d.above, d.delay, d.ret, 48, 0, false, false⟩
theorem gfresh_len (ds : List Dom) : (gfresh ds).length = ds.length := by simp [gfresh]
theorem RepL.flat {st : ASt} {vs cs : List AV} {L : List Nat} (h : RepL st vs cs L) (hc : cs.all AV.scalar = true) : vs = cs := by
  induction h with
  | nil => rfl
  | one h t ih =>
    simp only [List.all_cons, Bool.and_eq_true] at hc
    rw [ih hc.2]
  | nils sz t ih => simp [AV.scalar] at hc
  | sl h r h1 h2 hd t ih1 ih2 => simp [AV.scalar] at hc
theorem RepL.slice1 {st : ASt} {vs : List AV} {sz n : Nat} {ds : List AV} {L : List Nat} (h : RepL st vs [.isl sz ds n] L) :
    (vs = [.nils] ∧ n = 0 ∧ ds = []) ∨ ∃ id ws L1, vs = [.sl sz id 0 n] ∧ st.h id = some (.cells ws) ∧ RepL st ws ds L1 ∧ id ∉ L1 ∧ L = id :: (L1 ++ []) := by
  cases h with
  | one h t => cases h
  | nils _ t => cases t; exact .inl ⟨rfl, rfl, rfl⟩
  | sl h r h1 h2 hd t => cases t; exact .inr ⟨_, _, _, rfl, h, r, h1, rfl⟩
theorem gcells_scalar (gs : List Gd) : (gs.flatMap Gd.cells).all AV.scalar = true := by
  rw [List.all_eq_true]
  intro x hx
  obtain ⟨y, _, hy⟩ := List.mem_flatMap.mp hx
  simp only [Gd.cells, List.mem_cons, List.mem_nil_iff, or_false] at hy
  rcases hy with rfl | rfl | rfl | rfl | rfl | rfl | rfl <;> rfl
/-- What a new grid is. -/
def GridQ (st : ASt) (s : Soc) (r : AV) (s' : ASt) : Prop := ∃ p ig, r = .tup [.ptr p 0, .int .i64 0] ∧ GridAt s' p ig (gfresh s.doms) ∧ st.h p = none ∧ st.h ig = none ∧ st.le s'
theorem gnew_spec {st : ASt} {s : Soc} (hs : s.fine) (he : confErr s = 0) (hn : s.doms.length ≠ 0) (hn2 : s.doms.length ≤ 6) : ACalls Try.prog F.q85 [.agg s.cells] st (GridQ st s) := by
  refine calls_of_awp L.q85 rfl ?_
  have l4 : s.cells.length = 4 := rfl
  have e4 : AV.agg (List.take 4 s.cells) = .agg s.cells := rfl
  simp only [↓Bp, Bq, Bs, ↓aop.eq_28, ↓aop.eq_30, Nat.reduceEqDiff, Nat.reduceAdd, Nat.reduceMul, Nat.reduceSub, Nat.reduceLeDiff, Nat.reduceLT, Int.reduceLT, Int.reduceLE, Int.reduceEq, Int.reduceToNat, Int.reduceAdd, Int.reduceSub, Int.reduceNeg, ↓reduceIte, reduceCtorEq, ↓C.q85_r0_w, C.q85_r0_b, C.q85]
  rintro ib hib
  have hle0 := ASt.le.new st ib (.cells s.cells)
  have hb := ASt.new_self (.cells s.cells) hib
  generalize st.new ib (.cells s.cells) = s0 at hle0 hb
  simp only [↓Bp, Bq, Bs, ↓aop.eq_28, ↓aop.eq_30, Nat.reduceEqDiff, Nat.reduceAdd, Nat.reduceMul, Nat.reduceSub, Nat.reduceLeDiff, Nat.reduceLT, Int.reduceLT, Int.reduceLE, Int.reduceEq, Int.reduceToNat, Int.reduceAdd, Int.reduceSub, Int.reduceNeg, ↓reduceIte, reduceCtorEq, ↓C.q85_W, C.q85_B, C.q85, hb, l4, e4]
  refine (conf_check_spec hs).mono ?_
  rintro r s1 ⟨rfl, rfl⟩
  rw [he]
  rw [Soc.cells, Soc.domV] at hb
  simp only [↓Bp, Bq, Bs, ↓aop.eq_28, ↓aop.eq_30, Nat.reduceEqDiff, Nat.reduceAdd, Nat.reduceMul, Nat.reduceSub, Nat.reduceLeDiff, Nat.reduceLT, Int.reduceLT, Int.reduceLE, Int.reduceEq, Int.reduceToNat, Int.reduceAdd, Int.reduceSub, Int.reduceNeg, ↓reduceIte, reduceCtorEq, ↓C.q85_r4_w, C.q85_r4_b, ↓C.q85_c11_w, ↓C.q85_r3_w, C.q85_r3_b, ↓C.q85_c12_w, ↓C.q85_c13_w, ↓C.q85_r2_w, C.q85_r2_b, ↓C.q85_c14_w, ↓C.q85_r1_w, C.q85_r1_b, ↓C.q85_c15_w, ↓C.q85_r0_w, C.q85_r0_b, C.q85]
  rintro q hq
  have hX : Box s1 (s1.new q (.cells [.nils])) q [.isl 7 [] 0] := Box.start hq (.nils 7 .nil)
  generalize s1.new q (.cells [.nils]) = s2 at hX
  have hb2 := hX.base _ _ hb
  simp only [↓Bp, Bq, Bs, ↓aop.eq_28, ↓aop.eq_30, Nat.reduceEqDiff, Nat.reduceAdd, Nat.reduceMul, Nat.reduceSub, Nat.reduceLeDiff, Nat.reduceLT, Int.reduceLT, Int.reduceLE, Int.reduceEq, Int.reduceToNat, Int.reduceAdd, Int.reduceSub, Int.reduceNeg, ↓reduceIte, reduceCtorEq, ↓C.q85_W, C.q85_B, C.q85, hb2]
  refine awp_midB (fun _ : Unit => [(5, .ptr q 0)]) (fun _ t => Box s1 t q [.isl 7 ((gfresh s.doms).flatMap Gd.cells) s.doms.length]) ?_ ?_
  · refine awp_loopK (fun i : Nat => [(5, .ptr q 0), (16, .isl 3 (s.doms.flatMap Dom.cells) s.doms.length), (17, .int .i64 s.doms.length), (18, .int .i64 i)]) (fun i t => i ≤ s.doms.length ∧ Box s1 t q [.isl 7 ((gfresh (s.doms.take i)).flatMap Gd.cells) i]) (fun i => s.doms.length - i) 0 rfl ⟨Nat.zero_le _, hX⟩ ?_
    clear hX
    rintro i t ⟨hi, hX⟩
    by_cases hil : i < s.doms.length
    rotate_left
    · have hil' : ¬ (i : Int) < (s.doms.length : Nat) := by omega
      simp only [↓Bp, Bq, Bs, ↓aop.eq_28, ↓aop.eq_30, Nat.reduceEqDiff, Nat.reduceAdd, Nat.reduceMul, Nat.reduceSub, Nat.reduceLeDiff, Nat.reduceLT, Int.reduceLT, Int.reduceLE, Int.reduceEq, Int.reduceToNat, Int.reduceAdd, Int.reduceSub, Int.reduceNeg, ↓reduceIte, reduceCtorEq, ↓C.q85_W, C.q85_B, C.q85, hil']
      rw [show i = s.doms.length by omega, List.take_length] at hX
      exact ⟨(), hX⟩
    have hil' : (i : Int) < (s.doms.length : Nat) := by omega
    have hz : (0:Int) ≤ (i : Int) ∧ (i : Int) < (s.doms.length : Nat) := by omega
    have hw := wsucc hil (by omega)
    have hf := flatMap_fits (f := Dom.cells) (k := 3) (fun _ => rfl) hil
    have ht := flatMap_at (f := Dom.cells) (k := 3) (fun _ => rfl) hil
    obtain ⟨d, hd⟩ : ∃ d, d = s.doms[i] := ⟨_, rfl⟩
    rw [← hd] at ht
    have l3 : d.cells.length = 3 := rfl
    have f3 : allLeaf d.cells = true := rfl
    simp only [↓Bp, Bq, Bs, ↓aop.eq_28, ↓aop.eq_30, Nat.reduceEqDiff, Nat.reduceAdd, Nat.reduceMul, Nat.reduceSub, Nat.reduceLeDiff, Nat.reduceLT, Int.reduceLT, Int.reduceLE, Int.reduceEq, Int.reduceToNat, Int.reduceAdd, Int.reduceSub, Int.reduceNeg, ↓reduceIte, reduceCtorEq, ↓C.q85_r10_w, C.q85_r10_b, ↓C.q85_c1_w, ↓C.q85_r9_w, C.q85_r9_b, ↓C.q85_c2_w, ↓C.q85_r7_w, C.q85_r7_b, ↓C.q85_b4_w, ↓C.q85_c5_w, ↓C.q85_c6_w, ↓C.q85_r6_w, C.q85_r6_b, ↓C.q85_b8_w, ↓C.q85_c9_w, ↓C.q85_r5_w, C.q85_r5_b, ↓C.q85_c10_w, ↓C.q85_r4_w, C.q85_r4_b, ↓C.q85_c11_w, ↓C.q85_r3_w, C.q85_r3_b, ↓C.q85_c12_w, ↓C.q85_c13_w, ↓C.q85_r2_w, C.q85_r2_b, ↓C.q85_c14_w, ↓C.q85_r1_w, C.q85_r1_b, ↓C.q85_c15_w, ↓C.q85_r0_w, C.q85_r0_b, C.q85, hil', hz, Int.toNat_natCast, hf, ht]
    rintro id hid
    simp only [↓Bp, Bq, Bs, ↓aop.eq_28, ↓aop.eq_30, Nat.reduceEqDiff, Nat.reduceAdd, Nat.reduceMul, Nat.reduceSub, Nat.reduceLeDiff, Nat.reduceLT, Int.reduceLT, Int.reduceLE, Int.reduceEq, Int.reduceToNat, Int.reduceAdd, Int.reduceSub, Int.reduceNeg, ↓reduceIte, reduceCtorEq, ↓C.q85_r10_w, C.q85_r10_b, ↓C.q85_c1_w, ↓C.q85_r9_w, C.q85_r9_b, ↓C.q85_c2_w, ↓C.q85_r7_w, C.q85_r7_b, ↓C.q85_b4_w, ↓C.q85_c5_w, ↓C.q85_c6_w, ↓C.q85_r6_w, C.q85_r6_b, ↓C.q85_b8_w, ↓C.q85_c9_w, ↓C.q85_r5_w, C.q85_r5_b, ↓C.q85_c10_w, ↓C.q85_r4_w, C.q85_r4_b, ↓C.q85_c11_w, ↓C.q85_r3_w, C.q85_r3_b, ↓C.q85_c12_w, ↓C.q85_c13_w, ↓C.q85_r2_w, C.q85_r2_b, ↓C.q85_c14_w, ↓C.q85_r1_w, C.q85_r1_b, ↓C.q85_c15_w, ↓C.q85_r0_w, C.q85_r0_b, C.q85, hid, l3, f3]
    rw [show putN [AV.int .i64 0, AV.int .i64 0, AV.bool false] 0 d.cells = d.cells from putN_all rfl, ASt.new_set hid]
    have hd2 := ASt.new_self (.cells d.cells) hid
    have hX2 := hX.grow (ASt.le.new t id (.cells d.cells))
    generalize t.new id (.cells d.cells) = t2 at hd2 hX2
    rw [Dom.cells] at hd2
    obtain ⟨xs, K, hXL⟩ := hX2
    have hxl : 1 = xs.length := hXL.2.1.len
    have hgl : (gfresh (s.doms.take i)).length = i := by rw [gfresh_len]; simp; omega
    obtain ⟨g, hg⟩ : ∃ g : Gd, g = ⟨d.above, d.delay, d.ret, 48, 0, false, false⟩ := ⟨_, rfl⟩
    obtain ⟨v, v1, v2, hap⟩ := BoxL.append (b := q) (o := 0) (new := g.cells) (newc := g.cells) (Ln := []) hXL rfl (by rw [flatMap_len Gd.cells_len, hgl]) (by omega) (RepL.scalars rfl _) rfl (by simp) (by simp) (by simp)
    have h0l : 0 < xs.length := by omega
    have hgc : g.cells = [.int .i64 d.above, .int .i64 d.delay, .bool d.ret, .int .u8 48, .int .i64 0, .bool false, .bool false] := by rw [hg]; rfl
    simp only [↓Bp, Bq, Bs, Nat.reduceEqDiff, Nat.reduceAdd, Nat.reduceMul, Nat.reduceSub, Nat.reduceLeDiff, Nat.reduceLT, Int.reduceLT, Int.reduceLE, Int.reduceEq, Int.reduceToNat, Int.reduceAdd, Int.reduceSub, Int.reduceNeg, ↓reduceIte, reduceCtorEq, ↓C.q85_W, C.q85_B, C.q85, hXL.1, v1, hd2]
    refine hap (by rw [hgc]; rfl) (fun _ => rfl) (fun _ => rfl) fun v1' j2 t3 hs2 hBx => ?_
    simp only [↓Bp, Bq, Bs, ↓aop.eq_28, ↓aop.eq_30, Nat.reduceEqDiff, Nat.reduceAdd, Nat.reduceMul, Nat.reduceSub, Nat.reduceLeDiff, Nat.reduceLT, Int.reduceLT, Int.reduceLE, Int.reduceEq, Int.reduceToNat, Int.reduceAdd, Int.reduceSub, Int.reduceNeg, ↓reduceIte, reduceCtorEq, ↓C.q85_W, C.q85_B, C.q85, hs2, h0l, hw]
    refine ⟨i + 1, rfl, ⟨hil, ?_⟩, by omega⟩
    have e3 : (gfresh (s.doms.take (i + 1))).flatMap Gd.cells = (gfresh (s.doms.take i)).flatMap Gd.cells ++ g.cells := by
      rw [List.take_succ_eq_append_getElem hil, gfresh, List.map_append, List.flatMap_append, ← hd, hg]
      simp only [List.map_cons, List.map_nil, List.flatMap_cons, List.flatMap_nil, List.append_nil, gfresh]
    rw [e3]; exact hBx
  · rintro - t ⟨vs, L, hv, hR, hqL, hfr, hqn, hl5⟩
    simp only [↓Bp, Bq, Bs, ↓aop.eq_28, ↓aop.eq_30, Nat.reduceEqDiff, Nat.reduceAdd, Nat.reduceMul, Nat.reduceSub, Nat.reduceLeDiff, Nat.reduceLT, Int.reduceLT, Int.reduceLE, Int.reduceEq, Int.reduceToNat, Int.reduceAdd, Int.reduceSub, Int.reduceNeg, ↓reduceIte, reduceCtorEq, ↓C.q85_W, C.q85_B, C.q85]
    rcases hR.slice1 with ⟨rfl, h0, _⟩ | ⟨ig, ws, L1, rfl, hws, hr, hn1, rfl⟩
    · exact absurd h0 hn
    have := hr.flat (gcells_scalar _)
    subst this
    refine ⟨q, ig, rfl, ⟨by rw [gfresh_len]; exact hv, hws, fun e => hqL (by rw [e]; simp), by rw [gfresh_len]; omega⟩, fresh_of_le hle0 hqn, fresh_of_le hle0 (hfr ig (by simp)), hle0.trans hl5⟩
end Go.Proofs.Ytgfpnfnjnakoaaa.Cn
