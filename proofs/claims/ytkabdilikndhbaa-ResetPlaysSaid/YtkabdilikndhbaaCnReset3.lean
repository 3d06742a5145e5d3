/- Reset lines: the chips and the example of the statements. -/
import Derived.Test.YtkabdilikndhbaaCnReset2
import Derived.Test.YtkabdilikndhbaaCnSame
set_option linter.unusedSimpArgs false
set_option linter.unusedVariables false
namespace Go.Proofs.Ytkabdilikndhbaa.Cn
open Go Go.Proofs

theorem same_view {st : ASt} {x y : AV} {a b : List Int} (hx : SView st x (row a)) (hy : SView st y (row b)) (hl : a.length ≤ 9223372036854775807) : ACalls Try.prog F.catnaplaw8_same [x, y] st fun r s => r = .bool (decide (a = b)) ∧ s = st :=
  ACalls.borrow (Q := fun r => r = .bool (decide (a = b))) ((same_spec hl).mono fun _ _ h => h.1) (Views.cons hx (Views.cons hy (Views.nil st))) fun v h => by rw [h]; exact .bool _
theorem view_row {st : ASt} (a : List Int) : SView st (row a) (row a) := SView.pure (row_pure a)
theorem view_one {st : ASt} {i : Nat} {x : Int} (h : st.h i = some (.cells [.int .i64 x])) : SView st (.sl 1 i 0 1) (row [x]) :=
  RepL.view (vs := [.sl 1 i 0 1]) (cs := [row [x]]) (i := 0) (.sl (L1 := []) (L2 := []) h (RepL.scalars rfl _) (by simp) (by simp) (by simp) .nil) (by simp) (by simp)

/-- A chip of reset lines alone. -/
def rchip (R : List Int) : Soc := ⟨[], [], R, []⟩
def rOf (l : List Int) : List Int := (l.take 6).map fun x => ((pickI x 21 : Nat) : Int)
theorem rOf_len (l : List Int) : (rOf l).length ≤ 6 := by simp [rOf]; omega
theorem rOf_ok (l : List Int) : ∀ x ∈ rOf l, 0 ≤ x ∧ x ≤ 20 := by
  intro x hx
  obtain ⟨y, _, rfl⟩ := List.mem_map.mp hx
  have := pickI_lt y (n := 21) (by omega)
  omega
theorem rchip_fine (R : List Int) : (rchip R).fine := fun c hc => by cases hc
theorem grErr_nil : grErr [] = 0 := by
  have : (ord []).length = 0 := by
    have := (ord_topo []).len
    simpa using this
  unfold grErr
  have hok : Gr.ok [] := fun r hr => by cases hr
  rw [if_neg (by simp), if_pos hok, if_neg (by simp)]
theorem rchip_right {R : List Int} (h : R.length ≤ 6) (hR : ∀ x ∈ R, 0 ≤ x ∧ x ≤ 20) : confErr (rchip R) = 0 := firstE_zero.mpr fun i hi => by
  match i, hi with
  | 0, _ => exact fullE_zero.mpr ⟨⟨by simp [rchip], by simp [rchip], h, by simp [rchip]⟩, by simp [rchip]⟩
  | 1, _ => rfl
  | 2, _ => show cycE [] = 0; rw [cycE, grErr_nil]; rfl
  | 3, _ => rfl
  | 4, _ => show cycE [] = 0; rw [cycE, grErr_nil]; rfl
  | 5, _ => exact firstE_zero.mpr fun i hi => by rw [ofAll_at hi, rstErr, if_pos (hR _ (List.getElem_mem hi))]
  | 6, _ => rfl
  | 7, _ => show cycE [] = 0; rw [cycE, grErr_nil]; rfl

theorem shown_spec (st : ASt) : ACalls Try.prog F.catnaplaw8_shown [] st fun r s => r = .bool true ∧ s = st := by
  refine ACalls.gc (Q' := fun r s => r = .bool true ∧ st.le s) (calls_of_awp L.catnaplaw8_shown rfl ?_) (fun v s ⟨h, hl⟩ => ⟨st, hl, h, rfl⟩)
  simp only [↓Bp, Bq, Bs, ↓aop.eq_28, ↓aop.eq_30, Nat.reduceEqDiff, Nat.reduceAdd, Nat.reduceMul, Nat.reduceSub, Nat.reduceLeDiff, Nat.reduceLT, Int.reduceLT, Int.reduceLE, Int.reduceEq, Int.reduceToNat, Int.reduceAdd, Int.reduceSub, Int.reduceNeg, ↓reduceIte, reduceCtorEq, ↓C.catnaplaw8_shown_W, C.catnaplaw8_shown_B, C.catnaplaw8_shown]
  rintro i hi
  have hR : RepL (st.new i (.cells [.int .i64 3])) [.nils, .nils, .sl 1 i 0 1, .nils] (rchip [3]).cells [i] :=
    .nils 6 (.nils 3 (.sl (L1 := []) (L2 := []) (ASt.new_self _ hi) (RepL.scalars rfl _) (by simp) (by simp) (by simp) (.nils 6 .nil)))
  have hle : st.le ((st.new i (.cells [.int .i64 3])).killL [i]) := (ASt.le.new _ _ _).killL (by simpa using hi)
  refine ACalls.frzAgg hR ((new_spec (rchip_fine _) (by simp [rchip])).mono ?_)
  generalize (st.new i (.cells [.int .i64 3])).killL [i] = s1 at hle
  have he : confErr (rchip [3]) = 0 := rchip_right (by simp) (by simp)
  rintro r s2 (⟨h, _⟩ | ⟨_, p, m, rfl, hL, hp, hm, hle2⟩)
  · exact absurd he h
  have hle := hle.trans hle2
  rw [show freshL (rchip [3]).rsts = [⟨3, 0, true, false⟩] from rfl] at hL
  simp only [↓Bp, Bq, Bs, ↓aop.eq_28, ↓aop.eq_30, Nat.reduceEqDiff, Nat.reduceAdd, Nat.reduceMul, Nat.reduceSub, Nat.reduceLeDiff, Nat.reduceLT, Int.reduceLT, Int.reduceLE, Int.reduceEq, Int.reduceToNat, Int.reduceAdd, Int.reduceSub, Int.reduceNeg, ↓reduceIte, reduceCtorEq, ↓C.catnaplaw8_shown_W, C.catnaplaw8_shown_B, C.catnaplaw8_shown]
  refine (held_spec hL 0).mono ?_
  rintro r s3 ⟨rfl, rfl⟩
  have e1 : (!decide (isLn [(⟨3, 0, true, false⟩ : Ln)] 0) || (lnOf [(⟨3, 0, true, false⟩ : Ln)] 0).held) = true := by decide
  simp only [↓Bp, Bq, Bs, ↓aop.eq_28, ↓aop.eq_30, Nat.reduceEqDiff, Nat.reduceAdd, Nat.reduceMul, Nat.reduceSub, Nat.reduceLeDiff, Nat.reduceLT, Int.reduceLT, Int.reduceLE, Int.reduceEq, Int.reduceToNat, Int.reduceAdd, Int.reduceSub, Int.reduceNeg, ↓reduceIte, reduceCtorEq, ↓C.catnaplaw8_shown_W, C.catnaplaw8_shown_B, C.catnaplaw8_shown, e1]
  refine (release_spec hL 0).mono ?_
  rintro r s4 ⟨rfl, rfl⟩
  have hL2 := hL.set (releaseL [(⟨3, 0, true, false⟩ : Ln)] 0)
  have e2 : releaseE [(⟨3, 0, true, false⟩ : Ln)] 0 = 0 := by decide
  have e3 : releaseL [(⟨3, 0, true, false⟩ : Ln)] 0 = [⟨3, 0, true, true⟩] := rfl
  rw [e3] at hL2 ⊢
  have hms : st.h m = none := fresh_of_le ‹st.le s1› hm
  have hset : ∀ {t : ASt} (o : AObj), st.le t → st.le (t.set m o) := fun {t} o ht j x hj => by
    rw [ASt.set_h, if_neg (by rintro rfl; rw [hms] at hj; cases hj)]; exact ht _ _ hj
  have hle3 := hset (lnsE [⟨3, 0, true, true⟩]) hle
  generalize s3.set m (lnsE [⟨3, 0, true, true⟩]) = s4 at hL2 hle3
  simp only [↓Bp, Bq, Bs, ↓aop.eq_28, ↓aop.eq_30, Nat.reduceEqDiff, Nat.reduceAdd, Nat.reduceMul, Nat.reduceSub, Nat.reduceLeDiff, Nat.reduceLT, Int.reduceLT, Int.reduceLE, Int.reduceEq, Int.reduceToNat, Int.reduceAdd, Int.reduceSub, Int.reduceNeg, ↓reduceIte, reduceCtorEq, ↓C.catnaplaw8_shown_W, C.catnaplaw8_shown_B, C.catnaplaw8_shown, e2]
  refine (tick_spec hL2 (by simp) (by simp)).mono ?_
  rintro r s5 ⟨rfl, rfl⟩
  have hL3 := hL2.set (tickL [⟨3, 0, true, true⟩])
  have hle4 := hset (lnsE (tickL [⟨3, 0, true, true⟩])) hle3
  have e4 : toldL [(⟨3, 0, true, true⟩ : Ln)] = [0] := by decide
  have e5 : tickL [(⟨3, 0, true, true⟩ : Ln)] = [⟨3, 0, false, false⟩] := rfl
  rw [e5] at hL3 hle4 ⊢
  rw [e4]
  generalize s4.set m (lnsE [⟨3, 0, false, false⟩]) = s5 at hL3 hle4
  simp only [↓Bp, Bq, Bs, ↓aop.eq_28, ↓aop.eq_30, Nat.reduceEqDiff, Nat.reduceAdd, Nat.reduceMul, Nat.reduceSub, Nat.reduceLeDiff, Nat.reduceLT, Int.reduceLT, Int.reduceLE, Int.reduceEq, Int.reduceToNat, Int.reduceAdd, Int.reduceSub, Int.reduceNeg, ↓reduceIte, reduceCtorEq, ↓C.catnaplaw8_shown_W, C.catnaplaw8_shown_B, C.catnaplaw8_shown]
  rintro ix hix
  have hL4 := hL3.le (ASt.le.new s5 ix (.cells [.int .i64 0]))
  have hle5 := hle4.trans (ASt.le.new s5 ix (.cells [.int .i64 0]))
  have hxx := ASt.new_self (.cells [.int .i64 0]) hix
  generalize s5.new ix (.cells [.int .i64 0]) = s6 at hL4 hle5 hxx
  refine (same_view (view_row _) (view_one hxx) (by simp [nats])).mono ?_
  rintro r s7 ⟨rfl, rfl⟩
  have e6 : decide (nats [0] = [0]) = true := by decide
  simp only [↓Bp, Bq, Bs, ↓aop.eq_28, ↓aop.eq_30, Nat.reduceEqDiff, Nat.reduceAdd, Nat.reduceMul, Nat.reduceSub, Nat.reduceLeDiff, Nat.reduceLT, Int.reduceLT, Int.reduceLE, Int.reduceEq, Int.reduceToNat, Int.reduceAdd, Int.reduceSub, Int.reduceNeg, ↓reduceIte, reduceCtorEq, ↓C.catnaplaw8_shown_W, C.catnaplaw8_shown_B, C.catnaplaw8_shown, e6]
  refine (held_spec hL4 0).mono ?_
  rintro r s8 ⟨rfl, rfl⟩
  have e7 : (!decide (isLn [(⟨3, 0, false, false⟩ : Ln)] 0) || (lnOf [(⟨3, 0, false, false⟩ : Ln)] 0).held) = false := by decide
  simp only [↓Bp, Bq, Bs, ↓aop.eq_28, ↓aop.eq_30, Nat.reduceEqDiff, Nat.reduceAdd, Nat.reduceMul, Nat.reduceSub, Nat.reduceLeDiff, Nat.reduceLT, Int.reduceLT, Int.reduceLE, Int.reduceEq, Int.reduceToNat, Int.reduceAdd, Int.reduceSub, Int.reduceNeg, ↓reduceIte, reduceCtorEq, ↓C.catnaplaw8_shown_W, C.catnaplaw8_shown_B, C.catnaplaw8_shown, e7]
  exact hle5

theorem rchip_spec {st : ASt} {l : List Int} (hl : ∀ x ∈ l, -9223372036854775808 ≤ x ∧ x ≤ 9223372036854775807) (hll : l.length ≤ 9223372036854775807) :
    ACalls Try.prog F.catnaplaw8_chip [row l] st fun r s => r = .agg (rchip (rOf l)).cells ∧ s = st := by
  refine ACalls.ghost (Q' := fun r s => ∃ vs L, r = .agg vs ∧ RepL s vs (rchip (rOf l)).cells L ∧ (∀ j ∈ L, st.h j = none) ∧ st.le s) (calls_of_awp L.catnaplaw8_chip rfl ?_) (fun r s ⟨vs, L, h1, h2, h3, h4⟩ => ⟨.agg (rchip (rOf l)).cells, st, by rw [h1]; exact h2.ghostAgg.trans (Ghost.sub (h4.killL h3)), rfl, rfl⟩)
  simp only [↓Bp, Bq, Bs, ↓aop.eq_28, ↓aop.eq_30, Nat.reduceEqDiff, Nat.reduceAdd, Nat.reduceMul, Nat.reduceSub, Nat.reduceLeDiff, Nat.reduceLT, Int.reduceLT, Int.reduceLE, Int.reduceEq, Int.reduceToNat, Int.reduceAdd, Int.reduceSub, Int.reduceNeg, ↓reduceIte, reduceCtorEq, ↓C.catnaplaw8_chip_r0_w, C.catnaplaw8_chip_r0_b, C.catnaplaw8_chip]
  rintro i2 hi2
  have h2 := ASt.new_self (.cells [.nils, .nils, .nils, .nils]) hi2
  have hle := ASt.le.new st i2 (.cells [.nils, .nils, .nils, .nils])
  generalize st.new i2 (.cells [.nils, .nils, .nils, .nils]) = s0 at h2 hle
  simp only [↓Bp, Bq, Bs, ↓aop.eq_28, ↓aop.eq_30, Nat.reduceEqDiff, Nat.reduceAdd, Nat.reduceMul, Nat.reduceSub, Nat.reduceLeDiff, Nat.reduceLT, Int.reduceLT, Int.reduceLE, Int.reduceEq, Int.reduceToNat, Int.reduceAdd, Int.reduceSub, Int.reduceNeg, ↓reduceIte, reduceCtorEq, ↓C.catnaplaw8_chip_r1_w, C.catnaplaw8_chip_r1_b, ↓C.catnaplaw8_chip_c10_w, ↓C.catnaplaw8_chip_r0_w, C.catnaplaw8_chip_r0_b, C.catnaplaw8_chip]
  rintro i3 hi3
  have hX : Box s0 (s0.new i3 (.cells [.nils, .nils, .nils, .nils])) i3 (rchip []).cells := Box.start hi3 (.nils 6 (.nils 3 (.nils 1 (.nils 6 .nil))))
  generalize s0.new i3 (.cells [.nils, .nils, .nils, .nils]) = s1 at hX
  simp only [↓Bp, Bq, Bs, ↓aop.eq_28, ↓aop.eq_30, Nat.reduceEqDiff, Nat.reduceAdd, Nat.reduceMul, Nat.reduceSub, Nat.reduceLeDiff, Nat.reduceLT, Int.reduceLT, Int.reduceLE, Int.reduceEq, Int.reduceToNat, Int.reduceAdd, Int.reduceSub, Int.reduceNeg, ↓reduceIte, reduceCtorEq, ↓C.catnaplaw8_chip_W, C.catnaplaw8_chip_B, C.catnaplaw8_chip, row]
  refine awp_midB (fun _ : Unit => [(2, .ptr i2 0), (3, .ptr i3 0)]) (fun _ s => Box s0 s i3 (rchip (rOf l)).cells) ?_ ?_
  · refine awp_loopK (fun i : Nat => [(0, .isl 1 (ints l) l.length), (2, .ptr i2 0), (3, .ptr i3 0), (4, .int .i64 i)]) (fun i s => i ≤ l.length ∧ i ≤ 6 ∧ Box s0 s i3 (rchip (rOf (l.take i))).cells) (fun i => 6 - i) 0 rfl ⟨Nat.zero_le _, Nat.zero_le _, hX⟩ ?_
    clear hX
    rintro i s ⟨hi, hi6, hX⟩
    by_cases hil : i < l.length
    rotate_left
    · have hil' : ¬ (i : Int) < (l.length : Nat) := by omega
      simp only [↓Bp, Bq, Bs, ↓aop.eq_28, ↓aop.eq_30, Nat.reduceEqDiff, Nat.reduceAdd, Nat.reduceMul, Nat.reduceSub, Nat.reduceLeDiff, Nat.reduceLT, Int.reduceLT, Int.reduceLE, Int.reduceEq, Int.reduceToNat, Int.reduceAdd, Int.reduceSub, Int.reduceNeg, ↓reduceIte, reduceCtorEq, ↓C.catnaplaw8_chip_W, C.catnaplaw8_chip_B, C.catnaplaw8_chip, hil']
      rw [show i = l.length by omega, List.take_length] at hX
      exact ⟨(), hX⟩
    have hil' : (i : Int) < (l.length : Nat) := by omega
    by_cases h6 : i < 6
    rotate_left
    · have h6' : ¬ (i : Int) < 6 := by omega
      simp only [↓Bp, Bq, Bs, ↓aop.eq_28, ↓aop.eq_30, Nat.reduceEqDiff, Nat.reduceAdd, Nat.reduceMul, Nat.reduceSub, Nat.reduceLeDiff, Nat.reduceLT, Int.reduceLT, Int.reduceLE, Int.reduceEq, Int.reduceToNat, Int.reduceAdd, Int.reduceSub, Int.reduceNeg, ↓reduceIte, reduceCtorEq, ↓C.catnaplaw8_chip_W, C.catnaplaw8_chip_B, C.catnaplaw8_chip, hil', h6']
      have e : rOf (l.take i) = rOf l := by
        have : i = 6 := by omega
        subst this
        simp [rOf, List.take_take]
      rw [e] at hX
      exact ⟨(), hX⟩
    have h6' : (i : Int) < 6 := by omega
    have hz : (0:Int) ≤ (i : Int) ∧ (i : Int) < (l.length : Nat) := by omega
    have hw := wsucc hil hll
    obtain ⟨xs, K, hXL⟩ := hX
    have hxl : (rchip (rOf (l.take i))).cells.length = xs.length := hXL.2.1.len
    have hrl : (rOf (l.take i)).length = i := by simp [rOf]; omega
    obtain ⟨v, v1, v2, hap⟩ := BoxL.append (b := i3) (o := 2) (new := [.int .i64 ((pickI l[i] 21 : Nat) : Int)]) (newc := [.int .i64 ((pickI l[i] 21 : Nat) : Int)]) (Ln := []) hXL rfl (flatMap_len rstCells_len _) (by show (rOf (l.take i)).length + 1 ≤ _; omega) (RepL.scalars rfl _) rfl (by simp) (by simp) (by simp)
    have h2l : 2 < xs.length := by rw [← hxl]; exact (by decide : 2 < 4)
    simp only [↓Bp, Bq, Bs, ↓aop.eq_28, ↓aop.eq_30, Nat.reduceEqDiff, Nat.reduceAdd, Nat.reduceMul, Nat.reduceSub, Nat.reduceLeDiff, Nat.reduceLT, Int.reduceLT, Int.reduceLE, Int.reduceEq, Int.reduceToNat, Int.reduceAdd, Int.reduceSub, Int.reduceNeg, ↓reduceIte, reduceCtorEq, ↓C.catnaplaw8_chip_W, C.catnaplaw8_chip_B, C.catnaplaw8_chip, hil', h6', hXL.1, v1, hz, Int.toNat_natCast, Nat.mul_one, ints_get hil]
    refine (pick_spec (hl _ (List.getElem_mem hil)) (n := 21) (by omega)).mono ?_
    rintro r s2 ⟨rfl, rfl⟩
    simp only [↓Bp, Bq, Bs, Nat.reduceEqDiff, Nat.reduceAdd, Nat.reduceMul, Nat.reduceSub, Nat.reduceLeDiff, Nat.reduceLT, Int.reduceLT, Int.reduceLE, Int.reduceEq, Int.reduceToNat, Int.reduceAdd, Int.reduceSub, Int.reduceNeg, ↓reduceIte, reduceCtorEq, ↓C.catnaplaw8_chip_r6_w, C.catnaplaw8_chip_r6_b, ↓C.catnaplaw8_chip_c1_w, ↓C.catnaplaw8_chip_r5_w, C.catnaplaw8_chip_r5_b, ↓C.catnaplaw8_chip_b3_w, ↓C.catnaplaw8_chip_c4_w, ↓C.catnaplaw8_chip_c5_w, ↓C.catnaplaw8_chip_r3_w, C.catnaplaw8_chip_r3_b, ↓C.catnaplaw8_chip_b7_w, ↓C.catnaplaw8_chip_c8_w, ↓C.catnaplaw8_chip_r2_w, C.catnaplaw8_chip_r2_b, ↓C.catnaplaw8_chip_c9_w, ↓C.catnaplaw8_chip_r1_w, C.catnaplaw8_chip_r1_b, ↓C.catnaplaw8_chip_c10_w, ↓C.catnaplaw8_chip_r0_w, C.catnaplaw8_chip_r0_b, C.catnaplaw8_chip, hXL.1, v1]
    refine hap (aput_one rfl rfl) (fun _ => rfl) (fun _ => rfl) fun v1' j2 t2 hs2 hBx => ?_
    simp only [↓Bp, Bq, Bs, ↓aop.eq_28, ↓aop.eq_30, Nat.reduceEqDiff, Nat.reduceAdd, Nat.reduceMul, Nat.reduceSub, Nat.reduceLeDiff, Nat.reduceLT, Int.reduceLT, Int.reduceLE, Int.reduceEq, Int.reduceToNat, Int.reduceAdd, Int.reduceSub, Int.reduceNeg, ↓reduceIte, reduceCtorEq, ↓C.catnaplaw8_chip_W, C.catnaplaw8_chip_B, C.catnaplaw8_chip, hs2, h2l, hw]
    refine ⟨i + 1, rfl, ⟨hil, h6, ?_⟩, by omega⟩
    have e : (rchip (rOf (l.take (i + 1)))).cells = ((rchip (rOf (l.take i))).cells.set 2 (AV.isl 1 (List.flatMap rstCells (rchip (rOf (l.take i))).rsts ++ [.int .i64 ((pickI l[i] 21 : Nat) : Int)]) ((rchip (rOf (l.take i))).rsts.length + 1))) := by
      have er : rOf (l.take (i + 1)) = rOf (l.take i) ++ [((pickI l[i] 21 : Nat) : Int)] := by
        simp only [rOf, List.take_take]
        rw [Nat.min_eq_right (by omega), Nat.min_eq_right (by omega), List.take_succ_eq_append_getElem hil, List.map_append]; rfl
      rw [er]
      simp [rchip, Soc.cells, Soc.clkV, Soc.domV, Soc.rstV, Soc.devV, rstCells]
    rw [e]; exact hBx
  · rintro - s ⟨vs, L, hB1, hR, hb, hf, -, hle2⟩
    have hlf := hR.leaf
    have hl4 : 4 = vs.length := hR.len
    have h2s := hle2 _ _ h2
    have hi2L : i2 ∉ L := fun hm => by have := hf i2 hm; rw [h2] at this; cases this
    match vs, hl4 with
    | [a, b, c, d], _ =>
      simp only [↓Bp, Bq, Bs, ↓aop.eq_28, ↓aop.eq_30, Nat.reduceEqDiff, Nat.reduceAdd, Nat.reduceMul, Nat.reduceSub, Nat.reduceLeDiff, Nat.reduceLT, Int.reduceLT, Int.reduceLE, Int.reduceEq, Int.reduceToNat, Int.reduceAdd, Int.reduceSub, Int.reduceNeg, ↓reduceIte, reduceCtorEq, ↓C.catnaplaw8_chip_W, C.catnaplaw8_chip_B, C.catnaplaw8_chip, hB1, h2s, hlf]
      refine ⟨_, L, rfl, hR.off fun j hj => ?_, fun j hj => fresh_of_le hle (hf j hj), fun j o ho => ?_⟩
      · rw [ASt.set_h, if_neg (by rintro rfl; exact hi2L hj)]
      · rw [ASt.set_h, if_neg (by rintro rfl; rw [hi2] at ho; cases ho)]
        exact hle2 _ _ (hle _ _ ho)
end Go.Proofs.Ytkabdilikndhbaa.Cn
