/- Clocks: ClockErrs. -/
import Derived.Test.YtkioaemhdbcfaaaCnClock7
import Derived.Test.YtkioaemhdbcfaaaCnConfAll
set_option linter.unusedSimpArgs false
set_option linter.unusedVariables false
namespace Go.Proofs.Ytkioaemhdbcfaaa.Cn
open Go Go.Proofs

abbrev shClk : Sh := .strct (.cons (.int .u8) (.cons (.slice (.int .i64)) (.cons (.int .u64) (.cons (.int .i64) (.cons (.int .i64) (.cons (.int .i64) .unit))))))
abbrev shDom : Sh := .strct (.cons (.int .i64) (.cons (.int .i64) (.cons .bool .unit)))
abbrev shRst : Sh := .strct (.cons (.int .i64) .unit)
abbrev shDev : Sh := .strct (.cons (.int .i64) (.cons (.int .i64) (.cons (.int .i64) (.cons (.int .u32) (.cons (.slice (.strct (.cons (.int .u32) (.cons .bool .unit)))) (.cons (.slice (.int .i64)) .unit))))))
abbrev shSoc : Sh := .strct (.cons (.slice shClk) (.cons (.slice shDom) (.cons (.slice shRst) (.cons (.slice shDev) .unit))))
theorem isInts {cs : List AV} (h : (Sh.slice (.int .i64)).Is cs) : ∃ l : List Int, cs = [row l] := by
  have := h.size_eq
  obtain ⟨x, rfl⟩ : ∃ x, cs = [x] := List.length_eq_one_iff.mp this
  obtain ⟨l, q1, _, _⟩ := argInts (a := x) h
  exact ⟨l, by rw [q1]; rfl⟩
theorem isClk {cs : List AV} (h : shClk.Is cs) : ∃ c : Clk, cs = c.cells ∧ True := by
  obtain ⟨_, _, rfl, ⟨a, rfl, _⟩, ⟨_, _, rfl, h1, ⟨_, _, rfl, ⟨b, rfl, _⟩, ⟨_, _, rfl, ⟨c, rfl, _⟩, ⟨_, _, rfl, ⟨d, rfl, _⟩, ⟨_, _, rfl, ⟨e, rfl, _⟩, rfl⟩⟩⟩⟩⟩⟩ := h
  obtain ⟨l, rfl⟩ := isInts h1
  exact ⟨⟨a, l, b, c, d, e⟩, rfl, trivial⟩
theorem isDom {cs : List AV} (h : shDom.Is cs) : ∃ c : Dom, cs = c.cells ∧ True := by
  obtain ⟨_, _, rfl, ⟨a, rfl, _⟩, ⟨_, _, rfl, ⟨b, rfl, _⟩, ⟨_, _, rfl, ⟨c, rfl⟩, rfl⟩⟩⟩ := h
  exact ⟨⟨a, b, c⟩, rfl, trivial⟩
theorem isRst {cs : List AV} (h : shRst.Is cs) : ∃ c : Int, cs = rstCells c ∧ True := by
  obtain ⟨_, _, rfl, ⟨a, rfl, _⟩, rfl⟩ := h
  exact ⟨a, rfl, trivial⟩
theorem isRegs {cs : List AV} (h : (Sh.slice (.strct (.cons (.int .u32) (.cons .bool .unit)))).Is cs) : ∃ l : List Reg, cs = [.isl 2 (flat l) l.length] := by
  have := h.size_eq
  obtain ⟨x, rfl⟩ : ∃ x, cs = [x] := List.length_eq_one_iff.mp this
  obtain ⟨l, q1, _, _⟩ := slice_arg encReg (fun _ => True) (fun cs hc => by
    obtain ⟨_, _, rfl, ⟨a, rfl, _⟩, ⟨_, _, rfl, ⟨b, rfl⟩, rfl⟩⟩ := hc
    exact ⟨⟨a, b⟩, rfl, trivial⟩) h
  exact ⟨l, by rw [q1]; rfl⟩
theorem isDev {cs : List AV} (h : shDev.Is cs) : ∃ c : Dev, cs = c.cells ∧ True := by
  obtain ⟨_, _, rfl, ⟨a, rfl, _⟩, ⟨_, _, rfl, ⟨b, rfl, _⟩, ⟨_, _, rfl, ⟨c, rfl, _⟩, ⟨_, _, rfl, ⟨d, rfl, _⟩, ⟨_, _, rfl, h1, ⟨_, _, rfl, h2, rfl⟩⟩⟩⟩⟩⟩ := h
  obtain ⟨l, rfl⟩ := isRegs h1
  obtain ⟨n, rfl⟩ := isInts h2
  exact ⟨⟨a, b, c, d, l, n⟩, rfl, trivial⟩
theorem argSoc {a : AV} (h : shSoc.Arg a) : ∃ s : Soc, a = .agg s.cells ∧ s.clocks.length ≤ maxLen ∧ s.doms.length ≤ maxLen ∧ s.rsts.length ≤ maxLen ∧ s.devs.length ≤ maxLen := by
  obtain ⟨cs, rfl, h⟩ := h
  obtain ⟨x, _, rfl, h1, ⟨y, _, rfl, h2, ⟨z, _, rfl, h3, ⟨w, _, rfl, h4, rfl⟩⟩⟩⟩ := h
  obtain ⟨x, rfl⟩ : ∃ t, x = [t] := List.length_eq_one_iff.mp h1.size_eq
  obtain ⟨y, rfl⟩ : ∃ t, y = [t] := List.length_eq_one_iff.mp h2.size_eq
  obtain ⟨z, rfl⟩ : ∃ t, z = [t] := List.length_eq_one_iff.mp h3.size_eq
  obtain ⟨w, rfl⟩ : ∃ t, w = [t] := List.length_eq_one_iff.mp h4.size_eq
  obtain ⟨C, rfl, _, m1⟩ := slice_arg Clk.cells (fun _ => True) (fun _ => isClk) h1
  obtain ⟨D, rfl, _, m2⟩ := slice_arg Dom.cells (fun _ => True) (fun _ => isDom) h2
  obtain ⟨R, rfl, _, m3⟩ := slice_arg rstCells (fun _ => True) (fun _ => isRst) h3
  obtain ⟨V, rfl, _, m4⟩ := slice_arg Dev.cells (fun _ => True) (fun _ => isDev) h4
  exact ⟨⟨C, D, R, V⟩, rfl, m1, m2, m3, m4⟩
theorem cnew_err {st : ASt} {S : Soc} (he : confErr S ≠ 0) : ACalls Try.prog F.clock_New [.agg S.cells] st fun r s => r = .tup [.nilp, .int .i64 (confErr S)] ∧ st.le s := by
  refine calls_of_awp L.clock_New rfl ?_
  have l4 : S.cells.length = 4 := rfl
  have e4 : AV.agg (List.take 4 S.cells) = .agg S.cells := rfl
  have T := eq_false he
  simp only [↓Bp, Bq, Bs, ↓aop.eq_28, ↓aop.eq_30, Nat.reduceEqDiff, Nat.reduceAdd, Nat.reduceMul, Nat.reduceSub, Nat.reduceLeDiff, Nat.reduceLT, Int.reduceLT, Int.reduceLE, Int.reduceEq, Int.reduceToNat, Int.reduceAdd, Int.reduceSub, Int.reduceNeg, ↓reduceIte, reduceCtorEq, ↓C.clock_New_r0_w, C.clock_New_r0_b, C.clock_New]
  rintro ib hib
  have hle0 := ASt.le.new st ib (.cells S.cells)
  have hb := ASt.new_self (.cells S.cells) hib
  generalize st.new ib (.cells S.cells) = s0 at hle0 hb
  simp only [↓Bp, Bq, Bs, ↓aop.eq_28, ↓aop.eq_30, Nat.reduceEqDiff, Nat.reduceAdd, Nat.reduceMul, Nat.reduceSub, Nat.reduceLeDiff, Nat.reduceLT, Int.reduceLT, Int.reduceLE, Int.reduceEq, Int.reduceToNat, Int.reduceAdd, Int.reduceSub, Int.reduceNeg, ↓reduceIte, reduceCtorEq, ↓C.clock_New_W, C.clock_New_B, C.clock_New, hb, l4, e4]
  refine conf_check_all.mono ?_
  rintro r s1 ⟨rfl, rfl⟩
  simp only [↓Bp, Bq, Bs, ↓aop.eq_28, ↓aop.eq_30, Nat.reduceEqDiff, Nat.reduceAdd, Nat.reduceMul, Nat.reduceSub, Nat.reduceLeDiff, Nat.reduceLT, Int.reduceLT, Int.reduceLE, Int.reduceEq, Int.reduceToNat, Int.reduceAdd, Int.reduceSub, Int.reduceNeg, ↓reduceIte, reduceCtorEq, ↓C.clock_New_W, C.clock_New_B, C.clock_New, T]
  exact hle0
theorem clockerrs_spec {st : ASt} {S : Soc} (h1 : S.clocks.length ≤ 9223372036854775807) (h2 : S.doms.length ≤ 9223372036854775807) (h3 : S.rsts.length ≤ 9223372036854775807) (h4 : S.devs.length ≤ 9223372036854775807) :
    ACalls Try.prog F.catnaplaw6_ClockErrs [.agg S.cells] st fun r s => r = .bool true ∧ s = st := by
  refine ACalls.gc (Q' := fun r s => r = .bool true ∧ st.le s) (calls_of_awp L.catnaplaw6_ClockErrs rfl ?_) (fun v s ⟨h, hl⟩ => ⟨st, hl, h, rfl⟩)
  have l4 : S.cells.length = 4 := rfl
  have e4 : AV.agg (List.take 4 S.cells) = .agg S.cells := rfl
  simp only [↓Bp, Bq, Bs, ↓aop.eq_28, ↓aop.eq_30, Nat.reduceEqDiff, Nat.reduceAdd, Nat.reduceMul, Nat.reduceSub, Nat.reduceLeDiff, Nat.reduceLT, Int.reduceLT, Int.reduceLE, Int.reduceEq, Int.reduceToNat, Int.reduceAdd, Int.reduceSub, Int.reduceNeg, ↓reduceIte, reduceCtorEq, ↓C.catnaplaw6_ClockErrs_r0_w, C.catnaplaw6_ClockErrs_r0_b, C.catnaplaw6_ClockErrs]
  rintro ib hib
  have hle0 := ASt.le.new st ib (.cells S.cells)
  have hb := ASt.new_self (.cells S.cells) hib
  generalize st.new ib (.cells S.cells) = s0 at hle0 hb
  simp only [↓Bp, Bq, Bs, ↓aop.eq_28, ↓aop.eq_30, Nat.reduceEqDiff, Nat.reduceAdd, Nat.reduceMul, Nat.reduceSub, Nat.reduceLeDiff, Nat.reduceLT, Int.reduceLT, Int.reduceLE, Int.reduceEq, Int.reduceToNat, Int.reduceAdd, Int.reduceSub, Int.reduceNeg, ↓reduceIte, reduceCtorEq, ↓C.catnaplaw6_ClockErrs_W, C.catnaplaw6_ClockErrs_B, C.catnaplaw6_ClockErrs]
  refine (kshown_spec s0).mono ?_
  rintro r s ⟨rfl, rfl⟩
  have hb0 := hb
  rw [Soc.cells, Soc.clkV, Soc.domV, Soc.rstV, Soc.devV] at hb0
  by_cases c1 : S.clocks.length ≤ 40
  rotate_left
  · have T := eq_true (show (40 : Int) < (S.clocks.length : Nat) by omega)
    simp only [↓Bp, Bq, Bs, ↓aop.eq_28, ↓aop.eq_30, Nat.reduceEqDiff, Nat.reduceAdd, Nat.reduceMul, Nat.reduceSub, Nat.reduceLeDiff, Nat.reduceLT, Int.reduceLT, Int.reduceLE, Int.reduceEq, Int.reduceToNat, Int.reduceAdd, Int.reduceSub, Int.reduceNeg, ↓reduceIte, reduceCtorEq, ↓C.catnaplaw6_ClockErrs_W, C.catnaplaw6_ClockErrs_B, C.catnaplaw6_ClockErrs, hb0, T]
    exact hle0
  have T1 := eq_false (show ¬ (40 : Int) < (S.clocks.length : Nat) by omega)
  by_cases c2 : S.doms.length ≤ 40
  rotate_left
  · have T := eq_true (show (40 : Int) < (S.doms.length : Nat) by omega)
    simp only [↓Bp, Bq, Bs, ↓aop.eq_28, ↓aop.eq_30, Nat.reduceEqDiff, Nat.reduceAdd, Nat.reduceMul, Nat.reduceSub, Nat.reduceLeDiff, Nat.reduceLT, Int.reduceLT, Int.reduceLE, Int.reduceEq, Int.reduceToNat, Int.reduceAdd, Int.reduceSub, Int.reduceNeg, ↓reduceIte, reduceCtorEq, ↓C.catnaplaw6_ClockErrs_W, C.catnaplaw6_ClockErrs_B, C.catnaplaw6_ClockErrs, hb0, T1, T]
    exact hle0
  have T2 := eq_false (show ¬ (40 : Int) < (S.doms.length : Nat) by omega)
  by_cases c3 : S.devs.length ≤ 40
  rotate_left
  · have T := eq_true (show (40 : Int) < (S.devs.length : Nat) by omega)
    simp only [↓Bp, Bq, Bs, ↓aop.eq_28, ↓aop.eq_30, Nat.reduceEqDiff, Nat.reduceAdd, Nat.reduceMul, Nat.reduceSub, Nat.reduceLeDiff, Nat.reduceLT, Int.reduceLT, Int.reduceLE, Int.reduceEq, Int.reduceToNat, Int.reduceAdd, Int.reduceSub, Int.reduceNeg, ↓reduceIte, reduceCtorEq, ↓C.catnaplaw6_ClockErrs_W, C.catnaplaw6_ClockErrs_B, C.catnaplaw6_ClockErrs, hb0, T1, T2, T]
    exact hle0
  have T3 := eq_false (show ¬ (40 : Int) < (S.devs.length : Nat) by omega)
  by_cases c4 : S.rsts.length ≤ 40
  rotate_left
  · have T := eq_true (show (40 : Int) < (S.rsts.length : Nat) by omega)
    simp only [↓Bp, Bq, Bs, ↓aop.eq_28, ↓aop.eq_30, Nat.reduceEqDiff, Nat.reduceAdd, Nat.reduceMul, Nat.reduceSub, Nat.reduceLeDiff, Nat.reduceLT, Int.reduceLT, Int.reduceLE, Int.reduceEq, Int.reduceToNat, Int.reduceAdd, Int.reduceSub, Int.reduceNeg, ↓reduceIte, reduceCtorEq, ↓C.catnaplaw6_ClockErrs_W, C.catnaplaw6_ClockErrs_B, C.catnaplaw6_ClockErrs, hb0, T1, T2, T3, T]
    exact hle0
  have T4 := eq_false (show ¬ (40 : Int) < (S.rsts.length : Nat) by omega)
  simp only [↓Bp, Bq, Bs, ↓aop.eq_28, ↓aop.eq_30, Nat.reduceEqDiff, Nat.reduceAdd, Nat.reduceMul, Nat.reduceSub, Nat.reduceLeDiff, Nat.reduceLT, Int.reduceLT, Int.reduceLE, Int.reduceEq, Int.reduceToNat, Int.reduceAdd, Int.reduceSub, Int.reduceNeg, ↓reduceIte, reduceCtorEq, ↓C.catnaplaw6_ClockErrs_r3_w, C.catnaplaw6_ClockErrs_r3_b, ↓C.catnaplaw6_ClockErrs_c4_w, ↓C.catnaplaw6_ClockErrs_c5_w, ↓C.catnaplaw6_ClockErrs_r2_w, C.catnaplaw6_ClockErrs_r2_b, ↓C.catnaplaw6_ClockErrs_c6_w, ↓C.catnaplaw6_ClockErrs_r1_w, C.catnaplaw6_ClockErrs_r1_b, ↓C.catnaplaw6_ClockErrs_c7_w, ↓C.catnaplaw6_ClockErrs_r0_w, C.catnaplaw6_ClockErrs_r0_b, C.catnaplaw6_ClockErrs, hb0, T1, T2, T3, T4]
  rw [C.catnaplaw6_ClockErrs_c3_w, awp_keep]
  simp only [↓Bp, Bq, Bs, ↓aop.eq_28, ↓aop.eq_30, Nat.reduceEqDiff, Nat.reduceAdd, Nat.reduceMul, Nat.reduceSub, Nat.reduceLeDiff, Nat.reduceLT, Int.reduceLT, Int.reduceLE, Int.reduceEq, Int.reduceToNat, Int.reduceAdd, Int.reduceSub, Int.reduceNeg, ↓reduceIte, reduceCtorEq, ↓C.catnaplaw6_ClockErrs_W, C.catnaplaw6_ClockErrs_B, C.catnaplaw6_ClockErrs, hb, l4, e4]
  by_cases he : confErr S = 0
  · obtain ⟨hs, hf, h12⟩ := conf_sane he
    refine (cnew_spec0 hs hf he h12).mono ?_
    rintro r s1 ⟨s2, q, v, rfl, hle, hq, hP⟩
    have hl1 := (hle.trans (ASt.le.new s2 q (.cells [v]))).trans hP.2.1
    have hb2 := hl1 _ _ hb
    simp only [↓Bp, Bq, Bs, ↓aop.eq_28, ↓aop.eq_30, Nat.reduceEqDiff, Nat.reduceAdd, Nat.reduceMul, Nat.reduceSub, Nat.reduceLeDiff, Nat.reduceLT, Int.reduceLT, Int.reduceLE, Int.reduceEq, Int.reduceToNat, Int.reduceAdd, Int.reduceSub, Int.reduceNeg, ↓reduceIte, reduceCtorEq, ↓C.catnaplaw6_ClockErrs_W, C.catnaplaw6_ClockErrs_B, C.catnaplaw6_ClockErrs, hb2, l4, e4]
    refine conf_check_all.mono ?_
    rintro r s3 ⟨rfl, rfl⟩
    rw [he]
    simp only [↓Bp, Bq, Bs, ↓aop.eq_28, ↓aop.eq_30, Nat.reduceEqDiff, Nat.reduceAdd, Nat.reduceMul, Nat.reduceSub, Nat.reduceLeDiff, Nat.reduceLT, Int.reduceLT, Int.reduceLE, Int.reduceEq, Int.reduceToNat, Int.reduceAdd, Int.reduceSub, Int.reduceNeg, ↓reduceIte, reduceCtorEq, ↓C.catnaplaw6_ClockErrs_W, C.catnaplaw6_ClockErrs_B, C.catnaplaw6_ClockErrs]
    exact hle0.trans hl1
  · refine (cnew_err he).mono ?_
    rintro r s1 ⟨rfl, hl1⟩
    have hb2 := hl1 _ _ hb
    have T := eq_false he
    simp only [↓Bp, Bq, Bs, ↓aop.eq_28, ↓aop.eq_30, Nat.reduceEqDiff, Nat.reduceAdd, Nat.reduceMul, Nat.reduceSub, Nat.reduceLeDiff, Nat.reduceLT, Int.reduceLT, Int.reduceLE, Int.reduceEq, Int.reduceToNat, Int.reduceAdd, Int.reduceSub, Int.reduceNeg, ↓reduceIte, reduceCtorEq, ↓C.catnaplaw6_ClockErrs_W, C.catnaplaw6_ClockErrs_B, C.catnaplaw6_ClockErrs, hb2, l4, e4]
    refine conf_check_all.mono ?_
    rintro r s3 ⟨rfl, rfl⟩
    simp only [↓Bp, Bq, Bs, ↓aop.eq_28, ↓aop.eq_30, Nat.reduceEqDiff, Nat.reduceAdd, Nat.reduceMul, Nat.reduceSub, Nat.reduceLeDiff, Nat.reduceLT, Int.reduceLT, Int.reduceLE, Int.reduceEq, Int.reduceToNat, Int.reduceAdd, Int.reduceSub, Int.reduceNeg, ↓reduceIte, reduceCtorEq, ↓C.catnaplaw6_ClockErrs_W, C.catnaplaw6_ClockErrs_B, C.catnaplaw6_ClockErrs, T]
    exact hle0.trans hl1
end Go.Proofs.Ytkioaemhdbcfaaa.Cn
