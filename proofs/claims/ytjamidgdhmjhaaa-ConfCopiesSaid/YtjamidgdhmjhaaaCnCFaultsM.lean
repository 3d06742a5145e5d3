/- Descriptions: ConfFaults, the walk. -/
import Derived.Test.YtjamidgdhmjhaaaCnCFaults
set_option linter.unusedSimpArgs false
set_option linter.unusedVariables false
namespace Go.Proofs.Ytjamidgdhmjhaaa.Cn
open Go Go.Proofs

/-- A chip in a variable. -/
def ChipBox (s0 s : ASt) (b : Nat) (S : Soc) : Prop := ∃ vs L, BoxL s0 s b vs S.cells L
theorem ChipBox.mk' {s0 s : ASt} {b : Nat} {vs cs : List AV} {L : List Nat} {S : Soc} (h : BoxL s0 s b vs cs L) (e : S.cells = cs) : ChipBox s0 s b S := ⟨vs, L, by rw [e]; exact h⟩
theorem ChipBox.box {s0 s : ASt} {b : Nat} {cs : List AV} {S : Soc} (h : Box s0 s b cs) (e : S.cells = cs) : ChipBox s0 s b S := by
  obtain ⟨vs, L, h⟩ := h
  exact ⟨vs, L, by rw [e]; exact h⟩
theorem ChipBox.four {s0 s : ASt} {b : Nat} {S : Soc} (h : ChipBox s0 s b S) : ∃ a0 a1 a2 a3 L, BoxL s0 s b [a0, a1, a2, a3] S.cells L ∧ s.h b = some (.cells [a0, a1, a2, a3]) ∧ a0.slen = some S.clocks.length ∧ a1.slen = some S.doms.length ∧ a2.slen = some S.rsts.length ∧ a3.slen = some S.devs.length := by
  obtain ⟨vs, L, hB⟩ := h
  have hl : S.cells.length = vs.length := hB.2.1.len
  match vs, hl with
  | [a0, a1, a2, a3], _ =>
    obtain ⟨x0, e0, l0⟩ := hB.2.1.slen (o := 0) rfl
    obtain ⟨x1, e1, l1⟩ := hB.2.1.slen (o := 1) rfl
    obtain ⟨x2, e2, l2⟩ := hB.2.1.slen (o := 2) rfl
    obtain ⟨x3, e3, l3⟩ := hB.2.1.slen (o := 3) rfl
    cases e0; cases e1; cases e2; cases e3
    exact ⟨a0, a1, a2, a3, L, hB, hB.1, l0, l1, l2, l3⟩
theorem chip_box {s s1 : ASt} {ib : Nat} {vs : List AV} {L : List Nat} {S : Soc} (hR : RepL s1 vs S.cells L) (hF : ∀ j ∈ L, s.h j = none) (hle : s.le s1) (hib : s1.h ib = none) : ChipBox s (s1.new ib (.cells vs)) ib S :=
  ⟨vs, L, ASt.new_self _ hib, hR.le (ASt.le.new _ _ _), fun hm => hR.live ib hm hib, hF, fresh_of_le hle hib, hle.trans (ASt.le.new _ _ _)⟩

section
variable {s0 s : ASt} {b : Nat} {S : Soc}
theorem Soc.set_clk {i j : Nat} {c : Clk} {v : AV} (hi : i < S.clocks.length) (hj : j < 6) (hx : (S.clocks[i].cells).set j v = c.cells) :
    ({ S with clocks := S.clocks.set i c } : Soc).cells = S.cells.set 0 (.isl 6 ((S.clocks.flatMap Clk.cells).set (i * 6 + j) v) S.clocks.length) := by
  rw [flatMap_set Clk.cells_len hi hj hx]; simp [Soc.cells, Soc.clkV, Soc.domV, Soc.rstV, Soc.devV]
theorem Soc.set_dom {i j : Nat} {c : Dom} {v : AV} (hi : i < S.doms.length) (hj : j < 3) (hx : (S.doms[i].cells).set j v = c.cells) :
    ({ S with doms := S.doms.set i c } : Soc).cells = S.cells.set 1 (.isl 3 ((S.doms.flatMap Dom.cells).set (i * 3 + j) v) S.doms.length) := by
  rw [flatMap_set Dom.cells_len hi hj hx]; simp [Soc.cells, Soc.clkV, Soc.domV, Soc.rstV, Soc.devV]
theorem Soc.set_rst {i : Nat} {c : Int} (hi : i < S.rsts.length) :
    ({ S with rsts := S.rsts.set i c } : Soc).cells = S.cells.set 2 (.isl 1 ((S.rsts.flatMap rstCells).set (i * 1 + 0) (.int .i64 c)) S.rsts.length) := by
  rw [flatMap_set rstCells_len (x := c) hi (by omega) rfl]; simp [Soc.cells, Soc.clkV, Soc.domV, Soc.rstV, Soc.devV]
theorem Soc.set_dev {i j : Nat} {c : Dev} {v : AV} (hi : i < S.devs.length) (hj : j < 6) (hx : (S.devs[i].cells).set j v = c.cells) :
    ({ S with devs := S.devs.set i c } : Soc).cells = S.cells.set 3 (.isl 6 ((S.devs.flatMap Dev.cells).set (i * 6 + j) v) S.devs.length) := by
  rw [flatMap_set Dev.cells_len hi hj hx]; simp [Soc.cells, Soc.clkV, Soc.domV, Soc.rstV, Soc.devV]
theorem Soc.add_clk {c : Clk} : ({ S with clocks := S.clocks ++ [c] } : Soc).cells = S.cells.set 0 (.isl 6 (S.clocks.flatMap Clk.cells ++ c.cells) (S.clocks.length + 1)) := by
  simp [Soc.cells, Soc.clkV, Soc.domV, Soc.rstV, Soc.devV]

/-- A number of a chip's is written. -/
theorem put_clk {vs : List AV} {L : List Nat} (h : BoxL s0 s b vs S.cells L) {i j : Nat} {c : Clk} {v : AV} (hi : i < S.clocks.length) (hj : j < 6) (hv : v.scalar = true) (hx : (S.clocks[i].cells).set j v = c.cells) :
    ∃ id ws, vs[0]? = some (.sl 6 id 0 S.clocks.length) ∧ s.h id = some (.cells ws) ∧ i * 6 + j < ws.length ∧ id ≠ b ∧ ChipBox s0 (s.set id (.cells (ws.set (i * 6 + j) v))) b { S with clocks := S.clocks.set i c } := by
  have hk : i * 6 + j < (S.clocks.flatMap Clk.cells).length := by rw [flatMap_len Clk.cells_len]; omega
  obtain ⟨id, ws, e1, e2, e3, e4, -, L', hB⟩ := BoxL.put (o := 0) (k := i * 6 + j) (c := v) h rfl (by omega) hk (RepL.scalars (cs := [v]) (by simp [hv]) s) (by simp) (by simp) (by simp)
  exact ⟨id, ws, e1, e2, by omega, e4, ChipBox.mk' hB (Soc.set_clk hi hj hx)⟩
theorem put_dom {vs : List AV} {L : List Nat} (h : BoxL s0 s b vs S.cells L) {i j : Nat} {c : Dom} {v : AV} (hi : i < S.doms.length) (hj : j < 3) (hv : v.scalar = true) (hx : (S.doms[i].cells).set j v = c.cells) :
    ∃ id ws, vs[1]? = some (.sl 3 id 0 S.doms.length) ∧ s.h id = some (.cells ws) ∧ i * 3 + j < ws.length ∧ id ≠ b ∧ ChipBox s0 (s.set id (.cells (ws.set (i * 3 + j) v))) b { S with doms := S.doms.set i c } := by
  have hk : i * 3 + j < (S.doms.flatMap Dom.cells).length := by rw [flatMap_len Dom.cells_len]; omega
  obtain ⟨id, ws, e1, e2, e3, e4, -, L', hB⟩ := BoxL.put (o := 1) (k := i * 3 + j) (c := v) h rfl (by omega) hk (RepL.scalars (cs := [v]) (by simp [hv]) s) (by simp) (by simp) (by simp)
  exact ⟨id, ws, e1, e2, by omega, e4, ChipBox.mk' hB (Soc.set_dom hi hj hx)⟩
theorem put_rst {vs : List AV} {L : List Nat} (h : BoxL s0 s b vs S.cells L) {i : Nat} {c : Int} (hi : i < S.rsts.length) :
    ∃ id ws, vs[2]? = some (.sl 1 id 0 S.rsts.length) ∧ s.h id = some (.cells ws) ∧ i < ws.length ∧ id ≠ b ∧ ChipBox s0 (s.set id (.cells (ws.set i (.int .i64 c)))) b { S with rsts := S.rsts.set i c } := by
  have hk : i * 1 + 0 < (S.rsts.flatMap rstCells).length := by rw [flatMap_len rstCells_len]; omega
  obtain ⟨id, ws, e1, e2, e3, e4, -, L', hB⟩ := BoxL.put (o := 2) (k := i * 1 + 0) (v := .int .i64 c) (c := .int .i64 c) h rfl (by omega) hk (RepL.scalars rfl s) (by simp) (by simp) (by simp)
  rw [Nat.mul_one, Nat.add_zero] at hB
  refine ⟨id, ws, e1, e2, by omega, e4, ChipBox.mk' hB ?_⟩
  have := Soc.set_rst (S := S) (c := c) hi
  rw [Nat.mul_one, Nat.add_zero] at this
  exact this
theorem put_dev {vs : List AV} {L : List Nat} (h : BoxL s0 s b vs S.cells L) {i j : Nat} {c : Dev} {v c' : AV} {Lv : List Nat} (hi : i < S.devs.length) (hj : j < 6) (hv : RepL s [v] [c'] Lv) (hx : (S.devs[i].cells).set j c' = c.cells)
    (hb : b ∉ Lv) (hf : ∀ j ∈ Lv, s0.h j = none) (hd : ∀ j ∈ Lv, j ∉ L) :
    ∃ id ws, vs[3]? = some (.sl 6 id 0 S.devs.length) ∧ s.h id = some (.cells ws) ∧ i * 6 + j < ws.length ∧ id ≠ b ∧ ChipBox s0 (s.set id (.cells (ws.set (i * 6 + j) v))) b { S with devs := S.devs.set i c } := by
  have hk : i * 6 + j < (S.devs.flatMap Dev.cells).length := by rw [flatMap_len Dev.cells_len]; omega
  obtain ⟨id, ws, e1, e2, e3, e4, -, L', hB⟩ := BoxL.put (o := 3) (k := i * 6 + j) (c := c') h rfl (by omega) hk hv hb hf hd
  exact ⟨id, ws, e1, e2, by omega, e4, ChipBox.mk' hB (Soc.set_dev hi hj hx)⟩
end

theorem fine_clk {S : Soc} (h : S.fine) {c : Clk} (hc : c.src.length ≤ 4294967296) : ({ S with clocks := S.clocks ++ [c] } : Soc).fine := by
  intro x hx
  rcases List.mem_append.mp hx with hx | hx
  · exact h x hx
  · simp at hx; subst hx; exact hc
theorem fine_set {S : Soc} (h : S.fine) {c : Clk} {i : Nat} (hc : c.src.length ≤ 4294967296) : ({ S with clocks := S.clocks.set i c } : Soc).fine := by
  intro x hx
  rcases List.mem_or_eq_of_mem_set hx with hx | rfl
  · exact h x hx
  · exact hc

set_option maxHeartbeats 1000000 in
theorem conffaults_spec {st : ASt} {l : List Int} {at_ what : Int} (hl : ∀ x ∈ l, -9223372036854775808 ≤ x ∧ x ≤ 9223372036854775807) (hll : l.length ≤ 9223372036854775807) (ha : -9223372036854775808 ≤ at_ ∧ at_ ≤ 9223372036854775807) (hw : -9223372036854775808 ≤ what ∧ what ≤ 9223372036854775807) :
    ACalls Try.prog F.catnaplaw4_ConfFaults [row l, .int .i64 at_, .int .i64 what] st fun r _ => r = .bool true := by
  refine calls_of_awp L.catnaplaw4_ConfFaults rfl ?_
  simp only [↓Bp, Bq, Bs, ↓aop.eq_28, ↓aop.eq_30, Nat.reduceEqDiff, Nat.reduceAdd, Nat.reduceMul, Nat.reduceSub, Nat.reduceLeDiff, Nat.reduceLT, Int.reduceLT, Int.reduceLE, Int.reduceEq, Int.reduceToNat, Int.reduceAdd, Int.reduceSub, Int.reduceNeg, ↓reduceIte, reduceCtorEq, ↓C.catnaplaw4_ConfFaults_W, C.catnaplaw4_ConfFaults_B, C.catnaplaw4_ConfFaults]
  refine (shown_spec st).mono ?_
  rintro r s ⟨rfl, rfl⟩
  simp only [↓Bp, Bq, Bs, ↓aop.eq_28, ↓aop.eq_30, Nat.reduceEqDiff, Nat.reduceAdd, Nat.reduceMul, Nat.reduceSub, Nat.reduceLeDiff, Nat.reduceLT, Int.reduceLT, Int.reduceLE, Int.reduceEq, Int.reduceToNat, Int.reduceAdd, Int.reduceSub, Int.reduceNeg, ↓reduceIte, reduceCtorEq, ↓C.catnaplaw4_ConfFaults_W, C.catnaplaw4_ConfFaults_B, C.catnaplaw4_ConfFaults]
  refine (chip_own hl hll).mono ?_
  rintro r s1 ⟨vs, L, rfl, hR, hF, hle⟩
  have hk := chipS_like l
  generalize chipS l = S at hk hR
  have hs := hk.sane
  have n1 := hk.nc; have n2 := hk.nd; have n3 := hk.nr; have n4 := hk.nv
  have lv : vs.length = 4 := hR.len.symm
  have lf := hR.leaf
  simp only [↓Bp, Bq, Bs, ↓aop.eq_28, ↓aop.eq_30, Nat.reduceEqDiff, Nat.reduceAdd, Nat.reduceMul, Nat.reduceSub, Nat.reduceLeDiff, Nat.reduceLT, Int.reduceLT, Int.reduceLE, Int.reduceEq, Int.reduceToNat, Int.reduceAdd, Int.reduceSub, Int.reduceNeg, ↓reduceIte, reduceCtorEq, ↓C.catnaplaw4_ConfFaults_r4_w, C.catnaplaw4_ConfFaults_r4_b, ↓C.catnaplaw4_ConfFaults_c49_w, ↓C.catnaplaw4_ConfFaults_r3_w, C.catnaplaw4_ConfFaults_r3_b, ↓C.catnaplaw4_ConfFaults_c50_w, ↓C.catnaplaw4_ConfFaults_c51_w, ↓C.catnaplaw4_ConfFaults_r2_w, C.catnaplaw4_ConfFaults_r2_b, ↓C.catnaplaw4_ConfFaults_c52_w, ↓C.catnaplaw4_ConfFaults_r1_w, C.catnaplaw4_ConfFaults_r1_b, ↓C.catnaplaw4_ConfFaults_c53_w, ↓C.catnaplaw4_ConfFaults_r0_w, C.catnaplaw4_ConfFaults_r0_b, C.catnaplaw4_ConfFaults]
  rintro ib hib
  simp only [↓Bp, Bq, Bs, ↓aop.eq_28, ↓aop.eq_30, Nat.reduceEqDiff, Nat.reduceAdd, Nat.reduceMul, Nat.reduceSub, Nat.reduceLeDiff, Nat.reduceLT, Int.reduceLT, Int.reduceLE, Int.reduceEq, Int.reduceToNat, Int.reduceAdd, Int.reduceSub, Int.reduceNeg, ↓reduceIte, reduceCtorEq, ↓C.catnaplaw4_ConfFaults_r4_w, C.catnaplaw4_ConfFaults_r4_b, ↓C.catnaplaw4_ConfFaults_c49_w, ↓C.catnaplaw4_ConfFaults_r3_w, C.catnaplaw4_ConfFaults_r3_b, ↓C.catnaplaw4_ConfFaults_c50_w, ↓C.catnaplaw4_ConfFaults_c51_w, ↓C.catnaplaw4_ConfFaults_r2_w, C.catnaplaw4_ConfFaults_r2_b, ↓C.catnaplaw4_ConfFaults_c52_w, ↓C.catnaplaw4_ConfFaults_r1_w, C.catnaplaw4_ConfFaults_r1_b, ↓C.catnaplaw4_ConfFaults_c53_w, ↓C.catnaplaw4_ConfFaults_r0_w, C.catnaplaw4_ConfFaults_r0_b, C.catnaplaw4_ConfFaults, hib, lv, lf]
  rw [ASt.new_set hib, putN_all (zs := [AV.nils, AV.nils, AV.nils, AV.nils]) (by rw [lv]; rfl)]
  have hB := chip_box hR hF hle hib
  generalize s1.new ib (.cells vs) = s2 at hB
  clear hR hF hle hib lv lf
  obtain ⟨a0, a1, a2, a3, L2, hBL, hb, z0, z1, z2, z3⟩ := hB.four
  simp only [↓Bp, Bq, Bs, ↓aop.eq_28, ↓aop.eq_30, Nat.reduceEqDiff, Nat.reduceAdd, Nat.reduceMul, Nat.reduceSub, Nat.reduceLeDiff, Nat.reduceLT, Int.reduceLT, Int.reduceLE, Int.reduceEq, Int.reduceToNat, Int.reduceAdd, Int.reduceSub, Int.reduceNeg, ↓reduceIte, reduceCtorEq, ↓C.catnaplaw4_ConfFaults_W, C.catnaplaw4_ConfFaults_B, C.catnaplaw4_ConfFaults, hb, z3]
  refine (pick_spec ha n4.1).mono ?_
  rintro r s3 ⟨rfl, rfl⟩
  simp only [↓Bp, Bq, Bs, ↓aop.eq_28, ↓aop.eq_30, Nat.reduceEqDiff, Nat.reduceAdd, Nat.reduceMul, Nat.reduceSub, Nat.reduceLeDiff, Nat.reduceLT, Int.reduceLT, Int.reduceLE, Int.reduceEq, Int.reduceToNat, Int.reduceAdd, Int.reduceSub, Int.reduceNeg, ↓reduceIte, reduceCtorEq, ↓C.catnaplaw4_ConfFaults_W, C.catnaplaw4_ConfFaults_B, C.catnaplaw4_ConfFaults, hb, z1]
  refine (pick_spec ha n2.1).mono ?_
  rintro r s4 ⟨rfl, rfl⟩
  simp only [↓Bp, Bq, Bs, ↓aop.eq_28, ↓aop.eq_30, Nat.reduceEqDiff, Nat.reduceAdd, Nat.reduceMul, Nat.reduceSub, Nat.reduceLeDiff, Nat.reduceLT, Int.reduceLT, Int.reduceLE, Int.reduceEq, Int.reduceToNat, Int.reduceAdd, Int.reduceSub, Int.reduceNeg, ↓reduceIte, reduceCtorEq, ↓C.catnaplaw4_ConfFaults_r40_w, C.catnaplaw4_ConfFaults_r40_b, ↓C.catnaplaw4_ConfFaults_c1_w, ↓C.catnaplaw4_ConfFaults_r8_w, C.catnaplaw4_ConfFaults_r8_b, ↓C.catnaplaw4_ConfFaults_c45_w, ↓C.catnaplaw4_ConfFaults_r7_w, C.catnaplaw4_ConfFaults_r7_b, ↓C.catnaplaw4_ConfFaults_c46_w, ↓C.catnaplaw4_ConfFaults_r6_w, C.catnaplaw4_ConfFaults_r6_b, ↓C.catnaplaw4_ConfFaults_c47_w, ↓C.catnaplaw4_ConfFaults_r5_w, C.catnaplaw4_ConfFaults_r5_b, ↓C.catnaplaw4_ConfFaults_c48_w, ↓C.catnaplaw4_ConfFaults_r4_w, C.catnaplaw4_ConfFaults_r4_b, ↓C.catnaplaw4_ConfFaults_c49_w, ↓C.catnaplaw4_ConfFaults_r3_w, C.catnaplaw4_ConfFaults_r3_b, ↓C.catnaplaw4_ConfFaults_c50_w, ↓C.catnaplaw4_ConfFaults_c51_w, ↓C.catnaplaw4_ConfFaults_r2_w, C.catnaplaw4_ConfFaults_r2_b, ↓C.catnaplaw4_ConfFaults_c52_w, ↓C.catnaplaw4_ConfFaults_r1_w, C.catnaplaw4_ConfFaults_r1_b, ↓C.catnaplaw4_ConfFaults_c53_w, ↓C.catnaplaw4_ConfFaults_r0_w, C.catnaplaw4_ConfFaults_r0_b, C.catnaplaw4_ConfFaults]
  refine (pick_spec hw (n := 12) (by omega)).mono ?_
  rintro r s5 ⟨rfl, rfl⟩
  have hd := pickI_lt at_ n4.1
  have hr := pickI_lt at_ n2.1
  have hw12 := pickI_lt what (n := 12) (by omega)
  generalize pickI at_ S.devs.length = d at hd
  generalize pickI at_ S.doms.length = rr at hr
  generalize pickI what 12 = w at hw12
  simp only [↓Bp, Bq, Bs, ↓aop.eq_28, ↓aop.eq_30, Nat.reduceEqDiff, Nat.reduceAdd, Nat.reduceMul, Nat.reduceSub, Nat.reduceLeDiff, Nat.reduceLT, Int.reduceLT, Int.reduceLE, Int.reduceEq, Int.reduceToNat, Int.reduceAdd, Int.reduceSub, Int.reduceNeg, ↓reduceIte, reduceCtorEq, ↓C.catnaplaw4_ConfFaults_r40_w, C.catnaplaw4_ConfFaults_r40_b, ↓C.catnaplaw4_ConfFaults_c1_w, ↓C.catnaplaw4_ConfFaults_r8_w, C.catnaplaw4_ConfFaults_r8_b, ↓C.catnaplaw4_ConfFaults_c45_w, ↓C.catnaplaw4_ConfFaults_r7_w, C.catnaplaw4_ConfFaults_r7_b, ↓C.catnaplaw4_ConfFaults_c46_w, ↓C.catnaplaw4_ConfFaults_r6_w, C.catnaplaw4_ConfFaults_r6_b, ↓C.catnaplaw4_ConfFaults_c47_w, ↓C.catnaplaw4_ConfFaults_r5_w, C.catnaplaw4_ConfFaults_r5_b, ↓C.catnaplaw4_ConfFaults_c48_w, ↓C.catnaplaw4_ConfFaults_r4_w, C.catnaplaw4_ConfFaults_r4_b, ↓C.catnaplaw4_ConfFaults_c49_w, ↓C.catnaplaw4_ConfFaults_r3_w, C.catnaplaw4_ConfFaults_r3_b, ↓C.catnaplaw4_ConfFaults_c50_w, ↓C.catnaplaw4_ConfFaults_c51_w, ↓C.catnaplaw4_ConfFaults_r2_w, C.catnaplaw4_ConfFaults_r2_b, ↓C.catnaplaw4_ConfFaults_c52_w, ↓C.catnaplaw4_ConfFaults_r1_w, C.catnaplaw4_ConfFaults_r1_b, ↓C.catnaplaw4_ConfFaults_c53_w, ↓C.catnaplaw4_ConfFaults_r0_w, C.catnaplaw4_ConfFaults_r0_b, C.catnaplaw4_ConfFaults]
  have e03 : (3 : Int) = 3 := rfl
  rw [C.catnaplaw4_ConfFaults_c44_w, awp_keep]
  refine awp_mid (fun w : Int => [(8, .ptr ib 0), (11, .int .i64 w)]) (fun w t => ∃ S', ChipBox s t ib S' ∧ S'.fine ∧ confErr S' = w) ?_ ?_
  rotate_left
  · rintro w t ⟨S', hB', hf, he⟩
    obtain ⟨b0, b1, b2, b3, L', hBL', hb', -⟩ := hB'.four
    simp only [↓Bp, Bq, Bs, ↓aop.eq_28, ↓aop.eq_30, Nat.reduceEqDiff, Nat.reduceAdd, Nat.reduceMul, Nat.reduceSub, Nat.reduceLeDiff, Nat.reduceLT, Int.reduceLT, Int.reduceLE, Int.reduceEq, Int.reduceToNat, Int.reduceAdd, Int.reduceSub, Int.reduceNeg, ↓reduceIte, reduceCtorEq, ↓C.catnaplaw4_ConfFaults_W, C.catnaplaw4_ConfFaults_B, C.catnaplaw4_ConfFaults, hb']
    refine (check_own hBL'.2.1 hf).mono ?_
    rintro r t2 ⟨rfl, rfl⟩
    simp only [↓Bp, Bq, Bs, ↓aop.eq_28, ↓aop.eq_30, Nat.reduceEqDiff, Nat.reduceAdd, Nat.reduceMul, Nat.reduceSub, Nat.reduceLeDiff, Nat.reduceLT, Int.reduceLT, Int.reduceLE, Int.reduceEq, Int.reduceToNat, Int.reduceAdd, Int.reduceSub, Int.reduceNeg, ↓reduceIte, reduceCtorEq, ↓C.catnaplaw4_ConfFaults_W, C.catnaplaw4_ConfFaults_B, C.catnaplaw4_ConfFaults, he]
  have hf := hs.fine
  have hz0 : (0:Int) ≤ 0 ∧ (0 : Int) < (S.clocks.length : Nat) := by omega
  have hzr : (0:Int) ≤ (rr : Int) ∧ (rr : Int) < (S.doms.length : Nat) := by omega
  have hzd : (0:Int) ≤ (d : Int) ∧ (d : Int) < (S.devs.length : Nat) := by omega
  have hz2 : (0:Int) ≤ 0 ∧ (0 : Int) < (S.rsts.length : Nat) := by omega
  have c1 : ((1 : Nat) : Int) = 1 := rfl
  rcases (show w = 0 ∨ w = 1 ∨ w = 2 ∨ w = 3 ∨ w = 4 ∨ w = 5 ∨ w = 6 ∨ w = 7 ∨ w = 8 ∨ w = 9 ∨ w = 10 ∨ w = 11 by omega) with e | e | e | e | e | e | e | e | e | e | e | e <;> subst e
  · obtain ⟨v, v1, v2, hap⟩ := BoxL.append (b := ib) (o := 0) (new := [.int .u8 120, .nils, .int .u64 0, .int .i64 0, .int .i64 0, .int .i64 0]) (newc := Clk.cells ⟨120, [], 0, 0, 0, 0⟩) (Ln := []) hBL rfl (flatMap_len Clk.cells_len _) (by omega) (.one rfl (.nils 1 (RepL.scalars rfl _))) rfl (by simp) (by simp) (by simp)
    cases v1
    simp only [↓Bp, Bq, Bs, Nat.reduceEqDiff, Nat.reduceAdd, Nat.reduceMul, Nat.reduceSub, Nat.reduceLeDiff, Nat.reduceLT, Int.reduceLT, Int.reduceLE, Int.reduceEq, Int.reduceToNat, Int.reduceAdd, Int.reduceSub, Int.reduceNeg, ↓reduceIte, reduceCtorEq, ↓C.catnaplaw4_ConfFaults_W, C.catnaplaw4_ConfFaults_B, C.catnaplaw4_ConfFaults, Int.natCast_zero, hb]
    refine hap (aput_one rfl rfl) (fun _ => rfl) (fun _ => rfl) fun v1' i2 t2 hs2 hBx => ?_
    simp only [↓Bp, Bq, Bs, ↓aop.eq_28, ↓aop.eq_30, Nat.reduceEqDiff, Nat.reduceAdd, Nat.reduceMul, Nat.reduceSub, Nat.reduceLeDiff, Nat.reduceLT, Int.reduceLT, Int.reduceLE, Int.reduceEq, Int.reduceToNat, Int.reduceAdd, Int.reduceSub, Int.reduceNeg, ↓reduceIte, reduceCtorEq, ↓C.catnaplaw4_ConfFaults_W, C.catnaplaw4_ConfFaults_B, C.catnaplaw4_ConfFaults, hs2]
    have hv : firstE (clkE (S.clocks.length + 1) ⟨120, [], 0, 0, 0, 0⟩) 3 = 1 := firstE_stop (k := 0) rfl (by show (1 : Int) ≠ 0; decide) (by omega)
    exact ⟨1, rfl, _, ChipBox.box hBx Soc.add_clk, fine_clk hf (by simp), by rw [more_clk hk (by rw [hv]; decide), hv]⟩
  · simp only [↓Bp, Bq, Bs, Nat.reduceEqDiff, Nat.reduceAdd, Nat.reduceMul, Nat.reduceSub, Nat.reduceLeDiff, Nat.reduceLT, Int.reduceLT, Int.reduceLE, Int.reduceEq, Int.reduceToNat, Int.reduceAdd, Int.reduceSub, Int.reduceNeg, ↓reduceIte, reduceCtorEq, ↓C.catnaplaw4_ConfFaults_W, C.catnaplaw4_ConfFaults_B, C.catnaplaw4_ConfFaults, c1, hb, z0]
    refine aop_bs (cs := [.int .i64 (S.clocks.length : Nat)]) rfl fun ix hix => ?_
    have hg := ASt.le.new s5 ix (.cells [.int .i64 (S.clocks.length : Nat)])
    have hBL2 := BoxL.grow hBL hg
    have hxs : s.h ix = none := fresh_of_le hBL.2.2.2.2.2 hix
    have hxx := ASt.new_self (st := s5) (.cells [.int .i64 (S.clocks.length : Nat)]) hix
    have hixL : ix ∉ L2 := fun hm => hBL.2.1.live ix hm hix
    have hib5 : ib ≠ ix := by rintro rfl; rw [hb] at hix; cases hix
    obtain ⟨v, v1, v2, hap⟩ := BoxL.append (b := ib) (o := 0) (new := [.int .u8 103, .sl 1 ix 0 1, .int .u64 0, .int .i64 0, .int .i64 0, .int .i64 0]) (newc := Clk.cells ⟨103, [(S.clocks.length : Nat)], 0, 0, 0, 0⟩) (Ln := [ix]) hBL2 rfl (flatMap_len Clk.cells_len _) (by omega)
      (.one rfl (.sl (L1 := []) (L2 := []) hxx (RepL.scalars rfl _) (by simp) (by simp) (by simp) (RepL.scalars rfl _))) rfl (by simpa using hib5) (by simpa using hxs) (by simpa using hixL)
    cases v1
    simp only [↓Bp, Bq, Bs, Nat.reduceEqDiff, Nat.reduceAdd, Nat.reduceMul, Nat.reduceSub, Nat.reduceLeDiff, Nat.reduceLT, Int.reduceLT, Int.reduceLE, Int.reduceEq, Int.reduceToNat, Int.reduceAdd, Int.reduceSub, Int.reduceNeg, ↓reduceIte, reduceCtorEq, ↓C.catnaplaw4_ConfFaults_W, C.catnaplaw4_ConfFaults_B, C.catnaplaw4_ConfFaults]
    refine hap (aput_one rfl rfl) (fun _ => rfl) (fun _ => rfl) fun v1' i2 t2 hs2 hBx => ?_
    simp only [↓Bp, Bq, Bs, ↓aop.eq_28, ↓aop.eq_30, Nat.reduceEqDiff, Nat.reduceAdd, Nat.reduceMul, Nat.reduceSub, Nat.reduceLeDiff, Nat.reduceLT, Int.reduceLT, Int.reduceLE, Int.reduceEq, Int.reduceToNat, Int.reduceAdd, Int.reduceSub, Int.reduceNeg, ↓reduceIte, reduceCtorEq, ↓C.catnaplaw4_ConfFaults_W, C.catnaplaw4_ConfFaults_B, C.catnaplaw4_ConfFaults, hs2]
    exact ⟨5, rfl, _, ChipBox.box hBx Soc.add_clk, fine_clk hf (by simp), more_clk_cycle hk _ rfl⟩
  · simp only [↓Bp, Bq, Bs, Nat.reduceEqDiff, Nat.reduceAdd, Nat.reduceMul, Nat.reduceSub, Nat.reduceLeDiff, Nat.reduceLT, Int.reduceLT, Int.reduceLE, Int.reduceEq, Int.reduceToNat, Int.reduceAdd, Int.reduceSub, Int.reduceNeg, ↓reduceIte, reduceCtorEq, ↓C.catnaplaw4_ConfFaults_W, C.catnaplaw4_ConfFaults_B, C.catnaplaw4_ConfFaults, Int.cast_ofNat_Int, hb, z0]
    refine aop_bs (cs := [.int .i64 0]) rfl fun ix hix => ?_
    have hg := ASt.le.new s5 ix (.cells [.int .i64 0])
    have hBL2 := BoxL.grow hBL hg
    have hxs : s.h ix = none := fresh_of_le hBL.2.2.2.2.2 hix
    have hxx := ASt.new_self (st := s5) (.cells [.int .i64 0]) hix
    have hixL : ix ∉ L2 := fun hm => hBL.2.1.live ix hm hix
    have hib5 : ib ≠ ix := by rintro rfl; rw [hb] at hix; cases hix
    obtain ⟨v, v1, v2, hap⟩ := BoxL.append (b := ib) (o := 0) (new := [.int .u8 100, .sl 1 ix 0 1, .int .u64 0, .int .i64 0, .int .i64 1001, .int .i64 0]) (newc := Clk.cells ⟨100, [0], 0, 0, 1001, 0⟩) (Ln := [ix]) hBL2 rfl (flatMap_len Clk.cells_len _) (by omega)
      (.one rfl (.sl (L1 := []) (L2 := []) hxx (RepL.scalars rfl _) (by simp) (by simp) (by simp) (RepL.scalars rfl _))) rfl (by simpa using hib5) (by simpa using hxs) (by simpa using hixL)
    cases v1
    simp only [↓Bp, Bq, Bs, Nat.reduceEqDiff, Nat.reduceAdd, Nat.reduceMul, Nat.reduceSub, Nat.reduceLeDiff, Nat.reduceLT, Int.reduceLT, Int.reduceLE, Int.reduceEq, Int.reduceToNat, Int.reduceAdd, Int.reduceSub, Int.reduceNeg, ↓reduceIte, reduceCtorEq, ↓C.catnaplaw4_ConfFaults_W, C.catnaplaw4_ConfFaults_B, C.catnaplaw4_ConfFaults]
    refine hap (aput_one rfl rfl) (fun _ => rfl) (fun _ => rfl) fun v1' i2 t2 hs2 hBx => ?_
    simp only [↓Bp, Bq, Bs, ↓aop.eq_28, ↓aop.eq_30, Nat.reduceEqDiff, Nat.reduceAdd, Nat.reduceMul, Nat.reduceSub, Nat.reduceLeDiff, Nat.reduceLT, Int.reduceLT, Int.reduceLE, Int.reduceEq, Int.reduceToNat, Int.reduceAdd, Int.reduceSub, Int.reduceNeg, ↓reduceIte, reduceCtorEq, ↓C.catnaplaw4_ConfFaults_W, C.catnaplaw4_ConfFaults_B, C.catnaplaw4_ConfFaults, hs2]
    have hv : firstE (clkE (S.clocks.length + 1) ⟨100, [0], 0, 0, 1001, 0⟩) 3 = 3 := by
      have h2 : clkE (S.clocks.length + 1) ⟨100, [0], 0, 0, 1001, 0⟩ 2 = 3 := by simp [clkE, Clk.nums]
      rw [firstE_stop (k := 2) (firstE_zero.mpr fun j hj => ?_) (by rw [h2]; decide) (by omega), h2]
      match j, hj with
      | 0, _ => rfl
      | 1, _ =>
        refine firstE_zero.mpr fun k hk2 => ?_
        have : k = 0 := by simpa using hk2
        subst this
        show noNode _ (0 : Int) = 0
        rw [noNode, if_pos (by omega)]
    exact ⟨3, rfl, _, ChipBox.box hBx Soc.add_clk, fine_clk hf (by simp), by rw [more_clk hk (by rw [hv]; decide), hv]⟩
  · obtain ⟨id, ws, q1, q2, q3, q4, q5⟩ := put_clk (i := 0) (j := 2) (c := { S.clocks[0]'n1.1 with rate := 0 }) (v := .int .u64 0) hBL n1.1 (by omega) rfl rfl
    cases q1
    rw [Nat.zero_mul, Nat.zero_add] at q3 q5
    simp only [↓Bp, Bq, Bs, ↓aop.eq_28, ↓aop.eq_30, Nat.reduceEqDiff, Nat.reduceAdd, Nat.reduceMul, Nat.reduceSub, Nat.reduceLeDiff, Nat.reduceLT, Int.reduceLT, Int.reduceLE, Int.reduceEq, Int.reduceToNat, Int.reduceAdd, Int.reduceSub, Int.reduceNeg, ↓reduceIte, reduceCtorEq, ↓C.catnaplaw4_ConfFaults_W, C.catnaplaw4_ConfFaults_B, C.catnaplaw4_ConfFaults, Int.cast_ofNat_Int, hb, hz0, Nat.zero_mul, q2, q3]
    exact ⟨3, rfl, _, q5, fine_set hf (hs.cs S.clocks[0] (List.getElem_mem n1.1)), clk_rate hk⟩
  · obtain ⟨id, ws, q1, q2, q3, q4, q5⟩ := put_dom (i := rr) (j := 1) (c := { S.doms[rr] with delay := 21 }) (v := .int .i64 21) hBL hr (by omega) rfl rfl
    cases q1
    simp only [↓Bp, Bq, Bs, ↓aop.eq_28, ↓aop.eq_30, Nat.reduceEqDiff, Nat.reduceAdd, Nat.reduceMul, Nat.reduceSub, Nat.reduceLeDiff, Nat.reduceLT, Int.reduceLT, Int.reduceLE, Int.reduceEq, Int.reduceToNat, Int.reduceAdd, Int.reduceSub, Int.reduceNeg, ↓reduceIte, reduceCtorEq, ↓C.catnaplaw4_ConfFaults_W, C.catnaplaw4_ConfFaults_B, C.catnaplaw4_ConfFaults, Int.cast_ofNat_Int, hb, hzr, Int.toNat_natCast, q2, q3]
    have hv : firstE (domE S.doms.length { S.doms[rr] with delay := 21 }) 2 = 3 := by
      have h1 : domE S.doms.length { S.doms[rr] with delay := 21 } 1 = 3 := by simp [domE]
      rw [firstE_stop (k := 1) (firstE_zero.mpr fun j hj => ?_) (by rw [h1]; decide) (by omega), h1]
      have : j = 0 := by omega
      subst this
      have := (hk.dom rr hr).up
      rw [domE, if_neg]; simp only; omega
    exact ⟨3, rfl, _, q5, hf, by rw [dom_bad hk hr (by rw [hv]; decide), hv]⟩
  · obtain ⟨id, ws, q1, q2, q3, q4, q5⟩ := put_dom (i := rr) (j := 0) (c := { S.doms[rr] with above := (rr : Int) }) (v := .int .i64 rr) hBL hr (by omega) rfl rfl
    cases q1
    rw [Nat.add_zero] at q3 q5
    simp only [↓Bp, Bq, Bs, ↓aop.eq_28, ↓aop.eq_30, Nat.reduceEqDiff, Nat.reduceAdd, Nat.reduceMul, Nat.reduceSub, Nat.reduceLeDiff, Nat.reduceLT, Int.reduceLT, Int.reduceLE, Int.reduceEq, Int.reduceToNat, Int.reduceAdd, Int.reduceSub, Int.reduceNeg, ↓reduceIte, reduceCtorEq, ↓C.catnaplaw4_ConfFaults_W, C.catnaplaw4_ConfFaults_B, C.catnaplaw4_ConfFaults, Int.cast_ofNat_Int, hb, hzr, Int.toNat_natCast, q2, q3]
    exact ⟨5, rfl, _, q5, hf, dom_cycle hk hr rfl (by have := (hk.dom rr hr).delay; simp only; omega)⟩
  · obtain ⟨id, ws, q1, q2, q3, q4, q5⟩ := put_dom (i := rr) (j := 0) (c := { S.doms[rr] with above := ((S.doms.length : Nat) : Int) }) (v := .int .i64 (S.doms.length : Nat)) hBL hr (by omega) rfl rfl
    cases q1
    rw [Nat.add_zero] at q3 q5
    simp only [↓Bp, Bq, Bs, ↓aop.eq_28, ↓aop.eq_30, Nat.reduceEqDiff, Nat.reduceAdd, Nat.reduceMul, Nat.reduceSub, Nat.reduceLeDiff, Nat.reduceLT, Int.reduceLT, Int.reduceLE, Int.reduceEq, Int.reduceToNat, Int.reduceAdd, Int.reduceSub, Int.reduceNeg, ↓reduceIte, reduceCtorEq, ↓C.catnaplaw4_ConfFaults_W, C.catnaplaw4_ConfFaults_B, C.catnaplaw4_ConfFaults, Int.cast_ofNat_Int, hb, hzr, Int.toNat_natCast, q2, q3]
    have hv : firstE (domE S.doms.length { S.doms[rr] with above := ((S.doms.length : Nat) : Int) }) 2 = 4 := by
      have h0 : domE S.doms.length { S.doms[rr] with above := ((S.doms.length : Nat) : Int) } 0 = 4 := by
        rw [domE, if_pos]; simp only; omega
      rw [firstE_stop (k := 0) rfl (by rw [h0]; decide) (by omega), h0]
    exact ⟨4, rfl, _, q5, hf, by rw [dom_bad hk hr (by rw [hv]; decide), hv]⟩
  · obtain ⟨id, ws, q1, q2, q3, q4, q5⟩ := put_rst (i := 0) (c := -1) hBL n3.1
    cases q1
    simp only [↓Bp, Bq, Bs, ↓aop.eq_28, ↓aop.eq_30, Nat.reduceEqDiff, Nat.reduceAdd, Nat.reduceMul, Nat.reduceSub, Nat.reduceLeDiff, Nat.reduceLT, Int.reduceLT, Int.reduceLE, Int.reduceEq, Int.reduceToNat, Int.reduceAdd, Int.reduceSub, Int.reduceNeg, ↓reduceIte, reduceCtorEq, ↓C.catnaplaw4_ConfFaults_W, C.catnaplaw4_ConfFaults_B, C.catnaplaw4_ConfFaults, Int.cast_ofNat_Int, hb, hz2, Nat.zero_mul, q2, q3]
    exact ⟨3, rfl, _, q5, hf, rst_bad hk⟩
  · obtain ⟨id, ws, q1, q2, q3, q4, q5⟩ := put_dev (i := d) (j := 2) (c := { S.devs[d] with rst := ((S.rsts.length : Nat) : Int) }) (v := .int .i64 (S.rsts.length : Nat)) hBL hd (by omega) (RepL.scalars rfl _) rfl (by simp) (by simp) (by simp)
    cases q1
    simp only [↓Bp, Bq, Bs, ↓aop.eq_28, ↓aop.eq_30, Nat.reduceEqDiff, Nat.reduceAdd, Nat.reduceMul, Nat.reduceSub, Nat.reduceLeDiff, Nat.reduceLT, Int.reduceLT, Int.reduceLE, Int.reduceEq, Int.reduceToNat, Int.reduceAdd, Int.reduceSub, Int.reduceNeg, ↓reduceIte, reduceCtorEq, ↓C.catnaplaw4_ConfFaults_W, C.catnaplaw4_ConfFaults_B, C.catnaplaw4_ConfFaults, Int.cast_ofNat_Int, hb, hzd, z2, Int.toNat_natCast, q2, q3]
    have hkd := hk.dev d hd
    have hv : firstE (devE { S with devs := S.devs.set d { S.devs[d] with rst := ((S.rsts.length : Nat) : Int) } } { S.devs[d] with rst := ((S.rsts.length : Nat) : Int) }) 4 = 4 := by
      have h2 : devE { S with devs := S.devs.set d { S.devs[d] with rst := ((S.rsts.length : Nat) : Int) } } { S.devs[d] with rst := ((S.rsts.length : Nat) : Int) } 2 = 4 := by
        rw [devE, noNode, if_neg]; simp only; omega
      rw [firstE_stop (k := 2) (firstE_zero.mpr fun j hj => ?_) (by rw [h2]; decide) (by omega), h2]
      match j, hj with
      | 0, _ => rw [devE, noNode, if_pos hkd.clock]
      | 1, _ => rw [devE, noNode, if_pos hkd.dom]
    exact ⟨4, rfl, _, q5, hf, by rw [dev_bad (d := { S.devs[d] with rst := ((S.rsts.length : Nat) : Int) }) hk hd (dev_small hk hd) (by rw [hv]; decide), hv]⟩
  · simp only [↓Bp, Bq, Bs, Nat.reduceEqDiff, Nat.reduceAdd, Nat.reduceMul, Nat.reduceSub, Nat.reduceLeDiff, Nat.reduceLT, Int.reduceLT, Int.reduceLE, Int.reduceEq, Int.reduceToNat, Int.reduceAdd, Int.reduceSub, Int.reduceNeg, ↓reduceIte, reduceCtorEq, ↓C.catnaplaw4_ConfFaults_W, C.catnaplaw4_ConfFaults_B, C.catnaplaw4_ConfFaults, Int.cast_ofNat_Int, hb, hzd]
    refine aop_bs (cs := [.int .i64 (d : Int)]) rfl fun ix hix => ?_
    have hg := ASt.le.new s5 ix (.cells [.int .i64 (d : Int)])
    have hBL2 := BoxL.grow hBL hg
    have hxs : s.h ix = none := fresh_of_le hBL.2.2.2.2.2 hix
    have hxx := ASt.new_self (st := s5) (.cells [.int .i64 (d : Int)]) hix
    have hixL : ix ∉ L2 := fun hm => hBL.2.1.live ix hm hix
    have hib5 : ib ≠ ix := by rintro rfl; rw [hb] at hix; cases hix
    obtain ⟨id, ws, q1, q2, q3, q4, q5⟩ := put_dev (i := d) (j := 5) (c := { S.devs[d] with needs := [(d : Int)] }) (v := .sl 1 ix 0 1) (c' := row [(d : Int)]) (Lv := [ix]) hBL2 hd (by omega) (.sl (L1 := []) (L2 := []) hxx (RepL.scalars rfl _) (by simp) (by simp) (by simp) .nil) rfl (by simpa using hib5) (by simpa using hxs) (by simpa using hixL)
    cases q1
    generalize s5.new ix (.cells [.int .i64 (d : Int)]) = s6 at hBL2 q2 q5 hxx
    simp only [↓Bp, Bq, Bs, ↓aop.eq_28, ↓aop.eq_30, Nat.reduceEqDiff, Nat.reduceAdd, Nat.reduceMul, Nat.reduceSub, Nat.reduceLeDiff, Nat.reduceLT, Int.reduceLT, Int.reduceLE, Int.reduceEq, Int.reduceToNat, Int.reduceAdd, Int.reduceSub, Int.reduceNeg, ↓reduceIte, reduceCtorEq, ↓C.catnaplaw4_ConfFaults_W, C.catnaplaw4_ConfFaults_B, C.catnaplaw4_ConfFaults, hzd, Int.toNat_natCast, q2, q3]
    exact ⟨5, rfl, _, q5, hf, dev_cycle hk hd⟩
  · simp only [↓Bp, Bq, Bs, ↓aop.eq_28, ↓aop.eq_30, Nat.reduceEqDiff, Nat.reduceAdd, Nat.reduceMul, Nat.reduceSub, Nat.reduceLeDiff, Nat.reduceLT, Int.reduceLT, Int.reduceLE, Int.reduceEq, Int.reduceToNat, Int.reduceAdd, Int.reduceSub, Int.reduceNeg, ↓reduceIte, reduceCtorEq, ↓C.catnaplaw4_ConfFaults_r40_w, C.catnaplaw4_ConfFaults_r40_b, ↓C.catnaplaw4_ConfFaults_c1_w, ↓C.catnaplaw4_ConfFaults_r13_w, C.catnaplaw4_ConfFaults_r13_b, ↓C.catnaplaw4_ConfFaults_c2_w, ↓C.catnaplaw4_ConfFaults_r12_w, C.catnaplaw4_ConfFaults_r12_b, ↓C.catnaplaw4_ConfFaults_r16_w, C.catnaplaw4_ConfFaults_r16_b, ↓C.catnaplaw4_ConfFaults_c3_w, ↓C.catnaplaw4_ConfFaults_r15_w, C.catnaplaw4_ConfFaults_r15_b, ↓C.catnaplaw4_ConfFaults_r18_w, C.catnaplaw4_ConfFaults_r18_b, ↓C.catnaplaw4_ConfFaults_r20_w, C.catnaplaw4_ConfFaults_r20_b, ↓C.catnaplaw4_ConfFaults_r22_w, C.catnaplaw4_ConfFaults_r22_b, ↓C.catnaplaw4_ConfFaults_r25_w, C.catnaplaw4_ConfFaults_r25_b, ↓C.catnaplaw4_ConfFaults_c4_w, ↓C.catnaplaw4_ConfFaults_r24_w, C.catnaplaw4_ConfFaults_r24_b, ↓C.catnaplaw4_ConfFaults_r28_w, C.catnaplaw4_ConfFaults_r28_b, ↓C.catnaplaw4_ConfFaults_c5_w, ↓C.catnaplaw4_ConfFaults_r27_w, C.catnaplaw4_ConfFaults_r27_b, ↓C.catnaplaw4_ConfFaults_r30_w, C.catnaplaw4_ConfFaults_r30_b, ↓C.catnaplaw4_ConfFaults_r33_w, C.catnaplaw4_ConfFaults_r33_b, ↓C.catnaplaw4_ConfFaults_c6_w, ↓C.catnaplaw4_ConfFaults_r32_w, C.catnaplaw4_ConfFaults_r32_b, ↓C.catnaplaw4_ConfFaults_r36_w, C.catnaplaw4_ConfFaults_r36_b, ↓C.catnaplaw4_ConfFaults_c7_w, ↓C.catnaplaw4_ConfFaults_r35_w, C.catnaplaw4_ConfFaults_r35_b, ↓C.catnaplaw4_ConfFaults_r38_w, C.catnaplaw4_ConfFaults_r38_b, ↓C.catnaplaw4_ConfFaults_r10_w, C.catnaplaw4_ConfFaults_r10_b, ↓C.catnaplaw4_ConfFaults_c9_w, ↓C.catnaplaw4_ConfFaults_r9_w, C.catnaplaw4_ConfFaults_r9_b, ↓C.catnaplaw4_ConfFaults_c10_w, ↓C.catnaplaw4_ConfFaults_c11_w, ↓C.catnaplaw4_ConfFaults_c12_w, ↓C.catnaplaw4_ConfFaults_r37_w, C.catnaplaw4_ConfFaults_r37_b, ↓C.catnaplaw4_ConfFaults_c13_w, ↓C.catnaplaw4_ConfFaults_c14_w, ↓C.catnaplaw4_ConfFaults_c15_w, ↓C.catnaplaw4_ConfFaults_r34_w, C.catnaplaw4_ConfFaults_r34_b, ↓C.catnaplaw4_ConfFaults_c16_w, ↓C.catnaplaw4_ConfFaults_c17_w, ↓C.catnaplaw4_ConfFaults_c18_w, ↓C.catnaplaw4_ConfFaults_r31_w, C.catnaplaw4_ConfFaults_r31_b, ↓C.catnaplaw4_ConfFaults_c19_w, ↓C.catnaplaw4_ConfFaults_c20_w, ↓C.catnaplaw4_ConfFaults_c21_w, ↓C.catnaplaw4_ConfFaults_r29_w, C.catnaplaw4_ConfFaults_r29_b, ↓C.catnaplaw4_ConfFaults_c22_w, ↓C.catnaplaw4_ConfFaults_c23_w, ↓C.catnaplaw4_ConfFaults_c24_w, ↓C.catnaplaw4_ConfFaults_r26_w, C.catnaplaw4_ConfFaults_r26_b, ↓C.catnaplaw4_ConfFaults_c25_w, ↓C.catnaplaw4_ConfFaults_c26_w, ↓C.catnaplaw4_ConfFaults_c27_w, ↓C.catnaplaw4_ConfFaults_r23_w, C.catnaplaw4_ConfFaults_r23_b, ↓C.catnaplaw4_ConfFaults_c28_w, ↓C.catnaplaw4_ConfFaults_c29_w, ↓C.catnaplaw4_ConfFaults_c30_w, ↓C.catnaplaw4_ConfFaults_r21_w, C.catnaplaw4_ConfFaults_r21_b, ↓C.catnaplaw4_ConfFaults_c31_w, ↓C.catnaplaw4_ConfFaults_c32_w, ↓C.catnaplaw4_ConfFaults_c33_w, ↓C.catnaplaw4_ConfFaults_r19_w, C.catnaplaw4_ConfFaults_r19_b, ↓C.catnaplaw4_ConfFaults_c34_w, ↓C.catnaplaw4_ConfFaults_c35_w, ↓C.catnaplaw4_ConfFaults_c36_w, ↓C.catnaplaw4_ConfFaults_r17_w, C.catnaplaw4_ConfFaults_r17_b, ↓C.catnaplaw4_ConfFaults_c37_w, ↓C.catnaplaw4_ConfFaults_c38_w, ↓C.catnaplaw4_ConfFaults_c39_w, ↓C.catnaplaw4_ConfFaults_r14_w, C.catnaplaw4_ConfFaults_r14_b, ↓C.catnaplaw4_ConfFaults_c40_w, ↓C.catnaplaw4_ConfFaults_c41_w, ↓C.catnaplaw4_ConfFaults_c42_w, ↓C.catnaplaw4_ConfFaults_r11_w, C.catnaplaw4_ConfFaults_r11_b, ↓C.catnaplaw4_ConfFaults_b43_w, ↓C.catnaplaw4_ConfFaults_c44_w, ↓C.catnaplaw4_ConfFaults_r8_w, C.catnaplaw4_ConfFaults_r8_b, ↓C.catnaplaw4_ConfFaults_c45_w, ↓C.catnaplaw4_ConfFaults_r7_w, C.catnaplaw4_ConfFaults_r7_b, ↓C.catnaplaw4_ConfFaults_c46_w, ↓C.catnaplaw4_ConfFaults_r6_w, C.catnaplaw4_ConfFaults_r6_b, ↓C.catnaplaw4_ConfFaults_c47_w, ↓C.catnaplaw4_ConfFaults_r5_w, C.catnaplaw4_ConfFaults_r5_b, ↓C.catnaplaw4_ConfFaults_c48_w, ↓C.catnaplaw4_ConfFaults_r4_w, C.catnaplaw4_ConfFaults_r4_b, ↓C.catnaplaw4_ConfFaults_c49_w, ↓C.catnaplaw4_ConfFaults_r3_w, C.catnaplaw4_ConfFaults_r3_b, ↓C.catnaplaw4_ConfFaults_c50_w, ↓C.catnaplaw4_ConfFaults_c51_w, ↓C.catnaplaw4_ConfFaults_r2_w, C.catnaplaw4_ConfFaults_r2_b, ↓C.catnaplaw4_ConfFaults_c52_w, ↓C.catnaplaw4_ConfFaults_r1_w, C.catnaplaw4_ConfFaults_r1_b, ↓C.catnaplaw4_ConfFaults_c53_w, ↓C.catnaplaw4_ConfFaults_r0_w, C.catnaplaw4_ConfFaults_r0_b, C.catnaplaw4_ConfFaults, Int.cast_ofNat_Int, hb, hzd]
    intro ix hix
    have hg := ASt.le.new s5 ix (.cells (flat (List.replicate 9 ⟨0, false⟩)))
    have hBL2 := BoxL.grow hBL hg
    have hxs : s.h ix = none := fresh_of_le hBL.2.2.2.2.2 hix
    have hxx := ASt.new_self (st := s5) (.cells (flat (List.replicate 9 ⟨0, false⟩))) hix
    have hixL : ix ∉ L2 := fun hm => hBL.2.1.live ix hm hix
    have hib5 : ib ≠ ix := by rintro rfl; rw [hb] at hix; cases hix
    obtain ⟨id, ws, q1, q2, q3, q4, q5⟩ := put_dev (i := d) (j := 4) (c := { S.devs[d] with regs := List.replicate 9 ⟨0, false⟩ }) (v := .sl 2 ix 0 9) (c' := .isl 2 (flat (List.replicate 9 ⟨0, false⟩)) 9) (Lv := [ix]) hBL2 hd (by omega) (.sl (L1 := []) (L2 := []) hxx (RepL.scalars rfl _) (by simp) (by simp) (by simp) .nil) rfl (by simpa using hib5) (by simpa using hxs) (by simpa using hixL)
    cases q1
    have q2' : s5.h id = some (.cells ws) := by
      obtain ⟨id', ws', -, g1, g2, -⟩ := hBL.2.1.inner (i := 3) (sz := 6) (n := S.devs.length) rfl (by omega)
      cases g1
      rw [ASt.new_old g2] at q2
      rw [g2]; exact q2
    rw [show flat (List.replicate 9 ⟨0, false⟩) = [AV.int .u32 0, .bool false, .int .u32 0, .bool false, .int .u32 0, .bool false, .int .u32 0, .bool false, .int .u32 0, .bool false, .int .u32 0, .bool false, .int .u32 0, .bool false, .int .u32 0, .bool false, .int .u32 0, .bool false] from rfl] at q5
    simp only [↓Bp, Bq, Bs, ↓aop.eq_28, ↓aop.eq_30, Nat.reduceEqDiff, Nat.reduceAdd, Nat.reduceMul, Nat.reduceSub, Nat.reduceLeDiff, Nat.reduceLT, Int.reduceLT, Int.reduceLE, Int.reduceEq, Int.reduceToNat, Int.reduceAdd, Int.reduceSub, Int.reduceNeg, ↓reduceIte, reduceCtorEq, ↓C.catnaplaw4_ConfFaults_W, C.catnaplaw4_ConfFaults_B, C.catnaplaw4_ConfFaults, hzd, Int.toNat_natCast, q2', q3]
    exact ⟨8, rfl, _, q5, hf, dev_full hk hd (by simp)⟩
  · simp only [↓Bp, Bq, Bs, Nat.reduceEqDiff, Nat.reduceAdd, Nat.reduceMul, Nat.reduceSub, Nat.reduceLeDiff, Nat.reduceLT, Int.reduceLT, Int.reduceLE, Int.reduceEq, Int.reduceToNat, Int.reduceAdd, Int.reduceSub, Int.reduceNeg, ↓reduceIte, reduceCtorEq, ↓C.catnaplaw4_ConfFaults_W, C.catnaplaw4_ConfFaults_B, C.catnaplaw4_ConfFaults, Int.cast_ofNat_Int, hb, z0]
    refine aop_bs (cs := [.int .i64 0, .int .i64 0, .int .i64 0, .int .i64 0, .int .i64 0]) rfl fun ix hix => ?_
    have hg := ASt.le.new s5 ix (.cells [.int .i64 0, .int .i64 0, .int .i64 0, .int .i64 0, .int .i64 0])
    have hBL2 := BoxL.grow hBL hg
    have hxs : s.h ix = none := fresh_of_le hBL.2.2.2.2.2 hix
    have hxx := ASt.new_self (st := s5) (.cells [.int .i64 0, .int .i64 0, .int .i64 0, .int .i64 0, .int .i64 0]) hix
    have hixL : ix ∉ L2 := fun hm => hBL.2.1.live ix hm hix
    have hib5 : ib ≠ ix := by rintro rfl; rw [hb] at hix; cases hix
    obtain ⟨v, v1, v2, hap⟩ := BoxL.append (b := ib) (o := 0) (new := [.int .u8 109, .sl 1 ix 0 5, .int .u64 0, .int .i64 0, .int .i64 0, .int .i64 0]) (newc := Clk.cells ⟨109, [0, 0, 0, 0, 0], 0, 0, 0, 0⟩) (Ln := [ix]) hBL2 rfl (flatMap_len Clk.cells_len _) (by omega)
      (.one rfl (.sl (L1 := []) (L2 := []) hxx (RepL.scalars rfl _) (by simp) (by simp) (by simp) (RepL.scalars rfl _))) rfl (by simpa using hib5) (by simpa using hxs) (by simpa using hixL)
    cases v1
    simp only [↓Bp, Bq, Bs, Nat.reduceEqDiff, Nat.reduceAdd, Nat.reduceMul, Nat.reduceSub, Nat.reduceLeDiff, Nat.reduceLT, Int.reduceLT, Int.reduceLE, Int.reduceEq, Int.reduceToNat, Int.reduceAdd, Int.reduceSub, Int.reduceNeg, ↓reduceIte, reduceCtorEq, ↓C.catnaplaw4_ConfFaults_W, C.catnaplaw4_ConfFaults_B, C.catnaplaw4_ConfFaults]
    refine hap (aput_one rfl rfl) (fun _ => rfl) (fun _ => rfl) fun v1' i2 t2 hs2 hBx => ?_
    simp only [↓Bp, Bq, Bs, ↓aop.eq_28, ↓aop.eq_30, Nat.reduceEqDiff, Nat.reduceAdd, Nat.reduceMul, Nat.reduceSub, Nat.reduceLeDiff, Nat.reduceLT, Int.reduceLT, Int.reduceLE, Int.reduceEq, Int.reduceToNat, Int.reduceAdd, Int.reduceSub, Int.reduceNeg, ↓reduceIte, reduceCtorEq, ↓C.catnaplaw4_ConfFaults_W, C.catnaplaw4_ConfFaults_B, C.catnaplaw4_ConfFaults, hs2]
    have hv : firstE (clkE (S.clocks.length + 1) ⟨109, [0, 0, 0, 0, 0], 0, 0, 0, 0⟩) 3 = 1 := firstE_stop (k := 0) rfl (by show (1 : Int) ≠ 0; decide) (by omega)
    exact ⟨1, rfl, _, ChipBox.box hBx Soc.add_clk, fine_clk hf (by simp), by rw [more_clk hk (by rw [hv]; decide), hv]⟩
end Go.Proofs.Ytjamidgdhmjhaaa.Cn
