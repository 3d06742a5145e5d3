/- Descriptions: the check, whole. -/
import Derived.Test.YtjamidgdhmjhaaaCnConf7
set_option linter.unusedSimpArgs false
set_option linter.unusedVariables false
namespace Go.Proofs.Ytjamidgdhmjhaaa.Cn
open Go Go.Proofs

theorem clocks_spec {st : ASt} {s : Soc} (hn : s.clocks.length ≤ 4294967296) (hm : ∀ c ∈ s.clocks, c.src.length ≤ 4294967296) :
    ACalls Try.prog F.conf_Clocks [.agg s.cells] st fun r s' => r = gval (s.clocks.map Clk.src) ∧ s' = st :=
  (conf_Clocks_own hn hm).ghost fun r s' h => by
    obtain ⟨s2, h1, h2⟩ := h.frz
    exact ⟨_, st, h1.trans (Ghost.sub h2), rfl, rfl⟩
theorem domains_spec {st : ASt} {s : Soc} (hn : s.doms.length ≤ 4294967296) :
    ACalls Try.prog F.conf_Domains [.agg s.cells] st fun r s' => r = gval (s.doms.map Dom.up) ∧ s' = st :=
  (conf_Domains_own hn).ghost fun r s' h => by
    obtain ⟨s2, h1, h2⟩ := h.frz
    exact ⟨_, st, h1.trans (Ghost.sub h2), rfl, rfl⟩
theorem needs_spec {st : ASt} {s : Soc} (hn : s.devs.length ≤ 4294967296) (hm : ∀ c ∈ s.devs, c.needs.length ≤ 4294967296) :
    ACalls Try.prog F.conf_Needs [.agg s.cells] st fun r s' => r = gval (s.devs.map Dev.needs) ∧ s' = st :=
  (conf_Needs_own hn hm).ghost fun r s' h => by
    obtain ⟨s2, h1, h2⟩ := h.frz
    exact ⟨_, st, h1.trans (Ghost.sub h2), rfl, rfl⟩

def cycE (g : Gr) : Int := if grErr g = 5 then 5 else 0
def clksE (s : Soc) : Int := firstE (ofAll s.clocks fun c => firstE (clkE s.clocks.length c) 3) s.clocks.length
def domsE (s : Soc) : Int := firstE (ofAll s.doms fun d => firstE (domE s.doms.length d) 2) s.doms.length
def rstsE (s : Soc) : Int := firstE (ofAll s.rsts rstErr) s.rsts.length
def devsE (s : Soc) : Int := firstE (ofAll s.devs fun d => firstE (devE s d) 4) s.devs.length
/-- What is wrong with a description, by the eight things that are asked. -/
def confE (s : Soc) : Nat → Int
  | 0 => s.fullE
  | 1 => clksE s
  | 2 => cycE (s.clocks.map Clk.src)
  | 3 => domsE s
  | 4 => cycE (s.doms.map Dom.up)
  | 5 => rstsE s
  | 6 => devsE s
  | _ => cycE (s.devs.map Dev.needs)
def confErr (s : Soc) : Int := firstE (confE s) 8

/-- No row of a clock is longer than any machine. -/
def Soc.fine (s : Soc) : Prop := ∀ c ∈ s.clocks, c.src.length ≤ 4294967296

theorem fullE_zero {s : Soc} : s.fullE = 0 ↔ (s.clocks.length ≤ 12 ∧ s.doms.length ≤ 6 ∧ s.rsts.length ≤ 6 ∧ s.devs.length ≤ 6) ∧ ∀ d ∈ s.devs, d.regs.length ≤ 8 ∧ d.needs.length ≤ 6 := by
  unfold Soc.fullE
  by_cases hb : s.big = true
  · rw [if_pos hb]
    simp only [Soc.big, decide_eq_true_eq] at hb
    constructor
    · intro h; cases h
    · rintro ⟨h, _⟩; omega
  · rw [if_neg hb, firstE_zero]
    simp only [Soc.big, decide_eq_true_eq] at hb
    constructor
    · intro h
      refine ⟨by omega, fun d hd => ?_⟩
      obtain ⟨i, hi, rfl⟩ := List.getElem_of_mem hd
      have := h i hi
      rw [ofAll_at hi, devFull] at this
      split at this
      · cases this
      · omega
    · rintro ⟨_, h⟩ i hi
      rw [ofAll_at hi, devFull, if_neg]
      have := h _ (List.getElem_mem hi)
      omega

section
variable {st : ASt} {j : Nat} {s : Soc} (hj : st.h j = some (.cells s.cells))
include hj
theorem check_1_spec : ACalls Try.prog F.conf_Check_1 [.ptr j 0] st fun r s' => r = .int .i64 (confE s 0) ∧ s' = st := by
  refine calls_of_awp L.conf_Check_1 rfl ?_
  have e : AV.agg (List.take 4 s.cells) = .agg s.cells := rfl
  have l : s.cells.length = 4 := rfl
  simp only [↓Bp, Bq, Bs, ↓aop.eq_28, ↓aop.eq_30, Nat.reduceEqDiff, Nat.reduceAdd, Nat.reduceMul, Nat.reduceSub, Nat.reduceLeDiff, Nat.reduceLT, Int.reduceLT, Int.reduceLE, Int.reduceEq, Int.reduceToNat, Int.reduceAdd, Int.reduceSub, Int.reduceNeg, ↓reduceIte, reduceCtorEq, ↓C.conf_Check_1_W, C.conf_Check_1_B, C.conf_Check_1, hj, l, e]
  refine full_spec.mono ?_
  rintro r s2 ⟨rfl, rfl⟩
  simp only [↓Bp, Bq, Bs, ↓aop.eq_28, ↓aop.eq_30, Nat.reduceEqDiff, Nat.reduceAdd, Nat.reduceMul, Nat.reduceSub, Nat.reduceLeDiff, Nat.reduceLT, Int.reduceLT, Int.reduceLE, Int.reduceEq, Int.reduceToNat, Int.reduceAdd, Int.reduceSub, Int.reduceNeg, ↓reduceIte, reduceCtorEq, ↓C.conf_Check_1_W, C.conf_Check_1_B, C.conf_Check_1, confE]
theorem check_2_1_spec (hn : s.clocks.length ≤ 4294967296) {c : Clk} (hm : c.src.length ≤ 4294967296) : ACalls Try.prog F.conf_Check_2_1 [.agg c.cells, .ptr j 0] st fun r s' => r = .int .i64 (firstE (clkE s.clocks.length c) 3) ∧ s' = st := by
  refine ACalls.gc (Q' := fun r s' => r = .int .i64 (firstE (clkE s.clocks.length c) 3) ∧ st.le s') (calls_of_awp L.conf_Check_2_1 rfl ?_) (fun v s ⟨h, hl⟩ => ⟨st, hl, h, rfl⟩)
  have e : AV.agg (List.take 4 s.cells) = .agg s.cells := rfl
  have l : s.cells.length = 4 := rfl
  have e2 : AV.agg (List.take 6 c.cells) = .agg c.cells := rfl
  have l2 : c.cells.length = 6 := rfl
  simp only [↓Bp, Bq, Bs, ↓aop.eq_28, ↓aop.eq_30, Nat.reduceEqDiff, Nat.reduceAdd, Nat.reduceMul, Nat.reduceSub, Nat.reduceLeDiff, Nat.reduceLT, Int.reduceLT, Int.reduceLE, Int.reduceEq, Int.reduceToNat, Int.reduceAdd, Int.reduceSub, Int.reduceNeg, ↓reduceIte, reduceCtorEq, ↓C.conf_Check_2_1_r0_w, C.conf_Check_2_1_r0_b, C.conf_Check_2_1]
  intro ib hib
  simp only [↓Bp, Bq, Bs, ↓aop.eq_28, ↓aop.eq_30, Nat.reduceEqDiff, Nat.reduceAdd, Nat.reduceMul, Nat.reduceSub, Nat.reduceLeDiff, Nat.reduceLT, Int.reduceLT, Int.reduceLE, Int.reduceEq, Int.reduceToNat, Int.reduceAdd, Int.reduceSub, Int.reduceNeg, ↓reduceIte, reduceCtorEq, ↓C.conf_Check_2_1_W, C.conf_Check_2_1_B, C.conf_Check_2_1, hj, l, e, hib, l2, e2]
  refine (clock_spec hn hm).mono ?_
  rintro r s2 ⟨rfl, rfl⟩
  simp only [↓Bp, Bq, Bs, ↓aop.eq_28, ↓aop.eq_30, Nat.reduceEqDiff, Nat.reduceAdd, Nat.reduceMul, Nat.reduceSub, Nat.reduceLeDiff, Nat.reduceLT, Int.reduceLT, Int.reduceLE, Int.reduceEq, Int.reduceToNat, Int.reduceAdd, Int.reduceSub, Int.reduceNeg, ↓reduceIte, reduceCtorEq, ↓C.conf_Check_2_1_W, C.conf_Check_2_1_B, C.conf_Check_2_1]
  exact ASt.le.new _ _ _
theorem check_4_1_spec (hn : s.doms.length ≤ 4294967296) {c : Dom} : ACalls Try.prog F.conf_Check_4_1 [.agg c.cells, .ptr j 0] st fun r s' => r = .int .i64 (firstE (domE s.doms.length c) 2) ∧ s' = st := by
  refine ACalls.gc (Q' := fun r s' => r = .int .i64 (firstE (domE s.doms.length c) 2) ∧ st.le s') (calls_of_awp L.conf_Check_4_1 rfl ?_) (fun v s ⟨h, hl⟩ => ⟨st, hl, h, rfl⟩)
  have e : AV.agg (List.take 4 s.cells) = .agg s.cells := rfl
  have l : s.cells.length = 4 := rfl
  have e2 : AV.agg (List.take 3 c.cells) = .agg c.cells := rfl
  have l2 : c.cells.length = 3 := rfl
  simp only [↓Bp, Bq, Bs, ↓aop.eq_28, ↓aop.eq_30, Nat.reduceEqDiff, Nat.reduceAdd, Nat.reduceMul, Nat.reduceSub, Nat.reduceLeDiff, Nat.reduceLT, Int.reduceLT, Int.reduceLE, Int.reduceEq, Int.reduceToNat, Int.reduceAdd, Int.reduceSub, Int.reduceNeg, ↓reduceIte, reduceCtorEq, ↓C.conf_Check_4_1_r0_w, C.conf_Check_4_1_r0_b, C.conf_Check_4_1]
  intro ib hib
  simp only [↓Bp, Bq, Bs, ↓aop.eq_28, ↓aop.eq_30, Nat.reduceEqDiff, Nat.reduceAdd, Nat.reduceMul, Nat.reduceSub, Nat.reduceLeDiff, Nat.reduceLT, Int.reduceLT, Int.reduceLE, Int.reduceEq, Int.reduceToNat, Int.reduceAdd, Int.reduceSub, Int.reduceNeg, ↓reduceIte, reduceCtorEq, ↓C.conf_Check_4_1_W, C.conf_Check_4_1_B, C.conf_Check_4_1, hj, l, e, hib, l2, e2]
  refine (domain_spec hn).mono ?_
  rintro r s2 ⟨rfl, rfl⟩
  simp only [↓Bp, Bq, Bs, ↓aop.eq_28, ↓aop.eq_30, Nat.reduceEqDiff, Nat.reduceAdd, Nat.reduceMul, Nat.reduceSub, Nat.reduceLeDiff, Nat.reduceLT, Int.reduceLT, Int.reduceLE, Int.reduceEq, Int.reduceToNat, Int.reduceAdd, Int.reduceSub, Int.reduceNeg, ↓reduceIte, reduceCtorEq, ↓C.conf_Check_4_1_W, C.conf_Check_4_1_B, C.conf_Check_4_1]
  exact ASt.le.new _ _ _
theorem check_7_1_spec (h1 : s.clocks.length ≤ 4294967296) (h2 : s.doms.length ≤ 4294967296) (h3 : s.rsts.length ≤ 4294967296) (h4 : s.devs.length ≤ 4294967296) {c : Dev} (hm : c.needs.length ≤ 4294967296) : ACalls Try.prog F.conf_Check_7_1 [.agg c.cells, .ptr j 0] st fun r s' => r = .int .i64 (firstE (devE s c) 4) ∧ s' = st := by
  refine ACalls.gc (Q' := fun r s' => r = .int .i64 (firstE (devE s c) 4) ∧ st.le s') (calls_of_awp L.conf_Check_7_1 rfl ?_) (fun v s ⟨h, hl⟩ => ⟨st, hl, h, rfl⟩)
  have e : AV.agg (List.take 4 s.cells) = .agg s.cells := rfl
  have l : s.cells.length = 4 := rfl
  have e2 : AV.agg (List.take 6 c.cells) = .agg c.cells := rfl
  have l2 : c.cells.length = 6 := rfl
  simp only [↓Bp, Bq, Bs, ↓aop.eq_28, ↓aop.eq_30, Nat.reduceEqDiff, Nat.reduceAdd, Nat.reduceMul, Nat.reduceSub, Nat.reduceLeDiff, Nat.reduceLT, Int.reduceLT, Int.reduceLE, Int.reduceEq, Int.reduceToNat, Int.reduceAdd, Int.reduceSub, Int.reduceNeg, ↓reduceIte, reduceCtorEq, ↓C.conf_Check_7_1_r0_w, C.conf_Check_7_1_r0_b, C.conf_Check_7_1]
  intro ib hib
  simp only [↓Bp, Bq, Bs, ↓aop.eq_28, ↓aop.eq_30, Nat.reduceEqDiff, Nat.reduceAdd, Nat.reduceMul, Nat.reduceSub, Nat.reduceLeDiff, Nat.reduceLT, Int.reduceLT, Int.reduceLE, Int.reduceEq, Int.reduceToNat, Int.reduceAdd, Int.reduceSub, Int.reduceNeg, ↓reduceIte, reduceCtorEq, ↓C.conf_Check_7_1_W, C.conf_Check_7_1_B, C.conf_Check_7_1, hj, l, e, hib, l2, e2]
  refine (device_spec h1 h2 h3 h4 hm).mono ?_
  rintro r s2 ⟨rfl, rfl⟩
  simp only [↓Bp, Bq, Bs, ↓aop.eq_28, ↓aop.eq_30, Nat.reduceEqDiff, Nat.reduceAdd, Nat.reduceMul, Nat.reduceSub, Nat.reduceLeDiff, Nat.reduceLT, Int.reduceLT, Int.reduceLE, Int.reduceEq, Int.reduceToNat, Int.reduceAdd, Int.reduceSub, Int.reduceNeg, ↓reduceIte, reduceCtorEq, ↓C.conf_Check_7_1_W, C.conf_Check_7_1_B, C.conf_Check_7_1]
  exact ASt.le.new _ _ _
theorem check_2_spec (hn : s.clocks.length ≤ 4294967296) (hm : s.fine) : ACalls Try.prog F.conf_Check_2 [.ptr j 0] st fun r s' => r = .int .i64 (confE s 1) ∧ s' = st := by
  refine calls_of_awp L.conf_Check_2 rfl ?_
  simp only [↓Bp, Bq, Bs, ↓aop.eq_28, ↓aop.eq_30, Nat.reduceEqDiff, Nat.reduceAdd, Nat.reduceMul, Nat.reduceSub, Nat.reduceLeDiff, Nat.reduceLT, Int.reduceLT, Int.reduceLE, Int.reduceEq, Int.reduceToNat, Int.reduceAdd, Int.reduceSub, Int.reduceNeg, ↓reduceIte, reduceCtorEq, ↓C.conf_Check_2_W, C.conf_Check_2_B, C.conf_Check_2, hj, Soc.cells, Soc.clkV]
  refine (conf_each_api_Clock_spec (e := ofAll s.clocks fun c => firstE (clkE s.clocks.length c) 3) rfl hn fun i hi _ => ?_).mono ?_
  · rw [ofAll_at hi]
    exact check_2_1_spec hj hn (hm _ (List.getElem_mem hi))
  rintro r s2 ⟨rfl, rfl⟩
  simp only [↓Bp, Bq, Bs, ↓aop.eq_28, ↓aop.eq_30, Nat.reduceEqDiff, Nat.reduceAdd, Nat.reduceMul, Nat.reduceSub, Nat.reduceLeDiff, Nat.reduceLT, Int.reduceLT, Int.reduceLE, Int.reduceEq, Int.reduceToNat, Int.reduceAdd, Int.reduceSub, Int.reduceNeg, ↓reduceIte, reduceCtorEq, ↓C.conf_Check_2_W, C.conf_Check_2_B, C.conf_Check_2, confE, clksE]
theorem check_4_spec (hn : s.doms.length ≤ 4294967296) : ACalls Try.prog F.conf_Check_4 [.ptr j 0] st fun r s' => r = .int .i64 (confE s 3) ∧ s' = st := by
  refine calls_of_awp L.conf_Check_4 rfl ?_
  simp only [↓Bp, Bq, Bs, ↓aop.eq_28, ↓aop.eq_30, Nat.reduceEqDiff, Nat.reduceAdd, Nat.reduceMul, Nat.reduceSub, Nat.reduceLeDiff, Nat.reduceLT, Int.reduceLT, Int.reduceLE, Int.reduceEq, Int.reduceToNat, Int.reduceAdd, Int.reduceSub, Int.reduceNeg, ↓reduceIte, reduceCtorEq, ↓C.conf_Check_4_W, C.conf_Check_4_B, C.conf_Check_4, hj, Soc.cells, Soc.domV]
  refine (conf_each_api_Domain_spec (e := ofAll s.doms fun c => firstE (domE s.doms.length c) 2) rfl hn fun i hi _ => ?_).mono ?_
  · rw [ofAll_at hi]
    exact check_4_1_spec hj hn
  rintro r s2 ⟨rfl, rfl⟩
  simp only [↓Bp, Bq, Bs, ↓aop.eq_28, ↓aop.eq_30, Nat.reduceEqDiff, Nat.reduceAdd, Nat.reduceMul, Nat.reduceSub, Nat.reduceLeDiff, Nat.reduceLT, Int.reduceLT, Int.reduceLE, Int.reduceEq, Int.reduceToNat, Int.reduceAdd, Int.reduceSub, Int.reduceNeg, ↓reduceIte, reduceCtorEq, ↓C.conf_Check_4_W, C.conf_Check_4_B, C.conf_Check_4, confE, domsE]
theorem check_6_spec (hn : s.rsts.length ≤ 4294967296) : ACalls Try.prog F.conf_Check_6 [.ptr j 0] st fun r s' => r = .int .i64 (confE s 5) ∧ s' = st := by
  refine calls_of_awp L.conf_Check_6 rfl ?_
  simp only [↓Bp, Bq, Bs, ↓aop.eq_28, ↓aop.eq_30, Nat.reduceEqDiff, Nat.reduceAdd, Nat.reduceMul, Nat.reduceSub, Nat.reduceLeDiff, Nat.reduceLT, Int.reduceLT, Int.reduceLE, Int.reduceEq, Int.reduceToNat, Int.reduceAdd, Int.reduceSub, Int.reduceNeg, ↓reduceIte, reduceCtorEq, ↓C.conf_Check_6_W, C.conf_Check_6_B, C.conf_Check_6, hj, Soc.cells, Soc.rstV]
  refine (conf_each_api_Reset_spec (e := ofAll s.rsts rstErr) rfl hn fun i hi _ => ?_).mono ?_
  · rw [ofAll_at hi]
    exact reset_spec
  rintro r s2 ⟨rfl, rfl⟩
  simp only [↓Bp, Bq, Bs, ↓aop.eq_28, ↓aop.eq_30, Nat.reduceEqDiff, Nat.reduceAdd, Nat.reduceMul, Nat.reduceSub, Nat.reduceLeDiff, Nat.reduceLT, Int.reduceLT, Int.reduceLE, Int.reduceEq, Int.reduceToNat, Int.reduceAdd, Int.reduceSub, Int.reduceNeg, ↓reduceIte, reduceCtorEq, ↓C.conf_Check_6_W, C.conf_Check_6_B, C.conf_Check_6, confE, rstsE]
theorem check_7_spec (h1 : s.clocks.length ≤ 4294967296) (h2 : s.doms.length ≤ 4294967296) (h3 : s.rsts.length ≤ 4294967296) (h4 : s.devs.length ≤ 4294967296) (hm : ∀ d ∈ s.devs, d.needs.length ≤ 4294967296) : ACalls Try.prog F.conf_Check_7 [.ptr j 0] st fun r s' => r = .int .i64 (confE s 6) ∧ s' = st := by
  refine calls_of_awp L.conf_Check_7 rfl ?_
  simp only [↓Bp, Bq, Bs, ↓aop.eq_28, ↓aop.eq_30, Nat.reduceEqDiff, Nat.reduceAdd, Nat.reduceMul, Nat.reduceSub, Nat.reduceLeDiff, Nat.reduceLT, Int.reduceLT, Int.reduceLE, Int.reduceEq, Int.reduceToNat, Int.reduceAdd, Int.reduceSub, Int.reduceNeg, ↓reduceIte, reduceCtorEq, ↓C.conf_Check_7_W, C.conf_Check_7_B, C.conf_Check_7, hj, Soc.cells, Soc.devV]
  refine (conf_each_api_Device_spec (e := ofAll s.devs fun c => firstE (devE s c) 4) rfl h4 fun i hi _ => ?_).mono ?_
  · rw [ofAll_at hi]
    exact check_7_1_spec hj h1 h2 h3 h4 (hm _ (List.getElem_mem hi))
  rintro r s2 ⟨rfl, rfl⟩
  simp only [↓Bp, Bq, Bs, ↓aop.eq_28, ↓aop.eq_30, Nat.reduceEqDiff, Nat.reduceAdd, Nat.reduceMul, Nat.reduceSub, Nat.reduceLeDiff, Nat.reduceLT, Int.reduceLT, Int.reduceLE, Int.reduceEq, Int.reduceToNat, Int.reduceAdd, Int.reduceSub, Int.reduceNeg, ↓reduceIte, reduceCtorEq, ↓C.conf_Check_7_W, C.conf_Check_7_B, C.conf_Check_7, confE, devsE]
theorem check_3_spec (hn : s.clocks.length ≤ 4294967296) (hm : s.fine) : ACalls Try.prog F.conf_Check_3 [.ptr j 0] st fun r s' => r = .int .i64 (confE s 2) ∧ s' = st := by
  refine calls_of_awp L.conf_Check_3 rfl ?_
  have e : AV.agg (List.take 4 s.cells) = .agg s.cells := rfl
  have l : s.cells.length = 4 := rfl
  simp only [↓Bp, Bq, Bs, ↓aop.eq_28, ↓aop.eq_30, Nat.reduceEqDiff, Nat.reduceAdd, Nat.reduceMul, Nat.reduceSub, Nat.reduceLeDiff, Nat.reduceLT, Int.reduceLT, Int.reduceLE, Int.reduceEq, Int.reduceToNat, Int.reduceAdd, Int.reduceSub, Int.reduceNeg, ↓reduceIte, reduceCtorEq, ↓C.conf_Check_3_W, C.conf_Check_3_B, C.conf_Check_3, hj, l, e]
  refine (clocks_spec hn hm).mono ?_
  rintro r s2 ⟨rfl, rfl⟩
  simp only [↓Bp, Bq, Bs, ↓aop.eq_28, ↓aop.eq_30, Nat.reduceEqDiff, Nat.reduceAdd, Nat.reduceMul, Nat.reduceSub, Nat.reduceLeDiff, Nat.reduceLT, Int.reduceLT, Int.reduceLE, Int.reduceEq, Int.reduceToNat, Int.reduceAdd, Int.reduceSub, Int.reduceNeg, ↓reduceIte, reduceCtorEq, ↓C.conf_Check_3_W, C.conf_Check_3_B, C.conf_Check_3, gval]
  refine (cycle_spec ⟨by simp; omega, fun r hr => ?_⟩).mono ?_
  · obtain ⟨c, hc, rfl⟩ := List.mem_map.mp hr
    have := hm c hc; omega
  rintro r s2 ⟨rfl, rfl⟩
  simp only [↓Bp, Bq, Bs, ↓aop.eq_28, ↓aop.eq_30, Nat.reduceEqDiff, Nat.reduceAdd, Nat.reduceMul, Nat.reduceSub, Nat.reduceLeDiff, Nat.reduceLT, Int.reduceLT, Int.reduceLE, Int.reduceEq, Int.reduceToNat, Int.reduceAdd, Int.reduceSub, Int.reduceNeg, ↓reduceIte, reduceCtorEq, ↓C.conf_Check_3_W, C.conf_Check_3_B, C.conf_Check_3, confE, cycE]
theorem check_5_spec (hn : s.doms.length ≤ 4294967296) : ACalls Try.prog F.conf_Check_5 [.ptr j 0] st fun r s' => r = .int .i64 (confE s 4) ∧ s' = st := by
  refine calls_of_awp L.conf_Check_5 rfl ?_
  have e : AV.agg (List.take 4 s.cells) = .agg s.cells := rfl
  have l : s.cells.length = 4 := rfl
  simp only [↓Bp, Bq, Bs, ↓aop.eq_28, ↓aop.eq_30, Nat.reduceEqDiff, Nat.reduceAdd, Nat.reduceMul, Nat.reduceSub, Nat.reduceLeDiff, Nat.reduceLT, Int.reduceLT, Int.reduceLE, Int.reduceEq, Int.reduceToNat, Int.reduceAdd, Int.reduceSub, Int.reduceNeg, ↓reduceIte, reduceCtorEq, ↓C.conf_Check_5_W, C.conf_Check_5_B, C.conf_Check_5, hj, l, e]
  refine (domains_spec hn).mono ?_
  rintro r s2 ⟨rfl, rfl⟩
  simp only [↓Bp, Bq, Bs, ↓aop.eq_28, ↓aop.eq_30, Nat.reduceEqDiff, Nat.reduceAdd, Nat.reduceMul, Nat.reduceSub, Nat.reduceLeDiff, Nat.reduceLT, Int.reduceLT, Int.reduceLE, Int.reduceEq, Int.reduceToNat, Int.reduceAdd, Int.reduceSub, Int.reduceNeg, ↓reduceIte, reduceCtorEq, ↓C.conf_Check_5_W, C.conf_Check_5_B, C.conf_Check_5, gval]
  refine (cycle_spec ⟨by simp; omega, fun r hr => ?_⟩).mono ?_
  · obtain ⟨c, hc, rfl⟩ := List.mem_map.mp hr
    unfold Dom.up; split <;> simp
  rintro r s2 ⟨rfl, rfl⟩
  simp only [↓Bp, Bq, Bs, ↓aop.eq_28, ↓aop.eq_30, Nat.reduceEqDiff, Nat.reduceAdd, Nat.reduceMul, Nat.reduceSub, Nat.reduceLeDiff, Nat.reduceLT, Int.reduceLT, Int.reduceLE, Int.reduceEq, Int.reduceToNat, Int.reduceAdd, Int.reduceSub, Int.reduceNeg, ↓reduceIte, reduceCtorEq, ↓C.conf_Check_5_W, C.conf_Check_5_B, C.conf_Check_5, confE, cycE]
theorem check_8_spec (hn : s.devs.length ≤ 4294967296) (hm : ∀ d ∈ s.devs, d.needs.length ≤ 4294967296) : ACalls Try.prog F.conf_Check_8 [.ptr j 0] st fun r s' => r = .int .i64 (confE s 7) ∧ s' = st := by
  refine calls_of_awp L.conf_Check_8 rfl ?_
  have e : AV.agg (List.take 4 s.cells) = .agg s.cells := rfl
  have l : s.cells.length = 4 := rfl
  simp only [↓Bp, Bq, Bs, ↓aop.eq_28, ↓aop.eq_30, Nat.reduceEqDiff, Nat.reduceAdd, Nat.reduceMul, Nat.reduceSub, Nat.reduceLeDiff, Nat.reduceLT, Int.reduceLT, Int.reduceLE, Int.reduceEq, Int.reduceToNat, Int.reduceAdd, Int.reduceSub, Int.reduceNeg, ↓reduceIte, reduceCtorEq, ↓C.conf_Check_8_W, C.conf_Check_8_B, C.conf_Check_8, hj, l, e]
  refine (needs_spec hn hm).mono ?_
  rintro r s2 ⟨rfl, rfl⟩
  simp only [↓Bp, Bq, Bs, ↓aop.eq_28, ↓aop.eq_30, Nat.reduceEqDiff, Nat.reduceAdd, Nat.reduceMul, Nat.reduceSub, Nat.reduceLeDiff, Nat.reduceLT, Int.reduceLT, Int.reduceLE, Int.reduceEq, Int.reduceToNat, Int.reduceAdd, Int.reduceSub, Int.reduceNeg, ↓reduceIte, reduceCtorEq, ↓C.conf_Check_8_W, C.conf_Check_8_B, C.conf_Check_8, gval]
  refine (cycle_spec ⟨by simp; omega, fun r hr => ?_⟩).mono ?_
  · obtain ⟨c, hc, rfl⟩ := List.mem_map.mp hr
    have := hm c hc; omega
  rintro r s2 ⟨rfl, rfl⟩
  simp only [↓Bp, Bq, Bs, ↓aop.eq_28, ↓aop.eq_30, Nat.reduceEqDiff, Nat.reduceAdd, Nat.reduceMul, Nat.reduceSub, Nat.reduceLeDiff, Nat.reduceLT, Int.reduceLT, Int.reduceLE, Int.reduceEq, Int.reduceToNat, Int.reduceAdd, Int.reduceSub, Int.reduceNeg, ↓reduceIte, reduceCtorEq, ↓C.conf_Check_8_W, C.conf_Check_8_B, C.conf_Check_8, confE, cycE]
end

theorem conf_check_spec {st : ASt} {s : Soc} (hm : s.fine) : ACalls Try.prog F.conf_Check [.agg s.cells] st fun r s' => r = .int .i64 (confErr s) ∧ s' = st := by
  refine ACalls.gc (Q' := fun r s' => r = .int .i64 (confErr s) ∧ st.le s') (calls_of_awp L.conf_Check rfl ?_) (fun v s ⟨h, hl⟩ => ⟨st, hl, h, rfl⟩)
  simp only [↓Bp, Bq, Bs, ↓aop.eq_28, ↓aop.eq_30, Nat.reduceEqDiff, Nat.reduceAdd, Nat.reduceMul, Nat.reduceSub, Nat.reduceLeDiff, Nat.reduceLT, Int.reduceLT, Int.reduceLE, Int.reduceEq, Int.reduceToNat, Int.reduceAdd, Int.reduceSub, Int.reduceNeg, ↓reduceIte, reduceCtorEq, ↓C.conf_Check_r0_w, C.conf_Check_r0_b, C.conf_Check]
  intro j hj
  simp only [↓Bp, Bq, Bs, ↓aop.eq_28, ↓aop.eq_30, Nat.reduceEqDiff, Nat.reduceAdd, Nat.reduceMul, Nat.reduceSub, Nat.reduceLeDiff, Nat.reduceLT, Int.reduceLT, Int.reduceLE, Int.reduceEq, Int.reduceToNat, Int.reduceAdd, Int.reduceSub, Int.reduceNeg, ↓reduceIte, reduceCtorEq, ↓C.conf_Check_W, C.conf_Check_B, C.conf_Check]
  rintro k ⟨hk, hkj⟩
  have hk' : (st.new j (.cells s.cells)).h k = none := by rw [ASt.new_ne _ hkj]; exact hk
  have g1 := ASt.new_old (id := k) (o := .cells [.fn F.conf_Check_1 [.ptr j 0], .fn F.conf_Check_2 [.ptr j 0], .fn F.conf_Check_3 [.ptr j 0], .fn F.conf_Check_4 [.ptr j 0], .fn F.conf_Check_5 [.ptr j 0], .fn F.conf_Check_6 [.ptr j 0], .fn F.conf_Check_7 [.ptr j 0], .fn F.conf_Check_8 [.ptr j 0]]) (ASt.new_self (st := st) (.cells s.cells) hj)
  refine (first_spec (e := confE s) (ASt.new_self _ hk') rfl (by simp) ?_).mono ?_
  · intro x hx h0
    have hf : 0 < x → _ := fun h => fullE_zero.mp (firstE_zero.mp h0 0 h)
    match x, hx with
    | 0, _ => exact ⟨_, _, rfl, by kernel_rfl, check_1_spec g1⟩
    | 1, _ => have := hf (by omega); exact ⟨_, _, rfl, by kernel_rfl, check_2_spec g1 (by omega) hm⟩
    | 2, _ => have := hf (by omega); exact ⟨_, _, rfl, by kernel_rfl, check_3_spec g1 (by omega) hm⟩
    | 3, _ => have := hf (by omega); exact ⟨_, _, rfl, by kernel_rfl, check_4_spec g1 (by omega)⟩
    | 4, _ => have := hf (by omega); exact ⟨_, _, rfl, by kernel_rfl, check_5_spec g1 (by omega)⟩
    | 5, _ => have := hf (by omega); exact ⟨_, _, rfl, by kernel_rfl, check_6_spec g1 (by omega)⟩
    | 6, _ => have := hf (by omega); exact ⟨_, _, rfl, by kernel_rfl, check_7_spec g1 (by omega) (by omega) (by omega) (by omega) fun d hd => by have := this.2 d hd; omega⟩
    | 7, _ => have := hf (by omega); exact ⟨_, _, rfl, by kernel_rfl, check_8_spec g1 (by omega) fun d hd => by have := this.2 d hd; omega⟩
  rintro r s2 ⟨rfl, rfl⟩
  simp only [↓Bp, Bq, Bs, ↓aop.eq_28, ↓aop.eq_30, Nat.reduceEqDiff, Nat.reduceAdd, Nat.reduceMul, Nat.reduceSub, Nat.reduceLeDiff, Nat.reduceLT, Int.reduceLT, Int.reduceLE, Int.reduceEq, Int.reduceToNat, Int.reduceAdd, Int.reduceSub, Int.reduceNeg, ↓reduceIte, reduceCtorEq, ↓C.conf_Check_W, C.conf_Check_B, C.conf_Check, confErr]
  exact (ASt.le.new _ _ _).trans (ASt.le.new _ _ _)

end Go.Proofs.Ytjamidgdhmjhaaa.Cn
