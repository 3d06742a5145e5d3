/- Descriptions: too much of anything; cycles. -/
import Derived.Test.YtjamidgdhmjhaaaCnConf5
set_option linter.unusedSimpArgs false
set_option linter.unusedVariables false
namespace Go.Proofs.Ytjamidgdhmjhaaa.Cn
open Go Go.Proofs

theorem cycle_spec {st : ASt} {g : Gr} (hg : g.few) : ACalls Try.prog F.conf_cycle [.isl 1 (g.map row) g.length] st fun r s => r = .int .i64 (if grErr g = 5 then 5 else 0) ∧ s = st := by
  refine calls_of_awp L.conf_cycle rfl ?_
  simp only [↓Bp, Bq, Bs, ↓aop.eq_28, ↓aop.eq_30, Nat.reduceEqDiff, Nat.reduceAdd, Nat.reduceMul, Nat.reduceSub, Nat.reduceLeDiff, Nat.reduceLT, Int.reduceLT, Int.reduceLE, Int.reduceEq, Int.reduceToNat, Int.reduceAdd, Int.reduceSub, Int.reduceNeg, ↓reduceIte, reduceCtorEq, ↓C.conf_cycle_W, C.conf_cycle_B, C.conf_cycle]
  refine (check_spec hg).mono ?_
  rintro r s ⟨rfl, rfl⟩
  simp only [↓Bp, Bq, Bs, ↓aop.eq_28, ↓aop.eq_30, Nat.reduceEqDiff, Nat.reduceAdd, Nat.reduceMul, Nat.reduceSub, Nat.reduceLeDiff, Nat.reduceLT, Int.reduceLT, Int.reduceLE, Int.reduceEq, Int.reduceToNat, Int.reduceAdd, Int.reduceSub, Int.reduceNeg, ↓reduceIte, reduceCtorEq, ↓C.conf_cycle_W, C.conf_cycle_B, C.conf_cycle]
  refine when_spec.mono ?_
  rintro r s ⟨rfl, rfl⟩
  simp only [↓Bp, Bq, Bs, ↓aop.eq_28, ↓aop.eq_30, Nat.reduceEqDiff, Nat.reduceAdd, Nat.reduceMul, Nat.reduceSub, Nat.reduceLeDiff, Nat.reduceLT, Int.reduceLT, Int.reduceLE, Int.reduceEq, Int.reduceToNat, Int.reduceAdd, Int.reduceSub, Int.reduceNeg, ↓reduceIte, reduceCtorEq, ↓C.conf_cycle_W, C.conf_cycle_B, C.conf_cycle, decide_eq_true_eq]

/-- Is a device of too much? -/
def devFull (d : Dev) : Int := if 8 < d.regs.length ∨ 6 < d.needs.length then 8 else 0
theorem full_1_spec {st : ASt} {d : Dev} : ACalls Try.prog F.conf_full_1 [.agg d.cells] st fun r s => r = .int .i64 (devFull d) ∧ s = st := by
  refine ACalls.gc (Q' := fun r s => r = .int .i64 (devFull d) ∧ st.le s) (calls_of_awp L.conf_full_1 rfl ?_) (fun v s ⟨h, hl⟩ => ⟨st, hl, h, rfl⟩)
  simp only [↓Bp, Bq, Bs, ↓aop.eq_28, ↓aop.eq_30, Nat.reduceEqDiff, Nat.reduceAdd, Nat.reduceMul, Nat.reduceSub, Nat.reduceLeDiff, Nat.reduceLT, Int.reduceLT, Int.reduceLE, Int.reduceEq, Int.reduceToNat, Int.reduceAdd, Int.reduceSub, Int.reduceNeg, ↓reduceIte, reduceCtorEq, ↓C.conf_full_1_W, C.conf_full_1_B, C.conf_full_1, Dev.cells, row]
  intro id hid
  by_cases h1 : (8 : Int) < (d.regs.length : Nat)
  · have h1' : 8 < d.regs.length := by omega
    simp only [↓Bp, Bq, Bs, ↓aop.eq_28, ↓aop.eq_30, Nat.reduceEqDiff, Nat.reduceAdd, Nat.reduceMul, Nat.reduceSub, Nat.reduceLeDiff, Nat.reduceLT, Int.reduceLT, Int.reduceLE, Int.reduceEq, Int.reduceToNat, Int.reduceAdd, Int.reduceSub, Int.reduceNeg, ↓reduceIte, reduceCtorEq, ↓C.conf_full_1_W, C.conf_full_1_B, C.conf_full_1, hid, h1, gt_iff_lt]
    refine when_spec.mono ?_
    rintro r s ⟨rfl, rfl⟩
    simp only [↓Bp, Bq, Bs, ↓aop.eq_28, ↓aop.eq_30, Nat.reduceEqDiff, Nat.reduceAdd, Nat.reduceMul, Nat.reduceSub, Nat.reduceLeDiff, Nat.reduceLT, Int.reduceLT, Int.reduceLE, Int.reduceEq, Int.reduceToNat, Int.reduceAdd, Int.reduceSub, Int.reduceNeg, ↓reduceIte, reduceCtorEq, ↓C.conf_full_1_W, C.conf_full_1_B, C.conf_full_1, devFull, h1', true_or]
    exact ASt.le.new _ _ _
  · have h1' : ¬ 8 < d.regs.length := by omega
    have e : ((6 : Int) < (d.needs.length : Nat)) ↔ 6 < d.needs.length := by omega
    simp only [↓Bp, Bq, Bs, ↓aop.eq_28, ↓aop.eq_30, Nat.reduceEqDiff, Nat.reduceAdd, Nat.reduceMul, Nat.reduceSub, Nat.reduceLeDiff, Nat.reduceLT, Int.reduceLT, Int.reduceLE, Int.reduceEq, Int.reduceToNat, Int.reduceAdd, Int.reduceSub, Int.reduceNeg, ↓reduceIte, reduceCtorEq, ↓C.conf_full_1_W, C.conf_full_1_B, C.conf_full_1, hid, h1, gt_iff_lt]
    refine when_spec.mono ?_
    rintro r s ⟨rfl, rfl⟩
    simp only [↓Bp, Bq, Bs, ↓aop.eq_28, ↓aop.eq_30, Nat.reduceEqDiff, Nat.reduceAdd, Nat.reduceMul, Nat.reduceSub, Nat.reduceLeDiff, Nat.reduceLT, Int.reduceLT, Int.reduceLE, Int.reduceEq, Int.reduceToNat, Int.reduceAdd, Int.reduceSub, Int.reduceNeg, ↓reduceIte, reduceCtorEq, ↓C.conf_full_1_W, C.conf_full_1_B, C.conf_full_1, devFull, h1', false_or, e, decide_eq_true_eq]
    exact ASt.le.new _ _ _

/-- What is told of the items of a list, one by one. -/
def ofAll {α : Type} (l : List α) (f : α → Int) (i : Nat) : Int := (l[i]?).elim 0 f
theorem ofAll_at {α : Type} {l : List α} {f : α → Int} {i : Nat} (h : i < l.length) : ofAll l f i = f l[i] := by simp [ofAll, h]
/-- Is there too much of anything? -/
def Soc.big (s : Soc) : Bool := decide (12 < s.clocks.length ∨ 6 < s.doms.length ∨ 6 < s.rsts.length ∨ 6 < s.devs.length)
def Soc.fullE (s : Soc) : Int := if s.big = true then 8 else firstE (ofAll s.devs devFull) s.devs.length
theorem full_spec {st : ASt} {s : Soc} : ACalls Try.prog F.conf_full [.agg s.cells] st fun r s' => r = .int .i64 s.fullE ∧ s' = st := by
  refine ACalls.gc (Q' := fun r s' => r = .int .i64 s.fullE ∧ st.le s') (calls_of_awp L.conf_full rfl ?_) (fun v s ⟨h, hl⟩ => ⟨st, hl, h, rfl⟩)
  simp only [↓Bp, Bq, Bs, ↓aop.eq_28, ↓aop.eq_30, Nat.reduceEqDiff, Nat.reduceAdd, Nat.reduceMul, Nat.reduceSub, Nat.reduceLeDiff, Nat.reduceLT, Int.reduceLT, Int.reduceLE, Int.reduceEq, Int.reduceToNat, Int.reduceAdd, Int.reduceSub, Int.reduceNeg, ↓reduceIte, reduceCtorEq, ↓C.conf_full_r0_w, C.conf_full_r0_b, C.conf_full]
  intro id hid
  rw [Soc.cells]
  have hbig : ∀ p q r t : Bool, p = decide ((12 : Int) < (s.clocks.length : Nat)) → q = decide ((6 : Int) < (s.doms.length : Nat)) → r = decide ((6 : Int) < (s.rsts.length : Nat)) → t = decide ((6 : Int) < (s.devs.length : Nat)) → s.big = (p || q || r || t) := by
    rintro p q r t rfl rfl rfl rfl
    have e1 : ((12 : Int) < (s.clocks.length : Nat)) ↔ 12 < s.clocks.length := by omega
    have e2 : ((6 : Int) < (s.doms.length : Nat)) ↔ 6 < s.doms.length := by omega
    have e3 : ((6 : Int) < (s.rsts.length : Nat)) ↔ 6 < s.rsts.length := by omega
    have e4 : ((6 : Int) < (s.devs.length : Nat)) ↔ 6 < s.devs.length := by omega
    simp only [Soc.big, e1, e2, e3, e4, Bool.decide_or, Bool.or_assoc]
  have hb := hbig _ _ _ _ rfl rfl rfl rfl
  by_cases h1 : (12 : Int) < (s.clocks.length : Nat)
  · simp only [↓Bp, Bq, Bs, ↓aop.eq_28, ↓aop.eq_30, Nat.reduceEqDiff, Nat.reduceAdd, Nat.reduceMul, Nat.reduceSub, Nat.reduceLeDiff, Nat.reduceLT, Int.reduceLT, Int.reduceLE, Int.reduceEq, Int.reduceToNat, Int.reduceAdd, Int.reduceSub, Int.reduceNeg, ↓reduceIte, reduceCtorEq, ↓C.conf_full_W, C.conf_full_B, C.conf_full, Soc.clkV, Soc.domV, Soc.rstV, Soc.devV, hid, h1, gt_iff_lt]
    exact ⟨by simp [Soc.fullE, hb, h1], ASt.le.new _ _ _⟩
  by_cases h2 : (6 : Int) < (s.doms.length : Nat)
  · simp only [↓Bp, Bq, Bs, ↓aop.eq_28, ↓aop.eq_30, Nat.reduceEqDiff, Nat.reduceAdd, Nat.reduceMul, Nat.reduceSub, Nat.reduceLeDiff, Nat.reduceLT, Int.reduceLT, Int.reduceLE, Int.reduceEq, Int.reduceToNat, Int.reduceAdd, Int.reduceSub, Int.reduceNeg, ↓reduceIte, reduceCtorEq, ↓C.conf_full_W, C.conf_full_B, C.conf_full, Soc.clkV, Soc.domV, Soc.rstV, Soc.devV, hid, h1, h2, gt_iff_lt]
    exact ⟨by simp [Soc.fullE, hb, h2], ASt.le.new _ _ _⟩
  by_cases h3 : (6 : Int) < (s.rsts.length : Nat)
  · simp only [↓Bp, Bq, Bs, ↓aop.eq_28, ↓aop.eq_30, Nat.reduceEqDiff, Nat.reduceAdd, Nat.reduceMul, Nat.reduceSub, Nat.reduceLeDiff, Nat.reduceLT, Int.reduceLT, Int.reduceLE, Int.reduceEq, Int.reduceToNat, Int.reduceAdd, Int.reduceSub, Int.reduceNeg, ↓reduceIte, reduceCtorEq, ↓C.conf_full_W, C.conf_full_B, C.conf_full, Soc.clkV, Soc.domV, Soc.rstV, Soc.devV, hid, h1, h2, h3, gt_iff_lt]
    exact ⟨by simp [Soc.fullE, hb, h3], ASt.le.new _ _ _⟩
  by_cases h4 : (6 : Int) < (s.devs.length : Nat)
  · simp only [↓Bp, Bq, Bs, ↓aop.eq_28, ↓aop.eq_30, Nat.reduceEqDiff, Nat.reduceAdd, Nat.reduceMul, Nat.reduceSub, Nat.reduceLeDiff, Nat.reduceLT, Int.reduceLT, Int.reduceLE, Int.reduceEq, Int.reduceToNat, Int.reduceAdd, Int.reduceSub, Int.reduceNeg, ↓reduceIte, reduceCtorEq, ↓C.conf_full_W, C.conf_full_B, C.conf_full, Soc.clkV, Soc.domV, Soc.rstV, Soc.devV, hid, h1, h2, h3, h4, gt_iff_lt]
    exact ⟨by simp [Soc.fullE, hb, h4], ASt.le.new _ _ _⟩
  simp only [↓Bp, Bq, Bs, ↓aop.eq_28, ↓aop.eq_30, Nat.reduceEqDiff, Nat.reduceAdd, Nat.reduceMul, Nat.reduceSub, Nat.reduceLeDiff, Nat.reduceLT, Int.reduceLT, Int.reduceLE, Int.reduceEq, Int.reduceToNat, Int.reduceAdd, Int.reduceSub, Int.reduceNeg, ↓reduceIte, reduceCtorEq, ↓C.conf_full_W, C.conf_full_B, C.conf_full, Soc.clkV, Soc.domV, Soc.rstV, Soc.devV, hid, h1, h2, h3, h4, gt_iff_lt]
  refine (conf_each_api_Device_spec (e := ofAll s.devs devFull) rfl (by omega) fun i hi _ => ?_).mono ?_
  · rw [ofAll_at hi]
    exact full_1_spec
  rintro r s2 ⟨rfl, rfl⟩
  simp only [↓Bp, Bq, Bs, ↓aop.eq_28, ↓aop.eq_30, Nat.reduceEqDiff, Nat.reduceAdd, Nat.reduceMul, Nat.reduceSub, Nat.reduceLeDiff, Nat.reduceLT, Int.reduceLT, Int.reduceLE, Int.reduceEq, Int.reduceToNat, Int.reduceAdd, Int.reduceSub, Int.reduceNeg, ↓reduceIte, reduceCtorEq, ↓C.conf_full_W, C.conf_full_B, C.conf_full]
  exact ⟨by simp [Soc.fullE, hb, h1, h2, h3, h4], ASt.le.new _ _ _⟩

end Go.Proofs.Ytjamidgdhmjhaaa.Cn
