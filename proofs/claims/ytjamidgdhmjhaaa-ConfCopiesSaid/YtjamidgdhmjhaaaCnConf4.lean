/- Descriptions: what is wrong with a device. -/
import Derived.Test.YtjamidgdhmjhaaaCnConf3
set_option linter.unusedSimpArgs false
set_option linter.unusedVariables false
namespace Go.Proofs.Ytjamidgdhmjhaaa.Cn
open Go Go.Proofs

/-- Is there no such thing among so many? -/
def noNode (n : Nat) (x : Int) : Int := if 0 ≤ x ∧ x < n then 0 else 4
theorem noNode_eq {n : Nat} {x : Int} : (if (!decide (0 ≤ x ∧ x ≤ (n : Int) - 1)) = true then (4 : Int) else 0) = noNode n x := by
  have e : (x ≤ (n : Int) - 1) ↔ x < (n : Int) := by omega
  unfold noNode
  by_cases h : 0 ≤ x ∧ x < (n : Int)
  · simp [h, e]
  · simp only [h, e]
    simp
/-- What is wrong with a device. -/
def devE (s : Soc) (d : Dev) : Nat → Int
  | 0 => noNode s.clocks.length d.clock
  | 1 => noNode s.doms.length d.dom
  | 2 => noNode s.rsts.length d.rst
  | _ => firstE (fun i => noNode s.devs.length (d.needs.getD i 0)) d.needs.length
theorem device_1_spec {st : ASt} {i j : Nat} {d : Dev} {s : Soc} (hi : st.h i = some (.cells d.cells)) (hj : st.h j = some (.cells s.cells)) (hn : s.clocks.length ≤ 4294967296) :
    ACalls Try.prog F.conf_device_1 [.ptr i 0, .ptr j 0] st fun r s' => r = .int .i64 (devE s d 0) ∧ s' = st := by
  refine calls_of_awp L.conf_device_1 rfl ?_
  have hw : IntKind.i64.wrap ((s.clocks.length : Int) - 1) = (s.clocks.length : Int) - 1 := by rw [wrap64] <;> omega
  simp only [↓Bp, Bq, Bs, ↓aop.eq_28, ↓aop.eq_30, Nat.reduceEqDiff, Nat.reduceAdd, Nat.reduceMul, Nat.reduceSub, Nat.reduceLeDiff, Nat.reduceLT, Int.reduceLT, Int.reduceLE, Int.reduceEq, Int.reduceToNat, Int.reduceAdd, Int.reduceSub, Int.reduceNeg, ↓reduceIte, reduceCtorEq, ↓C.conf_device_1_W, C.conf_device_1_B, C.conf_device_1, hi, hj, Dev.cells, Soc.cells, Soc.clkV, hw]
  refine within_spec.mono ?_
  rintro r s2 ⟨rfl, rfl⟩
  simp only [↓Bp, Bq, Bs, ↓aop.eq_28, ↓aop.eq_30, Nat.reduceEqDiff, Nat.reduceAdd, Nat.reduceMul, Nat.reduceSub, Nat.reduceLeDiff, Nat.reduceLT, Int.reduceLT, Int.reduceLE, Int.reduceEq, Int.reduceToNat, Int.reduceAdd, Int.reduceSub, Int.reduceNeg, ↓reduceIte, reduceCtorEq, ↓C.conf_device_1_W, C.conf_device_1_B, C.conf_device_1]
  refine when_spec.mono ?_
  rintro r s3 ⟨rfl, rfl⟩
  simp only [↓Bp, Bq, Bs, ↓aop.eq_28, ↓aop.eq_30, Nat.reduceEqDiff, Nat.reduceAdd, Nat.reduceMul, Nat.reduceSub, Nat.reduceLeDiff, Nat.reduceLT, Int.reduceLT, Int.reduceLE, Int.reduceEq, Int.reduceToNat, Int.reduceAdd, Int.reduceSub, Int.reduceNeg, ↓reduceIte, reduceCtorEq, ↓C.conf_device_1_W, C.conf_device_1_B, C.conf_device_1, noNode_eq, devE]
theorem device_2_spec {st : ASt} {i j : Nat} {d : Dev} {s : Soc} (hi : st.h i = some (.cells d.cells)) (hj : st.h j = some (.cells s.cells)) (hn : s.doms.length ≤ 4294967296) :
    ACalls Try.prog F.conf_device_2 [.ptr i 0, .ptr j 0] st fun r s' => r = .int .i64 (devE s d 1) ∧ s' = st := by
  refine calls_of_awp L.conf_device_2 rfl ?_
  have hw : IntKind.i64.wrap ((s.doms.length : Int) - 1) = (s.doms.length : Int) - 1 := by rw [wrap64] <;> omega
  simp only [↓Bp, Bq, Bs, ↓aop.eq_28, ↓aop.eq_30, Nat.reduceEqDiff, Nat.reduceAdd, Nat.reduceMul, Nat.reduceSub, Nat.reduceLeDiff, Nat.reduceLT, Int.reduceLT, Int.reduceLE, Int.reduceEq, Int.reduceToNat, Int.reduceAdd, Int.reduceSub, Int.reduceNeg, ↓reduceIte, reduceCtorEq, ↓C.conf_device_2_W, C.conf_device_2_B, C.conf_device_2, hi, hj, Dev.cells, Soc.cells, Soc.domV, hw]
  refine within_spec.mono ?_
  rintro r s2 ⟨rfl, rfl⟩
  simp only [↓Bp, Bq, Bs, ↓aop.eq_28, ↓aop.eq_30, Nat.reduceEqDiff, Nat.reduceAdd, Nat.reduceMul, Nat.reduceSub, Nat.reduceLeDiff, Nat.reduceLT, Int.reduceLT, Int.reduceLE, Int.reduceEq, Int.reduceToNat, Int.reduceAdd, Int.reduceSub, Int.reduceNeg, ↓reduceIte, reduceCtorEq, ↓C.conf_device_2_W, C.conf_device_2_B, C.conf_device_2]
  refine when_spec.mono ?_
  rintro r s3 ⟨rfl, rfl⟩
  simp only [↓Bp, Bq, Bs, ↓aop.eq_28, ↓aop.eq_30, Nat.reduceEqDiff, Nat.reduceAdd, Nat.reduceMul, Nat.reduceSub, Nat.reduceLeDiff, Nat.reduceLT, Int.reduceLT, Int.reduceLE, Int.reduceEq, Int.reduceToNat, Int.reduceAdd, Int.reduceSub, Int.reduceNeg, ↓reduceIte, reduceCtorEq, ↓C.conf_device_2_W, C.conf_device_2_B, C.conf_device_2, noNode_eq, devE]
theorem device_3_spec {st : ASt} {i j : Nat} {d : Dev} {s : Soc} (hi : st.h i = some (.cells d.cells)) (hj : st.h j = some (.cells s.cells)) (hn : s.rsts.length ≤ 4294967296) :
    ACalls Try.prog F.conf_device_3 [.ptr i 0, .ptr j 0] st fun r s' => r = .int .i64 (devE s d 2) ∧ s' = st := by
  refine calls_of_awp L.conf_device_3 rfl ?_
  have hw : IntKind.i64.wrap ((s.rsts.length : Int) - 1) = (s.rsts.length : Int) - 1 := by rw [wrap64] <;> omega
  simp only [↓Bp, Bq, Bs, ↓aop.eq_28, ↓aop.eq_30, Nat.reduceEqDiff, Nat.reduceAdd, Nat.reduceMul, Nat.reduceSub, Nat.reduceLeDiff, Nat.reduceLT, Int.reduceLT, Int.reduceLE, Int.reduceEq, Int.reduceToNat, Int.reduceAdd, Int.reduceSub, Int.reduceNeg, ↓reduceIte, reduceCtorEq, ↓C.conf_device_3_W, C.conf_device_3_B, C.conf_device_3, hi, hj, Dev.cells, Soc.cells, Soc.rstV, hw]
  refine within_spec.mono ?_
  rintro r s2 ⟨rfl, rfl⟩
  simp only [↓Bp, Bq, Bs, ↓aop.eq_28, ↓aop.eq_30, Nat.reduceEqDiff, Nat.reduceAdd, Nat.reduceMul, Nat.reduceSub, Nat.reduceLeDiff, Nat.reduceLT, Int.reduceLT, Int.reduceLE, Int.reduceEq, Int.reduceToNat, Int.reduceAdd, Int.reduceSub, Int.reduceNeg, ↓reduceIte, reduceCtorEq, ↓C.conf_device_3_W, C.conf_device_3_B, C.conf_device_3]
  refine when_spec.mono ?_
  rintro r s3 ⟨rfl, rfl⟩
  simp only [↓Bp, Bq, Bs, ↓aop.eq_28, ↓aop.eq_30, Nat.reduceEqDiff, Nat.reduceAdd, Nat.reduceMul, Nat.reduceSub, Nat.reduceLeDiff, Nat.reduceLT, Int.reduceLT, Int.reduceLE, Int.reduceEq, Int.reduceToNat, Int.reduceAdd, Int.reduceSub, Int.reduceNeg, ↓reduceIte, reduceCtorEq, ↓C.conf_device_3_W, C.conf_device_3_B, C.conf_device_3, noNode_eq, devE]
theorem device_4_1_spec {st : ASt} {j : Nat} {x : Int} {s : Soc} (hj : st.h j = some (.cells s.cells)) (hn : s.devs.length ≤ 4294967296) :
    ACalls Try.prog F.conf_device_4_1 [.int .i64 x, .ptr j 0] st fun r s' => r = .int .i64 (noNode s.devs.length x) ∧ s' = st := by
  refine calls_of_awp L.conf_device_4_1 rfl ?_
  have hw : IntKind.i64.wrap ((s.devs.length : Int) - 1) = (s.devs.length : Int) - 1 := by rw [wrap64] <;> omega
  simp only [↓Bp, Bq, Bs, ↓aop.eq_28, ↓aop.eq_30, Nat.reduceEqDiff, Nat.reduceAdd, Nat.reduceMul, Nat.reduceSub, Nat.reduceLeDiff, Nat.reduceLT, Int.reduceLT, Int.reduceLE, Int.reduceEq, Int.reduceToNat, Int.reduceAdd, Int.reduceSub, Int.reduceNeg, ↓reduceIte, reduceCtorEq, ↓C.conf_device_4_1_W, C.conf_device_4_1_B, C.conf_device_4_1, hj, Soc.cells, Soc.devV, hw]
  refine within_spec.mono ?_
  rintro r s2 ⟨rfl, rfl⟩
  simp only [↓Bp, Bq, Bs, ↓aop.eq_28, ↓aop.eq_30, Nat.reduceEqDiff, Nat.reduceAdd, Nat.reduceMul, Nat.reduceSub, Nat.reduceLeDiff, Nat.reduceLT, Int.reduceLT, Int.reduceLE, Int.reduceEq, Int.reduceToNat, Int.reduceAdd, Int.reduceSub, Int.reduceNeg, ↓reduceIte, reduceCtorEq, ↓C.conf_device_4_1_W, C.conf_device_4_1_B, C.conf_device_4_1]
  refine when_spec.mono ?_
  rintro r s3 ⟨rfl, rfl⟩
  simp only [↓Bp, Bq, Bs, ↓aop.eq_28, ↓aop.eq_30, Nat.reduceEqDiff, Nat.reduceAdd, Nat.reduceMul, Nat.reduceSub, Nat.reduceLeDiff, Nat.reduceLT, Int.reduceLT, Int.reduceLE, Int.reduceEq, Int.reduceToNat, Int.reduceAdd, Int.reduceSub, Int.reduceNeg, ↓reduceIte, reduceCtorEq, ↓C.conf_device_4_1_W, C.conf_device_4_1_B, C.conf_device_4_1, noNode_eq]
theorem device_4_spec {st : ASt} {i j : Nat} {d : Dev} {s : Soc} (hi : st.h i = some (.cells d.cells)) (hj : st.h j = some (.cells s.cells)) (hn : s.devs.length ≤ 4294967296) (hm : d.needs.length ≤ 4294967296) :
    ACalls Try.prog F.conf_device_4 [.ptr i 0, .ptr j 0] st fun r s' => r = .int .i64 (devE s d 3) ∧ s' = st := by
  refine calls_of_awp L.conf_device_4 rfl ?_
  simp only [↓Bp, Bq, Bs, ↓aop.eq_28, ↓aop.eq_30, Nat.reduceEqDiff, Nat.reduceAdd, Nat.reduceMul, Nat.reduceSub, Nat.reduceLeDiff, Nat.reduceLT, Int.reduceLT, Int.reduceLE, Int.reduceEq, Int.reduceToNat, Int.reduceAdd, Int.reduceSub, Int.reduceNeg, ↓reduceIte, reduceCtorEq, ↓C.conf_device_4_W, C.conf_device_4_B, C.conf_device_4, hi, Dev.cells]
  refine (each_int_spec (e := fun i => noNode s.devs.length (d.needs.getD i 0)) rfl hm ?_).mono ?_
  · intro x hx _
    have e : d.needs.getD x 0 = d.needs[x] := by simp [hx]
    simp only [e]
    exact device_4_1_spec hj hn
  rintro r s2 ⟨rfl, rfl⟩
  simp only [↓Bp, Bq, Bs, ↓aop.eq_28, ↓aop.eq_30, Nat.reduceEqDiff, Nat.reduceAdd, Nat.reduceMul, Nat.reduceSub, Nat.reduceLeDiff, Nat.reduceLT, Int.reduceLT, Int.reduceLE, Int.reduceEq, Int.reduceToNat, Int.reduceAdd, Int.reduceSub, Int.reduceNeg, ↓reduceIte, reduceCtorEq, ↓C.conf_device_4_W, C.conf_device_4_B, C.conf_device_4, devE]
theorem device_spec {st : ASt} {d : Dev} {s : Soc} (h1 : s.clocks.length ≤ 4294967296) (h2 : s.doms.length ≤ 4294967296) (h3 : s.rsts.length ≤ 4294967296) (h4 : s.devs.length ≤ 4294967296) (hm : d.needs.length ≤ 4294967296) :
    ACalls Try.prog F.conf_device [.agg s.cells, .agg d.cells] st fun r s' => r = .int .i64 (firstE (devE s d) 4) ∧ s' = st := by
  refine ACalls.gc (Q' := fun r s' => r = .int .i64 (firstE (devE s d) 4) ∧ st.le s') (calls_of_awp L.conf_device rfl ?_) (fun v s ⟨h, hl⟩ => ⟨st, hl, h, rfl⟩)
  simp only [↓Bp, Bq, Bs, ↓aop.eq_28, ↓aop.eq_30, Nat.reduceEqDiff, Nat.reduceAdd, Nat.reduceMul, Nat.reduceSub, Nat.reduceLeDiff, Nat.reduceLT, Int.reduceLT, Int.reduceLE, Int.reduceEq, Int.reduceToNat, Int.reduceAdd, Int.reduceSub, Int.reduceNeg, ↓reduceIte, reduceCtorEq, ↓C.conf_device_W, C.conf_device_B, C.conf_device]
  rintro j hj i ⟨hi, hij⟩ k ⟨⟨hk, hkj⟩, hki⟩
  have g1 : (st.new j (.cells s.cells)).h j = some (.cells s.cells) := ASt.new_self _ hj
  have hi' : (st.new j (.cells s.cells)).h i = none := by rw [ASt.new_ne _ hij]; exact hi
  have g2 := ASt.new_old (id := i) (o := .cells d.cells) g1
  have g3 : ((st.new j (.cells s.cells)).new i (.cells d.cells)).h i = some (.cells d.cells) := ASt.new_self _ hi'
  have hk' : ((st.new j (.cells s.cells)).new i (.cells d.cells)).h k = none := by rw [ASt.new_ne _ hki, ASt.new_ne _ hkj]; exact hk
  refine (first_spec (e := devE s d) (ASt.new_self _ hk') rfl (by simp) ?_).mono ?_
  · intro x hx _
    match x, hx with
    | 0, _ => exact ⟨_, _, rfl, by kernel_rfl, device_1_spec (ASt.new_old g3) (ASt.new_old g2) h1⟩
    | 1, _ => exact ⟨_, _, rfl, by kernel_rfl, device_2_spec (ASt.new_old g3) (ASt.new_old g2) h2⟩
    | 2, _ => exact ⟨_, _, rfl, by kernel_rfl, device_3_spec (ASt.new_old g3) (ASt.new_old g2) h3⟩
    | 3, _ => exact ⟨_, _, rfl, by kernel_rfl, device_4_spec (ASt.new_old g3) (ASt.new_old g2) h4 hm⟩
  rintro r s2 ⟨rfl, rfl⟩
  simp only [↓Bp, Bq, Bs, ↓aop.eq_28, ↓aop.eq_30, Nat.reduceEqDiff, Nat.reduceAdd, Nat.reduceMul, Nat.reduceSub, Nat.reduceLeDiff, Nat.reduceLT, Int.reduceLT, Int.reduceLE, Int.reduceEq, Int.reduceToNat, Int.reduceAdd, Int.reduceSub, Int.reduceNeg, ↓reduceIte, reduceCtorEq, ↓C.conf_device_W, C.conf_device_B, C.conf_device]
  exact ((ASt.le.new _ _ _).trans (ASt.le.new _ _ _)).trans (ASt.le.new _ _ _)

end Go.Proofs.Ytjamidgdhmjhaaa.Cn
