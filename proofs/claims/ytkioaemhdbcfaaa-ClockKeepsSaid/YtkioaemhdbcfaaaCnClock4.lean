/- Clocks: New, Rate. -/
import Derived.Test.YtkioaemhdbcfaaaCnClock3
import Derived.Test.YtkioaemhdbcfaaaCnChipSane
import Derived.Test.YtkioaemhdbcfaaaCnConf10
set_option linter.unusedSimpArgs false
set_option linter.unusedVariables false
namespace Go.Proofs.Ytkioaemhdbcfaaa.Cn
open Go Go.Proofs

def Nd.fresh (c : Clk) : Nd := ⟨c, false, if c.kind = 112 then c.lock else 0, 0, 0, if c.kind = 100 then c.div else 0⟩
def cfresh (l : List Clk) : List Nd := l.map Nd.fresh
theorem cfresh_len (l : List Clk) : (cfresh l).length = l.length := by simp [cfresh]
set_option maxHeartbeats 2000000 in
theorem cnew_spec0 {st : ASt} {S : Soc} (hs : S.sane) (hf : S.fine) (he : confErr S = 0) (hn2 : S.clocks.length ≤ 12) :
    ACalls Try.prog F.q4 [.agg S.cells] st fun r s => ∃ s1 q v, r = .tup [.ptr q 0, .int .i64 0] ∧ st.le s1 ∧ s1.h q = none ∧ Over (s1.new q (.cells [v])) s 11 v S.clocks.length ((cfresh S.clocks).flatMap Nd.cells) := by
  refine calls_of_awp L.q4 rfl ?_
  have l4 : S.cells.length = 4 := rfl
  have e4 : AV.agg (List.take 4 S.cells) = .agg S.cells := rfl
  simp only [↓Bp, Bq, Bs, ↓aop.eq_28, ↓aop.eq_30, Nat.reduceEqDiff, Nat.reduceAdd, Nat.reduceMul, Nat.reduceSub, Nat.reduceLeDiff, Nat.reduceLT, Int.reduceLT, Int.reduceLE, Int.reduceEq, Int.reduceToNat, Int.reduceAdd, Int.reduceSub, Int.reduceNeg, ↓reduceIte, reduceCtorEq, ↓C.q4_r0_w, C.q4_r0_b, C.q4]
  rintro ib hib
  have hle0 := ASt.le.new st ib (.cells S.cells)
  have hb := ASt.new_self (.cells S.cells) hib
  generalize st.new ib (.cells S.cells) = s0 at hle0 hb
  simp only [↓Bp, Bq, Bs, ↓aop.eq_28, ↓aop.eq_30, Nat.reduceEqDiff, Nat.reduceAdd, Nat.reduceMul, Nat.reduceSub, Nat.reduceLeDiff, Nat.reduceLT, Int.reduceLT, Int.reduceLE, Int.reduceEq, Int.reduceToNat, Int.reduceAdd, Int.reduceSub, Int.reduceNeg, ↓reduceIte, reduceCtorEq, ↓C.q4_W, C.q4_B, C.q4, hb, l4, e4]
  refine (conf_check_spec hf).mono ?_
  rintro r s1 ⟨rfl, rfl⟩
  rw [he]
  simp only [↓Bp, Bq, Bs, ↓aop.eq_28, ↓aop.eq_30, Nat.reduceEqDiff, Nat.reduceAdd, Nat.reduceMul, Nat.reduceSub, Nat.reduceLeDiff, Nat.reduceLT, Int.reduceLT, Int.reduceLE, Int.reduceEq, Int.reduceToNat, Int.reduceAdd, Int.reduceSub, Int.reduceNeg, ↓reduceIte, reduceCtorEq, ↓C.q4_r4_w, C.q4_r4_b, ↓C.q4_c18_w, ↓C.q4_r3_w, C.q4_r3_b, ↓C.q4_c19_w, ↓C.q4_c20_w, ↓C.q4_r2_w, C.q4_r2_b, ↓C.q4_c21_w, ↓C.q4_r1_w, C.q4_r1_b, ↓C.q4_c22_w, ↓C.q4_r0_w, C.q4_r0_b, C.q4]
  rintro q hq
  have hq1 := ASt.new_self (.cells [.nils]) hq
  have hb2 := ASt.new_old (id := q) (o := .cells [.nils]) hb
  rw [C.q4_c17_w, awp_keep]
  have hO0 : Over (s1.new q (.cells [.nils])) (s1.new q (.cells [.nils])) 11 .nils 0 [] := Over.nils (ASt.le.refl _) 11
  generalize hs2 : s1.new q (.cells [.nils]) = s2 at hb2 hq1 hO0
  simp only [↓Bp, Bq, Bs, ↓aop.eq_28, ↓aop.eq_30, Nat.reduceEqDiff, Nat.reduceAdd, Nat.reduceMul, Nat.reduceSub, Nat.reduceLeDiff, Nat.reduceLT, Int.reduceLT, Int.reduceLE, Int.reduceEq, Int.reduceToNat, Int.reduceAdd, Int.reduceSub, Int.reduceNeg, ↓reduceIte, reduceCtorEq, ↓C.q4_W, C.q4_B, C.q4, hb2, l4, e4]
  refine (copy_frz hs).mono ?_
  rintro r s3 ⟨rfl, rfl⟩
  rw [Soc.cells, Soc.clkV]
  simp only [↓Bp, Bq, Bs, ↓aop.eq_28, ↓aop.eq_30, Nat.reduceEqDiff, Nat.reduceAdd, Nat.reduceMul, Nat.reduceSub, Nat.reduceLeDiff, Nat.reduceLT, Int.reduceLT, Int.reduceLE, Int.reduceEq, Int.reduceToNat, Int.reduceAdd, Int.reduceSub, Int.reduceNeg, ↓reduceIte, reduceCtorEq, ↓C.q4_W, C.q4_B, C.q4]
  refine awp_midB (fun _ : Unit => [(5, .ptr q 0)]) (fun _ t => ∃ v, Over (s1.new q (.cells [v])) t 11 v S.clocks.length ((cfresh S.clocks).flatMap Nd.cells)) ?_ ?_
  · refine awp_loopK (fun i : Nat => [(5, .ptr q 0), (18, .isl 6 (S.clocks.flatMap Clk.cells) S.clocks.length), (19, .int .i64 S.clocks.length), (20, .int .i64 i)]) (fun i t => i ≤ S.clocks.length ∧ ∃ v, Over (s1.new q (.cells [v])) t 11 v i ((cfresh (S.clocks.take i)).flatMap Nd.cells)) (fun i => S.clocks.length - i) 0 rfl ⟨Nat.zero_le _, .nils, by rw [hs2]; exact hO0⟩ ?_
    rintro i t ⟨hi, v, hP⟩
    have hqt := hP.2.1 _ _ (ASt.new_self (.cells [v]) hq)
    by_cases hil : i < S.clocks.length
    rotate_left
    · have hil' : ¬ (i : Int) < (S.clocks.length : Nat) := by omega
      simp only [↓Bp, Bq, Bs, ↓aop.eq_28, ↓aop.eq_30, Nat.reduceEqDiff, Nat.reduceAdd, Nat.reduceMul, Nat.reduceSub, Nat.reduceLeDiff, Nat.reduceLT, Int.reduceLT, Int.reduceLE, Int.reduceEq, Int.reduceToNat, Int.reduceAdd, Int.reduceSub, Int.reduceNeg, ↓reduceIte, reduceCtorEq, ↓C.q4_W, C.q4_B, C.q4, hil']
      rw [show i = S.clocks.length by omega, List.take_length] at hP
      exact ⟨(), v, hP⟩
    have hil' : (i : Int) < (S.clocks.length : Nat) := by omega
    have hw := wsucc hil (by omega)
    have hz : (0:Int) ≤ (i : Int) ∧ (i : Int) < (S.clocks.length : Nat) := by omega
    have hf6 := flatMap_fits (f := Clk.cells) (k := 6) (fun _ => rfl) hil
    have ht6 := flatMap_at (f := Clk.cells) (k := 6) (fun _ => rfl) hil
    obtain ⟨c, hc⟩ : ∃ c, c = S.clocks[i] := ⟨_, rfl⟩
    rw [← hc] at ht6
    have l6 : c.cells.length = 6 := rfl
    have f6 : allLeaf c.cells = true := rfl
    simp only [↓Bp, Bq, Bs, ↓aop.eq_28, ↓aop.eq_30, Nat.reduceEqDiff, Nat.reduceAdd, Nat.reduceMul, Nat.reduceSub, Nat.reduceLeDiff, Nat.reduceLT, Int.reduceLT, Int.reduceLE, Int.reduceEq, Int.reduceToNat, Int.reduceAdd, Int.reduceSub, Int.reduceNeg, ↓reduceIte, reduceCtorEq, ↓C.q4_r16_w, C.q4_r16_b, ↓C.q4_c1_w, ↓C.q4_r15_w, C.q4_r15_b, ↓C.q4_c2_w, ↓C.q4_r7_w, C.q4_r7_b, ↓C.q4_b11_w, ↓C.q4_c12_w, ↓C.q4_c13_w, ↓C.q4_r6_w, C.q4_r6_b, ↓C.q4_b15_w, ↓C.q4_c16_w, ↓C.q4_r5_w, C.q4_r5_b, ↓C.q4_c17_w, ↓C.q4_r4_w, C.q4_r4_b, ↓C.q4_c18_w, ↓C.q4_r3_w, C.q4_r3_b, ↓C.q4_c19_w, ↓C.q4_c20_w, ↓C.q4_r2_w, C.q4_r2_b, ↓C.q4_c21_w, ↓C.q4_r1_w, C.q4_r1_b, ↓C.q4_c22_w, ↓C.q4_r0_w, C.q4_r0_b, C.q4, hil', hz, Int.toNat_natCast, hf6, ht6]
    rintro i7 h7
    simp only [↓Bp, Bq, Bs, ↓aop.eq_28, ↓aop.eq_30, Nat.reduceEqDiff, Nat.reduceAdd, Nat.reduceMul, Nat.reduceSub, Nat.reduceLeDiff, Nat.reduceLT, Int.reduceLT, Int.reduceLE, Int.reduceEq, Int.reduceToNat, Int.reduceAdd, Int.reduceSub, Int.reduceNeg, ↓reduceIte, reduceCtorEq, ↓C.q4_r16_w, C.q4_r16_b, ↓C.q4_c1_w, ↓C.q4_r15_w, C.q4_r15_b, ↓C.q4_c2_w, ↓C.q4_r7_w, C.q4_r7_b, ↓C.q4_b11_w, ↓C.q4_c12_w, ↓C.q4_c13_w, ↓C.q4_r6_w, C.q4_r6_b, ↓C.q4_b15_w, ↓C.q4_c16_w, ↓C.q4_r5_w, C.q4_r5_b, ↓C.q4_c17_w, ↓C.q4_r4_w, C.q4_r4_b, ↓C.q4_c18_w, ↓C.q4_r3_w, C.q4_r3_b, ↓C.q4_c19_w, ↓C.q4_c20_w, ↓C.q4_r2_w, C.q4_r2_b, ↓C.q4_c21_w, ↓C.q4_r1_w, C.q4_r1_b, ↓C.q4_c22_w, ↓C.q4_r0_w, C.q4_r0_b, C.q4, h7, l6, f6]
    rw [show putN [AV.int .u8 0, AV.nils, AV.int .u64 0, AV.int .i64 0, AV.int .i64 0, AV.int .i64 0] 0 c.cells = c.cells from putN_all rfl, ASt.new_set h7]
    have h7s := ASt.new_self (.cells c.cells) h7
    have hP1 : Over (s1.new q (.cells [v])) (t.new i7 (.cells c.cells)) 11 v i ((cfresh (S.clocks.take i)).flatMap Nd.cells) := ⟨hP.1.le (ASt.le.new _ _ _), hP.2.1.trans (ASt.le.new _ _ _), hP.2.2⟩
    generalize t.new i7 (.cells c.cells) = t1 at h7s hP1
    rw [Clk.cells] at h7s
    rw [C.q4_c10_w, awp_keep]
    simp only [↓Bp, Bq, Bs, ↓aop.eq_28, ↓aop.eq_30, Nat.reduceEqDiff, Nat.reduceAdd, Nat.reduceMul, Nat.reduceSub, Nat.reduceLeDiff, Nat.reduceLT, Int.reduceLT, Int.reduceLE, Int.reduceEq, Int.reduceToNat, Int.reduceAdd, Int.reduceSub, Int.reduceNeg, ↓reduceIte, reduceCtorEq, ↓C.q4_r16_w, C.q4_r16_b, ↓C.q4_c1_w, ↓C.q4_r15_w, C.q4_r15_b, ↓C.q4_c2_w, ↓C.q4_r8_w, C.q4_r8_b, ↓C.q4_c10_w, ↓C.q4_r7_w, C.q4_r7_b, ↓C.q4_b11_w, ↓C.q4_c12_w, ↓C.q4_c13_w, ↓C.q4_r6_w, C.q4_r6_b, ↓C.q4_b15_w, ↓C.q4_c16_w, ↓C.q4_r5_w, C.q4_r5_b, ↓C.q4_c17_w, ↓C.q4_r4_w, C.q4_r4_b, ↓C.q4_c18_w, ↓C.q4_r3_w, C.q4_r3_b, ↓C.q4_c19_w, ↓C.q4_c20_w, ↓C.q4_r2_w, C.q4_r2_b, ↓C.q4_c21_w, ↓C.q4_r1_w, C.q4_r1_b, ↓C.q4_c22_w, ↓C.q4_r0_w, C.q4_r0_b, C.q4, h7s]
    rintro i8 h8
    have n8 : (Nd.cells ⟨c, false, 0, 0, 0, 0⟩).length = 11 := rfl
    have m8 : allLeaf (Nd.cells ⟨c, false, 0, 0, 0, 0⟩) = true := rfl
    have h87 : i7 ≠ i8 := by rintro rfl; rw [h7s] at h8; cases h8
    simp only [↓Bp, Bq, Bs, ↓aop.eq_28, ↓aop.eq_30, Nat.reduceEqDiff, Nat.reduceAdd, Nat.reduceMul, Nat.reduceSub, Nat.reduceLeDiff, Nat.reduceLT, Int.reduceLT, Int.reduceLE, Int.reduceEq, Int.reduceToNat, Int.reduceAdd, Int.reduceSub, Int.reduceNeg, ↓reduceIte, reduceCtorEq, ↓C.q4_r16_w, C.q4_r16_b, ↓C.q4_c1_w, ↓C.q4_r15_w, C.q4_r15_b, ↓C.q4_c2_w, ↓C.q4_r8_w, C.q4_r8_b, ↓C.q4_c10_w, ↓C.q4_r7_w, C.q4_r7_b, ↓C.q4_b11_w, ↓C.q4_c12_w, ↓C.q4_c13_w, ↓C.q4_r6_w, C.q4_r6_b, ↓C.q4_b15_w, ↓C.q4_c16_w, ↓C.q4_r5_w, C.q4_r5_b, ↓C.q4_c17_w, ↓C.q4_r4_w, C.q4_r4_b, ↓C.q4_c18_w, ↓C.q4_r3_w, C.q4_r3_b, ↓C.q4_c19_w, ↓C.q4_c20_w, ↓C.q4_r2_w, C.q4_r2_b, ↓C.q4_c21_w, ↓C.q4_r1_w, C.q4_r1_b, ↓C.q4_c22_w, ↓C.q4_r0_w, C.q4_r0_b, C.q4, h8]
    refine ⟨rfl, ?_⟩
    rw [ASt.new_set h8]
    have hns := fun a b => ASt.new_set h8 a b
    have hOT := fun n : Nd => (⟨hP1.1.le (ASt.le.new t1 i8 (.cells n.cells)), hP1.2.1.trans (ASt.le.new t1 i8 (.cells n.cells)), hP1.2.2⟩ : Over (s1.new q (.cells [v])) (t1.new i8 (.cells n.cells)) 11 v i ((cfresh (S.clocks.take i)).flatMap Nd.cells))
    rw [C.q4_c9_w, awp_keep]
    by_cases k1 : c.kind = 112
    · have T1 := eq_true k1
      simp only [↓Bp, Bq, Bs, ↓aop.eq_28, ↓aop.eq_30, Nat.reduceEqDiff, Nat.reduceAdd, Nat.reduceMul, Nat.reduceSub, Nat.reduceLeDiff, Nat.reduceLT, Int.reduceLT, Int.reduceLE, Int.reduceEq, Int.reduceToNat, Int.reduceAdd, Int.reduceSub, Int.reduceNeg, ↓reduceIte, reduceCtorEq, ↓C.q4_r16_w, C.q4_r16_b, ↓C.q4_c1_w, ↓C.q4_r15_w, C.q4_r15_b, ↓C.q4_c2_w, ↓C.q4_r11_w, C.q4_r11_b, ↓C.q4_r13_w, C.q4_r13_b, ↓C.q4_c4_w, ↓C.q4_r12_w, C.q4_r12_b, ↓C.q4_c5_w, ↓C.q4_c6_w, ↓C.q4_r10_w, C.q4_r10_b, ↓C.q4_b7_w, ↓C.q4_c8_w, ↓C.q4_r9_w, C.q4_r9_b, ↓C.q4_c9_w, ↓C.q4_r8_w, C.q4_r8_b, ↓C.q4_c10_w, ↓C.q4_r7_w, C.q4_r7_b, ↓C.q4_b11_w, ↓C.q4_c12_w, ↓C.q4_c13_w, ↓C.q4_r6_w, C.q4_r6_b, ↓C.q4_b15_w, ↓C.q4_c16_w, ↓C.q4_r5_w, C.q4_r5_b, ↓C.q4_c17_w, ↓C.q4_r4_w, C.q4_r4_b, ↓C.q4_c18_w, ↓C.q4_r3_w, C.q4_r3_b, ↓C.q4_c19_w, ↓C.q4_c20_w, ↓C.q4_r2_w, C.q4_r2_b, ↓C.q4_c21_w, ↓C.q4_r1_w, C.q4_r1_b, ↓C.q4_c22_w, ↓C.q4_r0_w, C.q4_r0_b, C.q4, h7s, h8, hns, T1]
      rw [C.q4_c3_w, awp_keep]
      have hO := hOT (⟨c, false, c.lock, 0, 0, 0⟩ : Nd)
      have hqT := hO.2.1 _ _ (ASt.new_self (.cells [v]) hq)
      have h8s := ASt.new_self (.cells (Nd.cells (⟨c, false, c.lock, 0, 0, 0⟩ : Nd))) h8
      have eN : (⟨c, false, c.lock, 0, 0, 0⟩ : Nd) = Nd.fresh c := by simp [Nd.fresh, k1]
      rw [show (t1.new i8 (.cells [.int .u8 c.kind, row c.src, .int .u64 c.rate, .int .i64 c.mul, .int .i64 c.div, .int .i64 c.lock, .bool false, .int .i64 c.lock, .int .i64 0, .int .i64 0, .int .i64 0])) = t1.new i8 (.cells (Nd.cells (⟨c, false, c.lock, 0, 0, 0⟩ : Nd))) from rfl]
      generalize t1.new i8 (.cells (Nd.cells (⟨c, false, c.lock, 0, 0, 0⟩ : Nd))) = T at hO hqT h8s
      rw [Nd.cells] at h8s
      simp only [↓Bp, Bq, Bs, Nat.reduceEqDiff, Nat.reduceAdd, Nat.reduceMul, Nat.reduceSub, Nat.reduceLeDiff, Nat.reduceLT, Int.reduceLT, Int.reduceLE, Int.reduceEq, Int.reduceToNat, Int.reduceAdd, Int.reduceSub, Int.reduceNeg, ↓reduceIte, reduceCtorEq, ↓C.q4_W, C.q4_B, C.q4, hqT, h8s]
      refine aop_append_over hO (by omega) (new := Nd.cells (⟨c, false, c.lock, 0, 0, 0⟩ : Nd)) (aput_one rfl rfl) rfl rfl (fun _ => rfl) (fun _ => rfl) fun v1 v2 t3 hP2 => ?_
      have hqt3 := hP2.2.1 _ _ (ASt.new_self (.cells [v]) hq)
      simp only [↓Bp, Bq, Bs, ↓aop.eq_28, ↓aop.eq_30, Nat.reduceEqDiff, Nat.reduceAdd, Nat.reduceMul, Nat.reduceSub, Nat.reduceLeDiff, Nat.reduceLT, Int.reduceLT, Int.reduceLE, Int.reduceEq, Int.reduceToNat, Int.reduceAdd, Int.reduceSub, Int.reduceNeg, ↓reduceIte, reduceCtorEq, ↓C.q4_W, C.q4_B, C.q4, hqt3, hw]
      refine ⟨hP2.1.leaf, i + 1, rfl, ⟨hil, v2, ?_⟩, by omega⟩
      have hne : (s1.new q (.cells [v])).h q ≠ none := by rw [ASt.new_self _ hq]; simp
      have h3 := hP2.rebase (base' := (s1.new q (.cells [v])).set q (.cells [v2])) (st' := t3.set q (.cells [v2])) (keep_set hne) (hP2.2.1.set _ _)
      rw [ASt.new_set hq] at h3
      rw [eN, hc] at h3
      rw [show (cfresh (S.clocks.take (i + 1))).flatMap Nd.cells = (cfresh (S.clocks.take i)).flatMap Nd.cells ++ (Nd.fresh S.clocks[i]).cells by
        rw [List.take_succ_eq_append_getElem hil, cfresh, List.map_append, List.flatMap_append]; simp [cfresh]]
      exact h3
    have T1 := eq_false k1
    by_cases k2 : c.kind = 100
    · have T2 := eq_true k2
      simp only [↓Bp, Bq, Bs, ↓aop.eq_28, ↓aop.eq_30, Nat.reduceEqDiff, Nat.reduceAdd, Nat.reduceMul, Nat.reduceSub, Nat.reduceLeDiff, Nat.reduceLT, Int.reduceLT, Int.reduceLE, Int.reduceEq, Int.reduceToNat, Int.reduceAdd, Int.reduceSub, Int.reduceNeg, ↓reduceIte, reduceCtorEq, ↓C.q4_r16_w, C.q4_r16_b, ↓C.q4_c1_w, ↓C.q4_r15_w, C.q4_r15_b, ↓C.q4_c2_w, ↓C.q4_r11_w, C.q4_r11_b, ↓C.q4_r13_w, C.q4_r13_b, ↓C.q4_c4_w, ↓C.q4_r12_w, C.q4_r12_b, ↓C.q4_c5_w, ↓C.q4_c6_w, ↓C.q4_r10_w, C.q4_r10_b, ↓C.q4_b7_w, ↓C.q4_c8_w, ↓C.q4_r9_w, C.q4_r9_b, ↓C.q4_c9_w, ↓C.q4_r8_w, C.q4_r8_b, ↓C.q4_c10_w, ↓C.q4_r7_w, C.q4_r7_b, ↓C.q4_b11_w, ↓C.q4_c12_w, ↓C.q4_c13_w, ↓C.q4_r6_w, C.q4_r6_b, ↓C.q4_b15_w, ↓C.q4_c16_w, ↓C.q4_r5_w, C.q4_r5_b, ↓C.q4_c17_w, ↓C.q4_r4_w, C.q4_r4_b, ↓C.q4_c18_w, ↓C.q4_r3_w, C.q4_r3_b, ↓C.q4_c19_w, ↓C.q4_c20_w, ↓C.q4_r2_w, C.q4_r2_b, ↓C.q4_c21_w, ↓C.q4_r1_w, C.q4_r1_b, ↓C.q4_c22_w, ↓C.q4_r0_w, C.q4_r0_b, C.q4, h7s, h8, hns, T1, T2]
      rw [C.q4_c3_w, awp_keep]
      have hO := hOT (⟨c, false, 0, 0, 0, c.div⟩ : Nd)
      have hqT := hO.2.1 _ _ (ASt.new_self (.cells [v]) hq)
      have h8s := ASt.new_self (.cells (Nd.cells (⟨c, false, 0, 0, 0, c.div⟩ : Nd))) h8
      have eN : (⟨c, false, 0, 0, 0, c.div⟩ : Nd) = Nd.fresh c := by simp [Nd.fresh, k2]
      rw [show (t1.new i8 (.cells [.int .u8 c.kind, row c.src, .int .u64 c.rate, .int .i64 c.mul, .int .i64 c.div, .int .i64 c.lock, .bool false, .int .i64 0, .int .i64 0, .int .i64 0, .int .i64 c.div])) = t1.new i8 (.cells (Nd.cells (⟨c, false, 0, 0, 0, c.div⟩ : Nd))) from rfl]
      generalize t1.new i8 (.cells (Nd.cells (⟨c, false, 0, 0, 0, c.div⟩ : Nd))) = T at hO hqT h8s
      rw [Nd.cells] at h8s
      simp only [↓Bp, Bq, Bs, Nat.reduceEqDiff, Nat.reduceAdd, Nat.reduceMul, Nat.reduceSub, Nat.reduceLeDiff, Nat.reduceLT, Int.reduceLT, Int.reduceLE, Int.reduceEq, Int.reduceToNat, Int.reduceAdd, Int.reduceSub, Int.reduceNeg, ↓reduceIte, reduceCtorEq, ↓C.q4_W, C.q4_B, C.q4, hqT, h8s]
      refine aop_append_over hO (by omega) (new := Nd.cells (⟨c, false, 0, 0, 0, c.div⟩ : Nd)) (aput_one rfl rfl) rfl rfl (fun _ => rfl) (fun _ => rfl) fun v1 v2 t3 hP2 => ?_
      have hqt3 := hP2.2.1 _ _ (ASt.new_self (.cells [v]) hq)
      simp only [↓Bp, Bq, Bs, ↓aop.eq_28, ↓aop.eq_30, Nat.reduceEqDiff, Nat.reduceAdd, Nat.reduceMul, Nat.reduceSub, Nat.reduceLeDiff, Nat.reduceLT, Int.reduceLT, Int.reduceLE, Int.reduceEq, Int.reduceToNat, Int.reduceAdd, Int.reduceSub, Int.reduceNeg, ↓reduceIte, reduceCtorEq, ↓C.q4_W, C.q4_B, C.q4, hqt3, hw]
      refine ⟨hP2.1.leaf, i + 1, rfl, ⟨hil, v2, ?_⟩, by omega⟩
      have hne : (s1.new q (.cells [v])).h q ≠ none := by rw [ASt.new_self _ hq]; simp
      have h3 := hP2.rebase (base' := (s1.new q (.cells [v])).set q (.cells [v2])) (st' := t3.set q (.cells [v2])) (keep_set hne) (hP2.2.1.set _ _)
      rw [ASt.new_set hq] at h3
      rw [eN, hc] at h3
      rw [show (cfresh (S.clocks.take (i + 1))).flatMap Nd.cells = (cfresh (S.clocks.take i)).flatMap Nd.cells ++ (Nd.fresh S.clocks[i]).cells by
        rw [List.take_succ_eq_append_getElem hil, cfresh, List.map_append, List.flatMap_append]; simp [cfresh]]
      exact h3
    · have T2 := eq_false k2
      simp only [↓Bp, Bq, Bs, ↓aop.eq_28, ↓aop.eq_30, Nat.reduceEqDiff, Nat.reduceAdd, Nat.reduceMul, Nat.reduceSub, Nat.reduceLeDiff, Nat.reduceLT, Int.reduceLT, Int.reduceLE, Int.reduceEq, Int.reduceToNat, Int.reduceAdd, Int.reduceSub, Int.reduceNeg, ↓reduceIte, reduceCtorEq, ↓C.q4_r16_w, C.q4_r16_b, ↓C.q4_c1_w, ↓C.q4_r15_w, C.q4_r15_b, ↓C.q4_c2_w, ↓C.q4_r11_w, C.q4_r11_b, ↓C.q4_r13_w, C.q4_r13_b, ↓C.q4_c4_w, ↓C.q4_r12_w, C.q4_r12_b, ↓C.q4_c5_w, ↓C.q4_c6_w, ↓C.q4_r10_w, C.q4_r10_b, ↓C.q4_b7_w, ↓C.q4_c8_w, ↓C.q4_r9_w, C.q4_r9_b, ↓C.q4_c9_w, ↓C.q4_r8_w, C.q4_r8_b, ↓C.q4_c10_w, ↓C.q4_r7_w, C.q4_r7_b, ↓C.q4_b11_w, ↓C.q4_c12_w, ↓C.q4_c13_w, ↓C.q4_r6_w, C.q4_r6_b, ↓C.q4_b15_w, ↓C.q4_c16_w, ↓C.q4_r5_w, C.q4_r5_b, ↓C.q4_c17_w, ↓C.q4_r4_w, C.q4_r4_b, ↓C.q4_c18_w, ↓C.q4_r3_w, C.q4_r3_b, ↓C.q4_c19_w, ↓C.q4_c20_w, ↓C.q4_r2_w, C.q4_r2_b, ↓C.q4_c21_w, ↓C.q4_r1_w, C.q4_r1_b, ↓C.q4_c22_w, ↓C.q4_r0_w, C.q4_r0_b, C.q4, h7s, h8, hns, T1, T2]
      rw [C.q4_c3_w, awp_keep]
      have hO := hOT (⟨c, false, 0, 0, 0, 0⟩ : Nd)
      have hqT := hO.2.1 _ _ (ASt.new_self (.cells [v]) hq)
      have h8s := ASt.new_self (.cells (Nd.cells (⟨c, false, 0, 0, 0, 0⟩ : Nd))) h8
      have eN : (⟨c, false, 0, 0, 0, 0⟩ : Nd) = Nd.fresh c := by simp [Nd.fresh, k1, k2]
      rw [show (t1.new i8 (.cells [.int .u8 c.kind, row c.src, .int .u64 c.rate, .int .i64 c.mul, .int .i64 c.div, .int .i64 c.lock, .bool false, .int .i64 0, .int .i64 0, .int .i64 0, .int .i64 0])) = t1.new i8 (.cells (Nd.cells (⟨c, false, 0, 0, 0, 0⟩ : Nd))) from rfl]
      generalize t1.new i8 (.cells (Nd.cells (⟨c, false, 0, 0, 0, 0⟩ : Nd))) = T at hO hqT h8s
      rw [Nd.cells] at h8s
      simp only [↓Bp, Bq, Bs, Nat.reduceEqDiff, Nat.reduceAdd, Nat.reduceMul, Nat.reduceSub, Nat.reduceLeDiff, Nat.reduceLT, Int.reduceLT, Int.reduceLE, Int.reduceEq, Int.reduceToNat, Int.reduceAdd, Int.reduceSub, Int.reduceNeg, ↓reduceIte, reduceCtorEq, ↓C.q4_W, C.q4_B, C.q4, hqT, h8s]
      refine aop_append_over hO (by omega) (new := Nd.cells (⟨c, false, 0, 0, 0, 0⟩ : Nd)) (aput_one rfl rfl) rfl rfl (fun _ => rfl) (fun _ => rfl) fun v1 v2 t3 hP2 => ?_
      have hqt3 := hP2.2.1 _ _ (ASt.new_self (.cells [v]) hq)
      simp only [↓Bp, Bq, Bs, ↓aop.eq_28, ↓aop.eq_30, Nat.reduceEqDiff, Nat.reduceAdd, Nat.reduceMul, Nat.reduceSub, Nat.reduceLeDiff, Nat.reduceLT, Int.reduceLT, Int.reduceLE, Int.reduceEq, Int.reduceToNat, Int.reduceAdd, Int.reduceSub, Int.reduceNeg, ↓reduceIte, reduceCtorEq, ↓C.q4_W, C.q4_B, C.q4, hqt3, hw]
      refine ⟨hP2.1.leaf, i + 1, rfl, ⟨hil, v2, ?_⟩, by omega⟩
      have hne : (s1.new q (.cells [v])).h q ≠ none := by rw [ASt.new_self _ hq]; simp
      have h3 := hP2.rebase (base' := (s1.new q (.cells [v])).set q (.cells [v2])) (st' := t3.set q (.cells [v2])) (keep_set hne) (hP2.2.1.set _ _)
      rw [ASt.new_set hq] at h3
      rw [eN, hc] at h3
      rw [show (cfresh (S.clocks.take (i + 1))).flatMap Nd.cells = (cfresh (S.clocks.take i)).flatMap Nd.cells ++ (Nd.fresh S.clocks[i]).cells by
        rw [List.take_succ_eq_append_getElem hil, cfresh, List.map_append, List.flatMap_append]; simp [cfresh]]
      exact h3
  · rintro - t ⟨v, hP⟩
    simp only [↓Bp, Bq, Bs, ↓aop.eq_28, ↓aop.eq_30, Nat.reduceEqDiff, Nat.reduceAdd, Nat.reduceMul, Nat.reduceSub, Nat.reduceLeDiff, Nat.reduceLT, Int.reduceLT, Int.reduceLE, Int.reduceEq, Int.reduceToNat, Int.reduceAdd, Int.reduceSub, Int.reduceNeg, ↓reduceIte, reduceCtorEq, ↓C.q4_W, C.q4_B, C.q4]
    exact ⟨s1, q, v, rfl, hle0, hq, hP⟩
theorem cnew_spec {st : ASt} {S : Soc} (hs : S.sane) (hf : S.fine) (he : confErr S = 0) (hn : S.clocks.length ≠ 0) (hn2 : S.clocks.length ≤ 12) :
    ACalls Try.prog F.q4 [.agg S.cells] st fun r s => ∃ p ig, r = .tup [.ptr p 0, .int .i64 0] ∧ TreeAt s p ig (cfresh S.clocks) ∧ st.h p = none ∧ st.h ig = none ∧ st.le s := by
  refine (cnew_spec0 hs hf he hn2).mono ?_
  rintro r t ⟨s1, q, v, rfl, hle0, hq, hP⟩
  obtain ⟨ig, rfl, hig⟩ := hP.1.blk hn
  have hbs := hP.2.2 _ _ _ _ rfl
  have hbs' := hbs
  rw [ASt.new_none] at hbs'
  refine ⟨q, ig, rfl, ⟨?_, hig, fun e => hbs'.2 e.symm, by rw [cfresh_len]; omega⟩, fresh_of_le hle0 hq, fresh_of_le hle0 hbs'.1, (hle0.trans (ASt.le.new _ _ _)).trans hP.2.1⟩
  rw [cfresh_len]
  exact hP.2.1 _ _ (ASt.new_self _ hq)
end Go.Proofs.Ytkioaemhdbcfaaa.Cn
