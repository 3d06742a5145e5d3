/- Descriptions: the document's Check of one that is right, whole. -/
import Derived.Test.YtoblpialfhfdgaaCnRef4b
set_option linter.unusedSimpArgs false
set_option linter.unusedVariables false
namespace Go.Proofs.Ytoblpialfhfdgaa.Cn
open Go Go.Proofs

theorem rClocks_spec {st : ASt} {s : Soc} (hn : s.clocks.length ≤ 100) (hm : ∀ c ∈ s.clocks, c.src.length ≤ 4294967296) :
    ACalls Try.prog F.q18 [.agg s.cells] st fun r s' => r = gval (s.clocks.map Clk.src) ∧ s' = st :=
  ACalls.ghost (rClocks_own hn hm) fun r s' h => by
    obtain ⟨t, h1, h2⟩ := h.frz
    exact ⟨_, _, h1.trans (Ghost.sub h2), rfl, rfl⟩
theorem rDomains_spec {st : ASt} {s : Soc} (hn : s.doms.length ≤ 100) :
    ACalls Try.prog F.q19 [.agg s.cells] st fun r s' => r = gval (s.doms.map Dom.up) ∧ s' = st :=
  ACalls.ghost (rDomains_own hn) fun r s' h => by
    obtain ⟨t, h1, h2⟩ := h.frz
    exact ⟨_, _, h1.trans (Ghost.sub h2), rfl, rfl⟩
theorem rNeeds_spec {st : ASt} {s : Soc} (hn : s.devs.length ≤ 100) (hm : ∀ c ∈ s.devs, c.needs.length ≤ 4294967296) :
    ACalls Try.prog F.q20 [.agg s.cells] st fun r s' => r = gval (s.devs.map Dev.needs) ∧ s' = st :=
  ACalls.ghost (rNeeds_own hn hm) fun r s' h => by
    obtain ⟨t, h1, h2⟩ := h.frz
    exact ⟨_, _, h1.trans (Ghost.sub h2), rfl, rfl⟩
theorem rclocks_spec {st : ASt} {s : Soc} (h : s.okR) (hm : ∀ c ∈ s.clocks, c.src.length ≤ 4294967296) : ACalls Try.prog F.q22 [.agg s.cells] st fun r s' => r = .int .i64 0 ∧ s' = st := by
  refine ACalls.gc (Q' := fun r s' => r = .int .i64 0 ∧ st.le s') (calls_of_awp L.q22 rfl ?_) (fun v s ⟨h, hl⟩ => ⟨st, hl, h, rfl⟩)
  have hn := h.nc
  simp only [↓Bp, Bq, Bs, ↓aop.eq_28, ↓aop.eq_30, Nat.reduceEqDiff, Nat.reduceAdd, Nat.reduceMul, Nat.reduceSub, Nat.reduceLeDiff, Nat.reduceLT, Int.reduceLT, Int.reduceLE, Int.reduceEq, Int.reduceToNat, Int.reduceAdd, Int.reduceSub, Int.reduceNeg, ↓reduceIte, reduceCtorEq, ↓C.q22_r0_w, C.q22_r0_b, C.q22]
  intro ib hib
  have hb := ASt.new_self (.cells s.cells) hib
  have hle := ASt.le.new st ib (.cells s.cells)
  generalize st.new ib (.cells s.cells) = s0 at hb hle
  have hbx := hb
  rw [Soc.cells, Soc.clkV] at hb
  simp only [↓Bp, Bq, Bs, ↓aop.eq_28, ↓aop.eq_30, Nat.reduceEqDiff, Nat.reduceAdd, Nat.reduceMul, Nat.reduceSub, Nat.reduceLeDiff, Nat.reduceLT, Int.reduceLT, Int.reduceLE, Int.reduceEq, Int.reduceToNat, Int.reduceAdd, Int.reduceSub, Int.reduceNeg, ↓reduceIte, reduceCtorEq, ↓C.q22_W, C.q22_B, C.q22]
  refine awp_midB (fun _ : Unit => [(1, .ptr ib 0)]) (fun _ s' => s' = s0) ?_ ?_
  · refine awp_loopK (fun i : Nat => [(1, .ptr ib 0), (3, .int .i64 i)]) (fun i s' => i ≤ s.clocks.length ∧ s' = s0) (fun i => s.clocks.length - i) 0 rfl ⟨Nat.zero_le _, rfl⟩ ?_
    rintro i s1 ⟨hi, rfl⟩
    by_cases hil : i < s.clocks.length
    rotate_left
    · have hil' : ¬ (i : Int) < (s.clocks.length : Nat) := by omega
      simp only [↓Bp, Bq, Bs, ↓aop.eq_28, ↓aop.eq_30, Nat.reduceEqDiff, Nat.reduceAdd, Nat.reduceMul, Nat.reduceSub, Nat.reduceLeDiff, Nat.reduceLT, Int.reduceLT, Int.reduceLE, Int.reduceEq, Int.reduceToNat, Int.reduceAdd, Int.reduceSub, Int.reduceNeg, ↓reduceIte, reduceCtorEq, ↓C.q22_W, C.q22_B, C.q22, hil', hb]
      exact ⟨(), trivial⟩
    have hil' : (i : Int) < (s.clocks.length : Nat) := by omega
    have hz : (0:Int) ≤ (i : Int) ∧ (i : Int) < (s.clocks.length : Nat) := by omega
    have hw := wsucc hil (by omega)
    have hf := flatMap_fits (f := Clk.cells) (k := 6) (fun _ => rfl) hil
    have ht := flatMap_at (f := Clk.cells) (k := 6) (fun _ => rfl) hil
    have hc := h.clk _ (List.getElem_mem hil)
    simp only [↓Bp, Bq, Bs, ↓aop.eq_28, ↓aop.eq_30, Nat.reduceEqDiff, Nat.reduceAdd, Nat.reduceMul, Nat.reduceSub, Nat.reduceLeDiff, Nat.reduceLT, Int.reduceLT, Int.reduceLE, Int.reduceEq, Int.reduceToNat, Int.reduceAdd, Int.reduceSub, Int.reduceNeg, ↓reduceIte, reduceCtorEq, ↓C.q22_W, C.q22_B, C.q22, hil', hb, hz, Int.toNat_natCast, hf, ht]
    refine (rclock_spec hc.1 hc.2.1 hc.2.2 (hm _ (List.getElem_mem hil))).mono ?_
    rintro r s2 ⟨rfl, rfl⟩
    simp only [↓Bp, Bq, Bs, ↓aop.eq_28, ↓aop.eq_30, Nat.reduceEqDiff, Nat.reduceAdd, Nat.reduceMul, Nat.reduceSub, Nat.reduceLeDiff, Nat.reduceLT, Int.reduceLT, Int.reduceLE, Int.reduceEq, Int.reduceToNat, Int.reduceAdd, Int.reduceSub, Int.reduceNeg, ↓reduceIte, reduceCtorEq, ↓C.q22_W, C.q22_B, C.q22, hw]
    exact ⟨i + 1, rfl, hil, by omega⟩
  · rintro - s' rfl
    have e4 : AV.agg (List.take 4 s.cells) = .agg s.cells := rfl
    have l4 : s.cells.length = 4 := rfl
    simp only [↓Bp, Bq, Bs, ↓aop.eq_28, ↓aop.eq_30, Nat.reduceEqDiff, Nat.reduceAdd, Nat.reduceMul, Nat.reduceSub, Nat.reduceLeDiff, Nat.reduceLT, Int.reduceLT, Int.reduceLE, Int.reduceEq, Int.reduceToNat, Int.reduceAdd, Int.reduceSub, Int.reduceNeg, ↓reduceIte, reduceCtorEq, ↓C.q22_W, C.q22_B, C.q22, hbx, e4, l4]
    refine (rClocks_spec (by omega) hm).mono ?_
    rintro r s2 ⟨rfl, rfl⟩
    simp only [↓Bp, Bq, Bs, ↓aop.eq_28, ↓aop.eq_30, Nat.reduceEqDiff, Nat.reduceAdd, Nat.reduceMul, Nat.reduceSub, Nat.reduceLeDiff, Nat.reduceLT, Int.reduceLT, Int.reduceLE, Int.reduceEq, Int.reduceToNat, Int.reduceAdd, Int.reduceSub, Int.reduceNeg, ↓reduceIte, reduceCtorEq, ↓C.q22_W, C.q22_B, C.q22]
    refine (refCheck_spec (g := s.clocks.map Clk.src) ⟨by simp; omega, fun r hr => by obtain ⟨c, hc, rfl⟩ := List.mem_map.mp hr; have := hm c hc; omega⟩).mono ?_
    rintro r s2 ⟨rfl, rfl⟩
    rw [h.clkG]
    simp only [↓Bp, Bq, Bs, ↓aop.eq_28, ↓aop.eq_30, Nat.reduceEqDiff, Nat.reduceAdd, Nat.reduceMul, Nat.reduceSub, Nat.reduceLeDiff, Nat.reduceLT, Int.reduceLT, Int.reduceLE, Int.reduceEq, Int.reduceToNat, Int.reduceAdd, Int.reduceSub, Int.reduceNeg, ↓reduceIte, reduceCtorEq, ↓C.q22_W, C.q22_B, C.q22]
    exact hle
theorem rdomains_spec {st : ASt} {s : Soc} (h : s.okR) : ACalls Try.prog F.q25 [.agg s.cells] st fun r s' => r = .int .i64 0 ∧ s' = st := by
  refine ACalls.gc (Q' := fun r s' => r = .int .i64 0 ∧ st.le s') (calls_of_awp L.q25 rfl ?_) (fun v s ⟨h, hl⟩ => ⟨st, hl, h, rfl⟩)
  have hn := h.nd
  simp only [↓Bp, Bq, Bs, ↓aop.eq_28, ↓aop.eq_30, Nat.reduceEqDiff, Nat.reduceAdd, Nat.reduceMul, Nat.reduceSub, Nat.reduceLeDiff, Nat.reduceLT, Int.reduceLT, Int.reduceLE, Int.reduceEq, Int.reduceToNat, Int.reduceAdd, Int.reduceSub, Int.reduceNeg, ↓reduceIte, reduceCtorEq, ↓C.q25_r0_w, C.q25_r0_b, C.q25]
  intro ib hib
  have hb := ASt.new_self (.cells s.cells) hib
  have hle := ASt.le.new st ib (.cells s.cells)
  generalize st.new ib (.cells s.cells) = s0 at hb hle
  have hbx := hb
  rw [Soc.cells, Soc.domV] at hb
  simp only [↓Bp, Bq, Bs, ↓aop.eq_28, ↓aop.eq_30, Nat.reduceEqDiff, Nat.reduceAdd, Nat.reduceMul, Nat.reduceSub, Nat.reduceLeDiff, Nat.reduceLT, Int.reduceLT, Int.reduceLE, Int.reduceEq, Int.reduceToNat, Int.reduceAdd, Int.reduceSub, Int.reduceNeg, ↓reduceIte, reduceCtorEq, ↓C.q25_W, C.q25_B, C.q25]
  refine awp_midB (fun _ : Unit => [(1, .ptr ib 0)]) (fun _ s' => s0.le s') ?_ ?_
  · refine awp_loopK (fun i : Nat => [(1, .ptr ib 0), (3, .int .i64 i)]) (fun i s' => i ≤ s.doms.length ∧ s0.le s') (fun i => s.doms.length - i) 0 rfl ⟨Nat.zero_le _, ASt.le.refl _⟩ ?_
    rintro i s1 ⟨hi, hl1⟩
    have hb1 := hl1 _ _ hb
    by_cases hil : i < s.doms.length
    rotate_left
    · have hil' : ¬ (i : Int) < (s.doms.length : Nat) := by omega
      simp only [↓Bp, Bq, Bs, ↓aop.eq_28, ↓aop.eq_30, Nat.reduceEqDiff, Nat.reduceAdd, Nat.reduceMul, Nat.reduceSub, Nat.reduceLeDiff, Nat.reduceLT, Int.reduceLT, Int.reduceLE, Int.reduceEq, Int.reduceToNat, Int.reduceAdd, Int.reduceSub, Int.reduceNeg, ↓reduceIte, reduceCtorEq, ↓C.q25_W, C.q25_B, C.q25, hil', hb1]
      exact ⟨(), hl1⟩
    have hil' : (i : Int) < (s.doms.length : Nat) := by omega
    have hz : (0:Int) ≤ (i : Int) ∧ (i : Int) < (s.doms.length : Nat) := by omega
    have hw := wsucc hil (by omega)
    have hf := flatMap_fits (f := Dom.cells) (k := 3) (fun _ => rfl) hil
    have ht := flatMap_at (f := Dom.cells) (k := 3) (fun _ => rfl) hil
    have hc := h.dom _ (List.getElem_mem hil)
    obtain ⟨d, hd⟩ : ∃ d, d = s.doms[i] := ⟨_, rfl⟩
    rw [← hd] at ht hc
    have l3 : d.cells.length = 3 := rfl
    have f3 : allLeaf d.cells = true := rfl
    simp only [↓Bp, Bq, Bs, ↓aop.eq_28, ↓aop.eq_30, Nat.reduceEqDiff, Nat.reduceAdd, Nat.reduceMul, Nat.reduceSub, Nat.reduceLeDiff, Nat.reduceLT, Int.reduceLT, Int.reduceLE, Int.reduceEq, Int.reduceToNat, Int.reduceAdd, Int.reduceSub, Int.reduceNeg, ↓reduceIte, reduceCtorEq, ↓C.q25_r9_w, C.q25_r9_b, ↓C.q25_c1_w, ↓C.q25_r3_w, C.q25_r3_b, ↓C.q25_c2_w, ↓C.q25_r4_w, C.q25_r4_b, ↓C.q25_b9_w, ↓C.q25_c10_w, ↓C.q25_c11_w, ↓C.q25_r2_w, C.q25_r2_b, ↓C.q25_b13_w, ↓C.q25_c14_w, ↓C.q25_r1_w, C.q25_r1_b, ↓C.q25_c15_w, ↓C.q25_r0_w, C.q25_r0_b, C.q25, hil', hb1, hz, Int.toNat_natCast, hf, ht]
    intro id hid
    simp only [↓Bp, Bq, Bs, ↓aop.eq_28, ↓aop.eq_30, Nat.reduceEqDiff, Nat.reduceAdd, Nat.reduceMul, Nat.reduceSub, Nat.reduceLeDiff, Nat.reduceLT, Int.reduceLT, Int.reduceLE, Int.reduceEq, Int.reduceToNat, Int.reduceAdd, Int.reduceSub, Int.reduceNeg, ↓reduceIte, reduceCtorEq, ↓C.q25_r9_w, C.q25_r9_b, ↓C.q25_c1_w, ↓C.q25_r3_w, C.q25_r3_b, ↓C.q25_c2_w, ↓C.q25_r4_w, C.q25_r4_b, ↓C.q25_b9_w, ↓C.q25_c10_w, ↓C.q25_c11_w, ↓C.q25_r2_w, C.q25_r2_b, ↓C.q25_b13_w, ↓C.q25_c14_w, ↓C.q25_r1_w, C.q25_r1_b, ↓C.q25_c15_w, ↓C.q25_r0_w, C.q25_r0_b, C.q25, hid, l3, f3]
    rw [show putN [AV.int .i64 0, AV.int .i64 0, AV.bool false] 0 d.cells = d.cells from putN_all rfl, ASt.new_set hid]
    have hd2 := ASt.new_self (.cells d.cells) hid
    have hl2 := ASt.le.new s1 id (.cells d.cells)
    have hb2 := hl2 _ _ hb1
    generalize s1.new id (.cells d.cells) = s2 at hd2 hl2 hb2
    rw [Dom.cells] at hd2
    by_cases hab : d.above = -1
    · have hT := eq_true hab
      simp only [↓Bp, Bq, Bs, ↓aop.eq_28, ↓aop.eq_30, Nat.reduceEqDiff, Nat.reduceAdd, Nat.reduceMul, Nat.reduceSub, Nat.reduceLeDiff, Nat.reduceLT, Int.reduceLT, Int.reduceLE, Int.reduceEq, Int.reduceToNat, Int.reduceAdd, Int.reduceSub, Int.reduceNeg, ↓reduceIte, reduceCtorEq, ↓C.q25_r9_w, C.q25_r9_b, ↓C.q25_c1_w, ↓C.q25_r3_w, C.q25_r3_b, ↓C.q25_c2_w, ↓C.q25_r6_w, C.q25_r6_b, ↓C.q25_c6_w, ↓C.q25_c7_w, ↓C.q25_r5_w, C.q25_r5_b, ↓C.q25_c8_w, ↓C.q25_r4_w, C.q25_r4_b, ↓C.q25_b9_w, ↓C.q25_c10_w, ↓C.q25_c11_w, ↓C.q25_r2_w, C.q25_r2_b, ↓C.q25_b13_w, ↓C.q25_c14_w, ↓C.q25_r1_w, C.q25_r1_b, ↓C.q25_c15_w, ↓C.q25_r0_w, C.q25_r0_b, C.q25, hd2, hT]
      simp only [↓Bp, Bq, Bs, ↓aop.eq_28, ↓aop.eq_30, Nat.reduceEqDiff, Nat.reduceAdd, Nat.reduceMul, Nat.reduceSub, Nat.reduceLeDiff, Nat.reduceLT, Int.reduceLT, Int.reduceLE, Int.reduceEq, Int.reduceToNat, Int.reduceAdd, Int.reduceSub, Int.reduceNeg, ↓reduceIte, reduceCtorEq, ↓C.q25_W, C.q25_B, C.q25, hd2]
      refine rwithin_spec.mono ?_
      rintro r s3 ⟨rfl, rfl⟩
      rw [decide_eq_true hc.2]
      simp only [↓Bp, Bq, Bs, ↓aop.eq_28, ↓aop.eq_30, Nat.reduceEqDiff, Nat.reduceAdd, Nat.reduceMul, Nat.reduceSub, Nat.reduceLeDiff, Nat.reduceLT, Int.reduceLT, Int.reduceLE, Int.reduceEq, Int.reduceToNat, Int.reduceAdd, Int.reduceSub, Int.reduceNeg, ↓reduceIte, reduceCtorEq, ↓C.q25_W, C.q25_B, C.q25, hw]
      exact ⟨i + 1, rfl, ⟨hil, hl1.trans hl2⟩, by omega⟩
    · have hT := eq_false hab
      have hin : 0 ≤ d.above ∧ d.above < (s.doms.length : Int) := by omega
      simp only [↓Bp, Bq, Bs, ↓aop.eq_28, ↓aop.eq_30, Nat.reduceEqDiff, Nat.reduceAdd, Nat.reduceMul, Nat.reduceSub, Nat.reduceLeDiff, Nat.reduceLT, Int.reduceLT, Int.reduceLE, Int.reduceEq, Int.reduceToNat, Int.reduceAdd, Int.reduceSub, Int.reduceNeg, ↓reduceIte, reduceCtorEq, ↓C.q25_r9_w, C.q25_r9_b, ↓C.q25_c1_w, ↓C.q25_r3_w, C.q25_r3_b, ↓C.q25_c2_w, ↓C.q25_r6_w, C.q25_r6_b, ↓C.q25_c6_w, ↓C.q25_c7_w, ↓C.q25_r5_w, C.q25_r5_b, ↓C.q25_c8_w, ↓C.q25_r4_w, C.q25_r4_b, ↓C.q25_b9_w, ↓C.q25_c10_w, ↓C.q25_c11_w, ↓C.q25_r2_w, C.q25_r2_b, ↓C.q25_b13_w, ↓C.q25_c14_w, ↓C.q25_r1_w, C.q25_r1_b, ↓C.q25_c15_w, ↓C.q25_r0_w, C.q25_r0_b, C.q25, hd2, hT, hb2]
      refine rin_spec.mono ?_
      rintro r s3 ⟨rfl, rfl⟩
      rw [decide_eq_true hin]
      simp only [↓Bp, Bq, Bs, ↓aop.eq_28, ↓aop.eq_30, Nat.reduceEqDiff, Nat.reduceAdd, Nat.reduceMul, Nat.reduceSub, Nat.reduceLeDiff, Nat.reduceLT, Int.reduceLT, Int.reduceLE, Int.reduceEq, Int.reduceToNat, Int.reduceAdd, Int.reduceSub, Int.reduceNeg, ↓reduceIte, reduceCtorEq, ↓C.q25_W, C.q25_B, C.q25, hd2]
      refine rwithin_spec.mono ?_
      rintro r s3 ⟨rfl, rfl⟩
      rw [decide_eq_true hc.2]
      simp only [↓Bp, Bq, Bs, ↓aop.eq_28, ↓aop.eq_30, Nat.reduceEqDiff, Nat.reduceAdd, Nat.reduceMul, Nat.reduceSub, Nat.reduceLeDiff, Nat.reduceLT, Int.reduceLT, Int.reduceLE, Int.reduceEq, Int.reduceToNat, Int.reduceAdd, Int.reduceSub, Int.reduceNeg, ↓reduceIte, reduceCtorEq, ↓C.q25_W, C.q25_B, C.q25, hw]
      exact ⟨i + 1, rfl, ⟨hil, hl1.trans hl2⟩, by omega⟩
  · rintro - s' hl1
    have hbx := hl1 _ _ hbx
    have e4 : AV.agg (List.take 4 s.cells) = .agg s.cells := rfl
    have l4 : s.cells.length = 4 := rfl
    simp only [↓Bp, Bq, Bs, ↓aop.eq_28, ↓aop.eq_30, Nat.reduceEqDiff, Nat.reduceAdd, Nat.reduceMul, Nat.reduceSub, Nat.reduceLeDiff, Nat.reduceLT, Int.reduceLT, Int.reduceLE, Int.reduceEq, Int.reduceToNat, Int.reduceAdd, Int.reduceSub, Int.reduceNeg, ↓reduceIte, reduceCtorEq, ↓C.q25_W, C.q25_B, C.q25, hbx, e4, l4]
    refine (rDomains_spec (by omega)).mono ?_
    rintro r s2 ⟨rfl, rfl⟩
    simp only [↓Bp, Bq, Bs, ↓aop.eq_28, ↓aop.eq_30, Nat.reduceEqDiff, Nat.reduceAdd, Nat.reduceMul, Nat.reduceSub, Nat.reduceLeDiff, Nat.reduceLT, Int.reduceLT, Int.reduceLE, Int.reduceEq, Int.reduceToNat, Int.reduceAdd, Int.reduceSub, Int.reduceNeg, ↓reduceIte, reduceCtorEq, ↓C.q25_W, C.q25_B, C.q25]
    refine (refCheck_spec (g := s.doms.map Dom.up) ⟨by simp; omega, fun r hr => by obtain ⟨c, hc, rfl⟩ := List.mem_map.mp hr; unfold Dom.up; split <;> simp⟩).mono ?_
    rintro r s2 ⟨rfl, rfl⟩
    rw [h.domG]
    simp only [↓Bp, Bq, Bs, ↓aop.eq_28, ↓aop.eq_30, Nat.reduceEqDiff, Nat.reduceAdd, Nat.reduceMul, Nat.reduceSub, Nat.reduceLeDiff, Nat.reduceLT, Int.reduceLT, Int.reduceLE, Int.reduceEq, Int.reduceToNat, Int.reduceAdd, Int.reduceSub, Int.reduceNeg, ↓reduceIte, reduceCtorEq, ↓C.q25_W, C.q25_B, C.q25]
    exact hle.trans hl1
theorem rdevices_spec {st : ASt} {s : Soc} (h : s.okR) : ACalls Try.prog F.q24 [.agg s.cells] st fun r s' => r = .int .i64 0 ∧ s' = st := by
  refine ACalls.gc (Q' := fun r s' => r = .int .i64 0 ∧ st.le s') (calls_of_awp L.q24 rfl ?_) (fun v s ⟨h, hl⟩ => ⟨st, hl, h, rfl⟩)
  have hn := h.nv
  simp only [↓Bp, Bq, Bs, ↓aop.eq_28, ↓aop.eq_30, Nat.reduceEqDiff, Nat.reduceAdd, Nat.reduceMul, Nat.reduceSub, Nat.reduceLeDiff, Nat.reduceLT, Int.reduceLT, Int.reduceLE, Int.reduceEq, Int.reduceToNat, Int.reduceAdd, Int.reduceSub, Int.reduceNeg, ↓reduceIte, reduceCtorEq, ↓C.q24_r0_w, C.q24_r0_b, C.q24]
  intro ib hib
  have hb := ASt.new_self (.cells s.cells) hib
  have hle := ASt.le.new st ib (.cells s.cells)
  generalize st.new ib (.cells s.cells) = s0 at hb hle
  have hbx := hb
  rw [Soc.cells, Soc.clkV, Soc.domV, Soc.rstV, Soc.devV] at hb
  simp only [↓Bp, Bq, Bs, ↓aop.eq_28, ↓aop.eq_30, Nat.reduceEqDiff, Nat.reduceAdd, Nat.reduceMul, Nat.reduceSub, Nat.reduceLeDiff, Nat.reduceLT, Int.reduceLT, Int.reduceLE, Int.reduceEq, Int.reduceToNat, Int.reduceAdd, Int.reduceSub, Int.reduceNeg, ↓reduceIte, reduceCtorEq, ↓C.q24_W, C.q24_B, C.q24]
  refine awp_midB (fun _ : Unit => [(1, .ptr ib 0)]) (fun _ s' => s0.le s') ?_ ?_
  · refine awp_loopK (fun i : Nat => [(1, .ptr ib 0), (3, .int .i64 i)]) (fun i s' => i ≤ s.devs.length ∧ s0.le s') (fun i => s.devs.length - i) 0 rfl ⟨Nat.zero_le _, ASt.le.refl _⟩ ?_
    rintro i s1 ⟨hi, hl1⟩
    have hb1 := hl1 _ _ hb
    by_cases hil : i < s.devs.length
    rotate_left
    · have hil' : ¬ (i : Int) < (s.devs.length : Nat) := by omega
      simp only [↓Bp, Bq, Bs, ↓aop.eq_28, ↓aop.eq_30, Nat.reduceEqDiff, Nat.reduceAdd, Nat.reduceMul, Nat.reduceSub, Nat.reduceLeDiff, Nat.reduceLT, Int.reduceLT, Int.reduceLE, Int.reduceEq, Int.reduceToNat, Int.reduceAdd, Int.reduceSub, Int.reduceNeg, ↓reduceIte, reduceCtorEq, ↓C.q24_W, C.q24_B, C.q24, hil', hb1]
      exact ⟨(), hl1⟩
    have hil' : (i : Int) < (s.devs.length : Nat) := by omega
    have hz : (0:Int) ≤ (i : Int) ∧ (i : Int) < (s.devs.length : Nat) := by omega
    have hw := wsucc hil (by omega)
    have hf := flatMap_fits (f := Dev.cells) (k := 6) (fun _ => rfl) hil
    have ht := flatMap_at (f := Dev.cells) (k := 6) (fun _ => rfl) hil
    have hc := h.dev _ (List.getElem_mem hil)
    have hfew := h.few _ (List.getElem_mem hil)
    obtain ⟨d, hd⟩ : ∃ d, d = s.devs[i] := ⟨_, rfl⟩
    rw [← hd] at ht hc hfew
    have l6 : d.cells.length = 6 := rfl
    have f6 : allLeaf d.cells = true := rfl
    simp only [↓Bp, Bq, Bs, ↓aop.eq_28, ↓aop.eq_30, Nat.reduceEqDiff, Nat.reduceAdd, Nat.reduceMul, Nat.reduceSub, Nat.reduceLeDiff, Nat.reduceLT, Int.reduceLT, Int.reduceLE, Int.reduceEq, Int.reduceToNat, Int.reduceAdd, Int.reduceSub, Int.reduceNeg, ↓reduceIte, reduceCtorEq, ↓C.q24_r12_w, C.q24_r12_b, ↓C.q24_c1_w, ↓C.q24_r3_w, C.q24_r3_b, ↓C.q24_c2_w, ↓C.q24_r4_w, C.q24_r4_b, ↓C.q24_b16_w, ↓C.q24_c17_w, ↓C.q24_c18_w, ↓C.q24_r2_w, C.q24_r2_b, ↓C.q24_b20_w, ↓C.q24_c21_w, ↓C.q24_r1_w, C.q24_r1_b, ↓C.q24_c22_w, ↓C.q24_r0_w, C.q24_r0_b, C.q24, hil', hb1, hz, Int.toNat_natCast, hf, ht]
    intro id hid
    simp only [↓Bp, Bq, Bs, ↓aop.eq_28, ↓aop.eq_30, Nat.reduceEqDiff, Nat.reduceAdd, Nat.reduceMul, Nat.reduceSub, Nat.reduceLeDiff, Nat.reduceLT, Int.reduceLT, Int.reduceLE, Int.reduceEq, Int.reduceToNat, Int.reduceAdd, Int.reduceSub, Int.reduceNeg, ↓reduceIte, reduceCtorEq, ↓C.q24_r12_w, C.q24_r12_b, ↓C.q24_c1_w, ↓C.q24_r3_w, C.q24_r3_b, ↓C.q24_c2_w, ↓C.q24_r4_w, C.q24_r4_b, ↓C.q24_b16_w, ↓C.q24_c17_w, ↓C.q24_c18_w, ↓C.q24_r2_w, C.q24_r2_b, ↓C.q24_b20_w, ↓C.q24_c21_w, ↓C.q24_r1_w, C.q24_r1_b, ↓C.q24_c22_w, ↓C.q24_r0_w, C.q24_r0_b, C.q24, hid, l6, f6]
    rw [show putN [AV.int .i64 0, AV.int .i64 0, AV.int .i64 0, AV.int .u32 0, AV.nils, AV.nils] 0 d.cells = d.cells from putN_all rfl, ASt.new_set hid]
    have hd2 := ASt.new_self (.cells d.cells) hid
    have hl2 := ASt.le.new s1 id (.cells d.cells)
    have hb2 := hl2 _ _ hb1
    generalize s1.new id (.cells d.cells) = s2 at hd2 hl2 hb2
    rw [Dev.cells, row] at hd2
    simp only [↓Bp, Bq, Bs, ↓aop.eq_28, ↓aop.eq_30, Nat.reduceEqDiff, Nat.reduceAdd, Nat.reduceMul, Nat.reduceSub, Nat.reduceLeDiff, Nat.reduceLT, Int.reduceLT, Int.reduceLE, Int.reduceEq, Int.reduceToNat, Int.reduceAdd, Int.reduceSub, Int.reduceNeg, ↓reduceIte, reduceCtorEq, ↓C.q24_r12_w, C.q24_r12_b, ↓C.q24_c1_w, ↓C.q24_r3_w, C.q24_r3_b, ↓C.q24_c2_w, ↓C.q24_r9_w, C.q24_r9_b, ↓C.q24_c3_w, ↓C.q24_r11_w, C.q24_r11_b, ↓C.q24_c4_w, ↓C.q24_c5_w, ↓C.q24_r10_w, C.q24_r10_b, ↓C.q24_b6_w, ↓C.q24_c7_w, ↓C.q24_c8_w, ↓C.q24_r8_w, C.q24_r8_b, ↓C.q24_b10_w, ↓C.q24_c11_w, ↓C.q24_r7_w, C.q24_r7_b, ↓C.q24_c12_w, ↓C.q24_r5_w, C.q24_r5_b, ↓C.q24_c15_w, ↓C.q24_r4_w, C.q24_r4_b, ↓C.q24_b16_w, ↓C.q24_c17_w, ↓C.q24_c18_w, ↓C.q24_r2_w, C.q24_r2_b, ↓C.q24_b20_w, ↓C.q24_c21_w, ↓C.q24_r1_w, C.q24_r1_b, ↓C.q24_c22_w, ↓C.q24_r0_w, C.q24_r0_b, C.q24, hd2, hb2]
    refine rin_spec.mono ?_
    rintro r s3 ⟨rfl, rfl⟩
    rw [decide_eq_true hc.1]
    simp only [↓Bp, Bq, Bs, ↓aop.eq_28, ↓aop.eq_30, Nat.reduceEqDiff, Nat.reduceAdd, Nat.reduceMul, Nat.reduceSub, Nat.reduceLeDiff, Nat.reduceLT, Int.reduceLT, Int.reduceLE, Int.reduceEq, Int.reduceToNat, Int.reduceAdd, Int.reduceSub, Int.reduceNeg, ↓reduceIte, reduceCtorEq, ↓C.q24_r12_w, C.q24_r12_b, ↓C.q24_c1_w, ↓C.q24_r3_w, C.q24_r3_b, ↓C.q24_c2_w, ↓C.q24_r9_w, C.q24_r9_b, ↓C.q24_c3_w, ↓C.q24_r11_w, C.q24_r11_b, ↓C.q24_c4_w, ↓C.q24_c5_w, ↓C.q24_r10_w, C.q24_r10_b, ↓C.q24_b6_w, ↓C.q24_c7_w, ↓C.q24_c8_w, ↓C.q24_r8_w, C.q24_r8_b, ↓C.q24_b10_w, ↓C.q24_c11_w, ↓C.q24_r7_w, C.q24_r7_b, ↓C.q24_c12_w, ↓C.q24_r5_w, C.q24_r5_b, ↓C.q24_c15_w, ↓C.q24_r4_w, C.q24_r4_b, ↓C.q24_b16_w, ↓C.q24_c17_w, ↓C.q24_c18_w, ↓C.q24_r2_w, C.q24_r2_b, ↓C.q24_b20_w, ↓C.q24_c21_w, ↓C.q24_r1_w, C.q24_r1_b, ↓C.q24_c22_w, ↓C.q24_r0_w, C.q24_r0_b, C.q24, hd2, hb2]
    refine rin_spec.mono ?_
    rintro r s4 ⟨rfl, rfl⟩
    rw [decide_eq_true hc.2.1]
    simp only [↓Bp, Bq, Bs, ↓aop.eq_28, ↓aop.eq_30, Nat.reduceEqDiff, Nat.reduceAdd, Nat.reduceMul, Nat.reduceSub, Nat.reduceLeDiff, Nat.reduceLT, Int.reduceLT, Int.reduceLE, Int.reduceEq, Int.reduceToNat, Int.reduceAdd, Int.reduceSub, Int.reduceNeg, ↓reduceIte, reduceCtorEq, ↓C.q24_r12_w, C.q24_r12_b, ↓C.q24_c1_w, ↓C.q24_r3_w, C.q24_r3_b, ↓C.q24_c2_w, ↓C.q24_r9_w, C.q24_r9_b, ↓C.q24_c3_w, ↓C.q24_r11_w, C.q24_r11_b, ↓C.q24_c4_w, ↓C.q24_c5_w, ↓C.q24_r10_w, C.q24_r10_b, ↓C.q24_b6_w, ↓C.q24_c7_w, ↓C.q24_c8_w, ↓C.q24_r8_w, C.q24_r8_b, ↓C.q24_b10_w, ↓C.q24_c11_w, ↓C.q24_r7_w, C.q24_r7_b, ↓C.q24_c12_w, ↓C.q24_r5_w, C.q24_r5_b, ↓C.q24_c15_w, ↓C.q24_r4_w, C.q24_r4_b, ↓C.q24_b16_w, ↓C.q24_c17_w, ↓C.q24_c18_w, ↓C.q24_r2_w, C.q24_r2_b, ↓C.q24_b20_w, ↓C.q24_c21_w, ↓C.q24_r1_w, C.q24_r1_b, ↓C.q24_c22_w, ↓C.q24_r0_w, C.q24_r0_b, C.q24, hd2, hb2]
    refine rin_spec.mono ?_
    rintro r s5 ⟨rfl, rfl⟩
    rw [decide_eq_true hc.2.2.1]
    simp only [↓Bp, Bq, Bs, ↓aop.eq_28, ↓aop.eq_30, Nat.reduceEqDiff, Nat.reduceAdd, Nat.reduceMul, Nat.reduceSub, Nat.reduceLeDiff, Nat.reduceLT, Int.reduceLT, Int.reduceLE, Int.reduceEq, Int.reduceToNat, Int.reduceAdd, Int.reduceSub, Int.reduceNeg, ↓reduceIte, reduceCtorEq, ↓C.q24_W, C.q24_B, C.q24]
    refine awp_loopK (fun j : Nat => [(1, .ptr ib 0), (3, .int .i64 i), (4, .ptr id 0), (5, .int .i64 j)]) (fun j s' => j ≤ d.needs.length ∧ s' = s5) (fun j => d.needs.length - j) 0 rfl ⟨Nat.zero_le _, rfl⟩ ?_
    rintro j s6 ⟨hj, rfl⟩
    by_cases hjl : j < d.needs.length
    rotate_left
    · have hjl' : ¬ (j : Int) < (d.needs.length : Nat) := by omega
      simp only [↓Bp, Bq, Bs, ↓aop.eq_28, ↓aop.eq_30, Nat.reduceEqDiff, Nat.reduceAdd, Nat.reduceMul, Nat.reduceSub, Nat.reduceLeDiff, Nat.reduceLT, Int.reduceLT, Int.reduceLE, Int.reduceEq, Int.reduceToNat, Int.reduceAdd, Int.reduceSub, Int.reduceNeg, ↓reduceIte, reduceCtorEq, ↓C.q24_W, C.q24_B, C.q24, hjl', hd2, hw]
      exact ⟨i + 1, rfl, ⟨hil, hl1.trans hl2⟩, by omega⟩
    have hjl' : (j : Int) < (d.needs.length : Nat) := by omega
    have hzj : (0:Int) ≤ (j : Int) ∧ (j : Int) < (d.needs.length : Nat) := by omega
    have hwj := wsucc hjl (by omega)
    have hx := hc.2.2.2 _ (List.getElem_mem hjl)
    simp only [↓Bp, Bq, Bs, ↓aop.eq_28, ↓aop.eq_30, Nat.reduceEqDiff, Nat.reduceAdd, Nat.reduceMul, Nat.reduceSub, Nat.reduceLeDiff, Nat.reduceLT, Int.reduceLT, Int.reduceLE, Int.reduceEq, Int.reduceToNat, Int.reduceAdd, Int.reduceSub, Int.reduceNeg, ↓reduceIte, reduceCtorEq, ↓C.q24_W, C.q24_B, C.q24, hjl', hd2, hb2, hzj, Int.toNat_natCast, Nat.mul_one, ints_get hjl]
    refine rin_spec.mono ?_
    rintro r s7 ⟨rfl, rfl⟩
    rw [decide_eq_true hx]
    simp only [↓Bp, Bq, Bs, ↓aop.eq_28, ↓aop.eq_30, Nat.reduceEqDiff, Nat.reduceAdd, Nat.reduceMul, Nat.reduceSub, Nat.reduceLeDiff, Nat.reduceLT, Int.reduceLT, Int.reduceLE, Int.reduceEq, Int.reduceToNat, Int.reduceAdd, Int.reduceSub, Int.reduceNeg, ↓reduceIte, reduceCtorEq, ↓C.q24_W, C.q24_B, C.q24, hwj]
    exact ⟨j + 1, rfl, hjl, by omega⟩
  · rintro - s' hl1
    have hbx := hl1 _ _ hbx
    have e4 : AV.agg (List.take 4 s.cells) = .agg s.cells := rfl
    have l4 : s.cells.length = 4 := rfl
    have hm : ∀ c ∈ s.devs, c.needs.length ≤ 4294967296 := fun c hc => by have := h.few c hc; omega
    simp only [↓Bp, Bq, Bs, ↓aop.eq_28, ↓aop.eq_30, Nat.reduceEqDiff, Nat.reduceAdd, Nat.reduceMul, Nat.reduceSub, Nat.reduceLeDiff, Nat.reduceLT, Int.reduceLT, Int.reduceLE, Int.reduceEq, Int.reduceToNat, Int.reduceAdd, Int.reduceSub, Int.reduceNeg, ↓reduceIte, reduceCtorEq, ↓C.q24_W, C.q24_B, C.q24, hbx, e4, l4]
    refine (rNeeds_spec (by omega) hm).mono ?_
    rintro r s2 ⟨rfl, rfl⟩
    simp only [↓Bp, Bq, Bs, ↓aop.eq_28, ↓aop.eq_30, Nat.reduceEqDiff, Nat.reduceAdd, Nat.reduceMul, Nat.reduceSub, Nat.reduceLeDiff, Nat.reduceLT, Int.reduceLT, Int.reduceLE, Int.reduceEq, Int.reduceToNat, Int.reduceAdd, Int.reduceSub, Int.reduceNeg, ↓reduceIte, reduceCtorEq, ↓C.q24_W, C.q24_B, C.q24]
    refine (refCheck_spec (g := s.devs.map Dev.needs) ⟨by simp; omega, fun r hr => by obtain ⟨c, hc, rfl⟩ := List.mem_map.mp hr; have := hm c hc; omega⟩).mono ?_
    rintro r s2 ⟨rfl, rfl⟩
    rw [h.devG]
    simp only [↓Bp, Bq, Bs, ↓aop.eq_28, ↓aop.eq_30, Nat.reduceEqDiff, Nat.reduceAdd, Nat.reduceMul, Nat.reduceSub, Nat.reduceLeDiff, Nat.reduceLT, Int.reduceLT, Int.reduceLE, Int.reduceEq, Int.reduceToNat, Int.reduceAdd, Int.reduceSub, Int.reduceNeg, ↓reduceIte, reduceCtorEq, ↓C.q24_W, C.q24_B, C.q24]
    exact hle.trans hl1
/-- With nothing wrong, Check answers so. -/
theorem refConf_spec {st : ASt} {s : Soc} (h : s.okR) (hm : ∀ c ∈ s.clocks, c.src.length ≤ 4294967296) : ACalls Try.prog F.q17 [.agg s.cells] st fun r s' => r = .int .i64 0 ∧ s' = st := by
  refine ACalls.gc (Q' := fun r s' => r = .int .i64 0 ∧ st.le s') (calls_of_awp L.q17 rfl ?_) (fun v s ⟨h, hl⟩ => ⟨st, hl, h, rfl⟩)
  have hn := h.nr
  simp only [↓Bp, Bq, Bs, ↓aop.eq_28, ↓aop.eq_30, Nat.reduceEqDiff, Nat.reduceAdd, Nat.reduceMul, Nat.reduceSub, Nat.reduceLeDiff, Nat.reduceLT, Int.reduceLT, Int.reduceLE, Int.reduceEq, Int.reduceToNat, Int.reduceAdd, Int.reduceSub, Int.reduceNeg, ↓reduceIte, reduceCtorEq, ↓C.q17_r0_w, C.q17_r0_b, C.q17]
  intro ib hib
  have hb := ASt.new_self (.cells s.cells) hib
  have hle := ASt.le.new st ib (.cells s.cells)
  generalize st.new ib (.cells s.cells) = s0 at hb hle
  have hbx := hb
  have e4 : AV.agg (List.take 4 s.cells) = .agg s.cells := rfl
  have l4 : s.cells.length = 4 := rfl
  rw [Soc.cells, Soc.rstV] at hb
  simp only [↓Bp, Bq, Bs, ↓aop.eq_28, ↓aop.eq_30, Nat.reduceEqDiff, Nat.reduceAdd, Nat.reduceMul, Nat.reduceSub, Nat.reduceLeDiff, Nat.reduceLT, Int.reduceLT, Int.reduceLE, Int.reduceEq, Int.reduceToNat, Int.reduceAdd, Int.reduceSub, Int.reduceNeg, ↓reduceIte, reduceCtorEq, ↓C.q17_W, C.q17_B, C.q17, hbx, e4, l4]
  refine (rcounts_spec h).mono ?_
  rintro r s2 ⟨rfl, rfl⟩
  simp only [↓Bp, Bq, Bs, ↓aop.eq_28, ↓aop.eq_30, Nat.reduceEqDiff, Nat.reduceAdd, Nat.reduceMul, Nat.reduceSub, Nat.reduceLeDiff, Nat.reduceLT, Int.reduceLT, Int.reduceLE, Int.reduceEq, Int.reduceToNat, Int.reduceAdd, Int.reduceSub, Int.reduceNeg, ↓reduceIte, reduceCtorEq, ↓C.q17_W, C.q17_B, C.q17, hbx, e4, l4]
  refine (rclocks_spec h hm).mono ?_
  rintro r s2 ⟨rfl, rfl⟩
  simp only [↓Bp, Bq, Bs, ↓aop.eq_28, ↓aop.eq_30, Nat.reduceEqDiff, Nat.reduceAdd, Nat.reduceMul, Nat.reduceSub, Nat.reduceLeDiff, Nat.reduceLT, Int.reduceLT, Int.reduceLE, Int.reduceEq, Int.reduceToNat, Int.reduceAdd, Int.reduceSub, Int.reduceNeg, ↓reduceIte, reduceCtorEq, ↓C.q17_W, C.q17_B, C.q17, hbx, e4, l4]
  refine (rdomains_spec h).mono ?_
  rintro r s2 ⟨rfl, rfl⟩
  simp only [↓Bp, Bq, Bs, ↓aop.eq_28, ↓aop.eq_30, Nat.reduceEqDiff, Nat.reduceAdd, Nat.reduceMul, Nat.reduceSub, Nat.reduceLeDiff, Nat.reduceLT, Int.reduceLT, Int.reduceLE, Int.reduceEq, Int.reduceToNat, Int.reduceAdd, Int.reduceSub, Int.reduceNeg, ↓reduceIte, reduceCtorEq, ↓C.q17_W, C.q17_B, C.q17]
  refine awp_midB (fun _ : Unit => [(1, .ptr ib 0)]) (fun _ s' => s' = s2) ?_ ?_
  · refine awp_loopK (fun i : Nat => [(1, .ptr ib 0), (4, .int .i64 i)]) (fun i s' => i ≤ s.rsts.length ∧ s' = s2) (fun i => s.rsts.length - i) 0 rfl ⟨Nat.zero_le _, rfl⟩ ?_
    rintro i s1 ⟨hi, rfl⟩
    by_cases hil : i < s.rsts.length
    rotate_left
    · have hil' : ¬ (i : Int) < (s.rsts.length : Nat) := by omega
      simp only [↓Bp, Bq, Bs, ↓aop.eq_28, ↓aop.eq_30, Nat.reduceEqDiff, Nat.reduceAdd, Nat.reduceMul, Nat.reduceSub, Nat.reduceLeDiff, Nat.reduceLT, Int.reduceLT, Int.reduceLE, Int.reduceEq, Int.reduceToNat, Int.reduceAdd, Int.reduceSub, Int.reduceNeg, ↓reduceIte, reduceCtorEq, ↓C.q17_W, C.q17_B, C.q17, hil', hb]
      exact ⟨(), trivial⟩
    have hil' : (i : Int) < (s.rsts.length : Nat) := by omega
    have hz : (0:Int) ≤ (i : Int) ∧ (i : Int) < (s.rsts.length : Nat) := by omega
    have hw := wsucc hil (by omega)
    have g0 : (s.rsts.flatMap rstCells)[i]? = some (.int .i64 s.rsts[i]) := by
      have := rows_get rstCells (w := 1) (fun _ => rfl) hil (j := 0) (by omega)
      rw [Nat.mul_one, Nat.add_zero] at this
      exact this
    simp only [↓Bp, Bq, Bs, ↓aop.eq_28, ↓aop.eq_30, Nat.reduceEqDiff, Nat.reduceAdd, Nat.reduceMul, Nat.reduceSub, Nat.reduceLeDiff, Nat.reduceLT, Int.reduceLT, Int.reduceLE, Int.reduceEq, Int.reduceToNat, Int.reduceAdd, Int.reduceSub, Int.reduceNeg, ↓reduceIte, reduceCtorEq, ↓C.q17_W, C.q17_B, C.q17, hil', hb, hz, Int.toNat_natCast, Nat.mul_one, g0]
    refine rwithin_spec.mono ?_
    rintro r s3 ⟨rfl, rfl⟩
    rw [decide_eq_true (h.rst _ (List.getElem_mem hil))]
    simp only [↓Bp, Bq, Bs, ↓aop.eq_28, ↓aop.eq_30, Nat.reduceEqDiff, Nat.reduceAdd, Nat.reduceMul, Nat.reduceSub, Nat.reduceLeDiff, Nat.reduceLT, Int.reduceLT, Int.reduceLE, Int.reduceEq, Int.reduceToNat, Int.reduceAdd, Int.reduceSub, Int.reduceNeg, ↓reduceIte, reduceCtorEq, ↓C.q17_W, C.q17_B, C.q17, hw]
    exact ⟨i + 1, rfl, hil, by omega⟩
  · rintro - s' rfl
    simp only [↓Bp, Bq, Bs, ↓aop.eq_28, ↓aop.eq_30, Nat.reduceEqDiff, Nat.reduceAdd, Nat.reduceMul, Nat.reduceSub, Nat.reduceLeDiff, Nat.reduceLT, Int.reduceLT, Int.reduceLE, Int.reduceEq, Int.reduceToNat, Int.reduceAdd, Int.reduceSub, Int.reduceNeg, ↓reduceIte, reduceCtorEq, ↓C.q17_W, C.q17_B, C.q17, hbx, e4, l4]
    refine (rdevices_spec h).mono ?_
    rintro r s2 ⟨rfl, rfl⟩
    simp only [↓Bp, Bq, Bs, ↓aop.eq_28, ↓aop.eq_30, Nat.reduceEqDiff, Nat.reduceAdd, Nat.reduceMul, Nat.reduceSub, Nat.reduceLeDiff, Nat.reduceLT, Int.reduceLT, Int.reduceLE, Int.reduceEq, Int.reduceToNat, Int.reduceAdd, Int.reduceSub, Int.reduceNeg, ↓reduceIte, reduceCtorEq, ↓C.q17_W, C.q17_B, C.q17]
    exact hle
end Go.Proofs.Ytoblpialfhfdgaa.Cn
