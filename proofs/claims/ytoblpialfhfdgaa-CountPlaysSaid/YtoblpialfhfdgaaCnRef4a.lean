/- Descriptions: the document's Check of one that is right. -/
import Derived.Test.YtoblpialfhfdgaaCnConf8
import Derived.Test.YtoblpialfhfdgaaCnRef3a
set_option linter.unusedSimpArgs false
set_option linter.unusedVariables false
namespace Go.Proofs.Ytoblpialfhfdgaa.Cn
open Go Go.Proofs

/-- A description with which nothing is wrong. -/
structure Soc.okR (s : Soc) : Prop where
  nc : s.clocks.length ≤ 12
  nd : s.doms.length ≤ 6
  nr : s.rsts.length ≤ 6
  nv : s.devs.length ≤ 6
  few : ∀ d ∈ s.devs, d.regs.length ≤ 8 ∧ d.needs.length ≤ 6
  clk : ∀ c ∈ s.clocks, c.shape = true ∧ c.nums = true ∧ ∀ x ∈ c.src, 0 ≤ x ∧ x < (s.clocks.length : Int)
  dom : ∀ d ∈ s.doms, (d.above = -1 ∨ (0 ≤ d.above ∧ d.above < (s.doms.length : Int))) ∧ 0 ≤ d.delay ∧ d.delay ≤ 20
  rst : ∀ n ∈ s.rsts, 0 ≤ n ∧ n ≤ 20
  dev : ∀ d ∈ s.devs, (0 ≤ d.clock ∧ d.clock < (s.clocks.length : Int)) ∧ (0 ≤ d.dom ∧ d.dom < (s.doms.length : Int)) ∧ (0 ≤ d.rst ∧ d.rst < (s.rsts.length : Int)) ∧ ∀ x ∈ d.needs, 0 ≤ x ∧ x < (s.devs.length : Int)
  clkG : grErr (s.clocks.map Clk.src) = 0
  domG : grErr (s.doms.map Dom.up) = 0
  devG : grErr (s.devs.map Dev.needs) = 0
theorem noNode_zero {n : Nat} {x : Int} : noNode n x = 0 ↔ 0 ≤ x ∧ x < (n : Int) := by
  unfold noNode; split <;> simp_all
theorem noNodes_zero {n : Nat} {l : List Int} (h : firstE (fun i => noNode n (l.getD i 0)) l.length = 0) : ∀ x ∈ l, 0 ≤ x ∧ x < (n : Int) := by
  intro x hx
  obtain ⟨i, hi, rfl⟩ := List.getElem_of_mem hx
  have := firstE_zero.mp h i hi
  simp only [List.getD_eq_getElem?_getD, List.getElem?_eq_getElem hi, Option.getD_some] at this
  exact noNode_zero.mp this
theorem grErr_of {g : Gr} (hl : g.length ≤ 100) (hok : g.ok) (h : cycE g = 0) : grErr g = 0 := by
  have e0 : grErr g = if (ord g).length < g.length then 5 else 0 := by
    unfold grErr; rw [if_neg (by omega), if_pos hok]
  by_cases e : (ord g).length < g.length
  · rw [if_pos e] at e0
    rw [cycE, if_pos e0] at h; simp at h
  · rw [e0, if_neg e]
theorem Soc.okR.of {s : Soc} (h : confErr s = 0) : s.okR := by
  have hE := firstE_zero.mp h
  have h0 := fullE_zero.mp (hE 0 (by omega))
  have h1 : ∀ c ∈ s.clocks, firstE (clkE s.clocks.length c) 3 = 0 := fun c hc => by
    obtain ⟨i, hi, rfl⟩ := List.getElem_of_mem hc
    have := firstE_zero.mp (hE 1 (by omega)) i hi
    rwa [ofAll_at hi] at this
  have h3 : ∀ d ∈ s.doms, firstE (domE s.doms.length d) 2 = 0 := fun c hc => by
    obtain ⟨i, hi, rfl⟩ := List.getElem_of_mem hc
    have := firstE_zero.mp (hE 3 (by omega)) i hi
    rwa [ofAll_at hi] at this
  have h5 : ∀ n ∈ s.rsts, rstErr n = 0 := fun c hc => by
    obtain ⟨i, hi, rfl⟩ := List.getElem_of_mem hc
    have := firstE_zero.mp (hE 5 (by omega)) i hi
    rwa [ofAll_at hi] at this
  have h6 : ∀ d ∈ s.devs, firstE (devE s d) 4 = 0 := fun c hc => by
    obtain ⟨i, hi, rfl⟩ := List.getElem_of_mem hc
    have := firstE_zero.mp (hE 6 (by omega)) i hi
    rwa [ofAll_at hi] at this
  have k1 : ∀ c ∈ s.clocks, c.shape = true ∧ c.nums = true ∧ ∀ x ∈ c.src, 0 ≤ x ∧ x < (s.clocks.length : Int) := fun c hc => by
    have q := firstE_zero.mp (h1 c hc)
    have q0 := q 0 (by omega)
    have q1 := q 1 (by omega)
    have q2 := q 2 (by omega)
    simp only [clkE] at q0 q1 q2
    refine ⟨?_, ?_, noNodes_zero q1⟩
    · by_cases e : c.shape = true
      · exact e
      · rw [if_neg e] at q0; simp at q0
    · by_cases e : c.nums = true
      · exact e
      · rw [if_neg e] at q2; simp at q2
  have k3 : ∀ d ∈ s.doms, (d.above = -1 ∨ (0 ≤ d.above ∧ d.above < (s.doms.length : Int))) ∧ 0 ≤ d.delay ∧ d.delay ≤ 20 := fun c hc => by
    have q := firstE_zero.mp (h3 c hc)
    have q0 := q 0 (by omega)
    have q1 := q 1 (by omega)
    simp only [domE] at q0 q1
    refine ⟨?_, ?_⟩
    · by_cases e : c.above ≠ -1 ∧ ¬ (0 ≤ c.above ∧ c.above < (s.doms.length : Int))
      · rw [if_pos e] at q0; simp at q0
      · omega
    · by_cases e : 0 ≤ c.delay ∧ c.delay ≤ 20
      · exact e
      · rw [if_neg e] at q1; simp at q1
  have k6 : ∀ d ∈ s.devs, (0 ≤ d.clock ∧ d.clock < (s.clocks.length : Int)) ∧ (0 ≤ d.dom ∧ d.dom < (s.doms.length : Int)) ∧ (0 ≤ d.rst ∧ d.rst < (s.rsts.length : Int)) ∧ ∀ x ∈ d.needs, 0 ≤ x ∧ x < (s.devs.length : Int) := fun d hd => by
    have q := firstE_zero.mp (h6 d hd)
    exact ⟨noNode_zero.mp (q 0 (by omega)), noNode_zero.mp (q 1 (by omega)), noNode_zero.mp (q 2 (by omega)), noNodes_zero (q 3 (by omega))⟩
  refine ⟨h0.1.1, h0.1.2.1, h0.1.2.2.1, h0.1.2.2.2, h0.2, k1, k3, fun n hn => ?_, k6, ?_, ?_, ?_⟩
  · have := h5 n hn
    unfold rstErr at this
    by_cases e : 0 ≤ n ∧ n ≤ 20
    · exact e
    · rw [if_neg e] at this; simp at this
  · refine grErr_of (by simp; omega) (fun r hr => ?_) (hE 2 (by omega))
    obtain ⟨c, hc, rfl⟩ := List.mem_map.mp hr
    rw [List.length_map]; exact (k1 c hc).2.2
  · refine grErr_of (by simp; omega) (fun r hr u hu => ?_) (hE 4 (by omega))
    obtain ⟨d, hd, rfl⟩ := List.mem_map.mp hr
    rw [List.length_map]
    have := (k3 d hd).1
    unfold Dom.up at hu
    split at hu
    · cases hu
    · have : u = d.above := by simpa using hu
      omega
  · refine grErr_of (by simp; omega) (fun r hr => ?_) (hE 7 (by omega))
    obtain ⟨c, hc, rfl⟩ := List.mem_map.mp hr
    rw [List.length_map]; exact (k6 c hc).2.2.2

theorem rwithin_spec {st : ASt} {n a b : Int} : ACalls Try.prog F.q27 [.int .i64 n, .int .i64 a, .int .i64 b] st fun r st' => r = .bool (decide (a ≤ n ∧ n ≤ b)) ∧ st' = st := by
  refine calls_of_awp L.q27 rfl ?_
  by_cases h1 : a ≤ n
  · by_cases h2 : n ≤ b
    · simp only [↓Bp, Bq, Bs, ↓aop.eq_28, ↓aop.eq_30, Nat.reduceEqDiff, Nat.reduceAdd, Nat.reduceMul, Nat.reduceSub, Nat.reduceLeDiff, Nat.reduceLT, Int.reduceLT, Int.reduceLE, Int.reduceEq, Int.reduceToNat, Int.reduceAdd, Int.reduceSub, Int.reduceNeg, ↓reduceIte, reduceCtorEq, ↓C.q27_W, C.q27_B, C.q27, h1, h2, ge_iff_le]
    · simp only [↓Bp, Bq, Bs, ↓aop.eq_28, ↓aop.eq_30, Nat.reduceEqDiff, Nat.reduceAdd, Nat.reduceMul, Nat.reduceSub, Nat.reduceLeDiff, Nat.reduceLT, Int.reduceLT, Int.reduceLE, Int.reduceEq, Int.reduceToNat, Int.reduceAdd, Int.reduceSub, Int.reduceNeg, ↓reduceIte, reduceCtorEq, ↓C.q27_W, C.q27_B, C.q27, h1, h2, ge_iff_le]
  · simp only [↓Bp, Bq, Bs, ↓aop.eq_28, ↓aop.eq_30, Nat.reduceEqDiff, Nat.reduceAdd, Nat.reduceMul, Nat.reduceSub, Nat.reduceLeDiff, Nat.reduceLT, Int.reduceLT, Int.reduceLE, Int.reduceEq, Int.reduceToNat, Int.reduceAdd, Int.reduceSub, Int.reduceNeg, ↓reduceIte, reduceCtorEq, ↓C.q27_W, C.q27_B, C.q27, h1, ge_iff_le]
theorem rin_spec {st : ASt} {n b : Int} : ACalls Try.prog F.q26 [.int .i64 n, .int .i64 b] st fun r st' => r = .bool (decide (0 ≤ n ∧ n < b)) ∧ st' = st := by
  refine calls_of_awp L.q26 rfl ?_
  by_cases h1 : 0 ≤ n
  · by_cases h2 : n < b
    · simp only [↓Bp, Bq, Bs, ↓aop.eq_28, ↓aop.eq_30, Nat.reduceEqDiff, Nat.reduceAdd, Nat.reduceMul, Nat.reduceSub, Nat.reduceLeDiff, Nat.reduceLT, Int.reduceLT, Int.reduceLE, Int.reduceEq, Int.reduceToNat, Int.reduceAdd, Int.reduceSub, Int.reduceNeg, ↓reduceIte, reduceCtorEq, ↓C.q26_W, C.q26_B, C.q26, h1, h2, ge_iff_le]
    · simp only [↓Bp, Bq, Bs, ↓aop.eq_28, ↓aop.eq_30, Nat.reduceEqDiff, Nat.reduceAdd, Nat.reduceMul, Nat.reduceSub, Nat.reduceLeDiff, Nat.reduceLT, Int.reduceLT, Int.reduceLE, Int.reduceEq, Int.reduceToNat, Int.reduceAdd, Int.reduceSub, Int.reduceNeg, ↓reduceIte, reduceCtorEq, ↓C.q26_W, C.q26_B, C.q26, h1, h2, ge_iff_le]
  · simp only [↓Bp, Bq, Bs, ↓aop.eq_28, ↓aop.eq_30, Nat.reduceEqDiff, Nat.reduceAdd, Nat.reduceMul, Nat.reduceSub, Nat.reduceLeDiff, Nat.reduceLT, Int.reduceLT, Int.reduceLE, Int.reduceEq, Int.reduceToNat, Int.reduceAdd, Int.reduceSub, Int.reduceNeg, ↓reduceIte, reduceCtorEq, ↓C.q26_W, C.q26_B, C.q26, h1, ge_iff_le]
theorem rcounts_spec {st : ASt} {s : Soc} (h : s.okR) : ACalls Try.prog F.q23 [.agg s.cells] st fun r s' => r = .bool true ∧ s' = st := by
  refine ACalls.gc (Q' := fun r s' => r = .bool true ∧ st.le s') (calls_of_awp L.q23 rfl ?_) (fun v s ⟨h, hl⟩ => ⟨st, hl, h, rfl⟩)
  simp only [↓Bp, Bq, Bs, ↓aop.eq_28, ↓aop.eq_30, Nat.reduceEqDiff, Nat.reduceAdd, Nat.reduceMul, Nat.reduceSub, Nat.reduceLeDiff, Nat.reduceLT, Int.reduceLT, Int.reduceLE, Int.reduceEq, Int.reduceToNat, Int.reduceAdd, Int.reduceSub, Int.reduceNeg, ↓reduceIte, reduceCtorEq, ↓C.q23_r0_w, C.q23_r0_b, C.q23]
  intro ib hib
  have hb := ASt.new_self (.cells s.cells) hib
  have hle := ASt.le.new st ib (.cells s.cells)
  generalize st.new ib (.cells s.cells) = s0 at hb hle
  rw [Soc.cells, Soc.clkV, Soc.domV, Soc.rstV, Soc.devV] at hb
  have h1 := h.nc; have h2 := h.nd; have h3 := h.nr; have h4 := h.nv
  have q1 : ¬ (12 : Int) < (s.clocks.length : Nat) := by omega
  have q2 : ¬ (6 : Int) < (s.doms.length : Nat) := by omega
  have q3 : ¬ (6 : Int) < (s.rsts.length : Nat) := by omega
  have q4 : ¬ (6 : Int) < (s.devs.length : Nat) := by omega
  simp only [↓Bp, Bq, Bs, ↓aop.eq_28, ↓aop.eq_30, Nat.reduceEqDiff, Nat.reduceAdd, Nat.reduceMul, Nat.reduceSub, Nat.reduceLeDiff, Nat.reduceLT, Int.reduceLT, Int.reduceLE, Int.reduceEq, Int.reduceToNat, Int.reduceAdd, Int.reduceSub, Int.reduceNeg, ↓reduceIte, reduceCtorEq, ↓C.q23_W, C.q23_B, C.q23, hb, q1, q2, q3, q4, gt_iff_lt]
  refine awp_midB (fun _ : Unit => []) (fun _ s' => s' = s0) ?_ ?_
  rotate_left
  · rintro - s' rfl
    simp only [↓Bp, Bq, Bs, ↓aop.eq_28, ↓aop.eq_30, Nat.reduceEqDiff, Nat.reduceAdd, Nat.reduceMul, Nat.reduceSub, Nat.reduceLeDiff, Nat.reduceLT, Int.reduceLT, Int.reduceLE, Int.reduceEq, Int.reduceToNat, Int.reduceAdd, Int.reduceSub, Int.reduceNeg, ↓reduceIte, reduceCtorEq, ↓C.q23_W, C.q23_B, C.q23]
    exact hle
  refine awp_loopK (fun i : Nat => [(1, .ptr ib 0), (3, .int .i64 i)]) (fun i s' => i ≤ s.devs.length ∧ s' = s0) (fun i => s.devs.length - i) 0 rfl ⟨Nat.zero_le _, rfl⟩ ?_
  rintro i s' ⟨hi, rfl⟩
  by_cases hil : i < s.devs.length
  rotate_left
  · have hil' : ¬ (i : Int) < (s.devs.length : Nat) := by omega
    simp only [↓Bp, Bq, Bs, ↓aop.eq_28, ↓aop.eq_30, Nat.reduceEqDiff, Nat.reduceAdd, Nat.reduceMul, Nat.reduceSub, Nat.reduceLeDiff, Nat.reduceLT, Int.reduceLT, Int.reduceLE, Int.reduceEq, Int.reduceToNat, Int.reduceAdd, Int.reduceSub, Int.reduceNeg, ↓reduceIte, reduceCtorEq, ↓C.q23_W, C.q23_B, C.q23, hil', hb]
    exact ⟨(), trivial⟩
  have hil' : (i : Int) < (s.devs.length : Nat) := by omega
  have hz : (0:Int) ≤ (i : Int) ∧ (i : Int) < (s.devs.length : Nat) := by omega
  have hw := wsucc hil (by omega)
  have hf := h.few _ (List.getElem_mem hil)
  have g4 : (s.devs.flatMap Dev.cells)[i * 6 + 4]? = some (.isl 2 (flat s.devs[i].regs) s.devs[i].regs.length) := rows_get Dev.cells (w := 6) (fun _ => rfl) hil (j := 4) (by omega)
  have g5 : (s.devs.flatMap Dev.cells)[i * 6 + 5]? = some (row s.devs[i].needs) := rows_get Dev.cells (w := 6) (fun _ => rfl) hil (j := 5) (by omega)
  have e1 : ¬ (8 : Int) < (s.devs[i].regs.length : Nat) := by omega
  have e2 : ¬ (6 : Int) < (s.devs[i].needs.length : Nat) := by omega
  simp only [↓Bp, Bq, Bs, ↓aop.eq_28, ↓aop.eq_30, Nat.reduceEqDiff, Nat.reduceAdd, Nat.reduceMul, Nat.reduceSub, Nat.reduceLeDiff, Nat.reduceLT, Int.reduceLT, Int.reduceLE, Int.reduceEq, Int.reduceToNat, Int.reduceAdd, Int.reduceSub, Int.reduceNeg, ↓reduceIte, reduceCtorEq, ↓C.q23_W, C.q23_B, C.q23, hil', hb, hz, Int.toNat_natCast, g4, g5, row, e1, e2, gt_iff_lt, hw]
  exact ⟨i + 1, rfl, hil, by omega⟩
set_option maxHeartbeats 2000000 in
theorem rclock_spec {st : ASt} {c : Clk} {n : Nat} (h1 : c.shape = true) (h2 : c.nums = true) (h3 : ∀ x ∈ c.src, 0 ≤ x ∧ x < (n : Int)) (hs : c.src.length ≤ 4294967296) :
    ACalls Try.prog F.q21 [.agg c.cells, .int .i64 n] st fun r s' => r = .int .i64 0 ∧ s' = st := by
  refine ACalls.gc (Q' := fun r s' => r = .int .i64 0 ∧ st.le s') (calls_of_awp L.q21 rfl ?_) (fun v s ⟨h, hl⟩ => ⟨st, hl, h, rfl⟩)
  simp only [↓Bp, Bq, Bs, ↓aop.eq_28, ↓aop.eq_30, Nat.reduceEqDiff, Nat.reduceAdd, Nat.reduceMul, Nat.reduceSub, Nat.reduceLeDiff, Nat.reduceLT, Int.reduceLT, Int.reduceLE, Int.reduceEq, Int.reduceToNat, Int.reduceAdd, Int.reduceSub, Int.reduceNeg, ↓reduceIte, reduceCtorEq, ↓C.q21_r0_w, C.q21_r0_b, C.q21]
  intro ib hib
  have hb := ASt.new_self (.cells c.cells) hib
  have hle := ASt.le.new st ib (.cells c.cells)
  generalize st.new ib (.cells c.cells) = s0 at hb hle
  rw [Clk.cells, row] at hb
  have e0 : ((c.src.length : Int) = 0) ↔ c.src.length = 0 := by omega
  have e1 : ((c.src.length : Int) = 1) ↔ c.src.length = 1 := by omega
  have lit : ∀ a : Nat, ((a : Nat) : Int) = a := fun _ => rfl
  -- behind the shape: the sources and the numbers
  have back : awp Try.prog C.q21_c20 (Post [.slot 4] fun r s' => r = .int .i64 0 ∧ st.le s') [(1, .int .i64 n), (2, .ptr ib 0), (5, .int .i64 c.src.length)] s0 := by
    simp only [↓Bp, Bq, Bs, ↓aop.eq_28, ↓aop.eq_30, Nat.reduceEqDiff, Nat.reduceAdd, Nat.reduceMul, Nat.reduceSub, Nat.reduceLeDiff, Nat.reduceLT, Int.reduceLT, Int.reduceLE, Int.reduceEq, Int.reduceToNat, Int.reduceAdd, Int.reduceSub, Int.reduceNeg, ↓reduceIte, reduceCtorEq, ↓C.q21_W, C.q21_B, C.q21]
    refine awp_midB (fun _ : Unit => [(2, .ptr ib 0)]) (fun _ s' => s' = s0) ?_ ?_
    · refine awp_loopK (fun i : Nat => [(1, .int .i64 n), (2, .ptr ib 0), (5, .int .i64 c.src.length), (7, .int .i64 i)]) (fun i s' => i ≤ c.src.length ∧ s' = s0) (fun i => c.src.length - i) 0 rfl ⟨Nat.zero_le _, rfl⟩ ?_
      rintro i s' ⟨hi, rfl⟩
      by_cases hil : i < c.src.length
      rotate_left
      · have hil' : ¬ (i : Int) < (c.src.length : Nat) := by omega
        simp only [↓Bp, Bq, Bs, ↓aop.eq_28, ↓aop.eq_30, Nat.reduceEqDiff, Nat.reduceAdd, Nat.reduceMul, Nat.reduceSub, Nat.reduceLeDiff, Nat.reduceLT, Int.reduceLT, Int.reduceLE, Int.reduceEq, Int.reduceToNat, Int.reduceAdd, Int.reduceSub, Int.reduceNeg, ↓reduceIte, reduceCtorEq, ↓C.q21_W, C.q21_B, C.q21, hil']
        exact ⟨(), trivial⟩
      have hil' : (i : Int) < (c.src.length : Nat) := by omega
      have hz : (0:Int) ≤ (i : Int) ∧ (i : Int) < (c.src.length : Nat) := by omega
      have hw := wsucc hil (by omega)
      have hx := h3 _ (List.getElem_mem hil)
      simp only [↓Bp, Bq, Bs, ↓aop.eq_28, ↓aop.eq_30, Nat.reduceEqDiff, Nat.reduceAdd, Nat.reduceMul, Nat.reduceSub, Nat.reduceLeDiff, Nat.reduceLT, Int.reduceLT, Int.reduceLE, Int.reduceEq, Int.reduceToNat, Int.reduceAdd, Int.reduceSub, Int.reduceNeg, ↓reduceIte, reduceCtorEq, ↓C.q21_W, C.q21_B, C.q21, hil', hb, hz, Int.toNat_natCast, Nat.mul_one, ints_get hil]
      refine rin_spec.mono ?_
      rintro r s2 ⟨rfl, rfl⟩
      rw [decide_eq_true hx]
      simp only [↓Bp, Bq, Bs, ↓aop.eq_28, ↓aop.eq_30, Nat.reduceEqDiff, Nat.reduceAdd, Nat.reduceMul, Nat.reduceSub, Nat.reduceLeDiff, Nat.reduceLT, Int.reduceLT, Int.reduceLE, Int.reduceEq, Int.reduceToNat, Int.reduceAdd, Int.reduceSub, Int.reduceNeg, ↓reduceIte, reduceCtorEq, ↓C.q21_W, C.q21_B, C.q21, hw]
      exact ⟨i + 1, rfl, hil, by omega⟩
    · rintro - s' rfl
      unfold Clk.nums at h2
      by_cases k1 : c.kind = 111
      · rw [if_pos k1] at h2
        have hn := of_decide_eq_true h2
        have n1 : ¬ c.rate < 1 := by omega
        have n2 : ¬ (1099511627776 : Int) < c.rate := by omega
        simp only [↓Bp, Bq, Bs, ↓aop.eq_28, ↓aop.eq_30, Nat.reduceEqDiff, Nat.reduceAdd, Nat.reduceMul, Nat.reduceSub, Nat.reduceLeDiff, Nat.reduceLT, Int.reduceLT, Int.reduceLE, Int.reduceEq, Int.reduceToNat, Int.reduceAdd, Int.reduceSub, Int.reduceNeg, ↓reduceIte, reduceCtorEq, ↓C.q21_W, C.q21_B, C.q21, hb, k1, n1, n2]
        exact hle
      rw [if_neg k1] at h2
      by_cases k2 : c.kind = 112
      · rw [if_pos k2] at h2
        have hn := of_decide_eq_true h2
        simp only [↓Bp, Bq, Bs, ↓aop.eq_28, ↓aop.eq_30, Nat.reduceEqDiff, Nat.reduceAdd, Nat.reduceMul, Nat.reduceSub, Nat.reduceLeDiff, Nat.reduceLT, Int.reduceLT, Int.reduceLE, Int.reduceEq, Int.reduceToNat, Int.reduceAdd, Int.reduceSub, Int.reduceNeg, ↓reduceIte, reduceCtorEq, ↓C.q21_r16_w, C.q21_r16_b, ↓C.q21_c1_w, ↓C.q21_r14_w, C.q21_r14_b, ↓C.q21_c4_w, ↓C.q21_r13_w, C.q21_r13_b, ↓C.q21_c5_w, ↓C.q21_c6_w, ↓C.q21_r12_w, C.q21_r12_b, ↓C.q21_c7_w, ↓C.q21_r11_w, C.q21_r11_b, ↓C.q21_c8_w, ↓C.q21_c9_w, ↓C.q21_r10_w, C.q21_r10_b, ↓C.q21_c10_w, ↓C.q21_r7_w, C.q21_r7_b, ↓C.q21_c11_w, ↓C.q21_r9_w, C.q21_r9_b, ↓C.q21_c12_w, ↓C.q21_c13_w, ↓C.q21_r8_w, C.q21_r8_b, ↓C.q21_b14_w, ↓C.q21_c15_w, ↓C.q21_c16_w, ↓C.q21_r6_w, C.q21_r6_b, ↓C.q21_b18_w, ↓C.q21_c19_w, ↓C.q21_r5_w, C.q21_r5_b, ↓C.q21_c20_w, ↓C.q21_r4_w, C.q21_r4_b, ↓C.q21_c21_w, ↓C.q21_c22_w, ↓C.q21_r3_w, C.q21_r3_b, ↓C.q21_c23_w, ↓C.q21_r2_w, C.q21_r2_b, ↓C.q21_c24_w, ↓C.q21_r1_w, C.q21_r1_b, ↓C.q21_c25_w, ↓C.q21_r0_w, C.q21_r0_b, C.q21, hb, k1, k2]
        refine rwithin_spec.mono ?_
        rintro r s2 ⟨rfl, rfl⟩
        rw [decide_eq_true hn.1]
        simp only [↓Bp, Bq, Bs, ↓aop.eq_28, ↓aop.eq_30, Nat.reduceEqDiff, Nat.reduceAdd, Nat.reduceMul, Nat.reduceSub, Nat.reduceLeDiff, Nat.reduceLT, Int.reduceLT, Int.reduceLE, Int.reduceEq, Int.reduceToNat, Int.reduceAdd, Int.reduceSub, Int.reduceNeg, ↓reduceIte, reduceCtorEq, ↓C.q21_r16_w, C.q21_r16_b, ↓C.q21_c1_w, ↓C.q21_r14_w, C.q21_r14_b, ↓C.q21_c4_w, ↓C.q21_r13_w, C.q21_r13_b, ↓C.q21_c5_w, ↓C.q21_c6_w, ↓C.q21_r12_w, C.q21_r12_b, ↓C.q21_c7_w, ↓C.q21_r11_w, C.q21_r11_b, ↓C.q21_c8_w, ↓C.q21_c9_w, ↓C.q21_r10_w, C.q21_r10_b, ↓C.q21_c10_w, ↓C.q21_r7_w, C.q21_r7_b, ↓C.q21_c11_w, ↓C.q21_r9_w, C.q21_r9_b, ↓C.q21_c12_w, ↓C.q21_c13_w, ↓C.q21_r8_w, C.q21_r8_b, ↓C.q21_b14_w, ↓C.q21_c15_w, ↓C.q21_c16_w, ↓C.q21_r6_w, C.q21_r6_b, ↓C.q21_b18_w, ↓C.q21_c19_w, ↓C.q21_r5_w, C.q21_r5_b, ↓C.q21_c20_w, ↓C.q21_r4_w, C.q21_r4_b, ↓C.q21_c21_w, ↓C.q21_c22_w, ↓C.q21_r3_w, C.q21_r3_b, ↓C.q21_c23_w, ↓C.q21_r2_w, C.q21_r2_b, ↓C.q21_c24_w, ↓C.q21_r1_w, C.q21_r1_b, ↓C.q21_c25_w, ↓C.q21_r0_w, C.q21_r0_b, C.q21, hb]
        refine rwithin_spec.mono ?_
        rintro r s2 ⟨rfl, rfl⟩
        rw [decide_eq_true hn.2.1]
        simp only [↓Bp, Bq, Bs, ↓aop.eq_28, ↓aop.eq_30, Nat.reduceEqDiff, Nat.reduceAdd, Nat.reduceMul, Nat.reduceSub, Nat.reduceLeDiff, Nat.reduceLT, Int.reduceLT, Int.reduceLE, Int.reduceEq, Int.reduceToNat, Int.reduceAdd, Int.reduceSub, Int.reduceNeg, ↓reduceIte, reduceCtorEq, ↓C.q21_r16_w, C.q21_r16_b, ↓C.q21_c1_w, ↓C.q21_r14_w, C.q21_r14_b, ↓C.q21_c4_w, ↓C.q21_r13_w, C.q21_r13_b, ↓C.q21_c5_w, ↓C.q21_c6_w, ↓C.q21_r12_w, C.q21_r12_b, ↓C.q21_c7_w, ↓C.q21_r11_w, C.q21_r11_b, ↓C.q21_c8_w, ↓C.q21_c9_w, ↓C.q21_r10_w, C.q21_r10_b, ↓C.q21_c10_w, ↓C.q21_r7_w, C.q21_r7_b, ↓C.q21_c11_w, ↓C.q21_r9_w, C.q21_r9_b, ↓C.q21_c12_w, ↓C.q21_c13_w, ↓C.q21_r8_w, C.q21_r8_b, ↓C.q21_b14_w, ↓C.q21_c15_w, ↓C.q21_c16_w, ↓C.q21_r6_w, C.q21_r6_b, ↓C.q21_b18_w, ↓C.q21_c19_w, ↓C.q21_r5_w, C.q21_r5_b, ↓C.q21_c20_w, ↓C.q21_r4_w, C.q21_r4_b, ↓C.q21_c21_w, ↓C.q21_c22_w, ↓C.q21_r3_w, C.q21_r3_b, ↓C.q21_c23_w, ↓C.q21_r2_w, C.q21_r2_b, ↓C.q21_c24_w, ↓C.q21_r1_w, C.q21_r1_b, ↓C.q21_c25_w, ↓C.q21_r0_w, C.q21_r0_b, C.q21, hb]
        refine rwithin_spec.mono ?_
        rintro r s2 ⟨rfl, rfl⟩
        rw [decide_eq_true hn.2.2]
        simp only [↓Bp, Bq, Bs, ↓aop.eq_28, ↓aop.eq_30, Nat.reduceEqDiff, Nat.reduceAdd, Nat.reduceMul, Nat.reduceSub, Nat.reduceLeDiff, Nat.reduceLT, Int.reduceLT, Int.reduceLE, Int.reduceEq, Int.reduceToNat, Int.reduceAdd, Int.reduceSub, Int.reduceNeg, ↓reduceIte, reduceCtorEq, ↓C.q21_W, C.q21_B, C.q21, hb, k2]
        exact hle
      rw [if_neg k2] at h2
      by_cases k3 : c.kind = 100
      · rw [if_pos k3] at h2
        have hn := of_decide_eq_true h2
        simp only [↓Bp, Bq, Bs, ↓aop.eq_28, ↓aop.eq_30, Nat.reduceEqDiff, Nat.reduceAdd, Nat.reduceMul, Nat.reduceSub, Nat.reduceLeDiff, Nat.reduceLT, Int.reduceLT, Int.reduceLE, Int.reduceEq, Int.reduceToNat, Int.reduceAdd, Int.reduceSub, Int.reduceNeg, ↓reduceIte, reduceCtorEq, ↓C.q21_W, C.q21_B, C.q21, hb, k1, k2, k3]
        refine rwithin_spec.mono ?_
        rintro r s2 ⟨rfl, rfl⟩
        rw [decide_eq_true hn]
        simp only [↓Bp, Bq, Bs, ↓aop.eq_28, ↓aop.eq_30, Nat.reduceEqDiff, Nat.reduceAdd, Nat.reduceMul, Nat.reduceSub, Nat.reduceLeDiff, Nat.reduceLT, Int.reduceLT, Int.reduceLE, Int.reduceEq, Int.reduceToNat, Int.reduceAdd, Int.reduceSub, Int.reduceNeg, ↓reduceIte, reduceCtorEq, ↓C.q21_W, C.q21_B, C.q21, hb]
        exact hle
      · simp only [↓Bp, Bq, Bs, ↓aop.eq_28, ↓aop.eq_30, Nat.reduceEqDiff, Nat.reduceAdd, Nat.reduceMul, Nat.reduceSub, Nat.reduceLeDiff, Nat.reduceLT, Int.reduceLT, Int.reduceLE, Int.reduceEq, Int.reduceToNat, Int.reduceAdd, Int.reduceSub, Int.reduceNeg, ↓reduceIte, reduceCtorEq, ↓C.q21_W, C.q21_B, C.q21, hb, k1, k2, k3]
        exact hle
  unfold Clk.shape at h1
  by_cases k1 : c.kind = 111
  · rw [if_pos k1] at h1
    have hn := of_decide_eq_true h1
    have hn' : (c.src.length : Int) = 0 := by omega
    simp only [↓Bp, Bq, Bs, ↓aop.eq_28, ↓aop.eq_30, Nat.reduceEqDiff, Nat.reduceAdd, Nat.reduceMul, Nat.reduceSub, Nat.reduceLeDiff, Nat.reduceLT, Int.reduceLT, Int.reduceLE, Int.reduceEq, Int.reduceToNat, Int.reduceAdd, Int.reduceSub, Int.reduceNeg, ↓reduceIte, reduceCtorEq, ↓C.q21_r4_w, C.q21_r4_b, ↓C.q21_c21_w, ↓C.q21_c22_w, ↓C.q21_r3_w, C.q21_r3_b, ↓C.q21_c23_w, ↓C.q21_r2_w, C.q21_r2_b, ↓C.q21_c24_w, ↓C.q21_r1_w, C.q21_r1_b, ↓C.q21_c25_w, ↓C.q21_r0_w, C.q21_r0_b, C.q21, hb, k1, hn']
    rw [C.q21_c20_w, awp_keep]
    rw [hn'] at back; exact back
  rw [if_neg k1] at h1
  by_cases k2 : c.kind = 112
  · rw [if_pos (.inl k2)] at h1
    have hn := of_decide_eq_true h1
    have hn' : (c.src.length : Int) = 1 := by omega
    simp only [↓Bp, Bq, Bs, ↓aop.eq_28, ↓aop.eq_30, Nat.reduceEqDiff, Nat.reduceAdd, Nat.reduceMul, Nat.reduceSub, Nat.reduceLeDiff, Nat.reduceLT, Int.reduceLT, Int.reduceLE, Int.reduceEq, Int.reduceToNat, Int.reduceAdd, Int.reduceSub, Int.reduceNeg, ↓reduceIte, reduceCtorEq, ↓C.q21_r4_w, C.q21_r4_b, ↓C.q21_c21_w, ↓C.q21_c22_w, ↓C.q21_r3_w, C.q21_r3_b, ↓C.q21_c23_w, ↓C.q21_r2_w, C.q21_r2_b, ↓C.q21_c24_w, ↓C.q21_r1_w, C.q21_r1_b, ↓C.q21_c25_w, ↓C.q21_r0_w, C.q21_r0_b, C.q21, hb, k1, k2, hn']
    rw [C.q21_c20_w, awp_keep]
    rw [hn'] at back; exact back
  by_cases k3 : c.kind = 100
  · rw [if_pos (.inr (.inl k3))] at h1
    have hn := of_decide_eq_true h1
    have hn' : (c.src.length : Int) = 1 := by omega
    simp only [↓Bp, Bq, Bs, ↓aop.eq_28, ↓aop.eq_30, Nat.reduceEqDiff, Nat.reduceAdd, Nat.reduceMul, Nat.reduceSub, Nat.reduceLeDiff, Nat.reduceLT, Int.reduceLT, Int.reduceLE, Int.reduceEq, Int.reduceToNat, Int.reduceAdd, Int.reduceSub, Int.reduceNeg, ↓reduceIte, reduceCtorEq, ↓C.q21_r4_w, C.q21_r4_b, ↓C.q21_c21_w, ↓C.q21_c22_w, ↓C.q21_r3_w, C.q21_r3_b, ↓C.q21_c23_w, ↓C.q21_r2_w, C.q21_r2_b, ↓C.q21_c24_w, ↓C.q21_r1_w, C.q21_r1_b, ↓C.q21_c25_w, ↓C.q21_r0_w, C.q21_r0_b, C.q21, hb, k1, k2, k3, hn']
    rw [C.q21_c20_w, awp_keep]
    rw [hn'] at back; exact back
  by_cases k4 : c.kind = 103
  · rw [if_pos (.inr (.inr k4))] at h1
    have hn := of_decide_eq_true h1
    have hn' : (c.src.length : Int) = 1 := by omega
    simp only [↓Bp, Bq, Bs, ↓aop.eq_28, ↓aop.eq_30, Nat.reduceEqDiff, Nat.reduceAdd, Nat.reduceMul, Nat.reduceSub, Nat.reduceLeDiff, Nat.reduceLT, Int.reduceLT, Int.reduceLE, Int.reduceEq, Int.reduceToNat, Int.reduceAdd, Int.reduceSub, Int.reduceNeg, ↓reduceIte, reduceCtorEq, ↓C.q21_r4_w, C.q21_r4_b, ↓C.q21_c21_w, ↓C.q21_c22_w, ↓C.q21_r3_w, C.q21_r3_b, ↓C.q21_c23_w, ↓C.q21_r2_w, C.q21_r2_b, ↓C.q21_c24_w, ↓C.q21_r1_w, C.q21_r1_b, ↓C.q21_c25_w, ↓C.q21_r0_w, C.q21_r0_b, C.q21, hb, k1, k2, k3, k4, hn']
    rw [C.q21_c20_w, awp_keep]
    rw [hn'] at back; exact back
  rw [if_neg (by omega)] at h1
  by_cases k5 : c.kind = 109
  rotate_left
  · rw [if_neg k5] at h1; cases h1
  rw [if_pos k5] at h1
  have hn := of_decide_eq_true h1
  have hn' : (1 : Int) ≤ (c.src.length : Int) ∧ (c.src.length : Int) ≤ 4 := by omega
  simp only [↓Bp, Bq, Bs, ↓aop.eq_28, ↓aop.eq_30, Nat.reduceEqDiff, Nat.reduceAdd, Nat.reduceMul, Nat.reduceSub, Nat.reduceLeDiff, Nat.reduceLT, Int.reduceLT, Int.reduceLE, Int.reduceEq, Int.reduceToNat, Int.reduceAdd, Int.reduceSub, Int.reduceNeg, ↓reduceIte, reduceCtorEq, ↓C.q21_r4_w, C.q21_r4_b, ↓C.q21_c21_w, ↓C.q21_c22_w, ↓C.q21_r3_w, C.q21_r3_b, ↓C.q21_c23_w, ↓C.q21_r2_w, C.q21_r2_b, ↓C.q21_c24_w, ↓C.q21_r1_w, C.q21_r1_b, ↓C.q21_c25_w, ↓C.q21_r0_w, C.q21_r0_b, C.q21, hb, k1, k2, k3, k4, k5]
  refine rwithin_spec.mono ?_
  rintro r s2 ⟨rfl, rfl⟩
  rw [decide_eq_true hn']
  simp only [↓Bp, Bq, Bs, ↓aop.eq_28, ↓aop.eq_30, Nat.reduceEqDiff, Nat.reduceAdd, Nat.reduceMul, Nat.reduceSub, Nat.reduceLeDiff, Nat.reduceLT, Int.reduceLT, Int.reduceLE, Int.reduceEq, Int.reduceToNat, Int.reduceAdd, Int.reduceSub, Int.reduceNeg, ↓reduceIte, reduceCtorEq, ↓C.q21_r4_w, C.q21_r4_b, ↓C.q21_c21_w, ↓C.q21_c22_w, ↓C.q21_r3_w, C.q21_r3_b, ↓C.q21_c23_w, ↓C.q21_r2_w, C.q21_r2_b, ↓C.q21_c24_w, ↓C.q21_r1_w, C.q21_r1_b, ↓C.q21_c25_w, ↓C.q21_r0_w, C.q21_r0_b, C.q21, hb]
  rw [C.q21_c20_w, awp_keep]
  exact back
end Go.Proofs.Ytoblpialfhfdgaa.Cn
