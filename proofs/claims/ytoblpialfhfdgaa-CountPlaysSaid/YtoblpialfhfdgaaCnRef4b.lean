/- Descriptions: the document's Check, the graphs it makes. -/
import Derived.Test.YtoblpialfhfdgaaCnRef4a
set_option linter.unusedSimpArgs false
set_option linter.unusedVariables false
namespace Go.Proofs.Ytoblpialfhfdgaa.Cn
open Go Go.Proofs

theorem aop_append_copy {P : Program} {b e n : Nat} {x y : IArg} {fr : AFr} {s st : ASt} {K : AV → ASt → Prop} {cs : List AV} (hx : fr.val x = .sl 1 e 0 0) (hy : fr.val y = .isl 1 cs n) (he : st.h e = some (.cells [])) (hes : s.h e = none) (hle : s.le st)
    (hl : cs.length = n) (hn : n ≤ 4294967296) (hc : cs.all AV.scalar = true) (hlf : allLeaf cs = true) (hk : ∀ v L st2, RepL st2 [v] [.isl 1 cs n] L → (∀ j ∈ L, s.h j = none) → s.le st2 → K v st2) : aop P (.append 1 b x y) fr st K := by
  have ht : cs.take (n * 1) = cs := by rw [Nat.mul_one, ← hl, List.take_length]
  have hle2 : n * 1 ≤ cs.length := by omega
  simp only [aop, hx, hy, AV.slen, ASt.seen, hle2, if_true, ht, Nat.zero_add]
  refine ⟨⟨hn, hlf⟩, ?_⟩
  by_cases h0 : n = 0
  · rw [if_pos h0]
    have : cs = [] := List.eq_nil_of_length_eq_zero (by omega)
    subst this
    rw [h0] at hk
    exact hk _ [e] st (.sl (L1 := []) (L2 := []) he .nil (by simp) (by simp) (by simp) .nil) (fun j hj => by rw [List.mem_singleton.mp hj]; exact hes) hle
  · rw [if_neg h0, he]
    refine ⟨⟨trivial, by simp⟩, fun id' hid' => ?_⟩
    have hid2 : (st.kill e).h id' = none := by rw [ASt.kill_h]; split <;> simp_all
    refine hk _ [id'] _ (.sl (L1 := []) (L2 := []) (ASt.new_self _ hid2) (by simpa using RepL.scalars hc _) (by simp) (by simp) (by simp) .nil) (fun j hj => by rw [List.mem_singleton.mp hj]; exact fresh_of_le hle hid') fun j o hj => ?_
    refine ASt.new_old ?_
    rw [ASt.kill_h, if_neg (by rintro rfl; rw [hes] at hj; cases hj)]
    exact hle _ _ hj
theorem GR.nils {st s : ASt} (h : st.le s) : GR st s .nils [] := ⟨[], .nils 1 .nil, by simp, h⟩
theorem aop_append_row {P : Program} {b : Nat} {z : AV} {q x y : IArg} {fr : AFr} {F : AV → AFr} {K : AV → AV → ASt → Prop} {st s s2 : ASt} {v rv : AV} {rows : List (List Int)} {r : List Int} {Lr : List Nat}
    (h : GR st s v rows) (hl : s.le s2) (hr : RepL s2 [rv] [row r] Lr) (hf : ∀ j ∈ Lr, s.h j = none) (hn : rows.length + 1 ≤ 4294967296) (hq : fr.val q = rv)
    (hx : ∀ v1, (F v1).val x = v) (hy : ∀ v1, (F v1).val y = v1) (hk : ∀ v1 v2 s3, GR st s3 v2 (rows ++ [r]) → K v1 v2 s3) :
    aop P (.buildSlice 1 1 [z] [(0, 1, q)]) fr s2 (fun v1 st1 => aop P (.append 1 b x y) (F v1) st1 (K v1)) := by
  have hnew : aput (zeros [z] 1) ([(0, 1, q)].map fun p => (p.1, p.2.1, fr.val p.2.2)) = some [rv] := by
    simp only [List.map_cons, List.map_nil, hq]
    rcases hr.slice with ⟨rfl, _⟩ | ⟨id, ws, L1, rfl, _⟩ <;> rfl
  obtain ⟨L, h1, h2, h3⟩ := h
  refine aop_append_rep (v := v) (ds := rows.map row) (n := rows.length) (new := [rv]) (newc := [row r]) (L := L) (Ln := Lr) (h1.le hl) (by simp) hn hnew rfl hr (fun j hj hm => h1.live j hm (hf j hj)) hx hy fun v1 i2 L2 st3 q1 q2 q3 => hk _ _ _ ⟨L2, ?_, fun j hj => ?_, fun j o hj => ?_⟩
  · rw [gval, List.map_append, List.length_append]; exact q1
  · rcases q2 j hj with q | q | q
    · exact h2 j q
    · exact fresh_of_le h3 (hf j q)
    · exact fresh_of_le (h3.trans hl) q
  · exact q3 j (fun hm => by rw [h2 j hm] at hj; cases hj) o (hl _ _ (h3 _ _ hj))
theorem rClocks_own {st : ASt} {s : Soc} (hn : s.clocks.length ≤ 100) (hm : ∀ c ∈ s.clocks, c.src.length ≤ 4294967296) :
    ACalls Try.prog F.q18 [.agg s.cells] st fun r s' => GR st s' r (s.clocks.map Clk.src) := by
  refine calls_of_awp L.q18 rfl ?_
  simp only [↓Bp, Bq, Bs, ↓aop.eq_28, ↓aop.eq_30, Nat.reduceEqDiff, Nat.reduceAdd, Nat.reduceMul, Nat.reduceSub, Nat.reduceLeDiff, Nat.reduceLT, Int.reduceLT, Int.reduceLE, Int.reduceEq, Int.reduceToNat, Int.reduceAdd, Int.reduceSub, Int.reduceNeg, ↓reduceIte, reduceCtorEq, ↓C.q18_r0_w, C.q18_r0_b, C.q18]
  intro ib hib
  have hb := ASt.new_self (.cells s.cells) hib
  have hle := ASt.le.new st ib (.cells s.cells)
  generalize st.new ib (.cells s.cells) = s0 at hb hle
  rw [Soc.cells, Soc.clkV] at hb
  simp only [↓Bp, Bq, Bs, ↓aop.eq_28, ↓aop.eq_30, Nat.reduceEqDiff, Nat.reduceAdd, Nat.reduceMul, Nat.reduceSub, Nat.reduceLeDiff, Nat.reduceLT, Int.reduceLT, Int.reduceLE, Int.reduceEq, Int.reduceToNat, Int.reduceAdd, Int.reduceSub, Int.reduceNeg, ↓reduceIte, reduceCtorEq, ↓C.q18_W, C.q18_B, C.q18]
  refine awp_midB (fun v : AV => [(3, v)]) (fun v s' => GR s0 s' v (s.clocks.map Clk.src)) ?_ ?_
  rotate_left
  · rintro v s' h
    simp only [↓Bp, Bq, Bs, ↓aop.eq_28, ↓aop.eq_30, Nat.reduceEqDiff, Nat.reduceAdd, Nat.reduceMul, Nat.reduceSub, Nat.reduceLeDiff, Nat.reduceLT, Int.reduceLT, Int.reduceLE, Int.reduceEq, Int.reduceToNat, Int.reduceAdd, Int.reduceSub, Int.reduceNeg, ↓reduceIte, reduceCtorEq, ↓C.q18_W, C.q18_B, C.q18]
    exact h.less hle
  refine awp_loopK (fun q : Nat × AV => [(1, .ptr ib 0), (3, q.2), (4, .int .i64 q.1)]) (fun q s' => q.1 ≤ s.clocks.length ∧ GR s0 s' q.2 ((s.clocks.take q.1).map Clk.src)) (fun q => s.clocks.length - q.1) (0, .nils) rfl ⟨Nat.zero_le _, GR.nils (ASt.le.refl _)⟩ ?_
  rintro ⟨i, v⟩ s1 ⟨hi, hG⟩
  simp only at hi hG
  have hb1 := hG.choose_spec.2.2 _ _ hb
  by_cases hil : i < s.clocks.length
  rotate_left
  · have hil' : ¬ (i : Int) < (s.clocks.length : Nat) := by omega
    simp only [↓Bp, Bq, Bs, ↓aop.eq_28, ↓aop.eq_30, Nat.reduceEqDiff, Nat.reduceAdd, Nat.reduceMul, Nat.reduceSub, Nat.reduceLeDiff, Nat.reduceLT, Int.reduceLT, Int.reduceLE, Int.reduceEq, Int.reduceToNat, Int.reduceAdd, Int.reduceSub, Int.reduceNeg, ↓reduceIte, reduceCtorEq, ↓C.q18_W, C.q18_B, C.q18, hil', hb1]
    rw [show i = s.clocks.length by omega, List.take_length] at hG
    exact ⟨v, rfl, hG⟩
  have hil' : (i : Int) < (s.clocks.length : Nat) := by omega
  have hz : (0:Int) ≤ (i : Int) ∧ (i : Int) < (s.clocks.length : Nat) := by omega
  have hw := wsucc hil (by omega)
  have g1 : (s.clocks.flatMap Clk.cells)[i * 6 + 1]? = some (row s.clocks[i].src) := rows_get Clk.cells (w := 6) (fun _ => rfl) hil (j := 1) (by omega)
  simp only [↓Bp, Bq, Bs, Nat.reduceEqDiff, Nat.reduceAdd, Nat.reduceMul, Nat.reduceSub, Nat.reduceLeDiff, Nat.reduceLT, Int.reduceLT, Int.reduceLE, Int.reduceEq, Int.reduceToNat, Int.reduceAdd, Int.reduceSub, Int.reduceNeg, ↓reduceIte, reduceCtorEq, ↓C.q18_W, C.q18_B, C.q18, hil', hb1]
  refine aop_bs (cs := []) rfl fun e he => ?_
  have hb2 := ASt.new_old (id := e) (o := .cells []) hb1
  have he2 := ASt.new_self (.cells []) he
  have hle2 := ASt.le.new s1 e (.cells [])
  generalize s1.new e (.cells []) = s2 at hb2 he2 hle2
  simp only [↓Bp, Bq, Bs, Nat.reduceEqDiff, Nat.reduceAdd, Nat.reduceMul, Nat.reduceSub, Nat.reduceLeDiff, Nat.reduceLT, Int.reduceLT, Int.reduceLE, Int.reduceEq, Int.reduceToNat, Int.reduceAdd, Int.reduceSub, Int.reduceNeg, ↓reduceIte, reduceCtorEq, ↓C.q18_W, C.q18_B, C.q18, hb2, hz, Int.toNat_natCast, g1]
  refine aop_append_copy (s := s1) (cs := ints s.clocks[i].src) (n := s.clocks[i].src.length) rfl rfl he2 he hle2 (ints_length _) (hm _ (List.getElem_mem hil)) (ints_scalar _) (ints_leaf _) fun rv Lr s3 hr hf hl3 => ?_
  refine aop_append_row (r := s.clocks[i].src) hG hl3 hr hf (by simp; omega) rfl (fun _ => rfl) (fun _ => rfl) fun v1 v2 s4 hG2 => ?_
  simp only [↓Bp, Bq, Bs, ↓aop.eq_28, ↓aop.eq_30, Nat.reduceEqDiff, Nat.reduceAdd, Nat.reduceMul, Nat.reduceSub, Nat.reduceLeDiff, Nat.reduceLT, Int.reduceLT, Int.reduceLE, Int.reduceEq, Int.reduceToNat, Int.reduceAdd, Int.reduceSub, Int.reduceNeg, ↓reduceIte, reduceCtorEq, ↓C.q18_W, C.q18_B, C.q18, hw]
  refine ⟨(i + 1, v2), rfl, ⟨hil, ?_⟩, by simp only; omega⟩
  simp only
  rw [List.take_succ_eq_append_getElem hil, List.map_append]; exact hG2
theorem rNeeds_own {st : ASt} {s : Soc} (hn : s.devs.length ≤ 100) (hm : ∀ c ∈ s.devs, c.needs.length ≤ 4294967296) :
    ACalls Try.prog F.q20 [.agg s.cells] st fun r s' => GR st s' r (s.devs.map Dev.needs) := by
  refine calls_of_awp L.q20 rfl ?_
  simp only [↓Bp, Bq, Bs, ↓aop.eq_28, ↓aop.eq_30, Nat.reduceEqDiff, Nat.reduceAdd, Nat.reduceMul, Nat.reduceSub, Nat.reduceLeDiff, Nat.reduceLT, Int.reduceLT, Int.reduceLE, Int.reduceEq, Int.reduceToNat, Int.reduceAdd, Int.reduceSub, Int.reduceNeg, ↓reduceIte, reduceCtorEq, ↓C.q20_r0_w, C.q20_r0_b, C.q20]
  intro ib hib
  have hb := ASt.new_self (.cells s.cells) hib
  have hle := ASt.le.new st ib (.cells s.cells)
  generalize st.new ib (.cells s.cells) = s0 at hb hle
  rw [Soc.cells, Soc.devV] at hb
  simp only [↓Bp, Bq, Bs, ↓aop.eq_28, ↓aop.eq_30, Nat.reduceEqDiff, Nat.reduceAdd, Nat.reduceMul, Nat.reduceSub, Nat.reduceLeDiff, Nat.reduceLT, Int.reduceLT, Int.reduceLE, Int.reduceEq, Int.reduceToNat, Int.reduceAdd, Int.reduceSub, Int.reduceNeg, ↓reduceIte, reduceCtorEq, ↓C.q20_W, C.q20_B, C.q20]
  refine awp_midB (fun v : AV => [(3, v)]) (fun v s' => GR s0 s' v (s.devs.map Dev.needs)) ?_ ?_
  rotate_left
  · rintro v s' h
    simp only [↓Bp, Bq, Bs, ↓aop.eq_28, ↓aop.eq_30, Nat.reduceEqDiff, Nat.reduceAdd, Nat.reduceMul, Nat.reduceSub, Nat.reduceLeDiff, Nat.reduceLT, Int.reduceLT, Int.reduceLE, Int.reduceEq, Int.reduceToNat, Int.reduceAdd, Int.reduceSub, Int.reduceNeg, ↓reduceIte, reduceCtorEq, ↓C.q20_W, C.q20_B, C.q20]
    exact h.less hle
  refine awp_loopK (fun q : Nat × AV => [(1, .ptr ib 0), (3, q.2), (4, .int .i64 q.1)]) (fun q s' => q.1 ≤ s.devs.length ∧ GR s0 s' q.2 ((s.devs.take q.1).map Dev.needs)) (fun q => s.devs.length - q.1) (0, .nils) rfl ⟨Nat.zero_le _, GR.nils (ASt.le.refl _)⟩ ?_
  rintro ⟨i, v⟩ s1 ⟨hi, hG⟩
  simp only at hi hG
  have hb1 := hG.choose_spec.2.2 _ _ hb
  by_cases hil : i < s.devs.length
  rotate_left
  · have hil' : ¬ (i : Int) < (s.devs.length : Nat) := by omega
    simp only [↓Bp, Bq, Bs, ↓aop.eq_28, ↓aop.eq_30, Nat.reduceEqDiff, Nat.reduceAdd, Nat.reduceMul, Nat.reduceSub, Nat.reduceLeDiff, Nat.reduceLT, Int.reduceLT, Int.reduceLE, Int.reduceEq, Int.reduceToNat, Int.reduceAdd, Int.reduceSub, Int.reduceNeg, ↓reduceIte, reduceCtorEq, ↓C.q20_W, C.q20_B, C.q20, hil', hb1]
    rw [show i = s.devs.length by omega, List.take_length] at hG
    exact ⟨v, rfl, hG⟩
  have hil' : (i : Int) < (s.devs.length : Nat) := by omega
  have hz : (0:Int) ≤ (i : Int) ∧ (i : Int) < (s.devs.length : Nat) := by omega
  have hw := wsucc hil (by omega)
  have g1 : (s.devs.flatMap Dev.cells)[i * 6 + 5]? = some (row s.devs[i].needs) := rows_get Dev.cells (w := 6) (fun _ => rfl) hil (j := 5) (by omega)
  simp only [↓Bp, Bq, Bs, Nat.reduceEqDiff, Nat.reduceAdd, Nat.reduceMul, Nat.reduceSub, Nat.reduceLeDiff, Nat.reduceLT, Int.reduceLT, Int.reduceLE, Int.reduceEq, Int.reduceToNat, Int.reduceAdd, Int.reduceSub, Int.reduceNeg, ↓reduceIte, reduceCtorEq, ↓C.q20_W, C.q20_B, C.q20, hil', hb1]
  refine aop_bs (cs := []) rfl fun e he => ?_
  have hb2 := ASt.new_old (id := e) (o := .cells []) hb1
  have he2 := ASt.new_self (.cells []) he
  have hle2 := ASt.le.new s1 e (.cells [])
  generalize s1.new e (.cells []) = s2 at hb2 he2 hle2
  simp only [↓Bp, Bq, Bs, Nat.reduceEqDiff, Nat.reduceAdd, Nat.reduceMul, Nat.reduceSub, Nat.reduceLeDiff, Nat.reduceLT, Int.reduceLT, Int.reduceLE, Int.reduceEq, Int.reduceToNat, Int.reduceAdd, Int.reduceSub, Int.reduceNeg, ↓reduceIte, reduceCtorEq, ↓C.q20_W, C.q20_B, C.q20, hb2, hz, Int.toNat_natCast, g1]
  refine aop_append_copy (s := s1) (cs := ints s.devs[i].needs) (n := s.devs[i].needs.length) rfl rfl he2 he hle2 (ints_length _) (hm _ (List.getElem_mem hil)) (ints_scalar _) (ints_leaf _) fun rv Lr s3 hr hf hl3 => ?_
  refine aop_append_row (r := s.devs[i].needs) hG hl3 hr hf (by simp; omega) rfl (fun _ => rfl) (fun _ => rfl) fun v1 v2 s4 hG2 => ?_
  simp only [↓Bp, Bq, Bs, ↓aop.eq_28, ↓aop.eq_30, Nat.reduceEqDiff, Nat.reduceAdd, Nat.reduceMul, Nat.reduceSub, Nat.reduceLeDiff, Nat.reduceLT, Int.reduceLT, Int.reduceLE, Int.reduceEq, Int.reduceToNat, Int.reduceAdd, Int.reduceSub, Int.reduceNeg, ↓reduceIte, reduceCtorEq, ↓C.q20_W, C.q20_B, C.q20, hw]
  refine ⟨(i + 1, v2), rfl, ⟨hil, ?_⟩, by simp only; omega⟩
  simp only
  rw [List.take_succ_eq_append_getElem hil, List.map_append]; exact hG2
theorem rDomains_own {st : ASt} {s : Soc} (hn : s.doms.length ≤ 100) :
    ACalls Try.prog F.q19 [.agg s.cells] st fun r s' => GR st s' r (s.doms.map Dom.up) := by
  refine calls_of_awp L.q19 rfl ?_
  simp only [↓Bp, Bq, Bs, ↓aop.eq_28, ↓aop.eq_30, Nat.reduceEqDiff, Nat.reduceAdd, Nat.reduceMul, Nat.reduceSub, Nat.reduceLeDiff, Nat.reduceLT, Int.reduceLT, Int.reduceLE, Int.reduceEq, Int.reduceToNat, Int.reduceAdd, Int.reduceSub, Int.reduceNeg, ↓reduceIte, reduceCtorEq, ↓C.q19_r0_w, C.q19_r0_b, C.q19]
  intro ib hib
  have hb := ASt.new_self (.cells s.cells) hib
  have hle := ASt.le.new st ib (.cells s.cells)
  generalize st.new ib (.cells s.cells) = s0 at hb hle
  rw [Soc.cells, Soc.domV] at hb
  simp only [↓Bp, Bq, Bs, ↓aop.eq_28, ↓aop.eq_30, Nat.reduceEqDiff, Nat.reduceAdd, Nat.reduceMul, Nat.reduceSub, Nat.reduceLeDiff, Nat.reduceLT, Int.reduceLT, Int.reduceLE, Int.reduceEq, Int.reduceToNat, Int.reduceAdd, Int.reduceSub, Int.reduceNeg, ↓reduceIte, reduceCtorEq, ↓C.q19_W, C.q19_B, C.q19]
  refine awp_midB (fun v : AV => [(3, v)]) (fun v s' => GR s0 s' v (s.doms.map Dom.up)) ?_ ?_
  rotate_left
  · rintro v s' h
    simp only [↓Bp, Bq, Bs, ↓aop.eq_28, ↓aop.eq_30, Nat.reduceEqDiff, Nat.reduceAdd, Nat.reduceMul, Nat.reduceSub, Nat.reduceLeDiff, Nat.reduceLT, Int.reduceLT, Int.reduceLE, Int.reduceEq, Int.reduceToNat, Int.reduceAdd, Int.reduceSub, Int.reduceNeg, ↓reduceIte, reduceCtorEq, ↓C.q19_W, C.q19_B, C.q19]
    exact h.less hle
  refine awp_loopK (fun q : Nat × AV => [(1, .ptr ib 0), (3, q.2), (4, .int .i64 q.1)]) (fun q s' => q.1 ≤ s.doms.length ∧ GR s0 s' q.2 ((s.doms.take q.1).map Dom.up)) (fun q => s.doms.length - q.1) (0, .nils) rfl ⟨Nat.zero_le _, GR.nils (ASt.le.refl _)⟩ ?_
  rintro ⟨i, v⟩ s1 ⟨hi, hG⟩
  simp only at hi hG
  have hb1 := hG.choose_spec.2.2 _ _ hb
  by_cases hil : i < s.doms.length
  rotate_left
  · have hil' : ¬ (i : Int) < (s.doms.length : Nat) := by omega
    simp only [↓Bp, Bq, Bs, ↓aop.eq_28, ↓aop.eq_30, Nat.reduceEqDiff, Nat.reduceAdd, Nat.reduceMul, Nat.reduceSub, Nat.reduceLeDiff, Nat.reduceLT, Int.reduceLT, Int.reduceLE, Int.reduceEq, Int.reduceToNat, Int.reduceAdd, Int.reduceSub, Int.reduceNeg, ↓reduceIte, reduceCtorEq, ↓C.q19_W, C.q19_B, C.q19, hil', hb1]
    rw [show i = s.doms.length by omega, List.take_length] at hG
    exact ⟨v, rfl, hG⟩
  have hil' : (i : Int) < (s.doms.length : Nat) := by omega
  have hz : (0:Int) ≤ (i : Int) ∧ (i : Int) < (s.doms.length : Nat) := by omega
  have hw := wsucc hil (by omega)
  have g0 : (s.doms.flatMap Dom.cells)[i * 3]? = some (.int .i64 s.doms[i].above) := rows_get Dom.cells (w := 3) (fun _ => rfl) hil (j := 0) (by omega)
  have fin : ∀ v2 s4, GR s0 s4 v2 ((s.doms.take i).map Dom.up ++ [s.doms[i].up]) → GR s0 s4 v2 ((s.doms.take (i + 1)).map Dom.up) := fun v2 s4 h => by
    rw [List.take_succ_eq_append_getElem hil, List.map_append]; exact h
  by_cases hab : s.doms[i].above = -1
  · have hT := eq_true hab
    simp only [↓Bp, Bq, Bs, Nat.reduceEqDiff, Nat.reduceAdd, Nat.reduceMul, Nat.reduceSub, Nat.reduceLeDiff, Nat.reduceLT, Int.reduceLT, Int.reduceLE, Int.reduceEq, Int.reduceToNat, Int.reduceAdd, Int.reduceSub, Int.reduceNeg, ↓reduceIte, reduceCtorEq, ↓C.q19_W, C.q19_B, C.q19, hil', hb1, hz, Int.toNat_natCast, g0, hT]
    refine aop_append_row (r := s.doms[i].up) (rv := .nils) (Lr := []) hG (ASt.le.refl _) (by rw [Dom.up, if_pos hab]; exact .nils 1 .nil) (by simp) (by simp; omega) rfl (fun _ => rfl) (fun _ => rfl) fun v1 v2 s4 hG2 => ?_
    simp only [↓Bp, Bq, Bs, ↓aop.eq_28, ↓aop.eq_30, Nat.reduceEqDiff, Nat.reduceAdd, Nat.reduceMul, Nat.reduceSub, Nat.reduceLeDiff, Nat.reduceLT, Int.reduceLT, Int.reduceLE, Int.reduceEq, Int.reduceToNat, Int.reduceAdd, Int.reduceSub, Int.reduceNeg, ↓reduceIte, reduceCtorEq, ↓C.q19_W, C.q19_B, C.q19, hw]
    exact ⟨(i + 1, v2), rfl, ⟨hil, fin _ _ hG2⟩, by simp only; omega⟩
  · have hT := eq_false hab
    simp only [↓Bp, Bq, Bs, Nat.reduceEqDiff, Nat.reduceAdd, Nat.reduceMul, Nat.reduceSub, Nat.reduceLeDiff, Nat.reduceLT, Int.reduceLT, Int.reduceLE, Int.reduceEq, Int.reduceToNat, Int.reduceAdd, Int.reduceSub, Int.reduceNeg, ↓reduceIte, reduceCtorEq, ↓C.q19_W, C.q19_B, C.q19, hil', hb1, hz, Int.toNat_natCast, g0, hT]
    refine aop_append_over (Over.nils (ASt.le.refl s1) 1) (by omega) (new := [.int .i64 s.doms[i].above]) rfl rfl rfl (fun _ => rfl) (fun _ => rfl) fun v1 rv s2 hO => ?_
    obtain ⟨⟨_, hO1⟩, hO2, hO3⟩ := hO
    rcases hO1 with ⟨h0, _⟩ | ⟨id, rfl, hid⟩
    · simp at h0
    refine aop_append_row (r := s.doms[i].up) (rv := .sl 1 id 0 1) (Lr := [id]) hG hO2 (by rw [Dom.up, if_neg hab]; exact .sl (L1 := []) (L2 := []) hid (RepL.scalars rfl _) (by simp) (by simp) (by simp) .nil) (fun j hj => by rw [List.mem_singleton.mp hj]; exact hO3 _ _ _ _ rfl) (by simp; omega) rfl (fun _ => rfl) (fun _ => rfl) fun v1 v2 s4 hG2 => ?_
    simp only [↓Bp, Bq, Bs, ↓aop.eq_28, ↓aop.eq_30, Nat.reduceEqDiff, Nat.reduceAdd, Nat.reduceMul, Nat.reduceSub, Nat.reduceLeDiff, Nat.reduceLT, Int.reduceLT, Int.reduceLE, Int.reduceEq, Int.reduceToNat, Int.reduceAdd, Int.reduceSub, Int.reduceNeg, ↓reduceIte, reduceCtorEq, ↓C.q19_W, C.q19_B, C.q19, hw]
    exact ⟨(i + 1, v2), rfl, ⟨hil, fin _ _ hG2⟩, by simp only; omega⟩
end Go.Proofs.Ytoblpialfhfdgaa.Cn
