/- Descriptions: lists of one's own, and the three graphs. -/
import Derived.Test.YtjamidgdhmjhaaaCnConf6
set_option linter.unusedSimpArgs false
set_option linter.unusedVariables false
namespace Go.Proofs.Ytjamidgdhmjhaaa.Cn
open Go Go.Proofs

theorem conf_own_int_spec {st : ASt} {cs : List AV} {n : Nat} (hl : cs.length = n * 1) (hn : n ≤ 4294967296) (hc : allLeaf cs = true) : ACalls Try.prog F.conf_own_int [.isl 1 cs n] st fun r st' => Owned st st' 1 cs n r := by
  refine calls_of_awp L.conf_own_int rfl ?_
  have ht : cs.take (n * 1) = cs := by rw [← hl, List.take_length]
  have hle : n * 1 ≤ cs.length := by omega
  by_cases h0 : n = 0
  · subst h0
    simp only [↓Bp, Bq, Bs, ↓aop.eq_28, ↓aop.eq_30, Nat.reduceEqDiff, Nat.reduceAdd, Nat.reduceMul, Nat.reduceSub, Nat.reduceLeDiff, Nat.reduceLT, Int.reduceLT, Int.reduceLE, Int.reduceEq, Int.reduceToNat, Int.reduceAdd, Int.reduceSub, Int.reduceNeg, ↓reduceIte, reduceCtorEq, ↓C.conf_own_int_W, C.conf_own_int_B, C.conf_own_int, ASt.seen, Nat.zero_mul, Nat.zero_le, List.take_zero, allLeaf, Nat.add_zero]
    exact .inl ⟨rfl, rfl, rfl⟩
  · simp only [↓Bp, Bq, Bs, ↓aop.eq_28, ↓aop.eq_30, Nat.reduceEqDiff, Nat.reduceAdd, Nat.reduceMul, Nat.reduceSub, Nat.reduceLeDiff, Nat.reduceLT, Int.reduceLT, Int.reduceLE, Int.reduceEq, Int.reduceToNat, Int.reduceAdd, Int.reduceSub, Int.reduceNeg, ↓reduceIte, reduceCtorEq, ↓C.conf_own_int_W, C.conf_own_int_B, C.conf_own_int, ASt.seen, hle, ht, hn, hc, h0, Nat.zero_add]
    intro id hid
    exact .inr ⟨h0, id, hid, rfl, rfl⟩
/-- Rows that are made one behind the other: so many stand already. -/
def GI (st s : ASt) (g : Nat) (rows : List (List Int)) (i : Nat) : Prop :=
  ∃ ws L, s.h g = some (.cells ws) ∧ RepL s ws ((rows.take i).map row ++ List.replicate (rows.length - i) (row [])) L ∧ g ∉ L ∧ (∀ j ∈ L, st.h j = none) ∧ st.le s ∧ st.h g = none
theorem row_nil : row [] = .isl 1 [] 0 := rfl
theorem nils_rep (st : ASt) : ∀ n, RepL st (List.replicate n .nils) (List.replicate n (row [])) []
  | 0 => .nil
  | n + 1 => by rw [List.replicate_succ, List.replicate_succ, row_nil]; exact .nils 1 (nils_rep st n)
theorem GI.start {st : ASt} {g : Nat} (hg : st.h g = none) (rows : List (List Int)) : GI st (st.new g (.cells (List.replicate rows.length .nils))) g rows 0 :=
  ⟨_, [], ASt.new_self _ hg, by simpa using nils_rep _ rows.length, by simp, fun j hj => by (cases hj), ASt.le.new _ _ _, hg⟩
theorem GI.len {st s : ASt} {g : Nat} {rows : List (List Int)} {i : Nat} (h : GI st s g rows i) (hi : i < rows.length) : ∃ ws, s.h g = some (.cells ws) ∧ i < ws.length := by
  obtain ⟨ws, L, h1, h2, h3⟩ := h
  have := h2.len
  simp at this
  exact ⟨ws, h1, by omega⟩
theorem GI.step {st s s2 : ASt} {g : Nat} {rows : List (List Int)} {i : Nat} {v : AV} {Lv : List Nat} (h : GI st s g rows i) (hi : i < rows.length) (hl : s.le s2) (hv : RepL s2 [v] [row rows[i]] Lv) (hn : ∀ j ∈ Lv, s.h j = none) {ws : List AV} (hws : s.h g = some (.cells ws)) :
    GI st (s2.set g (.cells (ws.set i v))) g rows (i + 1) := by
  obtain ⟨ws', L, h1, h2, h3, h4, h5, h6⟩ := h
  rw [hws] at h1; cases h1
  have hlen := h2.len
  simp only [List.length_append, List.length_map, List.length_take, List.length_replicate] at hlen
  have hgv : g ∉ Lv := fun hm => by rw [hn g hm] at hws; cases hws
  have hd : ∀ j ∈ Lv, j ∉ L := fun j hj hm => h2.live j hm (hn j hj)
  obtain ⟨L', q1, q2, q3⟩ := (h2.le hl).store (i := i) h3 (by omega) hv hgv hd (.cells (ws.set i v))
  have hg2 := hl _ _ hws
  refine ⟨ws.set i v, L', by rw [ASt.set_h, if_pos rfl, hg2]; rfl, ?_, q2, fun j hj => ?_, fun j o ho => ?_, h6⟩
  · have e : ((rows.take i).map row ++ List.replicate (rows.length - i) (row [])).set i (row rows[i]) = (rows.take (i + 1)).map row ++ List.replicate (rows.length - (i + 1)) (row []) := by
      obtain ⟨k, hk⟩ : ∃ k, rows.length - i = k + 1 := ⟨rows.length - i - 1, by omega⟩
      have hk2 : rows.length - (i + 1) = k := by omega
      rw [hk, hk2, List.replicate_succ, List.set_append_right _ _ (by simp; omega)]
      have : i - ((rows.take i).map row).length = 0 := by simp; omega
      rw [this, List.set_cons_zero, List.take_succ_eq_append_getElem hi, List.map_append]
      simp
    rw [e] at q1; exact q1
  · rcases q3 j hj with h | h
    · exact h4 j h
    · cases e : st.h j with
      | none => rfl
      | some o => have := hn j h; rw [h5 _ _ e] at this; cases this
  · rw [ASt.set_h]
    split
    · rename_i e
      subst e
      rw [h6] at ho; cases ho
    · exact hl _ _ (h5 _ _ ho)
/-- What a graph is made like, and what it shows. -/
def GR (st s : ASt) (r : AV) (rows : List (List Int)) : Prop := ∃ L, RepL s [r] [gval rows] L ∧ (∀ j ∈ L, st.h j = none) ∧ st.le s
theorem GI.done {st s : ASt} {g : Nat} {rows : List (List Int)} (h : GI st s g rows rows.length) : GR st s (.sl 1 g 0 rows.length) rows := by
  obtain ⟨ws, L, h1, h2, h3, h4, h5, h6⟩ := h
  simp only [List.take_length, Nat.sub_self, List.replicate_zero, List.append_nil] at h2
  refine ⟨g :: (L ++ []), .sl h1 h2 h3 (by simp) (by simp) .nil, fun j hj => ?_, h5⟩
  rcases List.mem_cons.mp hj with rfl | hj
  · exact h6
  · exact h4 j (by simpa using hj)
theorem GR.frz {st s : ASt} {r : AV} {rows : List (List Int)} (h : GR st s r rows) : ∃ s', Ghost r s (gval rows) s' ∧ st.le s' := by
  obtain ⟨L, h1, h2, h3⟩ := h
  exact ⟨_, h1.ghost1, h3.killL h2⟩

theorem GR.less {st st1 s : ASt} {r : AV} {rows : List (List Int)} (h : GR st1 s r rows) (hl : st.le st1) : GR st s r rows := by
  obtain ⟨L, h1, h2, h3⟩ := h
  refine ⟨L, h1, fun j hj => ?_, hl.trans h3⟩
  cases e : st.h j with
  | none => rfl
  | some o => have := h2 j hj; rw [hl _ _ e] at this; cases this
theorem GI.le {st s s' : ASt} {g : Nat} {rows : List (List Int)} {i : Nat} (h : GI st s g rows i) (hl : s.le s') : GI st s' g rows i := by
  obtain ⟨ws, L, h1, h2, h3, h4, h5, h6⟩ := h
  exact ⟨ws, L, hl _ _ h1, h2.le hl, h3, h4, h5.trans hl, h6⟩
theorem conf_Clocks_own {st : ASt} {s : Soc} (hn : s.clocks.length ≤ 4294967296) (hm : ∀ c ∈ s.clocks, c.src.length ≤ 4294967296) :
    ACalls Try.prog F.conf_Clocks [.agg s.cells] st fun r s' => GR st s' r (s.clocks.map Clk.src) := by
  refine calls_of_awp L.conf_Clocks rfl ?_
  simp only [↓Bp, Bq, Bs, ↓aop.eq_28, ↓aop.eq_30, Nat.reduceEqDiff, Nat.reduceAdd, Nat.reduceMul, Nat.reduceSub, Nat.reduceLeDiff, Nat.reduceLT, Int.reduceLT, Int.reduceLE, Int.reduceEq, Int.reduceToNat, Int.reduceAdd, Int.reduceSub, Int.reduceNeg, ↓reduceIte, reduceCtorEq, ↓C.conf_Clocks_r0_w, C.conf_Clocks_r0_b, C.conf_Clocks]
  intro ib hib
  simp only [↓Bp, Bq, Bs, ↓aop.eq_28, ↓aop.eq_30, Nat.reduceEqDiff, Nat.reduceAdd, Nat.reduceMul, Nat.reduceSub, Nat.reduceLeDiff, Nat.reduceLT, Int.reduceLT, Int.reduceLE, Int.reduceEq, Int.reduceToNat, Int.reduceAdd, Int.reduceSub, Int.reduceNeg, ↓reduceIte, reduceCtorEq, ↓C.conf_Clocks_r1_w, C.conf_Clocks_r1_b, ↓C.conf_Clocks_c11_w, ↓C.conf_Clocks_r0_w, C.conf_Clocks_r0_b, C.conf_Clocks, Soc.cells, Soc.clkV, hib, Int.toNat_natCast]
  refine ⟨⟨by omega, by omega⟩, ?_⟩
  rintro g ⟨hg, hgi⟩
  obtain ⟨bx, hbx⟩ : ∃ bx, bx = AObj.cells s.cells := ⟨_, rfl⟩
  have hg' : (st.new ib bx).h g = none := by rw [ASt.new_none]; exact ⟨hg, hgi⟩
  have hst := GI.start hg' (s.clocks.map Clk.src)
  rw [hbx, List.length_map, ← zeros_nils] at hst
  have hib2 : ((st.new ib (AObj.cells s.cells)).new g (AObj.cells (zeros [AV.nils] s.clocks.length))).h ib = some (.cells s.cells) := ASt.new_old (ASt.new_self _ hib)
  rw [Soc.cells, Soc.clkV] at hib2
  simp only [↓Bp, Bq, Bs, ↓aop.eq_28, ↓aop.eq_30, Nat.reduceEqDiff, Nat.reduceAdd, Nat.reduceMul, Nat.reduceSub, Nat.reduceLeDiff, Nat.reduceLT, Int.reduceLT, Int.reduceLE, Int.reduceEq, Int.reduceToNat, Int.reduceAdd, Int.reduceSub, Int.reduceNeg, ↓reduceIte, reduceCtorEq, ↓C.conf_Clocks_W, C.conf_Clocks_B, C.conf_Clocks, hib, Int.toNat_natCast]
  refine awp_midB (fun _ : Unit => [(3, .sl 1 g 0 s.clocks.length)]) (fun _ s' => GR st s' (.sl 1 g 0 s.clocks.length) (s.clocks.map Clk.src)) ?_ ?_
  rotate_left
  · rintro - s' h
    simp only [↓Bp, Bq, Bs, ↓aop.eq_28, ↓aop.eq_30, Nat.reduceEqDiff, Nat.reduceAdd, Nat.reduceMul, Nat.reduceSub, Nat.reduceLeDiff, Nat.reduceLT, Int.reduceLT, Int.reduceLE, Int.reduceEq, Int.reduceToNat, Int.reduceAdd, Int.reduceSub, Int.reduceNeg, ↓reduceIte, reduceCtorEq, ↓C.conf_Clocks_W, C.conf_Clocks_B, C.conf_Clocks]
    exact h
  refine awp_loopK (fun i : Nat => [(3, .sl 1 g 0 s.clocks.length), (11, .isl 6 (s.clocks.flatMap Clk.cells) s.clocks.length), (12, .int .i64 s.clocks.length), (13, .int .i64 i)]) (fun i s' => i ≤ s.clocks.length ∧ GI (st.new ib (AObj.cells s.cells)) s' g (s.clocks.map Clk.src) i) (fun i => s.clocks.length - i) 0 rfl ⟨Nat.zero_le _, hst⟩ ?_
  rintro i s1 ⟨hi, hG⟩
  by_cases hil : i < s.clocks.length
  rotate_left
  · have hie : i = s.clocks.length := by omega
    subst hie
    have hil' : ¬ ((s.clocks.length : Nat) : Int) < (s.clocks.length : Nat) := by omega
    simp only [↓Bp, Bq, Bs, ↓aop.eq_28, ↓aop.eq_30, Nat.reduceEqDiff, Nat.reduceAdd, Nat.reduceMul, Nat.reduceSub, Nat.reduceLeDiff, Nat.reduceLT, Int.reduceLT, Int.reduceLE, Int.reduceEq, Int.reduceToNat, Int.reduceAdd, Int.reduceSub, Int.reduceNeg, ↓reduceIte, reduceCtorEq, ↓C.conf_Clocks_W, C.conf_Clocks_B, C.conf_Clocks, hil']
    refine ⟨(), ?_⟩
    have := hG
    rw [show s.clocks.length = (s.clocks.map Clk.src).length by simp] at this
    have := this.done
    rw [List.length_map] at this
    exact this.less (ASt.le.new _ _ _)
  have hil' : (i : Int) < (s.clocks.length : Nat) := by omega
  have hz : (0:Int) ≤ (i : Int) ∧ (i : Int) < (s.clocks.length : Nat) := by omega
  have hw : IntKind.i64.wrap ((i : Int) + 1) = ((i + 1 : Nat) : Int) := by rw [wrap64] <;> omega
  have hf := flatMap_fits (f := Clk.cells) (k := 6) (fun _ => rfl) hil
  have ht := flatMap_at (f := Clk.cells) (k := 6) (fun _ => rfl) hil
  obtain ⟨cs, hcs⟩ : ∃ cs, cs = Clk.cells s.clocks[i] := ⟨_, rfl⟩
  rw [← hcs] at ht
  simp only [↓Bp, Bq, Bs, ↓aop.eq_28, ↓aop.eq_30, Nat.reduceEqDiff, Nat.reduceAdd, Nat.reduceMul, Nat.reduceSub, Nat.reduceLeDiff, Nat.reduceLT, Int.reduceLT, Int.reduceLE, Int.reduceEq, Int.reduceToNat, Int.reduceAdd, Int.reduceSub, Int.reduceNeg, ↓reduceIte, reduceCtorEq, ↓C.conf_Clocks_r7_w, C.conf_Clocks_r7_b, ↓C.conf_Clocks_c1_w, ↓C.conf_Clocks_r6_w, C.conf_Clocks_r6_b, ↓C.conf_Clocks_c2_w, ↓C.conf_Clocks_r4_w, C.conf_Clocks_r4_b, ↓C.conf_Clocks_b4_w, ↓C.conf_Clocks_c5_w, ↓C.conf_Clocks_c6_w, ↓C.conf_Clocks_r3_w, C.conf_Clocks_r3_b, ↓C.conf_Clocks_b8_w, ↓C.conf_Clocks_c9_w, ↓C.conf_Clocks_r2_w, C.conf_Clocks_r2_b, ↓C.conf_Clocks_c10_w, ↓C.conf_Clocks_r1_w, C.conf_Clocks_r1_b, ↓C.conf_Clocks_c11_w, ↓C.conf_Clocks_r0_w, C.conf_Clocks_r0_b, C.conf_Clocks, hil', hz, Int.toNat_natCast, hf, ht]
  intro id hid
  obtain ⟨ws, hws, hwl⟩ := hG.len (by simpa using hil)
  have hgid : ¬ g = id := by rintro rfl; rw [hws] at hid; cases hid
  rw [hcs]
  simp only [↓Bp, Bq, Bs, ↓aop.eq_28, ↓aop.eq_30, Nat.reduceEqDiff, Nat.reduceAdd, Nat.reduceMul, Nat.reduceSub, Nat.reduceLeDiff, Nat.reduceLT, Int.reduceLT, Int.reduceLE, Int.reduceEq, Int.reduceToNat, Int.reduceAdd, Int.reduceSub, Int.reduceNeg, ↓reduceIte, reduceCtorEq, ↓C.conf_Clocks_W, C.conf_Clocks_B, C.conf_Clocks, Clk.cells, row, hid]
  refine ⟨rfl, ?_⟩
  refine (conf_own_int_spec (by rw [ints_length, Nat.mul_one]) (hm _ (List.getElem_mem hil)) (ints_leaf _)).mono ?_
  rintro r s2 hO
  obtain ⟨Lv, hv, hLv⟩ := hO.rep (by rw [ints_length, Nat.mul_one]) (ints_scalar _)
  have hle : s1.le s2 := (le_new_set hid).trans hO.le
  have hnn : ∀ j ∈ Lv, s1.h j = none := fun j hj => by
    cases e : s1.h j with
    | none => rfl
    | some o =>
      have h1 := hLv j hj
      rw [le_new_set hid _ _ e] at h1; cases h1
  have hstep := hG.step (i := i) (v := r) (by simpa using hil) hle (by simpa [row] using hv) hnn hws
  simp only [↓Bp, Bq, Bs, ↓aop.eq_28, ↓aop.eq_30, Nat.reduceEqDiff, Nat.reduceAdd, Nat.reduceMul, Nat.reduceSub, Nat.reduceLeDiff, Nat.reduceLT, Int.reduceLT, Int.reduceLE, Int.reduceEq, Int.reduceToNat, Int.reduceAdd, Int.reduceSub, Int.reduceNeg, ↓reduceIte, reduceCtorEq, ↓C.conf_Clocks_W, C.conf_Clocks_B, C.conf_Clocks, hz, Int.toNat_natCast, Nat.mul_one, hle _ _ hws, hO.leaf, hwl, hw]
  exact ⟨i + 1, rfl, ⟨hil, hstep⟩, by omega⟩

/-- The domain above one, if there is any. -/
def Dom.up (d : Dom) : List Int := if d.above = -1 then [] else [d.above]
theorem GI.skip {st s : ASt} {g : Nat} {rows : List (List Int)} {i : Nat} (h : GI st s g rows i) (hi : i < rows.length) (h0 : rows[i] = []) : GI st s g rows (i + 1) := by
  obtain ⟨ws, L, h1, h2, h3, h4, h5, h6⟩ := h
  refine ⟨ws, L, h1, ?_, h3, h4, h5, h6⟩
  have e : (rows.take (i + 1)).map row ++ List.replicate (rows.length - (i + 1)) (row []) = (rows.take i).map row ++ List.replicate (rows.length - i) (row []) := by
    obtain ⟨k, hk⟩ : ∃ k, rows.length - i = k + 1 := ⟨rows.length - i - 1, by omega⟩
    have hk2 : rows.length - (i + 1) = k := by omega
    rw [hk, hk2, List.replicate_succ, List.take_succ_eq_append_getElem hi, List.map_append, h0]
    simp
  rw [e]; exact h2
theorem conf_Domains_own {st : ASt} {s : Soc} (hn : s.doms.length ≤ 4294967296) :
    ACalls Try.prog F.conf_Domains [.agg s.cells] st fun r s' => GR st s' r (s.doms.map Dom.up) := by
  refine calls_of_awp L.conf_Domains rfl ?_
  simp only [↓Bp, Bq, Bs, ↓aop.eq_28, ↓aop.eq_30, Nat.reduceEqDiff, Nat.reduceAdd, Nat.reduceMul, Nat.reduceSub, Nat.reduceLeDiff, Nat.reduceLT, Int.reduceLT, Int.reduceLE, Int.reduceEq, Int.reduceToNat, Int.reduceAdd, Int.reduceSub, Int.reduceNeg, ↓reduceIte, reduceCtorEq, ↓C.conf_Domains_r0_w, C.conf_Domains_r0_b, C.conf_Domains]
  intro ib hib
  simp only [↓Bp, Bq, Bs, ↓aop.eq_28, ↓aop.eq_30, Nat.reduceEqDiff, Nat.reduceAdd, Nat.reduceMul, Nat.reduceSub, Nat.reduceLeDiff, Nat.reduceLT, Int.reduceLT, Int.reduceLE, Int.reduceEq, Int.reduceToNat, Int.reduceAdd, Int.reduceSub, Int.reduceNeg, ↓reduceIte, reduceCtorEq, ↓C.conf_Domains_r1_w, C.conf_Domains_r1_b, ↓C.conf_Domains_c12_w, ↓C.conf_Domains_r0_w, C.conf_Domains_r0_b, C.conf_Domains, Soc.cells, Soc.domV, hib, Int.toNat_natCast]
  refine ⟨⟨by omega, by omega⟩, ?_⟩
  rintro g ⟨hg, hgi⟩
  obtain ⟨bx, hbx⟩ : ∃ bx, bx = AObj.cells s.cells := ⟨_, rfl⟩
  have hg' : (st.new ib bx).h g = none := by rw [ASt.new_none]; exact ⟨hg, hgi⟩
  have hst := GI.start hg' (s.doms.map Dom.up)
  rw [hbx, List.length_map, ← zeros_nils] at hst
  have hib2 : ((st.new ib (AObj.cells s.cells)).new g (AObj.cells (zeros [AV.nils] s.doms.length))).h ib = some (.cells s.cells) := ASt.new_old (ASt.new_self _ hib)
  rw [Soc.cells, Soc.domV] at hib2
  simp only [↓Bp, Bq, Bs, ↓aop.eq_28, ↓aop.eq_30, Nat.reduceEqDiff, Nat.reduceAdd, Nat.reduceMul, Nat.reduceSub, Nat.reduceLeDiff, Nat.reduceLT, Int.reduceLT, Int.reduceLE, Int.reduceEq, Int.reduceToNat, Int.reduceAdd, Int.reduceSub, Int.reduceNeg, ↓reduceIte, reduceCtorEq, ↓C.conf_Domains_W, C.conf_Domains_B, C.conf_Domains, hib, Int.toNat_natCast]
  refine awp_midB (fun _ : Unit => [(3, .sl 1 g 0 s.doms.length)]) (fun _ s' => GR st s' (.sl 1 g 0 s.doms.length) (s.doms.map Dom.up)) ?_ ?_
  rotate_left
  · rintro - s' h
    simp only [↓Bp, Bq, Bs, ↓aop.eq_28, ↓aop.eq_30, Nat.reduceEqDiff, Nat.reduceAdd, Nat.reduceMul, Nat.reduceSub, Nat.reduceLeDiff, Nat.reduceLT, Int.reduceLT, Int.reduceLE, Int.reduceEq, Int.reduceToNat, Int.reduceAdd, Int.reduceSub, Int.reduceNeg, ↓reduceIte, reduceCtorEq, ↓C.conf_Domains_W, C.conf_Domains_B, C.conf_Domains]
    exact h
  refine awp_loopK (fun i : Nat => [(3, .sl 1 g 0 s.doms.length), (11, .isl 3 (s.doms.flatMap Dom.cells) s.doms.length), (12, .int .i64 s.doms.length), (13, .int .i64 i)]) (fun i s' => i ≤ s.doms.length ∧ GI (st.new ib (AObj.cells s.cells)) s' g (s.doms.map Dom.up) i) (fun i => s.doms.length - i) 0 rfl ⟨Nat.zero_le _, hst⟩ ?_
  rintro i s1 ⟨hi, hG⟩
  by_cases hil : i < s.doms.length
  rotate_left
  · have hie : i = s.doms.length := by omega
    subst hie
    have hil' : ¬ ((s.doms.length : Nat) : Int) < (s.doms.length : Nat) := by omega
    simp only [↓Bp, Bq, Bs, ↓aop.eq_28, ↓aop.eq_30, Nat.reduceEqDiff, Nat.reduceAdd, Nat.reduceMul, Nat.reduceSub, Nat.reduceLeDiff, Nat.reduceLT, Int.reduceLT, Int.reduceLE, Int.reduceEq, Int.reduceToNat, Int.reduceAdd, Int.reduceSub, Int.reduceNeg, ↓reduceIte, reduceCtorEq, ↓C.conf_Domains_W, C.conf_Domains_B, C.conf_Domains, hil']
    refine ⟨(), ?_⟩
    have := hG
    rw [show s.doms.length = (s.doms.map Dom.up).length by simp] at this
    have := this.done
    rw [List.length_map] at this
    exact this.less (ASt.le.new _ _ _)
  have hil' : (i : Int) < (s.doms.length : Nat) := by omega
  have hz : (0:Int) ≤ (i : Int) ∧ (i : Int) < (s.doms.length : Nat) := by omega
  have hw : IntKind.i64.wrap ((i : Int) + 1) = ((i + 1 : Nat) : Int) := by rw [wrap64] <;> omega
  have hf := flatMap_fits (f := Dom.cells) (k := 3) (fun _ => rfl) hil
  have ht := flatMap_at (f := Dom.cells) (k := 3) (fun _ => rfl) hil
  obtain ⟨cs, hcs⟩ : ∃ cs, cs = Dom.cells s.doms[i] := ⟨_, rfl⟩
  rw [← hcs] at ht
  simp only [↓Bp, Bq, Bs, ↓aop.eq_28, ↓aop.eq_30, Nat.reduceEqDiff, Nat.reduceAdd, Nat.reduceMul, Nat.reduceSub, Nat.reduceLeDiff, Nat.reduceLT, Int.reduceLT, Int.reduceLE, Int.reduceEq, Int.reduceToNat, Int.reduceAdd, Int.reduceSub, Int.reduceNeg, ↓reduceIte, reduceCtorEq, ↓C.conf_Domains_r8_w, C.conf_Domains_r8_b, ↓C.conf_Domains_c1_w, ↓C.conf_Domains_r7_w, C.conf_Domains_r7_b, ↓C.conf_Domains_c2_w, ↓C.conf_Domains_r4_w, C.conf_Domains_r4_b, ↓C.conf_Domains_b5_w, ↓C.conf_Domains_c6_w, ↓C.conf_Domains_c7_w, ↓C.conf_Domains_r3_w, C.conf_Domains_r3_b, ↓C.conf_Domains_b9_w, ↓C.conf_Domains_c10_w, ↓C.conf_Domains_r2_w, C.conf_Domains_r2_b, ↓C.conf_Domains_c11_w, ↓C.conf_Domains_r1_w, C.conf_Domains_r1_b, ↓C.conf_Domains_c12_w, ↓C.conf_Domains_r0_w, C.conf_Domains_r0_b, C.conf_Domains, hil', hz, Int.toNat_natCast, hf, ht]
  intro id hid
  obtain ⟨ws, hws, hwl⟩ := hG.len (by simpa using hil)
  have hgid : ¬ g = id := by rintro rfl; rw [hws] at hid; cases hid
  rw [hcs]
  have hlid := le_new_set (a := AObj.cells [AV.int .i64 0, AV.int .i64 0, AV.bool false]) (b := AObj.cells (Dom.cells s.doms[i])) hid
  by_cases hab : s.doms[i].above = -1
  · simp only [↓Bp, Bq, Bs, ↓aop.eq_28, ↓aop.eq_30, Nat.reduceEqDiff, Nat.reduceAdd, Nat.reduceMul, Nat.reduceSub, Nat.reduceLeDiff, Nat.reduceLT, Int.reduceLT, Int.reduceLE, Int.reduceEq, Int.reduceToNat, Int.reduceAdd, Int.reduceSub, Int.reduceNeg, ↓reduceIte, reduceCtorEq, ↓C.conf_Domains_W, C.conf_Domains_B, C.conf_Domains, Dom.cells, hid, hab, hw]
    refine ⟨rfl, i + 1, rfl, ⟨hil, ?_⟩, by omega⟩
    have := hlid
    simp only [Dom.cells, hab] at this
    exact (hG.skip (by simpa using hil) (by simp [Dom.up, hab])).le this
  · simp only [↓Bp, Bq, Bs, ↓aop.eq_28, ↓aop.eq_30, Nat.reduceEqDiff, Nat.reduceAdd, Nat.reduceMul, Nat.reduceSub, Nat.reduceLeDiff, Nat.reduceLT, Int.reduceLT, Int.reduceLE, Int.reduceEq, Int.reduceToNat, Int.reduceAdd, Int.reduceSub, Int.reduceNeg, ↓reduceIte, reduceCtorEq, ↓C.conf_Domains_W, C.conf_Domains_B, C.conf_Domains, Dom.cells, hid, hab, hw]
    refine ⟨rfl, ?_⟩
    rintro ix ⟨hix, hixid⟩
    have hgix : ¬ g = ix := by rintro rfl; rw [hws] at hix; cases hix
    simp only [↓Bp, Bq, Bs, ↓aop.eq_28, ↓aop.eq_30, Nat.reduceEqDiff, Nat.reduceAdd, Nat.reduceMul, Nat.reduceSub, Nat.reduceLeDiff, Nat.reduceLT, Int.reduceLT, Int.reduceLE, Int.reduceEq, Int.reduceToNat, Int.reduceAdd, Int.reduceSub, Int.reduceNeg, ↓reduceIte, reduceCtorEq, ↓C.conf_Domains_W, C.conf_Domains_B, C.conf_Domains, hz, Int.toNat_natCast, Nat.mul_one, hgid, hgix, hws, hwl, hid, hw]
    refine ⟨i + 1, rfl, ⟨hil, ?_⟩, by omega⟩
    have hle2 := hlid.trans (ASt.le.new _ ix (.cells [.int .i64 s.doms[i].above]))
    have hx0 : ((s1.new id (AObj.cells [AV.int .i64 0, AV.int .i64 0, AV.bool false])).set id (AObj.cells (Dom.cells s.doms[i]))).h ix = none := by
      rw [ASt.set_none, ASt.new_none]; exact ⟨hix, hixid⟩
    refine hG.step (v := .sl 1 ix 0 1) (Lv := [ix]) (by simpa using hil) hle2 ?_ (fun j hj => ?_) hws
    · have e : row ((s.doms.map Dom.up)[i]'(by simpa using hil)) = .isl 1 [.int .i64 s.doms[i].above] 1 := by
        simp [Dom.up, hab, row, ints]
      rw [e]
      exact .sl (L1 := []) (L2 := []) (ASt.new_self _ hx0) (RepL.scalars rfl _) (by simp) (by simp) (by simp) .nil
    · have : j = ix := by simpa using hj
      rw [this]; exact hix

theorem conf_Needs_own {st : ASt} {s : Soc} (hn : s.devs.length ≤ 4294967296) (hm : ∀ c ∈ s.devs, c.needs.length ≤ 4294967296) :
    ACalls Try.prog F.conf_Needs [.agg s.cells] st fun r s' => GR st s' r (s.devs.map Dev.needs) := by
  refine calls_of_awp L.conf_Needs rfl ?_
  simp only [↓Bp, Bq, Bs, ↓aop.eq_28, ↓aop.eq_30, Nat.reduceEqDiff, Nat.reduceAdd, Nat.reduceMul, Nat.reduceSub, Nat.reduceLeDiff, Nat.reduceLT, Int.reduceLT, Int.reduceLE, Int.reduceEq, Int.reduceToNat, Int.reduceAdd, Int.reduceSub, Int.reduceNeg, ↓reduceIte, reduceCtorEq, ↓C.conf_Needs_r0_w, C.conf_Needs_r0_b, C.conf_Needs]
  intro ib hib
  simp only [↓Bp, Bq, Bs, ↓aop.eq_28, ↓aop.eq_30, Nat.reduceEqDiff, Nat.reduceAdd, Nat.reduceMul, Nat.reduceSub, Nat.reduceLeDiff, Nat.reduceLT, Int.reduceLT, Int.reduceLE, Int.reduceEq, Int.reduceToNat, Int.reduceAdd, Int.reduceSub, Int.reduceNeg, ↓reduceIte, reduceCtorEq, ↓C.conf_Needs_r1_w, C.conf_Needs_r1_b, ↓C.conf_Needs_c11_w, ↓C.conf_Needs_r0_w, C.conf_Needs_r0_b, C.conf_Needs, Soc.cells, Soc.devV, hib, Int.toNat_natCast]
  refine ⟨⟨by omega, by omega⟩, ?_⟩
  rintro g ⟨hg, hgi⟩
  obtain ⟨bx, hbx⟩ : ∃ bx, bx = AObj.cells s.cells := ⟨_, rfl⟩
  have hg' : (st.new ib bx).h g = none := by rw [ASt.new_none]; exact ⟨hg, hgi⟩
  have hst := GI.start hg' (s.devs.map Dev.needs)
  rw [hbx, List.length_map, ← zeros_nils] at hst
  have hib2 : ((st.new ib (AObj.cells s.cells)).new g (AObj.cells (zeros [AV.nils] s.devs.length))).h ib = some (.cells s.cells) := ASt.new_old (ASt.new_self _ hib)
  rw [Soc.cells, Soc.devV] at hib2
  simp only [↓Bp, Bq, Bs, ↓aop.eq_28, ↓aop.eq_30, Nat.reduceEqDiff, Nat.reduceAdd, Nat.reduceMul, Nat.reduceSub, Nat.reduceLeDiff, Nat.reduceLT, Int.reduceLT, Int.reduceLE, Int.reduceEq, Int.reduceToNat, Int.reduceAdd, Int.reduceSub, Int.reduceNeg, ↓reduceIte, reduceCtorEq, ↓C.conf_Needs_W, C.conf_Needs_B, C.conf_Needs, hib, Int.toNat_natCast]
  refine awp_midB (fun _ : Unit => [(3, .sl 1 g 0 s.devs.length)]) (fun _ s' => GR st s' (.sl 1 g 0 s.devs.length) (s.devs.map Dev.needs)) ?_ ?_
  rotate_left
  · rintro - s' h
    simp only [↓Bp, Bq, Bs, ↓aop.eq_28, ↓aop.eq_30, Nat.reduceEqDiff, Nat.reduceAdd, Nat.reduceMul, Nat.reduceSub, Nat.reduceLeDiff, Nat.reduceLT, Int.reduceLT, Int.reduceLE, Int.reduceEq, Int.reduceToNat, Int.reduceAdd, Int.reduceSub, Int.reduceNeg, ↓reduceIte, reduceCtorEq, ↓C.conf_Needs_W, C.conf_Needs_B, C.conf_Needs]
    exact h
  refine awp_loopK (fun i : Nat => [(3, .sl 1 g 0 s.devs.length), (11, .isl 6 (s.devs.flatMap Dev.cells) s.devs.length), (12, .int .i64 s.devs.length), (13, .int .i64 i)]) (fun i s' => i ≤ s.devs.length ∧ GI (st.new ib (AObj.cells s.cells)) s' g (s.devs.map Dev.needs) i) (fun i => s.devs.length - i) 0 rfl ⟨Nat.zero_le _, hst⟩ ?_
  rintro i s1 ⟨hi, hG⟩
  by_cases hil : i < s.devs.length
  rotate_left
  · have hie : i = s.devs.length := by omega
    subst hie
    have hil' : ¬ ((s.devs.length : Nat) : Int) < (s.devs.length : Nat) := by omega
    simp only [↓Bp, Bq, Bs, ↓aop.eq_28, ↓aop.eq_30, Nat.reduceEqDiff, Nat.reduceAdd, Nat.reduceMul, Nat.reduceSub, Nat.reduceLeDiff, Nat.reduceLT, Int.reduceLT, Int.reduceLE, Int.reduceEq, Int.reduceToNat, Int.reduceAdd, Int.reduceSub, Int.reduceNeg, ↓reduceIte, reduceCtorEq, ↓C.conf_Needs_W, C.conf_Needs_B, C.conf_Needs, hil']
    refine ⟨(), ?_⟩
    have := hG
    rw [show s.devs.length = (s.devs.map Dev.needs).length by simp] at this
    have := this.done
    rw [List.length_map] at this
    exact this.less (ASt.le.new _ _ _)
  have hil' : (i : Int) < (s.devs.length : Nat) := by omega
  have hz : (0:Int) ≤ (i : Int) ∧ (i : Int) < (s.devs.length : Nat) := by omega
  have hw : IntKind.i64.wrap ((i : Int) + 1) = ((i + 1 : Nat) : Int) := by rw [wrap64] <;> omega
  have hf := flatMap_fits (f := Dev.cells) (k := 6) (fun _ => rfl) hil
  have ht := flatMap_at (f := Dev.cells) (k := 6) (fun _ => rfl) hil
  obtain ⟨cs, hcs⟩ : ∃ cs, cs = Dev.cells s.devs[i] := ⟨_, rfl⟩
  rw [← hcs] at ht
  simp only [↓Bp, Bq, Bs, ↓aop.eq_28, ↓aop.eq_30, Nat.reduceEqDiff, Nat.reduceAdd, Nat.reduceMul, Nat.reduceSub, Nat.reduceLeDiff, Nat.reduceLT, Int.reduceLT, Int.reduceLE, Int.reduceEq, Int.reduceToNat, Int.reduceAdd, Int.reduceSub, Int.reduceNeg, ↓reduceIte, reduceCtorEq, ↓C.conf_Needs_r7_w, C.conf_Needs_r7_b, ↓C.conf_Needs_c1_w, ↓C.conf_Needs_r6_w, C.conf_Needs_r6_b, ↓C.conf_Needs_c2_w, ↓C.conf_Needs_r4_w, C.conf_Needs_r4_b, ↓C.conf_Needs_b4_w, ↓C.conf_Needs_c5_w, ↓C.conf_Needs_c6_w, ↓C.conf_Needs_r3_w, C.conf_Needs_r3_b, ↓C.conf_Needs_b8_w, ↓C.conf_Needs_c9_w, ↓C.conf_Needs_r2_w, C.conf_Needs_r2_b, ↓C.conf_Needs_c10_w, ↓C.conf_Needs_r1_w, C.conf_Needs_r1_b, ↓C.conf_Needs_c11_w, ↓C.conf_Needs_r0_w, C.conf_Needs_r0_b, C.conf_Needs, hil', hz, Int.toNat_natCast, hf, ht]
  intro id hid
  obtain ⟨ws, hws, hwl⟩ := hG.len (by simpa using hil)
  have hgid : ¬ g = id := by rintro rfl; rw [hws] at hid; cases hid
  rw [hcs]
  simp only [↓Bp, Bq, Bs, ↓aop.eq_28, ↓aop.eq_30, Nat.reduceEqDiff, Nat.reduceAdd, Nat.reduceMul, Nat.reduceSub, Nat.reduceLeDiff, Nat.reduceLT, Int.reduceLT, Int.reduceLE, Int.reduceEq, Int.reduceToNat, Int.reduceAdd, Int.reduceSub, Int.reduceNeg, ↓reduceIte, reduceCtorEq, ↓C.conf_Needs_W, C.conf_Needs_B, C.conf_Needs, Dev.cells, row, hid]
  refine ⟨rfl, ?_⟩
  refine (conf_own_int_spec (by rw [ints_length, Nat.mul_one]) (hm _ (List.getElem_mem hil)) (ints_leaf _)).mono ?_
  rintro r s2 hO
  obtain ⟨Lv, hv, hLv⟩ := hO.rep (by rw [ints_length, Nat.mul_one]) (ints_scalar _)
  have hle : s1.le s2 := (le_new_set hid).trans hO.le
  have hnn : ∀ j ∈ Lv, s1.h j = none := fun j hj => by
    cases e : s1.h j with
    | none => rfl
    | some o =>
      have h1 := hLv j hj
      rw [le_new_set hid _ _ e] at h1; cases h1
  have hstep := hG.step (i := i) (v := r) (by simpa using hil) hle (by simpa [row] using hv) hnn hws
  simp only [↓Bp, Bq, Bs, ↓aop.eq_28, ↓aop.eq_30, Nat.reduceEqDiff, Nat.reduceAdd, Nat.reduceMul, Nat.reduceSub, Nat.reduceLeDiff, Nat.reduceLT, Int.reduceLT, Int.reduceLE, Int.reduceEq, Int.reduceToNat, Int.reduceAdd, Int.reduceSub, Int.reduceNeg, ↓reduceIte, reduceCtorEq, ↓C.conf_Needs_W, C.conf_Needs_B, C.conf_Needs, hz, Int.toNat_natCast, Nat.mul_one, hle _ _ hws, hO.leaf, hwl, hw]
  exact ⟨i + 1, rfl, ⟨hil, hstep⟩, by omega⟩

end Go.Proofs.Ytjamidgdhmjhaaa.Cn
