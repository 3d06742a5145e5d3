/- YtdmfgodajoojpaaGreatDoor: proofs of this seat, texts CnConf10, CnChipSane, CnClock4, CnClock5, CnClock6, CnClock7h, CnKLocks, CnHW1, CnPower6, CnReset1, CnReset2, CnRegs1, CnRegs2, CnHard0, CnHard1, CnHard2, CnHard3: what each shows stands at its theorems; no condition. -/
import Derived.Test.YtdmfgodajoojpaaGreatDoorCnS2
import Derived.Test.YtdmfgodajoojpaaGreatDoorCnS1
import Derived.Test.YtdmfgodajoojpaaGreatDoorCnL2
import Derived.Test.YtdmfgodajoojpaaGreatDoorCnLk
/- Descriptions: copies of one's own. -/
set_option linter.unusedSimpArgs false
set_option linter.unusedVariables false
set_option maxRecDepth 100000
namespace Go.Proofs.YtdmfgodajoojpaaGreatDoor.Cn
open Go Go.Proofs

theorem conf_own_api_Clock_spec {st : ASt} {cs : List AV} {n : Nat} (hl : cs.length = n * 6) (hn : n ≤ 4294967296) (hc : allLeaf cs = true) : ACalls Tryz.prog F.q65 [.isl 6 cs n] st fun r st' => Owned st st' 6 cs n r := by
  refine calls_of_awp L.q65 rfl ?_
  have ht : cs.take (n * 6) = cs := by rw [← hl, List.take_length]
  have hle : n * 6 ≤ cs.length := by omega
  by_cases h0 : n = 0
  · subst h0
    simp only [↓Bt, Bu, simprocAttr, ↓C.q65_W, C.q65_B, C.q65, ASt.seen, Nat.zero_mul, Nat.zero_le, List.take_zero, allLeaf, Nat.add_zero]
    exact .inl ⟨rfl, rfl, rfl⟩
  · simp only [↓Bt, Bu, simprocAttr, ↓C.q65_W, C.q65_B, C.q65, ASt.seen, hle, ht, hn, hc, h0, Nat.zero_add]
    intro id hid
    exact .inr ⟨h0, id, hid, rfl, rfl⟩
theorem conf_own_api_Domain_spec {st : ASt} {cs : List AV} {n : Nat} (hl : cs.length = n * 3) (hn : n ≤ 4294967296) (hc : allLeaf cs = true) : ACalls Tryz.prog F.q67 [.isl 3 cs n] st fun r st' => Owned st st' 3 cs n r := by
  refine calls_of_awp L.q67 rfl ?_
  have ht : cs.take (n * 3) = cs := by rw [← hl, List.take_length]
  have hle : n * 3 ≤ cs.length := by omega
  by_cases h0 : n = 0
  · subst h0
    simp only [↓Bt, Bu, simprocAttr, ↓C.q67_W, C.q67_B, C.q67, ASt.seen, Nat.zero_mul, Nat.zero_le, List.take_zero, allLeaf, Nat.add_zero]
    exact .inl ⟨rfl, rfl, rfl⟩
  · simp only [↓Bt, Bu, simprocAttr, ↓C.q67_W, C.q67_B, C.q67, ASt.seen, hle, ht, hn, hc, h0, Nat.zero_add]
    intro id hid
    exact .inr ⟨h0, id, hid, rfl, rfl⟩
theorem conf_own_api_Reset_spec {st : ASt} {cs : List AV} {n : Nat} (hl : cs.length = n * 1) (hn : n ≤ 4294967296) (hc : allLeaf cs = true) : ACalls Tryz.prog F.q69 [.isl 1 cs n] st fun r st' => Owned st st' 1 cs n r := by
  refine calls_of_awp L.q69 rfl ?_
  have ht : cs.take (n * 1) = cs := by rw [← hl, List.take_length]
  have hle : n * 1 ≤ cs.length := by omega
  by_cases h0 : n = 0
  · subst h0
    simp only [↓Bt, Bu, simprocAttr, ↓C.q69_W, C.q69_B, C.q69, ASt.seen, Nat.zero_mul, Nat.zero_le, List.take_zero, allLeaf, Nat.add_zero]
    exact .inl ⟨rfl, rfl, rfl⟩
  · simp only [↓Bt, Bu, simprocAttr, ↓C.q69_W, C.q69_B, C.q69, ASt.seen, hle, ht, hn, hc, h0, Nat.zero_add]
    intro id hid
    exact .inr ⟨h0, id, hid, rfl, rfl⟩
theorem conf_own_api_Device_spec {st : ASt} {cs : List AV} {n : Nat} (hl : cs.length = n * 6) (hn : n ≤ 4294967296) (hc : allLeaf cs = true) : ACalls Tryz.prog F.q66 [.isl 6 cs n] st fun r st' => Owned st st' 6 cs n r := by
  refine calls_of_awp L.q66 rfl ?_
  have ht : cs.take (n * 6) = cs := by rw [← hl, List.take_length]
  have hle : n * 6 ≤ cs.length := by omega
  by_cases h0 : n = 0
  · subst h0
    simp only [↓Bt, Bu, simprocAttr, ↓C.q66_W, C.q66_B, C.q66, ASt.seen, Nat.zero_mul, Nat.zero_le, List.take_zero, allLeaf, Nat.add_zero]
    exact .inl ⟨rfl, rfl, rfl⟩
  · simp only [↓Bt, Bu, simprocAttr, ↓C.q66_W, C.q66_B, C.q66, ASt.seen, hle, ht, hn, hc, h0, Nat.zero_add]
    intro id hid
    exact .inr ⟨h0, id, hid, rfl, rfl⟩
theorem conf_own_api_Reg_spec {st : ASt} {cs : List AV} {n : Nat} (hl : cs.length = n * 2) (hn : n ≤ 4294967296) (hc : allLeaf cs = true) : ACalls Tryz.prog F.q68 [.isl 2 cs n] st fun r st' => Owned st st' 2 cs n r := by
  refine calls_of_awp L.q68 rfl ?_
  have ht : cs.take (n * 2) = cs := by rw [← hl, List.take_length]
  have hle : n * 2 ≤ cs.length := by omega
  by_cases h0 : n = 0
  · subst h0
    simp only [↓Bt, Bu, simprocAttr, ↓C.q68_W, C.q68_B, C.q68, ASt.seen, Nat.zero_mul, Nat.zero_le, List.take_zero, allLeaf, Nat.add_zero]
    exact .inl ⟨rfl, rfl, rfl⟩
  · simp only [↓Bt, Bu, simprocAttr, ↓C.q68_W, C.q68_B, C.q68, ASt.seen, hle, ht, hn, hc, h0, Nat.zero_add]
    intro id hid
    exact .inr ⟨h0, id, hid, rfl, rfl⟩

def CpI {α : Type} (enc : α → List AV) (s0 s : ASt) (id : Nat) (l : List α) (i : Nat) : Prop :=
  ∃ vs1 L, s.h id = some (.cells (vs1 ++ (l.drop i).flatMap enc)) ∧ RepL s vs1 ((l.take i).flatMap enc) L ∧ id ∉ L ∧ (∀ j ∈ L, s0.h j = none) ∧ (∀ j, j ≠ id → ∀ o, s0.h j = some o → s.h j = some o) ∧ s0.h id ≠ none
theorem CpI.start {α : Type} {enc : α → List AV} {s : ASt} {id : Nat} {l : List α} (h : s.h id = some (.cells (l.flatMap enc))) : CpI enc s s id l 0 :=
  ⟨[], [], by simpa using h, .nil, by simp, fun j hj => by (cases hj), fun j _ o ho => ho, by rw [h]; simp⟩
theorem CpI.row {α : Type} {enc : α → List AV} {s0 s : ASt} {id : Nat} {l : List α} {i k : Nat} (h : CpI enc s0 s id l i) (hk : ∀ x, (enc x).length = k) (hi : i < l.length) :
    ∃ vs1, s.h id = some (.cells (vs1 ++ (enc l[i] ++ (l.drop (i + 1)).flatMap enc))) ∧ vs1.length = i * k ∧
      ∀ s2 row Lv, s.le s2 → RepL s2 row (enc l[i]) Lv → (∀ j ∈ Lv, s.h j = none) → CpI enc s0 (s2.set id (.cells (vs1 ++ (row ++ (l.drop (i + 1)).flatMap enc)))) id l (i + 1) := by
  obtain ⟨vs1, L, h1, h2, h3, h4, h5, h6⟩ := h
  have e : (l.drop i).flatMap enc = enc l[i] ++ (l.drop (i + 1)).flatMap enc := by
    rw [← List.getElem_cons_drop (h := hi), List.flatMap_cons]
  have hlen := h2.len
  rw [flatMap_len hk, List.length_take] at hlen
  refine ⟨vs1, by rw [← e]; exact h1, by rw [← hlen]; congr 1; omega, ?_⟩
  intro s2 row Lv hl hr hLv
  have hid2 := hl _ _ h1
  have hidL : id ∉ Lv := fun hm => by rw [hLv id hm] at h1; cases h1
  have ho : ∀ {M : List Nat} {o : AObj}, id ∉ M → ∀ j ∈ M, (s2.set id o).h j = s2.h j := fun {M o} hm j hj => by
    rw [ASt.set_h, if_neg (by rintro rfl; exact hm hj)]
  refine ⟨vs1 ++ row, L ++ Lv, ?_, ?_, ?_, ?_, ?_, h6⟩
  · rw [ASt.set_h, if_pos rfl, hid2, List.append_assoc]; rfl
  · rw [List.take_succ_eq_append_getElem hi, List.flatMap_append]
    have e2 : List.flatMap enc [l[i]] = enc l[i] := by simp
    rw [e2]
    refine ((h2.le hl).off (ho h3)).app (hr.off (ho hidL)) fun j hj hm => h2.live j hj (hLv j hm)
  · intro hm
    rcases List.mem_append.mp hm with hm | hm
    · exact h3 hm
    · exact hidL hm
  · intro j hj
    rcases List.mem_append.mp hj with hj | hj
    · exact h4 j hj
    · cases e : s0.h j with
      | none => rfl
      | some o =>
        have hne : j ≠ id := by rintro rfl; exact hidL hj
        have := h5 j hne o e
        rw [hLv j hj] at this; cases this
  · intro j hj o h
    rw [ASt.set_h, if_neg hj]
    exact hl _ _ (h5 j hj o h)
theorem CpI.done {α : Type} {enc : α → List AV} {s0 s : ASt} {id : Nat} {l : List α} (h : CpI enc s0 s id l l.length) :
    ∃ ws L, s.h id = some (.cells ws) ∧ RepL s ws (l.flatMap enc) L ∧ id ∉ L ∧ (∀ j ∈ L, s0.h j = none) ∧ (∀ j, j ≠ id → ∀ o, s0.h j = some o → s.h j = some o) := by
  obtain ⟨vs1, L, h1, h2, h3, h4, h5, h6⟩ := h
  rw [List.take_length] at h2
  rw [List.drop_length, List.flatMap_nil, List.append_nil] at h1
  exact ⟨vs1, L, h1, h2, h3, h4, h5⟩
theorem get_app {a b c : List AV} {n j : Nat} (ha : a.length = n) (hj : j < b.length) : (a ++ (b ++ c))[n + j]? = b[j]? := by
  rw [List.getElem?_append_right (by omega), ha, Nat.add_sub_cancel_left, List.getElem?_append_left hj]
theorem set_app {a b c : List AV} {n j : Nat} {v : AV} (ha : a.length = n) (hj : j < b.length) : (a ++ (b ++ c)).set (n + j) v = a ++ (b.set j v ++ c) := by
  rw [List.set_append_right _ _ (by omega), ha, Nat.add_sub_cancel_left, List.set_append_left _ _ hj]
theorem doms_scalar (l : List Dom) : (l.flatMap Dom.cells).all AV.scalar = true := by
  simp [List.all_flatMap, Dom.cells, AV.scalar]
theorem rsts_scalar (l : List Int) : (l.flatMap rstCells).all AV.scalar = true := by
  simp [List.all_flatMap, rstCells, AV.scalar]
theorem flat_scalar (l : List Reg) : (flat l).all AV.scalar = true := by
  simp [flat, List.all_flatMap, encReg, AV.scalar]
theorem clks_leaf (l : List Clk) : allLeaf (l.flatMap Clk.cells) = true := by
  simp [allLeaf, List.all_flatMap, Clk.cells, AV.leaf, row]
theorem doms_leaf (l : List Dom) : allLeaf (l.flatMap Dom.cells) = true := by
  simp [allLeaf, List.all_flatMap, Dom.cells, AV.leaf]
theorem rsts_leaf (l : List Int) : allLeaf (l.flatMap rstCells) = true := by
  simp [allLeaf, List.all_flatMap, rstCells, AV.leaf]
theorem devs_leaf (l : List Dev) : allLeaf (l.flatMap Dev.cells) = true := by
  simp [allLeaf, List.all_flatMap, Dev.cells, AV.leaf, row]

theorem Owned.ids {st st' : ASt} {sz n : Nat} {cs : List AV} {r : AV} (h : Owned st st' sz cs n r) : ∃ M : List Nat, (∀ j ∈ M, st.h j = none) ∧ (∀ j ∈ M, st'.h j ≠ none) ∧ ((n = 0 ∧ r = .nils ∧ M = []) ∨ (n ≠ 0 ∧ ∃ id, M = [id] ∧ r = .sl sz id 0 n ∧ st'.h id = some (.cells cs))) := by
  rcases h with ⟨h1, h2, h3⟩ | ⟨h1, id, h2, h3, h4⟩
  · exact ⟨[], by simp, by simp, .inl ⟨h1, h2, rfl⟩⟩
  · refine ⟨[id], by simpa using h2, ?_, .inr ⟨h1, id, rfl, h3, by rw [h4, ASt.new_self _ h2]⟩⟩
    intro j hj
    have : j = id := by simpa using hj
    rw [this, h4, ASt.new_self _ h2]; simp
theorem Owned.slen {st st' : ASt} {sz n : Nat} {cs : List AV} {r : AV} (h : Owned st st' sz cs n r) : r.slen = some n := by
  rcases h with ⟨rfl, rfl, _⟩ | ⟨_, id, _, rfl, _⟩ <;> rfl
theorem CpI.rep {α : Type} {enc : α → List AV} {s0 s : ASt} {id k n : Nat} {l : List α} (h : CpI enc s0 s id l l.length) : ∃ L, RepL s [.sl k id 0 n] [.isl k (l.flatMap enc) n] L ∧ Upd s0 [id] s L := by
  obtain ⟨ws, L, h1, h2, h3, h4, h5⟩ := h.done
  refine ⟨id :: (L ++ []), .sl h1 h2 h3 (by simp) (by simp) .nil, fun j hj o ho => h5 j (by simpa using hj) o ho, fun j hj => ?_⟩
  rcases List.mem_cons.mp hj with rfl | hj
  · exact .inl (by simp)
  · exact .inr (h4 j (by simpa using hj))
theorem clk_row_rep {st : ASt} {c : Clk} {r : AV} {Lv : List Nat} (hv : RepL st [r] [row c.src] Lv) : RepL st (c.cells.set 1 r) c.cells Lv := by
  have := hv.app (RepL.scalars (cs := [.int .u64 c.rate, .int .i64 c.mul, .int .i64 c.div, .int .i64 c.lock]) rfl st) (by simp)
  rw [List.append_nil] at this
  exact .one rfl this
theorem dev_row_rep {st : ASt} {d : Dev} {r4 r5 : AV} {L4 L5 : List Nat} (h4 : RepL st [r4] [.isl 2 (flat d.regs) d.regs.length] L4) (h5 : RepL st [r5] [row d.needs] L5) (hd : ∀ j ∈ L4, j ∉ L5) :
    RepL st ((d.cells.set 4 r4).set 5 r5) d.cells (L4 ++ L5) :=
  .one rfl (.one rfl (.one rfl (.one rfl (h4.app h5 hd))))
theorem copy_own {st : ASt} {a : Soc} (ha : a.sane) : ACalls Tryz.prog F.q38 [.agg a.cells] st fun r s' => ∃ vs L, r = .agg vs ∧ RepL s' vs a.cells L ∧ (∀ j ∈ L, st.h j = none) ∧ st.le s' := by
  refine calls_of_awp L.q38 rfl ?_
  have hac := ha.c
  have hav := ha.v
  simp only [↓Bt, Bu, simprocAttr, ↓C.b1_w, C.b1_b, C.q38]
  rintro ib hib ir ⟨hir, hirb⟩
  have hle0 := (ASt.le.new st ib (.cells a.cells)).trans (ASt.le.new _ ir (.cells [.nils, .nils, .nils, .nils]))
  have hb0 : ((st.new ib (.cells a.cells)).new ir (.cells [.nils, .nils, .nils, .nils])).h ib = some (.cells a.cells) := ASt.new_old (ASt.new_self _ hib)
  have hr0 : ((st.new ib (.cells a.cells)).new ir (.cells [.nils, .nils, .nils, .nils])).h ir = some (.cells [.nils, .nils, .nils, .nils]) := ASt.new_self _ (by rw [ASt.new_none]; exact ⟨hir, hirb⟩)
  generalize (st.new ib (.cells a.cells)).new ir (.cells [.nils, .nils, .nils, .nils]) = s0 at hle0 hb0 hr0
  rw [Soc.cells, Soc.clkV, Soc.domV, Soc.rstV, Soc.devV] at hb0
  simp only [↓Bt, Bu, simprocAttr, ↓C.q38_W, C.q38_B, C.q38, hb0]
  refine (conf_own_api_Clock_spec (flatMap_len Clk.cells_len _) ha.c (clks_leaf _)).mono ?_
  rintro v1 s1 hO1
  have hb1 := hO1.le _ _ hb0
  simp only [↓Bt, Bu, simprocAttr, ↓C.q38_W, C.q38_B, C.q38, hb1]
  refine (conf_own_api_Domain_spec (flatMap_len Dom.cells_len _) ha.d (doms_leaf _)).mono ?_
  rintro v2 s2 hO2
  have hb2 := hO2.le _ _ hb1
  simp only [↓Bt, Bu, simprocAttr, ↓C.q38_W, C.q38_B, C.q38, hb2]
  refine (conf_own_api_Reset_spec (flatMap_len rstCells_len _) ha.r (rsts_leaf _)).mono ?_
  rintro v3 s3 hO3
  have hb3 := hO3.le _ _ hb2
  simp only [↓Bt, Bu, simprocAttr, ↓C.q38_W, C.q38_B, C.q38, hb3]
  refine (conf_own_api_Device_spec (flatMap_len Dev.cells_len _) ha.v (devs_leaf _)).mono ?_
  rintro v4 s4 hO4
  have hb4 := hO4.le _ _ hb3
  simp only [↓Bt, Bu, simprocAttr, ↓C.c2_w, C.c2_b, ↓C.bnb_w, ↓C.b1_w, C.b1_b, C.q38, part_leaf hO1.leaf, part_leaf hO2.leaf, part_leaf hO3.leaf, part_leaf hO4.leaf]
  rintro io hio
  have hlf : allLeaf [v1, v2, v3, v4] = true := by simp [allLeaf, hO1.leaf, hO2.leaf, hO3.leaf, hO4.leaf]
  simp only [↓Bt, Bu, simprocAttr, ↓C.c2_w, C.c2_b, ↓C.bnb_w, ↓C.b1_w, C.b1_b, C.q38, hio, hlf]
  refine ⟨trivial, ?_⟩
  obtain ⟨M1, m1, n1, hM1⟩ := hO1.ids
  obtain ⟨M4, m4, n4, hM4⟩ := hO4.ids
  obtain ⟨L2, r2, f2⟩ := hO2.rep (flatMap_len Dom.cells_len _) (doms_scalar _)
  obtain ⟨L3, r3, f3⟩ := hO3.rep (flatMap_len rstCells_len _) (rsts_scalar _)
  have hle5 := le_new_set (a := AObj.cells [.nils, .nils, .nils, .nils]) (b := AObj.cells [v1, v2, v3, v4]) hio
  have ho5 : ((s4.new io (AObj.cells [.nils, .nils, .nils, .nils])).set io (AObj.cells [v1, v2, v3, v4])).h io = some (.cells [v1, v2, v3, v4]) := by
    rw [ASt.set_h, if_pos rfl, ASt.new_self _ hio]; rfl
  have hr5 := hle5 _ _ (hO4.le _ _ (hO3.le _ _ (hO2.le _ _ (hO1.le _ _ hr0))))
  generalize (s4.new io (AObj.cells [.nils, .nils, .nils, .nils])).set io (AObj.cells [v1, v2, v3, v4]) = s5 at hle5 ho5 hr5
  have l45 := hle5
  have l35 := hO4.le.trans l45
  have l25 := hO3.le.trans l35
  have l15 := hO2.le.trans l25
  have l05 := hO1.le.trans l15
  -- what lies where
  have hM1s : ∀ j ∈ M1, s1.h j ≠ none := n1
  have r2' := r2.le l25
  have r3' := r3.le l35
  have dM1 : ∀ j, s1.h j = none → j ∉ M1 := fun j hj hm => n1 j hm hj
  have hioM1 : io ∉ M1 := dM1 io (fresh_of_le (hO2.le.trans (hO3.le.trans hO4.le)) hio)
  have hirM1 : ir ∉ M1 := fun hm => by have := m1 ir hm; rw [hr0] at this; cases this
  have hioM4 : io ∉ M4 := fun hm => n4 io hm hio
  have hirM4 : ir ∉ M4 := fun hm => by
    have := m4 ir hm
    rw [hO3.le _ _ (hO2.le _ _ (hO1.le _ _ hr0))] at this; cases this
  simp only [↓Bt, Bu, simprocAttr, ↓C.q38_W, C.q38_B, C.q38, ho5, Owned.slen hO1]
  refine awp_midB (fun _ : Unit => [(2, .ptr ir 0), (3, .ptr io 0)]) (fun _ s => ∃ L1, RepL s [v1] [a.clkV] L1 ∧ Upd s5 M1 s L1) ?_ ?_
  · rcases hM1 with ⟨hn, hv, hM⟩ | ⟨hn, i1, hM, hv, hi1⟩
    · subst hv; subst hM
      refine awp_loopK (fun i : Nat => [(2, .ptr ir 0), (3, .ptr io 0), (22, .int .i64 a.clocks.length), (23, .int .i64 i)]) (fun i s => s = s5) (fun i => 0) 0 rfl rfl ?_
      rintro i s rfl
      have hil' : ¬ (i : Int) < (a.clocks.length : Nat) := by omega
      simp only [↓Bt, Bu, simprocAttr, ↓C.q38_W, C.q38_B, C.q38, hil']
      refine ⟨(), [], ?_, Upd.refl _ _⟩
      have hc : a.clocks = [] := List.eq_nil_of_length_eq_zero hn
      rw [Soc.clkV, hc]
      exact .nils 6 .nil
    · subst hv; subst hM
      have hio1 : io ≠ i1 := by simpa using hioM1
      refine awp_loopK (fun i : Nat => [(2, .ptr ir 0), (3, .ptr io 0), (22, .int .i64 a.clocks.length), (23, .int .i64 i)]) (fun i s => i ≤ a.clocks.length ∧ CpI Clk.cells s5 s i1 a.clocks i) (fun i => a.clocks.length - i) 0 rfl ⟨Nat.zero_le _, CpI.start (l15 _ _ hi1)⟩ ?_
      rintro i s ⟨hi, hC⟩
      by_cases hil : i < a.clocks.length
      rotate_left
      · have hie : i = a.clocks.length := by omega
        subst hie
        have hil' : ¬ ((a.clocks.length : Nat) : Int) < (a.clocks.length : Nat) := by omega
        simp only [↓Bt, Bu, simprocAttr, ↓C.q38_W, C.q38_B, C.q38, hil']
        exact ⟨(), hC.rep⟩
      have hil' : (i : Int) < (a.clocks.length : Nat) := by omega
      have hz : (0:Int) ≤ (i : Int) ∧ (i : Int) < (a.clocks.length : Nat) := by omega
      have hw : IntKind.i64.wrap ((i : Int) + 1) = ((i + 1 : Nat) : Int) := by rw [wrap64] <;> omega
      have hos : s.h io = some (.cells [.sl 6 i1 0 a.clocks.length, v2, v3, v4]) := by
        obtain ⟨_, _, _, _, _, _, h5, _⟩ := hC
        exact h5 io hio1 _ ho5
      obtain ⟨vs1, q1, q2, q3⟩ := hC.row Clk.cells_len hil
      have hg := get_app (b := a.clocks[i].cells) (c := (a.clocks.drop (i + 1)).flatMap Clk.cells) (j := 1) q2 (by simp [Clk.cells])
      have hs' := fun v => set_app (b := a.clocks[i].cells) (c := (a.clocks.drop (i + 1)).flatMap Clk.cells) (j := 1) (v := v) q2 (by simp [Clk.cells])
      have hlw : i * 6 + 1 < (vs1 ++ (a.clocks[i].cells ++ (a.clocks.drop (i + 1)).flatMap Clk.cells)).length := by
        rw [List.length_append, List.length_append, Clk.cells_len]; omega
      generalize hws : vs1 ++ (a.clocks[i].cells ++ (a.clocks.drop (i + 1)).flatMap Clk.cells) = ws at q1 hg hs' hlw
      rw [show (a.clocks[i].cells)[1]? = some (row a.clocks[i].src) from rfl, row] at hg
      simp only [↓Bt, Bu, simprocAttr, ↓C.q38_W, C.q38_B, C.q38, hil', hos, hz, Int.toNat_natCast, q1, hg]
      refine (conf_own_int_spec (by rw [ints_length, Nat.mul_one]) (ha.cs _ (List.getElem_mem hil)) (ints_leaf _)).mono ?_
      rintro r t hO
      obtain ⟨Lv, hv, hLv⟩ := hO.rep (by rw [ints_length, Nat.mul_one]) (ints_scalar _)
      simp only [↓Bt, Bu, simprocAttr, ↓C.q38_W, C.q38_B, C.q38, hO.le _ _ hos, hz, Int.toNat_natCast, hO.le _ _ q1, hO.leaf, hlw, hs', hw]
      refine ⟨i + 1, rfl, ⟨hil, q3 t _ Lv hO.le ?_ hLv⟩, by omega⟩
      exact clk_row_rep hv
  rintro - s6 ⟨L1, r1, u1⟩
  have ho6 : s6.h io = some (.cells [v1, v2, v3, v4]) := u1.1 io hioM1 _ ho5
  have hr6 : s6.h ir = some (.cells [.nils, .nils, .nils, .nils]) := u1.1 ir hirM1 _ hr5
  have dis1 : ∀ {M : List Nat}, (∀ j ∈ M, s1.h j = none) → ∀ j ∈ M, j ∉ M1 := fun {M} hm j hj => dM1 j (hm j hj)
  have f2' : ∀ j ∈ L2, s1.h j = none := f2
  have f3' : ∀ j ∈ L3, s1.h j = none := fun j hj => fresh_of_le hO2.le (f3 j hj)
  have f4' : ∀ j ∈ M4, s1.h j = none := fun j hj => fresh_of_le (hO2.le.trans hO3.le) (m4 j hj)
  obtain ⟨r2a, d12⟩ := u1.keep r2' (dis1 f2')
  obtain ⟨r3a, d13⟩ := u1.keep r3' (dis1 f3')
  have d23 : ∀ j ∈ L2, j ∉ L3 := fun j hj hm => r2.live j hj (f3 j hm)
  have d24 : ∀ j ∈ L2, j ∉ M4 := fun j hj hm => r2.live j hj (fresh_of_le hO3.le (m4 j hm))
  have d34 : ∀ j ∈ L3, j ∉ M4 := fun j hj hm => r3.live j hj (m4 j hm)
  have d14 : ∀ j ∈ L1, j ∉ M4 := fun j hj hm => by
    rcases u1.2 j hj with h | h
    · exact dM1 j (f4' j hm) h
    · exact n4 j hm (fresh_of_le l45 h)
  simp only [↓Bt, Bu, simprocAttr, ↓C.q38_W, C.q38_B, C.q38, ho6, Owned.slen hO4]
  refine awp_midB (fun _ : Unit => [(2, .ptr ir 0), (3, .ptr io 0)]) (fun _ s => ∃ L4, RepL s [v4] [a.devV] L4 ∧ Upd s6 M4 s L4) ?_ ?_
  · rcases hM4 with ⟨hn, hv, hM⟩ | ⟨hn, i4, hM, hv, hi4⟩
    · subst hv; subst hM
      refine awp_loopK (fun i : Nat => [(2, .ptr ir 0), (3, .ptr io 0), (41, .int .i64 a.devs.length), (42, .int .i64 i)]) (fun i s => s = s6) (fun i => 0) 0 rfl rfl ?_
      rintro i s rfl
      have hil' : ¬ (i : Int) < (a.devs.length : Nat) := by omega
      simp only [↓Bt, Bu, simprocAttr, ↓C.q38_W, C.q38_B, C.q38, hil']
      refine ⟨(), [], ?_, Upd.refl _ _⟩
      have hc : a.devs = [] := List.eq_nil_of_length_eq_zero hn
      rw [Soc.devV, hc]
      exact .nils 6 .nil
    · subst hv; subst hM
      have hio4 : io ≠ i4 := by simpa using hioM4
      have hi4' : i4 ∉ M1 := dis1 f4' i4 (by simp)
      refine awp_loopK (fun i : Nat => [(2, .ptr ir 0), (3, .ptr io 0), (41, .int .i64 a.devs.length), (42, .int .i64 i)]) (fun i s => i ≤ a.devs.length ∧ CpI Dev.cells s6 s i4 a.devs i) (fun i => a.devs.length - i) 0 rfl ⟨Nat.zero_le _, CpI.start (u1.1 i4 hi4' _ (l45 _ _ hi4))⟩ ?_
      rintro i s ⟨hi, hC⟩
      by_cases hil : i < a.devs.length
      rotate_left
      · have hie : i = a.devs.length := by omega
        subst hie
        have hil' : ¬ ((a.devs.length : Nat) : Int) < (a.devs.length : Nat) := by omega
        simp only [↓Bt, Bu, simprocAttr, ↓C.q38_W, C.q38_B, C.q38, hil']
        exact ⟨(), hC.rep⟩
      have hil' : (i : Int) < (a.devs.length : Nat) := by omega
      have hz : (0:Int) ≤ (i : Int) ∧ (i : Int) < (a.devs.length : Nat) := by omega
      have hw : IntKind.i64.wrap ((i : Int) + 1) = ((i + 1 : Nat) : Int) := by rw [wrap64] <;> omega
      have hos : s.h io = some (.cells [v1, v2, v3, .sl 6 i4 0 a.devs.length]) := by
        obtain ⟨_, _, _, _, _, _, h5, _⟩ := hC
        exact h5 io hio4 _ ho6
      obtain ⟨vs1, q1, q2, q3⟩ := hC.row Dev.cells_len hil
      have hg4 := get_app (b := a.devs[i].cells) (c := (a.devs.drop (i + 1)).flatMap Dev.cells) (j := 4) q2 (by simp [Dev.cells])
      have hg5 := get_app (b := a.devs[i].cells) (c := (a.devs.drop (i + 1)).flatMap Dev.cells) (j := 5) q2 (by simp [Dev.cells])
      have hs4 := fun v => set_app (b := a.devs[i].cells) (c := (a.devs.drop (i + 1)).flatMap Dev.cells) (j := 4) (v := v) q2 (by simp [Dev.cells])
      have hs5 := fun u v => set_app (b := a.devs[i].cells.set 4 u) (c := (a.devs.drop (i + 1)).flatMap Dev.cells) (j := 5) (v := v) q2 (by simp [Dev.cells])
      have hlw : ∀ k, k < 6 → i * 6 + k < (vs1 ++ (a.devs[i].cells ++ (a.devs.drop (i + 1)).flatMap Dev.cells)).length := by
        intro k hk
        rw [List.length_append, List.length_append, Dev.cells_len]; omega
      have hlw2 : ∀ u, i * 6 + 5 < (vs1 ++ (a.devs[i].cells.set 4 u ++ (a.devs.drop (i + 1)).flatMap Dev.cells)).length := by
        intro u
        rw [List.length_append, List.length_append, List.length_set, Dev.cells_len]; omega
      generalize hws : vs1 ++ (a.devs[i].cells ++ (a.devs.drop (i + 1)).flatMap Dev.cells) = ws at q1 hg4 hg5 hs4 hlw
      rw [show (a.devs[i].cells)[4]? = some (.isl 2 (flat a.devs[i].regs) a.devs[i].regs.length) from rfl] at hg4
      rw [show (a.devs[i].cells)[5]? = some (row a.devs[i].needs) from rfl, row] at hg5
      have hv2 := ha.vs _ (List.getElem_mem hil)
      simp only [↓Bt, Bu, simprocAttr, ↓C.q38_W, C.q38_B, C.q38, hil', hos, hz, Int.toNat_natCast, q1, hg4, hg5]
      refine (conf_own_api_Reg_spec (flat_length _) hv2.1 (flat_leaf _)).mono ?_
      rintro r4 t4 hP4
      obtain ⟨K4, x4, y4⟩ := hP4.rep (flat_length _) (flat_scalar _)
      simp only [↓Bt, Bu, simprocAttr, ↓C.q38_W, C.q38_B, C.q38, hP4.le _ _ hos, hz, Int.toNat_natCast, hP4.le _ _ q1, hg5]
      refine (conf_own_int_spec (by rw [ints_length, Nat.mul_one]) hv2.2 (ints_leaf _)).mono ?_
      rintro r5 t5 hP5
      obtain ⟨K5, x5, y5⟩ := hP5.rep (by rw [ints_length, Nat.mul_one]) (ints_scalar _)
      have l5 := hP4.le.trans hP5.le
      simp only [↓Bt, Bu, simprocAttr, ↓C.q38_W, C.q38_B, C.q38, l5 _ _ hos, hz, Int.toNat_natCast, l5 _ _ q1, hP4.leaf, hP5.leaf, hlw 4 (by omega), hlw2, hs4, hs5, hw]
      have e2 : ∀ (x y : AObj), ((t5.set i4 x).set i4 y) = t5.set i4 y := fun x y => ASt.ext' fun k => by
        simp only [ASt.set_h]; split
        · cases t5.h k <;> rfl
        · rfl
      rw [e2]
      refine ⟨i + 1, rfl, ⟨hil, q3 t5 _ (K4 ++ K5) l5 ?_ fun j hj => ?_⟩, by omega⟩
      · refine dev_row_rep (x4.le hP5.le) x5 fun j hj hm => ?_
        exact x4.live j hj (y5 j hm)
      · rcases List.mem_append.mp hj with h | h
        · exact y4 j h
        · exact fresh_of_le hP4.le (y5 j h)
  rintro - s7 ⟨L4, r4, u4⟩
  have ho7 : s7.h io = some (.cells [v1, v2, v3, v4]) := u4.1 io hioM4 _ ho6
  have hr7 : s7.h ir = some (.cells [.nils, .nils, .nils, .nils]) := u4.1 ir hirM4 _ hr6
  obtain ⟨r1b, e14⟩ := u4.keep r1 d14
  obtain ⟨r2b, e24⟩ := u4.keep r2a d24
  obtain ⟨r3b, e34⟩ := u4.keep r3a d34
  simp only [↓Bt, Bu, simprocAttr, ↓C.q38_W, C.q38_B, C.q38, ho7, hr7, hlf]
  have g1 : ∀ j ∈ L1, s0.h j = none := fun j hj => by
    rcases u1.2 j hj with h | h
    · exact m1 j h
    · exact fresh_of_le l05 h
  have g4 : ∀ j ∈ L4, s0.h j = none := fun j hj => by
    rcases u4.2 j hj with h | h
    · exact fresh_of_le hO1.le (f4' j h)
    · cases e : s0.h j with
      | none => rfl
      | some o =>
        have hn1 : j ∉ M1 := fun hm => by rw [m1 j hm] at e; cases e
        rw [u1.1 j hn1 _ (l05 _ _ e)] at h; cases h
  have g2 : ∀ j ∈ L2, s0.h j = none := fun j hj => fresh_of_le hO1.le (f2 j hj)
  have g3 : ∀ j ∈ L3, s0.h j = none := fun j hj => fresh_of_le hO1.le (f3' j hj)
  have hall : ∀ j ∈ L1 ++ (L2 ++ (L3 ++ L4)), s0.h j = none := by
    intro j hj
    simp only [List.mem_append] at hj
    rcases hj with h | h | h | h
    · exact g1 j h
    · exact g2 j h
    · exact g3 j h
    · exact g4 j h
  have hirL : ir ∉ L1 ++ (L2 ++ (L3 ++ L4)) := fun hm => by have := hall ir hm; rw [hr0] at this; cases this
  refine ⟨[v1, v2, v3, v4], L1 ++ (L2 ++ (L3 ++ L4)), rfl, ?_, fun j hj => fresh_of_le hle0 (hall j hj), fun j o ho => ?_⟩
  · have hrep := r1b.app (r2b.app (r3b.app r4 e34) fun j hj hm => by
      rcases List.mem_append.mp hm with hm | hm
      · exact d23 j hj hm
      · exact e24 j hj hm) fun j hj hm => by
      rcases List.mem_append.mp hm with hm | hm
      · exact d12 j hm hj
      · rcases List.mem_append.mp hm with hm | hm
        · exact d13 j hm hj
        · exact e14 j hj hm
    refine RepL.off hrep fun j hj => ?_
    rw [ASt.set_h, if_neg (by rintro rfl; exact hirL hj)]
  · have hjr : j ≠ ir := by rintro rfl; rw [hir] at ho; cases ho
    rw [ASt.set_h, if_neg hjr]
    have h0 := hle0 _ _ ho
    refine u4.1 j (fun hm => ?_) _ (u1.1 j (fun hm => ?_) _ (l05 _ _ h0))
    · have := fresh_of_le hO1.le (f4' j hm)
      rw [h0] at this; cases this
    · rw [m1 j hm] at h0; cases h0
theorem copy_frz {st : ASt} {a : Soc} (ha : a.sane) : ACalls Tryz.prog F.q38 [.agg a.cells] st fun r s' => r = .agg a.cells ∧ s' = st :=
  (copy_own ha).ghost fun r s' ⟨vs, L, h1, h2, h3, h4⟩ => ⟨.agg a.cells, st, by rw [h1]; exact h2.ghostAgg.trans (Ghost.sub (h4.killL h3)), rfl, rfl⟩
/- A chip that is made of raw numbers is sane (what Copy needs). -/
set_option maxRecDepth 100000

theorem Soc.like.sane {s : Soc} (h : s.like) : s.sane := by
  have h1 := h.nc; have h2 := h.nd; have h3 := h.nr; have h4 := h.nv
  refine ⟨by omega, by omega, by omega, by omega, fun c hc => ?_, fun d hd => ?_⟩
  · obtain ⟨i, hi, rfl⟩ := List.getElem_of_mem hc
    have := (h.clk i hi).few; omega
  · obtain ⟨i, hi, rfl⟩ := List.getElem_of_mem hd
    have := (h.dev i hi).few
    have := (h.dev i hi).regs; omega
theorem Soc.sane.fine {s : Soc} (h : s.sane) : s.fine := h.cs
/- Clocks: New, Rate. -/
set_option maxRecDepth 100000

def Nd.fresh (c : Clk) : Nd := ⟨c, false, if c.kind = 112 then c.lock else 0, 0, 0, if c.kind = 100 then c.div else 0⟩
def cfresh (l : List Clk) : List Nd := l.map Nd.fresh
theorem cfresh_len (l : List Clk) : (cfresh l).length = l.length := by simp [cfresh]
set_option maxHeartbeats 2000000 in
theorem cnew_spec0 {st : ASt} {S : Soc} (hs : S.sane) (hf : S.fine) (he : confErr S = 0) (hn2 : S.clocks.length ≤ 12) :
    ACalls Tryz.prog F.q17 [.agg S.cells] st fun r s => ∃ s1 q v, r = .tup [.ptr q 0, .int .i64 0] ∧ st.le s1 ∧ s1.h q = none ∧ Over (s1.new q (.cells [v])) s 11 v S.clocks.length ((cfresh S.clocks).flatMap Nd.cells) := by
  refine calls_of_awp L.q17 rfl ?_
  have l4 : S.cells.length = 4 := rfl
  have e4 : AV.agg (List.take 4 S.cells) = .agg S.cells := rfl
  simp only [↓Bt, Bu, simprocAttr, ↓C.bc_w, C.bc_b, C.q17]
  rintro ib hib
  have hle0 := ASt.le.new st ib (.cells S.cells)
  have hb := ASt.new_self (.cells S.cells) hib
  generalize st.new ib (.cells S.cells) = s0 at hle0 hb
  simp only [↓Bt, Bu, simprocAttr, ↓C.q17_W, C.q17_B, C.q17, hb, l4, e4]
  refine (conf_check_spec hf).mono ?_
  rintro r s1 ⟨rfl, rfl⟩
  rw [he]
  simp only [↓Bt, Bu, simprocAttr, ↓C.z105, C.z33, ↓C.bc_w, C.bc_b, C.q17]
  rintro q hq
  have hq1 := ASt.new_self (.cells [.nils]) hq
  have hb2 := ASt.new_old (id := q) (o := .cells [.nils]) hb
  rw [C.bm7_w, awp_keep]
  have hO0 : Over (s1.new q (.cells [.nils])) (s1.new q (.cells [.nils])) 11 .nils 0 [] := Over.nils (ASt.le.refl _) 11
  generalize hs2 : s1.new q (.cells [.nils]) = s2 at hb2 hq1 hO0
  simp only [↓Bt, Bu, simprocAttr, ↓C.q17_W, C.q17_B, C.q17, hb2, l4, e4]
  refine (copy_frz hs).mono ?_
  rintro r s3 ⟨rfl, rfl⟩
  rw [Soc.cells, Soc.clkV]
  simp only [↓Bt, Bu, simprocAttr, ↓C.q17_W, C.q17_B, C.q17]
  refine awp_midB (fun _ : Unit => [(5, .ptr q 0)]) (fun _ t => ∃ v, Over (s1.new q (.cells [v])) t 11 v S.clocks.length ((cfresh S.clocks).flatMap Nd.cells)) ?_ ?_
  · refine awp_loopK (fun i : Nat => [(5, .ptr q 0), (18, .isl 6 (S.clocks.flatMap Clk.cells) S.clocks.length), (19, .int .i64 S.clocks.length), (20, .int .i64 i)]) (fun i t => i ≤ S.clocks.length ∧ ∃ v, Over (s1.new q (.cells [v])) t 11 v i ((cfresh (S.clocks.take i)).flatMap Nd.cells)) (fun i => S.clocks.length - i) 0 rfl ⟨Nat.zero_le _, .nils, by rw [hs2]; exact hO0⟩ ?_
    rintro i t ⟨hi, v, hP⟩
    have hqt := hP.2.1 _ _ (ASt.new_self (.cells [v]) hq)
    by_cases hil : i < S.clocks.length
    rotate_left
    · have hil' : ¬ (i : Int) < (S.clocks.length : Nat) := by omega
      simp only [↓Bt, Bu, simprocAttr, ↓C.q17_W, C.q17_B, C.q17, hil']
      rw [show i = S.clocks.length by omega, List.take_length] at hP
      exact ⟨(), v, hP⟩
    have hil' : (i : Int) < (S.clocks.length : Nat) := by omega
    have hw := wsucc hil (by omega)
    have hz : (0:Int) ≤ (i : Int) ∧ (i : Int) < (S.clocks.length : Nat) := by omega
    have hf6 := flatMap_fits (f := Clk.cells) (k := 6) (fun _ => rfl) hil
    have ht6 := flatMap_at (f := Clk.cells) (k := 6) (fun _ => rfl) hil
    obtain ⟨c, hc⟩ : ∃ c, c = S.clocks[i] := ⟨_, rfl⟩
    rw [← hc] at ht6
    have l6 : c.cells.length = 6 := rfl
    have f6 : allLeaf c.cells = true := rfl
    simp only [↓Bt, Bu, simprocAttr, ↓C.z102, C.z32, ↓C.z105, C.z33, ↓C.bc_w, C.bc_b, C.q17, hil', hz, Int.toNat_natCast, hf6, ht6]
    rintro i7 h7
    simp only [↓Bt, Bu, simprocAttr, ↓C.z102, C.z32, ↓C.z105, C.z33, ↓C.bc_w, C.bc_b, C.q17, h7, l6, f6]
    rw [show putN [AV.int .u8 0, AV.nils, AV.int .u64 0, AV.int .i64 0, AV.int .i64 0, AV.int .i64 0] 0 c.cells = c.cells from putN_all rfl, ASt.new_set h7]
    have h7s := ASt.new_self (.cells c.cells) h7
    have hP1 : Over (s1.new q (.cells [v])) (t.new i7 (.cells c.cells)) 11 v i ((cfresh (S.clocks.take i)).flatMap Nd.cells) := ⟨hP.1.le (ASt.le.new _ _ _), hP.2.1.trans (ASt.le.new _ _ _), hP.2.2⟩
    generalize t.new i7 (.cells c.cells) = t1 at h7s hP1
    rw [Clk.cells] at h7s
    rw [C.bm6_w, awp_keep]
    simp only [↓Bt, Bu, simprocAttr, ↓C.z102, C.z32, ↓C.z104, C.bq_b, ↓C.z105, C.z33, ↓C.bc_w, C.bc_b, C.q17, h7s]
    rintro i8 h8
    have n8 : (Nd.cells ⟨c, false, 0, 0, 0, 0⟩).length = 11 := rfl
    have m8 : allLeaf (Nd.cells ⟨c, false, 0, 0, 0, 0⟩) = true := rfl
    have h87 : i7 ≠ i8 := by rintro rfl; rw [h7s] at h8; cases h8
    simp only [↓Bt, Bu, simprocAttr, ↓C.z102, C.z32, ↓C.z104, C.bq_b, ↓C.z105, C.z33, ↓C.bc_w, C.bc_b, C.q17, h8]
    refine ⟨rfl, ?_⟩
    rw [ASt.new_set h8]
    have hns := fun a b => ASt.new_set h8 a b
    have hOT := fun n : Nd => (⟨hP1.1.le (ASt.le.new t1 i8 (.cells n.cells)), hP1.2.1.trans (ASt.le.new t1 i8 (.cells n.cells)), hP1.2.2⟩ : Over (s1.new q (.cells [v])) (t1.new i8 (.cells n.cells)) 11 v i ((cfresh (S.clocks.take i)).flatMap Nd.cells))
    rw [C.bm8_w, awp_keep]
    by_cases k1 : c.kind = 112
    · have T1 := eq_true k1
      simp only [↓Bt, Bu, simprocAttr, ↓C.z102, C.z32, ↓C.z103, C.z31, ↓C.z104, C.bq_b, ↓C.z105, C.z33, ↓C.bc_w, C.bc_b, C.q17, h7s, h8, hns, T1]
      rw [C.wq_w, awp_keep]
      have hO := hOT (⟨c, false, c.lock, 0, 0, 0⟩ : Nd)
      have hqT := hO.2.1 _ _ (ASt.new_self (.cells [v]) hq)
      have h8s := ASt.new_self (.cells (Nd.cells (⟨c, false, c.lock, 0, 0, 0⟩ : Nd))) h8
      have eN : (⟨c, false, c.lock, 0, 0, 0⟩ : Nd) = Nd.fresh c := by simp [Nd.fresh, k1]
      rw [show (t1.new i8 (.cells [.int .u8 c.kind, row c.src, .int .u64 c.rate, .int .i64 c.mul, .int .i64 c.div, .int .i64 c.lock, .bool false, .int .i64 c.lock, .int .i64 0, .int .i64 0, .int .i64 0])) = t1.new i8 (.cells (Nd.cells (⟨c, false, c.lock, 0, 0, 0⟩ : Nd))) from rfl]
      generalize t1.new i8 (.cells (Nd.cells (⟨c, false, c.lock, 0, 0, 0⟩ : Nd))) = T at hO hqT h8s
      rw [Nd.cells] at h8s
      simp only [↓Bp, Bq, Bs, simprocAttr, ↓C.q17_W, C.q17_B, C.q17, hqT, h8s]
      refine aop_append_over hO (by omega) (new := Nd.cells (⟨c, false, c.lock, 0, 0, 0⟩ : Nd)) (aput_one rfl rfl) rfl rfl (fun _ => rfl) (fun _ => rfl) fun v1 v2 t3 hP2 => ?_
      have hqt3 := hP2.2.1 _ _ (ASt.new_self (.cells [v]) hq)
      simp only [↓Bt, Bu, simprocAttr, ↓C.q17_W, C.q17_B, C.q17, hqt3, hw]
      refine ⟨hP2.1.leaf, i + 1, rfl, ⟨hil, v2, ?_⟩, by omega⟩
      have hne : (s1.new q (.cells [v])).h q ≠ none := by rw [ASt.new_self _ hq]; simp
      have h3 := hP2.rebase (base' := (s1.new q (.cells [v])).set q (.cells [v2])) (st' := t3.set q (.cells [v2])) (keep_set hne) (hP2.2.1.set _ _)
      rw [ASt.new_set hq] at h3
      rw [eN, hc] at h3
      rw [show (cfresh (S.clocks.take (i + 1))).flatMap Nd.cells = (cfresh (S.clocks.take i)).flatMap Nd.cells ++ (Nd.fresh S.clocks[i]).cells by
        rw [List.take_succ_eq_append_getElem hil, cfresh, List.map_append, List.flatMap_append]; simp [cfresh]]
      exact h3
    have T1 := eq_false k1
    by_cases k2 : c.kind = 100
    · have T2 := eq_true k2
      simp only [↓Bt, Bu, simprocAttr, ↓C.z102, C.z32, ↓C.z103, C.z31, ↓C.z104, C.bq_b, ↓C.z105, C.z33, ↓C.bc_w, C.bc_b, C.q17, h7s, h8, hns, T1, T2]
      rw [C.wq_w, awp_keep]
      have hO := hOT (⟨c, false, 0, 0, 0, c.div⟩ : Nd)
      have hqT := hO.2.1 _ _ (ASt.new_self (.cells [v]) hq)
      have h8s := ASt.new_self (.cells (Nd.cells (⟨c, false, 0, 0, 0, c.div⟩ : Nd))) h8
      have eN : (⟨c, false, 0, 0, 0, c.div⟩ : Nd) = Nd.fresh c := by simp [Nd.fresh, k2]
      rw [show (t1.new i8 (.cells [.int .u8 c.kind, row c.src, .int .u64 c.rate, .int .i64 c.mul, .int .i64 c.div, .int .i64 c.lock, .bool false, .int .i64 0, .int .i64 0, .int .i64 0, .int .i64 c.div])) = t1.new i8 (.cells (Nd.cells (⟨c, false, 0, 0, 0, c.div⟩ : Nd))) from rfl]
      generalize t1.new i8 (.cells (Nd.cells (⟨c, false, 0, 0, 0, c.div⟩ : Nd))) = T at hO hqT h8s
      rw [Nd.cells] at h8s
      simp only [↓Bp, Bq, Bs, simprocAttr, ↓C.q17_W, C.q17_B, C.q17, hqT, h8s]
      refine aop_append_over hO (by omega) (new := Nd.cells (⟨c, false, 0, 0, 0, c.div⟩ : Nd)) (aput_one rfl rfl) rfl rfl (fun _ => rfl) (fun _ => rfl) fun v1 v2 t3 hP2 => ?_
      have hqt3 := hP2.2.1 _ _ (ASt.new_self (.cells [v]) hq)
      simp only [↓Bt, Bu, simprocAttr, ↓C.q17_W, C.q17_B, C.q17, hqt3, hw]
      refine ⟨hP2.1.leaf, i + 1, rfl, ⟨hil, v2, ?_⟩, by omega⟩
      have hne : (s1.new q (.cells [v])).h q ≠ none := by rw [ASt.new_self _ hq]; simp
      have h3 := hP2.rebase (base' := (s1.new q (.cells [v])).set q (.cells [v2])) (st' := t3.set q (.cells [v2])) (keep_set hne) (hP2.2.1.set _ _)
      rw [ASt.new_set hq] at h3
      rw [eN, hc] at h3
      rw [show (cfresh (S.clocks.take (i + 1))).flatMap Nd.cells = (cfresh (S.clocks.take i)).flatMap Nd.cells ++ (Nd.fresh S.clocks[i]).cells by
        rw [List.take_succ_eq_append_getElem hil, cfresh, List.map_append, List.flatMap_append]; simp [cfresh]]
      exact h3
    · have T2 := eq_false k2
      simp only [↓Bt, Bu, simprocAttr, ↓C.z102, C.z32, ↓C.z103, C.z31, ↓C.z104, C.bq_b, ↓C.z105, C.z33, ↓C.bc_w, C.bc_b, C.q17, h7s, h8, hns, T1, T2]
      rw [C.wq_w, awp_keep]
      have hO := hOT (⟨c, false, 0, 0, 0, 0⟩ : Nd)
      have hqT := hO.2.1 _ _ (ASt.new_self (.cells [v]) hq)
      have h8s := ASt.new_self (.cells (Nd.cells (⟨c, false, 0, 0, 0, 0⟩ : Nd))) h8
      have eN : (⟨c, false, 0, 0, 0, 0⟩ : Nd) = Nd.fresh c := by simp [Nd.fresh, k1, k2]
      rw [show (t1.new i8 (.cells [.int .u8 c.kind, row c.src, .int .u64 c.rate, .int .i64 c.mul, .int .i64 c.div, .int .i64 c.lock, .bool false, .int .i64 0, .int .i64 0, .int .i64 0, .int .i64 0])) = t1.new i8 (.cells (Nd.cells (⟨c, false, 0, 0, 0, 0⟩ : Nd))) from rfl]
      generalize t1.new i8 (.cells (Nd.cells (⟨c, false, 0, 0, 0, 0⟩ : Nd))) = T at hO hqT h8s
      rw [Nd.cells] at h8s
      simp only [↓Bp, Bq, Bs, simprocAttr, ↓C.q17_W, C.q17_B, C.q17, hqT, h8s]
      refine aop_append_over hO (by omega) (new := Nd.cells (⟨c, false, 0, 0, 0, 0⟩ : Nd)) (aput_one rfl rfl) rfl rfl (fun _ => rfl) (fun _ => rfl) fun v1 v2 t3 hP2 => ?_
      have hqt3 := hP2.2.1 _ _ (ASt.new_self (.cells [v]) hq)
      simp only [↓Bt, Bu, simprocAttr, ↓C.q17_W, C.q17_B, C.q17, hqt3, hw]
      refine ⟨hP2.1.leaf, i + 1, rfl, ⟨hil, v2, ?_⟩, by omega⟩
      have hne : (s1.new q (.cells [v])).h q ≠ none := by rw [ASt.new_self _ hq]; simp
      have h3 := hP2.rebase (base' := (s1.new q (.cells [v])).set q (.cells [v2])) (st' := t3.set q (.cells [v2])) (keep_set hne) (hP2.2.1.set _ _)
      rw [ASt.new_set hq] at h3
      rw [eN, hc] at h3
      rw [show (cfresh (S.clocks.take (i + 1))).flatMap Nd.cells = (cfresh (S.clocks.take i)).flatMap Nd.cells ++ (Nd.fresh S.clocks[i]).cells by
        rw [List.take_succ_eq_append_getElem hil, cfresh, List.map_append, List.flatMap_append]; simp [cfresh]]
      exact h3
  · rintro - t ⟨v, hP⟩
    simp only [↓Bt, Bu, simprocAttr, ↓C.q17_W, C.q17_B, C.q17]
    exact ⟨s1, q, v, rfl, hle0, hq, hP⟩
theorem cnew_spec {st : ASt} {S : Soc} (hs : S.sane) (hf : S.fine) (he : confErr S = 0) (hn : S.clocks.length ≠ 0) (hn2 : S.clocks.length ≤ 12) :
    ACalls Tryz.prog F.q17 [.agg S.cells] st fun r s => ∃ p ig, r = .tup [.ptr p 0, .int .i64 0] ∧ TreeAt s p ig (cfresh S.clocks) ∧ st.h p = none ∧ st.h ig = none ∧ st.le s := by
  refine (cnew_spec0 hs hf he hn2).mono ?_
  rintro r t ⟨s1, q, v, rfl, hle0, hq, hP⟩
  obtain ⟨ig, rfl, hig⟩ := hP.1.blk hn
  have hbs := hP.2.2 _ _ _ _ rfl
  have hbs' := hbs
  rw [ASt.new_none] at hbs'
  refine ⟨q, ig, rfl, ⟨?_, hig, fun e => hbs'.2 e.symm, by rw [cfresh_len]; omega⟩, fresh_of_le hle0 hq, fresh_of_le hle0 hbs'.1, (hle0.trans (ASt.le.new _ _ _)).trans hP.2.1⟩
  rw [cfresh_len]
  exact hP.2.1 _ _ (ASt.new_self _ hq)
/- Clocks: how fast they are. -/
set_option maxRecDepth 100000

section
variable {st : ASt} {p ig : Nat} {ns : List Nd}
end
/- Clocks: a tree that is as it must be stays so; the example. -/
set_option maxRecDepth 100000

theorem NdOk.fresh {i : Nat} {c : Clk} (h : ClkOk i c) : NdOk i (Nd.fresh c) := by
  cases h with
  | osc r h hi => exact ⟨.inl rfl, by simp [Nd.fresh], by simp [Nd.fresh], by simp [Nd.fresh], by simp [Nd.fresh], by simp [Nd.fresh], by simp [Nd.fresh], by simp [Nd.fresh], by simp [Nd.fresh], by simp [Nd.fresh]; omega, by simp [Nd.fresh]⟩
  | pll x m d l hx hm hd hl => exact ⟨.inr (.inl rfl), by simp [Nd.fresh], by simp [Nd.fresh], by simpa [Nd.fresh] using hx, by simp [Nd.fresh], by simp [Nd.fresh], by simp [Nd.fresh]; omega, by simp [Nd.fresh]; omega, by simp [Nd.fresh], by simp [Nd.fresh], by simp [Nd.fresh]; omega⟩
  | div x d hx hd => exact ⟨.inr (.inr (.inl rfl)), by simp [Nd.fresh], by simp [Nd.fresh], by simpa [Nd.fresh] using hx, by simp [Nd.fresh], by simp [Nd.fresh], by simp [Nd.fresh], by simp [Nd.fresh], by simp [Nd.fresh]; omega, by simp [Nd.fresh], by simp [Nd.fresh]⟩
  | gate x hx => exact ⟨.inr (.inr (.inr (.inl rfl))), by simp [Nd.fresh], by simp [Nd.fresh], by simpa [Nd.fresh] using hx, by simp [Nd.fresh], by simp [Nd.fresh], by simp [Nd.fresh], by simp [Nd.fresh], by simp [Nd.fresh], by simp [Nd.fresh], by simp [Nd.fresh]⟩
  | mux x y hx hy => exact ⟨.inr (.inr (.inr (.inr rfl))), by simp [Nd.fresh], by simp [Nd.fresh], by simpa [Nd.fresh] using ⟨hx, hy⟩, by simp [Nd.fresh], by simp [Nd.fresh], by simp [Nd.fresh], by simp [Nd.fresh], by simp [Nd.fresh], by simp [Nd.fresh], by simp [Nd.fresh]⟩
theorem NsOk.fresh {l : List Clk} (h : ∀ i (hi : i < l.length), ClkOk i l[i]) : NsOk (cfresh l) := fun i hi => by
  simp only [cfresh, List.length_map] at hi
  simp only [cfresh, List.getElem_map]
  exact NdOk.fresh (h i hi)
theorem NsOk.set {ns : List Nd} (h : NsOk ns) {i : Nat} (hi : i < ns.length) {n : Nd} (hn : NdOk i n) : NsOk (ns.set i n) := fun j hj => by
  simp only [List.length_set] at hj
  rw [List.getElem_set]
  split
  · rename_i e; subst e; exact hn
  · exact h j hj
theorem NdOk.turn {i : Nat} {n : Nd} (h : NdOk i n) (b : Bool) : NdOk i (n.turn b) := by
  unfold Nd.turn; split
  · exact ⟨h.kind, h.osc, h.few, h.less, h.set, h.want, h.lock, h.lock, h.by_, h.rate, h.fac⟩
  · exact ⟨h.kind, h.osc, h.few, h.less, h.set, h.want, h.left, h.lock, h.by_, h.rate, h.fac⟩
theorem NdOk.tick {i : Nat} {n : Nd} (h : NdOk i n) (R : Nat → Bool) : NdOk i (n.tick R) := by
  unfold Nd.tick
  split
  · split
    · split
      · exact ⟨h.kind, h.osc, h.few, h.less, h.set, h.want, h.lock, h.lock, h.by_, h.rate, h.fac⟩
      · split
        · have := h.left
          exact ⟨h.kind, h.osc, h.few, h.less, h.set, h.want, ⟨by show 0 ≤ n.left - 1; omega, by show n.left - 1 ≤ 20; omega⟩, h.lock, h.by_, h.rate, h.fac⟩
        · exact h
    · exact h
  · split
    · exact ⟨h.kind, h.osc, h.few, h.less, h.want, h.want, h.left, h.lock, h.by_, h.rate, h.fac⟩
    · exact h
theorem NsOk.on {ns : List Nd} (h : NsOk ns) {i : Nat} (hi : i < ns.length) (b : Bool) : NsOk (onL ns i hi b) := by
  unfold onL; split
  · exact h.set hi ((h i hi).turn b)
  · exact h
theorem NsOk.div {ns : List Nd} (h : NsOk ns) {i : Nat} (hi : i < ns.length) (k : Int) : NsOk (divL ns i hi k) := by
  unfold divL; split
  · rename_i e
    have ho := h i hi
    have hc : ns[i].c.kind = 100 ∧ 1 ≤ k ∧ k ≤ 1000 := by
      unfold divE at e; split at e
      · assumption
      · cases e
    exact h.set hi ⟨ho.kind, ho.osc, ho.few, ho.less, ho.set, ho.want, ho.left, ho.lock, fun _ => hc.2, ho.rate, ho.fac⟩
  · exact h
theorem NsOk.tick {ns : List Nd} (h : NsOk ns) : NsOk (ctickL ns) := fun i hi => by
  simp only [ctickL_len] at hi
  simp only [ctickL, List.getElem_map]
  exact (h i hi).tick _
theorem onL_len {ns : List Nd} {i : Nat} (hi : i < ns.length) (b : Bool) : (onL ns i hi b).length = ns.length := by unfold onL; split <;> simp
/- Clocks: the nodes of a description's clocks. -/
set_option maxRecDepth 100000

theorem Nd.turn_c (n : Nd) (b : Bool) : (n.turn b).c = n.c := by unfold Nd.turn; split <;> rfl
theorem Nd.tick_c (n : Nd) (R : Nat → Bool) : (n.tick R).c = n.c := by
  unfold Nd.tick
  split
  · split
    · split
      · rfl
      · split <;> rfl
    · rfl
  · split <;> rfl
structure KOf (C : List Clk) (ns : List Nd) : Prop where
  len : ns.length = C.length
  same : ∀ i (h : i < ns.length) (h' : i < C.length), ns[i].c = C[i]
  ok : NsOk ns
theorem KOf.put {C : List Clk} {ns : List Nd} (h : KOf C ns) {i : Nat} (hi : i < ns.length) {n : Nd} (hc : n.c = ns[i].c) (ho : NsOk (ns.set i n)) : KOf C (ns.set i n) where
  len := by simp [h.len]
  same := fun j hj hj' => by
    simp only [List.length_set] at hj
    rw [List.getElem_set]
    split
    · rename_i e; subst e; rw [hc]; exact h.same _ _ _
    · exact h.same _ _ _
  ok := ho
theorem KOf.on {C : List Clk} {ns : List Nd} (h : KOf C ns) {i : Nat} (hi : i < ns.length) (b : Bool) : KOf C (onL ns i hi b) := by
  have ho := h.ok.on hi b
  unfold onL at ho ⊢; split
  · rename_i e; rw [if_pos e] at ho; exact h.put hi (Nd.turn_c _ _) ho
  · exact h
theorem KOf.div {C : List Clk} {ns : List Nd} (h : KOf C ns) {i : Nat} (hi : i < ns.length) (k : Int) : KOf C (divL ns i hi k) := by
  have ho := h.ok.div hi k
  unfold divL at ho ⊢; split
  · rename_i e; rw [if_pos e] at ho; exact h.put hi rfl ho
  · exact h
theorem KOf.tick {C : List Clk} {ns : List Nd} (h : KOf C ns) : KOf C (ctickL ns) where
  len := by rw [ctickL_len, h.len]
  same := fun i hi hi' => by
    simp only [ctickL_len] at hi
    simp only [ctickL, List.getElem_map]
    rw [Nd.tick_c]; exact h.same _ _ _
  ok := h.ok.tick
theorem KOf.fresh {C : List Clk} (h : ∀ i (hi : i < C.length), ClkOk i C[i]) : KOf C (cfresh C) where
  len := cfresh_len C
  same := fun i hi hi' => by simp [cfresh, Nd.fresh]
  ok := NsOk.fresh h
/- Clocks: ClockLocks, how long a chain takes to lock. -/
set_option maxRecDepth 100000
set_option linter.unusedSectionVars false

def lfOf (ns : List Nd) (x : Nat) : Int := if h : x < ns.length then ns[x].left else 0
theorem lfOf_at {ns : List Nd} {x : Nat} (h : x < ns.length) : lfOf ns x = ns[x].left := by rw [lfOf, dif_pos h]
def pot (ns : List Nd) (x : Nat) : Int := ((chainN ns x).map (lfOf ns)).sum
theorem pot_eq {ns : List Nd} (hN : NsOk ns) {x : Nat} (hx : x < ns.length) : pot ns x = if ns[x].c.kind = 111 then ns[x].left else pot ns ns[x].source.toNat + ns[x].left := by
  rw [pot, chainN_eq hN hx]
  by_cases hk : ns[x].c.kind = 111
  · rw [if_pos hk, if_pos hk]; simp [lfOf_at hx]
  · rw [if_neg hk, if_neg hk, List.map_append, List.sum_append, pot]; simp [lfOf_at hx]
inductive Lks (ns : List Nd) : Nat → Prop
  | osc (x : Nat) (h : x < ns.length) (k : ns[x].c.kind = 111) (z : ns[x].left = 0) : Lks ns x
  | up (x y : Nat) (h : x < ns.length) (k : ns[x].c.kind ≠ 111) (s : ns[x].source = (y : Int)) (t : Lks ns y) (on : ns[x].c.kind = 112 ∨ ns[x].c.kind = 103 → ns[x].on = true) (l : ns[x].c.kind = 112 → run ns y = false → ns[x].left = ns[x].c.lock)
      (z : ns[x].c.kind ≠ 112 → ns[x].left = 0) (w : ns[x].want = ns[x].set) : Lks ns x
theorem Lks.alive {ns : List Nd} (hN : NsOk ns) {x : Nat} (h : Lks ns x) : 0 ≤ pot ns x ∧ (run ns x = true ↔ pot ns x = 0) := by
  induction h with
  | osc x h k z =>
    rw [pot_eq hN h, if_pos k, z, run_eq hN h, if_pos k]
    simp
  | up x y h k s t on l z w ih =>
    rw [pot_eq hN h, if_neg k, run_eq hN h, if_neg k, s, Int.toNat_natCast]
    have hl := (hN x h).left
    refine ⟨by omega, ?_⟩
    rw [Bool.and_eq_true, ih.2]
    have ho : ns[x].own = true ↔ ns[x].left = 0 := by
      unfold Nd.own
      by_cases k2 : ns[x].c.kind = 112
      · rw [if_pos k2, on (.inl k2)]; simp
      · rw [if_neg k2]
        by_cases k3 : ns[x].c.kind = 103
        · rw [if_pos k3, on (.inr k3)]; simp [z k2]
        · rw [if_neg k3]; simp [z k2]
    rw [ho]; omega
theorem tick_source {R : Nat → Bool} {n : Nd} (w : n.want = n.set) : (n.tick R).source = n.source ∧ (n.tick R).want = n.want ∧ (n.tick R).set = n.set ∧ (n.tick R).on = n.on := by
  unfold Nd.tick
  split
  · split
    · split
      · exact ⟨rfl, rfl, rfl, rfl⟩
      · split <;> exact ⟨rfl, rfl, rfl, rfl⟩
    · exact ⟨rfl, rfl, rfl, rfl⟩
  · rw [if_neg (fun e => e.2.1 w)]; exact ⟨rfl, rfl, rfl, rfl⟩
theorem Lks.after {ns : List Nd} (hN : NsOk ns) {x : Nat} (h : Lks ns x) : Lks (ctickL ns) x ∧ pot (ctickL ns) x = (if pot ns x = 0 then 0 else pot ns x - 1) := by
  have hN' := hN.tick
  have hl : (ctickL ns).length = ns.length := ctickL_len ns
  induction h with
  | osc x h k z =>
    have h' : x < (ctickL ns).length := by omega
    have e : (ctickL ns)[x] = ns[x] := by
      simp only [ctickL, List.getElem_map]
      unfold Nd.tick
      rw [if_neg (by rw [k]; decide), if_neg (by rw [k]; simp)]
    refine ⟨.osc x h' (by rw [e]; exact k) (by rw [e]; exact z), ?_⟩
    rw [pot_eq hN' h', e, if_pos k, z, pot_eq hN h, if_pos k, z]; rfl
  | up x y h k s t on l z w ih =>
    have h' : x < (ctickL ns).length := by omega
    have e : (ctickL ns)[x] = ns[x].tick (run ns) := by simp only [ctickL, List.getElem_map]
    obtain ⟨e1, e2, e3, e4⟩ := tick_source (R := run ns) w
    have ec := Nd.tick_c ns[x] (run ns)
    obtain ⟨i1, i2⟩ := ih
    have hy := t.alive hN
    have hy' := i1.alive hN'
    have hlf := (hN x h).left
    have px : pot ns x = pot ns y + ns[x].left := by rw [pot_eq hN h, if_neg k, s, Int.toNat_natCast]
    have px' : pot (ctickL ns) x = pot (ctickL ns) y + (ns[x].tick (run ns)).left := by
      rw [pot_eq hN' h', if_neg (by rw [e, ec]; exact k), e, e1, s, Int.toNat_natCast]
    have key : (ns[x].tick (run ns)).left = (if pot ns y = 0 ∧ ns[x].left ≠ 0 then ns[x].left - 1 else ns[x].left) ∧ (ns[x].c.kind = 112 → run (ctickL ns) y = false → (ns[x].tick (run ns)).left = ns[x].c.lock) := by
      unfold Nd.tick
      by_cases k2 : ns[x].c.kind = 112
      · rw [if_pos k2, if_pos (on (.inl k2)), s, Int.toNat_natCast]
        by_cases hr : run ns y = false
        · rw [if_pos hr]
          have hne : ¬ pot ns y = 0 := fun e0 => by rw [hy.2.mpr e0] at hr; cases hr
          exact ⟨by rw [if_neg (fun e0 => hne e0.1)]; exact (l k2 hr).symm, fun _ _ => rfl⟩
        · have hr' : run ns y = true := by simpa using hr
          have h0 := hy.2.mp hr'
          have hq : run (ctickL ns) y = true := hy'.2.mpr (by rw [i2, if_pos h0])
          rw [if_neg hr]
          refine ⟨?_, fun _ e0 => by rw [hq] at e0; cases e0⟩
          by_cases h1 : 0 < ns[x].left
          · rw [if_pos h1, if_pos ⟨h0, by omega⟩]
          · rw [if_neg h1, if_neg (fun e0 => by have := e0.2; omega)]
      · rw [if_neg k2, if_neg (fun e0 => e0.2.1 w)]
        exact ⟨by rw [if_neg (fun e0 => e0.2 (z k2))], fun e0 => absurd e0 k2⟩
    refine ⟨.up x y h' (by rw [e, ec]; exact k) (by rw [e, e1]; exact s) i1 (by rw [e, ec, e4]; exact on) (by rw [e, ec]; exact key.2) (fun e0 => ?_) (by rw [e, e2, e3]; exact w), ?_⟩
    · rw [e, ec] at e0
      rw [e, key.1, z e0]; simp
    · rw [px', px, i2, key.1]
      by_cases h0 : pot ns y = 0
      · rw [if_pos h0, h0]
        by_cases h1 : ns[x].left = 0
        · rw [if_neg (fun e0 => e0.2 h1), h1]; rfl
        · rw [if_pos ⟨rfl, h1⟩, if_neg (by omega)]; omega
      · rw [if_neg h0, if_neg (fun e0 => h0 e0.1), if_neg (by omega)]; omega
theorem chainN_lt {ns : List Nd} (hN : NsOk ns) : ∀ x : Nat, x < ns.length → ∀ y ∈ chainN ns x, y < ns.length := by
  intro x
  induction x using Nat.strongRecOn with
  | _ x ih =>
  intro hx y hy
  rw [chainN_eq hN hx] at hy
  by_cases hk : ns[x].c.kind = 111
  · rw [if_pos hk, List.mem_singleton] at hy; omega
  · obtain ⟨z, e1, e2, _⟩ := (hN x hx).low hk
    rw [if_neg hk, e1, Int.toNat_natCast, List.mem_append, List.mem_singleton] at hy
    rcases hy with hy | rfl
    · exact ih z e2 (by omega) y hy
    · exact hx
def Nd.lit (n : Nd) : Nd := if onE n = 0 then { n with on := true } else n
theorem Nd.lit_c (n : Nd) : n.lit.c = n.c ∧ n.lit.left = n.left ∧ n.lit.source = n.source ∧ n.lit.want = n.want ∧ n.lit.set = n.set := by unfold Nd.lit; split <;> exact ⟨rfl, rfl, rfl, rfl, rfl⟩
theorem Nd.turn_lit {n : Nd} (h : onE n = 0) : n.turn true = n.lit := by rw [Nd.turn, if_neg (by simp), Nd.lit, if_pos h]
theorem onE_c {n m : Nd} (h : n.c = m.c) : onE n = onE m := by unfold onE; rw [h]
theorem Nd.lit_lit (n : Nd) : n.lit.lit = n.lit := by
  have e : onE n.lit = onE n := onE_c n.lit_c.1
  rw [Nd.lit, e]
  by_cases h : onE n = 0
  · rw [if_pos h, Nd.lit, if_pos h]
  · rw [if_neg h]
structure LitOf (ns0 ns : List Nd) (c : List Nat) : Prop where
  len : ns.length = ns0.length
  at_ : ∀ x (h : x < ns.length) (h' : x < ns0.length), ns[x] = if x ∈ c then ns0[x].lit else ns0[x]
theorem LitOf.start (ns : List Nd) : LitOf ns ns [] := ⟨rfl, fun x h h' => by rw [if_neg List.not_mem_nil]⟩
theorem LitOf.more {ns0 ns : List Nd} {c : List Nat} {k : Nat} (h : LitOf ns0 ns c) (hk : k < ns.length) : LitOf ns0 (onL ns k hk true) (c ++ [k]) where
  len := by rw [onL_len, h.len]
  at_ := fun x hx hx' => by
    have hx0 : x < ns.length := by rw [onL_len] at hx; exact hx
    have hk0 : k < ns0.length := by rw [← h.len]; exact hk
    have hb := h.at_ x hx0 hx'
    have hbk := h.at_ k hk hk0
    have ec : onE ns[k] = onE ns0[k] := onE_c (by rw [hbk]; split; exact ns0[k].lit_c.1; rfl)
    have hm : (x ∈ c ++ [k]) ↔ x ∈ c ∨ x = k := by rw [List.mem_append, List.mem_singleton]
    by_cases e : x = k
    · subst e
      rw [if_pos (hm.mpr (.inr rfl))]
      unfold onL
      by_cases h0 : onE ns[x] = 0
      · simp only [if_pos h0]
        rw [List.getElem_set_self, Nd.turn_lit h0, hb]
        split
        · exact Nd.lit_lit _
        · rfl
      · simp only [if_neg h0]
        rw [hb]
        have h1 : ¬ onE ns0[x] = 0 := by rw [← ec]; exact h0
        split
        · rfl
        · rw [Nd.lit, if_neg h1]
    · have hm2 : (x ∈ c ++ [k]) ↔ x ∈ c := by rw [hm]; simp [e]
      have : (onL ns k hk true)[x] = ns[x] := by
        unfold onL
        by_cases h0 : onE ns[k] = 0
        · simp only [if_pos h0]; rw [List.getElem_set_ne (Ne.symm e)]
        · simp only [if_neg h0]
      rw [this, hb]; simp only [hm2]
theorem LitOf.same {ns0 ns : List Nd} {c : List Nat} (h : LitOf ns0 ns c) {x : Nat} (hx : x < ns.length) (hx' : x < ns0.length) : ns[x].c = ns0[x].c ∧ ns[x].left = ns0[x].left ∧ ns[x].source = ns0[x].source ∧ ns[x].want = ns0[x].want ∧ ns[x].set = ns0[x].set := by
  rw [h.at_ x hx hx']
  split
  · exact ns0[x].lit_c
  · exact ⟨rfl, rfl, rfl, rfl, rfl⟩
theorem LitOf.pot {ns0 ns : List Nd} {c : List Nat} (h : LitOf ns0 ns c) (h0 : NsOk ns0) (h1 : NsOk ns) : ∀ x : Nat, x < ns.length → pot ns x = pot ns0 x := by
  intro x
  induction x using Nat.strongRecOn with
  | _ x ih =>
  intro hx
  have hx0 : x < ns0.length := by rw [← h.len]; exact hx
  obtain ⟨a, b, d, _, _⟩ := h.same hx hx0
  rw [pot_eq h1 hx, pot_eq h0 hx0, a, b, d]
  by_cases hk : ns0[x].c.kind = 111
  · rw [if_pos hk, if_pos hk]
  · obtain ⟨z, e1, e2, _⟩ := (h0 x hx0).low hk
    rw [if_neg hk, if_neg hk, e1, Int.toNat_natCast, ih z e2 (by omega)]
theorem LitOf.lks {C : List Clk} {ns : List Nd} {c : List Nat} (hC : ∀ i (hi : i < C.length), ClkOk i C[i]) (h : LitOf (cfresh C) ns c) (h1 : NsOk ns) : ∀ x : Nat, x < ns.length → (∀ y ∈ chainN (cfresh C) x, y ∈ c) → Lks ns x := by
  have h0 := NsOk.fresh hC
  intro x
  induction x using Nat.strongRecOn with
  | _ x ih =>
  intro hx hm
  have hx0 : x < (cfresh C).length := by rw [← h.len]; exact hx
  have hxC : x < C.length := by rw [cfresh_len] at hx0; exact hx0
  obtain ⟨a, b, d, w1, w2⟩ := h.same hx hx0
  have hf : (cfresh C)[x] = Nd.fresh C[x] := by simp [cfresh]
  have hfl : (Nd.fresh C[x]).left = if C[x].kind = 112 then C[x].lock else 0 := rfl
  have hfc : (Nd.fresh C[x]).c = C[x] := rfl
  rw [hf] at a b d w1 w2
  rw [hfc] at a
  rw [hfl] at b
  have hxc : x ∈ c := by
    refine hm x ?_
    rw [chainN_eq h0 hx0]; split <;> simp
  have hat := h.at_ x hx hx0
  rw [if_pos hxc, hf] at hat
  by_cases hk : C[x].kind = 111
  · exact .osc x hx (by rw [a]; exact hk) (by rw [b, if_neg (by rw [hk]; decide)])
  · have hk' : (cfresh C)[x].c.kind ≠ 111 := by rw [hf, hfc]; exact hk
    obtain ⟨z, e1, e2, _⟩ := (h0 x hx0).low hk'
    rw [hf] at e1
    have hz : ∀ y ∈ chainN (cfresh C) z, y ∈ c := fun y hy => hm y (by
      rw [chainN_eq h0 hx0, if_neg hk', hf, e1, Int.toNat_natCast, List.mem_append]; exact .inl hy)
    refine .up x z hx (by rw [a]; exact hk) (by rw [d, e1]) (ih z e2 (by omega) hz) (fun e => ?_) (fun e _ => ?_) (fun e => ?_) (by rw [w1, w2]; rfl)
    · rw [hat, Nd.lit, if_pos]
      rw [a] at e
      unfold onE; rw [if_pos (by rw [hfc]; exact e)]
    · rw [a] at e
      rw [b, if_pos e, a]
    · rw [a] at e
      rw [b, if_neg e]
/- The chip: clocks that are switched on. -/
set_option maxRecDepth 100000

structure NdW (n : Nd) : Prop where
  want : n.want = n.set
  rest : n.c.kind ≠ 112 → n.left = 0
  off : n.c.kind = 112 → n.on = false → n.left = n.c.lock
def NW (ns : List Nd) : Prop := ∀ x (h : x < ns.length), NdW ns[x]
structure NI (ns : List Nd) : Prop where
  w : NW ns
  lk : ∀ x (h : x < ns.length), ns[x].c.kind = 112 → ns[x].on = true → run ns ns[x].source.toNat = false → ns[x].left = ns[x].c.lock
theorem NI.fresh {C : List Clk} (hC : ∀ i (hi : i < C.length), ClkOk i C[i]) : NI (cfresh C) := by
  have e : ∀ x (h : x < (cfresh C).length), (cfresh C)[x] = Nd.fresh (C[x]'(by rw [cfresh_len] at h; exact h)) := fun x h => by simp [cfresh]
  refine ⟨fun x h => ?_, fun x h hk ho => ?_⟩
  · rw [e x h]
    refine ⟨rfl, fun hk => ?_, fun hk _ => ?_⟩
    · exact if_neg hk
    · exact if_pos hk
  · rw [e x h] at ho
    cases ho
theorem run_tick {ns : List Nd} (hN : NsOk ns) (hW : NW ns) : ∀ x : Nat, x < ns.length → run ns x = true → run (ctickL ns) x = true := by
  intro x
  induction x using Nat.strongRecOn with
  | _ x ih =>
  intro hx hr
  have hx' : x < (ctickL ns).length := by rw [ctickL_len]; exact hx
  have e : (ctickL ns)[x] = ns[x].tick (run ns) := by simp only [ctickL, List.getElem_map]
  obtain ⟨e1, e2, e3, e4⟩ := tick_source (R := run ns) (hW x hx).want
  have ec := Nd.tick_c ns[x] (run ns)
  rw [run_eq hN.tick hx', e, ec]
  by_cases hk : ns[x].c.kind = 111
  · rw [if_pos hk]
  · obtain ⟨z, s1, s2, _⟩ := (hN x hx).low hk
    rw [run_eq hN hx, if_neg hk, s1, Int.toNat_natCast, Bool.and_eq_true] at hr
    rw [if_neg hk, e1, s1, Int.toNat_natCast, Bool.and_eq_true]
    refine ⟨?_, ih z s2 (by omega) hr.2⟩
    have ho := hr.1
    unfold Nd.own at ho ⊢
    rw [ec, e4]
    by_cases k2 : ns[x].c.kind = 112
    · rw [if_pos k2] at ho ⊢
      rw [Bool.and_eq_true, decide_eq_true_eq] at ho ⊢
      refine ⟨ho.1, ?_⟩
      unfold Nd.tick
      rw [if_pos k2, if_pos ho.1, s1, Int.toNat_natCast, if_neg (by rw [hr.2]; simp), if_neg (by omega)]
      exact ho.2
    · rw [if_neg k2] at ho ⊢; exact ho
theorem NI.tick {ns : List Nd} (hN : NsOk ns) (hW : NW ns) : NI (ctickL ns) := by
  have e : ∀ x (h : x < (ctickL ns).length), (ctickL ns)[x] = (ns[x]'(by rw [ctickL_len] at h; exact h)).tick (run ns) := fun x h => by simp only [ctickL, List.getElem_map]
  refine ⟨fun x h => ?_, fun x h hk ho hr => ?_⟩
  · have hx : x < ns.length := by rw [ctickL_len] at h; exact h
    obtain ⟨e1, e2, e3, e4⟩ := tick_source (R := run ns) (hW x hx).want
    have ec := Nd.tick_c ns[x] (run ns)
    rw [e x h]
    refine ⟨by rw [e2, e3]; exact (hW x hx).want, fun hk => ?_, fun hk ho => ?_⟩
    · rw [ec] at hk
      unfold Nd.tick
      rw [if_neg hk, if_neg (fun e0 => e0.2.1 (hW x hx).want)]
      exact (hW x hx).rest hk
    · rw [ec] at hk ⊢
      rw [e4] at ho
      unfold Nd.tick
      rw [if_pos hk, if_neg (by rw [ho]; simp)]
      exact (hW x hx).off hk ho
  · have hx : x < ns.length := by rw [ctickL_len] at h; exact h
    obtain ⟨e1, e2, e3, e4⟩ := tick_source (R := run ns) (hW x hx).want
    have ec := Nd.tick_c ns[x] (run ns)
    rw [e x h] at hk ho hr ⊢
    rw [ec] at hk ⊢
    rw [e4] at ho
    rw [e1] at hr
    obtain ⟨z, s1, s2, _⟩ := (hN x hx).low (by rw [hk]; decide)
    rw [s1, Int.toNat_natCast] at hr
    have hz : run ns z = false := by
      cases h0 : run ns z with
      | false => rfl
      | true => rw [run_tick hN hW z (by omega) h0] at hr; cases hr
    unfold Nd.tick
    rw [if_pos hk, if_pos ho, s1, Int.toNat_natCast, if_pos hz]
theorem turn_same (n : Nd) : (n.turn true).left = n.left ∧ (n.turn true).source = n.source ∧ (n.turn true).want = n.want ∧ (n.turn true).set = n.set ∧ (n.turn true).on = true := by
  unfold Nd.turn; rw [if_neg (by simp)]; exact ⟨rfl, rfl, rfl, rfl, rfl⟩
theorem onL_at {ns : List Nd} {k : Nat} (hk : k < ns.length) (b : Bool) {x : Nat} (hx : x < ns.length) (h : x < (onL ns k hk b).length) :
    (onL ns k hk b)[x] = if x = k ∧ onE ns[k] = 0 then ns[k].turn b else ns[x] := by
  by_cases h0 : onE ns[k] = 0
  · have e : onL ns k hk b = ns.set k (ns[k].turn b) := by unfold onL; rw [if_pos h0]
    simp only [e, List.getElem_set]
    by_cases e : k = x
    · subst e; simp [h0]
    · have : ¬ x = k := fun q => e q.symm
      simp [e, this]
  · have e : onL ns k hk b = ns := by unfold onL; rw [if_neg h0]
    simp [e, h0]
theorem run_on {ns : List Nd} (hN : NsOk ns) {k : Nat} (hk : k < ns.length) : ∀ x : Nat, x < ns.length → run ns x = true → run (onL ns k hk true) x = true := by
  intro x
  induction x using Nat.strongRecOn with
  | _ x ih =>
  intro hx hr
  have hx' : x < (onL ns k hk true).length := by rw [onL_len]; exact hx
  have e := onL_at hk true hx hx'
  rw [run_eq (hN.on hk true) hx', e]
  by_cases hq : x = k ∧ onE ns[k] = 0
  · obtain ⟨rfl, h0⟩ := hq
    rw [if_pos (show x = x ∧ onE ns[x] = 0 from ⟨rfl, h0⟩)]
    obtain ⟨t1, t2, t3, t4, t5⟩ := turn_same ns[x]
    have tc := Nd.turn_c ns[x] true
    rw [tc, t2]
    by_cases k1 : ns[x].c.kind = 111
    · rw [if_pos k1]
    · obtain ⟨z, s1, s2, _⟩ := (hN x hx).low k1
      rw [run_eq hN hx, if_neg k1, s1, Int.toNat_natCast, Bool.and_eq_true] at hr
      rw [if_neg k1, s1, Int.toNat_natCast, Bool.and_eq_true]
      refine ⟨?_, ih z s2 (by omega) hr.2⟩
      have ho := hr.1
      unfold Nd.own at ho ⊢
      rw [tc, t1, t5]
      by_cases k2 : ns[x].c.kind = 112
      · rw [if_pos k2, Bool.and_eq_true] at ho
        rw [if_pos k2, Bool.and_eq_true]; exact ⟨rfl, ho.2⟩
      · rw [if_neg k2]; split <;> rfl
  · rw [if_neg hq]
    by_cases k1 : ns[x].c.kind = 111
    · rw [if_pos k1]
    · obtain ⟨z, s1, s2, _⟩ := (hN x hx).low k1
      rw [run_eq hN hx, if_neg k1, s1, Int.toNat_natCast, Bool.and_eq_true] at hr
      rw [if_neg k1, s1, Int.toNat_natCast, Bool.and_eq_true]
      exact ⟨hr.1, ih z s2 (by omega) hr.2⟩
theorem NI.on {ns : List Nd} (hN : NsOk ns) (h : NI ns) {k : Nat} (hk : k < ns.length) : NI (onL ns k hk true) := by
  refine ⟨fun x hx => ?_, fun x hx hkd ho hr => ?_⟩
  · have hx0 : x < ns.length := by rw [onL_len] at hx; exact hx
    rw [onL_at hk true hx0 hx]
    split
    · obtain ⟨t1, t2, t3, t4, t5⟩ := turn_same ns[k]
      have tc := Nd.turn_c ns[k] true
      refine ⟨by rw [t3, t4]; exact (h.w k hk).want, fun q => ?_, fun q o => ?_⟩
      · rw [tc] at q; rw [t1]; exact (h.w k hk).rest q
      · rw [t5] at o; cases o
    · exact h.w x hx0
  · have hx0 : x < ns.length := by rw [onL_len] at hx; exact hx
    have e := onL_at hk true hx0 hx
    rw [e] at hkd ho hr ⊢
    by_cases hq : x = k ∧ onE ns[k] = 0
    · rw [if_pos hq] at hkd ho hr ⊢
      obtain ⟨rfl, h0⟩ := hq
      obtain ⟨t1, t2, t3, t4, t5⟩ := turn_same ns[x]
      have tc := Nd.turn_c ns[x] true
      rw [tc] at hkd ⊢
      rw [t2] at hr
      rw [t1]
      cases ho2 : ns[x].on with
      | false => exact (h.w x hx0).off hkd ho2
      | true =>
        refine h.lk x hx0 hkd ho2 ?_
        obtain ⟨z, s1, s2, _⟩ := (hN x hx0).low (by rw [hkd]; decide)
        rw [s1, Int.toNat_natCast] at hr ⊢
        cases h0 : run ns z with
        | false => rfl
        | true => rw [run_on hN hk z (by omega) h0] at hr; cases hr
    · rw [if_neg hq] at hkd ho hr ⊢
      refine h.lk x hx0 hkd ho ?_
      obtain ⟨z, s1, s2, _⟩ := (hN x hx0).low (by rw [hkd]; decide)
      rw [s1, Int.toNat_natCast] at hr ⊢
      cases h0 : run ns z with
      | false => rfl
      | true => rw [run_on hN hk z (by omega) h0] at hr; cases hr
theorem NW.off {ns : List Nd} (h : NW ns) {k : Nat} (hk : k < ns.length) : NW (onL ns k hk false) := fun x hx => by
  have hx0 : x < ns.length := by rw [onL_len] at hx; exact hx
  rw [onL_at hk false hx0 hx]
  split
  · have w := h k hk
    unfold Nd.turn
    by_cases k2 : ns[k].c.kind = 112
    · rw [if_pos ⟨k2, rfl⟩]
      exact ⟨w.want, fun q => absurd k2 q, fun _ _ => rfl⟩
    · rw [if_neg (fun q => k2 q.1)]
      exact ⟨w.want, w.rest, fun q => absurd q k2⟩
  · exact h x hx0
theorem NI.lks {ns : List Nd} (hN : NsOk ns) (h : NI ns) : ∀ x : Nat, x < ns.length → (∀ y ∈ chainN ns x, ∀ hy : y < ns.length, ns[y].c.kind = 112 ∨ ns[y].c.kind = 103 → ns[y].on = true) → Lks ns x := by
  intro x
  induction x using Nat.strongRecOn with
  | _ x ih =>
  intro hx hon
  have hin : x ∈ chainN ns x := by rw [chainN_eq hN hx]; split <;> simp
  by_cases hk : ns[x].c.kind = 111
  · exact .osc x hx hk ((h.w x hx).rest (by rw [hk]; decide))
  · obtain ⟨z, s1, s2, _⟩ := (hN x hx).low hk
    have hz : ∀ y ∈ chainN ns z, y ∈ chainN ns x := fun y hy => by
      rw [chainN_eq hN hx, if_neg hk, s1, Int.toNat_natCast]; exact List.mem_append_left _ hy
    refine .up x z hx hk s1 (ih z s2 (by omega) fun y hy => hon y (hz y hy)) (hon x hin hx) (fun k2 hr => ?_) (h.w x hx).rest (h.w x hx).want
    exact h.lk x hx k2 (hon x hin hx (.inl k2)) (by rw [s1, Int.toNat_natCast]; exact hr)
theorem chain_same {ns ns' : List Nd} (hN : NsOk ns) (hN' : NsOk ns') (hl : ns'.length = ns.length) (hs : ∀ x (h : x < ns.length) (h' : x < ns'.length), ns'[x].c = ns[x].c ∧ ns'[x].source = ns[x].source) : ∀ x : Nat, x < ns.length → chainN ns' x = chainN ns x := by
  intro x
  induction x using Nat.strongRecOn with
  | _ x ih =>
  intro hx
  have hx' : x < ns'.length := by omega
  obtain ⟨h1, h2⟩ := hs x hx hx'
  rw [chainN_eq hN hx, chainN_eq hN' hx', h1, h2]
  by_cases hk : ns[x].c.kind = 111
  · rw [if_pos hk, if_pos hk]
  · obtain ⟨z, s1, s2, _⟩ := (hN x hx).low hk
    rw [if_neg hk, if_neg hk, s1, Int.toNat_natCast, ih z s2 (by omega)]
theorem LitOf.chain {ns0 ns : List Nd} {c : List Nat} (h : LitOf ns0 ns c) (h0 : NsOk ns0) (h1 : NsOk ns) {x : Nat} (hx : x < ns0.length) : chainN ns x = chainN ns0 x :=
  chain_same h0 h1 h.len (fun y hy hy' => ⟨(h.same hy' hy).1, (h.same hy' hy).2.2.1⟩) x hx
theorem LitOf.on {ns0 ns : List Nd} {c : List Nat} (h : LitOf ns0 ns c) {y : Nat} (hy : y < ns.length) (hc : y ∈ c) (hk : ns[y].c.kind = 112 ∨ ns[y].c.kind = 103) : ns[y].on = true := by
  have hy0 : y < ns0.length := by rw [← h.len]; exact hy
  have e := h.at_ y hy hy0
  rw [if_pos hc] at e
  have ec := (h.same hy hy0).1
  rw [ec] at hk
  rw [e, Nd.lit, if_pos (by unfold onE; rw [if_pos hk])]
theorem pot_le {ns : List Nd} (hN : NsOk ns) : ∀ x : Nat, x < ns.length → pot ns x ≤ 20 * ((x : Int) + 1) := by
  intro x
  induction x using Nat.strongRecOn with
  | _ x ih =>
  intro hx
  have hl := (hN x hx).left
  rw [pot_eq hN hx]
  by_cases hk : ns[x].c.kind = 111
  · rw [if_pos hk]; omega
  · obtain ⟨z, s1, s2, _⟩ := (hN x hx).low hk
    have := ih z s2 (by omega)
    rw [if_neg hk, s1, Int.toNat_natCast]; omega
/- Power: what stays true of a grid. -/
set_option maxRecDepth 100000

structure GInv (D : List Dom) (gs : List Gd) : Prop where
  len : gs.length = D.length
  same : ∀ i (h : i < gs.length) (h' : i < D.length), gs[i].above = D[i].above ∧ gs[i].delay = D[i].delay ∧ gs[i].ret = D[i].ret
  dom : ∀ i (h : i < D.length), DomOk i D[i]
  left : ∀ g ∈ gs, 0 ≤ g.left ∧ g.left ≤ 20
theorem GInv.lesser {D : List Dom} {gs : List Gd} (h : GInv D gs) : Lesser gs := fun i hi => by
  have hD : i < D.length := by rw [← h.len]; exact hi
  have := h.same i hi hD
  have := (h.dom i hD).up
  omega
theorem GInv.above {D : List Dom} {gs : List Gd} (h : GInv D gs) : ∀ g ∈ gs, g.above = -1 ∨ (0 ≤ g.above ∧ g.above < (gs.length : Int)) := fun g hg => by
  obtain ⟨i, hi, rfl⟩ := List.getElem_of_mem hg
  have := h.lesser i hi
  omega
theorem GInv.low {D : List Dom} {gs : List Gd} (h : GInv D gs) : ∀ g ∈ gs, g.left ≤ 1000 := fun g hg => by have := h.left g hg; omega
theorem GInv.put {D : List Dom} {gs : List Gd} (h : GInv D gs) {i : Nat} (hi : i < gs.length) {g : Gd} (h1 : g.above = gs[i].above) (h2 : g.delay = gs[i].delay) (h3 : g.ret = gs[i].ret) (h4 : 0 ≤ g.left ∧ g.left ≤ 20) : GInv D (gs.set i g) where
  len := by simp [h.len]
  same := fun j hj hj' => by
    simp only [List.length_set] at hj
    rw [List.getElem_set]
    split
    · rename_i e; subst e
      rw [h1, h2, h3]; exact h.same _ _ _
    · exact h.same _ _ _
  dom := h.dom
  left := fun y hy => by
    rcases List.mem_or_eq_of_mem_set hy with h5 | rfl
    · exact h.left y h5
    · exact h4
theorem GInv.fresh {D : List Dom} (h : ∀ i (h : i < D.length), DomOk i D[i]) : GInv D (gfresh D) where
  len := gfresh_len D
  same := fun i hi hi' => by simp [gfresh]
  dom := h
  left := fun g hg => by
    obtain ⟨d, _, rfl⟩ := List.mem_map.mp hg
    exact ⟨Int.le_refl 0, by show (0 : Int) ≤ 20; omega⟩
theorem GInv.up {D : List Dom} {gs : List Gd} (h : GInv D gs) {i : Nat} (hi : i < gs.length) : GInv D (upG gs i hi) := by
  unfold upG
  split
  · exact h
  · have hD : i < D.length := by rw [← h.len]; exact hi
    have e := h.same i hi hD
    have := (h.dom i hD).delay
    exact h.put hi rfl rfl rfl (by show 0 ≤ gs[i].delay ∧ gs[i].delay ≤ 20; omega)
theorem GInv.down {D : List Dom} {gs : List Gd} (h : GInv D gs) {i : Nat} (hi : i < gs.length) (k : Bool) : GInv D (downG gs i hi k) := by
  unfold downG
  split
  · have hlf := h.left gs[i] (List.getElem_mem hi)
    exact h.put hi rfl rfl rfl hlf
  · exact h
theorem gtick_same (g : Gd) : (gtick g).above = g.above ∧ (gtick g).delay = g.delay ∧ (gtick g).ret = g.ret := by
  unfold gtick
  split
  · split <;> exact ⟨rfl, rfl, rfl⟩
  · split
    · exact ⟨rfl, rfl, rfl⟩
    · split
      · split <;> exact ⟨rfl, rfl, rfl⟩
      · exact ⟨rfl, rfl, rfl⟩
theorem gtick_left {g : Gd} (h : 0 ≤ g.left ∧ g.left ≤ 20) : 0 ≤ (gtick g).left ∧ (gtick g).left ≤ 20 := by
  unfold gtick
  split
  · split
    · show 0 ≤ g.left - 1 ∧ g.left - 1 ≤ 20; omega
    · exact h
  · split
    · exact h
    · split
      · split <;> exact h
      · exact h
theorem GInv.tick {D : List Dom} {gs : List Gd} (h : GInv D gs) : GInv D (gtickL gs) where
  len := by rw [gtickL_len, h.len]
  same := fun i hi hi' => by
    simp only [gtickL_len] at hi
    simp only [gtickL, List.getElem_map]
    obtain ⟨a, b, c⟩ := gtick_same gs[i]
    rw [a, b, c]; exact h.same _ _ _
  dom := h.dom
  left := fun y hy => by
    obtain ⟨g, hg, rfl⟩ := List.mem_map.mp hy
    exact gtick_left (h.left g hg)
/- Reset lines: what the program's functions do. -/
set_option maxRecDepth 100000

structure Ln where
  least : Int
  left : Int
  held : Bool
  wanted : Bool
def Ln.cells (x : Ln) : List AV := [.int .i64 x.least, .int .i64 x.left, .bool x.held, .bool x.wanted]
def entFrom (f : Nat) : List AV → List (Int × AV)
  | [] => []
  | v :: l => ((f : Int), v) :: entFrom (f + 1) l
def ent (l : List AV) : List (Int × AV) := entFrom 0 l
theorem entFrom_len (l : List AV) : ∀ f, (entFrom f l).length = l.length := by
  induction l with
  | nil => intro f; rfl
  | cons v l ih => intro f; simp [entFrom, ih]
theorem entFrom_look (l : List AV) : ∀ (f : Nat) (i : Int), look (entFrom f l) i = if (f : Int) ≤ i then l[(i - f).toNat]? else none := by
  induction l with
  | nil => intro f i; simp [entFrom, look]
  | cons v l ih =>
    intro f i
    have := ih (f + 1) i
    simp only [look, entFrom, List.find?_cons] at this ⊢
    by_cases e : (f : Int) = i
    · subst e; simp
    · have e' : ((f : Int) == i) = false := by simpa using e
      rw [e']
      simp only
      rw [this]
      by_cases h : (f : Int) ≤ i
      · rw [if_pos (by omega), if_pos h]
        obtain ⟨k, hk⟩ : ∃ k : Nat, (i - f).toNat = k + 1 := ⟨(i - f).toNat - 1, by omega⟩
        rw [hk, List.getElem?_cons_succ]
        congr 1; omega
      · rw [if_neg (by omega), if_neg h]
theorem look_ent {l : List AV} {i : Int} : look (ent l) i = if 0 ≤ i then l[i.toNat]? else none := by
  rw [ent, entFrom_look]; simp
theorem entFrom_spot (l : List AV) : ∀ (f i : Nat), i < l.length → spot (entFrom f l) ((f + i : Nat) : Int) = some i := by
  induction l with
  | nil => intro f i h; simp at h
  | cons v l ih =>
    intro f i h
    simp only [spot, entFrom, List.findIdx?_cons]
    cases i with
    | zero => simp
    | succ i =>
      have e : ((f : Int) == ((f + (i + 1) : Nat) : Int)) = false := by simp; omega
      rw [e]
      have := ih (f + 1) i (by simpa using h)
      simp only [spot] at this
      rw [show ((f + (i + 1) : Nat) : Int) = ((f + 1 + i : Nat) : Int) by omega, this]
      rfl
theorem entFrom_none (l : List AV) : ∀ f : Nat, spot (entFrom f l) ((f + l.length : Nat) : Int) = none := by
  induction l with
  | nil => intro f; rfl
  | cons v l ih =>
    intro f
    simp only [spot, entFrom, List.findIdx?_cons]
    have e : ((f : Int) == ((f + (v :: l).length : Nat) : Int)) = false := by simp; omega
    rw [e]
    have := ih (f + 1)
    simp only [spot] at this
    rw [show ((f + (v :: l).length : Nat) : Int) = ((f + 1 + l.length : Nat) : Int) by simp; omega, this]
    rfl
theorem entFrom_set (l : List AV) (v : AV) : ∀ (f i : Nat), i < l.length → (entFrom f l).set i (((f + i : Nat) : Int), v) = entFrom f (l.set i v) := by
  induction l with
  | nil => intro f i h; simp at h
  | cons w l ih =>
    intro f i h
    cases i with
    | zero => simp [entFrom]
    | succ i =>
      simp only [entFrom, List.set_cons_succ]
      rw [show ((f + (i + 1) : Nat) : Int) = ((f + 1 + i : Nat) : Int) by omega, ih (f + 1) i (by simpa using h)]
theorem mput_ent {l : List AV} {i : Nat} (h : i < l.length) (v : AV) : mput (ent l) (i : Int) v = ent (l.set i v) := by
  have h1 := entFrom_spot l 0 i h
  have h2 := entFrom_set l v 0 i h
  rw [Nat.zero_add] at h1 h2
  rw [ent, mput, h1]; exact h2
theorem entFrom_app (l : List AV) (v : AV) : ∀ f : Nat, entFrom f l ++ [(((f + l.length : Nat) : Int), v)] = entFrom f (l ++ [v]) := by
  induction l with
  | nil => intro f; simp [entFrom]
  | cons w l ih =>
    intro f
    simp only [entFrom, List.cons_append]
    rw [← ih (f + 1)]
    congr 3
    simp; omega
theorem mput_ent_new {l : List AV} (v : AV) : mput (ent l) (l.length : Int) v = ent (l ++ [v]) := by
  have h1 := entFrom_none l 0
  have h2 := entFrom_app l v 0
  rw [Nat.zero_add] at h1 h2
  rw [ent, mput, h1]; exact h2

def lnAV (x : Ln) : AV := .agg x.cells
def lnsE (ls : List Ln) : AObj := .map (ent (ls.map lnAV))
structure LinesAt (st : ASt) (p m : Nat) (ls : List Ln) : Prop where
  hp : st.h p = some (.cells [.map m])
  hm : st.h m = some (lnsE ls)
theorem LinesAt.ne {st : ASt} {p m : Nat} {ls : List Ln} (h : LinesAt st p m ls) : p ≠ m := by
  rintro rfl
  have := h.hp
  rw [h.hm] at this; cases this
theorem LinesAt.set {st : ASt} {p m : Nat} {ls : List Ln} (h : LinesAt st p m ls) (ls' : List Ln) : LinesAt (st.set m (lnsE ls')) p m ls' :=
  ⟨by rw [ASt.set_h, if_neg h.ne]; exact h.hp, by rw [ASt.set_h, if_pos rfl, h.hm]; rfl⟩
theorem LinesAt.le {st t : ASt} {p m : Nat} {ls : List Ln} (h : LinesAt st p m ls) (hl : st.le t) : LinesAt t p m ls := ⟨hl _ _ h.hp, hl _ _ h.hm⟩
theorem ASt.set_same {st : ASt} {id : Nat} {o : AObj} (h : st.h id = some o) : st.set id o = st := ASt.ext' fun i => by
  rw [ASt.set_h]; split
  · rename_i e; subst e; rw [h]; rfl
  · rfl
def isLn (ls : List Ln) (i : Int) : Prop := 0 ≤ i ∧ i < (ls.length : Int)
instance (ls : List Ln) (i : Int) : Decidable (isLn ls i) := inferInstanceAs (Decidable (_ ∧ _))
def zeroLn : Ln := ⟨0, 0, false, false⟩
instance : Inhabited Ln := ⟨zeroLn⟩
def lnOf (ls : List Ln) (i : Int) : Ln := if isLn ls i then ls.getD i.toNat zeroLn else zeroLn
theorem lnOf_at {ls : List Ln} {i : Nat} (h : i < ls.length) : lnOf ls (i : Int) = ls[i] := by
  rw [lnOf, if_pos ⟨by omega, by omega⟩]; simp [h]
theorem look_ln {ls : List Ln} {i : Int} : look (ent (ls.map lnAV)) i = if isLn ls i then some (lnAV (lnOf ls i)) else none := by
  rw [look_ent]
  by_cases h : isLn ls i
  · obtain ⟨h0, h1⟩ := h
    rw [if_pos h0, if_pos ⟨h0, h1⟩, lnOf, if_pos ⟨h0, h1⟩]
    have : i.toNat < ls.length := by omega
    simp [this]
  · rw [if_neg h]
    by_cases h0 : 0 ≤ i
    · rw [if_pos h0]
      have : ls.length ≤ i.toNat := by unfold isLn at h; omega
      simp [this]
    · rw [if_neg h0]

theorem mput_ln {ls : List Ln} {i : Int} (hi : isLn ls i) (x : Ln) : mput (ent (ls.map lnAV)) i (lnAV x) = ent ((ls.set i.toNat x).map lnAV) := by
  obtain ⟨h0, h1⟩ := hi
  obtain ⟨k, rfl⟩ : ∃ k : Nat, i = k := ⟨i.toNat, by omega⟩
  rw [mput_ent (by simp; omega)]
  simp
section
variable {st : ASt} {p m : Nat} {ls : List Ln} (h : LinesAt st p m ls)
include h
theorem find_spec (i : Int) : ACalls Tryz.prog F.q124 [.ptr p 0, .int .i64 i] st fun r s => r = .tup [lnAV (lnOf ls i), .bool (decide (isLn ls i))] ∧ s = st := by
  refine ACalls.gc (Q' := fun r s => r = .tup [lnAV (lnOf ls i), .bool (decide (isLn ls i))] ∧ st.le s) (calls_of_awp L.q124 rfl ?_) (fun v s ⟨h, hl⟩ => ⟨st, hl, h, rfl⟩)
  have hp := h.hp
  have hm := h.hm
  rw [lnsE] at hm
  have e4 : ∀ x : Ln, AV.agg (List.take 4 x.cells) = .agg x.cells := fun _ => rfl
  have l4 : ∀ x : Ln, x.cells.length = 4 := fun _ => rfl
  have f4 : ∀ x : Ln, allLeaf x.cells = true := fun _ => rfl
  obtain ⟨x, hx⟩ : ∃ x, x = lnOf ls i := ⟨_, rfl⟩
  rw [← hx]
  have fin : ∀ (ok : Bool) (i4 i6 : Nat) (s6 : ASt), st.h i4 = none → st.le s6 → s6.h i4 = some (.cells zeroLn.cells) → s6.h i6 = some (.cells x.cells) → i6 ≠ i4 →
      awp Tryz.prog C.vy (Post [.cellN 4 4, .slot 5] fun r s => r = .tup [lnAV x, .bool ok] ∧ st.le s) [(4, .ptr i4 0), (6, .ptr i6 0), (7, .bool ok)] s6 := by
    intro ok i4 i6 s6 h4 hle h1 h2 hne
    simp only [↓Bt, Bu, simprocAttr, ↓C.q124_W, C.q124_B, C.q124, h1, h2, e4, l4, f4]
    have hlen : (putN zeroLn.cells 0 x.cells) = x.cells := putN_all rfl
    rw [hlen]
    simp only [↓Bt, Bu, simprocAttr, l4, e4]
    exact ⟨rfl, fun j o hj => by
      rw [ASt.set_h, if_neg (by rintro rfl; rw [h4] at hj; cases hj)]; exact hle _ _ hj⟩
  simp only [↓Bt, Bu, simprocAttr, ↓C.bj_w, C.bj_b, C.q124]
  rintro i4 hi4
  by_cases hi : isLn ls i
  · simp only [↓Bt, Bu, simprocAttr, ↓C.z52, C.z4, ↓C.bj_w, C.bj_b, C.q124, hi4, hp, hm, look_ln, hi, lnAV, f4, l4]
    rintro i6 ⟨hi6, hne⟩
    have h6' : (st.new i4 (.cells zeroLn.cells)).h i6 = none := by rw [ASt.new_none]; exact ⟨hi6, hne⟩
    simp only [↓Bt, Bu, simprocAttr, ↓C.z52, C.z4, ↓C.bj_w, C.bj_b, C.q124, hi6, hne]
    rw [← hx, show putN [AV.int .i64 0, AV.int .i64 0, AV.bool false, AV.bool false] 0 x.cells = x.cells from putN_all rfl]
    rw [show [AV.int .i64 0, AV.int .i64 0, AV.bool false, AV.bool false] = zeroLn.cells from rfl, ASt.new_set h6', C.vy_w, awp_keep]
    exact fin true i4 i6 _ hi4 ((ASt.le.new _ _ _).trans (ASt.le.new _ _ _)) (ASt.new_old (ASt.new_self _ hi4)) (ASt.new_self _ h6') hne
  · have hx0 : x = zeroLn := by rw [hx, lnOf, if_neg hi]
    simp only [↓Bt, Bu, simprocAttr, ↓C.z52, C.z4, ↓C.bj_w, C.bj_b, C.q124, hi4, hp, hm, look_ln, hi, lnAV, f4, l4]
    rintro i6 ⟨hi6, hne⟩
    have h6' : (st.new i4 (.cells zeroLn.cells)).h i6 = none := by rw [ASt.new_none]; exact ⟨hi6, hne⟩
    simp only [↓Bt, Bu, simprocAttr, ↓C.z52, C.z4, ↓C.bj_w, C.bj_b, C.q124, hi6, hne]
    rw [show [AV.int .i64 0, AV.int .i64 0, AV.bool false, AV.bool false] = zeroLn.cells from rfl, ASt.new_set h6', C.vy_w, awp_keep]
    refine ⟨rfl, fin false i4 i6 _ hi4 ((ASt.le.new _ _ _).trans (ASt.le.new _ _ _)) (ASt.new_old (ASt.new_self _ hi4)) ?_ hne⟩
    rw [hx0]; exact ASt.new_self _ h6'

def assertL (ls : List Ln) (i : Int) : List Ln := if isLn ls i then ls.set i.toNat { lnOf ls i with held := true, left := (lnOf ls i).least, wanted := false } else ls
def releaseL (ls : List Ln) (i : Int) : List Ln := if isLn ls i ∧ (lnOf ls i).held = true then ls.set i.toNat { lnOf ls i with wanted := true } else ls
def assertE (ls : List Ln) (i : Int) : Int := if isLn ls i then 0 else 4
def releaseE (ls : List Ln) (i : Int) : Int := if isLn ls i then (if (lnOf ls i).held = true then 0 else 6) else 4
theorem assert_spec (i : Int) : ACalls Tryz.prog F.q120 [.ptr p 0, .int .i64 i] st fun r s => r = .int .i64 (assertE ls i) ∧ s = st.set m (lnsE (assertL ls i)) := by
  refine ACalls.gc (Q' := fun r s => r = .int .i64 (assertE ls i) ∧ (st.set m (lnsE (assertL ls i))).le s) (calls_of_awp L.q120 rfl ?_) (fun v s ⟨h, hl⟩ => ⟨_, hl, h, rfl⟩)
  simp only [↓Bt, Bu, simprocAttr, ↓C.q120_W, C.q120_B, C.q120]
  refine (find_spec h i).mono ?_
  rintro r s ⟨rfl, rfl⟩
  obtain ⟨x, hx⟩ : ∃ x, x = lnOf ls i := ⟨_, rfl⟩
  rw [← hx]
  have hp := h.hp
  have hm := h.hm
  have l4 : x.cells.length = 4 := rfl
  have f4 : allLeaf x.cells = true := rfl
  have hml : ∀ i6, s.h i6 = none → m ≠ i6 := fun i6 h6 => by rintro rfl; rw [hm] at h6; cases h6
  have hpl : ∀ i6, s.h i6 = none → p ≠ i6 := fun i6 h6 => by rintro rfl; rw [hp] at h6; cases h6
  simp only [↓Bt, Bu, simprocAttr, ↓C.ch_w, C.ch_b, ↓C.bmt_w, ↓C.cg_w, C.cg_b, C.q120, lnAV]
  rintro i5 hi5
  simp only [↓Bt, Bu, simprocAttr, ↓C.ch_w, C.ch_b, ↓C.bmt_w, ↓C.cg_w, C.cg_b, C.q120, hi5, l4, f4]
  rw [show putN [AV.int .i64 0, AV.int .i64 0, AV.bool false, AV.bool false] 0 x.cells = x.cells from putN_all rfl, ASt.new_set hi5]
  by_cases hi : isLn ls i
  rotate_left
  · simp only [↓Bt, Bu, simprocAttr, ↓C.q120_W, C.q120_B, C.q120, hi]
    refine ⟨by rw [assertE, if_neg hi], ?_⟩
    rw [assertL, if_neg hi, ASt.set_same hm]
    exact ASt.le.new _ _ _
  have hm5 := hml i5 hi5
  have hp5 := hpl i5 hi5
  rw [lnsE] at hm
  have hpm := h.ne
  simp only [↓Bt, Bu, simprocAttr, ↓C.q120_W, C.q120_B, C.q120, hi, hi5, Ln.cells, hp, hm, hm5, hp5, Ne.symm hm5, hpm, Ne.symm hpm]
  refine ⟨by rw [assertE, if_pos hi], ?_⟩
  rw [show AV.agg [AV.int .i64 x.least, AV.int .i64 x.least, AV.bool true, AV.bool false] = lnAV { x with held := true, left := x.least, wanted := false } from rfl, mput_ln hi, assertL, if_pos hi, ← hx]
  refine ASt.le.set ?_ _ _
  intro j o hj
  have : j ≠ i5 := by rintro rfl; rw [hi5] at hj; cases hj
  simp only [ASt.set_h, if_neg this]
  exact ASt.new_old hj
theorem release_spec (i : Int) : ACalls Tryz.prog F.q122 [.ptr p 0, .int .i64 i] st fun r s => r = .int .i64 (releaseE ls i) ∧ s = st.set m (lnsE (releaseL ls i)) := by
  refine ACalls.gc (Q' := fun r s => r = .int .i64 (releaseE ls i) ∧ (st.set m (lnsE (releaseL ls i))).le s) (calls_of_awp L.q122 rfl ?_) (fun v s ⟨h, hl⟩ => ⟨_, hl, h, rfl⟩)
  simp only [↓Bt, Bu, simprocAttr, ↓C.q122_W, C.q122_B, C.q122]
  refine (find_spec h i).mono ?_
  rintro r s ⟨rfl, rfl⟩
  obtain ⟨x, hx⟩ : ∃ x, x = lnOf ls i := ⟨_, rfl⟩
  rw [← hx]
  have hp := h.hp
  have hm := h.hm
  have l4 : x.cells.length = 4 := rfl
  have f4 : allLeaf x.cells = true := rfl
  have hml : ∀ i6, s.h i6 = none → m ≠ i6 := fun i6 h6 => by rintro rfl; rw [hm] at h6; cases h6
  have hpl : ∀ i6, s.h i6 = none → p ≠ i6 := fun i6 h6 => by rintro rfl; rw [hp] at h6; cases h6
  simp only [↓Bt, Bu, simprocAttr, ↓C.z50, C.dh_b, C.dg_b, C.q122, lnAV]
  rintro i5 hi5
  simp only [↓Bt, Bu, simprocAttr, ↓C.z50, C.dh_b, C.dg_b, C.q122, hi5, l4, f4]
  rw [show putN [AV.int .i64 0, AV.int .i64 0, AV.bool false, AV.bool false] 0 x.cells = x.cells from putN_all rfl, ASt.new_set hi5]
  by_cases hi : isLn ls i
  rotate_left
  · simp only [↓Bt, Bu, simprocAttr, ↓C.q122_W, C.q122_B, C.q122, hi]
    refine ⟨by rw [releaseE, if_neg hi], ?_⟩
    rw [releaseL, if_neg (fun h => hi h.1), ASt.set_same hm]
    exact ASt.le.new _ _ _
  have hm5 := hml i5 hi5
  have hp5 := hpl i5 hi5
  by_cases hh : x.held = true
  rotate_left
  · have hh' : x.held = false := by simpa using hh
    simp only [↓Bt, Bu, simprocAttr, ↓C.q122_W, C.q122_B, C.q122, hi, hi5, Ln.cells, hh']
    refine ⟨by rw [releaseE, if_pos hi, ← hx, if_neg hh], ?_⟩
    rw [releaseL, if_neg (fun h => hh (by rw [hx]; exact h.2)), ASt.set_same hm]
    exact ASt.le.new _ _ _
  rw [lnsE] at hm
  have hpm := h.ne
  simp only [↓Bt, Bu, simprocAttr, ↓C.q122_W, C.q122_B, C.q122, hi, hi5, Ln.cells, hp, hm, hm5, hp5, Ne.symm hm5, hpm, Ne.symm hpm, hh]
  refine ⟨by rw [releaseE, if_pos hi, ← hx, if_pos hh], ?_⟩
  rw [show AV.agg [AV.int .i64 x.least, AV.int .i64 x.left, AV.bool true, AV.bool true] = lnAV { x with held := true, wanted := true } from rfl, mput_ln hi, releaseL, if_pos ⟨hi, by rw [← hx]; exact hh⟩, ← hx, show ({ x with held := true, wanted := true } : Ln) = { x with wanted := true } by rw [← hh]]
  refine ASt.le.set ?_ _ _
  intro j o hj
  have : j ≠ i5 := by rintro rfl; rw [hi5] at hj; cases hj
  simp only [ASt.set_h, if_neg this]
  exact ASt.new_old hj
theorem held_spec (i : Int) : ACalls Tryz.prog F.q121 [.ptr p 0, .int .i64 i] st fun r s => r = .bool (!decide (isLn ls i) || (lnOf ls i).held) ∧ s = st := by
  refine ACalls.gc (Q' := fun r s => r = .bool (!decide (isLn ls i) || (lnOf ls i).held) ∧ st.le s) (calls_of_awp L.q121 rfl ?_) (fun v s ⟨h, hl⟩ => ⟨st, hl, h, rfl⟩)
  simp only [↓Bt, Bu, simprocAttr, ↓C.q121_W, C.q121_B, C.q121]
  refine (find_spec h i).mono ?_
  rintro r s ⟨rfl, rfl⟩
  generalize lnOf ls i = x
  have l4 : x.cells.length = 4 := rfl
  have f4 : allLeaf x.cells = true := rfl
  simp only [↓Bt, Bu, simprocAttr, ↓C.ck_w, C.ck_b, ↓C.bmv_w, ↓C.cj_w, C.cj_b, C.q121, lnAV]
  rintro i5 hi5
  simp only [↓Bt, Bu, simprocAttr, ↓C.ck_w, C.ck_b, ↓C.bmv_w, ↓C.cj_w, C.cj_b, C.q121, hi5, l4, f4]
  rw [show putN [AV.int .i64 0, AV.int .i64 0, AV.bool false, AV.bool false] 0 x.cells = x.cells from putN_all rfl, ASt.new_set hi5]
  by_cases hi : isLn ls i
  · simp only [↓Bt, Bu, simprocAttr, ↓C.q121_W, C.q121_B, C.q121, hi, hi5, Ln.cells, Bool.false_or]
    exact ASt.le.new _ _ _
  · simp only [↓Bt, Bu, simprocAttr, ↓C.q121_W, C.q121_B, C.q121, hi, hi5, Ln.cells, Bool.true_or]
    exact ASt.le.new _ _ _
end
/- Reset lines: a tick, and a new chip's lines. -/
set_option maxRecDepth 100000

def tick1 (x : Ln) : Ln := if x.held = true then (if 0 < x.left then { x with left := x.left - 1 } else if x.wanted = true then { x with held := false, wanted := false } else x) else x
def goes (x : Ln) : Bool := x.held && (!decide (0 < x.left) && x.wanted)
def tickTo (ls : List Ln) (i : Nat) : List Ln := (ls.take i).map tick1 ++ ls.drop i
def toldTo (ls : List Ln) (i : Nat) : List Nat := (List.range i).filter fun j => goes (ls.getD j zeroLn)
def tickL (ls : List Ln) : List Ln := ls.map tick1
def toldL (ls : List Ln) : List Nat := toldTo ls ls.length
theorem tickTo_len (ls : List Ln) (i : Nat) : (tickTo ls i).length = ls.length := by simp [tickTo]; omega
theorem tickTo_at {ls : List Ln} {i : Nat} (h : i < ls.length) : (tickTo ls i)[i]'(by rw [tickTo_len]; exact h) = ls[i] := by
  simp only [tickTo]
  rw [List.getElem_append_right (by simp; omega)]
  simp [Nat.min_eq_left (Nat.le_of_lt h)]
theorem tickTo_set {ls : List Ln} {i : Nat} (h : i < ls.length) : (tickTo ls i).set i (tick1 ls[i]) = tickTo ls (i + 1) := by
  simp only [tickTo]
  rw [List.set_append_right _ _ (by simp; omega), List.take_succ_eq_append_getElem h, List.map_append]
  have : i - ((ls.take i).map tick1).length = 0 := by simp; omega
  rw [this, ← List.getElem_cons_drop (h := h), List.set_cons_zero]
  simp
theorem tickTo_same {ls : List Ln} {i : Nat} (h : i < ls.length) (e : tick1 ls[i] = ls[i]) : tickTo ls (i + 1) = tickTo ls i := by
  rw [← tickTo_set h, e, ← tickTo_at h, List.set_getElem_self]
theorem tickTo_all (ls : List Ln) : tickTo ls ls.length = tickL ls := by simp [tickTo, tickL]
theorem toldTo_succ {ls : List Ln} {i : Nat} (h : i < ls.length) : toldTo ls (i + 1) = if goes ls[i] = true then toldTo ls i ++ [i] else toldTo ls i := by
  simp only [toldTo, List.range_succ, List.filter_append]
  have e : (ls[i]?).getD zeroLn = ls[i] := by simp [h]
  by_cases hg : goes ls[i] = true
  · rw [if_pos hg]; simp [e, hg]
  · rw [if_neg hg]; simp [e, hg]
theorem toldTo_len (ls : List Ln) (i : Nat) : (toldTo ls i).length ≤ i := by
  have := List.length_filter_le (fun j => goes (ls.getD j zeroLn)) (List.range i)
  simpa [toldTo] using this

theorem tick_spec {st : ASt} {p m : Nat} {ls : List Ln} (h : LinesAt st p m ls) (hb : ∀ x ∈ ls, x.left ≤ 1000) (hn : ls.length ≤ 1000) :
    ACalls Tryz.prog F.q123 [.ptr p 0] st fun r s => r = row (nats (toldL ls)) ∧ s = st.set m (lnsE (tickL ls)) := by
  refine ACalls.ghost (Q' := fun r s => Over (st.set m (lnsE (tickL ls))) s 1 r (toldL ls).length (ints (nats (toldL ls)))) (calls_of_awp L.q123 rfl ?_) (fun r s hO => ⟨_, _, hO.frz, by rw [row, nats_length], rfl⟩)
  have hp := h.hp
  have hm := h.hm
  have hpm := h.ne
  have hmlen : ∀ l : List Ln, (ent (l.map lnAV)).length = l.length := fun l => by rw [ent, entFrom_len, List.length_map]
  rw [lnsE] at hm
  simp only [↓Bt, Bu, simprocAttr, ↓C.q123_W, C.q123_B, C.q123, hp, hm, hmlen, amlen]
  refine awp_midB (fun v : AV => [(3, v)]) (fun v s => Over (st.set m (lnsE (tickL ls))) s 1 v (toldL ls).length (ints (nats (toldL ls)))) ?_ ?_
  rotate_left
  · intro v s hO
    simp only [↓Bt, Bu, simprocAttr, ↓C.q123_W, C.q123_B, C.q123]
    exact hO
  have h0 : st.set m (lnsE (tickTo ls 0)) = st := by
    rw [show tickTo ls 0 = ls by simp [tickTo]]; exact ASt.set_same h.hm
  refine awp_loopK (fun q : Nat × AV => [(0, .ptr p 0), (3, q.2), (13, .int .i64 ls.length), (14, .int .i64 q.1)]) (fun q s => q.1 ≤ ls.length ∧ Over (st.set m (lnsE (tickTo ls q.1))) s 1 q.2 (toldTo ls q.1).length (ints (nats (toldTo ls q.1)))) (fun q => ls.length - q.1) (0, .nils) rfl
    ⟨Nat.zero_le _, by rw [h0]; exact Over.nils (ASt.le.refl _) 1⟩ ?_
  rintro ⟨i, v⟩ s ⟨hi, hO⟩
  simp only at hi hO
  by_cases hil : i < ls.length
  rotate_left
  · have hie : i = ls.length := by omega
    have hil' : ¬ (i : Int) < (ls.length : Nat) := by omega
    simp only [↓Bt, Bu, simprocAttr, ↓C.q123_W, C.q123_B, C.q123, hil']
    rw [hie, tickTo_all] at hO
    exact ⟨v, rfl, hO⟩
  have hil' : (i : Int) < (ls.length : Nat) := by omega
  have hw := wsucc hil (by omega)
  obtain ⟨x, hx⟩ : ∃ x, x = ls[i] := ⟨_, rfl⟩
  have hxb : x.left ≤ 1000 := by rw [hx]; exact hb _ (List.getElem_mem hil)
  have hps : s.h p = some (.cells [.map m]) := hO.2.1 _ _ (by rw [ASt.set_h, if_neg hpm]; exact hp)
  have hms : s.h m = some (.map (ent ((tickTo ls i).map lnAV))) := hO.2.1 _ _ (by rw [ASt.set_h, if_pos rfl, h.hm]; rfl)
  have hlk : look (ent ((tickTo ls i).map lnAV)) (i : Int) = some (.agg x.cells) := by
    rw [look_ln, if_pos ⟨by omega, by rw [tickTo_len]; exact hil'⟩, lnOf_at (by rw [tickTo_len]; exact hil), tickTo_at hil, hx]; rfl
  have l4 : x.cells.length = 4 := rfl
  have f4 : allLeaf x.cells = true := rfl
  have base_i : ∀ (o : AObj), (st.set m (lnsE (tickTo ls i))).set m o = st.set m o := fun o => ASt.set_set _ _ _ _
  have hbm : (st.set m (lnsE (tickTo ls i))).h m ≠ none := by rw [ASt.set_h, if_pos rfl, h.hm]; simp
  have hput : ∀ y : Ln, mput (ent ((tickTo ls i).map lnAV)) (i : Int) (lnAV y) = ent (((tickTo ls i).set i y).map lnAV) := fun y => by
    have := mput_ln (ls := tickTo ls i) (i := (i : Int)) ⟨by omega, by rw [tickTo_len]; exact hil'⟩ y
    simpa using this
  simp only [↓Bt, Bu, simprocAttr, ↓C.z51, C.z3, hil', hps, hms, hlk]
  rintro i5 hi5
  simp only [↓Bt, Bu, simprocAttr, ↓C.z51, C.z3, hi5, l4, f4]
  rw [show putN [AV.int .i64 0, AV.int .i64 0, AV.bool false, AV.bool false] 0 x.cells = x.cells from putN_all rfl, ASt.new_set hi5]
  have hm5 : m ≠ i5 := by rintro rfl; rw [hms] at hi5; cases hi5
  have hp5 : p ≠ i5 := by rintro rfl; rw [hps] at hi5; cases hi5
  -- over the heap that stays
  have hO5 : Over (st.set m (lnsE (tickTo ls i))) (s.new i5 (.cells x.cells)) 1 v (toldTo ls i).length (ints (nats (toldTo ls i))) :=
    ⟨hO.1.le (ASt.le.new _ _ _), hO.2.1.trans (ASt.le.new _ _ _), hO.2.2⟩
  have hm6 := ASt.new_old (id := i5) (o := .cells x.cells) hms
  have hp6 := ASt.new_old (id := i5) (o := .cells x.cells) hps
  have h5 := ASt.new_self (.cells x.cells) hi5
  have hb5 : (st.set m (lnsE (tickTo ls i))).h i5 = none := fresh_of_le hO.2.1 hi5
  generalize s.new i5 (.cells x.cells) = t at hO5 hm6 hp6 h5
  clear hps hms hO hi5
  rw [Ln.cells] at h5
  -- what a write of the line's own variable leaves
  have hOset : ∀ {t : ASt} {v : AV} {n : Nat} {cs : List AV} (o : AObj), Over (st.set m (lnsE (tickTo ls i))) t 1 v n cs → (∀ sz b off k, v = .sl sz b off k → b ≠ i5) → Over (st.set m (lnsE (tickTo ls i))) (t.set i5 o) 1 v n cs := by
    intro t v n cs o hO hv
    obtain ⟨⟨h1, h2⟩, h3, h4⟩ := hO
    refine ⟨⟨h1, ?_⟩, fun j ob hj => ?_, h4⟩
    · rcases h2 with h2 | ⟨b, rfl, hb⟩
      · exact .inl h2
      · exact .inr ⟨b, rfl, by rw [ASt.set_h, if_neg (hv _ _ _ _ rfl)]; exact hb⟩
    · rw [ASt.set_h, if_neg (by rintro rfl; rw [hb5] at hj; cases hj)]
      exact h3 _ _ hj
  have hOm : ∀ {t : ASt} {v : AV} {n : Nat} {cs : List AV} (y : Ln), tick1 ls[i] = y → Over (st.set m (lnsE (tickTo ls i))) t 1 v n cs → Over (st.set m (lnsE (tickTo ls (i + 1)))) (t.set m (.map (ent (((tickTo ls i).set i y).map lnAV)))) 1 v n cs := by
    intro t v n cs y hy hO
    rw [← hy, tickTo_set hil]
    have := hO.rebase (base' := (st.set m (lnsE (tickTo ls i))).set m (lnsE (tickTo ls (i + 1)))) (st' := t.set m (lnsE (tickTo ls (i + 1)))) (keep_set hbm) (hO.2.1.set _ _)
    rw [base_i] at this
    exact this
  have hv5 : ∀ sz b off k, v = .sl sz b off k → b ≠ i5 := by
    rintro sz b off k rfl rfl
    have := hO5.1.2
    rcases this with ⟨_, e⟩ | ⟨b', e, hb'⟩
    · cases e
    · cases e
      rw [h5] at hb'
      have hl := hO5.1.1
      have e2 : ints (nats (toldTo ls i)) = [AV.int .i64 x.least, AV.int .i64 x.left, AV.bool x.held, AV.bool x.wanted] := by injection hb' with e; injection e with e; exact e.symm
      have := congrArg (fun l => l[2]?) e2
      simp only [ints, List.getElem?_map] at this
      cases h' : (nats (toldTo ls i))[2]? <;> rw [h'] at this <;> simp at this
  by_cases hh : x.held = true
  rotate_left
  · have hh' : x.held = false := by simpa using hh
    have ht : tick1 ls[i] = ls[i] := by rw [← hx, tick1, if_neg hh]
    have hg : goes ls[i] = false := by rw [← hx, goes, hh']; rfl
    simp only [↓Bt, Bu, simprocAttr, ↓C.q123_W, C.q123_B, C.q123, h5, hh', hw]
    refine ⟨(i + 1, v), rfl, ⟨hil, ?_⟩, by simp only; omega⟩
    simp only
    rw [tickTo_same hil ht, toldTo_succ hil, if_neg (by rw [hg]; decide)]
    exact hO5
  rw [hh] at h5
  by_cases hl : 0 < x.left
  · have wl : IntKind.i64.wrap (x.left - 1) = x.left - 1 := by rw [wrap64] <;> omega
    have ht : tick1 ls[i] = { x with left := x.left - 1 } := by rw [← hx, tick1, if_pos hh, if_pos hl]
    have hg : goes ls[i] = false := by rw [← hx, goes]; simp [hl]
    simp only [↓Bt, Bu, simprocAttr, ↓C.q123_W, C.q123_B, C.q123, h5, gt_iff_lt, hl, wl, hp5, hp6, hm5, hm6, Ne.symm hm5, Ne.symm hp5, hw]
    rw [show AV.agg [AV.int .i64 x.least, AV.int .i64 (x.left - 1), AV.bool true, AV.bool x.wanted] = lnAV { x with left := x.left - 1 } by rw [← hh]; rfl, hput]
    refine ⟨(i + 1, v), rfl, ⟨hil, ?_⟩, by simp only; omega⟩
    simp only
    rw [toldTo_succ hil, if_neg (by rw [hg]; decide)]
    exact hOm _ ht (hOset _ hO5 hv5)
  by_cases hwt : x.wanted = true
  rotate_left
  · have hwt' : x.wanted = false := by simpa using hwt
    have ht : tick1 ls[i] = x := by rw [← hx, tick1, if_pos hh, if_neg hl, if_neg hwt]
    have hg : goes ls[i] = false := by rw [← hx, goes, hwt']; simp
    simp only [↓Bt, Bu, simprocAttr, ↓C.q123_W, C.q123_B, C.q123, h5, gt_iff_lt, hl, hwt', hp5, hp6, hm5, hm6, Ne.symm hm5, Ne.symm hp5, hw]
    rw [show AV.agg [AV.int .i64 x.least, AV.int .i64 x.left, AV.bool true, AV.bool false] = lnAV x by rw [← hh, ← hwt']; rfl, hput]
    refine ⟨(i + 1, v), rfl, ⟨hil, ?_⟩, by simp only; omega⟩
    simp only
    rw [toldTo_succ hil, if_neg (by rw [hg]; decide)]
    exact hOm _ ht hO5
  · have ht : tick1 ls[i] = { x with held := false, wanted := false } := by rw [← hx, tick1, if_pos hh, if_neg hl, if_pos hwt]
    have hg : goes ls[i] = true := by rw [← hx, goes, hh, hwt]; simp [hl]
    rw [hwt] at h5
    have hO7 := hOset (.cells [AV.int .i64 x.least, AV.int .i64 x.left, AV.bool false, AV.bool true]) hO5 hv5
    have hO8 := hOset (.cells [AV.int .i64 x.least, AV.int .i64 x.left, AV.bool false, AV.bool false]) hO7 hv5
    have hlen := toldTo_len ls i
    simp only [↓Bp, Bq, Bs, simprocAttr, ↓C.z51, C.z3, ↓C.fs_w, C.fs_b, ↓C.fw_w, C.fw_b, ↓C.bpg_w, ↓C.fv_w, C.fv_b, ↓C.bph_w, ↓C.bpj_w, ↓C.ft_w, C.ft_b, ↓C.bpk_w, ↓C.bpl_w, ↓C.f1_w, C.f1_b, ↓C.bpm_w, ↓C.bn8_w, ↓C.f0_w, C.f0_b, ↓C.bn9_w, h5, gt_iff_lt, hl, hp5, hp6, hm5, hm6, Ne.symm hm5, Ne.symm hp5]
    obtain ⟨y, hy⟩ : ∃ y : Ln, y = { x with held := false, wanted := false } := ⟨_, rfl⟩
    have hyc : [AV.int .i64 x.least, AV.int .i64 x.left, AV.bool false, AV.bool false] = y.cells := by rw [hy]; rfl
    rw [hyc] at hO8 ⊢
    have h58 : ((t.set i5 (AObj.cells [AV.int .i64 x.least, AV.int .i64 x.left, AV.bool false, AV.bool true])).set i5 (.cells y.cells)).h i5 = some (.cells y.cells) := by
      simp only [ASt.set_h, if_true, h5, Option.map_some]
    generalize (t.set i5 (AObj.cells [AV.int .i64 x.least, AV.int .i64 x.left, AV.bool false, AV.bool true])).set i5 (.cells y.cells) = t2 at hO8 h58
    have hO9 : Over ((st.set m (lnsE (tickTo ls i))).new i5 (.cells y.cells)) t2 1 v (toldTo ls i).length (ints (nats (toldTo ls i))) := by
      refine ⟨hO8.1, fun j o hj => ?_, fun sz b off k e => ?_⟩
      · by_cases e : j = i5
        · subst e
          rw [ASt.new_self _ hb5] at hj; rw [h58]; exact hj
        · rw [ASt.new_ne _ e] at hj; exact hO8.2.1 _ _ hj
      · rw [ASt.new_none]; exact ⟨hO8.2.2 sz b off k e, hv5 sz b off k e⟩
    refine aop_append_over hO9 (by omega) (new := [.int .i64 (i : Int)]) rfl rfl rfl (fun _ => rfl) (fun _ => rfl) fun v1 v2 t3 hP => ?_
    have g5 := hP.2.1 _ _ (ASt.new_self _ hb5)
    have gm : t3.h m = some (.map (ent ((tickTo ls i).map lnAV))) := hP.2.1 _ _ (ASt.new_old (by rw [ASt.set_h, if_pos rfl, h.hm]; rfl))
    have gp : t3.h p = some (.cells [.map m]) := hP.2.1 _ _ (ASt.new_old (by rw [ASt.set_h, if_neg hpm]; exact hp))
    have hP0 : Over (st.set m (lnsE (tickTo ls i))) t3 1 v2 (toldTo ls i ++ [i]).length (ints (nats (toldTo ls i ++ [i]))) := by
      refine ⟨?_, (ASt.le.new _ _ _).trans hP.2.1, fun sz b off k e => ?_⟩
      · rw [nats_append, ints_append, List.length_append]; exact hP.1
      · have := hP.2.2 sz b off k e
        rw [ASt.new_none] at this; exact this.1
    have ly : y.cells.length = 4 := rfl
    have ey : AV.agg (List.take 4 y.cells) = lnAV y := rfl
    simp only [↓Bt, Bu, simprocAttr, ↓C.q123_W, C.q123_B, C.q123, g5, gm, gp, ly, ey, hput, hw]
    refine ⟨(i + 1, v2), rfl, ⟨hil, ?_⟩, by simp only; omega⟩
    simp only
    rw [toldTo_succ hil, if_pos hg]
    exact hOm _ (by rw [ht, hy]) hP0

def freshL (R : List Int) : List Ln := R.map fun n => ⟨n, 0, true, false⟩
def NewQ (st : ASt) (s : Soc) (r : AV) (s' : ASt) : Prop :=
  (confErr s ≠ 0 ∧ r = .tup [.nilp, .int .i64 (confErr s)] ∧ st.le s') ∨ (confErr s = 0 ∧ ∃ p m, r = .tup [.ptr p 0, .int .i64 0] ∧ LinesAt s' p m (freshL s.rsts) ∧ st.h p = none ∧ st.h m = none ∧ st.le s')
theorem new_spec {st : ASt} {s : Soc} (hs : s.fine) (hn : s.rsts.length ≤ 1000) : ACalls Tryz.prog F.q125 [.agg s.cells] st (NewQ st s) := by
  refine calls_of_awp L.q125 rfl ?_
  have l4 : s.cells.length = 4 := rfl
  have e4 : AV.agg (List.take 4 s.cells) = .agg s.cells := rfl
  simp only [↓Bt, Bu, simprocAttr, ↓C.bt_w, C.bt_b, C.q125]
  rintro ib hib
  have hle0 := ASt.le.new st ib (.cells s.cells)
  have hb := ASt.new_self (.cells s.cells) hib
  generalize st.new ib (.cells s.cells) = s0 at hle0 hb
  simp only [↓Bt, Bu, simprocAttr, ↓C.q125_W, C.q125_B, C.q125, hb, l4, e4]
  refine (conf_check_spec hs).mono ?_
  rintro r s1 ⟨rfl, rfl⟩
  by_cases he : confErr s = 0
  rotate_left
  · simp only [↓Bt, Bu, simprocAttr, ↓C.q125_W, C.q125_B, C.q125, he]
    exact .inl ⟨he, rfl, hle0⟩
  rw [Soc.cells, Soc.rstV] at hb
  simp only [↓Bt, Bu, simprocAttr, ↓C.z53, C.dm_b, C.dl_b, C.dk_b, C.dj_b, ↓C.bt_w, C.bt_b, C.q125, he, hb]
  rintro m hm p ⟨hp, hpm⟩
  have hmp : ¬ m = p := fun e => hpm e.symm
  have hL0 : LinesAt ((s1.new m (.map [])).new p (.cells [.map m])) p m (freshL (s.rsts.take 0)) :=
    ⟨ASt.new_self _ (by rw [ASt.new_none]; exact ⟨hp, hpm⟩), ASt.new_old (ASt.new_self _ hm)⟩
  have hle1 := (ASt.le.new s1 m (.map [])).trans (ASt.le.new _ p (.cells [.map m]))
  have hb1 := hle1 _ _ hb
  have hps := fresh_of_le hle0 hp
  have hms := fresh_of_le hle0 hm
  have hle := hle0.trans hle1
  generalize (s1.new m (.map [])).new p (.cells [.map m]) = s2 at hL0 hb1 hle
  simp only [↓Bt, Bu, simprocAttr, ↓C.q125_W, C.q125_B, C.q125, hb1]
  refine awp_midB (fun _ : Unit => [(5, .ptr p 0)]) (fun _ t => LinesAt t p m (freshL s.rsts) ∧ st.le t) ?_ ?_
  rotate_left
  · rintro - t ⟨h1, h2⟩
    simp only [↓Bt, Bu, simprocAttr, ↓C.q125_W, C.q125_B, C.q125]
    exact .inr ⟨he, p, m, rfl, h1, hps, hms, h2⟩
  refine awp_loopK (fun i : Nat => [(5, .ptr p 0), (20, .isl 1 (s.rsts.flatMap rstCells) s.rsts.length), (21, .int .i64 s.rsts.length), (22, .int .i64 i)]) (fun i t => i ≤ s.rsts.length ∧ LinesAt t p m (freshL (s.rsts.take i)) ∧ st.le t) (fun i => s.rsts.length - i) 0 rfl ⟨Nat.zero_le _, hL0, hle⟩ ?_
  clear hL0 hle hb1 hb hle1 hm hp
  rintro i t ⟨hi, hL, hle⟩
  by_cases hil : i < s.rsts.length
  rotate_left
  · have hie : i = s.rsts.length := by omega
    have hil' : ¬ (i : Int) < (s.rsts.length : Nat) := by omega
    simp only [↓Bt, Bu, simprocAttr, ↓C.q125_W, C.q125_B, C.q125, hil']
    rw [hie, List.take_length] at hL
    exact ⟨(), hL, hle⟩
  have hil' : (i : Int) < (s.rsts.length : Nat) := by omega
  have hz : (0:Int) ≤ (i : Int) ∧ (i : Int) < (s.rsts.length : Nat) := by omega
  have hw := wsucc hil (by omega)
  have hq := flatMap_len rstCells_len s.rsts
  have hr : i + 1 ≤ (s.rsts.flatMap rstCells).length := by omega
  have hd := rows_drop rstCells rstCells_len (l := s.rsts) (i := i) hil
  rw [Nat.mul_one] at hd
  have hp := hL.hp
  have hm := hL.hm
  have hpm2 := hL.ne
  rw [lnsE] at hm
  simp only [↓Bt, Bu, simprocAttr, ↓C.f5_w, C.f5_b, ↓C.bpw_w, ↓C.f9_w, C.f9_b, ↓C.bp2_w, ↓C.f8_w, C.f8_b, ↓C.bpt_w, ↓C.bp3_w, ↓C.bp4_w, ↓C.f7_w, C.f7_b, ↓C.bpv_w, ↓C.bp5_w, ↓C.f6_w, C.f6_b, ↓C.bpx_w, ↓C.z53, C.dm_b, C.dl_b, C.dk_b, C.dj_b, ↓C.bt_w, C.bt_b, C.q125, hil', hz, Int.toNat_natCast, Nat.mul_one, hr, hd, rstCells]
  rintro i7 hi7
  have hm7 : m ≠ i7 := by rintro rfl; rw [hm] at hi7; cases hi7
  have hp7 : p ≠ i7 := by rintro rfl; rw [hp] at hi7; cases hi7
  have hlen : ((freshL (s.rsts.take i)).map lnAV).length = i := by simp [freshL, Nat.min_eq_left hi]
  have hput : mput (ent ((freshL (s.rsts.take i)).map lnAV)) (i : Int) (AV.agg [AV.int .i64 s.rsts[i], AV.int .i64 0, AV.bool true, AV.bool false]) = ent ((freshL (s.rsts.take (i + 1))).map lnAV) := by
    have := mput_ent_new (l := (freshL (s.rsts.take i)).map lnAV) (AV.agg [AV.int .i64 s.rsts[i], AV.int .i64 0, AV.bool true, AV.bool false])
    rw [hlen] at this
    rw [this, List.take_succ_eq_append_getElem hil, show freshL (s.rsts.take i ++ [s.rsts[i]]) = freshL (s.rsts.take i) ++ [⟨s.rsts[i], 0, true, false⟩] by simp only [freshL, List.map_append, List.map_cons, List.map_nil], List.map_append]
    rfl
  simp only [↓Bt, Bu, simprocAttr, ↓C.q125_W, C.q125_B, C.q125, hi7, hp7, hm7, Ne.symm hp7, Ne.symm hm7, hp, hm, hput, hw]
  refine ⟨rfl, i + 1, rfl, ⟨hil, ⟨?_, ?_⟩, fun j o hj => ?_⟩, by omega⟩
  · simp only [ASt.set_h, if_neg hpm2, if_neg hp7, ASt.new_old hp]
  · simp only [ASt.set_h, if_true, if_neg hm7, ASt.new_old hm, Option.map_some]; rfl
  · have h1 : j ≠ m := by rintro rfl; rw [hms] at hj; cases hj
    have h2 : j ≠ i7 := by rintro rfl; rw [hle _ _ hj] at hi7; cases hi7
    simp only [ASt.set_h, if_neg h1, if_neg h2]
    exact ASt.new_old (hle _ _ hj)
/- Registers: what the program's functions do, in the words of the abstract layer. -/
set_option maxRecDepth 100000

def MadeAs (made : List Reg) (m : AV) : Prop := m.slen = some made.length ∧ (made ≠ [] → m = .isl 2 (flat made) made.length)

structure FileAt (st : ASt) (id idn ids : Nat) (made : List Reg) (now saved : List Int) (kept : Bool) : Prop where
  file : ∃ m, MadeAs made m ∧ st.h id = some (.cells [m, .sl 1 idn 0 made.length, .sl 1 ids 0 made.length, .bool kept])
  hnow : st.h idn = some (.cells (u32s now))
  hsaved : st.h ids = some (.cells (u32s saved))
  ln : now.length = made.length
  ls : saved.length = made.length
  n1 : id ≠ idn
  n2 : id ≠ ids
  n3 : idn ≠ ids
  small : made.length ≤ 8

theorem FileAt.le {st st' : ASt} {id idn ids : Nat} {made : List Reg} {now saved : List Int} {kept : Bool} (h : FileAt st id idn ids made now saved kept) (hl : st.le st') : FileAt st' id idn ids made now saved kept := by
  obtain ⟨⟨m, h1, h2⟩, h3, h4, h5, h6, h7, h8, h9, h10⟩ := h
  exact ⟨⟨m, h1, hl _ _ h2⟩, hl _ _ h3, hl _ _ h4, h5, h6, h7, h8, h9, h10⟩

section
variable {st : ASt} {id idn ids : Nat} {made : List Reg} {now saved : List Int} {kept : Bool}

theorem many_spec (h : FileAt st id idn ids made now saved kept) : ACalls Tryz.prog F.q109 [.ptr id 0] st fun v st' => st' = st ∧ v = .int .i64 made.length := by
  obtain ⟨m, ⟨hm, _⟩, hf⟩ := h.file
  refine calls_of_awp L.q109 rfl ?_
  simp only [↓Bt, Bu, simprocAttr, ↓C.q109_W, C.q109_B, C.q109, hf, hm]

theorem read_spec (h : FileAt st id idn ids made now saved kept) (i : Int) : ACalls Tryz.prog F.q110 [.ptr id 0, .int .i64 i] st fun v st' =>
    st' = st ∧ v = if 0 ≤ i ∧ i < made.length then .tup [.int .u32 (now.getD i.toNat 0), .int .i64 0] else .tup [.int .u32 0, .int .i64 4] := by
  refine calls_of_awp L.q110 rfl ?_
  obtain ⟨m, ⟨hm, _⟩, hf⟩ := h.file
  by_cases h0 : i < 0
  · have : ¬ (0 ≤ i ∧ i < made.length) := by omega
    simp only [↓Bt, Bu, simprocAttr, ↓C.q110_W, C.q110_B, C.q110, h0, this]
  · simp only [↓Bt, Bu, simprocAttr, ↓C.q110_W, C.q110_B, C.q110, h0]
    refine (many_spec h).mono ?_
    rintro v st' ⟨rfl, rfl⟩
    by_cases h1 : (made.length : Int) ≤ i
    · have : ¬ (0 ≤ i ∧ i < made.length) := by omega
      simp only [↓Bt, Bu, simprocAttr, ↓C.q110_W, C.q110_B, C.q110, h1, this]
    · have h2 : 0 ≤ i ∧ i < made.length := by omega
      have h3 : i.toNat < now.length := by have := h.ln; omega
      simp only [↓Bt, Bu, simprocAttr, ↓C.q110_W, C.q110_B, C.q110, h1, hf, h2, h.hnow, u32s_get h3, Nat.mul_one]
      simp [h3]

theorem write_spec (h : FileAt st id idn ids made now saved kept) (i v : Int) : ACalls Tryz.prog F.q115 [.ptr id 0, .int .i64 i, .int .u32 v] st fun r st' =>
    if 0 ≤ i ∧ i < made.length then r = .int .i64 0 ∧ st' = st.set idn (.cells (u32s (now.set i.toNat v))) else r = .int .i64 4 ∧ st' = st := by
  refine calls_of_awp L.q115 rfl ?_
  obtain ⟨m, ⟨hm, _⟩, hf⟩ := h.file
  by_cases h0 : i < 0
  · have : ¬ (0 ≤ i ∧ i < made.length) := by omega
    simp only [↓Bt, Bu, simprocAttr, ↓C.q115_W, C.q115_B, C.q115, h0, this]
  · simp only [↓Bt, Bu, simprocAttr, ↓C.q115_W, C.q115_B, C.q115, h0]
    refine (many_spec h).mono ?_
    rintro v st' ⟨rfl, rfl⟩
    by_cases h1 : (made.length : Int) ≤ i
    · have : ¬ (0 ≤ i ∧ i < made.length) := by omega
      simp only [↓Bt, Bu, simprocAttr, ↓C.q115_W, C.q115_B, C.q115, h1, this]
    · have h2 : 0 ≤ i ∧ i < made.length := by omega
      have h3 : i.toNat < now.length := by have := h.ln; omega
      simp only [↓Bt, Bu, simprocAttr, ↓C.q115_W, C.q115_B, C.q115, h1, hf, h2, h.hnow, u32s_get h3, Nat.mul_one, u32s_length, h3, u32s_set]

theorem each_spec {g : Nat} {cap : List AV} (hb : hasBody Tryz.prog g = true) (I : Nat → ASt → Prop) (hI : ∀ i st, I i st → ∃ idn ids now saved kept, FileAt st id idn ids made now saved kept) (h0 : I 0 st)
    (hstep : ∀ i (hi : i < made.length) st, I i st → ACalls Tryz.prog g ([.int .i64 i, .agg (encReg made[i])] ++ cap) st fun _ st' => I (i + 1) st') :
    ACalls Tryz.prog F.q118 [.ptr id 0, .fn g cap] st fun _ st' => I made.length st' := by
  refine calls_of_awp L.q118 rfl ?_
  obtain ⟨idn, ids, now, saved, kept, hf⟩ := hI _ _ h0
  have hsm := hf.small
  simp only [↓Bt, Bu, simprocAttr, ↓C.q118_W, C.q118_B, C.q118]
  refine (many_spec hf).mono ?_
  rintro v st' ⟨rfl, rfl⟩
  simp only [↓Bt, Bu, simprocAttr, ↓C.q118_W, C.q118_B, C.q118]
  refine awp_loop (fun fr s => ∃ k : Nat, k ≤ made.length ∧ fr.get 0 = .ptr id 0 ∧ fr.get 1 = .fn g cap ∧ fr.get 6 = .int .i64 made.length ∧ fr.get 7 = .int .i64 k ∧ I k s)
    (fun fr s => match fr.get 7 with | .int _ k => made.length - k.toNat | _ => 0) ⟨0, Nat.zero_le _, ?_, ?_, ?_, ?_, h0⟩ ?_
  · simp only [↓Bt, Bu, simprocAttr]
  · simp only [↓Bt, Bu, simprocAttr]
  · simp only [↓Bt, Bu, simprocAttr]
  · simp only [↓Bt, Bu, simprocAttr] <;> rfl
  · rintro fr s ⟨k, hk, f0, f1, f6, f7, hIk⟩
    by_cases hlt : k < made.length
    · obtain ⟨idn, ids, now, saved, kept, hf⟩ := hI _ _ hIk
      obtain ⟨m, ⟨hm, hm2⟩, hfile⟩ := hf.file
      have hne : made ≠ [] := by rintro rfl; simp at hlt
      have hm3 := hm2 hne
      subst hm3
      have hz : ((0:Int) ≤ (k:Int) ∧ (k:Int) < (made.length : Nat)) := by omega
      have hlt' : (k : Int) < (made.length : Int) := by omega
      have hd := flat_drop hlt
      have hl2 : k * 2 + 2 ≤ (flat made).length := by rw [flat_length]; omega
      simp only [↓Bt, Bu, simprocAttr, ↓C.z49, C.z2, f0, f1, f6, f7, hlt', hfile, hz, Int.toNat_natCast, hl2, hd, hb]
      refine (hstep k hlt s hIk).mono ?_
      intro v s' hI'
      have hw : IntKind.i64.wrap ((k : Int) + 1) = ((k + 1 : Nat) : Int) := by rw [wrap64] <;> omega
      simp only [↓Bt, Bu, simprocAttr, ↓C.z49, C.z2, f0, f1, f6, f7, hw]
      refine ⟨⟨k + 1, by omega, rfl, hI'⟩, by omega⟩
    · have : k = made.length := by omega
      subst this
      have hlt' : ¬ (((made.length : Nat) : Int) < (made.length : Int)) := by omega
      simp only [↓Bt, Bu, simprocAttr, ↓C.z49, C.z2, f0, f1, f6, f7, hlt']
      exact hIk

theorem save1_spec (h : FileAt st id idn ids made now saved kept) {fb : Nat} (hfb : st.h fb = some (.cells [.ptr id 0])) {i : Nat} (hi : i < made.length) (r : Reg) :
    ACalls Tryz.prog F.q114 [.int .i64 i, .agg (encReg r), .ptr fb 0] st fun _ st' => st' = if r.ret then st.set ids (.cells (u32s (saved.set i (now.getD i 0)))) else st := by
  obtain ⟨m, ⟨hm, _⟩, hf⟩ := h.file
  have hin : i < now.length := by rw [h.ln]; exact hi
  have his : i < saved.length := by rw [h.ls]; exact hi
  have hz : ((0:Int) ≤ (i:Int) ∧ (i:Int) < (made.length : Nat)) := by omega
  refine ACalls.gc (Q' := fun _ st' => (if r.ret then st.set ids (.cells (u32s (saved.set i (now.getD i 0)))) else st).le st') (calls_of_awp L.q114 rfl ?_) (fun v st' h => ⟨_, h, rfl⟩)
  simp only [↓Bt, Bu, simprocAttr, ↓C.q114_W, C.q114_B, C.q114, encReg]
  intro box hbox
  cases hr : r.ret
  · simp only [↓Bt, Bu, simprocAttr, ↓C.q114_W, C.q114_B, C.q114, hbox, hr]
    exact ASt.le.new _ _ _
  · simp only [↓Bt, Bu, simprocAttr, ↓C.q114_W, C.q114_B, C.q114, hbox, hr, hfb, hf, hz, h.hnow, h.hsaved, Int.toNat_natCast, Nat.mul_one, u32s_get hin, u32s_length, his, u32s_set]
    have : now.getD i 0 = now[i] := by simp [hin]
    rw [this]
    exact ASt.le.set_new _ _ _ _ _

theorem FileAt.withSaved (h : FileAt st id idn ids made now saved kept) {s' : List Int} (hl : s'.length = made.length) : FileAt (st.set ids (.cells (u32s s'))) id idn ids made now s' kept := by
  obtain ⟨⟨m, h1, h2⟩, h3, h4, h5, h6, h7, h8, h9, h10⟩ := h
  exact ⟨⟨m, h1, by rw [ASt.set_h, if_neg h8]; exact h2⟩, by rw [ASt.set_h, if_neg h9]; exact h3, by rw [ASt.set_h, if_pos rfl, h4]; rfl, h5, hl, h7, h8, h9, h10⟩

theorem FileAt.withNow (h : FileAt st id idn ids made now saved kept) {s' : List Int} (hl : s'.length = made.length) : FileAt (st.set idn (.cells (u32s s'))) id idn ids made s' saved kept := by
  obtain ⟨⟨m, h1, h2⟩, h3, h4, h5, h6, h7, h8, h9, h10⟩ := h
  exact ⟨⟨m, h1, by rw [ASt.set_h, if_neg h7]; exact h2⟩, by rw [ASt.set_h, if_pos rfl, h3]; rfl, by rw [ASt.set_h, if_neg (Ne.symm h9)]; exact h4, hl, h6, h7, h8, h9, h10⟩

theorem FileAt.withKept (h : FileAt st id idn ids made now saved kept) {m : AV} (hm : MadeAs made m) (b : Bool) : FileAt (st.set id (.cells [m, .sl 1 idn 0 made.length, .sl 1 ids 0 made.length, .bool b])) id idn ids made now saved b := by
  obtain ⟨⟨m', h1, h2⟩, h3, h4, h5, h6, h7, h8, h9, h10⟩ := h
  exact ⟨⟨m, hm, by rw [ASt.set_h, if_pos rfl, h2]; rfl⟩, by rw [ASt.set_h, if_neg (Ne.symm h7)]; exact h3, by rw [ASt.set_h, if_neg (Ne.symm h8)]; exact h4, h5, h6, h7, h8, h9, h10⟩

def savedUp (made : List Reg) (now saved : List Int) : Nat → List Int
  | 0 => saved
  | i + 1 => if (made[i]?.map (·.ret)).getD false then (savedUp made now saved i).set i (now.getD i 0) else savedUp made now saved i

theorem savedUp_length (made : List Reg) (now saved : List Int) (i : Nat) : (savedUp made now saved i).length = saved.length := by
  induction i with
  | zero => rfl
  | succ i ih => simp only [savedUp]; split <;> simp [ih]

def upTo (val : Nat → Int) (l : List Int) : Nat → List Int
  | 0 => l
  | i + 1 => (upTo val l i).set i (val i)

theorem upTo_length (val : Nat → Int) (l : List Int) (i : Nat) : (upTo val l i).length = l.length := by
  induction i with
  | zero => rfl
  | succ i ih => simp [upTo, ih]

theorem L_hasBody_Save_1 : hasBody Tryz.prog F.q114 = true := by kernel_rfl
theorem L_hasBody_become_1 : hasBody Tryz.prog F.q117 = true := by kernel_rfl
theorem L_hasBody_Restore_1 : hasBody Tryz.prog F.q112 = true := by kernel_rfl
theorem L_hasBody_Clear_1 : hasBody Tryz.prog F.q108 = true := by kernel_rfl

theorem save_spec (h : FileAt st id idn ids made now saved kept) : ACalls Tryz.prog F.q113 [.ptr id 0] st fun _ st' =>
    FileAt st' id idn ids made now (savedUp made now saved made.length) true ∧ st.off [id, idn, ids] st' := by
  obtain ⟨m, hm, hf⟩ := h.file
  refine ACalls.gc (Q' := fun _ st' => ((st.set ids (.cells (u32s (savedUp made now saved made.length)))).set id (.cells [m, .sl 1 idn 0 made.length, .sl 1 ids 0 made.length, .bool true])).le st')
    (calls_of_awp L.q113 rfl ?_) (fun v st' hl => ⟨_, hl, (h.withSaved (by rw [savedUp_length]; exact h.ls)).withKept hm true, ((ASt.off.refl _ _).set _ (by simp)).set _ (by simp)⟩)
  simp only [↓Bt, Bu, simprocAttr, ↓C.q113_W, C.q113_B, C.q113]
  intro fb hfb
  simp only [↓Bt, Bu, simprocAttr, hfb]
  have hbase : FileAt (st.new fb (.cells [.ptr id 0])) id idn ids made now saved kept := h.le (ASt.le.new _ _ _)
  have hfbx : fb ≠ ids := ASt.ne hfb h.hsaved
  have hstep : ∀ i, FileAt ((st.new fb (.cells [.ptr id 0])).set ids (.cells (u32s (savedUp made now saved i)))) id idn ids made now (savedUp made now saved i) kept := fun i => hbase.withSaved (by rw [savedUp_length]; exact h.ls)
  refine (each_spec (made := made) L_hasBody_Save_1 (fun i s => s = (st.new fb (.cells [.ptr id 0])).set ids (.cells (u32s (savedUp made now saved i)))) ?_ ?_ ?_).mono ?_
  · rintro i s rfl
    exact ⟨_, _, _, _, _, hstep i⟩
  · rw [ASt.set_self]; exact hbase.hsaved
  · rintro i hi s rfl
    refine (save1_spec (hstep i) (fb := fb) (by rw [ASt.set_h, if_neg hfbx]; exact ASt.new_self _ hfb) hi _).mono ?_
    rintro v s' rfl
    simp only [savedUp, List.getElem?_eq_getElem hi, Option.map_some, Option.getD_some]
    split
    · rw [ASt.set_set]
    · rfl
  · rintro v s rfl
    have hne : id ≠ ids := h.n2
    simp only [↓Bt, Bu, simprocAttr, ↓C.q113_W, C.q113_B, C.q113, hfb, hfbx, hne, hf]
    exact (ASt.le.set_new _ _ _ _ _).set _ _

theorem become1_spec (h : FileAt st id idn ids made now saved kept) {fb wb g : Nat} {cap : List AV} (hfb : st.h fb = some (.cells [.ptr id 0])) (hwb : st.h wb = some (.cells [.fn g cap])) {i : Nat} (hi : i < made.length) (v : Int)
    (hb : hasBody Tryz.prog g = true) (hg : ∀ s, st.le s → ACalls Tryz.prog g ([.int .i64 i, .agg (encReg made[i])] ++ cap) s fun r s' => s' = s ∧ r = .int .u32 v) :
    ACalls Tryz.prog F.q117 [.int .i64 i, .agg (encReg made[i]), .ptr wb 0, .ptr fb 0] st fun _ st' => st' = st.set idn (.cells (u32s (now.set i v))) := by
  obtain ⟨m, ⟨hm, _⟩, hf⟩ := h.file
  have hin : i < now.length := by rw [h.ln]; exact hi
  have hz : ((0:Int) ≤ (i:Int) ∧ (i:Int) < (made.length : Nat)) := by omega
  refine ACalls.gc (Q' := fun _ st' => (st.set idn (.cells (u32s (now.set i v)))).le st') (calls_of_awp L.q117 rfl ?_) (fun v st' h => ⟨_, h, rfl⟩)
  simp only [↓Bt, Bu, simprocAttr, ↓C.q117_W, C.q117_B, C.q117]
  intro box hbox
  simp only [↓Bt, Bu, simprocAttr, ↓C.q117_W, C.q117_B, C.q117, hbox, hfb, hwb, hf, hb]
  refine (hg _ (ASt.le.new _ _ _)).mono ?_
  rintro r s' ⟨rfl, rfl⟩
  simp only [↓Bt, Bu, simprocAttr, ↓C.q117_W, C.q117_B, C.q117, hbox, hfb, hwb, hf, hb, hz, h.hnow, Int.toNat_natCast, Nat.mul_one, u32s_length, hin, u32s_set]
  exact ASt.le.set_new _ _ _ _ _

theorem become_spec (h : FileAt st id idn ids made now saved kept) {g : Nat} {cap : List AV} (val : Nat → Int) (hb : hasBody Tryz.prog g = true)
    (hg : ∀ i (hi : i < made.length) s, (st.set idn (.cells (u32s (upTo val now i)))).le s → ACalls Tryz.prog g ([.int .i64 i, .agg (encReg made[i])] ++ cap) s fun r s' => s' = s ∧ r = .int .u32 (val i)) :
    ACalls Tryz.prog F.q116 [.ptr id 0, .fn g cap] st fun _ st' => st' = st.set idn (.cells (u32s (upTo val now made.length))) := by
  obtain ⟨m, hm, hf⟩ := h.file
  refine ACalls.gc (Q' := fun _ st' => (st.set idn (.cells (u32s (upTo val now made.length)))).le st') (calls_of_awp L.q116 rfl ?_) (fun v st' hl => ⟨_, hl, rfl⟩)
  simp only [↓Bt, Bu, simprocAttr, ↓C.q116_W, C.q116_B, C.q116]
  intro fb hfb
  simp only [↓Bt, Bu, simprocAttr, hfb]
  intro wb hwb
  obtain ⟨hwb1, hwf⟩ := hwb
  have hbase : FileAt ((st.new fb (.cells [.ptr id 0])).new wb (.cells [.fn g cap])) id idn ids made now saved kept := h.le ((ASt.le.new _ _ _).trans (ASt.le.new _ _ _))
  have hfbx : fb ≠ idn := ASt.ne hfb h.hnow
  have hwbx : wb ≠ idn := ASt.ne hwb1 h.hnow
  have hstep : ∀ i, FileAt (((st.new fb (.cells [.ptr id 0])).new wb (.cells [.fn g cap])).set idn (.cells (u32s (upTo val now i)))) id idn ids made (upTo val now i) saved kept := fun i => hbase.withNow (by rw [upTo_length]; exact h.ln)
  refine (each_spec (made := made) L_hasBody_become_1 (fun i s => s = ((st.new fb (.cells [.ptr id 0])).new wb (.cells [.fn g cap])).set idn (.cells (u32s (upTo val now i)))) ?_ ?_ ?_).mono ?_
  · rintro i s rfl
    exact ⟨_, _, _, _, _, hstep i⟩
  · rw [show upTo val now 0 = now from rfl, ASt.set_self]; exact hbase.hnow
  · rintro i hi s rfl
    refine (become1_spec (hstep i) (fb := fb) (wb := wb) (g := g) (cap := cap) ?_ ?_ hi (val i) hb ?_).mono ?_
    · simp only [↓Bt, Bu, simprocAttr, hfbx, hfb]
    · simp only [↓Bt, Bu, simprocAttr, hwbx, hwb1, hwf]
    · intro s hs
      exact hg i hi s ((((ASt.le.new _ _ _).trans (ASt.le.new _ _ _)).set _ _).trans hs)
    · rintro v s' rfl
      rw [ASt.set_set]; rfl
  · rintro v s rfl
    exact ((ASt.le.new _ _ _).trans (ASt.le.new _ _ _)).set _ _

theorem clear1_spec {s : ASt} (i : Int) (r : Reg) : ACalls Tryz.prog F.q108 [.int .i64 i, .agg (encReg r)] s fun v s' => s' = s ∧ v = .int .u32 r.reset := by
  refine ACalls.gc (Q' := fun v st' => s.le st' ∧ v = .int .u32 r.reset) (calls_of_awp L.q108 rfl ?_) (fun v st' h => ⟨s, h.1, rfl, h.2⟩)
  simp only [↓Bt, Bu, simprocAttr, ↓C.q108_W, C.q108_B, C.q108, encReg]
  intro box hbox
  simp only [↓Bt, Bu, simprocAttr, hbox]
  exact ASt.le.new _ _ _

theorem restore1_spec (h : FileAt st id idn ids made now saved kept) {fb : Nat} (hfb : st.h fb = some (.cells [.ptr id 0])) {i : Nat} (hi : i < made.length) (r : Reg) :
    ACalls Tryz.prog F.q112 [.int .i64 i, .agg (encReg r), .ptr fb 0] st fun v st' => st' = st ∧ v = .int .u32 (if kept && r.ret then saved.getD i 0 else r.reset) := by
  obtain ⟨m, ⟨hm, _⟩, hf⟩ := h.file
  have his : i < saved.length := by rw [h.ls]; exact hi
  have hz : ((0:Int) ≤ (i:Int) ∧ (i:Int) < (made.length : Nat)) := by omega
  refine ACalls.gc (Q' := fun v st' => st.le st' ∧ v = .int .u32 (if kept && r.ret then saved.getD i 0 else r.reset)) (calls_of_awp L.q112 rfl ?_) (fun v st' h => ⟨st, h.1, rfl, h.2⟩)
  simp only [↓Bt, Bu, simprocAttr, ↓C.q112_W, C.q112_B, C.q112, encReg]
  intro box hbox
  cases kept
  · simp only [↓Bt, Bu, simprocAttr, hbox, hfb, hf, Bool.false_and]
    exact ASt.le.new _ _ _
  · cases hr : r.ret
    · simp only [↓Bt, Bu, simprocAttr, hbox, hfb, hf, hr]
      exact ⟨ASt.le.new _ _ _, by simp⟩
    · simp only [↓Bt, Bu, simprocAttr, hbox, hfb, hf, hr, hz, h.hsaved, Int.toNat_natCast, Nat.mul_one, u32s_get his]
      refine ⟨ASt.le.new _ _ _, ?_⟩
      simp [his]

def restored (made : List Reg) (saved : List Int) (kept : Bool) (i : Nat) : Int := if kept && (made[i]?.map (·.ret)).getD false then saved.getD i 0 else (made[i]?.map (·.reset)).getD 0
def resets (made : List Reg) (i : Nat) : Int := (made[i]?.map (·.reset)).getD 0

theorem restore_spec (h : FileAt st id idn ids made now saved kept) : ACalls Tryz.prog F.q111 [.ptr id 0] st fun _ st' =>
    FileAt st' id idn ids made (upTo (restored made saved kept) now made.length) saved kept ∧ st.off [id, idn, ids] st' := by
  obtain ⟨m, hm, hf⟩ := h.file
  refine ACalls.gc (Q' := fun _ st' => (st.set idn (.cells (u32s (upTo (restored made saved kept) now made.length)))).le st')
    (calls_of_awp L.q111 rfl ?_) (fun v st' hl => ⟨_, hl, h.withNow (by rw [upTo_length]; exact h.ln), (ASt.off.refl _ _).set _ (by simp)⟩)
  simp only [↓Bt, Bu, simprocAttr, ↓C.q111_W, C.q111_B, C.q111]
  intro fb hfb
  simp only [↓Bt, Bu, simprocAttr, hfb]
  have hbase : FileAt (st.new fb (.cells [.ptr id 0])) id idn ids made now saved kept := h.le (ASt.le.new _ _ _)
  have hfbx : fb ≠ idn := ASt.ne hfb h.hnow
  refine (become_spec hbase (restored made saved kept) L_hasBody_Restore_1 ?_).mono ?_
  · intro i hi s hs
    have hfile := (hbase.withNow (s' := upTo (restored made saved kept) now i) (by rw [upTo_length]; exact h.ln)).le hs
    refine (restore1_spec hfile (fb := fb) (hs _ _ (by simp only [↓Bt, Bu, simprocAttr, hfbx, hfb])) hi _).mono ?_
    rintro v s' ⟨rfl, rfl⟩
    simp [restored, hi]
  · rintro v s rfl
    exact ASt.le.set_new _ _ _ _ _

theorem clear_spec (h : FileAt st id idn ids made now saved kept) : ACalls Tryz.prog F.q107 [.ptr id 0] st fun _ st' =>
    FileAt st' id idn ids made (upTo (resets made) now made.length) saved false ∧ st.off [id, idn, ids] st' := by
  obtain ⟨m, hm, hf⟩ := h.file
  have hne : id ≠ idn := h.n1
  refine ACalls.gc (Q' := fun _ st' => ((st.set idn (.cells (u32s (upTo (resets made) now made.length)))).set id (.cells [m, .sl 1 idn 0 made.length, .sl 1 ids 0 made.length, .bool false])).le st')
    (calls_of_awp L.q107 rfl ?_) (fun v st' hl => ⟨_, hl, (h.withNow (by rw [upTo_length]; exact h.ln)).withKept hm false, ((ASt.off.refl _ _).set _ (by simp)).set _ (by simp)⟩)
  simp only [↓Bt, Bu, simprocAttr, ↓C.q107_W, C.q107_B, C.q107]
  refine (become_spec h (resets made) L_hasBody_Clear_1 ?_).mono ?_
  · intro i hi s hs
    refine (clear1_spec i _).mono ?_
    rintro v s' ⟨rfl, rfl⟩
    simp [resets, hi]
  · rintro v s rfl
    simp only [↓Bt, Bu, simprocAttr, ↓C.q107_W, C.q107_B, C.q107, hne, hf]
    exact ASt.le.refl _

end
/- Registers: what is made, picked, gathered. -/
set_option maxRecDepth 100000

def tab (n : Nat) (f : Nat → Int) : List Int := (List.range n).map f
theorem tab_length (n : Nat) (f : Nat → Int) : (tab n f).length = n := by simp [tab]
theorem tab_getD {n i : Nat} (f : Nat → Int) (h : i < n) : (tab n f).getD i 0 = f i := by simp [tab, h]
theorem tab_set (n i : Nat) (f : Nat → Int) (v : Int) : (tab n f).set i v = tab n fun j => if j = i then v else f j := by
  apply List.ext_getElem
  · simp [tab]
  · intro j h1 h2
    simp only [tab, List.length_map, List.length_range] at h2
    simp only [tab, List.getElem_set, List.getElem_map, List.getElem_range]
    by_cases e : i = j
    · rw [if_pos e, if_pos e.symm]
    · rw [if_neg e, if_neg (Ne.symm e)]
theorem tab_congr {n : Nat} {f g : Nat → Int} (h : ∀ i, i < n → f i = g i) : tab n f = tab n g := by
  apply List.map_congr_left
  intro i hi; exact h i (by simpa using hi)
theorem upTo_tab (n : Nat) (f : Nat → Int) (val : Nat → Int) (i : Nat) : upTo val (tab n f) i = tab n fun j => if j < i then val j else f j := by
  induction i with
  | zero => simp [upTo]
  | succ i ih =>
    rw [upTo, ih, tab_set]
    apply tab_congr
    intro j _
    by_cases e : j = i
    · subst e; simp
    · rw [if_neg e]
      by_cases h : j < i
      · rw [if_pos h, if_pos (by omega)]
      · rw [if_neg h, if_neg (by omega)]
theorem upTo_full (n : Nat) (f : Nat → Int) (val : Nat → Int) : upTo val (tab n f) n = tab n val := by
  rw [upTo_tab]; exact tab_congr fun i hi => by rw [if_pos hi]

def retOf (made : List Reg) (i : Nat) : Bool := (made[i]?.map (·.ret)).getD false

theorem savedUp_tab {made : List Reg} (N S : Nat → Int) (i : Nat) (hi : i ≤ made.length) : savedUp made (tab made.length N) (tab made.length S) i = tab made.length fun j => if j < i ∧ retOf made j = true then N j else S j := by
  induction i with
  | zero => simp [savedUp]
  | succ i ih =>
    rw [savedUp, ih (by omega)]
    by_cases hr : retOf made i = true
    · have hr' := hr
      unfold retOf at hr'
      rw [if_pos hr', tab_getD _ (by omega), tab_set]
      apply tab_congr
      intro j _
      by_cases e : j = i
      · subst e; simp [hr]
      · rw [if_neg e]
        have : (j < i + 1 ∧ retOf made j = true) ↔ (j < i ∧ retOf made j = true) := by constructor <;> (rintro ⟨a, b⟩; exact ⟨by omega, b⟩)
        simp only [this]
    · have hr' := hr
      unfold retOf at hr'
      rw [if_neg hr']
      apply tab_congr
      intro j _
      have : (j < i + 1 ∧ retOf made j = true) ↔ (j < i ∧ retOf made j = true) := by
        constructor
        · rintro ⟨a, b⟩
          refine ⟨?_, b⟩
          rcases Nat.lt_or_ge j i with h | h
          · exact h
          · have : j = i := by omega
            subst this; exact absurd b hr
        · rintro ⟨a, b⟩; exact ⟨by omega, b⟩
      simp only [this]

abbrev FileF (st : ASt) (id idn ids : Nat) (made : List Reg) (N S : Nat → Int) (kept : Bool) : Prop := FileAt st id idn ids made (tab made.length N) (tab made.length S) kept

theorem FileF.congr {st : ASt} {id idn ids : Nat} {made : List Reg} {N S N' S' : Nat → Int} {kept : Bool} (h : FileF st id idn ids made N S kept) (hN : ∀ i, i < made.length → N i = N' i) (hS : ∀ i, i < made.length → S i = S' i) : FileF st id idn ids made N' S' kept := by
  unfold FileF at h ⊢
  rwa [tab_congr hN, tab_congr hS] at h

section
variable {st : ASt} {id idn ids : Nat} {made : List Reg} {N S : Nat → Int} {kept : Bool}

theorem read_at (h : FileF st id idn ids made N S kept) {i : Nat} (hi : i < made.length) : ACalls Tryz.prog F.q110 [.ptr id 0, .int .i64 i] st fun v st' => st' = st ∧ v = .tup [.int .u32 (N i), .int .i64 0] := by
  refine (read_spec h i).mono ?_
  rintro v st' ⟨rfl, rfl⟩
  refine ⟨rfl, ?_⟩
  rw [if_pos (by omega), Int.toNat_natCast, tab_getD _ hi]

theorem write_at (h : FileF st id idn ids made N S kept) {i : Nat} (hi : i < made.length) (x : Int) : ACalls Tryz.prog F.q115 [.ptr id 0, .int .i64 i, .int .u32 x] st fun v st' =>
    v = .int .i64 0 ∧ FileF st' id idn ids made (fun j => if j = i then x else N j) S kept ∧ st.off [id, idn, ids] st' := by
  refine (write_spec h i x).mono ?_
  rintro v st' hq
  rw [if_pos (by omega), Int.toNat_natCast, tab_set] at hq
  obtain ⟨rfl, rfl⟩ := hq
  exact ⟨rfl, FileAt.withNow h (tab_length _ _), (ASt.off.refl _ _).set _ (by simp)⟩

theorem save_f (h : FileF st id idn ids made N S kept) : ACalls Tryz.prog F.q113 [.ptr id 0] st fun _ st' =>
    FileF st' id idn ids made N (fun j => if retOf made j = true then N j else S j) true ∧ st.off [id, idn, ids] st' := by
  refine (save_spec h).mono ?_
  rintro v st' ⟨h1, h2⟩
  rw [savedUp_tab _ _ _ (Nat.le_refl _)] at h1
  refine ⟨?_, h2⟩
  have : tab made.length (fun j => if j < made.length ∧ retOf made j = true then N j else S j) = tab made.length (fun j => if retOf made j = true then N j else S j) := tab_congr fun i hi => by simp only [hi, true_and]
  rwa [this] at h1

theorem restore_f (h : FileF st id idn ids made N S kept) : ACalls Tryz.prog F.q111 [.ptr id 0] st fun _ st' =>
    FileF st' id idn ids made (fun j => if (kept && retOf made j) = true then S j else resets made j) S kept ∧ st.off [id, idn, ids] st' := by
  refine (restore_spec h).mono ?_
  rintro v st' ⟨h1, h2⟩
  rw [upTo_full] at h1
  refine ⟨?_, h2⟩
  have : tab made.length (restored made (tab made.length S) kept) = tab made.length (fun j => if (kept && retOf made j) = true then S j else resets made j) := tab_congr fun i hi => by
    simp only [restored, retOf, resets, tab_getD _ hi]
    rfl
  rwa [this] at h1

theorem clear_f (h : FileF st id idn ids made N S kept) : ACalls Tryz.prog F.q107 [.ptr id 0] st fun _ st' =>
    FileF st' id idn ids made (resets made) S false ∧ st.off [id, idn, ids] st' := by
  refine (clear_spec h).mono ?_
  rintro v st' ⟨h1, h2⟩
  rw [upTo_full] at h1
  exact ⟨h1, h2⟩
end

structure Readable (st : ASt) (l : List Reg) (v : AV) : Prop where
  len : v.slen = some l.length
  seen : st.seen (l.length * 2) v = some (flat l)
  nil : (∃ b, v.isNil 1 = some b ∧ (b = true → l = [])) ∨ (v = .isl 2 [] 0 ∧ l = [])
  small : l.length ≤ 4294967296

theorem Readable.le {st st' : ASt} {l : List Reg} {v : AV} (h : Readable st l v) (hl : st.le st') : Readable st' l v := ⟨h.len, ASt.seen_le hl h.seen, h.nil, h.small⟩
theorem Readable.nils (st : ASt) : Readable st [] .nils := ⟨rfl, rfl, .inl ⟨true, rfl, fun _ => rfl⟩, by simp⟩
theorem Readable.nn (st : ASt) : Readable st [] .nn := ⟨rfl, rfl, .inl ⟨false, rfl, fun e => by cases e⟩, by simp⟩
theorem Readable.isl (st : ASt) {l : List Reg} (h : l.length ≤ 4294967296) : Readable st l (.isl 2 (flat l) l.length) :=
  ⟨rfl, by simp only [ASt.seen, flat_length, Nat.le_refl, if_true]; rw [← flat_length, List.take_length], (by
    cases l with
    | nil => exact .inr ⟨rfl, rfl⟩
    | cons x l => exact .inl ⟨false, rfl, fun e => by cases e⟩), h⟩
theorem Readable.sl {st : ASt} {l : List Reg} {id : Nat} (h : st.h id = some (.cells (flat l))) (hs : l.length ≤ 4294967296) : Readable st l (.sl 2 id 0 l.length) :=
  ⟨rfl, by simp only [ASt.seen, h, flat_length, Nat.zero_add, Nat.le_refl, if_true, List.drop_zero]; rw [← flat_length, List.take_length], .inl ⟨false, rfl, fun e => by cases e⟩, hs⟩

theorem clone_spec0 {st : ASt} {l : List Reg} {v : AV} (h : Readable st l v) {b : Bool} (hb : v.isNil 1 = some b) (hb2 : b = true → l = []) : ACalls Tryz.prog F.q126 [v] st fun r st' => MadeAs l r ∧ st' = st := by
  refine ACalls.ghost (Q' := fun r st' => (MadeAs l r ∧ st.le st') ∨ ∃ id, r = .sl 2 id 0 l.length ∧ st'.h id = some (.cells (flat l)) ∧ st.h id = none ∧ st.le st') (calls_of_awp L.q126 rfl ?_) ?_
  · cases b
    · simp only [↓Bt, Bu, simprocAttr, ↓C.q126_W, C.q126_B, C.q126, hb]
      intro id hid
      have hs := ASt.seen_le (ASt.le.new st id (.cells [])) h.seen
      have hsm : l.length ≤ 4294967296 := h.small
      simp only [↓Bt, Bu, simprocAttr, ↓C.q126_W, C.q126_B, C.q126, hb, h.len, hs, hid, hsm, flat_leaf]
      by_cases h0 : l.length = 0
      · simp only [↓Bt, Bu, simprocAttr, h0]
        left
        refine ⟨⟨?_, fun hne => absurd (List.eq_nil_of_length_eq_zero h0) hne⟩, ASt.le.new _ _ _⟩
        simp [AV.slen, h0]
      · simp only [↓Bt, Bu, simprocAttr, h0]
        rintro id' ⟨hx, hx2⟩
        right
        refine ⟨id', rfl, ?_, hx, ((ASt.le.new _ _ _).unkill hid).trans (ASt.le.new _ _ _)⟩
        simp only [↓Bt, Bu, simprocAttr, hx, hx2]
    · have hl := hb2 rfl
      subst hl
      simp only [↓Bt, Bu, simprocAttr, ↓C.q126_W, C.q126_B, C.q126, hb]
      left
      exact ⟨⟨rfl, fun hne => absurd rfl hne⟩, ASt.le.refl _⟩
  · rintro r st' (⟨h1, h2⟩ | ⟨id, rfl, h1, h2, h3⟩)
    · exact ⟨r, st, Ghost.sub h2, h1, rfl⟩
    · exact ⟨_, st, (Ghost.freeze h1).trans (Ghost.sub (h3.unkill h2)), ⟨rfl, fun _ => rfl⟩, rfl⟩

theorem clone_spec {st : ASt} {l : List Reg} {v : AV} (h : Readable st l v) : ACalls Tryz.prog F.q126 [v] st fun r st' => MadeAs l r ∧ st' = st := by
  rcases h.nil with ⟨b, hb, hb2⟩ | ⟨rfl, rfl⟩
  · exact clone_spec0 h hb hb2
  · exact ACalls.empty (a := []) (b := []) (clone_spec0 (Readable.nils st) (b := true) rfl fun _ => rfl) (clone_spec0 (Readable.nn st) (b := false) rfl fun e => by cases e)

theorem zeros_u32 (n : Nat) : zeros [.int .u32 0] n = u32s (tab n fun _ => 0) := by
  induction n with
  | zero => rfl
  | succ n ih =>
    rw [zeros, ih]
    simp only [u32s, tab, List.range_succ_eq_map, List.map_cons, List.map_map]
    rfl

theorem rgnew_spec {st : ASt} {l : List Reg} {v : AV} (h : Readable st l v) (hl : l.length ≤ 8) : ACalls Tryz.prog F.q119 [v] st fun r st' =>
    ∃ id idn ids, r = .tup [.ptr id 0, .int .i64 0] ∧ FileF st' id idn ids l (resets l) (fun _ => 0) false ∧ st.le st' ∧ st.h id = none ∧ st.h idn = none ∧ st.h ids = none := by
  have hl' : ¬ ((8 : Int) < (l.length : Nat)) := by omega
  have hsm : l.length ≤ 4294967296 := h.small
  have hz : (0 : Int) ≤ (l.length : Nat) ∧ ((l.length : Nat) : Int) ≤ 4294967296 := by omega
  refine calls_of_awp L.q119 rfl ?_
  simp only [↓Bt, Bu, simprocAttr, ↓C.q119_W, C.q119_B, C.q119, h.len, hl', hz, Int.toNat_natCast, zeros_u32]
  refine (clone_spec h).mono ?_
  rintro m st' ⟨hm, rfl⟩
  have hmp : m.part = some [m] := by
    rcases hm with ⟨h1, h2⟩
    cases m <;> first | rfl | cases h1
  simp only [↓Bt, Bu, simprocAttr, ↓C.q119_W, C.q119_B, C.q119, hmp, hz, Int.toNat_natCast, zeros_u32]
  rintro idn hidn ids ⟨hids, e1⟩ id ⟨⟨hid, e3⟩, e2⟩
  have e1' : ¬ idn = ids := fun e => e1 e.symm
  have e2' : ¬ ids = id := fun e => e2 e.symm
  have e3' : ¬ idn = id := fun e => e3 e.symm
  have hfile : FileF (((st'.new idn (.cells (u32s (tab l.length fun _ => 0)))).new ids (.cells (u32s (tab l.length fun _ => 0)))).new id (.cells [m, .sl 1 idn 0 l.length, .sl 1 ids 0 l.length, .bool false])) id idn ids l (fun _ => 0) (fun _ => 0) false :=
    ⟨⟨m, hm, by simp [ASt.new_o, hid, e2, e3]⟩, by simp [ASt.new_o, hidn], by simp [ASt.new_o, hids, e1], tab_length _ _, tab_length _ _, e3, e2, e1', hl⟩
  try simp only [↓Bt, Bu, simprocAttr, ↓C.q119_W, C.q119_B, C.q119]
  refine (clear_f hfile).mono ?_
  rintro v st2 ⟨h1, h2⟩
  simp only [↓Bt, Bu, simprocAttr, ↓C.q119_W, C.q119_B, C.q119]
  refine ⟨id, idn, ids, rfl, h1, ?_, hid, hidn, hids⟩
  intro i o hi
  have hin : i ∉ [id, idn, ids] := by
    simp only [List.mem_cons, List.not_mem_nil, or_false, not_or]
    refine ⟨?_, ?_, ?_⟩ <;> (rintro rfl; simp_all)
  rw [h2 i hin]
  exact ((ASt.le.new _ _ _).trans ((ASt.le.new _ _ _).trans (ASt.le.new _ _ _))) i o hi

/- Fields of words, addresses; channels. -/
set_option maxRecDepth 100000

theorem ashift_shl {k : IntKind} {a b : Int} (h : 0 ≤ b) : ashift .shl k a b = some (.int k (k.wrap (a * 2 ^ (min b.toNat k.bits)))) := by rw [ashift, if_neg (by omega)]
theorem ashift_shr {k : IntKind} {a b : Int} (h : 0 ≤ b) : ashift .shr k a b = some (.int k (a.fdiv (2 ^ (min b.toNat k.bits)))) := by rw [ashift, if_neg (by omega)]
def maskV (many at_ : Int) : Int := IntKind.u32.wrap (IntKind.u64.wrap (IntKind.u64.wrap (IntKind.u64.wrap (1 * 2 ^ (min many.toNat 64)) - 1) * 2 ^ (min at_.toNat 64)))
def getV (w low many : Int) : Int := IntKind.u32.wrap (BitVec.ofInt 32 (w.fdiv (2 ^ (min low.toNat 32))) &&& BitVec.ofInt 32 (maskV many 0)).toNat
theorem L_field1 : hasBody Tryz.prog F.q3 = true := by kernel_rfl
theorem mask_spec {st : ASt} {b : Nat} {many at_ : Int} (hb : st.h b = some (.cells [.int .i64 many])) (hm : 0 ≤ many) (ha : 0 ≤ at_) :
    ACalls Tryz.prog F.q3 [.int .i64 at_, .ptr b 0] st fun r s => r = .int .u32 (maskV many at_) ∧ s = st := by
  refine calls_of_awp L.q3 rfl ?_
  have e64 : IntKind.bits .u64 = 64 := rfl
  simp only [↓Bt, Bu, simprocAttr, ↓C.q3_W, C.q3_B, C.q3, hb, ashift_shl hm, ashift_shl ha, e64, maskV]
theorem field_spec {st : ASt} {low many : Int} (hm : 1 ≤ many ∧ many ≤ 32) (hl : 0 ≤ low ∧ low ≤ 32 - many) :
    ACalls Tryz.prog F.q2 [.int .i64 low, .int .i64 many] st fun r s => ∃ b, r = .tup [.fn F.q3 [.ptr b 0], .bool true] ∧ s.h b = some (.cells [.int .i64 many]) ∧ st.le s := by
  refine calls_of_awp L.q2 rfl ?_
  have h1 : ¬ many < 1 := by omega
  have h2 : ¬ 32 < many := by omega
  have h3 : ¬ low < 0 := by omega
  have w : IntKind.i64.wrap (32 - many) = 32 - many := by rw [wrap64] <;> omega
  have h4 : ¬ 32 - many < low := by omega
  simp only [↓Bt, Bu, simprocAttr, ↓C.q2_W, C.q2_B, C.q2, gt_iff_lt]
  intro b hb
  have hbs := ASt.new_self (.cells [.int .i64 many]) hb
  simp only [↓Bt, Bu, simprocAttr, ↓C.q2_W, C.q2_B, C.q2, hb, h1, h2, h3, w, h4, gt_iff_lt]
  exact ⟨b, rfl, by simp [hb], ASt.le.new _ _ _⟩
theorem get_spec {st : ASt} {x low many : Int} (hm : 1 ≤ many ∧ many ≤ 32) (hl : 0 ≤ low ∧ low ≤ 32 - many) :
    ACalls Tryz.prog F.q0 [.int .u32 x, .int .i64 low, .int .i64 many] st fun r s => r = .tup [.int .u32 (getV x low many), .int .i64 0] ∧ s = st := by
  refine ACalls.gc (Q' := fun r s => r = .tup [.int .u32 (getV x low many), .int .i64 0] ∧ st.le s) (calls_of_awp L.q0 rfl ?_) (fun v s ⟨h, hl⟩ => ⟨st, hl, h, rfl⟩)
  simp only [↓Bt, Bu, simprocAttr, ↓C.q0_W, C.q0_B, C.q0]
  refine (field_spec hm hl).mono ?_
  rintro r s ⟨b, rfl, hb, hle⟩
  have e32 : IntKind.bits .u32 = 32 := rfl
  simp only [↓Bt, Bu, simprocAttr, ↓C.q0_W, C.q0_B, C.q0, L_field1, ashift_shr hl.1, e32]
  refine (mask_spec hb (by omega) (by omega)).mono ?_
  rintro r s2 ⟨rfl, rfl⟩
  simp only [↓Bt, Bu, simprocAttr, ↓C.q0_W, C.q0_B, C.q0, e32]
  exact ⟨rfl, hle⟩
def putV (w low many v : Int) : Int := IntKind.u32.wrap (BitVec.ofInt 32 (IntKind.u32.wrap (BitVec.ofInt 32 w &&& ~~~BitVec.ofInt 32 (maskV many low)).toNat) ||| BitVec.ofInt 32 (IntKind.u32.wrap (v * 2 ^ (min low.toNat 32)))).toNat
theorem put_spec {st : ASt} {x low many v : Int} (hm : 1 ≤ many ∧ many ≤ 32) (hl : 0 ≤ low ∧ low ≤ 32 - many) (hv : IntKind.u32.wrap (BitVec.ofInt 32 v &&& ~~~BitVec.ofInt 32 (maskV many 0)).toNat = 0) :
    ACalls Tryz.prog F.q1 [.int .u32 x, .int .i64 low, .int .i64 many, .int .u32 v] st fun r s => r = .tup [.int .u32 (putV x low many v), .int .i64 0] ∧ s = st := by
  refine ACalls.gc (Q' := fun r s => r = .tup [.int .u32 (putV x low many v), .int .i64 0] ∧ st.le s) (calls_of_awp L.q1 rfl ?_) (fun v s ⟨h, hl⟩ => ⟨st, hl, h, rfl⟩)
  simp only [↓Bt, Bu, simprocAttr, ↓C.q1_W, C.q1_B, C.q1]
  refine (field_spec hm hl).mono ?_
  rintro r s ⟨b, rfl, hb, hle⟩
  have e32 : IntKind.bits .u32 = 32 := rfl
  simp only [↓Bt, Bu, simprocAttr, ↓C.q1_W, C.q1_B, C.q1, L_field1]
  refine (mask_spec hb (by omega) (by omega)).mono ?_
  rintro r s2 ⟨rfl, rfl⟩
  have hv' : IntKind.u32.wrap (BitVec.ofInt IntKind.u32.bits v &&& ~~~BitVec.ofInt IntKind.u32.bits (maskV many 0)).toNat = 0 := hv
  simp only [↓Bt, Bu, simprocAttr, ↓C.q1_W, C.q1_B, C.q1, e32, hv', L_field1, ashift_shl hl.1]
  refine (mask_spec hb (by omega) hl.1).mono ?_
  rintro r s2 ⟨rfl, rfl⟩
  simp only [↓Bt, Bu, simprocAttr, ↓C.q1_W, C.q1_B, C.q1, e32]
  exact ⟨rfl, hle⟩
theorem part_spec {st : ASt} {x low many : Int} (hm : 1 ≤ many ∧ many ≤ 32) (hl : 0 ≤ low ∧ low ≤ 32 - many) :
    ACalls Tryz.prog F.q11 [.int .u32 x, .int .i64 low, .int .i64 many] st fun r s => r = .int .i64 (IntKind.i64.wrap (getV x low many)) ∧ s = st := by
  refine calls_of_awp L.q11 rfl ?_
  simp only [↓Bt, Bu, simprocAttr, ↓C.q11_W, C.q11_B, C.q11]
  refine (get_spec hm hl).mono ?_
  rintro r s ⟨rfl, rfl⟩
  simp only [↓Bt, Bu, simprocAttr, ↓C.q11_W, C.q11_B, C.q11]
def addrV (d k : Nat) : Int := ((65536 * d + 4 * k : Nat) : Int)
theorem addr_get : ∀ d < 4, ∀ k < 4, IntKind.i64.wrap (getV (addrV d k) 0 2) = 0 ∧ IntKind.i64.wrap (getV (addrV d k) 24 8) = 0 ∧ IntKind.i64.wrap (getV (addrV d k) 16 8) = (d : Int) ∧ IntKind.i64.wrap (getV (addrV d k) 2 14) = (k : Int) := by decide +kernel
theorem split_spec {st : ASt} {d k : Nat} (hd : d < 4) (hk : k < 4) : ACalls Tryz.prog F.q10 [.int .u32 (addrV d k)] st fun r s => r = .tup [.int .i64 d, .int .i64 k] ∧ s = st := by
  obtain ⟨h1, h2, h3, h4⟩ := addr_get d hd k hk
  refine calls_of_awp L.q10 rfl ?_
  simp only [↓Bt, Bu, simprocAttr, ↓C.q10_W, C.q10_B, C.q10]
  refine (part_spec (by omega) (by omega)).mono ?_
  rintro r s ⟨rfl, rfl⟩
  simp only [↓Bt, Bu, simprocAttr, ↓C.q10_W, C.q10_B, C.q10, h1]
  refine (part_spec (by omega) (by omega)).mono ?_
  rintro r s ⟨rfl, rfl⟩
  simp only [↓Bt, Bu, simprocAttr, ↓C.q10_W, C.q10_B, C.q10, h1, h2]
  refine (part_spec (by omega) (by omega)).mono ?_
  rintro r s ⟨rfl, rfl⟩
  simp only [↓Bt, Bu, simprocAttr, ↓C.q10_W, C.q10_B, C.q10, h3]
  refine (part_spec (by omega) (by omega)).mono ?_
  rintro r s ⟨rfl, rfl⟩
  simp only [↓Bt, Bu, simprocAttr, ↓C.q10_W, C.q10_B, C.q10, h4]
theorem addr_put : ∀ d < 4, ∀ k < 4, IntKind.u32.wrap (BitVec.ofInt 32 (IntKind.u32.wrap (d : Nat)) &&& ~~~BitVec.ofInt 32 (maskV 8 0)).toNat = 0 ∧ IntKind.u32.wrap (BitVec.ofInt 32 (IntKind.u32.wrap (k : Nat)) &&& ~~~BitVec.ofInt 32 (maskV 14 0)).toNat = 0 ∧
    putV (putV 0 16 8 (IntKind.u32.wrap (d : Nat))) 2 14 (IntKind.u32.wrap (k : Nat)) = addrV d k := by decide +kernel
theorem address_spec {st : ASt} {d k : Nat} (hd : d < 4) (hk : k < 4) : ACalls Tryz.prog F.q4 [.int .i64 d, .int .i64 k] st fun r s => r = .tup [.int .u32 (addrV d k), .int .i64 0] ∧ s = st := by
  obtain ⟨h1, h2, h3⟩ := addr_put d hd k hk
  have a1 : ¬ (d : Int) < 0 := by omega
  have a2 : ¬ (256 : Int) ≤ (d : Int) := by omega
  have a3 : ¬ (k : Int) < 0 := by omega
  have a4 : ¬ (16384 : Int) ≤ (k : Int) := by omega
  refine calls_of_awp L.q4 rfl ?_
  simp only [↓Bt, Bu, simprocAttr, ↓C.q4_W, C.q4_B, C.q4, a1, a2, a3, a4]
  refine (put_spec (by omega) (by omega) h1).mono ?_
  rintro r s ⟨rfl, rfl⟩
  simp only [↓Bt, Bu, simprocAttr, ↓C.q4_W, C.q4_B, C.q4]
  refine (put_spec (by omega) (by omega) h2).mono ?_
  rintro r s ⟨rfl, rfl⟩
  simp only [↓Bt, Bu, simprocAttr, ↓C.q4_W, C.q4_B, C.q4, h3]

-- channels
section
variable {st : ASt} {p : Nat} {x y : Int}
def PortAt (st : ASt) (p : Nat) (x y : Int) : Prop := st.h p = some (.cells [.int .i64 x, .int .i64 y])
def qtick (x y : Int) (active deny : Bool) : Int × Int := if x = 1 then (if deny = true then (3, IntKind.i64.wrap (y + 1)) else if active = false then (2, 0) else (1, y)) else (x, y)
theorem qtick_spec (h : PortAt st p x y) (a d : Bool) : ACalls Tryz.prog F.q105 [.ptr p 0, .bool a, .bool d] st fun r s => s = st.set p (.cells [.int .i64 (qtick x y a d).1, .int .i64 (qtick x y a d).2]) := by
  have hs : st.set p (.cells [.int .i64 x, .int .i64 y]) = st := ASt.ext' fun i => by
    rw [ASt.set_h]; split
    · rename_i e; subst e; rw [show st.h i = _ from h]; rfl
    · rfl
  refine calls_of_awp L.q105 rfl ?_
  unfold PortAt at h
  unfold qtick
  by_cases h0 : x = 1
  · subst h0
    rw [if_pos rfl]
    cases d
    · cases a
      · simp only [↓Bt, Bu, simprocAttr, ↓C.q105_W, C.q105_B, C.q105, h]
        simp [ASt.set_set]
      · simp only [↓Bt, Bu, simprocAttr, ↓C.q105_W, C.q105_B, C.q105, h]
        exact hs.symm
    · simp only [↓Bt, Bu, simprocAttr, ↓C.q105_W, C.q105_B, C.q105, h]
      simp [ASt.set_set]
  · rw [if_neg h0]
    simp only [↓Bt, Bu, simprocAttr, ↓C.q105_W, C.q105_B, C.q105, h, h0]
    exact hs.symm
theorem qnew_spec (st : ASt) : ACalls Tryz.prog F.q106 [] st fun r s => ∃ p, st.h p = none ∧ r = .ptr p 0 ∧ s = st.new p (.cells [.int .i64 0, .int .i64 0]) := by
  refine calls_of_awp L.q106 rfl ?_
  simp only [↓Bt, Bu, simprocAttr, ↓C.q106_W, C.q106_B, C.q106]
  intro p hp
  exact ⟨p, hp, rfl, rfl⟩
end
/- The chip: where its parts lie, and what each holds. -/
set_option maxRecDepth 100000

structure Txn where
  id : Int
  write : Bool
  reg : Int
  value : Int
def Txn.cells (t : Txn) : List AV := [.int .i64 t.id, .bool t.write, .int .i64 t.reg, .int .u32 t.value]
structure FSt where
  now : Nat → Int
  saved : Nat → Int
  kept : Bool
structure HA where
  hp : Nat
  tp : Nat
  tg : Nat
  gp : Nat
  gg : Nat
  lp : Nat
  lm : Nat
  bp : Nat
  br : Nat
  bw : Nat
  dv : Nat
  fp : Nat → Nat
  fn : Nat → Nat
  fs : Nat → Nat
  pp : Nat → Nat
structure HV where
  ns : List Nd
  gs : List Gd
  ls : List Ln
  F : Nat → FSt
  O : Nat → Int × Int
  Q : Nat → List Txn
  posted : Int
structure LInv (R : List Int) (ls : List Ln) : Prop where
  len : ls.length = R.length
  least : ∀ i (h : i < ls.length) (h' : i < R.length), ls[i].least = R[i]
  left : ∀ x ∈ ls, 0 ≤ x.left ∧ x.left ≤ 20
  bd : ∀ x ∈ R, 0 ≤ x ∧ x ≤ 20
def Keeps (T : Nat → Nat) (k : Nat) (s s' : ASt) : Prop := ∀ j o, s.h j = some o → T j ≠ k → s'.h j = some o
theorem Keeps.refl (T : Nat → Nat) (k : Nat) (s : ASt) : Keeps T k s s := fun _ _ h _ => h
theorem Keeps.of_le {T : Nat → Nat} {k : Nat} {s s' : ASt} (h : s.le s') : Keeps T k s s' := fun j o hj _ => h j o hj
theorem Keeps.set {T : Nat → Nat} {k : Nat} {s : ASt} {i : Nat} {o : AObj} (h : T i = k) : Keeps T k s (s.set i o) := fun j x hj hn => by
  rw [ASt.set_h, if_neg (by rintro rfl; exact hn h)]; exact hj
theorem Keeps.off {T : Nat → Nat} {k : Nat} {s s' : ASt} {l : List Nat} (h : s.off l s') (hl : ∀ j ∈ l, T j = k) : Keeps T k s s' := fun j x hj hn => by
  rw [h j (fun hm => hn (hl j hm))]; exact hj
theorem Keeps.trans {T : Nat → Nat} {k : Nat} {a b c : ASt} (h : Keeps T k a b) (h2 : Keeps T k b c) : Keeps T k a c := fun j o hj hn => h2 j o (h j o hj hn) hn
theorem Keeps.at_ {T : Nat → Nat} {k : Nat} {s s' : ASt} (h : Keeps T k s s') {x m : Nat} {o : AObj} (hx : s.h x = some o) (ht : T x = m) (hm : m ≠ k) : s'.h x = some o := h x o hx (by rw [ht]; exact hm)
structure HC (st s : ASt) (ib : Nat) (a : HA) (T : Nat → Nat) (S : Soc) (v : HV) (m : Nat) : Prop where
  le : st.le s
  tag0 : ∀ j, st.h j ≠ none → T j = 0
  hb : s.h ib = some (.cells S.cells)
  Tb : T ib = 7
  tree : TreeAt s a.tp a.tg v.ns
  Tt : T a.tp = 2 ∧ T a.tg = 2
  grid : GridAt s a.gp a.gg v.gs
  Tg : T a.gp = 3 ∧ T a.gg = 3
  lines : LinesAt s a.lp a.lm v.ls
  Tl : T a.lp = 4 ∧ T a.lm = 4
  files : ∀ i (h : i < S.devs.length), i < m → FileF s (a.fp i) (a.fn i) (a.fs i) S.devs[i].regs (v.F i).now (v.F i).saved (v.F i).kept ∧ T (a.fp i) = 10 + 3 * i ∧ T (a.fn i) = 10 + 3 * i ∧ T (a.fs i) = 10 + 3 * i
  ports : ∀ i, i < m → s.h (a.pp i) = some (.cells [.int .i64 (v.O i).1, .int .i64 (v.O i).2]) ∧ T (a.pp i) = 11 + 3 * i ∧ 0 ≤ (v.O i).1 ∧ (v.O i).1 ≤ 3
  kof : KOf S.clocks v.ns
  ginv : GInv S.doms v.gs
  linv : LInv S.rsts v.ls
section
variable {st s s' : ASt} {ib m : Nat} {a : HA} {T : Nat → Nat} {S : Soc} {v : HV}
theorem TreeAt.kept {k p ig : Nat} {ns : List Nd} (h : TreeAt s p ig ns) (ht : T p = 2 ∧ T ig = 2) (hk : Keeps T k s s') (h2 : 2 ≠ k) : TreeAt s' p ig ns :=
  ⟨hk.at_ h.hp ht.1 h2, hk.at_ h.hg ht.2 h2, h.ne, h.few⟩
theorem GridAt.kept {k p ig : Nat} {gs : List Gd} (h : GridAt s p ig gs) (ht : T p = 3 ∧ T ig = 3) (hk : Keeps T k s s') (h2 : 3 ≠ k) : GridAt s' p ig gs :=
  ⟨hk.at_ h.hp ht.1 h2, hk.at_ h.hg ht.2 h2, h.ne, h.few⟩
theorem LinesAt.kept {k p ig : Nat} {ls : List Ln} (h : LinesAt s p ig ls) (ht : T p = 4 ∧ T ig = 4) (hk : Keeps T k s s') (h2 : 4 ≠ k) : LinesAt s' p ig ls :=
  ⟨hk.at_ h.hp ht.1 h2, hk.at_ h.hm ht.2 h2⟩
theorem FileAt.kept {k t p n q : Nat} {made : List Reg} {N Sv : List Int} {b : Bool} (h : FileAt s p n q made N Sv b) (ht : T p = t ∧ T n = t ∧ T q = t) (hk : Keeps T k s s') (h2 : t ≠ k) : FileAt s' p n q made N Sv b := by
  obtain ⟨⟨m, h1, h2'⟩, h3, h4, h5, h6, h7, h8, h9, h10⟩ := h
  exact ⟨⟨m, h1, hk.at_ h2' ht.1 h2⟩, hk.at_ h3 ht.2.1 h2, hk.at_ h4 ht.2.2 h2, h5, h6, h7, h8, h9, h10⟩
theorem HC.base (h : HC st s ib a T S v m) {k : Nat} (hk : Keeps T k s s') (hn : k ≠ 0) : st.le s' := fun j o hj =>
  hk j o (h.le j o hj) (by rw [h.tag0 j (by rw [hj]; simp)]; exact Ne.symm hn)
theorem HC.keep (h : HC st s ib a T S v m) {k : Nat} (hk : Keeps T k s s') (hn : k = 1 ∨ k = 5 ∨ k = 6 ∨ ∃ i, k = 12 + 3 * i) : HC st s' ib a T S v m where
  le := h.base hk (by omega)
  tag0 := h.tag0
  hb := hk.at_ h.hb h.Tb (by omega)
  Tb := h.Tb
  tree := h.tree.kept h.Tt hk (by omega)
  Tt := h.Tt
  grid := h.grid.kept h.Tg hk (by omega)
  Tg := h.Tg
  lines := h.lines.kept h.Tl hk (by omega)
  Tl := h.Tl
  files := fun i hi hm => ⟨(h.files i hi hm).1.kept (h.files i hi hm).2 hk (by omega), (h.files i hi hm).2⟩
  ports := fun i hm => ⟨hk.at_ (h.ports i hm).1 (h.ports i hm).2.1 (by omega), (h.ports i hm).2⟩
  kof := h.kof
  ginv := h.ginv
  linv := h.linv
theorem HC.retag (h : HC st s ib a T S v m) {T' : Nat → Nat} (hT : ∀ j, s.h j ≠ none → T' j = T j) : HC st s ib a T' S v m where
  le := h.le
  tag0 := fun j hj => by
    have : s.h j ≠ none := by
      cases e : st.h j with
      | none => exact absurd e hj
      | some o => rw [h.le _ _ e]; simp
    rw [hT j this]; exact h.tag0 j hj
  hb := h.hb
  Tb := by rw [hT ib (by rw [h.hb]; simp)]; exact h.Tb
  tree := h.tree
  Tt := ⟨by rw [hT a.tp (by rw [h.tree.hp]; simp)]; exact h.Tt.1, by rw [hT a.tg (by rw [h.tree.hg]; simp)]; exact h.Tt.2⟩
  grid := h.grid
  Tg := ⟨by rw [hT a.gp (by rw [h.grid.hp]; simp)]; exact h.Tg.1, by rw [hT a.gg (by rw [h.grid.hg]; simp)]; exact h.Tg.2⟩
  lines := h.lines
  Tl := ⟨by rw [hT a.lp (by rw [h.lines.hp]; simp)]; exact h.Tl.1, by rw [hT a.lm (by rw [h.lines.hm]; simp)]; exact h.Tl.2⟩
  files := fun i hi hm => by
    obtain ⟨hf, t1, t2, t3⟩ := h.files i hi hm
    obtain ⟨⟨mm, h1, h2⟩, h3, h4, _⟩ := hf
    exact ⟨(h.files i hi hm).1, by rw [hT _ (by rw [h2]; simp)]; exact t1, by rw [hT _ (by rw [h3]; simp)]; exact t2, by rw [hT _ (by rw [h4]; simp)]; exact t3⟩
  ports := fun i hm => ⟨(h.ports i hm).1, by rw [hT _ (by rw [(h.ports i hm).1]; simp)]; exact (h.ports i hm).2.1, (h.ports i hm).2.2⟩
  kof := h.kof
  ginv := h.ginv
  linv := h.linv
theorem HC.putTree (h : HC st s ib a T S v m) {ns' : List Nd} (hK : KOf S.clocks ns') : HC st (s.set a.tg (nsC ns')) ib a T S { v with ns := ns' } m :=
  have hk : Keeps T 2 s (s.set a.tg (nsC ns')) := Keeps.set h.Tt.2
  { le := h.base hk (by omega), tag0 := h.tag0, hb := hk.at_ h.hb h.Tb (by omega), Tb := h.Tb, tree := h.tree.set (by rw [hK.len, h.kof.len]), Tt := h.Tt, grid := h.grid.kept h.Tg hk (by omega), Tg := h.Tg,
    lines := h.lines.kept h.Tl hk (by omega), Tl := h.Tl, files := fun i hi hm => ⟨(h.files i hi hm).1.kept (h.files i hi hm).2 hk (by omega), (h.files i hi hm).2⟩,
    ports := fun i hm => ⟨hk.at_ (h.ports i hm).1 (h.ports i hm).2.1 (by omega), (h.ports i hm).2⟩, kof := hK, ginv := h.ginv, linv := h.linv }
theorem HC.putGrid (h : HC st s ib a T S v m) {gs' : List Gd} (hG : GInv S.doms gs') : HC st (s.set a.gg (gsC gs')) ib a T S { v with gs := gs' } m :=
  have hk : Keeps T 3 s (s.set a.gg (gsC gs')) := Keeps.set h.Tg.2
  { le := h.base hk (by omega), tag0 := h.tag0, hb := hk.at_ h.hb h.Tb (by omega), Tb := h.Tb, tree := h.tree.kept h.Tt hk (by omega), Tt := h.Tt, grid := h.grid.set (by rw [hG.len, h.ginv.len]), Tg := h.Tg,
    lines := h.lines.kept h.Tl hk (by omega), Tl := h.Tl, files := fun i hi hm => ⟨(h.files i hi hm).1.kept (h.files i hi hm).2 hk (by omega), (h.files i hi hm).2⟩,
    ports := fun i hm => ⟨hk.at_ (h.ports i hm).1 (h.ports i hm).2.1 (by omega), (h.ports i hm).2⟩, kof := h.kof, ginv := hG, linv := h.linv }
theorem HC.putLines (h : HC st s ib a T S v m) {ls' : List Ln} (hl : LInv S.rsts ls') : HC st (s.set a.lm (lnsE ls')) ib a T S { v with ls := ls' } m :=
  have hk : Keeps T 4 s (s.set a.lm (lnsE ls')) := Keeps.set h.Tl.2
  { le := h.base hk (by omega), tag0 := h.tag0, hb := hk.at_ h.hb h.Tb (by omega), Tb := h.Tb, tree := h.tree.kept h.Tt hk (by omega), Tt := h.Tt, grid := h.grid.kept h.Tg hk (by omega), Tg := h.Tg,
    lines := h.lines.set ls', Tl := h.Tl, files := fun i hi hm => ⟨(h.files i hi hm).1.kept (h.files i hi hm).2 hk (by omega), (h.files i hi hm).2⟩,
    ports := fun i hm => ⟨hk.at_ (h.ports i hm).1 (h.ports i hm).2.1 (by omega), (h.ports i hm).2⟩, kof := h.kof, ginv := h.ginv, linv := hl }
def upF {α : Type} (f : Nat → α) (i : Nat) (x : α) : Nat → α := fun j => if j = i then x else f j
theorem upF_at {α : Type} (f : Nat → α) (i : Nat) (x : α) : upF f i x i = x := if_pos rfl
theorem upF_ne {α : Type} {f : Nat → α} {i j : Nat} {x : α} (h : j ≠ i) : upF f i x j = f j := if_neg h
theorem HC.putFile (h : HC st s ib a T S v m) {i : Nat} (hi : i < S.devs.length) {f : FSt} (ho : s.off [a.fp i, a.fn i, a.fs i] s') (him : i < m) (hf : FileF s' (a.fp i) (a.fn i) (a.fs i) S.devs[i].regs f.now f.saved f.kept) :
    HC st s' ib a T S { v with F := upF v.F i f } m :=
  have ht := (h.files i hi him).2
  have hk : Keeps T (10 + 3 * i) s s' := Keeps.off ho fun j hj => by
    simp only [List.mem_cons, List.not_mem_nil, or_false] at hj
    rcases hj with rfl | rfl | rfl
    · exact ht.1
    · exact ht.2.1
    · exact ht.2.2
  { le := h.base hk (by omega), tag0 := h.tag0, hb := hk.at_ h.hb h.Tb (by omega), Tb := h.Tb, tree := h.tree.kept h.Tt hk (by omega), Tt := h.Tt, grid := h.grid.kept h.Tg hk (by omega), Tg := h.Tg,
    lines := h.lines.kept h.Tl hk (by omega), Tl := h.Tl,
    files := fun j hj hm => by
      by_cases e : j = i
      · subst e
        refine ⟨?_, (h.files j hj hm).2⟩
        show FileF s' _ _ _ _ (upF v.F j f j).now (upF v.F j f j).saved (upF v.F j f j).kept
        rw [upF_at]; exact hf
      · refine ⟨?_, (h.files j hj hm).2⟩
        show FileF s' _ _ _ _ (upF v.F i f j).now (upF v.F i f j).saved (upF v.F i f j).kept
        rw [upF_ne e]; exact (h.files j hj hm).1.kept (h.files j hj hm).2 hk (by omega),
    ports := fun j hm => ⟨hk.at_ (h.ports j hm).1 (h.ports j hm).2.1 (by omega), (h.ports j hm).2⟩, kof := h.kof, ginv := h.ginv, linv := h.linv }
theorem HC.putPort (h : HC st s ib a T S v m) {i : Nat} (him : i < m) (x y : Int) (hx : 0 ≤ x ∧ x ≤ 3) : HC st (s.set (a.pp i) (.cells [.int .i64 x, .int .i64 y])) ib a T S { v with O := upF v.O i (x, y) } m :=
  have ht := (h.ports i him).2.1
  have hk : Keeps T (11 + 3 * i) s (s.set (a.pp i) (.cells [.int .i64 x, .int .i64 y])) := Keeps.set ht
  { le := h.base hk (by omega), tag0 := h.tag0, hb := hk.at_ h.hb h.Tb (by omega), Tb := h.Tb, tree := h.tree.kept h.Tt hk (by omega), Tt := h.Tt, grid := h.grid.kept h.Tg hk (by omega), Tg := h.Tg,
    lines := h.lines.kept h.Tl hk (by omega), Tl := h.Tl, files := fun j hj hm => ⟨(h.files j hj hm).1.kept (h.files j hj hm).2 hk (by omega), (h.files j hj hm).2⟩,
    ports := fun j hm => by
      by_cases e : j = i
      · subst e
        refine ⟨?_, (h.ports j hm).2.1, ?_⟩
        · show _ = some (AObj.cells [.int .i64 (upF v.O j (x, y) j).1, .int .i64 (upF v.O j (x, y) j).2])
          rw [upF_at, ASt.set_h, if_pos rfl, (h.ports j hm).1]; rfl
        · show 0 ≤ (upF v.O j (x, y) j).1 ∧ (upF v.O j (x, y) j).1 ≤ 3
          rw [upF_at]; exact hx
      · refine ⟨?_, (h.ports j hm).2.1, ?_⟩
        · show _ = some (AObj.cells [.int .i64 (upF v.O i (x, y) j).1, .int .i64 (upF v.O i (x, y) j).2])
          rw [upF_ne e]; exact hk.at_ (h.ports j hm).1 (h.ports j hm).2.1 (by omega)
        · show 0 ≤ (upF v.O i (x, y) j).1 ∧ (upF v.O i (x, y) j).1 ≤ 3
          rw [upF_ne e]; exact (h.ports j hm).2.2,
    kof := h.kof, ginv := h.ginv, linv := h.linv }
end
def devC (S : Soc) (a : HA) (i : Nat) : List AV :=
  match S.devs[i]? with
  | some d => [.int .i64 d.clock, .int .i64 d.dom, .int .i64 d.rst, .int .u32 d.clamp, .ptr (a.fp i) 0, .ptr (a.pp i) 0]
  | none => [.int .i64 0, .int .i64 0, .int .i64 0, .int .u32 0, .nilp, .nilp]
theorem devC_len (S : Soc) (a : HA) (i : Nat) : (devC S a i).length = 6 := by unfold devC; split <;> rfl
def devsC (S : Soc) (a : HA) (n : Nat) : List AV := (List.range n).flatMap (devC S a)
inductive QAt (s : ASt) (T : Nat → Nat) (t : Nat) : AV → List Txn → Prop
  | nil : QAt s T t .nils []
  | emp : QAt s T t .emp []
  | sl (id off : Nat) (pre : List AV) (q : List Txn) (h : s.h id = some (.cells (pre ++ q.flatMap Txn.cells))) (hp : pre.length = off) (ht : T id = t) : QAt s T t (.sl 4 id off q.length) q
theorem QAt.kept {s s' : ASt} {T : Nat → Nat} {t : Nat} {v : AV} {q : List Txn} {k : Nat} (h : QAt s T t v q) (hk : Keeps T k s s') (h5 : t ≠ k) : QAt s' T t v q := by
  cases h with
  | nil => exact .nil
  | emp => exact .emp
  | sl id off pre q h hp ht => exact .sl id off pre q (hk.at_ h ht h5) hp ht
theorem QAt.retag {s : ASt} {T T' : Nat → Nat} {t : Nat} {v : AV} {q : List Txn} (h : QAt s T t v q) (hT : ∀ j, s.h j ≠ none → T' j = T j) : QAt s T' t v q := by
  cases h with
  | nil => exact .nil
  | emp => exact .emp
  | sl id off pre q h hp ht => exact .sl id off pre q h hp (by rw [hT id (by rw [h]; simp)]; exact ht)
theorem QAt.len {s : ASt} {T : Nat → Nat} {t : Nat} {v : AV} {q : List Txn} (h : QAt s T t v q) : v.slen = some q.length := by cases h <;> rfl
structure BusAt (s : ASt) (T : Nat → Nat) (a : HA) (S : Soc) (Q : Nat → List Txn) (posted : Int) : Prop where
  hp : s.h a.bp = some (.cells [.sl 1 a.br 0 S.devs.length, .sl 1 a.bw 0 S.devs.length, .int .i64 posted])
  hr : s.h a.br = some (.cells (ints (S.devs.map fun d => (d.regs.length : Int))))
  hw : ∃ W : List AV, s.h a.bw = some (.cells W) ∧ W.length = S.devs.length ∧ ∀ i (h : i < W.length), QAt s T (12 + 3 * i) W[i] (Q i)
  t : T a.bp = 5 ∧ T a.br = 5 ∧ T a.bw = 5
  n1 : a.bp ≠ a.br
  n2 : a.bp ≠ a.bw
  n3 : a.br ≠ a.bw
theorem BusAt.kept {s s' : ASt} {T : Nat → Nat} {a : HA} {S : Soc} {Q : Nat → List Txn} {posted : Int} {k : Nat} (h : BusAt s T a S Q posted) (hk : Keeps T k s s') (h5 : 5 ≠ k) (h6 : ∀ i, 12 + 3 * i ≠ k) : BusAt s' T a S Q posted where
  hp := hk.at_ h.hp h.t.1 h5
  hr := hk.at_ h.hr h.t.2.1 h5
  hw := by
    obtain ⟨W, h1, h2, h3⟩ := h.hw
    exact ⟨W, hk.at_ h1 h.t.2.2 h5, h2, fun i hi => (h3 i hi).kept hk (h6 i)⟩
  t := h.t
  n1 := h.n1
  n2 := h.n2
  n3 := h.n3
structure HH (st s : ASt) (ib : Nat) (a : HA) (T : Nat → Nat) (S : Soc) (v : HV) : Prop where
  c : HC st s ib a T S v S.devs.length
  hh : s.h a.hp = some (.cells [.ptr a.tp 0, .ptr a.gp 0, .ptr a.lp 0, .ptr a.bp 0, .sl 6 a.dv 0 S.devs.length])
  Th : T a.hp = 1
  bus : BusAt s T a S v.Q v.posted
  devs : s.h a.dv = some (.cells (devsC S a S.devs.length))
  Td : T a.dv = 6
section
variable {st s s' : ASt} {ib : Nat} {a : HA} {T : Nat → Nat} {S : Soc} {v : HV}
theorem HH.with (h : HH st s ib a T S v) {k : Nat} (hk : Keeps T k s s') (hn : k ≠ 1 ∧ k ≠ 5 ∧ k ≠ 6 ∧ ∀ i, 12 + 3 * i ≠ k) {v' : HV} (hc : HC st s' ib a T S v' S.devs.length) (hq : v'.Q = v.Q) (hp : v'.posted = v.posted) : HH st s' ib a T S v' :=
  ⟨hc, hk.at_ h.hh h.Th (by omega), h.Th, by rw [hq, hp]; exact h.bus.kept hk (by omega) hn.2.2.2, hk.at_ h.devs h.Td (by omega), h.Td⟩
theorem HH.putTree (h : HH st s ib a T S v) {ns' : List Nd} (hK : KOf S.clocks ns') : HH st (s.set a.tg (nsC ns')) ib a T S { v with ns := ns' } :=
  h.with (k := 2) (Keeps.set h.c.Tt.2) (by refine ⟨?_, ?_, ?_, fun i => ?_⟩ <;> omega) (h.c.putTree hK) rfl rfl
theorem HH.putGrid (h : HH st s ib a T S v) {gs' : List Gd} (hG : GInv S.doms gs') : HH st (s.set a.gg (gsC gs')) ib a T S { v with gs := gs' } :=
  h.with (k := 3) (Keeps.set h.c.Tg.2) (by refine ⟨?_, ?_, ?_, fun i => ?_⟩ <;> omega) (h.c.putGrid hG) rfl rfl
theorem HH.putLines (h : HH st s ib a T S v) {ls' : List Ln} (hl : LInv S.rsts ls') : HH st (s.set a.lm (lnsE ls')) ib a T S { v with ls := ls' } :=
  h.with (k := 4) (Keeps.set h.c.Tl.2) (by refine ⟨?_, ?_, ?_, fun i => ?_⟩ <;> omega) (h.c.putLines hl) rfl rfl
theorem HH.putFile (h : HH st s ib a T S v) {i : Nat} (hi : i < S.devs.length) {f : FSt} (ho : s.off [a.fp i, a.fn i, a.fs i] s') (hf : FileF s' (a.fp i) (a.fn i) (a.fs i) S.devs[i].regs f.now f.saved f.kept) :
    HH st s' ib a T S { v with F := upF v.F i f } :=
  have ht := (h.c.files i hi hi).2
  h.with (k := 10 + 3 * i) (Keeps.off ho fun j hj => by
    simp only [List.mem_cons, List.not_mem_nil, or_false] at hj
    rcases hj with rfl | rfl | rfl
    · exact ht.1
    · exact ht.2.1
    · exact ht.2.2) (by refine ⟨?_, ?_, ?_, fun j => ?_⟩ <;> omega) (h.c.putFile hi ho hi hf) rfl rfl
theorem HH.putPort (h : HH st s ib a T S v) {i : Nat} (hi : i < S.devs.length) (x y : Int) (hx : 0 ≤ x ∧ x ≤ 3) : HH st (s.set (a.pp i) (.cells [.int .i64 x, .int .i64 y])) ib a T S { v with O := upF v.O i (x, y) } :=
  h.with (k := 11 + 3 * i) (Keeps.set (h.c.ports i hi).2.1) (by refine ⟨?_, ?_, ?_, fun j => ?_⟩ <;> omega) (h.c.putPort hi x y hx) rfl rfl
theorem HH.step (h : HH st s ib a T S v) (hl : s.le s') : HH st s' ib a T S v :=
  h.with (k := 100) (Keeps.of_le hl) (by refine ⟨?_, ?_, ?_, fun j => ?_⟩ <;> omega) { le := h.c.le.trans hl, tag0 := h.c.tag0, hb := hl _ _ h.c.hb, Tb := h.c.Tb, tree := h.c.tree.le hl, Tt := h.c.Tt, grid := h.c.grid.le hl, Tg := h.c.Tg, lines := h.c.lines.le hl, Tl := h.c.Tl, files := fun i hi hm => ⟨(h.c.files i hi hm).1.le hl, (h.c.files i hi hm).2⟩, ports := fun i hm => ⟨hl _ _ (h.c.ports i hm).1, (h.c.ports i hm).2⟩, kof := h.c.kof, ginv := h.c.ginv, linv := h.c.linv } rfl rfl
end
/- The chip: what its methods do that are of one part. -/
set_option maxRecDepth 100000

theorem LInv.assert {R : List Int} {ls : List Ln} (h : LInv R ls) (i : Int) : LInv R (assertL ls i) := by
  unfold assertL
  split
  · rename_i hi
    have hil : i.toNat < ls.length := by have := hi.1; have := hi.2; omega
    have hx : lnOf ls i = ls[i.toNat] := by
      have := lnOf_at hil
      rwa [show ((i.toNat : Nat) : Int) = i by have := hi.1; omega] at this
    refine ⟨by simpa using h.len, fun j hj hj' => ?_, fun x hx' => ?_, h.bd⟩
    · simp only [List.getElem_set]
      split
      · rename_i e; subst e
        simp only [hx]; exact h.least _ _ _
      · exact h.least _ _ _
    · rcases List.mem_or_eq_of_mem_set hx' with hm | rfl
      · exact h.left x hm
      · simp only [hx]
        have h1 := h.least i.toNat hil (by rw [← h.len]; exact hil)
        have := h.bd _ (List.getElem_mem (show i.toNat < R.length by rw [← h.len]; exact hil))
        rw [h1]; omega
  · exact h
theorem LInv.release {R : List Int} {ls : List Ln} (h : LInv R ls) (i : Int) : LInv R (releaseL ls i) := by
  unfold releaseL
  split
  · rename_i hi
    have hil : i.toNat < ls.length := by have := hi.1.1; have := hi.1.2; omega
    have hx : lnOf ls i = ls[i.toNat] := by
      have := lnOf_at hil
      rwa [show ((i.toNat : Nat) : Int) = i by have := hi.1.1; omega] at this
    refine ⟨by simpa using h.len, fun j hj hj' => ?_, fun x hx' => ?_, h.bd⟩
    · simp only [List.getElem_set]
      split
      · rename_i e; subst e
        simp only [hx]; exact h.least _ _ _
      · exact h.least _ _ _
    · rcases List.mem_or_eq_of_mem_set hx' with hm | rfl
      · exact h.left x hm
      · simp only [hx]
        exact h.left _ (List.getElem_mem hil)
  · exact h
theorem tick1_same (x : Ln) : (tick1 x).least = x.least := by
  unfold tick1; split
  · split
    · rfl
    · split <;> rfl
  · rfl
theorem LInv.tick {R : List Int} {ls : List Ln} (h : LInv R ls) : LInv R (tickL ls) := by
  refine ⟨by simpa [tickL] using h.len, fun j hj hj' => ?_, fun x hx' => ?_, h.bd⟩
  · simp only [tickL, List.getElem_map, tick1_same]; exact h.least _ _ _
  · obtain ⟨y, hy, rfl⟩ := List.mem_map.mp hx'
    have := h.left y hy
    unfold tick1; split
    · split
      · simp only; omega
      · split <;> exact this
    · exact this
theorem LInv.fresh {R : List Int} (h : ∀ x ∈ R, 0 ≤ x ∧ x ≤ 20) : LInv R (freshL R) := by
  refine ⟨by simp [freshL], fun j hj hj' => by simp [freshL], fun x hx' => ?_, h⟩
  obtain ⟨y, hy, rfl⟩ := List.mem_map.mp hx'
  simp
section
variable {st s s' : ASt} {ib : Nat} {a : HA} {T : Nat → Nat} {S : Soc} {v : HV}
theorem devC_get {i j : Nat} {c : AV} (hi : i < S.devs.length) (hj : j < 6) (hc : (devC S a i)[j]? = some c) : (devsC S a S.devs.length)[i * 6 + j]? = some c := by
  have : ((List.range S.devs.length).flatMap (devC S a))[i * 6 + j]? = (devC S a ((List.range S.devs.length)[i]'(by simpa using hi)))[j]? := rows_get (devC S a) (w := 6) (devC_len S a) (by simpa using hi) hj
  rw [devsC, this]; simpa using hc
theorem devC_eq {i : Nat} (hi : i < S.devs.length) : devC S a i = [.int .i64 S.devs[i].clock, .int .i64 S.devs[i].dom, .int .i64 S.devs[i].rst, .int .u32 S.devs[i].clamp, .ptr (a.fp i) 0, .ptr (a.pp i) 0] := by
  rw [devC, List.getElem?_eq_getElem hi]
theorem devsC_len (n : Nat) : (devsC S a n).length = n * 6 := by
  have := flatMap_len (f := devC S a) (k := 6) (devC_len S a) (List.range n)
  simpa [devsC] using this
theorem devsC_at {i : Nat} (hi : i < S.devs.length) : ((devsC S a S.devs.length).drop (i * 6)).take 6 = devC S a i := by
  have := flatMap_at (f := devC S a) (k := 6) (devC_len S a) (l := List.range S.devs.length) (i := i) (by simpa using hi)
  simpa [devsC] using this
theorem devsC_fit {i : Nat} (hi : i < S.devs.length) : i * 6 + 6 ≤ (devsC S a S.devs.length).length := by rw [devsC_len]; omega

theorem hmade (h : HH st s ib a T S v) : ACalls Tryz.prog F.q94 [.ptr a.hp 0] s fun r s' => r = .bool true ∧ s' = s := by
  refine calls_of_awp L.q94 rfl ?_
  simp only [↓Bt, Bu, simprocAttr, ↓C.q94_W, C.q94_B, C.q94, h.hh]
theorem hhas (h : HH st s ib a T S v) (i : Int) : ACalls Tryz.prog F.q93 [.ptr a.hp 0, .int .i64 i] s fun r s' => r = .bool (decide (0 ≤ i ∧ i < (S.devs.length : Int))) ∧ s' = s := by
  refine calls_of_awp L.q93 rfl ?_
  simp only [↓Bt, Bu, simprocAttr, ↓C.q93_W, C.q93_B, C.q93]
  refine (hmade h).mono ?_
  rintro r s' ⟨rfl, rfl⟩
  by_cases h0 : 0 ≤ i
  · by_cases h1 : i < (S.devs.length : Int)
    · simp only [↓Bt, Bu, simprocAttr, ↓C.q93_W, C.q93_B, C.q93, h.hh, h0, h1, ge_iff_le]
    · simp only [↓Bt, Bu, simprocAttr, ↓C.q93_W, C.q93_B, C.q93, h.hh, h0, h1, ge_iff_le]
  · simp only [↓Bt, Bu, simprocAttr, ↓C.q93_W, C.q93_B, C.q93, h.hh, h0, ge_iff_le]
theorem hgate_at (h : HH st s ib a T S v) {i : Nat} (hi : i < v.ns.length) (b : Bool) : ACalls Tryz.prog F.q84 [.ptr a.hp 0, .int .i64 i, .bool b] s fun r s' =>
    r = .int .i64 (onE v.ns[i]) ∧ HH st s' ib a T S { v with ns := onL v.ns i hi b } := by
  refine calls_of_awp L.q84 rfl ?_
  simp only [↓Bt, Bu, simprocAttr, ↓C.q84_W, C.q84_B, C.q84]
  refine (hmade h).mono ?_
  rintro r s' ⟨rfl, rfl⟩
  simp only [↓Bt, Bu, simprocAttr, ↓C.q84_W, C.q84_B, C.q84, h.hh]
  refine (on_spec h.c.tree hi b).mono ?_
  rintro r s2 ⟨rfl, rfl⟩
  simp only [↓Bt, Bu, simprocAttr, ↓C.q84_W, C.q84_B, C.q84]
  exact h.putTree (h.c.kof.on hi b)
theorem hup_at (h : HH st s ib a T S v) {i : Nat} (hi : i < v.gs.length) : ACalls Tryz.prog F.q91 [.ptr a.hp 0, .int .i64 i] s fun r s' =>
    r = .int .i64 (upE v.gs i hi) ∧ HH st s' ib a T S { v with gs := upG v.gs i hi } := by
  refine calls_of_awp L.q91 rfl ?_
  simp only [↓Bt, Bu, simprocAttr, ↓C.q91_W, C.q91_B, C.q91]
  refine (hmade h).mono ?_
  rintro r s' ⟨rfl, rfl⟩
  simp only [↓Bt, Bu, simprocAttr, ↓C.q91_W, C.q91_B, C.q91, h.hh]
  refine (up_spec h.c.grid h.c.ginv.above hi).mono ?_
  rintro r s2 ⟨rfl, rfl⟩
  simp only [↓Bt, Bu, simprocAttr, ↓C.q91_W, C.q91_B, C.q91]
  exact h.putGrid (h.c.ginv.up hi)
theorem hrelease (h : HH st s ib a T S v) (i : Int) : ACalls Tryz.prog F.q88 [.ptr a.hp 0, .int .i64 i] s fun r s' =>
    r = .int .i64 (releaseE v.ls i) ∧ HH st s' ib a T S { v with ls := releaseL v.ls i } := by
  refine calls_of_awp L.q88 rfl ?_
  simp only [↓Bt, Bu, simprocAttr, ↓C.q88_W, C.q88_B, C.q88]
  refine (hmade h).mono ?_
  rintro r s' ⟨rfl, rfl⟩
  simp only [↓Bt, Bu, simprocAttr, ↓C.q88_W, C.q88_B, C.q88, h.hh]
  refine (release_spec h.c.lines i).mono ?_
  rintro r s2 ⟨rfl, rfl⟩
  simp only [↓Bt, Bu, simprocAttr, ↓C.q88_W, C.q88_B, C.q88]
  exact h.putLines (h.c.linv.release i)
theorem hrunning (h : HH st s ib a T S v) (i : Int) : ACalls Tryz.prog F.q89 [.ptr a.hp 0, .int .i64 i] s fun r s' => r = .bool (runI v.ns i) ∧ s' = s := by
  refine calls_of_awp L.q89 rfl ?_
  simp only [↓Bt, Bu, simprocAttr, ↓C.q89_W, C.q89_B, C.q89]
  refine (hmade h).mono ?_
  rintro r s' ⟨rfl, rfl⟩
  simp only [↓Bt, Bu, simprocAttr, ↓C.q89_W, C.q89_B, C.q89, h.hh]
  refine (running_spec h.c.tree h.c.kof.ok i).mono ?_
  rintro r s2 ⟨rfl, rfl⟩
  simp only [↓Bt, Bu, simprocAttr, ↓C.q89_W, C.q89_B, C.q89]
def phI (gs : List Gd) (i : Int) : Int := if h : isGd gs i then (gs[i.toNat]'(by have := h.1; have := h.2; omega)).phase else 0
theorem phI_at {gs : List Gd} {i : Nat} (h : i < gs.length) : phI gs (i : Int) = gs[i].phase := by
  rw [phI, dif_pos (isGd_at h)]; rfl
theorem hphase (h : HH st s ib a T S v) (i : Int) : ACalls Tryz.prog F.q86 [.ptr a.hp 0, .int .i64 i] s fun r s' => r = .int .u8 (phI v.gs i) ∧ s' = s := by
  refine calls_of_awp L.q86 rfl ?_
  simp only [↓Bt, Bu, simprocAttr, ↓C.q86_W, C.q86_B, C.q86]
  refine (hmade h).mono ?_
  rintro r s' ⟨rfl, rfl⟩
  simp only [↓Bt, Bu, simprocAttr, ↓C.q86_W, C.q86_B, C.q86, h.hh]
  refine (phase_spec h.c.grid i).mono ?_
  rintro r s2 ⟨rfl, rfl⟩
  simp only [↓Bt, Bu, simprocAttr, ↓C.q86_W, C.q86_B, C.q86]
  rfl
def heldI (ls : List Ln) (i : Int) : Bool := !decide (isLn ls i) || (lnOf ls i).held
theorem heldI_at {ls : List Ln} {i : Nat} (h : i < ls.length) : heldI ls (i : Int) = ls[i].held := by
  have : isLn ls (i : Int) := ⟨by omega, by omega⟩
  simp [heldI, this, lnOf_at h]
theorem hheld (h : HH st s ib a T S v) (i : Int) : ACalls Tryz.prog F.q85 [.ptr a.hp 0, .int .i64 i] s fun r s' => r = .bool (heldI v.ls i) ∧ s' = s := by
  refine calls_of_awp L.q85 rfl ?_
  simp only [↓Bt, Bu, simprocAttr, ↓C.q85_W, C.q85_B, C.q85]
  refine (hmade h).mono ?_
  rintro r s' ⟨rfl, rfl⟩
  simp only [↓Bt, Bu, simprocAttr, ↓C.q85_W, C.q85_B, C.q85, h.hh]
  refine (held_spec h.c.lines i).mono ?_
  rintro r s2 ⟨rfl, rfl⟩
  simp only [↓Bt, Bu, simprocAttr, ↓C.q85_W, C.q85_B, C.q85]
  rfl
theorem hchain (h : HH st s ib a T S v) {i : Nat} (hi : i < v.ns.length) : ACalls Tryz.prog F.q83 [.ptr a.hp 0, .int .i64 i] s fun r s' => r = row (nats (chainN v.ns i)) ∧ s' = s := by
  refine calls_of_awp L.q83 rfl ?_
  simp only [↓Bt, Bu, simprocAttr, ↓C.q83_W, C.q83_B, C.q83]
  refine (hmade h).mono ?_
  rintro r s' ⟨rfl, rfl⟩
  simp only [↓Bt, Bu, simprocAttr, ↓C.q83_W, C.q83_B, C.q83, h.hh]
  refine (cchain_at h.c.tree h.c.kof.ok hi).mono ?_
  rintro r s2 ⟨rfl, rfl⟩
  simp only [↓Bt, Bu, simprocAttr, ↓C.q83_W, C.q83_B, C.q83]
def HV.alive (v : HV) (S : Soc) (i : Nat) : Bool := match S.devs[i]? with
  | some d => runI v.ns d.clock && (decide (phI v.gs d.dom = 49) && !heldI v.ls d.rst)
  | none => false
def HV.aliveI (v : HV) (S : Soc) (i : Int) : Bool := decide (0 ≤ i) && v.alive S i.toNat
theorem alive_at {i : Nat} (hi : i < S.devs.length) : v.alive S i = (runI v.ns S.devs[i].clock && (decide (phI v.gs S.devs[i].dom = 49) && !heldI v.ls S.devs[i].rst)) := by
  rw [HV.alive, List.getElem?_eq_getElem hi]
theorem halive (h : HH st s ib a T S v) (i : Int) : ACalls Tryz.prog F.q81 [.ptr a.hp 0, .int .i64 i] s fun r s' => r = .bool (v.aliveI S i) ∧ s' = s := by
  refine ACalls.gc (Q' := fun r s' => r = .bool (v.aliveI S i) ∧ s.le s') (calls_of_awp L.q81 rfl ?_) (fun v s' ⟨h, hl⟩ => ⟨s, hl, h, rfl⟩)
  simp only [↓Bt, Bu, simprocAttr, ↓C.q81_W, C.q81_B, C.q81]
  refine (hhas h i).mono ?_
  rintro r s' ⟨rfl, rfl⟩
  by_cases hi : 0 ≤ i ∧ i < (S.devs.length : Int)
  rotate_left
  · simp only [↓Bt, Bu, simprocAttr, ↓C.q81_W, C.q81_B, C.q81, hi]
    refine ⟨?_, ASt.le.refl _⟩
    rw [HV.aliveI]
    by_cases h0 : 0 ≤ i
    · have : S.devs[i.toNat]? = none := List.getElem?_eq_none (by omega)
      simp [HV.alive, this]
    · simp [h0]
  obtain ⟨n, rfl⟩ : ∃ n : Nat, i = (n : Int) := ⟨i.toNat, by omega⟩
  have hn : n < S.devs.length := by omega
  have hfit := devsC_fit (a := a) hn
  have hat := devsC_at (a := a) hn
  rw [devC_eq hn] at hat
  have hal : v.aliveI S (n : Int) = (runI v.ns S.devs[n].clock && (decide (phI v.gs S.devs[n].dom = 49) && !heldI v.ls S.devs[n].rst)) := by
    rw [HV.aliveI, Int.toNat_natCast, alive_at hn]; simp
  rw [hal]
  simp only [↓Bt, Bu, simprocAttr, ↓C.z111, C.dv_b, C.dt_b, C.ds_b, C.dr_b, C.q81, hi, h.hh, h.devs, Int.toNat_natCast, hfit, hat]
  intro ix hix
  have hx := ASt.new_self (.cells [.int .i64 S.devs[n].clock, .int .i64 S.devs[n].dom, .int .i64 S.devs[n].rst, .int .u32 S.devs[n].clamp, .ptr (a.fp n) 0, .ptr (a.pp n) 0]) hix
  have hle := ASt.le.new s' ix (.cells [.int .i64 S.devs[n].clock, .int .i64 S.devs[n].dom, .int .i64 S.devs[n].rst, .int .u32 S.devs[n].clamp, .ptr (a.fp n) 0, .ptr (a.pp n) 0])
  simp only [↓Bt, Bu, simprocAttr, ↓C.z111, C.dv_b, C.dt_b, C.ds_b, C.dr_b, C.q81, hix, allLeaf, AV.leaf]
  rw [ASt.new_set hix]
  generalize s'.new ix (.cells [.int .i64 S.devs[n].clock, .int .i64 S.devs[n].dom, .int .i64 S.devs[n].rst, .int .u32 S.devs[n].clamp, .ptr (a.fp n) 0, .ptr (a.pp n) 0]) = t at hx hle
  have h' := h.step hle
  simp only [↓Bt, Bu, simprocAttr, ↓C.q81_W, C.q81_B, C.q81, h'.hh, hx]
  refine (running_spec h'.c.tree h'.c.kof.ok S.devs[n].clock).mono ?_
  rintro r s2 ⟨rfl, rfl⟩
  cases hr : runI v.ns S.devs[n].clock
  · simp only [↓Bt, Bu, simprocAttr, ↓C.q81_W, C.q81_B, C.q81, h'.hh, hx]
    exact ⟨by simp, hle⟩
  simp only [↓Bt, Bu, simprocAttr, ↓C.q81_W, C.q81_B, C.q81, h'.hh, hx]
  refine (phase_spec h'.c.grid S.devs[n].dom).mono ?_
  rintro r s2 ⟨rfl, rfl⟩
  rw [show (if h : isGd v.gs S.devs[n].dom then (v.gs[S.devs[n].dom.toNat]'(by have := h.1; have := h.2; omega)).phase else 0) = phI v.gs S.devs[n].dom from rfl]
  by_cases hp : phI v.gs S.devs[n].dom = 49
  rotate_left
  · simp only [↓Bt, Bu, simprocAttr, ↓C.q81_W, C.q81_B, C.q81, h'.hh, hx, hp]
    exact ⟨by simp, hle⟩
  simp only [↓Bt, Bu, simprocAttr, ↓C.q81_W, C.q81_B, C.q81, h'.hh, hx, hp]
  refine (held_spec h'.c.lines S.devs[n].rst).mono ?_
  rintro r s2 ⟨rfl, rfl⟩
  rw [show (!decide (isLn v.ls S.devs[n].rst) || (lnOf v.ls S.devs[n].rst).held) = heldI v.ls S.devs[n].rst from rfl]
  simp only [↓Bt, Bu, simprocAttr, ↓C.q81_W, C.q81_B, C.q81]
  exact ⟨by simp [hp], hle⟩
end
/- The chip: what waits for its devices. -/
set_option maxRecDepth 100000

theorem qcells_len (q : List Txn) : (q.flatMap Txn.cells).length = q.length * 4 := flatMap_len (f := Txn.cells) (k := 4) (fun _ => rfl) q
theorem aop_append_q {P : Program} {b : Nat} {zs : List AV} {parts : List (Nat × Nat × IArg)} {x y : IArg} {fr : AFr} {s : ASt} {F : AV → AFr} {K : AV → AV → ASt → Prop} {v : AV} {T : Nat → Nat} {t : Nat} {q : List Txn} {tx : Txn}
    (h : QAt s T t v q) (hn : q.length + 1 ≤ 4294967296) (hnew : aput (zeros zs 1) (parts.map fun p => (p.1, p.2.1, fr.val p.2.2)) = some tx.cells) (hx : ∀ v1, (F v1).val x = v) (hy : ∀ v1, (F v1).val y = v1)
    (hk : ∀ v1 i2 st2 T', (∀ j, s.h j ≠ none → T' j = T j) → Keeps T' t s st2 → QAt st2 T' t (.sl 4 i2 0 (q.length + 1)) (q ++ [tx]) → K v1 (.sl 4 i2 0 (q.length + 1)) st2) :
    aop P (.buildSlice 4 1 zs parts) fr s (fun v1 st1 => aop P (.append 4 b x y) (F v1) st1 (K v1)) := by
  simp only [aop, hnew]
  intro i1 hi1
  have h1 : (s.new i1 (.cells tx.cells)).h i1 = some (.cells tx.cells) := ASt.new_self _ hi1
  have hl4 : tx.cells.length = 4 := rfl
  have hseen : (s.new i1 (.cells tx.cells)).seen (1 * 4) (.sl 4 i1 0 1) = some tx.cells := by
    simp only [ASt.seen, h1]
    rw [if_pos (by omega)]; rfl
  have hle := ASt.le.new s i1 (.cells tx.cells)
  have hs1 : (AV.sl 4 i1 0 1).slen = some 1 := rfl
  simp only [aop, hy, hx, hs1, h.len, hseen]
  refine ⟨⟨hn, rfl⟩, ?_⟩
  rw [if_neg (by omega)]
  have tag : ∀ id', (s.new i1 (.cells tx.cells)).h id' = none → ∀ j, s.h j ≠ none → (fun j => if j = id' then t else T j) j = T j := fun id' hid' j hj => by
    simp only
    rw [if_neg]
    rintro rfl
    cases e : s.h j with
    | none => exact hj e
    | some o => rw [hle _ _ e] at hid'; cases hid'
  cases h with
  | nil =>
    intro id' hid'
    refine hk _ id' _ (fun j => if j = id' then t else T j) (tag id' hid') (Keeps.of_le (hle.trans (ASt.le.new _ _ _))) ?_
    exact .sl id' 0 [] [tx] (by rw [ASt.new_self _ hid']; simp) rfl (if_pos rfl)
  | emp =>
    intro id' hid'
    refine hk _ id' _ (fun j => if j = id' then t else T j) (tag id' hid') (Keeps.of_le (hle.trans (ASt.le.new _ _ _))) ?_
    exact .sl id' 0 [] [tx] (by rw [ASt.new_self _ hid']; simp) rfl (if_pos rfl)
  | sl id off pre q h hp ht =>
    have hid : (s.new i1 (.cells tx.cells)).h id = some (.cells (pre ++ q.flatMap Txn.cells)) := hle _ _ h
    simp only [hid]
    refine ⟨⟨trivial, by rw [List.length_append, qcells_len, hp]⟩, fun id' hid' => ?_⟩
    have hidk : ((s.new i1 (.cells tx.cells)).kill id).h id' = none := by rw [ASt.kill_h]; split; rfl; exact hid'
    refine hk _ id' _ (fun j => if j = id' then t else T j) (tag id' hid') (fun j o hj hn => ?_) ?_
    · have hjd : j ≠ id := by
        rintro rfl
        apply hn
        rw [tag id' hid' j (by rw [hj]; simp)]; exact ht
      exact ASt.new_old (by rw [ASt.kill_h, if_neg hjd]; exact hle _ _ hj)
    · have := QAt.sl (s := ((s.new i1 (.cells tx.cells)).kill id).new id' (.cells (List.drop off (pre ++ q.flatMap Txn.cells) ++ tx.cells))) (T := fun j => if j = id' then t else T j) (t := t) id' 0 [] (q ++ [tx]) (by
        rw [ASt.new_self _ hidk, List.drop_left' hp, List.flatMap_append]; simp) rfl (if_pos rfl)
      rw [List.length_append] at this
      exact this
section
variable {st s s' : ASt} {ib : Nat} {a : HA} {T : Nat → Nat} {S : Soc} {v : HV} {Q : Nat → List Txn} {posted : Int}
theorem bhas (h : BusAt s T a S Q posted) (i : Int) : ACalls Tryz.prog F.q8 [.ptr a.bp 0, .int .i64 i] s fun r s' => r = .bool (decide (0 ≤ i ∧ i < (S.devs.length : Int))) ∧ s' = s := by
  refine calls_of_awp L.q8 rfl ?_
  by_cases h0 : 0 ≤ i
  · by_cases h1 : i < (S.devs.length : Int)
    · simp only [↓Bt, Bu, simprocAttr, ↓C.q8_W, C.q8_B, C.q8, h.hp, h0, h1, ge_iff_le]
    · simp only [↓Bt, Bu, simprocAttr, ↓C.q8_W, C.q8_B, C.q8, h.hp, h0, h1, ge_iff_le]
  · simp only [↓Bt, Bu, simprocAttr, ↓C.q8_W, C.q8_B, C.q8, h.hp, h0, ge_iff_le]
theorem bwaiting (h : BusAt s T a S Q posted) {i : Nat} (hi : i < S.devs.length) : ACalls Tryz.prog F.q7 [.ptr a.bp 0, .int .i64 i] s fun r s' => r = .int .i64 ((Q i).length : Nat) ∧ s' = s := by
  obtain ⟨W, hw, hl, hq⟩ := h.hw
  have hiW : i < W.length := by omega
  have hd : (0:Int) ≤ (i : Int) ∧ (i : Int) < (S.devs.length : Int) := by omega
  refine calls_of_awp L.q7 rfl ?_
  simp only [↓Bt, Bu, simprocAttr, ↓C.q7_W, C.q7_B, C.q7]
  refine (bhas h i).mono ?_
  rintro r s' ⟨rfl, rfl⟩
  simp only [↓Bt, Bu, simprocAttr, ↓C.q7_W, C.q7_B, C.q7, hd, h.hp, hw, Int.toNat_natCast, Nat.mul_one, List.getElem?_eq_getElem hiW, (hq i hiW).len]
theorem HH.putBus (h : HH st s ib a T S v) {T' : Nat → Nat} (hT : ∀ j, s.h j ≠ none → T' j = T j) {Q' : Nat → List Txn} {posted' : Int} {s1 s2 s' : ASt} {d : Nat} (h1 : Keeps T' 5 s s1) (hk : Keeps T' (12 + 3 * d) s1 s2) (h2 : Keeps T' 5 s2 s') (hb : BusAt s' T' a S Q' posted') :
    HH st s' ib a T' S { v with Q := Q', posted := posted' } := by
  have c0 := h.c.retag hT
  have c1 := ((c0.keep h1 (by omega)).keep hk (.inr (.inr (.inr ⟨d, rfl⟩)))).keep h2 (by omega)
  have th : T' a.hp = 1 := by rw [hT a.hp (by rw [h.hh]; simp)]; exact h.Th
  have td : T' a.dv = 6 := by rw [hT a.dv (by rw [h.devs]; simp)]; exact h.Td
  exact ⟨{ le := c1.le, tag0 := c1.tag0, hb := c1.hb, Tb := c1.Tb, tree := c1.tree, Tt := c1.Tt, grid := c1.grid, Tg := c1.Tg, lines := c1.lines, Tl := c1.Tl, files := c1.files, ports := c1.ports, kof := c1.kof, ginv := c1.ginv, linv := c1.linv },
    h2.at_ (hk.at_ (h1.at_ h.hh th (by omega)) th (by omega)) th (by omega), th, hb, h2.at_ (hk.at_ (h1.at_ h.devs td (by omega)) td (by omega)) td (by omega), td⟩
theorem btake (h : HH st s ib a T S v) {i : Nat} (hi : i < S.devs.length) : ACalls Tryz.prog F.q6 [.ptr a.bp 0, .int .i64 i] s fun r s' =>
    (v.Q i = [] ∧ r = .tup [.agg [.int .i64 0, .bool false, .int .i64 0, .int .u32 0], .bool false] ∧ s' = s) ∨
    ∃ t q, v.Q i = t :: q ∧ r = .tup [.agg t.cells, .bool true] ∧ HH st s' ib a T S { v with Q := upF v.Q i q } := by
  have hz : (0:Int) ≤ (i : Int) ∧ (i : Int) < (S.devs.length : Int) := by omega
  cases hq0 : v.Q i with
  | nil =>
    refine (ACalls.gc (Q := fun r s' => r = .tup [.agg [.int .i64 0, .bool false, .int .i64 0, .int .u32 0], .bool false] ∧ s' = s) (Q' := fun r s' => r = .tup [.agg [.int .i64 0, .bool false, .int .i64 0, .int .u32 0], .bool false] ∧ s.le s') (calls_of_awp L.q6 rfl ?_) (fun v s' ⟨h, hl⟩ => ⟨s, hl, h, rfl⟩)).mono fun r s' x => .inl ⟨rfl, x⟩
    simp only [↓Bt, Bu, simprocAttr, ↓C.c5_w, C.c5_b, C.q6]
    intro ix hix
    have hle := ASt.le.new s ix (.cells [.int .i64 0, .bool false, .int .i64 0, .int .u32 0])
    have hx := ASt.new_self (.cells [.int .i64 0, .bool false, .int .i64 0, .int .u32 0]) hix
    have h' := h.step hle
    generalize s.new ix (.cells [.int .i64 0, .bool false, .int .i64 0, .int .u32 0]) = t at hle hx h'
    simp only [↓Bt, Bu, simprocAttr, ↓C.q6_W, C.q6_B, C.q6]
    refine (bhas h'.bus i).mono ?_
    rintro r t' ⟨rfl, rfl⟩
    obtain ⟨W, hw, hl, hq⟩ := h'.bus.hw
    have hiW : i < W.length := by omega
    have hql := (hq i hiW).len
    rw [hq0] at hql
    simp only [↓Bt, Bu, simprocAttr, ↓C.q6_W, C.q6_B, C.q6, hz, h'.bus.hp, hw, Int.toNat_natCast, Nat.mul_one, List.getElem?_eq_getElem hiW, hql, hx]
    refine ⟨rfl, fun j o hj => ?_⟩
    rw [ASt.set_h, if_neg (by rintro rfl; rw [hix] at hj; cases hj)]
    exact hle _ _ hj
  | cons t q =>
    refine calls_of_awp L.q6 rfl ?_
    simp only [↓Bt, Bu, simprocAttr, ↓C.c5_w, C.c5_b, C.q6]
    intro ix hix
    have hle := ASt.le.new s ix (.cells [.int .i64 0, .bool false, .int .i64 0, .int .u32 0])
    have hx := ASt.new_self (.cells [.int .i64 0, .bool false, .int .i64 0, .int .u32 0]) hix
    have h' := h.step hle
    generalize s.new ix (.cells [.int .i64 0, .bool false, .int .i64 0, .int .u32 0]) = u at hle hx h'
    simp only [↓Bt, Bu, simprocAttr, ↓C.q6_W, C.q6_B, C.q6]
    refine (bhas h'.bus i).mono ?_
    rintro r u' ⟨rfl, rfl⟩
    obtain ⟨W, hw0, hl, hq⟩ := h.bus.hw
    have hw := hle _ _ hw0
    have hiW : i < W.length := by omega
    have hqi := hq i hiW
    rw [hq0] at hqi
    have hql := hqi.len
    have hne : ¬ ((q.length + 1 : Nat) : Int) = 0 := by omega
    have hW' := List.getElem?_eq_getElem hiW
    generalize hwi : W[i] = w at hqi hql hW'
    cases hqi with
    | sl id off pre _ hid0 hp ht =>
    have hid := hle _ _ hid0
    have hz1 : (0 : Int) ≤ ((q.length + 1 : Nat) : Int) := by omega
    have hz2 : (0 : Int) < ((q.length + 1 : Nat) : Int) := by omega
    have h1l : 1 ≤ q.length + 1 := by omega
    have hidbw : ¬ id = a.bw := by
      rintro rfl
      have := h'.bus.t.2.2
      omega
    have hxbw : ¬ ix = a.bw := by rintro rfl; rw [hix] at hw0; cases hw0
    have hxid : ¬ ix = id := by rintro rfl; rw [hix] at hid0; cases hid0
    have hoff : off + 4 ≤ (pre ++ List.flatMap Txn.cells (t :: q)).length := by rw [List.length_append, qcells_len, hp]; simp; omega
    have htk : List.take 4 (List.drop off (pre ++ List.flatMap Txn.cells (t :: q))) = t.cells := by
      rw [List.drop_left' hp, List.flatMap_cons]; rfl
    have hlf : (if 1 = q.length + 1 then AV.emp else AV.sl 4 id (off + 4) q.length).leaf = true := by split <;> rfl
    have e4 : putN [AV.int IntKind.i64 0, AV.bool false, AV.int IntKind.i64 0, AV.int IntKind.u32 0] 0 t.cells = t.cells := putN_all rfl
    have l4 : t.cells.length = 4 := rfl
    have f4 : allLeaf t.cells = true := rfl
    have t4 : AV.agg (List.take 4 t.cells) = .agg t.cells := rfl
    simp only [↓Bt, Bu, simprocAttr, ↓C.q6_W, C.q6_B, C.q6, hz, h'.bus.hp, hw, Int.toNat_natCast, Nat.mul_one, hW', hql, hne, hiW, hz1, hz2, h1l, Nat.le_refl, hid, hidbw, hxbw, hxid, hoff, htk, hlf, Nat.add_sub_cancel, hx, e4, l4, f4, t4]
    have hlf' : (if q.length = 0 then AV.emp else AV.sl 4 id (off + 4) q.length).leaf = true := by split <;> rfl
    refine ⟨fun e => e, hlf', .inr ⟨t, q, rfl, rfl, ?_⟩⟩
    have hbw := h.bus.t.2.2
    have hK : Keeps T 5 s (s.set a.bw (.cells (W.set i (if q.length = 0 then AV.emp else AV.sl 4 id (off + 4) q.length)))) := Keeps.set hbw
    have hB : BusAt (s.set a.bw (.cells (W.set i (if q.length = 0 then AV.emp else AV.sl 4 id (off + 4) q.length)))) T a S (upF v.Q i q) v.posted := by
      refine ⟨?_, ?_, ⟨W.set i (if q.length = 0 then AV.emp else AV.sl 4 id (off + 4) q.length), by rw [ASt.set_h, if_pos rfl, hw0]; rfl, by simpa using hl, fun j hj => ?_⟩, h.bus.t, h.bus.n1, h.bus.n2, h.bus.n3⟩
      · rw [ASt.set_h, if_neg h.bus.n2]; exact h.bus.hp
      · rw [ASt.set_h, if_neg h.bus.n3]; exact h.bus.hr
      · simp only [List.length_set] at hj
        by_cases e : j = i
        · subst e
          rw [upF_at, List.getElem_set_self]
          by_cases e0 : q.length = 0
          · rw [if_pos e0, List.eq_nil_of_length_eq_zero e0]; exact .emp
          · rw [if_neg e0]
            refine .sl id (off + 4) (pre ++ t.cells) q ?_ (by rw [List.length_append, hp]; rfl) ht
            rw [ASt.set_h, if_neg hidbw, hid0, List.flatMap_cons, List.append_assoc]
        · rw [upF_ne e, List.getElem_set_ne (Ne.symm e)]
          exact (hq j hj).kept hK (by omega)
    have H1 := h.putBus (T' := T) (s1 := s.set a.bw (.cells (W.set i (if q.length = 0 then AV.emp else AV.sl 4 id (off + 4) q.length)))) (d := i) (fun _ _ => rfl) hK (Keeps.refl _ _ _) (Keeps.refl _ _ _) hB
    refine H1.step fun j o hj => ?_
    have hjx : j ≠ ix := by
      rintro rfl
      rw [ASt.set_h, if_neg hxbw, hix] at hj; cases hj
    rw [ASt.set_h, if_neg hjx]
    rw [ASt.set_h] at hj ⊢
    split
    · rename_i e
      rw [if_pos e] at hj
      subst e
      rw [hw0] at hj; rw [hw]; exact hj
    · rename_i e
      rw [if_neg e] at hj
      exact hle _ _ hj
theorem bpost (h : HH st s ib a T S v) {d k : Nat} (hd : d < S.devs.length) (hk : k < S.devs[d].regs.length) (hd4 : d < 4) (hk4 : k < 4) (w : Bool) (x : Int) (hf : (v.Q d).length < 4) :
    ACalls Tryz.prog F.q5 [.ptr a.bp 0, .int .u32 (addrV d k), .bool w, .int .u32 x] s fun r s' => r = .tup [.int .i64 v.posted, .int .i64 0] ∧
      ∃ T', HH st s' ib a T' S { v with Q := upF v.Q d (v.Q d ++ [⟨v.posted, w, (k : Int), x⟩]), posted := IntKind.i64.wrap (v.posted + 1) } := by
  refine calls_of_awp L.q5 rfl ?_
  simp only [↓Bt, Bu, simprocAttr, ↓C.q5_W, C.q5_B, C.q5]
  refine (split_spec hd4 hk4).mono ?_
  rintro r s' ⟨rfl, rfl⟩
  simp only [↓Bt, Bu, simprocAttr, ↓C.q5_W, C.q5_B, C.q5]
  refine (bhas h.bus d).mono ?_
  rintro r s' ⟨rfl, rfl⟩
  have hz : (0:Int) ≤ (d : Int) ∧ (d : Int) < (S.devs.length : Int) := by omega
  obtain ⟨W, hw, hl, hq⟩ := h.bus.hw
  have hdW : d < W.length := by omega
  have hqd := hq d hdW
  have hql := hqd.len
  have hW' := List.getElem?_eq_getElem hdW
  have hk0 : ¬ (k : Int) < 0 := by omega
  have hrg : (ints (S.devs.map fun d => (d.regs.length : Int)))[d]? = some (.int .i64 (S.devs[d].regs.length : Nat)) := by rw [ints_get (by simpa using hd)]; simp
  have hkr : ¬ ((S.devs[d].regs.length : Nat) : Int) ≤ (k : Int) := by omega
  have hfl : ¬ (4 : Int) ≤ (((v.Q d).length : Nat) : Int) := by omega
  simp only [↓Bp, Bq, Bs, simprocAttr, ↓C.q5_W, C.q5_B, C.q5, hz, h.bus.hp, h.bus.hr, hw, Int.toNat_natCast, Nat.mul_one, hW', hql, hk0, hrg, hkr, hfl, ge_iff_le, h.bus.n1, h.bus.n2, Ne.symm h.bus.n1, Ne.symm h.bus.n2]
  have hbp := h.bus.t.1
  have hbw := h.bus.t.2.2
  have hbr := h.bus.t.2.1
  obtain ⟨s1, hs1⟩ : ∃ s1, s1 = s'.set a.bp (.cells [.sl 1 a.br 0 S.devs.length, .sl 1 a.bw 0 S.devs.length, .int .i64 (IntKind.i64.wrap (v.posted + 1))]) := ⟨_, rfl⟩
  rw [← hs1]
  have hK1 : ∀ {T' : Nat → Nat}, (∀ j, s'.h j ≠ none → T' j = T j) → Keeps T' 5 s' s1 := fun {T'} hT => by
    rw [hs1]; exact Keeps.set (by rw [hT _ (by rw [h.bus.hp]; simp)]; exact hbp)
  have hlive : ∀ j, s'.h j ≠ none → s1.h j ≠ none := fun j hj => by
    rw [hs1, ASt.set_h]
    split
    · rename_i e; subst e; rw [h.bus.hp]; simp
    · exact hj
  have hqd1 := hqd.kept (hK1 (T' := T) fun _ _ => rfl) (by omega)
  have hp1 : s1.h a.bp = some (.cells [.sl 1 a.br 0 S.devs.length, .sl 1 a.bw 0 S.devs.length, .int .i64 (IntKind.i64.wrap (v.posted + 1))]) := by rw [hs1, ASt.set_h, if_pos rfl, h.bus.hp]; rfl
  have hw1 : s1.h a.bw = some (.cells W) := by rw [hs1, ASt.set_h, if_neg (Ne.symm h.bus.n2)]; exact hw
  have hr1 : s1.h a.br = some (.cells (ints (S.devs.map fun d => (d.regs.length : Int)))) := by rw [hs1, ASt.set_h, if_neg (Ne.symm h.bus.n1)]; exact h.bus.hr
  refine aop_append_q (tx := ⟨v.posted, w, (k : Int), x⟩) hqd1 (by omega) (aput_one rfl rfl) (fun _ => rfl) (fun _ => rfl) fun v1 i2 st2 T' hT' hK' hq' => ?_
  have hT : ∀ j, s'.h j ≠ none → T' j = T j := fun j hj => hT' j (hlive j hj)
  have tp : T' a.bp = 5 := by rw [hT' a.bp (by rw [hp1]; simp)]; exact hbp
  have tw : T' a.bw = 5 := by rw [hT' a.bw (by rw [hw1]; simp)]; exact hbw
  have tr : T' a.br = 5 := by rw [hT' a.br (by rw [hr1]; simp)]; exact hbr
  have hp2 := hK'.at_ hp1 tp (by omega)
  have hw2 := hK'.at_ hw1 tw (by omega)
  have hr2 := hK'.at_ hr1 tr (by omega)
  simp only [↓Bt, Bu, simprocAttr, hp2, hw2, hdW, AV.leaf, List.getElem?_cons_succ, List.getElem?_cons_zero]
  have hK2 : Keeps T' 5 st2 (st2.set a.bw (.cells (W.set d (.sl 4 i2 0 ((v.Q d).length + 1))))) := Keeps.set tw
  refine ⟨T', h.putBus (d := d) hT (hK1 hT) hK' hK2 ⟨?_, ?_, ⟨W.set d (.sl 4 i2 0 ((v.Q d).length + 1)), by rw [ASt.set_h, if_pos rfl, hw2]; rfl, by simpa using hl, fun j hj => ?_⟩, ⟨tp, tr, tw⟩, h.bus.n1, h.bus.n2, h.bus.n3⟩⟩
  · rw [ASt.set_h, if_neg h.bus.n2]; exact hp2
  · rw [ASt.set_h, if_neg h.bus.n3]; exact hr2
  · simp only [List.length_set] at hj
    by_cases e : j = d
    · subst e
      rw [upF_at, List.getElem_set_self]
      exact hq'.kept hK2 (by omega)
    · rw [upF_ne e, List.getElem_set_ne (Ne.symm e)]
      exact ((((hq j hj).retag hT).kept (hK1 hT) (by omega)).kept hK' (by omega)).kept hK2 (by omega)
theorem file_at (h : HH st s ib a T S v) {i : Nat} (hi : i < S.devs.length) : FileF s (a.fp i) (a.fn i) (a.fs i) S.devs[i].regs (v.F i).now (v.F i).saved (v.F i).kept := (h.c.files i hi hi).1
theorem port_at (h : HH st s ib a T S v) {i : Nat} (hi : i < S.devs.length) : PortAt s (a.pp i) (v.O i).1 (v.O i).2 := (h.c.ports i hi).1
theorem dev_cell (h : HH st s ib a T S v) {i j : Nat} {c : AV} (hi : i < S.devs.length) (hj : j < 6) (hc : ([.int .i64 S.devs[i].clock, .int .i64 S.devs[i].dom, .int .i64 S.devs[i].rst, .int .u32 S.devs[i].clamp, .ptr (a.fp i) 0, .ptr (a.pp i) 0] : List AV)[j]? = some c) : (devsC S a S.devs.length)[i * 6 + j]? = some c :=
  devC_get hi hj (by rw [devC_eq hi]; exact hc)
end
end Go.Proofs.YtdmfgodajoojpaaGreatDoor.Cn
