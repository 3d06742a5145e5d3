/- Descriptions: copies of one's own. -/
import Derived.Test.YtjamidgdhmjhaaaCnSaneD
set_option linter.unusedSimpArgs false
set_option linter.unusedVariables false
namespace Go.Proofs.Ytjamidgdhmjhaaa.Cn
open Go Go.Proofs

theorem conf_own_api_Clock_spec {st : ASt} {cs : List AV} {n : Nat} (hl : cs.length = n * 6) (hn : n ≤ 4294967296) (hc : allLeaf cs = true) : ACalls Try.prog F.conf_own_api_Clock [.isl 6 cs n] st fun r st' => Owned st st' 6 cs n r := by
  refine calls_of_awp L.conf_own_api_Clock rfl ?_
  have ht : cs.take (n * 6) = cs := by rw [← hl, List.take_length]
  have hle : n * 6 ≤ cs.length := by omega
  by_cases h0 : n = 0
  · subst h0
    simp only [↓Bp, Bq, Bs, ↓aop.eq_28, ↓aop.eq_30, Nat.reduceEqDiff, Nat.reduceAdd, Nat.reduceMul, Nat.reduceSub, Nat.reduceLeDiff, Nat.reduceLT, Int.reduceLT, Int.reduceLE, Int.reduceEq, Int.reduceToNat, Int.reduceAdd, Int.reduceSub, Int.reduceNeg, ↓reduceIte, reduceCtorEq, ↓C.conf_own_api_Clock_W, C.conf_own_api_Clock_B, C.conf_own_api_Clock, ASt.seen, Nat.zero_mul, Nat.zero_le, List.take_zero, allLeaf, Nat.add_zero]
    exact .inl ⟨rfl, rfl, rfl⟩
  · simp only [↓Bp, Bq, Bs, ↓aop.eq_28, ↓aop.eq_30, Nat.reduceEqDiff, Nat.reduceAdd, Nat.reduceMul, Nat.reduceSub, Nat.reduceLeDiff, Nat.reduceLT, Int.reduceLT, Int.reduceLE, Int.reduceEq, Int.reduceToNat, Int.reduceAdd, Int.reduceSub, Int.reduceNeg, ↓reduceIte, reduceCtorEq, ↓C.conf_own_api_Clock_W, C.conf_own_api_Clock_B, C.conf_own_api_Clock, ASt.seen, hle, ht, hn, hc, h0, Nat.zero_add]
    intro id hid
    exact .inr ⟨h0, id, hid, rfl, rfl⟩
theorem conf_own_api_Domain_spec {st : ASt} {cs : List AV} {n : Nat} (hl : cs.length = n * 3) (hn : n ≤ 4294967296) (hc : allLeaf cs = true) : ACalls Try.prog F.conf_own_api_Domain [.isl 3 cs n] st fun r st' => Owned st st' 3 cs n r := by
  refine calls_of_awp L.conf_own_api_Domain rfl ?_
  have ht : cs.take (n * 3) = cs := by rw [← hl, List.take_length]
  have hle : n * 3 ≤ cs.length := by omega
  by_cases h0 : n = 0
  · subst h0
    simp only [↓Bp, Bq, Bs, ↓aop.eq_28, ↓aop.eq_30, Nat.reduceEqDiff, Nat.reduceAdd, Nat.reduceMul, Nat.reduceSub, Nat.reduceLeDiff, Nat.reduceLT, Int.reduceLT, Int.reduceLE, Int.reduceEq, Int.reduceToNat, Int.reduceAdd, Int.reduceSub, Int.reduceNeg, ↓reduceIte, reduceCtorEq, ↓C.conf_own_api_Domain_W, C.conf_own_api_Domain_B, C.conf_own_api_Domain, ASt.seen, Nat.zero_mul, Nat.zero_le, List.take_zero, allLeaf, Nat.add_zero]
    exact .inl ⟨rfl, rfl, rfl⟩
  · simp only [↓Bp, Bq, Bs, ↓aop.eq_28, ↓aop.eq_30, Nat.reduceEqDiff, Nat.reduceAdd, Nat.reduceMul, Nat.reduceSub, Nat.reduceLeDiff, Nat.reduceLT, Int.reduceLT, Int.reduceLE, Int.reduceEq, Int.reduceToNat, Int.reduceAdd, Int.reduceSub, Int.reduceNeg, ↓reduceIte, reduceCtorEq, ↓C.conf_own_api_Domain_W, C.conf_own_api_Domain_B, C.conf_own_api_Domain, ASt.seen, hle, ht, hn, hc, h0, Nat.zero_add]
    intro id hid
    exact .inr ⟨h0, id, hid, rfl, rfl⟩
theorem conf_own_api_Reset_spec {st : ASt} {cs : List AV} {n : Nat} (hl : cs.length = n * 1) (hn : n ≤ 4294967296) (hc : allLeaf cs = true) : ACalls Try.prog F.conf_own_api_Reset [.isl 1 cs n] st fun r st' => Owned st st' 1 cs n r := by
  refine calls_of_awp L.conf_own_api_Reset rfl ?_
  have ht : cs.take (n * 1) = cs := by rw [← hl, List.take_length]
  have hle : n * 1 ≤ cs.length := by omega
  by_cases h0 : n = 0
  · subst h0
    simp only [↓Bp, Bq, Bs, ↓aop.eq_28, ↓aop.eq_30, Nat.reduceEqDiff, Nat.reduceAdd, Nat.reduceMul, Nat.reduceSub, Nat.reduceLeDiff, Nat.reduceLT, Int.reduceLT, Int.reduceLE, Int.reduceEq, Int.reduceToNat, Int.reduceAdd, Int.reduceSub, Int.reduceNeg, ↓reduceIte, reduceCtorEq, ↓C.conf_own_api_Reset_W, C.conf_own_api_Reset_B, C.conf_own_api_Reset, ASt.seen, Nat.zero_mul, Nat.zero_le, List.take_zero, allLeaf, Nat.add_zero]
    exact .inl ⟨rfl, rfl, rfl⟩
  · simp only [↓Bp, Bq, Bs, ↓aop.eq_28, ↓aop.eq_30, Nat.reduceEqDiff, Nat.reduceAdd, Nat.reduceMul, Nat.reduceSub, Nat.reduceLeDiff, Nat.reduceLT, Int.reduceLT, Int.reduceLE, Int.reduceEq, Int.reduceToNat, Int.reduceAdd, Int.reduceSub, Int.reduceNeg, ↓reduceIte, reduceCtorEq, ↓C.conf_own_api_Reset_W, C.conf_own_api_Reset_B, C.conf_own_api_Reset, ASt.seen, hle, ht, hn, hc, h0, Nat.zero_add]
    intro id hid
    exact .inr ⟨h0, id, hid, rfl, rfl⟩
theorem conf_own_api_Device_spec {st : ASt} {cs : List AV} {n : Nat} (hl : cs.length = n * 6) (hn : n ≤ 4294967296) (hc : allLeaf cs = true) : ACalls Try.prog F.conf_own_api_Device [.isl 6 cs n] st fun r st' => Owned st st' 6 cs n r := by
  refine calls_of_awp L.conf_own_api_Device rfl ?_
  have ht : cs.take (n * 6) = cs := by rw [← hl, List.take_length]
  have hle : n * 6 ≤ cs.length := by omega
  by_cases h0 : n = 0
  · subst h0
    simp only [↓Bp, Bq, Bs, ↓aop.eq_28, ↓aop.eq_30, Nat.reduceEqDiff, Nat.reduceAdd, Nat.reduceMul, Nat.reduceSub, Nat.reduceLeDiff, Nat.reduceLT, Int.reduceLT, Int.reduceLE, Int.reduceEq, Int.reduceToNat, Int.reduceAdd, Int.reduceSub, Int.reduceNeg, ↓reduceIte, reduceCtorEq, ↓C.conf_own_api_Device_W, C.conf_own_api_Device_B, C.conf_own_api_Device, ASt.seen, Nat.zero_mul, Nat.zero_le, List.take_zero, allLeaf, Nat.add_zero]
    exact .inl ⟨rfl, rfl, rfl⟩
  · simp only [↓Bp, Bq, Bs, ↓aop.eq_28, ↓aop.eq_30, Nat.reduceEqDiff, Nat.reduceAdd, Nat.reduceMul, Nat.reduceSub, Nat.reduceLeDiff, Nat.reduceLT, Int.reduceLT, Int.reduceLE, Int.reduceEq, Int.reduceToNat, Int.reduceAdd, Int.reduceSub, Int.reduceNeg, ↓reduceIte, reduceCtorEq, ↓C.conf_own_api_Device_W, C.conf_own_api_Device_B, C.conf_own_api_Device, ASt.seen, hle, ht, hn, hc, h0, Nat.zero_add]
    intro id hid
    exact .inr ⟨h0, id, hid, rfl, rfl⟩
theorem conf_own_api_Reg_spec {st : ASt} {cs : List AV} {n : Nat} (hl : cs.length = n * 2) (hn : n ≤ 4294967296) (hc : allLeaf cs = true) : ACalls Try.prog F.conf_own_api_Reg [.isl 2 cs n] st fun r st' => Owned st st' 2 cs n r := by
  refine calls_of_awp L.conf_own_api_Reg rfl ?_
  have ht : cs.take (n * 2) = cs := by rw [← hl, List.take_length]
  have hle : n * 2 ≤ cs.length := by omega
  by_cases h0 : n = 0
  · subst h0
    simp only [↓Bp, Bq, Bs, ↓aop.eq_28, ↓aop.eq_30, Nat.reduceEqDiff, Nat.reduceAdd, Nat.reduceMul, Nat.reduceSub, Nat.reduceLeDiff, Nat.reduceLT, Int.reduceLT, Int.reduceLE, Int.reduceEq, Int.reduceToNat, Int.reduceAdd, Int.reduceSub, Int.reduceNeg, ↓reduceIte, reduceCtorEq, ↓C.conf_own_api_Reg_W, C.conf_own_api_Reg_B, C.conf_own_api_Reg, ASt.seen, Nat.zero_mul, Nat.zero_le, List.take_zero, allLeaf, Nat.add_zero]
    exact .inl ⟨rfl, rfl, rfl⟩
  · simp only [↓Bp, Bq, Bs, ↓aop.eq_28, ↓aop.eq_30, Nat.reduceEqDiff, Nat.reduceAdd, Nat.reduceMul, Nat.reduceSub, Nat.reduceLeDiff, Nat.reduceLT, Int.reduceLT, Int.reduceLE, Int.reduceEq, Int.reduceToNat, Int.reduceAdd, Int.reduceSub, Int.reduceNeg, ↓reduceIte, reduceCtorEq, ↓C.conf_own_api_Reg_W, C.conf_own_api_Reg_B, C.conf_own_api_Reg, ASt.seen, hle, ht, hn, hc, h0, Nat.zero_add]
    intro id hid
    exact .inr ⟨h0, id, hid, rfl, rfl⟩

/-- A block of rows, of which so many own what they show already. -/
def CpI {α : Type} (enc : α → List AV) (s0 s : ASt) (id : Nat) (l : List α) (i : Nat) : Prop :=
  ∃ vs1 L, s.h id = some (.cells (vs1 ++ (l.drop i).flatMap enc)) ∧ RepL s vs1 ((l.take i).flatMap enc) L ∧ id ∉ L ∧ (∀ j ∈ L, s0.h j = none) ∧ (∀ j, j ≠ id → ∀ o, s0.h j = some o → s.h j = some o) ∧ s0.h id ≠ none
theorem CpI.start {α : Type} {enc : α → List AV} {s : ASt} {id : Nat} {l : List α} (h : s.h id = some (.cells (l.flatMap enc))) : CpI enc s s id l 0 :=
  ⟨[], [], by simpa using h, .nil, by simp, fun j hj => by (cases hj), fun j _ o ho => ho, by rw [h]; simp⟩
theorem CpI.row {α : Type} {enc : α → List AV} {s0 s : ASt} {id : Nat} {l : List α} {i k : Nat} (h : CpI enc s0 s id l i) (hk : ∀ x, (enc x).length = k) (hi : i < l.length) :
    ∃ vs1, s.h id = some (.cells (vs1 ++ (enc l[i] ++ (l.drop (i + 1)).flatMap enc))) ∧ vs1.length = i * k ∧
      ∀ s2 row Lv, s.le s2 → RepL s2 row (enc l[i]) Lv → (∀ j ∈ Lv, s.h j = none) → CpI enc s0 (s2.set id (.cells (vs1 ++ (row ++ (l.drop (i + 1)).flatMap enc)))) id l (i + 1) := by
  obtain ⟨vs1, L, h1, h2, h3, h4, h5, h6⟩ := h
  have e : (l.drop i).flatMap enc = enc l[i] ++ (l.drop (i + 1)).flatMap enc := by
    rw [← List.getElem_cons_drop (h := hi), List.flatMap_cons]
  have hlen := h2.len
  rw [flatMap_len hk, List.length_take] at hlen
  refine ⟨vs1, by rw [← e]; exact h1, by rw [← hlen]; congr 1; omega, ?_⟩
  intro s2 row Lv hl hr hLv
  have hid2 := hl _ _ h1
  have hidL : id ∉ Lv := fun hm => by rw [hLv id hm] at h1; cases h1
  have ho : ∀ {M : List Nat} {o : AObj}, id ∉ M → ∀ j ∈ M, (s2.set id o).h j = s2.h j := fun {M o} hm j hj => by
    rw [ASt.set_h, if_neg (by rintro rfl; exact hm hj)]
  refine ⟨vs1 ++ row, L ++ Lv, ?_, ?_, ?_, ?_, ?_, h6⟩
  · rw [ASt.set_h, if_pos rfl, hid2, List.append_assoc]; rfl
  · rw [List.take_succ_eq_append_getElem hi, List.flatMap_append]
    have e2 : List.flatMap enc [l[i]] = enc l[i] := by simp
    rw [e2]
    refine ((h2.le hl).off (ho h3)).app (hr.off (ho hidL)) fun j hj hm => h2.live j hj (hLv j hm)
  · intro hm
    rcases List.mem_append.mp hm with hm | hm
    · exact h3 hm
    · exact hidL hm
  · intro j hj
    rcases List.mem_append.mp hj with hj | hj
    · exact h4 j hj
    · cases e : s0.h j with
      | none => rfl
      | some o =>
        have hne : j ≠ id := by rintro rfl; exact hidL hj
        have := h5 j hne o e
        rw [hLv j hj] at this; cases this
  · intro j hj o h
    rw [ASt.set_h, if_neg hj]
    exact hl _ _ (h5 j hj o h)
theorem CpI.done {α : Type} {enc : α → List AV} {s0 s : ASt} {id : Nat} {l : List α} (h : CpI enc s0 s id l l.length) :
    ∃ ws L, s.h id = some (.cells ws) ∧ RepL s ws (l.flatMap enc) L ∧ id ∉ L ∧ (∀ j ∈ L, s0.h j = none) ∧ (∀ j, j ≠ id → ∀ o, s0.h j = some o → s.h j = some o) := by
  obtain ⟨vs1, L, h1, h2, h3, h4, h5, h6⟩ := h
  rw [List.take_length] at h2
  rw [List.drop_length, List.flatMap_nil, List.append_nil] at h1
  exact ⟨vs1, L, h1, h2, h3, h4, h5⟩
theorem get_app {a b c : List AV} {n j : Nat} (ha : a.length = n) (hj : j < b.length) : (a ++ (b ++ c))[n + j]? = b[j]? := by
  rw [List.getElem?_append_right (by omega), ha, Nat.add_sub_cancel_left, List.getElem?_append_left hj]
theorem set_app {a b c : List AV} {n j : Nat} {v : AV} (ha : a.length = n) (hj : j < b.length) : (a ++ (b ++ c)).set (n + j) v = a ++ (b.set j v ++ c) := by
  rw [List.set_append_right _ _ (by omega), ha, Nat.add_sub_cancel_left, List.set_append_left _ _ hj]
theorem doms_scalar (l : List Dom) : (l.flatMap Dom.cells).all AV.scalar = true := by
  simp [List.all_flatMap, Dom.cells, AV.scalar]
theorem rsts_scalar (l : List Int) : (l.flatMap rstCells).all AV.scalar = true := by
  simp [List.all_flatMap, rstCells, AV.scalar]
theorem flat_scalar (l : List Reg) : (flat l).all AV.scalar = true := by
  simp [flat, List.all_flatMap, encReg, AV.scalar]
theorem clks_leaf (l : List Clk) : allLeaf (l.flatMap Clk.cells) = true := by
  simp [allLeaf, List.all_flatMap, Clk.cells, AV.leaf, row]
theorem doms_leaf (l : List Dom) : allLeaf (l.flatMap Dom.cells) = true := by
  simp [allLeaf, List.all_flatMap, Dom.cells, AV.leaf]
theorem rsts_leaf (l : List Int) : allLeaf (l.flatMap rstCells) = true := by
  simp [allLeaf, List.all_flatMap, rstCells, AV.leaf]
theorem devs_leaf (l : List Dev) : allLeaf (l.flatMap Dev.cells) = true := by
  simp [allLeaf, List.all_flatMap, Dev.cells, AV.leaf, row]

theorem Owned.ids {st st' : ASt} {sz n : Nat} {cs : List AV} {r : AV} (h : Owned st st' sz cs n r) : ∃ M : List Nat, (∀ j ∈ M, st.h j = none) ∧ (∀ j ∈ M, st'.h j ≠ none) ∧ ((n = 0 ∧ r = .nils ∧ M = []) ∨ (n ≠ 0 ∧ ∃ id, M = [id] ∧ r = .sl sz id 0 n ∧ st'.h id = some (.cells cs))) := by
  rcases h with ⟨h1, h2, h3⟩ | ⟨h1, id, h2, h3, h4⟩
  · exact ⟨[], by simp, by simp, .inl ⟨h1, h2, rfl⟩⟩
  · refine ⟨[id], by simpa using h2, ?_, .inr ⟨h1, id, rfl, h3, by rw [h4, ASt.new_self _ h2]⟩⟩
    intro j hj
    have : j = id := by simpa using hj
    rw [this, h4, ASt.new_self _ h2]; simp
theorem Owned.slen {st st' : ASt} {sz n : Nat} {cs : List AV} {r : AV} (h : Owned st st' sz cs n r) : r.slen = some n := by
  rcases h with ⟨rfl, rfl, _⟩ | ⟨_, id, _, rfl, _⟩ <;> rfl
theorem CpI.rep {α : Type} {enc : α → List AV} {s0 s : ASt} {id k n : Nat} {l : List α} (h : CpI enc s0 s id l l.length) : ∃ L, RepL s [.sl k id 0 n] [.isl k (l.flatMap enc) n] L ∧ Upd s0 [id] s L := by
  obtain ⟨ws, L, h1, h2, h3, h4, h5⟩ := h.done
  refine ⟨id :: (L ++ []), .sl h1 h2 h3 (by simp) (by simp) .nil, fun j hj o ho => h5 j (by simpa using hj) o ho, fun j hj => ?_⟩
  rcases List.mem_cons.mp hj with rfl | hj
  · exact .inl (by simp)
  · exact .inr (h4 j (by simpa using hj))
theorem clk_row_rep {st : ASt} {c : Clk} {r : AV} {Lv : List Nat} (hv : RepL st [r] [row c.src] Lv) : RepL st (c.cells.set 1 r) c.cells Lv := by
  have := hv.app (RepL.scalars (cs := [.int .u64 c.rate, .int .i64 c.mul, .int .i64 c.div, .int .i64 c.lock]) rfl st) (by simp)
  rw [List.append_nil] at this
  exact .one rfl this
theorem dev_row_rep {st : ASt} {d : Dev} {r4 r5 : AV} {L4 L5 : List Nat} (h4 : RepL st [r4] [.isl 2 (flat d.regs) d.regs.length] L4) (h5 : RepL st [r5] [row d.needs] L5) (hd : ∀ j ∈ L4, j ∉ L5) :
    RepL st ((d.cells.set 4 r4).set 5 r5) d.cells (L4 ++ L5) :=
  .one rfl (.one rfl (.one rfl (.one rfl (h4.app h5 hd))))
theorem copy_own {st : ASt} {a : Soc} (ha : a.sane) : ACalls Try.prog F.conf_Copy [.agg a.cells] st fun r s' => ∃ vs L, r = .agg vs ∧ RepL s' vs a.cells L ∧ (∀ j ∈ L, st.h j = none) ∧ st.le s' := by
  refine calls_of_awp L.conf_Copy rfl ?_
  have hac := ha.c
  have hav := ha.v
  simp only [↓Bp, Bq, Bs, ↓aop.eq_28, ↓aop.eq_30, Nat.reduceEqDiff, Nat.reduceAdd, Nat.reduceMul, Nat.reduceSub, Nat.reduceLeDiff, Nat.reduceLT, Int.reduceLT, Int.reduceLE, Int.reduceEq, Int.reduceToNat, Int.reduceAdd, Int.reduceSub, Int.reduceNeg, ↓reduceIte, reduceCtorEq, ↓C.conf_Copy_r0_w, C.conf_Copy_r0_b, C.conf_Copy]
  rintro ib hib ir ⟨hir, hirb⟩
  have hle0 := (ASt.le.new st ib (.cells a.cells)).trans (ASt.le.new _ ir (.cells [.nils, .nils, .nils, .nils]))
  have hb0 : ((st.new ib (.cells a.cells)).new ir (.cells [.nils, .nils, .nils, .nils])).h ib = some (.cells a.cells) := ASt.new_old (ASt.new_self _ hib)
  have hr0 : ((st.new ib (.cells a.cells)).new ir (.cells [.nils, .nils, .nils, .nils])).h ir = some (.cells [.nils, .nils, .nils, .nils]) := ASt.new_self _ (by rw [ASt.new_none]; exact ⟨hir, hirb⟩)
  generalize (st.new ib (.cells a.cells)).new ir (.cells [.nils, .nils, .nils, .nils]) = s0 at hle0 hb0 hr0
  rw [Soc.cells, Soc.clkV, Soc.domV, Soc.rstV, Soc.devV] at hb0
  simp only [↓Bp, Bq, Bs, ↓aop.eq_28, ↓aop.eq_30, Nat.reduceEqDiff, Nat.reduceAdd, Nat.reduceMul, Nat.reduceSub, Nat.reduceLeDiff, Nat.reduceLT, Int.reduceLT, Int.reduceLE, Int.reduceEq, Int.reduceToNat, Int.reduceAdd, Int.reduceSub, Int.reduceNeg, ↓reduceIte, reduceCtorEq, ↓C.conf_Copy_W, C.conf_Copy_B, C.conf_Copy, hb0]
  refine (conf_own_api_Clock_spec (flatMap_len Clk.cells_len _) ha.c (clks_leaf _)).mono ?_
  rintro v1 s1 hO1
  have hb1 := hO1.le _ _ hb0
  simp only [↓Bp, Bq, Bs, ↓aop.eq_28, ↓aop.eq_30, Nat.reduceEqDiff, Nat.reduceAdd, Nat.reduceMul, Nat.reduceSub, Nat.reduceLeDiff, Nat.reduceLT, Int.reduceLT, Int.reduceLE, Int.reduceEq, Int.reduceToNat, Int.reduceAdd, Int.reduceSub, Int.reduceNeg, ↓reduceIte, reduceCtorEq, ↓C.conf_Copy_W, C.conf_Copy_B, C.conf_Copy, hb1]
  refine (conf_own_api_Domain_spec (flatMap_len Dom.cells_len _) ha.d (doms_leaf _)).mono ?_
  rintro v2 s2 hO2
  have hb2 := hO2.le _ _ hb1
  simp only [↓Bp, Bq, Bs, ↓aop.eq_28, ↓aop.eq_30, Nat.reduceEqDiff, Nat.reduceAdd, Nat.reduceMul, Nat.reduceSub, Nat.reduceLeDiff, Nat.reduceLT, Int.reduceLT, Int.reduceLE, Int.reduceEq, Int.reduceToNat, Int.reduceAdd, Int.reduceSub, Int.reduceNeg, ↓reduceIte, reduceCtorEq, ↓C.conf_Copy_W, C.conf_Copy_B, C.conf_Copy, hb2]
  refine (conf_own_api_Reset_spec (flatMap_len rstCells_len _) ha.r (rsts_leaf _)).mono ?_
  rintro v3 s3 hO3
  have hb3 := hO3.le _ _ hb2
  simp only [↓Bp, Bq, Bs, ↓aop.eq_28, ↓aop.eq_30, Nat.reduceEqDiff, Nat.reduceAdd, Nat.reduceMul, Nat.reduceSub, Nat.reduceLeDiff, Nat.reduceLT, Int.reduceLT, Int.reduceLE, Int.reduceEq, Int.reduceToNat, Int.reduceAdd, Int.reduceSub, Int.reduceNeg, ↓reduceIte, reduceCtorEq, ↓C.conf_Copy_W, C.conf_Copy_B, C.conf_Copy, hb3]
  refine (conf_own_api_Device_spec (flatMap_len Dev.cells_len _) ha.v (devs_leaf _)).mono ?_
  rintro v4 s4 hO4
  have hb4 := hO4.le _ _ hb3
  simp only [↓Bp, Bq, Bs, ↓aop.eq_28, ↓aop.eq_30, Nat.reduceEqDiff, Nat.reduceAdd, Nat.reduceMul, Nat.reduceSub, Nat.reduceLeDiff, Nat.reduceLT, Int.reduceLT, Int.reduceLE, Int.reduceEq, Int.reduceToNat, Int.reduceAdd, Int.reduceSub, Int.reduceNeg, ↓reduceIte, reduceCtorEq, ↓C.conf_Copy_r1_w, C.conf_Copy_r1_b, ↓C.conf_Copy_c21_w, ↓C.conf_Copy_r0_w, C.conf_Copy_r0_b, C.conf_Copy, part_leaf hO1.leaf, part_leaf hO2.leaf, part_leaf hO3.leaf, part_leaf hO4.leaf]
  rintro io hio
  have hlf : allLeaf [v1, v2, v3, v4] = true := by simp [allLeaf, hO1.leaf, hO2.leaf, hO3.leaf, hO4.leaf]
  simp only [↓Bp, Bq, Bs, ↓aop.eq_28, ↓aop.eq_30, Nat.reduceEqDiff, Nat.reduceAdd, Nat.reduceMul, Nat.reduceSub, Nat.reduceLeDiff, Nat.reduceLT, Int.reduceLT, Int.reduceLE, Int.reduceEq, Int.reduceToNat, Int.reduceAdd, Int.reduceSub, Int.reduceNeg, ↓reduceIte, reduceCtorEq, ↓C.conf_Copy_r1_w, C.conf_Copy_r1_b, ↓C.conf_Copy_c21_w, ↓C.conf_Copy_r0_w, C.conf_Copy_r0_b, C.conf_Copy, hio, hlf]
  refine ⟨trivial, ?_⟩
  obtain ⟨M1, m1, n1, hM1⟩ := hO1.ids
  obtain ⟨M4, m4, n4, hM4⟩ := hO4.ids
  obtain ⟨L2, r2, f2⟩ := hO2.rep (flatMap_len Dom.cells_len _) (doms_scalar _)
  obtain ⟨L3, r3, f3⟩ := hO3.rep (flatMap_len rstCells_len _) (rsts_scalar _)
  have hle5 := le_new_set (a := AObj.cells [.nils, .nils, .nils, .nils]) (b := AObj.cells [v1, v2, v3, v4]) hio
  have ho5 : ((s4.new io (AObj.cells [.nils, .nils, .nils, .nils])).set io (AObj.cells [v1, v2, v3, v4])).h io = some (.cells [v1, v2, v3, v4]) := by
    rw [ASt.set_h, if_pos rfl, ASt.new_self _ hio]; rfl
  have hr5 := hle5 _ _ (hO4.le _ _ (hO3.le _ _ (hO2.le _ _ (hO1.le _ _ hr0))))
  generalize (s4.new io (AObj.cells [.nils, .nils, .nils, .nils])).set io (AObj.cells [v1, v2, v3, v4]) = s5 at hle5 ho5 hr5
  have l45 := hle5
  have l35 := hO4.le.trans l45
  have l25 := hO3.le.trans l35
  have l15 := hO2.le.trans l25
  have l05 := hO1.le.trans l15
  -- what lies where
  have hM1s : ∀ j ∈ M1, s1.h j ≠ none := n1
  have r2' := r2.le l25
  have r3' := r3.le l35
  have dM1 : ∀ j, s1.h j = none → j ∉ M1 := fun j hj hm => n1 j hm hj
  have hioM1 : io ∉ M1 := dM1 io (fresh_of_le (hO2.le.trans (hO3.le.trans hO4.le)) hio)
  have hirM1 : ir ∉ M1 := fun hm => by have := m1 ir hm; rw [hr0] at this; cases this
  have hioM4 : io ∉ M4 := fun hm => n4 io hm hio
  have hirM4 : ir ∉ M4 := fun hm => by
    have := m4 ir hm
    rw [hO3.le _ _ (hO2.le _ _ (hO1.le _ _ hr0))] at this; cases this
  simp only [↓Bp, Bq, Bs, ↓aop.eq_28, ↓aop.eq_30, Nat.reduceEqDiff, Nat.reduceAdd, Nat.reduceMul, Nat.reduceSub, Nat.reduceLeDiff, Nat.reduceLT, Int.reduceLT, Int.reduceLE, Int.reduceEq, Int.reduceToNat, Int.reduceAdd, Int.reduceSub, Int.reduceNeg, ↓reduceIte, reduceCtorEq, ↓C.conf_Copy_W, C.conf_Copy_B, C.conf_Copy, ho5, Owned.slen hO1]
  refine awp_midB (fun _ : Unit => [(2, .ptr ir 0), (3, .ptr io 0)]) (fun _ s => ∃ L1, RepL s [v1] [a.clkV] L1 ∧ Upd s5 M1 s L1) ?_ ?_
  · rcases hM1 with ⟨hn, hv, hM⟩ | ⟨hn, i1, hM, hv, hi1⟩
    · subst hv; subst hM
      refine awp_loopK (fun i : Nat => [(2, .ptr ir 0), (3, .ptr io 0), (22, .int .i64 a.clocks.length), (23, .int .i64 i)]) (fun i s => s = s5) (fun i => 0) 0 rfl rfl ?_
      rintro i s rfl
      have hil' : ¬ (i : Int) < (a.clocks.length : Nat) := by omega
      simp only [↓Bp, Bq, Bs, ↓aop.eq_28, ↓aop.eq_30, Nat.reduceEqDiff, Nat.reduceAdd, Nat.reduceMul, Nat.reduceSub, Nat.reduceLeDiff, Nat.reduceLT, Int.reduceLT, Int.reduceLE, Int.reduceEq, Int.reduceToNat, Int.reduceAdd, Int.reduceSub, Int.reduceNeg, ↓reduceIte, reduceCtorEq, ↓C.conf_Copy_W, C.conf_Copy_B, C.conf_Copy, hil']
      refine ⟨(), [], ?_, Upd.refl _ _⟩
      have hc : a.clocks = [] := List.eq_nil_of_length_eq_zero hn
      rw [Soc.clkV, hc]
      exact .nils 6 .nil
    · subst hv; subst hM
      have hio1 : io ≠ i1 := by simpa using hioM1
      refine awp_loopK (fun i : Nat => [(2, .ptr ir 0), (3, .ptr io 0), (22, .int .i64 a.clocks.length), (23, .int .i64 i)]) (fun i s => i ≤ a.clocks.length ∧ CpI Clk.cells s5 s i1 a.clocks i) (fun i => a.clocks.length - i) 0 rfl ⟨Nat.zero_le _, CpI.start (l15 _ _ hi1)⟩ ?_
      rintro i s ⟨hi, hC⟩
      by_cases hil : i < a.clocks.length
      rotate_left
      · have hie : i = a.clocks.length := by omega
        subst hie
        have hil' : ¬ ((a.clocks.length : Nat) : Int) < (a.clocks.length : Nat) := by omega
        simp only [↓Bp, Bq, Bs, ↓aop.eq_28, ↓aop.eq_30, Nat.reduceEqDiff, Nat.reduceAdd, Nat.reduceMul, Nat.reduceSub, Nat.reduceLeDiff, Nat.reduceLT, Int.reduceLT, Int.reduceLE, Int.reduceEq, Int.reduceToNat, Int.reduceAdd, Int.reduceSub, Int.reduceNeg, ↓reduceIte, reduceCtorEq, ↓C.conf_Copy_W, C.conf_Copy_B, C.conf_Copy, hil']
        exact ⟨(), hC.rep⟩
      have hil' : (i : Int) < (a.clocks.length : Nat) := by omega
      have hz : (0:Int) ≤ (i : Int) ∧ (i : Int) < (a.clocks.length : Nat) := by omega
      have hw : IntKind.i64.wrap ((i : Int) + 1) = ((i + 1 : Nat) : Int) := by rw [wrap64] <;> omega
      have hos : s.h io = some (.cells [.sl 6 i1 0 a.clocks.length, v2, v3, v4]) := by
        obtain ⟨_, _, _, _, _, _, h5, _⟩ := hC
        exact h5 io hio1 _ ho5
      obtain ⟨vs1, q1, q2, q3⟩ := hC.row Clk.cells_len hil
      have hg := get_app (b := a.clocks[i].cells) (c := (a.clocks.drop (i + 1)).flatMap Clk.cells) (j := 1) q2 (by simp [Clk.cells])
      have hs' := fun v => set_app (b := a.clocks[i].cells) (c := (a.clocks.drop (i + 1)).flatMap Clk.cells) (j := 1) (v := v) q2 (by simp [Clk.cells])
      have hlw : i * 6 + 1 < (vs1 ++ (a.clocks[i].cells ++ (a.clocks.drop (i + 1)).flatMap Clk.cells)).length := by
        rw [List.length_append, List.length_append, Clk.cells_len]; omega
      generalize hws : vs1 ++ (a.clocks[i].cells ++ (a.clocks.drop (i + 1)).flatMap Clk.cells) = ws at q1 hg hs' hlw
      rw [show (a.clocks[i].cells)[1]? = some (row a.clocks[i].src) from rfl, row] at hg
      simp only [↓Bp, Bq, Bs, ↓aop.eq_28, ↓aop.eq_30, Nat.reduceEqDiff, Nat.reduceAdd, Nat.reduceMul, Nat.reduceSub, Nat.reduceLeDiff, Nat.reduceLT, Int.reduceLT, Int.reduceLE, Int.reduceEq, Int.reduceToNat, Int.reduceAdd, Int.reduceSub, Int.reduceNeg, ↓reduceIte, reduceCtorEq, ↓C.conf_Copy_W, C.conf_Copy_B, C.conf_Copy, hil', hos, hz, Int.toNat_natCast, q1, hg]
      refine (conf_own_int_spec (by rw [ints_length, Nat.mul_one]) (ha.cs _ (List.getElem_mem hil)) (ints_leaf _)).mono ?_
      rintro r t hO
      obtain ⟨Lv, hv, hLv⟩ := hO.rep (by rw [ints_length, Nat.mul_one]) (ints_scalar _)
      simp only [↓Bp, Bq, Bs, ↓aop.eq_28, ↓aop.eq_30, Nat.reduceEqDiff, Nat.reduceAdd, Nat.reduceMul, Nat.reduceSub, Nat.reduceLeDiff, Nat.reduceLT, Int.reduceLT, Int.reduceLE, Int.reduceEq, Int.reduceToNat, Int.reduceAdd, Int.reduceSub, Int.reduceNeg, ↓reduceIte, reduceCtorEq, ↓C.conf_Copy_W, C.conf_Copy_B, C.conf_Copy, hO.le _ _ hos, hz, Int.toNat_natCast, hO.le _ _ q1, hO.leaf, hlw, hs', hw]
      refine ⟨i + 1, rfl, ⟨hil, q3 t _ Lv hO.le ?_ hLv⟩, by omega⟩
      exact clk_row_rep hv
  rintro - s6 ⟨L1, r1, u1⟩
  have ho6 : s6.h io = some (.cells [v1, v2, v3, v4]) := u1.1 io hioM1 _ ho5
  have hr6 : s6.h ir = some (.cells [.nils, .nils, .nils, .nils]) := u1.1 ir hirM1 _ hr5
  have dis1 : ∀ {M : List Nat}, (∀ j ∈ M, s1.h j = none) → ∀ j ∈ M, j ∉ M1 := fun {M} hm j hj => dM1 j (hm j hj)
  have f2' : ∀ j ∈ L2, s1.h j = none := f2
  have f3' : ∀ j ∈ L3, s1.h j = none := fun j hj => fresh_of_le hO2.le (f3 j hj)
  have f4' : ∀ j ∈ M4, s1.h j = none := fun j hj => fresh_of_le (hO2.le.trans hO3.le) (m4 j hj)
  obtain ⟨r2a, d12⟩ := u1.keep r2' (dis1 f2')
  obtain ⟨r3a, d13⟩ := u1.keep r3' (dis1 f3')
  have d23 : ∀ j ∈ L2, j ∉ L3 := fun j hj hm => r2.live j hj (f3 j hm)
  have d24 : ∀ j ∈ L2, j ∉ M4 := fun j hj hm => r2.live j hj (fresh_of_le hO3.le (m4 j hm))
  have d34 : ∀ j ∈ L3, j ∉ M4 := fun j hj hm => r3.live j hj (m4 j hm)
  have d14 : ∀ j ∈ L1, j ∉ M4 := fun j hj hm => by
    rcases u1.2 j hj with h | h
    · exact dM1 j (f4' j hm) h
    · exact n4 j hm (fresh_of_le l45 h)
  simp only [↓Bp, Bq, Bs, ↓aop.eq_28, ↓aop.eq_30, Nat.reduceEqDiff, Nat.reduceAdd, Nat.reduceMul, Nat.reduceSub, Nat.reduceLeDiff, Nat.reduceLT, Int.reduceLT, Int.reduceLE, Int.reduceEq, Int.reduceToNat, Int.reduceAdd, Int.reduceSub, Int.reduceNeg, ↓reduceIte, reduceCtorEq, ↓C.conf_Copy_W, C.conf_Copy_B, C.conf_Copy, ho6, Owned.slen hO4]
  refine awp_midB (fun _ : Unit => [(2, .ptr ir 0), (3, .ptr io 0)]) (fun _ s => ∃ L4, RepL s [v4] [a.devV] L4 ∧ Upd s6 M4 s L4) ?_ ?_
  · rcases hM4 with ⟨hn, hv, hM⟩ | ⟨hn, i4, hM, hv, hi4⟩
    · subst hv; subst hM
      refine awp_loopK (fun i : Nat => [(2, .ptr ir 0), (3, .ptr io 0), (41, .int .i64 a.devs.length), (42, .int .i64 i)]) (fun i s => s = s6) (fun i => 0) 0 rfl rfl ?_
      rintro i s rfl
      have hil' : ¬ (i : Int) < (a.devs.length : Nat) := by omega
      simp only [↓Bp, Bq, Bs, ↓aop.eq_28, ↓aop.eq_30, Nat.reduceEqDiff, Nat.reduceAdd, Nat.reduceMul, Nat.reduceSub, Nat.reduceLeDiff, Nat.reduceLT, Int.reduceLT, Int.reduceLE, Int.reduceEq, Int.reduceToNat, Int.reduceAdd, Int.reduceSub, Int.reduceNeg, ↓reduceIte, reduceCtorEq, ↓C.conf_Copy_W, C.conf_Copy_B, C.conf_Copy, hil']
      refine ⟨(), [], ?_, Upd.refl _ _⟩
      have hc : a.devs = [] := List.eq_nil_of_length_eq_zero hn
      rw [Soc.devV, hc]
      exact .nils 6 .nil
    · subst hv; subst hM
      have hio4 : io ≠ i4 := by simpa using hioM4
      have hi4' : i4 ∉ M1 := dis1 f4' i4 (by simp)
      refine awp_loopK (fun i : Nat => [(2, .ptr ir 0), (3, .ptr io 0), (41, .int .i64 a.devs.length), (42, .int .i64 i)]) (fun i s => i ≤ a.devs.length ∧ CpI Dev.cells s6 s i4 a.devs i) (fun i => a.devs.length - i) 0 rfl ⟨Nat.zero_le _, CpI.start (u1.1 i4 hi4' _ (l45 _ _ hi4))⟩ ?_
      rintro i s ⟨hi, hC⟩
      by_cases hil : i < a.devs.length
      rotate_left
      · have hie : i = a.devs.length := by omega
        subst hie
        have hil' : ¬ ((a.devs.length : Nat) : Int) < (a.devs.length : Nat) := by omega
        simp only [↓Bp, Bq, Bs, ↓aop.eq_28, ↓aop.eq_30, Nat.reduceEqDiff, Nat.reduceAdd, Nat.reduceMul, Nat.reduceSub, Nat.reduceLeDiff, Nat.reduceLT, Int.reduceLT, Int.reduceLE, Int.reduceEq, Int.reduceToNat, Int.reduceAdd, Int.reduceSub, Int.reduceNeg, ↓reduceIte, reduceCtorEq, ↓C.conf_Copy_W, C.conf_Copy_B, C.conf_Copy, hil']
        exact ⟨(), hC.rep⟩
      have hil' : (i : Int) < (a.devs.length : Nat) := by omega
      have hz : (0:Int) ≤ (i : Int) ∧ (i : Int) < (a.devs.length : Nat) := by omega
      have hw : IntKind.i64.wrap ((i : Int) + 1) = ((i + 1 : Nat) : Int) := by rw [wrap64] <;> omega
      have hos : s.h io = some (.cells [v1, v2, v3, .sl 6 i4 0 a.devs.length]) := by
        obtain ⟨_, _, _, _, _, _, h5, _⟩ := hC
        exact h5 io hio4 _ ho6
      obtain ⟨vs1, q1, q2, q3⟩ := hC.row Dev.cells_len hil
      have hg4 := get_app (b := a.devs[i].cells) (c := (a.devs.drop (i + 1)).flatMap Dev.cells) (j := 4) q2 (by simp [Dev.cells])
      have hg5 := get_app (b := a.devs[i].cells) (c := (a.devs.drop (i + 1)).flatMap Dev.cells) (j := 5) q2 (by simp [Dev.cells])
      have hs4 := fun v => set_app (b := a.devs[i].cells) (c := (a.devs.drop (i + 1)).flatMap Dev.cells) (j := 4) (v := v) q2 (by simp [Dev.cells])
      have hs5 := fun u v => set_app (b := a.devs[i].cells.set 4 u) (c := (a.devs.drop (i + 1)).flatMap Dev.cells) (j := 5) (v := v) q2 (by simp [Dev.cells])
      have hlw : ∀ k, k < 6 → i * 6 + k < (vs1 ++ (a.devs[i].cells ++ (a.devs.drop (i + 1)).flatMap Dev.cells)).length := by
        intro k hk
        rw [List.length_append, List.length_append, Dev.cells_len]; omega
      have hlw2 : ∀ u, i * 6 + 5 < (vs1 ++ (a.devs[i].cells.set 4 u ++ (a.devs.drop (i + 1)).flatMap Dev.cells)).length := by
        intro u
        rw [List.length_append, List.length_append, List.length_set, Dev.cells_len]; omega
      generalize hws : vs1 ++ (a.devs[i].cells ++ (a.devs.drop (i + 1)).flatMap Dev.cells) = ws at q1 hg4 hg5 hs4 hlw
      rw [show (a.devs[i].cells)[4]? = some (.isl 2 (flat a.devs[i].regs) a.devs[i].regs.length) from rfl] at hg4
      rw [show (a.devs[i].cells)[5]? = some (row a.devs[i].needs) from rfl, row] at hg5
      have hv2 := ha.vs _ (List.getElem_mem hil)
      simp only [↓Bp, Bq, Bs, ↓aop.eq_28, ↓aop.eq_30, Nat.reduceEqDiff, Nat.reduceAdd, Nat.reduceMul, Nat.reduceSub, Nat.reduceLeDiff, Nat.reduceLT, Int.reduceLT, Int.reduceLE, Int.reduceEq, Int.reduceToNat, Int.reduceAdd, Int.reduceSub, Int.reduceNeg, ↓reduceIte, reduceCtorEq, ↓C.conf_Copy_W, C.conf_Copy_B, C.conf_Copy, hil', hos, hz, Int.toNat_natCast, q1, hg4, hg5]
      refine (conf_own_api_Reg_spec (flat_length _) hv2.1 (flat_leaf _)).mono ?_
      rintro r4 t4 hP4
      obtain ⟨K4, x4, y4⟩ := hP4.rep (flat_length _) (flat_scalar _)
      simp only [↓Bp, Bq, Bs, ↓aop.eq_28, ↓aop.eq_30, Nat.reduceEqDiff, Nat.reduceAdd, Nat.reduceMul, Nat.reduceSub, Nat.reduceLeDiff, Nat.reduceLT, Int.reduceLT, Int.reduceLE, Int.reduceEq, Int.reduceToNat, Int.reduceAdd, Int.reduceSub, Int.reduceNeg, ↓reduceIte, reduceCtorEq, ↓C.conf_Copy_W, C.conf_Copy_B, C.conf_Copy, hP4.le _ _ hos, hz, Int.toNat_natCast, hP4.le _ _ q1, hg5]
      refine (conf_own_int_spec (by rw [ints_length, Nat.mul_one]) hv2.2 (ints_leaf _)).mono ?_
      rintro r5 t5 hP5
      obtain ⟨K5, x5, y5⟩ := hP5.rep (by rw [ints_length, Nat.mul_one]) (ints_scalar _)
      have l5 := hP4.le.trans hP5.le
      simp only [↓Bp, Bq, Bs, ↓aop.eq_28, ↓aop.eq_30, Nat.reduceEqDiff, Nat.reduceAdd, Nat.reduceMul, Nat.reduceSub, Nat.reduceLeDiff, Nat.reduceLT, Int.reduceLT, Int.reduceLE, Int.reduceEq, Int.reduceToNat, Int.reduceAdd, Int.reduceSub, Int.reduceNeg, ↓reduceIte, reduceCtorEq, ↓C.conf_Copy_W, C.conf_Copy_B, C.conf_Copy, l5 _ _ hos, hz, Int.toNat_natCast, l5 _ _ q1, hP4.leaf, hP5.leaf, hlw 4 (by omega), hlw2, hs4, hs5, hw]
      have e2 : ∀ (x y : AObj), ((t5.set i4 x).set i4 y) = t5.set i4 y := fun x y => ASt.ext' fun k => by
        simp only [ASt.set_h]; split
        · cases t5.h k <;> rfl
        · rfl
      rw [e2]
      refine ⟨i + 1, rfl, ⟨hil, q3 t5 _ (K4 ++ K5) l5 ?_ fun j hj => ?_⟩, by omega⟩
      · refine dev_row_rep (x4.le hP5.le) x5 fun j hj hm => ?_
        exact x4.live j hj (y5 j hm)
      · rcases List.mem_append.mp hj with h | h
        · exact y4 j h
        · exact fresh_of_le hP4.le (y5 j h)
  rintro - s7 ⟨L4, r4, u4⟩
  have ho7 : s7.h io = some (.cells [v1, v2, v3, v4]) := u4.1 io hioM4 _ ho6
  have hr7 : s7.h ir = some (.cells [.nils, .nils, .nils, .nils]) := u4.1 ir hirM4 _ hr6
  obtain ⟨r1b, e14⟩ := u4.keep r1 d14
  obtain ⟨r2b, e24⟩ := u4.keep r2a d24
  obtain ⟨r3b, e34⟩ := u4.keep r3a d34
  simp only [↓Bp, Bq, Bs, ↓aop.eq_28, ↓aop.eq_30, Nat.reduceEqDiff, Nat.reduceAdd, Nat.reduceMul, Nat.reduceSub, Nat.reduceLeDiff, Nat.reduceLT, Int.reduceLT, Int.reduceLE, Int.reduceEq, Int.reduceToNat, Int.reduceAdd, Int.reduceSub, Int.reduceNeg, ↓reduceIte, reduceCtorEq, ↓C.conf_Copy_W, C.conf_Copy_B, C.conf_Copy, ho7, hr7, hlf]
  have g1 : ∀ j ∈ L1, s0.h j = none := fun j hj => by
    rcases u1.2 j hj with h | h
    · exact m1 j h
    · exact fresh_of_le l05 h
  have g4 : ∀ j ∈ L4, s0.h j = none := fun j hj => by
    rcases u4.2 j hj with h | h
    · exact fresh_of_le hO1.le (f4' j h)
    · cases e : s0.h j with
      | none => rfl
      | some o =>
        have hn1 : j ∉ M1 := fun hm => by rw [m1 j hm] at e; cases e
        rw [u1.1 j hn1 _ (l05 _ _ e)] at h; cases h
  have g2 : ∀ j ∈ L2, s0.h j = none := fun j hj => fresh_of_le hO1.le (f2 j hj)
  have g3 : ∀ j ∈ L3, s0.h j = none := fun j hj => fresh_of_le hO1.le (f3' j hj)
  have hall : ∀ j ∈ L1 ++ (L2 ++ (L3 ++ L4)), s0.h j = none := by
    intro j hj
    simp only [List.mem_append] at hj
    rcases hj with h | h | h | h
    · exact g1 j h
    · exact g2 j h
    · exact g3 j h
    · exact g4 j h
  have hirL : ir ∉ L1 ++ (L2 ++ (L3 ++ L4)) := fun hm => by have := hall ir hm; rw [hr0] at this; cases this
  refine ⟨[v1, v2, v3, v4], L1 ++ (L2 ++ (L3 ++ L4)), rfl, ?_, fun j hj => fresh_of_le hle0 (hall j hj), fun j o ho => ?_⟩
  · have hrep := r1b.app (r2b.app (r3b.app r4 e34) fun j hj hm => by
      rcases List.mem_append.mp hm with hm | hm
      · exact d23 j hj hm
      · exact e24 j hj hm) fun j hj hm => by
      rcases List.mem_append.mp hm with hm | hm
      · exact d12 j hm hj
      · rcases List.mem_append.mp hm with hm | hm
        · exact d13 j hm hj
        · exact e14 j hj hm
    refine RepL.off hrep fun j hj => ?_
    rw [ASt.set_h, if_neg (by rintro rfl; exact hirL hj)]
  · have hjr : j ≠ ir := by rintro rfl; rw [hir] at ho; cases ho
    rw [ASt.set_h, if_neg hjr]
    have h0 := hle0 _ _ ho
    refine u4.1 j (fun hm => ?_) _ (u1.1 j (fun hm => ?_) _ (l05 _ _ h0))
    · have := fresh_of_le hO1.le (f4' j hm)
      rw [h0] at this; cases this
    · rw [m1 j hm] at h0; cases h0
theorem copy_frz {st : ASt} {a : Soc} (ha : a.sane) : ACalls Try.prog F.conf_Copy [.agg a.cells] st fun r s' => r = .agg a.cells ∧ s' = st :=
  (copy_own ha).ghost fun r s' ⟨vs, L, h1, h2, h3, h4⟩ => ⟨.agg a.cells, st, by rw [h1]; exact h2.ghostAgg.trans (Ghost.sub (h4.killL h3)), rfl, rfl⟩
end Go.Proofs.Ytjamidgdhmjhaaa.Cn
