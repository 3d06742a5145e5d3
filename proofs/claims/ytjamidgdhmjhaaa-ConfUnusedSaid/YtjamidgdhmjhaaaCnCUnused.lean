/- Descriptions: ConfUnused. -/
import Derived.Test.YtjamidgdhmjhaaaCnCFaultsM
set_option linter.unusedSimpArgs false
set_option linter.unusedVariables false
namespace Go.Proofs.Ytjamidgdhmjhaaa.Cn
open Go Go.Proofs

/-- A clock whose fields that it has no use for are others. -/
def Clk.upd (a b c r : Int) (k : Clk) : Clk :=
  ⟨k.kind, k.src, if k.kind = 111 then k.rate else r, if k.kind = 112 then k.mul else a, if k.kind = 112 ∨ k.kind = 100 then k.div else b, if k.kind = 112 then k.lock else c⟩
/-- The clocks, the first so many with other fields. -/
def updTo (a b c r : Int) (l : List Clk) (i : Nat) : List Clk := (l.take i).map (Clk.upd a b c r) ++ l.drop i
theorem updTo_len (a b c r : Int) (l : List Clk) (i : Nat) : (updTo a b c r l i).length = l.length := by simp [updTo]; omega
theorem updTo_at {a b c r : Int} {l : List Clk} {i : Nat} (h : i < l.length) : (updTo a b c r l i)[i]'(by rw [updTo_len]; exact h) = l[i] := by
  simp only [updTo]
  rw [List.getElem_append_right (by simp; omega)]
  simp [Nat.min_eq_left (Nat.le_of_lt h)]
theorem updTo_set {a b c r : Int} {l : List Clk} {i : Nat} (h : i < l.length) : (updTo a b c r l i).set i (Clk.upd a b c r l[i]) = updTo a b c r l (i + 1) := by
  simp only [updTo]
  rw [List.set_append_right _ _ (by simp; omega), List.take_succ_eq_append_getElem h, List.map_append]
  have : i - ((l.take i).map (Clk.upd a b c r)).length = 0 := by simp; omega
  rw [this, ← List.getElem_cons_drop (h := h), List.set_cons_zero]
  simp
theorem updTo_all (a b c r : Int) (l : List Clk) : updTo a b c r l l.length = l.map (Clk.upd a b c r) := by simp [updTo]
theorem clkE_upd (a b c r : Int) (n : Nat) (k : Clk) (j : Nat) : clkE n (k.upd a b c r) j = clkE n k j := by
  match j with
  | 0 => rfl
  | 1 => rfl
  | j + 2 =>
    simp only [clkE]
    have : (k.upd a b c r).nums = k.nums := by
      unfold Clk.nums Clk.upd
      simp only
      by_cases h1 : k.kind = 111
      · simp [h1]
      by_cases h2 : k.kind = 112
      · simp [h1, h2]
      by_cases h3 : k.kind = 100
      · simp [h1, h2, h3]
      · simp [h1, h2, h3]
    rw [this]
theorem confErr_upd {S : Soc} (h : S.like) (a b c r : Int) : confErr { S with clocks := S.clocks.map (Clk.upd a b c r) } = 0 := by
  refine firstE_zero.mpr fun i hi => ?_
  have hf := fullE_zero.mp h.full
  match i, hi with
  | 0, _ => exact fullE_zero.mpr ⟨by simpa using hf.1, hf.2⟩
  | 1, _ =>
    refine firstE_zero.mpr fun i hi => ?_
    rw [ofAll_at hi]
    simp only [List.length_map, List.getElem_map] at hi ⊢
    have := (h.clk i hi).right hi
    have e : clkE S.clocks.length (Clk.upd a b c r S.clocks[i]) = clkE S.clocks.length S.clocks[i] := funext fun j => clkE_upd a b c r _ _ j
    rw [e]; exact this
  | 2, _ =>
    show cycE ((S.clocks.map (Clk.upd a b c r)).map Clk.src) = 0
    rw [List.map_map]
    exact cycE_zero h.clkG
  | 3, _ => exact h.domsz
  | 4, _ => exact cycE_zero h.domG
  | 5, _ => exact h.rstsz
  | 6, _ =>
    have := h.devsz
    show devsE _ = 0
    have e : (fun d => firstE (devE { S with clocks := S.clocks.map (Clk.upd a b c r) } d) 4) = fun d => firstE (devE S d) 4 := funext fun d => by
      congr 1
      funext j
      match j with
      | 0 => simp [devE]
      | 1 | 2 | n + 3 => rfl
    unfold devsE
    rw [e]; exact this
  | 7, _ => exact cycE_zero h.devG
theorem upd_ne {S : Soc} (h : S.like) {a b c r : Int} (ho : a ≠ 0 ∨ b ≠ 0 ∨ c ≠ 0) : ({ S with clocks := S.clocks.map (Clk.upd a b c r) } : Soc) ≠ S := by
  intro e
  have h0 := h.nc.1
  have e1 : S.clocks.map (Clk.upd a b c r) = S.clocks := congrArg Soc.clocks e
  have e2 : Clk.upd a b c r S.clocks[0] = S.clocks[0] := by
    have := congrArg (fun l => l[0]?) e1
    simpa [h0] using this
  have hk := h.clk 0 h0
  generalize S.clocks[0] = k at e2 hk
  cases hk with
  | osc x hx hi =>
    simp only [Clk.upd] at e2
    have := (Clk.eq_iff.mp e2)
    simp at this
    omega
  | pll x m d l hx => omega
  | div x d hx => omega
  | gate x hx => omega
  | mux x y hx => omega
theorem updTo_sane {S : Soc} (h : S.sane) (a b c r : Int) (i : Nat) : ({ S with clocks := updTo a b c r S.clocks i } : Soc).sane := by
  refine ⟨by rw [updTo_len]; exact h.c, h.d, h.r, h.v, fun k hk => ?_, h.vs⟩
  rcases List.mem_append.mp hk with hk | hk
  · obtain ⟨x, hx, rfl⟩ := List.mem_map.mp hk
    exact h.cs x (List.mem_of_mem_take hx)
  · exact h.cs k (List.mem_of_mem_drop hk)

/-- A number of a clock is read. -/
theorem get_clk {s0 s : ASt} {b : Nat} {S : Soc} {vs : List AV} {L : List Nat} (h : BoxL s0 s b vs S.cells L) {i j : Nat} {x : AV} (hi : i < S.clocks.length) (hj : j < 6) (hx : (S.clocks[i].cells)[j]? = some x) (hs : x.scalar = true) :
    ∃ id ws, vs[0]? = some (.sl 6 id 0 S.clocks.length) ∧ s.h id = some (.cells ws) ∧ ws[i * 6 + j]? = some x := by
  obtain ⟨id, ws, Lw, e1, e2, e3, -⟩ := h.2.1.inner (i := 0) (sz := 6) (n := S.clocks.length) (ds := S.clocks.flatMap Clk.cells) rfl (by omega)
  refine ⟨id, ws, e1, e2, e3.get ?_ hs⟩
  rw [rows_get Clk.cells Clk.cells_len hi hj]; exact hx

/-- One clock, its fields one behind the other. -/
theorem unused_step {s0 t : ASt} {ib : Nat} {U : Soc} {i : Nat} {a b c r : Int} {l : AV} (hi : i < U.clocks.length) (hB : ChipBox s0 t ib U) {Q : IExit → AFr → ASt → Prop}
    (hQ : ∀ t2, ChipBox s0 t2 ib { U with clocks := U.clocks.set i (Clk.upd a b c r U.clocks[i]) } → ∀ fr, fr.keep [0, 1, 2, 3, 4, 12, 13] = [(0, l), (1, .int .i64 a), (2, .int .i64 b), (3, .int .i64 c), (4, .int .u64 r), (12, .ptr ib 0), (13, .int .i64 i)] → Q .normal fr t2) :
    awp Try.prog C.catnaplaw4_ConfUnused_b15 Q [(0, l), (1, .int .i64 a), (2, .int .i64 b), (3, .int .i64 c), (4, .int .u64 r), (12, .ptr ib 0), (13, .int .i64 i)] t := by
  obtain ⟨k, hk⟩ : ∃ k, k = U.clocks[i] := ⟨_, rfl⟩
  have hz : (0:Int) ≤ (i : Int) ∧ (i : Int) < (U.clocks.length : Nat) := by omega
  rw [← hk] at hQ
  obtain ⟨a0, a1, a2, a3, L2, hBL, hb, z0, -⟩ := hB.four
  obtain ⟨id, ws, g1, g2, g3⟩ := get_clk (i := i) (j := 0) (x := .int .u8 k.kind) hBL hi (by omega) (by rw [← hk]; rfl) rfl
  cases g1
  rw [Nat.add_zero] at g3
  simp only [↓Bp, Bq, Bs, ↓aop.eq_28, ↓aop.eq_30, Nat.reduceEqDiff, Nat.reduceAdd, Nat.reduceMul, Nat.reduceSub, Nat.reduceLeDiff, Nat.reduceLT, Int.reduceLT, Int.reduceLE, Int.reduceEq, Int.reduceToNat, Int.reduceAdd, Int.reduceSub, Int.reduceNeg, ↓reduceIte, reduceCtorEq, ↓C.catnaplaw4_ConfUnused_r8_w, C.catnaplaw4_ConfUnused_r8_b, ↓C.catnaplaw4_ConfUnused_b15_w, hb, hz, Int.toNat_natCast, g2, g3]
  clear g2 g3 hb hBL
  rw [C.catnaplaw4_ConfUnused_c14_w, awp_keep, awp_seq]
  refine awp_mid (fun _ : Unit => [(0, l), (1, .int .i64 a), (2, .int .i64 b), (3, .int .i64 c), (4, .int .u64 r), (12, .ptr ib 0), (13, .int .i64 i), (14, .int .u8 k.kind)]) (fun _ t => ChipBox s0 t ib { U with clocks := U.clocks.set i { k with rate := if k.kind = 111 then k.rate else r } }) ?_ ?_
  · by_cases h1 : k.kind = 111
    · have h1' := eq_true h1
      simp only [↓Bp, Bq, Bs, ↓aop.eq_28, ↓aop.eq_30, Nat.reduceEqDiff, Nat.reduceAdd, Nat.reduceMul, Nat.reduceSub, Nat.reduceLeDiff, Nat.reduceLT, Int.reduceLT, Int.reduceLE, Int.reduceEq, Int.reduceToNat, Int.reduceAdd, Int.reduceSub, Int.reduceNeg, ↓reduceIte, reduceCtorEq, ↓C.catnaplaw4_ConfUnused_r10_w, C.catnaplaw4_ConfUnused_r10_b, ↓C.catnaplaw4_ConfUnused_c12_w, ↓C.catnaplaw4_ConfUnused_c13_w, ↓C.catnaplaw4_ConfUnused_r9_w, C.catnaplaw4_ConfUnused_r9_b, ↓C.catnaplaw4_ConfUnused_c14_w, h1']
      refine ⟨(), ?_⟩
      rw [hk, List.set_getElem_self]; exact hB
    · obtain ⟨a0, a1, a2, a3, L2, hBL, hb, z0, -⟩ := hB.four
      obtain ⟨id, ws, q1, q2, q3, q4, q5⟩ := put_clk (i := i) (j := 2) (c := { k with rate := r }) (v := .int .u64 r) hBL hi (by omega) rfl (by rw [← hk]; rfl)
      cases q1
      simp only [↓Bp, Bq, Bs, ↓aop.eq_28, ↓aop.eq_30, Nat.reduceEqDiff, Nat.reduceAdd, Nat.reduceMul, Nat.reduceSub, Nat.reduceLeDiff, Nat.reduceLT, Int.reduceLT, Int.reduceLE, Int.reduceEq, Int.reduceToNat, Int.reduceAdd, Int.reduceSub, Int.reduceNeg, ↓reduceIte, reduceCtorEq, ↓C.catnaplaw4_ConfUnused_r10_w, C.catnaplaw4_ConfUnused_r10_b, ↓C.catnaplaw4_ConfUnused_c12_w, ↓C.catnaplaw4_ConfUnused_c13_w, ↓C.catnaplaw4_ConfUnused_r9_w, C.catnaplaw4_ConfUnused_r9_b, ↓C.catnaplaw4_ConfUnused_c14_w, h1, hb, hz, Int.toNat_natCast, q2, q3]
      exact ⟨(), q5⟩
  clear hB
  rintro - t hB
  obtain ⟨k1, hk1⟩ : ∃ k1 : Clk, k1 = { k with rate := if k.kind = 111 then k.rate else r } := ⟨_, rfl⟩
  rw [← hk1] at hB
  have hkk : k1.kind = k.kind := by rw [hk1]
  obtain ⟨V, hV⟩ : ∃ V : Soc, V = { U with clocks := U.clocks.set i k1 } := ⟨_, rfl⟩
  rw [← hV] at hB
  have hiV : i < V.clocks.length := by rw [hV]; simpa using hi
  have hgV : V.clocks[i] = k1 := by simp [hV]
  have hz : (0:Int) ≤ (i : Int) ∧ (i : Int) < (V.clocks.length : Nat) := by omega
  have fin1 : ∀ x : Clk, ({ V with clocks := V.clocks.set i x } : Soc) = { U with clocks := U.clocks.set i x } := fun x => by simp [hV]
  rw [awp_seq]
  refine awp_mid (fun _ : Unit => [(0, l), (1, .int .i64 a), (2, .int .i64 b), (3, .int .i64 c), (4, .int .u64 r), (12, .ptr ib 0), (13, .int .i64 i), (14, .int .u8 k.kind)]) (fun _ t => ChipBox s0 t ib { V with clocks := V.clocks.set i { k1 with mul := if k.kind = 112 then k1.mul else a, lock := if k.kind = 112 then k1.lock else c } }) ?_ ?_
  · by_cases h1 : k.kind = 112
    · have h1' := eq_true h1
      simp only [↓Bp, Bq, Bs, ↓aop.eq_28, ↓aop.eq_30, Nat.reduceEqDiff, Nat.reduceAdd, Nat.reduceMul, Nat.reduceSub, Nat.reduceLeDiff, Nat.reduceLT, Int.reduceLT, Int.reduceLE, Int.reduceEq, Int.reduceToNat, Int.reduceAdd, Int.reduceSub, Int.reduceNeg, ↓reduceIte, reduceCtorEq, ↓C.catnaplaw4_ConfUnused_r13_w, C.catnaplaw4_ConfUnused_r13_b, ↓C.catnaplaw4_ConfUnused_c8_w, ↓C.catnaplaw4_ConfUnused_r12_w, C.catnaplaw4_ConfUnused_r12_b, ↓C.catnaplaw4_ConfUnused_c9_w, ↓C.catnaplaw4_ConfUnused_c10_w, ↓C.catnaplaw4_ConfUnused_r11_w, C.catnaplaw4_ConfUnused_r11_b, ↓C.catnaplaw4_ConfUnused_c11_w, h1']
      refine ⟨(), ?_⟩
      rw [← hgV, List.set_getElem_self]; exact hB
    · obtain ⟨a0, a1, a2, a3, L2, hBL, hb, z0, -⟩ := hB.four
      obtain ⟨id, ws, q1, q2, q3, q4, q5⟩ := put_clk (i := i) (j := 3) (c := { k1 with mul := a }) (v := .int .i64 a) hBL hiV (by omega) rfl (by rw [hgV]; rfl)
      cases q1
      have hb' : (t.set id (.cells (ws.set (i * 6 + 3) (.int .i64 a)))).h ib = some (.cells [.sl 6 id 0 V.clocks.length, a1, a2, a3]) := by rw [ASt.set_h, if_neg (Ne.symm q4)]; exact hb
      obtain ⟨b0, b1, b2, b3, L3, hBL3, hb3, -⟩ := q5.four
      obtain ⟨id', ws', p1, p2, p3, p4, p5⟩ := put_clk (i := i) (j := 5) (c := { k1 with mul := a, lock := c }) (v := .int .i64 c) hBL3 (by simpa using hiV) (by omega) rfl (by simp [Clk.cells])
      simp only [List.length_set] at p1 p2 p3 p5
      rw [hb'] at hb3; cases hb3; cases p1
      rw [ASt.set_h, if_pos rfl, q2] at p2
      cases p2
      rw [List.length_set] at p3
      simp only [↓Bp, Bq, Bs, ↓aop.eq_28, ↓aop.eq_30, Nat.reduceEqDiff, Nat.reduceAdd, Nat.reduceMul, Nat.reduceSub, Nat.reduceLeDiff, Nat.reduceLT, Int.reduceLT, Int.reduceLE, Int.reduceEq, Int.reduceToNat, Int.reduceAdd, Int.reduceSub, Int.reduceNeg, ↓reduceIte, reduceCtorEq, ↓C.catnaplaw4_ConfUnused_r13_w, C.catnaplaw4_ConfUnused_r13_b, ↓C.catnaplaw4_ConfUnused_c8_w, ↓C.catnaplaw4_ConfUnused_r12_w, C.catnaplaw4_ConfUnused_r12_b, ↓C.catnaplaw4_ConfUnused_c9_w, ↓C.catnaplaw4_ConfUnused_c10_w, ↓C.catnaplaw4_ConfUnused_r11_w, C.catnaplaw4_ConfUnused_r11_b, ↓C.catnaplaw4_ConfUnused_c11_w, h1, hb, hz, Int.toNat_natCast, q2, q3, p3, q4, Ne.symm q4]
      refine ⟨(), ?_⟩
      rw [List.set_set] at p5
      exact p5
  clear hB
  rintro - t hB
  obtain ⟨k2, hk2⟩ : ∃ k2 : Clk, k2 = { k1 with mul := if k.kind = 112 then k1.mul else a, lock := if k.kind = 112 then k1.lock else c } := ⟨_, rfl⟩
  rw [← hk2] at hB
  obtain ⟨W, hW⟩ : ∃ W : Soc, W = { V with clocks := V.clocks.set i k2 } := ⟨_, rfl⟩
  rw [← hW] at hB
  have hiW : i < W.clocks.length := by rw [hW]; simpa using hiV
  have hgW : W.clocks[i] = k2 := by simp [hW]
  have hzW : (0:Int) ≤ (i : Int) ∧ (i : Int) < (W.clocks.length : Nat) := by omega
  have fin2 : ∀ x : Clk, ({ W with clocks := W.clocks.set i x } : Soc) = { U with clocks := U.clocks.set i x } := fun x => by rw [← fin1 x]; simp [hW]
  have hupd : Clk.upd a b c r k = { k2 with div := if k.kind = 112 ∨ k.kind = 100 then k2.div else b } := by
    rw [hk2, hk1]; rfl
  by_cases h1 : k.kind = 112
  · have h1' := eq_true h1
    simp only [↓Bp, Bq, Bs, ↓aop.eq_28, ↓aop.eq_30, Nat.reduceEqDiff, Nat.reduceAdd, Nat.reduceMul, Nat.reduceSub, Nat.reduceLeDiff, Nat.reduceLT, Int.reduceLT, Int.reduceLE, Int.reduceEq, Int.reduceToNat, Int.reduceAdd, Int.reduceSub, Int.reduceNeg, ↓reduceIte, reduceCtorEq, ↓C.catnaplaw4_ConfUnused_W, C.catnaplaw4_ConfUnused_B, C.catnaplaw4_ConfUnused, h1']
    refine hQ t ?_ _ rfl
    rw [hupd, if_pos (.inl h1), ← fin2]
    rw [show ({ k2 with div := k2.div } : Clk) = W.clocks[i] from hgW.symm, List.set_getElem_self]; exact hB
  by_cases h2 : k.kind = 100
  · have h2' := eq_true h2
    simp only [↓Bp, Bq, Bs, ↓aop.eq_28, ↓aop.eq_30, Nat.reduceEqDiff, Nat.reduceAdd, Nat.reduceMul, Nat.reduceSub, Nat.reduceLeDiff, Nat.reduceLT, Int.reduceLT, Int.reduceLE, Int.reduceEq, Int.reduceToNat, Int.reduceAdd, Int.reduceSub, Int.reduceNeg, ↓reduceIte, reduceCtorEq, ↓C.catnaplaw4_ConfUnused_W, C.catnaplaw4_ConfUnused_B, C.catnaplaw4_ConfUnused, h1, h2']
    refine hQ t ?_ _ rfl
    rw [hupd, if_pos (.inr h2), ← fin2]
    rw [show ({ k2 with div := k2.div } : Clk) = W.clocks[i] from hgW.symm, List.set_getElem_self]; exact hB
  · obtain ⟨a0, a1, a2, a3, L2, hBL, hb, z0, -⟩ := hB.four
    obtain ⟨id, ws, q1, q2, q3, q4, q5⟩ := put_clk (i := i) (j := 4) (c := { k2 with div := b }) (v := .int .i64 b) hBL hiW (by omega) rfl (by rw [hgW]; rfl)
    cases q1
    simp only [↓Bp, Bq, Bs, ↓aop.eq_28, ↓aop.eq_30, Nat.reduceEqDiff, Nat.reduceAdd, Nat.reduceMul, Nat.reduceSub, Nat.reduceLeDiff, Nat.reduceLT, Int.reduceLT, Int.reduceLE, Int.reduceEq, Int.reduceToNat, Int.reduceAdd, Int.reduceSub, Int.reduceNeg, ↓reduceIte, reduceCtorEq, ↓C.catnaplaw4_ConfUnused_W, C.catnaplaw4_ConfUnused_B, C.catnaplaw4_ConfUnused, h1, h2, hb, hzW, Int.toNat_natCast, q2, q3]
    refine hQ _ ?_ _ rfl
    rw [hupd, if_neg (by rintro (h | h); exact h1 h; exact h2 h), ← fin2]; exact q5

theorem confunused_spec {st : ASt} {l : List Int} {a b c r : Int} (hl : ∀ x ∈ l, -9223372036854775808 ≤ x ∧ x ≤ 9223372036854775807) (hll : l.length ≤ 9223372036854775807) :
    ACalls Try.prog F.catnaplaw4_ConfUnused [row l, .int .i64 a, .int .i64 b, .int .i64 c, .int .u64 r] st fun r _ => r = .bool true := by
  refine calls_of_awp L.catnaplaw4_ConfUnused rfl ?_
  simp only [↓Bp, Bq, Bs, ↓aop.eq_28, ↓aop.eq_30, Nat.reduceEqDiff, Nat.reduceAdd, Nat.reduceMul, Nat.reduceSub, Nat.reduceLeDiff, Nat.reduceLT, Int.reduceLT, Int.reduceLE, Int.reduceEq, Int.reduceToNat, Int.reduceAdd, Int.reduceSub, Int.reduceNeg, ↓reduceIte, reduceCtorEq, ↓C.catnaplaw4_ConfUnused_W, C.catnaplaw4_ConfUnused_B, C.catnaplaw4_ConfUnused]
  refine (shown_spec st).mono ?_
  rintro r0 s ⟨rfl, rfl⟩
  simp only [↓Bp, Bq, Bs, ↓aop.eq_28, ↓aop.eq_30, Nat.reduceEqDiff, Nat.reduceAdd, Nat.reduceMul, Nat.reduceSub, Nat.reduceLeDiff, Nat.reduceLT, Int.reduceLT, Int.reduceLE, Int.reduceEq, Int.reduceToNat, Int.reduceAdd, Int.reduceSub, Int.reduceNeg, ↓reduceIte, reduceCtorEq, ↓C.catnaplaw4_ConfUnused_W, C.catnaplaw4_ConfUnused_B, C.catnaplaw4_ConfUnused]
  refine (chip_frz hl hll).mono ?_
  rintro r0 s ⟨rfl, rfl⟩
  have hk := chipS_like l
  obtain ⟨S, hS⟩ : ∃ S, S = chipS l := ⟨_, rfl⟩
  rw [← hS] at hk ⊢
  have hs := hk.sane
  have n1 := hk.nc
  simp only [↓Bp, Bq, Bs, ↓aop.eq_28, ↓aop.eq_30, Nat.reduceEqDiff, Nat.reduceAdd, Nat.reduceMul, Nat.reduceSub, Nat.reduceLeDiff, Nat.reduceLT, Int.reduceLT, Int.reduceLE, Int.reduceEq, Int.reduceToNat, Int.reduceAdd, Int.reduceSub, Int.reduceNeg, ↓reduceIte, reduceCtorEq, ↓C.catnaplaw4_ConfUnused_W, C.catnaplaw4_ConfUnused_B, C.catnaplaw4_ConfUnused]
  refine (copy_own hs).mono ?_
  rintro r0 s1 ⟨vs, L, rfl, hR, hF, hle⟩
  have lv : vs.length = 4 := hR.len.symm
  have lf := hR.leaf
  simp only [↓Bp, Bq, Bs, ↓aop.eq_28, ↓aop.eq_30, Nat.reduceEqDiff, Nat.reduceAdd, Nat.reduceMul, Nat.reduceSub, Nat.reduceLeDiff, Nat.reduceLT, Int.reduceLT, Int.reduceLE, Int.reduceEq, Int.reduceToNat, Int.reduceAdd, Int.reduceSub, Int.reduceNeg, ↓reduceIte, reduceCtorEq, ↓C.catnaplaw4_ConfUnused_r4_w, C.catnaplaw4_ConfUnused_r4_b, ↓C.catnaplaw4_ConfUnused_c22_w, ↓C.catnaplaw4_ConfUnused_r3_w, C.catnaplaw4_ConfUnused_r3_b, ↓C.catnaplaw4_ConfUnused_c23_w, ↓C.catnaplaw4_ConfUnused_c24_w, ↓C.catnaplaw4_ConfUnused_r2_w, C.catnaplaw4_ConfUnused_r2_b, ↓C.catnaplaw4_ConfUnused_c25_w, ↓C.catnaplaw4_ConfUnused_r1_w, C.catnaplaw4_ConfUnused_r1_b, ↓C.catnaplaw4_ConfUnused_c26_w, ↓C.catnaplaw4_ConfUnused_r0_w, C.catnaplaw4_ConfUnused_r0_b, C.catnaplaw4_ConfUnused]
  rintro ib hib
  simp only [↓Bp, Bq, Bs, ↓aop.eq_28, ↓aop.eq_30, Nat.reduceEqDiff, Nat.reduceAdd, Nat.reduceMul, Nat.reduceSub, Nat.reduceLeDiff, Nat.reduceLT, Int.reduceLT, Int.reduceLE, Int.reduceEq, Int.reduceToNat, Int.reduceAdd, Int.reduceSub, Int.reduceNeg, ↓reduceIte, reduceCtorEq, ↓C.catnaplaw4_ConfUnused_r4_w, C.catnaplaw4_ConfUnused_r4_b, ↓C.catnaplaw4_ConfUnused_c22_w, ↓C.catnaplaw4_ConfUnused_r3_w, C.catnaplaw4_ConfUnused_r3_b, ↓C.catnaplaw4_ConfUnused_c23_w, ↓C.catnaplaw4_ConfUnused_c24_w, ↓C.catnaplaw4_ConfUnused_r2_w, C.catnaplaw4_ConfUnused_r2_b, ↓C.catnaplaw4_ConfUnused_c25_w, ↓C.catnaplaw4_ConfUnused_r1_w, C.catnaplaw4_ConfUnused_r1_b, ↓C.catnaplaw4_ConfUnused_c26_w, ↓C.catnaplaw4_ConfUnused_r0_w, C.catnaplaw4_ConfUnused_r0_b, C.catnaplaw4_ConfUnused, hib, lv, lf]
  rw [ASt.new_set hib, putN_all (zs := [AV.nils, AV.nils, AV.nils, AV.nils]) (by rw [lv]; rfl)]
  have hB := chip_box hR hF hle hib
  generalize s1.new ib (.cells vs) = s2 at hB
  clear hR hF hle hib lv lf
  have hU0 : updTo a b c r S.clocks 0 = S.clocks := by simp [updTo]
  simp only [↓Bp, Bq, Bs, ↓aop.eq_28, ↓aop.eq_30, Nat.reduceEqDiff, Nat.reduceAdd, Nat.reduceMul, Nat.reduceSub, Nat.reduceLeDiff, Nat.reduceLT, Int.reduceLT, Int.reduceLE, Int.reduceEq, Int.reduceToNat, Int.reduceAdd, Int.reduceSub, Int.reduceNeg, ↓reduceIte, reduceCtorEq, ↓C.catnaplaw4_ConfUnused_W, C.catnaplaw4_ConfUnused_B, C.catnaplaw4_ConfUnused]
  refine awp_midB (fun _ : Unit => [(0, row l), (1, .int .i64 a), (2, .int .i64 b), (3, .int .i64 c), (12, .ptr ib 0)]) (fun _ t => ChipBox s t ib { S with clocks := updTo a b c r S.clocks S.clocks.length }) ?_ ?_
  · refine awp_loopK (fun i : Nat => [(0, row l), (1, .int .i64 a), (2, .int .i64 b), (3, .int .i64 c), (4, .int .u64 r), (12, .ptr ib 0), (13, .int .i64 i)]) (fun i t => i ≤ S.clocks.length ∧ ChipBox s t ib { S with clocks := updTo a b c r S.clocks i }) (fun i => S.clocks.length - i) 0 rfl ⟨Nat.zero_le _, by rw [hU0]; exact hB⟩ ?_
    clear hB
    rintro i t ⟨hi, hB⟩
    obtain ⟨a0, a1, a2, a3, L2, hBL, hb, z0, -⟩ := hB.four
    simp only [updTo_len] at z0
    by_cases hil : i < S.clocks.length
    rotate_left
    · have hie : i = S.clocks.length := by omega
      subst hie
      have hil' : ¬ ((S.clocks.length : Nat) : Int) < (S.clocks.length : Nat) := by omega
      simp only [↓Bp, Bq, Bs, ↓aop.eq_28, ↓aop.eq_30, Nat.reduceEqDiff, Nat.reduceAdd, Nat.reduceMul, Nat.reduceSub, Nat.reduceLeDiff, Nat.reduceLT, Int.reduceLT, Int.reduceLE, Int.reduceEq, Int.reduceToNat, Int.reduceAdd, Int.reduceSub, Int.reduceNeg, ↓reduceIte, reduceCtorEq, ↓C.catnaplaw4_ConfUnused_W, C.catnaplaw4_ConfUnused_B, C.catnaplaw4_ConfUnused, hb, z0, hil']
      exact ⟨(), hB⟩
    have hil' : (i : Int) < (S.clocks.length : Nat) := by omega
    have hw := wsucc hil (by omega)
    simp only [↓Bp, Bq, Bs, ↓aop.eq_28, ↓aop.eq_30, Nat.reduceEqDiff, Nat.reduceAdd, Nat.reduceMul, Nat.reduceSub, Nat.reduceLeDiff, Nat.reduceLT, Int.reduceLT, Int.reduceLE, Int.reduceEq, Int.reduceToNat, Int.reduceAdd, Int.reduceSub, Int.reduceNeg, ↓reduceIte, reduceCtorEq, ↓C.catnaplaw4_ConfUnused_r18_w, C.catnaplaw4_ConfUnused_r18_b, ↓C.catnaplaw4_ConfUnused_c1_w, ↓C.catnaplaw4_ConfUnused_r17_w, C.catnaplaw4_ConfUnused_r17_b, ↓C.catnaplaw4_ConfUnused_c2_w, ↓C.catnaplaw4_ConfUnused_r16_w, C.catnaplaw4_ConfUnused_r16_b, ↓C.catnaplaw4_ConfUnused_c3_w, ↓C.catnaplaw4_ConfUnused_r7_w, C.catnaplaw4_ConfUnused_r7_b, ↓C.catnaplaw4_ConfUnused_c4_w, ↓C.catnaplaw4_ConfUnused_c16_w, ↓C.catnaplaw4_ConfUnused_c17_w, ↓C.catnaplaw4_ConfUnused_r6_w, C.catnaplaw4_ConfUnused_r6_b, ↓C.catnaplaw4_ConfUnused_b19_w, ↓C.catnaplaw4_ConfUnused_c20_w, ↓C.catnaplaw4_ConfUnused_r5_w, C.catnaplaw4_ConfUnused_r5_b, ↓C.catnaplaw4_ConfUnused_c21_w, ↓C.catnaplaw4_ConfUnused_r4_w, C.catnaplaw4_ConfUnused_r4_b, ↓C.catnaplaw4_ConfUnused_c22_w, ↓C.catnaplaw4_ConfUnused_r3_w, C.catnaplaw4_ConfUnused_r3_b, ↓C.catnaplaw4_ConfUnused_c23_w, ↓C.catnaplaw4_ConfUnused_c24_w, ↓C.catnaplaw4_ConfUnused_r2_w, C.catnaplaw4_ConfUnused_r2_b, ↓C.catnaplaw4_ConfUnused_c25_w, ↓C.catnaplaw4_ConfUnused_r1_w, C.catnaplaw4_ConfUnused_r1_b, ↓C.catnaplaw4_ConfUnused_c26_w, ↓C.catnaplaw4_ConfUnused_r0_w, C.catnaplaw4_ConfUnused_r0_b, C.catnaplaw4_ConfUnused, hb, z0, hil']
    refine unused_step (U := { S with clocks := updTo a b c r S.clocks i }) (by rw [updTo_len]; exact hil) hB fun t2 hB2 fr hfr => ?_
    simp only [↓Bp, Bq, Bs, ↓aop.eq_28, ↓aop.eq_30, Nat.reduceEqDiff, Nat.reduceAdd, Nat.reduceMul, Nat.reduceSub, Nat.reduceLeDiff, Nat.reduceLT, Int.reduceLT, Int.reduceLE, Int.reduceEq, Int.reduceToNat, Int.reduceAdd, Int.reduceSub, Int.reduceNeg, ↓reduceIte, reduceCtorEq]
    rw [C.catnaplaw4_ConfUnused_c4_w, awp_keep, hfr]
    simp only [↓Bp, Bq, Bs, ↓aop.eq_28, ↓aop.eq_30, Nat.reduceEqDiff, Nat.reduceAdd, Nat.reduceMul, Nat.reduceSub, Nat.reduceLeDiff, Nat.reduceLT, Int.reduceLT, Int.reduceLE, Int.reduceEq, Int.reduceToNat, Int.reduceAdd, Int.reduceSub, Int.reduceNeg, ↓reduceIte, reduceCtorEq, ↓C.catnaplaw4_ConfUnused_W, C.catnaplaw4_ConfUnused_B, C.catnaplaw4_ConfUnused, hw]
    refine ⟨i + 1, rfl, ⟨hil, ?_⟩, by omega⟩
    simp only [updTo_at hil, updTo_set hil] at hB2
    exact hB2
  clear hB
  rintro - t hB
  rw [updTo_all] at hB
  simp only [↓Bp, Bq, Bs, ↓aop.eq_28, ↓aop.eq_30, Nat.reduceEqDiff, Nat.reduceAdd, Nat.reduceMul, Nat.reduceSub, Nat.reduceLeDiff, Nat.reduceLT, Int.reduceLT, Int.reduceLE, Int.reduceEq, Int.reduceToNat, Int.reduceAdd, Int.reduceSub, Int.reduceNeg, ↓reduceIte, reduceCtorEq, ↓C.catnaplaw4_ConfUnused_W, C.catnaplaw4_ConfUnused_B, C.catnaplaw4_ConfUnused]
  refine (chip_frz hl hll).mono ?_
  rintro r0 t2 ⟨rfl, rfl⟩
  rw [← hS]
  have ls : S.cells.length = 4 := rfl
  have lsf : allLeaf S.cells = true := rfl
  simp only [↓Bp, Bq, Bs, ↓aop.eq_28, ↓aop.eq_30, Nat.reduceEqDiff, Nat.reduceAdd, Nat.reduceMul, Nat.reduceSub, Nat.reduceLeDiff, Nat.reduceLT, Int.reduceLT, Int.reduceLE, Int.reduceEq, Int.reduceToNat, Int.reduceAdd, Int.reduceSub, Int.reduceNeg, ↓reduceIte, reduceCtorEq, ↓C.catnaplaw4_ConfUnused_r16_w, C.catnaplaw4_ConfUnused_r16_b, ↓C.catnaplaw4_ConfUnused_c3_w, ↓C.catnaplaw4_ConfUnused_r7_w, C.catnaplaw4_ConfUnused_r7_b, ↓C.catnaplaw4_ConfUnused_c4_w, ↓C.catnaplaw4_ConfUnused_r15_w, C.catnaplaw4_ConfUnused_r15_b, ↓C.catnaplaw4_ConfUnused_c5_w, ↓C.catnaplaw4_ConfUnused_c6_w, ↓C.catnaplaw4_ConfUnused_r14_w, C.catnaplaw4_ConfUnused_r14_b, ↓C.catnaplaw4_ConfUnused_c7_w, ↓C.catnaplaw4_ConfUnused_r13_w, C.catnaplaw4_ConfUnused_r13_b, ↓C.catnaplaw4_ConfUnused_c8_w, ↓C.catnaplaw4_ConfUnused_r12_w, C.catnaplaw4_ConfUnused_r12_b, ↓C.catnaplaw4_ConfUnused_c9_w, ↓C.catnaplaw4_ConfUnused_c10_w, ↓C.catnaplaw4_ConfUnused_r11_w, C.catnaplaw4_ConfUnused_r11_b, ↓C.catnaplaw4_ConfUnused_c11_w, ↓C.catnaplaw4_ConfUnused_r10_w, C.catnaplaw4_ConfUnused_r10_b, ↓C.catnaplaw4_ConfUnused_c12_w, ↓C.catnaplaw4_ConfUnused_c13_w, ↓C.catnaplaw4_ConfUnused_r9_w, C.catnaplaw4_ConfUnused_r9_b, ↓C.catnaplaw4_ConfUnused_c14_w, ↓C.catnaplaw4_ConfUnused_r8_w, C.catnaplaw4_ConfUnused_r8_b, ↓C.catnaplaw4_ConfUnused_b15_w, ↓C.catnaplaw4_ConfUnused_c16_w, ↓C.catnaplaw4_ConfUnused_c17_w, ↓C.catnaplaw4_ConfUnused_r6_w, C.catnaplaw4_ConfUnused_r6_b, ↓C.catnaplaw4_ConfUnused_b19_w, ↓C.catnaplaw4_ConfUnused_c20_w, ↓C.catnaplaw4_ConfUnused_r5_w, C.catnaplaw4_ConfUnused_r5_b, ↓C.catnaplaw4_ConfUnused_c21_w, ↓C.catnaplaw4_ConfUnused_r4_w, C.catnaplaw4_ConfUnused_r4_b, ↓C.catnaplaw4_ConfUnused_c22_w, ↓C.catnaplaw4_ConfUnused_r3_w, C.catnaplaw4_ConfUnused_r3_b, ↓C.catnaplaw4_ConfUnused_c23_w, ↓C.catnaplaw4_ConfUnused_c24_w, ↓C.catnaplaw4_ConfUnused_r2_w, C.catnaplaw4_ConfUnused_r2_b, ↓C.catnaplaw4_ConfUnused_c25_w, ↓C.catnaplaw4_ConfUnused_r1_w, C.catnaplaw4_ConfUnused_r1_b, ↓C.catnaplaw4_ConfUnused_c26_w, ↓C.catnaplaw4_ConfUnused_r0_w, C.catnaplaw4_ConfUnused_r0_b, C.catnaplaw4_ConfUnused]
  rintro ix hix
  simp only [↓Bp, Bq, Bs, ↓aop.eq_28, ↓aop.eq_30, Nat.reduceEqDiff, Nat.reduceAdd, Nat.reduceMul, Nat.reduceSub, Nat.reduceLeDiff, Nat.reduceLT, Int.reduceLT, Int.reduceLE, Int.reduceEq, Int.reduceToNat, Int.reduceAdd, Int.reduceSub, Int.reduceNeg, ↓reduceIte, reduceCtorEq, ↓C.catnaplaw4_ConfUnused_r16_w, C.catnaplaw4_ConfUnused_r16_b, ↓C.catnaplaw4_ConfUnused_c3_w, ↓C.catnaplaw4_ConfUnused_r7_w, C.catnaplaw4_ConfUnused_r7_b, ↓C.catnaplaw4_ConfUnused_c4_w, ↓C.catnaplaw4_ConfUnused_r15_w, C.catnaplaw4_ConfUnused_r15_b, ↓C.catnaplaw4_ConfUnused_c5_w, ↓C.catnaplaw4_ConfUnused_c6_w, ↓C.catnaplaw4_ConfUnused_r14_w, C.catnaplaw4_ConfUnused_r14_b, ↓C.catnaplaw4_ConfUnused_c7_w, ↓C.catnaplaw4_ConfUnused_r13_w, C.catnaplaw4_ConfUnused_r13_b, ↓C.catnaplaw4_ConfUnused_c8_w, ↓C.catnaplaw4_ConfUnused_r12_w, C.catnaplaw4_ConfUnused_r12_b, ↓C.catnaplaw4_ConfUnused_c9_w, ↓C.catnaplaw4_ConfUnused_c10_w, ↓C.catnaplaw4_ConfUnused_r11_w, C.catnaplaw4_ConfUnused_r11_b, ↓C.catnaplaw4_ConfUnused_c11_w, ↓C.catnaplaw4_ConfUnused_r10_w, C.catnaplaw4_ConfUnused_r10_b, ↓C.catnaplaw4_ConfUnused_c12_w, ↓C.catnaplaw4_ConfUnused_c13_w, ↓C.catnaplaw4_ConfUnused_r9_w, C.catnaplaw4_ConfUnused_r9_b, ↓C.catnaplaw4_ConfUnused_c14_w, ↓C.catnaplaw4_ConfUnused_r8_w, C.catnaplaw4_ConfUnused_r8_b, ↓C.catnaplaw4_ConfUnused_b15_w, ↓C.catnaplaw4_ConfUnused_c16_w, ↓C.catnaplaw4_ConfUnused_c17_w, ↓C.catnaplaw4_ConfUnused_r6_w, C.catnaplaw4_ConfUnused_r6_b, ↓C.catnaplaw4_ConfUnused_b19_w, ↓C.catnaplaw4_ConfUnused_c20_w, ↓C.catnaplaw4_ConfUnused_r5_w, C.catnaplaw4_ConfUnused_r5_b, ↓C.catnaplaw4_ConfUnused_c21_w, ↓C.catnaplaw4_ConfUnused_r4_w, C.catnaplaw4_ConfUnused_r4_b, ↓C.catnaplaw4_ConfUnused_c22_w, ↓C.catnaplaw4_ConfUnused_r3_w, C.catnaplaw4_ConfUnused_r3_b, ↓C.catnaplaw4_ConfUnused_c23_w, ↓C.catnaplaw4_ConfUnused_c24_w, ↓C.catnaplaw4_ConfUnused_r2_w, C.catnaplaw4_ConfUnused_r2_b, ↓C.catnaplaw4_ConfUnused_c25_w, ↓C.catnaplaw4_ConfUnused_r1_w, C.catnaplaw4_ConfUnused_r1_b, ↓C.catnaplaw4_ConfUnused_c26_w, ↓C.catnaplaw4_ConfUnused_r0_w, C.catnaplaw4_ConfUnused_r0_b, C.catnaplaw4_ConfUnused, hix, ls, lsf]
  rw [ASt.new_set hix, show putN [AV.nils, AV.nils, AV.nils, AV.nils] 0 S.cells = S.cells from putN_all rfl]
  obtain ⟨U, hU⟩ : ∃ U : Soc, U = { S with clocks := S.clocks.map (Clk.upd a b c r) } := ⟨_, rfl⟩
  rw [← hU] at hB
  obtain ⟨b0, b1, b2, b3, L3, hBL, hb, -⟩ := hB.four
  have hUs : U.sane := by rw [hU, ← updTo_all]; exact updTo_sane hs a b c r _
  have hne : ib ≠ ix := by rintro rfl; rw [hb] at hix; cases hix
  have hBL2 := BoxL.grow hBL (ASt.le.new _ ix (.cells S.cells))
  have hxx := ASt.new_self (.cells S.cells) hix
  have hixL : ix ∉ L3 := fun hm => hBL.2.1.live ix hm hix
  generalize t2.new ix (.cells S.cells) = t3 at hBL2 hxx
  obtain ⟨oth, hoth⟩ : ∃ t : Bool, t = decide (a ≠ 0 ∨ b ≠ 0 ∨ c ≠ 0) := ⟨_, rfl⟩
  rw [C.catnaplaw4_ConfUnused_c2_w, awp_keep, awp_seq]
  refine awp_mid (fun _ : Unit => [(12, .ptr ib 0), (15, .ptr ix 0), (16, .bool oth)]) (fun _ t => t = t3) ?_ ?_
  · rw [hoth]
    by_cases ha : a = 0
    · by_cases hb0 : b = 0
      · by_cases hc : c = 0
        · simp only [↓Bp, Bq, Bs, ↓aop.eq_28, ↓aop.eq_30, Nat.reduceEqDiff, Nat.reduceAdd, Nat.reduceMul, Nat.reduceSub, Nat.reduceLeDiff, Nat.reduceLT, Int.reduceLT, Int.reduceLE, Int.reduceEq, Int.reduceToNat, Int.reduceAdd, Int.reduceSub, Int.reduceNeg, ↓reduceIte, reduceCtorEq, ↓C.catnaplaw4_ConfUnused_r17_w, C.catnaplaw4_ConfUnused_r17_b, ↓C.catnaplaw4_ConfUnused_c2_w, ha, hb0, hc, ne_eq, or_self]
          exact ⟨(), trivial⟩
        · simp only [↓Bp, Bq, Bs, ↓aop.eq_28, ↓aop.eq_30, Nat.reduceEqDiff, Nat.reduceAdd, Nat.reduceMul, Nat.reduceSub, Nat.reduceLeDiff, Nat.reduceLT, Int.reduceLT, Int.reduceLE, Int.reduceEq, Int.reduceToNat, Int.reduceAdd, Int.reduceSub, Int.reduceNeg, ↓reduceIte, reduceCtorEq, ↓C.catnaplaw4_ConfUnused_r17_w, C.catnaplaw4_ConfUnused_r17_b, ↓C.catnaplaw4_ConfUnused_c2_w, ha, hb0, hc, ne_eq, or_true, true_or, or_self]
          exact ⟨(), trivial⟩
      · simp only [↓Bp, Bq, Bs, ↓aop.eq_28, ↓aop.eq_30, Nat.reduceEqDiff, Nat.reduceAdd, Nat.reduceMul, Nat.reduceSub, Nat.reduceLeDiff, Nat.reduceLT, Int.reduceLT, Int.reduceLE, Int.reduceEq, Int.reduceToNat, Int.reduceAdd, Int.reduceSub, Int.reduceNeg, ↓reduceIte, reduceCtorEq, ↓C.catnaplaw4_ConfUnused_r17_w, C.catnaplaw4_ConfUnused_r17_b, ↓C.catnaplaw4_ConfUnused_c2_w, ha, hb0, ne_eq, or_true, true_or, or_self]
        exact ⟨(), trivial⟩
    · simp only [↓Bp, Bq, Bs, ↓aop.eq_28, ↓aop.eq_30, Nat.reduceEqDiff, Nat.reduceAdd, Nat.reduceMul, Nat.reduceSub, Nat.reduceLeDiff, Nat.reduceLT, Int.reduceLT, Int.reduceLE, Int.reduceEq, Int.reduceToNat, Int.reduceAdd, Int.reduceSub, Int.reduceNeg, ↓reduceIte, reduceCtorEq, ↓C.catnaplaw4_ConfUnused_r17_w, C.catnaplaw4_ConfUnused_r17_b, ↓C.catnaplaw4_ConfUnused_c2_w, ha, ne_eq, or_true, true_or, or_self]
      exact ⟨(), trivial⟩
  rintro - t rfl
  simp only [↓Bp, Bq, Bs, ↓aop.eq_28, ↓aop.eq_30, Nat.reduceEqDiff, Nat.reduceAdd, Nat.reduceMul, Nat.reduceSub, Nat.reduceLeDiff, Nat.reduceLT, Int.reduceLT, Int.reduceLE, Int.reduceEq, Int.reduceToNat, Int.reduceAdd, Int.reduceSub, Int.reduceNeg, ↓reduceIte, reduceCtorEq, ↓C.catnaplaw4_ConfUnused_W, C.catnaplaw4_ConfUnused_B, C.catnaplaw4_ConfUnused, hBL2.1]
  refine ACalls.frzBox hBL2.2.1 hBL2.1 hBL2.2.2.1 ((conf_check_spec hUs.fine).mono ?_)
  rintro r0 t4 ⟨rfl, rfl⟩
  have hb4 : ((t.killL L3).set ib (.cells U.cells)).h ib = some (.cells U.cells) := by rw [ASt.set_h, if_pos rfl, ASt.killL_h, if_neg hBL2.2.2.1, hBL2.1]; rfl
  have hx4 : ((t.killL L3).set ib (.cells U.cells)).h ix = some (.cells S.cells) := by rw [ASt.set_h, if_neg (Ne.symm hne), ASt.killL_h, if_neg hixL]; exact hxx
  generalize (t.killL L3).set ib (.cells U.cells) = t4 at hb4 hx4
  have he : confErr U = 0 := by rw [hU]; exact confErr_upd hk a b c r
  have lu : U.cells.length = 4 := rfl
  have eu : AV.agg (List.take 4 U.cells) = .agg U.cells := rfl
  have es : AV.agg (List.take 4 S.cells) = .agg S.cells := rfl
  simp only [↓Bp, Bq, Bs, ↓aop.eq_28, ↓aop.eq_30, Nat.reduceEqDiff, Nat.reduceAdd, Nat.reduceMul, Nat.reduceSub, Nat.reduceLeDiff, Nat.reduceLT, Int.reduceLT, Int.reduceLE, Int.reduceEq, Int.reduceToNat, Int.reduceAdd, Int.reduceSub, Int.reduceNeg, ↓reduceIte, reduceCtorEq, ↓C.catnaplaw4_ConfUnused_W, C.catnaplaw4_ConfUnused_B, C.catnaplaw4_ConfUnused, he, hb4, lu, eu]
  refine (copy_frz hUs).mono ?_
  rintro r0 t5 ⟨rfl, rfl⟩
  simp only [↓Bp, Bq, Bs, ↓aop.eq_28, ↓aop.eq_30, Nat.reduceEqDiff, Nat.reduceAdd, Nat.reduceMul, Nat.reduceSub, Nat.reduceLeDiff, Nat.reduceLT, Int.reduceLT, Int.reduceLE, Int.reduceEq, Int.reduceToNat, Int.reduceAdd, Int.reduceSub, Int.reduceNeg, ↓reduceIte, reduceCtorEq, ↓C.catnaplaw4_ConfUnused_W, C.catnaplaw4_ConfUnused_B, C.catnaplaw4_ConfUnused, hb4, lu, eu]
  refine ⟨fun _ => trivial, (conf_same_spec hUs).mono ?_⟩
  rintro r0 t6 ⟨⟨v, rfl, hv⟩, rfl⟩
  have hv : v = true := hv.mpr rfl
  subst hv
  cases oth
  · simp only [↓Bp, Bq, Bs, ↓aop.eq_28, ↓aop.eq_30, Nat.reduceEqDiff, Nat.reduceAdd, Nat.reduceMul, Nat.reduceSub, Nat.reduceLeDiff, Nat.reduceLT, Int.reduceLT, Int.reduceLE, Int.reduceEq, Int.reduceToNat, Int.reduceAdd, Int.reduceSub, Int.reduceNeg, ↓reduceIte, reduceCtorEq, ↓C.catnaplaw4_ConfUnused_W, C.catnaplaw4_ConfUnused_B, C.catnaplaw4_ConfUnused]
  · simp only [↓Bp, Bq, Bs, ↓aop.eq_28, ↓aop.eq_30, Nat.reduceEqDiff, Nat.reduceAdd, Nat.reduceMul, Nat.reduceSub, Nat.reduceLeDiff, Nat.reduceLT, Int.reduceLT, Int.reduceLE, Int.reduceEq, Int.reduceToNat, Int.reduceAdd, Int.reduceSub, Int.reduceNeg, ↓reduceIte, reduceCtorEq, ↓C.catnaplaw4_ConfUnused_W, C.catnaplaw4_ConfUnused_B, C.catnaplaw4_ConfUnused, hb4, hx4, lu, eu, ls, es]
    refine (conf_same_spec hUs).mono ?_
    rintro r0 t7 ⟨⟨w, rfl, hw⟩, rfl⟩
    have hw0 : w = false := by
      cases w with
      | false => rfl
      | true => exact absurd (hw.mp rfl) (by rw [hU]; exact upd_ne hk (by simpa using hoth))
    subst hw0
    simp only [↓Bp, Bq, Bs, ↓aop.eq_28, ↓aop.eq_30, Nat.reduceEqDiff, Nat.reduceAdd, Nat.reduceMul, Nat.reduceSub, Nat.reduceLeDiff, Nat.reduceLT, Int.reduceLT, Int.reduceLE, Int.reduceEq, Int.reduceToNat, Int.reduceAdd, Int.reduceSub, Int.reduceNeg, ↓reduceIte, reduceCtorEq, ↓C.catnaplaw4_ConfUnused_W, C.catnaplaw4_ConfUnused_B, C.catnaplaw4_ConfUnused]
end Go.Proofs.Ytjamidgdhmjhaaa.Cn
