/- Clocks: ClockGlitches. -/
import Derived.Test.YtkioaemhdbcfaaaCnKList
set_option linter.unusedSimpArgs false
set_option linter.unusedVariables false
set_option linter.unusedSectionVars false
namespace Go.Proofs.Ytkioaemhdbcfaaa.Cn
open Go Go.Proofs

/-- The lists have what each mux wants, and to what it is set; of those ahead of m as behind a tick. -/
structure GlAt (ns : List Nd) (W Z : List Int) (m : Nat) : Prop where
  lw : W.length = ns.length
  lz : Z.length = ns.length
  at_ : ∀ j (h : j < ns.length) (hw : j < W.length) (hz : j < Z.length), ns[j].c.kind = 109 → W[j] = ns[j].want ∧ Z[j] = if j < m then (ns[j].tick (run ns)).set else ns[j].set
theorem GlAt.fresh (C : List Clk) : GlAt (cfresh C) (List.replicate C.length 0) (List.replicate C.length 0) 0 where
  lw := by simp [cfresh]
  lz := by simp [cfresh]
  at_ := fun j h hw hz hk => by simp [cfresh, Nd.fresh]
theorem GlAt.put {ns : List Nd} {W Z : List Int} (h : GlAt ns W Z 0) {i : Nat} (hi : i < ns.length) {n : Nd} (hc : n.c = ns[i].c) (hb : n.want = ns[i].want ∧ n.set = ns[i].set) : GlAt (ns.set i n) W Z 0 where
  lw := by rw [h.lw]; simp
  lz := by rw [h.lz]; simp
  at_ := fun j hj hw hz hk => by
    simp only [List.length_set] at hj
    rw [if_neg (Nat.not_lt_zero _)]
    rw [List.getElem_set] at hk ⊢
    split at hk
    · rename_i e; subst e
      have := h.at_ _ hi hw hz (by rw [← hc]; exact hk)
      rw [if_neg (Nat.not_lt_zero _)] at this
      rw [if_pos rfl, hb.1, hb.2]; exact this
    · rename_i e
      have := h.at_ _ hj hw hz hk
      rw [if_neg (Nat.not_lt_zero _)] at this
      rw [if_neg e]; exact this
theorem Nd.turn_ws (n : Nd) (b : Bool) : (n.turn b).want = n.want ∧ (n.turn b).set = n.set := by unfold Nd.turn; split <;> exact ⟨rfl, rfl⟩
theorem GlAt.on {ns : List Nd} {W Z : List Int} (h : GlAt ns W Z 0) {i : Nat} (hi : i < ns.length) (b : Bool) : GlAt (onL ns i hi b) W Z 0 := by
  unfold onL; split
  · exact h.put hi (Nd.turn_c _ _) (Nd.turn_ws _ _)
  · exact h
theorem GlAt.sel {ns : List Nd} {W Z : List Int} (h : GlAt ns W Z 0) {i : Nat} (hi : i < ns.length) (k : Int) : GlAt (selL ns i hi k) (if selE ns[i] k = 0 then W.set i k else W) Z 0 := by
  unfold selL
  by_cases e : selE ns[i] k = 0
  · rw [if_pos e, if_pos e]
    refine ⟨by simp [h.lw], by rw [h.lz]; simp, fun j hj hw hz hk => ?_⟩
    simp only [List.length_set] at hj hw
    rw [if_neg (Nat.not_lt_zero _)]
    rw [List.getElem_set] at hk ⊢
    rw [List.getElem_set]
    by_cases e2 : i = j
    · subst e2
      rw [if_pos rfl] at hk
      have := h.at_ _ hj hw hz hk
      rw [if_neg (Nat.not_lt_zero _)] at this
      rw [if_pos rfl, if_pos rfl]; exact ⟨rfl, this.2⟩
    · rw [if_neg e2] at hk
      have := h.at_ _ hj hw hz hk
      rw [if_neg (Nat.not_lt_zero _)] at this
      rw [if_neg e2, if_neg e2]; exact this
  · rw [if_neg e, if_neg e]; exact h
theorem GlAt.tick {ns : List Nd} {W Z : List Int} (h : GlAt ns W Z ns.length) : GlAt (ctickL ns) W Z 0 where
  lw := by rw [ctickL_len, h.lw]
  lz := by rw [ctickL_len, h.lz]
  at_ := fun j hj hw hz hk => by
    simp only [ctickL_len] at hj
    rw [if_neg (Nat.not_lt_zero _)]
    simp only [ctickL, List.getElem_map] at hk ⊢
    rw [Nd.tick_c] at hk
    have := h.at_ j hj hw hz hk
    rw [if_pos hj] at this
    refine ⟨?_, this.2⟩
    rw [this.1]
    unfold Nd.tick
    rw [if_neg (by rw [hk]; decide)]
    split <;> rfl
theorem GlAt.skip {ns : List Nd} {W Z : List Int} {m : Nat} (h : GlAt ns W Z m) (hn : ∀ hm : m < ns.length, ns[m].c.kind = 109 → (ns[m].tick (run ns)).set = ns[m].set) : GlAt ns W Z (m + 1) where
  lw := h.lw
  lz := h.lz
  at_ := fun j hj hw hz hk => by
    have := h.at_ j hj hw hz hk
    refine ⟨this.1, ?_⟩
    rw [this.2]
    by_cases e : j < m
    · rw [if_pos e, if_pos (by omega)]
    · rw [if_neg e]
      by_cases e2 : j = m
      · subst e2; rw [if_pos (by omega), hn hj hk]
      · rw [if_neg (by omega)]
theorem GlAt.over {ns : List Nd} {W Z : List Int} {m : Nat} (h : GlAt ns W Z m) (hm : m < ns.length) (hn : (ns[m].tick (run ns)).set = ns[m].want) : GlAt ns W (Z.set m ns[m].want) (m + 1) where
  lw := h.lw
  lz := by simp [h.lz]
  at_ := fun j hj hw hz hk => by
    simp only [List.length_set] at hz
    have := h.at_ j hj hw hz hk
    refine ⟨this.1, ?_⟩
    rw [List.getElem_set]
    by_cases e : m = j
    · subst e; rw [if_pos rfl, if_pos (by omega), hn]
    · rw [if_neg e, this.2]
      by_cases e2 : j < m
      · rw [if_pos e2, if_pos (by omega)]
      · rw [if_neg e2, if_neg (by omega)]
/-- What a mux comes from, as it is set, and as it is wanted. -/
theorem NdOk.mux {i : Nat} {n : Nd} (h : NdOk i n) (hk : n.c.kind = 109) : ∃ w z x y : Nat, n.want = (w : Int) ∧ n.set = (z : Int) ∧ w < n.c.src.length ∧ z < n.c.src.length ∧ n.c.src[w]? = some (x : Int) ∧ n.c.src[z]? = some (y : Int) ∧ x < i ∧ y < i := by
  have h0 : n.c.src ≠ [] := fun e => by have := h.osc.mpr e; omega
  have a1 := h.want.1
  have a2 := h.want.2.1 h0
  have b1 := h.set.1
  have b2 := h.set.2.1 h0
  have hw : n.want.toNat < n.c.src.length := by omega
  have hz : n.set.toNat < n.c.src.length := by omega
  have m1 := h.less _ (List.getElem_mem hw)
  have m2 := h.less _ (List.getElem_mem hz)
  refine ⟨n.want.toNat, n.set.toNat, n.c.src[n.want.toNat].toNat, n.c.src[n.set.toNat].toNat, by omega, by omega, hw, hz, ?_, ?_, by omega, by omega⟩
  · rw [List.getElem?_eq_getElem hw]; congr 1; omega
  · rw [List.getElem?_eq_getElem hz]; congr 1; omega
theorem mux_tick {R : Nat → Bool} {n : Nd} (hk : n.c.kind = 109) {w z x y : Nat} (hw : n.want = (w : Int)) (hz : n.set = (z : Int)) (hx : n.c.src[w]? = some (x : Int)) (hy : n.c.src[z]? = some (y : Int)) :
    (n.tick R).set = if R x = true ∨ R y = false then n.want else n.set := by
  unfold Nd.tick
  rw [if_neg (by rw [hk]; decide), hw, hz, Int.toNat_natCast, Int.toNat_natCast, List.getD_eq_getElem?_getD, List.getD_eq_getElem?_getD, hx, hy]
  simp only [Option.getD_some, Int.toNat_natCast]
  by_cases c : R x = true ∨ R y = false
  · rw [if_pos c]
    by_cases e : (w : Int) = (z : Int)
    · rw [if_neg (fun h => h.2.1 e), hz, e]
    · rw [if_pos ⟨hk, e, c⟩]
  · rw [if_neg c, if_neg (fun h => c h.2.2), hz]
section
variable {st : ASt} {ib iw iz p ig : Nat} {S : Soc} (hS : S.like)
include hS
set_option maxHeartbeats 2000000 in
/-- A tick. -/
theorem kg_tick {s : ASt} {ns : List Nd} {W Z : List Int} {va : AV} {t : Nat} (hne : iw ≠ iz) (h : KW st s ib p ig S ns) (hW : KX st s iw W ib p ig) (hZ : KX st s iz Z ib p ig) (hG : GlAt ns W Z 0) {Q : IExit → AFr → ASt → Prop}
    (hQ : ∀ fr s' ns' Z', KW st s' ib p ig S ns' → KX st s' iw W ib p ig → KX st s' iz Z' ib p ig → GlAt ns' W Z' 0 → fr.keep [1, 6, 7, 9, 10, 11] = [(1, va), (6, .ptr ib 0), (7, .ptr p 0), (9, .sl 1 iw 0 S.clocks.length), (10, .sl 1 iz 0 S.clocks.length), (11, .int .i64 t)] → Q .normal fr s') :
    awp Try.prog C.catnaplaw6_ClockGlitches_c25 (IExit.then (awp Try.prog C.catnaplaw6_ClockGlitches_c16 Q) Q) [(1, va), (6, .ptr ib 0), (7, .ptr p 0), (9, .sl 1 iw 0 S.clocks.length), (10, .sl 1 iz 0 S.clocks.length), (11, .int .i64 t), (13, .int .i64 0)] s := by
  have hnc := hS.nc
  have hlen := h.k.len
  have hN := h.k.ok
  simp only [↓Bp, Bq, Bs, ↓aop.eq_28, ↓aop.eq_30, Nat.reduceEqDiff, Nat.reduceAdd, Nat.reduceMul, Nat.reduceSub, Nat.reduceLeDiff, Nat.reduceLT, Int.reduceLT, Int.reduceLE, Int.reduceEq, Int.reduceToNat, Int.reduceAdd, Int.reduceSub, Int.reduceNeg, ↓reduceIte, reduceCtorEq, ↓C.catnaplaw6_ClockGlitches_W, C.catnaplaw6_ClockGlitches_B, C.catnaplaw6_ClockGlitches]
  refine awp_midB (fun _ : Unit => [(1, va), (6, .ptr ib 0), (7, .ptr p 0), (9, .sl 1 iw 0 S.clocks.length), (10, .sl 1 iz 0 S.clocks.length), (11, .int .i64 t)]) (fun _ s' => ∃ Z', KW st s' ib p ig S ns ∧ KX st s' iw W ib p ig ∧ KX st s' iz Z' ib p ig ∧ GlAt ns W Z' ns.length) ?_ ?_
  rotate_left
  · clear h hW hZ hG s
    rintro - s ⟨Z', h, hW, hZ, hG⟩
    simp only [↓Bp, Bq, Bs, ↓aop.eq_28, ↓aop.eq_30, Nat.reduceEqDiff, Nat.reduceAdd, Nat.reduceMul, Nat.reduceSub, Nat.reduceLeDiff, Nat.reduceLT, Int.reduceLT, Int.reduceLE, Int.reduceEq, Int.reduceToNat, Int.reduceAdd, Int.reduceSub, Int.reduceNeg, ↓reduceIte, reduceCtorEq, ↓C.catnaplaw6_ClockGlitches_W, C.catnaplaw6_ClockGlitches_B, C.catnaplaw6_ClockGlitches]
    refine (ctick_spec h.t hN).mono ?_
    rintro r s' rfl
    simp only [↓Bp, Bq, Bs, ↓aop.eq_28, ↓aop.eq_30, Nat.reduceEqDiff, Nat.reduceAdd, Nat.reduceMul, Nat.reduceSub, Nat.reduceLeDiff, Nat.reduceLT, Int.reduceLT, Int.reduceLE, Int.reduceEq, Int.reduceToNat, Int.reduceAdd, Int.reduceSub, Int.reduceNeg, ↓reduceIte, reduceCtorEq, ↓C.catnaplaw6_ClockGlitches_W, C.catnaplaw6_ClockGlitches_B, C.catnaplaw6_ClockGlitches]
    exact hQ _ _ _ _ (h.set h.k.tick) (hW.set _) (hZ.set _) hG.tick rfl
  refine awp_loopK (fun m : Nat => [(1, va), (6, .ptr ib 0), (7, .ptr p 0), (9, .sl 1 iw 0 S.clocks.length), (10, .sl 1 iz 0 S.clocks.length), (11, .int .i64 t), (13, .int .i64 m)])
    (fun m s' => m ≤ S.clocks.length ∧ ∃ Z', KW st s' ib p ig S ns ∧ KX st s' iw W ib p ig ∧ KX st s' iz Z' ib p ig ∧ GlAt ns W Z' m) (fun m => S.clocks.length - m) 0 rfl ⟨Nat.zero_le _, Z, h, hW, hZ, hG⟩ ?_
  clear h hW hZ hG s
  rintro m s ⟨hm, Z', h, hW, hZ, hG⟩
  have hb := h.hb
  by_cases hml : m < S.clocks.length
  rotate_left
  · have hml' : ¬ (m : Int) < (S.clocks.length : Nat) := by omega
    rw [show m = ns.length by omega] at hG
    simp only [↓Bp, Bq, Bs, ↓aop.eq_28, ↓aop.eq_30, Nat.reduceEqDiff, Nat.reduceAdd, Nat.reduceMul, Nat.reduceSub, Nat.reduceLeDiff, Nat.reduceLT, Int.reduceLT, Int.reduceLE, Int.reduceEq, Int.reduceToNat, Int.reduceAdd, Int.reduceSub, Int.reduceNeg, ↓reduceIte, reduceCtorEq, ↓C.catnaplaw6_ClockGlitches_W, C.catnaplaw6_ClockGlitches_B, C.catnaplaw6_ClockGlitches, hml', hb, Soc.cells, Soc.clkV]
    exact ⟨(), Z', h, hW, hZ, hG⟩
  have hml' : (m : Int) < (S.clocks.length : Nat) := by omega
  have hz : (0:Int) ≤ (m : Int) ∧ (m : Int) < (S.clocks.length : Nat) := by omega
  have hw := wsucc hml (by omega)
  have hmn : m < ns.length := by omega
  have hmW : m < W.length := by rw [hG.lw]; exact hmn
  have hmZ : m < Z'.length := by rw [hG.lz]; exact hmn
  have hg := kclk_get hml
  have hsame := h.k.same m hmn hml
  have hat := hG.at_ m hmn hmW hmZ
  rw [if_neg (Nat.lt_irrefl m)] at hat
  by_cases k1 : S.clocks[m].kind = 109
  rotate_left
  · have T := eq_false k1
    simp only [↓Bp, Bq, Bs, ↓aop.eq_28, ↓aop.eq_30, Nat.reduceEqDiff, Nat.reduceAdd, Nat.reduceMul, Nat.reduceSub, Nat.reduceLeDiff, Nat.reduceLT, Int.reduceLT, Int.reduceLE, Int.reduceEq, Int.reduceToNat, Int.reduceAdd, Int.reduceSub, Int.reduceNeg, ↓reduceIte, reduceCtorEq, ↓C.catnaplaw6_ClockGlitches_W, C.catnaplaw6_ClockGlitches_B, C.catnaplaw6_ClockGlitches, hml', hb, Soc.cells, Soc.clkV, hz, hg.1, T, hw, Int.toNat_natCast, Nat.mul_one]
    exact ⟨m + 1, rfl, ⟨hml, Z', h, hW, hZ, hG.skip fun _ e => absurd (by rw [← hsame]; exact e) k1⟩, by omega⟩
  have hkn : ns[m].c.kind = 109 := by rw [hsame]; exact k1
  obtain ⟨w, z, x, y, ew, ez, lw, lz, gx, gy, hxm, hym⟩ := (hN m hmn).mux hkn
  have hmt := mux_tick (R := run ns) hkn ew ez gx gy
  have hat := hat hkn
  have hxW := hW.hx
  have hxZ := hZ.hx
  have gW : (ints W)[m]? = some (.int .i64 w) := by simp [ints, hmW, hat.1, ew]
  have gZ : (ints Z')[m]? = some (.int .i64 z) := by simp [ints, hmZ, hat.2, ez]
  have fZ : m < (ints Z').length := by rw [ints_length]; exact hmZ
  rw [hsame] at lw lz gx gy
  have hg1 := hg.2.1
  have hg0 := hg.1
  rw [k1] at hg0
  rw [row] at hg1
  have gx' := ints_get' gx
  have gy' := ints_get' gy
  generalize S.clocks[m].src = src at lw lz gx gy hg1 gx' gy'
  have zw : (0:Int) ≤ (w : Int) ∧ (w : Int) < (src.length : Nat) := by omega
  have zz : (0:Int) ≤ (z : Int) ∧ (z : Int) < (src.length : Nat) := by omega
  have hover : (run ns x = true ∨ run ns y = false) → GlAt ns W (Z'.set m (w : Int)) (m + 1) := fun c => by
    rw [← ew]; exact hG.over hmn (by rw [hmt, if_pos c])
  have hskip : ¬ (run ns x = true ∨ run ns y = false) → GlAt ns W Z' (m + 1) := fun c => hG.skip fun _ _ => by rw [hmt, if_neg c]
  simp only [↓Bp, Bq, Bs, ↓aop.eq_28, ↓aop.eq_30, Nat.reduceEqDiff, Nat.reduceAdd, Nat.reduceMul, Nat.reduceSub, Nat.reduceLeDiff, Nat.reduceLT, Int.reduceLT, Int.reduceLE, Int.reduceEq, Int.reduceToNat, Int.reduceAdd, Int.reduceSub, Int.reduceNeg, ↓reduceIte, reduceCtorEq, ↓C.catnaplaw6_ClockGlitches_W, C.catnaplaw6_ClockGlitches_B, C.catnaplaw6_ClockGlitches, hml', hb, Soc.cells, Soc.clkV, hz, hg0, hg1, hxW, hxZ, gW, gZ, zw, zz, gx', gy', Int.toNat_natCast, Nat.mul_one]
  refine (running_at h.t hN (i := x) (by omega)).mono ?_
  rintro r s1 ⟨rfl, rfl⟩
  cases rx : run ns x
  rotate_left
  · simp only [↓Bp, Bq, Bs, ↓aop.eq_28, ↓aop.eq_30, Nat.reduceEqDiff, Nat.reduceAdd, Nat.reduceMul, Nat.reduceSub, Nat.reduceLeDiff, Nat.reduceLT, Int.reduceLT, Int.reduceLE, Int.reduceEq, Int.reduceToNat, Int.reduceAdd, Int.reduceSub, Int.reduceNeg, ↓reduceIte, reduceCtorEq, ↓C.catnaplaw6_ClockGlitches_W, C.catnaplaw6_ClockGlitches_B, C.catnaplaw6_ClockGlitches, hb, Soc.cells, Soc.clkV, hz, hg0, hg1, hxW, hxZ, gW, gZ, fZ, zw, zz, gx', gy', hw, ints_set, Int.toNat_natCast, Nat.mul_one]
    exact ⟨m + 1, rfl, ⟨hml, _, hZ.kw h _, hW.other hne _, hZ.put _, hover (.inl rx)⟩, by omega⟩
  simp only [↓Bp, Bq, Bs, ↓aop.eq_28, ↓aop.eq_30, Nat.reduceEqDiff, Nat.reduceAdd, Nat.reduceMul, Nat.reduceSub, Nat.reduceLeDiff, Nat.reduceLT, Int.reduceLT, Int.reduceLE, Int.reduceEq, Int.reduceToNat, Int.reduceAdd, Int.reduceSub, Int.reduceNeg, ↓reduceIte, reduceCtorEq, ↓C.catnaplaw6_ClockGlitches_W, C.catnaplaw6_ClockGlitches_B, C.catnaplaw6_ClockGlitches, hb, Soc.cells, Soc.clkV, hz, hg0, hg1, hxW, hxZ, gW, gZ, fZ, zw, zz, gx', gy', hw, ints_set, Int.toNat_natCast, Nat.mul_one]
  refine (running_at h.t hN (i := y) (by omega)).mono ?_
  rintro r s1 ⟨rfl, rfl⟩
  cases ry : run ns y
  · simp only [↓Bp, Bq, Bs, ↓aop.eq_28, ↓aop.eq_30, Nat.reduceEqDiff, Nat.reduceAdd, Nat.reduceMul, Nat.reduceSub, Nat.reduceLeDiff, Nat.reduceLT, Int.reduceLT, Int.reduceLE, Int.reduceEq, Int.reduceToNat, Int.reduceAdd, Int.reduceSub, Int.reduceNeg, ↓reduceIte, reduceCtorEq, ↓C.catnaplaw6_ClockGlitches_W, C.catnaplaw6_ClockGlitches_B, C.catnaplaw6_ClockGlitches, hb, Soc.cells, Soc.clkV, hz, hg0, hg1, hxW, hxZ, gW, gZ, fZ, zw, zz, gx', gy', hw, ints_set, Int.toNat_natCast, Nat.mul_one]
    exact ⟨m + 1, rfl, ⟨hml, _, hZ.kw h _, hW.other hne _, hZ.put _, hover (.inr ry)⟩, by omega⟩
  · simp only [↓Bp, Bq, Bs, ↓aop.eq_28, ↓aop.eq_30, Nat.reduceEqDiff, Nat.reduceAdd, Nat.reduceMul, Nat.reduceSub, Nat.reduceLeDiff, Nat.reduceLT, Int.reduceLT, Int.reduceLE, Int.reduceEq, Int.reduceToNat, Int.reduceAdd, Int.reduceSub, Int.reduceNeg, ↓reduceIte, reduceCtorEq, ↓C.catnaplaw6_ClockGlitches_W, C.catnaplaw6_ClockGlitches_B, C.catnaplaw6_ClockGlitches, hb, Soc.cells, Soc.clkV, hz, hg0, hg1, hxW, hxZ, gW, gZ, fZ, zw, zz, gx', gy', hw, ints_set, Int.toNat_natCast, Nat.mul_one]
    exact ⟨m + 1, rfl, ⟨hml, Z', h, hW, hZ, hskip (by rw [rx, ry]; simp)⟩, by omega⟩
set_option maxHeartbeats 2000000 in
/-- What is looked at behind an act. -/
theorem kg_look {s : ASt} {ns : List Nd} {W Z : List Int} {va : AV} {t : Nat} (h : KW st s ib p ig S ns) (hZ : KX st s iz Z ib p ig) (hG : GlAt ns W Z 0) {Q : IExit → AFr → ASt → Prop}
    (hQ : ∀ fr, fr.keep [1, 6, 7, 9, 10, 11] = [(1, va), (6, .ptr ib 0), (7, .ptr p 0), (9, .sl 1 iw 0 S.clocks.length), (10, .sl 1 iz 0 S.clocks.length), (11, .int .i64 t)] → Q .normal fr s) :
    awp Try.prog C.catnaplaw6_ClockGlitches_c12 Q [(1, va), (6, .ptr ib 0), (7, .ptr p 0), (9, .sl 1 iw 0 S.clocks.length), (10, .sl 1 iz 0 S.clocks.length), (11, .int .i64 t), (14, .int .i64 0)] s := by
  have hnc := hS.nc
  have hlen := h.k.len
  have hN := h.k.ok
  have hb := h.hb
  simp only [↓Bp, Bq, Bs, ↓aop.eq_28, ↓aop.eq_30, Nat.reduceEqDiff, Nat.reduceAdd, Nat.reduceMul, Nat.reduceSub, Nat.reduceLeDiff, Nat.reduceLT, Int.reduceLT, Int.reduceLE, Int.reduceEq, Int.reduceToNat, Int.reduceAdd, Int.reduceSub, Int.reduceNeg, ↓reduceIte, reduceCtorEq, ↓C.catnaplaw6_ClockGlitches_W, C.catnaplaw6_ClockGlitches_B, C.catnaplaw6_ClockGlitches]
  refine awp_loopK (fun m : Nat => [(1, va), (6, .ptr ib 0), (7, .ptr p 0), (9, .sl 1 iw 0 S.clocks.length), (10, .sl 1 iz 0 S.clocks.length), (11, .int .i64 t), (14, .int .i64 m)])
    (fun m s' => m ≤ S.clocks.length ∧ s' = s) (fun m => S.clocks.length - m) 0 rfl ⟨Nat.zero_le _, rfl⟩ ?_
  rintro m s ⟨hm, rfl⟩
  by_cases hml : m < S.clocks.length
  rotate_left
  · have hml' : ¬ (m : Int) < (S.clocks.length : Nat) := by omega
    simp only [↓Bp, Bq, Bs, ↓aop.eq_28, ↓aop.eq_30, Nat.reduceEqDiff, Nat.reduceAdd, Nat.reduceMul, Nat.reduceSub, Nat.reduceLeDiff, Nat.reduceLT, Int.reduceLT, Int.reduceLE, Int.reduceEq, Int.reduceToNat, Int.reduceAdd, Int.reduceSub, Int.reduceNeg, ↓reduceIte, reduceCtorEq, ↓C.catnaplaw6_ClockGlitches_W, C.catnaplaw6_ClockGlitches_B, C.catnaplaw6_ClockGlitches, hml', hb, Soc.cells, Soc.clkV]
    exact hQ _ rfl
  have hml' : (m : Int) < (S.clocks.length : Nat) := by omega
  have hz : (0:Int) ≤ (m : Int) ∧ (m : Int) < (S.clocks.length : Nat) := by omega
  have hw := wsucc hml (by omega)
  have hmn : m < ns.length := by omega
  have hmW : m < W.length := by rw [hG.lw]; exact hmn
  have hmZ : m < Z.length := by rw [hG.lz]; exact hmn
  have hg := kclk_get hml
  have hsame := h.k.same m hmn hml
  have hat := hG.at_ m hmn hmW hmZ
  rw [if_neg (Nat.not_lt_zero m)] at hat
  simp only [↓Bp, Bq, Bs, ↓aop.eq_28, ↓aop.eq_30, Nat.reduceEqDiff, Nat.reduceAdd, Nat.reduceMul, Nat.reduceSub, Nat.reduceLeDiff, Nat.reduceLT, Int.reduceLT, Int.reduceLE, Int.reduceEq, Int.reduceToNat, Int.reduceAdd, Int.reduceSub, Int.reduceNeg, ↓reduceIte, reduceCtorEq, ↓C.catnaplaw6_ClockGlitches_W, C.catnaplaw6_ClockGlitches_B, C.catnaplaw6_ClockGlitches, hml', hb, Soc.cells, Soc.clkV]
  refine (cchain_at h.t hN hmn).mono ?_
  rintro r s1 ⟨rfl, rfl⟩
  by_cases k1 : S.clocks[m].kind = 109
  rotate_left
  · have T := eq_false k1
    simp only [↓Bp, Bq, Bs, ↓aop.eq_28, ↓aop.eq_30, Nat.reduceEqDiff, Nat.reduceAdd, Nat.reduceMul, Nat.reduceSub, Nat.reduceLeDiff, Nat.reduceLT, Int.reduceLT, Int.reduceLE, Int.reduceEq, Int.reduceToNat, Int.reduceAdd, Int.reduceSub, Int.reduceNeg, ↓reduceIte, reduceCtorEq, ↓C.catnaplaw6_ClockGlitches_W, C.catnaplaw6_ClockGlitches_B, C.catnaplaw6_ClockGlitches, hb, Soc.cells, Soc.clkV, hz, hg.1, T, hw, Int.toNat_natCast, Nat.mul_one]
    exact ⟨m + 1, rfl, hml, by omega⟩
  have hkn : ns[m].c.kind = 109 := by rw [hsame]; exact k1
  obtain ⟨w, z, x, y, ew, ez, lw, lz, gx, gy, hxm, hym⟩ := (hN m hmn).mux hkn
  have hat := hat hkn
  have hxZ := hZ.hx
  have gZ : (ints Z)[m]? = some (.int .i64 z) := by simp [ints, hmZ, hat.2, ez]
  obtain ⟨x', l, e1, e2, e3, e4⟩ := chainN_two hN hmn (by omega)
  rw [ez, Int.toNat_natCast, gy] at e3
  have e3 : y = x' := by injection e3 with e3; omega
  subst e3
  have hcl := chainN_len hN m hmn
  rw [e4] at hcl ⊢
  have hll : (l ++ [y, m]).length = l.length + 2 := by simp
  have hge : ¬ (((l.length + 2 : Nat) : Int) < 2) := by omega
  have hw2 := sub2 (n := l.length + 2) (by omega) (by omega)
  have hgx : (ints (nats (l ++ [y, m])))[l.length]? = some (.int .i64 (y : Nat)) := by simp [ints, nats]
  have hzx : (0:Int) ≤ ((l.length : Nat) : Int) ∧ ((l.length : Nat) : Int) < ((l.length + 2 : Nat) : Int) := by omega
  rw [hsame] at lz gy
  have hg1 := hg.2.1
  have hg0 := hg.1
  rw [k1] at hg0
  rw [row] at hg1
  have gy' := ints_get' gy
  generalize S.clocks[m].src = src at lz gy hg1 gy'
  have zz : (0:Int) ≤ (z : Int) ∧ (z : Int) < (src.length : Nat) := by omega
  rw [row, nats_length, hll]
  simp only [↓Bp, Bq, Bs, ↓aop.eq_28, ↓aop.eq_30, Nat.reduceEqDiff, Nat.reduceAdd, Nat.reduceMul, Nat.reduceSub, Nat.reduceLeDiff, Nat.reduceLT, Int.reduceLT, Int.reduceLE, Int.reduceEq, Int.reduceToNat, Int.reduceAdd, Int.reduceSub, Int.reduceNeg, ↓reduceIte, reduceCtorEq, ↓C.catnaplaw6_ClockGlitches_W, C.catnaplaw6_ClockGlitches_B, C.catnaplaw6_ClockGlitches, hb, Soc.cells, Soc.clkV, hz, hg0, hg1, hxZ, gZ, zz, gy', hge, hw2, hzx, hgx, hw, Nat.add_sub_cancel, Int.toNat_natCast, Nat.mul_one]
  exact ⟨m + 1, rfl, hml, by omega⟩
/-- One act. -/
theorem kg_act {s : ASt} {ns : List Nd} {W Z : List Int} {acts : List Trip} (hne : iw ≠ iz) (hac : ∀ x ∈ acts, I64 x.a ∧ I64 x.b ∧ I64 x.c) {t k o : Nat} (ht : t < acts.length) (hk : k < ns.length) (h : KW st s ib p ig S ns) (hW : KX st s iw W ib p ig) (hZ : KX st s iz Z ib p ig) (hG : GlAt ns W Z 0) {Q : IExit → AFr → ASt → Prop}
    (hQ : ∀ fr s' ns' W' Z', KW st s' ib p ig S ns' → KX st s' iw W' ib p ig → KX st s' iz Z' ib p ig → GlAt ns' W' Z' 0 → fr.keep [1, 6, 7, 9, 10, 11] = [(1, .isl 3 (acts.flatMap encTrip) acts.length), (6, .ptr ib 0), (7, .ptr p 0), (9, .sl 1 iw 0 S.clocks.length), (10, .sl 1 iz 0 S.clocks.length), (11, .int .i64 t)] → Q .normal fr s') :
    awp Try.prog C.catnaplaw6_ClockGlitches_c37 Q [(1, .isl 3 (acts.flatMap encTrip) acts.length), (6, .ptr ib 0), (7, .ptr p 0), (9, .sl 1 iw 0 S.clocks.length), (10, .sl 1 iz 0 S.clocks.length), (11, .int .i64 t), (12, .int .i64 k), (76, .int .i64 o)] s := by
  have hz : (0:Int) ≤ (t : Int) ∧ (t : Int) < (acts.length : Nat) := by omega
  have hg := trips_get acts ht
  have hIa := hac _ (List.getElem_mem ht)
  have hlen := h.k.len
  by_cases o0 : o < 2
  · have hp := pick_spec (st := s) hIa.2.2 (n := 4) (by omega)
    generalize hm : pickI acts[t].c 4 = m at hp
    have c01 : o = 0 ∨ o = 1 := by omega
    rcases c01 with rfl | rfl
    · simp only [↓Bp, Bq, Bs, ↓aop.eq_28, ↓aop.eq_30, Nat.reduceEqDiff, Nat.reduceAdd, Nat.reduceMul, Nat.reduceSub, Nat.reduceLeDiff, Nat.reduceLT, Int.reduceLT, Int.reduceLE, Int.reduceEq, Int.reduceToNat, Int.reduceAdd, Int.reduceSub, Int.reduceNeg, ↓reduceIte, reduceCtorEq, ↓C.catnaplaw6_ClockGlitches_W, C.catnaplaw6_ClockGlitches_B, C.catnaplaw6_ClockGlitches, hz, hg.1, hg.2.1, hg.2.2, Int.toNat_natCast]
      refine hp.mono ?_
      rintro r s' ⟨rfl, rfl⟩
      simp only [↓Bp, Bq, Bs, ↓aop.eq_28, ↓aop.eq_30, Nat.reduceEqDiff, Nat.reduceAdd, Nat.reduceMul, Nat.reduceSub, Nat.reduceLeDiff, Nat.reduceLT, Int.reduceLT, Int.reduceLE, Int.reduceEq, Int.reduceToNat, Int.reduceAdd, Int.reduceSub, Int.reduceNeg, ↓reduceIte, reduceCtorEq, ↓C.catnaplaw6_ClockGlitches_W, C.catnaplaw6_ClockGlitches_B, C.catnaplaw6_ClockGlitches]
      refine (on_spec h.t hk _).mono ?_
      rintro r s' ⟨rfl, rfl⟩
      simp only [↓Bp, Bq, Bs, ↓aop.eq_28, ↓aop.eq_30, Nat.reduceEqDiff, Nat.reduceAdd, Nat.reduceMul, Nat.reduceSub, Nat.reduceLeDiff, Nat.reduceLT, Int.reduceLT, Int.reduceLE, Int.reduceEq, Int.reduceToNat, Int.reduceAdd, Int.reduceSub, Int.reduceNeg, ↓reduceIte, reduceCtorEq, ↓C.catnaplaw6_ClockGlitches_W, C.catnaplaw6_ClockGlitches_B, C.catnaplaw6_ClockGlitches]
      exact hQ _ _ _ _ _ (h.set (h.k.on hk _)) (hW.set _) (hZ.set _) (hG.on hk _) rfl
    · have T1 : ((1 : Nat) : Int) = 1 := rfl
      simp only [↓Bp, Bq, Bs, ↓aop.eq_28, ↓aop.eq_30, Nat.reduceEqDiff, Nat.reduceAdd, Nat.reduceMul, Nat.reduceSub, Nat.reduceLeDiff, Nat.reduceLT, Int.reduceLT, Int.reduceLE, Int.reduceEq, Int.reduceToNat, Int.reduceAdd, Int.reduceSub, Int.reduceNeg, ↓reduceIte, reduceCtorEq, ↓C.catnaplaw6_ClockGlitches_W, C.catnaplaw6_ClockGlitches_B, C.catnaplaw6_ClockGlitches, T1, hz, hg.1, hg.2.1, hg.2.2, Int.toNat_natCast]
      refine hp.mono ?_
      rintro r s' ⟨rfl, rfl⟩
      simp only [↓Bp, Bq, Bs, ↓aop.eq_28, ↓aop.eq_30, Nat.reduceEqDiff, Nat.reduceAdd, Nat.reduceMul, Nat.reduceSub, Nat.reduceLeDiff, Nat.reduceLT, Int.reduceLT, Int.reduceLE, Int.reduceEq, Int.reduceToNat, Int.reduceAdd, Int.reduceSub, Int.reduceNeg, ↓reduceIte, reduceCtorEq, ↓C.catnaplaw6_ClockGlitches_W, C.catnaplaw6_ClockGlitches_B, C.catnaplaw6_ClockGlitches]
      refine (on_spec h.t hk _).mono ?_
      rintro r s' ⟨rfl, rfl⟩
      simp only [↓Bp, Bq, Bs, ↓aop.eq_28, ↓aop.eq_30, Nat.reduceEqDiff, Nat.reduceAdd, Nat.reduceMul, Nat.reduceSub, Nat.reduceLeDiff, Nat.reduceLT, Int.reduceLT, Int.reduceLE, Int.reduceEq, Int.reduceToNat, Int.reduceAdd, Int.reduceSub, Int.reduceNeg, ↓reduceIte, reduceCtorEq, ↓C.catnaplaw6_ClockGlitches_W, C.catnaplaw6_ClockGlitches_B, C.catnaplaw6_ClockGlitches]
      exact hQ _ _ _ _ _ (h.set (h.k.on hk _)) (hW.set _) (hZ.set _) (hG.on hk _) rfl
  have T0 := eq_false (show ¬ (o : Int) = 0 by omega)
  have T1 := eq_false (show ¬ (o : Int) = 1 by omega)
  by_cases o2 : o < 4
  · have T2 : ((o : Int) = 2) = True ∨ (((o : Int) = 2) = False ∧ ((o : Int) = 3) = True) := by
      by_cases e : o = 2
      · exact .inl (eq_true (by omega))
      · exact .inr ⟨eq_false (by omega), eq_true (by omega)⟩
    have hp := fun s => pick_spec (st := s) hIa.2.2 (n := 2) (by omega)
    generalize hm : pickI acts[t].c 2 = m at hp
    have hkW : k < (ints W).length := by rw [ints_length, hG.lw]; omega
    have hzk : (0:Int) ≤ (k : Int) ∧ (k : Int) < (S.clocks.length : Nat) := by omega
    have tail : awp Try.prog C.catnaplaw6_ClockGlitches_c28 (IExit.inBlock 2 Q) [(1, .isl 3 (acts.flatMap encTrip) acts.length), (6, .ptr ib 0), (7, .ptr p 0), (9, .sl 1 iw 0 S.clocks.length), (10, .sl 1 iz 0 S.clocks.length), (11, .int .i64 t), (12, .int .i64 k), (146, .bool true)] s := by
      simp only [↓Bp, Bq, Bs, ↓aop.eq_28, ↓aop.eq_30, Nat.reduceEqDiff, Nat.reduceAdd, Nat.reduceMul, Nat.reduceSub, Nat.reduceLeDiff, Nat.reduceLT, Int.reduceLT, Int.reduceLE, Int.reduceEq, Int.reduceToNat, Int.reduceAdd, Int.reduceSub, Int.reduceNeg, ↓reduceIte, reduceCtorEq, ↓C.catnaplaw6_ClockGlitches_W, C.catnaplaw6_ClockGlitches_B, C.catnaplaw6_ClockGlitches, hz, hg.1, hg.2.1, hg.2.2, Int.toNat_natCast]
      refine (hp _).mono ?_
      rintro r s' ⟨rfl, rfl⟩
      simp only [↓Bp, Bq, Bs, ↓aop.eq_28, ↓aop.eq_30, Nat.reduceEqDiff, Nat.reduceAdd, Nat.reduceMul, Nat.reduceSub, Nat.reduceLeDiff, Nat.reduceLT, Int.reduceLT, Int.reduceLE, Int.reduceEq, Int.reduceToNat, Int.reduceAdd, Int.reduceSub, Int.reduceNeg, ↓reduceIte, reduceCtorEq, ↓C.catnaplaw6_ClockGlitches_W, C.catnaplaw6_ClockGlitches_B, C.catnaplaw6_ClockGlitches]
      refine (sel_spec h.t hk _).mono ?_
      rintro r s1 ⟨rfl, rfl⟩
      have h2 := h.set (h.k.sel hk (m : Int))
      have hW2 := hW.set (nsC (selL ns k hk (m : Int)))
      have hZ2 := hZ.set (nsC (selL ns k hk (m : Int)))
      have hG2 := hG.sel hk (m : Int)
      generalize s'.set ig (nsC (selL ns k hk (m : Int))) = s2 at h2 hW2 hZ2
      have hx := hW2.hx
      by_cases e : selE ns[k] (m : Int) = 0
      · rw [if_pos e] at hG2
        rw [e]
        simp only [↓Bp, Bq, Bs, ↓aop.eq_28, ↓aop.eq_30, Nat.reduceEqDiff, Nat.reduceAdd, Nat.reduceMul, Nat.reduceSub, Nat.reduceLeDiff, Nat.reduceLT, Int.reduceLT, Int.reduceLE, Int.reduceEq, Int.reduceToNat, Int.reduceAdd, Int.reduceSub, Int.reduceNeg, ↓reduceIte, reduceCtorEq, ↓C.catnaplaw6_ClockGlitches_W, C.catnaplaw6_ClockGlitches_B, C.catnaplaw6_ClockGlitches, hz, hg.1, hg.2.1, hg.2.2, Int.toNat_natCast]
        refine (hp _).mono ?_
        rintro r s3 ⟨rfl, rfl⟩
        simp only [↓Bp, Bq, Bs, ↓aop.eq_28, ↓aop.eq_30, Nat.reduceEqDiff, Nat.reduceAdd, Nat.reduceMul, Nat.reduceSub, Nat.reduceLeDiff, Nat.reduceLT, Int.reduceLT, Int.reduceLE, Int.reduceEq, Int.reduceToNat, Int.reduceAdd, Int.reduceSub, Int.reduceNeg, ↓reduceIte, reduceCtorEq, ↓C.catnaplaw6_ClockGlitches_W, C.catnaplaw6_ClockGlitches_B, C.catnaplaw6_ClockGlitches, hx, hzk, hkW, ints_set, Int.toNat_natCast, Nat.mul_one]
        exact hQ _ _ _ _ _ (hW2.kw h2 _) (hW2.put _) (hZ2.other (Ne.symm hne) _) hG2 rfl
      · rw [if_neg e] at hG2
        have T := eq_false e
        simp only [↓Bp, Bq, Bs, ↓aop.eq_28, ↓aop.eq_30, Nat.reduceEqDiff, Nat.reduceAdd, Nat.reduceMul, Nat.reduceSub, Nat.reduceLeDiff, Nat.reduceLT, Int.reduceLT, Int.reduceLE, Int.reduceEq, Int.reduceToNat, Int.reduceAdd, Int.reduceSub, Int.reduceNeg, ↓reduceIte, reduceCtorEq, ↓C.catnaplaw6_ClockGlitches_W, C.catnaplaw6_ClockGlitches_B, C.catnaplaw6_ClockGlitches, T]
        exact hQ _ _ _ _ _ h2 hW2 hZ2 hG2 rfl
    rcases T2 with T2 | ⟨T2, T3⟩
    · simp only [↓Bp, Bq, Bs, ↓aop.eq_28, ↓aop.eq_30, Nat.reduceEqDiff, Nat.reduceAdd, Nat.reduceMul, Nat.reduceSub, Nat.reduceLeDiff, Nat.reduceLT, Int.reduceLT, Int.reduceLE, Int.reduceEq, Int.reduceToNat, Int.reduceAdd, Int.reduceSub, Int.reduceNeg, ↓reduceIte, reduceCtorEq, ↓C.catnaplaw6_ClockGlitches_r32_w, C.catnaplaw6_ClockGlitches_r32_b, ↓C.catnaplaw6_ClockGlitches_c1_w, ↓C.catnaplaw6_ClockGlitches_r10_w, C.catnaplaw6_ClockGlitches_r10_b, ↓C.catnaplaw6_ClockGlitches_c2_w, ↓C.catnaplaw6_ClockGlitches_r28_w, C.catnaplaw6_ClockGlitches_r28_b, ↓C.catnaplaw6_ClockGlitches_c3_w, ↓C.catnaplaw6_ClockGlitches_r31_w, C.catnaplaw6_ClockGlitches_r31_b, ↓C.catnaplaw6_ClockGlitches_c4_w, ↓C.catnaplaw6_ClockGlitches_c5_w, ↓C.catnaplaw6_ClockGlitches_r30_w, C.catnaplaw6_ClockGlitches_r30_b, ↓C.catnaplaw6_ClockGlitches_c6_w, ↓C.catnaplaw6_ClockGlitches_r29_w, C.catnaplaw6_ClockGlitches_r29_b, ↓C.catnaplaw6_ClockGlitches_b7_w, ↓C.catnaplaw6_ClockGlitches_c8_w, ↓C.catnaplaw6_ClockGlitches_c9_w, ↓C.catnaplaw6_ClockGlitches_r27_w, C.catnaplaw6_ClockGlitches_r27_b, ↓C.catnaplaw6_ClockGlitches_b11_w, ↓C.catnaplaw6_ClockGlitches_c12_w, ↓C.catnaplaw6_ClockGlitches_r26_w, C.catnaplaw6_ClockGlitches_r26_b, ↓C.catnaplaw6_ClockGlitches_c13_w, ↓C.catnaplaw6_ClockGlitches_r21_w, C.catnaplaw6_ClockGlitches_r21_b, ↓C.catnaplaw6_ClockGlitches_r23_w, C.catnaplaw6_ClockGlitches_r23_b, ↓C.catnaplaw6_ClockGlitches_c29_w, ↓C.catnaplaw6_ClockGlitches_c30_w, ↓C.catnaplaw6_ClockGlitches_r22_w, C.catnaplaw6_ClockGlitches_r22_b, ↓C.catnaplaw6_ClockGlitches_c31_w, ↓C.catnaplaw6_ClockGlitches_c32_w, ↓C.catnaplaw6_ClockGlitches_c33_w, ↓C.catnaplaw6_ClockGlitches_r20_w, C.catnaplaw6_ClockGlitches_r20_b, ↓C.catnaplaw6_ClockGlitches_c34_w, ↓C.catnaplaw6_ClockGlitches_c35_w, ↓C.catnaplaw6_ClockGlitches_r19_w, C.catnaplaw6_ClockGlitches_r19_b, ↓C.catnaplaw6_ClockGlitches_b36_w, ↓C.catnaplaw6_ClockGlitches_c37_w, ↓C.catnaplaw6_ClockGlitches_r12_w, C.catnaplaw6_ClockGlitches_r12_b, ↓C.catnaplaw6_ClockGlitches_c38_w, ↓C.catnaplaw6_ClockGlitches_r11_w, C.catnaplaw6_ClockGlitches_r11_b, ↓C.catnaplaw6_ClockGlitches_b39_w, ↓C.catnaplaw6_ClockGlitches_c40_w, ↓C.catnaplaw6_ClockGlitches_c41_w, ↓C.catnaplaw6_ClockGlitches_r9_w, C.catnaplaw6_ClockGlitches_r9_b, ↓C.catnaplaw6_ClockGlitches_b43_w, ↓C.catnaplaw6_ClockGlitches_c44_w, ↓C.catnaplaw6_ClockGlitches_r8_w, C.catnaplaw6_ClockGlitches_r8_b, ↓C.catnaplaw6_ClockGlitches_c45_w, ↓C.catnaplaw6_ClockGlitches_r7_w, C.catnaplaw6_ClockGlitches_r7_b, ↓C.catnaplaw6_ClockGlitches_c46_w, ↓C.catnaplaw6_ClockGlitches_r6_w, C.catnaplaw6_ClockGlitches_r6_b, ↓C.catnaplaw6_ClockGlitches_c47_w, ↓C.catnaplaw6_ClockGlitches_r5_w, C.catnaplaw6_ClockGlitches_r5_b, ↓C.catnaplaw6_ClockGlitches_c48_w, ↓C.catnaplaw6_ClockGlitches_c49_w, ↓C.catnaplaw6_ClockGlitches_r4_w, C.catnaplaw6_ClockGlitches_r4_b, ↓C.catnaplaw6_ClockGlitches_c50_w, ↓C.catnaplaw6_ClockGlitches_r3_w, C.catnaplaw6_ClockGlitches_r3_b, ↓C.catnaplaw6_ClockGlitches_c51_w, ↓C.catnaplaw6_ClockGlitches_r2_w, C.catnaplaw6_ClockGlitches_r2_b, ↓C.catnaplaw6_ClockGlitches_c52_w, ↓C.catnaplaw6_ClockGlitches_r1_w, C.catnaplaw6_ClockGlitches_r1_b, ↓C.catnaplaw6_ClockGlitches_c53_w, ↓C.catnaplaw6_ClockGlitches_r0_w, C.catnaplaw6_ClockGlitches_r0_b, C.catnaplaw6_ClockGlitches, T0, T1, T2]
      rw [C.catnaplaw6_ClockGlitches_c28_w, awp_keep]
      exact tail
    · simp only [↓Bp, Bq, Bs, ↓aop.eq_28, ↓aop.eq_30, Nat.reduceEqDiff, Nat.reduceAdd, Nat.reduceMul, Nat.reduceSub, Nat.reduceLeDiff, Nat.reduceLT, Int.reduceLT, Int.reduceLE, Int.reduceEq, Int.reduceToNat, Int.reduceAdd, Int.reduceSub, Int.reduceNeg, ↓reduceIte, reduceCtorEq, ↓C.catnaplaw6_ClockGlitches_r32_w, C.catnaplaw6_ClockGlitches_r32_b, ↓C.catnaplaw6_ClockGlitches_c1_w, ↓C.catnaplaw6_ClockGlitches_r10_w, C.catnaplaw6_ClockGlitches_r10_b, ↓C.catnaplaw6_ClockGlitches_c2_w, ↓C.catnaplaw6_ClockGlitches_r28_w, C.catnaplaw6_ClockGlitches_r28_b, ↓C.catnaplaw6_ClockGlitches_c3_w, ↓C.catnaplaw6_ClockGlitches_r31_w, C.catnaplaw6_ClockGlitches_r31_b, ↓C.catnaplaw6_ClockGlitches_c4_w, ↓C.catnaplaw6_ClockGlitches_c5_w, ↓C.catnaplaw6_ClockGlitches_r30_w, C.catnaplaw6_ClockGlitches_r30_b, ↓C.catnaplaw6_ClockGlitches_c6_w, ↓C.catnaplaw6_ClockGlitches_r29_w, C.catnaplaw6_ClockGlitches_r29_b, ↓C.catnaplaw6_ClockGlitches_b7_w, ↓C.catnaplaw6_ClockGlitches_c8_w, ↓C.catnaplaw6_ClockGlitches_c9_w, ↓C.catnaplaw6_ClockGlitches_r27_w, C.catnaplaw6_ClockGlitches_r27_b, ↓C.catnaplaw6_ClockGlitches_b11_w, ↓C.catnaplaw6_ClockGlitches_c12_w, ↓C.catnaplaw6_ClockGlitches_r26_w, C.catnaplaw6_ClockGlitches_r26_b, ↓C.catnaplaw6_ClockGlitches_c13_w, ↓C.catnaplaw6_ClockGlitches_r21_w, C.catnaplaw6_ClockGlitches_r21_b, ↓C.catnaplaw6_ClockGlitches_r23_w, C.catnaplaw6_ClockGlitches_r23_b, ↓C.catnaplaw6_ClockGlitches_c29_w, ↓C.catnaplaw6_ClockGlitches_c30_w, ↓C.catnaplaw6_ClockGlitches_r22_w, C.catnaplaw6_ClockGlitches_r22_b, ↓C.catnaplaw6_ClockGlitches_c31_w, ↓C.catnaplaw6_ClockGlitches_c32_w, ↓C.catnaplaw6_ClockGlitches_c33_w, ↓C.catnaplaw6_ClockGlitches_r20_w, C.catnaplaw6_ClockGlitches_r20_b, ↓C.catnaplaw6_ClockGlitches_c34_w, ↓C.catnaplaw6_ClockGlitches_c35_w, ↓C.catnaplaw6_ClockGlitches_r19_w, C.catnaplaw6_ClockGlitches_r19_b, ↓C.catnaplaw6_ClockGlitches_b36_w, ↓C.catnaplaw6_ClockGlitches_c37_w, ↓C.catnaplaw6_ClockGlitches_r12_w, C.catnaplaw6_ClockGlitches_r12_b, ↓C.catnaplaw6_ClockGlitches_c38_w, ↓C.catnaplaw6_ClockGlitches_r11_w, C.catnaplaw6_ClockGlitches_r11_b, ↓C.catnaplaw6_ClockGlitches_b39_w, ↓C.catnaplaw6_ClockGlitches_c40_w, ↓C.catnaplaw6_ClockGlitches_c41_w, ↓C.catnaplaw6_ClockGlitches_r9_w, C.catnaplaw6_ClockGlitches_r9_b, ↓C.catnaplaw6_ClockGlitches_b43_w, ↓C.catnaplaw6_ClockGlitches_c44_w, ↓C.catnaplaw6_ClockGlitches_r8_w, C.catnaplaw6_ClockGlitches_r8_b, ↓C.catnaplaw6_ClockGlitches_c45_w, ↓C.catnaplaw6_ClockGlitches_r7_w, C.catnaplaw6_ClockGlitches_r7_b, ↓C.catnaplaw6_ClockGlitches_c46_w, ↓C.catnaplaw6_ClockGlitches_r6_w, C.catnaplaw6_ClockGlitches_r6_b, ↓C.catnaplaw6_ClockGlitches_c47_w, ↓C.catnaplaw6_ClockGlitches_r5_w, C.catnaplaw6_ClockGlitches_r5_b, ↓C.catnaplaw6_ClockGlitches_c48_w, ↓C.catnaplaw6_ClockGlitches_c49_w, ↓C.catnaplaw6_ClockGlitches_r4_w, C.catnaplaw6_ClockGlitches_r4_b, ↓C.catnaplaw6_ClockGlitches_c50_w, ↓C.catnaplaw6_ClockGlitches_r3_w, C.catnaplaw6_ClockGlitches_r3_b, ↓C.catnaplaw6_ClockGlitches_c51_w, ↓C.catnaplaw6_ClockGlitches_r2_w, C.catnaplaw6_ClockGlitches_r2_b, ↓C.catnaplaw6_ClockGlitches_c52_w, ↓C.catnaplaw6_ClockGlitches_r1_w, C.catnaplaw6_ClockGlitches_r1_b, ↓C.catnaplaw6_ClockGlitches_c53_w, ↓C.catnaplaw6_ClockGlitches_r0_w, C.catnaplaw6_ClockGlitches_r0_b, C.catnaplaw6_ClockGlitches, T0, T1, T2, T3]
      rw [C.catnaplaw6_ClockGlitches_c28_w, awp_keep]
      exact tail
  have T2 := eq_false (show ¬ (o : Int) = 2 by omega)
  have T3 := eq_false (show ¬ (o : Int) = 3 by omega)
  simp only [↓Bp, Bq, Bs, ↓aop.eq_28, ↓aop.eq_30, Nat.reduceEqDiff, Nat.reduceAdd, Nat.reduceMul, Nat.reduceSub, Nat.reduceLeDiff, Nat.reduceLT, Int.reduceLT, Int.reduceLE, Int.reduceEq, Int.reduceToNat, Int.reduceAdd, Int.reduceSub, Int.reduceNeg, ↓reduceIte, reduceCtorEq, ↓C.catnaplaw6_ClockGlitches_r32_w, C.catnaplaw6_ClockGlitches_r32_b, ↓C.catnaplaw6_ClockGlitches_c1_w, ↓C.catnaplaw6_ClockGlitches_r10_w, C.catnaplaw6_ClockGlitches_r10_b, ↓C.catnaplaw6_ClockGlitches_c2_w, ↓C.catnaplaw6_ClockGlitches_r28_w, C.catnaplaw6_ClockGlitches_r28_b, ↓C.catnaplaw6_ClockGlitches_c3_w, ↓C.catnaplaw6_ClockGlitches_r31_w, C.catnaplaw6_ClockGlitches_r31_b, ↓C.catnaplaw6_ClockGlitches_c4_w, ↓C.catnaplaw6_ClockGlitches_c5_w, ↓C.catnaplaw6_ClockGlitches_r30_w, C.catnaplaw6_ClockGlitches_r30_b, ↓C.catnaplaw6_ClockGlitches_c6_w, ↓C.catnaplaw6_ClockGlitches_r29_w, C.catnaplaw6_ClockGlitches_r29_b, ↓C.catnaplaw6_ClockGlitches_b7_w, ↓C.catnaplaw6_ClockGlitches_c8_w, ↓C.catnaplaw6_ClockGlitches_c9_w, ↓C.catnaplaw6_ClockGlitches_r27_w, C.catnaplaw6_ClockGlitches_r27_b, ↓C.catnaplaw6_ClockGlitches_b11_w, ↓C.catnaplaw6_ClockGlitches_c12_w, ↓C.catnaplaw6_ClockGlitches_r26_w, C.catnaplaw6_ClockGlitches_r26_b, ↓C.catnaplaw6_ClockGlitches_c13_w, ↓C.catnaplaw6_ClockGlitches_r21_w, C.catnaplaw6_ClockGlitches_r21_b, ↓C.catnaplaw6_ClockGlitches_r25_w, C.catnaplaw6_ClockGlitches_r25_b, ↓C.catnaplaw6_ClockGlitches_c14_w, ↓C.catnaplaw6_ClockGlitches_c15_w, ↓C.catnaplaw6_ClockGlitches_r24_w, C.catnaplaw6_ClockGlitches_r24_b, ↓C.catnaplaw6_ClockGlitches_r13_w, C.catnaplaw6_ClockGlitches_r13_b, ↓C.catnaplaw6_ClockGlitches_c26_w, ↓C.catnaplaw6_ClockGlitches_c27_w, ↓C.catnaplaw6_ClockGlitches_c28_w, ↓C.catnaplaw6_ClockGlitches_r23_w, C.catnaplaw6_ClockGlitches_r23_b, ↓C.catnaplaw6_ClockGlitches_c29_w, ↓C.catnaplaw6_ClockGlitches_c30_w, ↓C.catnaplaw6_ClockGlitches_r22_w, C.catnaplaw6_ClockGlitches_r22_b, ↓C.catnaplaw6_ClockGlitches_c31_w, ↓C.catnaplaw6_ClockGlitches_c32_w, ↓C.catnaplaw6_ClockGlitches_c33_w, ↓C.catnaplaw6_ClockGlitches_r20_w, C.catnaplaw6_ClockGlitches_r20_b, ↓C.catnaplaw6_ClockGlitches_c34_w, ↓C.catnaplaw6_ClockGlitches_c35_w, ↓C.catnaplaw6_ClockGlitches_r19_w, C.catnaplaw6_ClockGlitches_r19_b, ↓C.catnaplaw6_ClockGlitches_b36_w, ↓C.catnaplaw6_ClockGlitches_c37_w, ↓C.catnaplaw6_ClockGlitches_r12_w, C.catnaplaw6_ClockGlitches_r12_b, ↓C.catnaplaw6_ClockGlitches_c38_w, ↓C.catnaplaw6_ClockGlitches_r11_w, C.catnaplaw6_ClockGlitches_r11_b, ↓C.catnaplaw6_ClockGlitches_b39_w, ↓C.catnaplaw6_ClockGlitches_c40_w, ↓C.catnaplaw6_ClockGlitches_c41_w, ↓C.catnaplaw6_ClockGlitches_r9_w, C.catnaplaw6_ClockGlitches_r9_b, ↓C.catnaplaw6_ClockGlitches_b43_w, ↓C.catnaplaw6_ClockGlitches_c44_w, ↓C.catnaplaw6_ClockGlitches_r8_w, C.catnaplaw6_ClockGlitches_r8_b, ↓C.catnaplaw6_ClockGlitches_c45_w, ↓C.catnaplaw6_ClockGlitches_r7_w, C.catnaplaw6_ClockGlitches_r7_b, ↓C.catnaplaw6_ClockGlitches_c46_w, ↓C.catnaplaw6_ClockGlitches_r6_w, C.catnaplaw6_ClockGlitches_r6_b, ↓C.catnaplaw6_ClockGlitches_c47_w, ↓C.catnaplaw6_ClockGlitches_r5_w, C.catnaplaw6_ClockGlitches_r5_b, ↓C.catnaplaw6_ClockGlitches_c48_w, ↓C.catnaplaw6_ClockGlitches_c49_w, ↓C.catnaplaw6_ClockGlitches_r4_w, C.catnaplaw6_ClockGlitches_r4_b, ↓C.catnaplaw6_ClockGlitches_c50_w, ↓C.catnaplaw6_ClockGlitches_r3_w, C.catnaplaw6_ClockGlitches_r3_b, ↓C.catnaplaw6_ClockGlitches_c51_w, ↓C.catnaplaw6_ClockGlitches_r2_w, C.catnaplaw6_ClockGlitches_r2_b, ↓C.catnaplaw6_ClockGlitches_c52_w, ↓C.catnaplaw6_ClockGlitches_r1_w, C.catnaplaw6_ClockGlitches_r1_b, ↓C.catnaplaw6_ClockGlitches_c53_w, ↓C.catnaplaw6_ClockGlitches_r0_w, C.catnaplaw6_ClockGlitches_r0_b, C.catnaplaw6_ClockGlitches, T0, T1, T2, T3]
  rw [C.catnaplaw6_ClockGlitches_c25_w, awp_keep]
  exact kg_tick hS hne h hW hZ hG (Q := IExit.inBlock 2 Q) fun fr s' ns' Z' h' hW' hZ' hG' e => hQ fr s' ns' W Z' h' hW' hZ' hG' e
theorem kg_loop {s : ASt} {acts : List Trip} (hne : iw ≠ iz) (hac : ∀ x ∈ acts, I64 x.a ∧ I64 x.b ∧ I64 x.c) (hal : acts.length ≤ 80) {ns : List Nd} {W Z : List Int} (h : KW st s ib p ig S ns) (hW : KX st s iw W ib p ig) (hZ : KX st s iz Z ib p ig) (hG : GlAt ns W Z 0) :
    awp Try.prog C.catnaplaw6_ClockGlitches_c45 (Post [.slot 4] fun r s => r = .bool true ∧ st.le s)
      [(1, .isl 3 (acts.flatMap encTrip) acts.length), (6, .ptr ib 0), (7, .ptr p 0), (9, .sl 1 iw 0 S.clocks.length), (10, .sl 1 iz 0 S.clocks.length)] s := by
  have hnc := hS.nc
  simp only [↓Bp, Bq, Bs, ↓aop.eq_28, ↓aop.eq_30, Nat.reduceEqDiff, Nat.reduceAdd, Nat.reduceMul, Nat.reduceSub, Nat.reduceLeDiff, Nat.reduceLT, Int.reduceLT, Int.reduceLE, Int.reduceEq, Int.reduceToNat, Int.reduceAdd, Int.reduceSub, Int.reduceNeg, ↓reduceIte, reduceCtorEq, ↓C.catnaplaw6_ClockGlitches_W, C.catnaplaw6_ClockGlitches_B, C.catnaplaw6_ClockGlitches]
  refine awp_midB (fun _ : Unit => ([] : AFr)) (fun _ s => st.le s) ?_ ?_
  · refine awp_loopK (fun t : Nat => [(1, .isl 3 (acts.flatMap encTrip) acts.length), (6, .ptr ib 0), (7, .ptr p 0), (9, .sl 1 iw 0 S.clocks.length), (10, .sl 1 iz 0 S.clocks.length), (11, .int .i64 t)])
      (fun t s => t ≤ acts.length ∧ ∃ ns W Z, KW st s ib p ig S ns ∧ KX st s iw W ib p ig ∧ KX st s iz Z ib p ig ∧ GlAt ns W Z 0) (fun t => acts.length - t) 0 rfl ⟨Nat.zero_le _, ns, W, Z, h, hW, hZ, hG⟩ ?_
    clear h hW hZ hG ns W Z s
    rintro t s ⟨ht, ns, W, Z, h, hW, hZ, hG⟩
    have hb := h.hb
    by_cases htl : t < acts.length
    rotate_left
    · have htl' : ¬ (t : Int) < (acts.length : Nat) := by omega
      simp only [↓Bp, Bq, Bs, ↓aop.eq_28, ↓aop.eq_30, Nat.reduceEqDiff, Nat.reduceAdd, Nat.reduceMul, Nat.reduceSub, Nat.reduceLeDiff, Nat.reduceLT, Int.reduceLT, Int.reduceLE, Int.reduceEq, Int.reduceToNat, Int.reduceAdd, Int.reduceSub, Int.reduceNeg, ↓reduceIte, reduceCtorEq, ↓C.catnaplaw6_ClockGlitches_W, C.catnaplaw6_ClockGlitches_B, C.catnaplaw6_ClockGlitches, htl']
      exact ⟨(), h.le⟩
    have htl' : (t : Int) < (acts.length : Nat) := by omega
    have hw := wsucc htl (by omega)
    have hz2 : (0:Int) ≤ (t : Int) ∧ (t : Int) < (acts.length : Nat) := by omega
    have hg := trips_get acts htl
    have hIa := hac _ (List.getElem_mem htl)
    simp only [↓Bp, Bq, Bs, ↓aop.eq_28, ↓aop.eq_30, Nat.reduceEqDiff, Nat.reduceAdd, Nat.reduceMul, Nat.reduceSub, Nat.reduceLeDiff, Nat.reduceLT, Int.reduceLT, Int.reduceLE, Int.reduceEq, Int.reduceToNat, Int.reduceAdd, Int.reduceSub, Int.reduceNeg, ↓reduceIte, reduceCtorEq, ↓C.catnaplaw6_ClockGlitches_W, C.catnaplaw6_ClockGlitches_B, C.catnaplaw6_ClockGlitches, htl', hb, Soc.cells, Soc.clkV, hz2, Int.toNat_natCast, hg.1, hg.2.1]
    refine (pick_spec hIa.2.1 (n := S.clocks.length) (by omega)).mono ?_
    rintro r s ⟨rfl, rfl⟩
    have hkl := pickI_lt acts[t].b (n := S.clocks.length) (by omega)
    generalize pickI acts[t].b S.clocks.length = k at hkl
    have hlen := h.k.len
    have hk : k < ns.length := by omega
    simp only [↓Bp, Bq, Bs, ↓aop.eq_28, ↓aop.eq_30, Nat.reduceEqDiff, Nat.reduceAdd, Nat.reduceMul, Nat.reduceSub, Nat.reduceLeDiff, Nat.reduceLT, Int.reduceLT, Int.reduceLE, Int.reduceEq, Int.reduceToNat, Int.reduceAdd, Int.reduceSub, Int.reduceNeg, ↓reduceIte, reduceCtorEq, ↓C.catnaplaw6_ClockGlitches_W, C.catnaplaw6_ClockGlitches_B, C.catnaplaw6_ClockGlitches, hz2, Int.toNat_natCast, hg.1, hg.2.1]
    refine (pick_spec hIa.1 (n := 5) (by omega)).mono ?_
    rintro r s ⟨rfl, rfl⟩
    generalize pickI acts[t].a 5 = o
    simp only [↓Bp, Bq, Bs, ↓aop.eq_28, ↓aop.eq_30, Nat.reduceEqDiff, Nat.reduceAdd, Nat.reduceMul, Nat.reduceSub, Nat.reduceLeDiff, Nat.reduceLT, Int.reduceLT, Int.reduceLE, Int.reduceEq, Int.reduceToNat, Int.reduceAdd, Int.reduceSub, Int.reduceNeg, ↓reduceIte, reduceCtorEq, ↓C.catnaplaw6_ClockGlitches_r32_w, C.catnaplaw6_ClockGlitches_r32_b, ↓C.catnaplaw6_ClockGlitches_c1_w, ↓C.catnaplaw6_ClockGlitches_r10_w, C.catnaplaw6_ClockGlitches_r10_b, ↓C.catnaplaw6_ClockGlitches_c2_w, ↓C.catnaplaw6_ClockGlitches_r28_w, C.catnaplaw6_ClockGlitches_r28_b, ↓C.catnaplaw6_ClockGlitches_c3_w, ↓C.catnaplaw6_ClockGlitches_r31_w, C.catnaplaw6_ClockGlitches_r31_b, ↓C.catnaplaw6_ClockGlitches_c4_w, ↓C.catnaplaw6_ClockGlitches_c5_w, ↓C.catnaplaw6_ClockGlitches_r30_w, C.catnaplaw6_ClockGlitches_r30_b, ↓C.catnaplaw6_ClockGlitches_c6_w, ↓C.catnaplaw6_ClockGlitches_r29_w, C.catnaplaw6_ClockGlitches_r29_b, ↓C.catnaplaw6_ClockGlitches_b7_w, ↓C.catnaplaw6_ClockGlitches_c8_w, ↓C.catnaplaw6_ClockGlitches_c9_w, ↓C.catnaplaw6_ClockGlitches_r27_w, C.catnaplaw6_ClockGlitches_r27_b, ↓C.catnaplaw6_ClockGlitches_b11_w, ↓C.catnaplaw6_ClockGlitches_c12_w, ↓C.catnaplaw6_ClockGlitches_r26_w, C.catnaplaw6_ClockGlitches_r26_b, ↓C.catnaplaw6_ClockGlitches_c13_w, ↓C.catnaplaw6_ClockGlitches_r12_w, C.catnaplaw6_ClockGlitches_r12_b, ↓C.catnaplaw6_ClockGlitches_c38_w, ↓C.catnaplaw6_ClockGlitches_r11_w, C.catnaplaw6_ClockGlitches_r11_b, ↓C.catnaplaw6_ClockGlitches_b39_w, ↓C.catnaplaw6_ClockGlitches_c40_w, ↓C.catnaplaw6_ClockGlitches_c41_w, ↓C.catnaplaw6_ClockGlitches_r9_w, C.catnaplaw6_ClockGlitches_r9_b, ↓C.catnaplaw6_ClockGlitches_b43_w, ↓C.catnaplaw6_ClockGlitches_c44_w, ↓C.catnaplaw6_ClockGlitches_r8_w, C.catnaplaw6_ClockGlitches_r8_b, ↓C.catnaplaw6_ClockGlitches_c45_w, ↓C.catnaplaw6_ClockGlitches_r7_w, C.catnaplaw6_ClockGlitches_r7_b, ↓C.catnaplaw6_ClockGlitches_c46_w, ↓C.catnaplaw6_ClockGlitches_r6_w, C.catnaplaw6_ClockGlitches_r6_b, ↓C.catnaplaw6_ClockGlitches_c47_w, ↓C.catnaplaw6_ClockGlitches_r5_w, C.catnaplaw6_ClockGlitches_r5_b, ↓C.catnaplaw6_ClockGlitches_c48_w, ↓C.catnaplaw6_ClockGlitches_c49_w, ↓C.catnaplaw6_ClockGlitches_r4_w, C.catnaplaw6_ClockGlitches_r4_b, ↓C.catnaplaw6_ClockGlitches_c50_w, ↓C.catnaplaw6_ClockGlitches_r3_w, C.catnaplaw6_ClockGlitches_r3_b, ↓C.catnaplaw6_ClockGlitches_c51_w, ↓C.catnaplaw6_ClockGlitches_r2_w, C.catnaplaw6_ClockGlitches_r2_b, ↓C.catnaplaw6_ClockGlitches_c52_w, ↓C.catnaplaw6_ClockGlitches_r1_w, C.catnaplaw6_ClockGlitches_r1_b, ↓C.catnaplaw6_ClockGlitches_c53_w, ↓C.catnaplaw6_ClockGlitches_r0_w, C.catnaplaw6_ClockGlitches_r0_b, C.catnaplaw6_ClockGlitches]
    rw [C.catnaplaw6_ClockGlitches_c37_w, awp_keep]
    refine kg_act hS (ig := ig) hne hac htl hk h hW hZ hG fun fr s' ns' W' Z' h' hW' hZ' hG' e => ?_
    show awp Try.prog C.catnaplaw6_ClockGlitches_c13 _ fr s'
    rw [C.catnaplaw6_ClockGlitches_c13_w, awp_keep, e]
    simp only [↓Bp, Bq, Bs, ↓aop.eq_28, ↓aop.eq_30, Nat.reduceEqDiff, Nat.reduceAdd, Nat.reduceMul, Nat.reduceSub, Nat.reduceLeDiff, Nat.reduceLT, Int.reduceLT, Int.reduceLE, Int.reduceEq, Int.reduceToNat, Int.reduceAdd, Int.reduceSub, Int.reduceNeg, ↓reduceIte, reduceCtorEq, ↓C.catnaplaw6_ClockGlitches_r32_w, C.catnaplaw6_ClockGlitches_r32_b, ↓C.catnaplaw6_ClockGlitches_c1_w, ↓C.catnaplaw6_ClockGlitches_r10_w, C.catnaplaw6_ClockGlitches_r10_b, ↓C.catnaplaw6_ClockGlitches_c2_w, ↓C.catnaplaw6_ClockGlitches_r26_w, C.catnaplaw6_ClockGlitches_r26_b, ↓C.catnaplaw6_ClockGlitches_c13_w, ↓C.catnaplaw6_ClockGlitches_r21_w, C.catnaplaw6_ClockGlitches_r21_b, ↓C.catnaplaw6_ClockGlitches_r25_w, C.catnaplaw6_ClockGlitches_r25_b, ↓C.catnaplaw6_ClockGlitches_c14_w, ↓C.catnaplaw6_ClockGlitches_c15_w, ↓C.catnaplaw6_ClockGlitches_r24_w, C.catnaplaw6_ClockGlitches_r24_b, ↓C.catnaplaw6_ClockGlitches_r18_w, C.catnaplaw6_ClockGlitches_r18_b, ↓C.catnaplaw6_ClockGlitches_c16_w, ↓C.catnaplaw6_ClockGlitches_r15_w, C.catnaplaw6_ClockGlitches_r15_b, ↓C.catnaplaw6_ClockGlitches_c17_w, ↓C.catnaplaw6_ClockGlitches_r17_w, C.catnaplaw6_ClockGlitches_r17_b, ↓C.catnaplaw6_ClockGlitches_c18_w, ↓C.catnaplaw6_ClockGlitches_c19_w, ↓C.catnaplaw6_ClockGlitches_r16_w, C.catnaplaw6_ClockGlitches_r16_b, ↓C.catnaplaw6_ClockGlitches_b20_w, ↓C.catnaplaw6_ClockGlitches_c21_w, ↓C.catnaplaw6_ClockGlitches_c22_w, ↓C.catnaplaw6_ClockGlitches_r14_w, C.catnaplaw6_ClockGlitches_r14_b, ↓C.catnaplaw6_ClockGlitches_b24_w, ↓C.catnaplaw6_ClockGlitches_c25_w, ↓C.catnaplaw6_ClockGlitches_r13_w, C.catnaplaw6_ClockGlitches_r13_b, ↓C.catnaplaw6_ClockGlitches_c26_w, ↓C.catnaplaw6_ClockGlitches_c27_w, ↓C.catnaplaw6_ClockGlitches_c28_w, ↓C.catnaplaw6_ClockGlitches_r23_w, C.catnaplaw6_ClockGlitches_r23_b, ↓C.catnaplaw6_ClockGlitches_c29_w, ↓C.catnaplaw6_ClockGlitches_c30_w, ↓C.catnaplaw6_ClockGlitches_r22_w, C.catnaplaw6_ClockGlitches_r22_b, ↓C.catnaplaw6_ClockGlitches_c31_w, ↓C.catnaplaw6_ClockGlitches_c32_w, ↓C.catnaplaw6_ClockGlitches_c33_w, ↓C.catnaplaw6_ClockGlitches_r20_w, C.catnaplaw6_ClockGlitches_r20_b, ↓C.catnaplaw6_ClockGlitches_c34_w, ↓C.catnaplaw6_ClockGlitches_c35_w, ↓C.catnaplaw6_ClockGlitches_r19_w, C.catnaplaw6_ClockGlitches_r19_b, ↓C.catnaplaw6_ClockGlitches_b36_w, ↓C.catnaplaw6_ClockGlitches_c37_w, ↓C.catnaplaw6_ClockGlitches_r12_w, C.catnaplaw6_ClockGlitches_r12_b, ↓C.catnaplaw6_ClockGlitches_c38_w, ↓C.catnaplaw6_ClockGlitches_r11_w, C.catnaplaw6_ClockGlitches_r11_b, ↓C.catnaplaw6_ClockGlitches_b39_w, ↓C.catnaplaw6_ClockGlitches_c40_w, ↓C.catnaplaw6_ClockGlitches_c41_w, ↓C.catnaplaw6_ClockGlitches_r9_w, C.catnaplaw6_ClockGlitches_r9_b, ↓C.catnaplaw6_ClockGlitches_b43_w, ↓C.catnaplaw6_ClockGlitches_c44_w, ↓C.catnaplaw6_ClockGlitches_r8_w, C.catnaplaw6_ClockGlitches_r8_b, ↓C.catnaplaw6_ClockGlitches_c45_w, ↓C.catnaplaw6_ClockGlitches_r7_w, C.catnaplaw6_ClockGlitches_r7_b, ↓C.catnaplaw6_ClockGlitches_c46_w, ↓C.catnaplaw6_ClockGlitches_r6_w, C.catnaplaw6_ClockGlitches_r6_b, ↓C.catnaplaw6_ClockGlitches_c47_w, ↓C.catnaplaw6_ClockGlitches_r5_w, C.catnaplaw6_ClockGlitches_r5_b, ↓C.catnaplaw6_ClockGlitches_c48_w, ↓C.catnaplaw6_ClockGlitches_c49_w, ↓C.catnaplaw6_ClockGlitches_r4_w, C.catnaplaw6_ClockGlitches_r4_b, ↓C.catnaplaw6_ClockGlitches_c50_w, ↓C.catnaplaw6_ClockGlitches_r3_w, C.catnaplaw6_ClockGlitches_r3_b, ↓C.catnaplaw6_ClockGlitches_c51_w, ↓C.catnaplaw6_ClockGlitches_r2_w, C.catnaplaw6_ClockGlitches_r2_b, ↓C.catnaplaw6_ClockGlitches_c52_w, ↓C.catnaplaw6_ClockGlitches_r1_w, C.catnaplaw6_ClockGlitches_r1_b, ↓C.catnaplaw6_ClockGlitches_c53_w, ↓C.catnaplaw6_ClockGlitches_r0_w, C.catnaplaw6_ClockGlitches_r0_b, C.catnaplaw6_ClockGlitches]
    rw [C.catnaplaw6_ClockGlitches_c12_w, awp_keep]
    refine kg_look hS (ig := ig) (iw := iw) (va := .isl 3 (acts.flatMap encTrip) acts.length) h' hZ' hG' fun fr e => ?_
    show awp Try.prog C.catnaplaw6_ClockGlitches_c2 _ fr s'
    rw [C.catnaplaw6_ClockGlitches_c2_w, awp_keep, e]
    simp only [↓Bp, Bq, Bs, ↓aop.eq_28, ↓aop.eq_30, Nat.reduceEqDiff, Nat.reduceAdd, Nat.reduceMul, Nat.reduceSub, Nat.reduceLeDiff, Nat.reduceLT, Int.reduceLT, Int.reduceLE, Int.reduceEq, Int.reduceToNat, Int.reduceAdd, Int.reduceSub, Int.reduceNeg, ↓reduceIte, reduceCtorEq, ↓C.catnaplaw6_ClockGlitches_W, C.catnaplaw6_ClockGlitches_B, C.catnaplaw6_ClockGlitches, hw]
    exact ⟨t + 1, rfl, ⟨htl, _, _, _, h', hW', hZ', hG'⟩, by omega⟩
  · clear h hW hZ hG ns W Z s
    rintro - s h
    simp only [↓Bp, Bq, Bs, ↓aop.eq_28, ↓aop.eq_30, Nat.reduceEqDiff, Nat.reduceAdd, Nat.reduceMul, Nat.reduceSub, Nat.reduceLeDiff, Nat.reduceLT, Int.reduceLT, Int.reduceLE, Int.reduceEq, Int.reduceToNat, Int.reduceAdd, Int.reduceSub, Int.reduceNeg, ↓reduceIte, reduceCtorEq, ↓C.catnaplaw6_ClockGlitches_W, C.catnaplaw6_ClockGlitches_B, C.catnaplaw6_ClockGlitches]
    exact h
end
theorem clockglitches_spec {st : ASt} {l : List Int} {acts : List Trip} (hl : ∀ x ∈ l, -9223372036854775808 ≤ x ∧ x ≤ 9223372036854775807) (hll : l.length ≤ 9223372036854775807)
    (hac : ∀ x ∈ acts, I64 x.a ∧ I64 x.b ∧ I64 x.c) (hal : acts.length ≤ 9223372036854775807) :
    ACalls Try.prog F.catnaplaw6_ClockGlitches [row l, .isl 3 (acts.flatMap encTrip) acts.length] st fun r s => r = .bool true ∧ s = st := by
  refine ACalls.gc (Q' := fun r s => r = .bool true ∧ st.le s) (calls_of_awp L.catnaplaw6_ClockGlitches rfl ?_) (fun v s ⟨h, hl⟩ => ⟨st, hl, h, rfl⟩)
  simp only [↓Bp, Bq, Bs, ↓aop.eq_28, ↓aop.eq_30, Nat.reduceEqDiff, Nat.reduceAdd, Nat.reduceMul, Nat.reduceSub, Nat.reduceLeDiff, Nat.reduceLT, Int.reduceLT, Int.reduceLE, Int.reduceEq, Int.reduceToNat, Int.reduceAdd, Int.reduceSub, Int.reduceNeg, ↓reduceIte, reduceCtorEq, ↓C.catnaplaw6_ClockGlitches_W, C.catnaplaw6_ClockGlitches_B, C.catnaplaw6_ClockGlitches]
  refine (kshown_spec st).mono ?_
  rintro r s ⟨rfl, rfl⟩
  simp only [↓Bp, Bq, Bs, ↓aop.eq_28, ↓aop.eq_30, Nat.reduceEqDiff, Nat.reduceAdd, Nat.reduceMul, Nat.reduceSub, Nat.reduceLeDiff, Nat.reduceLT, Int.reduceLT, Int.reduceLE, Int.reduceEq, Int.reduceToNat, Int.reduceAdd, Int.reduceSub, Int.reduceNeg, ↓reduceIte, reduceCtorEq, ↓C.catnaplaw6_ClockGlitches_W, C.catnaplaw6_ClockGlitches_B, C.catnaplaw6_ClockGlitches]
  refine (chip_frz hl hll).mono ?_
  rintro r s ⟨rfl, rfl⟩
  have hS := chipS_like l
  generalize chipS l = S at hS
  have hnc := hS.nc
  have l4 : S.cells.length = 4 := rfl
  have e4 : AV.agg (List.take 4 S.cells) = .agg S.cells := rfl
  have f4 : allLeaf S.cells = true := rfl
  simp only [↓Bp, Bq, Bs, ↓aop.eq_28, ↓aop.eq_30, Nat.reduceEqDiff, Nat.reduceAdd, Nat.reduceMul, Nat.reduceSub, Nat.reduceLeDiff, Nat.reduceLT, Int.reduceLT, Int.reduceLE, Int.reduceEq, Int.reduceToNat, Int.reduceAdd, Int.reduceSub, Int.reduceNeg, ↓reduceIte, reduceCtorEq, ↓C.catnaplaw6_ClockGlitches_r2_w, C.catnaplaw6_ClockGlitches_r2_b, ↓C.catnaplaw6_ClockGlitches_c52_w, ↓C.catnaplaw6_ClockGlitches_r1_w, C.catnaplaw6_ClockGlitches_r1_b, ↓C.catnaplaw6_ClockGlitches_c53_w, ↓C.catnaplaw6_ClockGlitches_r0_w, C.catnaplaw6_ClockGlitches_r0_b, C.catnaplaw6_ClockGlitches, l4, f4]
  rintro ib hib
  simp only [↓Bp, Bq, Bs, ↓aop.eq_28, ↓aop.eq_30, Nat.reduceEqDiff, Nat.reduceAdd, Nat.reduceMul, Nat.reduceSub, Nat.reduceLeDiff, Nat.reduceLT, Int.reduceLT, Int.reduceLE, Int.reduceEq, Int.reduceToNat, Int.reduceAdd, Int.reduceSub, Int.reduceNeg, ↓reduceIte, reduceCtorEq, ↓C.catnaplaw6_ClockGlitches_r2_w, C.catnaplaw6_ClockGlitches_r2_b, ↓C.catnaplaw6_ClockGlitches_c52_w, ↓C.catnaplaw6_ClockGlitches_r1_w, C.catnaplaw6_ClockGlitches_r1_b, ↓C.catnaplaw6_ClockGlitches_c53_w, ↓C.catnaplaw6_ClockGlitches_r0_w, C.catnaplaw6_ClockGlitches_r0_b, C.catnaplaw6_ClockGlitches, hib, l4, f4]
  rw [ASt.new_set hib, show putN [AV.nils, AV.nils, AV.nils, AV.nils] 0 S.cells = S.cells from putN_all rfl]
  simp only [↓Bp, Bq, Bs, ↓aop.eq_28, ↓aop.eq_30, Nat.reduceEqDiff, Nat.reduceAdd, Nat.reduceMul, Nat.reduceSub, Nat.reduceLeDiff, Nat.reduceLT, Int.reduceLT, Int.reduceLE, Int.reduceEq, Int.reduceToNat, Int.reduceAdd, Int.reduceSub, Int.reduceNeg, ↓reduceIte, reduceCtorEq, ↓C.catnaplaw6_ClockGlitches_W, C.catnaplaw6_ClockGlitches_B, C.catnaplaw6_ClockGlitches, hib, l4, e4]
  refine (kstart_spec hib hS).mono ?_
  rintro r s1 ⟨p, ig, rfl, h⟩
  by_cases hac0 : acts.length ≤ 80
  rotate_left
  · have hz0 : (80 : Int) < (acts.length : Nat) := by omega
    simp only [↓Bp, Bq, Bs, ↓aop.eq_28, ↓aop.eq_30, Nat.reduceEqDiff, Nat.reduceAdd, Nat.reduceMul, Nat.reduceSub, Nat.reduceLeDiff, Nat.reduceLT, Int.reduceLT, Int.reduceLE, Int.reduceEq, Int.reduceToNat, Int.reduceAdd, Int.reduceSub, Int.reduceNeg, ↓reduceIte, reduceCtorEq, ↓C.catnaplaw6_ClockGlitches_W, C.catnaplaw6_ClockGlitches_B, C.catnaplaw6_ClockGlitches, hz0]
    exact h.le
  have hz0 : ¬ (80 : Int) < (acts.length : Nat) := by omega
  have hb := h.hb
  have hzn : (0 : Int) ≤ (S.clocks.length : Nat) ∧ ((S.clocks.length : Nat) : Int) ≤ 4294967296 := by omega
  simp only [↓Bp, Bq, Bs, ↓aop.eq_28, ↓aop.eq_30, Nat.reduceEqDiff, Nat.reduceAdd, Nat.reduceMul, Nat.reduceSub, Nat.reduceLeDiff, Nat.reduceLT, Int.reduceLT, Int.reduceLE, Int.reduceEq, Int.reduceToNat, Int.reduceAdd, Int.reduceSub, Int.reduceNeg, ↓reduceIte, reduceCtorEq, ↓C.catnaplaw6_ClockGlitches_r6_w, C.catnaplaw6_ClockGlitches_r6_b, ↓C.catnaplaw6_ClockGlitches_c47_w, ↓C.catnaplaw6_ClockGlitches_r5_w, C.catnaplaw6_ClockGlitches_r5_b, ↓C.catnaplaw6_ClockGlitches_c48_w, ↓C.catnaplaw6_ClockGlitches_c49_w, ↓C.catnaplaw6_ClockGlitches_r4_w, C.catnaplaw6_ClockGlitches_r4_b, ↓C.catnaplaw6_ClockGlitches_c50_w, ↓C.catnaplaw6_ClockGlitches_r3_w, C.catnaplaw6_ClockGlitches_r3_b, ↓C.catnaplaw6_ClockGlitches_c51_w, ↓C.catnaplaw6_ClockGlitches_r2_w, C.catnaplaw6_ClockGlitches_r2_b, ↓C.catnaplaw6_ClockGlitches_c52_w, ↓C.catnaplaw6_ClockGlitches_r1_w, C.catnaplaw6_ClockGlitches_r1_b, ↓C.catnaplaw6_ClockGlitches_c53_w, ↓C.catnaplaw6_ClockGlitches_r0_w, C.catnaplaw6_ClockGlitches_r0_b, C.catnaplaw6_ClockGlitches, hz0, hb, Soc.cells, Soc.clkV, hzn, Int.toNat_natCast, zeros_i64]
  rintro iw hiw
  obtain ⟨h3, hW⟩ := h.list hiw (List.replicate S.clocks.length 0)
  generalize s1.new iw (.cells (ints (List.replicate S.clocks.length 0))) = s2 at h3 hW
  rw [C.catnaplaw6_ClockGlitches_c46_w, awp_keep]
  have hb := h3.hb
  simp only [↓Bp, Bq, Bs, ↓aop.eq_28, ↓aop.eq_30, Nat.reduceEqDiff, Nat.reduceAdd, Nat.reduceMul, Nat.reduceSub, Nat.reduceLeDiff, Nat.reduceLT, Int.reduceLT, Int.reduceLE, Int.reduceEq, Int.reduceToNat, Int.reduceAdd, Int.reduceSub, Int.reduceNeg, ↓reduceIte, reduceCtorEq, ↓C.catnaplaw6_ClockGlitches_r7_w, C.catnaplaw6_ClockGlitches_r7_b, ↓C.catnaplaw6_ClockGlitches_c46_w, ↓C.catnaplaw6_ClockGlitches_r6_w, C.catnaplaw6_ClockGlitches_r6_b, ↓C.catnaplaw6_ClockGlitches_c47_w, ↓C.catnaplaw6_ClockGlitches_r5_w, C.catnaplaw6_ClockGlitches_r5_b, ↓C.catnaplaw6_ClockGlitches_c48_w, ↓C.catnaplaw6_ClockGlitches_c49_w, ↓C.catnaplaw6_ClockGlitches_r4_w, C.catnaplaw6_ClockGlitches_r4_b, ↓C.catnaplaw6_ClockGlitches_c50_w, ↓C.catnaplaw6_ClockGlitches_r3_w, C.catnaplaw6_ClockGlitches_r3_b, ↓C.catnaplaw6_ClockGlitches_c51_w, ↓C.catnaplaw6_ClockGlitches_r2_w, C.catnaplaw6_ClockGlitches_r2_b, ↓C.catnaplaw6_ClockGlitches_c52_w, ↓C.catnaplaw6_ClockGlitches_r1_w, C.catnaplaw6_ClockGlitches_r1_b, ↓C.catnaplaw6_ClockGlitches_c53_w, ↓C.catnaplaw6_ClockGlitches_r0_w, C.catnaplaw6_ClockGlitches_r0_b, C.catnaplaw6_ClockGlitches, hb, Soc.cells, Soc.clkV, hzn, Int.toNat_natCast, zeros_i64]
  rintro iz hiz
  have hne : iw ≠ iz := by rintro rfl; rw [hW.hx] at hiz; cases hiz
  obtain ⟨h4, hZ⟩ := h3.list hiz (List.replicate S.clocks.length 0)
  have hW := hW.step (ASt.le.new s2 iz (.cells (ints (List.replicate S.clocks.length 0))))
  generalize s2.new iz (.cells (ints (List.replicate S.clocks.length 0))) = s3 at h4 hW hZ
  rw [C.catnaplaw6_ClockGlitches_c45_w, awp_keep]
  exact kg_loop hS hne hac hac0 h4 hW hZ (GlAt.fresh S.clocks)
end Go.Proofs.Ytkioaemhdbcfaaa.Cn
