/- Clocks: ClockRates. -/
import Derived.Test.YtkioaemhdbcfaaaCnKList
set_option linter.unusedSimpArgs false
set_option linter.unusedVariables false
set_option linter.unusedSectionVars false
namespace Go.Proofs.Ytkioaemhdbcfaaa.Cn
open Go Go.Proofs

/-- The list has the divisors. -/
structure DivOf (S : Soc) (ns : List Nd) (D : List Int) : Prop where
  len : D.length = S.clocks.length
  at_ : ∀ j (h : j < ns.length) (h' : j < D.length), ns[j].c.kind = 100 → D[j] = ns[j].by_
theorem DivOf.fresh (S : Soc) : DivOf S (cfresh S.clocks) (S.clocks.map Clk.div) where
  len := by simp
  at_ := fun j h h' hk => by
    simp only [cfresh, List.getElem_map] at hk ⊢
    have : S.clocks[j]'(by simpa using h') = S.clocks[j]'(by simpa using h') := rfl
    unfold Nd.fresh at hk ⊢
    simp only at hk ⊢
    rw [if_pos hk]
theorem DivOf.put {S : Soc} {ns : List Nd} {D : List Int} (h : DivOf S ns D) {i : Nat} (hi : i < ns.length) {n : Nd} (hc : n.c = ns[i].c) (hb : n.by_ = ns[i].by_) : DivOf S (ns.set i n) D where
  len := h.len
  at_ := fun j hj hj' hk => by
    simp only [List.length_set] at hj
    rw [List.getElem_set] at hk ⊢
    split at hk
    · rename_i e; subst e
      rw [if_pos rfl, hb]; exact h.at_ _ hi hj' (by rw [← hc]; exact hk)
    · rename_i e
      rw [if_neg e]; exact h.at_ _ hj hj' hk
theorem Nd.turn_by (n : Nd) (b : Bool) : (n.turn b).by_ = n.by_ := by unfold Nd.turn; split <;> rfl
theorem Nd.tick_by (n : Nd) (R : Nat → Bool) : (n.tick R).by_ = n.by_ := by
  unfold Nd.tick
  split
  · split
    · split
      · rfl
      · split <;> rfl
    · rfl
  · split <;> rfl
theorem DivOf.on {S : Soc} {ns : List Nd} {D : List Int} (h : DivOf S ns D) {i : Nat} (hi : i < ns.length) (b : Bool) : DivOf S (onL ns i hi b) D := by
  unfold onL; split
  · exact h.put hi (Nd.turn_c _ _) (Nd.turn_by _ _)
  · exact h
theorem DivOf.sel {S : Soc} {ns : List Nd} {D : List Int} (h : DivOf S ns D) {i : Nat} (hi : i < ns.length) (k : Int) : DivOf S (selL ns i hi k) D := by
  unfold selL; split
  · exact h.put hi rfl rfl
  · exact h
theorem DivOf.tick {S : Soc} {ns : List Nd} {D : List Int} (h : DivOf S ns D) : DivOf S (ctickL ns) D where
  len := h.len
  at_ := fun j hj hj' hk => by
    simp only [ctickL_len] at hj
    simp only [ctickL, List.getElem_map] at hk ⊢
    rw [Nd.tick_c] at hk
    rw [Nd.tick_by]; exact h.at_ _ hj hj' hk
theorem DivOf.div {S : Soc} {ns : List Nd} {D : List Int} (h : DivOf S ns D) {i : Nat} (hi : i < ns.length) (k : Int) : DivOf S (divL ns i hi k) (if divE ns[i] k = 0 then D.set i k else D) := by
  unfold divL
  by_cases e : divE ns[i] k = 0
  · rw [if_pos e, if_pos e]
    refine ⟨by simp [h.len], fun j hj hj' hk => ?_⟩
    simp only [List.length_set] at hj hj'
    rw [List.getElem_set] at hk ⊢
    rw [List.getElem_set]
    by_cases e2 : i = j
    · rw [if_pos e2, if_pos e2]
    · rw [if_neg e2] at hk ⊢
      rw [if_neg e2]; exact h.at_ _ hj hj' hk
  · rw [if_neg e, if_neg e]; exact h
section
variable {st : ASt} {ib ix p ig : Nat} {S : Soc} (hS : S.like)
include hS
/-- One act. -/
theorem kr_act {s : ASt} {ns : List Nd} {D : List Int} {acts : List Trip} (hac : ∀ x ∈ acts, I64 x.a ∧ I64 x.b ∧ I64 x.c) {t k o : Nat} (ht : t < acts.length) (hk : k < ns.length) (h : KW st s ib p ig S ns) (hX : KX st s ix D ib p ig) (hD : DivOf S ns D) {Q : IExit → AFr → ASt → Prop}
    (hQ : ∀ fr s' ns' D', KW st s' ib p ig S ns' → KX st s' ix D' ib p ig → DivOf S ns' D' → fr.keep [1, 6, 7, 9, 11, 12] = [(1, .isl 3 (acts.flatMap encTrip) acts.length), (6, .ptr ib 0), (7, .ptr p 0), (9, .sl 1 ix 0 S.clocks.length), (11, .int .i64 t), (12, .int .i64 k)] → Q .normal fr s') :
    awp Try.prog C.catnaplaw6_ClockRates_c43 Q [(1, .isl 3 (acts.flatMap encTrip) acts.length), (6, .ptr ib 0), (7, .ptr p 0), (9, .sl 1 ix 0 S.clocks.length), (11, .int .i64 t), (12, .int .i64 k), (90, .int .i64 o)] s := by
  have hz : (0:Int) ≤ (t : Int) ∧ (t : Int) < (acts.length : Nat) := by omega
  have hg := trips_get acts ht
  have hIa := hac _ (List.getElem_mem ht)
  have hlen := h.k.len
  by_cases o0 : o < 2
  · have c01 : o = 0 ∨ o = 1 := by omega
    rcases c01 with rfl | rfl
    · simp only [↓Bp, Bq, Bs, ↓aop.eq_28, ↓aop.eq_30, Nat.reduceEqDiff, Nat.reduceAdd, Nat.reduceMul, Nat.reduceSub, Nat.reduceLeDiff, Nat.reduceLT, Int.reduceLT, Int.reduceLE, Int.reduceEq, Int.reduceToNat, Int.reduceAdd, Int.reduceSub, Int.reduceNeg, ↓reduceIte, reduceCtorEq, ↓C.catnaplaw6_ClockRates_W, C.catnaplaw6_ClockRates_B, C.catnaplaw6_ClockRates]
      refine (on_spec h.t hk true).mono ?_
      rintro r s' ⟨rfl, rfl⟩
      simp only [↓Bp, Bq, Bs, ↓aop.eq_28, ↓aop.eq_30, Nat.reduceEqDiff, Nat.reduceAdd, Nat.reduceMul, Nat.reduceSub, Nat.reduceLeDiff, Nat.reduceLT, Int.reduceLT, Int.reduceLE, Int.reduceEq, Int.reduceToNat, Int.reduceAdd, Int.reduceSub, Int.reduceNeg, ↓reduceIte, reduceCtorEq, ↓C.catnaplaw6_ClockRates_W, C.catnaplaw6_ClockRates_B, C.catnaplaw6_ClockRates]
      exact hQ _ _ _ _ (h.set (h.k.on hk true)) (hX.set _) (hD.on hk true) rfl
    · have T1 : ((1 : Nat) : Int) = 1 := rfl
      simp only [↓Bp, Bq, Bs, ↓aop.eq_28, ↓aop.eq_30, Nat.reduceEqDiff, Nat.reduceAdd, Nat.reduceMul, Nat.reduceSub, Nat.reduceLeDiff, Nat.reduceLT, Int.reduceLT, Int.reduceLE, Int.reduceEq, Int.reduceToNat, Int.reduceAdd, Int.reduceSub, Int.reduceNeg, ↓reduceIte, reduceCtorEq, ↓C.catnaplaw6_ClockRates_W, C.catnaplaw6_ClockRates_B, C.catnaplaw6_ClockRates, T1]
      refine (on_spec h.t hk true).mono ?_
      rintro r s' ⟨rfl, rfl⟩
      simp only [↓Bp, Bq, Bs, ↓aop.eq_28, ↓aop.eq_30, Nat.reduceEqDiff, Nat.reduceAdd, Nat.reduceMul, Nat.reduceSub, Nat.reduceLeDiff, Nat.reduceLT, Int.reduceLT, Int.reduceLE, Int.reduceEq, Int.reduceToNat, Int.reduceAdd, Int.reduceSub, Int.reduceNeg, ↓reduceIte, reduceCtorEq, ↓C.catnaplaw6_ClockRates_W, C.catnaplaw6_ClockRates_B, C.catnaplaw6_ClockRates]
      exact hQ _ _ _ _ (h.set (h.k.on hk true)) (hX.set _) (hD.on hk true) rfl
  have T0 := eq_false (show ¬ (o : Int) = 0 by omega)
  have T1 := eq_false (show ¬ (o : Int) = 1 by omega)
  by_cases o2 : o = 2
  · have T2 := eq_true (show (o : Int) = 2 by omega)
    have hp := pick_spec (st := s) hIa.2.2 (n := 1000) (by omega)
    have hpl := pickI_lt acts[t].c (n := 1000) (by omega)
    generalize hm : pickI acts[t].c 1000 = m at hp hpl
    have hw : IntKind.i64.wrap (1 + (m : Int)) = ((m + 1 : Nat) : Int) := by rw [wrap64] <;> omega
    simp only [↓Bp, Bq, Bs, ↓aop.eq_28, ↓aop.eq_30, Nat.reduceEqDiff, Nat.reduceAdd, Nat.reduceMul, Nat.reduceSub, Nat.reduceLeDiff, Nat.reduceLT, Int.reduceLT, Int.reduceLE, Int.reduceEq, Int.reduceToNat, Int.reduceAdd, Int.reduceSub, Int.reduceNeg, ↓reduceIte, reduceCtorEq, ↓C.catnaplaw6_ClockRates_W, C.catnaplaw6_ClockRates_B, C.catnaplaw6_ClockRates, T0, T1, T2, hz, hg.1, hg.2.1, hg.2.2, Int.toNat_natCast]
    refine hp.mono ?_
    rintro r s' ⟨rfl, rfl⟩
    simp only [↓Bp, Bq, Bs, ↓aop.eq_28, ↓aop.eq_30, Nat.reduceEqDiff, Nat.reduceAdd, Nat.reduceMul, Nat.reduceSub, Nat.reduceLeDiff, Nat.reduceLT, Int.reduceLT, Int.reduceLE, Int.reduceEq, Int.reduceToNat, Int.reduceAdd, Int.reduceSub, Int.reduceNeg, ↓reduceIte, reduceCtorEq, ↓C.catnaplaw6_ClockRates_W, C.catnaplaw6_ClockRates_B, C.catnaplaw6_ClockRates, hw]
    refine (div_spec h.t hk _).mono ?_
    rintro r s1 ⟨rfl, rfl⟩
    have h2 := h.set (h.k.div hk ((m + 1 : Nat) : Int))
    have hX2 := hX.set (nsC (divL ns k hk ((m + 1 : Nat) : Int)))
    have hD2 := hD.div hk ((m + 1 : Nat) : Int)
    have hkD : k < (ints D).length := by rw [ints_length, hD.len]; omega
    generalize hs2 : s'.set ig (nsC (divL ns k hk ((m + 1 : Nat) : Int))) = s2 at h2 hX2
    have hx := hX2.hx
    by_cases e : divE ns[k] ((m + 1 : Nat) : Int) = 0
    · rw [if_pos e] at hD2
      rw [e]
      have hp2 := pick_spec (st := s2) hIa.2.2 (n := 1000) (by omega)
      rw [hm] at hp2
      simp only [↓Bp, Bq, Bs, ↓aop.eq_28, ↓aop.eq_30, Nat.reduceEqDiff, Nat.reduceAdd, Nat.reduceMul, Nat.reduceSub, Nat.reduceLeDiff, Nat.reduceLT, Int.reduceLT, Int.reduceLE, Int.reduceEq, Int.reduceToNat, Int.reduceAdd, Int.reduceSub, Int.reduceNeg, ↓reduceIte, reduceCtorEq, ↓C.catnaplaw6_ClockRates_W, C.catnaplaw6_ClockRates_B, C.catnaplaw6_ClockRates, hz, hg.1, hg.2.1, hg.2.2, Int.toNat_natCast]
      refine hp2.mono ?_
      rintro r s3 ⟨rfl, rfl⟩
      have hzk : (0:Int) ≤ (k : Int) ∧ (k : Int) < (S.clocks.length : Nat) := by omega
      simp only [↓Bp, Bq, Bs, ↓aop.eq_28, ↓aop.eq_30, Nat.reduceEqDiff, Nat.reduceAdd, Nat.reduceMul, Nat.reduceSub, Nat.reduceLeDiff, Nat.reduceLT, Int.reduceLT, Int.reduceLE, Int.reduceEq, Int.reduceToNat, Int.reduceAdd, Int.reduceSub, Int.reduceNeg, ↓reduceIte, reduceCtorEq, ↓C.catnaplaw6_ClockRates_W, C.catnaplaw6_ClockRates_B, C.catnaplaw6_ClockRates, hw, hx, hzk, hkD, ints_set, Int.toNat_natCast, Nat.mul_one]
      exact hQ _ _ _ _ (hX2.kw h2 _) (hX2.put _) hD2 rfl
    · rw [if_neg e] at hD2
      have T := eq_false e
      simp only [↓Bp, Bq, Bs, ↓aop.eq_28, ↓aop.eq_30, Nat.reduceEqDiff, Nat.reduceAdd, Nat.reduceMul, Nat.reduceSub, Nat.reduceLeDiff, Nat.reduceLT, Int.reduceLT, Int.reduceLE, Int.reduceEq, Int.reduceToNat, Int.reduceAdd, Int.reduceSub, Int.reduceNeg, ↓reduceIte, reduceCtorEq, ↓C.catnaplaw6_ClockRates_W, C.catnaplaw6_ClockRates_B, C.catnaplaw6_ClockRates, T]
      exact hQ _ _ _ _ h2 hX2 hD2 rfl
  have T2 := eq_false (show ¬ (o : Int) = 2 by omega)
  by_cases o3 : o = 3
  · have T3 := eq_true (show (o : Int) = 3 by omega)
    simp only [↓Bp, Bq, Bs, ↓aop.eq_28, ↓aop.eq_30, Nat.reduceEqDiff, Nat.reduceAdd, Nat.reduceMul, Nat.reduceSub, Nat.reduceLeDiff, Nat.reduceLT, Int.reduceLT, Int.reduceLE, Int.reduceEq, Int.reduceToNat, Int.reduceAdd, Int.reduceSub, Int.reduceNeg, ↓reduceIte, reduceCtorEq, ↓C.catnaplaw6_ClockRates_W, C.catnaplaw6_ClockRates_B, C.catnaplaw6_ClockRates, T0, T1, T2, T3, hz, hg.1, hg.2.1, hg.2.2, Int.toNat_natCast]
    refine (pick_spec hIa.2.2 (n := 2) (by omega)).mono ?_
    rintro r s' ⟨rfl, rfl⟩
    simp only [↓Bp, Bq, Bs, ↓aop.eq_28, ↓aop.eq_30, Nat.reduceEqDiff, Nat.reduceAdd, Nat.reduceMul, Nat.reduceSub, Nat.reduceLeDiff, Nat.reduceLT, Int.reduceLT, Int.reduceLE, Int.reduceEq, Int.reduceToNat, Int.reduceAdd, Int.reduceSub, Int.reduceNeg, ↓reduceIte, reduceCtorEq, ↓C.catnaplaw6_ClockRates_W, C.catnaplaw6_ClockRates_B, C.catnaplaw6_ClockRates]
    refine (sel_spec h.t hk _).mono ?_
    rintro r s1 ⟨rfl, rfl⟩
    simp only [↓Bp, Bq, Bs, ↓aop.eq_28, ↓aop.eq_30, Nat.reduceEqDiff, Nat.reduceAdd, Nat.reduceMul, Nat.reduceSub, Nat.reduceLeDiff, Nat.reduceLT, Int.reduceLT, Int.reduceLE, Int.reduceEq, Int.reduceToNat, Int.reduceAdd, Int.reduceSub, Int.reduceNeg, ↓reduceIte, reduceCtorEq, ↓C.catnaplaw6_ClockRates_W, C.catnaplaw6_ClockRates_B, C.catnaplaw6_ClockRates]
    exact hQ _ _ _ _ (h.set (h.k.sel hk _)) (hX.set _) (hD.sel hk _) rfl
  have T3 := eq_false (show ¬ (o : Int) = 3 by omega)
  simp only [↓Bp, Bq, Bs, ↓aop.eq_28, ↓aop.eq_30, Nat.reduceEqDiff, Nat.reduceAdd, Nat.reduceMul, Nat.reduceSub, Nat.reduceLeDiff, Nat.reduceLT, Int.reduceLT, Int.reduceLE, Int.reduceEq, Int.reduceToNat, Int.reduceAdd, Int.reduceSub, Int.reduceNeg, ↓reduceIte, reduceCtorEq, ↓C.catnaplaw6_ClockRates_W, C.catnaplaw6_ClockRates_B, C.catnaplaw6_ClockRates, T0, T1, T2, T3]
  refine (ctick_spec h.t h.k.ok).mono ?_
  rintro r s' rfl
  simp only [↓Bp, Bq, Bs, ↓aop.eq_28, ↓aop.eq_30, Nat.reduceEqDiff, Nat.reduceAdd, Nat.reduceMul, Nat.reduceSub, Nat.reduceLeDiff, Nat.reduceLT, Int.reduceLT, Int.reduceLE, Int.reduceEq, Int.reduceToNat, Int.reduceAdd, Int.reduceSub, Int.reduceNeg, ↓reduceIte, reduceCtorEq, ↓C.catnaplaw6_ClockRates_W, C.catnaplaw6_ClockRates_B, C.catnaplaw6_ClockRates]
  exact hQ _ _ _ _ (h.set h.k.tick) (hX.set _) hD.tick rfl
set_option maxHeartbeats 2000000 in
/-- What is looked at behind an act. -/
theorem kr_look {s : ASt} {ns : List Nd} {D : List Int} {va : AV} {t k : Nat} (hk : k < ns.length) (h : KW st s ib p ig S ns) (hX : KX st s ix D ib p ig) (hD : DivOf S ns D) {Q : IExit → AFr → ASt → Prop}
    (hQ : ∀ fr, fr.keep [1, 6, 7, 9, 11] = [(1, va), (6, .ptr ib 0), (7, .ptr p 0), (9, .sl 1 ix 0 S.clocks.length), (11, .int .i64 t)] → Q .normal fr s ∧ Q (.exit 3) fr s) :
    awp Try.prog C.catnaplaw6_ClockRates_c28 Q [(1, va), (6, .ptr ib 0), (7, .ptr p 0), (9, .sl 1 ix 0 S.clocks.length), (11, .int .i64 t), (12, .int .i64 k)] s := by
  have hnc := hS.nc
  have hlen := h.k.len
  have hN := h.k.ok
  have hkC : k < S.clocks.length := by omega
  have hb := h.hb
  have hx := hX.hx
  have hzk : (0:Int) ≤ (k : Int) ∧ (k : Int) < (S.clocks.length : Nat) := by omega
  have hg := kclk_get hkC
  have hsame := h.k.same k hk hkC
  simp only [↓Bp, Bq, Bs, ↓aop.eq_28, ↓aop.eq_30, Nat.reduceEqDiff, Nat.reduceAdd, Nat.reduceMul, Nat.reduceSub, Nat.reduceLeDiff, Nat.reduceLT, Int.reduceLT, Int.reduceLE, Int.reduceEq, Int.reduceToNat, Int.reduceAdd, Int.reduceSub, Int.reduceNeg, ↓reduceIte, reduceCtorEq, ↓C.catnaplaw6_ClockRates_W, C.catnaplaw6_ClockRates_B, C.catnaplaw6_ClockRates]
  refine (cchain_at h.t hN hk).mono ?_
  rintro r s' ⟨rfl, rfl⟩
  by_cases k1 : ns[k].c.kind = 111
  · have he : chainN ns k = [k] := by rw [chainN_eq hN hk, if_pos k1]
    have hr : run ns k = true := by rw [run_eq hN hk, if_pos k1]
    have hv : rateN ns k = S.clocks[k].rate := by rw [rateN_eq hN hk, if_pos k1, hsame]
    rw [he]
    simp only [↓Bp, Bq, Bs, ↓aop.eq_28, ↓aop.eq_30, Nat.reduceEqDiff, Nat.reduceAdd, Nat.reduceMul, Nat.reduceSub, Nat.reduceLeDiff, Nat.reduceLT, Int.reduceLT, Int.reduceLE, Int.reduceEq, Int.reduceToNat, Int.reduceAdd, Int.reduceSub, Int.reduceNeg, ↓reduceIte, reduceCtorEq, ↓C.catnaplaw6_ClockRates_W, C.catnaplaw6_ClockRates_B, C.catnaplaw6_ClockRates, row, nats, hb, Soc.cells, Soc.clkV, hzk, hg.2.2.1, Int.toNat_natCast]
    refine (rate_spec h.t hN hk).mono ?_
    rintro r s1 ⟨rfl, rfl⟩
    rw [hr, if_pos rfl, hv]
    simp only [↓Bp, Bq, Bs, ↓aop.eq_28, ↓aop.eq_30, Nat.reduceEqDiff, Nat.reduceAdd, Nat.reduceMul, Nat.reduceSub, Nat.reduceLeDiff, Nat.reduceLT, Int.reduceLT, Int.reduceLE, Int.reduceEq, Int.reduceToNat, Int.reduceAdd, Int.reduceSub, Int.reduceNeg, ↓reduceIte, reduceCtorEq, ↓C.catnaplaw6_ClockRates_W, C.catnaplaw6_ClockRates_B, C.catnaplaw6_ClockRates, hb, Soc.cells, Soc.clkV, hg.2.2.1]
    refine (hQ _ ?_).2
    rfl
  obtain ⟨x, l, e1, e2, e3, e4⟩ := chainN_two hN hk k1
  have hcl := chainN_len hN k hk
  rw [e4] at hcl ⊢
  have hll : (l ++ [x, k]).length = l.length + 2 := by simp
  have hge : ¬ (((l.length + 2 : Nat) : Int) < 2) := by omega
  have hw2 := sub2 (n := l.length + 2) (by omega) (by omega)
  have hgx : (ints (nats (l ++ [x, k])))[l.length]? = some (.int .i64 (x : Nat)) := by simp [ints, nats]
  have hzx : (0:Int) ≤ ((l.length : Nat) : Int) ∧ ((l.length : Nat) : Int) < ((l.length + 2 : Nat) : Int) := by omega
  have hx2 : x < ns.length := by omega
  rw [row, nats_length, hll]
  simp only [↓Bp, Bq, Bs, ↓aop.eq_28, ↓aop.eq_30, Nat.reduceEqDiff, Nat.reduceAdd, Nat.reduceMul, Nat.reduceSub, Nat.reduceLeDiff, Nat.reduceLT, Int.reduceLT, Int.reduceLE, Int.reduceEq, Int.reduceToNat, Int.reduceAdd, Int.reduceSub, Int.reduceNeg, ↓reduceIte, reduceCtorEq, ↓C.catnaplaw6_ClockRates_r43_w, C.catnaplaw6_ClockRates_r43_b, ↓C.catnaplaw6_ClockRates_c1_w, ↓C.catnaplaw6_ClockRates_r13_w, C.catnaplaw6_ClockRates_r13_b, ↓C.catnaplaw6_ClockRates_c2_w, ↓C.catnaplaw6_ClockRates_r29_w, C.catnaplaw6_ClockRates_r29_b, ↓C.catnaplaw6_ClockRates_c22_w, ↓C.catnaplaw6_ClockRates_r28_w, C.catnaplaw6_ClockRates_r28_b, ↓C.catnaplaw6_ClockRates_c23_w, ↓C.catnaplaw6_ClockRates_c24_w, ↓C.catnaplaw6_ClockRates_r27_w, C.catnaplaw6_ClockRates_r27_b, ↓C.catnaplaw6_ClockRates_c25_w, ↓C.catnaplaw6_ClockRates_c26_w, ↓C.catnaplaw6_ClockRates_r26_w, C.catnaplaw6_ClockRates_r26_b, ↓C.catnaplaw6_ClockRates_c27_w, ↓C.catnaplaw6_ClockRates_r25_w, C.catnaplaw6_ClockRates_r25_b, ↓C.catnaplaw6_ClockRates_c28_w, ↓C.catnaplaw6_ClockRates_r19_w, C.catnaplaw6_ClockRates_r19_b, ↓C.catnaplaw6_ClockRates_r22_w, C.catnaplaw6_ClockRates_r22_b, ↓C.catnaplaw6_ClockRates_c29_w, ↓C.catnaplaw6_ClockRates_c30_w, ↓C.catnaplaw6_ClockRates_r21_w, C.catnaplaw6_ClockRates_r21_b, ↓C.catnaplaw6_ClockRates_r24_w, C.catnaplaw6_ClockRates_r24_b, ↓C.catnaplaw6_ClockRates_r16_w, C.catnaplaw6_ClockRates_r16_b, ↓C.catnaplaw6_ClockRates_c31_w, ↓C.catnaplaw6_ClockRates_c32_w, ↓C.catnaplaw6_ClockRates_c33_w, ↓C.catnaplaw6_ClockRates_r23_w, C.catnaplaw6_ClockRates_r23_b, ↓C.catnaplaw6_ClockRates_c34_w, ↓C.catnaplaw6_ClockRates_c35_w, ↓C.catnaplaw6_ClockRates_c36_w, ↓C.catnaplaw6_ClockRates_r20_w, C.catnaplaw6_ClockRates_r20_b, ↓C.catnaplaw6_ClockRates_c37_w, ↓C.catnaplaw6_ClockRates_c38_w, ↓C.catnaplaw6_ClockRates_c39_w, ↓C.catnaplaw6_ClockRates_r18_w, C.catnaplaw6_ClockRates_r18_b, ↓C.catnaplaw6_ClockRates_c40_w, ↓C.catnaplaw6_ClockRates_c41_w, ↓C.catnaplaw6_ClockRates_r17_w, C.catnaplaw6_ClockRates_r17_b, ↓C.catnaplaw6_ClockRates_b42_w, ↓C.catnaplaw6_ClockRates_c43_w, ↓C.catnaplaw6_ClockRates_r15_w, C.catnaplaw6_ClockRates_r15_b, ↓C.catnaplaw6_ClockRates_c44_w, ↓C.catnaplaw6_ClockRates_r14_w, C.catnaplaw6_ClockRates_r14_b, ↓C.catnaplaw6_ClockRates_b45_w, ↓C.catnaplaw6_ClockRates_c46_w, ↓C.catnaplaw6_ClockRates_c47_w, ↓C.catnaplaw6_ClockRates_r12_w, C.catnaplaw6_ClockRates_r12_b, ↓C.catnaplaw6_ClockRates_b49_w, ↓C.catnaplaw6_ClockRates_c50_w, ↓C.catnaplaw6_ClockRates_r11_w, C.catnaplaw6_ClockRates_r11_b, ↓C.catnaplaw6_ClockRates_c51_w, ↓C.catnaplaw6_ClockRates_r9_w, C.catnaplaw6_ClockRates_r9_b, ↓C.catnaplaw6_ClockRates_c52_w, ↓C.catnaplaw6_ClockRates_r10_w, C.catnaplaw6_ClockRates_r10_b, ↓C.catnaplaw6_ClockRates_b53_w, ↓C.catnaplaw6_ClockRates_c54_w, ↓C.catnaplaw6_ClockRates_c55_w, ↓C.catnaplaw6_ClockRates_r8_w, C.catnaplaw6_ClockRates_r8_b, ↓C.catnaplaw6_ClockRates_b57_w, ↓C.catnaplaw6_ClockRates_c58_w, ↓C.catnaplaw6_ClockRates_r7_w, C.catnaplaw6_ClockRates_r7_b, ↓C.catnaplaw6_ClockRates_c59_w, ↓C.catnaplaw6_ClockRates_r6_w, C.catnaplaw6_ClockRates_r6_b, ↓C.catnaplaw6_ClockRates_c60_w, ↓C.catnaplaw6_ClockRates_r5_w, C.catnaplaw6_ClockRates_r5_b, ↓C.catnaplaw6_ClockRates_c61_w, ↓C.catnaplaw6_ClockRates_c62_w, ↓C.catnaplaw6_ClockRates_r4_w, C.catnaplaw6_ClockRates_r4_b, ↓C.catnaplaw6_ClockRates_c63_w, ↓C.catnaplaw6_ClockRates_r3_w, C.catnaplaw6_ClockRates_r3_b, ↓C.catnaplaw6_ClockRates_c64_w, ↓C.catnaplaw6_ClockRates_r2_w, C.catnaplaw6_ClockRates_r2_b, ↓C.catnaplaw6_ClockRates_c65_w, ↓C.catnaplaw6_ClockRates_r1_w, C.catnaplaw6_ClockRates_r1_b, ↓C.catnaplaw6_ClockRates_c66_w, ↓C.catnaplaw6_ClockRates_r0_w, C.catnaplaw6_ClockRates_r0_b, C.catnaplaw6_ClockRates, hge, hw2, hzx, Int.toNat_natCast, Nat.mul_one, Nat.add_sub_cancel, hgx]
  refine (rate_spec h.t hN hx2).mono ?_
  rintro r s1 ⟨rfl, rfl⟩
  rw [hsame] at k1
  have hrt := rate_spec h.t hN hk
  have hrun := running_at h.t hN hk
  obtain ⟨u, hu⟩ : ∃ u, u = (if run ns x = true then rateN ns x else 0) := ⟨_, rfl⟩
  have hu0 : 0 ≤ u ∧ u ≤ 1099511627776 := by
    rw [hu]; split
    · exact rateN_le hN x hx2
    · omega
  have hsp := Nd.speed_le (hN k hk) hu0
  have hwant : (if run ns k = true then rateN ns k else 0) = if run ns k = true then ns[k].speed u else 0 := by
    by_cases hr : run ns k = true
    · rw [if_pos hr, if_pos hr, rateN_eq hN hk, if_neg (by rw [hsame]; exact k1), e1, Int.toNat_natCast]
      rw [run_eq hN hk, if_neg (by rw [hsame]; exact k1), e1, Int.toNat_natCast, Bool.and_eq_true] at hr
      rw [hu, if_pos hr.2]
    · rw [if_neg hr, if_neg hr]
  rw [hwant] at hrt
  rw [← hu]
  -- what is behind the choice
  have hend : ∀ w : Int, w = ns[k].speed u → awp Try.prog C.catnaplaw6_ClockRates_c8 Q [(1, va), (6, .ptr ib 0), (7, .ptr p 0), (9, .sl 1 ix 0 S.clocks.length), (11, .int .i64 t), (12, .int .i64 k), (15, .int .u64 w)] s1 := by
    rintro w rfl
    simp only [↓Bp, Bq, Bs, ↓aop.eq_28, ↓aop.eq_30, Nat.reduceEqDiff, Nat.reduceAdd, Nat.reduceMul, Nat.reduceSub, Nat.reduceLeDiff, Nat.reduceLT, Int.reduceLT, Int.reduceLE, Int.reduceEq, Int.reduceToNat, Int.reduceAdd, Int.reduceSub, Int.reduceNeg, ↓reduceIte, reduceCtorEq, ↓C.catnaplaw6_ClockRates_W, C.catnaplaw6_ClockRates_B, C.catnaplaw6_ClockRates]
    refine hrun.mono ?_
    rintro r s2 ⟨rfl, rfl⟩
    cases hr : run ns k
    · rw [hr, if_neg (by decide)] at hrt
      simp only [↓Bp, Bq, Bs, ↓aop.eq_28, ↓aop.eq_30, Nat.reduceEqDiff, Nat.reduceAdd, Nat.reduceMul, Nat.reduceSub, Nat.reduceLeDiff, Nat.reduceLT, Int.reduceLT, Int.reduceLE, Int.reduceEq, Int.reduceToNat, Int.reduceAdd, Int.reduceSub, Int.reduceNeg, ↓reduceIte, reduceCtorEq, ↓C.catnaplaw6_ClockRates_W, C.catnaplaw6_ClockRates_B, C.catnaplaw6_ClockRates]
      refine hrt.mono ?_
      rintro r s2 ⟨rfl, rfl⟩
      simp only [↓Bp, Bq, Bs, ↓aop.eq_28, ↓aop.eq_30, Nat.reduceEqDiff, Nat.reduceAdd, Nat.reduceMul, Nat.reduceSub, Nat.reduceLeDiff, Nat.reduceLT, Int.reduceLT, Int.reduceLE, Int.reduceEq, Int.reduceToNat, Int.reduceAdd, Int.reduceSub, Int.reduceNeg, ↓reduceIte, reduceCtorEq, ↓C.catnaplaw6_ClockRates_W, C.catnaplaw6_ClockRates_B, C.catnaplaw6_ClockRates]
      exact (hQ _ (by rfl)).1
    · rw [hr, if_pos rfl] at hrt
      simp only [↓Bp, Bq, Bs, ↓aop.eq_28, ↓aop.eq_30, Nat.reduceEqDiff, Nat.reduceAdd, Nat.reduceMul, Nat.reduceSub, Nat.reduceLeDiff, Nat.reduceLT, Int.reduceLT, Int.reduceLE, Int.reduceEq, Int.reduceToNat, Int.reduceAdd, Int.reduceSub, Int.reduceNeg, ↓reduceIte, reduceCtorEq, ↓C.catnaplaw6_ClockRates_W, C.catnaplaw6_ClockRates_B, C.catnaplaw6_ClockRates]
      refine hrt.mono ?_
      rintro r s2 ⟨rfl, rfl⟩
      simp only [↓Bp, Bq, Bs, ↓aop.eq_28, ↓aop.eq_30, Nat.reduceEqDiff, Nat.reduceAdd, Nat.reduceMul, Nat.reduceSub, Nat.reduceLeDiff, Nat.reduceLT, Int.reduceLT, Int.reduceLE, Int.reduceEq, Int.reduceToNat, Int.reduceAdd, Int.reduceSub, Int.reduceNeg, ↓reduceIte, reduceCtorEq, ↓C.catnaplaw6_ClockRates_W, C.catnaplaw6_ClockRates_B, C.catnaplaw6_ClockRates]
      exact (hQ _ (by rfl)).1
  have hsv : ns[k].speed u = if S.clocks[k].kind = 112 then (if scE u S.clocks[k].mul S.clocks[k].div = 0 then scV u S.clocks[k].mul S.clocks[k].div else 1099511627776) else if S.clocks[k].kind = 100 then u / ns[k].by_ else u := by unfold Nd.speed; rw [hsame]
  by_cases k2 : S.clocks[k].kind = 100
  · have hkD : k < D.length := by rw [hD.len]; exact hkC
    have hd := hD.at_ k hk hkD (by rw [hsame]; exact k2)
    have hby := (hN k hk).by_ (by rw [hsame]; exact k2)
    have hgd : (ints D)[k]? = some (.int .i64 ns[k].by_) := by simp [ints, hkD, hd]
    have wd : IntKind.u64.wrap ns[k].by_ = ns[k].by_ := wrapU (by omega) (by omega)
    have hd0 := eq_false (show ¬ ns[k].by_ = 0 by omega)
    have hq : u.tdiv ns[k].by_ = u / ns[k].by_ := Int.tdiv_eq_ediv_of_nonneg hu0.1
    rw [if_neg (by rw [k2]; decide), if_pos k2] at hsv
    have wq : IntKind.u64.wrap (u / ns[k].by_) = u / ns[k].by_ := by rw [← hsv]; exact wrapU hsp.1 (by omega)
    have hg0 := hg.1
    rw [k2] at hg0
    simp only [↓Bp, Bq, Bs, ↓aop.eq_28, ↓aop.eq_30, Nat.reduceEqDiff, Nat.reduceAdd, Nat.reduceMul, Nat.reduceSub, Nat.reduceLeDiff, Nat.reduceLT, Int.reduceLT, Int.reduceLE, Int.reduceEq, Int.reduceToNat, Int.reduceAdd, Int.reduceSub, Int.reduceNeg, ↓reduceIte, reduceCtorEq, ↓C.catnaplaw6_ClockRates_r43_w, C.catnaplaw6_ClockRates_r43_b, ↓C.catnaplaw6_ClockRates_c1_w, ↓C.catnaplaw6_ClockRates_r13_w, C.catnaplaw6_ClockRates_r13_b, ↓C.catnaplaw6_ClockRates_c2_w, ↓C.catnaplaw6_ClockRates_r33_w, C.catnaplaw6_ClockRates_r33_b, ↓C.catnaplaw6_ClockRates_r38_w, C.catnaplaw6_ClockRates_r38_b, ↓C.catnaplaw6_ClockRates_c9_w, ↓C.catnaplaw6_ClockRates_c10_w, ↓C.catnaplaw6_ClockRates_r37_w, C.catnaplaw6_ClockRates_r37_b, ↓C.catnaplaw6_ClockRates_c11_w, ↓C.catnaplaw6_ClockRates_r36_w, C.catnaplaw6_ClockRates_r36_b, ↓C.catnaplaw6_ClockRates_c12_w, ↓C.catnaplaw6_ClockRates_r35_w, C.catnaplaw6_ClockRates_r35_b, ↓C.catnaplaw6_ClockRates_c13_w, ↓C.catnaplaw6_ClockRates_c14_w, ↓C.catnaplaw6_ClockRates_r34_w, C.catnaplaw6_ClockRates_r34_b, ↓C.catnaplaw6_ClockRates_c15_w, ↓C.catnaplaw6_ClockRates_c16_w, ↓C.catnaplaw6_ClockRates_c17_w, ↓C.catnaplaw6_ClockRates_r32_w, C.catnaplaw6_ClockRates_r32_b, ↓C.catnaplaw6_ClockRates_b18_w, ↓C.catnaplaw6_ClockRates_c19_w, ↓C.catnaplaw6_ClockRates_r31_w, C.catnaplaw6_ClockRates_r31_b, ↓C.catnaplaw6_ClockRates_c20_w, ↓C.catnaplaw6_ClockRates_r30_w, C.catnaplaw6_ClockRates_r30_b, ↓C.catnaplaw6_ClockRates_c21_w, ↓C.catnaplaw6_ClockRates_r29_w, C.catnaplaw6_ClockRates_r29_b, ↓C.catnaplaw6_ClockRates_c22_w, ↓C.catnaplaw6_ClockRates_r28_w, C.catnaplaw6_ClockRates_r28_b, ↓C.catnaplaw6_ClockRates_c23_w, ↓C.catnaplaw6_ClockRates_c24_w, ↓C.catnaplaw6_ClockRates_r27_w, C.catnaplaw6_ClockRates_r27_b, ↓C.catnaplaw6_ClockRates_c25_w, ↓C.catnaplaw6_ClockRates_c26_w, ↓C.catnaplaw6_ClockRates_r26_w, C.catnaplaw6_ClockRates_r26_b, ↓C.catnaplaw6_ClockRates_c27_w, ↓C.catnaplaw6_ClockRates_r25_w, C.catnaplaw6_ClockRates_r25_b, ↓C.catnaplaw6_ClockRates_c28_w, ↓C.catnaplaw6_ClockRates_r19_w, C.catnaplaw6_ClockRates_r19_b, ↓C.catnaplaw6_ClockRates_r22_w, C.catnaplaw6_ClockRates_r22_b, ↓C.catnaplaw6_ClockRates_c29_w, ↓C.catnaplaw6_ClockRates_c30_w, ↓C.catnaplaw6_ClockRates_r21_w, C.catnaplaw6_ClockRates_r21_b, ↓C.catnaplaw6_ClockRates_r24_w, C.catnaplaw6_ClockRates_r24_b, ↓C.catnaplaw6_ClockRates_r16_w, C.catnaplaw6_ClockRates_r16_b, ↓C.catnaplaw6_ClockRates_c31_w, ↓C.catnaplaw6_ClockRates_c32_w, ↓C.catnaplaw6_ClockRates_c33_w, ↓C.catnaplaw6_ClockRates_r23_w, C.catnaplaw6_ClockRates_r23_b, ↓C.catnaplaw6_ClockRates_c34_w, ↓C.catnaplaw6_ClockRates_c35_w, ↓C.catnaplaw6_ClockRates_c36_w, ↓C.catnaplaw6_ClockRates_r20_w, C.catnaplaw6_ClockRates_r20_b, ↓C.catnaplaw6_ClockRates_c37_w, ↓C.catnaplaw6_ClockRates_c38_w, ↓C.catnaplaw6_ClockRates_c39_w, ↓C.catnaplaw6_ClockRates_r18_w, C.catnaplaw6_ClockRates_r18_b, ↓C.catnaplaw6_ClockRates_c40_w, ↓C.catnaplaw6_ClockRates_c41_w, ↓C.catnaplaw6_ClockRates_r17_w, C.catnaplaw6_ClockRates_r17_b, ↓C.catnaplaw6_ClockRates_b42_w, ↓C.catnaplaw6_ClockRates_c43_w, ↓C.catnaplaw6_ClockRates_r15_w, C.catnaplaw6_ClockRates_r15_b, ↓C.catnaplaw6_ClockRates_c44_w, ↓C.catnaplaw6_ClockRates_r14_w, C.catnaplaw6_ClockRates_r14_b, ↓C.catnaplaw6_ClockRates_b45_w, ↓C.catnaplaw6_ClockRates_c46_w, ↓C.catnaplaw6_ClockRates_c47_w, ↓C.catnaplaw6_ClockRates_r12_w, C.catnaplaw6_ClockRates_r12_b, ↓C.catnaplaw6_ClockRates_b49_w, ↓C.catnaplaw6_ClockRates_c50_w, ↓C.catnaplaw6_ClockRates_r11_w, C.catnaplaw6_ClockRates_r11_b, ↓C.catnaplaw6_ClockRates_c51_w, ↓C.catnaplaw6_ClockRates_r9_w, C.catnaplaw6_ClockRates_r9_b, ↓C.catnaplaw6_ClockRates_c52_w, ↓C.catnaplaw6_ClockRates_r10_w, C.catnaplaw6_ClockRates_r10_b, ↓C.catnaplaw6_ClockRates_b53_w, ↓C.catnaplaw6_ClockRates_c54_w, ↓C.catnaplaw6_ClockRates_c55_w, ↓C.catnaplaw6_ClockRates_r8_w, C.catnaplaw6_ClockRates_r8_b, ↓C.catnaplaw6_ClockRates_b57_w, ↓C.catnaplaw6_ClockRates_c58_w, ↓C.catnaplaw6_ClockRates_r7_w, C.catnaplaw6_ClockRates_r7_b, ↓C.catnaplaw6_ClockRates_c59_w, ↓C.catnaplaw6_ClockRates_r6_w, C.catnaplaw6_ClockRates_r6_b, ↓C.catnaplaw6_ClockRates_c60_w, ↓C.catnaplaw6_ClockRates_r5_w, C.catnaplaw6_ClockRates_r5_b, ↓C.catnaplaw6_ClockRates_c61_w, ↓C.catnaplaw6_ClockRates_c62_w, ↓C.catnaplaw6_ClockRates_r4_w, C.catnaplaw6_ClockRates_r4_b, ↓C.catnaplaw6_ClockRates_c63_w, ↓C.catnaplaw6_ClockRates_r3_w, C.catnaplaw6_ClockRates_r3_b, ↓C.catnaplaw6_ClockRates_c64_w, ↓C.catnaplaw6_ClockRates_r2_w, C.catnaplaw6_ClockRates_r2_b, ↓C.catnaplaw6_ClockRates_c65_w, ↓C.catnaplaw6_ClockRates_r1_w, C.catnaplaw6_ClockRates_r1_b, ↓C.catnaplaw6_ClockRates_c66_w, ↓C.catnaplaw6_ClockRates_r0_w, C.catnaplaw6_ClockRates_r0_b, C.catnaplaw6_ClockRates, hb, Soc.cells, Soc.clkV, hzk, hg0, hx, hgd, wd, hd0, hq, wq, Int.toNat_natCast, Nat.mul_one]
    rw [C.catnaplaw6_ClockRates_c8_w, awp_keep]
    exact hend _ hsv.symm
  by_cases k3 : S.clocks[k].kind = 112
  · have hf := (hN k hk).fac (by rw [hsame]; exact k3)
    rw [hsame] at hf
    rw [if_pos k3] at hsv
    have hg0 := hg.1
    rw [k3] at hg0
    simp only [↓Bp, Bq, Bs, ↓aop.eq_28, ↓aop.eq_30, Nat.reduceEqDiff, Nat.reduceAdd, Nat.reduceMul, Nat.reduceSub, Nat.reduceLeDiff, Nat.reduceLT, Int.reduceLT, Int.reduceLE, Int.reduceEq, Int.reduceToNat, Int.reduceAdd, Int.reduceSub, Int.reduceNeg, ↓reduceIte, reduceCtorEq, ↓C.catnaplaw6_ClockRates_r43_w, C.catnaplaw6_ClockRates_r43_b, ↓C.catnaplaw6_ClockRates_c1_w, ↓C.catnaplaw6_ClockRates_r13_w, C.catnaplaw6_ClockRates_r13_b, ↓C.catnaplaw6_ClockRates_c2_w, ↓C.catnaplaw6_ClockRates_r33_w, C.catnaplaw6_ClockRates_r33_b, ↓C.catnaplaw6_ClockRates_r38_w, C.catnaplaw6_ClockRates_r38_b, ↓C.catnaplaw6_ClockRates_c9_w, ↓C.catnaplaw6_ClockRates_c10_w, ↓C.catnaplaw6_ClockRates_r37_w, C.catnaplaw6_ClockRates_r37_b, ↓C.catnaplaw6_ClockRates_c11_w, ↓C.catnaplaw6_ClockRates_r36_w, C.catnaplaw6_ClockRates_r36_b, ↓C.catnaplaw6_ClockRates_c12_w, ↓C.catnaplaw6_ClockRates_r35_w, C.catnaplaw6_ClockRates_r35_b, ↓C.catnaplaw6_ClockRates_c13_w, ↓C.catnaplaw6_ClockRates_c14_w, ↓C.catnaplaw6_ClockRates_r34_w, C.catnaplaw6_ClockRates_r34_b, ↓C.catnaplaw6_ClockRates_c15_w, ↓C.catnaplaw6_ClockRates_c16_w, ↓C.catnaplaw6_ClockRates_c17_w, ↓C.catnaplaw6_ClockRates_r32_w, C.catnaplaw6_ClockRates_r32_b, ↓C.catnaplaw6_ClockRates_b18_w, ↓C.catnaplaw6_ClockRates_c19_w, ↓C.catnaplaw6_ClockRates_r31_w, C.catnaplaw6_ClockRates_r31_b, ↓C.catnaplaw6_ClockRates_c20_w, ↓C.catnaplaw6_ClockRates_r30_w, C.catnaplaw6_ClockRates_r30_b, ↓C.catnaplaw6_ClockRates_c21_w, ↓C.catnaplaw6_ClockRates_r29_w, C.catnaplaw6_ClockRates_r29_b, ↓C.catnaplaw6_ClockRates_c22_w, ↓C.catnaplaw6_ClockRates_r28_w, C.catnaplaw6_ClockRates_r28_b, ↓C.catnaplaw6_ClockRates_c23_w, ↓C.catnaplaw6_ClockRates_c24_w, ↓C.catnaplaw6_ClockRates_r27_w, C.catnaplaw6_ClockRates_r27_b, ↓C.catnaplaw6_ClockRates_c25_w, ↓C.catnaplaw6_ClockRates_c26_w, ↓C.catnaplaw6_ClockRates_r26_w, C.catnaplaw6_ClockRates_r26_b, ↓C.catnaplaw6_ClockRates_c27_w, ↓C.catnaplaw6_ClockRates_r25_w, C.catnaplaw6_ClockRates_r25_b, ↓C.catnaplaw6_ClockRates_c28_w, ↓C.catnaplaw6_ClockRates_r19_w, C.catnaplaw6_ClockRates_r19_b, ↓C.catnaplaw6_ClockRates_r22_w, C.catnaplaw6_ClockRates_r22_b, ↓C.catnaplaw6_ClockRates_c29_w, ↓C.catnaplaw6_ClockRates_c30_w, ↓C.catnaplaw6_ClockRates_r21_w, C.catnaplaw6_ClockRates_r21_b, ↓C.catnaplaw6_ClockRates_r24_w, C.catnaplaw6_ClockRates_r24_b, ↓C.catnaplaw6_ClockRates_r16_w, C.catnaplaw6_ClockRates_r16_b, ↓C.catnaplaw6_ClockRates_c31_w, ↓C.catnaplaw6_ClockRates_c32_w, ↓C.catnaplaw6_ClockRates_c33_w, ↓C.catnaplaw6_ClockRates_r23_w, C.catnaplaw6_ClockRates_r23_b, ↓C.catnaplaw6_ClockRates_c34_w, ↓C.catnaplaw6_ClockRates_c35_w, ↓C.catnaplaw6_ClockRates_c36_w, ↓C.catnaplaw6_ClockRates_r20_w, C.catnaplaw6_ClockRates_r20_b, ↓C.catnaplaw6_ClockRates_c37_w, ↓C.catnaplaw6_ClockRates_c38_w, ↓C.catnaplaw6_ClockRates_c39_w, ↓C.catnaplaw6_ClockRates_r18_w, C.catnaplaw6_ClockRates_r18_b, ↓C.catnaplaw6_ClockRates_c40_w, ↓C.catnaplaw6_ClockRates_c41_w, ↓C.catnaplaw6_ClockRates_r17_w, C.catnaplaw6_ClockRates_r17_b, ↓C.catnaplaw6_ClockRates_b42_w, ↓C.catnaplaw6_ClockRates_c43_w, ↓C.catnaplaw6_ClockRates_r15_w, C.catnaplaw6_ClockRates_r15_b, ↓C.catnaplaw6_ClockRates_c44_w, ↓C.catnaplaw6_ClockRates_r14_w, C.catnaplaw6_ClockRates_r14_b, ↓C.catnaplaw6_ClockRates_b45_w, ↓C.catnaplaw6_ClockRates_c46_w, ↓C.catnaplaw6_ClockRates_c47_w, ↓C.catnaplaw6_ClockRates_r12_w, C.catnaplaw6_ClockRates_r12_b, ↓C.catnaplaw6_ClockRates_b49_w, ↓C.catnaplaw6_ClockRates_c50_w, ↓C.catnaplaw6_ClockRates_r11_w, C.catnaplaw6_ClockRates_r11_b, ↓C.catnaplaw6_ClockRates_c51_w, ↓C.catnaplaw6_ClockRates_r9_w, C.catnaplaw6_ClockRates_r9_b, ↓C.catnaplaw6_ClockRates_c52_w, ↓C.catnaplaw6_ClockRates_r10_w, C.catnaplaw6_ClockRates_r10_b, ↓C.catnaplaw6_ClockRates_b53_w, ↓C.catnaplaw6_ClockRates_c54_w, ↓C.catnaplaw6_ClockRates_c55_w, ↓C.catnaplaw6_ClockRates_r8_w, C.catnaplaw6_ClockRates_r8_b, ↓C.catnaplaw6_ClockRates_b57_w, ↓C.catnaplaw6_ClockRates_c58_w, ↓C.catnaplaw6_ClockRates_r7_w, C.catnaplaw6_ClockRates_r7_b, ↓C.catnaplaw6_ClockRates_c59_w, ↓C.catnaplaw6_ClockRates_r6_w, C.catnaplaw6_ClockRates_r6_b, ↓C.catnaplaw6_ClockRates_c60_w, ↓C.catnaplaw6_ClockRates_r5_w, C.catnaplaw6_ClockRates_r5_b, ↓C.catnaplaw6_ClockRates_c61_w, ↓C.catnaplaw6_ClockRates_c62_w, ↓C.catnaplaw6_ClockRates_r4_w, C.catnaplaw6_ClockRates_r4_b, ↓C.catnaplaw6_ClockRates_c63_w, ↓C.catnaplaw6_ClockRates_r3_w, C.catnaplaw6_ClockRates_r3_b, ↓C.catnaplaw6_ClockRates_c64_w, ↓C.catnaplaw6_ClockRates_r2_w, C.catnaplaw6_ClockRates_r2_b, ↓C.catnaplaw6_ClockRates_c65_w, ↓C.catnaplaw6_ClockRates_r1_w, C.catnaplaw6_ClockRates_r1_b, ↓C.catnaplaw6_ClockRates_c66_w, ↓C.catnaplaw6_ClockRates_r0_w, C.catnaplaw6_ClockRates_r0_b, C.catnaplaw6_ClockRates, hb, Soc.cells, Soc.clkV, hzk, hg0, hg.2.2.2.1, hg.2.2.2.2, Int.toNat_natCast, Nat.mul_one]
    refine (scale_spec hu0 hf.1 hf.2).mono ?_
    rintro r s2 ⟨rfl, rfl⟩
    by_cases hE : scE u S.clocks[k].mul S.clocks[k].div = 0
    · rw [if_pos hE] at hsv
      rw [hE]
      simp only [↓Bp, Bq, Bs, ↓aop.eq_28, ↓aop.eq_30, Nat.reduceEqDiff, Nat.reduceAdd, Nat.reduceMul, Nat.reduceSub, Nat.reduceLeDiff, Nat.reduceLT, Int.reduceLT, Int.reduceLE, Int.reduceEq, Int.reduceToNat, Int.reduceAdd, Int.reduceSub, Int.reduceNeg, ↓reduceIte, reduceCtorEq, ↓C.catnaplaw6_ClockRates_r43_w, C.catnaplaw6_ClockRates_r43_b, ↓C.catnaplaw6_ClockRates_c1_w, ↓C.catnaplaw6_ClockRates_r13_w, C.catnaplaw6_ClockRates_r13_b, ↓C.catnaplaw6_ClockRates_c2_w, ↓C.catnaplaw6_ClockRates_r33_w, C.catnaplaw6_ClockRates_r33_b, ↓C.catnaplaw6_ClockRates_r38_w, C.catnaplaw6_ClockRates_r38_b, ↓C.catnaplaw6_ClockRates_c9_w, ↓C.catnaplaw6_ClockRates_c10_w, ↓C.catnaplaw6_ClockRates_r37_w, C.catnaplaw6_ClockRates_r37_b, ↓C.catnaplaw6_ClockRates_c11_w, ↓C.catnaplaw6_ClockRates_r36_w, C.catnaplaw6_ClockRates_r36_b, ↓C.catnaplaw6_ClockRates_c12_w, ↓C.catnaplaw6_ClockRates_r35_w, C.catnaplaw6_ClockRates_r35_b, ↓C.catnaplaw6_ClockRates_c13_w, ↓C.catnaplaw6_ClockRates_c14_w, ↓C.catnaplaw6_ClockRates_r34_w, C.catnaplaw6_ClockRates_r34_b, ↓C.catnaplaw6_ClockRates_c15_w, ↓C.catnaplaw6_ClockRates_c16_w, ↓C.catnaplaw6_ClockRates_c17_w, ↓C.catnaplaw6_ClockRates_r32_w, C.catnaplaw6_ClockRates_r32_b, ↓C.catnaplaw6_ClockRates_b18_w, ↓C.catnaplaw6_ClockRates_c19_w, ↓C.catnaplaw6_ClockRates_r31_w, C.catnaplaw6_ClockRates_r31_b, ↓C.catnaplaw6_ClockRates_c20_w, ↓C.catnaplaw6_ClockRates_r30_w, C.catnaplaw6_ClockRates_r30_b, ↓C.catnaplaw6_ClockRates_c21_w, ↓C.catnaplaw6_ClockRates_r29_w, C.catnaplaw6_ClockRates_r29_b, ↓C.catnaplaw6_ClockRates_c22_w, ↓C.catnaplaw6_ClockRates_r28_w, C.catnaplaw6_ClockRates_r28_b, ↓C.catnaplaw6_ClockRates_c23_w, ↓C.catnaplaw6_ClockRates_c24_w, ↓C.catnaplaw6_ClockRates_r27_w, C.catnaplaw6_ClockRates_r27_b, ↓C.catnaplaw6_ClockRates_c25_w, ↓C.catnaplaw6_ClockRates_c26_w, ↓C.catnaplaw6_ClockRates_r26_w, C.catnaplaw6_ClockRates_r26_b, ↓C.catnaplaw6_ClockRates_c27_w, ↓C.catnaplaw6_ClockRates_r25_w, C.catnaplaw6_ClockRates_r25_b, ↓C.catnaplaw6_ClockRates_c28_w, ↓C.catnaplaw6_ClockRates_r19_w, C.catnaplaw6_ClockRates_r19_b, ↓C.catnaplaw6_ClockRates_r22_w, C.catnaplaw6_ClockRates_r22_b, ↓C.catnaplaw6_ClockRates_c29_w, ↓C.catnaplaw6_ClockRates_c30_w, ↓C.catnaplaw6_ClockRates_r21_w, C.catnaplaw6_ClockRates_r21_b, ↓C.catnaplaw6_ClockRates_r24_w, C.catnaplaw6_ClockRates_r24_b, ↓C.catnaplaw6_ClockRates_r16_w, C.catnaplaw6_ClockRates_r16_b, ↓C.catnaplaw6_ClockRates_c31_w, ↓C.catnaplaw6_ClockRates_c32_w, ↓C.catnaplaw6_ClockRates_c33_w, ↓C.catnaplaw6_ClockRates_r23_w, C.catnaplaw6_ClockRates_r23_b, ↓C.catnaplaw6_ClockRates_c34_w, ↓C.catnaplaw6_ClockRates_c35_w, ↓C.catnaplaw6_ClockRates_c36_w, ↓C.catnaplaw6_ClockRates_r20_w, C.catnaplaw6_ClockRates_r20_b, ↓C.catnaplaw6_ClockRates_c37_w, ↓C.catnaplaw6_ClockRates_c38_w, ↓C.catnaplaw6_ClockRates_c39_w, ↓C.catnaplaw6_ClockRates_r18_w, C.catnaplaw6_ClockRates_r18_b, ↓C.catnaplaw6_ClockRates_c40_w, ↓C.catnaplaw6_ClockRates_c41_w, ↓C.catnaplaw6_ClockRates_r17_w, C.catnaplaw6_ClockRates_r17_b, ↓C.catnaplaw6_ClockRates_b42_w, ↓C.catnaplaw6_ClockRates_c43_w, ↓C.catnaplaw6_ClockRates_r15_w, C.catnaplaw6_ClockRates_r15_b, ↓C.catnaplaw6_ClockRates_c44_w, ↓C.catnaplaw6_ClockRates_r14_w, C.catnaplaw6_ClockRates_r14_b, ↓C.catnaplaw6_ClockRates_b45_w, ↓C.catnaplaw6_ClockRates_c46_w, ↓C.catnaplaw6_ClockRates_c47_w, ↓C.catnaplaw6_ClockRates_r12_w, C.catnaplaw6_ClockRates_r12_b, ↓C.catnaplaw6_ClockRates_b49_w, ↓C.catnaplaw6_ClockRates_c50_w, ↓C.catnaplaw6_ClockRates_r11_w, C.catnaplaw6_ClockRates_r11_b, ↓C.catnaplaw6_ClockRates_c51_w, ↓C.catnaplaw6_ClockRates_r9_w, C.catnaplaw6_ClockRates_r9_b, ↓C.catnaplaw6_ClockRates_c52_w, ↓C.catnaplaw6_ClockRates_r10_w, C.catnaplaw6_ClockRates_r10_b, ↓C.catnaplaw6_ClockRates_b53_w, ↓C.catnaplaw6_ClockRates_c54_w, ↓C.catnaplaw6_ClockRates_c55_w, ↓C.catnaplaw6_ClockRates_r8_w, C.catnaplaw6_ClockRates_r8_b, ↓C.catnaplaw6_ClockRates_b57_w, ↓C.catnaplaw6_ClockRates_c58_w, ↓C.catnaplaw6_ClockRates_r7_w, C.catnaplaw6_ClockRates_r7_b, ↓C.catnaplaw6_ClockRates_c59_w, ↓C.catnaplaw6_ClockRates_r6_w, C.catnaplaw6_ClockRates_r6_b, ↓C.catnaplaw6_ClockRates_c60_w, ↓C.catnaplaw6_ClockRates_r5_w, C.catnaplaw6_ClockRates_r5_b, ↓C.catnaplaw6_ClockRates_c61_w, ↓C.catnaplaw6_ClockRates_c62_w, ↓C.catnaplaw6_ClockRates_r4_w, C.catnaplaw6_ClockRates_r4_b, ↓C.catnaplaw6_ClockRates_c63_w, ↓C.catnaplaw6_ClockRates_r3_w, C.catnaplaw6_ClockRates_r3_b, ↓C.catnaplaw6_ClockRates_c64_w, ↓C.catnaplaw6_ClockRates_r2_w, C.catnaplaw6_ClockRates_r2_b, ↓C.catnaplaw6_ClockRates_c65_w, ↓C.catnaplaw6_ClockRates_r1_w, C.catnaplaw6_ClockRates_r1_b, ↓C.catnaplaw6_ClockRates_c66_w, ↓C.catnaplaw6_ClockRates_r0_w, C.catnaplaw6_ClockRates_r0_b, C.catnaplaw6_ClockRates]
      rw [C.catnaplaw6_ClockRates_c8_w, awp_keep]
      exact hend _ hsv.symm
    · rw [if_neg hE] at hsv
      have T := eq_false hE
      simp only [↓Bp, Bq, Bs, ↓aop.eq_28, ↓aop.eq_30, Nat.reduceEqDiff, Nat.reduceAdd, Nat.reduceMul, Nat.reduceSub, Nat.reduceLeDiff, Nat.reduceLT, Int.reduceLT, Int.reduceLE, Int.reduceEq, Int.reduceToNat, Int.reduceAdd, Int.reduceSub, Int.reduceNeg, ↓reduceIte, reduceCtorEq, ↓C.catnaplaw6_ClockRates_r43_w, C.catnaplaw6_ClockRates_r43_b, ↓C.catnaplaw6_ClockRates_c1_w, ↓C.catnaplaw6_ClockRates_r13_w, C.catnaplaw6_ClockRates_r13_b, ↓C.catnaplaw6_ClockRates_c2_w, ↓C.catnaplaw6_ClockRates_r33_w, C.catnaplaw6_ClockRates_r33_b, ↓C.catnaplaw6_ClockRates_r38_w, C.catnaplaw6_ClockRates_r38_b, ↓C.catnaplaw6_ClockRates_c9_w, ↓C.catnaplaw6_ClockRates_c10_w, ↓C.catnaplaw6_ClockRates_r37_w, C.catnaplaw6_ClockRates_r37_b, ↓C.catnaplaw6_ClockRates_c11_w, ↓C.catnaplaw6_ClockRates_r36_w, C.catnaplaw6_ClockRates_r36_b, ↓C.catnaplaw6_ClockRates_c12_w, ↓C.catnaplaw6_ClockRates_r35_w, C.catnaplaw6_ClockRates_r35_b, ↓C.catnaplaw6_ClockRates_c13_w, ↓C.catnaplaw6_ClockRates_c14_w, ↓C.catnaplaw6_ClockRates_r34_w, C.catnaplaw6_ClockRates_r34_b, ↓C.catnaplaw6_ClockRates_c15_w, ↓C.catnaplaw6_ClockRates_c16_w, ↓C.catnaplaw6_ClockRates_c17_w, ↓C.catnaplaw6_ClockRates_r32_w, C.catnaplaw6_ClockRates_r32_b, ↓C.catnaplaw6_ClockRates_b18_w, ↓C.catnaplaw6_ClockRates_c19_w, ↓C.catnaplaw6_ClockRates_r31_w, C.catnaplaw6_ClockRates_r31_b, ↓C.catnaplaw6_ClockRates_c20_w, ↓C.catnaplaw6_ClockRates_r30_w, C.catnaplaw6_ClockRates_r30_b, ↓C.catnaplaw6_ClockRates_c21_w, ↓C.catnaplaw6_ClockRates_r29_w, C.catnaplaw6_ClockRates_r29_b, ↓C.catnaplaw6_ClockRates_c22_w, ↓C.catnaplaw6_ClockRates_r28_w, C.catnaplaw6_ClockRates_r28_b, ↓C.catnaplaw6_ClockRates_c23_w, ↓C.catnaplaw6_ClockRates_c24_w, ↓C.catnaplaw6_ClockRates_r27_w, C.catnaplaw6_ClockRates_r27_b, ↓C.catnaplaw6_ClockRates_c25_w, ↓C.catnaplaw6_ClockRates_c26_w, ↓C.catnaplaw6_ClockRates_r26_w, C.catnaplaw6_ClockRates_r26_b, ↓C.catnaplaw6_ClockRates_c27_w, ↓C.catnaplaw6_ClockRates_r25_w, C.catnaplaw6_ClockRates_r25_b, ↓C.catnaplaw6_ClockRates_c28_w, ↓C.catnaplaw6_ClockRates_r19_w, C.catnaplaw6_ClockRates_r19_b, ↓C.catnaplaw6_ClockRates_r22_w, C.catnaplaw6_ClockRates_r22_b, ↓C.catnaplaw6_ClockRates_c29_w, ↓C.catnaplaw6_ClockRates_c30_w, ↓C.catnaplaw6_ClockRates_r21_w, C.catnaplaw6_ClockRates_r21_b, ↓C.catnaplaw6_ClockRates_r24_w, C.catnaplaw6_ClockRates_r24_b, ↓C.catnaplaw6_ClockRates_r16_w, C.catnaplaw6_ClockRates_r16_b, ↓C.catnaplaw6_ClockRates_c31_w, ↓C.catnaplaw6_ClockRates_c32_w, ↓C.catnaplaw6_ClockRates_c33_w, ↓C.catnaplaw6_ClockRates_r23_w, C.catnaplaw6_ClockRates_r23_b, ↓C.catnaplaw6_ClockRates_c34_w, ↓C.catnaplaw6_ClockRates_c35_w, ↓C.catnaplaw6_ClockRates_c36_w, ↓C.catnaplaw6_ClockRates_r20_w, C.catnaplaw6_ClockRates_r20_b, ↓C.catnaplaw6_ClockRates_c37_w, ↓C.catnaplaw6_ClockRates_c38_w, ↓C.catnaplaw6_ClockRates_c39_w, ↓C.catnaplaw6_ClockRates_r18_w, C.catnaplaw6_ClockRates_r18_b, ↓C.catnaplaw6_ClockRates_c40_w, ↓C.catnaplaw6_ClockRates_c41_w, ↓C.catnaplaw6_ClockRates_r17_w, C.catnaplaw6_ClockRates_r17_b, ↓C.catnaplaw6_ClockRates_b42_w, ↓C.catnaplaw6_ClockRates_c43_w, ↓C.catnaplaw6_ClockRates_r15_w, C.catnaplaw6_ClockRates_r15_b, ↓C.catnaplaw6_ClockRates_c44_w, ↓C.catnaplaw6_ClockRates_r14_w, C.catnaplaw6_ClockRates_r14_b, ↓C.catnaplaw6_ClockRates_b45_w, ↓C.catnaplaw6_ClockRates_c46_w, ↓C.catnaplaw6_ClockRates_c47_w, ↓C.catnaplaw6_ClockRates_r12_w, C.catnaplaw6_ClockRates_r12_b, ↓C.catnaplaw6_ClockRates_b49_w, ↓C.catnaplaw6_ClockRates_c50_w, ↓C.catnaplaw6_ClockRates_r11_w, C.catnaplaw6_ClockRates_r11_b, ↓C.catnaplaw6_ClockRates_c51_w, ↓C.catnaplaw6_ClockRates_r9_w, C.catnaplaw6_ClockRates_r9_b, ↓C.catnaplaw6_ClockRates_c52_w, ↓C.catnaplaw6_ClockRates_r10_w, C.catnaplaw6_ClockRates_r10_b, ↓C.catnaplaw6_ClockRates_b53_w, ↓C.catnaplaw6_ClockRates_c54_w, ↓C.catnaplaw6_ClockRates_c55_w, ↓C.catnaplaw6_ClockRates_r8_w, C.catnaplaw6_ClockRates_r8_b, ↓C.catnaplaw6_ClockRates_b57_w, ↓C.catnaplaw6_ClockRates_c58_w, ↓C.catnaplaw6_ClockRates_r7_w, C.catnaplaw6_ClockRates_r7_b, ↓C.catnaplaw6_ClockRates_c59_w, ↓C.catnaplaw6_ClockRates_r6_w, C.catnaplaw6_ClockRates_r6_b, ↓C.catnaplaw6_ClockRates_c60_w, ↓C.catnaplaw6_ClockRates_r5_w, C.catnaplaw6_ClockRates_r5_b, ↓C.catnaplaw6_ClockRates_c61_w, ↓C.catnaplaw6_ClockRates_c62_w, ↓C.catnaplaw6_ClockRates_r4_w, C.catnaplaw6_ClockRates_r4_b, ↓C.catnaplaw6_ClockRates_c63_w, ↓C.catnaplaw6_ClockRates_r3_w, C.catnaplaw6_ClockRates_r3_b, ↓C.catnaplaw6_ClockRates_c64_w, ↓C.catnaplaw6_ClockRates_r2_w, C.catnaplaw6_ClockRates_r2_b, ↓C.catnaplaw6_ClockRates_c65_w, ↓C.catnaplaw6_ClockRates_r1_w, C.catnaplaw6_ClockRates_r1_b, ↓C.catnaplaw6_ClockRates_c66_w, ↓C.catnaplaw6_ClockRates_r0_w, C.catnaplaw6_ClockRates_r0_b, C.catnaplaw6_ClockRates, T]
      rw [C.catnaplaw6_ClockRates_c8_w, awp_keep]
      exact hend _ hsv.symm
  · rw [if_neg k3, if_neg k2] at hsv
    have T1 := eq_false k2
    have T2 := eq_false k3
    simp only [↓Bp, Bq, Bs, ↓aop.eq_28, ↓aop.eq_30, Nat.reduceEqDiff, Nat.reduceAdd, Nat.reduceMul, Nat.reduceSub, Nat.reduceLeDiff, Nat.reduceLT, Int.reduceLT, Int.reduceLE, Int.reduceEq, Int.reduceToNat, Int.reduceAdd, Int.reduceSub, Int.reduceNeg, ↓reduceIte, reduceCtorEq, ↓C.catnaplaw6_ClockRates_r43_w, C.catnaplaw6_ClockRates_r43_b, ↓C.catnaplaw6_ClockRates_c1_w, ↓C.catnaplaw6_ClockRates_r13_w, C.catnaplaw6_ClockRates_r13_b, ↓C.catnaplaw6_ClockRates_c2_w, ↓C.catnaplaw6_ClockRates_r33_w, C.catnaplaw6_ClockRates_r33_b, ↓C.catnaplaw6_ClockRates_r38_w, C.catnaplaw6_ClockRates_r38_b, ↓C.catnaplaw6_ClockRates_c9_w, ↓C.catnaplaw6_ClockRates_c10_w, ↓C.catnaplaw6_ClockRates_r37_w, C.catnaplaw6_ClockRates_r37_b, ↓C.catnaplaw6_ClockRates_c11_w, ↓C.catnaplaw6_ClockRates_r36_w, C.catnaplaw6_ClockRates_r36_b, ↓C.catnaplaw6_ClockRates_c12_w, ↓C.catnaplaw6_ClockRates_r35_w, C.catnaplaw6_ClockRates_r35_b, ↓C.catnaplaw6_ClockRates_c13_w, ↓C.catnaplaw6_ClockRates_c14_w, ↓C.catnaplaw6_ClockRates_r34_w, C.catnaplaw6_ClockRates_r34_b, ↓C.catnaplaw6_ClockRates_c15_w, ↓C.catnaplaw6_ClockRates_c16_w, ↓C.catnaplaw6_ClockRates_c17_w, ↓C.catnaplaw6_ClockRates_r32_w, C.catnaplaw6_ClockRates_r32_b, ↓C.catnaplaw6_ClockRates_b18_w, ↓C.catnaplaw6_ClockRates_c19_w, ↓C.catnaplaw6_ClockRates_r31_w, C.catnaplaw6_ClockRates_r31_b, ↓C.catnaplaw6_ClockRates_c20_w, ↓C.catnaplaw6_ClockRates_r30_w, C.catnaplaw6_ClockRates_r30_b, ↓C.catnaplaw6_ClockRates_c21_w, ↓C.catnaplaw6_ClockRates_r29_w, C.catnaplaw6_ClockRates_r29_b, ↓C.catnaplaw6_ClockRates_c22_w, ↓C.catnaplaw6_ClockRates_r28_w, C.catnaplaw6_ClockRates_r28_b, ↓C.catnaplaw6_ClockRates_c23_w, ↓C.catnaplaw6_ClockRates_c24_w, ↓C.catnaplaw6_ClockRates_r27_w, C.catnaplaw6_ClockRates_r27_b, ↓C.catnaplaw6_ClockRates_c25_w, ↓C.catnaplaw6_ClockRates_c26_w, ↓C.catnaplaw6_ClockRates_r26_w, C.catnaplaw6_ClockRates_r26_b, ↓C.catnaplaw6_ClockRates_c27_w, ↓C.catnaplaw6_ClockRates_r25_w, C.catnaplaw6_ClockRates_r25_b, ↓C.catnaplaw6_ClockRates_c28_w, ↓C.catnaplaw6_ClockRates_r19_w, C.catnaplaw6_ClockRates_r19_b, ↓C.catnaplaw6_ClockRates_r22_w, C.catnaplaw6_ClockRates_r22_b, ↓C.catnaplaw6_ClockRates_c29_w, ↓C.catnaplaw6_ClockRates_c30_w, ↓C.catnaplaw6_ClockRates_r21_w, C.catnaplaw6_ClockRates_r21_b, ↓C.catnaplaw6_ClockRates_r24_w, C.catnaplaw6_ClockRates_r24_b, ↓C.catnaplaw6_ClockRates_r16_w, C.catnaplaw6_ClockRates_r16_b, ↓C.catnaplaw6_ClockRates_c31_w, ↓C.catnaplaw6_ClockRates_c32_w, ↓C.catnaplaw6_ClockRates_c33_w, ↓C.catnaplaw6_ClockRates_r23_w, C.catnaplaw6_ClockRates_r23_b, ↓C.catnaplaw6_ClockRates_c34_w, ↓C.catnaplaw6_ClockRates_c35_w, ↓C.catnaplaw6_ClockRates_c36_w, ↓C.catnaplaw6_ClockRates_r20_w, C.catnaplaw6_ClockRates_r20_b, ↓C.catnaplaw6_ClockRates_c37_w, ↓C.catnaplaw6_ClockRates_c38_w, ↓C.catnaplaw6_ClockRates_c39_w, ↓C.catnaplaw6_ClockRates_r18_w, C.catnaplaw6_ClockRates_r18_b, ↓C.catnaplaw6_ClockRates_c40_w, ↓C.catnaplaw6_ClockRates_c41_w, ↓C.catnaplaw6_ClockRates_r17_w, C.catnaplaw6_ClockRates_r17_b, ↓C.catnaplaw6_ClockRates_b42_w, ↓C.catnaplaw6_ClockRates_c43_w, ↓C.catnaplaw6_ClockRates_r15_w, C.catnaplaw6_ClockRates_r15_b, ↓C.catnaplaw6_ClockRates_c44_w, ↓C.catnaplaw6_ClockRates_r14_w, C.catnaplaw6_ClockRates_r14_b, ↓C.catnaplaw6_ClockRates_b45_w, ↓C.catnaplaw6_ClockRates_c46_w, ↓C.catnaplaw6_ClockRates_c47_w, ↓C.catnaplaw6_ClockRates_r12_w, C.catnaplaw6_ClockRates_r12_b, ↓C.catnaplaw6_ClockRates_b49_w, ↓C.catnaplaw6_ClockRates_c50_w, ↓C.catnaplaw6_ClockRates_r11_w, C.catnaplaw6_ClockRates_r11_b, ↓C.catnaplaw6_ClockRates_c51_w, ↓C.catnaplaw6_ClockRates_r9_w, C.catnaplaw6_ClockRates_r9_b, ↓C.catnaplaw6_ClockRates_c52_w, ↓C.catnaplaw6_ClockRates_r10_w, C.catnaplaw6_ClockRates_r10_b, ↓C.catnaplaw6_ClockRates_b53_w, ↓C.catnaplaw6_ClockRates_c54_w, ↓C.catnaplaw6_ClockRates_c55_w, ↓C.catnaplaw6_ClockRates_r8_w, C.catnaplaw6_ClockRates_r8_b, ↓C.catnaplaw6_ClockRates_b57_w, ↓C.catnaplaw6_ClockRates_c58_w, ↓C.catnaplaw6_ClockRates_r7_w, C.catnaplaw6_ClockRates_r7_b, ↓C.catnaplaw6_ClockRates_c59_w, ↓C.catnaplaw6_ClockRates_r6_w, C.catnaplaw6_ClockRates_r6_b, ↓C.catnaplaw6_ClockRates_c60_w, ↓C.catnaplaw6_ClockRates_r5_w, C.catnaplaw6_ClockRates_r5_b, ↓C.catnaplaw6_ClockRates_c61_w, ↓C.catnaplaw6_ClockRates_c62_w, ↓C.catnaplaw6_ClockRates_r4_w, C.catnaplaw6_ClockRates_r4_b, ↓C.catnaplaw6_ClockRates_c63_w, ↓C.catnaplaw6_ClockRates_r3_w, C.catnaplaw6_ClockRates_r3_b, ↓C.catnaplaw6_ClockRates_c64_w, ↓C.catnaplaw6_ClockRates_r2_w, C.catnaplaw6_ClockRates_r2_b, ↓C.catnaplaw6_ClockRates_c65_w, ↓C.catnaplaw6_ClockRates_r1_w, C.catnaplaw6_ClockRates_r1_b, ↓C.catnaplaw6_ClockRates_c66_w, ↓C.catnaplaw6_ClockRates_r0_w, C.catnaplaw6_ClockRates_r0_b, C.catnaplaw6_ClockRates, hb, Soc.cells, Soc.clkV, hzk, hg.1, T1, T2, Int.toNat_natCast, Nat.mul_one]
    rw [C.catnaplaw6_ClockRates_c8_w, awp_keep]
    exact hend _ hsv.symm
theorem kr_loop {s : ASt} {acts : List Trip} (hac : ∀ x ∈ acts, I64 x.a ∧ I64 x.b ∧ I64 x.c) (hal : acts.length ≤ 80) {ns : List Nd} {D : List Int} (h : KW st s ib p ig S ns) (hX : KX st s ix D ib p ig) (hD : DivOf S ns D) :
    awp Try.prog C.catnaplaw6_ClockRates_c51 (Post [.slot 4] fun r s => r = .bool true ∧ st.le s)
      [(1, .isl 3 (acts.flatMap encTrip) acts.length), (6, .ptr ib 0), (7, .ptr p 0), (9, .sl 1 ix 0 S.clocks.length)] s := by
  have hnc := hS.nc
  simp only [↓Bp, Bq, Bs, ↓aop.eq_28, ↓aop.eq_30, Nat.reduceEqDiff, Nat.reduceAdd, Nat.reduceMul, Nat.reduceSub, Nat.reduceLeDiff, Nat.reduceLT, Int.reduceLT, Int.reduceLE, Int.reduceEq, Int.reduceToNat, Int.reduceAdd, Int.reduceSub, Int.reduceNeg, ↓reduceIte, reduceCtorEq, ↓C.catnaplaw6_ClockRates_W, C.catnaplaw6_ClockRates_B, C.catnaplaw6_ClockRates]
  refine awp_midB (fun _ : Unit => ([] : AFr)) (fun _ s => st.le s) ?_ ?_
  · refine awp_loopK (fun t : Nat => [(1, .isl 3 (acts.flatMap encTrip) acts.length), (6, .ptr ib 0), (7, .ptr p 0), (9, .sl 1 ix 0 S.clocks.length), (11, .int .i64 t)])
      (fun t s => t ≤ acts.length ∧ ∃ ns D, KW st s ib p ig S ns ∧ KX st s ix D ib p ig ∧ DivOf S ns D) (fun t => acts.length - t) 0 rfl ⟨Nat.zero_le _, ns, D, h, hX, hD⟩ ?_
    clear h hX hD ns D s
    rintro t s ⟨ht, ns, D, h, hX, hD⟩
    have hb := h.hb
    by_cases htl : t < acts.length
    rotate_left
    · have htl' : ¬ (t : Int) < (acts.length : Nat) := by omega
      simp only [↓Bp, Bq, Bs, ↓aop.eq_28, ↓aop.eq_30, Nat.reduceEqDiff, Nat.reduceAdd, Nat.reduceMul, Nat.reduceSub, Nat.reduceLeDiff, Nat.reduceLT, Int.reduceLT, Int.reduceLE, Int.reduceEq, Int.reduceToNat, Int.reduceAdd, Int.reduceSub, Int.reduceNeg, ↓reduceIte, reduceCtorEq, ↓C.catnaplaw6_ClockRates_W, C.catnaplaw6_ClockRates_B, C.catnaplaw6_ClockRates, htl']
      exact ⟨(), h.le⟩
    have htl' : (t : Int) < (acts.length : Nat) := by omega
    have hw := wsucc htl (by omega)
    have hz2 : (0:Int) ≤ (t : Int) ∧ (t : Int) < (acts.length : Nat) := by omega
    have hg := trips_get acts htl
    have hIa := hac _ (List.getElem_mem htl)
    simp only [↓Bp, Bq, Bs, ↓aop.eq_28, ↓aop.eq_30, Nat.reduceEqDiff, Nat.reduceAdd, Nat.reduceMul, Nat.reduceSub, Nat.reduceLeDiff, Nat.reduceLT, Int.reduceLT, Int.reduceLE, Int.reduceEq, Int.reduceToNat, Int.reduceAdd, Int.reduceSub, Int.reduceNeg, ↓reduceIte, reduceCtorEq, ↓C.catnaplaw6_ClockRates_W, C.catnaplaw6_ClockRates_B, C.catnaplaw6_ClockRates, htl', hb, Soc.cells, Soc.clkV, hz2, Int.toNat_natCast, hg.1, hg.2.1]
    refine (pick_spec hIa.2.1 (n := S.clocks.length) (by omega)).mono ?_
    rintro r s ⟨rfl, rfl⟩
    have hkl := pickI_lt acts[t].b (n := S.clocks.length) (by omega)
    generalize pickI acts[t].b S.clocks.length = k at hkl
    have hlen := h.k.len
    have hk : k < ns.length := by omega
    simp only [↓Bp, Bq, Bs, ↓aop.eq_28, ↓aop.eq_30, Nat.reduceEqDiff, Nat.reduceAdd, Nat.reduceMul, Nat.reduceSub, Nat.reduceLeDiff, Nat.reduceLT, Int.reduceLT, Int.reduceLE, Int.reduceEq, Int.reduceToNat, Int.reduceAdd, Int.reduceSub, Int.reduceNeg, ↓reduceIte, reduceCtorEq, ↓C.catnaplaw6_ClockRates_W, C.catnaplaw6_ClockRates_B, C.catnaplaw6_ClockRates, hz2, Int.toNat_natCast, hg.1, hg.2.1]
    refine (pick_spec hIa.1 (n := 5) (by omega)).mono ?_
    rintro r s ⟨rfl, rfl⟩
    generalize pickI acts[t].a 5 = o
    simp only [↓Bp, Bq, Bs, ↓aop.eq_28, ↓aop.eq_30, Nat.reduceEqDiff, Nat.reduceAdd, Nat.reduceMul, Nat.reduceSub, Nat.reduceLeDiff, Nat.reduceLT, Int.reduceLT, Int.reduceLE, Int.reduceEq, Int.reduceToNat, Int.reduceAdd, Int.reduceSub, Int.reduceNeg, ↓reduceIte, reduceCtorEq, ↓C.catnaplaw6_ClockRates_r43_w, C.catnaplaw6_ClockRates_r43_b, ↓C.catnaplaw6_ClockRates_c1_w, ↓C.catnaplaw6_ClockRates_r13_w, C.catnaplaw6_ClockRates_r13_b, ↓C.catnaplaw6_ClockRates_c2_w, ↓C.catnaplaw6_ClockRates_r42_w, C.catnaplaw6_ClockRates_r42_b, ↓C.catnaplaw6_ClockRates_c3_w, ↓C.catnaplaw6_ClockRates_c4_w, ↓C.catnaplaw6_ClockRates_r41_w, C.catnaplaw6_ClockRates_r41_b, ↓C.catnaplaw6_ClockRates_c5_w, ↓C.catnaplaw6_ClockRates_r40_w, C.catnaplaw6_ClockRates_r40_b, ↓C.catnaplaw6_ClockRates_c6_w, ↓C.catnaplaw6_ClockRates_c7_w, ↓C.catnaplaw6_ClockRates_r39_w, C.catnaplaw6_ClockRates_r39_b, ↓C.catnaplaw6_ClockRates_c8_w, ↓C.catnaplaw6_ClockRates_r33_w, C.catnaplaw6_ClockRates_r33_b, ↓C.catnaplaw6_ClockRates_r38_w, C.catnaplaw6_ClockRates_r38_b, ↓C.catnaplaw6_ClockRates_c9_w, ↓C.catnaplaw6_ClockRates_c10_w, ↓C.catnaplaw6_ClockRates_r37_w, C.catnaplaw6_ClockRates_r37_b, ↓C.catnaplaw6_ClockRates_c11_w, ↓C.catnaplaw6_ClockRates_r36_w, C.catnaplaw6_ClockRates_r36_b, ↓C.catnaplaw6_ClockRates_c12_w, ↓C.catnaplaw6_ClockRates_r35_w, C.catnaplaw6_ClockRates_r35_b, ↓C.catnaplaw6_ClockRates_c13_w, ↓C.catnaplaw6_ClockRates_c14_w, ↓C.catnaplaw6_ClockRates_r34_w, C.catnaplaw6_ClockRates_r34_b, ↓C.catnaplaw6_ClockRates_c15_w, ↓C.catnaplaw6_ClockRates_c16_w, ↓C.catnaplaw6_ClockRates_c17_w, ↓C.catnaplaw6_ClockRates_r32_w, C.catnaplaw6_ClockRates_r32_b, ↓C.catnaplaw6_ClockRates_b18_w, ↓C.catnaplaw6_ClockRates_c19_w, ↓C.catnaplaw6_ClockRates_r31_w, C.catnaplaw6_ClockRates_r31_b, ↓C.catnaplaw6_ClockRates_c20_w, ↓C.catnaplaw6_ClockRates_r30_w, C.catnaplaw6_ClockRates_r30_b, ↓C.catnaplaw6_ClockRates_c21_w, ↓C.catnaplaw6_ClockRates_r29_w, C.catnaplaw6_ClockRates_r29_b, ↓C.catnaplaw6_ClockRates_c22_w, ↓C.catnaplaw6_ClockRates_r28_w, C.catnaplaw6_ClockRates_r28_b, ↓C.catnaplaw6_ClockRates_c23_w, ↓C.catnaplaw6_ClockRates_c24_w, ↓C.catnaplaw6_ClockRates_r27_w, C.catnaplaw6_ClockRates_r27_b, ↓C.catnaplaw6_ClockRates_c25_w, ↓C.catnaplaw6_ClockRates_c26_w, ↓C.catnaplaw6_ClockRates_r26_w, C.catnaplaw6_ClockRates_r26_b, ↓C.catnaplaw6_ClockRates_c27_w, ↓C.catnaplaw6_ClockRates_r25_w, C.catnaplaw6_ClockRates_r25_b, ↓C.catnaplaw6_ClockRates_c28_w, ↓C.catnaplaw6_ClockRates_r15_w, C.catnaplaw6_ClockRates_r15_b, ↓C.catnaplaw6_ClockRates_c44_w, ↓C.catnaplaw6_ClockRates_r14_w, C.catnaplaw6_ClockRates_r14_b, ↓C.catnaplaw6_ClockRates_b45_w, ↓C.catnaplaw6_ClockRates_c46_w, ↓C.catnaplaw6_ClockRates_c47_w, ↓C.catnaplaw6_ClockRates_r12_w, C.catnaplaw6_ClockRates_r12_b, ↓C.catnaplaw6_ClockRates_b49_w, ↓C.catnaplaw6_ClockRates_c50_w, ↓C.catnaplaw6_ClockRates_r11_w, C.catnaplaw6_ClockRates_r11_b, ↓C.catnaplaw6_ClockRates_c51_w, ↓C.catnaplaw6_ClockRates_r9_w, C.catnaplaw6_ClockRates_r9_b, ↓C.catnaplaw6_ClockRates_c52_w, ↓C.catnaplaw6_ClockRates_r10_w, C.catnaplaw6_ClockRates_r10_b, ↓C.catnaplaw6_ClockRates_b53_w, ↓C.catnaplaw6_ClockRates_c54_w, ↓C.catnaplaw6_ClockRates_c55_w, ↓C.catnaplaw6_ClockRates_r8_w, C.catnaplaw6_ClockRates_r8_b, ↓C.catnaplaw6_ClockRates_b57_w, ↓C.catnaplaw6_ClockRates_c58_w, ↓C.catnaplaw6_ClockRates_r7_w, C.catnaplaw6_ClockRates_r7_b, ↓C.catnaplaw6_ClockRates_c59_w, ↓C.catnaplaw6_ClockRates_r6_w, C.catnaplaw6_ClockRates_r6_b, ↓C.catnaplaw6_ClockRates_c60_w, ↓C.catnaplaw6_ClockRates_r5_w, C.catnaplaw6_ClockRates_r5_b, ↓C.catnaplaw6_ClockRates_c61_w, ↓C.catnaplaw6_ClockRates_c62_w, ↓C.catnaplaw6_ClockRates_r4_w, C.catnaplaw6_ClockRates_r4_b, ↓C.catnaplaw6_ClockRates_c63_w, ↓C.catnaplaw6_ClockRates_r3_w, C.catnaplaw6_ClockRates_r3_b, ↓C.catnaplaw6_ClockRates_c64_w, ↓C.catnaplaw6_ClockRates_r2_w, C.catnaplaw6_ClockRates_r2_b, ↓C.catnaplaw6_ClockRates_c65_w, ↓C.catnaplaw6_ClockRates_r1_w, C.catnaplaw6_ClockRates_r1_b, ↓C.catnaplaw6_ClockRates_c66_w, ↓C.catnaplaw6_ClockRates_r0_w, C.catnaplaw6_ClockRates_r0_b, C.catnaplaw6_ClockRates]
    rw [C.catnaplaw6_ClockRates_c43_w, awp_keep]
    refine kr_act hS (ig := ig) hac htl hk h hX hD fun fr s' ns' D' h' hX' hD' e => ?_
    show awp Try.prog C.catnaplaw6_ClockRates_c28 _ fr s'
    rw [C.catnaplaw6_ClockRates_c28_w, awp_keep, e]
    refine kr_look hS (ig := ig) (va := .isl 3 (acts.flatMap encTrip) acts.length) (by rw [h'.k.len]; omega) h' hX' hD' fun fr e => ?_
    refine (show awp Try.prog C.catnaplaw6_ClockRates_c2 _ fr s' → _ from fun h => ⟨h, h⟩) ?_
    rw [C.catnaplaw6_ClockRates_c2_w, awp_keep, e]
    simp only [↓Bp, Bq, Bs, ↓aop.eq_28, ↓aop.eq_30, Nat.reduceEqDiff, Nat.reduceAdd, Nat.reduceMul, Nat.reduceSub, Nat.reduceLeDiff, Nat.reduceLT, Int.reduceLT, Int.reduceLE, Int.reduceEq, Int.reduceToNat, Int.reduceAdd, Int.reduceSub, Int.reduceNeg, ↓reduceIte, reduceCtorEq, ↓C.catnaplaw6_ClockRates_W, C.catnaplaw6_ClockRates_B, C.catnaplaw6_ClockRates, hw]
    exact ⟨t + 1, rfl, ⟨htl, _, _, h', hX', hD'⟩, by omega⟩
  · clear h hX hD ns D s
    rintro - s h
    simp only [↓Bp, Bq, Bs, ↓aop.eq_28, ↓aop.eq_30, Nat.reduceEqDiff, Nat.reduceAdd, Nat.reduceMul, Nat.reduceSub, Nat.reduceLeDiff, Nat.reduceLT, Int.reduceLT, Int.reduceLE, Int.reduceEq, Int.reduceToNat, Int.reduceAdd, Int.reduceSub, Int.reduceNeg, ↓reduceIte, reduceCtorEq, ↓C.catnaplaw6_ClockRates_W, C.catnaplaw6_ClockRates_B, C.catnaplaw6_ClockRates]
    exact h
end
theorem clockrates_spec {st : ASt} {l : List Int} {acts : List Trip} (hl : ∀ x ∈ l, -9223372036854775808 ≤ x ∧ x ≤ 9223372036854775807) (hll : l.length ≤ 9223372036854775807)
    (hac : ∀ x ∈ acts, I64 x.a ∧ I64 x.b ∧ I64 x.c) (hal : acts.length ≤ 9223372036854775807) :
    ACalls Try.prog F.catnaplaw6_ClockRates [row l, .isl 3 (acts.flatMap encTrip) acts.length] st fun r s => r = .bool true ∧ s = st := by
  refine ACalls.gc (Q' := fun r s => r = .bool true ∧ st.le s) (calls_of_awp L.catnaplaw6_ClockRates rfl ?_) (fun v s ⟨h, hl⟩ => ⟨st, hl, h, rfl⟩)
  simp only [↓Bp, Bq, Bs, ↓aop.eq_28, ↓aop.eq_30, Nat.reduceEqDiff, Nat.reduceAdd, Nat.reduceMul, Nat.reduceSub, Nat.reduceLeDiff, Nat.reduceLT, Int.reduceLT, Int.reduceLE, Int.reduceEq, Int.reduceToNat, Int.reduceAdd, Int.reduceSub, Int.reduceNeg, ↓reduceIte, reduceCtorEq, ↓C.catnaplaw6_ClockRates_W, C.catnaplaw6_ClockRates_B, C.catnaplaw6_ClockRates]
  refine (kshown_spec st).mono ?_
  rintro r s ⟨rfl, rfl⟩
  simp only [↓Bp, Bq, Bs, ↓aop.eq_28, ↓aop.eq_30, Nat.reduceEqDiff, Nat.reduceAdd, Nat.reduceMul, Nat.reduceSub, Nat.reduceLeDiff, Nat.reduceLT, Int.reduceLT, Int.reduceLE, Int.reduceEq, Int.reduceToNat, Int.reduceAdd, Int.reduceSub, Int.reduceNeg, ↓reduceIte, reduceCtorEq, ↓C.catnaplaw6_ClockRates_W, C.catnaplaw6_ClockRates_B, C.catnaplaw6_ClockRates]
  refine (chip_frz hl hll).mono ?_
  rintro r s ⟨rfl, rfl⟩
  have hS := chipS_like l
  generalize chipS l = S at hS
  have hnc := hS.nc
  have l4 : S.cells.length = 4 := rfl
  have e4 : AV.agg (List.take 4 S.cells) = .agg S.cells := rfl
  have f4 : allLeaf S.cells = true := rfl
  simp only [↓Bp, Bq, Bs, ↓aop.eq_28, ↓aop.eq_30, Nat.reduceEqDiff, Nat.reduceAdd, Nat.reduceMul, Nat.reduceSub, Nat.reduceLeDiff, Nat.reduceLT, Int.reduceLT, Int.reduceLE, Int.reduceEq, Int.reduceToNat, Int.reduceAdd, Int.reduceSub, Int.reduceNeg, ↓reduceIte, reduceCtorEq, ↓C.catnaplaw6_ClockRates_r2_w, C.catnaplaw6_ClockRates_r2_b, ↓C.catnaplaw6_ClockRates_c65_w, ↓C.catnaplaw6_ClockRates_r1_w, C.catnaplaw6_ClockRates_r1_b, ↓C.catnaplaw6_ClockRates_c66_w, ↓C.catnaplaw6_ClockRates_r0_w, C.catnaplaw6_ClockRates_r0_b, C.catnaplaw6_ClockRates, l4, f4]
  rintro ib hib
  simp only [↓Bp, Bq, Bs, ↓aop.eq_28, ↓aop.eq_30, Nat.reduceEqDiff, Nat.reduceAdd, Nat.reduceMul, Nat.reduceSub, Nat.reduceLeDiff, Nat.reduceLT, Int.reduceLT, Int.reduceLE, Int.reduceEq, Int.reduceToNat, Int.reduceAdd, Int.reduceSub, Int.reduceNeg, ↓reduceIte, reduceCtorEq, ↓C.catnaplaw6_ClockRates_r2_w, C.catnaplaw6_ClockRates_r2_b, ↓C.catnaplaw6_ClockRates_c65_w, ↓C.catnaplaw6_ClockRates_r1_w, C.catnaplaw6_ClockRates_r1_b, ↓C.catnaplaw6_ClockRates_c66_w, ↓C.catnaplaw6_ClockRates_r0_w, C.catnaplaw6_ClockRates_r0_b, C.catnaplaw6_ClockRates, hib, l4, f4]
  rw [ASt.new_set hib, show putN [AV.nils, AV.nils, AV.nils, AV.nils] 0 S.cells = S.cells from putN_all rfl]
  simp only [↓Bp, Bq, Bs, ↓aop.eq_28, ↓aop.eq_30, Nat.reduceEqDiff, Nat.reduceAdd, Nat.reduceMul, Nat.reduceSub, Nat.reduceLeDiff, Nat.reduceLT, Int.reduceLT, Int.reduceLE, Int.reduceEq, Int.reduceToNat, Int.reduceAdd, Int.reduceSub, Int.reduceNeg, ↓reduceIte, reduceCtorEq, ↓C.catnaplaw6_ClockRates_W, C.catnaplaw6_ClockRates_B, C.catnaplaw6_ClockRates, hib, l4, e4]
  refine (kstart_spec hib hS).mono ?_
  rintro r s1 ⟨p, ig, rfl, h⟩
  by_cases hac0 : acts.length ≤ 80
  rotate_left
  · have hz0 : (80 : Int) < (acts.length : Nat) := by omega
    simp only [↓Bp, Bq, Bs, ↓aop.eq_28, ↓aop.eq_30, Nat.reduceEqDiff, Nat.reduceAdd, Nat.reduceMul, Nat.reduceSub, Nat.reduceLeDiff, Nat.reduceLT, Int.reduceLT, Int.reduceLE, Int.reduceEq, Int.reduceToNat, Int.reduceAdd, Int.reduceSub, Int.reduceNeg, ↓reduceIte, reduceCtorEq, ↓C.catnaplaw6_ClockRates_W, C.catnaplaw6_ClockRates_B, C.catnaplaw6_ClockRates, hz0]
    exact h.le
  have hz0 : ¬ (80 : Int) < (acts.length : Nat) := by omega
  have hb := h.hb
  have hzn : (0 : Int) ≤ (S.clocks.length : Nat) ∧ ((S.clocks.length : Nat) : Int) ≤ 4294967296 := by omega
  simp only [↓Bp, Bq, Bs, ↓aop.eq_28, ↓aop.eq_30, Nat.reduceEqDiff, Nat.reduceAdd, Nat.reduceMul, Nat.reduceSub, Nat.reduceLeDiff, Nat.reduceLT, Int.reduceLT, Int.reduceLE, Int.reduceEq, Int.reduceToNat, Int.reduceAdd, Int.reduceSub, Int.reduceNeg, ↓reduceIte, reduceCtorEq, ↓C.catnaplaw6_ClockRates_r6_w, C.catnaplaw6_ClockRates_r6_b, ↓C.catnaplaw6_ClockRates_c60_w, ↓C.catnaplaw6_ClockRates_r5_w, C.catnaplaw6_ClockRates_r5_b, ↓C.catnaplaw6_ClockRates_c61_w, ↓C.catnaplaw6_ClockRates_c62_w, ↓C.catnaplaw6_ClockRates_r4_w, C.catnaplaw6_ClockRates_r4_b, ↓C.catnaplaw6_ClockRates_c63_w, ↓C.catnaplaw6_ClockRates_r3_w, C.catnaplaw6_ClockRates_r3_b, ↓C.catnaplaw6_ClockRates_c64_w, ↓C.catnaplaw6_ClockRates_r2_w, C.catnaplaw6_ClockRates_r2_b, ↓C.catnaplaw6_ClockRates_c65_w, ↓C.catnaplaw6_ClockRates_r1_w, C.catnaplaw6_ClockRates_r1_b, ↓C.catnaplaw6_ClockRates_c66_w, ↓C.catnaplaw6_ClockRates_r0_w, C.catnaplaw6_ClockRates_r0_b, C.catnaplaw6_ClockRates, hz0, hb, Soc.cells, Soc.clkV, hzn, Int.toNat_natCast, zeros_i64]
  rintro ix hix
  obtain ⟨h3, hX⟩ := h.list hix (List.replicate S.clocks.length 0)
  generalize s1.new ix (.cells (ints (List.replicate S.clocks.length 0))) = s2 at h3 hX
  rw [C.catnaplaw6_ClockRates_c59_w, awp_keep]
  simp only [↓Bp, Bq, Bs, ↓aop.eq_28, ↓aop.eq_30, Nat.reduceEqDiff, Nat.reduceAdd, Nat.reduceMul, Nat.reduceSub, Nat.reduceLeDiff, Nat.reduceLT, Int.reduceLT, Int.reduceLE, Int.reduceEq, Int.reduceToNat, Int.reduceAdd, Int.reduceSub, Int.reduceNeg, ↓reduceIte, reduceCtorEq, ↓C.catnaplaw6_ClockRates_r9_w, C.catnaplaw6_ClockRates_r9_b, ↓C.catnaplaw6_ClockRates_c52_w, ↓C.catnaplaw6_ClockRates_r10_w, C.catnaplaw6_ClockRates_r10_b, ↓C.catnaplaw6_ClockRates_b53_w, ↓C.catnaplaw6_ClockRates_c54_w, ↓C.catnaplaw6_ClockRates_c55_w, ↓C.catnaplaw6_ClockRates_r8_w, C.catnaplaw6_ClockRates_r8_b, ↓C.catnaplaw6_ClockRates_b57_w, ↓C.catnaplaw6_ClockRates_c58_w, ↓C.catnaplaw6_ClockRates_r7_w, C.catnaplaw6_ClockRates_r7_b, ↓C.catnaplaw6_ClockRates_c59_w, ↓C.catnaplaw6_ClockRates_r6_w, C.catnaplaw6_ClockRates_r6_b, ↓C.catnaplaw6_ClockRates_c60_w, ↓C.catnaplaw6_ClockRates_r5_w, C.catnaplaw6_ClockRates_r5_b, ↓C.catnaplaw6_ClockRates_c61_w, ↓C.catnaplaw6_ClockRates_c62_w, ↓C.catnaplaw6_ClockRates_r4_w, C.catnaplaw6_ClockRates_r4_b, ↓C.catnaplaw6_ClockRates_c63_w, ↓C.catnaplaw6_ClockRates_r3_w, C.catnaplaw6_ClockRates_r3_b, ↓C.catnaplaw6_ClockRates_c64_w, ↓C.catnaplaw6_ClockRates_r2_w, C.catnaplaw6_ClockRates_r2_b, ↓C.catnaplaw6_ClockRates_c65_w, ↓C.catnaplaw6_ClockRates_r1_w, C.catnaplaw6_ClockRates_r1_b, ↓C.catnaplaw6_ClockRates_c66_w, ↓C.catnaplaw6_ClockRates_r0_w, C.catnaplaw6_ClockRates_r0_b, C.catnaplaw6_ClockRates]
  refine awp_midB (fun _ : Unit => [(1, .isl 3 (acts.flatMap encTrip) acts.length), (6, .ptr ib 0), (7, .ptr p 0), (9, .sl 1 ix 0 S.clocks.length)]) (fun _ s' => KW s s' ib p ig S (cfresh S.clocks) ∧ KX s s' ix (S.clocks.map Clk.div) ib p ig) ?_ ?_
  rotate_left
  · rintro - s' ⟨h, hX⟩
    exact kr_loop hS hac hac0 h hX (DivOf.fresh S)
  refine awp_loopK (fun t : Nat => [(1, .isl 3 (acts.flatMap encTrip) acts.length), (6, .ptr ib 0), (7, .ptr p 0), (9, .sl 1 ix 0 S.clocks.length), (10, .int .i64 t)])
    (fun t s' => t ≤ S.clocks.length ∧ KW s s' ib p ig S (cfresh S.clocks) ∧ KX s s' ix ((S.clocks.map Clk.div).take t ++ List.replicate (S.clocks.length - t) 0) ib p ig) (fun t => S.clocks.length - t) 0 rfl ⟨Nat.zero_le _, h3, by simpa using hX⟩ ?_
  clear h h3 hX hb s2
  rintro t s2 ⟨ht, h, hX⟩
  have hb := h.hb
  have hx := hX.hx
  by_cases htl : t < S.clocks.length
  rotate_left
  · have htl' : ¬ (t : Int) < (S.clocks.length : Nat) := by omega
    rw [show t = S.clocks.length by omega, Nat.sub_self, List.replicate_zero, List.append_nil, List.take_of_length_le (by simp)] at hX
    simp only [↓Bp, Bq, Bs, ↓aop.eq_28, ↓aop.eq_30, Nat.reduceEqDiff, Nat.reduceAdd, Nat.reduceMul, Nat.reduceSub, Nat.reduceLeDiff, Nat.reduceLT, Int.reduceLT, Int.reduceLE, Int.reduceEq, Int.reduceToNat, Int.reduceAdd, Int.reduceSub, Int.reduceNeg, ↓reduceIte, reduceCtorEq, ↓C.catnaplaw6_ClockRates_W, C.catnaplaw6_ClockRates_B, C.catnaplaw6_ClockRates, hb, Soc.cells, Soc.clkV, htl']
    exact ⟨(), h, hX⟩
  have htl' : (t : Int) < (S.clocks.length : Nat) := by omega
  have hw := wsucc htl (by omega)
  have hz2 : (0:Int) ≤ (t : Int) ∧ (t : Int) < (S.clocks.length : Nat) := by omega
  have hg := kclk_get htl
  have hfit : t < (ints ((S.clocks.map Clk.div).take t ++ List.replicate (S.clocks.length - t) 0)).length := by simp [ints]; omega
  have hset : ((S.clocks.map Clk.div).take t ++ List.replicate (S.clocks.length - t) 0).set t S.clocks[t].div = (S.clocks.map Clk.div).take (t + 1) ++ List.replicate (S.clocks.length - (t + 1)) 0 := by
    rw [List.set_append_right _ _ (by simp; omega), List.take_succ_eq_append_getElem (by simpa using htl)]
    have : t - ((S.clocks.map Clk.div).take t).length = 0 := by simp; omega
    rw [this, show S.clocks.length - t = (S.clocks.length - (t + 1)) + 1 by omega, List.replicate_succ, List.set_cons_zero]
    simp
  simp only [↓Bp, Bq, Bs, ↓aop.eq_28, ↓aop.eq_30, Nat.reduceEqDiff, Nat.reduceAdd, Nat.reduceMul, Nat.reduceSub, Nat.reduceLeDiff, Nat.reduceLT, Int.reduceLT, Int.reduceLE, Int.reduceEq, Int.reduceToNat, Int.reduceAdd, Int.reduceSub, Int.reduceNeg, ↓reduceIte, reduceCtorEq, ↓C.catnaplaw6_ClockRates_W, C.catnaplaw6_ClockRates_B, C.catnaplaw6_ClockRates, hb, Soc.cells, Soc.clkV, htl', hz2, hg.2.2.2.2, hx, hfit, ints_set, hset, hw, Int.toNat_natCast, Nat.mul_one]
  exact ⟨t + 1, rfl, ⟨htl, hX.kw h _, hX.put _⟩, by omega⟩
end Go.Proofs.Ytkioaemhdbcfaaa.Cn
