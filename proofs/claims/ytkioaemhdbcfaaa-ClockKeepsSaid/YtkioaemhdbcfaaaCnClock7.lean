/- Clocks: the example of the statements; what the laws have in hand. -/
import Derived.Test.YtkioaemhdbcfaaaCnClock6
set_option linter.unusedSimpArgs false
set_option linter.unusedVariables false
namespace Go.Proofs.Ytkioaemhdbcfaaa.Cn
open Go Go.Proofs

/-- Clocks alone make a right description. -/
theorem clocks_right {l : List Clk} (h0 : l.length ≤ 12) (hr : ∀ i (h : i < l.length), firstE (clkE l.length l[i]) 3 = 0) (hl : ∀ i (h : i < l.length), ∀ u ∈ l[i].src, 0 ≤ u ∧ u < (i : Int)) : confErr ⟨l, [], [], []⟩ = 0 := firstE_zero.mpr fun i hi => by
  match i, hi with
  | 0, _ => exact fullE_zero.mpr ⟨⟨h0, by simp, by simp, by simp⟩, by simp⟩
  | 1, _ => exact firstE_zero.mpr fun i hi => by rw [ofAll_at hi]; exact hr i hi
  | 2, _ => exact cycE_zero (grErr_lesser (by simp; omega) fun v hv => by rw [List.getElem_map]; exact hl v (by simpa using hv))
  | 3, _ => rfl
  | 4, _ => exact cycE_zero (grErr_lesser (g := []) (by simp) fun v hv => by simp at hv)
  | 5, _ => rfl
  | 6, _ => rfl
  | 7, _ => exact cycE_zero (grErr_lesser (g := []) (by simp) fun v hv => by simp at hv)
theorem Nd.turn_c (n : Nd) (b : Bool) : (n.turn b).c = n.c := by unfold Nd.turn; split <;> rfl
theorem Nd.tick_c (n : Nd) (R : Nat → Bool) : (n.tick R).c = n.c := by
  unfold Nd.tick
  split
  · split
    · split
      · rfl
      · split <;> rfl
    · rfl
  · split <;> rfl
/-- The nodes of those clocks. -/
structure KOf (C : List Clk) (ns : List Nd) : Prop where
  len : ns.length = C.length
  same : ∀ i (h : i < ns.length) (h' : i < C.length), ns[i].c = C[i]
  ok : NsOk ns
theorem KOf.put {C : List Clk} {ns : List Nd} (h : KOf C ns) {i : Nat} (hi : i < ns.length) {n : Nd} (hc : n.c = ns[i].c) (ho : NsOk (ns.set i n)) : KOf C (ns.set i n) where
  len := by simp [h.len]
  same := fun j hj hj' => by
    simp only [List.length_set] at hj
    rw [List.getElem_set]
    split
    · rename_i e; subst e; rw [hc]; exact h.same _ _ _
    · exact h.same _ _ _
  ok := ho
theorem KOf.on {C : List Clk} {ns : List Nd} (h : KOf C ns) {i : Nat} (hi : i < ns.length) (b : Bool) : KOf C (onL ns i hi b) := by
  have ho := h.ok.on hi b
  unfold onL at ho ⊢; split
  · rename_i e; rw [if_pos e] at ho; exact h.put hi (Nd.turn_c _ _) ho
  · exact h
theorem KOf.sel {C : List Clk} {ns : List Nd} (h : KOf C ns) {i : Nat} (hi : i < ns.length) (k : Int) : KOf C (selL ns i hi k) := by
  have ho := h.ok.sel hi k
  unfold selL at ho ⊢; split
  · rename_i e; rw [if_pos e] at ho; exact h.put hi rfl ho
  · exact h
theorem KOf.div {C : List Clk} {ns : List Nd} (h : KOf C ns) {i : Nat} (hi : i < ns.length) (k : Int) : KOf C (divL ns i hi k) := by
  have ho := h.ok.div hi k
  unfold divL at ho ⊢; split
  · rename_i e; rw [if_pos e] at ho; exact h.put hi rfl ho
  · exact h
theorem KOf.tick {C : List Clk} {ns : List Nd} (h : KOf C ns) : KOf C (ctickL ns) where
  len := by rw [ctickL_len, h.len]
  same := fun i hi hi' => by
    simp only [ctickL_len] at hi
    simp only [ctickL, List.getElem_map]
    rw [Nd.tick_c]; exact h.same _ _ _
  ok := h.ok.tick
theorem KOf.fresh {C : List Clk} (h : ∀ i (hi : i < C.length), ClkOk i C[i]) : KOf C (cfresh C) where
  len := cfresh_len C
  same := fun i hi hi' => by simp [cfresh, Nd.fresh]
  ok := NsOk.fresh h
/-- What a law has in hand: a description, its tree, all beside a heap. -/
structure KW (st s : ASt) (ib p ig : Nat) (S : Soc) (ns : List Nd) : Prop where
  le : st.le s
  hb : s.h ib = some (.cells S.cells)
  t : TreeAt s p ig ns
  k : KOf S.clocks ns
  fg : st.h ig = none
  ne : ib ≠ ig
theorem KW.set {st s : ASt} {ib p ig : Nat} {S : Soc} {ns ns' : List Nd} (h : KW st s ib p ig S ns) (hk : KOf S.clocks ns') : KW st (s.set ig (nsC ns')) ib p ig S ns' :=
  ⟨fun j x hj => by
    rw [ASt.set_h, if_neg (by rintro rfl; rw [h.fg] at hj; cases hj)]; exact h.le _ _ hj, by
    rw [ASt.set_h, if_neg h.ne]; exact h.hb, h.t.set (by rw [hk.len, h.k.len]), hk, h.fg, h.ne⟩
theorem KW.step {st s t : ASt} {ib p ig : Nat} {S : Soc} {ns : List Nd} (h : KW st s ib p ig S ns) (hl : s.le t) : KW st t ib p ig S ns :=
  ⟨h.le.trans hl, hl _ _ h.hb, h.t.le hl, h.k, h.fg, h.ne⟩
theorem kstart_spec {st : ASt} {ib : Nat} {S : Soc} (hib : st.h ib = none) (h : S.like) :
    ACalls Try.prog F.q4 [.agg S.cells] (st.new ib (.cells S.cells)) fun r s => ∃ p ig, r = .tup [.ptr p 0, .int .i64 0] ∧ KW st s ib p ig S (cfresh S.clocks) := by
  refine (cnew_spec h.sane h.fine h.right (by have := h.nc; omega) (by have := h.nc; omega)).mono ?_
  rintro r s ⟨p, ig, rfl, hG, hp, hm, hle2⟩
  have hself := ASt.new_self (AObj.cells S.cells) hib
  rw [ASt.new_none] at hm
  exact ⟨p, ig, rfl, (ASt.le.new st ib _).trans hle2, hle2 _ _ hself, hG, KOf.fresh h.clk, hm.1, fun e => hm.2 e.symm⟩
def kl6 : List Clk := [⟨111, [], 7, 0, 0, 0⟩, ⟨103, [0], 0, 0, 0, 0⟩]
theorem kl6_ok : ∀ i (h : i < kl6.length), ClkOk i kl6[i] := fun i h => by
  have : i = 0 ∨ i = 1 := by simp [kl6] at h; omega
  rcases this with rfl | rfl
  · exact .osc 7 (by omega) rfl
  · exact .gate 0 (by omega)
theorem kshown_spec (st : ASt) : ACalls Try.prog F.q3 [] st fun r s => r = .bool true ∧ s = st := by
  refine ACalls.gc (Q' := fun r s => r = .bool true ∧ st.le s) (calls_of_awp L.q3 rfl ?_) (fun v s ⟨h, hl⟩ => ⟨st, hl, h, rfl⟩)
  simp only [↓Bp, Bq, Bs, ↓aop.eq_28, ↓aop.eq_30, Nat.reduceEqDiff, Nat.reduceAdd, Nat.reduceMul, Nat.reduceSub, Nat.reduceLeDiff, Nat.reduceLT, Int.reduceLT, Int.reduceLE, Int.reduceEq, Int.reduceToNat, Int.reduceAdd, Int.reduceSub, Int.reduceNeg, ↓reduceIte, reduceCtorEq, ↓C.q3_W, C.q3_B, C.q3]
  rintro i hi j ⟨hj, hji⟩
  have hj' : (st.new i (.cells [.int .i64 0])).h j = none := by rw [ASt.new_none]; exact ⟨hj, hji⟩
  have hr : RepL ((st.new i (.cells [.int .i64 0])).new j (.cells [.int .u8 111, .nils, .int .u64 7, .int .i64 0, .int .i64 0, .int .i64 0, .int .u8 103, .sl 1 i 0 1, .int .u64 0, .int .i64 0, .int .i64 0, .int .i64 0])) [.sl 6 j 0 2, .nils, .nils, .nils] (Soc.cells ⟨kl6, [], [], []⟩) [j, i] := by
    refine .sl (L1 := [i]) (L2 := []) (ASt.new_self _ hj') ?_ (by simpa using hji) (by simp) (by simp) (.nils 3 (.nils 1 (.nils 6 .nil)))
    refine .one rfl (.nils 1 (.one rfl (.one rfl (.one rfl (.one rfl (.one rfl ?_))))))
    exact .sl (L1 := []) (L2 := []) (ASt.new_old (ASt.new_self _ hi)) (RepL.scalars rfl _) (by simp) (by simp) (by simp) (RepL.scalars rfl _)
  have hle : st.le (((st.new i (.cells [.int .i64 0])).new j (.cells [.int .u8 111, .nils, .int .u64 7, .int .i64 0, .int .i64 0, .int .i64 0, .int .u8 103, .sl 1 i 0 1, .int .u64 0, .int .i64 0, .int .i64 0, .int .i64 0])).killL [j, i]) :=
    ((ASt.le.new _ _ _).trans (ASt.le.new _ _ _)).killL (by simp; exact ⟨hj, hi⟩)
  have he : confErr ⟨kl6, [], [], []⟩ = 0 := clocks_right (by decide) (fun i h => (kl6_ok i h).right h) fun i h => (kl6_ok i h).lesser
  refine ACalls.frzAgg hr ((cnew_spec (S := ⟨kl6, [], [], []⟩) ⟨by decide, by decide, by decide, by decide, by decide, by simp⟩ (by intro c hc; simp [kl6] at hc; rcases hc with rfl | rfl <;> simp) he (by decide) (by decide)).mono ?_)
  generalize (((st.new i (.cells [.int .i64 0])).new j (.cells [.int .u8 111, .nils, .int .u64 7, .int .i64 0, .int .i64 0, .int .i64 0, .int .u8 103, .sl 1 i 0 1, .int .u64 0, .int .i64 0, .int .i64 0, .int .i64 0])).killL [j, i]) = s1 at hle
  rintro r s2 ⟨p, ig, rfl, hT, hp, hm, hle2⟩
  have hK := KOf.fresh kl6_ok
  have hle3 := hle.trans hle2
  have hms : st.h ig = none := fresh_of_le hle hm
  simp only at hT
  have e0 : cfresh kl6 = [⟨⟨111, [], 7, 0, 0, 0⟩, false, 0, 0, 0, 0⟩, ⟨⟨103, [0], 0, 0, 0, 0⟩, false, 0, 0, 0, 0⟩] := rfl
  have h1l : 1 < (cfresh kl6).length := by decide
  have r0 : run (cfresh kl6) 1 = false := by decide
  have o0 : onE (cfresh kl6)[1] = 0 := rfl
  have r1 : run (onL (cfresh kl6) 1 h1l true) 1 = true := rfl
  have v1 : rateN (onL (cfresh kl6) 1 h1l true) 1 = 7 := rfl
  simp only [↓Bp, Bq, Bs, ↓aop.eq_28, ↓aop.eq_30, Nat.reduceEqDiff, Nat.reduceAdd, Nat.reduceMul, Nat.reduceSub, Nat.reduceLeDiff, Nat.reduceLT, Int.reduceLT, Int.reduceLE, Int.reduceEq, Int.reduceToNat, Int.reduceAdd, Int.reduceSub, Int.reduceNeg, ↓reduceIte, reduceCtorEq, ↓C.q3_W, C.q3_B, C.q3]
  refine (running_at hT hK.ok h1l).mono ?_
  rintro r s3 ⟨rfl, rfl⟩
  rw [r0]
  simp only [↓Bp, Bq, Bs, ↓aop.eq_28, ↓aop.eq_30, Nat.reduceEqDiff, Nat.reduceAdd, Nat.reduceMul, Nat.reduceSub, Nat.reduceLeDiff, Nat.reduceLT, Int.reduceLT, Int.reduceLE, Int.reduceEq, Int.reduceToNat, Int.reduceAdd, Int.reduceSub, Int.reduceNeg, ↓reduceIte, reduceCtorEq, ↓C.q3_W, C.q3_B, C.q3]
  refine (on_spec hT h1l true).mono ?_
  rintro r s4 ⟨rfl, rfl⟩
  rw [o0]
  have hT2 := hT.set (onL_len h1l true)
  have hK2 := hK.on h1l true
  have hle4 : st.le (s3.set ig (nsC (onL (cfresh kl6) 1 h1l true))) := fun j x hj => by
    rw [ASt.set_h, if_neg (by rintro rfl; rw [hms] at hj; cases hj)]; exact hle3 _ _ hj
  generalize s3.set ig (nsC (onL (cfresh kl6) 1 h1l true)) = s4 at hT2 hle4
  have h1l2 : 1 < (onL (cfresh kl6) 1 h1l true).length := by rw [onL_len]; exact h1l
  simp only [↓Bp, Bq, Bs, ↓aop.eq_28, ↓aop.eq_30, Nat.reduceEqDiff, Nat.reduceAdd, Nat.reduceMul, Nat.reduceSub, Nat.reduceLeDiff, Nat.reduceLT, Int.reduceLT, Int.reduceLE, Int.reduceEq, Int.reduceToNat, Int.reduceAdd, Int.reduceSub, Int.reduceNeg, ↓reduceIte, reduceCtorEq, ↓C.q3_W, C.q3_B, C.q3]
  refine (running_at hT2 hK2.ok h1l2).mono ?_
  rintro r s5 ⟨rfl, rfl⟩
  rw [r1]
  simp only [↓Bp, Bq, Bs, ↓aop.eq_28, ↓aop.eq_30, Nat.reduceEqDiff, Nat.reduceAdd, Nat.reduceMul, Nat.reduceSub, Nat.reduceLeDiff, Nat.reduceLT, Int.reduceLT, Int.reduceLE, Int.reduceEq, Int.reduceToNat, Int.reduceAdd, Int.reduceSub, Int.reduceNeg, ↓reduceIte, reduceCtorEq, ↓C.q3_W, C.q3_B, C.q3]
  refine (rate_spec hT2 hK2.ok h1l2).mono ?_
  rintro r s5 ⟨rfl, rfl⟩
  rw [r1, if_pos rfl, v1]
  simp only [↓Bp, Bq, Bs, ↓aop.eq_28, ↓aop.eq_30, Nat.reduceEqDiff, Nat.reduceAdd, Nat.reduceMul, Nat.reduceSub, Nat.reduceLeDiff, Nat.reduceLT, Int.reduceLT, Int.reduceLE, Int.reduceEq, Int.reduceToNat, Int.reduceAdd, Int.reduceSub, Int.reduceNeg, ↓reduceIte, reduceCtorEq, ↓C.q3_W, C.q3_B, C.q3]
  exact hle4
end Go.Proofs.Ytkioaemhdbcfaaa.Cn
