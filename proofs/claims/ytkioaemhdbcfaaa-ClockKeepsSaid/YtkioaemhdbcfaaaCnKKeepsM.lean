/- Clocks: ClockKeeps, the walk. -/
import Derived.Test.YtkioaemhdbcfaaaCnKKeeps
set_option linter.unusedSimpArgs false
set_option linter.unusedVariables false
set_option linter.unusedSectionVars false
namespace Go.Proofs.Ytkioaemhdbcfaaa.Cn
open Go Go.Proofs

/-- A list of cells beside a tree. -/
structure KC (st s : ASt) (ix : Nat) (cs : List AV) (ib p ig : Nat) : Prop where
  hx : s.h ix = some (.cells cs)
  fx : st.h ix = none
  ng : ix ≠ ig
  np : ix ≠ p
  nb : ix ≠ ib
theorem KC.set {st s : ASt} {ix : Nat} {cs : List AV} {ib p ig : Nat} (h : KC st s ix cs ib p ig) (o : AObj) : KC st (s.set ig o) ix cs ib p ig :=
  ⟨by rw [ASt.set_h, if_neg h.ng]; exact h.hx, h.fx, h.ng, h.np, h.nb⟩
theorem KC.put {st s : ASt} {ix : Nat} {cs : List AV} {ib p ig : Nat} (h : KC st s ix cs ib p ig) (cs' : List AV) (hl : cs'.length = cs.length) : KC st (s.set ix (.cells cs')) ix cs' ib p ig :=
  ⟨by rw [ASt.set_h, if_pos rfl, h.hx]; rfl, h.fx, h.ng, h.np, h.nb⟩
theorem KC.other {st s : ASt} {ix : Nat} {cs : List AV} {ib p ig : Nat} (h : KC st s ix cs ib p ig) {i : Nat} (hi : ix ≠ i) (o : AObj) : KC st (s.set i o) ix cs ib p ig :=
  ⟨by rw [ASt.set_h, if_neg hi]; exact h.hx, h.fx, h.ng, h.np, h.nb⟩
theorem KC.step {st s t : ASt} {ix : Nat} {cs : List AV} {ib p ig : Nat} (h : KC st s ix cs ib p ig) (hl : s.le t) : KC st t ix cs ib p ig :=
  ⟨hl _ _ h.hx, h.fx, h.ng, h.np, h.nb⟩
theorem KC.kw {st s : ASt} {ix : Nat} {cs : List AV} {ib p ig : Nat} (h : KC st s ix cs ib p ig) {S : Soc} {ns : List Nd} (hk : KW st s ib p ig S ns) (o : AObj) : KW st (s.set ix o) ib p ig S ns :=
  ⟨fun j x hj => by rw [ASt.set_h, if_neg (by rintro rfl; rw [h.fx] at hj; cases hj)]; exact hk.le _ _ hj, by rw [ASt.set_h, if_neg (Ne.symm h.nb)]; exact hk.hb,
   ⟨by rw [ASt.set_h, if_neg (Ne.symm h.np)]; exact hk.t.hp, by rw [ASt.set_h, if_neg (Ne.symm h.ng)]; exact hk.t.hg, hk.t.ne, hk.t.few⟩, hk.k, hk.fg, hk.ne⟩
theorem KW.cells {st s : ASt} {ib p ig : Nat} {S : Soc} {ns : List Nd} (h : KW st s ib p ig S ns) {ix : Nat} (hx : s.h ix = none) (cs : List AV) :
    KW st (s.new ix (.cells cs)) ib p ig S ns ∧ KC st (s.new ix (.cells cs)) ix cs ib p ig :=
  ⟨h.step (ASt.le.new s ix _), ASt.new_self _ hx, fresh_of_le h.le hx, (by rintro rfl; rw [h.t.hg] at hx; cases hx), (by rintro rfl; rw [h.t.hp] at hx; cases hx), (by rintro rfl; rw [h.hb] at hx; cases hx)⟩
def u64s (l : List Int) : List AV := l.map (.int .u64)
theorem u64s_set (l : List Int) (i : Nat) (v : Int) : (u64s l).set i (.int .u64 v) = u64s (l.set i v) := by simp [u64s, List.map_set]
theorem u64s_len (l : List Int) : (u64s l).length = l.length := by simp [u64s]
theorem zeros_u64s (n : Nat) : zeros [.int .u64 0] n = u64s (List.replicate n 0) := by
  induction n with
  | zero => rfl
  | succ n ih => rw [zeros, ih]; rfl
theorem fill_set {α : Type} (L : List α) (z : α) {t n : Nat} (h : t < n) (hL : L.length = n) : (L.take t ++ List.replicate (n - t) z).set t (L[t]'(by omega)) = L.take (t + 1) ++ List.replicate (n - (t + 1)) z := by
  rw [List.set_append_right _ _ (by simp; omega), List.take_succ_eq_append_getElem (by omega)]
  have : t - (L.take t).length = 0 := by simp; omega
  rw [this, show n - t = (n - (t + 1)) + 1 by omega, List.replicate_succ, List.set_cons_zero, List.append_assoc]
  rfl
theorem fill_len {α : Type} (L : List α) (z : α) {t n : Nat} (h : t ≤ n) (hL : L.length = n) : (L.take t ++ List.replicate (n - t) z).length = n := by simp; omega
def rateL (ns : List Nd) (i : Nat) : Int := if run ns i = true then rateN ns i else 0
section
variable {st : ASt} {p ig : Nat} {ns : List Nd}
theorem keep_on {i : Nat} (h : TreeAt st p ig ns) (hi : i < ns.length) (he : onE ns[i] = 1) (b : Bool) : ACalls Try.prog F.q8 [.ptr p 0, .int .i64 i, .bool b] st fun r s => r = .int .i64 1 ∧ s = st := by
  refine (on_spec h hi b).mono ?_
  rintro r s ⟨rfl, rfl⟩
  rw [he]; refine ⟨rfl, ?_⟩
  unfold onL; rw [he, if_neg (by decide)]; exact ASt.set_id h.hg
theorem keep_sel {i : Nat} (h : TreeAt st p ig ns) (hi : i < ns.length) (k : Int) (he : selE ns[i] k = 1) : ACalls Try.prog F.q13 [.ptr p 0, .int .i64 i, .int .i64 k] st fun r s => r = .int .i64 1 ∧ s = st := by
  refine (sel_spec h hi k).mono ?_
  rintro r s ⟨rfl, rfl⟩
  rw [he]; refine ⟨rfl, ?_⟩
  unfold selL; rw [he, if_neg (by decide)]; exact ASt.set_id h.hg
theorem keep_div {i : Nat} (h : TreeAt st p ig ns) (hi : i < ns.length) (k : Int) (he : divE ns[i] k = 1) : ACalls Try.prog F.q6 [.ptr p 0, .int .i64 i, .int .i64 k] st fun r s => r = .int .i64 1 ∧ s = st := by
  refine (div_spec h hi k).mono ?_
  rintro r s ⟨rfl, rfl⟩
  rw [he]; refine ⟨rfl, ?_⟩
  unfold divL; rw [he, if_neg (by decide)]; exact ASt.set_id h.hg
end
section
variable {st : ASt} {ib ir iv p ig : Nat} {S : Soc} (hS : S.like)
include hS
/-- All is as it was. -/
theorem kk_end {s : ASt} {ns : List Nd} (h : KW st s ib p ig S ns) (hst : ctickL ns = ns) (hR : KC st s ir (cbools ((List.range S.clocks.length).map (run ns))) ib p ig) (hV : KC st s iv (u64s ((List.range S.clocks.length).map (rateL ns))) ib p ig) :
    awp Try.prog C.q0_c12 (Post [.slot 6] fun r s => r = .bool true ∧ st.le s) [(8, .ptr ib 0), (9, .ptr p 0), (14, .sl 1 ir 0 S.clocks.length), (15, .sl 1 iv 0 S.clocks.length)] s := by
  have hnc := hS.nc
  have hN := h.k.ok
  have hlen := h.k.len
  simp only [↓Bp, Bq, Bs, ↓aop.eq_28, ↓aop.eq_30, Nat.reduceEqDiff, Nat.reduceAdd, Nat.reduceMul, Nat.reduceSub, Nat.reduceLeDiff, Nat.reduceLT, Int.reduceLT, Int.reduceLE, Int.reduceEq, Int.reduceToNat, Int.reduceAdd, Int.reduceSub, Int.reduceNeg, ↓reduceIte, reduceCtorEq, ↓C.q0_W, C.q0_B, C.q0]
  refine (ctick_spec h.t hN).mono ?_
  rintro r s1 rfl
  rw [hst, ASt.set_id h.t.hg]
  simp only [↓Bp, Bq, Bs, ↓aop.eq_28, ↓aop.eq_30, Nat.reduceEqDiff, Nat.reduceAdd, Nat.reduceMul, Nat.reduceSub, Nat.reduceLeDiff, Nat.reduceLT, Int.reduceLT, Int.reduceLE, Int.reduceEq, Int.reduceToNat, Int.reduceAdd, Int.reduceSub, Int.reduceNeg, ↓reduceIte, reduceCtorEq, ↓C.q0_W, C.q0_B, C.q0]
  refine awp_midB (fun _ : Unit => ([] : AFr)) (fun _ s' => st.le s') ?_ ?_
  rotate_left
  · rintro - s' h
    simp only [↓Bp, Bq, Bs, ↓aop.eq_28, ↓aop.eq_30, Nat.reduceEqDiff, Nat.reduceAdd, Nat.reduceMul, Nat.reduceSub, Nat.reduceLeDiff, Nat.reduceLT, Int.reduceLT, Int.reduceLE, Int.reduceEq, Int.reduceToNat, Int.reduceAdd, Int.reduceSub, Int.reduceNeg, ↓reduceIte, reduceCtorEq, ↓C.q0_W, C.q0_B, C.q0]
    exact h
  refine awp_loopK (fun j : Nat => [(8, .ptr ib 0), (9, .ptr p 0), (14, .sl 1 ir 0 S.clocks.length), (15, .sl 1 iv 0 S.clocks.length), (19, .int .i64 j)]) (fun j s' => j ≤ S.clocks.length ∧ s' = s) (fun j => S.clocks.length - j) 0 rfl ⟨Nat.zero_le _, rfl⟩ ?_
  have hb := h.hb
  have hr := hR.hx
  have hv := hV.hx
  rintro j s ⟨hj, rfl⟩
  by_cases hjl : j < S.clocks.length
  rotate_left
  · have hjl' : ¬ (j : Int) < (S.clocks.length : Nat) := by omega
    simp only [↓Bp, Bq, Bs, ↓aop.eq_28, ↓aop.eq_30, Nat.reduceEqDiff, Nat.reduceAdd, Nat.reduceMul, Nat.reduceSub, Nat.reduceLeDiff, Nat.reduceLT, Int.reduceLT, Int.reduceLE, Int.reduceEq, Int.reduceToNat, Int.reduceAdd, Int.reduceSub, Int.reduceNeg, ↓reduceIte, reduceCtorEq, ↓C.q0_W, C.q0_B, C.q0, hjl', hb, Soc.cells, Soc.clkV]
    exact ⟨(), h.le⟩
  have hjl' : (j : Int) < (S.clocks.length : Nat) := by omega
  have hw := wsucc hjl (by omega)
  have hz : (0:Int) ≤ (j : Int) ∧ (j : Int) < (S.clocks.length : Nat) := by omega
  have g1 : (cbools ((List.range S.clocks.length).map (run ns)))[j]? = some (.bool (run ns j)) := by simp [cbools, hjl]
  have g2 : (u64s ((List.range S.clocks.length).map (rateL ns)))[j]? = some (.int .u64 (rateL ns j)) := by simp [u64s, hjl]
  have hrt : ACalls Try.prog F.q9 [.ptr p 0, .int .i64 j] s fun r s' => r = .int .u64 (rateL ns j) ∧ s' = s := rate_spec h.t hN (i := j) (by omega)
  simp only [↓Bp, Bq, Bs, ↓aop.eq_28, ↓aop.eq_30, Nat.reduceEqDiff, Nat.reduceAdd, Nat.reduceMul, Nat.reduceSub, Nat.reduceLeDiff, Nat.reduceLT, Int.reduceLT, Int.reduceLE, Int.reduceEq, Int.reduceToNat, Int.reduceAdd, Int.reduceSub, Int.reduceNeg, ↓reduceIte, reduceCtorEq, ↓C.q0_W, C.q0_B, C.q0, hjl', hb, Soc.cells, Soc.clkV, hz, hr, hv, g1, g2, Int.toNat_natCast, Nat.mul_one]
  refine (running_at h.t hN (i := j) (by omega)).mono ?_
  rintro r s1 ⟨rfl, rfl⟩
  simp only [↓Bp, Bq, Bs, ↓aop.eq_28, ↓aop.eq_30, Nat.reduceEqDiff, Nat.reduceAdd, Nat.reduceMul, Nat.reduceSub, Nat.reduceLeDiff, Nat.reduceLT, Int.reduceLT, Int.reduceLE, Int.reduceEq, Int.reduceToNat, Int.reduceAdd, Int.reduceSub, Int.reduceNeg, ↓reduceIte, reduceCtorEq, ↓C.q0_W, C.q0_B, C.q0, hr, hv, g1, g2, hz, Int.toNat_natCast, Nat.mul_one]
  refine hrt.mono ?_
  rintro r s2 ⟨rfl, rfl⟩
  simp only [↓Bp, Bq, Bs, ↓aop.eq_28, ↓aop.eq_30, Nat.reduceEqDiff, Nat.reduceAdd, Nat.reduceMul, Nat.reduceSub, Nat.reduceLeDiff, Nat.reduceLT, Int.reduceLT, Int.reduceLE, Int.reduceEq, Int.reduceToNat, Int.reduceAdd, Int.reduceSub, Int.reduceNeg, ↓reduceIte, reduceCtorEq, ↓C.q0_W, C.q0_B, C.q0, hr, hv, g1, g2, hz, hw, Int.toNat_natCast, Nat.mul_one]
  exact ⟨fun _ => trivial, j + 1, rfl, hjl, by omega⟩
/-- What is done to a clock that does not have it. -/
theorem kk_errs {s : ASt} {ns : List Nd} {i : Nat} (hi : i < ns.length) (h : KW st s ib p ig S ns) (hst : ctickL ns = ns) (hR : KC st s ir (cbools ((List.range S.clocks.length).map (run ns))) ib p ig) (hV : KC st s iv (u64s ((List.range S.clocks.length).map (rateL ns))) ib p ig) :
    awp Try.prog C.q0_c15 (Post [.slot 6] fun r s => r = .bool true ∧ st.le s) [(8, .ptr ib 0), (9, .ptr p 0), (14, .sl 1 ir 0 S.clocks.length), (15, .sl 1 iv 0 S.clocks.length), (17, .int .i64 i), (18, .int .u8 ns[i].c.kind)] s := by
  have hb := h.hb
  have hlen := h.k.len
  have hiC : i < S.clocks.length := by omega
  have hsame := h.k.same i hi hiC
  have hok := h.k.ok i hi
  have hfew := hok.few
  have hnone : ¬ isCk ns ((S.clocks.length : Nat) : Int) := fun e => by have := e.2; omega
  have ho : ns[i].c.kind ≠ 112 ∧ ns[i].c.kind ≠ 103 → onE ns[i] = 1 := fun e => by unfold onE; rw [if_neg (by omega)]
  have hs : ∀ k : Int, (ns[i].c.kind ≠ 109 ∨ 2 ≤ k) → selE ns[i] k = 1 := fun k e => by unfold selE; rw [if_neg (by omega)]
  have hd : ∀ k : Int, (ns[i].c.kind ≠ 100 ∨ k < 1) → divE ns[i] k = 1 := fun k e => by unfold divE; rw [if_neg (by omega)]
  rw [hsame] at ho hs hd ⊢
  rcases hok.kind with hk | hk | hk | hk | hk
  · rw [hsame] at hk
    rw [hk] at ho hs hd ⊢
    simp only [↓Bp, Bq, Bs, ↓aop.eq_28, ↓aop.eq_30, Nat.reduceEqDiff, Nat.reduceAdd, Nat.reduceMul, Nat.reduceSub, Nat.reduceLeDiff, Nat.reduceLT, Int.reduceLT, Int.reduceLE, Int.reduceEq, Int.reduceToNat, Int.reduceAdd, Int.reduceSub, Int.reduceNeg, ↓reduceIte, reduceCtorEq, ↓C.q0_r27_w, C.q0_r27_b, ↓C.q0_c13_w, ↓C.q0_c14_w, ↓C.q0_r26_w, C.q0_r26_b, ↓C.q0_c15_w, ↓C.q0_r25_w, C.q0_r25_b, ↓C.q0_c16_w, ↓C.q0_r24_w, C.q0_r24_b, ↓C.q0_c17_w, ↓C.q0_r21_w, C.q0_r21_b, ↓C.q0_c18_w, ↓C.q0_r23_w, C.q0_r23_b, ↓C.q0_c19_w, ↓C.q0_r22_w, C.q0_r22_b, ↓C.q0_b20_w, ↓C.q0_c21_w, ↓C.q0_c22_w, ↓C.q0_r20_w, C.q0_r20_b, ↓C.q0_b24_w, ↓C.q0_c25_w, ↓C.q0_r19_w, C.q0_r19_b, ↓C.q0_c26_w, ↓C.q0_r18_w, C.q0_r18_b, ↓C.q0_c27_w, ↓C.q0_r17_w, C.q0_r17_b, ↓C.q0_c28_w, ↓C.q0_r15_w, C.q0_r15_b, ↓C.q0_c29_w, ↓C.q0_r16_w, C.q0_r16_b, ↓C.q0_b30_w, ↓C.q0_c31_w, ↓C.q0_c32_w, ↓C.q0_r14_w, C.q0_r14_b, ↓C.q0_b34_w, ↓C.q0_c35_w, ↓C.q0_r13_w, C.q0_r13_b, ↓C.q0_c36_w, ↓C.q0_r8_w, C.q0_r8_b, ↓C.q0_c37_w, ↓C.q0_r12_w, C.q0_r12_b, ↓C.q0_c38_w, ↓C.q0_r11_w, C.q0_r11_b, ↓C.q0_c39_w, ↓C.q0_r10_w, C.q0_r10_b, ↓C.q0_c40_w, ↓C.q0_r9_w, C.q0_r9_b, ↓C.q0_b41_w, ↓C.q0_c42_w, ↓C.q0_c43_w, ↓C.q0_r7_w, C.q0_r7_b, ↓C.q0_b45_w, ↓C.q0_c46_w, ↓C.q0_r6_w, C.q0_r6_b, ↓C.q0_c47_w, ↓C.q0_r5_w, C.q0_r5_b, ↓C.q0_c48_w, ↓C.q0_c49_w, ↓C.q0_r4_w, C.q0_r4_b, ↓C.q0_c50_w, ↓C.q0_r3_w, C.q0_r3_b, ↓C.q0_c51_w, ↓C.q0_r2_w, C.q0_r2_b, ↓C.q0_c52_w, ↓C.q0_r1_w, C.q0_r1_b, ↓C.q0_c53_w, ↓C.q0_r0_w, C.q0_r0_b, C.q0, hb, Soc.cells, Soc.clkV, Int.toNat_natCast]
    refine (keep_on h.t hi (ho (by omega)) true).mono ?_
    rintro r s2 ⟨rfl, rfl⟩
    simp only [↓Bp, Bq, Bs, ↓aop.eq_28, ↓aop.eq_30, Nat.reduceEqDiff, Nat.reduceAdd, Nat.reduceMul, Nat.reduceSub, Nat.reduceLeDiff, Nat.reduceLT, Int.reduceLT, Int.reduceLE, Int.reduceEq, Int.reduceToNat, Int.reduceAdd, Int.reduceSub, Int.reduceNeg, ↓reduceIte, reduceCtorEq, ↓C.q0_r27_w, C.q0_r27_b, ↓C.q0_c13_w, ↓C.q0_c14_w, ↓C.q0_r26_w, C.q0_r26_b, ↓C.q0_c15_w, ↓C.q0_r25_w, C.q0_r25_b, ↓C.q0_c16_w, ↓C.q0_r24_w, C.q0_r24_b, ↓C.q0_c17_w, ↓C.q0_r21_w, C.q0_r21_b, ↓C.q0_c18_w, ↓C.q0_r23_w, C.q0_r23_b, ↓C.q0_c19_w, ↓C.q0_r22_w, C.q0_r22_b, ↓C.q0_b20_w, ↓C.q0_c21_w, ↓C.q0_c22_w, ↓C.q0_r20_w, C.q0_r20_b, ↓C.q0_b24_w, ↓C.q0_c25_w, ↓C.q0_r19_w, C.q0_r19_b, ↓C.q0_c26_w, ↓C.q0_r18_w, C.q0_r18_b, ↓C.q0_c27_w, ↓C.q0_r17_w, C.q0_r17_b, ↓C.q0_c28_w, ↓C.q0_r15_w, C.q0_r15_b, ↓C.q0_c29_w, ↓C.q0_r16_w, C.q0_r16_b, ↓C.q0_b30_w, ↓C.q0_c31_w, ↓C.q0_c32_w, ↓C.q0_r14_w, C.q0_r14_b, ↓C.q0_b34_w, ↓C.q0_c35_w, ↓C.q0_r13_w, C.q0_r13_b, ↓C.q0_c36_w, ↓C.q0_r8_w, C.q0_r8_b, ↓C.q0_c37_w, ↓C.q0_r12_w, C.q0_r12_b, ↓C.q0_c38_w, ↓C.q0_r11_w, C.q0_r11_b, ↓C.q0_c39_w, ↓C.q0_r10_w, C.q0_r10_b, ↓C.q0_c40_w, ↓C.q0_r9_w, C.q0_r9_b, ↓C.q0_b41_w, ↓C.q0_c42_w, ↓C.q0_c43_w, ↓C.q0_r7_w, C.q0_r7_b, ↓C.q0_b45_w, ↓C.q0_c46_w, ↓C.q0_r6_w, C.q0_r6_b, ↓C.q0_c47_w, ↓C.q0_r5_w, C.q0_r5_b, ↓C.q0_c48_w, ↓C.q0_c49_w, ↓C.q0_r4_w, C.q0_r4_b, ↓C.q0_c50_w, ↓C.q0_r3_w, C.q0_r3_b, ↓C.q0_c51_w, ↓C.q0_r2_w, C.q0_r2_b, ↓C.q0_c52_w, ↓C.q0_r1_w, C.q0_r1_b, ↓C.q0_c53_w, ↓C.q0_r0_w, C.q0_r0_b, C.q0, hb, Soc.cells, Soc.clkV, Int.toNat_natCast]
    refine (keep_on h.t hi (ho (by omega)) false).mono ?_
    rintro r s2 ⟨rfl, rfl⟩
    simp only [↓Bp, Bq, Bs, ↓aop.eq_28, ↓aop.eq_30, Nat.reduceEqDiff, Nat.reduceAdd, Nat.reduceMul, Nat.reduceSub, Nat.reduceLeDiff, Nat.reduceLT, Int.reduceLT, Int.reduceLE, Int.reduceEq, Int.reduceToNat, Int.reduceAdd, Int.reduceSub, Int.reduceNeg, ↓reduceIte, reduceCtorEq, ↓C.q0_r27_w, C.q0_r27_b, ↓C.q0_c13_w, ↓C.q0_c14_w, ↓C.q0_r26_w, C.q0_r26_b, ↓C.q0_c15_w, ↓C.q0_r25_w, C.q0_r25_b, ↓C.q0_c16_w, ↓C.q0_r24_w, C.q0_r24_b, ↓C.q0_c17_w, ↓C.q0_r21_w, C.q0_r21_b, ↓C.q0_c18_w, ↓C.q0_r23_w, C.q0_r23_b, ↓C.q0_c19_w, ↓C.q0_r22_w, C.q0_r22_b, ↓C.q0_b20_w, ↓C.q0_c21_w, ↓C.q0_c22_w, ↓C.q0_r20_w, C.q0_r20_b, ↓C.q0_b24_w, ↓C.q0_c25_w, ↓C.q0_r19_w, C.q0_r19_b, ↓C.q0_c26_w, ↓C.q0_r18_w, C.q0_r18_b, ↓C.q0_c27_w, ↓C.q0_r17_w, C.q0_r17_b, ↓C.q0_c28_w, ↓C.q0_r15_w, C.q0_r15_b, ↓C.q0_c29_w, ↓C.q0_r16_w, C.q0_r16_b, ↓C.q0_b30_w, ↓C.q0_c31_w, ↓C.q0_c32_w, ↓C.q0_r14_w, C.q0_r14_b, ↓C.q0_b34_w, ↓C.q0_c35_w, ↓C.q0_r13_w, C.q0_r13_b, ↓C.q0_c36_w, ↓C.q0_r8_w, C.q0_r8_b, ↓C.q0_c37_w, ↓C.q0_r12_w, C.q0_r12_b, ↓C.q0_c38_w, ↓C.q0_r11_w, C.q0_r11_b, ↓C.q0_c39_w, ↓C.q0_r10_w, C.q0_r10_b, ↓C.q0_c40_w, ↓C.q0_r9_w, C.q0_r9_b, ↓C.q0_b41_w, ↓C.q0_c42_w, ↓C.q0_c43_w, ↓C.q0_r7_w, C.q0_r7_b, ↓C.q0_b45_w, ↓C.q0_c46_w, ↓C.q0_r6_w, C.q0_r6_b, ↓C.q0_c47_w, ↓C.q0_r5_w, C.q0_r5_b, ↓C.q0_c48_w, ↓C.q0_c49_w, ↓C.q0_r4_w, C.q0_r4_b, ↓C.q0_c50_w, ↓C.q0_r3_w, C.q0_r3_b, ↓C.q0_c51_w, ↓C.q0_r2_w, C.q0_r2_b, ↓C.q0_c52_w, ↓C.q0_r1_w, C.q0_r1_b, ↓C.q0_c53_w, ↓C.q0_r0_w, C.q0_r0_b, C.q0, hb, Soc.cells, Soc.clkV, Int.toNat_natCast]
    refine (keep_sel h.t hi 0 (hs 0 (by omega))).mono ?_
    rintro r s2 ⟨rfl, rfl⟩
    simp only [↓Bp, Bq, Bs, ↓aop.eq_28, ↓aop.eq_30, Nat.reduceEqDiff, Nat.reduceAdd, Nat.reduceMul, Nat.reduceSub, Nat.reduceLeDiff, Nat.reduceLT, Int.reduceLT, Int.reduceLE, Int.reduceEq, Int.reduceToNat, Int.reduceAdd, Int.reduceSub, Int.reduceNeg, ↓reduceIte, reduceCtorEq, ↓C.q0_r27_w, C.q0_r27_b, ↓C.q0_c13_w, ↓C.q0_c14_w, ↓C.q0_r26_w, C.q0_r26_b, ↓C.q0_c15_w, ↓C.q0_r25_w, C.q0_r25_b, ↓C.q0_c16_w, ↓C.q0_r24_w, C.q0_r24_b, ↓C.q0_c17_w, ↓C.q0_r21_w, C.q0_r21_b, ↓C.q0_c18_w, ↓C.q0_r23_w, C.q0_r23_b, ↓C.q0_c19_w, ↓C.q0_r22_w, C.q0_r22_b, ↓C.q0_b20_w, ↓C.q0_c21_w, ↓C.q0_c22_w, ↓C.q0_r20_w, C.q0_r20_b, ↓C.q0_b24_w, ↓C.q0_c25_w, ↓C.q0_r19_w, C.q0_r19_b, ↓C.q0_c26_w, ↓C.q0_r18_w, C.q0_r18_b, ↓C.q0_c27_w, ↓C.q0_r17_w, C.q0_r17_b, ↓C.q0_c28_w, ↓C.q0_r15_w, C.q0_r15_b, ↓C.q0_c29_w, ↓C.q0_r16_w, C.q0_r16_b, ↓C.q0_b30_w, ↓C.q0_c31_w, ↓C.q0_c32_w, ↓C.q0_r14_w, C.q0_r14_b, ↓C.q0_b34_w, ↓C.q0_c35_w, ↓C.q0_r13_w, C.q0_r13_b, ↓C.q0_c36_w, ↓C.q0_r8_w, C.q0_r8_b, ↓C.q0_c37_w, ↓C.q0_r12_w, C.q0_r12_b, ↓C.q0_c38_w, ↓C.q0_r11_w, C.q0_r11_b, ↓C.q0_c39_w, ↓C.q0_r10_w, C.q0_r10_b, ↓C.q0_c40_w, ↓C.q0_r9_w, C.q0_r9_b, ↓C.q0_b41_w, ↓C.q0_c42_w, ↓C.q0_c43_w, ↓C.q0_r7_w, C.q0_r7_b, ↓C.q0_b45_w, ↓C.q0_c46_w, ↓C.q0_r6_w, C.q0_r6_b, ↓C.q0_c47_w, ↓C.q0_r5_w, C.q0_r5_b, ↓C.q0_c48_w, ↓C.q0_c49_w, ↓C.q0_r4_w, C.q0_r4_b, ↓C.q0_c50_w, ↓C.q0_r3_w, C.q0_r3_b, ↓C.q0_c51_w, ↓C.q0_r2_w, C.q0_r2_b, ↓C.q0_c52_w, ↓C.q0_r1_w, C.q0_r1_b, ↓C.q0_c53_w, ↓C.q0_r0_w, C.q0_r0_b, C.q0, hb, Soc.cells, Soc.clkV, Int.toNat_natCast]
    refine (keep_div h.t hi 1 (hd 1 (by omega))).mono ?_
    rintro r s2 ⟨rfl, rfl⟩
    simp only [↓Bp, Bq, Bs, ↓aop.eq_28, ↓aop.eq_30, Nat.reduceEqDiff, Nat.reduceAdd, Nat.reduceMul, Nat.reduceSub, Nat.reduceLeDiff, Nat.reduceLT, Int.reduceLT, Int.reduceLE, Int.reduceEq, Int.reduceToNat, Int.reduceAdd, Int.reduceSub, Int.reduceNeg, ↓reduceIte, reduceCtorEq, ↓C.q0_r27_w, C.q0_r27_b, ↓C.q0_c13_w, ↓C.q0_c14_w, ↓C.q0_r26_w, C.q0_r26_b, ↓C.q0_c15_w, ↓C.q0_r25_w, C.q0_r25_b, ↓C.q0_c16_w, ↓C.q0_r24_w, C.q0_r24_b, ↓C.q0_c17_w, ↓C.q0_r21_w, C.q0_r21_b, ↓C.q0_c18_w, ↓C.q0_r23_w, C.q0_r23_b, ↓C.q0_c19_w, ↓C.q0_r22_w, C.q0_r22_b, ↓C.q0_b20_w, ↓C.q0_c21_w, ↓C.q0_c22_w, ↓C.q0_r20_w, C.q0_r20_b, ↓C.q0_b24_w, ↓C.q0_c25_w, ↓C.q0_r19_w, C.q0_r19_b, ↓C.q0_c26_w, ↓C.q0_r18_w, C.q0_r18_b, ↓C.q0_c27_w, ↓C.q0_r17_w, C.q0_r17_b, ↓C.q0_c28_w, ↓C.q0_r15_w, C.q0_r15_b, ↓C.q0_c29_w, ↓C.q0_r16_w, C.q0_r16_b, ↓C.q0_b30_w, ↓C.q0_c31_w, ↓C.q0_c32_w, ↓C.q0_r14_w, C.q0_r14_b, ↓C.q0_b34_w, ↓C.q0_c35_w, ↓C.q0_r13_w, C.q0_r13_b, ↓C.q0_c36_w, ↓C.q0_r8_w, C.q0_r8_b, ↓C.q0_c37_w, ↓C.q0_r12_w, C.q0_r12_b, ↓C.q0_c38_w, ↓C.q0_r11_w, C.q0_r11_b, ↓C.q0_c39_w, ↓C.q0_r10_w, C.q0_r10_b, ↓C.q0_c40_w, ↓C.q0_r9_w, C.q0_r9_b, ↓C.q0_b41_w, ↓C.q0_c42_w, ↓C.q0_c43_w, ↓C.q0_r7_w, C.q0_r7_b, ↓C.q0_b45_w, ↓C.q0_c46_w, ↓C.q0_r6_w, C.q0_r6_b, ↓C.q0_c47_w, ↓C.q0_r5_w, C.q0_r5_b, ↓C.q0_c48_w, ↓C.q0_c49_w, ↓C.q0_r4_w, C.q0_r4_b, ↓C.q0_c50_w, ↓C.q0_r3_w, C.q0_r3_b, ↓C.q0_c51_w, ↓C.q0_r2_w, C.q0_r2_b, ↓C.q0_c52_w, ↓C.q0_r1_w, C.q0_r1_b, ↓C.q0_c53_w, ↓C.q0_r0_w, C.q0_r0_b, C.q0, hb, Soc.cells, Soc.clkV, Int.toNat_natCast]
    refine (on_none h.t hnone true).mono ?_
    rintro r s2 ⟨rfl, rfl⟩
    simp only [↓Bp, Bq, Bs, ↓aop.eq_28, ↓aop.eq_30, Nat.reduceEqDiff, Nat.reduceAdd, Nat.reduceMul, Nat.reduceSub, Nat.reduceLeDiff, Nat.reduceLT, Int.reduceLT, Int.reduceLE, Int.reduceEq, Int.reduceToNat, Int.reduceAdd, Int.reduceSub, Int.reduceNeg, ↓reduceIte, reduceCtorEq, ↓C.q0_r27_w, C.q0_r27_b, ↓C.q0_c13_w, ↓C.q0_c14_w, ↓C.q0_r26_w, C.q0_r26_b, ↓C.q0_c15_w, ↓C.q0_r25_w, C.q0_r25_b, ↓C.q0_c16_w, ↓C.q0_r24_w, C.q0_r24_b, ↓C.q0_c17_w, ↓C.q0_r21_w, C.q0_r21_b, ↓C.q0_c18_w, ↓C.q0_r23_w, C.q0_r23_b, ↓C.q0_c19_w, ↓C.q0_r22_w, C.q0_r22_b, ↓C.q0_b20_w, ↓C.q0_c21_w, ↓C.q0_c22_w, ↓C.q0_r20_w, C.q0_r20_b, ↓C.q0_b24_w, ↓C.q0_c25_w, ↓C.q0_r19_w, C.q0_r19_b, ↓C.q0_c26_w, ↓C.q0_r18_w, C.q0_r18_b, ↓C.q0_c27_w, ↓C.q0_r17_w, C.q0_r17_b, ↓C.q0_c28_w, ↓C.q0_r15_w, C.q0_r15_b, ↓C.q0_c29_w, ↓C.q0_r16_w, C.q0_r16_b, ↓C.q0_b30_w, ↓C.q0_c31_w, ↓C.q0_c32_w, ↓C.q0_r14_w, C.q0_r14_b, ↓C.q0_b34_w, ↓C.q0_c35_w, ↓C.q0_r13_w, C.q0_r13_b, ↓C.q0_c36_w, ↓C.q0_r8_w, C.q0_r8_b, ↓C.q0_c37_w, ↓C.q0_r12_w, C.q0_r12_b, ↓C.q0_c38_w, ↓C.q0_r11_w, C.q0_r11_b, ↓C.q0_c39_w, ↓C.q0_r10_w, C.q0_r10_b, ↓C.q0_c40_w, ↓C.q0_r9_w, C.q0_r9_b, ↓C.q0_b41_w, ↓C.q0_c42_w, ↓C.q0_c43_w, ↓C.q0_r7_w, C.q0_r7_b, ↓C.q0_b45_w, ↓C.q0_c46_w, ↓C.q0_r6_w, C.q0_r6_b, ↓C.q0_c47_w, ↓C.q0_r5_w, C.q0_r5_b, ↓C.q0_c48_w, ↓C.q0_c49_w, ↓C.q0_r4_w, C.q0_r4_b, ↓C.q0_c50_w, ↓C.q0_r3_w, C.q0_r3_b, ↓C.q0_c51_w, ↓C.q0_r2_w, C.q0_r2_b, ↓C.q0_c52_w, ↓C.q0_r1_w, C.q0_r1_b, ↓C.q0_c53_w, ↓C.q0_r0_w, C.q0_r0_b, C.q0]
    rw [C.q0_c12_w, awp_keep]
    exact kk_end hS h hst hR hV
  · rw [hsame] at hk
    rw [hk] at ho hs hd ⊢
    simp only [↓Bp, Bq, Bs, ↓aop.eq_28, ↓aop.eq_30, Nat.reduceEqDiff, Nat.reduceAdd, Nat.reduceMul, Nat.reduceSub, Nat.reduceLeDiff, Nat.reduceLT, Int.reduceLT, Int.reduceLE, Int.reduceEq, Int.reduceToNat, Int.reduceAdd, Int.reduceSub, Int.reduceNeg, ↓reduceIte, reduceCtorEq, ↓C.q0_r27_w, C.q0_r27_b, ↓C.q0_c13_w, ↓C.q0_c14_w, ↓C.q0_r26_w, C.q0_r26_b, ↓C.q0_c15_w, ↓C.q0_r25_w, C.q0_r25_b, ↓C.q0_c16_w, ↓C.q0_r24_w, C.q0_r24_b, ↓C.q0_c17_w, ↓C.q0_r21_w, C.q0_r21_b, ↓C.q0_c18_w, ↓C.q0_r23_w, C.q0_r23_b, ↓C.q0_c19_w, ↓C.q0_r22_w, C.q0_r22_b, ↓C.q0_b20_w, ↓C.q0_c21_w, ↓C.q0_c22_w, ↓C.q0_r20_w, C.q0_r20_b, ↓C.q0_b24_w, ↓C.q0_c25_w, ↓C.q0_r19_w, C.q0_r19_b, ↓C.q0_c26_w, ↓C.q0_r18_w, C.q0_r18_b, ↓C.q0_c27_w, ↓C.q0_r17_w, C.q0_r17_b, ↓C.q0_c28_w, ↓C.q0_r15_w, C.q0_r15_b, ↓C.q0_c29_w, ↓C.q0_r16_w, C.q0_r16_b, ↓C.q0_b30_w, ↓C.q0_c31_w, ↓C.q0_c32_w, ↓C.q0_r14_w, C.q0_r14_b, ↓C.q0_b34_w, ↓C.q0_c35_w, ↓C.q0_r13_w, C.q0_r13_b, ↓C.q0_c36_w, ↓C.q0_r8_w, C.q0_r8_b, ↓C.q0_c37_w, ↓C.q0_r12_w, C.q0_r12_b, ↓C.q0_c38_w, ↓C.q0_r11_w, C.q0_r11_b, ↓C.q0_c39_w, ↓C.q0_r10_w, C.q0_r10_b, ↓C.q0_c40_w, ↓C.q0_r9_w, C.q0_r9_b, ↓C.q0_b41_w, ↓C.q0_c42_w, ↓C.q0_c43_w, ↓C.q0_r7_w, C.q0_r7_b, ↓C.q0_b45_w, ↓C.q0_c46_w, ↓C.q0_r6_w, C.q0_r6_b, ↓C.q0_c47_w, ↓C.q0_r5_w, C.q0_r5_b, ↓C.q0_c48_w, ↓C.q0_c49_w, ↓C.q0_r4_w, C.q0_r4_b, ↓C.q0_c50_w, ↓C.q0_r3_w, C.q0_r3_b, ↓C.q0_c51_w, ↓C.q0_r2_w, C.q0_r2_b, ↓C.q0_c52_w, ↓C.q0_r1_w, C.q0_r1_b, ↓C.q0_c53_w, ↓C.q0_r0_w, C.q0_r0_b, C.q0, hb, Soc.cells, Soc.clkV, Int.toNat_natCast]
    refine (keep_sel h.t hi 0 (hs 0 (by omega))).mono ?_
    rintro r s2 ⟨rfl, rfl⟩
    simp only [↓Bp, Bq, Bs, ↓aop.eq_28, ↓aop.eq_30, Nat.reduceEqDiff, Nat.reduceAdd, Nat.reduceMul, Nat.reduceSub, Nat.reduceLeDiff, Nat.reduceLT, Int.reduceLT, Int.reduceLE, Int.reduceEq, Int.reduceToNat, Int.reduceAdd, Int.reduceSub, Int.reduceNeg, ↓reduceIte, reduceCtorEq, ↓C.q0_r27_w, C.q0_r27_b, ↓C.q0_c13_w, ↓C.q0_c14_w, ↓C.q0_r26_w, C.q0_r26_b, ↓C.q0_c15_w, ↓C.q0_r25_w, C.q0_r25_b, ↓C.q0_c16_w, ↓C.q0_r24_w, C.q0_r24_b, ↓C.q0_c17_w, ↓C.q0_r21_w, C.q0_r21_b, ↓C.q0_c18_w, ↓C.q0_r23_w, C.q0_r23_b, ↓C.q0_c19_w, ↓C.q0_r22_w, C.q0_r22_b, ↓C.q0_b20_w, ↓C.q0_c21_w, ↓C.q0_c22_w, ↓C.q0_r20_w, C.q0_r20_b, ↓C.q0_b24_w, ↓C.q0_c25_w, ↓C.q0_r19_w, C.q0_r19_b, ↓C.q0_c26_w, ↓C.q0_r18_w, C.q0_r18_b, ↓C.q0_c27_w, ↓C.q0_r17_w, C.q0_r17_b, ↓C.q0_c28_w, ↓C.q0_r15_w, C.q0_r15_b, ↓C.q0_c29_w, ↓C.q0_r16_w, C.q0_r16_b, ↓C.q0_b30_w, ↓C.q0_c31_w, ↓C.q0_c32_w, ↓C.q0_r14_w, C.q0_r14_b, ↓C.q0_b34_w, ↓C.q0_c35_w, ↓C.q0_r13_w, C.q0_r13_b, ↓C.q0_c36_w, ↓C.q0_r8_w, C.q0_r8_b, ↓C.q0_c37_w, ↓C.q0_r12_w, C.q0_r12_b, ↓C.q0_c38_w, ↓C.q0_r11_w, C.q0_r11_b, ↓C.q0_c39_w, ↓C.q0_r10_w, C.q0_r10_b, ↓C.q0_c40_w, ↓C.q0_r9_w, C.q0_r9_b, ↓C.q0_b41_w, ↓C.q0_c42_w, ↓C.q0_c43_w, ↓C.q0_r7_w, C.q0_r7_b, ↓C.q0_b45_w, ↓C.q0_c46_w, ↓C.q0_r6_w, C.q0_r6_b, ↓C.q0_c47_w, ↓C.q0_r5_w, C.q0_r5_b, ↓C.q0_c48_w, ↓C.q0_c49_w, ↓C.q0_r4_w, C.q0_r4_b, ↓C.q0_c50_w, ↓C.q0_r3_w, C.q0_r3_b, ↓C.q0_c51_w, ↓C.q0_r2_w, C.q0_r2_b, ↓C.q0_c52_w, ↓C.q0_r1_w, C.q0_r1_b, ↓C.q0_c53_w, ↓C.q0_r0_w, C.q0_r0_b, C.q0, hb, Soc.cells, Soc.clkV, Int.toNat_natCast]
    refine (keep_div h.t hi 1 (hd 1 (by omega))).mono ?_
    rintro r s2 ⟨rfl, rfl⟩
    simp only [↓Bp, Bq, Bs, ↓aop.eq_28, ↓aop.eq_30, Nat.reduceEqDiff, Nat.reduceAdd, Nat.reduceMul, Nat.reduceSub, Nat.reduceLeDiff, Nat.reduceLT, Int.reduceLT, Int.reduceLE, Int.reduceEq, Int.reduceToNat, Int.reduceAdd, Int.reduceSub, Int.reduceNeg, ↓reduceIte, reduceCtorEq, ↓C.q0_r27_w, C.q0_r27_b, ↓C.q0_c13_w, ↓C.q0_c14_w, ↓C.q0_r26_w, C.q0_r26_b, ↓C.q0_c15_w, ↓C.q0_r25_w, C.q0_r25_b, ↓C.q0_c16_w, ↓C.q0_r24_w, C.q0_r24_b, ↓C.q0_c17_w, ↓C.q0_r21_w, C.q0_r21_b, ↓C.q0_c18_w, ↓C.q0_r23_w, C.q0_r23_b, ↓C.q0_c19_w, ↓C.q0_r22_w, C.q0_r22_b, ↓C.q0_b20_w, ↓C.q0_c21_w, ↓C.q0_c22_w, ↓C.q0_r20_w, C.q0_r20_b, ↓C.q0_b24_w, ↓C.q0_c25_w, ↓C.q0_r19_w, C.q0_r19_b, ↓C.q0_c26_w, ↓C.q0_r18_w, C.q0_r18_b, ↓C.q0_c27_w, ↓C.q0_r17_w, C.q0_r17_b, ↓C.q0_c28_w, ↓C.q0_r15_w, C.q0_r15_b, ↓C.q0_c29_w, ↓C.q0_r16_w, C.q0_r16_b, ↓C.q0_b30_w, ↓C.q0_c31_w, ↓C.q0_c32_w, ↓C.q0_r14_w, C.q0_r14_b, ↓C.q0_b34_w, ↓C.q0_c35_w, ↓C.q0_r13_w, C.q0_r13_b, ↓C.q0_c36_w, ↓C.q0_r8_w, C.q0_r8_b, ↓C.q0_c37_w, ↓C.q0_r12_w, C.q0_r12_b, ↓C.q0_c38_w, ↓C.q0_r11_w, C.q0_r11_b, ↓C.q0_c39_w, ↓C.q0_r10_w, C.q0_r10_b, ↓C.q0_c40_w, ↓C.q0_r9_w, C.q0_r9_b, ↓C.q0_b41_w, ↓C.q0_c42_w, ↓C.q0_c43_w, ↓C.q0_r7_w, C.q0_r7_b, ↓C.q0_b45_w, ↓C.q0_c46_w, ↓C.q0_r6_w, C.q0_r6_b, ↓C.q0_c47_w, ↓C.q0_r5_w, C.q0_r5_b, ↓C.q0_c48_w, ↓C.q0_c49_w, ↓C.q0_r4_w, C.q0_r4_b, ↓C.q0_c50_w, ↓C.q0_r3_w, C.q0_r3_b, ↓C.q0_c51_w, ↓C.q0_r2_w, C.q0_r2_b, ↓C.q0_c52_w, ↓C.q0_r1_w, C.q0_r1_b, ↓C.q0_c53_w, ↓C.q0_r0_w, C.q0_r0_b, C.q0, hb, Soc.cells, Soc.clkV, Int.toNat_natCast]
    refine (on_none h.t hnone true).mono ?_
    rintro r s2 ⟨rfl, rfl⟩
    simp only [↓Bp, Bq, Bs, ↓aop.eq_28, ↓aop.eq_30, Nat.reduceEqDiff, Nat.reduceAdd, Nat.reduceMul, Nat.reduceSub, Nat.reduceLeDiff, Nat.reduceLT, Int.reduceLT, Int.reduceLE, Int.reduceEq, Int.reduceToNat, Int.reduceAdd, Int.reduceSub, Int.reduceNeg, ↓reduceIte, reduceCtorEq, ↓C.q0_r27_w, C.q0_r27_b, ↓C.q0_c13_w, ↓C.q0_c14_w, ↓C.q0_r26_w, C.q0_r26_b, ↓C.q0_c15_w, ↓C.q0_r25_w, C.q0_r25_b, ↓C.q0_c16_w, ↓C.q0_r24_w, C.q0_r24_b, ↓C.q0_c17_w, ↓C.q0_r21_w, C.q0_r21_b, ↓C.q0_c18_w, ↓C.q0_r23_w, C.q0_r23_b, ↓C.q0_c19_w, ↓C.q0_r22_w, C.q0_r22_b, ↓C.q0_b20_w, ↓C.q0_c21_w, ↓C.q0_c22_w, ↓C.q0_r20_w, C.q0_r20_b, ↓C.q0_b24_w, ↓C.q0_c25_w, ↓C.q0_r19_w, C.q0_r19_b, ↓C.q0_c26_w, ↓C.q0_r18_w, C.q0_r18_b, ↓C.q0_c27_w, ↓C.q0_r17_w, C.q0_r17_b, ↓C.q0_c28_w, ↓C.q0_r15_w, C.q0_r15_b, ↓C.q0_c29_w, ↓C.q0_r16_w, C.q0_r16_b, ↓C.q0_b30_w, ↓C.q0_c31_w, ↓C.q0_c32_w, ↓C.q0_r14_w, C.q0_r14_b, ↓C.q0_b34_w, ↓C.q0_c35_w, ↓C.q0_r13_w, C.q0_r13_b, ↓C.q0_c36_w, ↓C.q0_r8_w, C.q0_r8_b, ↓C.q0_c37_w, ↓C.q0_r12_w, C.q0_r12_b, ↓C.q0_c38_w, ↓C.q0_r11_w, C.q0_r11_b, ↓C.q0_c39_w, ↓C.q0_r10_w, C.q0_r10_b, ↓C.q0_c40_w, ↓C.q0_r9_w, C.q0_r9_b, ↓C.q0_b41_w, ↓C.q0_c42_w, ↓C.q0_c43_w, ↓C.q0_r7_w, C.q0_r7_b, ↓C.q0_b45_w, ↓C.q0_c46_w, ↓C.q0_r6_w, C.q0_r6_b, ↓C.q0_c47_w, ↓C.q0_r5_w, C.q0_r5_b, ↓C.q0_c48_w, ↓C.q0_c49_w, ↓C.q0_r4_w, C.q0_r4_b, ↓C.q0_c50_w, ↓C.q0_r3_w, C.q0_r3_b, ↓C.q0_c51_w, ↓C.q0_r2_w, C.q0_r2_b, ↓C.q0_c52_w, ↓C.q0_r1_w, C.q0_r1_b, ↓C.q0_c53_w, ↓C.q0_r0_w, C.q0_r0_b, C.q0]
    rw [C.q0_c12_w, awp_keep]
    exact kk_end hS h hst hR hV
  · rw [hsame] at hk
    rw [hk] at ho hs hd ⊢
    simp only [↓Bp, Bq, Bs, ↓aop.eq_28, ↓aop.eq_30, Nat.reduceEqDiff, Nat.reduceAdd, Nat.reduceMul, Nat.reduceSub, Nat.reduceLeDiff, Nat.reduceLT, Int.reduceLT, Int.reduceLE, Int.reduceEq, Int.reduceToNat, Int.reduceAdd, Int.reduceSub, Int.reduceNeg, ↓reduceIte, reduceCtorEq, ↓C.q0_r27_w, C.q0_r27_b, ↓C.q0_c13_w, ↓C.q0_c14_w, ↓C.q0_r26_w, C.q0_r26_b, ↓C.q0_c15_w, ↓C.q0_r25_w, C.q0_r25_b, ↓C.q0_c16_w, ↓C.q0_r24_w, C.q0_r24_b, ↓C.q0_c17_w, ↓C.q0_r21_w, C.q0_r21_b, ↓C.q0_c18_w, ↓C.q0_r23_w, C.q0_r23_b, ↓C.q0_c19_w, ↓C.q0_r22_w, C.q0_r22_b, ↓C.q0_b20_w, ↓C.q0_c21_w, ↓C.q0_c22_w, ↓C.q0_r20_w, C.q0_r20_b, ↓C.q0_b24_w, ↓C.q0_c25_w, ↓C.q0_r19_w, C.q0_r19_b, ↓C.q0_c26_w, ↓C.q0_r18_w, C.q0_r18_b, ↓C.q0_c27_w, ↓C.q0_r17_w, C.q0_r17_b, ↓C.q0_c28_w, ↓C.q0_r15_w, C.q0_r15_b, ↓C.q0_c29_w, ↓C.q0_r16_w, C.q0_r16_b, ↓C.q0_b30_w, ↓C.q0_c31_w, ↓C.q0_c32_w, ↓C.q0_r14_w, C.q0_r14_b, ↓C.q0_b34_w, ↓C.q0_c35_w, ↓C.q0_r13_w, C.q0_r13_b, ↓C.q0_c36_w, ↓C.q0_r8_w, C.q0_r8_b, ↓C.q0_c37_w, ↓C.q0_r12_w, C.q0_r12_b, ↓C.q0_c38_w, ↓C.q0_r11_w, C.q0_r11_b, ↓C.q0_c39_w, ↓C.q0_r10_w, C.q0_r10_b, ↓C.q0_c40_w, ↓C.q0_r9_w, C.q0_r9_b, ↓C.q0_b41_w, ↓C.q0_c42_w, ↓C.q0_c43_w, ↓C.q0_r7_w, C.q0_r7_b, ↓C.q0_b45_w, ↓C.q0_c46_w, ↓C.q0_r6_w, C.q0_r6_b, ↓C.q0_c47_w, ↓C.q0_r5_w, C.q0_r5_b, ↓C.q0_c48_w, ↓C.q0_c49_w, ↓C.q0_r4_w, C.q0_r4_b, ↓C.q0_c50_w, ↓C.q0_r3_w, C.q0_r3_b, ↓C.q0_c51_w, ↓C.q0_r2_w, C.q0_r2_b, ↓C.q0_c52_w, ↓C.q0_r1_w, C.q0_r1_b, ↓C.q0_c53_w, ↓C.q0_r0_w, C.q0_r0_b, C.q0, hb, Soc.cells, Soc.clkV, Int.toNat_natCast]
    refine (keep_on h.t hi (ho (by omega)) true).mono ?_
    rintro r s2 ⟨rfl, rfl⟩
    simp only [↓Bp, Bq, Bs, ↓aop.eq_28, ↓aop.eq_30, Nat.reduceEqDiff, Nat.reduceAdd, Nat.reduceMul, Nat.reduceSub, Nat.reduceLeDiff, Nat.reduceLT, Int.reduceLT, Int.reduceLE, Int.reduceEq, Int.reduceToNat, Int.reduceAdd, Int.reduceSub, Int.reduceNeg, ↓reduceIte, reduceCtorEq, ↓C.q0_r27_w, C.q0_r27_b, ↓C.q0_c13_w, ↓C.q0_c14_w, ↓C.q0_r26_w, C.q0_r26_b, ↓C.q0_c15_w, ↓C.q0_r25_w, C.q0_r25_b, ↓C.q0_c16_w, ↓C.q0_r24_w, C.q0_r24_b, ↓C.q0_c17_w, ↓C.q0_r21_w, C.q0_r21_b, ↓C.q0_c18_w, ↓C.q0_r23_w, C.q0_r23_b, ↓C.q0_c19_w, ↓C.q0_r22_w, C.q0_r22_b, ↓C.q0_b20_w, ↓C.q0_c21_w, ↓C.q0_c22_w, ↓C.q0_r20_w, C.q0_r20_b, ↓C.q0_b24_w, ↓C.q0_c25_w, ↓C.q0_r19_w, C.q0_r19_b, ↓C.q0_c26_w, ↓C.q0_r18_w, C.q0_r18_b, ↓C.q0_c27_w, ↓C.q0_r17_w, C.q0_r17_b, ↓C.q0_c28_w, ↓C.q0_r15_w, C.q0_r15_b, ↓C.q0_c29_w, ↓C.q0_r16_w, C.q0_r16_b, ↓C.q0_b30_w, ↓C.q0_c31_w, ↓C.q0_c32_w, ↓C.q0_r14_w, C.q0_r14_b, ↓C.q0_b34_w, ↓C.q0_c35_w, ↓C.q0_r13_w, C.q0_r13_b, ↓C.q0_c36_w, ↓C.q0_r8_w, C.q0_r8_b, ↓C.q0_c37_w, ↓C.q0_r12_w, C.q0_r12_b, ↓C.q0_c38_w, ↓C.q0_r11_w, C.q0_r11_b, ↓C.q0_c39_w, ↓C.q0_r10_w, C.q0_r10_b, ↓C.q0_c40_w, ↓C.q0_r9_w, C.q0_r9_b, ↓C.q0_b41_w, ↓C.q0_c42_w, ↓C.q0_c43_w, ↓C.q0_r7_w, C.q0_r7_b, ↓C.q0_b45_w, ↓C.q0_c46_w, ↓C.q0_r6_w, C.q0_r6_b, ↓C.q0_c47_w, ↓C.q0_r5_w, C.q0_r5_b, ↓C.q0_c48_w, ↓C.q0_c49_w, ↓C.q0_r4_w, C.q0_r4_b, ↓C.q0_c50_w, ↓C.q0_r3_w, C.q0_r3_b, ↓C.q0_c51_w, ↓C.q0_r2_w, C.q0_r2_b, ↓C.q0_c52_w, ↓C.q0_r1_w, C.q0_r1_b, ↓C.q0_c53_w, ↓C.q0_r0_w, C.q0_r0_b, C.q0, hb, Soc.cells, Soc.clkV, Int.toNat_natCast]
    refine (keep_on h.t hi (ho (by omega)) false).mono ?_
    rintro r s2 ⟨rfl, rfl⟩
    simp only [↓Bp, Bq, Bs, ↓aop.eq_28, ↓aop.eq_30, Nat.reduceEqDiff, Nat.reduceAdd, Nat.reduceMul, Nat.reduceSub, Nat.reduceLeDiff, Nat.reduceLT, Int.reduceLT, Int.reduceLE, Int.reduceEq, Int.reduceToNat, Int.reduceAdd, Int.reduceSub, Int.reduceNeg, ↓reduceIte, reduceCtorEq, ↓C.q0_r27_w, C.q0_r27_b, ↓C.q0_c13_w, ↓C.q0_c14_w, ↓C.q0_r26_w, C.q0_r26_b, ↓C.q0_c15_w, ↓C.q0_r25_w, C.q0_r25_b, ↓C.q0_c16_w, ↓C.q0_r24_w, C.q0_r24_b, ↓C.q0_c17_w, ↓C.q0_r21_w, C.q0_r21_b, ↓C.q0_c18_w, ↓C.q0_r23_w, C.q0_r23_b, ↓C.q0_c19_w, ↓C.q0_r22_w, C.q0_r22_b, ↓C.q0_b20_w, ↓C.q0_c21_w, ↓C.q0_c22_w, ↓C.q0_r20_w, C.q0_r20_b, ↓C.q0_b24_w, ↓C.q0_c25_w, ↓C.q0_r19_w, C.q0_r19_b, ↓C.q0_c26_w, ↓C.q0_r18_w, C.q0_r18_b, ↓C.q0_c27_w, ↓C.q0_r17_w, C.q0_r17_b, ↓C.q0_c28_w, ↓C.q0_r15_w, C.q0_r15_b, ↓C.q0_c29_w, ↓C.q0_r16_w, C.q0_r16_b, ↓C.q0_b30_w, ↓C.q0_c31_w, ↓C.q0_c32_w, ↓C.q0_r14_w, C.q0_r14_b, ↓C.q0_b34_w, ↓C.q0_c35_w, ↓C.q0_r13_w, C.q0_r13_b, ↓C.q0_c36_w, ↓C.q0_r8_w, C.q0_r8_b, ↓C.q0_c37_w, ↓C.q0_r12_w, C.q0_r12_b, ↓C.q0_c38_w, ↓C.q0_r11_w, C.q0_r11_b, ↓C.q0_c39_w, ↓C.q0_r10_w, C.q0_r10_b, ↓C.q0_c40_w, ↓C.q0_r9_w, C.q0_r9_b, ↓C.q0_b41_w, ↓C.q0_c42_w, ↓C.q0_c43_w, ↓C.q0_r7_w, C.q0_r7_b, ↓C.q0_b45_w, ↓C.q0_c46_w, ↓C.q0_r6_w, C.q0_r6_b, ↓C.q0_c47_w, ↓C.q0_r5_w, C.q0_r5_b, ↓C.q0_c48_w, ↓C.q0_c49_w, ↓C.q0_r4_w, C.q0_r4_b, ↓C.q0_c50_w, ↓C.q0_r3_w, C.q0_r3_b, ↓C.q0_c51_w, ↓C.q0_r2_w, C.q0_r2_b, ↓C.q0_c52_w, ↓C.q0_r1_w, C.q0_r1_b, ↓C.q0_c53_w, ↓C.q0_r0_w, C.q0_r0_b, C.q0, hb, Soc.cells, Soc.clkV, Int.toNat_natCast]
    refine (keep_sel h.t hi 0 (hs 0 (by omega))).mono ?_
    rintro r s2 ⟨rfl, rfl⟩
    simp only [↓Bp, Bq, Bs, ↓aop.eq_28, ↓aop.eq_30, Nat.reduceEqDiff, Nat.reduceAdd, Nat.reduceMul, Nat.reduceSub, Nat.reduceLeDiff, Nat.reduceLT, Int.reduceLT, Int.reduceLE, Int.reduceEq, Int.reduceToNat, Int.reduceAdd, Int.reduceSub, Int.reduceNeg, ↓reduceIte, reduceCtorEq, ↓C.q0_r27_w, C.q0_r27_b, ↓C.q0_c13_w, ↓C.q0_c14_w, ↓C.q0_r26_w, C.q0_r26_b, ↓C.q0_c15_w, ↓C.q0_r25_w, C.q0_r25_b, ↓C.q0_c16_w, ↓C.q0_r24_w, C.q0_r24_b, ↓C.q0_c17_w, ↓C.q0_r21_w, C.q0_r21_b, ↓C.q0_c18_w, ↓C.q0_r23_w, C.q0_r23_b, ↓C.q0_c19_w, ↓C.q0_r22_w, C.q0_r22_b, ↓C.q0_b20_w, ↓C.q0_c21_w, ↓C.q0_c22_w, ↓C.q0_r20_w, C.q0_r20_b, ↓C.q0_b24_w, ↓C.q0_c25_w, ↓C.q0_r19_w, C.q0_r19_b, ↓C.q0_c26_w, ↓C.q0_r18_w, C.q0_r18_b, ↓C.q0_c27_w, ↓C.q0_r17_w, C.q0_r17_b, ↓C.q0_c28_w, ↓C.q0_r15_w, C.q0_r15_b, ↓C.q0_c29_w, ↓C.q0_r16_w, C.q0_r16_b, ↓C.q0_b30_w, ↓C.q0_c31_w, ↓C.q0_c32_w, ↓C.q0_r14_w, C.q0_r14_b, ↓C.q0_b34_w, ↓C.q0_c35_w, ↓C.q0_r13_w, C.q0_r13_b, ↓C.q0_c36_w, ↓C.q0_r8_w, C.q0_r8_b, ↓C.q0_c37_w, ↓C.q0_r12_w, C.q0_r12_b, ↓C.q0_c38_w, ↓C.q0_r11_w, C.q0_r11_b, ↓C.q0_c39_w, ↓C.q0_r10_w, C.q0_r10_b, ↓C.q0_c40_w, ↓C.q0_r9_w, C.q0_r9_b, ↓C.q0_b41_w, ↓C.q0_c42_w, ↓C.q0_c43_w, ↓C.q0_r7_w, C.q0_r7_b, ↓C.q0_b45_w, ↓C.q0_c46_w, ↓C.q0_r6_w, C.q0_r6_b, ↓C.q0_c47_w, ↓C.q0_r5_w, C.q0_r5_b, ↓C.q0_c48_w, ↓C.q0_c49_w, ↓C.q0_r4_w, C.q0_r4_b, ↓C.q0_c50_w, ↓C.q0_r3_w, C.q0_r3_b, ↓C.q0_c51_w, ↓C.q0_r2_w, C.q0_r2_b, ↓C.q0_c52_w, ↓C.q0_r1_w, C.q0_r1_b, ↓C.q0_c53_w, ↓C.q0_r0_w, C.q0_r0_b, C.q0, hb, Soc.cells, Soc.clkV, Int.toNat_natCast]
    refine (keep_div h.t hi 0 (hd 0 (by omega))).mono ?_
    rintro r s2 ⟨rfl, rfl⟩
    simp only [↓Bp, Bq, Bs, ↓aop.eq_28, ↓aop.eq_30, Nat.reduceEqDiff, Nat.reduceAdd, Nat.reduceMul, Nat.reduceSub, Nat.reduceLeDiff, Nat.reduceLT, Int.reduceLT, Int.reduceLE, Int.reduceEq, Int.reduceToNat, Int.reduceAdd, Int.reduceSub, Int.reduceNeg, ↓reduceIte, reduceCtorEq, ↓C.q0_r27_w, C.q0_r27_b, ↓C.q0_c13_w, ↓C.q0_c14_w, ↓C.q0_r26_w, C.q0_r26_b, ↓C.q0_c15_w, ↓C.q0_r25_w, C.q0_r25_b, ↓C.q0_c16_w, ↓C.q0_r24_w, C.q0_r24_b, ↓C.q0_c17_w, ↓C.q0_r21_w, C.q0_r21_b, ↓C.q0_c18_w, ↓C.q0_r23_w, C.q0_r23_b, ↓C.q0_c19_w, ↓C.q0_r22_w, C.q0_r22_b, ↓C.q0_b20_w, ↓C.q0_c21_w, ↓C.q0_c22_w, ↓C.q0_r20_w, C.q0_r20_b, ↓C.q0_b24_w, ↓C.q0_c25_w, ↓C.q0_r19_w, C.q0_r19_b, ↓C.q0_c26_w, ↓C.q0_r18_w, C.q0_r18_b, ↓C.q0_c27_w, ↓C.q0_r17_w, C.q0_r17_b, ↓C.q0_c28_w, ↓C.q0_r15_w, C.q0_r15_b, ↓C.q0_c29_w, ↓C.q0_r16_w, C.q0_r16_b, ↓C.q0_b30_w, ↓C.q0_c31_w, ↓C.q0_c32_w, ↓C.q0_r14_w, C.q0_r14_b, ↓C.q0_b34_w, ↓C.q0_c35_w, ↓C.q0_r13_w, C.q0_r13_b, ↓C.q0_c36_w, ↓C.q0_r8_w, C.q0_r8_b, ↓C.q0_c37_w, ↓C.q0_r12_w, C.q0_r12_b, ↓C.q0_c38_w, ↓C.q0_r11_w, C.q0_r11_b, ↓C.q0_c39_w, ↓C.q0_r10_w, C.q0_r10_b, ↓C.q0_c40_w, ↓C.q0_r9_w, C.q0_r9_b, ↓C.q0_b41_w, ↓C.q0_c42_w, ↓C.q0_c43_w, ↓C.q0_r7_w, C.q0_r7_b, ↓C.q0_b45_w, ↓C.q0_c46_w, ↓C.q0_r6_w, C.q0_r6_b, ↓C.q0_c47_w, ↓C.q0_r5_w, C.q0_r5_b, ↓C.q0_c48_w, ↓C.q0_c49_w, ↓C.q0_r4_w, C.q0_r4_b, ↓C.q0_c50_w, ↓C.q0_r3_w, C.q0_r3_b, ↓C.q0_c51_w, ↓C.q0_r2_w, C.q0_r2_b, ↓C.q0_c52_w, ↓C.q0_r1_w, C.q0_r1_b, ↓C.q0_c53_w, ↓C.q0_r0_w, C.q0_r0_b, C.q0, hb, Soc.cells, Soc.clkV, Int.toNat_natCast]
    refine (on_none h.t hnone true).mono ?_
    rintro r s2 ⟨rfl, rfl⟩
    simp only [↓Bp, Bq, Bs, ↓aop.eq_28, ↓aop.eq_30, Nat.reduceEqDiff, Nat.reduceAdd, Nat.reduceMul, Nat.reduceSub, Nat.reduceLeDiff, Nat.reduceLT, Int.reduceLT, Int.reduceLE, Int.reduceEq, Int.reduceToNat, Int.reduceAdd, Int.reduceSub, Int.reduceNeg, ↓reduceIte, reduceCtorEq, ↓C.q0_r27_w, C.q0_r27_b, ↓C.q0_c13_w, ↓C.q0_c14_w, ↓C.q0_r26_w, C.q0_r26_b, ↓C.q0_c15_w, ↓C.q0_r25_w, C.q0_r25_b, ↓C.q0_c16_w, ↓C.q0_r24_w, C.q0_r24_b, ↓C.q0_c17_w, ↓C.q0_r21_w, C.q0_r21_b, ↓C.q0_c18_w, ↓C.q0_r23_w, C.q0_r23_b, ↓C.q0_c19_w, ↓C.q0_r22_w, C.q0_r22_b, ↓C.q0_b20_w, ↓C.q0_c21_w, ↓C.q0_c22_w, ↓C.q0_r20_w, C.q0_r20_b, ↓C.q0_b24_w, ↓C.q0_c25_w, ↓C.q0_r19_w, C.q0_r19_b, ↓C.q0_c26_w, ↓C.q0_r18_w, C.q0_r18_b, ↓C.q0_c27_w, ↓C.q0_r17_w, C.q0_r17_b, ↓C.q0_c28_w, ↓C.q0_r15_w, C.q0_r15_b, ↓C.q0_c29_w, ↓C.q0_r16_w, C.q0_r16_b, ↓C.q0_b30_w, ↓C.q0_c31_w, ↓C.q0_c32_w, ↓C.q0_r14_w, C.q0_r14_b, ↓C.q0_b34_w, ↓C.q0_c35_w, ↓C.q0_r13_w, C.q0_r13_b, ↓C.q0_c36_w, ↓C.q0_r8_w, C.q0_r8_b, ↓C.q0_c37_w, ↓C.q0_r12_w, C.q0_r12_b, ↓C.q0_c38_w, ↓C.q0_r11_w, C.q0_r11_b, ↓C.q0_c39_w, ↓C.q0_r10_w, C.q0_r10_b, ↓C.q0_c40_w, ↓C.q0_r9_w, C.q0_r9_b, ↓C.q0_b41_w, ↓C.q0_c42_w, ↓C.q0_c43_w, ↓C.q0_r7_w, C.q0_r7_b, ↓C.q0_b45_w, ↓C.q0_c46_w, ↓C.q0_r6_w, C.q0_r6_b, ↓C.q0_c47_w, ↓C.q0_r5_w, C.q0_r5_b, ↓C.q0_c48_w, ↓C.q0_c49_w, ↓C.q0_r4_w, C.q0_r4_b, ↓C.q0_c50_w, ↓C.q0_r3_w, C.q0_r3_b, ↓C.q0_c51_w, ↓C.q0_r2_w, C.q0_r2_b, ↓C.q0_c52_w, ↓C.q0_r1_w, C.q0_r1_b, ↓C.q0_c53_w, ↓C.q0_r0_w, C.q0_r0_b, C.q0]
    rw [C.q0_c12_w, awp_keep]
    exact kk_end hS h hst hR hV
  · rw [hsame] at hk
    rw [hk] at ho hs hd ⊢
    simp only [↓Bp, Bq, Bs, ↓aop.eq_28, ↓aop.eq_30, Nat.reduceEqDiff, Nat.reduceAdd, Nat.reduceMul, Nat.reduceSub, Nat.reduceLeDiff, Nat.reduceLT, Int.reduceLT, Int.reduceLE, Int.reduceEq, Int.reduceToNat, Int.reduceAdd, Int.reduceSub, Int.reduceNeg, ↓reduceIte, reduceCtorEq, ↓C.q0_r27_w, C.q0_r27_b, ↓C.q0_c13_w, ↓C.q0_c14_w, ↓C.q0_r26_w, C.q0_r26_b, ↓C.q0_c15_w, ↓C.q0_r25_w, C.q0_r25_b, ↓C.q0_c16_w, ↓C.q0_r24_w, C.q0_r24_b, ↓C.q0_c17_w, ↓C.q0_r21_w, C.q0_r21_b, ↓C.q0_c18_w, ↓C.q0_r23_w, C.q0_r23_b, ↓C.q0_c19_w, ↓C.q0_r22_w, C.q0_r22_b, ↓C.q0_b20_w, ↓C.q0_c21_w, ↓C.q0_c22_w, ↓C.q0_r20_w, C.q0_r20_b, ↓C.q0_b24_w, ↓C.q0_c25_w, ↓C.q0_r19_w, C.q0_r19_b, ↓C.q0_c26_w, ↓C.q0_r18_w, C.q0_r18_b, ↓C.q0_c27_w, ↓C.q0_r17_w, C.q0_r17_b, ↓C.q0_c28_w, ↓C.q0_r15_w, C.q0_r15_b, ↓C.q0_c29_w, ↓C.q0_r16_w, C.q0_r16_b, ↓C.q0_b30_w, ↓C.q0_c31_w, ↓C.q0_c32_w, ↓C.q0_r14_w, C.q0_r14_b, ↓C.q0_b34_w, ↓C.q0_c35_w, ↓C.q0_r13_w, C.q0_r13_b, ↓C.q0_c36_w, ↓C.q0_r8_w, C.q0_r8_b, ↓C.q0_c37_w, ↓C.q0_r12_w, C.q0_r12_b, ↓C.q0_c38_w, ↓C.q0_r11_w, C.q0_r11_b, ↓C.q0_c39_w, ↓C.q0_r10_w, C.q0_r10_b, ↓C.q0_c40_w, ↓C.q0_r9_w, C.q0_r9_b, ↓C.q0_b41_w, ↓C.q0_c42_w, ↓C.q0_c43_w, ↓C.q0_r7_w, C.q0_r7_b, ↓C.q0_b45_w, ↓C.q0_c46_w, ↓C.q0_r6_w, C.q0_r6_b, ↓C.q0_c47_w, ↓C.q0_r5_w, C.q0_r5_b, ↓C.q0_c48_w, ↓C.q0_c49_w, ↓C.q0_r4_w, C.q0_r4_b, ↓C.q0_c50_w, ↓C.q0_r3_w, C.q0_r3_b, ↓C.q0_c51_w, ↓C.q0_r2_w, C.q0_r2_b, ↓C.q0_c52_w, ↓C.q0_r1_w, C.q0_r1_b, ↓C.q0_c53_w, ↓C.q0_r0_w, C.q0_r0_b, C.q0, hb, Soc.cells, Soc.clkV, Int.toNat_natCast]
    refine (keep_sel h.t hi 0 (hs 0 (by omega))).mono ?_
    rintro r s2 ⟨rfl, rfl⟩
    simp only [↓Bp, Bq, Bs, ↓aop.eq_28, ↓aop.eq_30, Nat.reduceEqDiff, Nat.reduceAdd, Nat.reduceMul, Nat.reduceSub, Nat.reduceLeDiff, Nat.reduceLT, Int.reduceLT, Int.reduceLE, Int.reduceEq, Int.reduceToNat, Int.reduceAdd, Int.reduceSub, Int.reduceNeg, ↓reduceIte, reduceCtorEq, ↓C.q0_r27_w, C.q0_r27_b, ↓C.q0_c13_w, ↓C.q0_c14_w, ↓C.q0_r26_w, C.q0_r26_b, ↓C.q0_c15_w, ↓C.q0_r25_w, C.q0_r25_b, ↓C.q0_c16_w, ↓C.q0_r24_w, C.q0_r24_b, ↓C.q0_c17_w, ↓C.q0_r21_w, C.q0_r21_b, ↓C.q0_c18_w, ↓C.q0_r23_w, C.q0_r23_b, ↓C.q0_c19_w, ↓C.q0_r22_w, C.q0_r22_b, ↓C.q0_b20_w, ↓C.q0_c21_w, ↓C.q0_c22_w, ↓C.q0_r20_w, C.q0_r20_b, ↓C.q0_b24_w, ↓C.q0_c25_w, ↓C.q0_r19_w, C.q0_r19_b, ↓C.q0_c26_w, ↓C.q0_r18_w, C.q0_r18_b, ↓C.q0_c27_w, ↓C.q0_r17_w, C.q0_r17_b, ↓C.q0_c28_w, ↓C.q0_r15_w, C.q0_r15_b, ↓C.q0_c29_w, ↓C.q0_r16_w, C.q0_r16_b, ↓C.q0_b30_w, ↓C.q0_c31_w, ↓C.q0_c32_w, ↓C.q0_r14_w, C.q0_r14_b, ↓C.q0_b34_w, ↓C.q0_c35_w, ↓C.q0_r13_w, C.q0_r13_b, ↓C.q0_c36_w, ↓C.q0_r8_w, C.q0_r8_b, ↓C.q0_c37_w, ↓C.q0_r12_w, C.q0_r12_b, ↓C.q0_c38_w, ↓C.q0_r11_w, C.q0_r11_b, ↓C.q0_c39_w, ↓C.q0_r10_w, C.q0_r10_b, ↓C.q0_c40_w, ↓C.q0_r9_w, C.q0_r9_b, ↓C.q0_b41_w, ↓C.q0_c42_w, ↓C.q0_c43_w, ↓C.q0_r7_w, C.q0_r7_b, ↓C.q0_b45_w, ↓C.q0_c46_w, ↓C.q0_r6_w, C.q0_r6_b, ↓C.q0_c47_w, ↓C.q0_r5_w, C.q0_r5_b, ↓C.q0_c48_w, ↓C.q0_c49_w, ↓C.q0_r4_w, C.q0_r4_b, ↓C.q0_c50_w, ↓C.q0_r3_w, C.q0_r3_b, ↓C.q0_c51_w, ↓C.q0_r2_w, C.q0_r2_b, ↓C.q0_c52_w, ↓C.q0_r1_w, C.q0_r1_b, ↓C.q0_c53_w, ↓C.q0_r0_w, C.q0_r0_b, C.q0, hb, Soc.cells, Soc.clkV, Int.toNat_natCast]
    refine (keep_div h.t hi 1 (hd 1 (by omega))).mono ?_
    rintro r s2 ⟨rfl, rfl⟩
    simp only [↓Bp, Bq, Bs, ↓aop.eq_28, ↓aop.eq_30, Nat.reduceEqDiff, Nat.reduceAdd, Nat.reduceMul, Nat.reduceSub, Nat.reduceLeDiff, Nat.reduceLT, Int.reduceLT, Int.reduceLE, Int.reduceEq, Int.reduceToNat, Int.reduceAdd, Int.reduceSub, Int.reduceNeg, ↓reduceIte, reduceCtorEq, ↓C.q0_r27_w, C.q0_r27_b, ↓C.q0_c13_w, ↓C.q0_c14_w, ↓C.q0_r26_w, C.q0_r26_b, ↓C.q0_c15_w, ↓C.q0_r25_w, C.q0_r25_b, ↓C.q0_c16_w, ↓C.q0_r24_w, C.q0_r24_b, ↓C.q0_c17_w, ↓C.q0_r21_w, C.q0_r21_b, ↓C.q0_c18_w, ↓C.q0_r23_w, C.q0_r23_b, ↓C.q0_c19_w, ↓C.q0_r22_w, C.q0_r22_b, ↓C.q0_b20_w, ↓C.q0_c21_w, ↓C.q0_c22_w, ↓C.q0_r20_w, C.q0_r20_b, ↓C.q0_b24_w, ↓C.q0_c25_w, ↓C.q0_r19_w, C.q0_r19_b, ↓C.q0_c26_w, ↓C.q0_r18_w, C.q0_r18_b, ↓C.q0_c27_w, ↓C.q0_r17_w, C.q0_r17_b, ↓C.q0_c28_w, ↓C.q0_r15_w, C.q0_r15_b, ↓C.q0_c29_w, ↓C.q0_r16_w, C.q0_r16_b, ↓C.q0_b30_w, ↓C.q0_c31_w, ↓C.q0_c32_w, ↓C.q0_r14_w, C.q0_r14_b, ↓C.q0_b34_w, ↓C.q0_c35_w, ↓C.q0_r13_w, C.q0_r13_b, ↓C.q0_c36_w, ↓C.q0_r8_w, C.q0_r8_b, ↓C.q0_c37_w, ↓C.q0_r12_w, C.q0_r12_b, ↓C.q0_c38_w, ↓C.q0_r11_w, C.q0_r11_b, ↓C.q0_c39_w, ↓C.q0_r10_w, C.q0_r10_b, ↓C.q0_c40_w, ↓C.q0_r9_w, C.q0_r9_b, ↓C.q0_b41_w, ↓C.q0_c42_w, ↓C.q0_c43_w, ↓C.q0_r7_w, C.q0_r7_b, ↓C.q0_b45_w, ↓C.q0_c46_w, ↓C.q0_r6_w, C.q0_r6_b, ↓C.q0_c47_w, ↓C.q0_r5_w, C.q0_r5_b, ↓C.q0_c48_w, ↓C.q0_c49_w, ↓C.q0_r4_w, C.q0_r4_b, ↓C.q0_c50_w, ↓C.q0_r3_w, C.q0_r3_b, ↓C.q0_c51_w, ↓C.q0_r2_w, C.q0_r2_b, ↓C.q0_c52_w, ↓C.q0_r1_w, C.q0_r1_b, ↓C.q0_c53_w, ↓C.q0_r0_w, C.q0_r0_b, C.q0, hb, Soc.cells, Soc.clkV, Int.toNat_natCast]
    refine (on_none h.t hnone true).mono ?_
    rintro r s2 ⟨rfl, rfl⟩
    simp only [↓Bp, Bq, Bs, ↓aop.eq_28, ↓aop.eq_30, Nat.reduceEqDiff, Nat.reduceAdd, Nat.reduceMul, Nat.reduceSub, Nat.reduceLeDiff, Nat.reduceLT, Int.reduceLT, Int.reduceLE, Int.reduceEq, Int.reduceToNat, Int.reduceAdd, Int.reduceSub, Int.reduceNeg, ↓reduceIte, reduceCtorEq, ↓C.q0_r27_w, C.q0_r27_b, ↓C.q0_c13_w, ↓C.q0_c14_w, ↓C.q0_r26_w, C.q0_r26_b, ↓C.q0_c15_w, ↓C.q0_r25_w, C.q0_r25_b, ↓C.q0_c16_w, ↓C.q0_r24_w, C.q0_r24_b, ↓C.q0_c17_w, ↓C.q0_r21_w, C.q0_r21_b, ↓C.q0_c18_w, ↓C.q0_r23_w, C.q0_r23_b, ↓C.q0_c19_w, ↓C.q0_r22_w, C.q0_r22_b, ↓C.q0_b20_w, ↓C.q0_c21_w, ↓C.q0_c22_w, ↓C.q0_r20_w, C.q0_r20_b, ↓C.q0_b24_w, ↓C.q0_c25_w, ↓C.q0_r19_w, C.q0_r19_b, ↓C.q0_c26_w, ↓C.q0_r18_w, C.q0_r18_b, ↓C.q0_c27_w, ↓C.q0_r17_w, C.q0_r17_b, ↓C.q0_c28_w, ↓C.q0_r15_w, C.q0_r15_b, ↓C.q0_c29_w, ↓C.q0_r16_w, C.q0_r16_b, ↓C.q0_b30_w, ↓C.q0_c31_w, ↓C.q0_c32_w, ↓C.q0_r14_w, C.q0_r14_b, ↓C.q0_b34_w, ↓C.q0_c35_w, ↓C.q0_r13_w, C.q0_r13_b, ↓C.q0_c36_w, ↓C.q0_r8_w, C.q0_r8_b, ↓C.q0_c37_w, ↓C.q0_r12_w, C.q0_r12_b, ↓C.q0_c38_w, ↓C.q0_r11_w, C.q0_r11_b, ↓C.q0_c39_w, ↓C.q0_r10_w, C.q0_r10_b, ↓C.q0_c40_w, ↓C.q0_r9_w, C.q0_r9_b, ↓C.q0_b41_w, ↓C.q0_c42_w, ↓C.q0_c43_w, ↓C.q0_r7_w, C.q0_r7_b, ↓C.q0_b45_w, ↓C.q0_c46_w, ↓C.q0_r6_w, C.q0_r6_b, ↓C.q0_c47_w, ↓C.q0_r5_w, C.q0_r5_b, ↓C.q0_c48_w, ↓C.q0_c49_w, ↓C.q0_r4_w, C.q0_r4_b, ↓C.q0_c50_w, ↓C.q0_r3_w, C.q0_r3_b, ↓C.q0_c51_w, ↓C.q0_r2_w, C.q0_r2_b, ↓C.q0_c52_w, ↓C.q0_r1_w, C.q0_r1_b, ↓C.q0_c53_w, ↓C.q0_r0_w, C.q0_r0_b, C.q0]
    rw [C.q0_c12_w, awp_keep]
    exact kk_end hS h hst hR hV
  · rw [hsame] at hk
    rw [hk] at ho hs hd ⊢
    simp only [↓Bp, Bq, Bs, ↓aop.eq_28, ↓aop.eq_30, Nat.reduceEqDiff, Nat.reduceAdd, Nat.reduceMul, Nat.reduceSub, Nat.reduceLeDiff, Nat.reduceLT, Int.reduceLT, Int.reduceLE, Int.reduceEq, Int.reduceToNat, Int.reduceAdd, Int.reduceSub, Int.reduceNeg, ↓reduceIte, reduceCtorEq, ↓C.q0_r27_w, C.q0_r27_b, ↓C.q0_c13_w, ↓C.q0_c14_w, ↓C.q0_r26_w, C.q0_r26_b, ↓C.q0_c15_w, ↓C.q0_r25_w, C.q0_r25_b, ↓C.q0_c16_w, ↓C.q0_r24_w, C.q0_r24_b, ↓C.q0_c17_w, ↓C.q0_r21_w, C.q0_r21_b, ↓C.q0_c18_w, ↓C.q0_r23_w, C.q0_r23_b, ↓C.q0_c19_w, ↓C.q0_r22_w, C.q0_r22_b, ↓C.q0_b20_w, ↓C.q0_c21_w, ↓C.q0_c22_w, ↓C.q0_r20_w, C.q0_r20_b, ↓C.q0_b24_w, ↓C.q0_c25_w, ↓C.q0_r19_w, C.q0_r19_b, ↓C.q0_c26_w, ↓C.q0_r18_w, C.q0_r18_b, ↓C.q0_c27_w, ↓C.q0_r17_w, C.q0_r17_b, ↓C.q0_c28_w, ↓C.q0_r15_w, C.q0_r15_b, ↓C.q0_c29_w, ↓C.q0_r16_w, C.q0_r16_b, ↓C.q0_b30_w, ↓C.q0_c31_w, ↓C.q0_c32_w, ↓C.q0_r14_w, C.q0_r14_b, ↓C.q0_b34_w, ↓C.q0_c35_w, ↓C.q0_r13_w, C.q0_r13_b, ↓C.q0_c36_w, ↓C.q0_r8_w, C.q0_r8_b, ↓C.q0_c37_w, ↓C.q0_r12_w, C.q0_r12_b, ↓C.q0_c38_w, ↓C.q0_r11_w, C.q0_r11_b, ↓C.q0_c39_w, ↓C.q0_r10_w, C.q0_r10_b, ↓C.q0_c40_w, ↓C.q0_r9_w, C.q0_r9_b, ↓C.q0_b41_w, ↓C.q0_c42_w, ↓C.q0_c43_w, ↓C.q0_r7_w, C.q0_r7_b, ↓C.q0_b45_w, ↓C.q0_c46_w, ↓C.q0_r6_w, C.q0_r6_b, ↓C.q0_c47_w, ↓C.q0_r5_w, C.q0_r5_b, ↓C.q0_c48_w, ↓C.q0_c49_w, ↓C.q0_r4_w, C.q0_r4_b, ↓C.q0_c50_w, ↓C.q0_r3_w, C.q0_r3_b, ↓C.q0_c51_w, ↓C.q0_r2_w, C.q0_r2_b, ↓C.q0_c52_w, ↓C.q0_r1_w, C.q0_r1_b, ↓C.q0_c53_w, ↓C.q0_r0_w, C.q0_r0_b, C.q0, hb, Soc.cells, Soc.clkV, Int.toNat_natCast]
    refine (keep_on h.t hi (ho (by omega)) true).mono ?_
    rintro r s2 ⟨rfl, rfl⟩
    simp only [↓Bp, Bq, Bs, ↓aop.eq_28, ↓aop.eq_30, Nat.reduceEqDiff, Nat.reduceAdd, Nat.reduceMul, Nat.reduceSub, Nat.reduceLeDiff, Nat.reduceLT, Int.reduceLT, Int.reduceLE, Int.reduceEq, Int.reduceToNat, Int.reduceAdd, Int.reduceSub, Int.reduceNeg, ↓reduceIte, reduceCtorEq, ↓C.q0_r27_w, C.q0_r27_b, ↓C.q0_c13_w, ↓C.q0_c14_w, ↓C.q0_r26_w, C.q0_r26_b, ↓C.q0_c15_w, ↓C.q0_r25_w, C.q0_r25_b, ↓C.q0_c16_w, ↓C.q0_r24_w, C.q0_r24_b, ↓C.q0_c17_w, ↓C.q0_r21_w, C.q0_r21_b, ↓C.q0_c18_w, ↓C.q0_r23_w, C.q0_r23_b, ↓C.q0_c19_w, ↓C.q0_r22_w, C.q0_r22_b, ↓C.q0_b20_w, ↓C.q0_c21_w, ↓C.q0_c22_w, ↓C.q0_r20_w, C.q0_r20_b, ↓C.q0_b24_w, ↓C.q0_c25_w, ↓C.q0_r19_w, C.q0_r19_b, ↓C.q0_c26_w, ↓C.q0_r18_w, C.q0_r18_b, ↓C.q0_c27_w, ↓C.q0_r17_w, C.q0_r17_b, ↓C.q0_c28_w, ↓C.q0_r15_w, C.q0_r15_b, ↓C.q0_c29_w, ↓C.q0_r16_w, C.q0_r16_b, ↓C.q0_b30_w, ↓C.q0_c31_w, ↓C.q0_c32_w, ↓C.q0_r14_w, C.q0_r14_b, ↓C.q0_b34_w, ↓C.q0_c35_w, ↓C.q0_r13_w, C.q0_r13_b, ↓C.q0_c36_w, ↓C.q0_r8_w, C.q0_r8_b, ↓C.q0_c37_w, ↓C.q0_r12_w, C.q0_r12_b, ↓C.q0_c38_w, ↓C.q0_r11_w, C.q0_r11_b, ↓C.q0_c39_w, ↓C.q0_r10_w, C.q0_r10_b, ↓C.q0_c40_w, ↓C.q0_r9_w, C.q0_r9_b, ↓C.q0_b41_w, ↓C.q0_c42_w, ↓C.q0_c43_w, ↓C.q0_r7_w, C.q0_r7_b, ↓C.q0_b45_w, ↓C.q0_c46_w, ↓C.q0_r6_w, C.q0_r6_b, ↓C.q0_c47_w, ↓C.q0_r5_w, C.q0_r5_b, ↓C.q0_c48_w, ↓C.q0_c49_w, ↓C.q0_r4_w, C.q0_r4_b, ↓C.q0_c50_w, ↓C.q0_r3_w, C.q0_r3_b, ↓C.q0_c51_w, ↓C.q0_r2_w, C.q0_r2_b, ↓C.q0_c52_w, ↓C.q0_r1_w, C.q0_r1_b, ↓C.q0_c53_w, ↓C.q0_r0_w, C.q0_r0_b, C.q0, hb, Soc.cells, Soc.clkV, Int.toNat_natCast]
    refine (keep_on h.t hi (ho (by omega)) false).mono ?_
    rintro r s2 ⟨rfl, rfl⟩
    simp only [↓Bp, Bq, Bs, ↓aop.eq_28, ↓aop.eq_30, Nat.reduceEqDiff, Nat.reduceAdd, Nat.reduceMul, Nat.reduceSub, Nat.reduceLeDiff, Nat.reduceLT, Int.reduceLT, Int.reduceLE, Int.reduceEq, Int.reduceToNat, Int.reduceAdd, Int.reduceSub, Int.reduceNeg, ↓reduceIte, reduceCtorEq, ↓C.q0_r27_w, C.q0_r27_b, ↓C.q0_c13_w, ↓C.q0_c14_w, ↓C.q0_r26_w, C.q0_r26_b, ↓C.q0_c15_w, ↓C.q0_r25_w, C.q0_r25_b, ↓C.q0_c16_w, ↓C.q0_r24_w, C.q0_r24_b, ↓C.q0_c17_w, ↓C.q0_r21_w, C.q0_r21_b, ↓C.q0_c18_w, ↓C.q0_r23_w, C.q0_r23_b, ↓C.q0_c19_w, ↓C.q0_r22_w, C.q0_r22_b, ↓C.q0_b20_w, ↓C.q0_c21_w, ↓C.q0_c22_w, ↓C.q0_r20_w, C.q0_r20_b, ↓C.q0_b24_w, ↓C.q0_c25_w, ↓C.q0_r19_w, C.q0_r19_b, ↓C.q0_c26_w, ↓C.q0_r18_w, C.q0_r18_b, ↓C.q0_c27_w, ↓C.q0_r17_w, C.q0_r17_b, ↓C.q0_c28_w, ↓C.q0_r15_w, C.q0_r15_b, ↓C.q0_c29_w, ↓C.q0_r16_w, C.q0_r16_b, ↓C.q0_b30_w, ↓C.q0_c31_w, ↓C.q0_c32_w, ↓C.q0_r14_w, C.q0_r14_b, ↓C.q0_b34_w, ↓C.q0_c35_w, ↓C.q0_r13_w, C.q0_r13_b, ↓C.q0_c36_w, ↓C.q0_r8_w, C.q0_r8_b, ↓C.q0_c37_w, ↓C.q0_r12_w, C.q0_r12_b, ↓C.q0_c38_w, ↓C.q0_r11_w, C.q0_r11_b, ↓C.q0_c39_w, ↓C.q0_r10_w, C.q0_r10_b, ↓C.q0_c40_w, ↓C.q0_r9_w, C.q0_r9_b, ↓C.q0_b41_w, ↓C.q0_c42_w, ↓C.q0_c43_w, ↓C.q0_r7_w, C.q0_r7_b, ↓C.q0_b45_w, ↓C.q0_c46_w, ↓C.q0_r6_w, C.q0_r6_b, ↓C.q0_c47_w, ↓C.q0_r5_w, C.q0_r5_b, ↓C.q0_c48_w, ↓C.q0_c49_w, ↓C.q0_r4_w, C.q0_r4_b, ↓C.q0_c50_w, ↓C.q0_r3_w, C.q0_r3_b, ↓C.q0_c51_w, ↓C.q0_r2_w, C.q0_r2_b, ↓C.q0_c52_w, ↓C.q0_r1_w, C.q0_r1_b, ↓C.q0_c53_w, ↓C.q0_r0_w, C.q0_r0_b, C.q0, hb, Soc.cells, Soc.clkV, Int.toNat_natCast]
    refine (keep_div h.t hi 1 (hd 1 (by omega))).mono ?_
    rintro r s2 ⟨rfl, rfl⟩
    simp only [↓Bp, Bq, Bs, ↓aop.eq_28, ↓aop.eq_30, Nat.reduceEqDiff, Nat.reduceAdd, Nat.reduceMul, Nat.reduceSub, Nat.reduceLeDiff, Nat.reduceLT, Int.reduceLT, Int.reduceLE, Int.reduceEq, Int.reduceToNat, Int.reduceAdd, Int.reduceSub, Int.reduceNeg, ↓reduceIte, reduceCtorEq, ↓C.q0_r27_w, C.q0_r27_b, ↓C.q0_c13_w, ↓C.q0_c14_w, ↓C.q0_r26_w, C.q0_r26_b, ↓C.q0_c15_w, ↓C.q0_r25_w, C.q0_r25_b, ↓C.q0_c16_w, ↓C.q0_r24_w, C.q0_r24_b, ↓C.q0_c17_w, ↓C.q0_r21_w, C.q0_r21_b, ↓C.q0_c18_w, ↓C.q0_r23_w, C.q0_r23_b, ↓C.q0_c19_w, ↓C.q0_r22_w, C.q0_r22_b, ↓C.q0_b20_w, ↓C.q0_c21_w, ↓C.q0_c22_w, ↓C.q0_r20_w, C.q0_r20_b, ↓C.q0_b24_w, ↓C.q0_c25_w, ↓C.q0_r19_w, C.q0_r19_b, ↓C.q0_c26_w, ↓C.q0_r18_w, C.q0_r18_b, ↓C.q0_c27_w, ↓C.q0_r17_w, C.q0_r17_b, ↓C.q0_c28_w, ↓C.q0_r15_w, C.q0_r15_b, ↓C.q0_c29_w, ↓C.q0_r16_w, C.q0_r16_b, ↓C.q0_b30_w, ↓C.q0_c31_w, ↓C.q0_c32_w, ↓C.q0_r14_w, C.q0_r14_b, ↓C.q0_b34_w, ↓C.q0_c35_w, ↓C.q0_r13_w, C.q0_r13_b, ↓C.q0_c36_w, ↓C.q0_r8_w, C.q0_r8_b, ↓C.q0_c37_w, ↓C.q0_r12_w, C.q0_r12_b, ↓C.q0_c38_w, ↓C.q0_r11_w, C.q0_r11_b, ↓C.q0_c39_w, ↓C.q0_r10_w, C.q0_r10_b, ↓C.q0_c40_w, ↓C.q0_r9_w, C.q0_r9_b, ↓C.q0_b41_w, ↓C.q0_c42_w, ↓C.q0_c43_w, ↓C.q0_r7_w, C.q0_r7_b, ↓C.q0_b45_w, ↓C.q0_c46_w, ↓C.q0_r6_w, C.q0_r6_b, ↓C.q0_c47_w, ↓C.q0_r5_w, C.q0_r5_b, ↓C.q0_c48_w, ↓C.q0_c49_w, ↓C.q0_r4_w, C.q0_r4_b, ↓C.q0_c50_w, ↓C.q0_r3_w, C.q0_r3_b, ↓C.q0_c51_w, ↓C.q0_r2_w, C.q0_r2_b, ↓C.q0_c52_w, ↓C.q0_r1_w, C.q0_r1_b, ↓C.q0_c53_w, ↓C.q0_r0_w, C.q0_r0_b, C.q0, hb, Soc.cells, Soc.clkV, Int.toNat_natCast]
    refine (keep_sel h.t hi 2 (hs 2 (by omega))).mono ?_
    rintro r s2 ⟨rfl, rfl⟩
    simp only [↓Bp, Bq, Bs, ↓aop.eq_28, ↓aop.eq_30, Nat.reduceEqDiff, Nat.reduceAdd, Nat.reduceMul, Nat.reduceSub, Nat.reduceLeDiff, Nat.reduceLT, Int.reduceLT, Int.reduceLE, Int.reduceEq, Int.reduceToNat, Int.reduceAdd, Int.reduceSub, Int.reduceNeg, ↓reduceIte, reduceCtorEq, ↓C.q0_r27_w, C.q0_r27_b, ↓C.q0_c13_w, ↓C.q0_c14_w, ↓C.q0_r26_w, C.q0_r26_b, ↓C.q0_c15_w, ↓C.q0_r25_w, C.q0_r25_b, ↓C.q0_c16_w, ↓C.q0_r24_w, C.q0_r24_b, ↓C.q0_c17_w, ↓C.q0_r21_w, C.q0_r21_b, ↓C.q0_c18_w, ↓C.q0_r23_w, C.q0_r23_b, ↓C.q0_c19_w, ↓C.q0_r22_w, C.q0_r22_b, ↓C.q0_b20_w, ↓C.q0_c21_w, ↓C.q0_c22_w, ↓C.q0_r20_w, C.q0_r20_b, ↓C.q0_b24_w, ↓C.q0_c25_w, ↓C.q0_r19_w, C.q0_r19_b, ↓C.q0_c26_w, ↓C.q0_r18_w, C.q0_r18_b, ↓C.q0_c27_w, ↓C.q0_r17_w, C.q0_r17_b, ↓C.q0_c28_w, ↓C.q0_r15_w, C.q0_r15_b, ↓C.q0_c29_w, ↓C.q0_r16_w, C.q0_r16_b, ↓C.q0_b30_w, ↓C.q0_c31_w, ↓C.q0_c32_w, ↓C.q0_r14_w, C.q0_r14_b, ↓C.q0_b34_w, ↓C.q0_c35_w, ↓C.q0_r13_w, C.q0_r13_b, ↓C.q0_c36_w, ↓C.q0_r8_w, C.q0_r8_b, ↓C.q0_c37_w, ↓C.q0_r12_w, C.q0_r12_b, ↓C.q0_c38_w, ↓C.q0_r11_w, C.q0_r11_b, ↓C.q0_c39_w, ↓C.q0_r10_w, C.q0_r10_b, ↓C.q0_c40_w, ↓C.q0_r9_w, C.q0_r9_b, ↓C.q0_b41_w, ↓C.q0_c42_w, ↓C.q0_c43_w, ↓C.q0_r7_w, C.q0_r7_b, ↓C.q0_b45_w, ↓C.q0_c46_w, ↓C.q0_r6_w, C.q0_r6_b, ↓C.q0_c47_w, ↓C.q0_r5_w, C.q0_r5_b, ↓C.q0_c48_w, ↓C.q0_c49_w, ↓C.q0_r4_w, C.q0_r4_b, ↓C.q0_c50_w, ↓C.q0_r3_w, C.q0_r3_b, ↓C.q0_c51_w, ↓C.q0_r2_w, C.q0_r2_b, ↓C.q0_c52_w, ↓C.q0_r1_w, C.q0_r1_b, ↓C.q0_c53_w, ↓C.q0_r0_w, C.q0_r0_b, C.q0, hb, Soc.cells, Soc.clkV, Int.toNat_natCast]
    refine (on_none h.t hnone true).mono ?_
    rintro r s2 ⟨rfl, rfl⟩
    simp only [↓Bp, Bq, Bs, ↓aop.eq_28, ↓aop.eq_30, Nat.reduceEqDiff, Nat.reduceAdd, Nat.reduceMul, Nat.reduceSub, Nat.reduceLeDiff, Nat.reduceLT, Int.reduceLT, Int.reduceLE, Int.reduceEq, Int.reduceToNat, Int.reduceAdd, Int.reduceSub, Int.reduceNeg, ↓reduceIte, reduceCtorEq, ↓C.q0_r27_w, C.q0_r27_b, ↓C.q0_c13_w, ↓C.q0_c14_w, ↓C.q0_r26_w, C.q0_r26_b, ↓C.q0_c15_w, ↓C.q0_r25_w, C.q0_r25_b, ↓C.q0_c16_w, ↓C.q0_r24_w, C.q0_r24_b, ↓C.q0_c17_w, ↓C.q0_r21_w, C.q0_r21_b, ↓C.q0_c18_w, ↓C.q0_r23_w, C.q0_r23_b, ↓C.q0_c19_w, ↓C.q0_r22_w, C.q0_r22_b, ↓C.q0_b20_w, ↓C.q0_c21_w, ↓C.q0_c22_w, ↓C.q0_r20_w, C.q0_r20_b, ↓C.q0_b24_w, ↓C.q0_c25_w, ↓C.q0_r19_w, C.q0_r19_b, ↓C.q0_c26_w, ↓C.q0_r18_w, C.q0_r18_b, ↓C.q0_c27_w, ↓C.q0_r17_w, C.q0_r17_b, ↓C.q0_c28_w, ↓C.q0_r15_w, C.q0_r15_b, ↓C.q0_c29_w, ↓C.q0_r16_w, C.q0_r16_b, ↓C.q0_b30_w, ↓C.q0_c31_w, ↓C.q0_c32_w, ↓C.q0_r14_w, C.q0_r14_b, ↓C.q0_b34_w, ↓C.q0_c35_w, ↓C.q0_r13_w, C.q0_r13_b, ↓C.q0_c36_w, ↓C.q0_r8_w, C.q0_r8_b, ↓C.q0_c37_w, ↓C.q0_r12_w, C.q0_r12_b, ↓C.q0_c38_w, ↓C.q0_r11_w, C.q0_r11_b, ↓C.q0_c39_w, ↓C.q0_r10_w, C.q0_r10_b, ↓C.q0_c40_w, ↓C.q0_r9_w, C.q0_r9_b, ↓C.q0_b41_w, ↓C.q0_c42_w, ↓C.q0_c43_w, ↓C.q0_r7_w, C.q0_r7_b, ↓C.q0_b45_w, ↓C.q0_c46_w, ↓C.q0_r6_w, C.q0_r6_b, ↓C.q0_c47_w, ↓C.q0_r5_w, C.q0_r5_b, ↓C.q0_c48_w, ↓C.q0_c49_w, ↓C.q0_r4_w, C.q0_r4_b, ↓C.q0_c50_w, ↓C.q0_r3_w, C.q0_r3_b, ↓C.q0_c51_w, ↓C.q0_r2_w, C.q0_r2_b, ↓C.q0_c52_w, ↓C.q0_r1_w, C.q0_r1_b, ↓C.q0_c53_w, ↓C.q0_r0_w, C.q0_r0_b, C.q0]
    rw [C.q0_c12_w, awp_keep]
    exact kk_end hS h hst hR hV
theorem kk_pick {s : ASt} {ns : List Nd} {x : Int} (hx : -9223372036854775808 ≤ x ∧ x ≤ 9223372036854775807) (h : KW st s ib p ig S ns) (hst : ctickL ns = ns) (hR : KC st s ir (cbools ((List.range S.clocks.length).map (run ns))) ib p ig) (hV : KC st s iv (u64s ((List.range S.clocks.length).map (rateL ns))) ib p ig) :
    awp Try.prog C.q0_c17 (Post [.slot 6] fun r s => r = .bool true ∧ st.le s) [(2, .int .i64 x), (8, .ptr ib 0), (9, .ptr p 0), (14, .sl 1 ir 0 S.clocks.length), (15, .sl 1 iv 0 S.clocks.length)] s := by
  have hnc := hS.nc
  have hlen := h.k.len
  have hb := h.hb
  simp only [↓Bp, Bq, Bs, ↓aop.eq_28, ↓aop.eq_30, Nat.reduceEqDiff, Nat.reduceAdd, Nat.reduceMul, Nat.reduceSub, Nat.reduceLeDiff, Nat.reduceLT, Int.reduceLT, Int.reduceLE, Int.reduceEq, Int.reduceToNat, Int.reduceAdd, Int.reduceSub, Int.reduceNeg, ↓reduceIte, reduceCtorEq, ↓C.q0_W, C.q0_B, C.q0, hb, Soc.cells, Soc.clkV]
  refine (pick_spec hx (n := S.clocks.length) (by omega)).mono ?_
  rintro r s1 ⟨rfl, rfl⟩
  have hi := pickI_lt x (n := S.clocks.length) (by omega)
  generalize pickI x S.clocks.length = i at hi
  have hin : i < ns.length := by omega
  have hz : (0:Int) ≤ (i : Int) ∧ (i : Int) < (S.clocks.length : Nat) := by omega
  have g0 := ck_get hi
  rw [← h.k.same i hin hi] at g0
  simp only [↓Bp, Bq, Bs, ↓aop.eq_28, ↓aop.eq_30, Nat.reduceEqDiff, Nat.reduceAdd, Nat.reduceMul, Nat.reduceSub, Nat.reduceLeDiff, Nat.reduceLT, Int.reduceLT, Int.reduceLE, Int.reduceEq, Int.reduceToNat, Int.reduceAdd, Int.reduceSub, Int.reduceNeg, ↓reduceIte, reduceCtorEq, ↓C.q0_r25_w, C.q0_r25_b, ↓C.q0_c16_w, ↓C.q0_r24_w, C.q0_r24_b, ↓C.q0_c17_w, ↓C.q0_r21_w, C.q0_r21_b, ↓C.q0_c18_w, ↓C.q0_r23_w, C.q0_r23_b, ↓C.q0_c19_w, ↓C.q0_r22_w, C.q0_r22_b, ↓C.q0_b20_w, ↓C.q0_c21_w, ↓C.q0_c22_w, ↓C.q0_r20_w, C.q0_r20_b, ↓C.q0_b24_w, ↓C.q0_c25_w, ↓C.q0_r19_w, C.q0_r19_b, ↓C.q0_c26_w, ↓C.q0_r18_w, C.q0_r18_b, ↓C.q0_c27_w, ↓C.q0_r17_w, C.q0_r17_b, ↓C.q0_c28_w, ↓C.q0_r15_w, C.q0_r15_b, ↓C.q0_c29_w, ↓C.q0_r16_w, C.q0_r16_b, ↓C.q0_b30_w, ↓C.q0_c31_w, ↓C.q0_c32_w, ↓C.q0_r14_w, C.q0_r14_b, ↓C.q0_b34_w, ↓C.q0_c35_w, ↓C.q0_r13_w, C.q0_r13_b, ↓C.q0_c36_w, ↓C.q0_r8_w, C.q0_r8_b, ↓C.q0_c37_w, ↓C.q0_r12_w, C.q0_r12_b, ↓C.q0_c38_w, ↓C.q0_r11_w, C.q0_r11_b, ↓C.q0_c39_w, ↓C.q0_r10_w, C.q0_r10_b, ↓C.q0_c40_w, ↓C.q0_r9_w, C.q0_r9_b, ↓C.q0_b41_w, ↓C.q0_c42_w, ↓C.q0_c43_w, ↓C.q0_r7_w, C.q0_r7_b, ↓C.q0_b45_w, ↓C.q0_c46_w, ↓C.q0_r6_w, C.q0_r6_b, ↓C.q0_c47_w, ↓C.q0_r5_w, C.q0_r5_b, ↓C.q0_c48_w, ↓C.q0_c49_w, ↓C.q0_r4_w, C.q0_r4_b, ↓C.q0_c50_w, ↓C.q0_r3_w, C.q0_r3_b, ↓C.q0_c51_w, ↓C.q0_r2_w, C.q0_r2_b, ↓C.q0_c52_w, ↓C.q0_r1_w, C.q0_r1_b, ↓C.q0_c53_w, ↓C.q0_r0_w, C.q0_r0_b, C.q0, hb, Soc.cells, Soc.clkV, hz, g0, Int.toNat_natCast]
  rw [C.q0_c15_w, awp_keep]
  exact kk_errs hS hin h hst hR hV
/-- What runs, and how fast, is written down. -/
theorem kk_fill {s : ASt} {ns : List Nd} {x : Int} (hx : -9223372036854775808 ≤ x ∧ x ≤ 9223372036854775807) (h : KW st s ib p ig S ns) (hst : ctickL ns = ns) :
    awp Try.prog C.q0_c28 (Post [.slot 6] fun r s => r = .bool true ∧ st.le s) [(2, .int .i64 x), (8, .ptr ib 0), (9, .ptr p 0)] s := by
  have hnc := hS.nc
  have hlen := h.k.len
  have hN := h.k.ok
  have hb := h.hb
  have hzn : (0 : Int) ≤ (S.clocks.length : Nat) ∧ ((S.clocks.length : Nat) : Int) ≤ 4294967296 := by omega
  simp only [↓Bp, Bq, Bs, ↓aop.eq_28, ↓aop.eq_30, Nat.reduceEqDiff, Nat.reduceAdd, Nat.reduceMul, Nat.reduceSub, Nat.reduceLeDiff, Nat.reduceLT, Int.reduceLT, Int.reduceLE, Int.reduceEq, Int.reduceToNat, Int.reduceAdd, Int.reduceSub, Int.reduceNeg, ↓reduceIte, reduceCtorEq, ↓C.q0_r17_w, C.q0_r17_b, ↓C.q0_c28_w, ↓C.q0_r15_w, C.q0_r15_b, ↓C.q0_c29_w, ↓C.q0_r16_w, C.q0_r16_b, ↓C.q0_b30_w, ↓C.q0_c31_w, ↓C.q0_c32_w, ↓C.q0_r14_w, C.q0_r14_b, ↓C.q0_b34_w, ↓C.q0_c35_w, ↓C.q0_r13_w, C.q0_r13_b, ↓C.q0_c36_w, ↓C.q0_r8_w, C.q0_r8_b, ↓C.q0_c37_w, ↓C.q0_r12_w, C.q0_r12_b, ↓C.q0_c38_w, ↓C.q0_r11_w, C.q0_r11_b, ↓C.q0_c39_w, ↓C.q0_r10_w, C.q0_r10_b, ↓C.q0_c40_w, ↓C.q0_r9_w, C.q0_r9_b, ↓C.q0_b41_w, ↓C.q0_c42_w, ↓C.q0_c43_w, ↓C.q0_r7_w, C.q0_r7_b, ↓C.q0_b45_w, ↓C.q0_c46_w, ↓C.q0_r6_w, C.q0_r6_b, ↓C.q0_c47_w, ↓C.q0_r5_w, C.q0_r5_b, ↓C.q0_c48_w, ↓C.q0_c49_w, ↓C.q0_r4_w, C.q0_r4_b, ↓C.q0_c50_w, ↓C.q0_r3_w, C.q0_r3_b, ↓C.q0_c51_w, ↓C.q0_r2_w, C.q0_r2_b, ↓C.q0_c52_w, ↓C.q0_r1_w, C.q0_r1_b, ↓C.q0_c53_w, ↓C.q0_r0_w, C.q0_r0_b, C.q0, hb, Soc.cells, Soc.clkV, hzn, Int.toNat_natCast, zeros_cbool]
  rintro ir hir
  obtain ⟨h2, hR⟩ := h.cells hir (cbools (List.replicate S.clocks.length false))
  generalize s.new ir (.cells (cbools (List.replicate S.clocks.length false))) = s2 at h2 hR
  rw [C.q0_c27_w, awp_keep]
  have hb := h2.hb
  simp only [↓Bp, Bq, Bs, ↓aop.eq_28, ↓aop.eq_30, Nat.reduceEqDiff, Nat.reduceAdd, Nat.reduceMul, Nat.reduceSub, Nat.reduceLeDiff, Nat.reduceLT, Int.reduceLT, Int.reduceLE, Int.reduceEq, Int.reduceToNat, Int.reduceAdd, Int.reduceSub, Int.reduceNeg, ↓reduceIte, reduceCtorEq, ↓C.q0_r18_w, C.q0_r18_b, ↓C.q0_c27_w, ↓C.q0_r17_w, C.q0_r17_b, ↓C.q0_c28_w, ↓C.q0_r15_w, C.q0_r15_b, ↓C.q0_c29_w, ↓C.q0_r16_w, C.q0_r16_b, ↓C.q0_b30_w, ↓C.q0_c31_w, ↓C.q0_c32_w, ↓C.q0_r14_w, C.q0_r14_b, ↓C.q0_b34_w, ↓C.q0_c35_w, ↓C.q0_r13_w, C.q0_r13_b, ↓C.q0_c36_w, ↓C.q0_r8_w, C.q0_r8_b, ↓C.q0_c37_w, ↓C.q0_r12_w, C.q0_r12_b, ↓C.q0_c38_w, ↓C.q0_r11_w, C.q0_r11_b, ↓C.q0_c39_w, ↓C.q0_r10_w, C.q0_r10_b, ↓C.q0_c40_w, ↓C.q0_r9_w, C.q0_r9_b, ↓C.q0_b41_w, ↓C.q0_c42_w, ↓C.q0_c43_w, ↓C.q0_r7_w, C.q0_r7_b, ↓C.q0_b45_w, ↓C.q0_c46_w, ↓C.q0_r6_w, C.q0_r6_b, ↓C.q0_c47_w, ↓C.q0_r5_w, C.q0_r5_b, ↓C.q0_c48_w, ↓C.q0_c49_w, ↓C.q0_r4_w, C.q0_r4_b, ↓C.q0_c50_w, ↓C.q0_r3_w, C.q0_r3_b, ↓C.q0_c51_w, ↓C.q0_r2_w, C.q0_r2_b, ↓C.q0_c52_w, ↓C.q0_r1_w, C.q0_r1_b, ↓C.q0_c53_w, ↓C.q0_r0_w, C.q0_r0_b, C.q0, hb, Soc.cells, Soc.clkV, hzn, Int.toNat_natCast, zeros_u64s]
  rintro iv hiv
  have hne : ir ≠ iv := by rintro rfl; rw [hR.hx] at hiv; cases hiv
  obtain ⟨h3, hV⟩ := h2.cells hiv (u64s (List.replicate S.clocks.length 0))
  have hR := hR.step (ASt.le.new s2 iv (.cells (u64s (List.replicate S.clocks.length 0))))
  generalize s2.new iv (.cells (u64s (List.replicate S.clocks.length 0))) = s3 at h3 hR hV
  rw [C.q0_c26_w, awp_keep]
  simp only [↓Bp, Bq, Bs, ↓aop.eq_28, ↓aop.eq_30, Nat.reduceEqDiff, Nat.reduceAdd, Nat.reduceMul, Nat.reduceSub, Nat.reduceLeDiff, Nat.reduceLT, Int.reduceLT, Int.reduceLE, Int.reduceEq, Int.reduceToNat, Int.reduceAdd, Int.reduceSub, Int.reduceNeg, ↓reduceIte, reduceCtorEq, ↓C.q0_r21_w, C.q0_r21_b, ↓C.q0_c18_w, ↓C.q0_r23_w, C.q0_r23_b, ↓C.q0_c19_w, ↓C.q0_r22_w, C.q0_r22_b, ↓C.q0_b20_w, ↓C.q0_c21_w, ↓C.q0_c22_w, ↓C.q0_r20_w, C.q0_r20_b, ↓C.q0_b24_w, ↓C.q0_c25_w, ↓C.q0_r19_w, C.q0_r19_b, ↓C.q0_c26_w, ↓C.q0_r18_w, C.q0_r18_b, ↓C.q0_c27_w, ↓C.q0_r17_w, C.q0_r17_b, ↓C.q0_c28_w, ↓C.q0_r15_w, C.q0_r15_b, ↓C.q0_c29_w, ↓C.q0_r16_w, C.q0_r16_b, ↓C.q0_b30_w, ↓C.q0_c31_w, ↓C.q0_c32_w, ↓C.q0_r14_w, C.q0_r14_b, ↓C.q0_b34_w, ↓C.q0_c35_w, ↓C.q0_r13_w, C.q0_r13_b, ↓C.q0_c36_w, ↓C.q0_r8_w, C.q0_r8_b, ↓C.q0_c37_w, ↓C.q0_r12_w, C.q0_r12_b, ↓C.q0_c38_w, ↓C.q0_r11_w, C.q0_r11_b, ↓C.q0_c39_w, ↓C.q0_r10_w, C.q0_r10_b, ↓C.q0_c40_w, ↓C.q0_r9_w, C.q0_r9_b, ↓C.q0_b41_w, ↓C.q0_c42_w, ↓C.q0_c43_w, ↓C.q0_r7_w, C.q0_r7_b, ↓C.q0_b45_w, ↓C.q0_c46_w, ↓C.q0_r6_w, C.q0_r6_b, ↓C.q0_c47_w, ↓C.q0_r5_w, C.q0_r5_b, ↓C.q0_c48_w, ↓C.q0_c49_w, ↓C.q0_r4_w, C.q0_r4_b, ↓C.q0_c50_w, ↓C.q0_r3_w, C.q0_r3_b, ↓C.q0_c51_w, ↓C.q0_r2_w, C.q0_r2_b, ↓C.q0_c52_w, ↓C.q0_r1_w, C.q0_r1_b, ↓C.q0_c53_w, ↓C.q0_r0_w, C.q0_r0_b, C.q0]
  refine awp_midB (fun _ : Unit => [(2, .int .i64 x), (8, .ptr ib 0), (9, .ptr p 0), (14, .sl 1 ir 0 S.clocks.length), (15, .sl 1 iv 0 S.clocks.length)]) (fun _ s' => KW st s' ib p ig S ns ∧ KC st s' ir (cbools ((List.range S.clocks.length).map (run ns))) ib p ig ∧ KC st s' iv (u64s ((List.range S.clocks.length).map (rateL ns))) ib p ig) ?_ ?_
  rotate_left
  · rintro - s' ⟨h, hR, hV⟩
    exact kk_pick hS hx h hst hR hV
  refine awp_loopK (fun j : Nat => [(2, .int .i64 x), (8, .ptr ib 0), (9, .ptr p 0), (14, .sl 1 ir 0 S.clocks.length), (15, .sl 1 iv 0 S.clocks.length), (16, .int .i64 j)]) (fun j s' => j ≤ S.clocks.length ∧ KW st s' ib p ig S ns ∧ KC st s' ir (cbools (((List.range S.clocks.length).map (run ns)).take j ++ List.replicate (S.clocks.length - j) false)) ib p ig ∧ KC st s' iv (u64s (((List.range S.clocks.length).map (rateL ns)).take j ++ List.replicate (S.clocks.length - j) 0)) ib p ig) (fun j => S.clocks.length - j) 0 rfl ⟨Nat.zero_le _, h3, by simpa using hR, by simpa using hV⟩ ?_
  clear h h2 h3 hR hV hb hir hiv
  rintro j s ⟨hj, h, hR, hV⟩
  have hb := h.hb
  by_cases hjl : j < S.clocks.length
  rotate_left
  · have hjl' : ¬ (j : Int) < (S.clocks.length : Nat) := by omega
    rw [show j = S.clocks.length by omega, Nat.sub_self, List.replicate_zero, List.append_nil, List.take_of_length_le (by simp)] at hR hV
    simp only [↓Bp, Bq, Bs, ↓aop.eq_28, ↓aop.eq_30, Nat.reduceEqDiff, Nat.reduceAdd, Nat.reduceMul, Nat.reduceSub, Nat.reduceLeDiff, Nat.reduceLT, Int.reduceLT, Int.reduceLE, Int.reduceEq, Int.reduceToNat, Int.reduceAdd, Int.reduceSub, Int.reduceNeg, ↓reduceIte, reduceCtorEq, ↓C.q0_W, C.q0_B, C.q0, hjl', hb, Soc.cells, Soc.clkV]
    exact ⟨(), h, hR, hV⟩
  have hjl' : (j : Int) < (S.clocks.length : Nat) := by omega
  have hw := wsucc hjl (by omega)
  have hz : (0:Int) ≤ (j : Int) ∧ (j : Int) < (S.clocks.length : Nat) := by omega
  have hr := hR.hx
  have e1 := fill_set ((List.range S.clocks.length).map (run ns)) false hjl (by simp)
  have e2 := fill_set ((List.range S.clocks.length).map (rateL ns)) 0 hjl (by simp)
  simp only [List.getElem_map, List.getElem_range] at e1 e2
  have l1 := fill_len ((List.range S.clocks.length).map (run ns)) false hj (by simp)
  have l2 := fill_len ((List.range S.clocks.length).map (rateL ns)) 0 hj (by simp)
  have l3 := fill_len ((List.range S.clocks.length).map (run ns)) false (t := j + 1) hjl (by simp)
  have l4 := fill_len ((List.range S.clocks.length).map (rateL ns)) 0 (t := j + 1) hjl (by simp)
  have f1 : j < (cbools (((List.range S.clocks.length).map (run ns)).take j ++ List.replicate (S.clocks.length - j) false)).length := by rw [cbools_len]; omega
  have f2 : j < (u64s (((List.range S.clocks.length).map (rateL ns)).take j ++ List.replicate (S.clocks.length - j) 0)).length := by rw [u64s_len]; omega
  simp only [↓Bp, Bq, Bs, ↓aop.eq_28, ↓aop.eq_30, Nat.reduceEqDiff, Nat.reduceAdd, Nat.reduceMul, Nat.reduceSub, Nat.reduceLeDiff, Nat.reduceLT, Int.reduceLT, Int.reduceLE, Int.reduceEq, Int.reduceToNat, Int.reduceAdd, Int.reduceSub, Int.reduceNeg, ↓reduceIte, reduceCtorEq, ↓C.q0_W, C.q0_B, C.q0, hjl', hb, Soc.cells, Soc.clkV]
  refine (running_at h.t hN (i := j) (by omega)).mono ?_
  rintro r s1 ⟨rfl, rfl⟩
  simp only [↓Bp, Bq, Bs, ↓aop.eq_28, ↓aop.eq_30, Nat.reduceEqDiff, Nat.reduceAdd, Nat.reduceMul, Nat.reduceSub, Nat.reduceLeDiff, Nat.reduceLT, Int.reduceLT, Int.reduceLE, Int.reduceEq, Int.reduceToNat, Int.reduceAdd, Int.reduceSub, Int.reduceNeg, ↓reduceIte, reduceCtorEq, ↓C.q0_W, C.q0_B, C.q0, hr, hz, f1, cbools_set, e1, Int.toNat_natCast, Nat.mul_one]
  have h2 := hR.kw h (.cells (cbools (((List.range S.clocks.length).map (run ns)).take (j + 1) ++ List.replicate (S.clocks.length - (j + 1)) false)))
  have hR2 := hR.put (cbools (((List.range S.clocks.length).map (run ns)).take (j + 1) ++ List.replicate (S.clocks.length - (j + 1)) false)) (by rw [cbools_len, cbools_len]; omega)
  have hV2 := hV.other (Ne.symm hne) (.cells (cbools (((List.range S.clocks.length).map (run ns)).take (j + 1) ++ List.replicate (S.clocks.length - (j + 1)) false)))
  generalize s1.set ir (.cells (cbools (((List.range S.clocks.length).map (run ns)).take (j + 1) ++ List.replicate (S.clocks.length - (j + 1)) false))) = s2 at h2 hR2 hV2
  have hv := hV2.hx
  refine (show ACalls Try.prog F.q9 [.ptr p 0, .int .i64 j] s2 fun r s' => r = .int .u64 (rateL ns j) ∧ s' = s2 from rate_spec h2.t hN (i := j) (by omega)).mono ?_
  rintro r s3 ⟨rfl, rfl⟩
  simp only [↓Bp, Bq, Bs, ↓aop.eq_28, ↓aop.eq_30, Nat.reduceEqDiff, Nat.reduceAdd, Nat.reduceMul, Nat.reduceSub, Nat.reduceLeDiff, Nat.reduceLT, Int.reduceLT, Int.reduceLE, Int.reduceEq, Int.reduceToNat, Int.reduceAdd, Int.reduceSub, Int.reduceNeg, ↓reduceIte, reduceCtorEq, ↓C.q0_W, C.q0_B, C.q0, hv, hz, f2, u64s_set, e2, hw, Int.toNat_natCast, Nat.mul_one]
  exact ⟨j + 1, rfl, ⟨hjl, hV2.kw h2 _, hR2.other hne _, hV2.put _ (by rw [u64s_len, u64s_len]; omega)⟩, by omega⟩
/-- Sixty ticks. -/
theorem kk_ticks {s : ASt} {ns : List Nd} {x : Int} (hx : -9223372036854775808 ≤ x ∧ x ≤ 9223372036854775807) (h : KW st s ib p ig S ns) (hL : LowL ns) :
    awp Try.prog C.q0_c36 (Post [.slot 6] fun r s => r = .bool true ∧ st.le s) [(2, .int .i64 x), (8, .ptr ib 0), (9, .ptr p 0)] s := by
  have hnc := hS.nc
  have hlen := h.k.len
  have hst := tickN_stay h.k.ok hL (by omega)
  simp only [↓Bp, Bq, Bs, ↓aop.eq_28, ↓aop.eq_30, Nat.reduceEqDiff, Nat.reduceAdd, Nat.reduceMul, Nat.reduceSub, Nat.reduceLeDiff, Nat.reduceLT, Int.reduceLT, Int.reduceLE, Int.reduceEq, Int.reduceToNat, Int.reduceAdd, Int.reduceSub, Int.reduceNeg, ↓reduceIte, reduceCtorEq, ↓C.q0_W, C.q0_B, C.q0]
  refine awp_midB (fun _ : Unit => [(2, .int .i64 x), (8, .ptr ib 0), (9, .ptr p 0)]) (fun _ s' => KW st s' ib p ig S (tickN 60 ns)) ?_ ?_
  rotate_left
  · rintro - s' h
    exact kk_fill hS hx h hst
  refine awp_loopK (fun t : Nat => [(2, .int .i64 x), (8, .ptr ib 0), (9, .ptr p 0), (13, .int .i64 t)]) (fun t s' => t ≤ 60 ∧ KW st s' ib p ig S (tickN t ns)) (fun t => 60 - t) 0 rfl ⟨Nat.zero_le _, h⟩ ?_
  clear h s
  rintro t s ⟨ht, h⟩
  by_cases htl : t < 60
  rotate_left
  · have htl' : ¬ (t : Int) < 60 := by omega
    rw [show t = 60 by omega] at h
    simp only [↓Bp, Bq, Bs, ↓aop.eq_28, ↓aop.eq_30, Nat.reduceEqDiff, Nat.reduceAdd, Nat.reduceMul, Nat.reduceSub, Nat.reduceLeDiff, Nat.reduceLT, Int.reduceLT, Int.reduceLE, Int.reduceEq, Int.reduceToNat, Int.reduceAdd, Int.reduceSub, Int.reduceNeg, ↓reduceIte, reduceCtorEq, ↓C.q0_W, C.q0_B, C.q0, htl']
    exact ⟨(), h⟩
  have htl' : (t : Int) < 60 := by omega
  have hw := wsucc (k := t) (n := 60) (by omega) (by omega)
  simp only [↓Bp, Bq, Bs, ↓aop.eq_28, ↓aop.eq_30, Nat.reduceEqDiff, Nat.reduceAdd, Nat.reduceMul, Nat.reduceSub, Nat.reduceLeDiff, Nat.reduceLT, Int.reduceLT, Int.reduceLE, Int.reduceEq, Int.reduceToNat, Int.reduceAdd, Int.reduceSub, Int.reduceNeg, ↓reduceIte, reduceCtorEq, ↓C.q0_W, C.q0_B, C.q0, htl']
  refine (ctick_spec h.t h.k.ok).mono ?_
  rintro r s1 rfl
  simp only [↓Bp, Bq, Bs, ↓aop.eq_28, ↓aop.eq_30, Nat.reduceEqDiff, Nat.reduceAdd, Nat.reduceMul, Nat.reduceSub, Nat.reduceLeDiff, Nat.reduceLT, Int.reduceLT, Int.reduceLE, Int.reduceEq, Int.reduceToNat, Int.reduceAdd, Int.reduceSub, Int.reduceNeg, ↓reduceIte, reduceCtorEq, ↓C.q0_W, C.q0_B, C.q0, hw]
  exact ⟨t + 1, rfl, ⟨htl, h.set h.k.tick⟩, by omega⟩
/-- The acts. -/
theorem kk_acts {s : ASt} {acts : List Trip} {x : Int} (hx : -9223372036854775808 ≤ x ∧ x ≤ 9223372036854775807) (hac : ∀ x ∈ acts, I64 x.a ∧ I64 x.b ∧ I64 x.c) (hal : acts.length ≤ 60) {ns : List Nd} (h : KW st s ib p ig S ns) (hL : LowL ns) :
    awp Try.prog C.q0_c47 (Post [.slot 6] fun r s => r = .bool true ∧ st.le s)
      [(1, .isl 3 (acts.flatMap encTrip) acts.length), (2, .int .i64 x), (8, .ptr ib 0), (9, .ptr p 0)] s := by
  have hnc := hS.nc
  simp only [↓Bp, Bq, Bs, ↓aop.eq_28, ↓aop.eq_30, Nat.reduceEqDiff, Nat.reduceAdd, Nat.reduceMul, Nat.reduceSub, Nat.reduceLeDiff, Nat.reduceLT, Int.reduceLT, Int.reduceLE, Int.reduceEq, Int.reduceToNat, Int.reduceAdd, Int.reduceSub, Int.reduceNeg, ↓reduceIte, reduceCtorEq, ↓C.q0_W, C.q0_B, C.q0]
  refine awp_midB (fun _ : Unit => [(2, .int .i64 x), (8, .ptr ib 0), (9, .ptr p 0)]) (fun _ s' => ∃ ns, KW st s' ib p ig S ns ∧ LowL ns) ?_ ?_
  rotate_left
  · rintro - s' ⟨ns, h, hL⟩
    exact kk_ticks hS hx h hL
  refine awp_loopK (fun t : Nat => [(1, .isl 3 (acts.flatMap encTrip) acts.length), (2, .int .i64 x), (8, .ptr ib 0), (9, .ptr p 0), (11, .int .i64 t)])
    (fun t s => t ≤ acts.length ∧ ∃ ns, KW st s ib p ig S ns ∧ LowL ns) (fun t => acts.length - t) 0 rfl ⟨Nat.zero_le _, ns, h, hL⟩ ?_
  clear h hL ns s
  rintro t s ⟨ht, ns, h, hL⟩
  have hb := h.hb
  by_cases htl : t < acts.length
  rotate_left
  · have htl' : ¬ (t : Int) < (acts.length : Nat) := by omega
    simp only [↓Bp, Bq, Bs, ↓aop.eq_28, ↓aop.eq_30, Nat.reduceEqDiff, Nat.reduceAdd, Nat.reduceMul, Nat.reduceSub, Nat.reduceLeDiff, Nat.reduceLT, Int.reduceLT, Int.reduceLE, Int.reduceEq, Int.reduceToNat, Int.reduceAdd, Int.reduceSub, Int.reduceNeg, ↓reduceIte, reduceCtorEq, ↓C.q0_W, C.q0_B, C.q0, htl']
    exact ⟨(), ns, h, hL⟩
  have htl' : (t : Int) < (acts.length : Nat) := by omega
  have hw := wsucc htl (by omega)
  have hz2 : (0:Int) ≤ (t : Int) ∧ (t : Int) < (acts.length : Nat) := by omega
  have hg := trips_get acts htl
  have hIa := hac _ (List.getElem_mem htl)
  simp only [↓Bp, Bq, Bs, ↓aop.eq_28, ↓aop.eq_30, Nat.reduceEqDiff, Nat.reduceAdd, Nat.reduceMul, Nat.reduceSub, Nat.reduceLeDiff, Nat.reduceLT, Int.reduceLT, Int.reduceLE, Int.reduceEq, Int.reduceToNat, Int.reduceAdd, Int.reduceSub, Int.reduceNeg, ↓reduceIte, reduceCtorEq, ↓C.q0_W, C.q0_B, C.q0, htl', hb, Soc.cells, Soc.clkV, hz2, Int.toNat_natCast, hg.1, hg.2.1, hg.2.2]
  refine (pick_spec hIa.2.1 (n := S.clocks.length) (by omega)).mono ?_
  rintro r s ⟨rfl, rfl⟩
  have hkl := pickI_lt acts[t].b (n := S.clocks.length) (by omega)
  generalize pickI acts[t].b S.clocks.length = k at hkl
  have hlen := h.k.len
  have hk : k < ns.length := by omega
  simp only [↓Bp, Bq, Bs, ↓aop.eq_28, ↓aop.eq_30, Nat.reduceEqDiff, Nat.reduceAdd, Nat.reduceMul, Nat.reduceSub, Nat.reduceLeDiff, Nat.reduceLT, Int.reduceLT, Int.reduceLE, Int.reduceEq, Int.reduceToNat, Int.reduceAdd, Int.reduceSub, Int.reduceNeg, ↓reduceIte, reduceCtorEq, ↓C.q0_W, C.q0_B, C.q0, hz2, Int.toNat_natCast, hg.1, hg.2.1, hg.2.2]
  refine (pick_spec hIa.2.2 (n := 3) (by omega)).mono ?_
  rintro r s ⟨rfl, rfl⟩
  simp only [↓Bp, Bq, Bs, ↓aop.eq_28, ↓aop.eq_30, Nat.reduceEqDiff, Nat.reduceAdd, Nat.reduceMul, Nat.reduceSub, Nat.reduceLeDiff, Nat.reduceLT, Int.reduceLT, Int.reduceLE, Int.reduceEq, Int.reduceToNat, Int.reduceAdd, Int.reduceSub, Int.reduceNeg, ↓reduceIte, reduceCtorEq, ↓C.q0_W, C.q0_B, C.q0, hz2, Int.toNat_natCast, hg.1, hg.2.1, hg.2.2]
  refine (on_spec h.t hk _).mono ?_
  rintro r s1 ⟨rfl, rfl⟩
  have hK := h.k.on hk (decide (0 < ((pickI acts[t].c 3 : Nat) : Int)))
  have h2 := h.set hK
  have hL2 := hL.on hk (decide (0 < ((pickI acts[t].c 3 : Nat) : Int)))
  have hl2 := onL_len hk (decide (0 < ((pickI acts[t].c 3 : Nat) : Int)))
  generalize onL ns k hk (decide (0 < ((pickI acts[t].c 3 : Nat) : Int))) = n2 at h2 hL2 hK hl2
  generalize s.set ig (nsC n2) = s2 at h2
  have hk2 : k < n2.length := by omega
  simp only [↓Bp, Bq, Bs, ↓aop.eq_28, ↓aop.eq_30, Nat.reduceEqDiff, Nat.reduceAdd, Nat.reduceMul, Nat.reduceSub, Nat.reduceLeDiff, Nat.reduceLT, Int.reduceLT, Int.reduceLE, Int.reduceEq, Int.reduceToNat, Int.reduceAdd, Int.reduceSub, Int.reduceNeg, ↓reduceIte, reduceCtorEq, ↓C.q0_W, C.q0_B, C.q0, hz2, Int.toNat_natCast, hg.1, hg.2.1, hg.2.2]
  refine (pick_spec hIa.2.2 (n := 2) (by omega)).mono ?_
  rintro r s ⟨rfl, rfl⟩
  simp only [↓Bp, Bq, Bs, ↓aop.eq_28, ↓aop.eq_30, Nat.reduceEqDiff, Nat.reduceAdd, Nat.reduceMul, Nat.reduceSub, Nat.reduceLeDiff, Nat.reduceLT, Int.reduceLT, Int.reduceLE, Int.reduceEq, Int.reduceToNat, Int.reduceAdd, Int.reduceSub, Int.reduceNeg, ↓reduceIte, reduceCtorEq, ↓C.q0_W, C.q0_B, C.q0]
  refine (sel_spec h2.t hk2 _).mono ?_
  rintro r s1 ⟨rfl, rfl⟩
  have hK3 := h2.k.sel hk2 ((pickI acts[t].c 2 : Nat) : Int)
  have h3 := h2.set hK3
  have hL3 := hL2.sel hk2 ((pickI acts[t].c 2 : Nat) : Int)
  generalize selL n2 k hk2 ((pickI acts[t].c 2 : Nat) : Int) = n3 at h3 hL3 hK3
  generalize s.set ig (nsC n3) = s3 at h3
  simp only [↓Bp, Bq, Bs, ↓aop.eq_28, ↓aop.eq_30, Nat.reduceEqDiff, Nat.reduceAdd, Nat.reduceMul, Nat.reduceSub, Nat.reduceLeDiff, Nat.reduceLT, Int.reduceLT, Int.reduceLE, Int.reduceEq, Int.reduceToNat, Int.reduceAdd, Int.reduceSub, Int.reduceNeg, ↓reduceIte, reduceCtorEq, ↓C.q0_W, C.q0_B, C.q0]
  refine (ctick_spec h3.t hK3.ok).mono ?_
  rintro r s4 rfl
  simp only [↓Bp, Bq, Bs, ↓aop.eq_28, ↓aop.eq_30, Nat.reduceEqDiff, Nat.reduceAdd, Nat.reduceMul, Nat.reduceSub, Nat.reduceLeDiff, Nat.reduceLT, Int.reduceLT, Int.reduceLE, Int.reduceEq, Int.reduceToNat, Int.reduceAdd, Int.reduceSub, Int.reduceNeg, ↓reduceIte, reduceCtorEq, ↓C.q0_W, C.q0_B, C.q0, hw]
  exact ⟨t + 1, rfl, ⟨htl, _, h3.set hK3.tick, hL3.tick⟩, by omega⟩
end
theorem clockkeeps_spec {st : ASt} {l : List Int} {acts : List Trip} {x : Int} (hl : ∀ x ∈ l, -9223372036854775808 ≤ x ∧ x ≤ 9223372036854775807) (hll : l.length ≤ 9223372036854775807)
    (hac : ∀ x ∈ acts, I64 x.a ∧ I64 x.b ∧ I64 x.c) (hal : acts.length ≤ 9223372036854775807) (hx : -9223372036854775808 ≤ x ∧ x ≤ 9223372036854775807) :
    ACalls Try.prog F.q0 [row l, .isl 3 (acts.flatMap encTrip) acts.length, .int .i64 x] st fun r s => r = .bool true ∧ s = st := by
  refine ACalls.gc (Q' := fun r s => r = .bool true ∧ st.le s) (calls_of_awp L.q0 rfl ?_) (fun v s ⟨h, hl⟩ => ⟨st, hl, h, rfl⟩)
  simp only [↓Bp, Bq, Bs, ↓aop.eq_28, ↓aop.eq_30, Nat.reduceEqDiff, Nat.reduceAdd, Nat.reduceMul, Nat.reduceSub, Nat.reduceLeDiff, Nat.reduceLT, Int.reduceLT, Int.reduceLE, Int.reduceEq, Int.reduceToNat, Int.reduceAdd, Int.reduceSub, Int.reduceNeg, ↓reduceIte, reduceCtorEq, ↓C.q0_W, C.q0_B, C.q0]
  refine (kshown_spec st).mono ?_
  rintro r s ⟨rfl, rfl⟩
  simp only [↓Bp, Bq, Bs, ↓aop.eq_28, ↓aop.eq_30, Nat.reduceEqDiff, Nat.reduceAdd, Nat.reduceMul, Nat.reduceSub, Nat.reduceLeDiff, Nat.reduceLT, Int.reduceLT, Int.reduceLE, Int.reduceEq, Int.reduceToNat, Int.reduceAdd, Int.reduceSub, Int.reduceNeg, ↓reduceIte, reduceCtorEq, ↓C.q0_W, C.q0_B, C.q0]
  refine (chip_frz hl hll).mono ?_
  rintro r s ⟨rfl, rfl⟩
  have hS := chipS_like l
  generalize chipS l = S at hS
  have hnc := hS.nc
  have l4 : S.cells.length = 4 := rfl
  have e4 : AV.agg (List.take 4 S.cells) = .agg S.cells := rfl
  have f4 : allLeaf S.cells = true := rfl
  simp only [↓Bp, Bq, Bs, ↓aop.eq_28, ↓aop.eq_30, Nat.reduceEqDiff, Nat.reduceAdd, Nat.reduceMul, Nat.reduceSub, Nat.reduceLeDiff, Nat.reduceLT, Int.reduceLT, Int.reduceLE, Int.reduceEq, Int.reduceToNat, Int.reduceAdd, Int.reduceSub, Int.reduceNeg, ↓reduceIte, reduceCtorEq, ↓C.q0_r2_w, C.q0_r2_b, ↓C.q0_c52_w, ↓C.q0_r1_w, C.q0_r1_b, ↓C.q0_c53_w, ↓C.q0_r0_w, C.q0_r0_b, C.q0, l4, f4]
  rintro ib hib
  simp only [↓Bp, Bq, Bs, ↓aop.eq_28, ↓aop.eq_30, Nat.reduceEqDiff, Nat.reduceAdd, Nat.reduceMul, Nat.reduceSub, Nat.reduceLeDiff, Nat.reduceLT, Int.reduceLT, Int.reduceLE, Int.reduceEq, Int.reduceToNat, Int.reduceAdd, Int.reduceSub, Int.reduceNeg, ↓reduceIte, reduceCtorEq, ↓C.q0_r2_w, C.q0_r2_b, ↓C.q0_c52_w, ↓C.q0_r1_w, C.q0_r1_b, ↓C.q0_c53_w, ↓C.q0_r0_w, C.q0_r0_b, C.q0, hib, l4, f4]
  rw [ASt.new_set hib, show putN [AV.nils, AV.nils, AV.nils, AV.nils] 0 S.cells = S.cells from putN_all rfl]
  simp only [↓Bp, Bq, Bs, ↓aop.eq_28, ↓aop.eq_30, Nat.reduceEqDiff, Nat.reduceAdd, Nat.reduceMul, Nat.reduceSub, Nat.reduceLeDiff, Nat.reduceLT, Int.reduceLT, Int.reduceLE, Int.reduceEq, Int.reduceToNat, Int.reduceAdd, Int.reduceSub, Int.reduceNeg, ↓reduceIte, reduceCtorEq, ↓C.q0_W, C.q0_B, C.q0, hib, l4, e4]
  refine (kstart_spec hib hS).mono ?_
  rintro r s1 ⟨p, ig, rfl, h⟩
  by_cases hac0 : acts.length ≤ 60
  rotate_left
  · have hz0 : (60 : Int) < (acts.length : Nat) := by omega
    simp only [↓Bp, Bq, Bs, ↓aop.eq_28, ↓aop.eq_30, Nat.reduceEqDiff, Nat.reduceAdd, Nat.reduceMul, Nat.reduceSub, Nat.reduceLeDiff, Nat.reduceLT, Int.reduceLT, Int.reduceLE, Int.reduceEq, Int.reduceToNat, Int.reduceAdd, Int.reduceSub, Int.reduceNeg, ↓reduceIte, reduceCtorEq, ↓C.q0_W, C.q0_B, C.q0, hz0]
    exact h.le
  have hz0 : ¬ (60 : Int) < (acts.length : Nat) := by omega
  simp only [↓Bp, Bq, Bs, ↓aop.eq_28, ↓aop.eq_30, Nat.reduceEqDiff, Nat.reduceAdd, Nat.reduceMul, Nat.reduceSub, Nat.reduceLeDiff, Nat.reduceLT, Int.reduceLT, Int.reduceLE, Int.reduceEq, Int.reduceToNat, Int.reduceAdd, Int.reduceSub, Int.reduceNeg, ↓reduceIte, reduceCtorEq, ↓C.q0_r5_w, C.q0_r5_b, ↓C.q0_c48_w, ↓C.q0_c49_w, ↓C.q0_r4_w, C.q0_r4_b, ↓C.q0_c50_w, ↓C.q0_r3_w, C.q0_r3_b, ↓C.q0_c51_w, ↓C.q0_r2_w, C.q0_r2_b, ↓C.q0_c52_w, ↓C.q0_r1_w, C.q0_r1_b, ↓C.q0_c53_w, ↓C.q0_r0_w, C.q0_r0_b, C.q0, hz0]
  rw [C.q0_c47_w, awp_keep]
  exact kk_acts hS hx hac hac0 h (LowL.fresh hS.clk)
end Go.Proofs.Ytkioaemhdbcfaaa.Cn
