/- What a chip is made of raw numbers. -/
import Derived.Test.YtjamidgdhmjhaaaCnPick
import Derived.Test.YtjamidgdhmjhaaaCnL3
set_option linter.unusedSimpArgs false
set_option linter.unusedVariables false
namespace Go.Proofs.Ytjamidgdhmjhaaa.Cn
open Go Go.Proofs

/-- So many numbers are drawn. -/
def dl (f : Nat → Nat) (i : Nat) : List Int := (List.range 120).map fun j => if j < i then (f j : Int) else 0
theorem dl_length (f : Nat → Nat) (i : Nat) : (dl f i).length = 120 := by simp [dl]
theorem dl_zero (f : Nat → Nat) : ints (dl f 0) = zeros [.int .i64 0] 120 := by
  have hz : ∀ n, zeros [AV.int .i64 0] n = List.replicate n (.int .i64 0) := fun n => by
    induction n with
    | zero => rfl
    | succ n ih => rw [zeros, ih]; rfl
  rw [hz]
  simp [dl, ints, List.map_const']
theorem dl_set (f : Nat → Nat) {i : Nat} (h : i < 120) : (dl f i).set i (f i : Int) = dl f (i + 1) := by
  apply List.ext_getElem
  · simp [dl]
  · intro j h1 h2
    simp only [List.getElem_set, dl, List.getElem_map, List.getElem_range]
    by_cases e : i = j
    · subst e; simp
    · rw [if_neg e]
      have : (j < i) ↔ j < i + 1 := by omega
      simp [this]
theorem dl_get (f : Nat → Nat) {i : Nat} (h : i < 120) : (ints (dl f 120))[i]? = some (.int .i64 (f i : Int)) := by
  simp [ints, dl, h]
theorem tdiv_i64 {a b : Int} (h1 : -9223372036854775808 ≤ a) (h2 : a ≤ 9223372036854775807) (hb : 1 ≤ b) : IntKind.i64.wrap (a.tdiv b) = a.tdiv b := by
  have key : ∀ x : Int, 0 ≤ x → 0 ≤ x.tdiv b ∧ x.tdiv b ≤ x := fun x hx => by
    rw [Int.tdiv_eq_ediv_of_nonneg hx]
    exact ⟨Int.ediv_nonneg hx (by omega), Int.ediv_le_self _ hx⟩
  rcases Int.le_total 0 a with h | h
  · have := key a h
    rw [wrap64] <;> omega
  · have h3 := key (-a) (by omega)
    have h4 : (-a).tdiv b = -(a.tdiv b) := Int.neg_tdiv ..
    rw [h4] at h3
    rw [wrap64] <;> omega
theorem nat_tmod (a b : Nat) : (a : Int).tmod (b : Int) = ((a % b : Nat) : Int) := by
  rw [Int.tmod_eq_emod_of_nonneg (by omega), Int.natCast_emod]
theorem nat_tdiv (a b : Nat) : (a : Int).tdiv (b : Int) = ((a / b : Nat) : Int) := by
  rw [Int.tdiv_eq_ediv_of_nonneg (by omega), Int.natCast_ediv]


section
variable {st s0 s : ASt} {ir idr ib : Nat} {f : Nat → Nat}

/-- What a chip is handed back as. -/
def ChipQ (st : ASt) (S : Soc) (r : AV) (s' : ASt) : Prop := ∃ vs L, r = .agg vs ∧ RepL s' vs S.cells L ∧ (∀ j ∈ L, st.h j = none) ∧ st.le s'
/-- The heap in which a chip is made: the result's variable, and what was drawn. -/
structure ChipH (st s0 : ASt) (ir idr : Nat) (f : Nat → Nat) : Prop where
  lt : ∀ x, f x < 1000000
  r : s0.h ir = some (.cells [.nils, .nils, .nils, .nils])
  d : s0.h idr = some (.cells (ints (dl f 120)))
  ir : st.h ir = none
  le : st.le s0

theorem chip_c1 {S : Soc} (H : ChipH st s0 ir idr f) (h : Box s0 s ib S.cells) :
    awp Try.prog C.catnaplaw4_chip_c1 (Post [.cellN 2 4] (ChipQ st S)) [(2, .ptr ir 0), (6, .ptr ib 0)] s := by
  obtain ⟨vs, L, h1, h2, h3, h4, h5, h6⟩ := h
  have hr := h6 _ _ H.r
  have hl := h2.len
  have hlf := h2.leaf
  have hirL : ir ∉ L := fun hm => by have := h4 ir hm; rw [H.r] at this; cases this
  match vs, hl with
  | [a, b, c, d], _ =>
    simp only [↓Bp, Bq, Bs, ↓aop.eq_28, ↓aop.eq_30, Nat.reduceEqDiff, Nat.reduceAdd, Nat.reduceMul, Nat.reduceSub, Nat.reduceLeDiff, Nat.reduceLT, Int.reduceLT, Int.reduceLE, Int.reduceEq, Int.reduceToNat, Int.reduceAdd, Int.reduceSub, Int.reduceNeg, ↓reduceIte, reduceCtorEq, ↓C.catnaplaw4_chip_W, C.catnaplaw4_chip_B, C.catnaplaw4_chip, h1, hr, hlf]
    refine ⟨_, L, rfl, h2.off fun j hj => ?_, fun j hj => fresh_of_le H.le (h4 j hj), fun j o ho => ?_⟩
    · rw [ASt.set_h, if_neg (by rintro rfl; exact hirL hj)]
    · rw [ASt.set_h, if_neg (by rintro rfl; rw [H.ir] at ho; cases ho)]
      exact h6 _ _ (H.le _ _ ho)
theorem chip_dev (H : ChipH st s0 ir idr f) {cl : List Clk} {dm : List Dom} {rs : List Int} (hC : cl.length = nClk f) (hD : dm.length = nDom f) (hR : rs.length = nRst f) {i : Nat} (hi : i < nDev f) (h : Box s0 s ib (Soc.mk cl dm rs ((List.range i).map (chDev f))).cells) {Q : IExit → AFr → ASt → Prop}
    (hQ : ∀ s2, Box s0 s2 ib (Soc.mk cl dm rs ((List.range (i + 1)).map (chDev f))).cells → ∀ fr, fr.keep [2, 4, 6, 14] = [(2, .ptr ir 0), (4, .sl 1 idr 0 120), (6, .ptr ib 0), (14, .int .i64 ((i + 1 : Nat) : Int))] → Q .normal fr s2) :
    awp Try.prog C.catnaplaw4_chip_c18 Q [(2, .ptr ir 0), (4, .sl 1 idr 0 120), (6, .ptr ib 0), (14, .int .i64 i)] s := by
  have hi4 : i < 4 := by unfold nDev at hi; omega
  have wi : IntKind.i64.wrap ((i : Int) + 1) = ((i + 1 : Nat) : Int) := wsucc hi4 (by omega)
  have w12 : IntKind.i64.wrap (12 * (i : Int)) = ((12 * i : Nat) : Int) := by rw [wrap64] <;> omega
  have w60 : IntKind.i64.wrap (60 + ((12 * i : Nat) : Int)) = ((60 + 12 * i : Nat) : Int) := by rw [wrap64] <;> omega
  obtain ⟨vs, L, hB⟩ := h
  obtain ⟨h1, h2, h3, h4, h5, h6⟩ := id hB
  simp only [↓Bp, Bq, Bs, ↓aop.eq_28, ↓aop.eq_30, Nat.reduceEqDiff, Nat.reduceAdd, Nat.reduceMul, Nat.reduceSub, Nat.reduceLeDiff, Nat.reduceLT, Int.reduceLT, Int.reduceLE, Int.reduceEq, Int.reduceToNat, Int.reduceAdd, Int.reduceSub, Int.reduceNeg, ↓reduceIte, reduceCtorEq, ↓C.catnaplaw4_chip_r50_w, C.catnaplaw4_chip_r50_b, ↓C.catnaplaw4_chip_c1_w, ↓C.catnaplaw4_chip_r38_w, C.catnaplaw4_chip_r38_b, ↓C.catnaplaw4_chip_c2_w, ↓C.catnaplaw4_chip_r39_w, C.catnaplaw4_chip_r39_b, ↓C.catnaplaw4_chip_b17_w, ↓C.catnaplaw4_chip_c18_w, ↓C.catnaplaw4_chip_c19_w, ↓C.catnaplaw4_chip_r37_w, C.catnaplaw4_chip_r37_b, ↓C.catnaplaw4_chip_b21_w, ↓C.catnaplaw4_chip_c22_w, ↓C.catnaplaw4_chip_r36_w, C.catnaplaw4_chip_r36_b, ↓C.catnaplaw4_chip_c23_w, ↓C.catnaplaw4_chip_r34_w, C.catnaplaw4_chip_r34_b, ↓C.catnaplaw4_chip_c24_w, ↓C.catnaplaw4_chip_r35_w, C.catnaplaw4_chip_r35_b, ↓C.catnaplaw4_chip_b25_w, ↓C.catnaplaw4_chip_c26_w, ↓C.catnaplaw4_chip_c27_w, ↓C.catnaplaw4_chip_r33_w, C.catnaplaw4_chip_r33_b, ↓C.catnaplaw4_chip_b29_w, ↓C.catnaplaw4_chip_c30_w, ↓C.catnaplaw4_chip_r32_w, C.catnaplaw4_chip_r32_b, ↓C.catnaplaw4_chip_c31_w, ↓C.catnaplaw4_chip_r27_w, C.catnaplaw4_chip_r27_b, ↓C.catnaplaw4_chip_c32_w, ↓C.catnaplaw4_chip_r31_w, C.catnaplaw4_chip_r31_b, ↓C.catnaplaw4_chip_c33_w, ↓C.catnaplaw4_chip_r30_w, C.catnaplaw4_chip_r30_b, ↓C.catnaplaw4_chip_c34_w, ↓C.catnaplaw4_chip_r29_w, C.catnaplaw4_chip_r29_b, ↓C.catnaplaw4_chip_c35_w, ↓C.catnaplaw4_chip_r28_w, C.catnaplaw4_chip_r28_b, ↓C.catnaplaw4_chip_b36_w, ↓C.catnaplaw4_chip_c37_w, ↓C.catnaplaw4_chip_c38_w, ↓C.catnaplaw4_chip_r26_w, C.catnaplaw4_chip_r26_b, ↓C.catnaplaw4_chip_b40_w, ↓C.catnaplaw4_chip_c41_w, ↓C.catnaplaw4_chip_r25_w, C.catnaplaw4_chip_r25_b, ↓C.catnaplaw4_chip_c42_w, ↓C.catnaplaw4_chip_r12_w, C.catnaplaw4_chip_r12_b, ↓C.catnaplaw4_chip_c43_w, ↓C.catnaplaw4_chip_r24_w, C.catnaplaw4_chip_r24_b, ↓C.catnaplaw4_chip_c44_w, ↓C.catnaplaw4_chip_r19_w, C.catnaplaw4_chip_r19_b, ↓C.catnaplaw4_chip_c45_w, ↓C.catnaplaw4_chip_r18_w, C.catnaplaw4_chip_r18_b, ↓C.catnaplaw4_chip_c46_w, ↓C.catnaplaw4_chip_r17_w, C.catnaplaw4_chip_r17_b, ↓C.catnaplaw4_chip_r21_w, C.catnaplaw4_chip_r21_b, ↓C.catnaplaw4_chip_r23_w, C.catnaplaw4_chip_r23_b, ↓C.catnaplaw4_chip_c47_w, ↓C.catnaplaw4_chip_r22_w, C.catnaplaw4_chip_r22_b, ↓C.catnaplaw4_chip_c48_w, ↓C.catnaplaw4_chip_c49_w, ↓C.catnaplaw4_chip_r20_w, C.catnaplaw4_chip_r20_b, ↓C.catnaplaw4_chip_c50_w, ↓C.catnaplaw4_chip_c51_w, ↓C.catnaplaw4_chip_c52_w, ↓C.catnaplaw4_chip_r16_w, C.catnaplaw4_chip_r16_b, ↓C.catnaplaw4_chip_b53_w, ↓C.catnaplaw4_chip_c54_w, ↓C.catnaplaw4_chip_r15_w, C.catnaplaw4_chip_r15_b, ↓C.catnaplaw4_chip_c55_w, ↓C.catnaplaw4_chip_r14_w, C.catnaplaw4_chip_r14_b, ↓C.catnaplaw4_chip_c56_w, ↓C.catnaplaw4_chip_r13_w, C.catnaplaw4_chip_r13_b, ↓C.catnaplaw4_chip_b57_w, ↓C.catnaplaw4_chip_c58_w, ↓C.catnaplaw4_chip_c59_w, ↓C.catnaplaw4_chip_r11_w, C.catnaplaw4_chip_r11_b, ↓C.catnaplaw4_chip_b61_w, ↓C.catnaplaw4_chip_c62_w, ↓C.catnaplaw4_chip_r10_w, C.catnaplaw4_chip_r10_b, ↓C.catnaplaw4_chip_c63_w, ↓C.catnaplaw4_chip_r9_w, C.catnaplaw4_chip_r9_b, ↓C.catnaplaw4_chip_c64_w, ↓C.catnaplaw4_chip_r8_w, C.catnaplaw4_chip_r8_b, ↓C.catnaplaw4_chip_c65_w, ↓C.catnaplaw4_chip_r7_w, C.catnaplaw4_chip_r7_b, ↓C.catnaplaw4_chip_c66_w, ↓C.catnaplaw4_chip_r5_w, C.catnaplaw4_chip_r5_b, ↓C.catnaplaw4_chip_c67_w, ↓C.catnaplaw4_chip_r6_w, C.catnaplaw4_chip_r6_b, ↓C.catnaplaw4_chip_b68_w, ↓C.catnaplaw4_chip_c69_w, ↓C.catnaplaw4_chip_c70_w, ↓C.catnaplaw4_chip_r4_w, C.catnaplaw4_chip_r4_b, ↓C.catnaplaw4_chip_b72_w, ↓C.catnaplaw4_chip_c73_w, ↓C.catnaplaw4_chip_r3_w, C.catnaplaw4_chip_r3_b, ↓C.catnaplaw4_chip_c74_w, ↓C.catnaplaw4_chip_r2_w, C.catnaplaw4_chip_r2_b, ↓C.catnaplaw4_chip_c75_w, ↓C.catnaplaw4_chip_r1_w, C.catnaplaw4_chip_r1_b, ↓C.catnaplaw4_chip_c76_w, ↓C.catnaplaw4_chip_r0_w, C.catnaplaw4_chip_r0_b, C.catnaplaw4_chip, w12, w60]
  have hd := h6 _ _ H.d
  obtain ⟨k, hk⟩ : ∃ k, k = 60 + 12 * i := ⟨_, rfl⟩
  rw [← hk]
  have z0 : ∀ a : Nat, ((a : Int) = 0) = (a = 0) := fun a => by simp
  have z1 : ∀ a : Nat, ((a : Int) = 1) = (a = 1) := fun a => by rw [eq_iff_iff]; omega
  have hz : ∀ c, c ≤ 12 → (0 : Int) ≤ ((k + c : Nat) : Int) ∧ ((k + c : Nat) : Int) < ((120 : Nat) : Int) := fun c hc => by omega
  have hz0 : (0 : Int) ≤ ((k : Nat) : Int) ∧ ((k : Nat) : Int) < ((120 : Nat) : Int) := by omega
  have hg : ∀ c, c ≤ 12 → (ints (dl f 120))[k + c]? = some (.int .i64 (f (k + c) : Int)) := fun c hc => dl_get f (by omega)
  have hg0 : (ints (dl f 120))[k]? = some (.int .i64 (f k : Int)) := dl_get f (by omega)
  have w : ∀ c : Nat, c ≤ 12 → IntKind.i64.wrap ((k : Int) + (c : Nat)) = ((k + c : Nat) : Int) := fun c hc => by rw [wrap64] <;> omega
  have w1 : IntKind.i64.wrap ((k : Int) + 1) = ((k + 1 : Nat) : Int) := w 1 (by omega)
  have w2 : IntKind.i64.wrap ((k : Int) + 2) = ((k + 2 : Nat) : Int) := w 2 (by omega)
  have w3 : IntKind.i64.wrap ((k : Int) + 3) = ((k + 3 : Nat) : Int) := w 3 (by omega)
  have t3 : ∀ a : Nat, (a : Int).tmod 3 = ((a % 3 : Nat) : Int) := fun a => nat_tmod a 3
  have u32 : ∀ a : Nat, a < 4294967296 → IntKind.u32.wrap (a : Int) = a := fun a h => by rw [wrapU32] <;> omega
  have u3 := u32 (f (k + 3) % 3) (by omega)
  obtain ⟨a0, e0, l0⟩ := h2.slen (o := 0) rfl
  obtain ⟨a1, e1, l1⟩ := h2.slen (o := 1) rfl
  obtain ⟨a2, e2, l2⟩ := h2.slen (o := 2) rfl
  rw [hC] at l0
  rw [hD] at l1
  rw [hR] at l2
  have n0 : ¬ ((nClk f : Nat) : Int) = 0 := by unfold nClk; omega
  have n1 : ¬ ((nDom f : Nat) : Int) = 0 := by unfold nDom; omega
  have n2 : ¬ ((nRst f : Nat) : Int) = 0 := by unfold nRst; omega
  simp only [↓Bp, Bq, Bs, ↓aop.eq_28, ↓aop.eq_30, Nat.reduceEqDiff, Nat.reduceAdd, Nat.reduceMul, Nat.reduceSub, Nat.reduceLeDiff, Nat.reduceLT, Int.reduceLT, Int.reduceLE, Int.reduceEq, Int.reduceToNat, Int.reduceAdd, Int.reduceSub, Int.reduceNeg, ↓reduceIte, reduceCtorEq, ↓C.catnaplaw4_chip_r50_w, C.catnaplaw4_chip_r50_b, ↓C.catnaplaw4_chip_c1_w, ↓C.catnaplaw4_chip_r38_w, C.catnaplaw4_chip_r38_b, ↓C.catnaplaw4_chip_c2_w, ↓C.catnaplaw4_chip_r40_w, C.catnaplaw4_chip_r40_b, ↓C.catnaplaw4_chip_c16_w, ↓C.catnaplaw4_chip_r39_w, C.catnaplaw4_chip_r39_b, ↓C.catnaplaw4_chip_b17_w, ↓C.catnaplaw4_chip_c18_w, ↓C.catnaplaw4_chip_c19_w, ↓C.catnaplaw4_chip_r37_w, C.catnaplaw4_chip_r37_b, ↓C.catnaplaw4_chip_b21_w, ↓C.catnaplaw4_chip_c22_w, ↓C.catnaplaw4_chip_r36_w, C.catnaplaw4_chip_r36_b, ↓C.catnaplaw4_chip_c23_w, ↓C.catnaplaw4_chip_r34_w, C.catnaplaw4_chip_r34_b, ↓C.catnaplaw4_chip_c24_w, ↓C.catnaplaw4_chip_r35_w, C.catnaplaw4_chip_r35_b, ↓C.catnaplaw4_chip_b25_w, ↓C.catnaplaw4_chip_c26_w, ↓C.catnaplaw4_chip_c27_w, ↓C.catnaplaw4_chip_r33_w, C.catnaplaw4_chip_r33_b, ↓C.catnaplaw4_chip_b29_w, ↓C.catnaplaw4_chip_c30_w, ↓C.catnaplaw4_chip_r32_w, C.catnaplaw4_chip_r32_b, ↓C.catnaplaw4_chip_c31_w, ↓C.catnaplaw4_chip_r27_w, C.catnaplaw4_chip_r27_b, ↓C.catnaplaw4_chip_c32_w, ↓C.catnaplaw4_chip_r31_w, C.catnaplaw4_chip_r31_b, ↓C.catnaplaw4_chip_c33_w, ↓C.catnaplaw4_chip_r30_w, C.catnaplaw4_chip_r30_b, ↓C.catnaplaw4_chip_c34_w, ↓C.catnaplaw4_chip_r29_w, C.catnaplaw4_chip_r29_b, ↓C.catnaplaw4_chip_c35_w, ↓C.catnaplaw4_chip_r28_w, C.catnaplaw4_chip_r28_b, ↓C.catnaplaw4_chip_b36_w, ↓C.catnaplaw4_chip_c37_w, ↓C.catnaplaw4_chip_c38_w, ↓C.catnaplaw4_chip_r26_w, C.catnaplaw4_chip_r26_b, ↓C.catnaplaw4_chip_b40_w, ↓C.catnaplaw4_chip_c41_w, ↓C.catnaplaw4_chip_r25_w, C.catnaplaw4_chip_r25_b, ↓C.catnaplaw4_chip_c42_w, ↓C.catnaplaw4_chip_r12_w, C.catnaplaw4_chip_r12_b, ↓C.catnaplaw4_chip_c43_w, ↓C.catnaplaw4_chip_r24_w, C.catnaplaw4_chip_r24_b, ↓C.catnaplaw4_chip_c44_w, ↓C.catnaplaw4_chip_r19_w, C.catnaplaw4_chip_r19_b, ↓C.catnaplaw4_chip_c45_w, ↓C.catnaplaw4_chip_r18_w, C.catnaplaw4_chip_r18_b, ↓C.catnaplaw4_chip_c46_w, ↓C.catnaplaw4_chip_r17_w, C.catnaplaw4_chip_r17_b, ↓C.catnaplaw4_chip_r21_w, C.catnaplaw4_chip_r21_b, ↓C.catnaplaw4_chip_r23_w, C.catnaplaw4_chip_r23_b, ↓C.catnaplaw4_chip_c47_w, ↓C.catnaplaw4_chip_r22_w, C.catnaplaw4_chip_r22_b, ↓C.catnaplaw4_chip_c48_w, ↓C.catnaplaw4_chip_c49_w, ↓C.catnaplaw4_chip_r20_w, C.catnaplaw4_chip_r20_b, ↓C.catnaplaw4_chip_c50_w, ↓C.catnaplaw4_chip_c51_w, ↓C.catnaplaw4_chip_c52_w, ↓C.catnaplaw4_chip_r16_w, C.catnaplaw4_chip_r16_b, ↓C.catnaplaw4_chip_b53_w, ↓C.catnaplaw4_chip_c54_w, ↓C.catnaplaw4_chip_r15_w, C.catnaplaw4_chip_r15_b, ↓C.catnaplaw4_chip_c55_w, ↓C.catnaplaw4_chip_r14_w, C.catnaplaw4_chip_r14_b, ↓C.catnaplaw4_chip_c56_w, ↓C.catnaplaw4_chip_r13_w, C.catnaplaw4_chip_r13_b, ↓C.catnaplaw4_chip_b57_w, ↓C.catnaplaw4_chip_c58_w, ↓C.catnaplaw4_chip_c59_w, ↓C.catnaplaw4_chip_r11_w, C.catnaplaw4_chip_r11_b, ↓C.catnaplaw4_chip_b61_w, ↓C.catnaplaw4_chip_c62_w, ↓C.catnaplaw4_chip_r10_w, C.catnaplaw4_chip_r10_b, ↓C.catnaplaw4_chip_c63_w, ↓C.catnaplaw4_chip_r9_w, C.catnaplaw4_chip_r9_b, ↓C.catnaplaw4_chip_c64_w, ↓C.catnaplaw4_chip_r8_w, C.catnaplaw4_chip_r8_b, ↓C.catnaplaw4_chip_c65_w, ↓C.catnaplaw4_chip_r7_w, C.catnaplaw4_chip_r7_b, ↓C.catnaplaw4_chip_c66_w, ↓C.catnaplaw4_chip_r5_w, C.catnaplaw4_chip_r5_b, ↓C.catnaplaw4_chip_c67_w, ↓C.catnaplaw4_chip_r6_w, C.catnaplaw4_chip_r6_b, ↓C.catnaplaw4_chip_b68_w, ↓C.catnaplaw4_chip_c69_w, ↓C.catnaplaw4_chip_c70_w, ↓C.catnaplaw4_chip_r4_w, C.catnaplaw4_chip_r4_b, ↓C.catnaplaw4_chip_b72_w, ↓C.catnaplaw4_chip_c73_w, ↓C.catnaplaw4_chip_r3_w, C.catnaplaw4_chip_r3_b, ↓C.catnaplaw4_chip_c74_w, ↓C.catnaplaw4_chip_r2_w, C.catnaplaw4_chip_r2_b, ↓C.catnaplaw4_chip_c75_w, ↓C.catnaplaw4_chip_r1_w, C.catnaplaw4_chip_r1_b, ↓C.catnaplaw4_chip_c76_w, ↓C.catnaplaw4_chip_r0_w, C.catnaplaw4_chip_r0_b, C.catnaplaw4_chip, hd, h1, hz 1, hz 2, hz 3, hz0, Int.toNat_natCast, Nat.mul_one, hg0, hg 1, hg 2, hg 3, w1, w2, w3, e0, e1, e2, l0, l1, l2, n0, n1, n2, nat_tmod, t3, u3]
  intro i6 hi6
  simp only [↓Bp, Bq, Bs, ↓aop.eq_28, ↓aop.eq_30, Nat.reduceEqDiff, Nat.reduceAdd, Nat.reduceMul, Nat.reduceSub, Nat.reduceLeDiff, Nat.reduceLT, Int.reduceLT, Int.reduceLE, Int.reduceEq, Int.reduceToNat, Int.reduceAdd, Int.reduceSub, Int.reduceNeg, ↓reduceIte, reduceCtorEq, ↓C.catnaplaw4_chip_r50_w, C.catnaplaw4_chip_r50_b, ↓C.catnaplaw4_chip_c1_w, ↓C.catnaplaw4_chip_r38_w, C.catnaplaw4_chip_r38_b, ↓C.catnaplaw4_chip_c2_w, ↓C.catnaplaw4_chip_r40_w, C.catnaplaw4_chip_r40_b, ↓C.catnaplaw4_chip_c16_w, ↓C.catnaplaw4_chip_r39_w, C.catnaplaw4_chip_r39_b, ↓C.catnaplaw4_chip_b17_w, ↓C.catnaplaw4_chip_c18_w, ↓C.catnaplaw4_chip_c19_w, ↓C.catnaplaw4_chip_r37_w, C.catnaplaw4_chip_r37_b, ↓C.catnaplaw4_chip_b21_w, ↓C.catnaplaw4_chip_c22_w, ↓C.catnaplaw4_chip_r36_w, C.catnaplaw4_chip_r36_b, ↓C.catnaplaw4_chip_c23_w, ↓C.catnaplaw4_chip_r34_w, C.catnaplaw4_chip_r34_b, ↓C.catnaplaw4_chip_c24_w, ↓C.catnaplaw4_chip_r35_w, C.catnaplaw4_chip_r35_b, ↓C.catnaplaw4_chip_b25_w, ↓C.catnaplaw4_chip_c26_w, ↓C.catnaplaw4_chip_c27_w, ↓C.catnaplaw4_chip_r33_w, C.catnaplaw4_chip_r33_b, ↓C.catnaplaw4_chip_b29_w, ↓C.catnaplaw4_chip_c30_w, ↓C.catnaplaw4_chip_r32_w, C.catnaplaw4_chip_r32_b, ↓C.catnaplaw4_chip_c31_w, ↓C.catnaplaw4_chip_r27_w, C.catnaplaw4_chip_r27_b, ↓C.catnaplaw4_chip_c32_w, ↓C.catnaplaw4_chip_r31_w, C.catnaplaw4_chip_r31_b, ↓C.catnaplaw4_chip_c33_w, ↓C.catnaplaw4_chip_r30_w, C.catnaplaw4_chip_r30_b, ↓C.catnaplaw4_chip_c34_w, ↓C.catnaplaw4_chip_r29_w, C.catnaplaw4_chip_r29_b, ↓C.catnaplaw4_chip_c35_w, ↓C.catnaplaw4_chip_r28_w, C.catnaplaw4_chip_r28_b, ↓C.catnaplaw4_chip_b36_w, ↓C.catnaplaw4_chip_c37_w, ↓C.catnaplaw4_chip_c38_w, ↓C.catnaplaw4_chip_r26_w, C.catnaplaw4_chip_r26_b, ↓C.catnaplaw4_chip_b40_w, ↓C.catnaplaw4_chip_c41_w, ↓C.catnaplaw4_chip_r25_w, C.catnaplaw4_chip_r25_b, ↓C.catnaplaw4_chip_c42_w, ↓C.catnaplaw4_chip_r12_w, C.catnaplaw4_chip_r12_b, ↓C.catnaplaw4_chip_c43_w, ↓C.catnaplaw4_chip_r24_w, C.catnaplaw4_chip_r24_b, ↓C.catnaplaw4_chip_c44_w, ↓C.catnaplaw4_chip_r19_w, C.catnaplaw4_chip_r19_b, ↓C.catnaplaw4_chip_c45_w, ↓C.catnaplaw4_chip_r18_w, C.catnaplaw4_chip_r18_b, ↓C.catnaplaw4_chip_c46_w, ↓C.catnaplaw4_chip_r17_w, C.catnaplaw4_chip_r17_b, ↓C.catnaplaw4_chip_r21_w, C.catnaplaw4_chip_r21_b, ↓C.catnaplaw4_chip_r23_w, C.catnaplaw4_chip_r23_b, ↓C.catnaplaw4_chip_c47_w, ↓C.catnaplaw4_chip_r22_w, C.catnaplaw4_chip_r22_b, ↓C.catnaplaw4_chip_c48_w, ↓C.catnaplaw4_chip_c49_w, ↓C.catnaplaw4_chip_r20_w, C.catnaplaw4_chip_r20_b, ↓C.catnaplaw4_chip_c50_w, ↓C.catnaplaw4_chip_c51_w, ↓C.catnaplaw4_chip_c52_w, ↓C.catnaplaw4_chip_r16_w, C.catnaplaw4_chip_r16_b, ↓C.catnaplaw4_chip_b53_w, ↓C.catnaplaw4_chip_c54_w, ↓C.catnaplaw4_chip_r15_w, C.catnaplaw4_chip_r15_b, ↓C.catnaplaw4_chip_c55_w, ↓C.catnaplaw4_chip_r14_w, C.catnaplaw4_chip_r14_b, ↓C.catnaplaw4_chip_c56_w, ↓C.catnaplaw4_chip_r13_w, C.catnaplaw4_chip_r13_b, ↓C.catnaplaw4_chip_b57_w, ↓C.catnaplaw4_chip_c58_w, ↓C.catnaplaw4_chip_c59_w, ↓C.catnaplaw4_chip_r11_w, C.catnaplaw4_chip_r11_b, ↓C.catnaplaw4_chip_b61_w, ↓C.catnaplaw4_chip_c62_w, ↓C.catnaplaw4_chip_r10_w, C.catnaplaw4_chip_r10_b, ↓C.catnaplaw4_chip_c63_w, ↓C.catnaplaw4_chip_r9_w, C.catnaplaw4_chip_r9_b, ↓C.catnaplaw4_chip_c64_w, ↓C.catnaplaw4_chip_r8_w, C.catnaplaw4_chip_r8_b, ↓C.catnaplaw4_chip_c65_w, ↓C.catnaplaw4_chip_r7_w, C.catnaplaw4_chip_r7_b, ↓C.catnaplaw4_chip_c66_w, ↓C.catnaplaw4_chip_r5_w, C.catnaplaw4_chip_r5_b, ↓C.catnaplaw4_chip_c67_w, ↓C.catnaplaw4_chip_r6_w, C.catnaplaw4_chip_r6_b, ↓C.catnaplaw4_chip_b68_w, ↓C.catnaplaw4_chip_c69_w, ↓C.catnaplaw4_chip_c70_w, ↓C.catnaplaw4_chip_r4_w, C.catnaplaw4_chip_r4_b, ↓C.catnaplaw4_chip_b72_w, ↓C.catnaplaw4_chip_c73_w, ↓C.catnaplaw4_chip_r3_w, C.catnaplaw4_chip_r3_b, ↓C.catnaplaw4_chip_c74_w, ↓C.catnaplaw4_chip_r2_w, C.catnaplaw4_chip_r2_b, ↓C.catnaplaw4_chip_c75_w, ↓C.catnaplaw4_chip_r1_w, C.catnaplaw4_chip_r1_b, ↓C.catnaplaw4_chip_c76_w, ↓C.catnaplaw4_chip_r0_w, C.catnaplaw4_chip_r0_b, C.catnaplaw4_chip, hi6, allLeaf, AV.leaf]
  refine ⟨trivial, ?_⟩
  rw [ASt.new_set hi6]
  obtain ⟨dv, hdv⟩ : ∃ dv : List Reg → List Int → Dev, dv = fun rg nd => ⟨((f k % nClk f : Nat) : Int), ((f (k + 1) % nDom f : Nat) : Int), ((f (k + 2) % nRst f : Nat) : Int), ((f (k + 3) % 3 : Nat) : Int), rg, nd⟩ := ⟨_, rfl⟩
  have hX : Box s (s.new i6 (AObj.cells [AV.int .i64 ((f k % nClk f : Nat) : Int), AV.int .i64 ((f (k + 1) % nDom f : Nat) : Int), AV.int .i64 ((f (k + 2) % nRst f : Nat) : Int), AV.int .u32 ((f (k + 3) % 3 : Nat) : Int), AV.nils, AV.nils])) i6 (dv [] []).cells := by
    refine Box.start hi6 ?_
    rw [hdv]
    exact .one rfl (.one rfl (.one rfl (.one rfl (.nils 2 (.nils 1 .nil)))))
  have hdvc : ∀ rg nd, (dv rg nd).cells = [AV.int .i64 ((f k % nClk f : Nat) : Int), AV.int .i64 ((f (k + 1) % nDom f : Nat) : Int), AV.int .i64 ((f (k + 2) % nRst f : Nat) : Int), AV.int .u32 ((f (k + 3) % 3 : Nat) : Int), .isl 2 (flat rg) rg.length, row nd] := fun rg nd => by rw [hdv]; rfl
  generalize s.new i6 (AObj.cells [AV.int .i64 ((f k % nClk f : Nat) : Int), AV.int .i64 ((f (k + 1) % nDom f : Nat) : Int), AV.int .i64 ((f (k + 2) % nRst f : Nat) : Int), AV.int .u32 ((f (k + 3) % 3 : Nat) : Int), AV.nils, AV.nils]) = sx at hX
  have hdv2 : ∀ rg nd, dv rg nd = ⟨((f k % nClk f : Nat) : Int), ((f (k + 1) % nDom f : Nat) : Int), ((f (k + 2) % nRst f : Nat) : Int), ((f (k + 3) % 3 : Nat) : Int), rg, nd⟩ := fun rg nd => by rw [hdv]
  clear hdv u3 t3 l0 l1 l2 e0 e1 e2 n0 n1 n2
  have w4 : IntKind.i64.wrap ((k : Int) + 4) = ((k + 4 : Nat) : Int) := w 4 (by omega)
  have w5 : IntKind.i64.wrap ((k : Int) + 5) = ((k + 5 : Nat) : Int) := w 5 (by omega)
  have w9 : IntKind.i64.wrap ((k : Int) + 9) = ((k + 9 : Nat) : Int) := w 9 (by omega)
  have w10 : IntKind.i64.wrap ((k : Int) + 10) = ((k + 10 : Nat) : Int) := w 10 (by omega)
  have w11 : IntKind.i64.wrap ((k : Int) + 11) = ((k + 11 : Nat) : Int) := w 11 (by omega)
  have t5 : ∀ a : Nat, (a : Int).tmod 5 = ((a % 5 : Nat) : Int) := fun a => nat_tmod a 5
  have t7 : ∀ a : Nat, (a : Int).tmod 7 = ((a % 7 : Nat) : Int) := fun a => nat_tmod a 7
  have t2 : ∀ a : Nat, (a : Int).tmod 2 = ((a % 2 : Nat) : Int) := fun a => nat_tmod a 2
  have t3 : ∀ a : Nat, (a : Int).tmod 3 = ((a % 3 : Nat) : Int) := fun a => nat_tmod a 3
  have q7 : ∀ x, IntKind.i64.wrap (((f x : Nat) : Int).tdiv 7) = ((f x / 7 : Nat) : Int) := fun x => by
    have := H.lt x
    rw [show ((f x : Nat) : Int).tdiv 7 = ((f x / 7 : Nat) : Int) from nat_tdiv _ 7, wrap64] <;> omega
  have q3 : ∀ x, IntKind.i64.wrap (((f x : Nat) : Int).tdiv 3) = ((f x / 3 : Nat) : Int) := fun x => by
    have := H.lt x
    rw [show ((f x : Nat) : Int).tdiv 3 = ((f x / 3 : Nat) : Int) from nat_tdiv _ 3, wrap64] <;> omega
  simp only [↓Bp, Bq, Bs, ↓aop.eq_28, ↓aop.eq_30, Nat.reduceEqDiff, Nat.reduceAdd, Nat.reduceMul, Nat.reduceSub, Nat.reduceLeDiff, Nat.reduceLT, Int.reduceLT, Int.reduceLE, Int.reduceEq, Int.reduceToNat, Int.reduceAdd, Int.reduceSub, Int.reduceNeg, ↓reduceIte, reduceCtorEq, ↓C.catnaplaw4_chip_W, C.catnaplaw4_chip_B, C.catnaplaw4_chip]
  refine awp_midB (fun _ : Unit => [(2, .ptr ir 0), (4, .sl 1 idr 0 120), (6, .ptr ib 0), (14, .int .i64 i), (15, .int .i64 k), (16, .ptr i6 0)]) (fun _ t => Box s t i6 (dv ((List.range (f (k + 4) % 5)).map (chReg f k)) []).cells) ?_ ?_
  · refine awp_loopK (fun j : Nat => [(2, .ptr ir 0), (4, .sl 1 idr 0 120), (6, .ptr ib 0), (14, .int .i64 i), (15, .int .i64 k), (16, .ptr i6 0), (17, .int .i64 j)]) (fun j t => j ≤ f (k + 4) % 5 ∧ Box s t i6 (dv ((List.range j).map (chReg f k)) []).cells) (fun j => 5 - j) 0 rfl ⟨Nat.zero_le _, hX⟩ ?_
    clear hX
    rintro j t ⟨hj, hX⟩
    have hdt := hX.base _ _ hd
    by_cases hjl : j < f (k + 4) % 5
    rotate_left
    · have hje : j = f (k + 4) % 5 := by omega
      have hjl' : ¬ (j : Int) < ((f (k + 4) % 5 : Nat) : Int) := by omega
      simp only [↓Bp, Bq, Bs, ↓aop.eq_28, ↓aop.eq_30, Nat.reduceEqDiff, Nat.reduceAdd, Nat.reduceMul, Nat.reduceSub, Nat.reduceLeDiff, Nat.reduceLT, Int.reduceLT, Int.reduceLE, Int.reduceEq, Int.reduceToNat, Int.reduceAdd, Int.reduceSub, Int.reduceNeg, ↓reduceIte, reduceCtorEq, ↓C.catnaplaw4_chip_W, C.catnaplaw4_chip_B, C.catnaplaw4_chip, hdt, hz 4, Int.toNat_natCast, Nat.mul_one, hg 4, w4, t5, hjl']
      rw [← hje]
      exact ⟨(), hX⟩
    have hjl' : (j : Int) < ((f (k + 4) % 5 : Nat) : Int) := by omega
    have wj : IntKind.i64.wrap (((k + 5 : Nat) : Int) + (j : Int)) = ((k + 5 + j : Nat) : Int) := by rw [wrap64] <;> omega
    have hzj : (0 : Int) ≤ ((k + 5 + j : Nat) : Int) ∧ ((k + 5 + j : Nat) : Int) < ((120 : Nat) : Int) := by omega
    have hgj : (ints (dl f 120))[k + 5 + j]? = some (.int .i64 (f (k + 5 + j) : Int)) := dl_get f (by omega)
    have hws := wsucc hjl (by omega)
    have u7 := u32 (f (k + 5 + j) % 7) (by omega)
    obtain ⟨xs, K, hXL⟩ := hX
    rw [hdvc] at hXL
    obtain ⟨v, hv1, hv2, hap⟩ := BoxL.append (b := i6) (o := 4) (new := encReg (chReg f k j)) (newc := encReg (chReg f k j)) (Ln := []) hXL rfl (flat_length _) (by simp; omega) (RepL.scalars rfl _) rfl (by simp) (by simp) (by simp)
    have hxl := hXL.2.1.len
    have h4l : 4 < xs.length := by rw [← hxl]; simp
    simp only [↓Bp, Bq, Bs, Nat.reduceEqDiff, Nat.reduceAdd, Nat.reduceMul, Nat.reduceSub, Nat.reduceLeDiff, Nat.reduceLT, Int.reduceLT, Int.reduceLE, Int.reduceEq, Int.reduceToNat, Int.reduceAdd, Int.reduceSub, Int.reduceNeg, ↓reduceIte, reduceCtorEq, ↓C.catnaplaw4_chip_W, C.catnaplaw4_chip_B, C.catnaplaw4_chip, hdt, hz 4, hzj, Int.toNat_natCast, Nat.mul_one, hg 4, w4, t5, hjl', w5, wj, hgj, t7, q7, t2, u7, hXL.1, hv1, z0]
    refine hap (aput_one rfl rfl) (fun _ => rfl) (fun _ => rfl) fun v1 i2 t2 hs hBx => ?_
    simp only [↓Bp, Bq, Bs, ↓aop.eq_28, ↓aop.eq_30, Nat.reduceEqDiff, Nat.reduceAdd, Nat.reduceMul, Nat.reduceSub, Nat.reduceLeDiff, Nat.reduceLT, Int.reduceLT, Int.reduceLE, Int.reduceEq, Int.reduceToNat, Int.reduceAdd, Int.reduceSub, Int.reduceNeg, ↓reduceIte, reduceCtorEq, ↓C.catnaplaw4_chip_W, C.catnaplaw4_chip_B, C.catnaplaw4_chip, hs, h4l, hws]
    refine ⟨j + 1, rfl, ⟨by omega, ?_⟩, by omega⟩
    have e : (dv ((List.range (j + 1)).map (chReg f k)) []).cells = ([AV.int .i64 ((f k % nClk f : Nat) : Int), AV.int .i64 ((f (k + 1) % nDom f : Nat) : Int), AV.int .i64 ((f (k + 2) % nRst f : Nat) : Int), AV.int .u32 ((f (k + 3) % 3 : Nat) : Int),
          AV.isl 2 (flat ((List.range j).map (chReg f k))) ((List.range j).map (chReg f k)).length, row []].set 4 (AV.isl 2 (flat ((List.range j).map (chReg f k)) ++ encReg (chReg f k j)) (((List.range j).map (chReg f k)).length + 1))) := by
      rw [hdvc, List.range_succ, List.map_append]
      simp [flat]
    rw [e]; exact hBx
  clear hX
  rintro - t hX
  obtain ⟨rg, hrg⟩ : ∃ rg, rg = (List.range (f (k + 4) % 5)).map (chReg f k) := ⟨_, rfl⟩
  rw [← hrg] at hX
  have addn : ∀ {t : ASt} {nd : List Int} {x : Int}, nd.length ≤ 5 → Box s t i6 (dv rg nd).cells → ∃ xs v, t.h i6 = some (.cells xs) ∧ 5 < xs.length ∧ xs[5]? = some v ∧
      ∀ {P : Program} {bt : Nat} {zs : List AV} {parts : List (Nat × Nat × IArg)} {x' y : IArg} {fr : AFr} {F : AV → AFr} {K : AV → AV → ASt → Prop},
        aput (zeros zs 1) (parts.map fun p => (p.1, p.2.1, fr.val p.2.2)) = .some [.int .i64 x] → (∀ v1, (F v1).val x' = v) → (∀ v1, (F v1).val y = v1) →
        (∀ v1 i2 st2, st2.h i6 = some (.cells xs) → Box s (st2.set i6 (.cells (xs.set 5 (.sl 1 i2 0 (nd.length + 1))))) i6 (dv rg (nd ++ [x])).cells → K v1 (.sl 1 i2 0 (nd.length + 1)) st2) →
        aop P (.buildSlice 1 1 zs parts) fr t (fun v1 st1 => aop P (.append 1 bt x' y) (F v1) st1 (K v1)) := by
    rintro t nd x hn ⟨xs, K, hXL⟩
    rw [hdvc] at hXL
    obtain ⟨v, hv1, hv2, hap⟩ := BoxL.append (b := i6) (o := 5) (new := [.int .i64 x]) (newc := [.int .i64 x]) (Ln := []) hXL rfl (by rw [ints_length, Nat.mul_one]) (by omega) (RepL.scalars rfl _) rfl (by simp) (by simp) (by simp)
    have hxl := hXL.2.1.len
    refine ⟨xs, v, hXL.1, by rw [← hxl]; simp, hv1, ?_⟩
    intro P bt zs parts x' y fr F K h1 h2 h3 h4
    refine hap h1 h2 h3 fun v1 i2 st2 h5 h6 => h4 v1 i2 st2 h5 ?_
    have e : (dv rg (nd ++ [x])).cells = ([AV.int .i64 ((f k % nClk f : Nat) : Int), AV.int .i64 ((f (k + 1) % nDom f : Nat) : Int), AV.int .i64 ((f (k + 2) % nRst f : Nat) : Int), AV.int .u32 ((f (k + 3) % 3 : Nat) : Int),
          AV.isl 2 (flat rg) rg.length, row nd].set 5 (AV.isl 1 (ints nd ++ [.int .i64 x]) (nd.length + 1))) := by
      rw [hdvc]; simp [row, ints]
    rw [e]; exact h6
  have hdt := hX.base _ _ hd
  obtain ⟨nd1, hnd1⟩ : ∃ nd1 : List Int, nd1 = if 0 < i ∧ f (k + 9) % 2 = 1 then [((f (k + 10) % i : Nat) : Int)] else [] := ⟨_, rfl⟩
  rw [awp_seq]
  refine awp_mid (fun _ : Unit => [(2, .ptr ir 0), (4, .sl 1 idr 0 120), (6, .ptr ib 0), (14, .int .i64 i), (15, .int .i64 k), (16, .ptr i6 0)]) (fun _ t' => Box s t' i6 (dv rg nd1).cells) ?_ ?_
  · rw [hnd1]
    by_cases hi0 : 0 < i
    · have hi0' : (0 : Int) < (i : Int) := by omega
      have hin : ¬ (i : Int) = 0 := by omega
      by_cases h9 : f (k + 9) % 2 = 1
      · obtain ⟨xs, v, x1, x2, x3, hap⟩ := addn (nd := []) (x := ((f (k + 10) % i : Nat) : Int)) (by simp) hX
        simp only [↓Bp, Bq, Bs, Nat.reduceEqDiff, Nat.reduceAdd, Nat.reduceMul, Nat.reduceSub, Nat.reduceLeDiff, Nat.reduceLT, Int.reduceLT, Int.reduceLE, Int.reduceEq, Int.reduceToNat, Int.reduceAdd, Int.reduceSub, Int.reduceNeg, ↓reduceIte, reduceCtorEq, ↓C.catnaplaw4_chip_W, C.catnaplaw4_chip_B, C.catnaplaw4_chip, hi0', hi0, hdt, hz 9, hz 10, Int.toNat_natCast, Nat.mul_one, hg 9, hg 10, w9, w10, t2, z1, gt_iff_lt, h9, x1, x3, hin, nat_tmod]
        refine hap rfl (fun _ => rfl) (fun _ => rfl) fun v1 i2 t2 hs hBx => ?_
        simp only [↓Bp, Bq, Bs, ↓aop.eq_28, ↓aop.eq_30, Nat.reduceEqDiff, Nat.reduceAdd, Nat.reduceMul, Nat.reduceSub, Nat.reduceLeDiff, Nat.reduceLT, Int.reduceLT, Int.reduceLE, Int.reduceEq, Int.reduceToNat, Int.reduceAdd, Int.reduceSub, Int.reduceNeg, ↓reduceIte, reduceCtorEq, ↓C.catnaplaw4_chip_W, C.catnaplaw4_chip_B, C.catnaplaw4_chip, hs, x2]
        exact ⟨(), hBx⟩
      · simp only [↓Bp, Bq, Bs, ↓aop.eq_28, ↓aop.eq_30, Nat.reduceEqDiff, Nat.reduceAdd, Nat.reduceMul, Nat.reduceSub, Nat.reduceLeDiff, Nat.reduceLT, Int.reduceLT, Int.reduceLE, Int.reduceEq, Int.reduceToNat, Int.reduceAdd, Int.reduceSub, Int.reduceNeg, ↓reduceIte, reduceCtorEq, ↓C.catnaplaw4_chip_W, C.catnaplaw4_chip_B, C.catnaplaw4_chip, hi0', hi0, hdt, hz 9, Int.toNat_natCast, Nat.mul_one, hg 9, w9, t2, z1, gt_iff_lt, h9]
        exact ⟨(), hX⟩
    · have hi0' : ¬ (0 : Int) < (i : Int) := by omega
      simp only [↓Bp, Bq, Bs, ↓aop.eq_28, ↓aop.eq_30, Nat.reduceEqDiff, Nat.reduceAdd, Nat.reduceMul, Nat.reduceSub, Nat.reduceLeDiff, Nat.reduceLT, Int.reduceLT, Int.reduceLE, Int.reduceEq, Int.reduceToNat, Int.reduceAdd, Int.reduceSub, Int.reduceNeg, ↓reduceIte, reduceCtorEq, ↓C.catnaplaw4_chip_W, C.catnaplaw4_chip_B, C.catnaplaw4_chip, hi0', hi0, gt_iff_lt]
      exact ⟨(), hX⟩
  clear hX hdt
  rintro - t hX
  have hdt := hX.base _ _ hd
  have hl1 : nd1.length ≤ 5 := by rw [hnd1]; split <;> simp
  obtain ⟨nd2, hnd2⟩ : ∃ nd2 : List Int, nd2 = nd1 ++ if 1 < i ∧ f (k + 11) % 3 = 1 then [((f (k + 11) / 3 % i : Nat) : Int)] else [] := ⟨_, rfl⟩
  rw [awp_seq]
  refine awp_mid (fun _ : Unit => [(2, .ptr ir 0), (4, .sl 1 idr 0 120), (6, .ptr ib 0), (14, .int .i64 i), (16, .ptr i6 0)]) (fun _ t' => Box s t' i6 (dv rg nd2).cells) ?_ ?_
  · rw [hnd2]
    by_cases hi0 : 1 < i
    · have hi0' : (1 : Int) < (i : Int) := by omega
      have hin : ¬ (i : Int) = 0 := by omega
      by_cases h9 : f (k + 11) % 3 = 1
      · obtain ⟨xs, v, x1, x2, x3, hap⟩ := addn (nd := nd1) (x := ((f (k + 11) / 3 % i : Nat) : Int)) hl1 hX
        simp only [↓Bp, Bq, Bs, Nat.reduceEqDiff, Nat.reduceAdd, Nat.reduceMul, Nat.reduceSub, Nat.reduceLeDiff, Nat.reduceLT, Int.reduceLT, Int.reduceLE, Int.reduceEq, Int.reduceToNat, Int.reduceAdd, Int.reduceSub, Int.reduceNeg, ↓reduceIte, reduceCtorEq, ↓C.catnaplaw4_chip_W, C.catnaplaw4_chip_B, C.catnaplaw4_chip, hi0', hi0, hdt, hz 11, Int.toNat_natCast, Nat.mul_one, hg 11, w11, t3, q3, z1, gt_iff_lt, h9, x1, x3, hin, nat_tmod]
        refine hap rfl (fun _ => rfl) (fun _ => rfl) fun v1 i2 t2 hs hBx => ?_
        simp only [↓Bp, Bq, Bs, ↓aop.eq_28, ↓aop.eq_30, Nat.reduceEqDiff, Nat.reduceAdd, Nat.reduceMul, Nat.reduceSub, Nat.reduceLeDiff, Nat.reduceLT, Int.reduceLT, Int.reduceLE, Int.reduceEq, Int.reduceToNat, Int.reduceAdd, Int.reduceSub, Int.reduceNeg, ↓reduceIte, reduceCtorEq, ↓C.catnaplaw4_chip_W, C.catnaplaw4_chip_B, C.catnaplaw4_chip, hs, x2]
        exact ⟨(), hBx⟩
      · simp only [↓Bp, Bq, Bs, ↓aop.eq_28, ↓aop.eq_30, Nat.reduceEqDiff, Nat.reduceAdd, Nat.reduceMul, Nat.reduceSub, Nat.reduceLeDiff, Nat.reduceLT, Int.reduceLT, Int.reduceLE, Int.reduceEq, Int.reduceToNat, Int.reduceAdd, Int.reduceSub, Int.reduceNeg, ↓reduceIte, reduceCtorEq, ↓C.catnaplaw4_chip_W, C.catnaplaw4_chip_B, C.catnaplaw4_chip, hi0', hi0, hdt, hz 11, Int.toNat_natCast, Nat.mul_one, hg 11, w11, t3, z1, gt_iff_lt, h9, List.append_nil]
        exact ⟨(), hX⟩
    · have hi0' : ¬ (1 : Int) < (i : Int) := by omega
      simp only [↓Bp, Bq, Bs, ↓aop.eq_28, ↓aop.eq_30, Nat.reduceEqDiff, Nat.reduceAdd, Nat.reduceMul, Nat.reduceSub, Nat.reduceLeDiff, Nat.reduceLT, Int.reduceLT, Int.reduceLE, Int.reduceEq, Int.reduceToNat, Int.reduceAdd, Int.reduceSub, Int.reduceNeg, ↓reduceIte, reduceCtorEq, ↓C.catnaplaw4_chip_W, C.catnaplaw4_chip_B, C.catnaplaw4_chip, hi0', hi0, gt_iff_lt, List.append_nil]
      exact ⟨(), hX⟩
  clear hX hdt
  rintro - t hX
  have hdev : chDev f i = dv rg nd2 := by
    rw [hdv2, hrg, hnd2, hnd1, chDev, chNeeds, ← hk]
  obtain ⟨ws, Lw, hXL⟩ := hX
  have hBt := BoxL.grow hB hXL.2.2.2.2.2
  have hdis : ∀ j ∈ Lw, j ∉ L := fun j hj hm => h2.live j hm (hXL.2.2.2.1 j hj)
  have hibw : ib ∉ Lw := fun hm => by have := hXL.2.2.2.1 ib hm; rw [h1] at this; cases this
  have hwl := hXL.2.1.len
  rw [hdvc] at hwl
  obtain ⟨v, v1, v2, hap⟩ := BoxL.append (b := ib) (o := 3) (new := ws) (newc := (dv rg nd2).cells) (Ln := Lw) hBt rfl (flatMap_len Dev.cells_len _) (by simp; omega) hXL.2.1 hwl.symm hibw (fun j hj => fresh_of_le h6 (hXL.2.2.2.1 j hj)) hdis
  have e6 : AV.agg (List.take 6 ws) = .agg ws := by rw [show 6 = ws.length from hwl, List.take_length]
  have hw6 : 6 ≤ ws.length := by rw [← hwl]; simp
  have hvl := h2.len
  have h3l : 3 < vs.length := by rw [← hvl]; exact (by decide : 3 < 4)
  simp only [↓Bp, Bq, Bs, Nat.reduceEqDiff, Nat.reduceAdd, Nat.reduceMul, Nat.reduceSub, Nat.reduceLeDiff, Nat.reduceLT, Int.reduceLT, Int.reduceLE, Int.reduceEq, Int.reduceToNat, Int.reduceAdd, Int.reduceSub, Int.reduceNeg, ↓reduceIte, reduceCtorEq, ↓C.catnaplaw4_chip_W, C.catnaplaw4_chip_B, C.catnaplaw4_chip, hBt.1, v1, hXL.1, hw6, e6]
  refine hap (aput_one rfl hwl.symm) (fun _ => rfl) (fun _ => rfl) fun v1' i2 t2 hs hBx => ?_
  simp only [↓Bp, Bq, Bs, ↓aop.eq_28, ↓aop.eq_30, Nat.reduceEqDiff, Nat.reduceAdd, Nat.reduceMul, Nat.reduceSub, Nat.reduceLeDiff, Nat.reduceLT, Int.reduceLT, Int.reduceLE, Int.reduceEq, Int.reduceToNat, Int.reduceAdd, Int.reduceSub, Int.reduceNeg, ↓reduceIte, reduceCtorEq, ↓C.catnaplaw4_chip_W, C.catnaplaw4_chip_B, C.catnaplaw4_chip, hs, h3l, wi]
  refine hQ _ ?_ _ rfl
  have e : (Soc.mk cl dm rs ((List.range (i + 1)).map (chDev f))).cells = ((Soc.mk cl dm rs ((List.range i).map (chDev f))).cells.set 3 (AV.isl 6 (List.flatMap Dev.cells (Soc.mk cl dm rs ((List.range i).map (chDev f))).devs ++ (dv rg nd2).cells) ((Soc.mk cl dm rs ((List.range i).map (chDev f))).devs.length + 1))) := by
    rw [List.range_succ, List.map_append, ← hdev]
    simp [Soc.cells, Soc.clkV, Soc.domV, Soc.rstV, Soc.devV]
  rw [e]; exact hBx
theorem chip_c23 (H : ChipH st s0 ir idr f) {cl : List Clk} {dm : List Dom} {rs : List Int} (hC : cl.length = nClk f) (hD : dm.length = nDom f) (hR : rs.length = nRst f) (h : Box s0 s ib (Soc.mk cl dm rs []).cells) :
    awp Try.prog C.catnaplaw4_chip_c23 (Post [.cellN 2 4] (ChipQ st (Soc.mk cl dm rs ((List.range (nDev f)).map (chDev f))))) [(2, .ptr ir 0), (4, .sl 1 idr 0 120), (6, .ptr ib 0)] s := by
  simp only [↓Bp, Bq, Bs, ↓aop.eq_28, ↓aop.eq_30, Nat.reduceEqDiff, Nat.reduceAdd, Nat.reduceMul, Nat.reduceSub, Nat.reduceLeDiff, Nat.reduceLT, Int.reduceLT, Int.reduceLE, Int.reduceEq, Int.reduceToNat, Int.reduceAdd, Int.reduceSub, Int.reduceNeg, ↓reduceIte, reduceCtorEq, ↓C.catnaplaw4_chip_r38_w, C.catnaplaw4_chip_r38_b, ↓C.catnaplaw4_chip_c2_w, ↓C.catnaplaw4_chip_r49_w, C.catnaplaw4_chip_r49_b, ↓C.catnaplaw4_chip_c3_w, ↓C.catnaplaw4_chip_r48_w, C.catnaplaw4_chip_r48_b, ↓C.catnaplaw4_chip_c4_w, ↓C.catnaplaw4_chip_r47_w, C.catnaplaw4_chip_r47_b, ↓C.catnaplaw4_chip_c5_w, ↓C.catnaplaw4_chip_r46_w, C.catnaplaw4_chip_r46_b, ↓C.catnaplaw4_chip_c6_w, ↓C.catnaplaw4_chip_r45_w, C.catnaplaw4_chip_r45_b, ↓C.catnaplaw4_chip_c7_w, ↓C.catnaplaw4_chip_r43_w, C.catnaplaw4_chip_r43_b, ↓C.catnaplaw4_chip_c8_w, ↓C.catnaplaw4_chip_r44_w, C.catnaplaw4_chip_r44_b, ↓C.catnaplaw4_chip_b9_w, ↓C.catnaplaw4_chip_c10_w, ↓C.catnaplaw4_chip_c11_w, ↓C.catnaplaw4_chip_r42_w, C.catnaplaw4_chip_r42_b, ↓C.catnaplaw4_chip_b13_w, ↓C.catnaplaw4_chip_c14_w, ↓C.catnaplaw4_chip_r41_w, C.catnaplaw4_chip_r41_b, ↓C.catnaplaw4_chip_c15_w, ↓C.catnaplaw4_chip_r40_w, C.catnaplaw4_chip_r40_b, ↓C.catnaplaw4_chip_c16_w, ↓C.catnaplaw4_chip_r39_w, C.catnaplaw4_chip_r39_b, ↓C.catnaplaw4_chip_b17_w, ↓C.catnaplaw4_chip_c18_w, ↓C.catnaplaw4_chip_c19_w, ↓C.catnaplaw4_chip_r37_w, C.catnaplaw4_chip_r37_b, ↓C.catnaplaw4_chip_b21_w, ↓C.catnaplaw4_chip_c22_w, ↓C.catnaplaw4_chip_r36_w, C.catnaplaw4_chip_r36_b, ↓C.catnaplaw4_chip_c23_w, ↓C.catnaplaw4_chip_r34_w, C.catnaplaw4_chip_r34_b, ↓C.catnaplaw4_chip_c24_w, ↓C.catnaplaw4_chip_r35_w, C.catnaplaw4_chip_r35_b, ↓C.catnaplaw4_chip_b25_w, ↓C.catnaplaw4_chip_c26_w, ↓C.catnaplaw4_chip_c27_w, ↓C.catnaplaw4_chip_r33_w, C.catnaplaw4_chip_r33_b, ↓C.catnaplaw4_chip_b29_w, ↓C.catnaplaw4_chip_c30_w, ↓C.catnaplaw4_chip_r32_w, C.catnaplaw4_chip_r32_b, ↓C.catnaplaw4_chip_c31_w, ↓C.catnaplaw4_chip_r27_w, C.catnaplaw4_chip_r27_b, ↓C.catnaplaw4_chip_c32_w, ↓C.catnaplaw4_chip_r31_w, C.catnaplaw4_chip_r31_b, ↓C.catnaplaw4_chip_c33_w, ↓C.catnaplaw4_chip_r30_w, C.catnaplaw4_chip_r30_b, ↓C.catnaplaw4_chip_c34_w, ↓C.catnaplaw4_chip_r29_w, C.catnaplaw4_chip_r29_b, ↓C.catnaplaw4_chip_c35_w, ↓C.catnaplaw4_chip_r28_w, C.catnaplaw4_chip_r28_b, ↓C.catnaplaw4_chip_b36_w, ↓C.catnaplaw4_chip_c37_w, ↓C.catnaplaw4_chip_c38_w, ↓C.catnaplaw4_chip_r26_w, C.catnaplaw4_chip_r26_b, ↓C.catnaplaw4_chip_b40_w, ↓C.catnaplaw4_chip_c41_w, ↓C.catnaplaw4_chip_r25_w, C.catnaplaw4_chip_r25_b, ↓C.catnaplaw4_chip_c42_w, ↓C.catnaplaw4_chip_r12_w, C.catnaplaw4_chip_r12_b, ↓C.catnaplaw4_chip_c43_w, ↓C.catnaplaw4_chip_r24_w, C.catnaplaw4_chip_r24_b, ↓C.catnaplaw4_chip_c44_w, ↓C.catnaplaw4_chip_r19_w, C.catnaplaw4_chip_r19_b, ↓C.catnaplaw4_chip_c45_w, ↓C.catnaplaw4_chip_r18_w, C.catnaplaw4_chip_r18_b, ↓C.catnaplaw4_chip_c46_w, ↓C.catnaplaw4_chip_r17_w, C.catnaplaw4_chip_r17_b, ↓C.catnaplaw4_chip_r21_w, C.catnaplaw4_chip_r21_b, ↓C.catnaplaw4_chip_r23_w, C.catnaplaw4_chip_r23_b, ↓C.catnaplaw4_chip_c47_w, ↓C.catnaplaw4_chip_r22_w, C.catnaplaw4_chip_r22_b, ↓C.catnaplaw4_chip_c48_w, ↓C.catnaplaw4_chip_c49_w, ↓C.catnaplaw4_chip_r20_w, C.catnaplaw4_chip_r20_b, ↓C.catnaplaw4_chip_c50_w, ↓C.catnaplaw4_chip_c51_w, ↓C.catnaplaw4_chip_c52_w, ↓C.catnaplaw4_chip_r16_w, C.catnaplaw4_chip_r16_b, ↓C.catnaplaw4_chip_b53_w, ↓C.catnaplaw4_chip_c54_w, ↓C.catnaplaw4_chip_r15_w, C.catnaplaw4_chip_r15_b, ↓C.catnaplaw4_chip_c55_w, ↓C.catnaplaw4_chip_r14_w, C.catnaplaw4_chip_r14_b, ↓C.catnaplaw4_chip_c56_w, ↓C.catnaplaw4_chip_r13_w, C.catnaplaw4_chip_r13_b, ↓C.catnaplaw4_chip_b57_w, ↓C.catnaplaw4_chip_c58_w, ↓C.catnaplaw4_chip_c59_w, ↓C.catnaplaw4_chip_r11_w, C.catnaplaw4_chip_r11_b, ↓C.catnaplaw4_chip_b61_w, ↓C.catnaplaw4_chip_c62_w, ↓C.catnaplaw4_chip_r10_w, C.catnaplaw4_chip_r10_b, ↓C.catnaplaw4_chip_c63_w, ↓C.catnaplaw4_chip_r9_w, C.catnaplaw4_chip_r9_b, ↓C.catnaplaw4_chip_c64_w, ↓C.catnaplaw4_chip_r8_w, C.catnaplaw4_chip_r8_b, ↓C.catnaplaw4_chip_c65_w, ↓C.catnaplaw4_chip_r7_w, C.catnaplaw4_chip_r7_b, ↓C.catnaplaw4_chip_c66_w, ↓C.catnaplaw4_chip_r5_w, C.catnaplaw4_chip_r5_b, ↓C.catnaplaw4_chip_c67_w, ↓C.catnaplaw4_chip_r6_w, C.catnaplaw4_chip_r6_b, ↓C.catnaplaw4_chip_b68_w, ↓C.catnaplaw4_chip_c69_w, ↓C.catnaplaw4_chip_c70_w, ↓C.catnaplaw4_chip_r4_w, C.catnaplaw4_chip_r4_b, ↓C.catnaplaw4_chip_b72_w, ↓C.catnaplaw4_chip_c73_w, ↓C.catnaplaw4_chip_r3_w, C.catnaplaw4_chip_r3_b, ↓C.catnaplaw4_chip_c74_w, ↓C.catnaplaw4_chip_r2_w, C.catnaplaw4_chip_r2_b, ↓C.catnaplaw4_chip_c75_w, ↓C.catnaplaw4_chip_r1_w, C.catnaplaw4_chip_r1_b, ↓C.catnaplaw4_chip_c76_w, ↓C.catnaplaw4_chip_r0_w, C.catnaplaw4_chip_r0_b, C.catnaplaw4_chip]
  refine awp_midB (fun _ : Unit => [(2, .ptr ir 0), (6, .ptr ib 0)]) (fun _ s => Box s0 s ib (Soc.mk cl dm rs ((List.range (nDev f)).map (chDev f))).cells) ?_ (fun _ s h => chip_c1 H h)
  refine awp_loopK (fun i : Nat => [(2, .ptr ir 0), (4, .sl 1 idr 0 120), (6, .ptr ib 0), (14, .int .i64 i)]) (fun i s => i ≤ nDev f ∧ Box s0 s ib (Soc.mk cl dm rs ((List.range i).map (chDev f))).cells) (fun i => nDev f - i) 0 rfl ⟨Nat.zero_le _, h⟩ ?_
  rintro i s ⟨hi, hB⟩
  have hd := hB.base _ _ H.d
  have t4 : ∀ a : Nat, (a : Int).tmod 4 = ((a % 4 : Nat) : Int) := fun a => nat_tmod a 4
  have wn : IntKind.i64.wrap (1 + ((f 4 % 4 : Nat) : Int)) = ((nDev f : Nat) : Int) := by unfold nDev; rw [wrap64] <;> omega
  have hz : (0 : Int) ≤ 4 ∧ (4 : Int) < ((120 : Nat) : Int) := by omega
  by_cases hil : i < nDev f
  rotate_left
  · have hie : i = nDev f := by omega
    have hil' : ¬ (i : Int) < ((nDev f : Nat) : Int) := by omega
    simp only [↓Bp, Bq, Bs, ↓aop.eq_28, ↓aop.eq_30, Nat.reduceEqDiff, Nat.reduceAdd, Nat.reduceMul, Nat.reduceSub, Nat.reduceLeDiff, Nat.reduceLT, Int.reduceLT, Int.reduceLE, Int.reduceEq, Int.reduceToNat, Int.reduceAdd, Int.reduceSub, Int.reduceNeg, ↓reduceIte, reduceCtorEq, ↓C.catnaplaw4_chip_W, C.catnaplaw4_chip_B, C.catnaplaw4_chip, hd, hz, dl_get f (show 4 < 120 by omega), t4, wn, hil']
    rw [← hie]
    exact ⟨(), hB⟩
  have hil' : (i : Int) < ((nDev f : Nat) : Int) := by omega
  simp only [↓Bp, Bq, Bs, ↓aop.eq_28, ↓aop.eq_30, Nat.reduceEqDiff, Nat.reduceAdd, Nat.reduceMul, Nat.reduceSub, Nat.reduceLeDiff, Nat.reduceLT, Int.reduceLT, Int.reduceLE, Int.reduceEq, Int.reduceToNat, Int.reduceAdd, Int.reduceSub, Int.reduceNeg, ↓reduceIte, reduceCtorEq, ↓C.catnaplaw4_chip_r50_w, C.catnaplaw4_chip_r50_b, ↓C.catnaplaw4_chip_c1_w, ↓C.catnaplaw4_chip_c19_w, ↓C.catnaplaw4_chip_r37_w, C.catnaplaw4_chip_r37_b, ↓C.catnaplaw4_chip_b21_w, ↓C.catnaplaw4_chip_c22_w, ↓C.catnaplaw4_chip_r36_w, C.catnaplaw4_chip_r36_b, ↓C.catnaplaw4_chip_c23_w, ↓C.catnaplaw4_chip_r34_w, C.catnaplaw4_chip_r34_b, ↓C.catnaplaw4_chip_c24_w, ↓C.catnaplaw4_chip_r35_w, C.catnaplaw4_chip_r35_b, ↓C.catnaplaw4_chip_b25_w, ↓C.catnaplaw4_chip_c26_w, ↓C.catnaplaw4_chip_c27_w, ↓C.catnaplaw4_chip_r33_w, C.catnaplaw4_chip_r33_b, ↓C.catnaplaw4_chip_b29_w, ↓C.catnaplaw4_chip_c30_w, ↓C.catnaplaw4_chip_r32_w, C.catnaplaw4_chip_r32_b, ↓C.catnaplaw4_chip_c31_w, ↓C.catnaplaw4_chip_r27_w, C.catnaplaw4_chip_r27_b, ↓C.catnaplaw4_chip_c32_w, ↓C.catnaplaw4_chip_r31_w, C.catnaplaw4_chip_r31_b, ↓C.catnaplaw4_chip_c33_w, ↓C.catnaplaw4_chip_r30_w, C.catnaplaw4_chip_r30_b, ↓C.catnaplaw4_chip_c34_w, ↓C.catnaplaw4_chip_r29_w, C.catnaplaw4_chip_r29_b, ↓C.catnaplaw4_chip_c35_w, ↓C.catnaplaw4_chip_r28_w, C.catnaplaw4_chip_r28_b, ↓C.catnaplaw4_chip_b36_w, ↓C.catnaplaw4_chip_c37_w, ↓C.catnaplaw4_chip_c38_w, ↓C.catnaplaw4_chip_r26_w, C.catnaplaw4_chip_r26_b, ↓C.catnaplaw4_chip_b40_w, ↓C.catnaplaw4_chip_c41_w, ↓C.catnaplaw4_chip_r25_w, C.catnaplaw4_chip_r25_b, ↓C.catnaplaw4_chip_c42_w, ↓C.catnaplaw4_chip_r12_w, C.catnaplaw4_chip_r12_b, ↓C.catnaplaw4_chip_c43_w, ↓C.catnaplaw4_chip_r24_w, C.catnaplaw4_chip_r24_b, ↓C.catnaplaw4_chip_c44_w, ↓C.catnaplaw4_chip_r19_w, C.catnaplaw4_chip_r19_b, ↓C.catnaplaw4_chip_c45_w, ↓C.catnaplaw4_chip_r18_w, C.catnaplaw4_chip_r18_b, ↓C.catnaplaw4_chip_c46_w, ↓C.catnaplaw4_chip_r17_w, C.catnaplaw4_chip_r17_b, ↓C.catnaplaw4_chip_r21_w, C.catnaplaw4_chip_r21_b, ↓C.catnaplaw4_chip_r23_w, C.catnaplaw4_chip_r23_b, ↓C.catnaplaw4_chip_c47_w, ↓C.catnaplaw4_chip_r22_w, C.catnaplaw4_chip_r22_b, ↓C.catnaplaw4_chip_c48_w, ↓C.catnaplaw4_chip_c49_w, ↓C.catnaplaw4_chip_r20_w, C.catnaplaw4_chip_r20_b, ↓C.catnaplaw4_chip_c50_w, ↓C.catnaplaw4_chip_c51_w, ↓C.catnaplaw4_chip_c52_w, ↓C.catnaplaw4_chip_r16_w, C.catnaplaw4_chip_r16_b, ↓C.catnaplaw4_chip_b53_w, ↓C.catnaplaw4_chip_c54_w, ↓C.catnaplaw4_chip_r15_w, C.catnaplaw4_chip_r15_b, ↓C.catnaplaw4_chip_c55_w, ↓C.catnaplaw4_chip_r14_w, C.catnaplaw4_chip_r14_b, ↓C.catnaplaw4_chip_c56_w, ↓C.catnaplaw4_chip_r13_w, C.catnaplaw4_chip_r13_b, ↓C.catnaplaw4_chip_b57_w, ↓C.catnaplaw4_chip_c58_w, ↓C.catnaplaw4_chip_c59_w, ↓C.catnaplaw4_chip_r11_w, C.catnaplaw4_chip_r11_b, ↓C.catnaplaw4_chip_b61_w, ↓C.catnaplaw4_chip_c62_w, ↓C.catnaplaw4_chip_r10_w, C.catnaplaw4_chip_r10_b, ↓C.catnaplaw4_chip_c63_w, ↓C.catnaplaw4_chip_r9_w, C.catnaplaw4_chip_r9_b, ↓C.catnaplaw4_chip_c64_w, ↓C.catnaplaw4_chip_r8_w, C.catnaplaw4_chip_r8_b, ↓C.catnaplaw4_chip_c65_w, ↓C.catnaplaw4_chip_r7_w, C.catnaplaw4_chip_r7_b, ↓C.catnaplaw4_chip_c66_w, ↓C.catnaplaw4_chip_r5_w, C.catnaplaw4_chip_r5_b, ↓C.catnaplaw4_chip_c67_w, ↓C.catnaplaw4_chip_r6_w, C.catnaplaw4_chip_r6_b, ↓C.catnaplaw4_chip_b68_w, ↓C.catnaplaw4_chip_c69_w, ↓C.catnaplaw4_chip_c70_w, ↓C.catnaplaw4_chip_r4_w, C.catnaplaw4_chip_r4_b, ↓C.catnaplaw4_chip_b72_w, ↓C.catnaplaw4_chip_c73_w, ↓C.catnaplaw4_chip_r3_w, C.catnaplaw4_chip_r3_b, ↓C.catnaplaw4_chip_c74_w, ↓C.catnaplaw4_chip_r2_w, C.catnaplaw4_chip_r2_b, ↓C.catnaplaw4_chip_c75_w, ↓C.catnaplaw4_chip_r1_w, C.catnaplaw4_chip_r1_b, ↓C.catnaplaw4_chip_c76_w, ↓C.catnaplaw4_chip_r0_w, C.catnaplaw4_chip_r0_b, C.catnaplaw4_chip, hd, hz, dl_get f (show 4 < 120 by omega), t4, wn, hil']
  rw [C.catnaplaw4_chip_c18_w, awp_keep]
  refine chip_dev H hC hD hR hil hB fun s2 hB2 fr hfr => ⟨i + 1, hfr, ⟨hil, hB2⟩, by omega⟩

theorem chip_rst (H : ChipH st s0 ir idr f) {cl : List Clk} {dm : List Dom} {i : Nat} (hi : i < nRst f) (h : Box s0 s ib (Soc.mk cl dm ((List.range i).map (chRst f)) []).cells) {Q : IExit → AFr → ASt → Prop}
    (hQ : ∀ s2, Box s0 s2 ib (Soc.mk cl dm ((List.range (i + 1)).map (chRst f)) []).cells → ∀ fr, fr.keep [2, 4, 6, 13] = [(2, .ptr ir 0), (4, .sl 1 idr 0 120), (6, .ptr ib 0), (13, .int .i64 ((i + 1 : Nat) : Int))] → Q .normal fr s2) :
    awp Try.prog C.catnaplaw4_chip_c26 Q [(2, .ptr ir 0), (4, .sl 1 idr 0 120), (6, .ptr ib 0), (13, .int .i64 i)] s := by
  have hi4 : i < 3 := by unfold nRst at hi; omega
  have wi : IntKind.i64.wrap ((i : Int) + 1) = ((i + 1 : Nat) : Int) := wsucc hi4 (by omega)
  have w50 : IntKind.i64.wrap (50 + (i : Int)) = ((50 + i : Nat) : Int) := by rw [wrap64] <;> omega
  have hz : (0 : Int) ≤ ((50 + i : Nat) : Int) ∧ ((50 + i : Nat) : Int) < ((120 : Nat) : Int) := by omega
  have hd := h.base _ _ H.d
  have t4 : ∀ a : Nat, (a : Int).tmod 4 = ((a % 4 : Nat) : Int) := fun a => nat_tmod a 4
  obtain ⟨vs, L, hB⟩ := h
  have hvl := hB.2.1.len
  have h2l : 2 < vs.length := by rw [← hvl]; exact (by decide : 2 < 4)
  obtain ⟨v, v1, v2, hap⟩ := BoxL.append (b := ib) (o := 2) (new := [.int .i64 (chRst f i)]) (newc := [.int .i64 (chRst f i)]) (Ln := []) hB rfl (flatMap_len rstCells_len _) (by simp; omega) (RepL.scalars rfl _) rfl (by simp) (by simp) (by simp)
  simp only [↓Bp, Bq, Bs, Nat.reduceEqDiff, Nat.reduceAdd, Nat.reduceMul, Nat.reduceSub, Nat.reduceLeDiff, Nat.reduceLT, Int.reduceLT, Int.reduceLE, Int.reduceEq, Int.reduceToNat, Int.reduceAdd, Int.reduceSub, Int.reduceNeg, ↓reduceIte, reduceCtorEq, ↓C.catnaplaw4_chip_W, C.catnaplaw4_chip_B, C.catnaplaw4_chip, hd, hB.1, v1, hz, Int.toNat_natCast, Nat.mul_one, dl_get f (show 50 + i < 120 by omega), w50, t4]
  refine hap (aput_one rfl rfl) (fun _ => rfl) (fun _ => rfl) fun v1' i2 t2 hs hBx => ?_
  simp only [↓Bp, Bq, Bs, ↓aop.eq_28, ↓aop.eq_30, Nat.reduceEqDiff, Nat.reduceAdd, Nat.reduceMul, Nat.reduceSub, Nat.reduceLeDiff, Nat.reduceLT, Int.reduceLT, Int.reduceLE, Int.reduceEq, Int.reduceToNat, Int.reduceAdd, Int.reduceSub, Int.reduceNeg, ↓reduceIte, reduceCtorEq, ↓C.catnaplaw4_chip_W, C.catnaplaw4_chip_B, C.catnaplaw4_chip, hs, h2l, wi]
  refine hQ _ ?_ _ rfl
  have e : (Soc.mk cl dm ((List.range (i + 1)).map (chRst f)) []).cells = ((Soc.mk cl dm ((List.range i).map (chRst f)) []).cells.set 2 (AV.isl 1 (List.flatMap rstCells (Soc.mk cl dm ((List.range i).map (chRst f)) []).rsts ++ [.int .i64 (chRst f i)]) ((Soc.mk cl dm ((List.range i).map (chRst f)) []).rsts.length + 1))) := by
    rw [List.range_succ, List.map_append]
    simp [Soc.cells, Soc.clkV, Soc.domV, Soc.rstV, Soc.devV, rstCells]
  rw [e]; exact hBx
theorem chip_c31 (H : ChipH st s0 ir idr f) {cl : List Clk} {dm : List Dom} (hC : cl.length = nClk f) (hD : dm.length = nDom f) (h : Box s0 s ib (Soc.mk cl dm [] []).cells) :
    awp Try.prog C.catnaplaw4_chip_c31 (Post [.cellN 2 4] (ChipQ st (Soc.mk cl dm ((List.range (nRst f)).map (chRst f)) ((List.range (nDev f)).map (chDev f))))) [(2, .ptr ir 0), (4, .sl 1 idr 0 120), (6, .ptr ib 0)] s := by
  simp only [↓Bp, Bq, Bs, ↓aop.eq_28, ↓aop.eq_30, Nat.reduceEqDiff, Nat.reduceAdd, Nat.reduceMul, Nat.reduceSub, Nat.reduceLeDiff, Nat.reduceLT, Int.reduceLT, Int.reduceLE, Int.reduceEq, Int.reduceToNat, Int.reduceAdd, Int.reduceSub, Int.reduceNeg, ↓reduceIte, reduceCtorEq, ↓C.catnaplaw4_chip_r34_w, C.catnaplaw4_chip_r34_b, ↓C.catnaplaw4_chip_c24_w, ↓C.catnaplaw4_chip_r35_w, C.catnaplaw4_chip_r35_b, ↓C.catnaplaw4_chip_b25_w, ↓C.catnaplaw4_chip_c26_w, ↓C.catnaplaw4_chip_c27_w, ↓C.catnaplaw4_chip_r33_w, C.catnaplaw4_chip_r33_b, ↓C.catnaplaw4_chip_b29_w, ↓C.catnaplaw4_chip_c30_w, ↓C.catnaplaw4_chip_r32_w, C.catnaplaw4_chip_r32_b, ↓C.catnaplaw4_chip_c31_w, ↓C.catnaplaw4_chip_r27_w, C.catnaplaw4_chip_r27_b, ↓C.catnaplaw4_chip_c32_w, ↓C.catnaplaw4_chip_r31_w, C.catnaplaw4_chip_r31_b, ↓C.catnaplaw4_chip_c33_w, ↓C.catnaplaw4_chip_r30_w, C.catnaplaw4_chip_r30_b, ↓C.catnaplaw4_chip_c34_w, ↓C.catnaplaw4_chip_r29_w, C.catnaplaw4_chip_r29_b, ↓C.catnaplaw4_chip_c35_w, ↓C.catnaplaw4_chip_r28_w, C.catnaplaw4_chip_r28_b, ↓C.catnaplaw4_chip_b36_w, ↓C.catnaplaw4_chip_c37_w, ↓C.catnaplaw4_chip_c38_w, ↓C.catnaplaw4_chip_r26_w, C.catnaplaw4_chip_r26_b, ↓C.catnaplaw4_chip_b40_w, ↓C.catnaplaw4_chip_c41_w, ↓C.catnaplaw4_chip_r25_w, C.catnaplaw4_chip_r25_b, ↓C.catnaplaw4_chip_c42_w, ↓C.catnaplaw4_chip_r12_w, C.catnaplaw4_chip_r12_b, ↓C.catnaplaw4_chip_c43_w, ↓C.catnaplaw4_chip_r24_w, C.catnaplaw4_chip_r24_b, ↓C.catnaplaw4_chip_c44_w, ↓C.catnaplaw4_chip_r19_w, C.catnaplaw4_chip_r19_b, ↓C.catnaplaw4_chip_c45_w, ↓C.catnaplaw4_chip_r18_w, C.catnaplaw4_chip_r18_b, ↓C.catnaplaw4_chip_c46_w, ↓C.catnaplaw4_chip_r17_w, C.catnaplaw4_chip_r17_b, ↓C.catnaplaw4_chip_r21_w, C.catnaplaw4_chip_r21_b, ↓C.catnaplaw4_chip_r23_w, C.catnaplaw4_chip_r23_b, ↓C.catnaplaw4_chip_c47_w, ↓C.catnaplaw4_chip_r22_w, C.catnaplaw4_chip_r22_b, ↓C.catnaplaw4_chip_c48_w, ↓C.catnaplaw4_chip_c49_w, ↓C.catnaplaw4_chip_r20_w, C.catnaplaw4_chip_r20_b, ↓C.catnaplaw4_chip_c50_w, ↓C.catnaplaw4_chip_c51_w, ↓C.catnaplaw4_chip_c52_w, ↓C.catnaplaw4_chip_r16_w, C.catnaplaw4_chip_r16_b, ↓C.catnaplaw4_chip_b53_w, ↓C.catnaplaw4_chip_c54_w, ↓C.catnaplaw4_chip_r15_w, C.catnaplaw4_chip_r15_b, ↓C.catnaplaw4_chip_c55_w, ↓C.catnaplaw4_chip_r14_w, C.catnaplaw4_chip_r14_b, ↓C.catnaplaw4_chip_c56_w, ↓C.catnaplaw4_chip_r13_w, C.catnaplaw4_chip_r13_b, ↓C.catnaplaw4_chip_b57_w, ↓C.catnaplaw4_chip_c58_w, ↓C.catnaplaw4_chip_c59_w, ↓C.catnaplaw4_chip_r11_w, C.catnaplaw4_chip_r11_b, ↓C.catnaplaw4_chip_b61_w, ↓C.catnaplaw4_chip_c62_w, ↓C.catnaplaw4_chip_r10_w, C.catnaplaw4_chip_r10_b, ↓C.catnaplaw4_chip_c63_w, ↓C.catnaplaw4_chip_r9_w, C.catnaplaw4_chip_r9_b, ↓C.catnaplaw4_chip_c64_w, ↓C.catnaplaw4_chip_r8_w, C.catnaplaw4_chip_r8_b, ↓C.catnaplaw4_chip_c65_w, ↓C.catnaplaw4_chip_r7_w, C.catnaplaw4_chip_r7_b, ↓C.catnaplaw4_chip_c66_w, ↓C.catnaplaw4_chip_r5_w, C.catnaplaw4_chip_r5_b, ↓C.catnaplaw4_chip_c67_w, ↓C.catnaplaw4_chip_r6_w, C.catnaplaw4_chip_r6_b, ↓C.catnaplaw4_chip_b68_w, ↓C.catnaplaw4_chip_c69_w, ↓C.catnaplaw4_chip_c70_w, ↓C.catnaplaw4_chip_r4_w, C.catnaplaw4_chip_r4_b, ↓C.catnaplaw4_chip_b72_w, ↓C.catnaplaw4_chip_c73_w, ↓C.catnaplaw4_chip_r3_w, C.catnaplaw4_chip_r3_b, ↓C.catnaplaw4_chip_c74_w, ↓C.catnaplaw4_chip_r2_w, C.catnaplaw4_chip_r2_b, ↓C.catnaplaw4_chip_c75_w, ↓C.catnaplaw4_chip_r1_w, C.catnaplaw4_chip_r1_b, ↓C.catnaplaw4_chip_c76_w, ↓C.catnaplaw4_chip_r0_w, C.catnaplaw4_chip_r0_b, C.catnaplaw4_chip]
  refine awp_midB (fun _ : Unit => [(2, .ptr ir 0), (4, .sl 1 idr 0 120), (6, .ptr ib 0)]) (fun _ s => Box s0 s ib (Soc.mk cl dm ((List.range (nRst f)).map (chRst f)) []).cells) ?_ (fun _ s h => chip_c23 H hC hD (by simp) h)
  refine awp_loopK (fun i : Nat => [(2, .ptr ir 0), (4, .sl 1 idr 0 120), (6, .ptr ib 0), (13, .int .i64 i)]) (fun i s => i ≤ nRst f ∧ Box s0 s ib (Soc.mk cl dm ((List.range i).map (chRst f)) []).cells) (fun i => nRst f - i) 0 rfl ⟨Nat.zero_le _, h⟩ ?_
  rintro i s ⟨hi, hB⟩
  have hd := hB.base _ _ H.d
  have t3 : ∀ a : Nat, (a : Int).tmod 3 = ((a % 3 : Nat) : Int) := fun a => nat_tmod a 3
  have wn : IntKind.i64.wrap (1 + ((f 3 % 3 : Nat) : Int)) = ((nRst f : Nat) : Int) := by unfold nRst; rw [wrap64] <;> omega
  have hz : (0 : Int) ≤ 3 ∧ (3 : Int) < ((120 : Nat) : Int) := by omega
  by_cases hil : i < nRst f
  rotate_left
  · have hie : i = nRst f := by omega
    have hil' : ¬ (i : Int) < ((nRst f : Nat) : Int) := by omega
    simp only [↓Bp, Bq, Bs, ↓aop.eq_28, ↓aop.eq_30, Nat.reduceEqDiff, Nat.reduceAdd, Nat.reduceMul, Nat.reduceSub, Nat.reduceLeDiff, Nat.reduceLT, Int.reduceLT, Int.reduceLE, Int.reduceEq, Int.reduceToNat, Int.reduceAdd, Int.reduceSub, Int.reduceNeg, ↓reduceIte, reduceCtorEq, ↓C.catnaplaw4_chip_W, C.catnaplaw4_chip_B, C.catnaplaw4_chip, hd, hz, dl_get f (show 3 < 120 by omega), t3, wn, hil']
    rw [← hie]
    exact ⟨(), hB⟩
  have hil' : (i : Int) < ((nRst f : Nat) : Int) := by omega
  simp only [↓Bp, Bq, Bs, ↓aop.eq_28, ↓aop.eq_30, Nat.reduceEqDiff, Nat.reduceAdd, Nat.reduceMul, Nat.reduceSub, Nat.reduceLeDiff, Nat.reduceLT, Int.reduceLT, Int.reduceLE, Int.reduceEq, Int.reduceToNat, Int.reduceAdd, Int.reduceSub, Int.reduceNeg, ↓reduceIte, reduceCtorEq, ↓C.catnaplaw4_chip_r50_w, C.catnaplaw4_chip_r50_b, ↓C.catnaplaw4_chip_c1_w, ↓C.catnaplaw4_chip_r38_w, C.catnaplaw4_chip_r38_b, ↓C.catnaplaw4_chip_c2_w, ↓C.catnaplaw4_chip_r49_w, C.catnaplaw4_chip_r49_b, ↓C.catnaplaw4_chip_c3_w, ↓C.catnaplaw4_chip_r48_w, C.catnaplaw4_chip_r48_b, ↓C.catnaplaw4_chip_c4_w, ↓C.catnaplaw4_chip_r47_w, C.catnaplaw4_chip_r47_b, ↓C.catnaplaw4_chip_c5_w, ↓C.catnaplaw4_chip_r46_w, C.catnaplaw4_chip_r46_b, ↓C.catnaplaw4_chip_c6_w, ↓C.catnaplaw4_chip_r45_w, C.catnaplaw4_chip_r45_b, ↓C.catnaplaw4_chip_c7_w, ↓C.catnaplaw4_chip_r43_w, C.catnaplaw4_chip_r43_b, ↓C.catnaplaw4_chip_c8_w, ↓C.catnaplaw4_chip_r44_w, C.catnaplaw4_chip_r44_b, ↓C.catnaplaw4_chip_b9_w, ↓C.catnaplaw4_chip_c10_w, ↓C.catnaplaw4_chip_c11_w, ↓C.catnaplaw4_chip_r42_w, C.catnaplaw4_chip_r42_b, ↓C.catnaplaw4_chip_b13_w, ↓C.catnaplaw4_chip_c14_w, ↓C.catnaplaw4_chip_r41_w, C.catnaplaw4_chip_r41_b, ↓C.catnaplaw4_chip_c15_w, ↓C.catnaplaw4_chip_r40_w, C.catnaplaw4_chip_r40_b, ↓C.catnaplaw4_chip_c16_w, ↓C.catnaplaw4_chip_r39_w, C.catnaplaw4_chip_r39_b, ↓C.catnaplaw4_chip_b17_w, ↓C.catnaplaw4_chip_c18_w, ↓C.catnaplaw4_chip_c19_w, ↓C.catnaplaw4_chip_r37_w, C.catnaplaw4_chip_r37_b, ↓C.catnaplaw4_chip_b21_w, ↓C.catnaplaw4_chip_c22_w, ↓C.catnaplaw4_chip_r36_w, C.catnaplaw4_chip_r36_b, ↓C.catnaplaw4_chip_c23_w, ↓C.catnaplaw4_chip_c27_w, ↓C.catnaplaw4_chip_r33_w, C.catnaplaw4_chip_r33_b, ↓C.catnaplaw4_chip_b29_w, ↓C.catnaplaw4_chip_c30_w, ↓C.catnaplaw4_chip_r32_w, C.catnaplaw4_chip_r32_b, ↓C.catnaplaw4_chip_c31_w, ↓C.catnaplaw4_chip_r27_w, C.catnaplaw4_chip_r27_b, ↓C.catnaplaw4_chip_c32_w, ↓C.catnaplaw4_chip_r31_w, C.catnaplaw4_chip_r31_b, ↓C.catnaplaw4_chip_c33_w, ↓C.catnaplaw4_chip_r30_w, C.catnaplaw4_chip_r30_b, ↓C.catnaplaw4_chip_c34_w, ↓C.catnaplaw4_chip_r29_w, C.catnaplaw4_chip_r29_b, ↓C.catnaplaw4_chip_c35_w, ↓C.catnaplaw4_chip_r28_w, C.catnaplaw4_chip_r28_b, ↓C.catnaplaw4_chip_b36_w, ↓C.catnaplaw4_chip_c37_w, ↓C.catnaplaw4_chip_c38_w, ↓C.catnaplaw4_chip_r26_w, C.catnaplaw4_chip_r26_b, ↓C.catnaplaw4_chip_b40_w, ↓C.catnaplaw4_chip_c41_w, ↓C.catnaplaw4_chip_r25_w, C.catnaplaw4_chip_r25_b, ↓C.catnaplaw4_chip_c42_w, ↓C.catnaplaw4_chip_r12_w, C.catnaplaw4_chip_r12_b, ↓C.catnaplaw4_chip_c43_w, ↓C.catnaplaw4_chip_r24_w, C.catnaplaw4_chip_r24_b, ↓C.catnaplaw4_chip_c44_w, ↓C.catnaplaw4_chip_r19_w, C.catnaplaw4_chip_r19_b, ↓C.catnaplaw4_chip_c45_w, ↓C.catnaplaw4_chip_r18_w, C.catnaplaw4_chip_r18_b, ↓C.catnaplaw4_chip_c46_w, ↓C.catnaplaw4_chip_r17_w, C.catnaplaw4_chip_r17_b, ↓C.catnaplaw4_chip_r21_w, C.catnaplaw4_chip_r21_b, ↓C.catnaplaw4_chip_r23_w, C.catnaplaw4_chip_r23_b, ↓C.catnaplaw4_chip_c47_w, ↓C.catnaplaw4_chip_r22_w, C.catnaplaw4_chip_r22_b, ↓C.catnaplaw4_chip_c48_w, ↓C.catnaplaw4_chip_c49_w, ↓C.catnaplaw4_chip_r20_w, C.catnaplaw4_chip_r20_b, ↓C.catnaplaw4_chip_c50_w, ↓C.catnaplaw4_chip_c51_w, ↓C.catnaplaw4_chip_c52_w, ↓C.catnaplaw4_chip_r16_w, C.catnaplaw4_chip_r16_b, ↓C.catnaplaw4_chip_b53_w, ↓C.catnaplaw4_chip_c54_w, ↓C.catnaplaw4_chip_r15_w, C.catnaplaw4_chip_r15_b, ↓C.catnaplaw4_chip_c55_w, ↓C.catnaplaw4_chip_r14_w, C.catnaplaw4_chip_r14_b, ↓C.catnaplaw4_chip_c56_w, ↓C.catnaplaw4_chip_r13_w, C.catnaplaw4_chip_r13_b, ↓C.catnaplaw4_chip_b57_w, ↓C.catnaplaw4_chip_c58_w, ↓C.catnaplaw4_chip_c59_w, ↓C.catnaplaw4_chip_r11_w, C.catnaplaw4_chip_r11_b, ↓C.catnaplaw4_chip_b61_w, ↓C.catnaplaw4_chip_c62_w, ↓C.catnaplaw4_chip_r10_w, C.catnaplaw4_chip_r10_b, ↓C.catnaplaw4_chip_c63_w, ↓C.catnaplaw4_chip_r9_w, C.catnaplaw4_chip_r9_b, ↓C.catnaplaw4_chip_c64_w, ↓C.catnaplaw4_chip_r8_w, C.catnaplaw4_chip_r8_b, ↓C.catnaplaw4_chip_c65_w, ↓C.catnaplaw4_chip_r7_w, C.catnaplaw4_chip_r7_b, ↓C.catnaplaw4_chip_c66_w, ↓C.catnaplaw4_chip_r5_w, C.catnaplaw4_chip_r5_b, ↓C.catnaplaw4_chip_c67_w, ↓C.catnaplaw4_chip_r6_w, C.catnaplaw4_chip_r6_b, ↓C.catnaplaw4_chip_b68_w, ↓C.catnaplaw4_chip_c69_w, ↓C.catnaplaw4_chip_c70_w, ↓C.catnaplaw4_chip_r4_w, C.catnaplaw4_chip_r4_b, ↓C.catnaplaw4_chip_b72_w, ↓C.catnaplaw4_chip_c73_w, ↓C.catnaplaw4_chip_r3_w, C.catnaplaw4_chip_r3_b, ↓C.catnaplaw4_chip_c74_w, ↓C.catnaplaw4_chip_r2_w, C.catnaplaw4_chip_r2_b, ↓C.catnaplaw4_chip_c75_w, ↓C.catnaplaw4_chip_r1_w, C.catnaplaw4_chip_r1_b, ↓C.catnaplaw4_chip_c76_w, ↓C.catnaplaw4_chip_r0_w, C.catnaplaw4_chip_r0_b, C.catnaplaw4_chip, hd, hz, dl_get f (show 3 < 120 by omega), t3, wn, hil']
  rw [C.catnaplaw4_chip_c26_w, awp_keep]
  exact chip_rst H hil hB fun s2 hB2 fr hfr => ⟨i + 1, hfr, ⟨hil, hB2⟩, by omega⟩

theorem chip_dom (H : ChipH st s0 ir idr f) {cl : List Clk} {i : Nat} (hi : i < nDom f) (h : Box s0 s ib (Soc.mk cl ((List.range i).map (chDom f)) [] []).cells) {Q : IExit → AFr → ASt → Prop}
    (hQ : ∀ s2, Box s0 s2 ib (Soc.mk cl ((List.range (i + 1)).map (chDom f)) [] []).cells → ∀ fr, fr.keep [2, 4, 6, 11] = [(2, .ptr ir 0), (4, .sl 1 idr 0 120), (6, .ptr ib 0), (11, .int .i64 ((i + 1 : Nat) : Int))] → Q .normal fr s2) :
    awp Try.prog C.catnaplaw4_chip_c37 Q [(2, .ptr ir 0), (4, .sl 1 idr 0 120), (6, .ptr ib 0), (11, .int .i64 i)] s := by
  have hi4 : i < 4 := by unfold nDom at hi; omega
  have wi : IntKind.i64.wrap ((i : Int) + 1) = ((i + 1 : Nat) : Int) := wsucc hi4 (by omega)
  have w40 : IntKind.i64.wrap (40 + (i : Int)) = ((40 + i : Nat) : Int) := by rw [wrap64] <;> omega
  have w44 : IntKind.i64.wrap (44 + (i : Int)) = ((44 + i : Nat) : Int) := by rw [wrap64] <;> omega
  have hz40 : (0 : Int) ≤ ((40 + i : Nat) : Int) ∧ ((40 + i : Nat) : Int) < ((120 : Nat) : Int) := by omega
  have hz44 : (0 : Int) ≤ ((44 + i : Nat) : Int) ∧ ((44 + i : Nat) : Int) < ((120 : Nat) : Int) := by omega
  have hg40 := dl_get f (show 40 + i < 120 by omega)
  have hg44 := dl_get f (show 44 + i < 120 by omega)
  have hd := h.base _ _ H.d
  have t2 : ∀ a : Nat, (a : Int).tmod 2 = ((a % 2 : Nat) : Int) := fun a => nat_tmod a 2
  have t3 : ∀ a : Nat, (a : Int).tmod 3 = ((a % 3 : Nat) : Int) := fun a => nat_tmod a 3
  have t4 : ∀ a : Nat, (a : Int).tmod 4 = ((a % 4 : Nat) : Int) := fun a => nat_tmod a 4
  have z1 : ∀ a : Nat, ((a : Int) = 1) = (a = 1) := fun a => by rw [eq_iff_iff]; omega
  have q4 : ∀ x, IntKind.i64.wrap (((f x : Nat) : Int).tdiv 4) = ((f x / 4 : Nat) : Int) := fun x => by
    have := H.lt x
    rw [show ((f x : Nat) : Int).tdiv 4 = ((f x / 4 : Nat) : Int) from nat_tdiv _ 4, wrap64] <;> omega
  have q3 : ∀ x, IntKind.i64.wrap (((f x : Nat) : Int).tdiv 3) = ((f x / 3 : Nat) : Int) := fun x => by
    have := H.lt x
    rw [show ((f x : Nat) : Int).tdiv 3 = ((f x / 3 : Nat) : Int) from nat_tdiv _ 3, wrap64] <;> omega
  obtain ⟨vs, L, hB⟩ := h
  have hvl := hB.2.1.len
  have h1l : 1 < vs.length := by rw [← hvl]; exact (by decide : 1 < 4)
  simp only [↓Bp, Bq, Bs, ↓aop.eq_28, ↓aop.eq_30, Nat.reduceEqDiff, Nat.reduceAdd, Nat.reduceMul, Nat.reduceSub, Nat.reduceLeDiff, Nat.reduceLT, Int.reduceLT, Int.reduceLE, Int.reduceEq, Int.reduceToNat, Int.reduceAdd, Int.reduceSub, Int.reduceNeg, ↓reduceIte, reduceCtorEq, ↓C.catnaplaw4_chip_r50_w, C.catnaplaw4_chip_r50_b, ↓C.catnaplaw4_chip_c1_w, ↓C.catnaplaw4_chip_r38_w, C.catnaplaw4_chip_r38_b, ↓C.catnaplaw4_chip_c2_w, ↓C.catnaplaw4_chip_r49_w, C.catnaplaw4_chip_r49_b, ↓C.catnaplaw4_chip_c3_w, ↓C.catnaplaw4_chip_r48_w, C.catnaplaw4_chip_r48_b, ↓C.catnaplaw4_chip_c4_w, ↓C.catnaplaw4_chip_r47_w, C.catnaplaw4_chip_r47_b, ↓C.catnaplaw4_chip_c5_w, ↓C.catnaplaw4_chip_r46_w, C.catnaplaw4_chip_r46_b, ↓C.catnaplaw4_chip_c6_w, ↓C.catnaplaw4_chip_r45_w, C.catnaplaw4_chip_r45_b, ↓C.catnaplaw4_chip_c7_w, ↓C.catnaplaw4_chip_r43_w, C.catnaplaw4_chip_r43_b, ↓C.catnaplaw4_chip_c8_w, ↓C.catnaplaw4_chip_r44_w, C.catnaplaw4_chip_r44_b, ↓C.catnaplaw4_chip_b9_w, ↓C.catnaplaw4_chip_c10_w, ↓C.catnaplaw4_chip_c11_w, ↓C.catnaplaw4_chip_r42_w, C.catnaplaw4_chip_r42_b, ↓C.catnaplaw4_chip_b13_w, ↓C.catnaplaw4_chip_c14_w, ↓C.catnaplaw4_chip_r41_w, C.catnaplaw4_chip_r41_b, ↓C.catnaplaw4_chip_c15_w, ↓C.catnaplaw4_chip_r40_w, C.catnaplaw4_chip_r40_b, ↓C.catnaplaw4_chip_c16_w, ↓C.catnaplaw4_chip_r39_w, C.catnaplaw4_chip_r39_b, ↓C.catnaplaw4_chip_b17_w, ↓C.catnaplaw4_chip_c18_w, ↓C.catnaplaw4_chip_c19_w, ↓C.catnaplaw4_chip_r37_w, C.catnaplaw4_chip_r37_b, ↓C.catnaplaw4_chip_b21_w, ↓C.catnaplaw4_chip_c22_w, ↓C.catnaplaw4_chip_r36_w, C.catnaplaw4_chip_r36_b, ↓C.catnaplaw4_chip_c23_w, ↓C.catnaplaw4_chip_r34_w, C.catnaplaw4_chip_r34_b, ↓C.catnaplaw4_chip_c24_w, ↓C.catnaplaw4_chip_r35_w, C.catnaplaw4_chip_r35_b, ↓C.catnaplaw4_chip_b25_w, ↓C.catnaplaw4_chip_c26_w, ↓C.catnaplaw4_chip_c27_w, ↓C.catnaplaw4_chip_r33_w, C.catnaplaw4_chip_r33_b, ↓C.catnaplaw4_chip_b29_w, ↓C.catnaplaw4_chip_c30_w, ↓C.catnaplaw4_chip_r32_w, C.catnaplaw4_chip_r32_b, ↓C.catnaplaw4_chip_c31_w, ↓C.catnaplaw4_chip_r27_w, C.catnaplaw4_chip_r27_b, ↓C.catnaplaw4_chip_c32_w, ↓C.catnaplaw4_chip_r28_w, C.catnaplaw4_chip_r28_b, ↓C.catnaplaw4_chip_b36_w, ↓C.catnaplaw4_chip_c37_w, ↓C.catnaplaw4_chip_c38_w, ↓C.catnaplaw4_chip_r26_w, C.catnaplaw4_chip_r26_b, ↓C.catnaplaw4_chip_b40_w, ↓C.catnaplaw4_chip_c41_w, ↓C.catnaplaw4_chip_r25_w, C.catnaplaw4_chip_r25_b, ↓C.catnaplaw4_chip_c42_w, ↓C.catnaplaw4_chip_r12_w, C.catnaplaw4_chip_r12_b, ↓C.catnaplaw4_chip_c43_w, ↓C.catnaplaw4_chip_r24_w, C.catnaplaw4_chip_r24_b, ↓C.catnaplaw4_chip_c44_w, ↓C.catnaplaw4_chip_r19_w, C.catnaplaw4_chip_r19_b, ↓C.catnaplaw4_chip_c45_w, ↓C.catnaplaw4_chip_r18_w, C.catnaplaw4_chip_r18_b, ↓C.catnaplaw4_chip_c46_w, ↓C.catnaplaw4_chip_r17_w, C.catnaplaw4_chip_r17_b, ↓C.catnaplaw4_chip_r21_w, C.catnaplaw4_chip_r21_b, ↓C.catnaplaw4_chip_r23_w, C.catnaplaw4_chip_r23_b, ↓C.catnaplaw4_chip_c47_w, ↓C.catnaplaw4_chip_r22_w, C.catnaplaw4_chip_r22_b, ↓C.catnaplaw4_chip_c48_w, ↓C.catnaplaw4_chip_c49_w, ↓C.catnaplaw4_chip_r20_w, C.catnaplaw4_chip_r20_b, ↓C.catnaplaw4_chip_c50_w, ↓C.catnaplaw4_chip_c51_w, ↓C.catnaplaw4_chip_c52_w, ↓C.catnaplaw4_chip_r16_w, C.catnaplaw4_chip_r16_b, ↓C.catnaplaw4_chip_b53_w, ↓C.catnaplaw4_chip_c54_w, ↓C.catnaplaw4_chip_r15_w, C.catnaplaw4_chip_r15_b, ↓C.catnaplaw4_chip_c55_w, ↓C.catnaplaw4_chip_r14_w, C.catnaplaw4_chip_r14_b, ↓C.catnaplaw4_chip_c56_w, ↓C.catnaplaw4_chip_r13_w, C.catnaplaw4_chip_r13_b, ↓C.catnaplaw4_chip_b57_w, ↓C.catnaplaw4_chip_c58_w, ↓C.catnaplaw4_chip_c59_w, ↓C.catnaplaw4_chip_r11_w, C.catnaplaw4_chip_r11_b, ↓C.catnaplaw4_chip_b61_w, ↓C.catnaplaw4_chip_c62_w, ↓C.catnaplaw4_chip_r10_w, C.catnaplaw4_chip_r10_b, ↓C.catnaplaw4_chip_c63_w, ↓C.catnaplaw4_chip_r9_w, C.catnaplaw4_chip_r9_b, ↓C.catnaplaw4_chip_c64_w, ↓C.catnaplaw4_chip_r8_w, C.catnaplaw4_chip_r8_b, ↓C.catnaplaw4_chip_c65_w, ↓C.catnaplaw4_chip_r7_w, C.catnaplaw4_chip_r7_b, ↓C.catnaplaw4_chip_c66_w, ↓C.catnaplaw4_chip_r5_w, C.catnaplaw4_chip_r5_b, ↓C.catnaplaw4_chip_c67_w, ↓C.catnaplaw4_chip_r6_w, C.catnaplaw4_chip_r6_b, ↓C.catnaplaw4_chip_b68_w, ↓C.catnaplaw4_chip_c69_w, ↓C.catnaplaw4_chip_c70_w, ↓C.catnaplaw4_chip_r4_w, C.catnaplaw4_chip_r4_b, ↓C.catnaplaw4_chip_b72_w, ↓C.catnaplaw4_chip_c73_w, ↓C.catnaplaw4_chip_r3_w, C.catnaplaw4_chip_r3_b, ↓C.catnaplaw4_chip_c74_w, ↓C.catnaplaw4_chip_r2_w, C.catnaplaw4_chip_r2_b, ↓C.catnaplaw4_chip_c75_w, ↓C.catnaplaw4_chip_r1_w, C.catnaplaw4_chip_r1_b, ↓C.catnaplaw4_chip_c76_w, ↓C.catnaplaw4_chip_r0_w, C.catnaplaw4_chip_r0_b, C.catnaplaw4_chip, hd, hz40, Int.toNat_natCast, Nat.mul_one, hg40, w40, t4, q4, t2, z1]
  intro i6 hi6
  simp only [↓Bp, Bq, Bs, ↓aop.eq_28, ↓aop.eq_30, Nat.reduceEqDiff, Nat.reduceAdd, Nat.reduceMul, Nat.reduceSub, Nat.reduceLeDiff, Nat.reduceLT, Int.reduceLT, Int.reduceLE, Int.reduceEq, Int.reduceToNat, Int.reduceAdd, Int.reduceSub, Int.reduceNeg, ↓reduceIte, reduceCtorEq, ↓C.catnaplaw4_chip_r50_w, C.catnaplaw4_chip_r50_b, ↓C.catnaplaw4_chip_c1_w, ↓C.catnaplaw4_chip_r38_w, C.catnaplaw4_chip_r38_b, ↓C.catnaplaw4_chip_c2_w, ↓C.catnaplaw4_chip_r49_w, C.catnaplaw4_chip_r49_b, ↓C.catnaplaw4_chip_c3_w, ↓C.catnaplaw4_chip_r48_w, C.catnaplaw4_chip_r48_b, ↓C.catnaplaw4_chip_c4_w, ↓C.catnaplaw4_chip_r47_w, C.catnaplaw4_chip_r47_b, ↓C.catnaplaw4_chip_c5_w, ↓C.catnaplaw4_chip_r46_w, C.catnaplaw4_chip_r46_b, ↓C.catnaplaw4_chip_c6_w, ↓C.catnaplaw4_chip_r45_w, C.catnaplaw4_chip_r45_b, ↓C.catnaplaw4_chip_c7_w, ↓C.catnaplaw4_chip_r43_w, C.catnaplaw4_chip_r43_b, ↓C.catnaplaw4_chip_c8_w, ↓C.catnaplaw4_chip_r44_w, C.catnaplaw4_chip_r44_b, ↓C.catnaplaw4_chip_b9_w, ↓C.catnaplaw4_chip_c10_w, ↓C.catnaplaw4_chip_c11_w, ↓C.catnaplaw4_chip_r42_w, C.catnaplaw4_chip_r42_b, ↓C.catnaplaw4_chip_b13_w, ↓C.catnaplaw4_chip_c14_w, ↓C.catnaplaw4_chip_r41_w, C.catnaplaw4_chip_r41_b, ↓C.catnaplaw4_chip_c15_w, ↓C.catnaplaw4_chip_r40_w, C.catnaplaw4_chip_r40_b, ↓C.catnaplaw4_chip_c16_w, ↓C.catnaplaw4_chip_r39_w, C.catnaplaw4_chip_r39_b, ↓C.catnaplaw4_chip_b17_w, ↓C.catnaplaw4_chip_c18_w, ↓C.catnaplaw4_chip_c19_w, ↓C.catnaplaw4_chip_r37_w, C.catnaplaw4_chip_r37_b, ↓C.catnaplaw4_chip_b21_w, ↓C.catnaplaw4_chip_c22_w, ↓C.catnaplaw4_chip_r36_w, C.catnaplaw4_chip_r36_b, ↓C.catnaplaw4_chip_c23_w, ↓C.catnaplaw4_chip_r34_w, C.catnaplaw4_chip_r34_b, ↓C.catnaplaw4_chip_c24_w, ↓C.catnaplaw4_chip_r35_w, C.catnaplaw4_chip_r35_b, ↓C.catnaplaw4_chip_b25_w, ↓C.catnaplaw4_chip_c26_w, ↓C.catnaplaw4_chip_c27_w, ↓C.catnaplaw4_chip_r33_w, C.catnaplaw4_chip_r33_b, ↓C.catnaplaw4_chip_b29_w, ↓C.catnaplaw4_chip_c30_w, ↓C.catnaplaw4_chip_r32_w, C.catnaplaw4_chip_r32_b, ↓C.catnaplaw4_chip_c31_w, ↓C.catnaplaw4_chip_r27_w, C.catnaplaw4_chip_r27_b, ↓C.catnaplaw4_chip_c32_w, ↓C.catnaplaw4_chip_r28_w, C.catnaplaw4_chip_r28_b, ↓C.catnaplaw4_chip_b36_w, ↓C.catnaplaw4_chip_c37_w, ↓C.catnaplaw4_chip_c38_w, ↓C.catnaplaw4_chip_r26_w, C.catnaplaw4_chip_r26_b, ↓C.catnaplaw4_chip_b40_w, ↓C.catnaplaw4_chip_c41_w, ↓C.catnaplaw4_chip_r25_w, C.catnaplaw4_chip_r25_b, ↓C.catnaplaw4_chip_c42_w, ↓C.catnaplaw4_chip_r12_w, C.catnaplaw4_chip_r12_b, ↓C.catnaplaw4_chip_c43_w, ↓C.catnaplaw4_chip_r24_w, C.catnaplaw4_chip_r24_b, ↓C.catnaplaw4_chip_c44_w, ↓C.catnaplaw4_chip_r19_w, C.catnaplaw4_chip_r19_b, ↓C.catnaplaw4_chip_c45_w, ↓C.catnaplaw4_chip_r18_w, C.catnaplaw4_chip_r18_b, ↓C.catnaplaw4_chip_c46_w, ↓C.catnaplaw4_chip_r17_w, C.catnaplaw4_chip_r17_b, ↓C.catnaplaw4_chip_r21_w, C.catnaplaw4_chip_r21_b, ↓C.catnaplaw4_chip_r23_w, C.catnaplaw4_chip_r23_b, ↓C.catnaplaw4_chip_c47_w, ↓C.catnaplaw4_chip_r22_w, C.catnaplaw4_chip_r22_b, ↓C.catnaplaw4_chip_c48_w, ↓C.catnaplaw4_chip_c49_w, ↓C.catnaplaw4_chip_r20_w, C.catnaplaw4_chip_r20_b, ↓C.catnaplaw4_chip_c50_w, ↓C.catnaplaw4_chip_c51_w, ↓C.catnaplaw4_chip_c52_w, ↓C.catnaplaw4_chip_r16_w, C.catnaplaw4_chip_r16_b, ↓C.catnaplaw4_chip_b53_w, ↓C.catnaplaw4_chip_c54_w, ↓C.catnaplaw4_chip_r15_w, C.catnaplaw4_chip_r15_b, ↓C.catnaplaw4_chip_c55_w, ↓C.catnaplaw4_chip_r14_w, C.catnaplaw4_chip_r14_b, ↓C.catnaplaw4_chip_c56_w, ↓C.catnaplaw4_chip_r13_w, C.catnaplaw4_chip_r13_b, ↓C.catnaplaw4_chip_b57_w, ↓C.catnaplaw4_chip_c58_w, ↓C.catnaplaw4_chip_c59_w, ↓C.catnaplaw4_chip_r11_w, C.catnaplaw4_chip_r11_b, ↓C.catnaplaw4_chip_b61_w, ↓C.catnaplaw4_chip_c62_w, ↓C.catnaplaw4_chip_r10_w, C.catnaplaw4_chip_r10_b, ↓C.catnaplaw4_chip_c63_w, ↓C.catnaplaw4_chip_r9_w, C.catnaplaw4_chip_r9_b, ↓C.catnaplaw4_chip_c64_w, ↓C.catnaplaw4_chip_r8_w, C.catnaplaw4_chip_r8_b, ↓C.catnaplaw4_chip_c65_w, ↓C.catnaplaw4_chip_r7_w, C.catnaplaw4_chip_r7_b, ↓C.catnaplaw4_chip_c66_w, ↓C.catnaplaw4_chip_r5_w, C.catnaplaw4_chip_r5_b, ↓C.catnaplaw4_chip_c67_w, ↓C.catnaplaw4_chip_r6_w, C.catnaplaw4_chip_r6_b, ↓C.catnaplaw4_chip_b68_w, ↓C.catnaplaw4_chip_c69_w, ↓C.catnaplaw4_chip_c70_w, ↓C.catnaplaw4_chip_r4_w, C.catnaplaw4_chip_r4_b, ↓C.catnaplaw4_chip_b72_w, ↓C.catnaplaw4_chip_c73_w, ↓C.catnaplaw4_chip_r3_w, C.catnaplaw4_chip_r3_b, ↓C.catnaplaw4_chip_c74_w, ↓C.catnaplaw4_chip_r2_w, C.catnaplaw4_chip_r2_b, ↓C.catnaplaw4_chip_c75_w, ↓C.catnaplaw4_chip_r1_w, C.catnaplaw4_chip_r1_b, ↓C.catnaplaw4_chip_c76_w, ↓C.catnaplaw4_chip_r0_w, C.catnaplaw4_chip_r0_b, C.catnaplaw4_chip, hi6, allLeaf, AV.leaf]
  rw [ASt.new_set hi6]
  have hle : s.le (s.new i6 (AObj.cells [AV.int .i64 (-1), AV.int .i64 ((f (40 + i) % 4 : Nat) : Int), AV.bool (decide (f (40 + i) / 4 % 2 = 1))])) := ASt.le.new _ _ _
  have h6 : (s.new i6 (AObj.cells [AV.int .i64 (-1), AV.int .i64 ((f (40 + i) % 4 : Nat) : Int), AV.bool (decide (f (40 + i) / 4 % 2 = 1))])).h i6 = some (AObj.cells [AV.int .i64 (-1), AV.int .i64 ((f (40 + i) % 4 : Nat) : Int), AV.bool (decide (f (40 + i) / 4 % 2 = 1))]) := ASt.new_self _ hi6
  generalize s.new i6 (AObj.cells [AV.int .i64 (-1), AV.int .i64 ((f (40 + i) % 4 : Nat) : Int), AV.bool (decide (f (40 + i) / 4 % 2 = 1))]) = sx at hle h6
  have hdx := hle _ _ hd
  rw [C.catnaplaw4_chip_c35_w, awp_keep, awp_seq]
  refine awp_mid (fun _ : Unit => [(2, .ptr ir 0), (4, .sl 1 idr 0 120), (6, .ptr ib 0), (11, .int .i64 i), (12, .ptr i6 0)]) (fun _ t => s.le t ∧ t.h i6 = some (.cells (chDom f i).cells)) ?_ ?_
  · have hset : ∀ o, s.le (sx.set i6 o) := fun o j x hj => by
      rw [ASt.set_h, if_neg (by rintro rfl; rw [hi6] at hj; cases hj)]
      exact hle _ _ hj
    have hs6 : ∀ o, (sx.set i6 o).h i6 = some o := fun o => by rw [ASt.set_h, if_pos rfl, h6]; rfl
    by_cases hi0 : 0 < i
    · have hi0' : (0 : Int) < (i : Int) := by omega
      have hin : ¬ (i : Int) = 0 := by omega
      by_cases h9 : 0 < f (44 + i) % 3
      · have h9' : (0 : Int) < ((f (44 + i) % 3 : Nat) : Int) := by omega
        simp only [↓Bp, Bq, Bs, ↓aop.eq_28, ↓aop.eq_30, Nat.reduceEqDiff, Nat.reduceAdd, Nat.reduceMul, Nat.reduceSub, Nat.reduceLeDiff, Nat.reduceLT, Int.reduceLT, Int.reduceLE, Int.reduceEq, Int.reduceToNat, Int.reduceAdd, Int.reduceSub, Int.reduceNeg, ↓reduceIte, reduceCtorEq, ↓C.catnaplaw4_chip_W, C.catnaplaw4_chip_B, C.catnaplaw4_chip, hdx, hi0', hi0, hz44, Int.toNat_natCast, Nat.mul_one, hg44, w44, t3, h9', gt_iff_lt, q3, nat_tmod, hin, h6]
        refine ⟨(), hset _, ?_⟩
        rw [chDom, if_pos ⟨hi0, h9⟩]; rfl
      · have h9' : ¬ (0 : Int) < ((f (44 + i) % 3 : Nat) : Int) := by omega
        simp only [↓Bp, Bq, Bs, ↓aop.eq_28, ↓aop.eq_30, Nat.reduceEqDiff, Nat.reduceAdd, Nat.reduceMul, Nat.reduceSub, Nat.reduceLeDiff, Nat.reduceLT, Int.reduceLT, Int.reduceLE, Int.reduceEq, Int.reduceToNat, Int.reduceAdd, Int.reduceSub, Int.reduceNeg, ↓reduceIte, reduceCtorEq, ↓C.catnaplaw4_chip_W, C.catnaplaw4_chip_B, C.catnaplaw4_chip, hdx, hi0', hi0, hz44, Int.toNat_natCast, Nat.mul_one, hg44, w44, t3, h9', gt_iff_lt]
        refine ⟨(), hle, ?_⟩
        rw [h6, chDom, if_neg (fun h => h9 h.2)]; rfl
    · have hi0' : ¬ (0 : Int) < (i : Int) := by omega
      simp only [↓Bp, Bq, Bs, ↓aop.eq_28, ↓aop.eq_30, Nat.reduceEqDiff, Nat.reduceAdd, Nat.reduceMul, Nat.reduceSub, Nat.reduceLeDiff, Nat.reduceLT, Int.reduceLT, Int.reduceLE, Int.reduceEq, Int.reduceToNat, Int.reduceAdd, Int.reduceSub, Int.reduceNeg, ↓reduceIte, reduceCtorEq, ↓C.catnaplaw4_chip_W, C.catnaplaw4_chip_B, C.catnaplaw4_chip, hi0', gt_iff_lt]
      refine ⟨(), hle, ?_⟩
      rw [h6, chDom, if_neg (fun h => hi0 h.1)]; rfl
  clear h6 hdx hle
  rintro - t ⟨hle, h6⟩
  have hBt := BoxL.grow hB hle
  obtain ⟨v, v1, v2, hap⟩ := BoxL.append (b := ib) (o := 1) (new := (chDom f i).cells) (newc := (chDom f i).cells) (Ln := []) hBt rfl (flatMap_len Dom.cells_len _) (by simp; omega) (RepL.scalars rfl _) rfl (by simp) (by simp) (by simp)
  have hl3 : 3 ≤ (chDom f i).cells.length := Nat.le_refl _
  have e3 : AV.agg (List.take 3 (chDom f i).cells) = .agg (chDom f i).cells := rfl
  generalize hcd : (chDom f i).cells = cd at hap h6 hl3 e3
  have hcl : cd.length = 3 := by rw [← hcd]; rfl
  simp only [↓Bp, Bq, Bs, Nat.reduceEqDiff, Nat.reduceAdd, Nat.reduceMul, Nat.reduceSub, Nat.reduceLeDiff, Nat.reduceLT, Int.reduceLT, Int.reduceLE, Int.reduceEq, Int.reduceToNat, Int.reduceAdd, Int.reduceSub, Int.reduceNeg, ↓reduceIte, reduceCtorEq, ↓C.catnaplaw4_chip_W, C.catnaplaw4_chip_B, C.catnaplaw4_chip, hBt.1, v1, h6, hl3, e3]
  refine hap (aput_one rfl hcl) (fun _ => rfl) (fun _ => rfl) fun v1' i2 t2 hs hBx => ?_
  simp only [↓Bp, Bq, Bs, ↓aop.eq_28, ↓aop.eq_30, Nat.reduceEqDiff, Nat.reduceAdd, Nat.reduceMul, Nat.reduceSub, Nat.reduceLeDiff, Nat.reduceLT, Int.reduceLT, Int.reduceLE, Int.reduceEq, Int.reduceToNat, Int.reduceAdd, Int.reduceSub, Int.reduceNeg, ↓reduceIte, reduceCtorEq, ↓C.catnaplaw4_chip_W, C.catnaplaw4_chip_B, C.catnaplaw4_chip, hs, h1l, wi]
  refine hQ _ ?_ _ rfl
  have e : (Soc.mk cl ((List.range (i + 1)).map (chDom f)) [] []).cells = ((Soc.mk cl ((List.range i).map (chDom f)) [] []).cells.set 1 (AV.isl 3 (List.flatMap Dom.cells (Soc.mk cl ((List.range i).map (chDom f)) [] []).doms ++ cd) ((Soc.mk cl ((List.range i).map (chDom f)) [] []).doms.length + 1))) := by
    rw [List.range_succ, List.map_append, ← hcd]
    simp [Soc.cells, Soc.clkV, Soc.domV, Soc.rstV, Soc.devV]
  rw [e]; exact hBx
theorem chip_c42 (H : ChipH st s0 ir idr f) {cl : List Clk} (hC : cl.length = nClk f) (h : Box s0 s ib (Soc.mk cl [] [] []).cells) :
    awp Try.prog C.catnaplaw4_chip_c42 (Post [.cellN 2 4] (ChipQ st (Soc.mk cl ((List.range (nDom f)).map (chDom f)) ((List.range (nRst f)).map (chRst f)) ((List.range (nDev f)).map (chDev f))))) [(2, .ptr ir 0), (4, .sl 1 idr 0 120), (6, .ptr ib 0)] s := by
  simp only [↓Bp, Bq, Bs, ↓aop.eq_28, ↓aop.eq_30, Nat.reduceEqDiff, Nat.reduceAdd, Nat.reduceMul, Nat.reduceSub, Nat.reduceLeDiff, Nat.reduceLT, Int.reduceLT, Int.reduceLE, Int.reduceEq, Int.reduceToNat, Int.reduceAdd, Int.reduceSub, Int.reduceNeg, ↓reduceIte, reduceCtorEq, ↓C.catnaplaw4_chip_r27_w, C.catnaplaw4_chip_r27_b, ↓C.catnaplaw4_chip_c32_w, ↓C.catnaplaw4_chip_r31_w, C.catnaplaw4_chip_r31_b, ↓C.catnaplaw4_chip_c33_w, ↓C.catnaplaw4_chip_r30_w, C.catnaplaw4_chip_r30_b, ↓C.catnaplaw4_chip_c34_w, ↓C.catnaplaw4_chip_r29_w, C.catnaplaw4_chip_r29_b, ↓C.catnaplaw4_chip_c35_w, ↓C.catnaplaw4_chip_r28_w, C.catnaplaw4_chip_r28_b, ↓C.catnaplaw4_chip_b36_w, ↓C.catnaplaw4_chip_c37_w, ↓C.catnaplaw4_chip_c38_w, ↓C.catnaplaw4_chip_r26_w, C.catnaplaw4_chip_r26_b, ↓C.catnaplaw4_chip_b40_w, ↓C.catnaplaw4_chip_c41_w, ↓C.catnaplaw4_chip_r25_w, C.catnaplaw4_chip_r25_b, ↓C.catnaplaw4_chip_c42_w, ↓C.catnaplaw4_chip_r12_w, C.catnaplaw4_chip_r12_b, ↓C.catnaplaw4_chip_c43_w, ↓C.catnaplaw4_chip_r24_w, C.catnaplaw4_chip_r24_b, ↓C.catnaplaw4_chip_c44_w, ↓C.catnaplaw4_chip_r19_w, C.catnaplaw4_chip_r19_b, ↓C.catnaplaw4_chip_c45_w, ↓C.catnaplaw4_chip_r18_w, C.catnaplaw4_chip_r18_b, ↓C.catnaplaw4_chip_c46_w, ↓C.catnaplaw4_chip_r17_w, C.catnaplaw4_chip_r17_b, ↓C.catnaplaw4_chip_r21_w, C.catnaplaw4_chip_r21_b, ↓C.catnaplaw4_chip_r23_w, C.catnaplaw4_chip_r23_b, ↓C.catnaplaw4_chip_c47_w, ↓C.catnaplaw4_chip_r22_w, C.catnaplaw4_chip_r22_b, ↓C.catnaplaw4_chip_c48_w, ↓C.catnaplaw4_chip_c49_w, ↓C.catnaplaw4_chip_r20_w, C.catnaplaw4_chip_r20_b, ↓C.catnaplaw4_chip_c50_w, ↓C.catnaplaw4_chip_c51_w, ↓C.catnaplaw4_chip_c52_w, ↓C.catnaplaw4_chip_r16_w, C.catnaplaw4_chip_r16_b, ↓C.catnaplaw4_chip_b53_w, ↓C.catnaplaw4_chip_c54_w, ↓C.catnaplaw4_chip_r15_w, C.catnaplaw4_chip_r15_b, ↓C.catnaplaw4_chip_c55_w, ↓C.catnaplaw4_chip_r14_w, C.catnaplaw4_chip_r14_b, ↓C.catnaplaw4_chip_c56_w, ↓C.catnaplaw4_chip_r13_w, C.catnaplaw4_chip_r13_b, ↓C.catnaplaw4_chip_b57_w, ↓C.catnaplaw4_chip_c58_w, ↓C.catnaplaw4_chip_c59_w, ↓C.catnaplaw4_chip_r11_w, C.catnaplaw4_chip_r11_b, ↓C.catnaplaw4_chip_b61_w, ↓C.catnaplaw4_chip_c62_w, ↓C.catnaplaw4_chip_r10_w, C.catnaplaw4_chip_r10_b, ↓C.catnaplaw4_chip_c63_w, ↓C.catnaplaw4_chip_r9_w, C.catnaplaw4_chip_r9_b, ↓C.catnaplaw4_chip_c64_w, ↓C.catnaplaw4_chip_r8_w, C.catnaplaw4_chip_r8_b, ↓C.catnaplaw4_chip_c65_w, ↓C.catnaplaw4_chip_r7_w, C.catnaplaw4_chip_r7_b, ↓C.catnaplaw4_chip_c66_w, ↓C.catnaplaw4_chip_r5_w, C.catnaplaw4_chip_r5_b, ↓C.catnaplaw4_chip_c67_w, ↓C.catnaplaw4_chip_r6_w, C.catnaplaw4_chip_r6_b, ↓C.catnaplaw4_chip_b68_w, ↓C.catnaplaw4_chip_c69_w, ↓C.catnaplaw4_chip_c70_w, ↓C.catnaplaw4_chip_r4_w, C.catnaplaw4_chip_r4_b, ↓C.catnaplaw4_chip_b72_w, ↓C.catnaplaw4_chip_c73_w, ↓C.catnaplaw4_chip_r3_w, C.catnaplaw4_chip_r3_b, ↓C.catnaplaw4_chip_c74_w, ↓C.catnaplaw4_chip_r2_w, C.catnaplaw4_chip_r2_b, ↓C.catnaplaw4_chip_c75_w, ↓C.catnaplaw4_chip_r1_w, C.catnaplaw4_chip_r1_b, ↓C.catnaplaw4_chip_c76_w, ↓C.catnaplaw4_chip_r0_w, C.catnaplaw4_chip_r0_b, C.catnaplaw4_chip]
  refine awp_midB (fun _ : Unit => [(2, .ptr ir 0), (4, .sl 1 idr 0 120), (6, .ptr ib 0)]) (fun _ s => Box s0 s ib (Soc.mk cl ((List.range (nDom f)).map (chDom f)) [] []).cells) ?_ (fun _ s h => chip_c31 H hC (by simp) h)
  refine awp_loopK (fun i : Nat => [(2, .ptr ir 0), (4, .sl 1 idr 0 120), (6, .ptr ib 0), (11, .int .i64 i)]) (fun i s => i ≤ nDom f ∧ Box s0 s ib (Soc.mk cl ((List.range i).map (chDom f)) [] []).cells) (fun i => nDom f - i) 0 rfl ⟨Nat.zero_le _, h⟩ ?_
  rintro i s ⟨hi, hB⟩
  have hd := hB.base _ _ H.d
  have t4 : ∀ a : Nat, (a : Int).tmod 4 = ((a % 4 : Nat) : Int) := fun a => nat_tmod a 4
  have wn : IntKind.i64.wrap (1 + ((f 2 % 4 : Nat) : Int)) = ((nDom f : Nat) : Int) := by unfold nDom; rw [wrap64] <;> omega
  have hz : (0 : Int) ≤ 2 ∧ (2 : Int) < ((120 : Nat) : Int) := by omega
  by_cases hil : i < nDom f
  rotate_left
  · have hie : i = nDom f := by omega
    have hil' : ¬ (i : Int) < ((nDom f : Nat) : Int) := by omega
    simp only [↓Bp, Bq, Bs, ↓aop.eq_28, ↓aop.eq_30, Nat.reduceEqDiff, Nat.reduceAdd, Nat.reduceMul, Nat.reduceSub, Nat.reduceLeDiff, Nat.reduceLT, Int.reduceLT, Int.reduceLE, Int.reduceEq, Int.reduceToNat, Int.reduceAdd, Int.reduceSub, Int.reduceNeg, ↓reduceIte, reduceCtorEq, ↓C.catnaplaw4_chip_W, C.catnaplaw4_chip_B, C.catnaplaw4_chip, hd, hz, dl_get f (show 2 < 120 by omega), t4, wn, hil']
    rw [← hie]
    exact ⟨(), hB⟩
  have hil' : (i : Int) < ((nDom f : Nat) : Int) := by omega
  simp only [↓Bp, Bq, Bs, ↓aop.eq_28, ↓aop.eq_30, Nat.reduceEqDiff, Nat.reduceAdd, Nat.reduceMul, Nat.reduceSub, Nat.reduceLeDiff, Nat.reduceLT, Int.reduceLT, Int.reduceLE, Int.reduceEq, Int.reduceToNat, Int.reduceAdd, Int.reduceSub, Int.reduceNeg, ↓reduceIte, reduceCtorEq, ↓C.catnaplaw4_chip_r50_w, C.catnaplaw4_chip_r50_b, ↓C.catnaplaw4_chip_c1_w, ↓C.catnaplaw4_chip_r38_w, C.catnaplaw4_chip_r38_b, ↓C.catnaplaw4_chip_c2_w, ↓C.catnaplaw4_chip_r49_w, C.catnaplaw4_chip_r49_b, ↓C.catnaplaw4_chip_c3_w, ↓C.catnaplaw4_chip_r48_w, C.catnaplaw4_chip_r48_b, ↓C.catnaplaw4_chip_c4_w, ↓C.catnaplaw4_chip_r47_w, C.catnaplaw4_chip_r47_b, ↓C.catnaplaw4_chip_c5_w, ↓C.catnaplaw4_chip_r46_w, C.catnaplaw4_chip_r46_b, ↓C.catnaplaw4_chip_c6_w, ↓C.catnaplaw4_chip_r45_w, C.catnaplaw4_chip_r45_b, ↓C.catnaplaw4_chip_c7_w, ↓C.catnaplaw4_chip_r43_w, C.catnaplaw4_chip_r43_b, ↓C.catnaplaw4_chip_c8_w, ↓C.catnaplaw4_chip_r44_w, C.catnaplaw4_chip_r44_b, ↓C.catnaplaw4_chip_b9_w, ↓C.catnaplaw4_chip_c10_w, ↓C.catnaplaw4_chip_c11_w, ↓C.catnaplaw4_chip_r42_w, C.catnaplaw4_chip_r42_b, ↓C.catnaplaw4_chip_b13_w, ↓C.catnaplaw4_chip_c14_w, ↓C.catnaplaw4_chip_r41_w, C.catnaplaw4_chip_r41_b, ↓C.catnaplaw4_chip_c15_w, ↓C.catnaplaw4_chip_r40_w, C.catnaplaw4_chip_r40_b, ↓C.catnaplaw4_chip_c16_w, ↓C.catnaplaw4_chip_r39_w, C.catnaplaw4_chip_r39_b, ↓C.catnaplaw4_chip_b17_w, ↓C.catnaplaw4_chip_c18_w, ↓C.catnaplaw4_chip_c19_w, ↓C.catnaplaw4_chip_r37_w, C.catnaplaw4_chip_r37_b, ↓C.catnaplaw4_chip_b21_w, ↓C.catnaplaw4_chip_c22_w, ↓C.catnaplaw4_chip_r36_w, C.catnaplaw4_chip_r36_b, ↓C.catnaplaw4_chip_c23_w, ↓C.catnaplaw4_chip_r34_w, C.catnaplaw4_chip_r34_b, ↓C.catnaplaw4_chip_c24_w, ↓C.catnaplaw4_chip_r35_w, C.catnaplaw4_chip_r35_b, ↓C.catnaplaw4_chip_b25_w, ↓C.catnaplaw4_chip_c26_w, ↓C.catnaplaw4_chip_c27_w, ↓C.catnaplaw4_chip_r33_w, C.catnaplaw4_chip_r33_b, ↓C.catnaplaw4_chip_b29_w, ↓C.catnaplaw4_chip_c30_w, ↓C.catnaplaw4_chip_r32_w, C.catnaplaw4_chip_r32_b, ↓C.catnaplaw4_chip_c31_w, ↓C.catnaplaw4_chip_c38_w, ↓C.catnaplaw4_chip_r26_w, C.catnaplaw4_chip_r26_b, ↓C.catnaplaw4_chip_b40_w, ↓C.catnaplaw4_chip_c41_w, ↓C.catnaplaw4_chip_r25_w, C.catnaplaw4_chip_r25_b, ↓C.catnaplaw4_chip_c42_w, ↓C.catnaplaw4_chip_r12_w, C.catnaplaw4_chip_r12_b, ↓C.catnaplaw4_chip_c43_w, ↓C.catnaplaw4_chip_r24_w, C.catnaplaw4_chip_r24_b, ↓C.catnaplaw4_chip_c44_w, ↓C.catnaplaw4_chip_r19_w, C.catnaplaw4_chip_r19_b, ↓C.catnaplaw4_chip_c45_w, ↓C.catnaplaw4_chip_r18_w, C.catnaplaw4_chip_r18_b, ↓C.catnaplaw4_chip_c46_w, ↓C.catnaplaw4_chip_r17_w, C.catnaplaw4_chip_r17_b, ↓C.catnaplaw4_chip_r21_w, C.catnaplaw4_chip_r21_b, ↓C.catnaplaw4_chip_r23_w, C.catnaplaw4_chip_r23_b, ↓C.catnaplaw4_chip_c47_w, ↓C.catnaplaw4_chip_r22_w, C.catnaplaw4_chip_r22_b, ↓C.catnaplaw4_chip_c48_w, ↓C.catnaplaw4_chip_c49_w, ↓C.catnaplaw4_chip_r20_w, C.catnaplaw4_chip_r20_b, ↓C.catnaplaw4_chip_c50_w, ↓C.catnaplaw4_chip_c51_w, ↓C.catnaplaw4_chip_c52_w, ↓C.catnaplaw4_chip_r16_w, C.catnaplaw4_chip_r16_b, ↓C.catnaplaw4_chip_b53_w, ↓C.catnaplaw4_chip_c54_w, ↓C.catnaplaw4_chip_r15_w, C.catnaplaw4_chip_r15_b, ↓C.catnaplaw4_chip_c55_w, ↓C.catnaplaw4_chip_r14_w, C.catnaplaw4_chip_r14_b, ↓C.catnaplaw4_chip_c56_w, ↓C.catnaplaw4_chip_r13_w, C.catnaplaw4_chip_r13_b, ↓C.catnaplaw4_chip_b57_w, ↓C.catnaplaw4_chip_c58_w, ↓C.catnaplaw4_chip_c59_w, ↓C.catnaplaw4_chip_r11_w, C.catnaplaw4_chip_r11_b, ↓C.catnaplaw4_chip_b61_w, ↓C.catnaplaw4_chip_c62_w, ↓C.catnaplaw4_chip_r10_w, C.catnaplaw4_chip_r10_b, ↓C.catnaplaw4_chip_c63_w, ↓C.catnaplaw4_chip_r9_w, C.catnaplaw4_chip_r9_b, ↓C.catnaplaw4_chip_c64_w, ↓C.catnaplaw4_chip_r8_w, C.catnaplaw4_chip_r8_b, ↓C.catnaplaw4_chip_c65_w, ↓C.catnaplaw4_chip_r7_w, C.catnaplaw4_chip_r7_b, ↓C.catnaplaw4_chip_c66_w, ↓C.catnaplaw4_chip_r5_w, C.catnaplaw4_chip_r5_b, ↓C.catnaplaw4_chip_c67_w, ↓C.catnaplaw4_chip_r6_w, C.catnaplaw4_chip_r6_b, ↓C.catnaplaw4_chip_b68_w, ↓C.catnaplaw4_chip_c69_w, ↓C.catnaplaw4_chip_c70_w, ↓C.catnaplaw4_chip_r4_w, C.catnaplaw4_chip_r4_b, ↓C.catnaplaw4_chip_b72_w, ↓C.catnaplaw4_chip_c73_w, ↓C.catnaplaw4_chip_r3_w, C.catnaplaw4_chip_r3_b, ↓C.catnaplaw4_chip_c74_w, ↓C.catnaplaw4_chip_r2_w, C.catnaplaw4_chip_r2_b, ↓C.catnaplaw4_chip_c75_w, ↓C.catnaplaw4_chip_r1_w, C.catnaplaw4_chip_r1_b, ↓C.catnaplaw4_chip_c76_w, ↓C.catnaplaw4_chip_r0_w, C.catnaplaw4_chip_r0_b, C.catnaplaw4_chip, hd, hz, dl_get f (show 2 < 120 by omega), t4, wn, hil']
  rw [C.catnaplaw4_chip_c37_w, awp_keep]
  exact chip_dom H hil hB fun s2 hB2 fr hfr => ⟨i + 1, hfr, ⟨hil, hB2⟩, by omega⟩

theorem chip_clk (H : ChipH st s0 ir idr f) {i : Nat} (hi : i < f 1 % 9) (h : Box s0 s ib (Soc.mk ((List.range (i + 1)).map (chClk f)) [] [] []).cells) {Q : IExit → AFr → ASt → Prop}
    (hQ : ∀ s2, Box s0 s2 ib (Soc.mk ((List.range (i + 1 + 1)).map (chClk f)) [] [] []).cells → ∀ fr, fr.keep [2, 3, 4, 6, 7, 8] = [(2, .ptr ir 0), (3, .int .i64 1), (4, .sl 1 idr 0 120), (6, .ptr ib 0), (7, .str [112, 100, 103, 109, 103]), (8, .int .i64 ((i + 1 : Nat) : Int))] → Q .normal fr s2) :
    awp Try.prog C.catnaplaw4_chip_c58 Q [(2, .ptr ir 0), (3, .int .i64 1), (4, .sl 1 idr 0 120), (6, .ptr ib 0), (7, .str [112, 100, 103, 109, 103]), (8, .int .i64 i)] s := by
  have hi4 : i < 8 := by omega
  have wi : IntKind.i64.wrap ((i : Int) + 1) = ((i + 1 : Nat) : Int) := wsucc hi4 (by omega)
  have w3i : IntKind.i64.wrap (3 * (i : Int)) = ((3 * i : Nat) : Int) := by rw [wrap64] <;> omega
  have w10 : IntKind.i64.wrap (10 + ((3 * i : Nat) : Int)) = ((10 + 3 * i : Nat) : Int) := by rw [wrap64] <;> omega
  simp only [↓Bp, Bq, Bs, ↓aop.eq_28, ↓aop.eq_30, Nat.reduceEqDiff, Nat.reduceAdd, Nat.reduceMul, Nat.reduceSub, Nat.reduceLeDiff, Nat.reduceLT, Int.reduceLT, Int.reduceLE, Int.reduceEq, Int.reduceToNat, Int.reduceAdd, Int.reduceSub, Int.reduceNeg, ↓reduceIte, reduceCtorEq, ↓C.catnaplaw4_chip_r50_w, C.catnaplaw4_chip_r50_b, ↓C.catnaplaw4_chip_c1_w, ↓C.catnaplaw4_chip_r38_w, C.catnaplaw4_chip_r38_b, ↓C.catnaplaw4_chip_c2_w, ↓C.catnaplaw4_chip_r49_w, C.catnaplaw4_chip_r49_b, ↓C.catnaplaw4_chip_c3_w, ↓C.catnaplaw4_chip_r48_w, C.catnaplaw4_chip_r48_b, ↓C.catnaplaw4_chip_c4_w, ↓C.catnaplaw4_chip_r47_w, C.catnaplaw4_chip_r47_b, ↓C.catnaplaw4_chip_c5_w, ↓C.catnaplaw4_chip_r46_w, C.catnaplaw4_chip_r46_b, ↓C.catnaplaw4_chip_c6_w, ↓C.catnaplaw4_chip_r45_w, C.catnaplaw4_chip_r45_b, ↓C.catnaplaw4_chip_c7_w, ↓C.catnaplaw4_chip_r43_w, C.catnaplaw4_chip_r43_b, ↓C.catnaplaw4_chip_c8_w, ↓C.catnaplaw4_chip_r44_w, C.catnaplaw4_chip_r44_b, ↓C.catnaplaw4_chip_b9_w, ↓C.catnaplaw4_chip_c10_w, ↓C.catnaplaw4_chip_c11_w, ↓C.catnaplaw4_chip_r42_w, C.catnaplaw4_chip_r42_b, ↓C.catnaplaw4_chip_b13_w, ↓C.catnaplaw4_chip_c14_w, ↓C.catnaplaw4_chip_r41_w, C.catnaplaw4_chip_r41_b, ↓C.catnaplaw4_chip_c15_w, ↓C.catnaplaw4_chip_r40_w, C.catnaplaw4_chip_r40_b, ↓C.catnaplaw4_chip_c16_w, ↓C.catnaplaw4_chip_r39_w, C.catnaplaw4_chip_r39_b, ↓C.catnaplaw4_chip_b17_w, ↓C.catnaplaw4_chip_c18_w, ↓C.catnaplaw4_chip_c19_w, ↓C.catnaplaw4_chip_r37_w, C.catnaplaw4_chip_r37_b, ↓C.catnaplaw4_chip_b21_w, ↓C.catnaplaw4_chip_c22_w, ↓C.catnaplaw4_chip_r36_w, C.catnaplaw4_chip_r36_b, ↓C.catnaplaw4_chip_c23_w, ↓C.catnaplaw4_chip_r34_w, C.catnaplaw4_chip_r34_b, ↓C.catnaplaw4_chip_c24_w, ↓C.catnaplaw4_chip_r35_w, C.catnaplaw4_chip_r35_b, ↓C.catnaplaw4_chip_b25_w, ↓C.catnaplaw4_chip_c26_w, ↓C.catnaplaw4_chip_c27_w, ↓C.catnaplaw4_chip_r33_w, C.catnaplaw4_chip_r33_b, ↓C.catnaplaw4_chip_b29_w, ↓C.catnaplaw4_chip_c30_w, ↓C.catnaplaw4_chip_r32_w, C.catnaplaw4_chip_r32_b, ↓C.catnaplaw4_chip_c31_w, ↓C.catnaplaw4_chip_r27_w, C.catnaplaw4_chip_r27_b, ↓C.catnaplaw4_chip_c32_w, ↓C.catnaplaw4_chip_r31_w, C.catnaplaw4_chip_r31_b, ↓C.catnaplaw4_chip_c33_w, ↓C.catnaplaw4_chip_r30_w, C.catnaplaw4_chip_r30_b, ↓C.catnaplaw4_chip_c34_w, ↓C.catnaplaw4_chip_r29_w, C.catnaplaw4_chip_r29_b, ↓C.catnaplaw4_chip_c35_w, ↓C.catnaplaw4_chip_r28_w, C.catnaplaw4_chip_r28_b, ↓C.catnaplaw4_chip_b36_w, ↓C.catnaplaw4_chip_c37_w, ↓C.catnaplaw4_chip_c38_w, ↓C.catnaplaw4_chip_r26_w, C.catnaplaw4_chip_r26_b, ↓C.catnaplaw4_chip_b40_w, ↓C.catnaplaw4_chip_c41_w, ↓C.catnaplaw4_chip_r25_w, C.catnaplaw4_chip_r25_b, ↓C.catnaplaw4_chip_c42_w, ↓C.catnaplaw4_chip_r12_w, C.catnaplaw4_chip_r12_b, ↓C.catnaplaw4_chip_c43_w, ↓C.catnaplaw4_chip_r13_w, C.catnaplaw4_chip_r13_b, ↓C.catnaplaw4_chip_b57_w, ↓C.catnaplaw4_chip_c58_w, ↓C.catnaplaw4_chip_c59_w, ↓C.catnaplaw4_chip_r11_w, C.catnaplaw4_chip_r11_b, ↓C.catnaplaw4_chip_b61_w, ↓C.catnaplaw4_chip_c62_w, ↓C.catnaplaw4_chip_r10_w, C.catnaplaw4_chip_r10_b, ↓C.catnaplaw4_chip_c63_w, ↓C.catnaplaw4_chip_r9_w, C.catnaplaw4_chip_r9_b, ↓C.catnaplaw4_chip_c64_w, ↓C.catnaplaw4_chip_r8_w, C.catnaplaw4_chip_r8_b, ↓C.catnaplaw4_chip_c65_w, ↓C.catnaplaw4_chip_r7_w, C.catnaplaw4_chip_r7_b, ↓C.catnaplaw4_chip_c66_w, ↓C.catnaplaw4_chip_r5_w, C.catnaplaw4_chip_r5_b, ↓C.catnaplaw4_chip_c67_w, ↓C.catnaplaw4_chip_r6_w, C.catnaplaw4_chip_r6_b, ↓C.catnaplaw4_chip_b68_w, ↓C.catnaplaw4_chip_c69_w, ↓C.catnaplaw4_chip_c70_w, ↓C.catnaplaw4_chip_r4_w, C.catnaplaw4_chip_r4_b, ↓C.catnaplaw4_chip_b72_w, ↓C.catnaplaw4_chip_c73_w, ↓C.catnaplaw4_chip_r3_w, C.catnaplaw4_chip_r3_b, ↓C.catnaplaw4_chip_c74_w, ↓C.catnaplaw4_chip_r2_w, C.catnaplaw4_chip_r2_b, ↓C.catnaplaw4_chip_c75_w, ↓C.catnaplaw4_chip_r1_w, C.catnaplaw4_chip_r1_b, ↓C.catnaplaw4_chip_c76_w, ↓C.catnaplaw4_chip_r0_w, C.catnaplaw4_chip_r0_b, C.catnaplaw4_chip, w3i, w10]
  obtain ⟨k, hk⟩ : ∃ k, k = 10 + 3 * i := ⟨_, rfl⟩
  rw [← hk]
  have hd := h.base _ _ H.d
  have hz : ∀ c, c ≤ 2 → (0 : Int) ≤ ((k + c : Nat) : Int) ∧ ((k + c : Nat) : Int) < ((120 : Nat) : Int) := fun c hc => by omega
  have hz0 : (0 : Int) ≤ ((k : Nat) : Int) ∧ ((k : Nat) : Int) < ((120 : Nat) : Int) := by omega
  have hg : ∀ c, c ≤ 2 → (ints (dl f 120))[k + c]? = some (.int .i64 (f (k + c) : Int)) := fun c hc => dl_get f (by omega)
  have hg0 : (ints (dl f 120))[k]? = some (.int .i64 (f k : Int)) := dl_get f (by omega)
  have w1 : IntKind.i64.wrap ((k : Int) + 1) = ((k + 1 : Nat) : Int) := by rw [wrap64] <;> omega
  have w2 : IntKind.i64.wrap ((k : Int) + 2) = ((k + 2 : Nat) : Int) := by rw [wrap64] <;> omega
  have t5 : ∀ a : Nat, (a : Int).tmod 5 = ((a % 5 : Nat) : Int) := fun a => nat_tmod a 5
  have t8 : ∀ a : Nat, (a : Int).tmod 8 = ((a % 8 : Nat) : Int) := fun a => nat_tmod a 8
  have t4 : ∀ a : Nat, (a : Int).tmod 4 = ((a % 4 : Nat) : Int) := fun a => nat_tmod a 4
  have q8 : ∀ x, IntKind.i64.wrap (((f x : Nat) : Int).tdiv 8) = ((f x / 8 : Nat) : Int) := fun x => by
    have := H.lt x
    rw [show ((f x : Nat) : Int).tdiv 8 = ((f x / 8 : Nat) : Int) from nat_tdiv _ 8, wrap64] <;> omega
  have q32 : ∀ x, IntKind.i64.wrap (((f x : Nat) : Int).tdiv 32) = ((f x / 32 : Nat) : Int) := fun x => by
    have := H.lt x
    rw [show ((f x : Nat) : Int).tdiv 32 = ((f x / 32 : Nat) : Int) from nat_tdiv _ 32, wrap64] <;> omega
  have p8 : ∀ x : Nat, IntKind.i64.wrap (1 + ((x % 8 : Nat) : Int)) = 1 + ((x % 8 : Nat) : Int) := fun x => by rw [wrap64] <;> omega
  have p4 : ∀ x : Nat, IntKind.i64.wrap (1 + ((x % 4 : Nat) : Int)) = 1 + ((x % 4 : Nat) : Int) := fun x => by rw [wrap64] <;> omega
  obtain ⟨vs, L, hB⟩ := h
  have hvl := hB.2.1.len
  have h0l : 0 < vs.length := by rw [← hvl]; exact (by decide : 0 < 4)
  obtain ⟨a0, e0, l0⟩ := hB.2.1.slen (o := 0) rfl
  have l0 : a0.slen = some (i + 1) := by rw [l0]; simp
  have n0 : ¬ ((i + 1 : Nat) : Int) = 0 := by omega
  have hstr : ([112, 100, 103, 109, 103] : List Nat)[f k % 5]? = some (kindN (f k % 5)).toNat := by
    have : f k % 5 < 5 := by omega
    rcases (show f k % 5 = 0 ∨ f k % 5 = 1 ∨ f k % 5 = 2 ∨ f k % 5 = 3 ∨ f k % 5 = 4 by omega) with e | e | e | e | e <;> rw [e] <;> rfl
  have hkn : (((kindN (f k % 5)).toNat : Nat) : Int) = kindN (f k % 5) := by
    rcases (show f k % 5 = 0 ∨ f k % 5 = 1 ∨ f k % 5 = 2 ∨ f k % 5 = 3 ∨ f k % 5 = 4 by omega) with e | e | e | e | e <;> rw [e] <;> rfl
  have hp5 : (0 : Int) ≤ ((f k % 5 : Nat) : Int) := by omega
  simp only [↓Bp, Bq, Bs, ↓aop.eq_28, ↓aop.eq_30, Nat.reduceEqDiff, Nat.reduceAdd, Nat.reduceMul, Nat.reduceSub, Nat.reduceLeDiff, Nat.reduceLT, Int.reduceLT, Int.reduceLE, Int.reduceEq, Int.reduceToNat, Int.reduceAdd, Int.reduceSub, Int.reduceNeg, ↓reduceIte, reduceCtorEq, ↓C.catnaplaw4_chip_r50_w, C.catnaplaw4_chip_r50_b, ↓C.catnaplaw4_chip_c1_w, ↓C.catnaplaw4_chip_r38_w, C.catnaplaw4_chip_r38_b, ↓C.catnaplaw4_chip_c2_w, ↓C.catnaplaw4_chip_r49_w, C.catnaplaw4_chip_r49_b, ↓C.catnaplaw4_chip_c3_w, ↓C.catnaplaw4_chip_r48_w, C.catnaplaw4_chip_r48_b, ↓C.catnaplaw4_chip_c4_w, ↓C.catnaplaw4_chip_r47_w, C.catnaplaw4_chip_r47_b, ↓C.catnaplaw4_chip_c5_w, ↓C.catnaplaw4_chip_r46_w, C.catnaplaw4_chip_r46_b, ↓C.catnaplaw4_chip_c6_w, ↓C.catnaplaw4_chip_r45_w, C.catnaplaw4_chip_r45_b, ↓C.catnaplaw4_chip_c7_w, ↓C.catnaplaw4_chip_r43_w, C.catnaplaw4_chip_r43_b, ↓C.catnaplaw4_chip_c8_w, ↓C.catnaplaw4_chip_r44_w, C.catnaplaw4_chip_r44_b, ↓C.catnaplaw4_chip_b9_w, ↓C.catnaplaw4_chip_c10_w, ↓C.catnaplaw4_chip_c11_w, ↓C.catnaplaw4_chip_r42_w, C.catnaplaw4_chip_r42_b, ↓C.catnaplaw4_chip_b13_w, ↓C.catnaplaw4_chip_c14_w, ↓C.catnaplaw4_chip_r41_w, C.catnaplaw4_chip_r41_b, ↓C.catnaplaw4_chip_c15_w, ↓C.catnaplaw4_chip_r40_w, C.catnaplaw4_chip_r40_b, ↓C.catnaplaw4_chip_c16_w, ↓C.catnaplaw4_chip_r39_w, C.catnaplaw4_chip_r39_b, ↓C.catnaplaw4_chip_b17_w, ↓C.catnaplaw4_chip_c18_w, ↓C.catnaplaw4_chip_c19_w, ↓C.catnaplaw4_chip_r37_w, C.catnaplaw4_chip_r37_b, ↓C.catnaplaw4_chip_b21_w, ↓C.catnaplaw4_chip_c22_w, ↓C.catnaplaw4_chip_r36_w, C.catnaplaw4_chip_r36_b, ↓C.catnaplaw4_chip_c23_w, ↓C.catnaplaw4_chip_r34_w, C.catnaplaw4_chip_r34_b, ↓C.catnaplaw4_chip_c24_w, ↓C.catnaplaw4_chip_r35_w, C.catnaplaw4_chip_r35_b, ↓C.catnaplaw4_chip_b25_w, ↓C.catnaplaw4_chip_c26_w, ↓C.catnaplaw4_chip_c27_w, ↓C.catnaplaw4_chip_r33_w, C.catnaplaw4_chip_r33_b, ↓C.catnaplaw4_chip_b29_w, ↓C.catnaplaw4_chip_c30_w, ↓C.catnaplaw4_chip_r32_w, C.catnaplaw4_chip_r32_b, ↓C.catnaplaw4_chip_c31_w, ↓C.catnaplaw4_chip_r27_w, C.catnaplaw4_chip_r27_b, ↓C.catnaplaw4_chip_c32_w, ↓C.catnaplaw4_chip_r31_w, C.catnaplaw4_chip_r31_b, ↓C.catnaplaw4_chip_c33_w, ↓C.catnaplaw4_chip_r30_w, C.catnaplaw4_chip_r30_b, ↓C.catnaplaw4_chip_c34_w, ↓C.catnaplaw4_chip_r29_w, C.catnaplaw4_chip_r29_b, ↓C.catnaplaw4_chip_c35_w, ↓C.catnaplaw4_chip_r28_w, C.catnaplaw4_chip_r28_b, ↓C.catnaplaw4_chip_b36_w, ↓C.catnaplaw4_chip_c37_w, ↓C.catnaplaw4_chip_c38_w, ↓C.catnaplaw4_chip_r26_w, C.catnaplaw4_chip_r26_b, ↓C.catnaplaw4_chip_b40_w, ↓C.catnaplaw4_chip_c41_w, ↓C.catnaplaw4_chip_r25_w, C.catnaplaw4_chip_r25_b, ↓C.catnaplaw4_chip_c42_w, ↓C.catnaplaw4_chip_r12_w, C.catnaplaw4_chip_r12_b, ↓C.catnaplaw4_chip_c43_w, ↓C.catnaplaw4_chip_r14_w, C.catnaplaw4_chip_r14_b, ↓C.catnaplaw4_chip_c56_w, ↓C.catnaplaw4_chip_r13_w, C.catnaplaw4_chip_r13_b, ↓C.catnaplaw4_chip_b57_w, ↓C.catnaplaw4_chip_c58_w, ↓C.catnaplaw4_chip_c59_w, ↓C.catnaplaw4_chip_r11_w, C.catnaplaw4_chip_r11_b, ↓C.catnaplaw4_chip_b61_w, ↓C.catnaplaw4_chip_c62_w, ↓C.catnaplaw4_chip_r10_w, C.catnaplaw4_chip_r10_b, ↓C.catnaplaw4_chip_c63_w, ↓C.catnaplaw4_chip_r9_w, C.catnaplaw4_chip_r9_b, ↓C.catnaplaw4_chip_c64_w, ↓C.catnaplaw4_chip_r8_w, C.catnaplaw4_chip_r8_b, ↓C.catnaplaw4_chip_c65_w, ↓C.catnaplaw4_chip_r7_w, C.catnaplaw4_chip_r7_b, ↓C.catnaplaw4_chip_c66_w, ↓C.catnaplaw4_chip_r5_w, C.catnaplaw4_chip_r5_b, ↓C.catnaplaw4_chip_c67_w, ↓C.catnaplaw4_chip_r6_w, C.catnaplaw4_chip_r6_b, ↓C.catnaplaw4_chip_b68_w, ↓C.catnaplaw4_chip_c69_w, ↓C.catnaplaw4_chip_c70_w, ↓C.catnaplaw4_chip_r4_w, C.catnaplaw4_chip_r4_b, ↓C.catnaplaw4_chip_b72_w, ↓C.catnaplaw4_chip_c73_w, ↓C.catnaplaw4_chip_r3_w, C.catnaplaw4_chip_r3_b, ↓C.catnaplaw4_chip_c74_w, ↓C.catnaplaw4_chip_r2_w, C.catnaplaw4_chip_r2_b, ↓C.catnaplaw4_chip_c75_w, ↓C.catnaplaw4_chip_r1_w, C.catnaplaw4_chip_r1_b, ↓C.catnaplaw4_chip_c76_w, ↓C.catnaplaw4_chip_r0_w, C.catnaplaw4_chip_r0_b, C.catnaplaw4_chip, hd, hz0, hz 1, Int.toNat_natCast, Nat.mul_one, hg0, hg 1, t5, w1, hB.1, e0, l0, n0, nat_tmod, hstr, hp5, hkn]
  rintro ix hix i6 ⟨hi6, hne⟩
  simp only [↓Bp, Bq, Bs, ↓aop.eq_28, ↓aop.eq_30, Nat.reduceEqDiff, Nat.reduceAdd, Nat.reduceMul, Nat.reduceSub, Nat.reduceLeDiff, Nat.reduceLT, Int.reduceLT, Int.reduceLE, Int.reduceEq, Int.reduceToNat, Int.reduceAdd, Int.reduceSub, Int.reduceNeg, ↓reduceIte, reduceCtorEq, ↓C.catnaplaw4_chip_r50_w, C.catnaplaw4_chip_r50_b, ↓C.catnaplaw4_chip_c1_w, ↓C.catnaplaw4_chip_r38_w, C.catnaplaw4_chip_r38_b, ↓C.catnaplaw4_chip_c2_w, ↓C.catnaplaw4_chip_r49_w, C.catnaplaw4_chip_r49_b, ↓C.catnaplaw4_chip_c3_w, ↓C.catnaplaw4_chip_r48_w, C.catnaplaw4_chip_r48_b, ↓C.catnaplaw4_chip_c4_w, ↓C.catnaplaw4_chip_r47_w, C.catnaplaw4_chip_r47_b, ↓C.catnaplaw4_chip_c5_w, ↓C.catnaplaw4_chip_r46_w, C.catnaplaw4_chip_r46_b, ↓C.catnaplaw4_chip_c6_w, ↓C.catnaplaw4_chip_r45_w, C.catnaplaw4_chip_r45_b, ↓C.catnaplaw4_chip_c7_w, ↓C.catnaplaw4_chip_r43_w, C.catnaplaw4_chip_r43_b, ↓C.catnaplaw4_chip_c8_w, ↓C.catnaplaw4_chip_r44_w, C.catnaplaw4_chip_r44_b, ↓C.catnaplaw4_chip_b9_w, ↓C.catnaplaw4_chip_c10_w, ↓C.catnaplaw4_chip_c11_w, ↓C.catnaplaw4_chip_r42_w, C.catnaplaw4_chip_r42_b, ↓C.catnaplaw4_chip_b13_w, ↓C.catnaplaw4_chip_c14_w, ↓C.catnaplaw4_chip_r41_w, C.catnaplaw4_chip_r41_b, ↓C.catnaplaw4_chip_c15_w, ↓C.catnaplaw4_chip_r40_w, C.catnaplaw4_chip_r40_b, ↓C.catnaplaw4_chip_c16_w, ↓C.catnaplaw4_chip_r39_w, C.catnaplaw4_chip_r39_b, ↓C.catnaplaw4_chip_b17_w, ↓C.catnaplaw4_chip_c18_w, ↓C.catnaplaw4_chip_c19_w, ↓C.catnaplaw4_chip_r37_w, C.catnaplaw4_chip_r37_b, ↓C.catnaplaw4_chip_b21_w, ↓C.catnaplaw4_chip_c22_w, ↓C.catnaplaw4_chip_r36_w, C.catnaplaw4_chip_r36_b, ↓C.catnaplaw4_chip_c23_w, ↓C.catnaplaw4_chip_r34_w, C.catnaplaw4_chip_r34_b, ↓C.catnaplaw4_chip_c24_w, ↓C.catnaplaw4_chip_r35_w, C.catnaplaw4_chip_r35_b, ↓C.catnaplaw4_chip_b25_w, ↓C.catnaplaw4_chip_c26_w, ↓C.catnaplaw4_chip_c27_w, ↓C.catnaplaw4_chip_r33_w, C.catnaplaw4_chip_r33_b, ↓C.catnaplaw4_chip_b29_w, ↓C.catnaplaw4_chip_c30_w, ↓C.catnaplaw4_chip_r32_w, C.catnaplaw4_chip_r32_b, ↓C.catnaplaw4_chip_c31_w, ↓C.catnaplaw4_chip_r27_w, C.catnaplaw4_chip_r27_b, ↓C.catnaplaw4_chip_c32_w, ↓C.catnaplaw4_chip_r31_w, C.catnaplaw4_chip_r31_b, ↓C.catnaplaw4_chip_c33_w, ↓C.catnaplaw4_chip_r30_w, C.catnaplaw4_chip_r30_b, ↓C.catnaplaw4_chip_c34_w, ↓C.catnaplaw4_chip_r29_w, C.catnaplaw4_chip_r29_b, ↓C.catnaplaw4_chip_c35_w, ↓C.catnaplaw4_chip_r28_w, C.catnaplaw4_chip_r28_b, ↓C.catnaplaw4_chip_b36_w, ↓C.catnaplaw4_chip_c37_w, ↓C.catnaplaw4_chip_c38_w, ↓C.catnaplaw4_chip_r26_w, C.catnaplaw4_chip_r26_b, ↓C.catnaplaw4_chip_b40_w, ↓C.catnaplaw4_chip_c41_w, ↓C.catnaplaw4_chip_r25_w, C.catnaplaw4_chip_r25_b, ↓C.catnaplaw4_chip_c42_w, ↓C.catnaplaw4_chip_r12_w, C.catnaplaw4_chip_r12_b, ↓C.catnaplaw4_chip_c43_w, ↓C.catnaplaw4_chip_r14_w, C.catnaplaw4_chip_r14_b, ↓C.catnaplaw4_chip_c56_w, ↓C.catnaplaw4_chip_r13_w, C.catnaplaw4_chip_r13_b, ↓C.catnaplaw4_chip_b57_w, ↓C.catnaplaw4_chip_c58_w, ↓C.catnaplaw4_chip_c59_w, ↓C.catnaplaw4_chip_r11_w, C.catnaplaw4_chip_r11_b, ↓C.catnaplaw4_chip_b61_w, ↓C.catnaplaw4_chip_c62_w, ↓C.catnaplaw4_chip_r10_w, C.catnaplaw4_chip_r10_b, ↓C.catnaplaw4_chip_c63_w, ↓C.catnaplaw4_chip_r9_w, C.catnaplaw4_chip_r9_b, ↓C.catnaplaw4_chip_c64_w, ↓C.catnaplaw4_chip_r8_w, C.catnaplaw4_chip_r8_b, ↓C.catnaplaw4_chip_c65_w, ↓C.catnaplaw4_chip_r7_w, C.catnaplaw4_chip_r7_b, ↓C.catnaplaw4_chip_c66_w, ↓C.catnaplaw4_chip_r5_w, C.catnaplaw4_chip_r5_b, ↓C.catnaplaw4_chip_c67_w, ↓C.catnaplaw4_chip_r6_w, C.catnaplaw4_chip_r6_b, ↓C.catnaplaw4_chip_b68_w, ↓C.catnaplaw4_chip_c69_w, ↓C.catnaplaw4_chip_c70_w, ↓C.catnaplaw4_chip_r4_w, C.catnaplaw4_chip_r4_b, ↓C.catnaplaw4_chip_b72_w, ↓C.catnaplaw4_chip_c73_w, ↓C.catnaplaw4_chip_r3_w, C.catnaplaw4_chip_r3_b, ↓C.catnaplaw4_chip_c74_w, ↓C.catnaplaw4_chip_r2_w, C.catnaplaw4_chip_r2_b, ↓C.catnaplaw4_chip_c75_w, ↓C.catnaplaw4_chip_r1_w, C.catnaplaw4_chip_r1_b, ↓C.catnaplaw4_chip_c76_w, ↓C.catnaplaw4_chip_r0_w, C.catnaplaw4_chip_r0_b, C.catnaplaw4_chip, hi6, hne, allLeaf, AV.leaf]
  have hi6' : (s.new ix (AObj.cells [AV.int .i64 ((f (k + 1) % (i + 1) : Nat) : Int)])).h i6 = none := by rw [ASt.new_none]; exact ⟨hi6, hne⟩
  rw [ASt.new_set hi6']
  have hle : s.le ((s.new ix (AObj.cells [AV.int .i64 ((f (k + 1) % (i + 1) : Nat) : Int)])).new i6 (AObj.cells [AV.int .u8 (kindN (f k % 5)), AV.sl 1 ix 0 1, AV.int .u64 0, AV.int .i64 0, AV.int .i64 0, AV.int .i64 0])) := (ASt.le.new _ _ _).trans (ASt.le.new _ _ _)
  have h6 := ASt.new_self (AObj.cells [AV.int .u8 (kindN (f k % 5)), AV.sl 1 ix 0 1, AV.int .u64 0, AV.int .i64 0, AV.int .i64 0, AV.int .i64 0]) hi6'
  have hxx := ASt.new_old (id := i6) (o := AObj.cells [AV.int .u8 (kindN (f k % 5)), AV.sl 1 ix 0 1, AV.int .u64 0, AV.int .i64 0, AV.int .i64 0, AV.int .i64 0]) (ASt.new_self (st := s) (AObj.cells [AV.int .i64 ((f (k + 1) % (i + 1) : Nat) : Int)]) hix)
  generalize (s.new ix (AObj.cells [AV.int .i64 ((f (k + 1) % (i + 1) : Nat) : Int)])).new i6 (AObj.cells [AV.int .u8 (kindN (f k % 5)), AV.sl 1 ix 0 1, AV.int .u64 0, AV.int .i64 0, AV.int .i64 0, AV.int .i64 0]) = sx at hle h6 hxx
  have hdx := hle _ _ hd
  have hne2 : ¬ ix = i6 := fun e => hne e.symm
  have hid6 : ¬ idr = i6 := by rintro rfl; rw [hi6] at hd; cases hd
  have bx : ∀ (t : ASt) (m d l : Int), s.le t → t.h i6 = some (.cells [AV.int .u8 (kindN (f k % 5)), AV.sl 1 ix 0 1, AV.int .u64 0, AV.int .i64 m, AV.int .i64 d, AV.int .i64 l]) → t.h ix = some (.cells [AV.int .i64 ((f (k + 1) % (i + 1) : Nat) : Int)]) →
      Box s t i6 (Clk.cells ⟨kindN (f k % 5), [((f (k + 1) % (i + 1) : Nat) : Int)], 0, m, d, l⟩) := by
    intro t m d l h1 h2 h3
    refine ⟨_, [ix], h2, .one rfl (.sl (L1 := []) (L2 := []) h3 (RepL.scalars rfl _) (by simp) (by simp) (by simp) (RepL.scalars rfl _)), by simpa using hne, by simpa using hix, hi6, h1⟩
  have hset : ∀ {t : ASt} (o : AObj), s.le t → s.le (t.set i6 o) := fun {t} o ht j x hj => by
    rw [ASt.set_h, if_neg (by rintro rfl; rw [hi6] at hj; cases hj)]
    exact ht _ _ hj
  rw [C.catnaplaw4_chip_c55_w, awp_keep, awp_seq]
  refine awp_mid (fun _ : Unit => [(2, .ptr ir 0), (3, .int .i64 1), (4, .sl 1 idr 0 120), (6, .ptr ib 0), (7, .str [112, 100, 103, 109, 103]), (8, .int .i64 i), (10, .ptr i6 0)]) (fun _ t => Box s t i6 (chClk f (i + 1)).cells) ?_ ?_
  · rcases (show f k % 5 = 0 ∨ f k % 5 = 1 ∨ f k % 5 = 2 ∨ f k % 5 = 3 ∨ f k % 5 = 4 by omega) with e | e | e | e | e <;> rw [e] at bx h6
    · have hck : chClk f (i + 1) = ⟨kindN 0, [((f (k + 1) % (i + 1) : Nat) : Int)], 0, 1 + ((f (k + 2) % 8 : Nat) : Int), 1 + ((f (k + 2) / 8 % 4 : Nat) : Int), ((f (k + 2) / 32 % 4 : Nat) : Int)⟩ := by
        simp only [chClk, ← hk, e]; rfl
      rw [show kindN 0 = 112 from rfl] at h6
      simp only [↓Bp, Bq, Bs, ↓aop.eq_28, ↓aop.eq_30, Nat.reduceEqDiff, Nat.reduceAdd, Nat.reduceMul, Nat.reduceSub, Nat.reduceLeDiff, Nat.reduceLT, Int.reduceLT, Int.reduceLE, Int.reduceEq, Int.reduceToNat, Int.reduceAdd, Int.reduceSub, Int.reduceNeg, ↓reduceIte, reduceCtorEq, ↓C.catnaplaw4_chip_W, C.catnaplaw4_chip_B, C.catnaplaw4_chip, h6, hdx, hz 2, Int.toNat_natCast, Nat.mul_one, hg 2, w2, t8, t4, q8, q32, p8, p4, hne, hne2, hid6]
      rw [hck]
      refine ⟨(), bx _ _ _ _ (hset _ (hset _ (hset _ hle))) ?_ ?_⟩
      · simp only [ASt.set_h, if_true, h6, Option.map_some]; rfl
      · simp only [ASt.set_h, if_neg hne2, hxx]
    · have hck : chClk f (i + 1) = ⟨kindN 1, [((f (k + 1) % (i + 1) : Nat) : Int)], 0, 0, 1 + ((f (k + 2) % 8 : Nat) : Int), 0⟩ := by
        simp only [chClk, ← hk, e]; rfl
      rw [show kindN 1 = 100 from rfl] at h6
      simp only [↓Bp, Bq, Bs, ↓aop.eq_28, ↓aop.eq_30, Nat.reduceEqDiff, Nat.reduceAdd, Nat.reduceMul, Nat.reduceSub, Nat.reduceLeDiff, Nat.reduceLT, Int.reduceLT, Int.reduceLE, Int.reduceEq, Int.reduceToNat, Int.reduceAdd, Int.reduceSub, Int.reduceNeg, ↓reduceIte, reduceCtorEq, ↓C.catnaplaw4_chip_W, C.catnaplaw4_chip_B, C.catnaplaw4_chip, h6, hdx, hz 2, Int.toNat_natCast, Nat.mul_one, hg 2, w2, t8, t4, q8, q32, p8, p4, hne, hne2, hid6]
      rw [hck]
      refine ⟨(), bx _ _ _ _ (hset _ hle) ?_ ?_⟩
      · simp only [ASt.set_h, if_true, h6, Option.map_some]; rfl
      · simp only [ASt.set_h, if_neg hne2, hxx]
    · have hck : chClk f (i + 1) = ⟨kindN 2, [((f (k + 1) % (i + 1) : Nat) : Int)], 0, 0, 0, 0⟩ := by
        simp only [chClk, ← hk, e]; rfl
      have h6' := h6
      rw [show kindN 2 = 103 from rfl] at h6
      simp only [↓Bp, Bq, Bs, ↓aop.eq_28, ↓aop.eq_30, Nat.reduceEqDiff, Nat.reduceAdd, Nat.reduceMul, Nat.reduceSub, Nat.reduceLeDiff, Nat.reduceLT, Int.reduceLT, Int.reduceLE, Int.reduceEq, Int.reduceToNat, Int.reduceAdd, Int.reduceSub, Int.reduceNeg, ↓reduceIte, reduceCtorEq, ↓C.catnaplaw4_chip_W, C.catnaplaw4_chip_B, C.catnaplaw4_chip, h6]
      rw [hck]
      exact ⟨(), bx _ _ _ _ hle h6' hxx⟩
    · have hck : chClk f (i + 1) = ⟨kindN 3, [((f (k + 1) % (i + 1) : Nat) : Int), ((f (k + 2) % (i + 1) : Nat) : Int)], 0, 0, 0, 0⟩ := by
        simp only [chClk, ← hk, e]; rfl
      have hBx : BoxL s sx i6 [AV.int .u8 (kindN 3), AV.sl 1 ix 0 1, AV.int .u64 0, AV.int .i64 0, AV.int .i64 0, AV.int .i64 0] (Clk.cells ⟨kindN 3, [((f (k + 1) % (i + 1) : Nat) : Int)], 0, 0, 0, 0⟩) [ix] :=
        ⟨h6, .one rfl (.sl (L1 := []) (L2 := []) hxx (RepL.scalars rfl _) (by simp) (by simp) (by simp) (RepL.scalars rfl _)), by simpa using hne, by simpa using hix, hi6, hle⟩
      obtain ⟨v, v1, v2, hap⟩ := BoxL.append (b := i6) (o := 1) (new := [.int .i64 ((f (k + 2) % (i + 1) : Nat) : Int)]) (newc := [.int .i64 ((f (k + 2) % (i + 1) : Nat) : Int)]) (Ln := []) hBx rfl (by rw [ints_length, Nat.mul_one]) (by simp) (RepL.scalars rfl _) rfl (by simp) (by simp) (by simp)
      cases v1
      have hBi := hle _ _ hB.1
      rw [show kindN 3 = 109 from rfl] at h6 hap
      simp only [↓Bp, Bq, Bs, Nat.reduceEqDiff, Nat.reduceAdd, Nat.reduceMul, Nat.reduceSub, Nat.reduceLeDiff, Nat.reduceLT, Int.reduceLT, Int.reduceLE, Int.reduceEq, Int.reduceToNat, Int.reduceAdd, Int.reduceSub, Int.reduceNeg, ↓reduceIte, reduceCtorEq, ↓C.catnaplaw4_chip_W, C.catnaplaw4_chip_B, C.catnaplaw4_chip, h6, hdx, hz 2, Int.toNat_natCast, Nat.mul_one, hg 2, w2, nat_tmod, n0, hBi, e0, l0]
      refine hap rfl (fun _ => rfl) (fun _ => rfl) fun v1' i2 t2 hs hBx2 => ?_
      simp only [↓Bp, Bq, Bs, ↓aop.eq_28, ↓aop.eq_30, Nat.reduceEqDiff, Nat.reduceAdd, Nat.reduceMul, Nat.reduceSub, Nat.reduceLeDiff, Nat.reduceLT, Int.reduceLT, Int.reduceLE, Int.reduceEq, Int.reduceToNat, Int.reduceAdd, Int.reduceSub, Int.reduceNeg, ↓reduceIte, reduceCtorEq, ↓C.catnaplaw4_chip_W, C.catnaplaw4_chip_B, C.catnaplaw4_chip, hs]
      rw [hck]
      exact ⟨(), hBx2⟩
    · have hck : chClk f (i + 1) = ⟨kindN 4, [((f (k + 1) % (i + 1) : Nat) : Int)], 0, 0, 0, 0⟩ := by
        simp only [chClk, ← hk, e]; rfl
      have h6' := h6
      rw [show kindN 4 = 103 from rfl] at h6
      simp only [↓Bp, Bq, Bs, ↓aop.eq_28, ↓aop.eq_30, Nat.reduceEqDiff, Nat.reduceAdd, Nat.reduceMul, Nat.reduceSub, Nat.reduceLeDiff, Nat.reduceLT, Int.reduceLT, Int.reduceLE, Int.reduceEq, Int.reduceToNat, Int.reduceAdd, Int.reduceSub, Int.reduceNeg, ↓reduceIte, reduceCtorEq, ↓C.catnaplaw4_chip_W, C.catnaplaw4_chip_B, C.catnaplaw4_chip, h6]
      rw [hck]
      exact ⟨(), bx _ _ _ _ hle h6' hxx⟩
  clear bx h6 hxx hdx hle hset
  rintro - t ⟨ws, Lw, hXL⟩
  have h1 := hB.1
  have hBt := BoxL.grow hB hXL.2.2.2.2.2
  have hdis : ∀ j ∈ Lw, j ∉ L := fun j hj hm => hB.2.1.live j hm (hXL.2.2.2.1 j hj)
  have hibw : ib ∉ Lw := fun hm => by have := hXL.2.2.2.1 ib hm; rw [h1] at this; cases this
  have hwl : 6 = ws.length := hXL.2.1.len
  obtain ⟨v, v1, v2, hap⟩ := BoxL.append (b := ib) (o := 0) (new := ws) (newc := (chClk f (i + 1)).cells) (Ln := Lw) hBt rfl (flatMap_len Clk.cells_len _) (by simp; omega) hXL.2.1 hwl.symm hibw (fun j hj => fresh_of_le hB.2.2.2.2.2 (hXL.2.2.2.1 j hj)) hdis
  have e6 : AV.agg (List.take 6 ws) = .agg ws := by rw [show 6 = ws.length from hwl, List.take_length]
  have hw6 : 6 ≤ ws.length := by rw [← hwl]; simp
  simp only [↓Bp, Bq, Bs, Nat.reduceEqDiff, Nat.reduceAdd, Nat.reduceMul, Nat.reduceSub, Nat.reduceLeDiff, Nat.reduceLT, Int.reduceLT, Int.reduceLE, Int.reduceEq, Int.reduceToNat, Int.reduceAdd, Int.reduceSub, Int.reduceNeg, ↓reduceIte, reduceCtorEq, ↓C.catnaplaw4_chip_W, C.catnaplaw4_chip_B, C.catnaplaw4_chip, hBt.1, v1, hXL.1, hw6, e6]
  refine hap (aput_one rfl hwl.symm) (fun _ => rfl) (fun _ => rfl) fun v1' i2 t2 hs hBx => ?_
  simp only [↓Bp, Bq, Bs, ↓aop.eq_28, ↓aop.eq_30, Nat.reduceEqDiff, Nat.reduceAdd, Nat.reduceMul, Nat.reduceSub, Nat.reduceLeDiff, Nat.reduceLT, Int.reduceLT, Int.reduceLE, Int.reduceEq, Int.reduceToNat, Int.reduceAdd, Int.reduceSub, Int.reduceNeg, ↓reduceIte, reduceCtorEq, ↓C.catnaplaw4_chip_W, C.catnaplaw4_chip_B, C.catnaplaw4_chip, hs, h0l, wi]
  refine hQ _ ?_ _ rfl
  have e : (Soc.mk ((List.range (i + 1 + 1)).map (chClk f)) [] [] []).cells = ((Soc.mk ((List.range (i + 1)).map (chClk f)) [] [] []).cells.set 0 (AV.isl 6 (List.flatMap Clk.cells (Soc.mk ((List.range (i + 1)).map (chClk f)) [] [] []).clocks ++ (chClk f (i + 1)).cells) ((Soc.mk ((List.range (i + 1)).map (chClk f)) [] [] []).clocks.length + 1))) := by
    rw [List.range_succ (n := i + 1), List.map_append]
    simp [Soc.cells, Soc.clkV, Soc.domV, Soc.rstV, Soc.devV]
  rw [e]; exact hBx

theorem chip_c65 (H : ChipH st s0 ir idr f) (h : Box s0 s ib (Soc.mk [chClk f 0] [] [] []).cells) :
    awp Try.prog C.catnaplaw4_chip_c65 (Post [.cellN 2 4] (ChipQ st (chipD f))) [(2, .ptr ir 0), (4, .sl 1 idr 0 120), (6, .ptr ib 0)] s := by
  simp only [↓Bp, Bq, Bs, ↓aop.eq_28, ↓aop.eq_30, Nat.reduceEqDiff, Nat.reduceAdd, Nat.reduceMul, Nat.reduceSub, Nat.reduceLeDiff, Nat.reduceLT, Int.reduceLT, Int.reduceLE, Int.reduceEq, Int.reduceToNat, Int.reduceAdd, Int.reduceSub, Int.reduceNeg, ↓reduceIte, reduceCtorEq, ↓C.catnaplaw4_chip_r12_w, C.catnaplaw4_chip_r12_b, ↓C.catnaplaw4_chip_c43_w, ↓C.catnaplaw4_chip_r24_w, C.catnaplaw4_chip_r24_b, ↓C.catnaplaw4_chip_c44_w, ↓C.catnaplaw4_chip_r19_w, C.catnaplaw4_chip_r19_b, ↓C.catnaplaw4_chip_c45_w, ↓C.catnaplaw4_chip_r18_w, C.catnaplaw4_chip_r18_b, ↓C.catnaplaw4_chip_c46_w, ↓C.catnaplaw4_chip_r17_w, C.catnaplaw4_chip_r17_b, ↓C.catnaplaw4_chip_r21_w, C.catnaplaw4_chip_r21_b, ↓C.catnaplaw4_chip_r23_w, C.catnaplaw4_chip_r23_b, ↓C.catnaplaw4_chip_c47_w, ↓C.catnaplaw4_chip_r22_w, C.catnaplaw4_chip_r22_b, ↓C.catnaplaw4_chip_c48_w, ↓C.catnaplaw4_chip_c49_w, ↓C.catnaplaw4_chip_r20_w, C.catnaplaw4_chip_r20_b, ↓C.catnaplaw4_chip_c50_w, ↓C.catnaplaw4_chip_c51_w, ↓C.catnaplaw4_chip_c52_w, ↓C.catnaplaw4_chip_r16_w, C.catnaplaw4_chip_r16_b, ↓C.catnaplaw4_chip_b53_w, ↓C.catnaplaw4_chip_c54_w, ↓C.catnaplaw4_chip_r15_w, C.catnaplaw4_chip_r15_b, ↓C.catnaplaw4_chip_c55_w, ↓C.catnaplaw4_chip_r14_w, C.catnaplaw4_chip_r14_b, ↓C.catnaplaw4_chip_c56_w, ↓C.catnaplaw4_chip_r13_w, C.catnaplaw4_chip_r13_b, ↓C.catnaplaw4_chip_b57_w, ↓C.catnaplaw4_chip_c58_w, ↓C.catnaplaw4_chip_c59_w, ↓C.catnaplaw4_chip_r11_w, C.catnaplaw4_chip_r11_b, ↓C.catnaplaw4_chip_b61_w, ↓C.catnaplaw4_chip_c62_w, ↓C.catnaplaw4_chip_r10_w, C.catnaplaw4_chip_r10_b, ↓C.catnaplaw4_chip_c63_w, ↓C.catnaplaw4_chip_r9_w, C.catnaplaw4_chip_r9_b, ↓C.catnaplaw4_chip_c64_w, ↓C.catnaplaw4_chip_r8_w, C.catnaplaw4_chip_r8_b, ↓C.catnaplaw4_chip_c65_w, ↓C.catnaplaw4_chip_r7_w, C.catnaplaw4_chip_r7_b, ↓C.catnaplaw4_chip_c66_w, ↓C.catnaplaw4_chip_r5_w, C.catnaplaw4_chip_r5_b, ↓C.catnaplaw4_chip_c67_w, ↓C.catnaplaw4_chip_r6_w, C.catnaplaw4_chip_r6_b, ↓C.catnaplaw4_chip_b68_w, ↓C.catnaplaw4_chip_c69_w, ↓C.catnaplaw4_chip_c70_w, ↓C.catnaplaw4_chip_r4_w, C.catnaplaw4_chip_r4_b, ↓C.catnaplaw4_chip_b72_w, ↓C.catnaplaw4_chip_c73_w, ↓C.catnaplaw4_chip_r3_w, C.catnaplaw4_chip_r3_b, ↓C.catnaplaw4_chip_c74_w, ↓C.catnaplaw4_chip_r2_w, C.catnaplaw4_chip_r2_b, ↓C.catnaplaw4_chip_c75_w, ↓C.catnaplaw4_chip_r1_w, C.catnaplaw4_chip_r1_b, ↓C.catnaplaw4_chip_c76_w, ↓C.catnaplaw4_chip_r0_w, C.catnaplaw4_chip_r0_b, C.catnaplaw4_chip]
  refine awp_midB (fun _ : Unit => [(2, .ptr ir 0), (4, .sl 1 idr 0 120), (6, .ptr ib 0)]) (fun _ s => Box s0 s ib (Soc.mk ((List.range (nClk f)).map (chClk f)) [] [] []).cells) ?_ (fun _ s h => chip_c42 H (by simp) h)
  refine awp_loopK (fun i : Nat => [(2, .ptr ir 0), (3, .int .i64 1), (4, .sl 1 idr 0 120), (6, .ptr ib 0), (7, .str [112, 100, 103, 109, 103]), (8, .int .i64 i)]) (fun i s => i ≤ f 1 % 9 ∧ Box s0 s ib (Soc.mk ((List.range (i + 1)).map (chClk f)) [] [] []).cells) (fun i => f 1 % 9 - i) 0 rfl ⟨Nat.zero_le _, h⟩ ?_
  rintro i s ⟨hi, hB⟩
  have hd := hB.base _ _ H.d
  have t9 : ∀ a : Nat, (a : Int).tmod 9 = ((a % 9 : Nat) : Int) := fun a => nat_tmod a 9
  have hz : (0 : Int) ≤ 1 ∧ (1 : Int) < ((120 : Nat) : Int) := by omega
  by_cases hil : i < f 1 % 9
  rotate_left
  · have hie : i = f 1 % 9 := by omega
    have hil' : ¬ (i : Int) < ((f 1 % 9 : Nat) : Int) := by omega
    simp only [↓Bp, Bq, Bs, ↓aop.eq_28, ↓aop.eq_30, Nat.reduceEqDiff, Nat.reduceAdd, Nat.reduceMul, Nat.reduceSub, Nat.reduceLeDiff, Nat.reduceLT, Int.reduceLT, Int.reduceLE, Int.reduceEq, Int.reduceToNat, Int.reduceAdd, Int.reduceSub, Int.reduceNeg, ↓reduceIte, reduceCtorEq, ↓C.catnaplaw4_chip_W, C.catnaplaw4_chip_B, C.catnaplaw4_chip, hd, hz, dl_get f (show 1 < 120 by omega), t9, hil']
    rw [nClk, ← hie]
    exact ⟨(), hB⟩
  have hil' : (i : Int) < ((f 1 % 9 : Nat) : Int) := by omega
  simp only [↓Bp, Bq, Bs, ↓aop.eq_28, ↓aop.eq_30, Nat.reduceEqDiff, Nat.reduceAdd, Nat.reduceMul, Nat.reduceSub, Nat.reduceLeDiff, Nat.reduceLT, Int.reduceLT, Int.reduceLE, Int.reduceEq, Int.reduceToNat, Int.reduceAdd, Int.reduceSub, Int.reduceNeg, ↓reduceIte, reduceCtorEq, ↓C.catnaplaw4_chip_r50_w, C.catnaplaw4_chip_r50_b, ↓C.catnaplaw4_chip_c1_w, ↓C.catnaplaw4_chip_r38_w, C.catnaplaw4_chip_r38_b, ↓C.catnaplaw4_chip_c2_w, ↓C.catnaplaw4_chip_r49_w, C.catnaplaw4_chip_r49_b, ↓C.catnaplaw4_chip_c3_w, ↓C.catnaplaw4_chip_r48_w, C.catnaplaw4_chip_r48_b, ↓C.catnaplaw4_chip_c4_w, ↓C.catnaplaw4_chip_r47_w, C.catnaplaw4_chip_r47_b, ↓C.catnaplaw4_chip_c5_w, ↓C.catnaplaw4_chip_r46_w, C.catnaplaw4_chip_r46_b, ↓C.catnaplaw4_chip_c6_w, ↓C.catnaplaw4_chip_r45_w, C.catnaplaw4_chip_r45_b, ↓C.catnaplaw4_chip_c7_w, ↓C.catnaplaw4_chip_r43_w, C.catnaplaw4_chip_r43_b, ↓C.catnaplaw4_chip_c8_w, ↓C.catnaplaw4_chip_r44_w, C.catnaplaw4_chip_r44_b, ↓C.catnaplaw4_chip_b9_w, ↓C.catnaplaw4_chip_c10_w, ↓C.catnaplaw4_chip_c11_w, ↓C.catnaplaw4_chip_r42_w, C.catnaplaw4_chip_r42_b, ↓C.catnaplaw4_chip_b13_w, ↓C.catnaplaw4_chip_c14_w, ↓C.catnaplaw4_chip_r41_w, C.catnaplaw4_chip_r41_b, ↓C.catnaplaw4_chip_c15_w, ↓C.catnaplaw4_chip_r40_w, C.catnaplaw4_chip_r40_b, ↓C.catnaplaw4_chip_c16_w, ↓C.catnaplaw4_chip_r39_w, C.catnaplaw4_chip_r39_b, ↓C.catnaplaw4_chip_b17_w, ↓C.catnaplaw4_chip_c18_w, ↓C.catnaplaw4_chip_c19_w, ↓C.catnaplaw4_chip_r37_w, C.catnaplaw4_chip_r37_b, ↓C.catnaplaw4_chip_b21_w, ↓C.catnaplaw4_chip_c22_w, ↓C.catnaplaw4_chip_r36_w, C.catnaplaw4_chip_r36_b, ↓C.catnaplaw4_chip_c23_w, ↓C.catnaplaw4_chip_r34_w, C.catnaplaw4_chip_r34_b, ↓C.catnaplaw4_chip_c24_w, ↓C.catnaplaw4_chip_r35_w, C.catnaplaw4_chip_r35_b, ↓C.catnaplaw4_chip_b25_w, ↓C.catnaplaw4_chip_c26_w, ↓C.catnaplaw4_chip_c27_w, ↓C.catnaplaw4_chip_r33_w, C.catnaplaw4_chip_r33_b, ↓C.catnaplaw4_chip_b29_w, ↓C.catnaplaw4_chip_c30_w, ↓C.catnaplaw4_chip_r32_w, C.catnaplaw4_chip_r32_b, ↓C.catnaplaw4_chip_c31_w, ↓C.catnaplaw4_chip_r27_w, C.catnaplaw4_chip_r27_b, ↓C.catnaplaw4_chip_c32_w, ↓C.catnaplaw4_chip_r31_w, C.catnaplaw4_chip_r31_b, ↓C.catnaplaw4_chip_c33_w, ↓C.catnaplaw4_chip_r30_w, C.catnaplaw4_chip_r30_b, ↓C.catnaplaw4_chip_c34_w, ↓C.catnaplaw4_chip_r29_w, C.catnaplaw4_chip_r29_b, ↓C.catnaplaw4_chip_c35_w, ↓C.catnaplaw4_chip_r28_w, C.catnaplaw4_chip_r28_b, ↓C.catnaplaw4_chip_b36_w, ↓C.catnaplaw4_chip_c37_w, ↓C.catnaplaw4_chip_c38_w, ↓C.catnaplaw4_chip_r26_w, C.catnaplaw4_chip_r26_b, ↓C.catnaplaw4_chip_b40_w, ↓C.catnaplaw4_chip_c41_w, ↓C.catnaplaw4_chip_r25_w, C.catnaplaw4_chip_r25_b, ↓C.catnaplaw4_chip_c42_w, ↓C.catnaplaw4_chip_c59_w, ↓C.catnaplaw4_chip_r11_w, C.catnaplaw4_chip_r11_b, ↓C.catnaplaw4_chip_b61_w, ↓C.catnaplaw4_chip_c62_w, ↓C.catnaplaw4_chip_r10_w, C.catnaplaw4_chip_r10_b, ↓C.catnaplaw4_chip_c63_w, ↓C.catnaplaw4_chip_r9_w, C.catnaplaw4_chip_r9_b, ↓C.catnaplaw4_chip_c64_w, ↓C.catnaplaw4_chip_r8_w, C.catnaplaw4_chip_r8_b, ↓C.catnaplaw4_chip_c65_w, ↓C.catnaplaw4_chip_r7_w, C.catnaplaw4_chip_r7_b, ↓C.catnaplaw4_chip_c66_w, ↓C.catnaplaw4_chip_r5_w, C.catnaplaw4_chip_r5_b, ↓C.catnaplaw4_chip_c67_w, ↓C.catnaplaw4_chip_r6_w, C.catnaplaw4_chip_r6_b, ↓C.catnaplaw4_chip_b68_w, ↓C.catnaplaw4_chip_c69_w, ↓C.catnaplaw4_chip_c70_w, ↓C.catnaplaw4_chip_r4_w, C.catnaplaw4_chip_r4_b, ↓C.catnaplaw4_chip_b72_w, ↓C.catnaplaw4_chip_c73_w, ↓C.catnaplaw4_chip_r3_w, C.catnaplaw4_chip_r3_b, ↓C.catnaplaw4_chip_c74_w, ↓C.catnaplaw4_chip_r2_w, C.catnaplaw4_chip_r2_b, ↓C.catnaplaw4_chip_c75_w, ↓C.catnaplaw4_chip_r1_w, C.catnaplaw4_chip_r1_b, ↓C.catnaplaw4_chip_c76_w, ↓C.catnaplaw4_chip_r0_w, C.catnaplaw4_chip_r0_b, C.catnaplaw4_chip, hd, hz, dl_get f (show 1 < 120 by omega), t9, hil']
  rw [C.catnaplaw4_chip_c58_w, awp_keep]
  exact chip_clk H hil hB fun s2 hB2 fr hfr => ⟨i + 1, hfr, ⟨hil, hB2⟩, by omega⟩

theorem chip_c66 (H : ChipH st s0 ir idr f) :
    awp Try.prog C.catnaplaw4_chip_c66 (Post [.cellN 2 4] (ChipQ st (chipD f))) [(2, .ptr ir 0), (4, .sl 1 idr 0 120)] s0 := by
  have hz : (0 : Int) ≤ 0 ∧ (0 : Int) < ((120 : Nat) : Int) := by omega
  have w1 : IntKind.i64.wrap (1 + ((f 0 : Nat) : Int)) = 1 + ((f 0 : Nat) : Int) := by have := H.lt 0; rw [wrap64] <;> omega
  have u1 : IntKind.u64.wrap (1 + ((f 0 : Nat) : Int)) = 1 + ((f 0 : Nat) : Int) := by have := H.lt 0; rw [wrapU64] <;> omega
  simp only [↓Bp, Bq, Bs, ↓aop.eq_28, ↓aop.eq_30, Nat.reduceEqDiff, Nat.reduceAdd, Nat.reduceMul, Nat.reduceSub, Nat.reduceLeDiff, Nat.reduceLT, Int.reduceLT, Int.reduceLE, Int.reduceEq, Int.reduceToNat, Int.reduceAdd, Int.reduceSub, Int.reduceNeg, ↓reduceIte, reduceCtorEq, ↓C.catnaplaw4_chip_r7_w, C.catnaplaw4_chip_r7_b, ↓C.catnaplaw4_chip_c66_w, ↓C.catnaplaw4_chip_r5_w, C.catnaplaw4_chip_r5_b, ↓C.catnaplaw4_chip_c67_w, ↓C.catnaplaw4_chip_r6_w, C.catnaplaw4_chip_r6_b, ↓C.catnaplaw4_chip_b68_w, ↓C.catnaplaw4_chip_c69_w, ↓C.catnaplaw4_chip_c70_w, ↓C.catnaplaw4_chip_r4_w, C.catnaplaw4_chip_r4_b, ↓C.catnaplaw4_chip_b72_w, ↓C.catnaplaw4_chip_c73_w, ↓C.catnaplaw4_chip_r3_w, C.catnaplaw4_chip_r3_b, ↓C.catnaplaw4_chip_c74_w, ↓C.catnaplaw4_chip_r2_w, C.catnaplaw4_chip_r2_b, ↓C.catnaplaw4_chip_c75_w, ↓C.catnaplaw4_chip_r1_w, C.catnaplaw4_chip_r1_b, ↓C.catnaplaw4_chip_c76_w, ↓C.catnaplaw4_chip_r0_w, C.catnaplaw4_chip_r0_b, C.catnaplaw4_chip, H.d, hz, dl_get f (show 0 < 120 by omega), w1, u1]
  rintro ix hix ib ⟨hib, hne⟩
  simp only [↓Bp, Bq, Bs, ↓aop.eq_28, ↓aop.eq_30, Nat.reduceEqDiff, Nat.reduceAdd, Nat.reduceMul, Nat.reduceSub, Nat.reduceLeDiff, Nat.reduceLT, Int.reduceLT, Int.reduceLE, Int.reduceEq, Int.reduceToNat, Int.reduceAdd, Int.reduceSub, Int.reduceNeg, ↓reduceIte, reduceCtorEq, ↓C.catnaplaw4_chip_r7_w, C.catnaplaw4_chip_r7_b, ↓C.catnaplaw4_chip_c66_w, ↓C.catnaplaw4_chip_r5_w, C.catnaplaw4_chip_r5_b, ↓C.catnaplaw4_chip_c67_w, ↓C.catnaplaw4_chip_r6_w, C.catnaplaw4_chip_r6_b, ↓C.catnaplaw4_chip_b68_w, ↓C.catnaplaw4_chip_c69_w, ↓C.catnaplaw4_chip_c70_w, ↓C.catnaplaw4_chip_r4_w, C.catnaplaw4_chip_r4_b, ↓C.catnaplaw4_chip_b72_w, ↓C.catnaplaw4_chip_c73_w, ↓C.catnaplaw4_chip_r3_w, C.catnaplaw4_chip_r3_b, ↓C.catnaplaw4_chip_c74_w, ↓C.catnaplaw4_chip_r2_w, C.catnaplaw4_chip_r2_b, ↓C.catnaplaw4_chip_c75_w, ↓C.catnaplaw4_chip_r1_w, C.catnaplaw4_chip_r1_b, ↓C.catnaplaw4_chip_c76_w, ↓C.catnaplaw4_chip_r0_w, C.catnaplaw4_chip_r0_b, C.catnaplaw4_chip, hib, hne, allLeaf, AV.leaf]
  have hib' : (s0.new ix (AObj.cells [AV.int .u8 111, AV.nils, AV.int .u64 (1 + ((f 0 : Nat) : Int)), AV.int .i64 0, AV.int .i64 0, AV.int .i64 0])).h ib = none := by rw [ASt.new_none]; exact ⟨hib, hne⟩
  rw [ASt.new_set hib']
  rw [C.catnaplaw4_chip_c65_w, awp_keep]
  refine chip_c65 (s0 := s0) H ⟨_, [ix], ASt.new_self _ hib', .sl (L1 := []) (L2 := []) (ASt.new_old (ASt.new_self _ hix)) (.one rfl (.nils 1 (RepL.scalars rfl _))) (by simp) (by simp) (by simp) (.nils 3 (.nils 1 (.nils 6 .nil))), by simpa using hne, by simpa using hix, hib, (ASt.le.new _ _ _).trans (ASt.le.new _ _ _)⟩
end
theorem drawN_at {l : List Int} {i : Nat} (h : l.length ≠ 0) : drawN l i = pickI ((l[i % l.length]'(Nat.mod_lt _ (by omega))).tdiv (1 + ((i / l.length : Nat) : Int))) 1000000 := by
  have hi : i % l.length < l.length := Nat.mod_lt _ (by omega)
  rw [drawN, if_neg h, List.getD_eq_getElem?_getD, List.getElem?_eq_getElem hi]; rfl
theorem dl_empty {l : List Int} (h : l.length = 0) (i : Nat) : dl (drawN l) i = dl (drawN l) 120 := by
  have h0 : ∀ j, drawN l j = 0 := fun j => by rw [drawN, if_pos h]
  simp [dl, h0]
theorem chip_own {st : ASt} {l : List Int} (hl : ∀ x ∈ l, -9223372036854775808 ≤ x ∧ x ≤ 9223372036854775807) (hll : l.length ≤ 9223372036854775807) :
    ACalls Try.prog F.catnaplaw4_chip [row l] st (ChipQ st (chipS l)) := by
  refine calls_of_awp L.catnaplaw4_chip rfl ?_
  simp only [↓Bp, Bq, Bs, ↓aop.eq_28, ↓aop.eq_30, Nat.reduceEqDiff, Nat.reduceAdd, Nat.reduceMul, Nat.reduceSub, Nat.reduceLeDiff, Nat.reduceLT, Int.reduceLT, Int.reduceLE, Int.reduceEq, Int.reduceToNat, Int.reduceAdd, Int.reduceSub, Int.reduceNeg, ↓reduceIte, reduceCtorEq, ↓C.catnaplaw4_chip_r0_w, C.catnaplaw4_chip_r0_b, C.catnaplaw4_chip]
  rintro ir hir
  simp only [↓Bp, Bq, Bs, ↓aop.eq_28, ↓aop.eq_30, Nat.reduceEqDiff, Nat.reduceAdd, Nat.reduceMul, Nat.reduceSub, Nat.reduceLeDiff, Nat.reduceLT, Int.reduceLT, Int.reduceLE, Int.reduceEq, Int.reduceToNat, Int.reduceAdd, Int.reduceSub, Int.reduceNeg, ↓reduceIte, reduceCtorEq, ↓C.catnaplaw4_chip_r50_w, C.catnaplaw4_chip_r50_b, ↓C.catnaplaw4_chip_c1_w, ↓C.catnaplaw4_chip_r38_w, C.catnaplaw4_chip_r38_b, ↓C.catnaplaw4_chip_c2_w, ↓C.catnaplaw4_chip_r49_w, C.catnaplaw4_chip_r49_b, ↓C.catnaplaw4_chip_c3_w, ↓C.catnaplaw4_chip_r48_w, C.catnaplaw4_chip_r48_b, ↓C.catnaplaw4_chip_c4_w, ↓C.catnaplaw4_chip_r47_w, C.catnaplaw4_chip_r47_b, ↓C.catnaplaw4_chip_c5_w, ↓C.catnaplaw4_chip_r46_w, C.catnaplaw4_chip_r46_b, ↓C.catnaplaw4_chip_c6_w, ↓C.catnaplaw4_chip_r45_w, C.catnaplaw4_chip_r45_b, ↓C.catnaplaw4_chip_c7_w, ↓C.catnaplaw4_chip_r43_w, C.catnaplaw4_chip_r43_b, ↓C.catnaplaw4_chip_c8_w, ↓C.catnaplaw4_chip_r44_w, C.catnaplaw4_chip_r44_b, ↓C.catnaplaw4_chip_b9_w, ↓C.catnaplaw4_chip_c10_w, ↓C.catnaplaw4_chip_c11_w, ↓C.catnaplaw4_chip_r42_w, C.catnaplaw4_chip_r42_b, ↓C.catnaplaw4_chip_b13_w, ↓C.catnaplaw4_chip_c14_w, ↓C.catnaplaw4_chip_r41_w, C.catnaplaw4_chip_r41_b, ↓C.catnaplaw4_chip_c15_w, ↓C.catnaplaw4_chip_r40_w, C.catnaplaw4_chip_r40_b, ↓C.catnaplaw4_chip_c16_w, ↓C.catnaplaw4_chip_r39_w, C.catnaplaw4_chip_r39_b, ↓C.catnaplaw4_chip_b17_w, ↓C.catnaplaw4_chip_c18_w, ↓C.catnaplaw4_chip_c19_w, ↓C.catnaplaw4_chip_r37_w, C.catnaplaw4_chip_r37_b, ↓C.catnaplaw4_chip_b21_w, ↓C.catnaplaw4_chip_c22_w, ↓C.catnaplaw4_chip_r36_w, C.catnaplaw4_chip_r36_b, ↓C.catnaplaw4_chip_c23_w, ↓C.catnaplaw4_chip_r34_w, C.catnaplaw4_chip_r34_b, ↓C.catnaplaw4_chip_c24_w, ↓C.catnaplaw4_chip_r35_w, C.catnaplaw4_chip_r35_b, ↓C.catnaplaw4_chip_b25_w, ↓C.catnaplaw4_chip_c26_w, ↓C.catnaplaw4_chip_c27_w, ↓C.catnaplaw4_chip_r33_w, C.catnaplaw4_chip_r33_b, ↓C.catnaplaw4_chip_b29_w, ↓C.catnaplaw4_chip_c30_w, ↓C.catnaplaw4_chip_r32_w, C.catnaplaw4_chip_r32_b, ↓C.catnaplaw4_chip_c31_w, ↓C.catnaplaw4_chip_r27_w, C.catnaplaw4_chip_r27_b, ↓C.catnaplaw4_chip_c32_w, ↓C.catnaplaw4_chip_r31_w, C.catnaplaw4_chip_r31_b, ↓C.catnaplaw4_chip_c33_w, ↓C.catnaplaw4_chip_r30_w, C.catnaplaw4_chip_r30_b, ↓C.catnaplaw4_chip_c34_w, ↓C.catnaplaw4_chip_r29_w, C.catnaplaw4_chip_r29_b, ↓C.catnaplaw4_chip_c35_w, ↓C.catnaplaw4_chip_r28_w, C.catnaplaw4_chip_r28_b, ↓C.catnaplaw4_chip_b36_w, ↓C.catnaplaw4_chip_c37_w, ↓C.catnaplaw4_chip_c38_w, ↓C.catnaplaw4_chip_r26_w, C.catnaplaw4_chip_r26_b, ↓C.catnaplaw4_chip_b40_w, ↓C.catnaplaw4_chip_c41_w, ↓C.catnaplaw4_chip_r25_w, C.catnaplaw4_chip_r25_b, ↓C.catnaplaw4_chip_c42_w, ↓C.catnaplaw4_chip_r12_w, C.catnaplaw4_chip_r12_b, ↓C.catnaplaw4_chip_c43_w, ↓C.catnaplaw4_chip_r24_w, C.catnaplaw4_chip_r24_b, ↓C.catnaplaw4_chip_c44_w, ↓C.catnaplaw4_chip_r19_w, C.catnaplaw4_chip_r19_b, ↓C.catnaplaw4_chip_c45_w, ↓C.catnaplaw4_chip_r18_w, C.catnaplaw4_chip_r18_b, ↓C.catnaplaw4_chip_c46_w, ↓C.catnaplaw4_chip_r17_w, C.catnaplaw4_chip_r17_b, ↓C.catnaplaw4_chip_r21_w, C.catnaplaw4_chip_r21_b, ↓C.catnaplaw4_chip_r23_w, C.catnaplaw4_chip_r23_b, ↓C.catnaplaw4_chip_c47_w, ↓C.catnaplaw4_chip_r22_w, C.catnaplaw4_chip_r22_b, ↓C.catnaplaw4_chip_c48_w, ↓C.catnaplaw4_chip_c49_w, ↓C.catnaplaw4_chip_r20_w, C.catnaplaw4_chip_r20_b, ↓C.catnaplaw4_chip_c50_w, ↓C.catnaplaw4_chip_c51_w, ↓C.catnaplaw4_chip_c52_w, ↓C.catnaplaw4_chip_r16_w, C.catnaplaw4_chip_r16_b, ↓C.catnaplaw4_chip_b53_w, ↓C.catnaplaw4_chip_c54_w, ↓C.catnaplaw4_chip_r15_w, C.catnaplaw4_chip_r15_b, ↓C.catnaplaw4_chip_c55_w, ↓C.catnaplaw4_chip_r14_w, C.catnaplaw4_chip_r14_b, ↓C.catnaplaw4_chip_c56_w, ↓C.catnaplaw4_chip_r13_w, C.catnaplaw4_chip_r13_b, ↓C.catnaplaw4_chip_b57_w, ↓C.catnaplaw4_chip_c58_w, ↓C.catnaplaw4_chip_c59_w, ↓C.catnaplaw4_chip_r11_w, C.catnaplaw4_chip_r11_b, ↓C.catnaplaw4_chip_b61_w, ↓C.catnaplaw4_chip_c62_w, ↓C.catnaplaw4_chip_r10_w, C.catnaplaw4_chip_r10_b, ↓C.catnaplaw4_chip_c63_w, ↓C.catnaplaw4_chip_r9_w, C.catnaplaw4_chip_r9_b, ↓C.catnaplaw4_chip_c64_w, ↓C.catnaplaw4_chip_r8_w, C.catnaplaw4_chip_r8_b, ↓C.catnaplaw4_chip_c65_w, ↓C.catnaplaw4_chip_r7_w, C.catnaplaw4_chip_r7_b, ↓C.catnaplaw4_chip_c66_w, ↓C.catnaplaw4_chip_r3_w, C.catnaplaw4_chip_r3_b, ↓C.catnaplaw4_chip_c74_w, ↓C.catnaplaw4_chip_r2_w, C.catnaplaw4_chip_r2_b, ↓C.catnaplaw4_chip_c75_w, ↓C.catnaplaw4_chip_r1_w, C.catnaplaw4_chip_r1_b, ↓C.catnaplaw4_chip_c76_w, ↓C.catnaplaw4_chip_r0_w, C.catnaplaw4_chip_r0_b, C.catnaplaw4_chip, row]
  rintro id ⟨hid, hne⟩
  have hne2 : ¬ ir = id := fun e => hne e.symm
  have hz0 := dl_zero (drawN l)
  have h0 : (st.new ir (AObj.cells [AV.nils, AV.nils, AV.nils, AV.nils])).h id = none := by rw [ASt.new_none]; exact ⟨hid, hne⟩
  have hle := (ASt.le.new st ir (AObj.cells [AV.nils, AV.nils, AV.nils, AV.nils])).trans (ASt.le.new _ id (.cells (ints (dl (drawN l) 0))))
  have hr := ASt.new_old (id := id) (o := .cells (ints (dl (drawN l) 0))) (ASt.new_self (st := st) (AObj.cells [AV.nils, AV.nils, AV.nils, AV.nils]) hir)
  have hd := ASt.new_self (.cells (ints (dl (drawN l) 0))) h0
  simp only [zeros, List.cons_append, List.nil_append] at hz0
  rw [← hz0]
  generalize (st.new ir (AObj.cells [AV.nils, AV.nils, AV.nils, AV.nils])).new id (.cells (ints (dl (drawN l) 0))) = s0 at hle hr hd
  simp only [↓Bp, Bq, Bs, ↓aop.eq_28, ↓aop.eq_30, Nat.reduceEqDiff, Nat.reduceAdd, Nat.reduceMul, Nat.reduceSub, Nat.reduceLeDiff, Nat.reduceLT, Int.reduceLT, Int.reduceLE, Int.reduceEq, Int.reduceToNat, Int.reduceAdd, Int.reduceSub, Int.reduceNeg, ↓reduceIte, reduceCtorEq, ↓C.catnaplaw4_chip_W, C.catnaplaw4_chip_B, C.catnaplaw4_chip]
  refine awp_midB (fun _ : Unit => [(2, .ptr ir 0), (4, .sl 1 id 0 120)]) (fun _ s => ChipH st s ir id (drawN l)) ?_ (fun _ s h => chip_c66 h)
  refine awp_loopK (fun i : Nat => [(0, .isl 1 (ints l) l.length), (2, .ptr ir 0), (4, .sl 1 id 0 120), (5, .int .i64 i)]) (fun i s => i ≤ 120 ∧ st.le s ∧ s.h ir = some (.cells [.nils, .nils, .nils, .nils]) ∧ s.h id = some (.cells (ints (dl (drawN l) i)))) (fun i => 120 - i) 0 rfl ⟨Nat.zero_le _, hle, hr, hd⟩ ?_
  clear hle hr hd
  rintro i s ⟨hi, hle, hr, hd⟩
  have c120 : ((120 : Nat) : Int) = 120 := rfl
  have fin : dl (drawN l) i = dl (drawN l) 120 → ChipH st s ir id (drawN l) := fun e => ⟨drawN_lt l, hr, by rw [← e]; exact hd, hir, hle⟩
  by_cases h120 : i < 120
  rotate_left
  · have hie : i = 120 := by omega
    have h120' : ¬ (i : Int) < 120 := by omega
    simp only [↓Bp, Bq, Bs, ↓aop.eq_28, ↓aop.eq_30, Nat.reduceEqDiff, Nat.reduceAdd, Nat.reduceMul, Nat.reduceSub, Nat.reduceLeDiff, Nat.reduceLT, Int.reduceLT, Int.reduceLE, Int.reduceEq, Int.reduceToNat, Int.reduceAdd, Int.reduceSub, Int.reduceNeg, ↓reduceIte, reduceCtorEq, ↓C.catnaplaw4_chip_W, C.catnaplaw4_chip_B, C.catnaplaw4_chip, c120, h120']
    exact ⟨(), fin (by rw [hie])⟩
  have h120' : (i : Int) < 120 := by omega
  by_cases hl0 : l.length = 0
  · have hl0' : ¬ (0 : Int) < (l.length : Nat) := by omega
    simp only [↓Bp, Bq, Bs, ↓aop.eq_28, ↓aop.eq_30, Nat.reduceEqDiff, Nat.reduceAdd, Nat.reduceMul, Nat.reduceSub, Nat.reduceLeDiff, Nat.reduceLT, Int.reduceLT, Int.reduceLE, Int.reduceEq, Int.reduceToNat, Int.reduceAdd, Int.reduceSub, Int.reduceNeg, ↓reduceIte, reduceCtorEq, ↓C.catnaplaw4_chip_W, C.catnaplaw4_chip_B, C.catnaplaw4_chip, c120, h120', hl0', gt_iff_lt]
    exact ⟨(), fin (dl_empty hl0 i)⟩
  have hl0' : (0 : Int) < (l.length : Nat) := by omega
  have hln : ¬ ((l.length : Nat) : Int) = 0 := by omega
  have him : i % l.length < l.length := Nat.mod_lt _ (by omega)
  have hzm : (0 : Int) ≤ ((i % l.length : Nat) : Int) ∧ ((i % l.length : Nat) : Int) < (l.length : Nat) := by omega
  have hgm := ints_get him
  have hdiv : i / l.length ≤ i := Nat.div_le_self _ _
  obtain ⟨q, hq⟩ : ∃ q, q = i / l.length := ⟨_, rfl⟩
  rw [← hq] at hdiv
  have wq : IntKind.i64.wrap ((q : Nat) : Int) = ((q : Nat) : Int) := by rw [wrap64] <;> omega
  have w1 : IntKind.i64.wrap (1 + ((q : Nat) : Int)) = 1 + ((q : Nat) : Int) := by rw [wrap64] <;> omega
  have n1 : ¬ (1 + ((q : Nat) : Int)) = 0 := by omega
  have hlm := hl _ (List.getElem_mem him)
  have wt := tdiv_i64 hlm.1 hlm.2 (b := 1 + ((q : Nat) : Int)) (by omega)
  have hz : (0 : Int) ≤ (i : Int) ∧ (i : Int) < 120 := by omega
  have ws := wsucc h120 (by omega)
  simp only [↓Bp, Bq, Bs, ↓aop.eq_28, ↓aop.eq_30, Nat.reduceEqDiff, Nat.reduceAdd, Nat.reduceMul, Nat.reduceSub, Nat.reduceLeDiff, Nat.reduceLT, Int.reduceLT, Int.reduceLE, Int.reduceEq, Int.reduceToNat, Int.reduceAdd, Int.reduceSub, Int.reduceNeg, ↓reduceIte, reduceCtorEq, ↓C.catnaplaw4_chip_W, C.catnaplaw4_chip_B, C.catnaplaw4_chip, c120, h120', hl0', hln, nat_tmod, nat_tdiv, hzm, Int.toNat_natCast, Nat.mul_one, hgm, ← hq, wq, w1, n1, wt, gt_iff_lt]
  have hbd : -9223372036854775808 ≤ (l[i % l.length]).tdiv (1 + ((q : Nat) : Int)) ∧ (l[i % l.length]).tdiv (1 + ((q : Nat) : Int)) ≤ 9223372036854775807 := by
    rw [← wt]
    have e : IntKind.bits .i64 = 64 := rfl
    have hs : IntKind.signed .i64 = true := rfl
    simp only [IntKind.wrap, e, hs, Bool.true_and, decide_eq_true_eq]
    split <;> omega
  refine (pick_spec hbd (n := 1000000) (by omega)).mono ?_
  rintro r s2 ⟨rfl, rfl⟩
  rw [hq, ← drawN_at hl0]
  have hdl : i < (ints (dl (drawN l) i)).length := by rw [ints_length, dl_length]; exact h120
  simp only [↓Bp, Bq, Bs, ↓aop.eq_28, ↓aop.eq_30, Nat.reduceEqDiff, Nat.reduceAdd, Nat.reduceMul, Nat.reduceSub, Nat.reduceLeDiff, Nat.reduceLT, Int.reduceLT, Int.reduceLE, Int.reduceEq, Int.reduceToNat, Int.reduceAdd, Int.reduceSub, Int.reduceNeg, ↓reduceIte, reduceCtorEq, ↓C.catnaplaw4_chip_W, C.catnaplaw4_chip_B, C.catnaplaw4_chip, hd, hz, Int.toNat_natCast, Nat.mul_one, hdl, ints_set, dl_set _ h120, ws, c120]
  refine ⟨i + 1, rfl, ⟨h120, fun j o hj => ?_, ?_, ?_⟩, by omega⟩
  · rw [ASt.set_h, if_neg (by rintro rfl; rw [hid] at hj; cases hj)]
    exact hle _ _ hj
  · rw [if_neg hne2]; exact hr
  · exact Eq.refl _
theorem chip_frz {st : ASt} {l : List Int} (hl : ∀ x ∈ l, -9223372036854775808 ≤ x ∧ x ≤ 9223372036854775807) (hll : l.length ≤ 9223372036854775807) :
    ACalls Try.prog F.catnaplaw4_chip [row l] st fun r s' => r = .agg (chipS l).cells ∧ s' = st :=
  (chip_own hl hll).ghost fun r s' ⟨vs, L, h1, h2, h3, h4⟩ => ⟨.agg (chipS l).cells, st, by rw [h1]; exact h2.ghostAgg.trans (Ghost.sub (h4.killL h3)), rfl, rfl⟩
end Go.Proofs.Ytjamidgdhmjhaaa.Cn
