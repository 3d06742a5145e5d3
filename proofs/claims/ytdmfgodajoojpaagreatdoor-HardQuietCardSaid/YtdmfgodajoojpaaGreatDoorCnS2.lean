/- YtdmfgodajoojpaaGreatDoor: proofs of this seat, texts CnChipT, CnPower3, CnPower4, CnClock1, CnClock2, CnClock3, CnSaneD: what each shows stands at its theorems; no condition. -/
import Derived.Test.YtdmfgodajoojpaaGreatDoorCnS1
import Derived.Test.YtdmfgodajoojpaaGreatDoorCnL2
/- What a chip is made of raw numbers. -/
set_option linter.unusedSimpArgs false
set_option linter.unusedVariables false
set_option maxRecDepth 100000
namespace Go.Proofs.YtdmfgodajoojpaaGreatDoor.Cn
open Go Go.Proofs

def dl (f : Nat → Nat) (i : Nat) : List Int := (List.range 120).map fun j => if j < i then (f j : Int) else 0
theorem dl_length (f : Nat → Nat) (i : Nat) : (dl f i).length = 120 := by simp [dl]
theorem dl_zero (f : Nat → Nat) : ints (dl f 0) = zeros [.int .i64 0] 120 := by
  have hz : ∀ n, zeros [AV.int .i64 0] n = List.replicate n (.int .i64 0) := fun n => by
    induction n with
    | zero => rfl
    | succ n ih => rw [zeros, ih]; rfl
  rw [hz]
  simp [dl, ints, List.map_const']
theorem dl_set (f : Nat → Nat) {i : Nat} (h : i < 120) : (dl f i).set i (f i : Int) = dl f (i + 1) := by
  apply List.ext_getElem
  · simp [dl]
  · intro j h1 h2
    simp only [List.getElem_set, dl, List.getElem_map, List.getElem_range]
    by_cases e : i = j
    · subst e; simp
    · rw [if_neg e]
      have : (j < i) ↔ j < i + 1 := by omega
      simp [this]
theorem dl_get (f : Nat → Nat) {i : Nat} (h : i < 120) : (ints (dl f 120))[i]? = some (.int .i64 (f i : Int)) := by
  simp [ints, dl, h]
theorem tdiv_i64 {a b : Int} (h1 : -9223372036854775808 ≤ a) (h2 : a ≤ 9223372036854775807) (hb : 1 ≤ b) : IntKind.i64.wrap (a.tdiv b) = a.tdiv b := by
  have key : ∀ x : Int, 0 ≤ x → 0 ≤ x.tdiv b ∧ x.tdiv b ≤ x := fun x hx => by
    rw [Int.tdiv_eq_ediv_of_nonneg hx]
    exact ⟨Int.ediv_nonneg hx (by omega), Int.ediv_le_self _ hx⟩
  rcases Int.le_total 0 a with h | h
  · have := key a h
    rw [wrap64] <;> omega
  · have h3 := key (-a) (by omega)
    have h4 : (-a).tdiv b = -(a.tdiv b) := Int.neg_tdiv ..
    rw [h4] at h3
    rw [wrap64] <;> omega
theorem nat_tmod (a b : Nat) : (a : Int).tmod (b : Int) = ((a % b : Nat) : Int) := by
  rw [Int.tmod_eq_emod_of_nonneg (by omega), Int.natCast_emod]
theorem nat_tdiv (a b : Nat) : (a : Int).tdiv (b : Int) = ((a / b : Nat) : Int) := by
  rw [Int.tdiv_eq_ediv_of_nonneg (by omega), Int.natCast_ediv]


section
variable {st s0 s : ASt} {ir idr ib : Nat} {f : Nat → Nat}

def ChipQ (st : ASt) (S : Soc) (r : AV) (s' : ASt) : Prop := ∃ vs L, r = .agg vs ∧ RepL s' vs S.cells L ∧ (∀ j ∈ L, st.h j = none) ∧ st.le s'
structure ChipH (st s0 : ASt) (ir idr : Nat) (f : Nat → Nat) : Prop where
  lt : ∀ x, f x < 1000000
  r : s0.h ir = some (.cells [.nils, .nils, .nils, .nils])
  d : s0.h idr = some (.cells (ints (dl f 120)))
  ir : st.h ir = none
  le : st.le s0

theorem chip_c1 {S : Soc} (H : ChipH st s0 ir idr f) (h : Box s0 s ib S.cells) :
    awp Tryz.prog C.bj6 (Post [.cellN 2 4] (ChipQ st S)) [(2, .ptr ir 0), (6, .ptr ib 0)] s := by
  obtain ⟨vs, L, h1, h2, h3, h4, h5, h6⟩ := h
  have hr := h6 _ _ H.r
  have hl := h2.len
  have hlf := h2.leaf
  have hirL : ir ∉ L := fun hm => by have := h4 ir hm; rw [H.r] at this; cases this
  match vs, hl with
  | [a, b, c, d], _ =>
    simp only [↓Bt, Bu, simprocAttr, ↓C.q13_W, C.q13_B, C.q13, h1, hr, hlf]
    refine ⟨_, L, rfl, h2.off fun j hj => ?_, fun j hj => fresh_of_le H.le (h4 j hj), fun j o ho => ?_⟩
    · rw [ASt.set_h, if_neg (by rintro rfl; exact hirL hj)]
    · rw [ASt.set_h, if_neg (by rintro rfl; rw [H.ir] at ho; cases ho)]
      exact h6 _ _ (H.le _ _ ho)
theorem chip_dev (H : ChipH st s0 ir idr f) {cl : List Clk} {dm : List Dom} {rs : List Int} (hC : cl.length = nClk f) (hD : dm.length = nDom f) (hR : rs.length = nRst f) {i : Nat} (hi : i < nDev f) (h : Box s0 s ib (Soc.mk cl dm rs ((List.range i).map (chDev f))).cells) {Q : IExit → AFr → ASt → Prop}
    (hQ : ∀ s2, Box s0 s2 ib (Soc.mk cl dm rs ((List.range (i + 1)).map (chDev f))).cells → ∀ fr, fr.keep [2, 4, 6, 14] = [(2, .ptr ir 0), (4, .sl 1 idr 0 120), (6, .ptr ib 0), (14, .int .i64 ((i + 1 : Nat) : Int))] → Q .normal fr s2) :
    awp Tryz.prog C.sg Q [(2, .ptr ir 0), (4, .sl 1 idr 0 120), (6, .ptr ib 0), (14, .int .i64 i)] s := by
  have hi4 : i < 4 := by unfold nDev at hi; omega
  have wi : IntKind.i64.wrap ((i : Int) + 1) = ((i + 1 : Nat) : Int) := wsucc hi4 (by omega)
  have w12 : IntKind.i64.wrap (12 * (i : Int)) = ((12 * i : Nat) : Int) := by rw [wrap64] <;> omega
  have w60 : IntKind.i64.wrap (60 + ((12 * i : Nat) : Int)) = ((60 + 12 * i : Nat) : Int) := by rw [wrap64] <;> omega
  obtain ⟨vs, L, hB⟩ := h
  obtain ⟨h1, h2, h3, h4, h5, h6⟩ := id hB
  simp only [↓Bt, Bu, simprocAttr, ↓C.z73, C.bg_b, ↓C.z62, C.z17, ↓C.z63, C.z16, ↓C.z64, C.z15, ↓C.z65, C.z14, ↓C.z66, C.z12, ↓C.z74, C.z13, ↓C.z67, C.z11, ↓C.z69, C.z8, ↓C.z68, C.z9, ↓C.z75, C.bf_b, ↓C.z70, C.z7, ↓C.z76, C.z10, ↓C.z71, C.z19, ↓C.bb_w, C.bb_b, C.q13, w12, w60]
  have hd := h6 _ _ H.d
  obtain ⟨k, hk⟩ : ∃ k, k = 60 + 12 * i := ⟨_, rfl⟩
  rw [← hk]
  have z0 : ∀ a : Nat, ((a : Int) = 0) = (a = 0) := fun a => by simp
  have z1 : ∀ a : Nat, ((a : Int) = 1) = (a = 1) := fun a => by rw [eq_iff_iff]; omega
  have hz : ∀ c, c ≤ 12 → (0 : Int) ≤ ((k + c : Nat) : Int) ∧ ((k + c : Nat) : Int) < 120 := fun c hc => by omega
  have hz0 : (0 : Int) ≤ ((k : Nat) : Int) ∧ ((k : Nat) : Int) < 120 := by omega
  have hg : ∀ c, c ≤ 12 → (ints (dl f 120))[k + c]? = some (.int .i64 (f (k + c) : Int)) := fun c hc => dl_get f (by omega)
  have hg0 : (ints (dl f 120))[k]? = some (.int .i64 (f k : Int)) := dl_get f (by omega)
  have w : ∀ c : Nat, c ≤ 12 → IntKind.i64.wrap ((k : Int) + (c : Nat)) = ((k + c : Nat) : Int) := fun c hc => by rw [wrap64] <;> omega
  have w1 : IntKind.i64.wrap ((k : Int) + 1) = ((k + 1 : Nat) : Int) := w 1 (by omega)
  have w2 : IntKind.i64.wrap ((k : Int) + 2) = ((k + 2 : Nat) : Int) := w 2 (by omega)
  have w3 : IntKind.i64.wrap ((k : Int) + 3) = ((k + 3 : Nat) : Int) := w 3 (by omega)
  have t3 : ∀ a : Nat, (a : Int).tmod 3 = ((a % 3 : Nat) : Int) := fun a => nat_tmod a 3
  have u32 : ∀ a : Nat, a < 4294967296 → IntKind.u32.wrap (a : Int) = a := fun a h => by rw [wrapU32] <;> omega
  have u3 := u32 (f (k + 3) % 3) (by omega)
  obtain ⟨a0, e0, l0⟩ := h2.slen (o := 0) rfl
  obtain ⟨a1, e1, l1⟩ := h2.slen (o := 1) rfl
  obtain ⟨a2, e2, l2⟩ := h2.slen (o := 2) rfl
  rw [hC] at l0
  rw [hD] at l1
  rw [hR] at l2
  have n0 : ¬ ((nClk f : Nat) : Int) = 0 := by unfold nClk; omega
  have n1 : ¬ ((nDom f : Nat) : Int) = 0 := by unfold nDom; omega
  have n2 : ¬ ((nRst f : Nat) : Int) = 0 := by unfold nRst; omega
  simp only [↓Bt, Bu, simprocAttr, ↓C.z73, C.bg_b, ↓C.z62, C.z17, ↓C.z72, C.bj_b, ↓C.z63, C.z16, ↓C.z64, C.z15, ↓C.z65, C.z14, ↓C.z66, C.z12, ↓C.z74, C.z13, ↓C.z67, C.z11, ↓C.z69, C.z8, ↓C.z68, C.z9, ↓C.z75, C.bf_b, ↓C.z70, C.z7, ↓C.z76, C.z10, ↓C.z71, C.z19, ↓C.bb_w, C.bb_b, C.q13, hd, h1, hz 1, hz 2, hz 3, hz0, Int.toNat_natCast, Nat.mul_one, hg0, hg 1, hg 2, hg 3, w1, w2, w3, e0, e1, e2, l0, l1, l2, n0, n1, n2, nat_tmod, t3, u3]
  intro i6 hi6
  simp only [↓Bt, Bu, simprocAttr, ↓C.z73, C.bg_b, ↓C.z62, C.z17, ↓C.z72, C.bj_b, ↓C.z63, C.z16, ↓C.z64, C.z15, ↓C.z65, C.z14, ↓C.z66, C.z12, ↓C.z74, C.z13, ↓C.z67, C.z11, ↓C.z69, C.z8, ↓C.z68, C.z9, ↓C.z75, C.bf_b, ↓C.z70, C.z7, ↓C.z76, C.z10, ↓C.z71, C.z19, ↓C.bb_w, C.bb_b, C.q13, hi6, allLeaf, AV.leaf]
  refine ⟨trivial, ?_⟩
  rw [ASt.new_set hi6]
  obtain ⟨dv, hdv⟩ : ∃ dv : List Reg → List Int → Dev, dv = fun rg nd => ⟨((f k % nClk f : Nat) : Int), ((f (k + 1) % nDom f : Nat) : Int), ((f (k + 2) % nRst f : Nat) : Int), ((f (k + 3) % 3 : Nat) : Int), rg, nd⟩ := ⟨_, rfl⟩
  have hX : Box s (s.new i6 (AObj.cells [AV.int .i64 ((f k % nClk f : Nat) : Int), AV.int .i64 ((f (k + 1) % nDom f : Nat) : Int), AV.int .i64 ((f (k + 2) % nRst f : Nat) : Int), AV.int .u32 ((f (k + 3) % 3 : Nat) : Int), AV.nils, AV.nils])) i6 (dv [] []).cells := by
    refine Box.start hi6 ?_
    rw [hdv]
    exact .one rfl (.one rfl (.one rfl (.one rfl (.nils 2 (.nils 1 .nil)))))
  have hdvc : ∀ rg nd, (dv rg nd).cells = [AV.int .i64 ((f k % nClk f : Nat) : Int), AV.int .i64 ((f (k + 1) % nDom f : Nat) : Int), AV.int .i64 ((f (k + 2) % nRst f : Nat) : Int), AV.int .u32 ((f (k + 3) % 3 : Nat) : Int), .isl 2 (flat rg) rg.length, row nd] := fun rg nd => by rw [hdv]; rfl
  generalize s.new i6 (AObj.cells [AV.int .i64 ((f k % nClk f : Nat) : Int), AV.int .i64 ((f (k + 1) % nDom f : Nat) : Int), AV.int .i64 ((f (k + 2) % nRst f : Nat) : Int), AV.int .u32 ((f (k + 3) % 3 : Nat) : Int), AV.nils, AV.nils]) = sx at hX
  have hdv2 : ∀ rg nd, dv rg nd = ⟨((f k % nClk f : Nat) : Int), ((f (k + 1) % nDom f : Nat) : Int), ((f (k + 2) % nRst f : Nat) : Int), ((f (k + 3) % 3 : Nat) : Int), rg, nd⟩ := fun rg nd => by rw [hdv]
  clear hdv u3 t3 l0 l1 l2 e0 e1 e2 n0 n1 n2
  have w4 : IntKind.i64.wrap ((k : Int) + 4) = ((k + 4 : Nat) : Int) := w 4 (by omega)
  have w5 : IntKind.i64.wrap ((k : Int) + 5) = ((k + 5 : Nat) : Int) := w 5 (by omega)
  have w9 : IntKind.i64.wrap ((k : Int) + 9) = ((k + 9 : Nat) : Int) := w 9 (by omega)
  have w10 : IntKind.i64.wrap ((k : Int) + 10) = ((k + 10 : Nat) : Int) := w 10 (by omega)
  have w11 : IntKind.i64.wrap ((k : Int) + 11) = ((k + 11 : Nat) : Int) := w 11 (by omega)
  have t5 : ∀ a : Nat, (a : Int).tmod 5 = ((a % 5 : Nat) : Int) := fun a => nat_tmod a 5
  have t7 : ∀ a : Nat, (a : Int).tmod 7 = ((a % 7 : Nat) : Int) := fun a => nat_tmod a 7
  have t2 : ∀ a : Nat, (a : Int).tmod 2 = ((a % 2 : Nat) : Int) := fun a => nat_tmod a 2
  have t3 : ∀ a : Nat, (a : Int).tmod 3 = ((a % 3 : Nat) : Int) := fun a => nat_tmod a 3
  have q7 : ∀ x, IntKind.i64.wrap (((f x : Nat) : Int).tdiv 7) = ((f x / 7 : Nat) : Int) := fun x => by
    have := H.lt x
    rw [show ((f x : Nat) : Int).tdiv 7 = ((f x / 7 : Nat) : Int) from nat_tdiv _ 7, wrap64] <;> omega
  have q3 : ∀ x, IntKind.i64.wrap (((f x : Nat) : Int).tdiv 3) = ((f x / 3 : Nat) : Int) := fun x => by
    have := H.lt x
    rw [show ((f x : Nat) : Int).tdiv 3 = ((f x / 3 : Nat) : Int) from nat_tdiv _ 3, wrap64] <;> omega
  simp only [↓Bt, Bu, simprocAttr, ↓C.q13_W, C.q13_B, C.q13]
  refine awp_midB (fun _ : Unit => [(2, .ptr ir 0), (4, .sl 1 idr 0 120), (6, .ptr ib 0), (14, .int .i64 i), (15, .int .i64 k), (16, .ptr i6 0)]) (fun _ t => Box s t i6 (dv ((List.range (f (k + 4) % 5)).map (chReg f k)) []).cells) ?_ ?_
  · refine awp_loopK (fun j : Nat => [(2, .ptr ir 0), (4, .sl 1 idr 0 120), (6, .ptr ib 0), (14, .int .i64 i), (15, .int .i64 k), (16, .ptr i6 0), (17, .int .i64 j)]) (fun j t => j ≤ f (k + 4) % 5 ∧ Box s t i6 (dv ((List.range j).map (chReg f k)) []).cells) (fun j => 5 - j) 0 rfl ⟨Nat.zero_le _, hX⟩ ?_
    clear hX
    rintro j t ⟨hj, hX⟩
    have hdt := hX.base _ _ hd
    by_cases hjl : j < f (k + 4) % 5
    rotate_left
    · have hje : j = f (k + 4) % 5 := by omega
      have hjl' : ¬ (j : Int) < ((f (k + 4) % 5 : Nat) : Int) := by omega
      simp only [↓Bt, Bu, simprocAttr, ↓C.q13_W, C.q13_B, C.q13, hdt, hz 4, Int.toNat_natCast, Nat.mul_one, hg 4, w4, t5, hjl']
      rw [← hje]
      exact ⟨(), hX⟩
    have hjl' : (j : Int) < ((f (k + 4) % 5 : Nat) : Int) := by omega
    have wj : IntKind.i64.wrap (((k + 5 : Nat) : Int) + (j : Int)) = ((k + 5 + j : Nat) : Int) := by rw [wrap64] <;> omega
    have hzj : (0 : Int) ≤ ((k + 5 + j : Nat) : Int) ∧ ((k + 5 + j : Nat) : Int) < 120 := by omega
    have hgj : (ints (dl f 120))[k + 5 + j]? = some (.int .i64 (f (k + 5 + j) : Int)) := dl_get f (by omega)
    have hws := wsucc hjl (by omega)
    have u7 := u32 (f (k + 5 + j) % 7) (by omega)
    obtain ⟨xs, K, hXL⟩ := hX
    rw [hdvc] at hXL
    obtain ⟨v, hv1, hv2, hap⟩ := BoxL.append (b := i6) (o := 4) (new := encReg (chReg f k j)) (newc := encReg (chReg f k j)) (Ln := []) hXL rfl (flat_length _) (by simp; omega) (RepL.scalars rfl _) rfl (by simp) (by simp) (by simp)
    have hxl := hXL.2.1.len
    have h4l : 4 < xs.length := by rw [← hxl]; simp
    simp only [↓Bp, Bq, Bs, simprocAttr, ↓C.q13_W, C.q13_B, C.q13, hdt, hz 4, hzj, Int.toNat_natCast, Nat.mul_one, hg 4, w4, t5, hjl', w5, wj, hgj, t7, q7, t2, u7, hXL.1, hv1, z0]
    refine hap (aput_one rfl rfl) (fun _ => rfl) (fun _ => rfl) fun v1 i2 t2 hs hBx => ?_
    simp only [↓Bt, Bu, simprocAttr, ↓C.q13_W, C.q13_B, C.q13, hs, h4l, hws]
    refine ⟨j + 1, rfl, ⟨by omega, ?_⟩, by omega⟩
    have e : (dv ((List.range (j + 1)).map (chReg f k)) []).cells = ([AV.int .i64 ((f k % nClk f : Nat) : Int), AV.int .i64 ((f (k + 1) % nDom f : Nat) : Int), AV.int .i64 ((f (k + 2) % nRst f : Nat) : Int), AV.int .u32 ((f (k + 3) % 3 : Nat) : Int),
          AV.isl 2 (flat ((List.range j).map (chReg f k))) ((List.range j).map (chReg f k)).length, row []].set 4 (AV.isl 2 (flat ((List.range j).map (chReg f k)) ++ encReg (chReg f k j)) (((List.range j).map (chReg f k)).length + 1))) := by
      rw [hdvc, List.range_succ, List.map_append]
      simp [flat]
    rw [e]; exact hBx
  clear hX
  rintro - t hX
  obtain ⟨rg, hrg⟩ : ∃ rg, rg = (List.range (f (k + 4) % 5)).map (chReg f k) := ⟨_, rfl⟩
  rw [← hrg] at hX
  have addn : ∀ {t : ASt} {nd : List Int} {x : Int}, nd.length ≤ 5 → Box s t i6 (dv rg nd).cells → ∃ xs v, t.h i6 = some (.cells xs) ∧ 5 < xs.length ∧ xs[5]? = some v ∧
      ∀ {P : Program} {bt : Nat} {zs : List AV} {parts : List (Nat × Nat × IArg)} {x' y : IArg} {fr : AFr} {F : AV → AFr} {K : AV → AV → ASt → Prop},
        aput (zeros zs 1) (parts.map fun p => (p.1, p.2.1, fr.val p.2.2)) = .some [.int .i64 x] → (∀ v1, (F v1).val x' = v) → (∀ v1, (F v1).val y = v1) →
        (∀ v1 i2 st2, st2.h i6 = some (.cells xs) → Box s (st2.set i6 (.cells (xs.set 5 (.sl 1 i2 0 (nd.length + 1))))) i6 (dv rg (nd ++ [x])).cells → K v1 (.sl 1 i2 0 (nd.length + 1)) st2) →
        aop P (.buildSlice 1 1 zs parts) fr t (fun v1 st1 => aop P (.append 1 bt x' y) (F v1) st1 (K v1)) := by
    rintro t nd x hn ⟨xs, K, hXL⟩
    rw [hdvc] at hXL
    obtain ⟨v, hv1, hv2, hap⟩ := BoxL.append (b := i6) (o := 5) (new := [.int .i64 x]) (newc := [.int .i64 x]) (Ln := []) hXL rfl (by rw [ints_length, Nat.mul_one]) (by omega) (RepL.scalars rfl _) rfl (by simp) (by simp) (by simp)
    have hxl := hXL.2.1.len
    refine ⟨xs, v, hXL.1, by rw [← hxl]; simp, hv1, ?_⟩
    intro P bt zs parts x' y fr F K h1 h2 h3 h4
    refine hap h1 h2 h3 fun v1 i2 st2 h5 h6 => h4 v1 i2 st2 h5 ?_
    have e : (dv rg (nd ++ [x])).cells = ([AV.int .i64 ((f k % nClk f : Nat) : Int), AV.int .i64 ((f (k + 1) % nDom f : Nat) : Int), AV.int .i64 ((f (k + 2) % nRst f : Nat) : Int), AV.int .u32 ((f (k + 3) % 3 : Nat) : Int),
          AV.isl 2 (flat rg) rg.length, row nd].set 5 (AV.isl 1 (ints nd ++ [.int .i64 x]) (nd.length + 1))) := by
      rw [hdvc]; simp [row, ints]
    rw [e]; exact h6
  have hdt := hX.base _ _ hd
  obtain ⟨nd1, hnd1⟩ : ∃ nd1 : List Int, nd1 = if 0 < i ∧ f (k + 9) % 2 = 1 then [((f (k + 10) % i : Nat) : Int)] else [] := ⟨_, rfl⟩
  rw [awp_seq]
  refine awp_mid (fun _ : Unit => [(2, .ptr ir 0), (4, .sl 1 idr 0 120), (6, .ptr ib 0), (14, .int .i64 i), (15, .int .i64 k), (16, .ptr i6 0)]) (fun _ t' => Box s t' i6 (dv rg nd1).cells) ?_ ?_
  · rw [hnd1]
    by_cases hi0 : 0 < i
    · have hi0' : (0 : Int) < (i : Int) := by omega
      have hin : ¬ (i : Int) = 0 := by omega
      by_cases h9 : f (k + 9) % 2 = 1
      · obtain ⟨xs, v, x1, x2, x3, hap⟩ := addn (nd := []) (x := ((f (k + 10) % i : Nat) : Int)) (by simp) hX
        simp only [↓Bp, Bq, Bs, simprocAttr, ↓C.q13_W, C.q13_B, C.q13, hi0', hi0, hdt, hz 9, hz 10, Int.toNat_natCast, Nat.mul_one, hg 9, hg 10, w9, w10, t2, z1, gt_iff_lt, h9, x1, x3, hin, nat_tmod]
        refine hap rfl (fun _ => rfl) (fun _ => rfl) fun v1 i2 t2 hs hBx => ?_
        simp only [↓Bt, Bu, simprocAttr, ↓C.q13_W, C.q13_B, C.q13, hs, x2]
        exact ⟨(), hBx⟩
      · simp only [↓Bt, Bu, simprocAttr, ↓C.q13_W, C.q13_B, C.q13, hi0', hi0, hdt, hz 9, Int.toNat_natCast, Nat.mul_one, hg 9, w9, t2, z1, gt_iff_lt, h9]
        exact ⟨(), hX⟩
    · have hi0' : ¬ (0 : Int) < (i : Int) := by omega
      simp only [↓Bt, Bu, simprocAttr, ↓C.q13_W, C.q13_B, C.q13, hi0', hi0, gt_iff_lt]
      exact ⟨(), hX⟩
  clear hX hdt
  rintro - t hX
  have hdt := hX.base _ _ hd
  have hl1 : nd1.length ≤ 5 := by rw [hnd1]; split <;> simp
  obtain ⟨nd2, hnd2⟩ : ∃ nd2 : List Int, nd2 = nd1 ++ if 1 < i ∧ f (k + 11) % 3 = 1 then [((f (k + 11) / 3 % i : Nat) : Int)] else [] := ⟨_, rfl⟩
  rw [awp_seq]
  refine awp_mid (fun _ : Unit => [(2, .ptr ir 0), (4, .sl 1 idr 0 120), (6, .ptr ib 0), (14, .int .i64 i), (16, .ptr i6 0)]) (fun _ t' => Box s t' i6 (dv rg nd2).cells) ?_ ?_
  · rw [hnd2]
    by_cases hi0 : 1 < i
    · have hi0' : (1 : Int) < (i : Int) := by omega
      have hin : ¬ (i : Int) = 0 := by omega
      by_cases h9 : f (k + 11) % 3 = 1
      · obtain ⟨xs, v, x1, x2, x3, hap⟩ := addn (nd := nd1) (x := ((f (k + 11) / 3 % i : Nat) : Int)) hl1 hX
        simp only [↓Bp, Bq, Bs, simprocAttr, ↓C.q13_W, C.q13_B, C.q13, hi0', hi0, hdt, hz 11, Int.toNat_natCast, Nat.mul_one, hg 11, w11, t3, q3, z1, gt_iff_lt, h9, x1, x3, hin, nat_tmod]
        refine hap rfl (fun _ => rfl) (fun _ => rfl) fun v1 i2 t2 hs hBx => ?_
        simp only [↓Bt, Bu, simprocAttr, ↓C.q13_W, C.q13_B, C.q13, hs, x2]
        exact ⟨(), hBx⟩
      · simp only [↓Bt, Bu, simprocAttr, ↓C.q13_W, C.q13_B, C.q13, hi0', hi0, hdt, hz 11, Int.toNat_natCast, Nat.mul_one, hg 11, w11, t3, z1, gt_iff_lt, h9, List.append_nil]
        exact ⟨(), hX⟩
    · have hi0' : ¬ (1 : Int) < (i : Int) := by omega
      simp only [↓Bt, Bu, simprocAttr, ↓C.q13_W, C.q13_B, C.q13, hi0', hi0, gt_iff_lt, List.append_nil]
      exact ⟨(), hX⟩
  clear hX hdt
  rintro - t hX
  have hdev : chDev f i = dv rg nd2 := by
    rw [hdv2, hrg, hnd2, hnd1, chDev, chNeeds, ← hk]
  obtain ⟨ws, Lw, hXL⟩ := hX
  have hBt := BoxL.grow hB hXL.2.2.2.2.2
  have hdis : ∀ j ∈ Lw, j ∉ L := fun j hj hm => h2.live j hm (hXL.2.2.2.1 j hj)
  have hibw : ib ∉ Lw := fun hm => by have := hXL.2.2.2.1 ib hm; rw [h1] at this; cases this
  have hwl := hXL.2.1.len
  rw [hdvc] at hwl
  obtain ⟨v, v1, v2, hap⟩ := BoxL.append (b := ib) (o := 3) (new := ws) (newc := (dv rg nd2).cells) (Ln := Lw) hBt rfl (flatMap_len Dev.cells_len _) (by simp; omega) hXL.2.1 hwl.symm hibw (fun j hj => fresh_of_le h6 (hXL.2.2.2.1 j hj)) hdis
  have e6 : AV.agg (List.take 6 ws) = .agg ws := by rw [show 6 = ws.length from hwl, List.take_length]
  have hw6 : 6 ≤ ws.length := by rw [← hwl]; simp
  have hvl := h2.len
  have h3l : 3 < vs.length := by rw [← hvl]; exact (by decide : 3 < 4)
  simp only [↓Bp, Bq, Bs, simprocAttr, ↓C.q13_W, C.q13_B, C.q13, hBt.1, v1, hXL.1, hw6, e6]
  refine hap (aput_one rfl hwl.symm) (fun _ => rfl) (fun _ => rfl) fun v1' i2 t2 hs hBx => ?_
  simp only [↓Bt, Bu, simprocAttr, ↓C.q13_W, C.q13_B, C.q13, hs, h3l, wi]
  refine hQ _ ?_ _ rfl
  have e : (Soc.mk cl dm rs ((List.range (i + 1)).map (chDev f))).cells = ((Soc.mk cl dm rs ((List.range i).map (chDev f))).cells.set 3 (AV.isl 6 (List.flatMap Dev.cells (Soc.mk cl dm rs ((List.range i).map (chDev f))).devs ++ (dv rg nd2).cells) ((Soc.mk cl dm rs ((List.range i).map (chDev f))).devs.length + 1))) := by
    rw [List.range_succ, List.map_append, ← hdev]
    simp [Soc.cells, Soc.clkV, Soc.domV, Soc.rstV, Soc.devV]
  rw [e]; exact hBx
theorem chip_c23 (H : ChipH st s0 ir idr f) {cl : List Clk} {dm : List Dom} {rs : List Int} (hC : cl.length = nClk f) (hD : dm.length = nDom f) (hR : rs.length = nRst f) (h : Box s0 s ib (Soc.mk cl dm rs []).cells) :
    awp Tryz.prog C.bj7 (Post [.cellN 2 4] (ChipQ st (Soc.mk cl dm rs ((List.range (nDev f)).map (chDev f))))) [(2, .ptr ir 0), (4, .sl 1 idr 0 120), (6, .ptr ib 0)] s := by
  simp only [↓Bt, Bu, simprocAttr, ↓C.z62, C.z17, ↓C.z61, C.z18, ↓C.z72, C.bj_b, ↓C.z63, C.z16, ↓C.z64, C.z15, ↓C.z65, C.z14, ↓C.z66, C.z12, ↓C.z74, C.z13, ↓C.z67, C.z11, ↓C.z69, C.z8, ↓C.z68, C.z9, ↓C.z75, C.bf_b, ↓C.z70, C.z7, ↓C.z76, C.z10, ↓C.z71, C.z19, ↓C.bb_w, C.bb_b, C.q13]
  refine awp_midB (fun _ : Unit => [(2, .ptr ir 0), (6, .ptr ib 0)]) (fun _ s => Box s0 s ib (Soc.mk cl dm rs ((List.range (nDev f)).map (chDev f))).cells) ?_ (fun _ s h => chip_c1 H h)
  refine awp_loopK (fun i : Nat => [(2, .ptr ir 0), (4, .sl 1 idr 0 120), (6, .ptr ib 0), (14, .int .i64 i)]) (fun i s => i ≤ nDev f ∧ Box s0 s ib (Soc.mk cl dm rs ((List.range i).map (chDev f))).cells) (fun i => nDev f - i) 0 rfl ⟨Nat.zero_le _, h⟩ ?_
  rintro i s ⟨hi, hB⟩
  have hd := hB.base _ _ H.d
  have t4 : ∀ a : Nat, (a : Int).tmod 4 = ((a % 4 : Nat) : Int) := fun a => nat_tmod a 4
  have wn : IntKind.i64.wrap (1 + ((f 4 % 4 : Nat) : Int)) = ((nDev f : Nat) : Int) := by unfold nDev; rw [wrap64] <;> omega
  have hz : (0 : Int) ≤ 4 ∧ (4 : Int) < 120 := by omega
  by_cases hil : i < nDev f
  rotate_left
  · have hie : i = nDev f := by omega
    have hil' : ¬ (i : Int) < ((nDev f : Nat) : Int) := by omega
    simp only [↓Bt, Bu, simprocAttr, ↓C.q13_W, C.q13_B, C.q13, hd, hz, dl_get f (show 4 < 120 by omega), t4, wn, hil']
    rw [← hie]
    exact ⟨(), hB⟩
  have hil' : (i : Int) < ((nDev f : Nat) : Int) := by omega
  simp only [↓Bt, Bu, simprocAttr, ↓C.z73, C.bg_b, ↓C.z63, C.z16, ↓C.z64, C.z15, ↓C.z65, C.z14, ↓C.z66, C.z12, ↓C.z74, C.z13, ↓C.z67, C.z11, ↓C.z69, C.z8, ↓C.z68, C.z9, ↓C.z75, C.bf_b, ↓C.z70, C.z7, ↓C.z76, C.z10, ↓C.z71, C.z19, ↓C.bb_w, C.bb_b, C.q13, hd, hz, dl_get f (show 4 < 120 by omega), t4, wn, hil']
  rw [C.sg_w, awp_keep]
  refine chip_dev H hC hD hR hil hB fun s2 hB2 fr hfr => ⟨i + 1, hfr, ⟨hil, hB2⟩, by omega⟩

theorem chip_rst (H : ChipH st s0 ir idr f) {cl : List Clk} {dm : List Dom} {i : Nat} (hi : i < nRst f) (h : Box s0 s ib (Soc.mk cl dm ((List.range i).map (chRst f)) []).cells) {Q : IExit → AFr → ASt → Prop}
    (hQ : ∀ s2, Box s0 s2 ib (Soc.mk cl dm ((List.range (i + 1)).map (chRst f)) []).cells → ∀ fr, fr.keep [2, 4, 6, 13] = [(2, .ptr ir 0), (4, .sl 1 idr 0 120), (6, .ptr ib 0), (13, .int .i64 ((i + 1 : Nat) : Int))] → Q .normal fr s2) :
    awp Tryz.prog C.sh Q [(2, .ptr ir 0), (4, .sl 1 idr 0 120), (6, .ptr ib 0), (13, .int .i64 i)] s := by
  have hi4 : i < 3 := by unfold nRst at hi; omega
  have wi : IntKind.i64.wrap ((i : Int) + 1) = ((i + 1 : Nat) : Int) := wsucc hi4 (by omega)
  have w50 : IntKind.i64.wrap (50 + (i : Int)) = ((50 + i : Nat) : Int) := by rw [wrap64] <;> omega
  have hz : (0 : Int) ≤ ((50 + i : Nat) : Int) ∧ ((50 + i : Nat) : Int) < 120 := by omega
  have hd := h.base _ _ H.d
  have t4 : ∀ a : Nat, (a : Int).tmod 4 = ((a % 4 : Nat) : Int) := fun a => nat_tmod a 4
  obtain ⟨vs, L, hB⟩ := h
  have hvl := hB.2.1.len
  have h2l : 2 < vs.length := by rw [← hvl]; exact (by decide : 2 < 4)
  obtain ⟨v, v1, v2, hap⟩ := BoxL.append (b := ib) (o := 2) (new := [.int .i64 (chRst f i)]) (newc := [.int .i64 (chRst f i)]) (Ln := []) hB rfl (flatMap_len rstCells_len _) (by simp; omega) (RepL.scalars rfl _) rfl (by simp) (by simp) (by simp)
  simp only [↓Bp, Bq, Bs, simprocAttr, ↓C.q13_W, C.q13_B, C.q13, hd, hB.1, v1, hz, Int.toNat_natCast, Nat.mul_one, dl_get f (show 50 + i < 120 by omega), w50, t4]
  refine hap (aput_one rfl rfl) (fun _ => rfl) (fun _ => rfl) fun v1' i2 t2 hs hBx => ?_
  simp only [↓Bt, Bu, simprocAttr, ↓C.q13_W, C.q13_B, C.q13, hs, h2l, wi]
  refine hQ _ ?_ _ rfl
  have e : (Soc.mk cl dm ((List.range (i + 1)).map (chRst f)) []).cells = ((Soc.mk cl dm ((List.range i).map (chRst f)) []).cells.set 2 (AV.isl 1 (List.flatMap rstCells (Soc.mk cl dm ((List.range i).map (chRst f)) []).rsts ++ [.int .i64 (chRst f i)]) ((Soc.mk cl dm ((List.range i).map (chRst f)) []).rsts.length + 1))) := by
    rw [List.range_succ, List.map_append]
    simp [Soc.cells, Soc.clkV, Soc.domV, Soc.rstV, Soc.devV, rstCells]
  rw [e]; exact hBx
theorem chip_c31 (H : ChipH st s0 ir idr f) {cl : List Clk} {dm : List Dom} (hC : cl.length = nClk f) (hD : dm.length = nDom f) (h : Box s0 s ib (Soc.mk cl dm [] []).cells) :
    awp Tryz.prog C.bj8 (Post [.cellN 2 4] (ChipQ st (Soc.mk cl dm ((List.range (nRst f)).map (chRst f)) ((List.range (nDev f)).map (chDev f))))) [(2, .ptr ir 0), (4, .sl 1 idr 0 120), (6, .ptr ib 0)] s := by
  simp only [↓Bt, Bu, simprocAttr, ↓C.z64, C.z15, ↓C.z65, C.z14, ↓C.z66, C.z12, ↓C.z74, C.z13, ↓C.z67, C.z11, ↓C.z69, C.z8, ↓C.z68, C.z9, ↓C.z75, C.bf_b, ↓C.z70, C.z7, ↓C.z76, C.z10, ↓C.z71, C.z19, ↓C.bb_w, C.bb_b, C.q13]
  refine awp_midB (fun _ : Unit => [(2, .ptr ir 0), (4, .sl 1 idr 0 120), (6, .ptr ib 0)]) (fun _ s => Box s0 s ib (Soc.mk cl dm ((List.range (nRst f)).map (chRst f)) []).cells) ?_ (fun _ s h => chip_c23 H hC hD (by simp) h)
  refine awp_loopK (fun i : Nat => [(2, .ptr ir 0), (4, .sl 1 idr 0 120), (6, .ptr ib 0), (13, .int .i64 i)]) (fun i s => i ≤ nRst f ∧ Box s0 s ib (Soc.mk cl dm ((List.range i).map (chRst f)) []).cells) (fun i => nRst f - i) 0 rfl ⟨Nat.zero_le _, h⟩ ?_
  rintro i s ⟨hi, hB⟩
  have hd := hB.base _ _ H.d
  have t3 : ∀ a : Nat, (a : Int).tmod 3 = ((a % 3 : Nat) : Int) := fun a => nat_tmod a 3
  have wn : IntKind.i64.wrap (1 + ((f 3 % 3 : Nat) : Int)) = ((nRst f : Nat) : Int) := by unfold nRst; rw [wrap64] <;> omega
  have hz : (0 : Int) ≤ 3 ∧ (3 : Int) < 120 := by omega
  by_cases hil : i < nRst f
  rotate_left
  · have hie : i = nRst f := by omega
    have hil' : ¬ (i : Int) < ((nRst f : Nat) : Int) := by omega
    simp only [↓Bt, Bu, simprocAttr, ↓C.q13_W, C.q13_B, C.q13, hd, hz, dl_get f (show 3 < 120 by omega), t3, wn, hil']
    rw [← hie]
    exact ⟨(), hB⟩
  have hil' : (i : Int) < ((nRst f : Nat) : Int) := by omega
  simp only [↓Bt, Bu, simprocAttr, ↓C.z73, C.bg_b, ↓C.z62, C.z17, ↓C.z61, C.z18, ↓C.z72, C.bj_b, ↓C.z63, C.z16, ↓C.z65, C.z14, ↓C.z66, C.z12, ↓C.z74, C.z13, ↓C.z67, C.z11, ↓C.z69, C.z8, ↓C.z68, C.z9, ↓C.z75, C.bf_b, ↓C.z70, C.z7, ↓C.z76, C.z10, ↓C.z71, C.z19, ↓C.bb_w, C.bb_b, C.q13, hd, hz, dl_get f (show 3 < 120 by omega), t3, wn, hil']
  rw [C.sh_w, awp_keep]
  exact chip_rst H hil hB fun s2 hB2 fr hfr => ⟨i + 1, hfr, ⟨hil, hB2⟩, by omega⟩

theorem chip_dom (H : ChipH st s0 ir idr f) {cl : List Clk} {i : Nat} (hi : i < nDom f) (h : Box s0 s ib (Soc.mk cl ((List.range i).map (chDom f)) [] []).cells) {Q : IExit → AFr → ASt → Prop}
    (hQ : ∀ s2, Box s0 s2 ib (Soc.mk cl ((List.range (i + 1)).map (chDom f)) [] []).cells → ∀ fr, fr.keep [2, 4, 6, 11] = [(2, .ptr ir 0), (4, .sl 1 idr 0 120), (6, .ptr ib 0), (11, .int .i64 ((i + 1 : Nat) : Int))] → Q .normal fr s2) :
    awp Tryz.prog C.sj Q [(2, .ptr ir 0), (4, .sl 1 idr 0 120), (6, .ptr ib 0), (11, .int .i64 i)] s := by
  have hi4 : i < 4 := by unfold nDom at hi; omega
  have wi : IntKind.i64.wrap ((i : Int) + 1) = ((i + 1 : Nat) : Int) := wsucc hi4 (by omega)
  have w40 : IntKind.i64.wrap (40 + (i : Int)) = ((40 + i : Nat) : Int) := by rw [wrap64] <;> omega
  have w44 : IntKind.i64.wrap (44 + (i : Int)) = ((44 + i : Nat) : Int) := by rw [wrap64] <;> omega
  have hz40 : (0 : Int) ≤ ((40 + i : Nat) : Int) ∧ ((40 + i : Nat) : Int) < 120 := by omega
  have hz44 : (0 : Int) ≤ ((44 + i : Nat) : Int) ∧ ((44 + i : Nat) : Int) < 120 := by omega
  have hg40 := dl_get f (show 40 + i < 120 by omega)
  have hg44 := dl_get f (show 44 + i < 120 by omega)
  have hd := h.base _ _ H.d
  have t2 : ∀ a : Nat, (a : Int).tmod 2 = ((a % 2 : Nat) : Int) := fun a => nat_tmod a 2
  have t3 : ∀ a : Nat, (a : Int).tmod 3 = ((a % 3 : Nat) : Int) := fun a => nat_tmod a 3
  have t4 : ∀ a : Nat, (a : Int).tmod 4 = ((a % 4 : Nat) : Int) := fun a => nat_tmod a 4
  have z1 : ∀ a : Nat, ((a : Int) = 1) = (a = 1) := fun a => by rw [eq_iff_iff]; omega
  have q4 : ∀ x, IntKind.i64.wrap (((f x : Nat) : Int).tdiv 4) = ((f x / 4 : Nat) : Int) := fun x => by
    have := H.lt x
    rw [show ((f x : Nat) : Int).tdiv 4 = ((f x / 4 : Nat) : Int) from nat_tdiv _ 4, wrap64] <;> omega
  have q3 : ∀ x, IntKind.i64.wrap (((f x : Nat) : Int).tdiv 3) = ((f x / 3 : Nat) : Int) := fun x => by
    have := H.lt x
    rw [show ((f x : Nat) : Int).tdiv 3 = ((f x / 3 : Nat) : Int) from nat_tdiv _ 3, wrap64] <;> omega
  obtain ⟨vs, L, hB⟩ := h
  have hvl := hB.2.1.len
  have h1l : 1 < vs.length := by rw [← hvl]; exact (by decide : 1 < 4)
  simp only [↓Bt, Bu, simprocAttr, ↓C.z73, C.bg_b, ↓C.z62, C.z17, ↓C.z61, C.z18, ↓C.z72, C.bj_b, ↓C.z63, C.z16, ↓C.z64, C.z15, ↓C.z65, C.z14, ↓C.z66, C.z12, ↓C.z67, C.z11, ↓C.z69, C.z8, ↓C.z68, C.z9, ↓C.z75, C.bf_b, ↓C.z70, C.z7, ↓C.z76, C.z10, ↓C.z71, C.z19, ↓C.bb_w, C.bb_b, C.q13, hd, hz40, Int.toNat_natCast, Nat.mul_one, hg40, w40, t4, q4, t2, z1]
  intro i6 hi6
  simp only [↓Bt, Bu, simprocAttr, ↓C.z73, C.bg_b, ↓C.z62, C.z17, ↓C.z61, C.z18, ↓C.z72, C.bj_b, ↓C.z63, C.z16, ↓C.z64, C.z15, ↓C.z65, C.z14, ↓C.z66, C.z12, ↓C.z67, C.z11, ↓C.z69, C.z8, ↓C.z68, C.z9, ↓C.z75, C.bf_b, ↓C.z70, C.z7, ↓C.z76, C.z10, ↓C.z71, C.z19, ↓C.bb_w, C.bb_b, C.q13, hi6, allLeaf, AV.leaf]
  rw [ASt.new_set hi6]
  have hle : s.le (s.new i6 (AObj.cells [AV.int .i64 (-1), AV.int .i64 ((f (40 + i) % 4 : Nat) : Int), AV.bool (decide (f (40 + i) / 4 % 2 = 1))])) := ASt.le.new _ _ _
  have h6 : (s.new i6 (AObj.cells [AV.int .i64 (-1), AV.int .i64 ((f (40 + i) % 4 : Nat) : Int), AV.bool (decide (f (40 + i) / 4 % 2 = 1))])).h i6 = some (AObj.cells [AV.int .i64 (-1), AV.int .i64 ((f (40 + i) % 4 : Nat) : Int), AV.bool (decide (f (40 + i) / 4 % 2 = 1))]) := ASt.new_self _ hi6
  generalize s.new i6 (AObj.cells [AV.int .i64 (-1), AV.int .i64 ((f (40 + i) % 4 : Nat) : Int), AV.bool (decide (f (40 + i) / 4 % 2 = 1))]) = sx at hle h6
  have hdx := hle _ _ hd
  rw [C.bj9_w, awp_keep, awp_seq]
  refine awp_mid (fun _ : Unit => [(2, .ptr ir 0), (4, .sl 1 idr 0 120), (6, .ptr ib 0), (11, .int .i64 i), (12, .ptr i6 0)]) (fun _ t => s.le t ∧ t.h i6 = some (.cells (chDom f i).cells)) ?_ ?_
  · have hset : ∀ o, s.le (sx.set i6 o) := fun o j x hj => by
      rw [ASt.set_h, if_neg (by rintro rfl; rw [hi6] at hj; cases hj)]
      exact hle _ _ hj
    have hs6 : ∀ o, (sx.set i6 o).h i6 = some o := fun o => by rw [ASt.set_h, if_pos rfl, h6]; rfl
    by_cases hi0 : 0 < i
    · have hi0' : (0 : Int) < (i : Int) := by omega
      have hin : ¬ (i : Int) = 0 := by omega
      by_cases h9 : 0 < f (44 + i) % 3
      · have h9' : (0 : Int) < ((f (44 + i) % 3 : Nat) : Int) := by omega
        simp only [↓Bt, Bu, simprocAttr, ↓C.q13_W, C.q13_B, C.q13, hdx, hi0', hi0, hz44, Int.toNat_natCast, Nat.mul_one, hg44, w44, t3, h9', gt_iff_lt, q3, nat_tmod, hin, h6]
        refine ⟨(), hset _, ?_⟩
        rw [chDom, if_pos ⟨hi0, h9⟩]; rfl
      · have h9' : ¬ (0 : Int) < ((f (44 + i) % 3 : Nat) : Int) := by omega
        simp only [↓Bt, Bu, simprocAttr, ↓C.q13_W, C.q13_B, C.q13, hdx, hi0', hi0, hz44, Int.toNat_natCast, Nat.mul_one, hg44, w44, t3, h9', gt_iff_lt]
        refine ⟨(), hle, ?_⟩
        rw [h6, chDom, if_neg (fun h => h9 h.2)]; rfl
    · have hi0' : ¬ (0 : Int) < (i : Int) := by omega
      simp only [↓Bt, Bu, simprocAttr, ↓C.q13_W, C.q13_B, C.q13, hi0', gt_iff_lt]
      refine ⟨(), hle, ?_⟩
      rw [h6, chDom, if_neg (fun h => hi0 h.1)]; rfl
  clear h6 hdx hle
  rintro - t ⟨hle, h6⟩
  have hBt := BoxL.grow hB hle
  obtain ⟨v, v1, v2, hap⟩ := BoxL.append (b := ib) (o := 1) (new := (chDom f i).cells) (newc := (chDom f i).cells) (Ln := []) hBt rfl (flatMap_len Dom.cells_len _) (by simp; omega) (RepL.scalars rfl _) rfl (by simp) (by simp) (by simp)
  have hl3 : 3 ≤ (chDom f i).cells.length := Nat.le_refl _
  have e3 : AV.agg (List.take 3 (chDom f i).cells) = .agg (chDom f i).cells := rfl
  generalize hcd : (chDom f i).cells = cd at hap h6 hl3 e3
  have hcl : cd.length = 3 := by rw [← hcd]; rfl
  simp only [↓Bp, Bq, Bs, simprocAttr, ↓C.q13_W, C.q13_B, C.q13, hBt.1, v1, h6, hl3, e3]
  refine hap (aput_one rfl hcl) (fun _ => rfl) (fun _ => rfl) fun v1' i2 t2 hs hBx => ?_
  simp only [↓Bt, Bu, simprocAttr, ↓C.q13_W, C.q13_B, C.q13, hs, h1l, wi]
  refine hQ _ ?_ _ rfl
  have e : (Soc.mk cl ((List.range (i + 1)).map (chDom f)) [] []).cells = ((Soc.mk cl ((List.range i).map (chDom f)) [] []).cells.set 1 (AV.isl 3 (List.flatMap Dom.cells (Soc.mk cl ((List.range i).map (chDom f)) [] []).doms ++ cd) ((Soc.mk cl ((List.range i).map (chDom f)) [] []).doms.length + 1))) := by
    rw [List.range_succ, List.map_append, ← hcd]
    simp [Soc.cells, Soc.clkV, Soc.domV, Soc.rstV, Soc.devV]
  rw [e]; exact hBx
theorem chip_c42 (H : ChipH st s0 ir idr f) {cl : List Clk} (hC : cl.length = nClk f) (h : Box s0 s ib (Soc.mk cl [] [] []).cells) :
    awp Tryz.prog C.bkb (Post [.cellN 2 4] (ChipQ st (Soc.mk cl ((List.range (nDom f)).map (chDom f)) ((List.range (nRst f)).map (chRst f)) ((List.range (nDev f)).map (chDev f))))) [(2, .ptr ir 0), (4, .sl 1 idr 0 120), (6, .ptr ib 0)] s := by
  simp only [↓Bt, Bu, simprocAttr, ↓C.z66, C.z12, ↓C.z74, C.z13, ↓C.z67, C.z11, ↓C.z69, C.z8, ↓C.z68, C.z9, ↓C.z75, C.bf_b, ↓C.z70, C.z7, ↓C.z76, C.z10, ↓C.z71, C.z19, ↓C.bb_w, C.bb_b, C.q13]
  refine awp_midB (fun _ : Unit => [(2, .ptr ir 0), (4, .sl 1 idr 0 120), (6, .ptr ib 0)]) (fun _ s => Box s0 s ib (Soc.mk cl ((List.range (nDom f)).map (chDom f)) [] []).cells) ?_ (fun _ s h => chip_c31 H hC (by simp) h)
  refine awp_loopK (fun i : Nat => [(2, .ptr ir 0), (4, .sl 1 idr 0 120), (6, .ptr ib 0), (11, .int .i64 i)]) (fun i s => i ≤ nDom f ∧ Box s0 s ib (Soc.mk cl ((List.range i).map (chDom f)) [] []).cells) (fun i => nDom f - i) 0 rfl ⟨Nat.zero_le _, h⟩ ?_
  rintro i s ⟨hi, hB⟩
  have hd := hB.base _ _ H.d
  have t4 : ∀ a : Nat, (a : Int).tmod 4 = ((a % 4 : Nat) : Int) := fun a => nat_tmod a 4
  have wn : IntKind.i64.wrap (1 + ((f 2 % 4 : Nat) : Int)) = ((nDom f : Nat) : Int) := by unfold nDom; rw [wrap64] <;> omega
  have hz : (0 : Int) ≤ 2 ∧ (2 : Int) < 120 := by omega
  by_cases hil : i < nDom f
  rotate_left
  · have hie : i = nDom f := by omega
    have hil' : ¬ (i : Int) < ((nDom f : Nat) : Int) := by omega
    simp only [↓Bt, Bu, simprocAttr, ↓C.q13_W, C.q13_B, C.q13, hd, hz, dl_get f (show 2 < 120 by omega), t4, wn, hil']
    rw [← hie]
    exact ⟨(), hB⟩
  have hil' : (i : Int) < ((nDom f : Nat) : Int) := by omega
  simp only [↓Bt, Bu, simprocAttr, ↓C.z73, C.bg_b, ↓C.z62, C.z17, ↓C.z61, C.z18, ↓C.z72, C.bj_b, ↓C.z63, C.z16, ↓C.z64, C.z15, ↓C.z65, C.z14, ↓C.z67, C.z11, ↓C.z69, C.z8, ↓C.z68, C.z9, ↓C.z75, C.bf_b, ↓C.z70, C.z7, ↓C.z76, C.z10, ↓C.z71, C.z19, ↓C.bb_w, C.bb_b, C.q13, hd, hz, dl_get f (show 2 < 120 by omega), t4, wn, hil']
  rw [C.sj_w, awp_keep]
  exact chip_dom H hil hB fun s2 hB2 fr hfr => ⟨i + 1, hfr, ⟨hil, hB2⟩, by omega⟩

theorem chip_clk (H : ChipH st s0 ir idr f) {i : Nat} (hi : i < f 1 % 9) (h : Box s0 s ib (Soc.mk ((List.range (i + 1)).map (chClk f)) [] [] []).cells) {Q : IExit → AFr → ASt → Prop}
    (hQ : ∀ s2, Box s0 s2 ib (Soc.mk ((List.range (i + 1 + 1)).map (chClk f)) [] [] []).cells → ∀ fr, fr.keep [2, 3, 4, 6, 7, 8] = [(2, .ptr ir 0), (3, .int .i64 1), (4, .sl 1 idr 0 120), (6, .ptr ib 0), (7, .str [112, 100, 103, 109, 103]), (8, .int .i64 ((i + 1 : Nat) : Int))] → Q .normal fr s2) :
    awp Tryz.prog C.sk Q [(2, .ptr ir 0), (3, .int .i64 1), (4, .sl 1 idr 0 120), (6, .ptr ib 0), (7, .str [112, 100, 103, 109, 103]), (8, .int .i64 i)] s := by
  have hi4 : i < 8 := by omega
  have wi : IntKind.i64.wrap ((i : Int) + 1) = ((i + 1 : Nat) : Int) := wsucc hi4 (by omega)
  have w3i : IntKind.i64.wrap (3 * (i : Int)) = ((3 * i : Nat) : Int) := by rw [wrap64] <;> omega
  have w10 : IntKind.i64.wrap (10 + ((3 * i : Nat) : Int)) = ((10 + 3 * i : Nat) : Int) := by rw [wrap64] <;> omega
  simp only [↓Bt, Bu, simprocAttr, ↓C.z73, C.bg_b, ↓C.z62, C.z17, ↓C.z61, C.z18, ↓C.z72, C.bj_b, ↓C.z63, C.z16, ↓C.z64, C.z15, ↓C.z65, C.z14, ↓C.z66, C.z12, ↓C.z74, C.z13, ↓C.z67, C.z11, ↓C.z69, C.z8, ↓C.z70, C.z7, ↓C.z76, C.z10, ↓C.z71, C.z19, ↓C.bb_w, C.bb_b, C.q13, w3i, w10]
  obtain ⟨k, hk⟩ : ∃ k, k = 10 + 3 * i := ⟨_, rfl⟩
  rw [← hk]
  have hd := h.base _ _ H.d
  have hz : ∀ c, c ≤ 2 → (0 : Int) ≤ ((k + c : Nat) : Int) ∧ ((k + c : Nat) : Int) < 120 := fun c hc => by omega
  have hz0 : (0 : Int) ≤ ((k : Nat) : Int) ∧ ((k : Nat) : Int) < 120 := by omega
  have hg : ∀ c, c ≤ 2 → (ints (dl f 120))[k + c]? = some (.int .i64 (f (k + c) : Int)) := fun c hc => dl_get f (by omega)
  have hg0 : (ints (dl f 120))[k]? = some (.int .i64 (f k : Int)) := dl_get f (by omega)
  have w1 : IntKind.i64.wrap ((k : Int) + 1) = ((k + 1 : Nat) : Int) := by rw [wrap64] <;> omega
  have w2 : IntKind.i64.wrap ((k : Int) + 2) = ((k + 2 : Nat) : Int) := by rw [wrap64] <;> omega
  have t5 : ∀ a : Nat, (a : Int).tmod 5 = ((a % 5 : Nat) : Int) := fun a => nat_tmod a 5
  have t8 : ∀ a : Nat, (a : Int).tmod 8 = ((a % 8 : Nat) : Int) := fun a => nat_tmod a 8
  have t4 : ∀ a : Nat, (a : Int).tmod 4 = ((a % 4 : Nat) : Int) := fun a => nat_tmod a 4
  have q8 : ∀ x, IntKind.i64.wrap (((f x : Nat) : Int).tdiv 8) = ((f x / 8 : Nat) : Int) := fun x => by
    have := H.lt x
    rw [show ((f x : Nat) : Int).tdiv 8 = ((f x / 8 : Nat) : Int) from nat_tdiv _ 8, wrap64] <;> omega
  have q32 : ∀ x, IntKind.i64.wrap (((f x : Nat) : Int).tdiv 32) = ((f x / 32 : Nat) : Int) := fun x => by
    have := H.lt x
    rw [show ((f x : Nat) : Int).tdiv 32 = ((f x / 32 : Nat) : Int) from nat_tdiv _ 32, wrap64] <;> omega
  have p8 : ∀ x : Nat, IntKind.i64.wrap (1 + ((x % 8 : Nat) : Int)) = 1 + ((x % 8 : Nat) : Int) := fun x => by rw [wrap64] <;> omega
  have p4 : ∀ x : Nat, IntKind.i64.wrap (1 + ((x % 4 : Nat) : Int)) = 1 + ((x % 4 : Nat) : Int) := fun x => by rw [wrap64] <;> omega
  obtain ⟨vs, L, hB⟩ := h
  have hvl := hB.2.1.len
  have h0l : 0 < vs.length := by rw [← hvl]; exact (by decide : 0 < 4)
  obtain ⟨a0, e0, l0⟩ := hB.2.1.slen (o := 0) rfl
  have l0 : a0.slen = some (i + 1) := by rw [l0]; simp
  have n0 : ¬ ((i + 1 : Nat) : Int) = 0 := by omega
  have hstr : ([112, 100, 103, 109, 103] : List Nat)[f k % 5]? = some (kindN (f k % 5)).toNat := by
    have : f k % 5 < 5 := by omega
    rcases (show f k % 5 = 0 ∨ f k % 5 = 1 ∨ f k % 5 = 2 ∨ f k % 5 = 3 ∨ f k % 5 = 4 by omega) with e | e | e | e | e <;> rw [e] <;> rfl
  have hkn : (((kindN (f k % 5)).toNat : Nat) : Int) = kindN (f k % 5) := by
    rcases (show f k % 5 = 0 ∨ f k % 5 = 1 ∨ f k % 5 = 2 ∨ f k % 5 = 3 ∨ f k % 5 = 4 by omega) with e | e | e | e | e <;> rw [e] <;> rfl
  have hp5 : (0 : Int) ≤ ((f k % 5 : Nat) : Int) := by omega
  simp only [↓Bt, Bu, simprocAttr, ↓C.z73, C.bg_b, ↓C.z62, C.z17, ↓C.z61, C.z18, ↓C.z72, C.bj_b, ↓C.z63, C.z16, ↓C.z64, C.z15, ↓C.z65, C.z14, ↓C.z66, C.z12, ↓C.z74, C.z13, ↓C.z67, C.z11, ↓C.z69, C.z8, ↓C.z75, C.bf_b, ↓C.z70, C.z7, ↓C.z76, C.z10, ↓C.z71, C.z19, ↓C.bb_w, C.bb_b, C.q13, hd, hz0, hz 1, Int.toNat_natCast, Nat.mul_one, hg0, hg 1, t5, w1, hB.1, e0, l0, n0, nat_tmod, hstr, hp5, hkn]
  rintro ix hix i6 ⟨hi6, hne⟩
  simp only [↓Bt, Bu, simprocAttr, ↓C.z73, C.bg_b, ↓C.z62, C.z17, ↓C.z61, C.z18, ↓C.z72, C.bj_b, ↓C.z63, C.z16, ↓C.z64, C.z15, ↓C.z65, C.z14, ↓C.z66, C.z12, ↓C.z74, C.z13, ↓C.z67, C.z11, ↓C.z69, C.z8, ↓C.z75, C.bf_b, ↓C.z70, C.z7, ↓C.z76, C.z10, ↓C.z71, C.z19, ↓C.bb_w, C.bb_b, C.q13, hi6, hne, allLeaf, AV.leaf]
  have hi6' : (s.new ix (AObj.cells [AV.int .i64 ((f (k + 1) % (i + 1) : Nat) : Int)])).h i6 = none := by rw [ASt.new_none]; exact ⟨hi6, hne⟩
  rw [ASt.new_set hi6']
  have hle : s.le ((s.new ix (AObj.cells [AV.int .i64 ((f (k + 1) % (i + 1) : Nat) : Int)])).new i6 (AObj.cells [AV.int .u8 (kindN (f k % 5)), AV.sl 1 ix 0 1, AV.int .u64 0, AV.int .i64 0, AV.int .i64 0, AV.int .i64 0])) := (ASt.le.new _ _ _).trans (ASt.le.new _ _ _)
  have h6 := ASt.new_self (AObj.cells [AV.int .u8 (kindN (f k % 5)), AV.sl 1 ix 0 1, AV.int .u64 0, AV.int .i64 0, AV.int .i64 0, AV.int .i64 0]) hi6'
  have hxx := ASt.new_old (id := i6) (o := AObj.cells [AV.int .u8 (kindN (f k % 5)), AV.sl 1 ix 0 1, AV.int .u64 0, AV.int .i64 0, AV.int .i64 0, AV.int .i64 0]) (ASt.new_self (st := s) (AObj.cells [AV.int .i64 ((f (k + 1) % (i + 1) : Nat) : Int)]) hix)
  generalize (s.new ix (AObj.cells [AV.int .i64 ((f (k + 1) % (i + 1) : Nat) : Int)])).new i6 (AObj.cells [AV.int .u8 (kindN (f k % 5)), AV.sl 1 ix 0 1, AV.int .u64 0, AV.int .i64 0, AV.int .i64 0, AV.int .i64 0]) = sx at hle h6 hxx
  have hdx := hle _ _ hd
  have hne2 : ¬ ix = i6 := fun e => hne e.symm
  have hid6 : ¬ idr = i6 := by rintro rfl; rw [hi6] at hd; cases hd
  have bx : ∀ (t : ASt) (m d l : Int), s.le t → t.h i6 = some (.cells [AV.int .u8 (kindN (f k % 5)), AV.sl 1 ix 0 1, AV.int .u64 0, AV.int .i64 m, AV.int .i64 d, AV.int .i64 l]) → t.h ix = some (.cells [AV.int .i64 ((f (k + 1) % (i + 1) : Nat) : Int)]) →
      Box s t i6 (Clk.cells ⟨kindN (f k % 5), [((f (k + 1) % (i + 1) : Nat) : Int)], 0, m, d, l⟩) := by
    intro t m d l h1 h2 h3
    refine ⟨_, [ix], h2, .one rfl (.sl (L1 := []) (L2 := []) h3 (RepL.scalars rfl _) (by simp) (by simp) (by simp) (RepL.scalars rfl _)), by simpa using hne, by simpa using hix, hi6, h1⟩
  have hset : ∀ {t : ASt} (o : AObj), s.le t → s.le (t.set i6 o) := fun {t} o ht j x hj => by
    rw [ASt.set_h, if_neg (by rintro rfl; rw [hi6] at hj; cases hj)]
    exact ht _ _ hj
  rw [C.bkc_w, awp_keep, awp_seq]
  refine awp_mid (fun _ : Unit => [(2, .ptr ir 0), (3, .int .i64 1), (4, .sl 1 idr 0 120), (6, .ptr ib 0), (7, .str [112, 100, 103, 109, 103]), (8, .int .i64 i), (10, .ptr i6 0)]) (fun _ t => Box s t i6 (chClk f (i + 1)).cells) ?_ ?_
  · rcases (show f k % 5 = 0 ∨ f k % 5 = 1 ∨ f k % 5 = 2 ∨ f k % 5 = 3 ∨ f k % 5 = 4 by omega) with e | e | e | e | e <;> rw [e] at bx h6
    · have hck : chClk f (i + 1) = ⟨kindN 0, [((f (k + 1) % (i + 1) : Nat) : Int)], 0, 1 + ((f (k + 2) % 8 : Nat) : Int), 1 + ((f (k + 2) / 8 % 4 : Nat) : Int), ((f (k + 2) / 32 % 4 : Nat) : Int)⟩ := by
        simp only [chClk, ← hk, e]; rfl
      rw [show kindN 0 = 112 from rfl] at h6
      simp only [↓Bt, Bu, simprocAttr, ↓C.q13_W, C.q13_B, C.q13, h6, hdx, hz 2, Int.toNat_natCast, Nat.mul_one, hg 2, w2, t8, t4, q8, q32, p8, p4, hne, hne2, hid6]
      rw [hck]
      refine ⟨(), bx _ _ _ _ (hset _ (hset _ (hset _ hle))) ?_ ?_⟩
      · simp only [ASt.set_h, if_true, h6, Option.map_some]; rfl
      · simp only [ASt.set_h, if_neg hne2, hxx]
    · have hck : chClk f (i + 1) = ⟨kindN 1, [((f (k + 1) % (i + 1) : Nat) : Int)], 0, 0, 1 + ((f (k + 2) % 8 : Nat) : Int), 0⟩ := by
        simp only [chClk, ← hk, e]; rfl
      rw [show kindN 1 = 100 from rfl] at h6
      simp only [↓Bt, Bu, simprocAttr, ↓C.q13_W, C.q13_B, C.q13, h6, hdx, hz 2, Int.toNat_natCast, Nat.mul_one, hg 2, w2, t8, t4, q8, q32, p8, p4, hne, hne2, hid6]
      rw [hck]
      refine ⟨(), bx _ _ _ _ (hset _ hle) ?_ ?_⟩
      · simp only [ASt.set_h, if_true, h6, Option.map_some]; rfl
      · simp only [ASt.set_h, if_neg hne2, hxx]
    · have hck : chClk f (i + 1) = ⟨kindN 2, [((f (k + 1) % (i + 1) : Nat) : Int)], 0, 0, 0, 0⟩ := by
        simp only [chClk, ← hk, e]; rfl
      have h6' := h6
      rw [show kindN 2 = 103 from rfl] at h6
      simp only [↓Bt, Bu, simprocAttr, ↓C.q13_W, C.q13_B, C.q13, h6]
      rw [hck]
      exact ⟨(), bx _ _ _ _ hle h6' hxx⟩
    · have hck : chClk f (i + 1) = ⟨kindN 3, [((f (k + 1) % (i + 1) : Nat) : Int), ((f (k + 2) % (i + 1) : Nat) : Int)], 0, 0, 0, 0⟩ := by
        simp only [chClk, ← hk, e]; rfl
      have hBx : BoxL s sx i6 [AV.int .u8 (kindN 3), AV.sl 1 ix 0 1, AV.int .u64 0, AV.int .i64 0, AV.int .i64 0, AV.int .i64 0] (Clk.cells ⟨kindN 3, [((f (k + 1) % (i + 1) : Nat) : Int)], 0, 0, 0, 0⟩) [ix] :=
        ⟨h6, .one rfl (.sl (L1 := []) (L2 := []) hxx (RepL.scalars rfl _) (by simp) (by simp) (by simp) (RepL.scalars rfl _)), by simpa using hne, by simpa using hix, hi6, hle⟩
      obtain ⟨v, v1, v2, hap⟩ := BoxL.append (b := i6) (o := 1) (new := [.int .i64 ((f (k + 2) % (i + 1) : Nat) : Int)]) (newc := [.int .i64 ((f (k + 2) % (i + 1) : Nat) : Int)]) (Ln := []) hBx rfl (by rw [ints_length, Nat.mul_one]) (by simp) (RepL.scalars rfl _) rfl (by simp) (by simp) (by simp)
      cases v1
      have hBi := hle _ _ hB.1
      rw [show kindN 3 = 109 from rfl] at h6 hap
      simp only [↓Bp, Bq, Bs, simprocAttr, ↓C.q13_W, C.q13_B, C.q13, h6, hdx, hz 2, Int.toNat_natCast, Nat.mul_one, hg 2, w2, nat_tmod, n0, hBi, e0, l0]
      refine hap rfl (fun _ => rfl) (fun _ => rfl) fun v1' i2 t2 hs hBx2 => ?_
      simp only [↓Bt, Bu, simprocAttr, ↓C.q13_W, C.q13_B, C.q13, hs]
      rw [hck]
      exact ⟨(), hBx2⟩
    · have hck : chClk f (i + 1) = ⟨kindN 4, [((f (k + 1) % (i + 1) : Nat) : Int)], 0, 0, 0, 0⟩ := by
        simp only [chClk, ← hk, e]; rfl
      have h6' := h6
      rw [show kindN 4 = 103 from rfl] at h6
      simp only [↓Bt, Bu, simprocAttr, ↓C.q13_W, C.q13_B, C.q13, h6]
      rw [hck]
      exact ⟨(), bx _ _ _ _ hle h6' hxx⟩
  clear bx h6 hxx hdx hle hset
  rintro - t ⟨ws, Lw, hXL⟩
  have h1 := hB.1
  have hBt := BoxL.grow hB hXL.2.2.2.2.2
  have hdis : ∀ j ∈ Lw, j ∉ L := fun j hj hm => hB.2.1.live j hm (hXL.2.2.2.1 j hj)
  have hibw : ib ∉ Lw := fun hm => by have := hXL.2.2.2.1 ib hm; rw [h1] at this; cases this
  have hwl : 6 = ws.length := hXL.2.1.len
  obtain ⟨v, v1, v2, hap⟩ := BoxL.append (b := ib) (o := 0) (new := ws) (newc := (chClk f (i + 1)).cells) (Ln := Lw) hBt rfl (flatMap_len Clk.cells_len _) (by simp; omega) hXL.2.1 hwl.symm hibw (fun j hj => fresh_of_le hB.2.2.2.2.2 (hXL.2.2.2.1 j hj)) hdis
  have e6 : AV.agg (List.take 6 ws) = .agg ws := by rw [show 6 = ws.length from hwl, List.take_length]
  have hw6 : 6 ≤ ws.length := by rw [← hwl]; simp
  simp only [↓Bp, Bq, Bs, simprocAttr, ↓C.q13_W, C.q13_B, C.q13, hBt.1, v1, hXL.1, hw6, e6]
  refine hap (aput_one rfl hwl.symm) (fun _ => rfl) (fun _ => rfl) fun v1' i2 t2 hs hBx => ?_
  simp only [↓Bt, Bu, simprocAttr, ↓C.q13_W, C.q13_B, C.q13, hs, h0l, wi]
  refine hQ _ ?_ _ rfl
  have e : (Soc.mk ((List.range (i + 1 + 1)).map (chClk f)) [] [] []).cells = ((Soc.mk ((List.range (i + 1)).map (chClk f)) [] [] []).cells.set 0 (AV.isl 6 (List.flatMap Clk.cells (Soc.mk ((List.range (i + 1)).map (chClk f)) [] [] []).clocks ++ (chClk f (i + 1)).cells) ((Soc.mk ((List.range (i + 1)).map (chClk f)) [] [] []).clocks.length + 1))) := by
    rw [List.range_succ (n := i + 1), List.map_append]
    simp [Soc.cells, Soc.clkV, Soc.domV, Soc.rstV, Soc.devV]
  rw [e]; exact hBx

theorem chip_c65 (H : ChipH st s0 ir idr f) (h : Box s0 s ib (Soc.mk [chClk f 0] [] [] []).cells) :
    awp Tryz.prog C.sl (Post [.cellN 2 4] (ChipQ st (chipD f))) [(2, .ptr ir 0), (4, .sl 1 idr 0 120), (6, .ptr ib 0)] s := by
  simp only [↓Bt, Bu, simprocAttr, ↓C.z69, C.z8, ↓C.z68, C.z9, ↓C.z75, C.bf_b, ↓C.z70, C.z7, ↓C.z76, C.z10, ↓C.z71, C.z19, ↓C.bb_w, C.bb_b, C.q13]
  refine awp_midB (fun _ : Unit => [(2, .ptr ir 0), (4, .sl 1 idr 0 120), (6, .ptr ib 0)]) (fun _ s => Box s0 s ib (Soc.mk ((List.range (nClk f)).map (chClk f)) [] [] []).cells) ?_ (fun _ s h => chip_c42 H (by simp) h)
  refine awp_loopK (fun i : Nat => [(2, .ptr ir 0), (3, .int .i64 1), (4, .sl 1 idr 0 120), (6, .ptr ib 0), (7, .str [112, 100, 103, 109, 103]), (8, .int .i64 i)]) (fun i s => i ≤ f 1 % 9 ∧ Box s0 s ib (Soc.mk ((List.range (i + 1)).map (chClk f)) [] [] []).cells) (fun i => f 1 % 9 - i) 0 rfl ⟨Nat.zero_le _, h⟩ ?_
  rintro i s ⟨hi, hB⟩
  have hd := hB.base _ _ H.d
  have t9 : ∀ a : Nat, (a : Int).tmod 9 = ((a % 9 : Nat) : Int) := fun a => nat_tmod a 9
  have hz : (0 : Int) ≤ 1 ∧ (1 : Int) < 120 := by omega
  by_cases hil : i < f 1 % 9
  rotate_left
  · have hie : i = f 1 % 9 := by omega
    have hil' : ¬ (i : Int) < ((f 1 % 9 : Nat) : Int) := by omega
    simp only [↓Bt, Bu, simprocAttr, ↓C.q13_W, C.q13_B, C.q13, hd, hz, dl_get f (show 1 < 120 by omega), t9, hil']
    rw [nClk, ← hie]
    exact ⟨(), hB⟩
  have hil' : (i : Int) < ((f 1 % 9 : Nat) : Int) := by omega
  simp only [↓Bt, Bu, simprocAttr, ↓C.z73, C.bg_b, ↓C.z62, C.z17, ↓C.z61, C.z18, ↓C.z72, C.bj_b, ↓C.z63, C.z16, ↓C.z64, C.z15, ↓C.z65, C.z14, ↓C.z66, C.z12, ↓C.z74, C.z13, ↓C.z67, C.z11, ↓C.z70, C.z7, ↓C.z76, C.z10, ↓C.z71, C.z19, ↓C.bb_w, C.bb_b, C.q13, hd, hz, dl_get f (show 1 < 120 by omega), t9, hil']
  rw [C.sk_w, awp_keep]
  exact chip_clk H hil hB fun s2 hB2 fr hfr => ⟨i + 1, hfr, ⟨hil, hB2⟩, by omega⟩

theorem chip_c66 (H : ChipH st s0 ir idr f) :
    awp Tryz.prog C.bkd (Post [.cellN 2 4] (ChipQ st (chipD f))) [(2, .ptr ir 0), (4, .sl 1 idr 0 120)] s0 := by
  have hz : (0 : Int) ≤ 0 ∧ (0 : Int) < 120 := by omega
  have w1 : IntKind.i64.wrap (1 + ((f 0 : Nat) : Int)) = 1 + ((f 0 : Nat) : Int) := by have := H.lt 0; rw [wrap64] <;> omega
  have u1 : IntKind.u64.wrap (1 + ((f 0 : Nat) : Int)) = 1 + ((f 0 : Nat) : Int) := by have := H.lt 0; rw [wrapU64] <;> omega
  simp only [↓Bt, Bu, simprocAttr, ↓C.z76, C.z10, ↓C.z71, C.z19, ↓C.bb_w, C.bb_b, C.q13, H.d, hz, dl_get f (show 0 < 120 by omega), w1, u1]
  rintro ix hix ib ⟨hib, hne⟩
  simp only [↓Bt, Bu, simprocAttr, ↓C.z76, C.z10, ↓C.z71, C.z19, ↓C.bb_w, C.bb_b, C.q13, hib, hne, allLeaf, AV.leaf]
  have hib' : (s0.new ix (AObj.cells [AV.int .u8 111, AV.nils, AV.int .u64 (1 + ((f 0 : Nat) : Int)), AV.int .i64 0, AV.int .i64 0, AV.int .i64 0])).h ib = none := by rw [ASt.new_none]; exact ⟨hib, hne⟩
  rw [ASt.new_set hib']
  rw [C.sl_w, awp_keep]
  refine chip_c65 (s0 := s0) H ⟨_, [ix], ASt.new_self _ hib', .sl (L1 := []) (L2 := []) (ASt.new_old (ASt.new_self _ hix)) (.one rfl (.nils 1 (RepL.scalars rfl _))) (by simp) (by simp) (by simp) (.nils 3 (.nils 1 (.nils 6 .nil))), by simpa using hne, by simpa using hix, hib, (ASt.le.new _ _ _).trans (ASt.le.new _ _ _)⟩
end
theorem drawN_at {l : List Int} {i : Nat} (h : l.length ≠ 0) : drawN l i = pickI ((l[i % l.length]'(Nat.mod_lt _ (by omega))).tdiv (1 + ((i / l.length : Nat) : Int))) 1000000 := by
  have hi : i % l.length < l.length := Nat.mod_lt _ (by omega)
  rw [drawN, if_neg h, List.getD_eq_getElem?_getD, List.getElem?_eq_getElem hi]; rfl
theorem dl_empty {l : List Int} (h : l.length = 0) (i : Nat) : dl (drawN l) i = dl (drawN l) 120 := by
  have h0 : ∀ j, drawN l j = 0 := fun j => by rw [drawN, if_pos h]
  simp [dl, h0]
theorem chip_own {st : ASt} {l : List Int} (hl : ∀ x ∈ l, -9223372036854775808 ≤ x ∧ x ≤ 9223372036854775807) (hll : l.length ≤ 9223372036854775807) :
    ACalls Tryz.prog F.q13 [row l] st (ChipQ st (chipS l)) := by
  refine calls_of_awp L.q13 rfl ?_
  simp only [↓Bt, Bu, simprocAttr, ↓C.bb_w, C.bb_b, C.q13]
  rintro ir hir
  simp only [↓Bt, Bu, simprocAttr, ↓C.z73, C.bg_b, ↓C.z62, C.z17, ↓C.z61, C.z18, ↓C.z72, C.bj_b, ↓C.z63, C.z16, ↓C.z64, C.z15, ↓C.z65, C.z14, ↓C.z66, C.z12, ↓C.z74, C.z13, ↓C.z67, C.z11, ↓C.z69, C.z8, ↓C.z68, C.z9, ↓C.z75, C.bf_b, ↓C.z70, C.z7, ↓C.z76, C.z10, ↓C.bb_w, C.bb_b, C.q13, row]
  rintro id ⟨hid, hne⟩
  have hne2 : ¬ ir = id := fun e => hne e.symm
  have hz0 := dl_zero (drawN l)
  have h0 : (st.new ir (AObj.cells [AV.nils, AV.nils, AV.nils, AV.nils])).h id = none := by rw [ASt.new_none]; exact ⟨hid, hne⟩
  have hle := (ASt.le.new st ir (AObj.cells [AV.nils, AV.nils, AV.nils, AV.nils])).trans (ASt.le.new _ id (.cells (ints (dl (drawN l) 0))))
  have hr := ASt.new_old (id := id) (o := .cells (ints (dl (drawN l) 0))) (ASt.new_self (st := st) (AObj.cells [AV.nils, AV.nils, AV.nils, AV.nils]) hir)
  have hd := ASt.new_self (.cells (ints (dl (drawN l) 0))) h0
  simp only [zeros, List.cons_append, List.nil_append] at hz0
  rw [← hz0]
  generalize (st.new ir (AObj.cells [AV.nils, AV.nils, AV.nils, AV.nils])).new id (.cells (ints (dl (drawN l) 0))) = s0 at hle hr hd
  simp only [↓Bt, Bu, simprocAttr, ↓C.q13_W, C.q13_B, C.q13]
  refine awp_midB (fun _ : Unit => [(2, .ptr ir 0), (4, .sl 1 id 0 120)]) (fun _ s => ChipH st s ir id (drawN l)) ?_ (fun _ s h => chip_c66 h)
  refine awp_loopK (fun i : Nat => [(0, .isl 1 (ints l) l.length), (2, .ptr ir 0), (4, .sl 1 id 0 120), (5, .int .i64 i)]) (fun i s => i ≤ 120 ∧ st.le s ∧ s.h ir = some (.cells [.nils, .nils, .nils, .nils]) ∧ s.h id = some (.cells (ints (dl (drawN l) i)))) (fun i => 120 - i) 0 rfl ⟨Nat.zero_le _, hle, hr, hd⟩ ?_
  clear hle hr hd
  rintro i s ⟨hi, hle, hr, hd⟩
  have c120 : 120 = 120 := rfl
  have fin : dl (drawN l) i = dl (drawN l) 120 → ChipH st s ir id (drawN l) := fun e => ⟨drawN_lt l, hr, by rw [← e]; exact hd, hir, hle⟩
  by_cases h120 : i < 120
  rotate_left
  · have hie : i = 120 := by omega
    have h120' : ¬ (i : Int) < 120 := by omega
    simp only [↓Bt, Bu, simprocAttr, ↓C.q13_W, C.q13_B, C.q13, c120, h120']
    exact ⟨(), fin (by rw [hie])⟩
  have h120' : (i : Int) < 120 := by omega
  by_cases hl0 : l.length = 0
  · have hl0' : ¬ (0 : Int) < (l.length : Nat) := by omega
    simp only [↓Bt, Bu, simprocAttr, ↓C.q13_W, C.q13_B, C.q13, c120, h120', hl0', gt_iff_lt]
    exact ⟨(), fin (dl_empty hl0 i)⟩
  have hl0' : (0 : Int) < (l.length : Nat) := by omega
  have hln : ¬ ((l.length : Nat) : Int) = 0 := by omega
  have him : i % l.length < l.length := Nat.mod_lt _ (by omega)
  have hzm : (0 : Int) ≤ ((i % l.length : Nat) : Int) ∧ ((i % l.length : Nat) : Int) < (l.length : Nat) := by omega
  have hgm := ints_get him
  have hdiv : i / l.length ≤ i := Nat.div_le_self _ _
  obtain ⟨q, hq⟩ : ∃ q, q = i / l.length := ⟨_, rfl⟩
  rw [← hq] at hdiv
  have wq : IntKind.i64.wrap ((q : Nat) : Int) = ((q : Nat) : Int) := by rw [wrap64] <;> omega
  have w1 : IntKind.i64.wrap (1 + ((q : Nat) : Int)) = 1 + ((q : Nat) : Int) := by rw [wrap64] <;> omega
  have n1 : ¬ (1 + ((q : Nat) : Int)) = 0 := by omega
  have hlm := hl _ (List.getElem_mem him)
  have wt := tdiv_i64 hlm.1 hlm.2 (b := 1 + ((q : Nat) : Int)) (by omega)
  have hz : (0 : Int) ≤ (i : Int) ∧ (i : Int) < 120 := by omega
  have ws := wsucc h120 (by omega)
  simp only [↓Bt, Bu, simprocAttr, ↓C.q13_W, C.q13_B, C.q13, c120, h120', hl0', hln, nat_tmod, nat_tdiv, hzm, Int.toNat_natCast, Nat.mul_one, hgm, ← hq, wq, w1, n1, wt, gt_iff_lt]
  have hbd : -9223372036854775808 ≤ (l[i % l.length]).tdiv (1 + ((q : Nat) : Int)) ∧ (l[i % l.length]).tdiv (1 + ((q : Nat) : Int)) ≤ 9223372036854775807 := by
    rw [← wt]
    have e : IntKind.bits .i64 = 64 := rfl
    have hs : IntKind.signed .i64 = true := rfl
    simp only [IntKind.wrap, e, hs, Bool.true_and, decide_eq_true_eq]
    split <;> omega
  refine (pick_spec hbd (n := 1000000) (by omega)).mono ?_
  rintro r s2 ⟨rfl, rfl⟩
  rw [hq, ← drawN_at hl0]
  have hdl : i < (ints (dl (drawN l) i)).length := by rw [ints_length, dl_length]; exact h120
  simp only [↓Bt, Bu, simprocAttr, ↓C.q13_W, C.q13_B, C.q13, hd, hz, Int.toNat_natCast, Nat.mul_one, hdl, ints_set, dl_set _ h120, ws, c120]
  refine ⟨i + 1, rfl, ⟨h120, fun j o hj => ?_, ?_, ?_⟩, by omega⟩
  · rw [ASt.set_h, if_neg (by rintro rfl; rw [hid] at hj; cases hj)]
    exact hle _ _ hj
  · rw [if_neg hne2]; exact hr
  · exact Eq.refl _
theorem chip_frz {st : ASt} {l : List Int} (hl : ∀ x ∈ l, -9223372036854775808 ≤ x ∧ x ≤ 9223372036854775807) (hll : l.length ≤ 9223372036854775807) :
    ACalls Tryz.prog F.q13 [row l] st fun r s' => r = .agg (chipS l).cells ∧ s' = st :=
  (chip_own hl hll).ghost fun r s' ⟨vs, L, h1, h2, h3, h4⟩ => ⟨.agg (chipS l).cells, st, by rw [h1]; exact h2.ghostAgg.trans (Ghost.sub (h4.killL h3)), rfl, rfl⟩
/- Power: Tick, New, Chain. -/
set_option maxRecDepth 100000

def encEv (e : Int × Nat) : List AV := [.int .u8 e.1, .int .i64 e.2]
def evsV (l : List (Int × Nat)) : AV := .isl 2 (l.flatMap encEv) l.length
def evTo (gs : List Gd) (i : Nat) : List (Int × Nat) := ((List.range i).filter fun j => decide (gev (gs.getD j ⟨0, 0, false, 0, 0, false, false⟩) ≠ 0)).map fun j => (gev (gs.getD j ⟨0, 0, false, 0, 0, false, false⟩), j)
def evs (gs : List Gd) : List (Int × Nat) := evTo gs gs.length
theorem evTo_succ {gs : List Gd} {i : Nat} (h : i < gs.length) : evTo gs (i + 1) = if gev gs[i] ≠ 0 then evTo gs i ++ [(gev gs[i], i)] else evTo gs i := by
  have e : gs.getD i ⟨0, 0, false, 0, 0, false, false⟩ = gs[i] := by simp [h]
  simp only [evTo, List.range_succ, List.filter_append]
  by_cases hg : gev gs[i] = 0
  · rw [if_neg (by simp [hg])]; simp only [List.filter_cons, List.filter_nil, e, hg]; simp
  · rw [if_pos hg]; simp only [List.filter_cons, List.filter_nil, e]; simp [hg, h]
theorem evTo_len (gs : List Gd) (i : Nat) : (evTo gs i).length ≤ i := by
  have := List.length_filter_le (fun j => decide (gev (gs.getD j ⟨0, 0, false, 0, 0, false, false⟩) ≠ 0)) (List.range i)
  simpa [evTo] using this
def gtickTo (gs : List Gd) (i : Nat) : List Gd := (gs.take i).map gtick ++ gs.drop i
def gtickL (gs : List Gd) : List Gd := gs.map gtick
theorem gtickTo_len (gs : List Gd) (i : Nat) : (gtickTo gs i).length = gs.length := by simp [gtickTo]; omega
theorem gtickTo_at {gs : List Gd} {i : Nat} (h : i < gs.length) : (gtickTo gs i)[i]'(by rw [gtickTo_len]; exact h) = gs[i] := by
  simp only [gtickTo]
  rw [List.getElem_append_right (by simp; omega)]
  simp [Nat.min_eq_left (Nat.le_of_lt h)]
theorem gtickTo_set {gs : List Gd} {i : Nat} (h : i < gs.length) : (gtickTo gs i).set i (gtick gs[i]) = gtickTo gs (i + 1) := by
  simp only [gtickTo]
  rw [List.set_append_right _ _ (by simp; omega), List.take_succ_eq_append_getElem h, List.map_append]
  have : i - ((gs.take i).map gtick).length = 0 := by simp; omega
  rw [this, ← List.getElem_cons_drop (h := h), List.set_cons_zero]
  simp
theorem gtickTo_zero (gs : List Gd) : gtickTo gs 0 = gs := by simp [gtickTo]
theorem gtickTo_all (gs : List Gd) : gtickTo gs gs.length = gtickL gs := by simp [gtickTo, gtickL]
theorem gtickL_len (gs : List Gd) : (gtickL gs).length = gs.length := by simp [gtickL]
theorem gtick_spec {st : ASt} {p ig : Nat} {gs : List Gd} (h : GridAt st p ig gs) (hl : ∀ g ∈ gs, g.left ≤ 1000) :
    ACalls Tryz.prog F.q94 [.ptr p 0] st fun r s => r = evsV (evs gs) ∧ s = st.set ig (gsC (gtickL gs)) := by
  refine ACalls.ghost (Q' := fun r s => Over (st.set ig (gsC (gtickL gs))) s 2 r (evs gs).length ((evs gs).flatMap encEv)) (calls_of_awp L.q94 rfl ?_) (fun r s hO => ⟨_, _, hO.frz, rfl, rfl⟩)
  have hp := h.hp
  simp only [↓Bt, Bu, simprocAttr, ↓C.q94_W, C.q94_B, C.q94, hp]
  refine awp_midB (fun v : AV => [(3, v)]) (fun v s => Over (st.set ig (gsC (gtickL gs))) s 2 v (evs gs).length ((evs gs).flatMap encEv)) ?_ ?_
  rotate_left
  · intro v s hO
    simp only [↓Bt, Bu, simprocAttr, ↓C.q94_W, C.q94_B, C.q94]
    exact hO
  refine awp_loopK (fun w : Nat × AV => [(0, .ptr p 0), (3, w.2), (12, .int .i64 gs.length), (13, .int .i64 w.1)]) (fun w s => w.1 ≤ gs.length ∧ Over (st.set ig (gsC (gtickTo gs w.1))) s 2 w.2 (evTo gs w.1).length ((evTo gs w.1).flatMap encEv)) (fun w => gs.length - w.1) (0, .nils) rfl
    ⟨Nat.zero_le _, by rw [gtickTo_zero, ASt.set_id h.hg]; exact Over.nils (ASt.le.refl _) 2⟩ ?_
  rintro ⟨i, v⟩ s ⟨hi, hO⟩
  simp only at hi hO
  by_cases hil : i < gs.length
  rotate_left
  · have hie : i = gs.length := by omega
    have hil' : ¬ (i : Int) < (gs.length : Nat) := by omega
    simp only [↓Bt, Bu, simprocAttr, ↓C.q94_W, C.q94_B, C.q94, hil']
    rw [hie, gtickTo_all] at hO
    exact ⟨v, rfl, hO⟩
  have hil' : (i : Int) < (gs.length : Nat) := by omega
  have hw := wsucc hil (by have := h.few; omega)
  have hz : (0:Int) ≤ (i : Int) ∧ (i : Int) < (gs.length : Nat) := by omega
  have hG := (h.set (gs' := gtickTo gs i) (gtickTo_len gs i)).le hO.2.1
  have hps := hG.hp
  rw [gtickTo_len] at hps
  have htl : i < (gtickTo gs i).length := by rw [gtickTo_len]; exact hil
  simp only [↓Bt, Bu, simprocAttr, ↓C.q94_W, C.q94_B, C.q94, hil', hps, hz, Int.toNat_natCast]
  refine (dtick_spec htl hG.hg (by rw [gtickTo_at hil]; exact hl _ (List.getElem_mem hil))).mono ?_
  rintro r s2 ⟨rfl, rfl⟩
  rw [gtickTo_at hil, gtickTo_set hil]
  have hbm : (st.set ig (gsC (gtickTo gs i))).h ig ≠ none := by rw [ASt.set_h, if_pos rfl, h.hg]; simp
  have hOm : Over (st.set ig (gsC (gtickTo gs (i + 1)))) (s.set ig (gsC (gtickTo gs (i + 1)))) 2 v (evTo gs i).length ((evTo gs i).flatMap encEv) := by
    have := hO.rebase (base' := (st.set ig (gsC (gtickTo gs i))).set ig (gsC (gtickTo gs (i + 1)))) (st' := s.set ig (gsC (gtickTo gs (i + 1)))) (keep_set hbm) (hO.2.1.set _ _)
    rw [ASt.set_set] at this
    exact this
  generalize s.set ig (gsC (gtickTo gs (i + 1))) = s3 at hOm
  have hlen := evTo_len gs i
  have hfew := h.few
  by_cases he : gev gs[i] = 0
  · have hT := eq_true he
    simp only [↓Bt, Bu, simprocAttr, ↓C.q94_W, C.q94_B, C.q94, hT, hw]
    refine ⟨(i + 1, v), rfl, ⟨hil, ?_⟩, by simp only; omega⟩
    simp only
    rw [evTo_succ hil, if_neg (by simp [he])]
    exact hOm
  · have hT := eq_false he
    simp only [↓Bp, Bq, Bs, simprocAttr, ↓C.q94_W, C.q94_B, C.q94, hT]
    refine aop_append_over hOm (by omega) (new := encEv (gev gs[i], i)) rfl rfl rfl (fun _ => rfl) (fun _ => rfl) fun v1 v2 t3 hP => ?_
    simp only [↓Bt, Bu, simprocAttr, ↓C.q94_W, C.q94_B, C.q94, hw]
    refine ⟨(i + 1, v2), rfl, ⟨hil, ?_⟩, by simp only; omega⟩
    simp only
    rw [evTo_succ hil, if_pos he, List.length_append, List.flatMap_append]
    simpa using hP

def gfresh (ds : List Dom) : List Gd := ds.map fun d => ⟨d.above, d.delay, d.ret, 48, 0, false, false⟩
theorem gfresh_len (ds : List Dom) : (gfresh ds).length = ds.length := by simp [gfresh]
theorem RepL.flat {st : ASt} {vs cs : List AV} {L : List Nat} (h : RepL st vs cs L) (hc : cs.all AV.scalar = true) : vs = cs := by
  induction h with
  | nil => rfl
  | one h t ih =>
    simp only [List.all_cons, Bool.and_eq_true] at hc
    rw [ih hc.2]
  | nils sz t ih => simp [AV.scalar] at hc
  | sl h r h1 h2 hd t ih1 ih2 => simp [AV.scalar] at hc
theorem RepL.slice1 {st : ASt} {vs : List AV} {sz n : Nat} {ds : List AV} {L : List Nat} (h : RepL st vs [.isl sz ds n] L) :
    (vs = [.nils] ∧ n = 0 ∧ ds = []) ∨ ∃ id ws L1, vs = [.sl sz id 0 n] ∧ st.h id = some (.cells ws) ∧ RepL st ws ds L1 ∧ id ∉ L1 ∧ L = id :: (L1 ++ []) := by
  cases h with
  | one h t => cases h
  | nils _ t => cases t; exact .inl ⟨rfl, rfl, rfl⟩
  | sl h r h1 h2 hd t => cases t; exact .inr ⟨_, _, _, rfl, h, r, h1, rfl⟩
theorem gcells_scalar (gs : List Gd) : (gs.flatMap Gd.cells).all AV.scalar = true := by
  rw [List.all_eq_true]
  intro x hx
  obtain ⟨y, _, hy⟩ := List.mem_flatMap.mp hx
  simp only [Gd.cells, List.mem_cons, List.mem_nil_iff, or_false] at hy
  rcases hy with rfl | rfl | rfl | rfl | rfl | rfl | rfl <;> rfl
def GridQ (st : ASt) (s : Soc) (r : AV) (s' : ASt) : Prop := ∃ p ig, r = .tup [.ptr p 0, .int .i64 0] ∧ GridAt s' p ig (gfresh s.doms) ∧ st.h p = none ∧ st.h ig = none ∧ st.le s'
theorem gnew_spec {st : ASt} {s : Soc} (hs : s.fine) (he : confErr s = 0) (hn : s.doms.length ≠ 0) (hn2 : s.doms.length ≤ 6) : ACalls Tryz.prog F.q97 [.agg s.cells] st (GridQ st s) := by
  refine calls_of_awp L.q97 rfl ?_
  have l4 : s.cells.length = 4 := rfl
  have e4 : AV.agg (List.take 4 s.cells) = .agg s.cells := rfl
  simp only [↓Bt, Bu, simprocAttr, ↓C.bn_w, C.bn_b, C.q97]
  rintro ib hib
  have hle0 := ASt.le.new st ib (.cells s.cells)
  have hb := ASt.new_self (.cells s.cells) hib
  generalize st.new ib (.cells s.cells) = s0 at hle0 hb
  simp only [↓Bt, Bu, simprocAttr, ↓C.q97_W, C.q97_B, C.q97, hb, l4, e4]
  refine (conf_check_spec hs).mono ?_
  rintro r s1 ⟨rfl, rfl⟩
  rw [he]
  rw [Soc.cells, Soc.domV] at hb
  simp only [↓Bt, Bu, simprocAttr, ↓C.z107, C.z35, ↓C.bn_w, C.bn_b, C.q97]
  rintro q hq
  have hX : Box s1 (s1.new q (.cells [.nils])) q [.isl 7 [] 0] := Box.start hq (.nils 7 .nil)
  generalize s1.new q (.cells [.nils]) = s2 at hX
  have hb2 := hX.base _ _ hb
  simp only [↓Bt, Bu, simprocAttr, ↓C.q97_W, C.q97_B, C.q97, hb2]
  refine awp_midB (fun _ : Unit => [(5, .ptr q 0)]) (fun _ t => Box s1 t q [.isl 7 ((gfresh s.doms).flatMap Gd.cells) s.doms.length]) ?_ ?_
  · refine awp_loopK (fun i : Nat => [(5, .ptr q 0), (16, .isl 3 (s.doms.flatMap Dom.cells) s.doms.length), (17, .int .i64 s.doms.length), (18, .int .i64 i)]) (fun i t => i ≤ s.doms.length ∧ Box s1 t q [.isl 7 ((gfresh (s.doms.take i)).flatMap Gd.cells) i]) (fun i => s.doms.length - i) 0 rfl ⟨Nat.zero_le _, hX⟩ ?_
    clear hX
    rintro i t ⟨hi, hX⟩
    by_cases hil : i < s.doms.length
    rotate_left
    · have hil' : ¬ (i : Int) < (s.doms.length : Nat) := by omega
      simp only [↓Bt, Bu, simprocAttr, ↓C.q97_W, C.q97_B, C.q97, hil']
      rw [show i = s.doms.length by omega, List.take_length] at hX
      exact ⟨(), hX⟩
    have hil' : (i : Int) < (s.doms.length : Nat) := by omega
    have hz : (0:Int) ≤ (i : Int) ∧ (i : Int) < (s.doms.length : Nat) := by omega
    have hw := wsucc hil (by omega)
    have hf := flatMap_fits (f := Dom.cells) (k := 3) (fun _ => rfl) hil
    have ht := flatMap_at (f := Dom.cells) (k := 3) (fun _ => rfl) hil
    obtain ⟨d, hd⟩ : ∃ d, d = s.doms[i] := ⟨_, rfl⟩
    rw [← hd] at ht
    have l3 : d.cells.length = 3 := rfl
    have f3 : allLeaf d.cells = true := rfl
    simp only [↓Bt, Bu, simprocAttr, ↓C.z106, C.z34, ↓C.z107, C.z35, ↓C.bn_w, C.bn_b, C.q97, hil', hz, Int.toNat_natCast, hf, ht]
    rintro id hid
    simp only [↓Bt, Bu, simprocAttr, ↓C.z106, C.z34, ↓C.z107, C.z35, ↓C.bn_w, C.bn_b, C.q97, hid, l3, f3]
    rw [show putN [AV.int .i64 0, AV.int .i64 0, AV.bool false] 0 d.cells = d.cells from putN_all rfl, ASt.new_set hid]
    have hd2 := ASt.new_self (.cells d.cells) hid
    have hX2 := hX.grow (ASt.le.new t id (.cells d.cells))
    generalize t.new id (.cells d.cells) = t2 at hd2 hX2
    rw [Dom.cells] at hd2
    obtain ⟨xs, K, hXL⟩ := hX2
    have hxl : 1 = xs.length := hXL.2.1.len
    have hgl : (gfresh (s.doms.take i)).length = i := by rw [gfresh_len]; simp; omega
    obtain ⟨g, hg⟩ : ∃ g : Gd, g = ⟨d.above, d.delay, d.ret, 48, 0, false, false⟩ := ⟨_, rfl⟩
    obtain ⟨v, v1, v2, hap⟩ := BoxL.append (b := q) (o := 0) (new := g.cells) (newc := g.cells) (Ln := []) hXL rfl (by rw [flatMap_len Gd.cells_len, hgl]) (by omega) (RepL.scalars rfl _) rfl (by simp) (by simp) (by simp)
    have h0l : 0 < xs.length := by omega
    have hgc : g.cells = [.int .i64 d.above, .int .i64 d.delay, .bool d.ret, .int .u8 48, .int .i64 0, .bool false, .bool false] := by rw [hg]; rfl
    simp only [↓Bp, Bq, Bs, simprocAttr, ↓C.q97_W, C.q97_B, C.q97, hXL.1, v1, hd2]
    refine hap (by rw [hgc]; rfl) (fun _ => rfl) (fun _ => rfl) fun v1' j2 t3 hs2 hBx => ?_
    simp only [↓Bt, Bu, simprocAttr, ↓C.q97_W, C.q97_B, C.q97, hs2, h0l, hw]
    refine ⟨i + 1, rfl, ⟨hil, ?_⟩, by omega⟩
    have e3 : (gfresh (s.doms.take (i + 1))).flatMap Gd.cells = (gfresh (s.doms.take i)).flatMap Gd.cells ++ g.cells := by
      rw [List.take_succ_eq_append_getElem hil, gfresh, List.map_append, List.flatMap_append, ← hd, hg]
      simp only [List.map_cons, List.map_nil, List.flatMap_cons, List.flatMap_nil, List.append_nil, gfresh]
    rw [e3]; exact hBx
  · rintro - t ⟨vs, L, hv, hR, hqL, hfr, hqn, hl5⟩
    simp only [↓Bt, Bu, simprocAttr, ↓C.q97_W, C.q97_B, C.q97]
    rcases hR.slice1 with ⟨rfl, h0, _⟩ | ⟨ig, ws, L1, rfl, hws, hr, hn1, rfl⟩
    · exact absurd h0 hn
    have := hr.flat (gcells_scalar _)
    subst this
    refine ⟨q, ig, rfl, ⟨by rw [gfresh_len]; exact hv, hws, fun e => hqL (by rw [e]; simp), by rw [gfresh_len]; omega⟩, fresh_of_le hle0 hqn, fresh_of_le hle0 (hfr ig (by simp)), hle0.trans hl5⟩
/- Power: Chain. -/
set_option maxRecDepth 100000

def Lesser (gs : List Gd) : Prop := ∀ i (h : i < gs.length), gs[i].above = -1 ∨ (0 ≤ gs[i].above ∧ gs[i].above < (i : Int))
/- Clocks: a tree's nodes, and what each of its functions does. -/
set_option maxRecDepth 100000

structure Nd where
  c : Clk
  on : Bool
  left : Int
  set : Int
  want : Int
  by_ : Int
def Nd.cells (n : Nd) : List AV := [.int .u8 n.c.kind, row n.c.src, .int .u64 n.c.rate, .int .i64 n.c.mul, .int .i64 n.c.div, .int .i64 n.c.lock, .bool n.on, .int .i64 n.left, .int .i64 n.set, .int .i64 n.want, .int .i64 n.by_]
theorem Nd.cells_len (n : Nd) : n.cells.length = 11 := rfl
def nsC (ns : List Nd) : AObj := .cells (ns.flatMap Nd.cells)
structure TreeAt (st : ASt) (p ig : Nat) (ns : List Nd) : Prop where
  hp : st.h p = some (.cells [.sl 11 ig 0 ns.length])
  hg : st.h ig = some (nsC ns)
  ne : p ≠ ig
  few : ns.length ≤ 100
theorem TreeAt.set {st : ASt} {p ig : Nat} {ns : List Nd} (h : TreeAt st p ig ns) {ns' : List Nd} (hl : ns'.length = ns.length) : TreeAt (st.set ig (nsC ns')) p ig ns' :=
  ⟨by rw [ASt.set_h, if_neg h.ne, hl]; exact h.hp, by rw [ASt.set_h, if_pos rfl, h.hg]; rfl, h.ne, by rw [hl]; exact h.few⟩
theorem TreeAt.le {st t : ASt} {p ig : Nat} {ns : List Nd} (h : TreeAt st p ig ns) (hl : st.le t) : TreeAt t p ig ns := ⟨hl _ _ h.hp, hl _ _ h.hg, h.ne, h.few⟩
theorem ns_get {ns : List Nd} {i j : Nat} (hi : i < ns.length) (hj : j < 11) : (ns.flatMap Nd.cells)[i * 11 + j]? = ns[i].cells[j]? := rows_get Nd.cells (w := 11) (fun _ => rfl) hi hj
theorem ns_put {ns : List Nd} {i j : Nat} (hi : i < ns.length) (hj : j < 11) {v : AV} {n : Nd} (hx : ns[i].cells.set j v = n.cells) : (ns.flatMap Nd.cells).set (i * 11 + j) v = (ns.set i n).flatMap Nd.cells :=
  flatMap_set Nd.cells_len hi hj hx
theorem ns_fit {ns : List Nd} {i : Nat} (hi : i < ns.length) : i * 11 + 11 ≤ (ns.flatMap Nd.cells).length := flatMap_fits (f := Nd.cells) (k := 11) (fun _ => rfl) hi
def isCk (ns : List Nd) (i : Int) : Prop := 0 ≤ i ∧ i < (ns.length : Int)
instance (ns : List Nd) (i : Int) : Decidable (isCk ns i) := inferInstanceAs (Decidable (_ ∧ _))
theorem isCk_at {ns : List Nd} {i : Nat} (h : i < ns.length) : isCk ns (i : Int) := ⟨by omega, by omega⟩
def Nd.source (n : Nd) : Int := if n.c.src = [] then -1 else n.c.src.getD n.set.toNat 0
structure NdOk (i : Nat) (n : Nd) : Prop where
  kind : n.c.kind = 111 ∨ n.c.kind = 112 ∨ n.c.kind = 100 ∨ n.c.kind = 103 ∨ n.c.kind = 109
  osc : n.c.kind = 111 ↔ n.c.src = []
  few : n.c.src.length ≤ 2
  less : ∀ x ∈ n.c.src, 0 ≤ x ∧ x < (i : Int)
  set : 0 ≤ n.set ∧ (n.c.src ≠ [] → n.set < (n.c.src.length : Int)) ∧ (n.c.src = [] → n.set = 0)
  want : 0 ≤ n.want ∧ (n.c.src ≠ [] → n.want < (n.c.src.length : Int)) ∧ (n.c.src = [] → n.want = 0)
  left : 0 ≤ n.left ∧ n.left ≤ 20
  lock : 0 ≤ n.c.lock ∧ n.c.lock ≤ 20
  by_ : n.c.kind = 100 → 1 ≤ n.by_ ∧ n.by_ ≤ 1000
  rate : 0 ≤ n.c.rate ∧ n.c.rate ≤ 1000000
  fac : n.c.kind = 112 → (1 ≤ n.c.mul ∧ n.c.mul ≤ 1000) ∧ (1 ≤ n.c.div ∧ n.c.div ≤ 1000)
def NsOk (ns : List Nd) : Prop := ∀ i (h : i < ns.length), NdOk i ns[i]
theorem NdOk.src {i : Nat} {n : Nd} (h : NdOk i n) (h0 : n.c.src ≠ []) : ∃ x : Nat, n.source = (x : Int) ∧ x < i ∧ n.c.src[n.set.toNat]? = some (x : Int) := by
  have hs := h.set.2.1 h0
  have hs0 := h.set.1
  have hl : n.set.toNat < n.c.src.length := by omega
  have hm := h.less _ (List.getElem_mem hl)
  refine ⟨n.c.src[n.set.toNat].toNat, ?_, by omega, ?_⟩
  · rw [Nd.source, if_neg h0, List.getD_eq_getElem?_getD, List.getElem?_eq_getElem hl]
    simp only [Option.getD_some]; omega
  · rw [List.getElem?_eq_getElem hl]; congr 1; omega
theorem ints_get' {l : List Int} {i : Nat} {x : Int} (h : l[i]? = some x) : (ints l)[i]? = some (.int .i64 x) := by simp [ints, h]
section
variable {st : ASt} {p ig : Nat} {ns : List Nd} (h : TreeAt st p ig ns)
include h
theorem cat_spec (i : Int) : ACalls Tryz.prog F.q20 [.ptr p 0, .int .i64 i] st fun r s => r = (if isCk ns i then .ptr ig (i.toNat * 11) else .nilp) ∧ s = st := by
  refine calls_of_awp L.q20 rfl ?_
  have hp := h.hp
  by_cases h0 : i < 0
  · have hn : ¬ isCk ns i := fun e => by have := e.1; omega
    rw [if_neg hn]
    simp only [↓Bt, Bu, simprocAttr, ↓C.q20_W, C.q20_B, C.q20, h0]
  by_cases h1 : (ns.length : Int) ≤ i
  · have hn : ¬ isCk ns i := fun e => by have := e.2; omega
    rw [if_neg hn]
    simp only [↓Bt, Bu, simprocAttr, ↓C.q20_W, C.q20_B, C.q20, h0, hp, h1, ge_iff_le]
  obtain ⟨k, rfl⟩ : ∃ k : Nat, i = k := ⟨i.toNat, by omega⟩
  have hk : k < ns.length := by omega
  have hz : (0:Int) ≤ (k : Int) ∧ (k : Int) < (ns.length : Nat) := by omega
  rw [if_pos (isCk_at hk)]
  simp only [↓Bt, Bu, simprocAttr, ↓C.q20_W, C.q20_B, C.q20, h0, hp, h1, hz, Int.toNat_natCast, ge_iff_le]
theorem source_spec {i : Nat} (hi : i < ns.length) (ho : NdOk i ns[i]) : ACalls Tryz.prog F.q21 [.ptr p 0, .int .i64 i] st fun r s => r = .int .i64 ns[i].source ∧ s = st := by
  refine calls_of_awp L.q21 rfl ?_
  have hp := h.hp
  have hg := h.hg
  rw [nsC] at hg
  have hz : (0:Int) ≤ (i : Int) ∧ (i : Int) < (ns.length : Nat) := by omega
  have g1 := ns_get hi (j := 1) (by omega)
  rw [show ns[i].cells[1]? = some (row ns[i].c.src) from rfl] at g1
  have g8 := ns_get hi (j := 8) (by omega)
  rw [show ns[i].cells[8]? = some (.int .i64 ns[i].set) from rfl] at g8
  by_cases h0 : ns[i].c.src = []
  · rw [h0] at g1
    rw [Nd.source, if_pos h0]
    have c0 : ((0 : Nat) : Int) = 0 := rfl
    simp only [↓Bt, Bu, simprocAttr, ↓C.q21_W, C.q21_B, C.q21, hp, hg, hz, g1, row, c0, Int.toNat_natCast]
  · obtain ⟨x, h1, h2, h3⟩ := ho.src h0
    have hl : ns[i].c.src.length ≠ 0 := fun e => h0 (List.eq_nil_of_length_eq_zero e)
    have T := eq_false (show ¬ ((ns[i].c.src.length : Nat) : Int) = 0 by omega)
    have hs := ho.set.2.1 h0
    have hs0 := ho.set.1
    have hzs : 0 ≤ ns[i].set ∧ ns[i].set < (ns[i].c.src.length : Nat) := ⟨hs0, hs⟩
    have hgx := ints_get' h3
    rw [h1]
    simp only [↓Bt, Bu, simprocAttr, ↓C.q21_W, C.q21_B, C.q21, hp, hg, hz, g1, g8, row, T, hzs, hgx, Int.toNat_natCast, Nat.mul_one]
end
def Nd.turn (n : Nd) (b : Bool) : Nd := if n.c.kind = 112 ∧ b = false then { n with on := b, left := n.c.lock } else { n with on := b }
def onE (n : Nd) : Int := if n.c.kind = 112 ∨ n.c.kind = 103 then 0 else 1
def onL (ns : List Nd) (i : Nat) (hi : i < ns.length) (b : Bool) : List Nd := if onE ns[i] = 0 then ns.set i (ns[i].turn b) else ns
def divE (n : Nd) (d : Int) : Int := if n.c.kind = 100 ∧ 1 ≤ d ∧ d ≤ 1000 then 0 else 1
def divL (ns : List Nd) (i : Nat) (hi : i < ns.length) (d : Int) : List Nd := if divE ns[i] d = 0 then ns.set i { ns[i] with by_ := d } else ns
/- Clocks: which run. -/
set_option maxRecDepth 100000

def Nd.own (n : Nd) : Bool := if n.c.kind = 112 then n.on && decide (n.left = 0) else if n.c.kind = 103 then n.on else true
def runF (ns : List Nd) : Nat → Nat → Bool
  | 0, _ => false
  | f + 1, i => if h : i < ns.length then (if ns[i].c.kind = 111 then true else ns[i].own && runF ns f ns[i].source.toNat) else false
def run (ns : List Nd) (i : Nat) : Bool := runF ns (i + 1) i
theorem NdOk.low {i : Nat} {n : Nd} (h : NdOk i n) (h0 : n.c.kind ≠ 111) : ∃ x : Nat, n.source = (x : Int) ∧ x < i ∧ n.c.src[n.set.toNat]? = some (x : Int) :=
  h.src fun e => h0 (h.osc.mpr e)
theorem runF_same {ns : List Nd} (hN : NsOk ns) : ∀ (f g i : Nat), i < f → i < g → runF ns f i = runF ns g i
  | 0, _, _, h, _ => by omega
  | _, 0, _, _, h => by omega
  | f + 1, g + 1, i, h1, h2 => by
    rw [runF, runF]
    by_cases hi : i < ns.length
    · rw [dif_pos hi, dif_pos hi]
      by_cases hk : ns[i].c.kind = 111
      · rw [if_pos hk, if_pos hk]
      · obtain ⟨x, e1, e2, _⟩ := (hN i hi).low hk
        rw [if_neg hk, if_neg hk, e1, Int.toNat_natCast, runF_same hN f g x (by omega) (by omega)]
    · rw [dif_neg hi, dif_neg hi]
theorem run_eq {ns : List Nd} (hN : NsOk ns) {i : Nat} (hi : i < ns.length) : run ns i = if ns[i].c.kind = 111 then true else ns[i].own && run ns ns[i].source.toNat := by
  rw [run, runF, dif_pos hi]
  by_cases hk : ns[i].c.kind = 111
  · rw [if_pos hk, if_pos hk]
  · obtain ⟨x, e1, e2, _⟩ := (hN i hi).low hk
    rw [if_neg hk, if_neg hk, e1, Int.toNat_natCast, run, runF_same hN i (x + 1) x (by omega) (by omega)]
section
variable {st : ASt} {p ig : Nat} {ns : List Nd}
set_option maxHeartbeats 1000000 in
theorem runs_spec (h : TreeAt st p ig ns) (hN : NsOk ns) {b2 b5 : Nat} (h2 : st.h b2 = some (.cells [.ptr p 0])) (h5 : st.h b5 = some (.cells [.fn F.q18 [.ptr b2 0, .ptr b5 0]])) :
    ∀ i : Nat, i < ns.length → ACalls Tryz.prog F.q18 [.int .i64 i, .ptr b2 0, .ptr b5 0] st fun r s => r = .bool (run ns i) ∧ s = st := by
  intro i
  induction i using Nat.strongRecOn with
  | _ i ih =>
  intro hi
  refine calls_of_awp L.q18 rfl ?_
  have hp := h.hp
  have hg := h.hg
  rw [nsC] at hg
  have hz : (0:Int) ≤ (i : Int) ∧ (i : Int) < (ns.length : Nat) := by omega
  have g0 := ns_get hi (j := 0) (by omega)
  rw [show ns[i].cells[0]? = some (.int .u8 ns[i].c.kind) from rfl, Nat.add_zero] at g0
  have g6 := ns_get hi (j := 6) (by omega)
  rw [show ns[i].cells[6]? = some (.bool ns[i].on) from rfl] at g6
  have g7 := ns_get hi (j := 7) (by omega)
  rw [show ns[i].cells[7]? = some (.int .i64 ns[i].left) from rfl] at g7
  rw [run_eq hN hi, Nd.own]
  by_cases k1 : ns[i].c.kind = 111
  · rw [if_pos k1]
    rw [k1] at g0
    simp only [↓Bt, Bu, simprocAttr, ↓C.q18_W, C.q18_B, C.q18, h2, hp, hg, hz, g0, Int.toNat_natCast]
  obtain ⟨x, e1, e2, e3⟩ := (hN i hi).low k1
  have hxl : x < ns.length := by omega
  have src := source_spec h hi (hN i hi)
  have hx := ih x e2 hxl
  rw [if_neg k1]
  by_cases k2 : ns[i].c.kind = 112
  · rw [if_pos k2, e1, Int.toNat_natCast]
    rw [k2] at g0
    cases hon : ns[i].on
    · rw [hon] at g6
      simp only [↓Bt, Bu, simprocAttr, ↓C.q18_W, C.q18_B, C.q18, h2, hp, hg, hz, g0, g6, Int.toNat_natCast]
      exact ⟨(fun e => by cases e), rfl⟩
    rw [hon] at g6
    by_cases hl : ns[i].left = 0
    · have T := eq_true hl
      simp only [↓Bt, Bu, simprocAttr, ↓C.q18_W, C.q18_B, C.q18, h2, h5, hp, hg, hz, g0, g6, g7, T, Int.toNat_natCast]
      refine src.mono ?_
      rintro r s ⟨rfl, rfl⟩
      rw [e1]
      simp only [↓Bt, Bu, simprocAttr, ↓C.q18_W, C.q18_B, C.q18, h2, h5]
      refine ⟨fun _ => trivial, by kernel_rfl, hx.mono ?_⟩
      rintro r s ⟨rfl, rfl⟩
      simp only [↓Bt, Bu, simprocAttr, ↓C.q18_W, C.q18_B, C.q18]
      rw [Bool.true_and]
    · have T := eq_false hl
      simp only [↓Bt, Bu, simprocAttr, ↓C.q18_W, C.q18_B, C.q18, h2, hp, hg, hz, g0, g6, g7, T, Int.toNat_natCast]
      exact ⟨(fun e => by cases e), rfl⟩
  rw [if_neg k2]
  have T112 := eq_false k2
  have T111 := eq_false k1
  by_cases k3 : ns[i].c.kind = 103
  · rw [if_pos k3, e1, Int.toNat_natCast]
    rw [k3] at g0
    cases hon : ns[i].on
    · rw [hon] at g6
      simp only [↓Bt, Bu, simprocAttr, ↓C.q18_W, C.q18_B, C.q18, h2, hp, hg, hz, g0, g6, Int.toNat_natCast]
      exact ⟨(fun e => by cases e), rfl⟩
    rw [hon] at g6
    simp only [↓Bt, Bu, simprocAttr, ↓C.q18_W, C.q18_B, C.q18, h2, h5, hp, hg, hz, g0, g6, Int.toNat_natCast]
    refine src.mono ?_
    rintro r s ⟨rfl, rfl⟩
    rw [e1]
    simp only [↓Bt, Bu, simprocAttr, ↓C.q18_W, C.q18_B, C.q18, h2, h5]
    refine ⟨fun _ => trivial, by kernel_rfl, hx.mono ?_⟩
    rintro r s ⟨rfl, rfl⟩
    simp only [↓Bt, Bu, simprocAttr, ↓C.q18_W, C.q18_B, C.q18]
    rw [Bool.true_and]
  rw [if_neg k3, e1, Int.toNat_natCast, Bool.true_and]
  have T103 := eq_false k3
  simp only [↓Bt, Bu, simprocAttr, ↓C.q18_W, C.q18_B, C.q18, h2, h5, hp, hg, hz, g0, T111, T112, T103, Int.toNat_natCast]
  refine src.mono ?_
  rintro r s ⟨rfl, rfl⟩
  rw [e1]
  simp only [↓Bt, Bu, simprocAttr, ↓C.q18_W, C.q18_B, C.q18, h2, h5]
  refine ⟨by kernel_rfl, hx.mono ?_⟩
  rintro r s ⟨rfl, rfl⟩
  simp only [↓Bt, Bu, simprocAttr, ↓C.q18_W, C.q18_B, C.q18]
def runI (ns : List Nd) (i : Int) : Bool := if isCk ns i then run ns i.toNat else false
theorem running_spec (h : TreeAt st p ig ns) (hN : NsOk ns) (i : Int) : ACalls Tryz.prog F.q17 [.ptr p 0, .int .i64 i] st fun r s => r = .bool (runI ns i) ∧ s = st := by
  refine ACalls.gc (Q' := fun r s => r = .bool (runI ns i) ∧ st.le s) (calls_of_awp L.q17 rfl ?_) (fun v s ⟨h, hl⟩ => ⟨st, hl, h, rfl⟩)
  simp only [↓Bt, Bu, simprocAttr, ↓C.q17_W, C.q17_B, C.q17]
  rintro b2 hb2
  simp only [↓Bt, Bu, simprocAttr, ↓C.q17_W, C.q17_B, C.q17, hb2]
  have h2 := ASt.new_self (.cells [.ptr p 0]) hb2
  have hle := ASt.le.new st b2 (.cells [.ptr p 0])
  have hT := h.le hle
  generalize st.new b2 (.cells [.ptr p 0]) = s0 at h2 hle hT
  refine (cat_spec hT i).mono ?_
  rintro r s ⟨rfl, rfl⟩
  unfold runI
  by_cases hi : isCk ns i
  rotate_left
  · rw [if_neg hi, if_neg hi]
    simp only [↓Bt, Bu, simprocAttr, ↓C.q17_W, C.q17_B, C.q17]
    exact hle
  rw [if_pos hi, if_pos hi]
  obtain ⟨k, rfl⟩ : ∃ k : Nat, i = k := ⟨i.toNat, by have := hi.1; omega⟩
  have hk : k < ns.length := by have := hi.2; omega
  simp only [↓Bt, Bu, simprocAttr, ↓C.q17_W, C.q17_B, C.q17]
  rintro b5 hb5
  simp only [↓Bt, Bu, simprocAttr, hb5]
  refine ⟨by kernel_rfl, ?_⟩
  rw [ASt.new_set hb5]
  have hle5 := ASt.le.new s b5 (.cells [.fn F.q18 [.ptr b2 0, .ptr b5 0]])
  have hT5 := hT.le hle5
  have h25 := hle5 _ _ h2
  have h55 := ASt.new_self (.cells [.fn F.q18 [.ptr b2 0, .ptr b5 0]]) hb5
  refine (runs_spec hT5 hN h25 h55 k hk).mono ?_
  rintro r s2 ⟨rfl, rfl⟩
  simp only [↓Bt, Bu, simprocAttr, ↓C.q17_W, C.q17_B, C.q17]
  rw [Int.toNat_natCast]
  exact ⟨rfl, hle.trans hle5⟩
theorem running_at (h : TreeAt st p ig ns) (hN : NsOk ns) {i : Nat} (hi : i < ns.length) : ACalls Tryz.prog F.q17 [.ptr p 0, .int .i64 i] st fun r s => r = .bool (run ns i) ∧ s = st :=
  (running_spec h hN i).mono fun r s ⟨h1, h2⟩ => ⟨by rw [h1, runI, if_pos (isCk_at hi), Int.toNat_natCast], h2⟩
def cchain (ns : List Nd) : Nat → Nat → List Nat
  | 0, _ => []
  | f + 1, i => if h : i < ns.length then (if ns[i].c.kind = 111 then [i] else cchain ns f ns[i].source.toNat ++ [i]) else []
def chainN (ns : List Nd) (i : Nat) : List Nat := cchain ns (i + 1) i
theorem cchain_same (hN : NsOk ns) : ∀ (f g i : Nat), i < f → i < g → cchain ns f i = cchain ns g i
  | 0, _, _, h, _ => by omega
  | _, 0, _, _, h => by omega
  | f + 1, g + 1, i, h1, h2 => by
    rw [cchain, cchain]
    by_cases hi : i < ns.length
    · rw [dif_pos hi, dif_pos hi]
      by_cases hk : ns[i].c.kind = 111
      · rw [if_pos hk, if_pos hk]
      · obtain ⟨x, e1, e2, _⟩ := (hN i hi).low hk
        rw [if_neg hk, if_neg hk, e1, Int.toNat_natCast, cchain_same hN f g x (by omega) (by omega)]
    · rw [dif_neg hi, dif_neg hi]
theorem chainN_eq (hN : NsOk ns) {i : Nat} (hi : i < ns.length) : chainN ns i = if ns[i].c.kind = 111 then [i] else chainN ns ns[i].source.toNat ++ [i] := by
  rw [chainN, cchain, dif_pos hi]
  by_cases hk : ns[i].c.kind = 111
  · rw [if_pos hk, if_pos hk]
  · obtain ⟨x, e1, e2, _⟩ := (hN i hi).low hk
    rw [if_neg hk, if_neg hk, e1, Int.toNat_natCast, chainN, cchain_same hN i (x + 1) x (by omega) (by omega)]
end
/- Clocks: Chain, Tick. -/
set_option maxRecDepth 100000

section
variable {st : ASt} {p ig : Nat} {ns : List Nd}
def Nd.tick (R : Nat → Bool) (n : Nd) : Nd :=
  if n.c.kind = 112 then
    (if n.on = true then (if R n.source.toNat = false then { n with left := n.c.lock } else if 0 < n.left then { n with left := n.left - 1 } else n) else n)
  else if n.c.kind = 109 ∧ n.want ≠ n.set ∧ (R (n.c.src.getD n.want.toNat 0).toNat = true ∨ R (n.c.src.getD n.set.toNat 0).toNat = false) then { n with set := n.want } else n
def ctickTo (ns : List Nd) (R : Nat → Bool) (i : Nat) : List Nd := (ns.take i).map (Nd.tick R) ++ ns.drop i
def ctickL (ns : List Nd) : List Nd := ns.map (Nd.tick (run ns))
theorem ctickTo_len (ns : List Nd) (R : Nat → Bool) (i : Nat) : (ctickTo ns R i).length = ns.length := by simp [ctickTo]; omega
theorem ctickTo_at {R : Nat → Bool} {i : Nat} (h : i < ns.length) : (ctickTo ns R i)[i]'(by rw [ctickTo_len]; exact h) = ns[i] := by
  simp only [ctickTo]
  rw [List.getElem_append_right (by simp; omega)]
  simp [Nat.min_eq_left (Nat.le_of_lt h)]
theorem ctickTo_set {R : Nat → Bool} {i : Nat} (h : i < ns.length) : (ctickTo ns R i).set i (Nd.tick R ns[i]) = ctickTo ns R (i + 1) := by
  simp only [ctickTo]
  rw [List.set_append_right _ _ (by simp; omega), List.take_succ_eq_append_getElem h, List.map_append]
  have : i - ((ns.take i).map (Nd.tick R)).length = 0 := by simp; omega
  rw [this, ← List.getElem_cons_drop (h := h), List.set_cons_zero]
  simp
theorem ctickTo_all (ns : List Nd) : ctickTo ns (run ns) ns.length = ctickL ns := by simp [ctickTo, ctickL]
theorem ctickL_len (ns : List Nd) : (ctickL ns).length = ns.length := by simp [ctickL]
end
def cbools (l : List Bool) : List AV := l.map .bool
theorem cbools_get {l : List Bool} {i : Nat} (h : i < l.length) : (cbools l)[i]? = some (.bool l[i]) := by simp [cbools, h]
theorem cbools_set (l : List Bool) (i : Nat) (v : Bool) : (cbools l).set i (.bool v) = cbools (l.set i v) := by simp [cbools, List.map_set]
theorem cbools_len (l : List Bool) : (cbools l).length = l.length := by simp [cbools]
theorem zeros_cbool (n : Nat) : zeros [.bool false] n = cbools (List.replicate n false) := by
  induction n with
  | zero => rfl
  | succ n ih => rw [zeros, ih]; rfl
section
variable {st : ASt} {p ig ir : Nat} {ns : List Nd} {B : List Bool}
set_option maxHeartbeats 4000000 in
theorem tick_node {t : ASt} {i : Nat} {M : List Nd} (h : TreeAt t p ig M) (hr : t.h ir = some (.cells (cbools B))) (hB : B.length = M.length) (hBr : ∀ j (hj : j < B.length), B[j] = run ns j) (hi : i < M.length) (ho : NdOk i M[i]) {Q : IExit → AFr → ASt → Prop}
    (hQ : ∀ fr, fr.keep [0, 2, 33, 34] = [(0, .ptr p 0), (2, .sl 1 ir 0 M.length), (33, .int .i64 M.length), (34, .int .i64 i)] → Q .normal fr (t.set ig (nsC (M.set i (Nd.tick (run ns) M[i]))))) :
    awp Tryz.prog C.tk Q [(0, .ptr p 0), (2, .sl 1 ir 0 M.length), (4, .int .i64 i), (33, .int .i64 M.length), (34, .int .i64 i)] t := by
  have hp := h.hp
  have hg := h.hg
  have hgx := hg
  rw [nsC] at hg
  have hz : (0:Int) ≤ (i : Int) ∧ (i : Int) < (M.length : Nat) := by omega
  have g0 := ns_get hi (j := 0) (by omega)
  rw [show M[i].cells[0]? = some (.int .u8 M[i].c.kind) from rfl, Nat.add_zero] at g0
  have g1 := ns_get hi (j := 1) (by omega)
  rw [show M[i].cells[1]? = some (row M[i].c.src) from rfl] at g1
  have g5 := ns_get hi (j := 5) (by omega)
  rw [show M[i].cells[5]? = some (.int .i64 M[i].c.lock) from rfl] at g5
  have g6 := ns_get hi (j := 6) (by omega)
  rw [show M[i].cells[6]? = some (.bool M[i].on) from rfl] at g6
  have g7 := ns_get hi (j := 7) (by omega)
  rw [show M[i].cells[7]? = some (.int .i64 M[i].left) from rfl] at g7
  have g8 := ns_get hi (j := 8) (by omega)
  rw [show M[i].cells[8]? = some (.int .i64 M[i].set) from rfl] at g8
  have g9 := ns_get hi (j := 9) (by omega)
  rw [show M[i].cells[9]? = some (.int .i64 M[i].want) from rfl] at g9
  have hfit := ns_fit hi
  have f7 : i * 11 + 7 < (M.flatMap Nd.cells).length := by omega
  have f8 : i * 11 + 8 < (M.flatMap Nd.cells).length := by omega
  have p7 : ∀ v : Int, (M.flatMap Nd.cells).set (i * 11 + 7) (.int .i64 v) = (M.set i { M[i] with left := v }).flatMap Nd.cells := fun v => ns_put hi (by omega) rfl
  have p8 : ∀ v : Int, (M.flatMap Nd.cells).set (i * 11 + 8) (.int .i64 v) = (M.set i { M[i] with set := v }).flatMap Nd.cells := fun v => ns_put hi (by omega) rfl
  have hlf := ho.left
  unfold Nd.tick at hQ
  by_cases k2 : M[i].c.kind = 112
  · rw [if_pos k2] at hQ
    rw [k2] at g0
    cases hon : M[i].on
    · rw [if_neg (by rw [hon]; decide), List.set_getElem_self, ASt.set_id hgx] at hQ
      rw [hon] at g6
      simp only [↓Bt, Bu, simprocAttr, ↓C.z81, C.z27, ↓C.z82, C.z24, ↓C.z83, C.z23, C.q19, hp, hg, hz, g0, g6, Int.toNat_natCast]
      rw [C.bx_w, awp_keep]
      simp only [↓Bt, Bu, simprocAttr, ↓C.z81, C.z27, ↓C.z85, C.z25, ↓C.z82, C.z24, ↓C.z83, C.z23, C.q19, hp, hg, hz, g0, g6, Int.toNat_natCast]
      rw [C.b2_w, awp_keep]
      simp only [↓Bt, Bu, simprocAttr, ↓C.z81, C.z27, ↓C.z85, C.z25, ↓C.z84, C.z26, ↓C.z82, C.z24, ↓C.z83, C.z23, C.q19, hp, hg, hz, g0, g6, Int.toNat_natCast]
      rw [C.cx_w, awp_keep]
      simp only [↓Bt, Bu, simprocAttr, ↓C.q19_W, C.q19_B, C.q19, hp, hg, hz, g0, g6, Int.toNat_natCast]
      exact hQ _ rfl
    rw [if_pos hon] at hQ
    rw [hon] at g6
    obtain ⟨x, e1, e2, e3⟩ := ho.low (by rw [k2]; decide)
    have hxB : x < B.length := by omega
    have hzx : (0:Int) ≤ (x : Int) ∧ (x : Int) < (M.length : Nat) := by omega
    have gx := cbools_get hxB
    rw [hBr x hxB] at gx
    rw [e1, Int.toNat_natCast] at hQ
    simp only [↓Bt, Bu, simprocAttr, ↓C.q19_W, C.q19_B, C.q19, hp, hg, hz, g0, g6, Int.toNat_natCast]
    refine (source_spec h hi ho).mono ?_
    rintro r s ⟨rfl, rfl⟩
    rw [e1]
    cases hrx : run ns x
    · rw [hrx] at gx
      rw [if_pos hrx] at hQ
      simp only [↓Bt, Bu, simprocAttr, ↓C.z81, C.z27, ↓C.z82, C.z24, ↓C.z83, C.z23, C.q19, hr, hg, hzx, gx, g5, f7, p7, Int.toNat_natCast, Nat.mul_one]
      rw [C.bx_w, awp_keep]
      simp only [↓Bt, Bu, simprocAttr, ↓C.q19_W, C.q19_B, C.q19, hr, hg, hzx, gx, g5, f7, p7, Int.toNat_natCast, Nat.mul_one]
      exact hQ _ rfl
    rw [hrx] at gx
    rw [if_neg (by rw [hrx]; decide)] at hQ
    by_cases hl : 0 < M[i].left
    · have T := eq_true hl
      have w : IntKind.i64.wrap (M[i].left - 1) = M[i].left - 1 := by rw [wrap64] <;> omega
      rw [if_pos hl] at hQ
      simp only [↓Bt, Bu, simprocAttr, ↓C.z81, C.z27, ↓C.z82, C.z24, ↓C.z83, C.z23, C.q19, hr, hg, hzx, gx, g0, g6, g7, gt_iff_lt, T, w, f7, p7, Int.toNat_natCast, Nat.mul_one]
      rw [C.bx_w, awp_keep]
      simp only [↓Bt, Bu, simprocAttr, ↓C.z81, C.z27, ↓C.z85, C.z25, ↓C.z82, C.z24, ↓C.z83, C.z23, C.q19, hr, hg, hzx, gx, g0, g6, g7, gt_iff_lt, T, w, f7, p7, Int.toNat_natCast, Nat.mul_one]
      rw [C.b2_w, awp_keep]
      simp only [↓Bt, Bu, simprocAttr, ↓C.q19_W, C.q19_B, C.q19, hr, hg, hzx, gx, g0, g6, g7, gt_iff_lt, T, w, f7, p7, Int.toNat_natCast, Nat.mul_one]
      exact hQ _ rfl
    · have T := eq_false hl
      rw [if_neg hl, List.set_getElem_self, ASt.set_id hgx] at hQ
      simp only [↓Bt, Bu, simprocAttr, ↓C.z81, C.z27, ↓C.z82, C.z24, ↓C.z83, C.z23, C.q19, hr, hg, hzx, gx, g0, g6, g7, gt_iff_lt, T, Int.toNat_natCast, Nat.mul_one]
      rw [C.bx_w, awp_keep]
      simp only [↓Bt, Bu, simprocAttr, ↓C.z81, C.z27, ↓C.z85, C.z25, ↓C.z82, C.z24, ↓C.z83, C.z23, C.q19, hr, hg, hzx, gx, g0, g6, g7, gt_iff_lt, T, Int.toNat_natCast, Nat.mul_one]
      rw [C.b2_w, awp_keep]
      simp only [↓Bt, Bu, simprocAttr, ↓C.z81, C.z27, ↓C.z85, C.z25, ↓C.z84, C.z26, ↓C.z82, C.z24, ↓C.z83, C.z23, C.q19, hr, hg, hzx, gx, g0, g6, g7, gt_iff_lt, T, Int.toNat_natCast, Nat.mul_one]
      rw [C.cx_w, awp_keep]
      simp only [↓Bt, Bu, simprocAttr, ↓C.q19_W, C.q19_B, C.q19, hr, hg, hzx, gx, g0, g6, g7, gt_iff_lt, T, Int.toNat_natCast, Nat.mul_one]
      exact hQ _ rfl
  rw [if_neg k2] at hQ
  have T2 := eq_false k2
  by_cases k3 : M[i].c.kind = 109
  rotate_left
  · rw [if_neg (fun e => k3 e.1), List.set_getElem_self, ASt.set_id hgx] at hQ
    have T3 := eq_false k3
    simp only [↓Bt, Bu, simprocAttr, ↓C.z81, C.z27, ↓C.z82, C.z24, ↓C.z83, C.z23, C.q19, hp, hg, hz, g0, T2, T3, Int.toNat_natCast]
    rw [C.bx_w, awp_keep]
    simp only [↓Bt, Bu, simprocAttr, ↓C.z81, C.z27, ↓C.z85, C.z25, ↓C.z82, C.z24, ↓C.z83, C.z23, C.q19, hp, hg, hz, g0, T2, T3, Int.toNat_natCast]
    rw [C.b2_w, awp_keep]
    simp only [↓Bt, Bu, simprocAttr, ↓C.z81, C.z27, ↓C.z85, C.z25, ↓C.z84, C.z26, ↓C.z82, C.z24, ↓C.z83, C.z23, C.q19, hp, hg, hz, g0, T2, T3, Int.toNat_natCast]
    rw [C.cx_w, awp_keep]
    simp only [↓Bt, Bu, simprocAttr, ↓C.q19_W, C.q19_B, C.q19, hp, hg, hz, g0, T2, T3, Int.toNat_natCast]
    exact hQ _ rfl
  rw [k3] at g0
  by_cases hws : M[i].want = M[i].set
  · have T := eq_true hws
    rw [if_neg (fun e => e.2.1 hws), List.set_getElem_self, ASt.set_id hgx] at hQ
    simp only [↓Bt, Bu, simprocAttr, ↓C.z81, C.z27, ↓C.z82, C.z24, ↓C.z83, C.z23, C.q19, hp, hg, hz, g0, g8, g9, T, Int.toNat_natCast]
    rw [C.bx_w, awp_keep]
    simp only [↓Bt, Bu, simprocAttr, ↓C.z81, C.z27, ↓C.z85, C.z25, ↓C.z82, C.z24, ↓C.z83, C.z23, C.q19, hp, hg, hz, g0, g8, g9, T, Int.toNat_natCast]
    rw [C.b2_w, awp_keep]
    simp only [↓Bt, Bu, simprocAttr, ↓C.z81, C.z27, ↓C.z85, C.z25, ↓C.z84, C.z26, ↓C.z82, C.z24, ↓C.z83, C.z23, C.q19, hp, hg, hz, g0, g8, g9, T, Int.toNat_natCast]
    rw [C.cx_w, awp_keep]
    simp only [↓Bt, Bu, simprocAttr, ↓C.q19_W, C.q19_B, C.q19, hp, hg, hz, g0, g8, g9, T, Int.toNat_natCast]
    exact hQ _ rfl
  have T := eq_false hws
  have hsrc : M[i].c.src ≠ [] := fun e => by have := ho.osc.mpr e; rw [k3] at this; omega
  have hs := ho.set.2.1 hsrc
  have hs0 := ho.set.1
  have hw := ho.want.2.1 hsrc
  have hw0 := ho.want.1
  have hzs : 0 ≤ M[i].set ∧ M[i].set < (M[i].c.src.length : Nat) := ⟨hs0, hs⟩
  have hzw : 0 ≤ M[i].want ∧ M[i].want < (M[i].c.src.length : Nat) := ⟨hw0, hw⟩
  have at' : ∀ k : Int, 0 ≤ k → k < (M[i].c.src.length : Int) → ∃ x : Nat, M[i].c.src[k.toNat]? = some (x : Int) ∧ M[i].c.src.getD k.toNat 0 = (x : Int) ∧ x < i := fun k h1 h2 => by
    have hl : k.toNat < M[i].c.src.length := by omega
    have hm := ho.less _ (List.getElem_mem hl)
    refine ⟨M[i].c.src[k.toNat].toNat, ?_, ?_, by omega⟩
    · rw [List.getElem?_eq_getElem hl]; congr 1; omega
    · rw [List.getD_eq_getElem?_getD, List.getElem?_eq_getElem hl]; simp only [Option.getD_some]; omega
  obtain ⟨y, y1, y2, y3⟩ := at' _ hw0 hw
  obtain ⟨x, x1, x2, x3⟩ := at' _ hs0 hs
  have hgy := ints_get' y1
  have hgx2 := ints_get' x1
  have hyB : y < B.length := by omega
  have hxB : x < B.length := by omega
  have gy := cbools_get hyB
  rw [hBr y hyB] at gy
  have gx := cbools_get hxB
  rw [hBr x hxB] at gx
  have hzy : (0:Int) ≤ (y : Int) ∧ (y : Int) < (M.length : Nat) := by omega
  have hzx : (0:Int) ≤ (x : Int) ∧ (x : Int) < (M.length : Nat) := by omega
  rw [y2, x2, Int.toNat_natCast, Int.toNat_natCast] at hQ
  cases hry : run ns y
  rotate_left
  · rw [hry] at gy
    rw [if_pos ⟨k3, hws, .inl hry⟩] at hQ
    simp only [↓Bt, Bu, simprocAttr, ↓C.z81, C.z27, ↓C.z82, C.z24, ↓C.z83, C.z23, C.q19, hp, hr, hg, hz, g0, g1, row, g8, g9, T, hzw, hgy, hzy, gy, f8, p8, Int.toNat_natCast, Nat.mul_one]
    rw [C.bx_w, awp_keep]
    simp only [↓Bt, Bu, simprocAttr, ↓C.z81, C.z27, ↓C.z85, C.z25, ↓C.z82, C.z24, ↓C.z83, C.z23, C.q19, hp, hr, hg, hz, g0, g1, row, g8, g9, T, hzw, hgy, hzy, gy, f8, p8, Int.toNat_natCast, Nat.mul_one]
    rw [C.b2_w, awp_keep]
    simp only [↓Bt, Bu, simprocAttr, ↓C.z81, C.z27, ↓C.z85, C.z25, ↓C.z84, C.z26, ↓C.z82, C.z24, ↓C.z83, C.z23, C.q19, hp, hr, hg, hz, g0, g1, row, g8, g9, T, hzw, hgy, hzy, gy, f8, p8, Int.toNat_natCast, Nat.mul_one]
    rw [C.cx_w, awp_keep]
    simp only [↓Bt, Bu, simprocAttr, ↓C.q19_W, C.q19_B, C.q19, hp, hr, hg, hz, g0, g1, row, g8, g9, T, hzw, hgy, hzy, gy, f8, p8, Int.toNat_natCast, Nat.mul_one]
    exact hQ _ rfl
  rw [hry] at gy
  cases hrx : run ns x
  · rw [hrx] at gx
    rw [if_pos ⟨k3, hws, .inr hrx⟩] at hQ
    simp only [↓Bt, Bu, simprocAttr, ↓C.z81, C.z27, ↓C.z82, C.z24, ↓C.z83, C.z23, C.q19, hp, hr, hg, hz, g0, g1, row, g8, g9, T, hzw, hgy, hzy, gy, hzs, hgx2, hzx, gx, f8, p8, Int.toNat_natCast, Nat.mul_one]
    rw [C.bx_w, awp_keep]
    simp only [↓Bt, Bu, simprocAttr, ↓C.z81, C.z27, ↓C.z85, C.z25, ↓C.z82, C.z24, ↓C.z83, C.z23, C.q19, hp, hr, hg, hz, g0, g1, row, g8, g9, T, hzw, hgy, hzy, gy, hzs, hgx2, hzx, gx, f8, p8, Int.toNat_natCast, Nat.mul_one]
    rw [C.b2_w, awp_keep]
    simp only [↓Bt, Bu, simprocAttr, ↓C.z81, C.z27, ↓C.z85, C.z25, ↓C.z84, C.z26, ↓C.z82, C.z24, ↓C.z83, C.z23, C.q19, hp, hr, hg, hz, g0, g1, row, g8, g9, T, hzw, hgy, hzy, gy, hzs, hgx2, hzx, gx, f8, p8, Int.toNat_natCast, Nat.mul_one]
    rw [C.cx_w, awp_keep]
    simp only [↓Bt, Bu, simprocAttr, ↓C.q19_W, C.q19_B, C.q19, hp, hr, hg, hz, g0, g1, row, g8, g9, T, hzw, hgy, hzy, gy, hzs, hgx2, hzx, gx, f8, p8, Int.toNat_natCast, Nat.mul_one]
    exact hQ _ rfl
  · rw [hrx] at gx
    rw [if_neg (by rintro ⟨_, _, e | e⟩ <;> simp_all), List.set_getElem_self, ASt.set_id hgx] at hQ
    simp only [↓Bt, Bu, simprocAttr, ↓C.z81, C.z27, ↓C.z82, C.z24, ↓C.z83, C.z23, C.q19, hp, hr, hg, hz, g0, g1, row, g8, g9, T, hzw, hgy, hzy, gy, hzs, hgx2, hzx, gx, f8, p8, Int.toNat_natCast, Nat.mul_one]
    rw [C.bx_w, awp_keep]
    simp only [↓Bt, Bu, simprocAttr, ↓C.z81, C.z27, ↓C.z85, C.z25, ↓C.z82, C.z24, ↓C.z83, C.z23, C.q19, hp, hr, hg, hz, g0, g1, row, g8, g9, T, hzw, hgy, hzy, gy, hzs, hgx2, hzx, gx, f8, p8, Int.toNat_natCast, Nat.mul_one]
    rw [C.b2_w, awp_keep]
    simp only [↓Bt, Bu, simprocAttr, ↓C.z81, C.z27, ↓C.z85, C.z25, ↓C.z84, C.z26, ↓C.z82, C.z24, ↓C.z83, C.z23, C.q19, hp, hr, hg, hz, g0, g1, row, g8, g9, T, hzw, hgy, hzy, gy, hzs, hgx2, hzx, gx, f8, p8, Int.toNat_natCast, Nat.mul_one]
    rw [C.cx_w, awp_keep]
    simp only [↓Bt, Bu, simprocAttr, ↓C.q19_W, C.q19_B, C.q19, hp, hr, hg, hz, g0, g1, row, g8, g9, T, hzw, hgy, hzy, gy, hzs, hgx2, hzx, gx, f8, p8, Int.toNat_natCast, Nat.mul_one]
    exact hQ _ rfl
end
section
variable {st : ASt} {p ig : Nat} {ns : List Nd}
set_option maxHeartbeats 1000000 in
theorem ctick_spec (h : TreeAt st p ig ns) (hN : NsOk ns) : ACalls Tryz.prog F.q19 [.ptr p 0] st fun r s => s = st.set ig (nsC (ctickL ns)) := by
  refine ACalls.gc (Q' := fun r s => (st.set ig (nsC (ctickL ns))).le s) (calls_of_awp L.q19 rfl ?_) (fun v s hl => ⟨_, hl, rfl⟩)
  have hp := h.hp
  have hfew := h.few
  have hzn : (0 : Int) ≤ (ns.length : Nat) ∧ ((ns.length : Nat) : Int) ≤ 4294967296 := by omega
  simp only [↓Bt, Bu, simprocAttr, ↓C.z83, C.z23, C.q19, hp, hzn, Int.toNat_natCast]
  rintro ir hir
  rw [zeros_cbool]
  have hns := fun a b => ASt.new_set hir a b
  have hself := fun o => ASt.new_self (st := st) (id := ir) o hir
  simp only [↓Bt, Bu, simprocAttr, ↓C.q19_W, C.q19_B, C.q19, hp, hir]
  refine awp_midB (fun _ : Unit => [(0, .ptr p 0), (2, .sl 1 ir 0 ns.length)]) (fun _ s => ∃ B : List Bool, s = st.new ir (.cells (cbools B)) ∧ B.length = ns.length ∧ ∀ j (hj : j < B.length), B[j] = run ns j) ?_ ?_
  · refine awp_loopK (fun i : Nat => [(0, .ptr p 0), (2, .sl 1 ir 0 ns.length), (18, .int .i64 ns.length), (19, .int .i64 i)]) (fun i s => i ≤ ns.length ∧ ∃ B : List Bool, s = st.new ir (.cells (cbools B)) ∧ B.length = ns.length ∧ ∀ j (hj : j < B.length), j < i → B[j] = run ns j) (fun i => ns.length - i) 0 rfl ⟨Nat.zero_le _, _, rfl, by simp, fun j _ h => by omega⟩ ?_
    rintro i s ⟨hi, B, rfl, hB, hBr⟩
    by_cases hil : i < ns.length
    rotate_left
    · have hil' : ¬ (i : Int) < (ns.length : Nat) := by omega
      simp only [↓Bt, Bu, simprocAttr, ↓C.q19_W, C.q19_B, C.q19, hil']
      exact ⟨(), B, rfl, hB, fun j hj => hBr j hj (by omega)⟩
    have hil' : (i : Int) < (ns.length : Nat) := by omega
    have hw := wsucc hil (by omega)
    have hz : (0:Int) ≤ (i : Int) ∧ (i : Int) < (ns.length : Nat) := by omega
    have hfx : i < (cbools B).length := by rw [cbools_len, hB]; exact hil
    have hset := cbools_set B i (run ns i)
    simp only [↓Bt, Bu, simprocAttr, ↓C.q19_W, C.q19_B, C.q19, hil']
    refine (running_at (h.le (ASt.le.new _ _ _)) hN hil).mono ?_
    rintro r s ⟨rfl, rfl⟩
    simp only [↓Bt, Bu, simprocAttr, ↓C.q19_W, C.q19_B, C.q19, hz, hir, hfx, hset, hns, Int.toNat_natCast, Nat.mul_one, hw]
    refine ⟨i + 1, rfl, ⟨hil, _, rfl, by simp [hB], fun j hj h2 => ?_⟩, by omega⟩
    simp only [List.length_set] at hj
    rw [List.getElem_set]
    split
    · rename_i e; subst e; rfl
    · rename_i e; exact hBr j hj (by omega)
  · rintro - s ⟨B, rfl, hB, hBr⟩
    have hpn := ASt.new_old (id := ir) (o := .cells (cbools B)) hp
    have hT0 := h.le (ASt.le.new st ir (.cells (cbools B)))
    have hle0 := ASt.le.set_new st ir (.cells (cbools B)) ig
    have hnr : ir ≠ ig := by rintro rfl; rw [h.hg] at hir; cases hir
    have hr0 := hself (.cells (cbools B))
    generalize st.new ir (.cells (cbools B)) = s0 at hpn hT0 hle0 hr0
    simp only [↓Bt, Bu, simprocAttr, ↓C.q19_W, C.q19_B, C.q19, hpn]
    refine awp_loopK (fun i : Nat => [(0, .ptr p 0), (2, .sl 1 ir 0 ns.length), (33, .int .i64 ns.length), (34, .int .i64 i)]) (fun i s => i ≤ ns.length ∧ s = s0.set ig (nsC (ctickTo ns (run ns) i))) (fun i => ns.length - i) 0 rfl ⟨Nat.zero_le _, by
      rw [show ctickTo ns (run ns) 0 = ns by simp [ctickTo]]; exact (ASt.set_id hT0.hg).symm⟩ ?_
    rintro i s ⟨hi, rfl⟩
    by_cases hil : i < ns.length
    rotate_left
    · have hil' : ¬ (i : Int) < (ns.length : Nat) := by omega
      simp only [↓Bt, Bu, simprocAttr, ↓C.q19_W, C.q19_B, C.q19, hil']
      rw [show i = ns.length by omega, ctickTo_all]
      exact hle0 _
    have hil' : (i : Int) < (ns.length : Nat) := by omega
    have hw := wsucc hil (by omega)
    have hT := hT0.set (ns' := ctickTo ns (run ns) i) (ctickTo_len ns _ i)
    have hr : (s0.set ig (nsC (ctickTo ns (run ns) i))).h ir = some (.cells (cbools B)) := by rw [ASt.set_h, if_neg hnr]; exact hr0
    have hil2 : i < (ctickTo ns (run ns) i).length := by rw [ctickTo_len]; exact hil
    have eat : (ctickTo ns (run ns) i)[i] = ns[i] := ctickTo_at hil
    have el := ctickTo_len ns (run ns) i
    simp only [↓Bt, Bu, simprocAttr, ↓C.z81, C.z27, ↓C.z83, C.z23, C.q19, hil']
    rw [C.tk_w, awp_keep]
    have key := @tick_node p ig ir ns B (s0.set ig (nsC (ctickTo ns (run ns) i))) i (ctickTo ns (run ns) i) hT hr (by rw [el]; exact hB) hBr hil2 (by rw [eat]; exact hN i hil)
    rw [eat, ctickTo_set hil, ASt.set_set, el] at key
    refine key fun fr e => ?_
    show awp Tryz.prog C.tj _ fr _
    rw [C.tj_w, awp_keep, e]
    simp only [↓Bt, Bu, simprocAttr, ↓C.q19_W, C.q19_B, C.q19, hw]
    exact ⟨i + 1, rfl, ⟨hil, rfl⟩, by omega⟩
end
/- Descriptions: what is sane. -/
set_option maxRecDepth 100000

structure Soc.sane (s : Soc) : Prop where
  c : s.clocks.length ≤ 4294967296
  d : s.doms.length ≤ 4294967296
  r : s.rsts.length ≤ 4294967296
  v : s.devs.length ≤ 4294967296
  cs : ∀ c ∈ s.clocks, c.src.length ≤ 4294967296
  vs : ∀ d ∈ s.devs, d.regs.length ≤ 4294967296 ∧ d.needs.length ≤ 4294967296
end Go.Proofs.YtdmfgodajoojpaaGreatDoor.Cn
