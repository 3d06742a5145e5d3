/- Power: PowerTakes. -/
import Derived.Test.YtgfpnfnjnakoaaaCnPTakes
import Derived.Test.YtgfpnfnjnakoaaaCnPHangs
set_option linter.unusedSimpArgs false
set_option linter.unusedVariables false
set_option linter.unusedSectionVars false
namespace Go.Proofs.Ytgfpnfnjnakoaaa.Cn
open Go Go.Proofs

/-- One is going down, all others stay as they are. -/
structure Going (gs : List Gd) (d : Nat) (keep : Bool) (hd : d < gs.length) : Prop where
  ph : gs[d].phase = 99
  kp : gs[d].keep = keep
  st : Still gs d
  hung : Hung gs d hd
theorem Hung.set {gs : List Gd} {k : Nat} {hk : k < gs.length} (h : Hung gs k hk) (hl : Lesser gs) {g : Gd} (hg : g.above = gs[k].above) (hk2 : k < (gs.set k g).length) : Hung (gs.set k g) k hk2 := by
  unfold Hung
  rw [List.getElem_set_self, hg]
  rcases h with h | ⟨a, ha, e1, e2⟩
  · exact .inl h
  · refine .inr ⟨a, by simpa using ha, e1, ?_⟩
    have := hl k hk
    rw [List.getElem_set_ne (by omega)]; exact e2
section
variable {st : ASt} {ib p ig : Nat} {S : Soc} (hS : S.like)
include hS
set_option maxHeartbeats 1000000 in
theorem take_end {s : ASt} {gs : List Gd} {keep : Bool} {d : Nat} (hd : d < gs.length) (h : WSt st s ib p ig S gs) (hI : GInv S.doms gs) (hG : Going gs d keep hd) :
    awp Try.prog C.catnaplaw7_PowerTakes_c8 (Post [.slot 6] fun r s => r = .bool true ∧ st.le s) [(2, .bool keep), (8, .ptr ib 0), (9, .ptr p 0), (11, .int .i64 d)] s := by
  have hlen := hI.len
  have hkD : d < S.doms.length := by omega
  have hzk : (0:Int) ≤ (d : Int) ∧ (d : Int) < (S.doms.length : Nat) := by have := hS.nd; omega
  have hd0 := (dom_gets hkD).2.1
  have hdl := (hI.dom d hkD).delay
  have hsame := hI.same d hd hkD
  obtain ⟨dl, hdl2⟩ : ∃ dl : Nat, S.doms[d].delay = dl := ⟨S.doms[d].delay.toNat, by omega⟩
  have hdl3 : gs[d].delay = (dl : Int) := by rw [hsame.2.1, hdl2]
  rw [hdl2] at hd0
  obtain ⟨ph2, hp2⟩ : ∃ x : Int, x = if keep = true then 116 else 48 := ⟨_, rfl⟩
  have hph2 : ph2 = 48 ∨ ph2 = 116 := by rw [hp2]; split <;> simp
  have htk : gtick gs[d] = { gs[d] with phase := ph2 } := by
    unfold gtick; rw [if_neg (by rw [hG.ph]; decide), if_neg (by rw [hG.ph]; decide), if_pos hG.ph, hp2]
    have hkp := hG.kp
    cases keep
    · rw [if_neg (by rw [hkp]; decide), if_neg (by decide)]
    · rw [if_pos hkp, if_pos rfl]
  have hev : gev gs[d] = if keep = true then 115 else 108 := by
    unfold gev; rw [if_neg (by rw [hG.ph]; decide), if_neg (by rw [hG.ph]; decide), if_pos hG.ph, hG.kp]
  obtain ⟨g2, hg2⟩ : ∃ g2, g2 = gtick gs[d] := ⟨_, rfl⟩
  have htkL := hG.st.tick hd
  have hevs := hG.st.evs hd
  have h1 := h.set (gs' := gs.set d g2) (by simp)
  have hI1 : GInv S.doms (gs.set d g2) := by rw [hg2, ← htkL]; exact hI.tick
  have hd1 : d < (gs.set d g2).length := by simpa using hd
  have hgg : (gs.set d g2)[d] = g2 := List.getElem_set_self _
  have hph : g2.phase = ph2 := by rw [hg2, htk]
  have hH1 : Hung (gs.set d g2) d hd1 := hG.hung.set hI.lesser (by rw [hg2, htk]) hd1
  have hdn : (gs.set d g2)[d].isDown = true := by rw [hgg]; exact isDown_true.mpr (by rw [hph]; exact hph2)
  have h2 := h1.set (gs' := (gs.set d g2).set d g2.rise) (by simp)
  have hb2 := h2.hb
  have hI2 : GInv S.doms ((gs.set d g2).set d g2.rise) := by have := hI1.rise hd1; rwa [hgg] at this
  have hd2 : d < ((gs.set d g2).set d g2.rise).length := by simpa using hd
  have hgg2 : ((gs.set d g2).set d g2.rise)[d] = g2.rise := List.getElem_set_self _
  have hst2 : Still ((gs.set d g2).set d g2.rise) d := (hG.st.set g2).set g2.rise
  have hback : (if g2.rise.back = true then (114 : Int) else 110) = if keep = true then 114 else 110 := by
    show (if decide (g2.phase = 116) = true then (114 : Int) else 110) = _
    rw [hph, hp2]; cases keep <;> decide
  have hdl4 : g2.delay = (dl : Int) := by rw [hg2, htk]; exact hdl3
  have c1 : ((1 : Nat) : Int) = 1 := rfl
  simp only [↓Bp, Bq, Bs, ↓aop.eq_28, ↓aop.eq_30, Nat.reduceEqDiff, Nat.reduceAdd, Nat.reduceMul, Nat.reduceSub, Nat.reduceLeDiff, Nat.reduceLT, Int.reduceLT, Int.reduceLE, Int.reduceEq, Int.reduceToNat, Int.reduceAdd, Int.reduceSub, Int.reduceNeg, ↓reduceIte, reduceCtorEq, ↓C.catnaplaw7_PowerTakes_W, C.catnaplaw7_PowerTakes_B, C.catnaplaw7_PowerTakes]
  refine (gtick_spec h.g hI.low).mono ?_
  rintro r s' ⟨rfl, rfl⟩
  rw [htkL, hevs, ← hg2, hev]
  generalize s.set ig (gsC (gs.set d g2)) = s1 at h1 h2 hb2
  cases keep
  · rw [show (if (if false = true then (115 : Int) else 108) ≠ 0 then [((if false = true then (115 : Int) else 108), d)] else []) = [(108, d)] from rfl, evsV_one]
    simp only [↓Bp, Bq, Bs, ↓aop.eq_28, ↓aop.eq_30, Nat.reduceEqDiff, Nat.reduceAdd, Nat.reduceMul, Nat.reduceSub, Nat.reduceLeDiff, Nat.reduceLT, Int.reduceLT, Int.reduceLE, Int.reduceEq, Int.reduceToNat, Int.reduceAdd, Int.reduceSub, Int.reduceNeg, ↓reduceIte, reduceCtorEq, ↓C.catnaplaw7_PowerTakes_W, C.catnaplaw7_PowerTakes_B, C.catnaplaw7_PowerTakes, c1]
    refine (up_yesS h1.g hI1.above hd1 hdn hH1).mono ?_
    rintro r s' ⟨rfl, rfl⟩
    rw [hgg]
    generalize s1.set ig (gsC ((gs.set d g2).set d g2.rise)) = s2 at h2 hb2
    simp only [↓Bp, Bq, Bs, ↓aop.eq_28, ↓aop.eq_30, Nat.reduceEqDiff, Nat.reduceAdd, Nat.reduceMul, Nat.reduceSub, Nat.reduceLeDiff, Nat.reduceLT, Int.reduceLT, Int.reduceLE, Int.reduceEq, Int.reduceToNat, Int.reduceAdd, Int.reduceSub, Int.reduceNeg, ↓reduceIte, reduceCtorEq, ↓C.catnaplaw7_PowerTakes_W, C.catnaplaw7_PowerTakes_B, C.catnaplaw7_PowerTakes, hb2, Soc.cells, Soc.domV, hzk, hd0, Int.toNat_natCast]
    refine (risen_spec h2.g hd2 hst2 hI2.low (by omega) (by rw [hgg2]; rfl) (by rw [hgg2]; exact hdl4) (by rw [hgg2, hback]; rfl)).mono ?_
    rintro r s3 ⟨rfl, rfl⟩
    have h3 := h2.set (gs' := ((gs.set d g2).set d g2.rise).set d { ((gs.set d g2).set d g2.rise)[d] with phase := 49, left := 0 }) (by simp)
    simp only [↓Bp, Bq, Bs, ↓aop.eq_28, ↓aop.eq_30, Nat.reduceEqDiff, Nat.reduceAdd, Nat.reduceMul, Nat.reduceSub, Nat.reduceLeDiff, Nat.reduceLT, Int.reduceLT, Int.reduceLE, Int.reduceEq, Int.reduceToNat, Int.reduceAdd, Int.reduceSub, Int.reduceNeg, ↓reduceIte, reduceCtorEq, ↓C.catnaplaw7_PowerTakes_W, C.catnaplaw7_PowerTakes_B, C.catnaplaw7_PowerTakes]
    exact h3.le
  · rw [show (if (if true = true then (115 : Int) else 108) ≠ 0 then [((if true = true then (115 : Int) else 108), d)] else []) = [(115, d)] from rfl, evsV_one]
    simp only [↓Bp, Bq, Bs, ↓aop.eq_28, ↓aop.eq_30, Nat.reduceEqDiff, Nat.reduceAdd, Nat.reduceMul, Nat.reduceSub, Nat.reduceLeDiff, Nat.reduceLT, Int.reduceLT, Int.reduceLE, Int.reduceEq, Int.reduceToNat, Int.reduceAdd, Int.reduceSub, Int.reduceNeg, ↓reduceIte, reduceCtorEq, ↓C.catnaplaw7_PowerTakes_W, C.catnaplaw7_PowerTakes_B, C.catnaplaw7_PowerTakes, c1]
    refine (up_yesS h1.g hI1.above hd1 hdn hH1).mono ?_
    rintro r s' ⟨rfl, rfl⟩
    rw [hgg]
    generalize s1.set ig (gsC ((gs.set d g2).set d g2.rise)) = s2 at h2 hb2
    simp only [↓Bp, Bq, Bs, ↓aop.eq_28, ↓aop.eq_30, Nat.reduceEqDiff, Nat.reduceAdd, Nat.reduceMul, Nat.reduceSub, Nat.reduceLeDiff, Nat.reduceLT, Int.reduceLT, Int.reduceLE, Int.reduceEq, Int.reduceToNat, Int.reduceAdd, Int.reduceSub, Int.reduceNeg, ↓reduceIte, reduceCtorEq, ↓C.catnaplaw7_PowerTakes_W, C.catnaplaw7_PowerTakes_B, C.catnaplaw7_PowerTakes, hb2, Soc.cells, Soc.domV, hzk, hd0, Int.toNat_natCast]
    refine (risen_spec h2.g hd2 hst2 hI2.low (by omega) (by rw [hgg2]; rfl) (by rw [hgg2]; exact hdl4) (by rw [hgg2, hback]; rfl)).mono ?_
    rintro r s3 ⟨rfl, rfl⟩
    have h3 := h2.set (gs' := ((gs.set d g2).set d g2.rise).set d { ((gs.set d g2).set d g2.rise)[d] with phase := 49, left := 0 }) (by simp)
    simp only [↓Bp, Bq, Bs, ↓aop.eq_28, ↓aop.eq_30, Nat.reduceEqDiff, Nat.reduceAdd, Nat.reduceMul, Nat.reduceSub, Nat.reduceLeDiff, Nat.reduceLT, Int.reduceLT, Int.reduceLE, Int.reduceEq, Int.reduceToNat, Int.reduceAdd, Int.reduceSub, Int.reduceNeg, ↓reduceIte, reduceCtorEq, ↓C.catnaplaw7_PowerTakes_W, C.catnaplaw7_PowerTakes_B, C.catnaplaw7_PowerTakes]
    exact h3.le

set_option maxHeartbeats 1000000 in
theorem take_mid {s : ASt} {gs : List Gd} {keep : Bool} {d : Nat} {c : List Nat} (hd : d < gs.length) (h : WSt st s ib p ig S gs) (hI : GInv S.doms gs) (hc : ChainOk gs c d) (hcl : c.length ≤ 100) (hT : TkInv c c.length gs) :
    awp Try.prog C.catnaplaw7_PowerTakes_c15 (Post [.slot 6] fun r s => r = .bool true ∧ st.le s) [(2, .bool keep), (8, .ptr ib 0), (9, .ptr p 0), (11, .int .i64 d), (12, .isl 1 (ints (c.map Int.ofNat)) c.length)] s := by
  have hlen := hI.len
  have hp := hc.pos
  have hkD : d < S.doms.length := by omega
  have hzk : (0:Int) ≤ (d : Int) ∧ (d : Int) < (S.doms.length : Nat) := by have := hS.nd; omega
  have hdr := (dom_gets hkD).2.2
  have hsame := hI.same d hd hkD
  have hb := h.hb
  have hT' : ∀ x (h : x < gs.length), gs[x].phase = if x ∈ c then 49 else 48 := fun x hx => by rw [hT x hx, List.take_length]
  have hlast := hc.last (by omega)
  have hmem : ∀ j (hj : j < c.length), c[j] ∈ c := fun j hj => List.getElem_mem hj
  have hdm : d ∈ c := by rw [← hlast]; exact hmem _ _
  have hph : gs[d].phase = 49 := by rw [hT' d hd, if_pos hdm]
  have hle : ∀ x ∈ c, x ≤ d := fun x hx => by
    obtain ⟨j, hj, rfl⟩ := List.getElem_of_mem hx
    by_cases e : j = c.length - 1
    · subst e; omega
    · have := hc.mono hI.lesser (i := j) (j := c.length - 1) (by omega) (by omega); omega
  have hno : ∀ i (h : i < gs.length), gs[i].above = (d : Int) → gs[i].isDown = true := fun i hi e => by
    have := hI.lesser i hi
    have hni : i ∉ c := fun hm => by have := hle i hm; omega
    exact isDown_true.mpr (.inl (by rw [hT' i hi, if_neg hni]))
  have main : ∀ kp : Bool, (kp = true → gs[d].ret = true) → awp Try.prog C.catnaplaw7_PowerTakes_c11 (Post [.slot 6] fun r s => r = .bool true ∧ st.le s) [(2, .bool kp), (8, .ptr ib 0), (9, .ptr p 0), (11, .int .i64 d), (12, .isl 1 (ints (c.map Int.ofNat)) c.length), (14, .int .i64 0)] (s.set ig (gsC (gs.set d (gs[d].fall kp)))) := fun kp hkp => by
    have h1 := h.set (gs' := gs.set d (gs[d].fall kp)) (by simp)
    have hI1 := hI.fall hd kp
    have hs2 := hI.same2 hI1
    have hc1 := hc.same hs2.1 hs2.2
    have hd1 : d < (gs.set d (gs[d].fall kp)).length := by simpa using hd
    have hgg : (gs.set d (gs[d].fall kp))[d] = gs[d].fall kp := List.getElem_set_self _
    have hG : Going (gs.set d (gs[d].fall kp)) d kp hd1 := by
      refine ⟨by rw [hgg]; rfl, by rw [hgg]; rfl, fun i hi he => ?_, ?_⟩
      · simp only [List.length_set] at hi
        rw [List.getElem_set_ne (Ne.symm he)]
        have := hT' i hi
        by_cases e : i ∈ c
        · rw [if_pos e] at this; exact .inr (.inl this)
        · rw [if_neg e] at this; exact .inl this
      · refine Hung.set (hk := hd) (g := gs[d].fall kp) ?_ hI.lesser rfl hd1
        by_cases e : c.length = 1
        · have h0 := hc.top hp (hc.lt _ hp)
          have e0 : c[0] = d := by simp only [e] at hlast; exact hlast
          simp only [e0] at h0
          exact .inl h0
        · have hu := hc.lt (c.length - 2) (by omega)
          have hlk := hc.link (c.length - 2) (by omega) (hc.lt _ _)
          simp only [show c.length - 2 + 1 = c.length - 1 by omega, hlast] at hlk
          exact .inr ⟨_, hu, hlk, by rw [hT' _ hu, if_pos (hmem _ _)]⟩
    generalize s.set ig (gsC (gs.set d (gs[d].fall kp))) = s1 at h1
    simp only [↓Bp, Bq, Bs, ↓aop.eq_28, ↓aop.eq_30, Nat.reduceEqDiff, Nat.reduceAdd, Nat.reduceMul, Nat.reduceSub, Nat.reduceLeDiff, Nat.reduceLT, Int.reduceLT, Int.reduceLE, Int.reduceEq, Int.reduceToNat, Int.reduceAdd, Int.reduceSub, Int.reduceNeg, ↓reduceIte, reduceCtorEq, ↓C.catnaplaw7_PowerTakes_r17_w, C.catnaplaw7_PowerTakes_r17_b, ↓C.catnaplaw7_PowerTakes_c9_w, ↓C.catnaplaw7_PowerTakes_c10_w, ↓C.catnaplaw7_PowerTakes_r16_w, C.catnaplaw7_PowerTakes_r16_b, ↓C.catnaplaw7_PowerTakes_c11_w, ↓C.catnaplaw7_PowerTakes_r15_w, C.catnaplaw7_PowerTakes_r15_b, ↓C.catnaplaw7_PowerTakes_c12_w, ↓C.catnaplaw7_PowerTakes_c13_w, ↓C.catnaplaw7_PowerTakes_r14_w, C.catnaplaw7_PowerTakes_r14_b, ↓C.catnaplaw7_PowerTakes_c14_w, ↓C.catnaplaw7_PowerTakes_r13_w, C.catnaplaw7_PowerTakes_r13_b, ↓C.catnaplaw7_PowerTakes_c15_w, ↓C.catnaplaw7_PowerTakes_r10_w, C.catnaplaw7_PowerTakes_r10_b, ↓C.catnaplaw7_PowerTakes_c16_w, ↓C.catnaplaw7_PowerTakes_r12_w, C.catnaplaw7_PowerTakes_r12_b, ↓C.catnaplaw7_PowerTakes_c17_w, ↓C.catnaplaw7_PowerTakes_c18_w, ↓C.catnaplaw7_PowerTakes_r11_w, C.catnaplaw7_PowerTakes_r11_b, ↓C.catnaplaw7_PowerTakes_b19_w, ↓C.catnaplaw7_PowerTakes_c20_w, ↓C.catnaplaw7_PowerTakes_c21_w, ↓C.catnaplaw7_PowerTakes_r9_w, C.catnaplaw7_PowerTakes_r9_b, ↓C.catnaplaw7_PowerTakes_b23_w, ↓C.catnaplaw7_PowerTakes_c24_w, ↓C.catnaplaw7_PowerTakes_r8_w, C.catnaplaw7_PowerTakes_r8_b, ↓C.catnaplaw7_PowerTakes_c25_w, ↓C.catnaplaw7_PowerTakes_r7_w, C.catnaplaw7_PowerTakes_r7_b, ↓C.catnaplaw7_PowerTakes_c26_w, ↓C.catnaplaw7_PowerTakes_r6_w, C.catnaplaw7_PowerTakes_r6_b, ↓C.catnaplaw7_PowerTakes_c27_w, ↓C.catnaplaw7_PowerTakes_r5_w, C.catnaplaw7_PowerTakes_r5_b, ↓C.catnaplaw7_PowerTakes_c28_w, ↓C.catnaplaw7_PowerTakes_c29_w, ↓C.catnaplaw7_PowerTakes_r4_w, C.catnaplaw7_PowerTakes_r4_b, ↓C.catnaplaw7_PowerTakes_c30_w, ↓C.catnaplaw7_PowerTakes_r3_w, C.catnaplaw7_PowerTakes_r3_b, ↓C.catnaplaw7_PowerTakes_c31_w, ↓C.catnaplaw7_PowerTakes_r2_w, C.catnaplaw7_PowerTakes_r2_b, ↓C.catnaplaw7_PowerTakes_c32_w, ↓C.catnaplaw7_PowerTakes_r1_w, C.catnaplaw7_PowerTakes_r1_b, ↓C.catnaplaw7_PowerTakes_c33_w, ↓C.catnaplaw7_PowerTakes_r0_w, C.catnaplaw7_PowerTakes_r0_b, C.catnaplaw7_PowerTakes]
    refine (phase_at h1.g hd1).mono ?_
    rintro r s2 ⟨rfl, rfl⟩
    rw [hgg, show (gs[d].fall kp).phase = 99 from rfl]
    by_cases hl1 : 1 < c.length
    · have T1 : ((1 : Int) < (c.length : Nat)) = True := eq_true (by omega)
      have hz0 : (0 : Int) < (c.length : Nat) := by omega
      have hg0 := ints_nat_get (c := c) (j := 0) (by omega)
      have hu := hc1.lt 0 hp
      have hu1 := hc1.lt 1 hl1
      have hne : c[0] ≠ d := fun e => by
        have := hc.mono hI.lesser (i := 0) (j := c.length - 1) (by omega) (by omega); omega
      have hlk := hc1.link 0 hl1 hu1
      have hph0 : ((gs.set d (gs[d].fall kp))[c[0]]'hu).phase = 49 := by
        rw [List.getElem_set_ne (Ne.symm hne), hT' _ (hc.lt _ _), if_pos (hmem _ _)]
      have hdn1 : ((gs.set d (gs[d].fall kp))[c[1]]'hu1).isDown = false := by
        by_cases e : c[1] = d
        · simp only [e, hgg]; exact isDown_false.mpr ⟨by show (99 : Int) ≠ 48; decide, by show (99 : Int) ≠ 116; decide⟩
        · rw [List.getElem_set_ne (Ne.symm e)]
          have hx := hT' _ (hc.lt 1 hl1)
          rw [if_pos (hmem _ _)] at hx
          exact isDown_false.mpr ⟨by rw [hx]; decide, by rw [hx]; decide⟩
      simp only [↓Bp, Bq, Bs, ↓aop.eq_28, ↓aop.eq_30, Nat.reduceEqDiff, Nat.reduceAdd, Nat.reduceMul, Nat.reduceSub, Nat.reduceLeDiff, Nat.reduceLT, Int.reduceLT, Int.reduceLE, Int.reduceEq, Int.reduceToNat, Int.reduceAdd, Int.reduceSub, Int.reduceNeg, ↓reduceIte, reduceCtorEq, ↓C.catnaplaw7_PowerTakes_r17_w, C.catnaplaw7_PowerTakes_r17_b, ↓C.catnaplaw7_PowerTakes_c9_w, ↓C.catnaplaw7_PowerTakes_c10_w, ↓C.catnaplaw7_PowerTakes_r16_w, C.catnaplaw7_PowerTakes_r16_b, ↓C.catnaplaw7_PowerTakes_c11_w, ↓C.catnaplaw7_PowerTakes_r15_w, C.catnaplaw7_PowerTakes_r15_b, ↓C.catnaplaw7_PowerTakes_c12_w, ↓C.catnaplaw7_PowerTakes_c13_w, ↓C.catnaplaw7_PowerTakes_r14_w, C.catnaplaw7_PowerTakes_r14_b, ↓C.catnaplaw7_PowerTakes_c14_w, ↓C.catnaplaw7_PowerTakes_r13_w, C.catnaplaw7_PowerTakes_r13_b, ↓C.catnaplaw7_PowerTakes_c15_w, ↓C.catnaplaw7_PowerTakes_r10_w, C.catnaplaw7_PowerTakes_r10_b, ↓C.catnaplaw7_PowerTakes_c16_w, ↓C.catnaplaw7_PowerTakes_r12_w, C.catnaplaw7_PowerTakes_r12_b, ↓C.catnaplaw7_PowerTakes_c17_w, ↓C.catnaplaw7_PowerTakes_c18_w, ↓C.catnaplaw7_PowerTakes_r11_w, C.catnaplaw7_PowerTakes_r11_b, ↓C.catnaplaw7_PowerTakes_b19_w, ↓C.catnaplaw7_PowerTakes_c20_w, ↓C.catnaplaw7_PowerTakes_c21_w, ↓C.catnaplaw7_PowerTakes_r9_w, C.catnaplaw7_PowerTakes_r9_b, ↓C.catnaplaw7_PowerTakes_b23_w, ↓C.catnaplaw7_PowerTakes_c24_w, ↓C.catnaplaw7_PowerTakes_r8_w, C.catnaplaw7_PowerTakes_r8_b, ↓C.catnaplaw7_PowerTakes_c25_w, ↓C.catnaplaw7_PowerTakes_r7_w, C.catnaplaw7_PowerTakes_r7_b, ↓C.catnaplaw7_PowerTakes_c26_w, ↓C.catnaplaw7_PowerTakes_r6_w, C.catnaplaw7_PowerTakes_r6_b, ↓C.catnaplaw7_PowerTakes_c27_w, ↓C.catnaplaw7_PowerTakes_r5_w, C.catnaplaw7_PowerTakes_r5_b, ↓C.catnaplaw7_PowerTakes_c28_w, ↓C.catnaplaw7_PowerTakes_c29_w, ↓C.catnaplaw7_PowerTakes_r4_w, C.catnaplaw7_PowerTakes_r4_b, ↓C.catnaplaw7_PowerTakes_c30_w, ↓C.catnaplaw7_PowerTakes_r3_w, C.catnaplaw7_PowerTakes_r3_b, ↓C.catnaplaw7_PowerTakes_c31_w, ↓C.catnaplaw7_PowerTakes_r2_w, C.catnaplaw7_PowerTakes_r2_b, ↓C.catnaplaw7_PowerTakes_c32_w, ↓C.catnaplaw7_PowerTakes_r1_w, C.catnaplaw7_PowerTakes_r1_b, ↓C.catnaplaw7_PowerTakes_c33_w, ↓C.catnaplaw7_PowerTakes_r0_w, C.catnaplaw7_PowerTakes_r0_b, C.catnaplaw7_PowerTakes, T1, gt_iff_lt, hz0, hg0, Int.le_refl, Nat.mul_one]
      refine (down_busyS h1.g hu hph0 hu1 hlk hdn1).mono ?_
      rintro r s3 ⟨rfl, rfl⟩
      simp only [↓Bp, Bq, Bs, ↓aop.eq_28, ↓aop.eq_30, Nat.reduceEqDiff, Nat.reduceAdd, Nat.reduceMul, Nat.reduceSub, Nat.reduceLeDiff, Nat.reduceLT, Int.reduceLT, Int.reduceLE, Int.reduceEq, Int.reduceToNat, Int.reduceAdd, Int.reduceSub, Int.reduceNeg, ↓reduceIte, reduceCtorEq, ↓C.catnaplaw7_PowerTakes_r17_w, C.catnaplaw7_PowerTakes_r17_b, ↓C.catnaplaw7_PowerTakes_c9_w, ↓C.catnaplaw7_PowerTakes_c10_w, ↓C.catnaplaw7_PowerTakes_r16_w, C.catnaplaw7_PowerTakes_r16_b, ↓C.catnaplaw7_PowerTakes_c11_w, ↓C.catnaplaw7_PowerTakes_r15_w, C.catnaplaw7_PowerTakes_r15_b, ↓C.catnaplaw7_PowerTakes_c12_w, ↓C.catnaplaw7_PowerTakes_c13_w, ↓C.catnaplaw7_PowerTakes_r14_w, C.catnaplaw7_PowerTakes_r14_b, ↓C.catnaplaw7_PowerTakes_c14_w, ↓C.catnaplaw7_PowerTakes_r13_w, C.catnaplaw7_PowerTakes_r13_b, ↓C.catnaplaw7_PowerTakes_c15_w, ↓C.catnaplaw7_PowerTakes_r10_w, C.catnaplaw7_PowerTakes_r10_b, ↓C.catnaplaw7_PowerTakes_c16_w, ↓C.catnaplaw7_PowerTakes_r12_w, C.catnaplaw7_PowerTakes_r12_b, ↓C.catnaplaw7_PowerTakes_c17_w, ↓C.catnaplaw7_PowerTakes_c18_w, ↓C.catnaplaw7_PowerTakes_r11_w, C.catnaplaw7_PowerTakes_r11_b, ↓C.catnaplaw7_PowerTakes_b19_w, ↓C.catnaplaw7_PowerTakes_c20_w, ↓C.catnaplaw7_PowerTakes_c21_w, ↓C.catnaplaw7_PowerTakes_r9_w, C.catnaplaw7_PowerTakes_r9_b, ↓C.catnaplaw7_PowerTakes_b23_w, ↓C.catnaplaw7_PowerTakes_c24_w, ↓C.catnaplaw7_PowerTakes_r8_w, C.catnaplaw7_PowerTakes_r8_b, ↓C.catnaplaw7_PowerTakes_c25_w, ↓C.catnaplaw7_PowerTakes_r7_w, C.catnaplaw7_PowerTakes_r7_b, ↓C.catnaplaw7_PowerTakes_c26_w, ↓C.catnaplaw7_PowerTakes_r6_w, C.catnaplaw7_PowerTakes_r6_b, ↓C.catnaplaw7_PowerTakes_c27_w, ↓C.catnaplaw7_PowerTakes_r5_w, C.catnaplaw7_PowerTakes_r5_b, ↓C.catnaplaw7_PowerTakes_c28_w, ↓C.catnaplaw7_PowerTakes_c29_w, ↓C.catnaplaw7_PowerTakes_r4_w, C.catnaplaw7_PowerTakes_r4_b, ↓C.catnaplaw7_PowerTakes_c30_w, ↓C.catnaplaw7_PowerTakes_r3_w, C.catnaplaw7_PowerTakes_r3_b, ↓C.catnaplaw7_PowerTakes_c31_w, ↓C.catnaplaw7_PowerTakes_r2_w, C.catnaplaw7_PowerTakes_r2_b, ↓C.catnaplaw7_PowerTakes_c32_w, ↓C.catnaplaw7_PowerTakes_r1_w, C.catnaplaw7_PowerTakes_r1_b, ↓C.catnaplaw7_PowerTakes_c33_w, ↓C.catnaplaw7_PowerTakes_r0_w, C.catnaplaw7_PowerTakes_r0_b, C.catnaplaw7_PowerTakes]
      rw [C.catnaplaw7_PowerTakes_c8_w, awp_keep]
      exact take_end hS hd1 h1 hI1 hG
    · have T1 : ((1 : Int) < (c.length : Nat)) = False := eq_false (by omega)
      simp only [↓Bp, Bq, Bs, ↓aop.eq_28, ↓aop.eq_30, Nat.reduceEqDiff, Nat.reduceAdd, Nat.reduceMul, Nat.reduceSub, Nat.reduceLeDiff, Nat.reduceLT, Int.reduceLT, Int.reduceLE, Int.reduceEq, Int.reduceToNat, Int.reduceAdd, Int.reduceSub, Int.reduceNeg, ↓reduceIte, reduceCtorEq, ↓C.catnaplaw7_PowerTakes_r17_w, C.catnaplaw7_PowerTakes_r17_b, ↓C.catnaplaw7_PowerTakes_c9_w, ↓C.catnaplaw7_PowerTakes_c10_w, ↓C.catnaplaw7_PowerTakes_r16_w, C.catnaplaw7_PowerTakes_r16_b, ↓C.catnaplaw7_PowerTakes_c11_w, ↓C.catnaplaw7_PowerTakes_r15_w, C.catnaplaw7_PowerTakes_r15_b, ↓C.catnaplaw7_PowerTakes_c12_w, ↓C.catnaplaw7_PowerTakes_c13_w, ↓C.catnaplaw7_PowerTakes_r14_w, C.catnaplaw7_PowerTakes_r14_b, ↓C.catnaplaw7_PowerTakes_c14_w, ↓C.catnaplaw7_PowerTakes_r13_w, C.catnaplaw7_PowerTakes_r13_b, ↓C.catnaplaw7_PowerTakes_c15_w, ↓C.catnaplaw7_PowerTakes_r10_w, C.catnaplaw7_PowerTakes_r10_b, ↓C.catnaplaw7_PowerTakes_c16_w, ↓C.catnaplaw7_PowerTakes_r12_w, C.catnaplaw7_PowerTakes_r12_b, ↓C.catnaplaw7_PowerTakes_c17_w, ↓C.catnaplaw7_PowerTakes_c18_w, ↓C.catnaplaw7_PowerTakes_r11_w, C.catnaplaw7_PowerTakes_r11_b, ↓C.catnaplaw7_PowerTakes_b19_w, ↓C.catnaplaw7_PowerTakes_c20_w, ↓C.catnaplaw7_PowerTakes_c21_w, ↓C.catnaplaw7_PowerTakes_r9_w, C.catnaplaw7_PowerTakes_r9_b, ↓C.catnaplaw7_PowerTakes_b23_w, ↓C.catnaplaw7_PowerTakes_c24_w, ↓C.catnaplaw7_PowerTakes_r8_w, C.catnaplaw7_PowerTakes_r8_b, ↓C.catnaplaw7_PowerTakes_c25_w, ↓C.catnaplaw7_PowerTakes_r7_w, C.catnaplaw7_PowerTakes_r7_b, ↓C.catnaplaw7_PowerTakes_c26_w, ↓C.catnaplaw7_PowerTakes_r6_w, C.catnaplaw7_PowerTakes_r6_b, ↓C.catnaplaw7_PowerTakes_c27_w, ↓C.catnaplaw7_PowerTakes_r5_w, C.catnaplaw7_PowerTakes_r5_b, ↓C.catnaplaw7_PowerTakes_c28_w, ↓C.catnaplaw7_PowerTakes_c29_w, ↓C.catnaplaw7_PowerTakes_r4_w, C.catnaplaw7_PowerTakes_r4_b, ↓C.catnaplaw7_PowerTakes_c30_w, ↓C.catnaplaw7_PowerTakes_r3_w, C.catnaplaw7_PowerTakes_r3_b, ↓C.catnaplaw7_PowerTakes_c31_w, ↓C.catnaplaw7_PowerTakes_r2_w, C.catnaplaw7_PowerTakes_r2_b, ↓C.catnaplaw7_PowerTakes_c32_w, ↓C.catnaplaw7_PowerTakes_r1_w, C.catnaplaw7_PowerTakes_r1_b, ↓C.catnaplaw7_PowerTakes_c33_w, ↓C.catnaplaw7_PowerTakes_r0_w, C.catnaplaw7_PowerTakes_r0_b, C.catnaplaw7_PowerTakes, T1, gt_iff_lt]
      rw [C.catnaplaw7_PowerTakes_c8_w, awp_keep]
      exact take_end hS hd1 h1 hI1 hG
  simp only [↓Bp, Bq, Bs, ↓aop.eq_28, ↓aop.eq_30, Nat.reduceEqDiff, Nat.reduceAdd, Nat.reduceMul, Nat.reduceSub, Nat.reduceLeDiff, Nat.reduceLT, Int.reduceLT, Int.reduceLE, Int.reduceEq, Int.reduceToNat, Int.reduceAdd, Int.reduceSub, Int.reduceNeg, ↓reduceIte, reduceCtorEq, ↓C.catnaplaw7_PowerTakes_W, C.catnaplaw7_PowerTakes_B, C.catnaplaw7_PowerTakes]
  cases keep
  · refine (down_yesS h.g hd false hph (fun e => by cases e) hno).mono ?_
    rintro r s1 ⟨rfl, rfl⟩
    simp only [↓Bp, Bq, Bs, ↓aop.eq_28, ↓aop.eq_30, Nat.reduceEqDiff, Nat.reduceAdd, Nat.reduceMul, Nat.reduceSub, Nat.reduceLeDiff, Nat.reduceLT, Int.reduceLT, Int.reduceLE, Int.reduceEq, Int.reduceToNat, Int.reduceAdd, Int.reduceSub, Int.reduceNeg, ↓reduceIte, reduceCtorEq, ↓C.catnaplaw7_PowerTakes_r15_w, C.catnaplaw7_PowerTakes_r15_b, ↓C.catnaplaw7_PowerTakes_c12_w, ↓C.catnaplaw7_PowerTakes_c13_w, ↓C.catnaplaw7_PowerTakes_r14_w, C.catnaplaw7_PowerTakes_r14_b, ↓C.catnaplaw7_PowerTakes_c14_w, ↓C.catnaplaw7_PowerTakes_r13_w, C.catnaplaw7_PowerTakes_r13_b, ↓C.catnaplaw7_PowerTakes_c15_w, ↓C.catnaplaw7_PowerTakes_r10_w, C.catnaplaw7_PowerTakes_r10_b, ↓C.catnaplaw7_PowerTakes_c16_w, ↓C.catnaplaw7_PowerTakes_r12_w, C.catnaplaw7_PowerTakes_r12_b, ↓C.catnaplaw7_PowerTakes_c17_w, ↓C.catnaplaw7_PowerTakes_c18_w, ↓C.catnaplaw7_PowerTakes_r11_w, C.catnaplaw7_PowerTakes_r11_b, ↓C.catnaplaw7_PowerTakes_b19_w, ↓C.catnaplaw7_PowerTakes_c20_w, ↓C.catnaplaw7_PowerTakes_c21_w, ↓C.catnaplaw7_PowerTakes_r9_w, C.catnaplaw7_PowerTakes_r9_b, ↓C.catnaplaw7_PowerTakes_b23_w, ↓C.catnaplaw7_PowerTakes_c24_w, ↓C.catnaplaw7_PowerTakes_r8_w, C.catnaplaw7_PowerTakes_r8_b, ↓C.catnaplaw7_PowerTakes_c25_w, ↓C.catnaplaw7_PowerTakes_r7_w, C.catnaplaw7_PowerTakes_r7_b, ↓C.catnaplaw7_PowerTakes_c26_w, ↓C.catnaplaw7_PowerTakes_r6_w, C.catnaplaw7_PowerTakes_r6_b, ↓C.catnaplaw7_PowerTakes_c27_w, ↓C.catnaplaw7_PowerTakes_r5_w, C.catnaplaw7_PowerTakes_r5_b, ↓C.catnaplaw7_PowerTakes_c28_w, ↓C.catnaplaw7_PowerTakes_c29_w, ↓C.catnaplaw7_PowerTakes_r4_w, C.catnaplaw7_PowerTakes_r4_b, ↓C.catnaplaw7_PowerTakes_c30_w, ↓C.catnaplaw7_PowerTakes_r3_w, C.catnaplaw7_PowerTakes_r3_b, ↓C.catnaplaw7_PowerTakes_c31_w, ↓C.catnaplaw7_PowerTakes_r2_w, C.catnaplaw7_PowerTakes_r2_b, ↓C.catnaplaw7_PowerTakes_c32_w, ↓C.catnaplaw7_PowerTakes_r1_w, C.catnaplaw7_PowerTakes_r1_b, ↓C.catnaplaw7_PowerTakes_c33_w, ↓C.catnaplaw7_PowerTakes_r0_w, C.catnaplaw7_PowerTakes_r0_b, C.catnaplaw7_PowerTakes]
    rw [C.catnaplaw7_PowerTakes_c11_w, awp_keep]
    exact main false (fun e => by cases e)
  · cases hr : gs[d].ret
    · refine (down_argS h.g hd hph hr).mono ?_
      rintro r s1 ⟨rfl, rfl⟩
      rw [← hsame.2.2, hr] at hdr
      simp only [↓Bp, Bq, Bs, ↓aop.eq_28, ↓aop.eq_30, Nat.reduceEqDiff, Nat.reduceAdd, Nat.reduceMul, Nat.reduceSub, Nat.reduceLeDiff, Nat.reduceLT, Int.reduceLT, Int.reduceLE, Int.reduceEq, Int.reduceToNat, Int.reduceAdd, Int.reduceSub, Int.reduceNeg, ↓reduceIte, reduceCtorEq, ↓C.catnaplaw7_PowerTakes_r15_w, C.catnaplaw7_PowerTakes_r15_b, ↓C.catnaplaw7_PowerTakes_c12_w, ↓C.catnaplaw7_PowerTakes_c13_w, ↓C.catnaplaw7_PowerTakes_r14_w, C.catnaplaw7_PowerTakes_r14_b, ↓C.catnaplaw7_PowerTakes_c14_w, ↓C.catnaplaw7_PowerTakes_r13_w, C.catnaplaw7_PowerTakes_r13_b, ↓C.catnaplaw7_PowerTakes_c15_w, ↓C.catnaplaw7_PowerTakes_r10_w, C.catnaplaw7_PowerTakes_r10_b, ↓C.catnaplaw7_PowerTakes_c16_w, ↓C.catnaplaw7_PowerTakes_r12_w, C.catnaplaw7_PowerTakes_r12_b, ↓C.catnaplaw7_PowerTakes_c17_w, ↓C.catnaplaw7_PowerTakes_c18_w, ↓C.catnaplaw7_PowerTakes_r11_w, C.catnaplaw7_PowerTakes_r11_b, ↓C.catnaplaw7_PowerTakes_b19_w, ↓C.catnaplaw7_PowerTakes_c20_w, ↓C.catnaplaw7_PowerTakes_c21_w, ↓C.catnaplaw7_PowerTakes_r9_w, C.catnaplaw7_PowerTakes_r9_b, ↓C.catnaplaw7_PowerTakes_b23_w, ↓C.catnaplaw7_PowerTakes_c24_w, ↓C.catnaplaw7_PowerTakes_r8_w, C.catnaplaw7_PowerTakes_r8_b, ↓C.catnaplaw7_PowerTakes_c25_w, ↓C.catnaplaw7_PowerTakes_r7_w, C.catnaplaw7_PowerTakes_r7_b, ↓C.catnaplaw7_PowerTakes_c26_w, ↓C.catnaplaw7_PowerTakes_r6_w, C.catnaplaw7_PowerTakes_r6_b, ↓C.catnaplaw7_PowerTakes_c27_w, ↓C.catnaplaw7_PowerTakes_r5_w, C.catnaplaw7_PowerTakes_r5_b, ↓C.catnaplaw7_PowerTakes_c28_w, ↓C.catnaplaw7_PowerTakes_c29_w, ↓C.catnaplaw7_PowerTakes_r4_w, C.catnaplaw7_PowerTakes_r4_b, ↓C.catnaplaw7_PowerTakes_c30_w, ↓C.catnaplaw7_PowerTakes_r3_w, C.catnaplaw7_PowerTakes_r3_b, ↓C.catnaplaw7_PowerTakes_c31_w, ↓C.catnaplaw7_PowerTakes_r2_w, C.catnaplaw7_PowerTakes_r2_b, ↓C.catnaplaw7_PowerTakes_c32_w, ↓C.catnaplaw7_PowerTakes_r1_w, C.catnaplaw7_PowerTakes_r1_b, ↓C.catnaplaw7_PowerTakes_c33_w, ↓C.catnaplaw7_PowerTakes_r0_w, C.catnaplaw7_PowerTakes_r0_b, C.catnaplaw7_PowerTakes, hb, Soc.cells, Soc.domV, hzk, hdr, Int.toNat_natCast]
      refine (phase_at h.g hd).mono ?_
      rintro r s2 ⟨rfl, rfl⟩
      rw [hph]
      simp only [↓Bp, Bq, Bs, ↓aop.eq_28, ↓aop.eq_30, Nat.reduceEqDiff, Nat.reduceAdd, Nat.reduceMul, Nat.reduceSub, Nat.reduceLeDiff, Nat.reduceLT, Int.reduceLT, Int.reduceLE, Int.reduceEq, Int.reduceToNat, Int.reduceAdd, Int.reduceSub, Int.reduceNeg, ↓reduceIte, reduceCtorEq, ↓C.catnaplaw7_PowerTakes_r15_w, C.catnaplaw7_PowerTakes_r15_b, ↓C.catnaplaw7_PowerTakes_c12_w, ↓C.catnaplaw7_PowerTakes_c13_w, ↓C.catnaplaw7_PowerTakes_r14_w, C.catnaplaw7_PowerTakes_r14_b, ↓C.catnaplaw7_PowerTakes_c14_w, ↓C.catnaplaw7_PowerTakes_r13_w, C.catnaplaw7_PowerTakes_r13_b, ↓C.catnaplaw7_PowerTakes_c15_w, ↓C.catnaplaw7_PowerTakes_r10_w, C.catnaplaw7_PowerTakes_r10_b, ↓C.catnaplaw7_PowerTakes_c16_w, ↓C.catnaplaw7_PowerTakes_r12_w, C.catnaplaw7_PowerTakes_r12_b, ↓C.catnaplaw7_PowerTakes_c17_w, ↓C.catnaplaw7_PowerTakes_c18_w, ↓C.catnaplaw7_PowerTakes_r11_w, C.catnaplaw7_PowerTakes_r11_b, ↓C.catnaplaw7_PowerTakes_b19_w, ↓C.catnaplaw7_PowerTakes_c20_w, ↓C.catnaplaw7_PowerTakes_c21_w, ↓C.catnaplaw7_PowerTakes_r9_w, C.catnaplaw7_PowerTakes_r9_b, ↓C.catnaplaw7_PowerTakes_b23_w, ↓C.catnaplaw7_PowerTakes_c24_w, ↓C.catnaplaw7_PowerTakes_r8_w, C.catnaplaw7_PowerTakes_r8_b, ↓C.catnaplaw7_PowerTakes_c25_w, ↓C.catnaplaw7_PowerTakes_r7_w, C.catnaplaw7_PowerTakes_r7_b, ↓C.catnaplaw7_PowerTakes_c26_w, ↓C.catnaplaw7_PowerTakes_r6_w, C.catnaplaw7_PowerTakes_r6_b, ↓C.catnaplaw7_PowerTakes_c27_w, ↓C.catnaplaw7_PowerTakes_r5_w, C.catnaplaw7_PowerTakes_r5_b, ↓C.catnaplaw7_PowerTakes_c28_w, ↓C.catnaplaw7_PowerTakes_c29_w, ↓C.catnaplaw7_PowerTakes_r4_w, C.catnaplaw7_PowerTakes_r4_b, ↓C.catnaplaw7_PowerTakes_c30_w, ↓C.catnaplaw7_PowerTakes_r3_w, C.catnaplaw7_PowerTakes_r3_b, ↓C.catnaplaw7_PowerTakes_c31_w, ↓C.catnaplaw7_PowerTakes_r2_w, C.catnaplaw7_PowerTakes_r2_b, ↓C.catnaplaw7_PowerTakes_c32_w, ↓C.catnaplaw7_PowerTakes_r1_w, C.catnaplaw7_PowerTakes_r1_b, ↓C.catnaplaw7_PowerTakes_c33_w, ↓C.catnaplaw7_PowerTakes_r0_w, C.catnaplaw7_PowerTakes_r0_b, C.catnaplaw7_PowerTakes]
      exact h.le
    · have hm := main true fun _ => hr
      have h1 := h.set (gs' := gs.set d (gs[d].fall true)) (by simp)
      have hb1 := h1.hb
      refine (down_yesS h.g hd true hph (fun _ => hr) hno).mono ?_
      rintro r s1 ⟨rfl, rfl⟩
      rw [← hsame.2.2, hr] at hdr
      generalize s.set ig (gsC (gs.set d (gs[d].fall true))) = s1 at hm hb1 h1
      simp only [↓Bp, Bq, Bs, ↓aop.eq_28, ↓aop.eq_30, Nat.reduceEqDiff, Nat.reduceAdd, Nat.reduceMul, Nat.reduceSub, Nat.reduceLeDiff, Nat.reduceLT, Int.reduceLT, Int.reduceLE, Int.reduceEq, Int.reduceToNat, Int.reduceAdd, Int.reduceSub, Int.reduceNeg, ↓reduceIte, reduceCtorEq, ↓C.catnaplaw7_PowerTakes_r15_w, C.catnaplaw7_PowerTakes_r15_b, ↓C.catnaplaw7_PowerTakes_c12_w, ↓C.catnaplaw7_PowerTakes_c13_w, ↓C.catnaplaw7_PowerTakes_r14_w, C.catnaplaw7_PowerTakes_r14_b, ↓C.catnaplaw7_PowerTakes_c14_w, ↓C.catnaplaw7_PowerTakes_r13_w, C.catnaplaw7_PowerTakes_r13_b, ↓C.catnaplaw7_PowerTakes_c15_w, ↓C.catnaplaw7_PowerTakes_r10_w, C.catnaplaw7_PowerTakes_r10_b, ↓C.catnaplaw7_PowerTakes_c16_w, ↓C.catnaplaw7_PowerTakes_r12_w, C.catnaplaw7_PowerTakes_r12_b, ↓C.catnaplaw7_PowerTakes_c17_w, ↓C.catnaplaw7_PowerTakes_c18_w, ↓C.catnaplaw7_PowerTakes_r11_w, C.catnaplaw7_PowerTakes_r11_b, ↓C.catnaplaw7_PowerTakes_b19_w, ↓C.catnaplaw7_PowerTakes_c20_w, ↓C.catnaplaw7_PowerTakes_c21_w, ↓C.catnaplaw7_PowerTakes_r9_w, C.catnaplaw7_PowerTakes_r9_b, ↓C.catnaplaw7_PowerTakes_b23_w, ↓C.catnaplaw7_PowerTakes_c24_w, ↓C.catnaplaw7_PowerTakes_r8_w, C.catnaplaw7_PowerTakes_r8_b, ↓C.catnaplaw7_PowerTakes_c25_w, ↓C.catnaplaw7_PowerTakes_r7_w, C.catnaplaw7_PowerTakes_r7_b, ↓C.catnaplaw7_PowerTakes_c26_w, ↓C.catnaplaw7_PowerTakes_r6_w, C.catnaplaw7_PowerTakes_r6_b, ↓C.catnaplaw7_PowerTakes_c27_w, ↓C.catnaplaw7_PowerTakes_r5_w, C.catnaplaw7_PowerTakes_r5_b, ↓C.catnaplaw7_PowerTakes_c28_w, ↓C.catnaplaw7_PowerTakes_c29_w, ↓C.catnaplaw7_PowerTakes_r4_w, C.catnaplaw7_PowerTakes_r4_b, ↓C.catnaplaw7_PowerTakes_c30_w, ↓C.catnaplaw7_PowerTakes_r3_w, C.catnaplaw7_PowerTakes_r3_b, ↓C.catnaplaw7_PowerTakes_c31_w, ↓C.catnaplaw7_PowerTakes_r2_w, C.catnaplaw7_PowerTakes_r2_b, ↓C.catnaplaw7_PowerTakes_c32_w, ↓C.catnaplaw7_PowerTakes_r1_w, C.catnaplaw7_PowerTakes_r1_b, ↓C.catnaplaw7_PowerTakes_c33_w, ↓C.catnaplaw7_PowerTakes_r0_w, C.catnaplaw7_PowerTakes_r0_b, C.catnaplaw7_PowerTakes, hb1, Soc.cells, Soc.domV, hzk, hdr, Int.toNat_natCast]
      rw [C.catnaplaw7_PowerTakes_c11_w, awp_keep]
      exact hm
end
theorem powertakes_spec {st : ASt} {l : List Int} {x : Int} {keep : Bool} (hl : ∀ x ∈ l, -9223372036854775808 ≤ x ∧ x ≤ 9223372036854775807) (hll : l.length ≤ 9223372036854775807)
    (hx : -9223372036854775808 ≤ x ∧ x ≤ 9223372036854775807) :
    ACalls Try.prog F.catnaplaw7_PowerTakes [row l, .int .i64 x, .bool keep] st fun r s => r = .bool true ∧ s = st := by
  refine ACalls.gc (Q' := fun r s => r = .bool true ∧ st.le s) (calls_of_awp L.catnaplaw7_PowerTakes rfl ?_) (fun v s ⟨h, hl⟩ => ⟨st, hl, h, rfl⟩)
  simp only [↓Bp, Bq, Bs, ↓aop.eq_28, ↓aop.eq_30, Nat.reduceEqDiff, Nat.reduceAdd, Nat.reduceMul, Nat.reduceSub, Nat.reduceLeDiff, Nat.reduceLT, Int.reduceLT, Int.reduceLE, Int.reduceEq, Int.reduceToNat, Int.reduceAdd, Int.reduceSub, Int.reduceNeg, ↓reduceIte, reduceCtorEq, ↓C.catnaplaw7_PowerTakes_W, C.catnaplaw7_PowerTakes_B, C.catnaplaw7_PowerTakes]
  refine (gshown_spec st).mono ?_
  rintro r s ⟨rfl, rfl⟩
  simp only [↓Bp, Bq, Bs, ↓aop.eq_28, ↓aop.eq_30, Nat.reduceEqDiff, Nat.reduceAdd, Nat.reduceMul, Nat.reduceSub, Nat.reduceLeDiff, Nat.reduceLT, Int.reduceLT, Int.reduceLE, Int.reduceEq, Int.reduceToNat, Int.reduceAdd, Int.reduceSub, Int.reduceNeg, ↓reduceIte, reduceCtorEq, ↓C.catnaplaw7_PowerTakes_W, C.catnaplaw7_PowerTakes_B, C.catnaplaw7_PowerTakes]
  refine (chip_frz hl hll).mono ?_
  rintro r s ⟨rfl, rfl⟩
  have hS := chipS_like l
  generalize chipS l = S at hS
  have hnd := hS.nd
  have l4 : S.cells.length = 4 := rfl
  have e4 : AV.agg (List.take 4 S.cells) = .agg S.cells := rfl
  have f4 : allLeaf S.cells = true := rfl
  simp only [↓Bp, Bq, Bs, ↓aop.eq_28, ↓aop.eq_30, Nat.reduceEqDiff, Nat.reduceAdd, Nat.reduceMul, Nat.reduceSub, Nat.reduceLeDiff, Nat.reduceLT, Int.reduceLT, Int.reduceLE, Int.reduceEq, Int.reduceToNat, Int.reduceAdd, Int.reduceSub, Int.reduceNeg, ↓reduceIte, reduceCtorEq, ↓C.catnaplaw7_PowerTakes_r2_w, C.catnaplaw7_PowerTakes_r2_b, ↓C.catnaplaw7_PowerTakes_c32_w, ↓C.catnaplaw7_PowerTakes_r1_w, C.catnaplaw7_PowerTakes_r1_b, ↓C.catnaplaw7_PowerTakes_c33_w, ↓C.catnaplaw7_PowerTakes_r0_w, C.catnaplaw7_PowerTakes_r0_b, C.catnaplaw7_PowerTakes, l4, f4]
  rintro ib hib
  simp only [↓Bp, Bq, Bs, ↓aop.eq_28, ↓aop.eq_30, Nat.reduceEqDiff, Nat.reduceAdd, Nat.reduceMul, Nat.reduceSub, Nat.reduceLeDiff, Nat.reduceLT, Int.reduceLT, Int.reduceLE, Int.reduceEq, Int.reduceToNat, Int.reduceAdd, Int.reduceSub, Int.reduceNeg, ↓reduceIte, reduceCtorEq, ↓C.catnaplaw7_PowerTakes_r2_w, C.catnaplaw7_PowerTakes_r2_b, ↓C.catnaplaw7_PowerTakes_c32_w, ↓C.catnaplaw7_PowerTakes_r1_w, C.catnaplaw7_PowerTakes_r1_b, ↓C.catnaplaw7_PowerTakes_c33_w, ↓C.catnaplaw7_PowerTakes_r0_w, C.catnaplaw7_PowerTakes_r0_b, C.catnaplaw7_PowerTakes, hib, l4, f4]
  rw [ASt.new_set hib, show putN [AV.nils, AV.nils, AV.nils, AV.nils] 0 S.cells = S.cells from putN_all rfl]
  simp only [↓Bp, Bq, Bs, ↓aop.eq_28, ↓aop.eq_30, Nat.reduceEqDiff, Nat.reduceAdd, Nat.reduceMul, Nat.reduceSub, Nat.reduceLeDiff, Nat.reduceLT, Int.reduceLT, Int.reduceLE, Int.reduceEq, Int.reduceToNat, Int.reduceAdd, Int.reduceSub, Int.reduceNeg, ↓reduceIte, reduceCtorEq, ↓C.catnaplaw7_PowerTakes_W, C.catnaplaw7_PowerTakes_B, C.catnaplaw7_PowerTakes, hib, l4, e4]
  refine (gstart_spec hib hS).mono ?_
  rintro r s1 ⟨p, ig, rfl, h⟩
  have hb := h.hb
  simp only [↓Bp, Bq, Bs, ↓aop.eq_28, ↓aop.eq_30, Nat.reduceEqDiff, Nat.reduceAdd, Nat.reduceMul, Nat.reduceSub, Nat.reduceLeDiff, Nat.reduceLT, Int.reduceLT, Int.reduceLE, Int.reduceEq, Int.reduceToNat, Int.reduceAdd, Int.reduceSub, Int.reduceNeg, ↓reduceIte, reduceCtorEq, ↓C.catnaplaw7_PowerTakes_W, C.catnaplaw7_PowerTakes_B, C.catnaplaw7_PowerTakes, hb, Soc.cells, Soc.domV]
  refine (pick_spec hx (n := S.doms.length) (by omega)).mono ?_
  rintro r s1 ⟨rfl, rfl⟩
  have hkl := pickI_lt x (n := S.doms.length) (by omega)
  generalize pickI x S.doms.length = d at hkl
  have hI := GInv.fresh hS.dom
  have hlen := hI.len
  have hd : d < (gfresh S.doms).length := by omega
  simp only [↓Bp, Bq, Bs, ↓aop.eq_28, ↓aop.eq_30, Nat.reduceEqDiff, Nat.reduceAdd, Nat.reduceMul, Nat.reduceSub, Nat.reduceLeDiff, Nat.reduceLT, Int.reduceLT, Int.reduceLE, Int.reduceEq, Int.reduceToNat, Int.reduceAdd, Int.reduceSub, Int.reduceNeg, ↓reduceIte, reduceCtorEq, ↓C.catnaplaw7_PowerTakes_W, C.catnaplaw7_PowerTakes_B, C.catnaplaw7_PowerTakes]
  refine (chain_spec h.g hI.lesser (by omega) (d : Nat)).mono ?_
  rintro r s2 ⟨rfl, rfl⟩
  obtain ⟨c, hce, hc, hcl⟩ := chain_at hI.lesser hd
  rw [hce, row_nat]
  simp only [↓Bp, Bq, Bs, ↓aop.eq_28, ↓aop.eq_30, Nat.reduceEqDiff, Nat.reduceAdd, Nat.reduceMul, Nat.reduceSub, Nat.reduceLeDiff, Nat.reduceLT, Int.reduceLT, Int.reduceLE, Int.reduceEq, Int.reduceToNat, Int.reduceAdd, Int.reduceSub, Int.reduceNeg, ↓reduceIte, reduceCtorEq, ↓C.catnaplaw7_PowerTakes_r7_w, C.catnaplaw7_PowerTakes_r7_b, ↓C.catnaplaw7_PowerTakes_c26_w, ↓C.catnaplaw7_PowerTakes_r6_w, C.catnaplaw7_PowerTakes_r6_b, ↓C.catnaplaw7_PowerTakes_c27_w, ↓C.catnaplaw7_PowerTakes_r5_w, C.catnaplaw7_PowerTakes_r5_b, ↓C.catnaplaw7_PowerTakes_c28_w, ↓C.catnaplaw7_PowerTakes_c29_w, ↓C.catnaplaw7_PowerTakes_r4_w, C.catnaplaw7_PowerTakes_r4_b, ↓C.catnaplaw7_PowerTakes_c30_w, ↓C.catnaplaw7_PowerTakes_r3_w, C.catnaplaw7_PowerTakes_r3_b, ↓C.catnaplaw7_PowerTakes_c31_w, ↓C.catnaplaw7_PowerTakes_r2_w, C.catnaplaw7_PowerTakes_r2_b, ↓C.catnaplaw7_PowerTakes_c32_w, ↓C.catnaplaw7_PowerTakes_r1_w, C.catnaplaw7_PowerTakes_r1_b, ↓C.catnaplaw7_PowerTakes_c33_w, ↓C.catnaplaw7_PowerTakes_r0_w, C.catnaplaw7_PowerTakes_r0_b, C.catnaplaw7_PowerTakes]
  rw [C.catnaplaw7_PowerTakes_c25_w, awp_keep]
  refine take_rise hS h hI hc (by omega) (TkInv.fresh c S.doms) fun s' gs' h' hI' hc' hT' => ?_
  exact take_mid hS (by rw [hI'.len]; exact hkl) h' hI' hc' (by omega) hT'
end Go.Proofs.Ytgfpnfnjnakoaaa.Cn
