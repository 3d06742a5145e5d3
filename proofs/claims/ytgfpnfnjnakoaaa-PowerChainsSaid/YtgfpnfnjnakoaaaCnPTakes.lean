/- Power: what Up and Down do where it is known that they may, or may not. -/
import Derived.Test.YtgfpnfnjnakoaaaCnPRisen
set_option linter.unusedSimpArgs false
set_option linter.unusedVariables false
set_option linter.unusedSectionVars false
namespace Go.Proofs.Ytgfpnfnjnakoaaa.Cn
open Go Go.Proofs

def Gd.rise (g : Gd) : Gd := { g with back := decide (g.phase = 116), phase := 114, left := g.delay }
def Gd.fall (g : Gd) (k : Bool) : Gd := { g with phase := 99, keep := k }
def Gd.risen (g : Gd) : Gd := { g.rise with phase := 49, left := 0 }
/-- What one hangs on lives. -/
def Hung (gs : List Gd) (k : Nat) (hk : k < gs.length) : Prop := gs[k].above = -1 ∨ ∃ (a : Nat) (h : a < gs.length), gs[k].above = (a : Int) ∧ gs[a].phase = 49
section
variable {st : ASt} {p ig : Nat} {gs : List Gd} {k : Nat}
theorem up_noS (h : GridAt st p ig gs) (hab : ∀ g ∈ gs, g.above = -1 ∨ (0 ≤ g.above ∧ g.above < (gs.length : Int))) (hk : k < gs.length) (hn : gs[k].isDown = false ∨ ∃ (a : Nat) (h : a < gs.length), gs[k].above = (a : Int) ∧ gs[a].phase ≠ 49) :
    ACalls Try.prog F.power_Grid_Up [.ptr p 0, .int .i64 k] st fun r s => r = .int .i64 6 ∧ s = st := by
  have hc : gs[k].isDown = false ∨ (gs[k].above ≠ -1 ∧ (gs.getD gs[k].above.toNat gs[k]).phase ≠ 49) := by
    rcases hn with hn | ⟨a, ha, e1, e2⟩
    · exact .inl hn
    · exact .inr ⟨by omega, by rw [e1, Int.toNat_natCast]; simpa [ha] using e2⟩
  refine (up_spec h hab hk).mono ?_
  rintro r s ⟨rfl, rfl⟩
  rw [upE, upG, if_pos hc, if_pos hc, ASt.set_id h.hg]
  exact ⟨rfl, rfl⟩
theorem up_yesS (h : GridAt st p ig gs) (hab : ∀ g ∈ gs, g.above = -1 ∨ (0 ≤ g.above ∧ g.above < (gs.length : Int))) (hk : k < gs.length) (hd : gs[k].isDown = true) (hu : Hung gs k hk) :
    ACalls Try.prog F.power_Grid_Up [.ptr p 0, .int .i64 k] st fun r s => r = .int .i64 0 ∧ s = st.set ig (gsC (gs.set k gs[k].rise)) := by
  have hc : ¬ (gs[k].isDown = false ∨ (gs[k].above ≠ -1 ∧ (gs.getD gs[k].above.toNat gs[k]).phase ≠ 49)) := by
    rintro (e | ⟨e1, e2⟩)
    · rw [hd] at e; cases e
    · rcases hu with e | ⟨a, ha, e3, e4⟩
      · exact e1 e
      · rw [e3, Int.toNat_natCast] at e2
        simp [ha] at e2
        exact e2 e4
  refine (up_spec h hab hk).mono ?_
  rintro r s ⟨rfl, rfl⟩
  rw [upE, upG, if_neg hc, if_neg hc]
  exact ⟨rfl, rfl⟩
theorem down_argS (h : GridAt st p ig gs) (hk : k < gs.length) (h1 : gs[k].phase = 49) (h2 : gs[k].ret = false) :
    ACalls Try.prog F.power_Grid_Down [.ptr p 0, .int .i64 k, .bool true] st fun r s => r = .int .i64 1 ∧ s = st := by
  refine (down_spec h hk true).mono ?_
  rintro r s ⟨rfl, rfl⟩
  have e : downE gs k hk true = 1 := by rw [downE, if_neg (by simp [h1]), if_pos ⟨rfl, h2⟩]
  rw [downG, e, if_neg (by decide), ASt.set_id h.hg]
  exact ⟨rfl, rfl⟩
theorem down_busyS (h : GridAt st p ig gs) (hk : k < gs.length) (h1 : gs[k].phase = 49) {i : Nat} (hi : i < gs.length) (h2 : gs[i].above = (k : Int)) (h3 : gs[i].isDown = false) :
    ACalls Try.prog F.power_Grid_Down [.ptr p 0, .int .i64 k, .bool false] st fun r s => r = .int .i64 7 ∧ s = st := by
  refine (down_spec h hk false).mono ?_
  rintro r s ⟨rfl, rfl⟩
  have e : downE gs k hk false = 7 := by rw [downE, if_neg (by simp [h1]), if_neg (by simp), if_pos (someUp_some hi h2 h3)]
  rw [downG, e, if_neg (by decide), ASt.set_id h.hg]
  exact ⟨rfl, rfl⟩
theorem someUp_none (hn : ∀ i (h : i < gs.length), gs[i].above = (k : Int) → gs[i].isDown = true) : someUp gs k = false := by
  cases e : someUp gs k
  · rfl
  · rw [someUp, List.any_eq_true] at e
    obtain ⟨g, hg, he⟩ := e
    obtain ⟨i, hi, rfl⟩ := List.getElem_of_mem hg
    simp only [Bool.and_eq_true, decide_eq_true_eq, Bool.not_eq_true'] at he
    rw [hn i hi he.1] at he
    cases he.2
theorem down_yesS (h : GridAt st p ig gs) (hk : k < gs.length) (kp : Bool) (h1 : gs[k].phase = 49) (h2 : kp = true → gs[k].ret = true) (hn : ∀ i (h : i < gs.length), gs[i].above = (k : Int) → gs[i].isDown = true) :
    ACalls Try.prog F.power_Grid_Down [.ptr p 0, .int .i64 k, .bool kp] st fun r s => r = .int .i64 0 ∧ s = st.set ig (gsC (gs.set k (gs[k].fall kp))) := by
  refine (down_spec h hk kp).mono ?_
  rintro r s ⟨rfl, rfl⟩
  have e : downE gs k hk kp = 0 := by
    rw [downE, if_neg (by simp [h1]), if_neg (by rintro ⟨a, b⟩; rw [h2 a] at b; cases b), someUp_none hn]; rfl
  rw [downG, e, if_pos rfl]
  exact ⟨rfl, rfl⟩
end
/-- Of a chain the first ones live, all others are off. -/
def TkInv (c : List Nat) (j : Nat) (gs : List Gd) : Prop := ∀ x (h : x < gs.length), gs[x].phase = if x ∈ c.take j then 49 else 48
theorem TkInv.fresh (c : List Nat) (D : List Dom) : TkInv c 0 (gfresh D) := fun x h => by simp [gfresh]
theorem GInv.rise {D : List Dom} {gs : List Gd} (h : GInv D gs) {k : Nat} (hk : k < gs.length) : GInv D (gs.set k gs[k].rise) := by
  have hD : k < D.length := by rw [← h.len]; exact hk
  have e := h.same k hk hD
  have := (h.dom k hD).delay
  exact h.put hk rfl rfl rfl (by show 0 ≤ gs[k].delay ∧ gs[k].delay ≤ 20; omega)
theorem GInv.risen {D : List Dom} {gs : List Gd} (h : GInv D gs) {k : Nat} (hk : k < gs.length) : GInv D (gs.set k gs[k].risen) :=
  h.put hk rfl rfl rfl (by show 0 ≤ (0 : Int) ∧ (0 : Int) ≤ 20; omega)
theorem GInv.fall {D : List Dom} {gs : List Gd} (h : GInv D gs) {k : Nat} (hk : k < gs.length) (b : Bool) : GInv D (gs.set k (gs[k].fall b)) :=
  have := h.left gs[k] (List.getElem_mem hk)
  h.put hk rfl rfl rfl this
section
variable {st : ASt} {ib p ig : Nat} {S : Soc} (hS : S.like)
include hS
set_option maxHeartbeats 1000000 in
/-- All of the chain rise, one behind the other. -/
theorem take_rise {s : ASt} {gs : List Gd} {keep : Bool} {d : Nat} {c : List Nat} (h : WSt st s ib p ig S gs) (hI : GInv S.doms gs) (hc : ChainOk gs c d) (hcl : c.length ≤ 100) (hT : TkInv c 0 gs) {Q : IExit → AFr → ASt → Prop}
    (hQ : ∀ s' gs', WSt st s' ib p ig S gs' → GInv S.doms gs' → ChainOk gs' c d → TkInv c c.length gs' → awp Try.prog C.catnaplaw7_PowerTakes_c15 Q [(2, .bool keep), (8, .ptr ib 0), (9, .ptr p 0), (11, .int .i64 d), (12, .isl 1 (ints (c.map Int.ofNat)) c.length)] s') :
    awp Try.prog C.catnaplaw7_PowerTakes_c25 Q [(2, .bool keep), (8, .ptr ib 0), (9, .ptr p 0), (11, .int .i64 d), (12, .isl 1 (ints (c.map Int.ofNat)) c.length)] s := by
  have hnd := hS.nd
  simp only [↓Bp, Bq, Bs, ↓aop.eq_28, ↓aop.eq_30, Nat.reduceEqDiff, Nat.reduceAdd, Nat.reduceMul, Nat.reduceSub, Nat.reduceLeDiff, Nat.reduceLT, Int.reduceLT, Int.reduceLE, Int.reduceEq, Int.reduceToNat, Int.reduceAdd, Int.reduceSub, Int.reduceNeg, ↓reduceIte, reduceCtorEq, ↓C.catnaplaw7_PowerTakes_W, C.catnaplaw7_PowerTakes_B, C.catnaplaw7_PowerTakes]
  refine awp_midB (fun _ : Unit => [(2, .bool keep), (8, .ptr ib 0), (9, .ptr p 0), (11, .int .i64 d), (12, .isl 1 (ints (c.map Int.ofNat)) c.length)]) (fun _ s' => ∃ gs', WSt st s' ib p ig S gs' ∧ GInv S.doms gs' ∧ ChainOk gs' c d ∧ TkInv c c.length gs') ?_ ?_
  rotate_left
  · rintro - s' ⟨gs', h1, h2, h3, h4⟩; exact hQ s' gs' h1 h2 h3 h4
  clear hQ
  refine awp_loopK (fun j : Nat => [(2, .bool keep), (8, .ptr ib 0), (9, .ptr p 0), (11, .int .i64 d), (12, .isl 1 (ints (c.map Int.ofNat)) c.length), (13, .int .i64 j)]) (fun j s' => j ≤ c.length ∧ ∃ gs', WSt st s' ib p ig S gs' ∧ GInv S.doms gs' ∧ ChainOk gs' c d ∧ TkInv c j gs') (fun j => c.length - j) 0 rfl ⟨Nat.zero_le _, gs, h, hI, hc, hT⟩ ?_
  clear h hI hc hT gs s
  rintro j s ⟨hj, gs, h, hI, hc, hT⟩
  by_cases hjl : j < c.length
  rotate_left
  · have hjl' : ¬ (j : Int) < (c.length : Nat) := by omega
    simp only [↓Bp, Bq, Bs, ↓aop.eq_28, ↓aop.eq_30, Nat.reduceEqDiff, Nat.reduceAdd, Nat.reduceMul, Nat.reduceSub, Nat.reduceLeDiff, Nat.reduceLT, Int.reduceLT, Int.reduceLE, Int.reduceEq, Int.reduceToNat, Int.reduceAdd, Int.reduceSub, Int.reduceNeg, ↓reduceIte, reduceCtorEq, ↓C.catnaplaw7_PowerTakes_W, C.catnaplaw7_PowerTakes_B, C.catnaplaw7_PowerTakes, hjl']
    exact ⟨(), gs, h, hI, hc, by rw [show c.length = j by omega]; exact hT⟩
  have hjl' : (j : Int) < (c.length : Nat) := by omega
  have hw := wsucc hjl (by omega)
  have hz : (0:Int) ≤ (j : Int) ∧ (j : Int) < (c.length : Nat) := by omega
  have hg := ints_nat_get (c := c) (j := j) hjl
  have hk := hc.lt j hjl
  have hlt : ∀ i (hi : i < j), c[i]'(by omega) < c[j] := fun i hi => hc.mono hI.lesser hi hjl
  have hnxt : ∀ (hj1 : j + 1 < c.length), ∃ (a : Nat) (h : a < gs.length), (gs[c[j + 1]]'(hc.lt _ hj1)).above = (a : Int) ∧ gs[a].phase ≠ 49 := fun hj1 => by
    refine ⟨c[j], hk, hc.link j hj1 _, ?_⟩
    have hnm : c[j] ∉ c.take j := fun hm => by
      obtain ⟨u, hu, e⟩ := List.getElem_of_mem hm
      simp only [List.length_take] at hu
      rw [List.getElem_take] at e
      have := hlt u (by omega)
      omega
    rw [hT _ hk, if_neg hnm]; decide
  have hun : Hung gs c[j] hk := by
    rcases Nat.eq_zero_or_pos j with e | e
    · subst e; exact .inl (hc.top _ _)
    · obtain ⟨u, rfl⟩ : ∃ u, j = u + 1 := ⟨j - 1, by omega⟩
      have hu := hc.lt u (by omega)
      refine .inr ⟨c[u], hu, hc.link u hjl _, ?_⟩
      rw [hT _ hu, if_pos]
      have hm : u < (c.take (u + 1)).length := by simp; omega
      have := List.getElem_mem hm
      rwa [List.getElem_take] at this
  have hcu := hc.lt
  obtain ⟨k, hkk⟩ : ∃ k, k = c[j] := ⟨_, rfl⟩
  have hnm : k ∉ c.take j := fun hm => by
    obtain ⟨u, hu, e⟩ := List.getElem_of_mem hm
    simp only [List.length_take] at hu
    rw [List.getElem_take] at e
    have := hlt u (by omega)
    omega
  simp only [← hkk] at hg hk hun
  have hkD : k < S.doms.length := by rw [← hI.len]; exact hk
  have hzk : (0:Int) ≤ (k : Int) ∧ (k : Int) < (S.doms.length : Nat) := by omega
  have hd0 := (dom_gets hkD).2.1
  have hdl := (hI.dom k hkD).delay
  have hsame := hI.same k hk hkD
  obtain ⟨dl, hdl2⟩ : ∃ dl : Nat, S.doms[k].delay = dl := ⟨S.doms[k].delay.toNat, by omega⟩
  have hph : gs[k].phase = 48 := by rw [hT _ hk, if_neg hnm]
  have hdn : gs[k].isDown = true := isDown_true.mpr (.inl hph)
  have h1 := h.set (gs' := gs.set k gs[k].rise) (by simp)
  have hb1 := h1.hb
  have hI1 := hI.rise hk
  have hk1 : k < (gs.set k gs[k].rise).length := by simpa using hk
  have hst : Still (gs.set k gs[k].rise) k := fun i hi he => by
    simp only [List.length_set] at hi
    rw [List.getElem_set_ne (Ne.symm he)]
    have := hT i hi
    by_cases e : i ∈ c.take j
    · rw [if_pos e] at this; exact .inr (.inl this)
    · rw [if_neg e] at this; exact .inl this
  have hgg : (gs.set k gs[k].rise)[k] = gs[k].rise := List.getElem_set_self _
  have hdl3 : gs[k].delay = (dl : Int) := by rw [hsame.2.1, hdl2]
  have hI2 := hI.risen hk
  have hs2 := hI.same2 hI2
  have hc2 := hc.same hs2.1 hs2.2
  have hT2 : TkInv c (j + 1) (gs.set k gs[k].risen) := fun x hx => by
    simp only [List.length_set] at hx
    rw [List.getElem_set, List.take_succ_eq_append_getElem hjl, ← hkk]
    split
    · rename_i e; subst e
      rw [if_pos (by simp)]; rfl
    · rename_i e
      have : (x ∈ c.take j ++ [k]) ↔ x ∈ c.take j := by simp [Ne.symm e]
      rw [hT x hx]; simp only [this]
  rw [hdl2] at hd0
  by_cases hj1 : j + 1 < c.length
  · have hj1' : ((j + 1 : Nat) : Int) < (c.length : Nat) := by omega
    have hz1 : (0:Int) ≤ ((j + 1 : Nat) : Int) ∧ ((j + 1 : Nat) : Int) < (c.length : Nat) := by omega
    have hg1 := ints_nat_get (c := c) (j := j + 1) hj1
    simp only [↓Bp, Bq, Bs, ↓aop.eq_28, ↓aop.eq_30, Nat.reduceEqDiff, Nat.reduceAdd, Nat.reduceMul, Nat.reduceSub, Nat.reduceLeDiff, Nat.reduceLT, Int.reduceLT, Int.reduceLE, Int.reduceEq, Int.reduceToNat, Int.reduceAdd, Int.reduceSub, Int.reduceNeg, ↓reduceIte, reduceCtorEq, ↓C.catnaplaw7_PowerTakes_W, C.catnaplaw7_PowerTakes_B, C.catnaplaw7_PowerTakes, hjl', hw, hj1', hz1, hg1, Int.toNat_natCast, Nat.mul_one]
    refine (up_noS h.g hI.above (hc.lt _ hj1) (.inr (hnxt hj1))).mono ?_
    rintro r s ⟨rfl, rfl⟩
    simp only [↓Bp, Bq, Bs, ↓aop.eq_28, ↓aop.eq_30, Nat.reduceEqDiff, Nat.reduceAdd, Nat.reduceMul, Nat.reduceSub, Nat.reduceLeDiff, Nat.reduceLT, Int.reduceLT, Int.reduceLE, Int.reduceEq, Int.reduceToNat, Int.reduceAdd, Int.reduceSub, Int.reduceNeg, ↓reduceIte, reduceCtorEq, ↓C.catnaplaw7_PowerTakes_W, C.catnaplaw7_PowerTakes_B, C.catnaplaw7_PowerTakes, hz, hg, Int.toNat_natCast, Nat.mul_one]
    refine (up_yesS h.g hI.above hk hdn hun).mono ?_
    rintro r s' ⟨rfl, rfl⟩
    generalize s.set ig (gsC (gs.set k gs[k].rise)) = s1 at h1 hb1
    simp only [↓Bp, Bq, Bs, ↓aop.eq_28, ↓aop.eq_30, Nat.reduceEqDiff, Nat.reduceAdd, Nat.reduceMul, Nat.reduceSub, Nat.reduceLeDiff, Nat.reduceLT, Int.reduceLT, Int.reduceLE, Int.reduceEq, Int.reduceToNat, Int.reduceAdd, Int.reduceSub, Int.reduceNeg, ↓reduceIte, reduceCtorEq, ↓C.catnaplaw7_PowerTakes_W, C.catnaplaw7_PowerTakes_B, C.catnaplaw7_PowerTakes, hz, hg, Int.toNat_natCast, Nat.mul_one]
    refine (up_noS h1.g hI1.above hk1 (.inl (by rw [hgg]; exact isDown_false.mpr ⟨by show (114 : Int) ≠ 48; decide, by show (114 : Int) ≠ 116; decide⟩))).mono ?_
    rintro r s2 ⟨rfl, rfl⟩
    simp only [↓Bp, Bq, Bs, ↓aop.eq_28, ↓aop.eq_30, Nat.reduceEqDiff, Nat.reduceAdd, Nat.reduceMul, Nat.reduceSub, Nat.reduceLeDiff, Nat.reduceLT, Int.reduceLT, Int.reduceLE, Int.reduceEq, Int.reduceToNat, Int.reduceAdd, Int.reduceSub, Int.reduceNeg, ↓reduceIte, reduceCtorEq, ↓C.catnaplaw7_PowerTakes_W, C.catnaplaw7_PowerTakes_B, C.catnaplaw7_PowerTakes, hz, hg, hb1, Soc.cells, Soc.domV, hzk, hd0, Int.toNat_natCast, Nat.mul_one]
    refine (risen_spec h1.g hk1 hst hI1.low (by omega) (by rw [hgg]; rfl) (by rw [hgg]; exact hdl3) (by rw [hgg]; show (110 : Int) = if decide (gs[k].phase = 116) = true then 114 else 110; rw [hph]; decide)).mono ?_
    rintro r s3 ⟨rfl, rfl⟩
    rw [hgg, List.set_set, show ({ gs[k].rise with phase := 49, left := 0 } : Gd) = gs[k].risen from rfl]
    have h2 := h1.set (gs' := gs.set k gs[k].risen) (by simp)
    simp only [↓Bp, Bq, Bs, ↓aop.eq_28, ↓aop.eq_30, Nat.reduceEqDiff, Nat.reduceAdd, Nat.reduceMul, Nat.reduceSub, Nat.reduceLeDiff, Nat.reduceLT, Int.reduceLT, Int.reduceLE, Int.reduceEq, Int.reduceToNat, Int.reduceAdd, Int.reduceSub, Int.reduceNeg, ↓reduceIte, reduceCtorEq, ↓C.catnaplaw7_PowerTakes_W, C.catnaplaw7_PowerTakes_B, C.catnaplaw7_PowerTakes, hw]
    exact ⟨j + 1, rfl, ⟨hjl, _, h2, hI2, hc2, hT2⟩, by omega⟩
  · have hj1' : ¬ ((j + 1 : Nat) : Int) < (c.length : Nat) := by omega
    simp only [↓Bp, Bq, Bs, ↓aop.eq_28, ↓aop.eq_30, Nat.reduceEqDiff, Nat.reduceAdd, Nat.reduceMul, Nat.reduceSub, Nat.reduceLeDiff, Nat.reduceLT, Int.reduceLT, Int.reduceLE, Int.reduceEq, Int.reduceToNat, Int.reduceAdd, Int.reduceSub, Int.reduceNeg, ↓reduceIte, reduceCtorEq, ↓C.catnaplaw7_PowerTakes_W, C.catnaplaw7_PowerTakes_B, C.catnaplaw7_PowerTakes, hjl', hw, hj1', hz, hg, Int.toNat_natCast, Nat.mul_one]
    refine (up_yesS h.g hI.above hk hdn hun).mono ?_
    rintro r s' ⟨rfl, rfl⟩
    generalize s.set ig (gsC (gs.set k gs[k].rise)) = s1 at h1 hb1
    simp only [↓Bp, Bq, Bs, ↓aop.eq_28, ↓aop.eq_30, Nat.reduceEqDiff, Nat.reduceAdd, Nat.reduceMul, Nat.reduceSub, Nat.reduceLeDiff, Nat.reduceLT, Int.reduceLT, Int.reduceLE, Int.reduceEq, Int.reduceToNat, Int.reduceAdd, Int.reduceSub, Int.reduceNeg, ↓reduceIte, reduceCtorEq, ↓C.catnaplaw7_PowerTakes_W, C.catnaplaw7_PowerTakes_B, C.catnaplaw7_PowerTakes, hz, hg, Int.toNat_natCast, Nat.mul_one]
    refine (up_noS h1.g hI1.above hk1 (.inl (by rw [hgg]; exact isDown_false.mpr ⟨by show (114 : Int) ≠ 48; decide, by show (114 : Int) ≠ 116; decide⟩))).mono ?_
    rintro r s2 ⟨rfl, rfl⟩
    simp only [↓Bp, Bq, Bs, ↓aop.eq_28, ↓aop.eq_30, Nat.reduceEqDiff, Nat.reduceAdd, Nat.reduceMul, Nat.reduceSub, Nat.reduceLeDiff, Nat.reduceLT, Int.reduceLT, Int.reduceLE, Int.reduceEq, Int.reduceToNat, Int.reduceAdd, Int.reduceSub, Int.reduceNeg, ↓reduceIte, reduceCtorEq, ↓C.catnaplaw7_PowerTakes_W, C.catnaplaw7_PowerTakes_B, C.catnaplaw7_PowerTakes, hz, hg, hb1, Soc.cells, Soc.domV, hzk, hd0, Int.toNat_natCast, Nat.mul_one]
    refine (risen_spec h1.g hk1 hst hI1.low (by omega) (by rw [hgg]; rfl) (by rw [hgg]; exact hdl3) (by rw [hgg]; show (110 : Int) = if decide (gs[k].phase = 116) = true then 114 else 110; rw [hph]; decide)).mono ?_
    rintro r s3 ⟨rfl, rfl⟩
    rw [hgg, List.set_set, show ({ gs[k].rise with phase := 49, left := 0 } : Gd) = gs[k].risen from rfl]
    have h2 := h1.set (gs' := gs.set k gs[k].risen) (by simp)
    simp only [↓Bp, Bq, Bs, ↓aop.eq_28, ↓aop.eq_30, Nat.reduceEqDiff, Nat.reduceAdd, Nat.reduceMul, Nat.reduceSub, Nat.reduceLeDiff, Nat.reduceLT, Int.reduceLT, Int.reduceLE, Int.reduceEq, Int.reduceToNat, Int.reduceAdd, Int.reduceSub, Int.reduceNeg, ↓reduceIte, reduceCtorEq, ↓C.catnaplaw7_PowerTakes_W, C.catnaplaw7_PowerTakes_B, C.catnaplaw7_PowerTakes, hw]
    exact ⟨j + 1, rfl, ⟨hjl, _, h2, hI2, hc2, hT2⟩, by omega⟩
end
end Go.Proofs.Ytgfpnfnjnakoaaa.Cn
