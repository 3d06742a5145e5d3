/- Power: PowerChains. -/
import Derived.Test.YtgfpnfnjnakoaaaCnPTakes
set_option linter.unusedSimpArgs false
set_option linter.unusedVariables false
set_option linter.unusedSectionVars false
namespace Go.Proofs.Ytgfpnfnjnakoaaa.Cn
open Go Go.Proofs

/-- An order of all domains: each behind that on which it hangs. -/
structure OrdOk (gs : List Gd) (O : List Nat) : Prop where
  len : O.length = gs.length
  lt : ∀ j (h : j < O.length), O[j] < gs.length
  nd : O.Nodup
  all : ∀ x, x < gs.length → x ∈ O
  par : ∀ j (h : j < O.length) (h2 : O[j] < gs.length) (a : Nat), gs[O[j]].above = (a : Int) → a ∈ O.take j
theorem OrdOk.same {gs gs' : List Gd} {O : List Nat} (h : OrdOk gs O) (hl : gs'.length = gs.length) (hs : ∀ i (h1 : i < gs'.length) (h2 : i < gs.length), gs'[i].above = gs[i].above) : OrdOk gs' O where
  len := by rw [hl]; exact h.len
  lt := fun j hj => by rw [hl]; exact h.lt j hj
  nd := h.nd
  all := fun x hx => h.all x (by rw [← hl]; exact hx)
  par := fun j hj h2 a e => h.par j hj (h.lt j hj) a (by rw [← hs _ h2 (h.lt j hj)]; exact e)
theorem OrdOk.fresh {O : List Nat} {D : List Dom} (hD : ∀ i (h : i < D.length), DomOk i D[i]) (hn : D.length ≤ 100) (hr : grErr (D.map Dom.up) = 0) (hO : O = ord (D.map Dom.up)) : OrdOk (gfresh D) O := by
  have hR := (grErr_zero.mp hr).2
  have ht := ord_topo (D.map Dom.up)
  have hl : (gfresh D).length = (D.map Dom.up).length := by simp [gfresh]
  subst hO
  refine ⟨by rw [hl]; exact hR.full, fun j hj => by rw [hl]; exact ht.lt _ (List.getElem_mem hj), ht.nodup, fun x hx => hR.mem (by rw [← hl]; exact hx), fun j hj h2 a e => ?_⟩
  have hv : (ord (D.map Dom.up))[j] < (D.map Dom.up).length := ht.lt _ (List.getElem_mem hj)
  have hvD : (ord (D.map Dom.up))[j] < D.length := by simpa using hv
  have e' : (D[(ord (D.map Dom.up))[j]]).above = (a : Int) := by rw [← e]; simp [gfresh]
  have hd : a ∈ deps (D.map Dom.up) (ord (D.map Dom.up))[j] := by
    rw [deps_at hv, List.getElem_map, Dom.up, if_neg (by omega), e']
    simp
  have hp := hR.pos hd
  rw [hR.idx hj] at hp
  have ha : a ∈ ord (D.map Dom.up) := (ht.deps _ (List.getElem_mem hj) a hd).1
  have hm : (ord (D.map Dom.up)).idxOf a < ((ord (D.map Dom.up)).take j).length := by
    have := List.idxOf_lt_length_of_mem ha
    simp; omega
  have := List.getElem_mem hm
  rw [List.getElem_take, List.getElem_idxOf] at this
  exact this
theorem OrdOk.ninc {gs : List Gd} {O : List Nat} (h : OrdOk gs O) {j : Nat} (hj : j < O.length) : O[j] ∉ O.take j := fun hm => by
  obtain ⟨u, hu, e⟩ := List.getElem_of_mem hm
  simp only [List.length_take] at hu
  rw [List.getElem_take] at e
  have a1 := h.nd.idxOf_getElem u (by omega)
  have a2 := h.nd.idxOf_getElem j hj
  rw [e, a2] at a1
  omega
theorem take_succ_mem {O : List Nat} {j : Nat} (hj : j < O.length) (x : Nat) : x ∈ O.take (j + 1) ↔ x ∈ O.take j ∨ x = O[j] := by
  rw [List.take_succ_eq_append_getElem hj, List.mem_append, List.mem_singleton]
/-- All live, or, if they have been switched off, are off, or kept. -/
def OffInv (O : List Nat) (t : Nat) (keep : Bool) (gs : List Gd) : Prop := ∀ x (h : x < gs.length), gs[x].phase = if x ∈ O.take t then 49 else if (keep && gs[x].ret) = true then 116 else 48
/-- How far one has come up. -/
def Gd.after (g : Gd) (t : Nat) : Gd := if (t : Int) ≤ g.delay then { g.rise with left := g.delay - (t : Int) } else if (t : Int) = g.delay + 1 then { g.rise with phase := 104, left := 0 } else g.risen
theorem Gd.after_zero {g : Gd} (h : 0 ≤ g.delay) : g.after 0 = g.rise := by
  unfold Gd.after; rw [if_pos (by omega)]
  show ({ g.rise with left := g.delay - ((0 : Nat) : Int) } : Gd) = g.rise
  rw [show g.delay - ((0 : Nat) : Int) = g.delay by omega]; rfl
theorem Gd.after_tick {g : Gd} {t : Nat} (ht : (t : Int) ≤ g.delay + 1) : gtick (g.after t) = g.after (t + 1) ∧ (g.after t).phase ≠ 49 := by
  by_cases h1 : (t : Int) ≤ g.delay
  · have e : g.after t = { g.rise with left := g.delay - (t : Int) } := by unfold Gd.after; rw [if_pos h1]
    have hp : (g.after t).phase = 114 := by rw [e]; rfl
    have hl : (g.after t).left = g.delay - (t : Int) := by rw [e]
    refine ⟨?_, by rw [hp]; decide⟩
    unfold gtick
    rw [if_pos hp, hl]
    by_cases h2 : (t : Int) = g.delay
    · rw [if_neg (by omega), e]
      unfold Gd.after; rw [if_neg (by omega), if_pos (by omega)]
      show ({ g.rise with phase := 104, left := g.delay - (t : Int) } : Gd) = _
      rw [show g.delay - (t : Int) = 0 by omega]
    · rw [if_pos (by omega), e]
      unfold Gd.after; rw [if_pos (by omega)]
      show ({ g.rise with left := g.delay - (t : Int) - 1 } : Gd) = _
      rw [show g.delay - (t : Int) - 1 = g.delay - ((t + 1 : Nat) : Int) by omega]
  · have e : g.after t = { g.rise with phase := 104, left := 0 } := by unfold Gd.after; rw [if_neg h1, if_pos (by omega)]
    have e2 : g.after (t + 1) = g.risen := by unfold Gd.after; rw [if_neg (by omega), if_neg (by omega)]
    rw [e, e2]
    exact ⟨rfl, by show (104 : Int) ≠ 49; decide⟩
theorem Gd.after_end {g : Gd} {t : Nat} (ht : (t : Int) = g.delay + 2) : g.after t = g.risen := by
  unfold Gd.after; rw [if_neg (by omega), if_neg (by omega)]
theorem Gd.after_left {g : Gd} {t : Nat} (h : g.delay ≤ 20) : (g.after t).left ≤ 1000 := by
  unfold Gd.after; split
  · show g.delay - (t : Int) ≤ 1000; omega
  · split
    · show (0 : Int) ≤ 1000; omega
    · show (0 : Int) ≤ 1000; omega
theorem fall_tick {g : Gd} (kp : Bool) : gtick (g.fall kp) = { g.fall kp with phase := if kp = true then 116 else 48 } := by
  have hp : (g.fall kp).phase = 99 := rfl
  unfold gtick
  rw [if_neg (by rw [hp]; decide), if_neg (by rw [hp]; decide), if_pos hp]
  cases kp <;> rfl
section
variable {st : ASt} {ib p ig : Nat} {S : Soc} (hS : S.like)
include hS
set_option maxHeartbeats 1000000 in
/-- One rises. -/
theorem chain_one {s : ASt} {gs : List Gd} {keep : Bool} {j k : Nat} {O : List Nat} (h : WSt st s ib p ig S gs) (hI : GInv S.doms gs) (hj : j < O.length) (hk : k < gs.length) (hkk : k = O[j]) (hst : Still gs k) {Q : IExit → AFr → ASt → Prop}
    (hQ : ∀ fr s', WSt st s' ib p ig S (gs.set k gs[k].risen) → fr.keep [1, 6, 7, 9, 11] = [(1, .bool keep), (6, .ptr ib 0), (7, .ptr p 0), (9, .isl 1 (ints (O.map Int.ofNat)) O.length), (11, .int .i64 j)] → Q .normal fr s') :
    awp Try.prog C.catnaplaw7_PowerChains_c40 Q [(1, .bool keep), (6, .ptr ib 0), (7, .ptr p 0), (9, .isl 1 (ints (O.map Int.ofNat)) O.length), (11, .int .i64 j)] (s.set ig (gsC (gs.set k gs[k].rise))) := by
  have hnd := hS.nd
  have hkD : k < S.doms.length := by rw [← hI.len]; exact hk
  have hdl := (hI.dom k hkD).delay
  have hsame := hI.same k hk hkD
  have hd1 : 0 ≤ gs[k].delay ∧ gs[k].delay ≤ 20 := by omega
  obtain ⟨dl, hdl2⟩ : ∃ dl : Nat, gs[k].delay = dl := ⟨gs[k].delay.toNat, by omega⟩
  have hz : (0:Int) ≤ (j : Int) ∧ (j : Int) < (O.length : Nat) := by omega
  have hg := ints_nat_get (c := O) (j := j) hj
  rw [← hkk] at hg
  simp only [↓Bp, Bq, Bs, ↓aop.eq_28, ↓aop.eq_30, Nat.reduceEqDiff, Nat.reduceAdd, Nat.reduceMul, Nat.reduceSub, Nat.reduceLeDiff, Nat.reduceLT, Int.reduceLT, Int.reduceLE, Int.reduceEq, Int.reduceToNat, Int.reduceAdd, Int.reduceSub, Int.reduceNeg, ↓reduceIte, reduceCtorEq, ↓C.catnaplaw7_PowerChains_W, C.catnaplaw7_PowerChains_B, C.catnaplaw7_PowerChains]
  refine awp_loopK (fun t : Nat => [(1, .bool keep), (6, .ptr ib 0), (7, .ptr p 0), (9, .isl 1 (ints (O.map Int.ofNat)) O.length), (11, .int .i64 j), (12, .int .i64 t)]) (fun t s' => t ≤ dl + 2 ∧ s' = s.set ig (gsC (gs.set k (gs[k].after t)))) (fun t => dl + 2 - t) 0 rfl ⟨Nat.zero_le _, by rw [Gd.after_zero hd1.1]⟩ ?_
  rintro t s' ⟨ht, rfl⟩
  have T30 : ((t : Int) < 30) = True := eq_true (by omega)
  have hw : IntKind.i64.wrap ((t : Int) + 1) = ((t + 1 : Nat) : Int) := wsucc (n := 1000) (by omega) (by omega)
  simp only [↓Bp, Bq, Bs, ↓aop.eq_28, ↓aop.eq_30, Nat.reduceEqDiff, Nat.reduceAdd, Nat.reduceMul, Nat.reduceSub, Nat.reduceLeDiff, Nat.reduceLT, Int.reduceLT, Int.reduceLE, Int.reduceEq, Int.reduceToNat, Int.reduceAdd, Int.reduceSub, Int.reduceNeg, ↓reduceIte, reduceCtorEq, ↓C.catnaplaw7_PowerChains_W, C.catnaplaw7_PowerChains_B, C.catnaplaw7_PowerChains, T30, hz, hg, Int.toNat_natCast, Nat.mul_one]
  refine (phaseS h.g hk _).mono ?_
  rintro r s' ⟨rfl, rfl⟩
  by_cases htl : t = dl + 2
  · have e := Gd.after_end (g := gs[k]) (t := t) (by omega)
    rw [e, show gs[k].risen.phase = 49 from rfl]
    simp only [↓Bp, Bq, Bs, ↓aop.eq_28, ↓aop.eq_30, Nat.reduceEqDiff, Nat.reduceAdd, Nat.reduceMul, Nat.reduceSub, Nat.reduceLeDiff, Nat.reduceLT, Int.reduceLT, Int.reduceLE, Int.reduceEq, Int.reduceToNat, Int.reduceAdd, Int.reduceSub, Int.reduceNeg, ↓reduceIte, reduceCtorEq, ↓C.catnaplaw7_PowerChains_W, C.catnaplaw7_PowerChains_B, C.catnaplaw7_PowerChains]
    exact hQ _ _ (h.set (by simp)) rfl
  · obtain ⟨e1, e2⟩ := Gd.after_tick (g := gs[k]) (t := t) (by omega)
    have T1 := eq_false e2
    simp only [↓Bp, Bq, Bs, ↓aop.eq_28, ↓aop.eq_30, Nat.reduceEqDiff, Nat.reduceAdd, Nat.reduceMul, Nat.reduceSub, Nat.reduceLeDiff, Nat.reduceLT, Int.reduceLT, Int.reduceLE, Int.reduceEq, Int.reduceToNat, Int.reduceAdd, Int.reduceSub, Int.reduceNeg, ↓reduceIte, reduceCtorEq, ↓C.catnaplaw7_PowerChains_W, C.catnaplaw7_PowerChains_B, C.catnaplaw7_PowerChains, T1]
    refine (tickS h.g hk hst hI.low (Gd.after_left hd1.2)).mono ?_
    rintro r s' ⟨rfl, rfl⟩
    rw [e1]
    simp only [↓Bp, Bq, Bs, ↓aop.eq_28, ↓aop.eq_30, Nat.reduceEqDiff, Nat.reduceAdd, Nat.reduceMul, Nat.reduceSub, Nat.reduceLeDiff, Nat.reduceLT, Int.reduceLT, Int.reduceLE, Int.reduceEq, Int.reduceToNat, Int.reduceAdd, Int.reduceSub, Int.reduceNeg, ↓reduceIte, reduceCtorEq, ↓C.catnaplaw7_PowerChains_W, C.catnaplaw7_PowerChains_B, C.catnaplaw7_PowerChains, hw]
    exact ⟨t + 1, rfl, ⟨by omega, rfl⟩, by omega⟩
set_option maxHeartbeats 1000000 in
/-- All rise. -/
theorem chain_up {s : ASt} {gs : List Gd} {keep : Bool} {O : List Nat} (h : WSt st s ib p ig S gs) (hI : GInv S.doms gs) (hO : OrdOk gs O) (hT : TkInv O 0 gs) {Q : IExit → AFr → ASt → Prop}
    (hQ : ∀ s' gs', WSt st s' ib p ig S gs' → GInv S.doms gs' → OrdOk gs' O → TkInv O O.length gs' → awp Try.prog C.catnaplaw7_PowerChains_c31 Q [(1, .bool keep), (6, .ptr ib 0), (7, .ptr p 0), (9, .isl 1 (ints (O.map Int.ofNat)) O.length)] s') :
    awp Try.prog C.catnaplaw7_PowerChains_c49 Q [(1, .bool keep), (6, .ptr ib 0), (7, .ptr p 0), (9, .isl 1 (ints (O.map Int.ofNat)) O.length)] s := by
  have hnd := hS.nd
  have hOl : O.length ≤ 4 := by rw [hO.len, hI.len]; omega
  simp only [↓Bp, Bq, Bs, ↓aop.eq_28, ↓aop.eq_30, Nat.reduceEqDiff, Nat.reduceAdd, Nat.reduceMul, Nat.reduceSub, Nat.reduceLeDiff, Nat.reduceLT, Int.reduceLT, Int.reduceLE, Int.reduceEq, Int.reduceToNat, Int.reduceAdd, Int.reduceSub, Int.reduceNeg, ↓reduceIte, reduceCtorEq, ↓C.catnaplaw7_PowerChains_W, C.catnaplaw7_PowerChains_B, C.catnaplaw7_PowerChains]
  refine awp_midB (fun _ : Unit => [(1, .bool keep), (6, .ptr ib 0), (7, .ptr p 0), (9, .isl 1 (ints (O.map Int.ofNat)) O.length)]) (fun _ s' => ∃ gs', WSt st s' ib p ig S gs' ∧ GInv S.doms gs' ∧ OrdOk gs' O ∧ TkInv O O.length gs') ?_ ?_
  rotate_left
  · rintro - s' ⟨gs', h1, h2, h3, h4⟩; exact hQ s' gs' h1 h2 h3 h4
  clear hQ
  refine awp_loopK (fun j : Nat => [(1, .bool keep), (6, .ptr ib 0), (7, .ptr p 0), (9, .isl 1 (ints (O.map Int.ofNat)) O.length), (11, .int .i64 j)]) (fun j s' => j ≤ O.length ∧ ∃ gs', WSt st s' ib p ig S gs' ∧ GInv S.doms gs' ∧ OrdOk gs' O ∧ TkInv O j gs') (fun j => O.length - j) 0 rfl ⟨Nat.zero_le _, gs, h, hI, hO, hT⟩ ?_
  clear h hI hO hT gs s
  rintro j s ⟨hj, gs, h, hI, hO, hT⟩
  by_cases hjl : j < O.length
  rotate_left
  · have hjl' : ¬ (j : Int) < (O.length : Nat) := by omega
    simp only [↓Bp, Bq, Bs, ↓aop.eq_28, ↓aop.eq_30, Nat.reduceEqDiff, Nat.reduceAdd, Nat.reduceMul, Nat.reduceSub, Nat.reduceLeDiff, Nat.reduceLT, Int.reduceLT, Int.reduceLE, Int.reduceEq, Int.reduceToNat, Int.reduceAdd, Int.reduceSub, Int.reduceNeg, ↓reduceIte, reduceCtorEq, ↓C.catnaplaw7_PowerChains_W, C.catnaplaw7_PowerChains_B, C.catnaplaw7_PowerChains, hjl']
    exact ⟨(), gs, h, hI, hO, by rw [show O.length = j by omega]; exact hT⟩
  have hjl' : (j : Int) < (O.length : Nat) := by omega
  have hw := wsucc hjl (by omega)
  have hz : (0:Int) ≤ (j : Int) ∧ (j : Int) < (O.length : Nat) := by omega
  have hg := ints_nat_get (c := O) (j := j) hjl
  have hk := hO.lt j hjl
  have hpar := hO.par j hjl hk
  have hninc := hO.ninc hjl
  have hmm := take_succ_mem hjl
  obtain ⟨k, hkk⟩ : ∃ k, k = O[j] := ⟨_, rfl⟩
  simp only [← hkk] at hg hk hpar hninc hmm
  have hph : gs[k].phase = 48 := by rw [hT _ hk, if_neg hninc]
  have hdn : gs[k].isDown = true := isDown_true.mpr (.inl hph)
  have hun : Hung gs k hk := by
    have hl := hI.lesser k hk
    by_cases e : gs[k].above = -1
    · exact .inl e
    · obtain ⟨a, ha⟩ : ∃ a : Nat, gs[k].above = a := ⟨gs[k].above.toNat, by omega⟩
      have hal : a < gs.length := by omega
      exact .inr ⟨a, hal, ha, by rw [hT _ hal, if_pos (hpar a ha)]⟩
  have hst : Still gs k := fun i hi he => by
    have := hT i hi
    by_cases e : i ∈ O.take j
    · rw [if_pos e] at this; exact .inr (.inl this)
    · rw [if_neg e] at this; exact .inl this
  have hI2 := hI.risen hk
  have hs2 := hI.same2 hI2
  have hO2 := hO.same hs2.1 hs2.2
  have hT2 : TkInv O (j + 1) (gs.set k gs[k].risen) := fun x hx => by
    simp only [List.length_set] at hx
    rw [List.getElem_set]
    split
    · rename_i e; subst e
      rw [if_pos ((hmm _).mpr (.inr rfl))]; rfl
    · rename_i e
      have : (x ∈ O.take (j + 1)) ↔ x ∈ O.take j := by rw [hmm]; simp [Ne.symm e]
      rw [hT x hx]; simp only [this]
  simp only [↓Bp, Bq, Bs, ↓aop.eq_28, ↓aop.eq_30, Nat.reduceEqDiff, Nat.reduceAdd, Nat.reduceMul, Nat.reduceSub, Nat.reduceLeDiff, Nat.reduceLT, Int.reduceLT, Int.reduceLE, Int.reduceEq, Int.reduceToNat, Int.reduceAdd, Int.reduceSub, Int.reduceNeg, ↓reduceIte, reduceCtorEq, ↓C.catnaplaw7_PowerChains_W, C.catnaplaw7_PowerChains_B, C.catnaplaw7_PowerChains, hjl', hz, hg, Int.toNat_natCast, Nat.mul_one]
  refine (up_yesS h.g hI.above hk hdn hun).mono ?_
  rintro r s' ⟨rfl, rfl⟩
  simp only [↓Bp, Bq, Bs, ↓aop.eq_28, ↓aop.eq_30, Nat.reduceEqDiff, Nat.reduceAdd, Nat.reduceMul, Nat.reduceSub, Nat.reduceLeDiff, Nat.reduceLT, Int.reduceLT, Int.reduceLE, Int.reduceEq, Int.reduceToNat, Int.reduceAdd, Int.reduceSub, Int.reduceNeg, ↓reduceIte, reduceCtorEq, ↓C.catnaplaw7_PowerChains_r34_w, C.catnaplaw7_PowerChains_r34_b, ↓C.catnaplaw7_PowerChains_c1_w, ↓C.catnaplaw7_PowerChains_r24_w, C.catnaplaw7_PowerChains_r24_b, ↓C.catnaplaw7_PowerChains_c2_w, ↓C.catnaplaw7_PowerChains_r33_w, C.catnaplaw7_PowerChains_r33_b, ↓C.catnaplaw7_PowerChains_c3_w, ↓C.catnaplaw7_PowerChains_c4_w, ↓C.catnaplaw7_PowerChains_r32_w, C.catnaplaw7_PowerChains_r32_b, ↓C.catnaplaw7_PowerChains_c5_w, ↓C.catnaplaw7_PowerChains_r31_w, C.catnaplaw7_PowerChains_r31_b, ↓C.catnaplaw7_PowerChains_c6_w, ↓C.catnaplaw7_PowerChains_c7_w, ↓C.catnaplaw7_PowerChains_r30_w, C.catnaplaw7_PowerChains_r30_b, ↓C.catnaplaw7_PowerChains_c8_w, ↓C.catnaplaw7_PowerChains_r29_w, C.catnaplaw7_PowerChains_r29_b, ↓C.catnaplaw7_PowerChains_c9_w, ↓C.catnaplaw7_PowerChains_r28_w, C.catnaplaw7_PowerChains_r28_b, ↓C.catnaplaw7_PowerChains_c10_w, ↓C.catnaplaw7_PowerChains_r27_w, C.catnaplaw7_PowerChains_r27_b, ↓C.catnaplaw7_PowerChains_c11_w, ↓C.catnaplaw7_PowerChains_c12_w, ↓C.catnaplaw7_PowerChains_r26_w, C.catnaplaw7_PowerChains_r26_b, ↓C.catnaplaw7_PowerChains_c13_w, ↓C.catnaplaw7_PowerChains_r25_w, C.catnaplaw7_PowerChains_r25_b, ↓C.catnaplaw7_PowerChains_b14_w, ↓C.catnaplaw7_PowerChains_c15_w, ↓C.catnaplaw7_PowerChains_c16_w, ↓C.catnaplaw7_PowerChains_r23_w, C.catnaplaw7_PowerChains_r23_b, ↓C.catnaplaw7_PowerChains_b18_w, ↓C.catnaplaw7_PowerChains_c19_w, ↓C.catnaplaw7_PowerChains_r22_w, C.catnaplaw7_PowerChains_r22_b, ↓C.catnaplaw7_PowerChains_c20_w, ↓C.catnaplaw7_PowerChains_r18_w, C.catnaplaw7_PowerChains_r18_b, ↓C.catnaplaw7_PowerChains_c21_w, ↓C.catnaplaw7_PowerChains_r21_w, C.catnaplaw7_PowerChains_r21_b, ↓C.catnaplaw7_PowerChains_c22_w, ↓C.catnaplaw7_PowerChains_c23_w, ↓C.catnaplaw7_PowerChains_r20_w, C.catnaplaw7_PowerChains_r20_b, ↓C.catnaplaw7_PowerChains_c24_w, ↓C.catnaplaw7_PowerChains_r19_w, C.catnaplaw7_PowerChains_r19_b, ↓C.catnaplaw7_PowerChains_b25_w, ↓C.catnaplaw7_PowerChains_c26_w, ↓C.catnaplaw7_PowerChains_c27_w, ↓C.catnaplaw7_PowerChains_r17_w, C.catnaplaw7_PowerChains_r17_b, ↓C.catnaplaw7_PowerChains_b29_w, ↓C.catnaplaw7_PowerChains_c30_w, ↓C.catnaplaw7_PowerChains_r16_w, C.catnaplaw7_PowerChains_r16_b, ↓C.catnaplaw7_PowerChains_c31_w, ↓C.catnaplaw7_PowerChains_r9_w, C.catnaplaw7_PowerChains_r9_b, ↓C.catnaplaw7_PowerChains_c32_w, ↓C.catnaplaw7_PowerChains_r11_w, C.catnaplaw7_PowerChains_r11_b, ↓C.catnaplaw7_PowerChains_c41_w, ↓C.catnaplaw7_PowerChains_c42_w, ↓C.catnaplaw7_PowerChains_r10_w, C.catnaplaw7_PowerChains_r10_b, ↓C.catnaplaw7_PowerChains_b43_w, ↓C.catnaplaw7_PowerChains_c44_w, ↓C.catnaplaw7_PowerChains_c45_w, ↓C.catnaplaw7_PowerChains_r8_w, C.catnaplaw7_PowerChains_r8_b, ↓C.catnaplaw7_PowerChains_b47_w, ↓C.catnaplaw7_PowerChains_c48_w, ↓C.catnaplaw7_PowerChains_r7_w, C.catnaplaw7_PowerChains_r7_b, ↓C.catnaplaw7_PowerChains_c49_w, ↓C.catnaplaw7_PowerChains_r6_w, C.catnaplaw7_PowerChains_r6_b, ↓C.catnaplaw7_PowerChains_c50_w, ↓C.catnaplaw7_PowerChains_c51_w, ↓C.catnaplaw7_PowerChains_r5_w, C.catnaplaw7_PowerChains_r5_b, ↓C.catnaplaw7_PowerChains_c52_w, ↓C.catnaplaw7_PowerChains_r4_w, C.catnaplaw7_PowerChains_r4_b, ↓C.catnaplaw7_PowerChains_c53_w, ↓C.catnaplaw7_PowerChains_r3_w, C.catnaplaw7_PowerChains_r3_b, ↓C.catnaplaw7_PowerChains_c54_w, ↓C.catnaplaw7_PowerChains_r2_w, C.catnaplaw7_PowerChains_r2_b, ↓C.catnaplaw7_PowerChains_c55_w, ↓C.catnaplaw7_PowerChains_r1_w, C.catnaplaw7_PowerChains_r1_b, ↓C.catnaplaw7_PowerChains_c56_w, ↓C.catnaplaw7_PowerChains_r0_w, C.catnaplaw7_PowerChains_r0_b, C.catnaplaw7_PowerChains]
  rw [C.catnaplaw7_PowerChains_c40_w, awp_keep]
  refine chain_one hS (ig := ig) h hI hjl hk hkk hst fun fr s' h' e => ?_
  show awp Try.prog C.catnaplaw7_PowerChains_c32 _ fr s'
  rw [C.catnaplaw7_PowerChains_c32_w, awp_keep, e]
  simp only [↓Bp, Bq, Bs, ↓aop.eq_28, ↓aop.eq_30, Nat.reduceEqDiff, Nat.reduceAdd, Nat.reduceMul, Nat.reduceSub, Nat.reduceLeDiff, Nat.reduceLT, Int.reduceLT, Int.reduceLE, Int.reduceEq, Int.reduceToNat, Int.reduceAdd, Int.reduceSub, Int.reduceNeg, ↓reduceIte, reduceCtorEq, ↓C.catnaplaw7_PowerChains_W, C.catnaplaw7_PowerChains_B, C.catnaplaw7_PowerChains, hw]
  exact ⟨j + 1, rfl, ⟨hjl, _, h', hI2, hO2, hT2⟩, by omega⟩
set_option maxHeartbeats 1000000 in
/-- All live, and one that is hung upon does not go down. -/
theorem chain_live {s : ASt} {gs : List Gd} {keep : Bool} {O : List Nat} (h : WSt st s ib p ig S gs) (hI : GInv S.doms gs) (hO : OrdOk gs O) (hT : TkInv O O.length gs) {Q : IExit → AFr → ASt → Prop}
    (hQ : awp Try.prog C.catnaplaw7_PowerChains_c20 Q [(1, .bool keep), (6, .ptr ib 0), (7, .ptr p 0), (9, .isl 1 (ints (O.map Int.ofNat)) O.length)] s) :
    awp Try.prog C.catnaplaw7_PowerChains_c31 Q [(1, .bool keep), (6, .ptr ib 0), (7, .ptr p 0), (9, .isl 1 (ints (O.map Int.ofNat)) O.length)] s := by
  have hnd := hS.nd
  have hOl : O.length ≤ 4 := by rw [hO.len, hI.len]; omega
  have hlive : ∀ x (hx : x < gs.length), gs[x].phase = 49 := fun x hx => by rw [hT x hx, List.take_length, if_pos (hO.all x hx)]
  simp only [↓Bp, Bq, Bs, ↓aop.eq_28, ↓aop.eq_30, Nat.reduceEqDiff, Nat.reduceAdd, Nat.reduceMul, Nat.reduceSub, Nat.reduceLeDiff, Nat.reduceLT, Int.reduceLT, Int.reduceLE, Int.reduceEq, Int.reduceToNat, Int.reduceAdd, Int.reduceSub, Int.reduceNeg, ↓reduceIte, reduceCtorEq, ↓C.catnaplaw7_PowerChains_W, C.catnaplaw7_PowerChains_B, C.catnaplaw7_PowerChains]
  refine awp_midB (fun _ : Unit => [(1, .bool keep), (6, .ptr ib 0), (7, .ptr p 0), (9, .isl 1 (ints (O.map Int.ofNat)) O.length)]) (fun _ s' => s' = s) ?_ ?_
  rotate_left
  · rintro - s' rfl; exact hQ
  clear hQ
  refine awp_loopK (fun j : Nat => [(1, .bool keep), (6, .ptr ib 0), (7, .ptr p 0), (9, .isl 1 (ints (O.map Int.ofNat)) O.length), (13, .int .i64 j)]) (fun j s' => j ≤ O.length ∧ s' = s) (fun j => O.length - j) 0 rfl ⟨Nat.zero_le _, rfl⟩ ?_
  rintro j s ⟨hj, rfl⟩
  by_cases hjl : j < O.length
  rotate_left
  · have hjl' : ¬ (j : Int) < (O.length : Nat) := by omega
    simp only [↓Bp, Bq, Bs, ↓aop.eq_28, ↓aop.eq_30, Nat.reduceEqDiff, Nat.reduceAdd, Nat.reduceMul, Nat.reduceSub, Nat.reduceLeDiff, Nat.reduceLT, Int.reduceLT, Int.reduceLE, Int.reduceEq, Int.reduceToNat, Int.reduceAdd, Int.reduceSub, Int.reduceNeg, ↓reduceIte, reduceCtorEq, ↓C.catnaplaw7_PowerChains_W, C.catnaplaw7_PowerChains_B, C.catnaplaw7_PowerChains, hjl']
    exact ⟨(), trivial⟩
  have hjl' : (j : Int) < (O.length : Nat) := by omega
  have hw := wsucc hjl (by omega)
  have hz : (0:Int) ≤ (j : Int) ∧ (j : Int) < (O.length : Nat) := by omega
  have hg := ints_nat_get (c := O) (j := j) hjl
  have hk := hO.lt j hjl
  obtain ⟨k, hkk⟩ : ∃ k, k = O[j] := ⟨_, rfl⟩
  simp only [← hkk] at hg hk
  have hkD : k < S.doms.length := by rw [← hI.len]; exact hk
  have hzk : (0:Int) ≤ (k : Int) ∧ (k : Int) < (S.doms.length : Nat) := by omega
  have hd0 := (dom_gets hkD).1
  have hsame := hI.same k hk hkD
  have hl := hI.lesser k hk
  have hb := h.hb
  rw [← hsame.1] at hd0
  simp only [↓Bp, Bq, Bs, ↓aop.eq_28, ↓aop.eq_30, Nat.reduceEqDiff, Nat.reduceAdd, Nat.reduceMul, Nat.reduceSub, Nat.reduceLeDiff, Nat.reduceLT, Int.reduceLT, Int.reduceLE, Int.reduceEq, Int.reduceToNat, Int.reduceAdd, Int.reduceSub, Int.reduceNeg, ↓reduceIte, reduceCtorEq, ↓C.catnaplaw7_PowerChains_W, C.catnaplaw7_PowerChains_B, C.catnaplaw7_PowerChains, hjl', hb, Soc.cells, Soc.domV, hz, hg, hzk, hd0, Int.toNat_natCast, Nat.mul_one]
  refine (phase_at h.g hk).mono ?_
  rintro r s ⟨rfl, rfl⟩
  rw [hlive k hk]
  by_cases e : gs[k].above = -1
  · rw [e]
    simp only [↓Bp, Bq, Bs, ↓aop.eq_28, ↓aop.eq_30, Nat.reduceEqDiff, Nat.reduceAdd, Nat.reduceMul, Nat.reduceSub, Nat.reduceLeDiff, Nat.reduceLT, Int.reduceLT, Int.reduceLE, Int.reduceEq, Int.reduceToNat, Int.reduceAdd, Int.reduceSub, Int.reduceNeg, ↓reduceIte, reduceCtorEq, ↓C.catnaplaw7_PowerChains_W, C.catnaplaw7_PowerChains_B, C.catnaplaw7_PowerChains, ge_iff_le, hw]
    exact ⟨j + 1, rfl, hjl, by omega⟩
  · obtain ⟨a, ha⟩ : ∃ a : Nat, gs[k].above = a := ⟨gs[k].above.toNat, by omega⟩
    have hal : a < gs.length := by omega
    have T0 : ((0 : Int) ≤ (a : Int)) = True := eq_true (by omega)
    rw [ha]
    simp only [↓Bp, Bq, Bs, ↓aop.eq_28, ↓aop.eq_30, Nat.reduceEqDiff, Nat.reduceAdd, Nat.reduceMul, Nat.reduceSub, Nat.reduceLeDiff, Nat.reduceLT, Int.reduceLT, Int.reduceLE, Int.reduceEq, Int.reduceToNat, Int.reduceAdd, Int.reduceSub, Int.reduceNeg, ↓reduceIte, reduceCtorEq, ↓C.catnaplaw7_PowerChains_W, C.catnaplaw7_PowerChains_B, C.catnaplaw7_PowerChains, ge_iff_le, T0]
    refine (down_busyS h.g hal (hlive a hal) hk ha (isDown_false.mpr ⟨by rw [hlive k hk]; decide, by rw [hlive k hk]; decide⟩)).mono ?_
    rintro r s ⟨rfl, rfl⟩
    simp only [↓Bp, Bq, Bs, ↓aop.eq_28, ↓aop.eq_30, Nat.reduceEqDiff, Nat.reduceAdd, Nat.reduceMul, Nat.reduceSub, Nat.reduceLeDiff, Nat.reduceLT, Int.reduceLT, Int.reduceLE, Int.reduceEq, Int.reduceToNat, Int.reduceAdd, Int.reduceSub, Int.reduceNeg, ↓reduceIte, reduceCtorEq, ↓C.catnaplaw7_PowerChains_W, C.catnaplaw7_PowerChains_B, C.catnaplaw7_PowerChains, hw]
    exact ⟨j + 1, rfl, hjl, by omega⟩
set_option maxHeartbeats 1000000 in
/-- All go down, the order turned round. -/
theorem chain_down {s : ASt} {gs : List Gd} {keep : Bool} {O : List Nat} (h : WSt st s ib p ig S gs) (hI : GInv S.doms gs) (hO : OrdOk gs O) (hT : OffInv O O.length keep gs) :
    awp Try.prog C.catnaplaw7_PowerChains_c20 (Post [.slot 4] fun r s => r = .bool true ∧ st.le s) [(1, .bool keep), (6, .ptr ib 0), (7, .ptr p 0), (9, .isl 1 (ints (O.map Int.ofNat)) O.length)] s := by
  have hnd := hS.nd
  have hOn : O.length = S.doms.length := by rw [hO.len, hI.len]
  have hOl : O.length ≤ 4 := by omega
  have w0 : IntKind.i64.wrap ((O.length : Int) - 1) = (O.length : Int) - 1 := by rw [wrap64] <;> omega
  simp only [↓Bp, Bq, Bs, ↓aop.eq_28, ↓aop.eq_30, Nat.reduceEqDiff, Nat.reduceAdd, Nat.reduceMul, Nat.reduceSub, Nat.reduceLeDiff, Nat.reduceLT, Int.reduceLT, Int.reduceLE, Int.reduceEq, Int.reduceToNat, Int.reduceAdd, Int.reduceSub, Int.reduceNeg, ↓reduceIte, reduceCtorEq, ↓C.catnaplaw7_PowerChains_W, C.catnaplaw7_PowerChains_B, C.catnaplaw7_PowerChains, w0]
  refine awp_midB (fun _ : Unit => [(7, .ptr p 0)]) (fun _ s' => ∃ gs', WSt st s' ib p ig S gs' ∧ GInv S.doms gs' ∧ OffInv O 0 keep gs') ?_ ?_
  rotate_left
  · clear h hI hO hT gs s
    rintro - s ⟨gs, h, hI, hT⟩
    have h0 : 0 < gs.length := by rw [hI.len]; omega
    have hst : ∀ x (hx : x < gs.length), gs[x].still := fun x hx => by
      have := hT x hx
      rw [List.take_zero, if_neg List.not_mem_nil] at this
      split at this
      · exact .inr (.inr this)
      · exact .inl this
    have hs : Still gs 0 := fun i hi _ => hst i hi
    simp only [↓Bp, Bq, Bs, ↓aop.eq_28, ↓aop.eq_30, Nat.reduceEqDiff, Nat.reduceAdd, Nat.reduceMul, Nat.reduceSub, Nat.reduceLeDiff, Nat.reduceLT, Int.reduceLT, Int.reduceLE, Int.reduceEq, Int.reduceToNat, Int.reduceAdd, Int.reduceSub, Int.reduceNeg, ↓reduceIte, reduceCtorEq, ↓C.catnaplaw7_PowerChains_W, C.catnaplaw7_PowerChains_B, C.catnaplaw7_PowerChains]
    refine (gtick_spec h.g hI.low).mono ?_
    rintro r s' ⟨rfl, rfl⟩
    rw [hs.evs h0, (hst 0 h0).tick.2, if_neg (by decide), evsV_nil]
    have c0 : ((0 : Nat) : Int) = 0 := rfl
    have h1 := h.set (gtickL_len gs)
    simp only [↓Bp, Bq, Bs, ↓aop.eq_28, ↓aop.eq_30, Nat.reduceEqDiff, Nat.reduceAdd, Nat.reduceMul, Nat.reduceSub, Nat.reduceLeDiff, Nat.reduceLT, Int.reduceLT, Int.reduceLE, Int.reduceEq, Int.reduceToNat, Int.reduceAdd, Int.reduceSub, Int.reduceNeg, ↓reduceIte, reduceCtorEq, ↓C.catnaplaw7_PowerChains_W, C.catnaplaw7_PowerChains_B, C.catnaplaw7_PowerChains, c0]
    exact h1.le
  refine awp_loopK (fun t : Nat => [(1, .bool keep), (6, .ptr ib 0), (7, .ptr p 0), (9, .isl 1 (ints (O.map Int.ofNat)) O.length), (15, .int .i64 ((t : Int) - 1))]) (fun t s' => t ≤ O.length ∧ ∃ gs', WSt st s' ib p ig S gs' ∧ GInv S.doms gs' ∧ OrdOk gs' O ∧ OffInv O t keep gs') (fun t => t) O.length rfl ⟨Nat.le_refl _, gs, h, hI, hO, hT⟩ ?_
  clear h hI hO hT gs s
  rintro t s ⟨ht, gs, h, hI, hO, hT⟩
  rcases Nat.eq_zero_or_pos t with h0 | h0
  · have T0 : ((0 : Int) ≤ (t : Int) - 1) = False := eq_false (by omega)
    simp only [↓Bp, Bq, Bs, ↓aop.eq_28, ↓aop.eq_30, Nat.reduceEqDiff, Nat.reduceAdd, Nat.reduceMul, Nat.reduceSub, Nat.reduceLeDiff, Nat.reduceLT, Int.reduceLT, Int.reduceLE, Int.reduceEq, Int.reduceToNat, Int.reduceAdd, Int.reduceSub, Int.reduceNeg, ↓reduceIte, reduceCtorEq, ↓C.catnaplaw7_PowerChains_W, C.catnaplaw7_PowerChains_B, C.catnaplaw7_PowerChains, ge_iff_le, T0]
    exact ⟨(), gs, h, hI, by rw [← h0]; exact hT⟩
  obtain ⟨j, rfl⟩ : ∃ j, t = j + 1 := ⟨t - 1, by omega⟩
  have ej : ((j + 1 : Nat) : Int) - 1 = (j : Int) := by omega
  have T0 : ((0 : Int) ≤ (j : Int)) = True := eq_true (by omega)
  have hjl : j < O.length := by omega
  have hw : IntKind.i64.wrap ((j : Int) - 1) = (j : Int) - 1 := by rw [wrap64] <;> omega
  have hz : (0:Int) ≤ (j : Int) ∧ (j : Int) < (O.length : Nat) := by omega
  have hg := ints_nat_get (c := O) (j := j) hjl
  have hk := hO.lt j hjl
  have hninc := hO.ninc hjl
  have hmm := take_succ_mem hjl
  have hnd2 := hO.nd
  obtain ⟨k, hkk⟩ : ∃ k, k = O[j] := ⟨_, rfl⟩
  simp only [← hkk] at hg hk hninc hmm
  have hkD : k < S.doms.length := by rw [← hI.len]; exact hk
  have hzk : (0:Int) ≤ (k : Int) ∧ (k : Int) < (S.doms.length : Nat) := by omega
  have hd0 := (dom_gets hkD).2.2
  have hsame := hI.same k hk hkD
  rw [← hsame.2.2] at hd0
  have hb := h.hb
  have hph : gs[k].phase = 49 := by rw [hT k hk, if_pos ((hmm k).mpr (.inr rfl))]
  have hno : ∀ i (h : i < gs.length), gs[i].above = (k : Int) → gs[i].isDown = true := fun i hi e => by
    have hni : i ∉ O.take (j + 1) := fun hm => by
      rcases (hmm i).mp hm with h1 | h1
      · obtain ⟨u, hu, e1⟩ := List.getElem_of_mem h1
        simp only [List.length_take] at hu
        rw [List.getElem_take] at e1
        have hk2 : k ∈ O.take u := hO.par u (by omega) (hO.lt u (by omega)) k (by simp only [e1]; exact e)
        exact hninc (List.take_subset_take_left O (show u ≤ j by omega) hk2)
      · subst h1
        have := hI.lesser i hi
        omega
    have := hT i hi
    rw [if_neg hni] at this
    split at this
    · exact isDown_true.mpr (.inr this)
    · exact isDown_true.mpr (.inl this)
  have hst : Still gs k := fun i hi he => by
    have := hT i hi
    by_cases e : i ∈ O.take (j + 1)
    · rw [if_pos e] at this; exact .inr (.inl this)
    · rw [if_neg e] at this
      split at this
      · exact .inr (.inr this)
      · exact .inl this
  have hlf := hI.left gs[k] (List.getElem_mem hk)
  have hfl : gs[k].left ≤ 1000 := by omega
  have stepT : ∀ (kp : Bool) (G : Gd), G.ret = gs[k].ret → G.phase = (if kp = true then 116 else 48) → kp = (keep && gs[k].ret) → OffInv O j keep (gs.set k G) := fun kp G h1 h2 h3 x hx => by
    simp only [List.length_set] at hx
    rw [List.getElem_set]
    split
    · rename_i e; subst e
      rw [if_neg hninc, h1, h2, h3]
    · rename_i e
      have : (x ∈ O.take (j + 1)) ↔ x ∈ O.take j := by rw [hmm]; simp [Ne.symm e]
      rw [hT x hx]; simp only [this]
  rw [ej]
  cases keep
  · have hr : False = False := rfl
    simp only [↓Bp, Bq, Bs, ↓aop.eq_28, ↓aop.eq_30, Nat.reduceEqDiff, Nat.reduceAdd, Nat.reduceMul, Nat.reduceSub, Nat.reduceLeDiff, Nat.reduceLT, Int.reduceLT, Int.reduceLE, Int.reduceEq, Int.reduceToNat, Int.reduceAdd, Int.reduceSub, Int.reduceNeg, ↓reduceIte, reduceCtorEq, ↓C.catnaplaw7_PowerChains_W, C.catnaplaw7_PowerChains_B, C.catnaplaw7_PowerChains, ge_iff_le, T0, hz, hg, Int.toNat_natCast, Nat.mul_one]
    refine (down_yesS h.g hk false hph (fun e => by cases e) hno).mono ?_
    rintro r s' ⟨rfl, rfl⟩
    simp only [↓Bp, Bq, Bs, ↓aop.eq_28, ↓aop.eq_30, Nat.reduceEqDiff, Nat.reduceAdd, Nat.reduceMul, Nat.reduceSub, Nat.reduceLeDiff, Nat.reduceLT, Int.reduceLT, Int.reduceLE, Int.reduceEq, Int.reduceToNat, Int.reduceAdd, Int.reduceSub, Int.reduceNeg, ↓reduceIte, reduceCtorEq, ↓C.catnaplaw7_PowerChains_r34_w, C.catnaplaw7_PowerChains_r34_b, ↓C.catnaplaw7_PowerChains_c1_w, ↓C.catnaplaw7_PowerChains_r24_w, C.catnaplaw7_PowerChains_r24_b, ↓C.catnaplaw7_PowerChains_c2_w, ↓C.catnaplaw7_PowerChains_r28_w, C.catnaplaw7_PowerChains_r28_b, ↓C.catnaplaw7_PowerChains_c10_w, ↓C.catnaplaw7_PowerChains_r27_w, C.catnaplaw7_PowerChains_r27_b, ↓C.catnaplaw7_PowerChains_c11_w, ↓C.catnaplaw7_PowerChains_c12_w, ↓C.catnaplaw7_PowerChains_r26_w, C.catnaplaw7_PowerChains_r26_b, ↓C.catnaplaw7_PowerChains_c13_w, ↓C.catnaplaw7_PowerChains_r25_w, C.catnaplaw7_PowerChains_r25_b, ↓C.catnaplaw7_PowerChains_b14_w, ↓C.catnaplaw7_PowerChains_c15_w, ↓C.catnaplaw7_PowerChains_c16_w, ↓C.catnaplaw7_PowerChains_r23_w, C.catnaplaw7_PowerChains_r23_b, ↓C.catnaplaw7_PowerChains_b18_w, ↓C.catnaplaw7_PowerChains_c19_w, ↓C.catnaplaw7_PowerChains_r22_w, C.catnaplaw7_PowerChains_r22_b, ↓C.catnaplaw7_PowerChains_c20_w, ↓C.catnaplaw7_PowerChains_r18_w, C.catnaplaw7_PowerChains_r18_b, ↓C.catnaplaw7_PowerChains_c21_w, ↓C.catnaplaw7_PowerChains_r21_w, C.catnaplaw7_PowerChains_r21_b, ↓C.catnaplaw7_PowerChains_c22_w, ↓C.catnaplaw7_PowerChains_c23_w, ↓C.catnaplaw7_PowerChains_r20_w, C.catnaplaw7_PowerChains_r20_b, ↓C.catnaplaw7_PowerChains_c24_w, ↓C.catnaplaw7_PowerChains_r19_w, C.catnaplaw7_PowerChains_r19_b, ↓C.catnaplaw7_PowerChains_b25_w, ↓C.catnaplaw7_PowerChains_c26_w, ↓C.catnaplaw7_PowerChains_c27_w, ↓C.catnaplaw7_PowerChains_r17_w, C.catnaplaw7_PowerChains_r17_b, ↓C.catnaplaw7_PowerChains_b29_w, ↓C.catnaplaw7_PowerChains_c30_w, ↓C.catnaplaw7_PowerChains_r16_w, C.catnaplaw7_PowerChains_r16_b, ↓C.catnaplaw7_PowerChains_c31_w, ↓C.catnaplaw7_PowerChains_r9_w, C.catnaplaw7_PowerChains_r9_b, ↓C.catnaplaw7_PowerChains_c32_w, ↓C.catnaplaw7_PowerChains_r14_w, C.catnaplaw7_PowerChains_r14_b, ↓C.catnaplaw7_PowerChains_c33_w, ↓C.catnaplaw7_PowerChains_r15_w, C.catnaplaw7_PowerChains_r15_b, ↓C.catnaplaw7_PowerChains_b34_w, ↓C.catnaplaw7_PowerChains_c35_w, ↓C.catnaplaw7_PowerChains_c36_w, ↓C.catnaplaw7_PowerChains_r13_w, C.catnaplaw7_PowerChains_r13_b, ↓C.catnaplaw7_PowerChains_b38_w, ↓C.catnaplaw7_PowerChains_c39_w, ↓C.catnaplaw7_PowerChains_r12_w, C.catnaplaw7_PowerChains_r12_b, ↓C.catnaplaw7_PowerChains_c40_w, ↓C.catnaplaw7_PowerChains_r11_w, C.catnaplaw7_PowerChains_r11_b, ↓C.catnaplaw7_PowerChains_c41_w, ↓C.catnaplaw7_PowerChains_c42_w, ↓C.catnaplaw7_PowerChains_r10_w, C.catnaplaw7_PowerChains_r10_b, ↓C.catnaplaw7_PowerChains_b43_w, ↓C.catnaplaw7_PowerChains_c44_w, ↓C.catnaplaw7_PowerChains_c45_w, ↓C.catnaplaw7_PowerChains_r8_w, C.catnaplaw7_PowerChains_r8_b, ↓C.catnaplaw7_PowerChains_b47_w, ↓C.catnaplaw7_PowerChains_c48_w, ↓C.catnaplaw7_PowerChains_r7_w, C.catnaplaw7_PowerChains_r7_b, ↓C.catnaplaw7_PowerChains_c49_w, ↓C.catnaplaw7_PowerChains_r6_w, C.catnaplaw7_PowerChains_r6_b, ↓C.catnaplaw7_PowerChains_c50_w, ↓C.catnaplaw7_PowerChains_c51_w, ↓C.catnaplaw7_PowerChains_r5_w, C.catnaplaw7_PowerChains_r5_b, ↓C.catnaplaw7_PowerChains_c52_w, ↓C.catnaplaw7_PowerChains_r4_w, C.catnaplaw7_PowerChains_r4_b, ↓C.catnaplaw7_PowerChains_c53_w, ↓C.catnaplaw7_PowerChains_r3_w, C.catnaplaw7_PowerChains_r3_b, ↓C.catnaplaw7_PowerChains_c54_w, ↓C.catnaplaw7_PowerChains_r2_w, C.catnaplaw7_PowerChains_r2_b, ↓C.catnaplaw7_PowerChains_c55_w, ↓C.catnaplaw7_PowerChains_r1_w, C.catnaplaw7_PowerChains_r1_b, ↓C.catnaplaw7_PowerChains_c56_w, ↓C.catnaplaw7_PowerChains_r0_w, C.catnaplaw7_PowerChains_r0_b, C.catnaplaw7_PowerChains]
    refine (tickS h.g hk hst hI.low (g' := gs[k].fall false) hfl).mono ?_
    rintro r s' ⟨rfl, rfl⟩
    rw [fall_tick]
    have h2 := h.set (gs' := gs.set k { gs[k].fall false with phase := if false = true then 116 else 48 }) (by simp)
    have hT2 := stepT false { gs[k].fall false with phase := if false = true then 116 else 48 } rfl rfl rfl
    have hI2 : GInv S.doms (gs.set k { gs[k].fall false with phase := if false = true then 116 else 48 }) := hI.put hk rfl rfl rfl hlf
    have hs2 := hI.same2 hI2
    have hO2 := hO.same hs2.1 hs2.2
    have hk2 : k < (gs.set k { gs[k].fall false with phase := if false = true then 116 else 48 }).length := by simpa using hk
    have hb2 := h2.hb
    generalize s.set ig (gsC (gs.set k { gs[k].fall false with phase := if false = true then 116 else 48 })) = s2 at h2 hb2
    simp only [↓Bp, Bq, Bs, ↓aop.eq_28, ↓aop.eq_30, Nat.reduceEqDiff, Nat.reduceAdd, Nat.reduceMul, Nat.reduceSub, Nat.reduceLeDiff, Nat.reduceLT, Int.reduceLT, Int.reduceLE, Int.reduceEq, Int.reduceToNat, Int.reduceAdd, Int.reduceSub, Int.reduceNeg, ↓reduceIte, reduceCtorEq, ↓C.catnaplaw7_PowerChains_W, C.catnaplaw7_PowerChains_B, C.catnaplaw7_PowerChains, hb2, Soc.cells, Soc.domV, hzk, hd0, Int.toNat_natCast]
    refine (phase_at h2.g hk2).mono ?_
    rintro r s3 ⟨rfl, rfl⟩
    rw [List.getElem_set_self, show ({ gs[k].fall false with phase := if false = true then 116 else 48 } : Gd).phase = 48 from rfl]
    simp only [↓Bp, Bq, Bs, ↓aop.eq_28, ↓aop.eq_30, Nat.reduceEqDiff, Nat.reduceAdd, Nat.reduceMul, Nat.reduceSub, Nat.reduceLeDiff, Nat.reduceLT, Int.reduceLT, Int.reduceLE, Int.reduceEq, Int.reduceToNat, Int.reduceAdd, Int.reduceSub, Int.reduceNeg, ↓reduceIte, reduceCtorEq, ↓C.catnaplaw7_PowerChains_W, C.catnaplaw7_PowerChains_B, C.catnaplaw7_PowerChains, hw]
    exact ⟨j, rfl, ⟨by omega, _, h2, hI2, hO2, hT2⟩, by omega⟩
  cases hr : gs[k].ret
  · rw [hr] at hd0
    simp only [↓Bp, Bq, Bs, ↓aop.eq_28, ↓aop.eq_30, Nat.reduceEqDiff, Nat.reduceAdd, Nat.reduceMul, Nat.reduceSub, Nat.reduceLeDiff, Nat.reduceLT, Int.reduceLT, Int.reduceLE, Int.reduceEq, Int.reduceToNat, Int.reduceAdd, Int.reduceSub, Int.reduceNeg, ↓reduceIte, reduceCtorEq, ↓C.catnaplaw7_PowerChains_W, C.catnaplaw7_PowerChains_B, C.catnaplaw7_PowerChains, ge_iff_le, T0, hz, hg, hb, Soc.cells, Soc.domV, hzk, hd0, Int.toNat_natCast, Nat.mul_one]
    refine (down_yesS h.g hk false hph (fun e => by cases e) hno).mono ?_
    rintro r s' ⟨rfl, rfl⟩
    simp only [↓Bp, Bq, Bs, ↓aop.eq_28, ↓aop.eq_30, Nat.reduceEqDiff, Nat.reduceAdd, Nat.reduceMul, Nat.reduceSub, Nat.reduceLeDiff, Nat.reduceLT, Int.reduceLT, Int.reduceLE, Int.reduceEq, Int.reduceToNat, Int.reduceAdd, Int.reduceSub, Int.reduceNeg, ↓reduceIte, reduceCtorEq, ↓C.catnaplaw7_PowerChains_r34_w, C.catnaplaw7_PowerChains_r34_b, ↓C.catnaplaw7_PowerChains_c1_w, ↓C.catnaplaw7_PowerChains_r24_w, C.catnaplaw7_PowerChains_r24_b, ↓C.catnaplaw7_PowerChains_c2_w, ↓C.catnaplaw7_PowerChains_r28_w, C.catnaplaw7_PowerChains_r28_b, ↓C.catnaplaw7_PowerChains_c10_w, ↓C.catnaplaw7_PowerChains_r27_w, C.catnaplaw7_PowerChains_r27_b, ↓C.catnaplaw7_PowerChains_c11_w, ↓C.catnaplaw7_PowerChains_c12_w, ↓C.catnaplaw7_PowerChains_r26_w, C.catnaplaw7_PowerChains_r26_b, ↓C.catnaplaw7_PowerChains_c13_w, ↓C.catnaplaw7_PowerChains_r25_w, C.catnaplaw7_PowerChains_r25_b, ↓C.catnaplaw7_PowerChains_b14_w, ↓C.catnaplaw7_PowerChains_c15_w, ↓C.catnaplaw7_PowerChains_c16_w, ↓C.catnaplaw7_PowerChains_r23_w, C.catnaplaw7_PowerChains_r23_b, ↓C.catnaplaw7_PowerChains_b18_w, ↓C.catnaplaw7_PowerChains_c19_w, ↓C.catnaplaw7_PowerChains_r22_w, C.catnaplaw7_PowerChains_r22_b, ↓C.catnaplaw7_PowerChains_c20_w, ↓C.catnaplaw7_PowerChains_r18_w, C.catnaplaw7_PowerChains_r18_b, ↓C.catnaplaw7_PowerChains_c21_w, ↓C.catnaplaw7_PowerChains_r21_w, C.catnaplaw7_PowerChains_r21_b, ↓C.catnaplaw7_PowerChains_c22_w, ↓C.catnaplaw7_PowerChains_c23_w, ↓C.catnaplaw7_PowerChains_r20_w, C.catnaplaw7_PowerChains_r20_b, ↓C.catnaplaw7_PowerChains_c24_w, ↓C.catnaplaw7_PowerChains_r19_w, C.catnaplaw7_PowerChains_r19_b, ↓C.catnaplaw7_PowerChains_b25_w, ↓C.catnaplaw7_PowerChains_c26_w, ↓C.catnaplaw7_PowerChains_c27_w, ↓C.catnaplaw7_PowerChains_r17_w, C.catnaplaw7_PowerChains_r17_b, ↓C.catnaplaw7_PowerChains_b29_w, ↓C.catnaplaw7_PowerChains_c30_w, ↓C.catnaplaw7_PowerChains_r16_w, C.catnaplaw7_PowerChains_r16_b, ↓C.catnaplaw7_PowerChains_c31_w, ↓C.catnaplaw7_PowerChains_r9_w, C.catnaplaw7_PowerChains_r9_b, ↓C.catnaplaw7_PowerChains_c32_w, ↓C.catnaplaw7_PowerChains_r14_w, C.catnaplaw7_PowerChains_r14_b, ↓C.catnaplaw7_PowerChains_c33_w, ↓C.catnaplaw7_PowerChains_r15_w, C.catnaplaw7_PowerChains_r15_b, ↓C.catnaplaw7_PowerChains_b34_w, ↓C.catnaplaw7_PowerChains_c35_w, ↓C.catnaplaw7_PowerChains_c36_w, ↓C.catnaplaw7_PowerChains_r13_w, C.catnaplaw7_PowerChains_r13_b, ↓C.catnaplaw7_PowerChains_b38_w, ↓C.catnaplaw7_PowerChains_c39_w, ↓C.catnaplaw7_PowerChains_r12_w, C.catnaplaw7_PowerChains_r12_b, ↓C.catnaplaw7_PowerChains_c40_w, ↓C.catnaplaw7_PowerChains_r11_w, C.catnaplaw7_PowerChains_r11_b, ↓C.catnaplaw7_PowerChains_c41_w, ↓C.catnaplaw7_PowerChains_c42_w, ↓C.catnaplaw7_PowerChains_r10_w, C.catnaplaw7_PowerChains_r10_b, ↓C.catnaplaw7_PowerChains_b43_w, ↓C.catnaplaw7_PowerChains_c44_w, ↓C.catnaplaw7_PowerChains_c45_w, ↓C.catnaplaw7_PowerChains_r8_w, C.catnaplaw7_PowerChains_r8_b, ↓C.catnaplaw7_PowerChains_b47_w, ↓C.catnaplaw7_PowerChains_c48_w, ↓C.catnaplaw7_PowerChains_r7_w, C.catnaplaw7_PowerChains_r7_b, ↓C.catnaplaw7_PowerChains_c49_w, ↓C.catnaplaw7_PowerChains_r6_w, C.catnaplaw7_PowerChains_r6_b, ↓C.catnaplaw7_PowerChains_c50_w, ↓C.catnaplaw7_PowerChains_c51_w, ↓C.catnaplaw7_PowerChains_r5_w, C.catnaplaw7_PowerChains_r5_b, ↓C.catnaplaw7_PowerChains_c52_w, ↓C.catnaplaw7_PowerChains_r4_w, C.catnaplaw7_PowerChains_r4_b, ↓C.catnaplaw7_PowerChains_c53_w, ↓C.catnaplaw7_PowerChains_r3_w, C.catnaplaw7_PowerChains_r3_b, ↓C.catnaplaw7_PowerChains_c54_w, ↓C.catnaplaw7_PowerChains_r2_w, C.catnaplaw7_PowerChains_r2_b, ↓C.catnaplaw7_PowerChains_c55_w, ↓C.catnaplaw7_PowerChains_r1_w, C.catnaplaw7_PowerChains_r1_b, ↓C.catnaplaw7_PowerChains_c56_w, ↓C.catnaplaw7_PowerChains_r0_w, C.catnaplaw7_PowerChains_r0_b, C.catnaplaw7_PowerChains]
    refine (tickS h.g hk hst hI.low (g' := gs[k].fall false) hfl).mono ?_
    rintro r s' ⟨rfl, rfl⟩
    rw [fall_tick]
    have h2 := h.set (gs' := gs.set k { gs[k].fall false with phase := if false = true then 116 else 48 }) (by simp)
    have hT2 := stepT false { gs[k].fall false with phase := if false = true then 116 else 48 } rfl rfl (by rw [hr]; rfl)
    have hI2 : GInv S.doms (gs.set k { gs[k].fall false with phase := if false = true then 116 else 48 }) := hI.put hk rfl rfl rfl hlf
    have hs2 := hI.same2 hI2
    have hO2 := hO.same hs2.1 hs2.2
    have hk2 : k < (gs.set k { gs[k].fall false with phase := if false = true then 116 else 48 }).length := by simpa using hk
    have hb2 := h2.hb
    generalize s.set ig (gsC (gs.set k { gs[k].fall false with phase := if false = true then 116 else 48 })) = s2 at h2 hb2
    simp only [↓Bp, Bq, Bs, ↓aop.eq_28, ↓aop.eq_30, Nat.reduceEqDiff, Nat.reduceAdd, Nat.reduceMul, Nat.reduceSub, Nat.reduceLeDiff, Nat.reduceLT, Int.reduceLT, Int.reduceLE, Int.reduceEq, Int.reduceToNat, Int.reduceAdd, Int.reduceSub, Int.reduceNeg, ↓reduceIte, reduceCtorEq, ↓C.catnaplaw7_PowerChains_W, C.catnaplaw7_PowerChains_B, C.catnaplaw7_PowerChains, hb2, Soc.cells, Soc.domV, hzk, hd0, Int.toNat_natCast]
    refine (phase_at h2.g hk2).mono ?_
    rintro r s3 ⟨rfl, rfl⟩
    rw [List.getElem_set_self, show ({ gs[k].fall false with phase := if false = true then 116 else 48 } : Gd).phase = 48 from rfl]
    simp only [↓Bp, Bq, Bs, ↓aop.eq_28, ↓aop.eq_30, Nat.reduceEqDiff, Nat.reduceAdd, Nat.reduceMul, Nat.reduceSub, Nat.reduceLeDiff, Nat.reduceLT, Int.reduceLT, Int.reduceLE, Int.reduceEq, Int.reduceToNat, Int.reduceAdd, Int.reduceSub, Int.reduceNeg, ↓reduceIte, reduceCtorEq, ↓C.catnaplaw7_PowerChains_W, C.catnaplaw7_PowerChains_B, C.catnaplaw7_PowerChains, hw]
    exact ⟨j, rfl, ⟨by omega, _, h2, hI2, hO2, hT2⟩, by omega⟩
  · rw [hr] at hd0
    simp only [↓Bp, Bq, Bs, ↓aop.eq_28, ↓aop.eq_30, Nat.reduceEqDiff, Nat.reduceAdd, Nat.reduceMul, Nat.reduceSub, Nat.reduceLeDiff, Nat.reduceLT, Int.reduceLT, Int.reduceLE, Int.reduceEq, Int.reduceToNat, Int.reduceAdd, Int.reduceSub, Int.reduceNeg, ↓reduceIte, reduceCtorEq, ↓C.catnaplaw7_PowerChains_W, C.catnaplaw7_PowerChains_B, C.catnaplaw7_PowerChains, ge_iff_le, T0, hz, hg, hb, Soc.cells, Soc.domV, hzk, hd0, Int.toNat_natCast, Nat.mul_one]
    refine (down_yesS h.g hk true hph (fun e => hr) hno).mono ?_
    rintro r s' ⟨rfl, rfl⟩
    simp only [↓Bp, Bq, Bs, ↓aop.eq_28, ↓aop.eq_30, Nat.reduceEqDiff, Nat.reduceAdd, Nat.reduceMul, Nat.reduceSub, Nat.reduceLeDiff, Nat.reduceLT, Int.reduceLT, Int.reduceLE, Int.reduceEq, Int.reduceToNat, Int.reduceAdd, Int.reduceSub, Int.reduceNeg, ↓reduceIte, reduceCtorEq, ↓C.catnaplaw7_PowerChains_r34_w, C.catnaplaw7_PowerChains_r34_b, ↓C.catnaplaw7_PowerChains_c1_w, ↓C.catnaplaw7_PowerChains_r24_w, C.catnaplaw7_PowerChains_r24_b, ↓C.catnaplaw7_PowerChains_c2_w, ↓C.catnaplaw7_PowerChains_r28_w, C.catnaplaw7_PowerChains_r28_b, ↓C.catnaplaw7_PowerChains_c10_w, ↓C.catnaplaw7_PowerChains_r27_w, C.catnaplaw7_PowerChains_r27_b, ↓C.catnaplaw7_PowerChains_c11_w, ↓C.catnaplaw7_PowerChains_c12_w, ↓C.catnaplaw7_PowerChains_r26_w, C.catnaplaw7_PowerChains_r26_b, ↓C.catnaplaw7_PowerChains_c13_w, ↓C.catnaplaw7_PowerChains_r25_w, C.catnaplaw7_PowerChains_r25_b, ↓C.catnaplaw7_PowerChains_b14_w, ↓C.catnaplaw7_PowerChains_c15_w, ↓C.catnaplaw7_PowerChains_c16_w, ↓C.catnaplaw7_PowerChains_r23_w, C.catnaplaw7_PowerChains_r23_b, ↓C.catnaplaw7_PowerChains_b18_w, ↓C.catnaplaw7_PowerChains_c19_w, ↓C.catnaplaw7_PowerChains_r22_w, C.catnaplaw7_PowerChains_r22_b, ↓C.catnaplaw7_PowerChains_c20_w, ↓C.catnaplaw7_PowerChains_r18_w, C.catnaplaw7_PowerChains_r18_b, ↓C.catnaplaw7_PowerChains_c21_w, ↓C.catnaplaw7_PowerChains_r21_w, C.catnaplaw7_PowerChains_r21_b, ↓C.catnaplaw7_PowerChains_c22_w, ↓C.catnaplaw7_PowerChains_c23_w, ↓C.catnaplaw7_PowerChains_r20_w, C.catnaplaw7_PowerChains_r20_b, ↓C.catnaplaw7_PowerChains_c24_w, ↓C.catnaplaw7_PowerChains_r19_w, C.catnaplaw7_PowerChains_r19_b, ↓C.catnaplaw7_PowerChains_b25_w, ↓C.catnaplaw7_PowerChains_c26_w, ↓C.catnaplaw7_PowerChains_c27_w, ↓C.catnaplaw7_PowerChains_r17_w, C.catnaplaw7_PowerChains_r17_b, ↓C.catnaplaw7_PowerChains_b29_w, ↓C.catnaplaw7_PowerChains_c30_w, ↓C.catnaplaw7_PowerChains_r16_w, C.catnaplaw7_PowerChains_r16_b, ↓C.catnaplaw7_PowerChains_c31_w, ↓C.catnaplaw7_PowerChains_r9_w, C.catnaplaw7_PowerChains_r9_b, ↓C.catnaplaw7_PowerChains_c32_w, ↓C.catnaplaw7_PowerChains_r14_w, C.catnaplaw7_PowerChains_r14_b, ↓C.catnaplaw7_PowerChains_c33_w, ↓C.catnaplaw7_PowerChains_r15_w, C.catnaplaw7_PowerChains_r15_b, ↓C.catnaplaw7_PowerChains_b34_w, ↓C.catnaplaw7_PowerChains_c35_w, ↓C.catnaplaw7_PowerChains_c36_w, ↓C.catnaplaw7_PowerChains_r13_w, C.catnaplaw7_PowerChains_r13_b, ↓C.catnaplaw7_PowerChains_b38_w, ↓C.catnaplaw7_PowerChains_c39_w, ↓C.catnaplaw7_PowerChains_r12_w, C.catnaplaw7_PowerChains_r12_b, ↓C.catnaplaw7_PowerChains_c40_w, ↓C.catnaplaw7_PowerChains_r11_w, C.catnaplaw7_PowerChains_r11_b, ↓C.catnaplaw7_PowerChains_c41_w, ↓C.catnaplaw7_PowerChains_c42_w, ↓C.catnaplaw7_PowerChains_r10_w, C.catnaplaw7_PowerChains_r10_b, ↓C.catnaplaw7_PowerChains_b43_w, ↓C.catnaplaw7_PowerChains_c44_w, ↓C.catnaplaw7_PowerChains_c45_w, ↓C.catnaplaw7_PowerChains_r8_w, C.catnaplaw7_PowerChains_r8_b, ↓C.catnaplaw7_PowerChains_b47_w, ↓C.catnaplaw7_PowerChains_c48_w, ↓C.catnaplaw7_PowerChains_r7_w, C.catnaplaw7_PowerChains_r7_b, ↓C.catnaplaw7_PowerChains_c49_w, ↓C.catnaplaw7_PowerChains_r6_w, C.catnaplaw7_PowerChains_r6_b, ↓C.catnaplaw7_PowerChains_c50_w, ↓C.catnaplaw7_PowerChains_c51_w, ↓C.catnaplaw7_PowerChains_r5_w, C.catnaplaw7_PowerChains_r5_b, ↓C.catnaplaw7_PowerChains_c52_w, ↓C.catnaplaw7_PowerChains_r4_w, C.catnaplaw7_PowerChains_r4_b, ↓C.catnaplaw7_PowerChains_c53_w, ↓C.catnaplaw7_PowerChains_r3_w, C.catnaplaw7_PowerChains_r3_b, ↓C.catnaplaw7_PowerChains_c54_w, ↓C.catnaplaw7_PowerChains_r2_w, C.catnaplaw7_PowerChains_r2_b, ↓C.catnaplaw7_PowerChains_c55_w, ↓C.catnaplaw7_PowerChains_r1_w, C.catnaplaw7_PowerChains_r1_b, ↓C.catnaplaw7_PowerChains_c56_w, ↓C.catnaplaw7_PowerChains_r0_w, C.catnaplaw7_PowerChains_r0_b, C.catnaplaw7_PowerChains]
    refine (tickS h.g hk hst hI.low (g' := gs[k].fall true) hfl).mono ?_
    rintro r s' ⟨rfl, rfl⟩
    rw [fall_tick]
    have h2 := h.set (gs' := gs.set k { gs[k].fall true with phase := if true = true then 116 else 48 }) (by simp)
    have hT2 := stepT true { gs[k].fall true with phase := if true = true then 116 else 48 } rfl rfl (by rw [hr]; rfl)
    have hI2 : GInv S.doms (gs.set k { gs[k].fall true with phase := if true = true then 116 else 48 }) := hI.put hk rfl rfl rfl hlf
    have hs2 := hI.same2 hI2
    have hO2 := hO.same hs2.1 hs2.2
    have hk2 : k < (gs.set k { gs[k].fall true with phase := if true = true then 116 else 48 }).length := by simpa using hk
    have hb2 := h2.hb
    generalize s.set ig (gsC (gs.set k { gs[k].fall true with phase := if true = true then 116 else 48 })) = s2 at h2 hb2
    simp only [↓Bp, Bq, Bs, ↓aop.eq_28, ↓aop.eq_30, Nat.reduceEqDiff, Nat.reduceAdd, Nat.reduceMul, Nat.reduceSub, Nat.reduceLeDiff, Nat.reduceLT, Int.reduceLT, Int.reduceLE, Int.reduceEq, Int.reduceToNat, Int.reduceAdd, Int.reduceSub, Int.reduceNeg, ↓reduceIte, reduceCtorEq, ↓C.catnaplaw7_PowerChains_W, C.catnaplaw7_PowerChains_B, C.catnaplaw7_PowerChains, hb2, Soc.cells, Soc.domV, hzk, hd0, Int.toNat_natCast]
    refine (phase_at h2.g hk2).mono ?_
    rintro r s3 ⟨rfl, rfl⟩
    rw [List.getElem_set_self, show ({ gs[k].fall true with phase := if true = true then 116 else 48 } : Gd).phase = 116 from rfl]
    simp only [↓Bp, Bq, Bs, ↓aop.eq_28, ↓aop.eq_30, Nat.reduceEqDiff, Nat.reduceAdd, Nat.reduceMul, Nat.reduceSub, Nat.reduceLeDiff, Nat.reduceLT, Int.reduceLT, Int.reduceLE, Int.reduceEq, Int.reduceToNat, Int.reduceAdd, Int.reduceSub, Int.reduceNeg, ↓reduceIte, reduceCtorEq, ↓C.catnaplaw7_PowerChains_W, C.catnaplaw7_PowerChains_B, C.catnaplaw7_PowerChains, hw]
    exact ⟨j, rfl, ⟨by omega, _, h2, hI2, hO2, hT2⟩, by omega⟩
end
theorem powerchains_spec {st : ASt} {l : List Int} {keep : Bool} (hl : ∀ x ∈ l, -9223372036854775808 ≤ x ∧ x ≤ 9223372036854775807) (hll : l.length ≤ 9223372036854775807) :
    ACalls Try.prog F.catnaplaw7_PowerChains [row l, .bool keep] st fun r s => r = .bool true ∧ s = st := by
  refine ACalls.gc (Q' := fun r s => r = .bool true ∧ st.le s) (calls_of_awp L.catnaplaw7_PowerChains rfl ?_) (fun v s ⟨h, hl⟩ => ⟨st, hl, h, rfl⟩)
  simp only [↓Bp, Bq, Bs, ↓aop.eq_28, ↓aop.eq_30, Nat.reduceEqDiff, Nat.reduceAdd, Nat.reduceMul, Nat.reduceSub, Nat.reduceLeDiff, Nat.reduceLT, Int.reduceLT, Int.reduceLE, Int.reduceEq, Int.reduceToNat, Int.reduceAdd, Int.reduceSub, Int.reduceNeg, ↓reduceIte, reduceCtorEq, ↓C.catnaplaw7_PowerChains_W, C.catnaplaw7_PowerChains_B, C.catnaplaw7_PowerChains]
  refine (gshown_spec st).mono ?_
  rintro r s ⟨rfl, rfl⟩
  simp only [↓Bp, Bq, Bs, ↓aop.eq_28, ↓aop.eq_30, Nat.reduceEqDiff, Nat.reduceAdd, Nat.reduceMul, Nat.reduceSub, Nat.reduceLeDiff, Nat.reduceLT, Int.reduceLT, Int.reduceLE, Int.reduceEq, Int.reduceToNat, Int.reduceAdd, Int.reduceSub, Int.reduceNeg, ↓reduceIte, reduceCtorEq, ↓C.catnaplaw7_PowerChains_W, C.catnaplaw7_PowerChains_B, C.catnaplaw7_PowerChains]
  refine (chip_frz hl hll).mono ?_
  rintro r s ⟨rfl, rfl⟩
  have hS := chipS_like l
  generalize chipS l = S at hS
  have hnd := hS.nd
  have l4 : S.cells.length = 4 := rfl
  have e4 : AV.agg (List.take 4 S.cells) = .agg S.cells := rfl
  have f4 : allLeaf S.cells = true := rfl
  simp only [↓Bp, Bq, Bs, ↓aop.eq_28, ↓aop.eq_30, Nat.reduceEqDiff, Nat.reduceAdd, Nat.reduceMul, Nat.reduceSub, Nat.reduceLeDiff, Nat.reduceLT, Int.reduceLT, Int.reduceLE, Int.reduceEq, Int.reduceToNat, Int.reduceAdd, Int.reduceSub, Int.reduceNeg, ↓reduceIte, reduceCtorEq, ↓C.catnaplaw7_PowerChains_r2_w, C.catnaplaw7_PowerChains_r2_b, ↓C.catnaplaw7_PowerChains_c55_w, ↓C.catnaplaw7_PowerChains_r1_w, C.catnaplaw7_PowerChains_r1_b, ↓C.catnaplaw7_PowerChains_c56_w, ↓C.catnaplaw7_PowerChains_r0_w, C.catnaplaw7_PowerChains_r0_b, C.catnaplaw7_PowerChains, l4, f4]
  rintro ib hib
  simp only [↓Bp, Bq, Bs, ↓aop.eq_28, ↓aop.eq_30, Nat.reduceEqDiff, Nat.reduceAdd, Nat.reduceMul, Nat.reduceSub, Nat.reduceLeDiff, Nat.reduceLT, Int.reduceLT, Int.reduceLE, Int.reduceEq, Int.reduceToNat, Int.reduceAdd, Int.reduceSub, Int.reduceNeg, ↓reduceIte, reduceCtorEq, ↓C.catnaplaw7_PowerChains_r2_w, C.catnaplaw7_PowerChains_r2_b, ↓C.catnaplaw7_PowerChains_c55_w, ↓C.catnaplaw7_PowerChains_r1_w, C.catnaplaw7_PowerChains_r1_b, ↓C.catnaplaw7_PowerChains_c56_w, ↓C.catnaplaw7_PowerChains_r0_w, C.catnaplaw7_PowerChains_r0_b, C.catnaplaw7_PowerChains, hib, l4, f4]
  rw [ASt.new_set hib, show putN [AV.nils, AV.nils, AV.nils, AV.nils] 0 S.cells = S.cells from putN_all rfl]
  simp only [↓Bp, Bq, Bs, ↓aop.eq_28, ↓aop.eq_30, Nat.reduceEqDiff, Nat.reduceAdd, Nat.reduceMul, Nat.reduceSub, Nat.reduceLeDiff, Nat.reduceLT, Int.reduceLT, Int.reduceLE, Int.reduceEq, Int.reduceToNat, Int.reduceAdd, Int.reduceSub, Int.reduceNeg, ↓reduceIte, reduceCtorEq, ↓C.catnaplaw7_PowerChains_W, C.catnaplaw7_PowerChains_B, C.catnaplaw7_PowerChains, hib, l4, e4]
  refine (gstart_spec hib hS).mono ?_
  rintro r s1 ⟨p, ig, rfl, h⟩
  have hb := h.hb
  simp only [↓Bp, Bq, Bs, ↓aop.eq_28, ↓aop.eq_30, Nat.reduceEqDiff, Nat.reduceAdd, Nat.reduceMul, Nat.reduceSub, Nat.reduceLeDiff, Nat.reduceLT, Int.reduceLT, Int.reduceLE, Int.reduceEq, Int.reduceToNat, Int.reduceAdd, Int.reduceSub, Int.reduceNeg, ↓reduceIte, reduceCtorEq, ↓C.catnaplaw7_PowerChains_W, C.catnaplaw7_PowerChains_B, C.catnaplaw7_PowerChains, hb, l4, e4]
  refine (domains_spec (by omega)).mono ?_
  rintro r s ⟨rfl, rfl⟩
  have hfew : Gr.few (S.doms.map Dom.up) := ⟨by simp; omega, fun r hr => by
    obtain ⟨c, hc, rfl⟩ := List.mem_map.mp hr
    unfold Dom.up; split <;> simp⟩
  simp only [↓Bp, Bq, Bs, ↓aop.eq_28, ↓aop.eq_30, Nat.reduceEqDiff, Nat.reduceAdd, Nat.reduceMul, Nat.reduceSub, Nat.reduceLeDiff, Nat.reduceLT, Int.reduceLT, Int.reduceLE, Int.reduceEq, Int.reduceToNat, Int.reduceAdd, Int.reduceSub, Int.reduceNeg, ↓reduceIte, reduceCtorEq, ↓C.catnaplaw7_PowerChains_W, C.catnaplaw7_PowerChains_B, C.catnaplaw7_PowerChains, gval]
  refine (order_spec hfew).mono ?_
  rintro r s ⟨rfl, rfl⟩
  rw [ordL, if_pos hS.domG, hS.domG]
  have hO := OrdOk.fresh hS.dom (by omega) hS.domG rfl
  generalize ord (S.doms.map Dom.up) = O at hO
  rw [show nats O = O.map Int.ofNat from rfl, row_nat]
  simp only [↓Bp, Bq, Bs, ↓aop.eq_28, ↓aop.eq_30, Nat.reduceEqDiff, Nat.reduceAdd, Nat.reduceMul, Nat.reduceSub, Nat.reduceLeDiff, Nat.reduceLT, Int.reduceLT, Int.reduceLE, Int.reduceEq, Int.reduceToNat, Int.reduceAdd, Int.reduceSub, Int.reduceNeg, ↓reduceIte, reduceCtorEq, ↓C.catnaplaw7_PowerChains_r6_w, C.catnaplaw7_PowerChains_r6_b, ↓C.catnaplaw7_PowerChains_c50_w, ↓C.catnaplaw7_PowerChains_c51_w, ↓C.catnaplaw7_PowerChains_r5_w, C.catnaplaw7_PowerChains_r5_b, ↓C.catnaplaw7_PowerChains_c52_w, ↓C.catnaplaw7_PowerChains_r4_w, C.catnaplaw7_PowerChains_r4_b, ↓C.catnaplaw7_PowerChains_c53_w, ↓C.catnaplaw7_PowerChains_r3_w, C.catnaplaw7_PowerChains_r3_b, ↓C.catnaplaw7_PowerChains_c54_w, ↓C.catnaplaw7_PowerChains_r2_w, C.catnaplaw7_PowerChains_r2_b, ↓C.catnaplaw7_PowerChains_c55_w, ↓C.catnaplaw7_PowerChains_r1_w, C.catnaplaw7_PowerChains_r1_b, ↓C.catnaplaw7_PowerChains_c56_w, ↓C.catnaplaw7_PowerChains_r0_w, C.catnaplaw7_PowerChains_r0_b, C.catnaplaw7_PowerChains]
  rw [C.catnaplaw7_PowerChains_c49_w, awp_keep]
  refine chain_up hS h (GInv.fresh hS.dom) hO (TkInv.fresh O S.doms) fun s' gs' h' hI' hO' hT' => ?_
  refine chain_live hS h' hI' hO' hT' ?_
  refine chain_down hS h' hI' hO' fun x hx => ?_
  rw [hT' x hx, List.take_length, if_pos (hO'.all x hx), if_pos (hO'.all x hx)]
end Go.Proofs.Ytgfpnfnjnakoaaa.Cn
