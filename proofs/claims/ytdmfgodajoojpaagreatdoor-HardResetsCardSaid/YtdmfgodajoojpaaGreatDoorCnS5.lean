/- YtdmfgodajoojpaaGreatDoor: proofs of this seat, texts CnHResL, CnHResM: what each shows stands at its theorems; no condition. -/
import Derived.Test.YtdmfgodajoojpaaGreatDoorCnS4
/- The chip: HardResets, the line. -/
set_option linter.unusedSimpArgs false
set_option linter.unusedVariables false
set_option maxRecDepth 100000
namespace Go.Proofs.YtdmfgodajoojpaaGreatDoor.Cn
open Go Go.Proofs

section
variable {st s : ASt} {ib : Nat} {a : HA} {S : Soc} {v : HV} {d rn k : Nat} {w : Int}
structure HeldI (S : Soc) (v : HV) (F0 : Nat → FSt) (rn k : Nat) (m : Int) : Prop where
  good : HGood S v
  still : StillA v.gs
  up : ∀ j (h : j < S.devs.length), runI v.ns S.devs[j].clock = true ∧ phI v.gs S.devs[j].dom = 49 ∧ (S.devs[j].rst ≠ (rn : Int) → heldI v.ls S.devs[j].rst = false)
  F : v.F = F0
  line : ((k : Int) ≤ m ∧ ∃ h : rn < v.ls.length, v.ls[rn].held = true ∧ v.ls[rn].left = m - k ∧ v.ls[rn].wanted = true) ∨ ((k : Int) = m + 1 ∧ heldI v.ls (rn : Int) = false)
theorem HeldI.tick {F0 : Nat → FSt} {m : Int} (h : HeldI S v F0 rn k m) (hk : S.like) (hN : NsOk v.ns) (hl : v.ns.length = S.clocks.length) (hkm : (k : Int) ≤ m) : HeldI S (v.rest S) F0 rn (k + 1) m := by
  obtain ⟨e1, e2⟩ := h.still.tick
  have hgs : (v.rest S).gs = v.gs := e1
  refine ⟨h.good.rest hN, by rw [hgs]; exact h.still, fun j hj => ?_, ?_, ?_⟩
  · obtain ⟨u1, u2, u3⟩ := h.up j hj
    have hck := (hk.dev j hj).clock
    obtain ⟨ck, hc⟩ : ∃ ck : Nat, S.devs[j].clock = (ck : Int) := ⟨S.devs[j].clock.toNat, by omega⟩
    have hcl : ck < v.ns.length := by omega
    refine ⟨?_, by rw [hgs]; exact u2, fun hne => held_tick _ (u3 hne)⟩
    rw [hc] at u1 ⊢
    rw [runI, if_pos (isCk_at hcl), Int.toNat_natCast] at u1
    show runI (ctickL v.ns) _ = true
    rw [runI, if_pos (isCk_at (by rw [ctickL_len]; exact hcl)), Int.toNat_natCast]
    exact run_tick hN h.good.ni.w ck hcl u1
  · show deedsF S (evs v.gs) v.F = F0
    rw [e2]; exact h.F
  · rcases h.line with ⟨_, hr, l1, l2, l3⟩ | ⟨l1, _⟩
    · have hr' : rn < (tickL v.ls).length := by simpa [tickL] using hr
      have e : (tickL v.ls)[rn] = tick1 v.ls[rn] := by simp [tickL]
      by_cases h0 : 0 < v.ls[rn].left
      · refine .inl ⟨by omega, hr', ?_⟩
        show (tickL v.ls)[rn].held = true ∧ (tickL v.ls)[rn].left = _ ∧ (tickL v.ls)[rn].wanted = true
        rw [e, tick1, if_pos l1, if_pos h0]
        exact ⟨l1, by simp only; omega, l3⟩
      · refine .inr ⟨by omega, ?_⟩
        show heldI (tickL v.ls) _ = false
        rw [heldI_at hr', e, tick1, if_pos l1, if_neg h0, if_pos l3]
    · omega
theorem HeldI.dead {F0 : Nat → FSt} {m : Int} (h : HeldI S v F0 rn k m) (hd : d < S.devs.length) (hr : S.devs[d].rst = (rn : Int)) (hkm : (k : Int) ≤ m) : v.aliveI S (d : Int) = false ∧ heldI v.ls (rn : Int) = true := by
  have hh : heldI v.ls (rn : Int) = true := by
    rcases h.line with ⟨_, hl, l1, _⟩ | ⟨l1, _⟩
    · rw [heldI_at hl]; exact l1
    · omega
  refine ⟨?_, hh⟩
  rw [HV.aliveI, Int.toNat_natCast, alive_at hd, hr, hh]; simp
theorem line_set {ls : List Ln} {rn : Nat} (hr : rn < ls.length) (y : Ln) {i : Int} (hi : i ≠ (rn : Int)) (hb : 0 ≤ i) (h : heldI ls i = false) : heldI (ls.set rn y) i = false := by
  unfold heldI at h ⊢
  by_cases hl : isLn ls i
  · obtain ⟨n, rfl⟩ : ∃ n : Nat, i = (n : Int) := ⟨i.toNat, by omega⟩
    have hn : n < ls.length := by have := hl.2; omega
    have hl' : isLn (ls.set rn y) (n : Int) := ⟨hl.1, by simpa using hl.2⟩
    rw [lnOf_at hn] at h
    rw [lnOf_at (by simpa using hn), List.getElem_set_ne (by omega)]
    simp only [hl, hl', decide_true, Bool.not_true, Bool.false_or] at h ⊢
    exact h
  · simp [hl] at h
set_option maxHeartbeats 2000000 in
theorem resets_line (hk : S.like) (hd : d < S.devs.length) (h : HX st s ib a S v) (hG : HGood S v) (hs : StillA v.gs) (hal : ∀ j, j < S.devs.length → v.alive S j = true)
    (hnow : ∀ j (h : j < S.devs.length), 0 < S.devs[j].regs.length → (v.F j).now 0 = w) :
    awp Tryz.prog C.v9 (Post [.slot 6] fun r _ => r = .bool true) [(2, .int .u32 w), (8, .ptr ib 0), (9, .ptr a.hp 0), (11, .int .i64 d)] s := by
  have n4 := hk.nv; have n3 := hk.nr
  have hb : s.h ib = some (.cells S.cells) := h.elim fun _ h => h.c.hb
  rw [Soc.cells, Soc.clkV, Soc.domV, Soc.rstV, Soc.devV] at hb
  obtain ⟨rn, hrn⟩ : ∃ rn : Nat, S.devs[d].rst = (rn : Int) := ⟨S.devs[d].rst.toNat, by have := (hk.dev d hd).rst; omega⟩
  have hrS : rn < S.rsts.length := by have := (hk.dev d hd).rst; omega
  have hli : LInv S.rsts v.ls := h.elim fun _ h => h.c.linv
  have hrl : rn < v.ls.length := by rw [hli.len]; exact hrS
  have hzd : (0:Int) ≤ (d : Int) ∧ (d : Int) < ((S.devs.length : Nat) : Int) := by omega
  have hgs := dev_rst hd
  rw [hrn] at hgs
  have hln : isLn v.ls (rn : Int) := ⟨by omega, by omega⟩
  have hleast : v.ls[rn].least = S.rsts[rn] := hli.least rn hrl hrS
  have hbd := hli.bd _ (List.getElem_mem hrS)
  have eA : assertL v.ls (rn : Int) = v.ls.set rn { v.ls[rn] with held := true, left := v.ls[rn].least, wanted := false } := by rw [assertL, if_pos hln, Int.toNat_natCast, lnOf_at hrl]
  have hrl1 : rn < (assertL v.ls (rn : Int)).length := by rw [eA]; simpa using hrl
  have hln1 : isLn (assertL v.ls (rn : Int)) (rn : Int) := ⟨by omega, by omega⟩
  have hget1 : (assertL v.ls (rn : Int))[rn] = { v.ls[rn] with held := true, left := v.ls[rn].least, wanted := false } := by simp only [eA, List.getElem_set_self]
  have hheld1 : heldI (assertL v.ls (rn : Int)) (rn : Int) = true := by rw [heldI_at hrl1, hget1]
  have hlh : (lnOf (assertL v.ls (rn : Int)) (rn : Int)).held = true := by rw [lnOf_at hrl1, hget1]
  have eR : releaseL (assertL v.ls (rn : Int)) (rn : Int) = (assertL v.ls (rn : Int)).set rn { (assertL v.ls (rn : Int))[rn] with wanted := true } := by rw [releaseL, if_pos ⟨hln1, hlh⟩, Int.toNat_natCast, lnOf_at hrl1]
  have hE0 : releaseE (assertL v.ls (rn : Int)) (rn : Int) = 0 := by rw [releaseE, if_pos hln1, if_pos hlh]
  simp only [↓Bt, Bu, simprocAttr, ↓C.z65, C.z8, ↓C.gk_w, C.gk_b, ↓C.v9_w, hb, hzd, Int.toNat_natCast, hgs, Nat.add_zero]
  refine (hassert h n4.2 hln).mono ?_
  rintro r t ⟨rfl, T1, h1⟩
  have hali : ({ v with ls := assertL v.ls (rn : Int), F := clrF S (rn : Int) v.F } : HV).aliveI S (d : Int) = false := by
    rw [HV.aliveI, Int.toNat_natCast, alive_at hd, hrn]
    show (true && (runI _ _ && (_ && !heldI (assertL v.ls (rn : Int)) (rn : Int)))) = false
    rw [hheld1]; simp
  simp only [↓Bt, Bu, simprocAttr, ↓C.z65, C.z8]
  refine (halive h1 d).mono ?_
  rintro r t2 ⟨rfl, rfl⟩
  rw [hali]
  simp only [↓Bt, Bu, simprocAttr, ↓C.z65, C.z8]
  refine (hrelease h1 rn).mono ?_
  rintro r t3 ⟨rfl, h3⟩
  rw [hE0]
  have hH : HeldI S { v with ls := releaseL (assertL v.ls (rn : Int)) (rn : Int), F := clrF S (rn : Int) v.F } (clrF S (rn : Int) v.F) rn 0 S.rsts[rn] := by
    refine ⟨⟨hG.none, hG.calm, hG.ni⟩, hs, fun j hj => ?_, rfl, .inl ⟨by omega, ?_⟩⟩
    · have ha := hal j hj
      rw [alive_at hj, Bool.and_eq_true, Bool.and_eq_true] at ha
      refine ⟨ha.1, by simpa using ha.2.1, fun hne => ?_⟩
      show heldI (releaseL (assertL v.ls (rn : Int)) (rn : Int)) _ = false
      have hb0 := (hk.dev j hj).rst.1
      rw [eR]
      refine line_set hrl1 _ hne hb0 ?_
      rw [eA]
      exact line_set hrl _ hne hb0 (by simpa using ha.2.2)
    · refine ⟨by show rn < (releaseL (assertL v.ls (rn : Int)) (rn : Int)).length; rw [eR]; simpa using hrl1, ?_⟩
      simp only [eR, List.getElem_set_self, hget1, hleast]
      simp
  generalize ({ v with ls := releaseL (assertL v.ls (rn : Int)) (rn : Int), F := clrF S (rn : Int) v.F } : HV) = v3 at h3 hH
  have hb3 := h3.c.hb
  clear hali h1 hb
  simp only [↓Bt, Bu, simprocAttr, ↓C.z62, C.b8_b, ↓C.z55, C.z9, ↓C.z63, C.cm_b, ↓C.bp9_w, ↓C.br2_w, ↓C.gn_w, C.gn_b, ↓C.br3_w, ↓C.z65, C.z8]
  refine awp_midB (fun _ : Unit => [(2, .int .u32 w), (8, .ptr ib 0), (9, .ptr a.hp 0), (11, .int .i64 d), (16, .int .i64 rn)]) (fun _ t => ∃ v', HX st t ib a S v' ∧ HeldI S v' (clrF S (rn : Int) v.F) rn (S.rsts[rn].toNat + 1) S.rsts[rn]) ?_ ?_
  rotate_left
  · rintro - t4 ⟨v4, h4, hH4⟩
    have := resets_reads (w := w) (rn := rn) hk hd h4 ⟨hH4.good, hH4.still, fun j hj => ?_, fun j hj h0 => ?_⟩
    · rw [C.v8_w, awp_keep] at this
      exact this
    · obtain ⟨u1, u2, u3⟩ := hH4.up j hj
      have hl4 : heldI v4.ls (rn : Int) = false := by
        rcases hH4.line with ⟨e, _⟩ | ⟨_, e⟩
        · omega
        · exact e
      have hh : heldI v4.ls S.devs[j].rst = false := by
        by_cases e : S.devs[j].rst = (rn : Int)
        · rw [e]; exact hl4
        · exact u3 e
      rw [alive_at hj, u1, u2, hh]; rfl
    · simp only [List.getElem?_eq_getElem hj, Option.map_some, Option.getD_some]
      rw [hH4.F, clrF_at hj]
      by_cases e : S.devs[j].rst = (rn : Int)
      · rw [if_pos e, if_pos e]; rfl
      · rw [if_neg e, if_neg e]; exact hnow j hj h0
  refine awp_loopK (fun k : Nat => [(2, .int .u32 w), (8, .ptr ib 0), (9, .ptr a.hp 0), (11, .int .i64 d), (16, .int .i64 rn), (17, .int .i64 k)]) (fun k t => k ≤ S.rsts[rn].toNat + 1 ∧ ∃ v', HX st t ib a S v' ∧ HeldI S v' (clrF S (rn : Int) v.F) rn k S.rsts[rn]) (fun k => S.rsts[rn].toNat + 1 - k) 0 rfl ⟨Nat.zero_le _, v3, ⟨T1, h3⟩, hH⟩ ?_
  clear h3 hH hb3
  rintro k t4 ⟨hkl, v4, ⟨T4, h4⟩, hH4⟩
  have hb4 := h4.c.hb
  rw [Soc.cells, Soc.clkV, Soc.domV, Soc.rstV, Soc.devV] at hb4
  have hzr : (0:Int) ≤ (rn : Int) ∧ (rn : Int) < ((S.rsts.length : Nat) : Int) := by omega
  have hgl : (S.rsts.flatMap rstCells)[rn]? = some (.int .i64 S.rsts[rn]) := by
    have := rows_get rstCells (w := 1) (fun _ => rfl) hrS (j := 0) (by omega)
    simpa [rstCells] using this
  by_cases hkm : (k : Int) ≤ S.rsts[rn]
  rotate_left
  · have hke : k = S.rsts[rn].toNat + 1 := by omega
    simp only [↓Bt, Bu, simprocAttr, ↓C.z62, C.b8_b, ↓C.z55, C.z9, ↓C.z63, C.cm_b, hb4, hzr, Int.toNat_natCast, Nat.mul_one, Nat.add_zero, hgl, hkm]
    exact ⟨(), v4, ⟨T4, h4⟩, by rw [← hke]; exact hH4⟩
  have hwk := wsucc (k := k) (n := 100) (by omega) (by omega)
  obtain ⟨hd1, hd2⟩ := hH4.dead hd hrn hkm
  simp only [↓Bt, Bu, simprocAttr, ↓C.z62, C.b8_b, ↓C.z55, C.z9, ↓C.z63, C.cm_b, hb4, hzr, Int.toNat_natCast, Nat.mul_one, Nat.add_zero, hgl, hkm]
  refine (halive h4 d).mono ?_
  rintro r t5 ⟨rfl, rfl⟩
  rw [hd1]
  simp only [↓Bt, Bu, simprocAttr, ↓C.z55, C.z9]
  refine (hheld h4 rn).mono ?_
  rintro r t5 ⟨rfl, rfl⟩
  rw [hd2]
  simp only [↓Bt, Bu, simprocAttr, ↓C.z55, C.z9]
  refine (htick ⟨T4, h4⟩ hH4.good.none.ok n4.2 (by omega) 0).mono ?_
  rintro r t6 ⟨rfl, h6⟩
  rw [tick_calm hH4.good.none hH4.good.calm] at h6
  simp only [↓Bt, Bu, simprocAttr, ↓C.z55, C.z9]
  simp only [↓Bt, Bu, simprocAttr, ↓C.z62, C.b8_b, hwk]
  exact ⟨k + 1, rfl, ⟨by omega, v4.rest S, h6, hH4.tick hk h4.c.kof.ok h4.c.kof.len hkm⟩, by omega⟩
end
/- The chip: HardResets. -/
set_option maxRecDepth 100000

section
variable {st s : ASt} {ib : Nat} {a : HA} {S : Soc} {v : HV} {d : Nat} {w : Int}
set_option maxHeartbeats 2000000 in
theorem resets_writes (hk : S.like) (hd : d < S.devs.length) (h : HX st s ib a S v) (hA : Awake S v S.devs.length) :
    awp Tryz.prog C.wb (Post [.slot 6] fun r _ => r = .bool true) [(2, .int .u32 w), (8, .ptr ib 0), (9, .ptr a.hp 0), (11, .int .i64 d)] s := by
  have n4 := hk.nv
  simp only [↓Bt, Bu, simprocAttr, ↓C.z66, C.b5_b, ↓C.z68, C.b7_b, ↓C.z69, C.bv_b, ↓C.z70, C.b6_b, ↓C.z56, C.z7, ↓C.brc_w, ↓C.bsh_w, ↓C.gg_w, C.gg_b, ↓C.wb_w]
  refine awp_midB (fun _ : Unit => [(2, .int .u32 w), (8, .ptr ib 0), (9, .ptr a.hp 0), (11, .int .i64 d)]) (fun _ t => ∃ v, HX st t ib a S v ∧ HGood S v ∧ StillA v.gs ∧ (∀ j, j < S.devs.length → v.alive S j = true) ∧ ∀ j (h : j < S.devs.length), 0 < S.devs[j].regs.length → (v.F j).now 0 = w) ?_ ?_
  rotate_left
  · rintro - t ⟨v1, h1, g1, s1, a1, n1⟩
    have := resets_line hk hd h1 g1 s1 a1 n1
    rw [C.v9_w, awp_keep] at this
    exact this
  refine awp_loopK (fun i : Nat => [(2, .int .u32 w), (8, .ptr ib 0), (9, .ptr a.hp 0), (11, .int .i64 d), (13, .int .i64 i)]) (fun i t => i ≤ S.devs.length ∧ ∃ v, HX st t ib a S v ∧ HGood S v ∧ StillA v.gs ∧ (∀ j, j < S.devs.length → v.alive S j = true) ∧ ∀ j (h : j < S.devs.length), j < i → 0 < S.devs[j].regs.length → (v.F j).now 0 = w) (fun i => S.devs.length - i) 0 rfl ⟨Nat.zero_le _, v, h, hA.good, hA.still, fun j hj => hA.alive j hj hj, fun j hj h0 => by omega⟩ ?_
  clear h hA
  rintro i t ⟨hi, v, h, hG, hs, hal, hnow⟩
  have hb : t.h ib = some (.cells S.cells) := h.elim fun _ h => h.c.hb
  rw [Soc.cells, Soc.clkV, Soc.domV, Soc.rstV, Soc.devV] at hb
  by_cases hil : i < S.devs.length
  rotate_left
  · have hil' : ¬ (i : Int) < ((S.devs.length : Nat) : Int) := by omega
    simp only [↓Bt, Bu, simprocAttr, ↓C.z66, C.b5_b, ↓C.z68, C.b7_b, ↓C.z69, C.bv_b, ↓C.z70, C.b6_b, ↓C.z56, C.z7, hb, hil']
    exact ⟨(), v, h, hG, hs, hal, fun j hj h0 => hnow j hj (by omega) h0⟩
  have hil' : (i : Int) < ((S.devs.length : Nat) : Int) := by omega
  have hwi := wsucc hil (by omega)
  have hzi : (0:Int) ≤ (i : Int) ∧ (i : Int) < ((S.devs.length : Nat) : Int) := by omega
  have hgr := dev_regs hil
  have hi4 : i < 4 := by omega
  by_cases hr0 : S.devs[i].regs.length = 0
  · have hr0' : ((S.devs[i].regs.length : Nat) : Int) = 0 := by omega
    simp only [↓Bt, Bu, simprocAttr, ↓C.z56, C.z7, hb, hil', hzi, Int.toNat_natCast, hgr, hr0']
    simp only [↓Bt, Bu, simprocAttr, ↓C.z66, C.b5_b, hwi]
    refine ⟨i + 1, rfl, ⟨hil, v, h, hG, hs, hal, fun j hj hji h0 => hnow j hj ?_ h0⟩, by omega⟩
    by_cases e : j = i
    · subst e; omega
    · omega
  have hr0' : ¬ ((S.devs[i].regs.length : Nat) : Int) = 0 := by omega
  have hrp : 0 < S.devs[i].regs.length := by omega
  have q0 := hG.qs hs i
  simp only [↓Bt, Bu, simprocAttr, ↓C.z70, C.b6_b, ↓C.z56, C.z7, hb, hil', hzi, Int.toNat_natCast, hgr, hr0']
  refine (address_spec (d := i) (k := 0) hi4 (by decide)).mono ?_
  rintro r t3 ⟨rfl, rfl⟩
  simp only [↓Bt, Bu, simprocAttr, ↓C.z69, C.bv_b, ↓C.z70, C.b6_b]
  refine (act_post h q0 hil hi4 hrp (by decide) (by decide) true w).mono ?_
  rintro r t4 ⟨rfl, v5, h5, q5, p5⟩
  rw [List.nil_append] at q5
  have al5 : ∀ j, j < S.devs.length → v5.alive S j = true := fun j hj => by rw [p5.alive]; exact hal j hj
  simp only [↓Bt, Bu, simprocAttr, ↓C.z68, C.b7_b, ↓C.z69, C.bv_b]
  refine (act_tick2 hk h5 q5 hil (fun t ht _ => by rw [List.mem_singleton] at ht; subst ht; exact ⟨0, rfl, hrp⟩)).mono ?_
  rintro r t5 ⟨rfl, v6, h6, k6, f6, n6⟩
  simp only [↓Bt, Bu, simprocAttr, ↓C.z68, C.b7_b, ↓C.z69, C.bv_b]
  simp only [↓Bt, Bu, simprocAttr, ↓C.z66, C.b5_b, hwi]
  refine ⟨i + 1, rfl, ⟨hil, v6, h6, k6.qs.good k6.ni, k6.qs.still, fun j hj => tick_lives hk h5 q5.still q5.ni n6 k6.gs k6.ls hj (al5 j hj), fun j hj hji h0 => ?_⟩, by omega⟩
  rw [f6]
  by_cases e : j = i
  · subst e
    rw [upF_at, wrF_one q5.at_, if_pos (al5 j hj), FSt.put, if_pos rfl]; rfl
  · rw [upF_ne e, p5.F]; exact hnow j hj (by omega) h0
end
set_option maxHeartbeats 2000000 in
theorem hardresets_spec {st : ASt} {l : List Int} {at_ w : Int} (hl : ∀ x ∈ l, -9223372036854775808 ≤ x ∧ x ≤ 9223372036854775807) (hll : l.length ≤ 9223372036854775807) (hat : -9223372036854775808 ≤ at_ ∧ at_ ≤ 9223372036854775807) :
    ACalls Tryz.prog F.q12 [row l, .int .i64 at_, .int .u32 w] st fun r _ => r = .bool true := by
  refine calls_of_awp L.q12 rfl ?_
  simp only [↓Bt, Bu, simprocAttr, ↓C.z73, C.z5, C.q12]
  refine (hshown_spec st).mono ?_
  rintro r s ⟨rfl, rfl⟩
  simp only [↓Bt, Bu, simprocAttr, ↓C.z72, C.cl_b, ↓C.z73, C.z5, C.q12]
  refine (chip_frz hl hll).mono ?_
  rintro r s2 ⟨rfl, rfl⟩
  have hk := chipS_like l
  generalize chipS l = S at hk
  have n1 := hk.nc; have n2 := hk.nd; have n3 := hk.nr; have n4 := hk.nv
  have lc : S.cells.length = 4 := rfl
  have lf : allLeaf S.cells = true := rfl
  have e4 : AV.agg (List.take 4 S.cells) = .agg S.cells := rfl
  simp only [↓Bt, Bu, simprocAttr, ↓C.z72, C.cl_b, ↓C.z73, C.z5, C.q12]
  rintro ib hib
  simp only [↓Bt, Bu, simprocAttr, ↓C.z72, C.cl_b, ↓C.z73, C.z5, C.q12, hib, lc, lf]
  rw [ASt.new_set hib, show putN [AV.nils, AV.nils, AV.nils, AV.nils] 0 S.cells = S.cells from putN_all rfl]
  have hb := ASt.new_self (.cells S.cells) hib
  have hnw := hnew hib hk
  generalize s2.new ib (.cells S.cells) = u at hb hnw
  simp only [↓Bt, Bu, simprocAttr, ↓C.gt_w, C.gt_b, ↓C.bsy_w, hb, lc, e4]
  refine hnw.mono ?_
  rintro r s3 ⟨a, rfl, h3⟩
  clear hb hnw
  obtain ⟨hG, hSt⟩ := HGood.fresh hk
  have hfF : ∀ {i : Nat} (h : i < S.devs.length), (HV.fresh S).F i = ⟨resets S.devs[i].regs, fun _ => 0, false⟩ := fun h => fresh_F h
  have hfph : ∀ {x : Nat}, x < S.doms.length → phN (HV.fresh S).gs x = 48 := fun h => fresh_ph hk h
  have hfO : ∀ i, ((HV.fresh S).O i).1 = 0 := fun _ => rfl
  have hfQ : ∀ i, (HV.fresh S).Q i = [] := fun _ => rfl
  have hfp : (HV.fresh S).posted = 0 := rfl
  generalize HV.fresh S = v0 at h3 hG hSt hfF hfph hfO hfQ hfp
  have hb3 : s3.h ib = some (.cells S.cells) := h3.elim fun _ h => h.c.hb
  have hb3' := hb3
  rw [Soc.cells, Soc.clkV, Soc.domV, Soc.rstV, Soc.devV] at hb3'
  obtain ⟨d, hd0⟩ : ∃ d, d = pickI at_ S.devs.length := ⟨_, rfl⟩
  have hd : d < S.devs.length := by rw [hd0]; exact pickI_lt _ n4.1
  have hzd : (0:Int) ≤ (d : Int) ∧ (d : Int) < ((S.devs.length : Nat) : Int) := by omega
  have hgr := dev_regs hd
  have hgc := dev_clamp hd
  simp only [↓Bt, Bu, simprocAttr, ↓C.cn_w, C.cn_b, ↓C.bmw_w, ↓C.g4_w, C.g4_b, ↓C.bsv_w, ↓C.bsw_w, ↓C.g0_w, C.g0_b, ↓C.bsx_w, hb3']
  refine (pick_spec hat n4.1).mono ?_
  rintro r t ⟨rfl, rfl⟩
  rw [← hd0]
  clear hb3'
  simp only [↓Bt, Bu, simprocAttr, ↓C.z71, C.cp_b, ↓C.z57, C.z6, ↓C.brf_w, ↓C.bsr_w, ↓C.g5_w, C.g5_b, ↓C.bst_w, ↓C.cn_w, C.cn_b, ↓C.bmw_w]
  refine awp_midB (fun _ : Unit => [(2, .int .u32 w), (8, .ptr ib 0), (9, .ptr a.hp 0), (11, .int .i64 d)]) (fun _ t => ∃ v, HX s2 t ib a S v ∧ Awake S v S.devs.length) ?_ ?_
  rotate_left
  · rintro - t1 ⟨v1, h1, A1⟩
    have := resets_writes (w := w) hk hd h1 A1
    rw [C.wb_w, awp_keep] at this
    exact this
  have hgl0 : v0.gs.length = S.doms.length := h3.elim fun _ h => h.c.ginv.len
  refine awp_loopK (fun i : Nat => [(2, .int .u32 w), (8, .ptr ib 0), (9, .ptr a.hp 0), (11, .int .i64 d), (12, .int .i64 i)]) (fun i t => i ≤ S.devs.length ∧ ∃ v, HX s2 t ib a S v ∧ Awake S v i) (fun i => S.devs.length - i) 0 rfl ⟨Nat.zero_le _, v0, h3, hG, hSt, fun j hj => by omega, fun x hx => .inl (hfph (by omega))⟩ ?_
  clear h3 hb3 hG hSt
  rintro i t1 ⟨hi, v, h, hA⟩
  have hb : t1.h ib = some (.cells S.cells) := h.elim fun _ h => h.c.hb
  have hb' := hb
  rw [Soc.cells, Soc.clkV, Soc.domV, Soc.rstV, Soc.devV] at hb'
  by_cases hil : i < S.devs.length
  rotate_left
  · have hil' : ¬ (i : Int) < ((S.devs.length : Nat) : Int) := by omega
    have hie : i = S.devs.length := by omega
    rw [hie] at hA
    simp only [↓Bt, Bu, simprocAttr, ↓C.z71, C.cp_b, ↓C.z57, C.z6, hb', hil']
    exact ⟨(), v, h, hA⟩
  have hil' : (i : Int) < ((S.devs.length : Nat) : Int) := by omega
  have hwi := wsucc hil (by omega)
  simp only [↓Bt, Bu, simprocAttr, ↓C.z57, C.z6, hb', hil', lc]
  rw [show [AV.isl 6 (List.flatMap Clk.cells S.clocks) S.clocks.length, AV.isl 3 (List.flatMap Dom.cells S.doms) S.doms.length, AV.isl 1 (List.flatMap rstCells S.rsts) S.rsts.length, AV.isl 6 (List.flatMap Dev.cells S.devs) S.devs.length] = S.cells from rfl]
  obtain ⟨cs, hch, hwk⟩ := wakes_spec hk hil h hA.good hA.still
  refine hwk.mono ?_
  rintro r t5 ⟨rfl, v3, h6, hW⟩
  simp only [↓Bt, Bu, simprocAttr, ↓C.z57, C.z6]
  simp only [↓Bt, Bu, simprocAttr, ↓C.z71, C.cp_b, hwi]
  exact ⟨i + 1, rfl, ⟨hil, v3, h6, hA.more hk h h6 hW⟩, by omega⟩
end Go.Proofs.YtdmfgodajoojpaaGreatDoor.Cn
