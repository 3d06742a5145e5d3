/- YtdmfgodajoojpaaGreatDoor: proofs of this seat, texts CnHKeepsD, CnHKeepsM: what each shows stands at its theorems; no condition. -/
import Derived.Test.YtdmfgodajoojpaaGreatDoorCnS4
/- The chip: HardKeeps, what goes down. -/
set_option linter.unusedSimpArgs false
set_option linter.unusedVariables false
set_option maxRecDepth 100000
namespace Go.Proofs.YtdmfgodajoojpaaGreatDoor.Cn
open Go Go.Proofs

section
variable {s : ASt} {ib ix d dm n : Nat} {a : HA} {S : Soc} {v : HV} {st1 : ASt} {V : List Int} {kp : Bool} {hw : Int} {cs : List Nat} {gs0 : List Gd}
set_option maxHeartbeats 2000000 in
theorem keeps_down (hk : S.like) (hd : d < S.devs.length) (hV : V.length ≤ 20) (hhw : -9223372036854775808 ≤ hw ∧ hw ≤ 9223372036854775807) (h : HX st1 s ib a S v) (hx : st1.h ix = some (.cells S.devs[d].cells)) (q : QS S v d []) (hni : NI v.ns)
    (hdm : S.devs[d].dom = (dm : Int)) (hch : ChainOk gs0 cs dm) (hL0 : Lesser gs0) (hph : ∀ x, x < v.gs.length → phN v.gs x = if x ∈ cs then 49 else 48)
    (hf : ∀ j, j < S.devs[d].regs.length → (v.F d).now j = nowV S.devs[d].regs V S.devs[d].regs.length j) (hkr : kp = true → ∀ h : dm < S.doms.length, S.doms[dm].ret = true) :
    awp Tryz.prog C.dw (Post [.slot 8] fun r _ => r = .bool true) [(2, .isl 1 (V.map (AV.int .u32)) V.length), (3, .int .i64 hw), (10, .ptr ib 0), (11, .ptr a.hp 0), (13, .int .i64 d), (14, .ptr ix 0), (18, .bool kp)] s := by
  have n4 := hk.nv; have n3 := hk.nr
  have hxs := h.le _ _ hx
  rw [Dev.cells, hdm] at hxs
  obtain ⟨T, h0⟩ := h
  have hgi := h0.c.ginv
  have hdD : dm < S.doms.length := by have := (hk.dev d hd).dom; omega
  have hdl : dm < v.gs.length := by rw [hgi.len]; exact hdD
  have hp49 : v.gs[dm].phase = 49 := by rw [← phN_at hdl, hph dm hdl, if_pos (chain_mem hch)]
  have hE : downE v.gs dm hdl kp = 0 := by
    rw [downE, if_neg (by rw [hp49]; simp), if_neg, if_neg (by rw [none_up hch hL0 hgi.lesser hph]; simp)]
    rintro ⟨e1, e2⟩
    rw [(hgi.same dm hdl hdD).2.2, hkr e1 hdD] at e2; cases e2
  have hG : downG v.gs dm hdl kp = v.gs.set dm { v.gs[dm] with phase := 99, keep := kp } := by rw [downG, if_pos hE]
  simp only [↓Bt, Bu, simprocAttr, ↓C.cl_w, C.cl_b, ↓C.dw_w, hxs]
  refine (hdown_at h0 hdl kp).mono ?_
  rintro r t1 ⟨rfl, h1⟩
  rw [hE]
  have hGd : HGood S { v with gs := downG v.gs dm hdl kp } := ⟨(q.good hni).none, (q.good hni).calm, hni⟩
  have hN1 : NsOk ({ v with gs := downG v.gs dm hdl kp } : HV).ns := h1.c.kof.ok
  simp only [↓Bt, Bu, simprocAttr, ↓C.g2_w, C.g2_b, ↓C.bsr_w, ↓C.g1_w, C.g1_b, ↓C.bst_w, ↓C.bsv_w, ↓C.g0_w, C.g0_b, ↓C.bsw_w, ↓C.cl_w, C.cl_b, ↓C.dw_w]
  refine (htick ⟨T, h1⟩ hGd.none.ok n4.2 (by omega) 0).mono ?_
  rintro r t2 ⟨rfl, h2⟩
  rw [tick_calm hGd.none hGd.calm] at h2
  have hG2 := hGd.rest hN1
  obtain ⟨g, hg⟩ : ∃ g : Gd, g = { v.gs[dm] with phase := 99, keep := kp } := ⟨_, rfl⟩
  rw [← hg] at hG
  have hset : dm < (v.gs.set dm g).length := by simpa using hdl
  have hself : (v.gs.set dm g)[dm] = g := List.getElem_set_self _
  have hst : Still (v.gs.set dm g) dm := Still.set (fun x hx _ => q.still x hx) _
  have hgp : g.phase = 99 := by rw [hg]
  have hgk : g.keep = kp := by rw [hg]
  have e1 : gtickL (v.gs.set dm g) = (v.gs.set dm g).set dm (gtick g) := by rw [hst.tick hset, hself]
  have e2 : (gtick g).phase = if kp = true then 116 else 48 := by
    rw [gtick, if_neg (by rw [hgp]; decide), if_neg (by rw [hgp]; decide), if_pos hgp, hgk]
    cases kp <;> rfl
  have e3 : gev g = if kp = true then 115 else 108 := by rw [gev, if_neg (by rw [hgp]; decide), if_neg (by rw [hgp]; decide), if_pos hgp, hgk]
  have hgs2 : (({ v with gs := downG v.gs dm hdl kp } : HV).rest S).gs = (v.gs.set dm g).set dm (gtick g) := by
    show gtickL (downG v.gs dm hdl kp) = _
    rw [hG, e1]
  have hph2 : phN (({ v with gs := downG v.gs dm hdl kp } : HV).rest S).gs dm = if kp = true then 116 else 48 := by rw [hgs2, phN_set hset, if_pos rfl, e2]
  have hS2 : StillA (({ v with gs := downG v.gs dm hdl kp } : HV).rest S).gs := by
    rw [hgs2]
    refine StillA.of (k := dm) (hst.set _) fun hl => ?_
    rw [List.getElem_set_self, Gd.still, e2]
    cases kp <;> simp
  have hF2 : (({ v with gs := downG v.gs dm hdl kp } : HV).rest S).F d = if kp = true then (v.F d).save S.devs[d].regs else (v.F d).clear S.devs[d].regs := by
    show deedsF S (evs (downG v.gs dm hdl kp)) v.F d = _
    rw [hG, hst.evs hset, hself, e3, if_pos (by cases kp <;> decide)]
    show deedF S (_, dm) v.F d = _
    rw [deedF_at hd, if_pos hdm]
    cases kp <;> rfl
  have hl2 : (({ v with gs := downG v.gs dm hdl kp } : HV).rest S).gs.length = S.doms.length := h2.elim fun _ h => h.c.ginv.len
  generalize (({ v with gs := downG v.gs dm hdl kp } : HV).rest S) = v2 at h2 hG2 hgs2 hph2 hS2 hF2 hl2
  have hal : v2.alive S d = false := dead_ph hk hd hl2 (by rw [hdm, Int.toNat_natCast, hph2]; cases kp <;> decide)
  have hali : v2.aliveI S (d : Int) = false := by rw [HV.aliveI, Int.toNat_natCast, hal]; simp
  have hphI : phI v2.gs (dm : Int) = if kp = true then 116 else 48 := by rw [phI_nat (by rw [hl2]; exact hdD), hph2]
  have hxt := h2.le _ _ hx
  rw [Dev.cells, hdm] at hxt
  obtain ⟨T2, h20⟩ := h2
  simp only [↓Bt, Bu, simprocAttr, ↓C.z57, C.z7]
  refine (halive h20 d).mono ?_
  rintro r t3 ⟨rfl, rfl⟩
  rw [hali]
  simp only [↓Bt, Bu, simprocAttr, ↓C.z57, C.z7, hxt]
  refine (hphase h20 dm).mono ?_
  rintro r t3 ⟨rfl, rfl⟩
  rw [hphI]
  have hnx : awp Tryz.prog C.rk (Post [.slot 8] fun r _ => r = .bool true) [(2, .isl 1 (V.map (AV.int .u32)) V.length), (3, .int .i64 hw), (10, .ptr ib 0), (11, .ptr a.hp 0), (13, .int .i64 d), (14, .ptr ix 0), (18, .bool kp)] t3 := by
    simp only [↓Bt, Bu, simprocAttr, ↓C.z56, C.cn_b]
    refine (pick_spec hhw (n := 3) (by omega)).mono ?_
    rintro r t4 ⟨rfl, rfl⟩
    have hxt' : t4.h ix = some (.cells S.devs[d].cells) := h20.c.le _ _ hx
    rw [Dev.cells] at hxt'
    have hph3 : phN v2.gs S.devs[d].dom.toNat = if kp = true then 116 else 48 := by rw [hdm, Int.toNat_natCast]; exact hph2
    by_cases hp2 : ((pickI hw 3 : Nat) : Int) = 2
    · have hln : isLn v2.ls S.devs[d].rst := by
        have h1 := (hk.dev d hd).rst
        have h2 := h20.c.linv.len
        exact ⟨h1.1, by omega⟩
      simp only [↓Bt, Bu, simprocAttr, ↓C.z55, C.cr_b, C.cp_b, ↓C.z56, C.cn_b, hp2, hxt']
      refine (hassert ⟨T2, h20⟩ n4.2 hln).mono ?_
      rintro r t5 ⟨rfl, h5⟩
      simp only [↓Bt, Bu, simprocAttr, ↓C.z55, C.cr_b, C.cp_b]
      refine awp_frame C.rj.eq_1 (keeps_tail (kp := kp) (rs := true) (f5 := v.F d) hk hd hV h5 hx ⟨hG2.none, hG2.calm, hG2.ni⟩ hS2 hph3 hf ?_) rfl
      show clrF S S.devs[d].rst v2.F d = _
      rw [clrF_at hd, if_pos rfl, hF2]; rfl
    · simp only [↓Bt, Bu, simprocAttr, ↓C.z55, C.cr_b, C.cp_b, ↓C.z56, C.cn_b, hp2, hxt']
      refine awp_frame C.rj.eq_1 (keeps_tail (kp := kp) (rs := false) (f5 := v.F d) hk hd hV ⟨T2, h20⟩ hx hG2 hS2 hph3 hf ?_) rfl
      rw [hF2]; rfl
  cases kp
  · simp only [↓Bt, Bu, simprocAttr, ↓C.z57, C.z7]
    exact awp_frame C.rk.eq_1 hnx rfl
  · simp only [↓Bt, Bu, simprocAttr, ↓C.z57, C.z7]
    exact awp_frame C.rk.eq_1 hnx rfl
end
/- The chip: HardKeeps. -/
set_option maxRecDepth 100000

set_option maxHeartbeats 2000000 in
theorem hardkeeps_spec {st : ASt} {l V : List Int} {at_ hw : Int} (hl : ∀ x ∈ l, -9223372036854775808 ≤ x ∧ x ≤ 9223372036854775807) (hll : l.length ≤ 9223372036854775807) (hat : -9223372036854775808 ≤ at_ ∧ at_ ≤ 9223372036854775807) (hhw : -9223372036854775808 ≤ hw ∧ hw ≤ 9223372036854775807) (hVl : V.length ≤ 9223372036854775807) :
    ACalls Tryz.prog F.q12 [row l, .int .i64 at_, .isl 1 (V.map (AV.int .u32)) V.length, .int .i64 hw] st fun r _ => r = .bool true := by
  refine calls_of_awp L.q12 rfl ?_
  simp only [↓Bt, Bu, simprocAttr, ↓C.z68, C.z6, C.q12]
  refine (hshown_spec st).mono ?_
  rintro r s ⟨rfl, rfl⟩
  simp only [↓Bt, Bu, simprocAttr, ↓C.z67, C.cm_b, ↓C.z68, C.z6, C.q12]
  refine (chip_frz hl hll).mono ?_
  rintro r s2 ⟨rfl, rfl⟩
  have hk := chipS_like l
  generalize chipS l = S at hk
  have n1 := hk.nc; have n2 := hk.nd; have n3 := hk.nr; have n4 := hk.nv
  have lc : S.cells.length = 4 := rfl
  have lf : allLeaf S.cells = true := rfl
  have e4 : AV.agg (List.take 4 S.cells) = .agg S.cells := rfl
  simp only [↓Bt, Bu, simprocAttr, ↓C.z67, C.cm_b, ↓C.z68, C.z6, C.q12]
  rintro ib hib
  simp only [↓Bt, Bu, simprocAttr, ↓C.z67, C.cm_b, ↓C.z68, C.z6, C.q12, hib, lc, lf]
  rw [ASt.new_set hib, show putN [AV.nils, AV.nils, AV.nils, AV.nils] 0 S.cells = S.cells from putN_all rfl]
  have hb := ASt.new_self (.cells S.cells) hib
  have hnw := hnew hib hk
  generalize s2.new ib (.cells S.cells) = u at hb hnw
  simp only [↓Bt, Bu, simprocAttr, ↓C.g7_w, C.g7_b, ↓C.btd_w, hb, lc, e4]
  refine hnw.mono ?_
  rintro r s3 ⟨a, rfl, h3⟩
  clear hb hnw
  obtain ⟨hG, hSt⟩ := HGood.fresh hk
  have hfF : ∀ {i : Nat} (h : i < S.devs.length), (HV.fresh S).F i = ⟨resets S.devs[i].regs, fun _ => 0, false⟩ := fun h => fresh_F h
  have hfph : ∀ {x : Nat}, x < S.doms.length → phN (HV.fresh S).gs x = 48 := fun h => fresh_ph hk h
  have hfO : ∀ i, ((HV.fresh S).O i).1 = 0 := fun _ => rfl
  have hfQ : ∀ i, (HV.fresh S).Q i = [] := fun _ => rfl
  have hfp : (HV.fresh S).posted = 0 := rfl
  generalize HV.fresh S = v0 at h3 hG hSt hfF hfph hfO hfQ hfp
  have hb3 : s3.h ib = some (.cells S.cells) := h3.elim fun _ h => h.c.hb
  have hb3' := hb3
  rw [Soc.cells, Soc.clkV, Soc.domV, Soc.rstV, Soc.devV] at hb3'
  obtain ⟨d, hd0⟩ : ∃ d, d = pickI at_ S.devs.length := ⟨_, rfl⟩
  have hd : d < S.devs.length := by rw [hd0]; exact pickI_lt _ n4.1
  have hzd : (0:Int) ≤ (d : Int) ∧ (d : Int) < ((S.devs.length : Nat) : Int) := by omega
  have hgr := dev_regs hd
  have hgc := dev_clamp hd
  by_cases h20 : (20 : Int) < ((V.length : Nat) : Int)
  · simp only [↓Bt, Bu, simprocAttr, ↓C.z66, C.dz_b, C.dq_b, h20, gt_iff_lt]
  simp only [↓Bt, Bu, simprocAttr, ↓C.cw_w, C.cw_b, ↓C.bnj_w, ↓C.z66, C.dz_b, C.dq_b, h20, gt_iff_lt, hb3']
  refine (pick_spec hat n4.1).mono ?_
  rintro r t ⟨rfl, rfl⟩
  rw [← hd0]
  have hDl : S.devs[d].cells.length = 6 := rfl
  have hDf : allLeaf S.devs[d].cells = true := rfl
  have hfitd := flatMap_fits (f := Dev.cells) (k := 6) Dev.cells_len (l := S.devs) hd
  have hatd := dev_all hd
  simp only [↓Bt, Bu, simprocAttr, ↓C.cx_w, C.cx_b, ↓C.bnh_w, ↓C.cw_w, C.cw_b, ↓C.bnj_w, hb3', hzd, Int.toNat_natCast, hfitd, hatd]
  intro ix hix
  simp only [↓Bt, Bu, simprocAttr, ↓C.cx_w, C.cx_b, ↓C.bnh_w, hix, hDl, hDf]
  rw [ASt.new_set hix, putN_all (zs := [AV.int .i64 0, AV.int .i64 0, AV.int .i64 0, AV.int .u32 0, AV.nils, AV.nils]) (vs := S.devs[d].cells) rfl]
  obtain ⟨h4, hxx, hle⟩ := h3.box hix (.cells S.devs[d].cells)
  generalize t.new ix (.cells S.devs[d].cells) = t1 at h4
  generalize s2.new ix (.cells S.devs[d].cells) = st1 at h4 hxx hle
  have hb4 : t1.h ib = some (.cells S.cells) := h4.elim fun _ h => h.c.hb
  clear h3 hb3 hb3'
  simp only [↓Bt, Bu, simprocAttr, ↓C.z65, C.d1_b, C.d0_b, hb4, lc]
  rw [e4]
  obtain ⟨cs, hch, hwk⟩ := wakes_spec hk hd h4 hG hSt
  refine hwk.mono ?_
  rintro r t5 ⟨rfl, v3, h6, hW⟩
  have hd4 : d < 4 := by omega
  obtain ⟨dm, hdm⟩ : ∃ dm : Nat, S.devs[d].dom = (dm : Int) := ⟨S.devs[d].dom.toNat, by have := (hk.dev d hd).dom; omega⟩
  rw [hdm, Int.toNat_natCast] at hch
  have hdD : dm < S.doms.length := by have := (hk.dev d hd).dom; omega
  have hgi0 : GInv S.doms v0.gs := h4.elim fun _ h => h.c.ginv
  have q3 := hW.good.qs hW.still d
  have hal := hW.alive
  have hrg := (hk.dev d hd).regs
  have hnow : (v3.F d).now = resets S.devs[d].regs := by rw [hW.F, wk_fresh hd (by rw [hdm, Int.toNat_natCast]; exact chain_mem hch) (by rw [hdm, Int.toNat_natCast]; exact hfph hdD)]
  simp only [↓Bt, Bu, simprocAttr, ↓C.z60, C.bx_b, ↓C.z61, C.by_b, ↓C.z62, C.br_b, ↓C.z53, C.bm_b, ↓C.z63, C.b6_b, ↓C.br6_w, ↓C.bs3_w, ↓C.gz_w, C.gz_b, ↓C.bs4_w, ↓C.z65, C.d1_b, C.d0_b]
  refine awp_midB (fun _ : Unit => [(2, .isl 1 (V.map (AV.int .u32)) V.length), (3, .int .i64 hw), (10, .ptr ib 0), (11, .ptr a.hp 0), (13, .int .i64 d), (14, .ptr ix 0)]) (fun _ t => ∃ v, HX st1 t ib a S v ∧ QS S v d [] ∧ NI v.ns ∧ v.gs = v3.gs ∧ ∀ j, j < S.devs[d].regs.length → (v.F d).now j = nowV S.devs[d].regs V S.devs[d].regs.length j) ?_ ?_
  · refine awp_loopK (fun i : Nat => [(2, .isl 1 (V.map (AV.int .u32)) V.length), (3, .int .i64 hw), (10, .ptr ib 0), (11, .ptr a.hp 0), (13, .int .i64 d), (14, .ptr ix 0), (15, .int .i64 i)]) (fun i t => i ≤ S.devs[d].regs.length ∧ ∃ v, HX st1 t ib a S v ∧ QS S v d [] ∧ NI v.ns ∧ v.gs = v3.gs ∧ v.alive S d = true ∧ ∀ j, (v.F d).now j = nowV S.devs[d].regs V i j) (fun i => S.devs[d].regs.length - i) 0 rfl ⟨Nat.zero_le _, v3, h6, q3, hW.good.ni, rfl, hal, fun j => by rw [hnow, nowV, if_neg (by omega)]⟩ ?_
    clear h6 q3 hal hwk
    rintro i t6 ⟨hi, v4, h7, q4, ni4, g4, al4, now4⟩
    have hxt := h7.le _ _ hxx
    rw [Dev.cells] at hxt
    by_cases hil : i < S.devs[d].regs.length
    rotate_left
    · have hie : i = S.devs[d].regs.length := by omega
      have hil' : ¬ (i : Int) < ((S.devs[d].regs.length : Nat) : Int) := by omega
      simp only [↓Bt, Bu, simprocAttr, ↓C.z60, C.bx_b, ↓C.z61, C.by_b, ↓C.z62, C.br_b, ↓C.z53, C.bm_b, ↓C.z63, C.b6_b, hxt, hil']
      exact ⟨(), v4, h7, q4, ni4, g4, fun j hj => by rw [now4, hie]⟩
    have hil' : (i : Int) < ((S.devs[d].regs.length : Nat) : Int) := by omega
    by_cases hiV : i < V.length
    rotate_left
    · have hiV' : ¬ (i : Int) < ((V.length : Nat) : Int) := by omega
      simp only [↓Bt, Bu, simprocAttr, ↓C.z60, C.bx_b, ↓C.z61, C.by_b, ↓C.z62, C.br_b, ↓C.z53, C.bm_b, ↓C.z63, C.b6_b, hxt, hil', hiV']
      refine ⟨(), v4, h7, q4, ni4, g4, fun j hj => ?_⟩
      rw [now4, nowV, nowV]
      by_cases e : j < V.length
      · rw [if_pos ⟨by omega, e⟩, if_pos ⟨hj, e⟩]
      · rw [if_neg (fun q => e q.2), if_neg (fun q => e q.2)]
    have hiV' : (i : Int) < ((V.length : Nat) : Int) := by omega
    have hwi := wsucc hil (by omega)
    have hi4 : i < 4 := by omega
    have hzV : (0:Int) ≤ (i : Int) ∧ (i : Int) < ((V.length : Nat) : Int) := by omega
    have hVg : (V.map (AV.int .u32))[i]? = some (.int .u32 V[i]) := by simp [hiV]
    simp only [↓Bt, Bu, simprocAttr, ↓C.z60, C.bx_b, ↓C.z53, C.bm_b, ↓C.z63, C.b6_b, hxt, hil', hiV']
    refine (address_spec (d := d) (k := i) hd4 hi4).mono ?_
    rintro r t7 ⟨rfl, rfl⟩
    simp only [↓Bt, Bu, simprocAttr, ↓C.z62, C.br_b, ↓C.z53, C.bm_b, hzV, Int.toNat_natCast, Nat.mul_one, hVg]
    refine (act_post h7 q4 hd hd4 hil hi4 (by decide) true V[i]).mono ?_
    rintro r t8 ⟨rfl, v5, h5, q5, p5⟩
    rw [List.nil_append] at q5
    have al5 : v5.alive S d = true := by rw [p5.alive]; exact al4
    simp only [↓Bt, Bu, simprocAttr, ↓C.z61, C.by_b, ↓C.z62, C.br_b, ↓C.z53, C.bm_b]
    refine (act_tick hk h5 q5 hd (fun t ht _ => by rw [List.mem_singleton] at ht; subst ht; exact ⟨i, rfl, hil⟩)).mono ?_
    rintro r t9 ⟨rfl, v6, h6, k6⟩
    simp only [↓Bt, Bu, simprocAttr, ↓C.z61, C.by_b, ↓C.z62, C.br_b, ↓C.z53, C.bm_b]
    simp only [↓Bt, Bu, simprocAttr, ↓C.z60, C.bx_b, hwi]
    refine ⟨i + 1, rfl, ⟨hil, v6, h6, k6.qs, k6.ni, by rw [k6.gs, p5.gs, g4], k6.alive al5, fun j => ?_⟩, by omega⟩
    rw [k6.F, wrF_one q5.at_, if_pos al5, FSt.put, if_pos rfl, p5.F]
    show (if j = ((i : Nat) : Int).toNat then V[i] else (v4.F d).now j) = _
    rw [Int.toNat_natCast, now4]
    by_cases e : j = i
    · subst e
      rw [if_pos rfl, nowV, if_pos ⟨by omega, hiV⟩]; simp [hiV]
    · rw [if_neg e, nowV, nowV]
      by_cases e2 : j < i ∧ j < V.length
      · rw [if_pos e2, if_pos ⟨by omega, e2.2⟩]
      · rw [if_neg e2, if_neg (fun q => e2 ⟨by omega, q.2⟩)]
  rintro - t7 ⟨v5, h7, q5, ni5, g5, now5⟩
  have hxt := h7.le _ _ hxx
  rw [Dev.cells, hdm] at hxt
  have hbt : t7.h ib = some (.cells S.cells) := h7.elim fun _ h => h.c.hb
  rw [Soc.cells, Soc.clkV, Soc.domV, Soc.rstV, Soc.devV] at hbt
  have hgl5 : v5.gs.length = S.doms.length := h7.elim fun _ h => h.c.ginv.len
  have hzm : (0:Int) ≤ ((dm : Nat) : Int) ∧ ((dm : Nat) : Int) < ((S.doms.length : Nat) : Int) := by omega
  have hgd : (S.doms.flatMap Dom.cells)[dm * 3 + 2]? = some (.bool S.doms[dm].ret) := rows_get Dom.cells Dom.cells_len hdD (j := 2) (by omega)
  have hph5 : ∀ x, x < v5.gs.length → phN v5.gs x = if x ∈ cs then 49 else 48 := fun x hx => by
    rw [g5, hW.ph, hfph (by omega)]
  have fin := fun (kp : Bool) hkr => keeps_down (kp := kp) (hw := hw) (V := V) (s := t7) hk hd (by omega) hhw h7 hxx q5 ni5 hdm hch hgi0.lesser hph5 now5 hkr
  cases hret : S.doms[dm].ret
  · rw [hret] at hgd
    simp only [↓Bt, Bu, simprocAttr, ↓C.z59, C.b7_b, hxt, hbt, hzm, Int.toNat_natCast, hgd]
    exact awp_frame C.dw.eq_1 (fin false (by simp)) rfl
  · rw [hret] at hgd
    simp only [↓Bt, Bu, simprocAttr, ↓C.z59, C.b7_b, hxt, hbt, hzm, Int.toNat_natCast, hgd]
    refine (pick_spec hhw (n := 3) (by omega)).mono ?_
    rintro r t8 ⟨rfl, rfl⟩
    by_cases hp : (0 : Int) < ((pickI hw 3 : Nat) : Int)
    · simp only [↓Bt, Bu, simprocAttr, ↓C.z59, C.b7_b, hp, gt_iff_lt]
      exact awp_frame C.dw.eq_1 (fin true (fun _ _ => hret)) rfl
    · simp only [↓Bt, Bu, simprocAttr, ↓C.z59, C.b7_b, hp, gt_iff_lt]
      exact awp_frame C.dw.eq_1 (fin false (by simp)) rfl
end Go.Proofs.YtdmfgodajoojpaaGreatDoor.Cn
