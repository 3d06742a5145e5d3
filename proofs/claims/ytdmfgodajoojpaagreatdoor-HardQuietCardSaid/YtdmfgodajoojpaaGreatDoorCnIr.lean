/- The intermediate code of the functions, printed by a program out of the loaded program; that it is theirs is checked in the text of links. -/
import Derived.Test.YtdmfgodajoojpaaGreatDoorCnIr2
set_option linter.defProp false
namespace Go.Proofs.YtdmfgodajoojpaaGreatDoor.Cn
open Go
variable {P : Program} {Q : IExit → AFr → ASt → Prop} {fr : AFr} {st : ASt}


def C.vg_b : LO := [
 X.o 4 (.loadN 4 (X.s 1)),
 X.o 5 (.loadN 3 (X.s 2)),
 X.o 6 (.call F.q50 [X.s 4, X.s 5]),
 X.m 3 6]
def C.vg : LO := C.vg_b
def C.vg_w := pO C.vg.eq_1
def C.b2n : ICode := .keep [1, 2] (.seq (.region C.vg) .ret)
def C.b2n_w := pC C.b2n.eq_1
def C.jx_b : LO := [
 X.o 2 (.boxN (X.s 0)),
 X.o 3 (.move (X.i 0))]
def C.jx : LO := C.jx_b
def C.jx_w := pO C.jx.eq_1
def C.q28 : IFunc := ⟨2, [.slot 3], .seq (.region C.jx) C.b2n⟩
def C.q28_W := aI @C.vg_w (aI @C.b2n_w @C.jx_w)
def C.q28_B := aI @C.vg_b.eq_1 @C.jx_b.eq_1

def C.xm_b : LO := [
 X.o 5 (.makeFunc F.q51 [X.s 3, X.s 2]),
 X.o 6 (.makeFunc F.q52 [X.s 3]),
 X.o 7 (.buildSlice 1 2 [.nilf] [(0, 1, X.s 5), (1, 1, X.s 6)]),
 X.o 8 (.call F.q58 [X.s 7]),
 X.m 4 8]
def C.xm : LO := C.xm_b
def C.xm_w := pO C.xm.eq_1
def C.b4h : ICode := .keep [2, 3] (.seq (.region C.xm) .ret)
def C.b4h_w := pC C.b4h.eq_1
def C.xl_b : LO := [
 X.o 2 (.boxN (X.s 0)),
 X.o 3 (.boxN (X.s 1)),
 X.o 4 (.move (X.i 0))]
def C.xl : LO := C.xl_b
def C.xl_w := pO C.xl.eq_1
def C.q50 : IFunc := ⟨2, [.slot 4], .seq (.region C.xl) C.b4h⟩
def C.q50_W := aI @C.xm_w (aI @C.b4h_w @C.xl_w)
def C.q50_B := aI @C.xm_b.eq_1 @C.xl_b.eq_1

def C.vj_b : LO := [
 X.o 2 (.loadN 4 (X.s 0)),
 X.o 3 (.call F.q36 [X.s 2]),
 X.o 4 (.call F.q43 [X.s 3]),
 X.m 1 4]
def C.vj : LO := C.vj_b
def C.vj_w := pO C.vj.eq_1
def C.b2p : ICode := .keep [0] (.seq (.region C.vj) .ret)
def C.b2p_w := pC C.b2p.eq_1
def C.vh_b : LO := [
 X.o 1 (.move (X.i 0))]
def C.vh : LO := C.vh_b
def C.vh_w := pO C.vh.eq_1
def C.q29 : IFunc := ⟨1, [.slot 1], .seq (.region C.vh) C.b2p⟩
def C.q29_W := aI @C.vj_w (aI @C.b2p_w @C.vh_w)
def C.q29_B := aI @C.vj_b.eq_1 @C.vh_b.eq_1

def C.j7_b : LO := [
 X.m 28 3,
 X.m 2 28]
def C.j7 : LO := C.j7_b
def C.j7_w := pO C.j7.eq_1
def C.bsv : ICode := .keep [3] (.seq (.region C.j7) .ret)
def C.bsv_w := pC C.bsv.eq_1
def C.j6_b : LO := [
 X.o 27 (.bin .add (X.s 13) (X.i 1)),
 X.m 13 27]
def C.j6 : LO := C.j6_b
def C.j6_w := pO C.j6.eq_1
def C.bsy : ICode := .keep [3, 11, 12, 13] (.region C.j6)
def C.bsy_w := pC C.bsy.eq_1
def C.wc_b : LO := [
 X.m 21 3,
 X.m 22 4,
 X.o 23 (.fldAddr 0 (X.s 5)),
 X.o 24 (.load1 (X.s 23)),
 X.o 25 (.buildSlice 1 1 [.int .i64 0] [(0, 1, X.s 24)]),
 X.o 26 (.idxAddr 1 (X.s 21) (X.s 22)),
 X.n (.store1 (X.s 26) (X.s 25))]
def C.wc : LO := C.wc_b
def C.wc_w := pO C.wc.eq_1
def C.b3l : ICode := .keep [3, 4, 5, 11, 12, 13, 20] (.cond (X.s 20) (.region C.wc) .skip)
def C.b3l_w := pC C.b3l.eq_1
def C.wb_b : LO := [
 X.o 18 (.fldAddr 0 (X.s 5)),
 X.o 19 (.load1 (X.s 18)),
 X.o 20 (.bin .neq (X.s 19) (X.i (-1)))]
def C.wb : LO := C.wb_b
def C.wb_w := pO C.wb.eq_1
def C.b3m : ICode := .keep [3, 4, 5, 11, 12, 13] (.seq (.region C.wb) C.b3l)
def C.b3m_w := pC C.b3m.eq_1
def C.j5_b : LO := [
 X.m 15 13,
 X.o 16 (.idxAddr 3 (X.s 11) (X.s 13)),
 X.o 17 (.loadN 3 (X.s 16)),
 X.o 5 (.alloc [.int .i64 0, .int .i64 0, .bool false]),
 X.m 4 15,
 X.n (.storeN 3 (X.s 5) (X.s 17))]
def C.j5 : LO := C.j5_b
def C.j5_w := pO C.j5.eq_1
def C.bss : ICode := .seq (.region C.j5) C.b3m
def C.bss_w := pC C.bss.eq_1
def C.bsq : ICode := .keep [3, 11, 12, 13] (.seq (.block 1 C.bss) C.bsy)
def C.bsq_w := pC C.bsq.eq_1
def C.bsz : ICode := .keep [3, 11, 12, 13, 14] (.seq (.cond (X.s 14) .skip (.exit 0)) C.bsq)
def C.bsz_w := pC C.bsz.eq_1
def C.j4_b : LO := [
 X.o 14 (.bin .lss (X.s 13) (X.s 12))]
def C.j4 : LO := C.j4_b
def C.j4_w := pO C.j4.eq_1
def C.cgj : ICode := .keep [3, 11, 12, 13] (.seq (.region C.j4) C.bsz)
def C.cgj_w := pC C.cgj.eq_1
def C.bst : ICode := .loop C.cgj
def C.bst_w := pC C.bst.eq_1
def C.bsw : ICode := .keep [3, 11, 12, 13] (.block 0 C.bst)
def C.bsw_w := pC C.bsw.eq_1
def C.j3_b : LO := [
 X.o 10 (.fldAddr 1 (X.s 1)),
 X.o 11 (.load1 (X.s 10)),
 X.o 12 (.len (X.s 11)),
 X.o 13 (.move (X.i 0))]
def C.j3 : LO := C.j3_b
def C.j3_w := pO C.j3.eq_1
def C.bsx : ICode := .keep [1, 3] (.seq (.seq (.region C.j3) C.bsw) C.bsv)
def C.bsx_w := pC C.bsx.eq_1
def C.cz_b : LO := [
 X.o 6 (.fldAddr 1 (X.s 1)),
 X.o 7 (.load1 (X.s 6)),
 X.o 8 (.len (X.s 7)),
 X.o 9 (.makeSlice 1 24 [.nils] (X.s 8) (X.s 8)),
 X.m 3 9]
def C.cz : LO := C.cz_b
def C.cz_w := pO C.cz.eq_1
def C.bkm : ICode := .keep [1] (.seq (.region C.cz) C.bsx)
def C.bkm_w := pC C.bkm.eq_1
def C.b5_b : LO := [
 X.o 1 (.boxN (X.s 0)),
 X.o 2 (.move (.cst (.nils)))]
def C.b5 : LO := C.b5_b
def C.b5_w := pO C.b5.eq_1
def C.q36 : IFunc := ⟨1, [.slot 2], .seq (.region C.b5) C.bkm⟩
def C.q36_W := aI (aI (aI (aI @C.j7_w @C.bsv_w) (aI @C.j6_w (aI @C.bsy_w @C.wc_w))) (aI (aI @C.b3l_w @C.wb_w) (aI @C.b3m_w (aI @C.j5_w @C.bss_w)))) (aI (aI (aI @C.bsq_w @C.bsz_w) (aI @C.j4_w (aI @C.bst_w @C.bsw_w))) (aI (aI @C.j3_w @C.bsx_w) (aI @C.cz_w (aI @C.bkm_w @C.b5_w))))
def C.q36_B := aI (aI (aI @C.j7_b.eq_1 @C.j6_b.eq_1) (aI @C.wc_b.eq_1 @C.wb_b.eq_1)) (aI (aI @C.j5_b.eq_1 @C.j4_b.eq_1) (aI @C.j3_b.eq_1 (aI @C.cz_b.eq_1 @C.b5_b.eq_1)))

def C.vr_b : LO := [
 X.o 2 (.fldAddr 2 (X.s 0)),
 X.o 3 (.load1 (X.s 2)),
 X.o 4 (.call F.q56 [X.s 3, .fnc F.q68]),
 X.m 1 4]
def C.vr : LO := C.vr_b
def C.vr_w := pO C.vr.eq_1
def C.b2w : ICode := .keep [0] (.seq (.region C.vr) .ret)
def C.b2w_w := pC C.b2w.eq_1
def C.vp_b : LO := [
 X.o 1 (.move (X.i 0))]
def C.vp : LO := C.vp_b
def C.vp_w := pO C.vp.eq_1
def C.q30 : IFunc := ⟨1, [.slot 1], .seq (.region C.vp) C.b2w⟩
def C.q30_W := aI @C.vr_w (aI @C.b2w_w @C.vp_w)
def C.q30_B := aI @C.vr_b.eq_1 @C.vp_b.eq_1

def C.k5_b : LO := [
 X.o 4 (.move (X.i 0))]
def C.k5 : LO := C.k5_b
def C.k5_w := pO C.k5.eq_1
def C.bt3 : ICode := .keep [] (.seq (.region C.k5) .ret)
def C.bt3_w := pC C.bt3.eq_1
def C.k4_b : LO := [
 X.o 20 (.bin .add (X.s 10) (X.i 1)),
 X.m 10 20]
def C.k4 : LO := C.k4_b
def C.k4_w := pO C.k4.eq_1
def C.bt6 : ICode := .keep [1, 8, 9, 10] (.region C.k4)
def C.bt6_w := pC C.bt6.eq_1
def C.x4_b : LO := [
 X.m 19 7,
 X.m 4 19]
def C.x4 : LO := C.x4_b
def C.x4_w := pO C.x4.eq_1
def C.b4z : ICode := .seq (.region C.x4) .ret
def C.b4z_w := pC C.b4z.eq_1
def C.b40 : ICode := .keep [1, 7, 8, 9, 10, 18] (.cond (X.s 18) C.b4z .skip)
def C.b40_w := pC C.b40.eq_1
def C.x3_b : LO := [
 X.m 17 7,
 X.o 18 (.bin .neq (X.s 17) (X.i 0))]
def C.x3 : LO := C.x3_b
def C.x3_w := pO C.x3.eq_1
def C.b41 : ICode := .keep [1, 7, 8, 9, 10] (.seq (.region C.x3) C.b40)
def C.b41_w := pC C.b41.eq_1
def C.x2_b : LO := [
 X.m 14 1,
 X.o 15 (.loadN 1 (X.s 6)),
 X.o 16 (.callv (X.s 14) [X.s 15]),
 X.m 7 16]
def C.x2 : LO := C.x2_b
def C.x2_w := pO C.x2.eq_1
def C.b42 : ICode := .keep [1, 6, 8, 9, 10] (.seq (.region C.x2) C.b41)
def C.b42_w := pC C.b42.eq_1
def C.k3_b : LO := [
 X.o 12 (.idxAddr 1 (X.s 8) (X.s 10)),
 X.o 13 (.loadN 1 (X.s 12)),
 X.o 6 (.alloc [.int .i64 0]),
 X.n (.storeN 1 (X.s 6) (X.s 13))]
def C.k3 : LO := C.k3_b
def C.k3_w := pO C.k3.eq_1
def C.bt2 : ICode := .seq (.region C.k3) C.b42
def C.bt2_w := pC C.bt2.eq_1
def C.bt7 : ICode := .keep [1, 8, 9, 10] (.seq (.block 1 C.bt2) C.bt6)
def C.bt7_w := pC C.bt7.eq_1
def C.bt8 : ICode := .keep [1, 8, 9, 10, 11] (.seq (.cond (X.s 11) .skip (.exit 0)) C.bt7)
def C.bt8_w := pC C.bt8.eq_1
def C.k2_b : LO := [
 X.o 11 (.bin .lss (X.s 10) (X.s 9))]
def C.k2 : LO := C.k2_b
def C.k2_w := pO C.k2.eq_1
def C.cgp : ICode := .keep [1, 8, 9, 10] (.seq (.region C.k2) C.bt8)
def C.cgp_w := pC C.cgp.eq_1
def C.bt1 : ICode := .loop C.cgp
def C.bt1_w := pC C.bt1.eq_1
def C.bt4 : ICode := .keep [1, 8, 9, 10] (.block 0 C.bt1)
def C.bt4_w := pC C.bt4.eq_1
def C.k1_b : LO := [
 X.m 8 0,
 X.o 9 (.len (X.s 8)),
 X.o 10 (.move (X.i 0))]
def C.k1 : LO := C.k1_b
def C.k1_w := pO C.k1.eq_1
def C.bt5 : ICode := .keep [0, 1] (.seq (.seq (.region C.k1) C.bt4) C.bt3)
def C.bt5_w := pC C.bt5.eq_1
def C.k0_b : LO := [
 X.o 4 (.move (X.i 0))]
def C.k0 : LO := C.k0_b
def C.k0_w := pO C.k0.eq_1
def C.q56 : IFunc := ⟨2, [.slot 4], .seq (.region C.k0) C.bt5⟩
def C.q56_W := aI (aI (aI (aI @C.k5_w @C.bt3_w) (aI @C.k4_w (aI @C.bt6_w @C.x4_w))) (aI (aI @C.b4z_w @C.b40_w) (aI @C.x3_w (aI @C.b41_w @C.x2_w)))) (aI (aI (aI @C.b42_w @C.k3_w) (aI @C.bt2_w (aI @C.bt7_w @C.bt8_w))) (aI (aI @C.k2_w (aI @C.bt1_w @C.bt4_w)) (aI @C.k1_w (aI @C.bt5_w @C.k0_w))))
def C.q56_B := aI (aI (aI @C.k5_b.eq_1 @C.k4_b.eq_1) (aI @C.x4_b.eq_1 @C.x3_b.eq_1)) (aI (aI @C.x2_b.eq_1 @C.k3_b.eq_1) (aI @C.k2_b.eq_1 (aI @C.k1_b.eq_1 @C.k0_b.eq_1)))

def C.bbq_b : LO := [
 X.o 3 (.fldAddr 0 (X.s 1)),
 X.o 4 (.load1 (X.s 3)),
 X.o 5 (.call F.q71 [X.s 4, X.i 0, X.i 20]),
 X.o 6 (.un .not (X.s 5)),
 X.o 7 (.call F.q70 [X.s 6, X.i 3]),
 X.m 2 7]
def C.bbq : LO := C.bbq_b
def C.bbq_w := pO C.bbq.eq_1
def C.b6z : ICode := .keep [1] (.seq (.region C.bbq) .ret)
def C.b6z_w := pC C.b6z.eq_1
def C.bby_b : LO := [
 X.o 1 (.boxN (X.s 0)),
 X.o 2 (.move (X.i 0))]
def C.bby : LO := C.bby_b
def C.bby_w := pO C.bby.eq_1
def C.q68 : IFunc := ⟨1, [.slot 2], .seq (.region C.bby) C.b6z⟩
def C.q68_W := aI @C.bbq_w (aI @C.b6z_w @C.bby_w)
def C.q68_B := aI @C.bbq_b.eq_1 @C.bby_b.eq_1

def C.vt_b : LO := [
 X.o 2 (.fldAddr 3 (X.s 0)),
 X.o 3 (.load1 (X.s 2)),
 X.o 4 (.makeFunc F.q32 [X.s 0]),
 X.o 5 (.call F.q54 [X.s 3, X.s 4]),
 X.m 1 5]
def C.vt : LO := C.vt_b
def C.vt_w := pO C.vt.eq_1
def C.b2x : ICode := .keep [0] (.seq (.region C.vt) .ret)
def C.b2x_w := pC C.b2x.eq_1
def C.vs_b : LO := [
 X.o 1 (.move (X.i 0))]
def C.vs : LO := C.vs_b
def C.vs_w := pO C.vs.eq_1
def C.q31 : IFunc := ⟨1, [.slot 1], .seq (.region C.vs) C.b2x⟩
def C.q31_W := aI @C.vt_w (aI @C.b2x_w @C.vs_w)
def C.q31_B := aI @C.vt_b.eq_1 @C.vs_b.eq_1

def C.kt_b : LO := [
 X.o 4 (.move (X.i 0))]
def C.kt : LO := C.kt_b
def C.kt_w := pO C.kt.eq_1
def C.btl : ICode := .keep [] (.seq (.region C.kt) .ret)
def C.btl_w := pC C.btl.eq_1
def C.ks_b : LO := [
 X.o 20 (.bin .add (X.s 10) (X.i 1)),
 X.m 10 20]
def C.ks : LO := C.ks_b
def C.ks_w := pO C.ks.eq_1
def C.btp : ICode := .keep [1, 8, 9, 10] (.region C.ks)
def C.btp_w := pC C.btp.eq_1
def C.xq_b : LO := [
 X.m 19 7,
 X.m 4 19]
def C.xq : LO := C.xq_b
def C.xq_w := pO C.xq.eq_1
def C.b4r : ICode := .seq (.region C.xq) .ret
def C.b4r_w := pC C.b4r.eq_1
def C.b4s : ICode := .keep [1, 7, 8, 9, 10, 18] (.cond (X.s 18) C.b4r .skip)
def C.b4s_w := pC C.b4s.eq_1
def C.xy_b : LO := [
 X.m 17 7,
 X.o 18 (.bin .neq (X.s 17) (X.i 0))]
def C.xy : LO := C.xy_b
def C.xy_w := pO C.xy.eq_1
def C.b4t : ICode := .keep [1, 7, 8, 9, 10] (.seq (.region C.xy) C.b4s)
def C.b4t_w := pC C.b4t.eq_1
def C.xx_b : LO := [
 X.m 14 1,
 X.o 15 (.loadN 6 (X.s 6)),
 X.o 16 (.callv (X.s 14) [X.s 15]),
 X.m 7 16]
def C.xx : LO := C.xx_b
def C.xx_w := pO C.xx.eq_1
def C.b4v : ICode := .keep [1, 6, 8, 9, 10] (.seq (.region C.xx) C.b4t)
def C.b4v_w := pC C.b4v.eq_1
def C.kr_b : LO := [
 X.o 12 (.idxAddr 6 (X.s 8) (X.s 10)),
 X.o 13 (.loadN 6 (X.s 12)),
 X.o 6 (.alloc [.int .i64 0, .int .i64 0, .int .i64 0, .int .u32 0, .nils, .nils]),
 X.n (.storeN 6 (X.s 6) (X.s 13))]
def C.kr : LO := C.kr_b
def C.kr_w := pO C.kr.eq_1
def C.btk : ICode := .seq (.region C.kr) C.b4v
def C.btk_w := pC C.btk.eq_1
def C.btr : ICode := .keep [1, 8, 9, 10] (.seq (.block 1 C.btk) C.btp)
def C.btr_w := pC C.btr.eq_1
def C.bts : ICode := .keep [1, 8, 9, 10, 11] (.seq (.cond (X.s 11) .skip (.exit 0)) C.btr)
def C.bts_w := pC C.bts.eq_1
def C.kp_b : LO := [
 X.o 11 (.bin .lss (X.s 10) (X.s 9))]
def C.kp : LO := C.kp_b
def C.kp_w := pO C.kp.eq_1
def C.cgm : ICode := .keep [1, 8, 9, 10] (.seq (.region C.kp) C.bts)
def C.cgm_w := pC C.cgm.eq_1
def C.btj : ICode := .loop C.cgm
def C.btj_w := pC C.btj.eq_1
def C.btm : ICode := .keep [1, 8, 9, 10] (.block 0 C.btj)
def C.btm_w := pC C.btm.eq_1
def C.kn_b : LO := [
 X.m 8 0,
 X.o 9 (.len (X.s 8)),
 X.o 10 (.move (X.i 0))]
def C.kn : LO := C.kn_b
def C.kn_w := pO C.kn.eq_1
def C.btn : ICode := .keep [0, 1] (.seq (.seq (.region C.kn) C.btm) C.btl)
def C.btn_w := pC C.btn.eq_1
def C.km_b : LO := [
 X.o 4 (.move (X.i 0))]
def C.km : LO := C.km_b
def C.km_w := pO C.km.eq_1
def C.q54 : IFunc := ⟨2, [.slot 4], .seq (.region C.km) C.btn⟩
def C.q54_W := aI (aI (aI (aI @C.kt_w @C.btl_w) (aI @C.ks_w (aI @C.btp_w @C.xq_w))) (aI (aI @C.b4r_w @C.b4s_w) (aI @C.xy_w (aI @C.b4t_w @C.xx_w)))) (aI (aI (aI @C.b4v_w @C.kr_w) (aI @C.btk_w (aI @C.btr_w @C.bts_w))) (aI (aI @C.kp_w (aI @C.btj_w @C.btm_w)) (aI @C.kn_w (aI @C.btn_w @C.km_w))))
def C.q54_B := aI (aI (aI @C.kt_b.eq_1 @C.ks_b.eq_1) (aI @C.xq_b.eq_1 @C.xy_b.eq_1)) (aI (aI @C.xx_b.eq_1 @C.kr_b.eq_1) (aI @C.kp_b.eq_1 (aI @C.kn_b.eq_1 @C.km_b.eq_1)))

def C.vv_b : LO := [
 X.o 4 (.loadN 4 (X.s 1)),
 X.o 5 (.loadN 6 (X.s 2)),
 X.o 6 (.call F.q44 [X.s 4, X.s 5]),
 X.m 3 6]
def C.vv : LO := C.vv_b
def C.vv_w := pO C.vv.eq_1
def C.b2y : ICode := .keep [1, 2] (.seq (.region C.vv) .ret)
def C.b2y_w := pC C.b2y.eq_1
def C.jy_b : LO := [
 X.o 2 (.boxN (X.s 0)),
 X.o 3 (.move (X.i 0))]
def C.jy : LO := C.jy_b
def C.jy_w := pO C.jy.eq_1
def C.q32 : IFunc := ⟨2, [.slot 3], .seq (.region C.jy) C.b2y⟩
def C.q32_W := aI @C.vv_w (aI @C.b2y_w @C.jy_w)
def C.q32_B := aI @C.vv_b.eq_1 @C.jy_b.eq_1

def C.wy_b : LO := [
 X.o 5 (.makeFunc F.q45 [X.s 3, X.s 2]),
 X.o 6 (.makeFunc F.q46 [X.s 3, X.s 2]),
 X.o 7 (.makeFunc F.q47 [X.s 3, X.s 2]),
 X.o 8 (.makeFunc F.q48 [X.s 3, X.s 2]),
 X.o 9 (.buildSlice 1 4 [.nilf] [(0, 1, X.s 5), (1, 1, X.s 6), (2, 1, X.s 7), (3, 1, X.s 8)]),
 X.o 10 (.call F.q58 [X.s 9]),
 X.m 4 10]
def C.wy : LO := C.wy_b
def C.wy_w := pO C.wy.eq_1
def C.b3y : ICode := .keep [2, 3] (.seq (.region C.wy) .ret)
def C.b3y_w := pC C.b3y.eq_1
def C.wx_b : LO := [
 X.o 2 (.boxN (X.s 0)),
 X.o 3 (.boxN (X.s 1)),
 X.o 4 (.move (X.i 0))]
def C.wx : LO := C.wx_b
def C.wx_w := pO C.wx.eq_1
def C.q44 : IFunc := ⟨2, [.slot 4], .seq (.region C.wx) C.b3y⟩
def C.q44_W := aI @C.wy_w (aI @C.b3y_w @C.wx_w)
def C.q44_B := aI @C.wy_b.eq_1 @C.wx_b.eq_1

def C.vx_b : LO := [
 X.o 2 (.loadN 4 (X.s 0)),
 X.o 3 (.call F.q37 [X.s 2]),
 X.o 4 (.call F.q43 [X.s 3]),
 X.m 1 4]
def C.vx : LO := C.vx_b
def C.vx_w := pO C.vx.eq_1
def C.b2q : ICode := .keep [0] (.seq (.region C.vx) .ret)
def C.b2q_w := pC C.b2q.eq_1
def C.vw_b : LO := [
 X.o 1 (.move (X.i 0))]
def C.vw : LO := C.vw_b
def C.vw_w := pO C.vw.eq_1
def C.q33 : IFunc := ⟨1, [.slot 1], .seq (.region C.vw) C.b2q⟩
def C.q33_W := aI @C.vx_w (aI @C.b2q_w @C.vw_w)
def C.q33_B := aI @C.vx_b.eq_1 @C.vw_b.eq_1

def C.kd_b : LO := [
 X.m 25 3,
 X.m 2 25]
def C.kd : LO := C.kd_b
def C.kd_w := pO C.kd.eq_1
def C.bs2 : ICode := .keep [3] (.seq (.region C.kd) .ret)
def C.bs2_w := pC C.bs2.eq_1
def C.kc_b : LO := [
 X.o 24 (.bin .add (X.s 13) (X.i 1)),
 X.m 13 24]
def C.kc : LO := C.kc_b
def C.kc_w := pO C.kc.eq_1
def C.bs4 : ICode := .keep [3, 11, 12, 13] (.region C.kc)
def C.bs4_w := pC C.bs4.eq_1
def C.wd_b : LO := [
 X.m 18 3,
 X.m 19 4,
 X.o 20 (.fldAddr 5 (X.s 5)),
 X.o 21 (.load1 (X.s 20)),
 X.o 22 (.call F.q67 [X.s 21]),
 X.o 23 (.idxAddr 1 (X.s 18) (X.s 19)),
 X.n (.store1 (X.s 23) (X.s 22))]
def C.wd : LO := C.wd_b
def C.wd_w := pO C.wd.eq_1
def C.b3n : ICode := .keep [3, 4, 5, 11, 12, 13] (.region C.wd)
def C.b3n_w := pC C.b3n.eq_1
def C.kb_b : LO := [
 X.m 15 13,
 X.o 16 (.idxAddr 6 (X.s 11) (X.s 13)),
 X.o 17 (.loadN 6 (X.s 16)),
 X.o 5 (.alloc [.int .i64 0, .int .i64 0, .int .i64 0, .int .u32 0, .nils, .nils]),
 X.m 4 15,
 X.n (.storeN 6 (X.s 5) (X.s 17))]
def C.kb : LO := C.kb_b
def C.kb_w := pO C.kb.eq_1
def C.bs0 : ICode := .seq (.region C.kb) C.b3n
def C.bs0_w := pC C.bs0.eq_1
def C.bs5 : ICode := .keep [3, 11, 12, 13] (.seq (.block 1 C.bs0) C.bs4)
def C.bs5_w := pC C.bs5.eq_1
def C.bs6 : ICode := .keep [3, 11, 12, 13, 14] (.seq (.cond (X.s 14) .skip (.exit 0)) C.bs5)
def C.bs6_w := pC C.bs6.eq_1
def C.j9_b : LO := [
 X.o 14 (.bin .lss (X.s 13) (X.s 12))]
def C.j9 : LO := C.j9_b
def C.j9_w := pO C.j9.eq_1
def C.cgk : ICode := .keep [3, 11, 12, 13] (.seq (.region C.j9) C.bs6)
def C.cgk_w := pC C.cgk.eq_1
def C.bs1 : ICode := .loop C.cgk
def C.bs1_w := pC C.bs1.eq_1
def C.bs7 : ICode := .keep [3, 11, 12, 13] (.block 0 C.bs1)
def C.bs7_w := pC C.bs7.eq_1
def C.j8_b : LO := [
 X.o 10 (.fldAddr 3 (X.s 1)),
 X.o 11 (.load1 (X.s 10)),
 X.o 12 (.len (X.s 11)),
 X.o 13 (.move (X.i 0))]
def C.j8 : LO := C.j8_b
def C.j8_w := pO C.j8.eq_1
def C.bs3 : ICode := .keep [1, 3] (.seq (.seq (.region C.j8) C.bs7) C.bs2)
def C.bs3_w := pC C.bs3.eq_1
def C.c0_b : LO := [
 X.o 6 (.fldAddr 3 (X.s 1)),
 X.o 7 (.load1 (X.s 6)),
 X.o 8 (.len (X.s 7)),
 X.o 9 (.makeSlice 1 24 [.nils] (X.s 8) (X.s 8)),
 X.m 3 9]
def C.c0 : LO := C.c0_b
def C.c0_w := pO C.c0.eq_1
def C.bkn : ICode := .keep [1] (.seq (.region C.c0) C.bs3)
def C.bkn_w := pC C.bkn.eq_1
def C.b6_b : LO := [
 X.o 1 (.boxN (X.s 0)),
 X.o 2 (.move (.cst (.nils)))]
def C.b6 : LO := C.b6_b
def C.b6_w := pO C.b6.eq_1
def C.q37 : IFunc := ⟨1, [.slot 2], .seq (.region C.b6) C.bkn⟩
def C.q37_W := aI (aI (aI (aI @C.kd_w @C.bs2_w) (aI @C.kc_w @C.bs4_w)) (aI (aI @C.wd_w @C.b3n_w) (aI @C.kb_w (aI @C.bs0_w @C.bs5_w)))) (aI (aI (aI @C.bs6_w @C.j9_w) (aI @C.bs1_w @C.bs7_w)) (aI (aI @C.j8_w @C.bs3_w) (aI @C.c0_w (aI @C.bkn_w @C.b6_w))))
def C.q37_B := aI (aI (aI @C.kd_b.eq_1 @C.kc_b.eq_1) (aI @C.wd_b.eq_1 @C.kb_b.eq_1)) (aI (aI @C.j9_b.eq_1 @C.j8_b.eq_1) (aI @C.c0_b.eq_1 @C.b6_b.eq_1))

def C.pd_b : LO := [
 X.m 6 0,
 X.o 7 (.nilchk (X.s 6)),
 X.o 8 (.fldAddr 3 (X.s 7)),
 X.n (.store1 (X.s 8) (.cst (.bool false)))]
def C.pd : LO := C.pd_b
def C.pd_w := pO C.pd.eq_1
def C.bq0 : ICode := .keep [0] (.region C.pd)
def C.bq0_w := pC C.bq0.eq_1
def C.pc_b : LO := [
 X.m 4 0,
 X.o 5 (.call F.q114 [X.s 4, .fnc F.q106])]
def C.pc : LO := C.pc_b
def C.pc_w := pO C.pc.eq_1
def C.bq1 : ICode := .keep [0] (.seq (.region C.pc) C.bq0)
def C.bq1_w := pC C.bq1.eq_1
def C.bq2 : ICode := .keep [0, 3] (.cond (X.s 3) .ret .skip)
def C.bq2_w := pC C.bq2.eq_1
def C.pb_b : LO := [
 X.m 2 0,
 X.o 3 (.eqP 0 false (X.s 2) (.cst (.nilp)))]
def C.pb : LO := C.pb_b
def C.pb_w := pO C.pb.eq_1
def C.q105 : IFunc := ⟨1, [], .seq (.seq (.region C.pb) C.bq2) C.bq1⟩
def C.q105_W := aI (aI @C.pd_w (aI @C.bq0_w @C.pc_w)) (aI @C.bq1_w (aI @C.bq2_w @C.pb_w))
def C.q105_B := aI @C.pd_b.eq_1 (aI @C.pc_b.eq_1 @C.pb_b.eq_1)

def C.bh3_b : LO := [
 X.o 4 (.move (X.i 0))]
def C.bh3 : LO := C.bh3_b
def C.bh3_w := pO C.bh3.eq_1
def C.cdw : ICode := .keep [] (.seq (.region C.bh3) .ret)
def C.cdw_w := pC C.cdw.eq_1
def C.bh2_b : LO := [
 X.m 45 5,
 X.m 46 5,
 X.m 47 5,
 X.o 48 (.nilchk (X.s 47)),
 X.o 49 (.fldAddr 0 (X.s 48)),
 X.o 50 (.fldAddr 1 (X.s 49)),
 X.o 51 (.load1 (X.s 50)),
 X.o 52 (.nilchk (X.s 45)),
 X.o 53 (.fldAddr 3 (X.s 52)),
 X.n (.store1 (X.s 53) (.cst (.int .u8 114))),
 X.o 54 (.nilchk (X.s 46)),
 X.o 55 (.fldAddr 4 (X.s 54)),
 X.n (.store1 (X.s 55) (X.s 51))]
def C.bh2 : LO := C.bh2_b
def C.bh2_w := pO C.bh2.eq_1
def C.cdx : ICode := .keep [5] (.seq (.region C.bh2) C.cdw)
def C.cdx_w := pC C.cdx.eq_1
def C.ms_b : LO := [
 X.m 37 5,
 X.m 38 5,
 X.o 39 (.nilchk (X.s 38)),
 X.o 40 (.fldAddr 3 (X.s 39)),
 X.o 41 (.load1 (X.s 40)),
 X.o 42 (.bin .eql (X.s 41) (.cst (.int .u8 116))),
 X.o 43 (.nilchk (X.s 37)),
 X.o 44 (.fldAddr 5 (X.s 43)),
 X.n (.store1 (X.s 44) (X.s 42))]
def C.ms : LO := C.ms_b
def C.ms_w := pO C.ms.eq_1
def C.nd : ICode := .keep [5] (.seq (.region C.ms) C.cdx)
def C.nd_w := pC C.nd.eq_1
def C.mr_b : LO := [
 X.o 4 (.move (X.i 6))]
def C.mr : LO := C.mr_b
def C.mr_w := pO C.mr.eq_1
def C.bxq : ICode := .seq (.region C.mr) .ret
def C.bxq_w := pC C.bxq.eq_1
def C.bxz : ICode := .keep [5, 36] (.cond (X.s 36) C.bxq .skip)
def C.bxz_w := pC C.bxz.eq_1
def C.mp_b : LO := [
 X.m 11 5,
 X.o 12 (.call F.q98 [X.s 11]),
 X.o 13 (.un .not (X.s 12)),
 X.m 14 13,
 X.f 14 15 (.move (X.s 5)),
 X.f 14 16 (.nilchk (X.s 15)),
 X.f 14 17 (.fldAddr 0 (X.s 16)),
 X.f 14 18 (.fldAddr 0 (X.s 17)),
 X.f 14 19 (.load1 (X.s 18)),
 X.f 14 20 (.bin .neq (X.s 19) (X.i (-1))),
 X.f 14 21 (.move (X.s 20)),
 X.t 21 22 (.move (X.s 0)),
 X.t 21 23 (.nilchk (X.s 22)),
 X.t 21 24 (.fldAddr 0 (X.s 23)),
 X.t 21 25 (.load1 (X.s 24)),
 X.t 21 26 (.move (X.s 5)),
 X.t 21 27 (.nilchk (X.s 26)),
 X.t 21 28 (.fldAddr 0 (X.s 27)),
 X.t 21 29 (.fldAddr 0 (X.s 28)),
 X.t 21 30 (.load1 (X.s 29)),
 X.t 21 31 (.idxAddr 7 (X.s 25) (X.s 30)),
 X.t 21 32 (.fldAddr 3 (X.s 31)),
 X.t 21 33 (.load1 (X.s 32)),
 X.t 21 34 (.bin .neq (X.s 33) (.cst (.int .u8 49))),
 X.f 14 35 (.pick (X.s 21) (X.s 34) (.cst (.bool false))),
 X.o 36 (.pick (X.s 14) (.cst (.bool true)) (X.s 35))]
def C.mp : LO := C.mp_b
def C.mp_w := pO C.mp.eq_1
def C.bx0 : ICode := .keep [0, 5] (.seq (.seq (.region C.mp) C.bxz) C.nd)
def C.bx0_w := pC C.bx0.eq_1
def C.mn_b : LO := [
 X.o 4 (.move (X.i 4))]
def C.mn : LO := C.mn_b
def C.mn_w := pO C.mn.eq_1
def C.bx1 : ICode := .seq (.region C.mn) .ret
def C.bx1_w := pC C.bx1.eq_1
def C.bx2 : ICode := .keep [0, 5, 10] (.cond (X.s 10) C.bx1 .skip)
def C.bx2_w := pC C.bx2.eq_1
def C.mm_b : LO := [
 X.m 9 5,
 X.o 10 (.eqP 0 false (X.s 9) (.cst (.nilp)))]
def C.mm : LO := C.mm_b
def C.mm_w := pO C.mm.eq_1
def C.bx3 : ICode := .keep [0, 5] (.seq (.seq (.region C.mm) C.bx2) C.bx0)
def C.bx3_w := pC C.bx3.eq_1
def C.ml_b : LO := [
 X.m 6 0,
 X.m 7 1,
 X.o 8 (.call F.q96 [X.s 6, X.s 7]),
 X.m 5 8]
def C.ml : LO := C.ml_b
def C.ml_w := pO C.ml.eq_1
def C.bxy : ICode := .keep [0, 1] (.seq (.region C.ml) C.bx3)
def C.bxy_w := pC C.bxy.eq_1
def C.mk_b : LO := [
 X.o 4 (.move (X.i 0))]
def C.mk : LO := C.mk_b
def C.mk_w := pO C.mk.eq_1
def C.q95 : IFunc := ⟨2, [.slot 4], .seq (.region C.mk) C.bxy⟩
def C.q95_W := aI (aI (aI (aI @C.bh3_w @C.cdw_w) (aI @C.bh2_w @C.cdx_w)) (aI (aI @C.ms_w @C.nd_w) (aI @C.mr_w (aI @C.bxq_w @C.bxz_w)))) (aI (aI (aI @C.mp_w @C.bx0_w) (aI @C.mn_w (aI @C.bx1_w @C.bx2_w))) (aI (aI @C.mm_w @C.bx3_w) (aI @C.ml_w (aI @C.bxy_w @C.mk_w))))
def C.q95_B := aI (aI (aI @C.bh3_b.eq_1 @C.bh2_b.eq_1) (aI @C.ms_b.eq_1 @C.mr_b.eq_1)) (aI (aI @C.mp_b.eq_1 @C.mn_b.eq_1) (aI @C.mm_b.eq_1 (aI @C.ml_b.eq_1 @C.mk_b.eq_1)))

def C.v1_b : LO := [
 X.o 66 (.loadN 4 (X.s 3)),
 X.n (.storeN 4 (X.s 2) (X.s 66))]
def C.v1 : LO := C.v1_b
def C.v1_w := pO C.v1.eq_1
def C.b24 : ICode := .keep [2, 3] (.seq (.region C.v1) .ret)
def C.b24_w := pC C.b24.eq_1
def C.v0_b : LO := [
 X.o 65 (.bin .add (X.s 42) (X.i 1)),
 X.m 42 65]
def C.v0 : LO := C.v0_b
def C.v0_w := pO C.v0.eq_1
def C.b3d : ICode := .keep [2, 3, 41, 42] (.region C.v0)
def C.b3d_w := pC C.b3d.eq_1
def C.vz_b : LO := [
 X.m 49 6,
 X.m 50 6,
 X.m 51 6,
 X.o 52 (.nilchk (X.s 51)),
 X.o 53 (.fldAddr 4 (X.s 52)),
 X.o 54 (.load1 (X.s 53)),
 X.m 56 6,
 X.o 57 (.nilchk (X.s 56)),
 X.o 58 (.fldAddr 5 (X.s 57)),
 X.o 59 (.load1 (X.s 58)),
 ⟨some 55, .call F.q65 [X.s 54], none, [⟨.load1 (X.s 58), 59, none⟩], []⟩,
 X.o 60 (.call F.q67 [X.s 59]),
 X.o 61 (.nilchk (X.s 49)),
 X.o 62 (.fldAddr 4 (X.s 61)),
 X.n (.store1 (X.s 62) (X.s 55)),
 X.o 63 (.nilchk (X.s 50)),
 X.o 64 (.fldAddr 5 (X.s 63)),
 X.n (.store1 (X.s 64) (X.s 60))]
def C.vz : LO := C.vz_b
def C.vz_w := pO C.vz.eq_1
def C.b3g : ICode := .keep [2, 3, 6, 41, 42] (.region C.vz)
def C.b3g_w := pC C.b3g.eq_1
def C.vq_b : LO := [
 X.o 45 (.fldAddr 3 (X.s 3)),
 X.o 46 (.load1 (X.s 45)),
 X.m 47 5,
 X.o 48 (.idxAddr 6 (X.s 46) (X.s 47)),
 X.m 6 48]
def C.vq : LO := C.vq_b
def C.vq_w := pO C.vq.eq_1
def C.b3h : ICode := .keep [2, 3, 5, 41, 42] (.seq (.region C.vq) C.b3g)
def C.b3h_w := pC C.b3h.eq_1
def C.v9_b : LO := [
 X.m 44 42,
 X.m 5 44]
def C.v9 : LO := C.v9_b
def C.v9_w := pO C.v9.eq_1
def C.b22 : ICode := .seq (.region C.v9) C.b3h
def C.b22_w := pC C.b22.eq_1
def C.b3j : ICode := .keep [2, 3, 41, 42] (.seq (.block 3 C.b22) C.b3d)
def C.b3j_w := pC C.b3j.eq_1
def C.b3k : ICode := .keep [2, 3, 41, 42, 43] (.seq (.cond (X.s 43) .skip (.exit 2)) C.b3j)
def C.b3k_w := pC C.b3k.eq_1
def C.v8_b : LO := [
 X.o 43 (.bin .lss (X.s 42) (X.s 41))]
def C.v8 : LO := C.v8_b
def C.v8_w := pO C.v8.eq_1
def C.cgh : ICode := .keep [2, 3, 41, 42] (.seq (.region C.v8) C.b3k)
def C.cgh_w := pC C.cgh.eq_1
def C.b23 : ICode := .loop C.cgh
def C.b23_w := pC C.b23.eq_1
def C.b25 : ICode := .keep [2, 3, 41, 42] (.block 2 C.b23)
def C.b25_w := pC C.b25.eq_1
def C.v7_b : LO := [
 X.o 39 (.fldAddr 3 (X.s 3)),
 X.o 40 (.load1 (X.s 39)),
 X.o 41 (.len (X.s 40)),
 X.o 42 (.move (X.i 0))]
def C.v7 : LO := C.v7_b
def C.v7_w := pO C.v7.eq_1
def C.b26 : ICode := .keep [2, 3] (.seq (.seq (.region C.v7) C.b25) C.b24)
def C.b26_w := pC C.b26.eq_1
def C.v6_b : LO := [
 X.o 38 (.bin .add (X.s 23) (X.i 1)),
 X.m 23 38]
def C.v6 : LO := C.v6_b
def C.v6_w := pO C.v6.eq_1
def C.b27 : ICode := .keep [2, 3, 22, 23] (.region C.v6)
def C.b27_w := pC C.b27.eq_1
def C.v5_b : LO := [
 X.o 26 (.fldAddr 0 (X.s 3)),
 X.o 27 (.load1 (X.s 26)),
 X.m 28 4,
 X.o 29 (.fldAddr 0 (X.s 3)),
 X.o 30 (.load1 (X.s 29)),
 X.m 31 4,
 X.o 32 (.idxAddr 6 (X.s 30) (X.s 31)),
 X.o 33 (.fldAddr 1 (X.s 32)),
 X.o 34 (.load1 (X.s 33)),
 ⟨some 35, .call F.q67 [X.s 34], none, [⟨.load1 (X.s 26), 27, none⟩], []⟩,
 X.o 36 (.idxAddr 6 (X.s 27) (X.s 28)),
 X.o 37 (.fldAddr 1 (X.s 36)),
 X.n (.store1 (X.s 37) (X.s 35))]
def C.v5 : LO := C.v5_b
def C.v5_w := pO C.v5.eq_1
def C.b28 : ICode := .keep [2, 3, 4, 22, 23] (.region C.v5)
def C.b28_w := pC C.b28.eq_1
def C.v4_b : LO := [
 X.m 25 23,
 X.m 4 25]
def C.v4 : LO := C.v4_b
def C.v4_w := pO C.v4.eq_1
def C.b20 : ICode := .seq (.region C.v4) C.b28
def C.b20_w := pC C.b20.eq_1
def C.b29 : ICode := .keep [2, 3, 22, 23] (.seq (.block 1 C.b20) C.b27)
def C.b29_w := pC C.b29.eq_1
def C.b3b : ICode := .keep [2, 3, 22, 23, 24] (.seq (.cond (X.s 24) .skip (.exit 0)) C.b29)
def C.b3b_w := pC C.b3b.eq_1
def C.v3_b : LO := [
 X.o 24 (.bin .lss (X.s 23) (X.s 22))]
def C.v3 : LO := C.v3_b
def C.v3_w := pO C.v3.eq_1
def C.cgg : ICode := .keep [2, 3, 22, 23] (.seq (.region C.v3) C.b3b)
def C.cgg_w := pC C.cgg.eq_1
def C.b21 : ICode := .loop C.cgg
def C.b21_w := pC C.b21.eq_1
def C.b3c : ICode := .keep [2, 3, 22, 23] (.block 0 C.b21)
def C.b3c_w := pC C.b3c.eq_1
def C.v2_b : LO := [
 X.o 20 (.fldAddr 0 (X.s 3)),
 X.o 21 (.load1 (X.s 20)),
 X.o 22 (.len (X.s 21)),
 X.o 23 (.move (X.i 0))]
def C.v2 : LO := C.v2_b
def C.v2_w := pO C.v2.eq_1
def C.b3f : ICode := .keep [2, 3] (.seq (.seq (.region C.v2) C.b3c) C.b26)
def C.b3f_w := pC C.b3f.eq_1
def C.cq_b : LO := [
 X.o 7 (.fldAddr 0 (X.s 1)),
 X.o 8 (.load1 (X.s 7)),
 X.o 10 (.fldAddr 1 (X.s 1)),
 X.o 11 (.load1 (X.s 10)),
 X.o 13 (.fldAddr 2 (X.s 1)),
 X.o 14 (.load1 (X.s 13)),
 X.o 16 (.fldAddr 3 (X.s 1)),
 X.o 17 (.load1 (X.s 16)),
 ⟨some 9, .call F.q62 [X.s 8], none, [⟨.load1 (X.s 10), 11, none⟩, ⟨.load1 (X.s 13), 14, none⟩, ⟨.load1 (X.s 16), 17, none⟩], []⟩,
 ⟨some 12, .call F.q64 [X.s 11], none, [⟨.load1 (X.s 13), 14, none⟩, ⟨.load1 (X.s 16), 17, none⟩], []⟩,
 ⟨some 15, .call F.q66 [X.s 14], none, [⟨.load1 (X.s 16), 17, none⟩], []⟩,
 X.o 18 (.call F.q63 [X.s 17]),
 X.o 19 (.build [.nils, .nils, .nils, .nils] [(0, 1, X.s 9), (1, 1, X.s 12), (2, 1, X.s 15), (3, 1, X.s 18)]),
 X.o 3 (.alloc [.nils, .nils, .nils, .nils]),
 X.n (.storeN 4 (X.s 3) (X.s 19))]
def C.cq : LO := C.cq_b
def C.cq_w := pO C.cq.eq_1
def C.bkl : ICode := .keep [1, 2] (.seq (.region C.cq) C.b3f)
def C.bkl_w := pC C.bkl.eq_1
def C.b4_b : LO := [
 X.o 1 (.boxN (X.s 0)),
 X.o 2 (.alloc [.nils, .nils, .nils, .nils])]
def C.b4 : LO := C.b4_b
def C.b4_w := pO C.b4.eq_1
def C.q35 : IFunc := ⟨1, [.cellN 2 4], .seq (.region C.b4) C.bkl⟩
def C.q35_W := aI (aI (aI (aI (aI @C.v1_w @C.b24_w) (aI @C.v0_w @C.b3d_w)) (aI (aI @C.vz_w @C.b3g_w) (aI @C.vq_w @C.b3h_w))) (aI (aI (aI @C.v9_w @C.b22_w) (aI @C.b3j_w @C.b3k_w)) (aI (aI @C.v8_w @C.b23_w) (aI @C.b25_w @C.v7_w)))) (aI (aI (aI (aI @C.b26_w @C.v6_w) (aI @C.b27_w @C.v5_w)) (aI (aI @C.b28_w @C.v4_w) (aI @C.b20_w @C.b29_w))) (aI (aI (aI @C.b3b_w @C.v3_w) (aI @C.b21_w @C.b3c_w)) (aI (aI @C.v2_w @C.b3f_w) (aI @C.cq_w (aI @C.bkl_w @C.b4_w)))))
def C.q35_B := aI (aI (aI @C.v1_b.eq_1 (aI @C.v0_b.eq_1 @C.vz_b.eq_1)) (aI (aI @C.vq_b.eq_1 @C.v9_b.eq_1) (aI @C.v8_b.eq_1 @C.v7_b.eq_1))) (aI (aI @C.v6_b.eq_1 (aI @C.v5_b.eq_1 @C.v4_b.eq_1)) (aI (aI @C.v3_b.eq_1 @C.v2_b.eq_1) (aI @C.cq_b.eq_1 @C.b4_b.eq_1)))

def C.sd_b : LO := [
 X.o 5 (.buildSlice 2 0 [.int .u32 0, .bool false] []),
 X.m 6 0,
 X.o 7 (.append 2 8 (X.s 5) (X.s 6)),
 X.m 2 7]
def C.sd : LO := C.sd_b
def C.sd_w := pO C.sd.eq_1
def C.b0x : ICode := .keep [0] (.seq (.region C.sd) .ret)
def C.b0x_w := pC C.b0x.eq_1
def C.sc_b : LO := [
 X.o 2 (.move (.cst (.nils)))]
def C.sc : LO := C.sc_b
def C.sc_w := pO C.sc.eq_1
def C.b0y : ICode := .seq (.region C.sc) .ret
def C.b0y_w := pC C.b0y.eq_1
def C.b0q : ICode := .keep [0, 4] (.cond (X.s 4) C.b0y .skip)
def C.b0q_w := pC C.b0q.eq_1
def C.sb_b : LO := [
 X.m 3 0,
 X.o 4 (.eqP 1 false (X.s 3) (.cst (.nils)))]
def C.sb : LO := C.sb_b
def C.sb_w := pO C.sb.eq_1
def C.b0z : ICode := .keep [0] (.seq (.seq (.region C.sb) C.b0q) C.b0x)
def C.b0z_w := pC C.b0z.eq_1
def C.r9_b : LO := [
 X.o 2 (.move (.cst (.nils)))]
def C.r9 : LO := C.r9_b
def C.r9_w := pO C.r9.eq_1
def C.q122 : IFunc := ⟨1, [.slot 2], .seq (.region C.r9) C.b0z⟩
def C.q122_W := aI (aI (aI @C.sd_w @C.b0x_w) (aI @C.sc_w @C.b0y_w)) (aI (aI @C.b0q_w @C.sb_w) (aI @C.b0z_w @C.r9_w))
def C.q122_B := aI (aI @C.sd_b.eq_1 @C.sc_b.eq_1) (aI @C.sb_b.eq_1 @C.r9_b.eq_1)

def C.vn_b : LO := [
 X.o 22 (.makeFunc F.q3 [X.s 3]),
 X.m 4 22,
 X.o 5 (.move (.cst (.bool true)))]
def C.vn : LO := C.vn_b
def C.vn_w := pO C.vn.eq_1
def C.b2r : ICode := .keep [3] (.seq (.region C.vn) .ret)
def C.b2r_w := pC C.b2r.eq_1
def C.vm_b : LO := [
 X.o 4 (.move (.cst (.nilf))),
 X.o 5 (.move (.cst (.bool false)))]
def C.vm : LO := C.vm_b
def C.vm_w := pO C.vm.eq_1
def C.b2s : ICode := .seq (.region C.vm) .ret
def C.b2s_w := pC C.b2s.eq_1
def C.b2t : ICode := .keep [3, 21] (.cond (X.s 21) C.b2s .skip)
def C.b2t_w := pC C.b2t.eq_1
def C.vl_b : LO := [
 X.o 6 (.load1 (X.s 3)),
 X.o 7 (.bin .lss (X.s 6) (X.i 1)),
 X.m 8 7,
 X.f 8 9 (.load1 (X.s 3)),
 X.f 8 10 (.bin .gtr (X.s 9) (X.i 32)),
 X.o 11 (.pick (X.s 8) (.cst (.bool true)) (X.s 10)),
 X.m 12 11,
 X.f 12 13 (.move (X.s 0)),
 X.f 12 14 (.bin .lss (X.s 13) (X.i 0)),
 X.o 15 (.pick (X.s 12) (.cst (.bool true)) (X.s 14)),
 X.m 16 15,
 X.f 16 17 (.move (X.s 0)),
 X.f 16 18 (.load1 (X.s 3)),
 X.f 16 19 (.bin .sub (X.i 32) (X.s 18)),
 X.f 16 20 (.bin .gtr (X.s 17) (X.s 19)),
 X.o 21 (.pick (X.s 16) (.cst (.bool true)) (X.s 20))]
def C.vl : LO := C.vl_b
def C.vl_w := pO C.vl.eq_1
def C.b2v : ICode := .keep [0, 3] (.seq (.seq (.region C.vl) C.b2t) C.b2r)
def C.b2v_w := pC C.b2v.eq_1
def C.vk_b : LO := [
 X.o 3 (.box1 (X.s 1)),
 X.o 4 (.move (.cst (.nilf))),
 X.o 5 (.move (.cst (.bool false)))]
def C.vk : LO := C.vk_b
def C.vk_w := pO C.vk.eq_1
def C.q2 : IFunc := ⟨2, [.slot 4, .slot 5], .seq (.region C.vk) C.b2v⟩
def C.q2_W := aI (aI (aI @C.vn_w @C.b2r_w) (aI @C.vm_w @C.b2s_w)) (aI (aI @C.b2t_w @C.vl_w) (aI @C.b2v_w @C.vk_w))
def C.q2_B := aI (aI @C.vn_b.eq_1 @C.vm_b.eq_1) (aI @C.vl_b.eq_1 @C.vk_b.eq_1)

def C.r5_b : LO := [
 X.m 16 7,
 X.o 17 (.conv .i64 (X.s 16)),
 X.m 6 17]
def C.r5 : LO := C.r5_b
def C.r5_w := pO C.r5.eq_1
def C.b0t : ICode := .keep [7] (.seq (.region C.r5) .ret)
def C.b0t_w := pC C.b0t.eq_1
def C.r4_b : LO := [
 X.m 10 0,
 X.m 11 1,
 X.m 12 2,
 X.o 13 (.call F.q0 [X.s 10, X.s 11, X.s 12]),
 X.m 9 13,
 X.o 14 (.extract (X.s 9) 0),
 X.o 15 (.extract (X.s 9) 1),
 X.m 7 14,
 X.m 8 15]
def C.r4 : LO := C.r4_b
def C.r4_w := pO C.r4.eq_1
def C.b0v : ICode := .keep [0, 1, 2] (.seq (.region C.r4) C.b0t)
def C.b0v_w := pC C.b0v.eq_1
def C.r3_b : LO := [
 X.o 6 (.move (X.i 0))]
def C.r3 : LO := C.r3_b
def C.r3_w := pO C.r3.eq_1
def C.q11 : IFunc := ⟨3, [.slot 6], .seq (.region C.r3) C.b0v⟩
def C.q11_W := aI (aI @C.r5_w @C.b0t_w) (aI @C.r4_w (aI @C.b0v_w @C.r3_w))
def C.q11_B := aI @C.r5_b.eq_1 (aI @C.r4_b.eq_1 @C.r3_b.eq_1)

def C.bgz_b : LO := [
 X.m 5 0,
 X.o 6 (.eqP 0 true (X.s 5) (.cst (.nilp))),
 X.m 7 6,
 X.t 7 8 (.move (X.s 1)),
 X.t 7 9 (.bin .geq (X.s 8) (X.i 0)),
 X.o 10 (.pick (X.s 7) (X.s 9) (.cst (.bool false))),
 X.m 11 10,
 X.t 11 12 (.move (X.s 1)),
 X.t 11 13 (.move (X.s 0)),
 X.t 11 14 (.nilchk (X.s 13)),
 X.t 11 15 (.fldAddr 0 (X.s 14)),
 X.t 11 16 (.load1 (X.s 15)),
 X.t 11 17 (.len (X.s 16)),
 X.t 11 18 (.bin .lss (X.s 12) (X.s 17)),
 X.o 19 (.pick (X.s 11) (X.s 18) (.cst (.bool false))),
 X.m 4 19]
def C.bgz : LO := C.bgz_b
def C.bgz_w := pO C.bgz.eq_1
def C.cck : ICode := .keep [0, 1] (.seq (.region C.bgz) .ret)
def C.cck_w := pC C.cck.eq_1
def C.bgq_b : LO := [
 X.o 4 (.move (.cst (.bool false)))]
def C.bgq : LO := C.bgq_b
def C.bgq_w := pO C.bgq.eq_1
def C.q8 : IFunc := ⟨2, [.slot 4], .seq (.region C.bgq) C.cck⟩
def C.q8_W := aI @C.bgz_w (aI @C.cck_w @C.bgq_w)
def C.q8_B := aI @C.bgz_b.eq_1 @C.bgq_b.eq_1

def C.bcg_b : LO := [
 X.m 42 6,
 X.o 43 (.idxAddr 4 (X.s 42) (X.i 0)),
 X.o 44 (.loadN 4 (X.s 43)),
 X.n (.storeN 4 (X.s 4) (X.s 44)),
 X.o 5 (.move (.cst (.bool true)))]
def C.bcg : LO := C.bcg_b
def C.bcg_w := pO C.bcg.eq_1
def C.b7h : ICode := .keep [4, 6] (.seq (.region C.bcg) .ret)
def C.b7h_w := pC C.b7h.eq_1
def C.bcf_b : LO := [
 X.m 30 0,
 X.o 31 (.nilchk (X.s 30)),
 X.o 32 (.fldAddr 1 (X.s 31)),
 X.o 33 (.load1 (X.s 32)),
 X.m 34 1,
 X.m 35 6,
 X.m 36 6,
 X.o 37 (.len (X.s 36)),
 X.m 38 6,
 X.o 39 (.len (X.s 38)),
 X.o 40 (.slice 4 (X.s 35) (some (X.i 1)) (some (X.s 37)) (some (X.s 39))),
 X.o 41 (.idxAddr 1 (X.s 33) (X.s 34)),
 X.n (.store1 (X.s 41) (X.s 40))]
def C.bcf : LO := C.bcf_b
def C.bcf_w := pO C.bcf.eq_1
def C.b7j : ICode := .keep [0, 1, 4, 6] (.seq (.region C.bcf) C.b7h)
def C.b7j_w := pC C.b7j.eq_1
def C.bcd_b : LO := [
 X.m 23 0,
 X.o 24 (.nilchk (X.s 23)),
 X.o 25 (.fldAddr 1 (X.s 24)),
 X.o 26 (.load1 (X.s 25)),
 X.m 27 1,
 X.o 28 (.idxAddr 1 (X.s 26) (X.s 27)),
 X.o 29 (.load1 (X.s 28)),
 X.m 6 29]
def C.bcd : LO := C.bcd_b
def C.bcd_w := pO C.bcd.eq_1
def C.b7k : ICode := .keep [0, 1, 4] (.seq (.region C.bcd) C.b7j)
def C.b7k_w := pC C.b7k.eq_1
def C.bcc_b : LO := [
 X.o 22 (.build [.int .i64 0, .bool false, .int .i64 0, .int .u32 0] []),
 X.n (.storeN 4 (X.s 4) (X.s 22)),
 X.o 5 (.move (.cst (.bool false)))]
def C.bcc : LO := C.bcc_b
def C.bcc_w := pO C.bcc.eq_1
def C.b7l : ICode := .seq (.region C.bcc) .ret
def C.b7l_w := pC C.b7l.eq_1
def C.b7m : ICode := .keep [0, 1, 4, 21] (.cond (X.s 21) C.b7l .skip)
def C.b7m_w := pC C.b7m.eq_1
def C.bcb_b : LO := [
 X.m 7 0,
 X.m 8 1,
 X.o 9 (.call F.q8 [X.s 7, X.s 8]),
 X.o 10 (.un .not (X.s 9)),
 X.m 11 10,
 X.f 11 12 (.move (X.s 0)),
 X.f 11 13 (.nilchk (X.s 12)),
 X.f 11 14 (.fldAddr 1 (X.s 13)),
 X.f 11 15 (.load1 (X.s 14)),
 X.f 11 16 (.move (X.s 1)),
 X.f 11 17 (.idxAddr 1 (X.s 15) (X.s 16)),
 X.f 11 18 (.load1 (X.s 17)),
 X.f 11 19 (.len (X.s 18)),
 X.f 11 20 (.bin .eql (X.s 19) (X.i 0)),
 X.o 21 (.pick (X.s 11) (.cst (.bool true)) (X.s 20))]
def C.bcb : LO := C.bcb_b
def C.bcb_w := pO C.bcb.eq_1
def C.b7n : ICode := .keep [0, 1, 4] (.seq (.seq (.region C.bcb) C.b7m) C.b7k)
def C.b7n_w := pC C.b7n.eq_1
def C.c1_b : LO := [
 X.o 4 (.alloc [.int .i64 0, .bool false, .int .i64 0, .int .u32 0]),
 X.o 5 (.move (.cst (.bool false)))]
def C.c1 : LO := C.c1_b
def C.c1_w := pO C.c1.eq_1
def C.q6 : IFunc := ⟨2, [.cellN 4 4, .slot 5], .seq (.region C.c1) C.b7n⟩
def C.q6_W := aI (aI (aI @C.bcg_w (aI @C.b7h_w @C.bcf_w)) (aI @C.b7j_w (aI @C.bcd_w @C.b7k_w))) (aI (aI @C.bcc_w (aI @C.b7l_w @C.b7m_w)) (aI @C.bcb_w (aI @C.b7n_w @C.c1_w)))
def C.q6_B := aI (aI @C.bcg_b.eq_1 (aI @C.bcf_b.eq_1 @C.bcd_b.eq_1)) (aI @C.bcc_b.eq_1 (aI @C.bcb_b.eq_1 @C.c1_b.eq_1))

def C.pr_b : LO := [
 X.m 14 0,
 X.o 15 (.nilchk (X.s 14)),
 X.o 16 (.fldAddr 1 (X.s 15)),
 X.o 17 (.load1 (X.s 16)),
 X.m 18 1,
 X.o 19 (.idxAddr 1 (X.s 17) (X.s 18)),
 X.o 20 (.load1 (X.s 19)),
 X.m 4 20,
 X.o 5 (.move (X.i 0))]
def C.pr : LO := C.pr_b
def C.pr_w := pO C.pr.eq_1
def C.bq8 : ICode := .keep [0, 1] (.seq (.region C.pr) .ret)
def C.bq8_w := pC C.bq8.eq_1
def C.pp_b : LO := [
 X.o 4 (.move (.cst (.int .u32 0))),
 X.o 5 (.move (X.i 4))]
def C.pp : LO := C.pp_b
def C.pp_w := pO C.pp.eq_1
def C.bq9 : ICode := .seq (.region C.pp) .ret
def C.bq9_w := pC C.bq9.eq_1
def C.bzb : ICode := .keep [0, 1, 13] (.cond (X.s 13) C.bq9 .skip)
def C.bzb_w := pC C.bzb.eq_1
def C.pn_b : LO := [
 X.m 6 1,
 X.o 7 (.bin .lss (X.s 6) (X.i 0)),
 X.m 8 7,
 X.f 8 9 (.move (X.s 1)),
 X.f 8 10 (.move (X.s 0)),
 X.f 8 11 (.call F.q107 [X.s 10]),
 X.f 8 12 (.bin .geq (X.s 9) (X.s 11)),
 X.o 13 (.pick (X.s 8) (.cst (.bool true)) (X.s 12))]
def C.pn : LO := C.pn_b
def C.pn_w := pO C.pn.eq_1
def C.bzc : ICode := .keep [0, 1] (.seq (.seq (.region C.pn) C.bzb) C.bq8)
def C.bzc_w := pC C.bzc.eq_1
def C.pm_b : LO := [
 X.o 4 (.move (.cst (.int .u32 0))),
 X.o 5 (.move (X.i 0))]
def C.pm : LO := C.pm_b
def C.pm_w := pO C.pm.eq_1
def C.q108 : IFunc := ⟨2, [.slot 4, .slot 5], .seq (.region C.pm) C.bzc⟩
def C.q108_W := aI (aI (aI @C.pr_w @C.bq8_w) (aI @C.pp_w @C.bq9_w)) (aI (aI @C.bzb_w @C.pn_w) (aI @C.bzc_w @C.pm_w))
def C.q108_B := aI (aI @C.pr_b.eq_1 @C.pp_b.eq_1) (aI @C.pn_b.eq_1 @C.pm_b.eq_1)

def C.rg_b : LO := [
 X.o 6 (.move (X.i 0))]
def C.rg : LO := C.rg_b
def C.rg_w := pO C.rg.eq_1
def C.bzq : ICode := .keep [] (.seq (.region C.rg) .ret)
def C.bzq_w := pC C.bzq.eq_1
def C.rf_b : LO := [
 X.m 15 0,
 X.o 16 (.nilchk (X.s 15)),
 X.o 17 (.fldAddr 1 (X.s 16)),
 X.o 18 (.load1 (X.s 17)),
 X.m 19 1,
 X.m 20 2,
 X.o 21 (.idxAddr 1 (X.s 18) (X.s 19)),
 X.n (.store1 (X.s 21) (X.s 20))]
def C.rf : LO := C.rf_b
def C.rf_w := pO C.rf.eq_1
def C.bzz : ICode := .keep [0, 1, 2] (.seq (.region C.rf) C.bzq)
def C.bzz_w := pC C.bzz.eq_1
def C.rd_b : LO := [
 X.o 6 (.move (X.i 4))]
def C.rd : LO := C.rd_b
def C.rd_w := pO C.rd.eq_1
def C.bz0 : ICode := .seq (.region C.rd) .ret
def C.bz0_w := pC C.bz0.eq_1
def C.bz1 : ICode := .keep [0, 1, 2, 14] (.cond (X.s 14) C.bz0 .skip)
def C.bz1_w := pC C.bz1.eq_1
def C.rc_b : LO := [
 X.m 7 1,
 X.o 8 (.bin .lss (X.s 7) (X.i 0)),
 X.m 9 8,
 X.f 9 10 (.move (X.s 1)),
 X.f 9 11 (.move (X.s 0)),
 X.f 9 12 (.call F.q107 [X.s 11]),
 X.f 9 13 (.bin .geq (X.s 10) (X.s 12)),
 X.o 14 (.pick (X.s 9) (.cst (.bool true)) (X.s 13))]
def C.rc : LO := C.rc_b
def C.rc_w := pO C.rc.eq_1
def C.bz2 : ICode := .keep [0, 1, 2] (.seq (.seq (.region C.rc) C.bz1) C.bzz)
def C.bz2_w := pC C.bz2.eq_1
def C.rb_b : LO := [
 X.o 6 (.move (X.i 0))]
def C.rb : LO := C.rb_b
def C.rb_w := pO C.rb.eq_1
def C.q113 : IFunc := ⟨3, [.slot 6], .seq (.region C.rb) C.bz2⟩
def C.q113_W := aI (aI (aI @C.rg_w @C.bzq_w) (aI @C.rf_w (aI @C.bzz_w @C.rd_w))) (aI (aI @C.bz0_w @C.bz1_w) (aI @C.rc_w (aI @C.bz2_w @C.rb_w)))
def C.q113_B := aI (aI @C.rg_b.eq_1 @C.rf_b.eq_1) (aI @C.rd_b.eq_1 (aI @C.rc_b.eq_1 @C.rb_b.eq_1))

def C.t3_b : LO := [
 X.m 19 5,
 X.o 20 (.nilchk (X.s 19)),
 X.o 21 (.fldAddr 0 (X.s 20)),
 X.o 22 (.fldAddr 1 (X.s 21)),
 X.o 23 (.load1 (X.s 22)),
 X.m 24 5,
 X.o 25 (.nilchk (X.s 24)),
 X.o 26 (.fldAddr 8 (X.s 25)),
 X.o 27 (.load1 (X.s 26)),
 X.o 28 (.idxAddr 1 (X.s 23) (X.s 27)),
 X.o 29 (.load1 (X.s 28)),
 X.m 4 29]
def C.t3 : LO := C.t3_b
def C.t3_w := pO C.t3.eq_1
def C.b19 : ICode := .keep [5] (.seq (.region C.t3) .ret)
def C.b19_w := pC C.b19.eq_1
def C.t2_b : LO := [
 X.o 4 (.move (X.i (-1)))]
def C.t2 : LO := C.t2_b
def C.t2_w := pO C.t2.eq_1
def C.b2b : ICode := .seq (.region C.t2) .ret
def C.b2b_w := pC C.b2b.eq_1
def C.b2c : ICode := .keep [5, 18] (.cond (X.s 18) C.b2b .skip)
def C.b2c_w := pC C.b2c.eq_1
def C.t1_b : LO := [
 X.m 12 5,
 X.o 13 (.nilchk (X.s 12)),
 X.o 14 (.fldAddr 0 (X.s 13)),
 X.o 15 (.fldAddr 1 (X.s 14)),
 X.o 16 (.load1 (X.s 15)),
 X.o 17 (.len (X.s 16)),
 X.o 18 (.bin .eql (X.s 17) (X.i 0))]
def C.t1 : LO := C.t1_b
def C.t1_w := pO C.t1.eq_1
def C.b2d : ICode := .keep [5] (.seq (.seq (.region C.t1) C.b2c) C.b19)
def C.b2d_w := pC C.b2d.eq_1
def C.t0_b : LO := [
 X.m 6 0,
 X.o 7 (.nilchk (X.s 6)),
 X.o 8 (.fldAddr 0 (X.s 7)),
 X.o 9 (.load1 (X.s 8)),
 X.m 10 1,
 X.o 11 (.idxAddr 11 (X.s 9) (X.s 10)),
 X.m 5 11]
def C.t0 : LO := C.t0_b
def C.t0_w := pO C.t0.eq_1
def C.b2f : ICode := .keep [0, 1] (.seq (.region C.t0) C.b2d)
def C.b2f_w := pC C.b2f.eq_1
def C.tz_b : LO := [
 X.o 4 (.move (X.i 0))]
def C.tz : LO := C.tz_b
def C.tz_w := pO C.tz.eq_1
def C.q21 : IFunc := ⟨2, [.slot 4], .seq (.region C.tz) C.b2f⟩
def C.q21_W := aI (aI (aI @C.t3_w @C.b19_w) (aI @C.t2_w (aI @C.b2b_w @C.b2c_w))) (aI (aI @C.t1_w @C.b2d_w) (aI @C.t0_w (aI @C.b2f_w @C.tz_w)))
def C.q21_B := aI (aI @C.t3_b.eq_1 @C.t2_b.eq_1) (aI @C.t1_b.eq_1 (aI @C.t0_b.eq_1 @C.tz_b.eq_1))

def C.bjr_b : LO := [
 X.o 2 (.move (.cst (.int .u8 0)))]
def C.bjr : LO := C.bjr_b
def C.bjr_w := pO C.bjr.eq_1
def C.cd4 : ICode := .keep [] (.seq (.region C.bjr) .ret)
def C.cd4_w := pC C.cd4.eq_1
def C.bjz_b : LO := [
 X.o 2 (.move (.cst (.int .u8 110)))]
def C.bjz : LO := C.bjz_b
def C.bjz_w := pO C.bjz.eq_1
def C.cfh : ICode := .keep [] (.seq (.region C.bjz) .ret)
def C.cfh_w := pC C.cfh.eq_1
def C.bjq_b : LO := [
 X.o 2 (.move (.cst (.int .u8 114)))]
def C.bjq : LO := C.bjq_b
def C.bjq_w := pO C.bjq.eq_1
def C.cfr : ICode := .seq (.region C.bjq) .ret
def C.cfr_w := pC C.cfr.eq_1
def C.cfs : ICode := .keep [27] (.cond (X.s 27) C.cfr .skip)
def C.cfs_w := pC C.cfs.eq_1
def C.bjy_b : LO := [
 X.m 24 0,
 X.o 25 (.nilchk (X.s 24)),
 X.o 26 (.fldAddr 5 (X.s 25)),
 X.o 27 (.load1 (X.s 26))]
def C.bjy : LO := C.bjy_b
def C.bjy_w := pO C.bjy.eq_1
def C.cft : ICode := .keep [0] (.seq (.seq (.region C.bjy) C.cfs) C.cfh)
def C.cft_w := pC C.cft.eq_1
def C.bjx_b : LO := [
 X.m 21 0,
 X.o 22 (.nilchk (X.s 21)),
 X.o 23 (.fldAddr 3 (X.s 22)),
 X.n (.store1 (X.s 23) (.cst (.int .u8 104)))]
def C.bjx : LO := C.bjx_b
def C.bjx_w := pO C.bjx.eq_1
def C.cfv : ICode := .keep [0] (.seq (.region C.bjx) C.cft)
def C.cfv_w := pC C.cfv.eq_1
def C.bjw_b : LO := [
 X.o 2 (.move (.cst (.int .u8 0)))]
def C.bjw : LO := C.bjw_b
def C.bjw_w := pO C.bjw.eq_1
def C.cfw : ICode := .keep [] (.seq (.region C.bjw) .ret)
def C.cfw_w := pC C.cfw.eq_1
def C.bjv_b : LO := [
 X.m 14 0,
 X.o 15 (.nilchk (X.s 14)),
 X.o 16 (.fldAddr 4 (X.s 15)),
 X.o 17 (.load1 (X.s 16)),
 X.o 18 (.bin .sub (X.s 17) (X.i 1)),
 X.o 19 (.nilchk (X.s 14)),
 X.o 20 (.fldAddr 4 (X.s 19)),
 X.n (.store1 (X.s 20) (X.s 18))]
def C.bjv : LO := C.bjv_b
def C.bjv_w := pO C.bjv.eq_1
def C.cfx : ICode := .seq (.region C.bjv) C.cfw
def C.cfx_w := pC C.cfx.eq_1
def C.cfy : ICode := .keep [0, 13] (.cond (X.s 13) C.cfx .skip)
def C.cfy_w := pC C.cfy.eq_1
def C.bjt_b : LO := [
 X.m 9 0,
 X.o 10 (.nilchk (X.s 9)),
 X.o 11 (.fldAddr 4 (X.s 10)),
 X.o 12 (.load1 (X.s 11)),
 X.o 13 (.bin .gtr (X.s 12) (X.i 0))]
def C.bjt : LO := C.bjt_b
def C.bjt_w := pO C.bjt.eq_1
def C.bjh_b : LO := [
 X.o 2 (.move (.cst (.int .u8 111)))]
def C.bjh : LO := C.bjh_b
def C.bjh_w := pO C.bjh.eq_1
def C.cd5 : ICode := .keep [] (.seq (.region C.bjh) .ret)
def C.cd5_w := pC C.cd5.eq_1
def C.bjg_b : LO := [
 X.m 30 0,
 X.o 31 (.nilchk (X.s 30)),
 X.o 32 (.fldAddr 3 (X.s 31)),
 X.n (.store1 (X.s 32) (.cst (.int .u8 49)))]
def C.bjg : LO := C.bjg_b
def C.bjg_w := pO C.bjg.eq_1
def C.bjp_b : LO := [
 X.o 2 (.move (.cst (.int .u8 108)))]
def C.bjp : LO := C.bjp_b
def C.bjp_w := pO C.bjp.eq_1
def C.cd6 : ICode := .keep [] (.seq (.region C.bjp) .ret)
def C.cd6_w := pC C.cd6.eq_1
def C.bjn_b : LO := [
 X.m 42 0,
 X.o 43 (.nilchk (X.s 42)),
 X.o 44 (.fldAddr 3 (X.s 43)),
 X.n (.store1 (X.s 44) (.cst (.int .u8 48)))]
def C.bjn : LO := C.bjn_b
def C.bjn_w := pO C.bjn.eq_1
def C.cd7 : ICode := .keep [0] (.seq (.region C.bjn) C.cd6)
def C.cd7_w := pC C.cd7.eq_1
def C.bjm_b : LO := [
 X.o 2 (.move (.cst (.int .u8 115)))]
def C.bjm : LO := C.bjm_b
def C.bjm_w := pO C.bjm.eq_1
def C.cd8 : ICode := .keep [] (.seq (.region C.bjm) .ret)
def C.cd8_w := pC C.cd8.eq_1
def C.bjl_b : LO := [
 X.m 39 0,
 X.o 40 (.nilchk (X.s 39)),
 X.o 41 (.fldAddr 3 (X.s 40)),
 X.n (.store1 (X.s 41) (.cst (.int .u8 116)))]
def C.bjl : LO := C.bjl_b
def C.bjl_w := pO C.bjl.eq_1
def C.cd9 : ICode := .seq (.region C.bjl) C.cd8
def C.cd9_w := pC C.cd9.eq_1
def C.cfb : ICode := .keep [0, 38] (.cond (X.s 38) C.cd9 .skip)
def C.cfb_w := pC C.cfb.eq_1
def C.bjk_b : LO := [
 X.m 35 0,
 X.o 36 (.nilchk (X.s 35)),
 X.o 37 (.fldAddr 6 (X.s 36)),
 X.o 38 (.load1 (X.s 37))]
def C.bjk : LO := C.bjk_b
def C.bjk_w := pO C.bjk.eq_1
def C.cfc : ICode := .seq (.seq (.region C.bjk) C.cfb) C.cd7
def C.cfc_w := pC C.cfc.eq_1
def C.cfd : ICode := .keep [0, 33] (.cond (X.s 33) C.cfc .skip)
def C.cfd_w := pC C.cfd.eq_1
def C.bjj_b : LO := [
 X.o 34 (.bin .eql (X.s 6) (.cst (.int .u8 99))),
 X.m 33 34]
def C.bjj : LO := C.bjj_b
def C.bjj_w := pO C.bjj.eq_1
def C.cff : ICode := .seq (.region C.bjg) C.cd5
def C.cff_w := pC C.cff.eq_1
def C.cfg : ICode := .seq (.region C.bjj) C.cfd
def C.cfg_w := pC C.cfg.eq_1
def C.cfj : ICode := .keep [0, 6, 28] (.cond (X.s 28) C.cff C.cfg)
def C.cfj_w := pC C.cfj.eq_1
def C.bjf_b : LO := [
 X.o 29 (.bin .eql (X.s 6) (.cst (.int .u8 104))),
 X.m 28 29]
def C.bjf : LO := C.bjf_b
def C.bjf_w := pO C.bjf.eq_1
def C.cfk : ICode := .seq (.seq (.region C.bjt) C.cfy) C.cfv
def C.cfk_w := pC C.cfk.eq_1
def C.cfl : ICode := .seq (.region C.bjf) C.cfj
def C.cfl_w := pC C.cfl.eq_1
def C.cfm : ICode := .keep [0, 6, 7] (.cond (X.s 7) C.cfk C.cfl)
def C.cfm_w := pC C.cfm.eq_1
def C.bjs_b : LO := [
 X.o 8 (.bin .eql (X.s 6) (.cst (.int .u8 114))),
 X.m 7 8]
def C.bjs : LO := C.bjs_b
def C.bjs_w := pO C.bjs.eq_1
def C.cd3 : ICode := .seq (.region C.bjs) C.cfm
def C.cd3_w := pC C.cd3.eq_1
def C.cfn : ICode := .keep [0, 6] (.block 0 C.cd3)
def C.cfn_w := pC C.cfn.eq_1
def C.bjd_b : LO := [
 X.m 3 0,
 X.o 4 (.nilchk (X.s 3)),
 X.o 5 (.fldAddr 3 (X.s 4)),
 X.o 6 (.load1 (X.s 5))]
def C.bjd : LO := C.bjd_b
def C.bjd_w := pO C.bjd.eq_1
def C.cfp : ICode := .keep [0] (.seq (.seq (.region C.bjd) C.cfn) C.cd4)
def C.cfp_w := pC C.cfp.eq_1
def C.bjc_b : LO := [
 X.o 2 (.move (.cst (.int .u8 0)))]
def C.bjc : LO := C.bjc_b
def C.bjc_w := pO C.bjc.eq_1
def C.q99 : IFunc := ⟨1, [.slot 2], .seq (.region C.bjc) C.cfp⟩
def C.q99_W := aI (aI (aI (aI (aI @C.bjr_w @C.cd4_w) (aI @C.bjz_w (aI @C.cfh_w @C.bjq_w))) (aI (aI @C.cfr_w (aI @C.cfs_w @C.bjy_w)) (aI @C.cft_w (aI @C.bjx_w @C.cfv_w)))) (aI (aI (aI @C.bjw_w (aI @C.cfw_w @C.bjv_w)) (aI @C.cfx_w (aI @C.cfy_w @C.bjt_w))) (aI (aI @C.bjh_w (aI @C.cd5_w @C.bjg_w)) (aI @C.bjp_w (aI @C.cd6_w @C.bjn_w))))) (aI (aI (aI (aI @C.cd7_w @C.bjm_w) (aI @C.cd8_w (aI @C.bjl_w @C.cd9_w))) (aI (aI @C.cfb_w (aI @C.bjk_w @C.cfc_w)) (aI @C.cfd_w (aI @C.bjj_w @C.cff_w)))) (aI (aI (aI @C.cfg_w (aI @C.cfj_w @C.bjf_w)) (aI @C.cfk_w (aI @C.cfl_w @C.cfm_w))) (aI (aI @C.bjs_w (aI @C.cd3_w @C.cfn_w)) (aI @C.bjd_w (aI @C.cfp_w @C.bjc_w)))))
def C.q99_B := aI (aI (aI (aI @C.bjr_b.eq_1 @C.bjz_b.eq_1) (aI @C.bjq_b.eq_1 (aI @C.bjy_b.eq_1 @C.bjx_b.eq_1))) (aI (aI @C.bjw_b.eq_1 @C.bjv_b.eq_1) (aI @C.bjt_b.eq_1 (aI @C.bjh_b.eq_1 @C.bjg_b.eq_1)))) (aI (aI (aI @C.bjp_b.eq_1 @C.bjn_b.eq_1) (aI @C.bjm_b.eq_1 (aI @C.bjl_b.eq_1 @C.bjk_b.eq_1))) (aI (aI @C.bjj_b.eq_1 @C.bjf_b.eq_1) (aI @C.bjs_b.eq_1 (aI @C.bjd_b.eq_1 @C.bjc_b.eq_1))))

def C.p6_b : LO := [
 X.o 7 (.load1 (X.s 1)),
 X.o 8 (.nilchk (X.s 7)),
 X.o 9 (.fldAddr 3 (X.s 8)),
 X.n (.store1 (X.s 9) (.cst (.bool true)))]
def C.p6 : LO := C.p6_b
def C.p6_w := pO C.p6.eq_1
def C.bzs : ICode := .keep [1] (.region C.p6)
def C.bzs_w := pC C.bzs.eq_1
def C.p5_b : LO := [
 X.o 4 (.load1 (X.s 1)),
 X.o 5 (.makeFunc F.q112 [X.s 1]),
 X.o 6 (.call F.q116 [X.s 4, X.s 5])]
def C.p5 : LO := C.p5_b
def C.p5_w := pO C.p5.eq_1
def C.bzt : ICode := .keep [1] (.seq (.region C.p5) C.bzs)
def C.bzt_w := pC C.bzt.eq_1
def C.bzv : ICode := .keep [1, 3] (.cond (X.s 3) .ret .skip)
def C.bzv_w := pC C.bzv.eq_1
def C.p4_b : LO := [
 X.o 2 (.load1 (X.s 1)),
 X.o 3 (.eqP 0 false (X.s 2) (.cst (.nilp)))]
def C.p4 : LO := C.p4_b
def C.p4_w := pO C.p4.eq_1
def C.bzw : ICode := .keep [1] (.seq (.seq (.region C.p4) C.bzv) C.bzt)
def C.bzw_w := pC C.bzw.eq_1
def C.p3_b : LO := [
 X.o 1 (.box1 (X.s 0))]
def C.p3 : LO := C.p3_b
def C.p3_w := pO C.p3.eq_1
def C.q111 : IFunc := ⟨1, [], .seq (.region C.p3) C.bzw⟩
def C.q111_W := aI (aI (aI @C.p6_w @C.bzs_w) (aI @C.p5_w @C.bzt_w)) (aI (aI @C.bzv_w @C.p4_w) (aI @C.bzw_w @C.p3_w))
def C.q111_B := aI (aI @C.p6_b.eq_1 @C.p5_b.eq_1) (aI @C.p4_b.eq_1 @C.p3_b.eq_1)

def C.pv_b : LO := [
 X.o 4 (.load1 (X.s 1)),
 X.o 5 (.makeFunc F.q110 [X.s 1]),
 X.o 6 (.call F.q114 [X.s 4, X.s 5])]
def C.pv : LO := C.pv_b
def C.pv_w := pO C.pv.eq_1
def C.bzd : ICode := .keep [1] (.region C.pv)
def C.bzd_w := pC C.bzd.eq_1
def C.bzf : ICode := .keep [1, 3] (.cond (X.s 3) .ret .skip)
def C.bzf_w := pC C.bzf.eq_1
def C.pt_b : LO := [
 X.o 2 (.load1 (X.s 1)),
 X.o 3 (.eqP 0 false (X.s 2) (.cst (.nilp)))]
def C.pt : LO := C.pt_b
def C.pt_w := pO C.pt.eq_1
def C.bzg : ICode := .keep [1] (.seq (.seq (.region C.pt) C.bzf) C.bzd)
def C.bzg_w := pC C.bzg.eq_1
def C.ps_b : LO := [
 X.o 1 (.box1 (X.s 0))]
def C.ps : LO := C.ps_b
def C.ps_w := pO C.ps.eq_1
def C.q109 : IFunc := ⟨1, [], .seq (.region C.ps) C.bzg⟩
def C.q109_W := aI (aI @C.pv_w (aI @C.bzd_w @C.bzf_w)) (aI @C.pt_w (aI @C.bzg_w @C.ps_w))
def C.q109_B := aI @C.pv_b.eq_1 (aI @C.pt_b.eq_1 @C.ps_b.eq_1)

def C.tq_b : LO := [
 X.m 20 0,
 X.o 21 (.nilchk (X.s 20)),
 X.o 22 (.fldAddr 0 (X.s 21)),
 X.o 23 (.load1 (X.s 22)),
 X.m 24 1,
 X.o 25 (.idxAddr 11 (X.s 23) (X.s 24)),
 X.m 4 25]
def C.tq : LO := C.tq_b
def C.tq_w := pO C.tq.eq_1
def C.b15 : ICode := .keep [0, 1] (.seq (.region C.tq) .ret)
def C.b15_w := pC C.b15.eq_1
def C.ty_b : LO := [
 X.o 4 (.move (.cst (.nilp)))]
def C.ty : LO := C.ty_b
def C.ty_w := pO C.ty.eq_1
def C.b16 : ICode := .seq (.region C.ty) .ret
def C.b16_w := pC C.b16.eq_1
def C.b17 : ICode := .keep [0, 1, 19] (.cond (X.s 19) C.b16 .skip)
def C.b17_w := pC C.b17.eq_1
def C.tx_b : LO := [
 X.m 5 0,
 X.o 6 (.eqP 0 false (X.s 5) (.cst (.nilp))),
 X.m 7 6,
 X.f 7 8 (.move (X.s 1)),
 X.f 7 9 (.bin .lss (X.s 8) (X.i 0)),
 X.o 10 (.pick (X.s 7) (.cst (.bool true)) (X.s 9)),
 X.m 11 10,
 X.f 11 12 (.move (X.s 1)),
 X.f 11 13 (.move (X.s 0)),
 X.f 11 14 (.nilchk (X.s 13)),
 X.f 11 15 (.fldAddr 0 (X.s 14)),
 X.f 11 16 (.load1 (X.s 15)),
 X.f 11 17 (.len (X.s 16)),
 X.f 11 18 (.bin .geq (X.s 12) (X.s 17)),
 X.o 19 (.pick (X.s 11) (.cst (.bool true)) (X.s 18))]
def C.tx : LO := C.tx_b
def C.tx_w := pO C.tx.eq_1
def C.b18 : ICode := .keep [0, 1] (.seq (.seq (.region C.tx) C.b17) C.b15)
def C.b18_w := pC C.b18.eq_1
def C.tw_b : LO := [
 X.o 4 (.move (.cst (.nilp)))]
def C.tw : LO := C.tw_b
def C.tw_w := pO C.tw.eq_1
def C.q20 : IFunc := ⟨2, [.slot 4], .seq (.region C.tw) C.b18⟩
def C.q20_W := aI (aI (aI @C.tq_w @C.b15_w) (aI @C.ty_w @C.b16_w)) (aI (aI @C.b17_w @C.tx_w) (aI @C.b18_w @C.tw_w))
def C.q20_B := aI (aI @C.tq_b.eq_1 @C.ty_b.eq_1) (aI @C.tx_b.eq_1 @C.tw_b.eq_1)

def C.th_b : LO := [
 X.o 52 (.load1 (X.s 2)),
 X.o 53 (.load1 (X.s 1)),
 X.m 54 0,
 ⟨some 55, .call F.q21 [X.s 53, X.s 54], none, [⟨.load1 (X.s 2), 52, none⟩], []⟩,
 X.o 56 (.callv (X.s 52) [X.s 55]),
 X.m 4 56]
def C.th : LO := C.th_b
def C.th_w := pO C.th.eq_1
def C.b1j : ICode := .keep [0, 1, 2] (.seq (.region C.th) .ret)
def C.b1j_w := pC C.b1j.eq_1
def C.tb_b : LO := [
 X.o 4 (.move (.cst (.bool true)))]
def C.tb : LO := C.tb_b
def C.tb_w := pO C.tb.eq_1
def C.td_b : LO := [
 X.m 21 5,
 X.o 22 (.nilchk (X.s 21)),
 X.o 23 (.fldAddr 6 (X.s 22)),
 X.o 24 (.load1 (X.s 23)),
 X.m 25 24,
 X.t 25 26 (.move (X.s 5)),
 X.t 25 27 (.nilchk (X.s 26)),
 X.t 25 28 (.fldAddr 7 (X.s 27)),
 X.t 25 29 (.load1 (X.s 28)),
 X.t 25 30 (.bin .eql (X.s 29) (X.i 0)),
 X.o 31 (.pick (X.s 25) (X.s 30) (.cst (.bool false))),
 X.m 32 31,
 X.t 32 33 (.load1 (X.s 2)),
 X.t 32 34 (.load1 (X.s 1)),
 X.t 32 35 (.move (X.s 0)),
 ⟨some 36, .call F.q21 [X.s 34, X.s 35], some (32, true), [⟨.load1 (X.s 2), 33, some (32, true)⟩], []⟩,
 X.t 32 37 (.callv (X.s 33) [X.s 36]),
 X.o 38 (.pick (X.s 32) (X.s 37) (.cst (.bool false))),
 X.m 4 38]
def C.td : LO := C.td_b
def C.td_w := pO C.td.eq_1
def C.tg_b : LO := [
 X.m 41 5,
 X.o 42 (.nilchk (X.s 41)),
 X.o 43 (.fldAddr 6 (X.s 42)),
 X.o 44 (.load1 (X.s 43)),
 X.m 45 44,
 X.t 45 46 (.load1 (X.s 2)),
 X.t 45 47 (.load1 (X.s 1)),
 X.t 45 48 (.move (X.s 0)),
 ⟨some 49, .call F.q21 [X.s 47, X.s 48], some (45, true), [⟨.load1 (X.s 2), 46, some (45, true)⟩], []⟩,
 X.t 45 50 (.callv (X.s 46) [X.s 49]),
 X.o 51 (.pick (X.s 45) (X.s 50) (.cst (.bool false))),
 X.m 4 51]
def C.tg : LO := C.tg_b
def C.tg_w := pO C.tg.eq_1
def C.b1n : ICode := .seq (.region C.tg) .ret
def C.b1n_w := pC C.b1n.eq_1
def C.b1p : ICode := .keep [0, 1, 2, 5, 39] (.cond (X.s 39) C.b1n .skip)
def C.b1p_w := pC C.b1p.eq_1
def C.tf_b : LO := [
 X.o 40 (.bin .eql (X.s 16) (.cst (.int .u8 103))),
 X.m 39 40]
def C.tf : LO := C.tf_b
def C.tf_w := pO C.tf.eq_1
def C.b1r : ICode := .seq (.region C.td) .ret
def C.b1r_w := pC C.b1r.eq_1
def C.b1s : ICode := .seq (.region C.tf) C.b1p
def C.b1s_w := pC C.b1s.eq_1
def C.b1t : ICode := .keep [0, 1, 2, 5, 16, 19] (.cond (X.s 19) C.b1r C.b1s)
def C.b1t_w := pC C.b1t.eq_1
def C.tc_b : LO := [
 X.o 20 (.bin .eql (X.s 16) (.cst (.int .u8 112))),
 X.m 19 20]
def C.tc : LO := C.tc_b
def C.tc_w := pO C.tc.eq_1
def C.b1v : ICode := .seq (.region C.tb) .ret
def C.b1v_w := pC C.b1v.eq_1
def C.b1w : ICode := .seq (.region C.tc) C.b1t
def C.b1w_w := pC C.b1w.eq_1
def C.b1x : ICode := .keep [0, 1, 2, 5, 16, 17] (.cond (X.s 17) C.b1v C.b1w)
def C.b1x_w := pC C.b1x.eq_1
def C.s9_b : LO := [
 X.o 18 (.bin .eql (X.s 16) (.cst (.int .u8 111))),
 X.m 17 18]
def C.s9 : LO := C.s9_b
def C.s9_w := pO C.s9.eq_1
def C.b1h : ICode := .seq (.region C.s9) C.b1x
def C.b1h_w := pC C.b1h.eq_1
def C.b1k : ICode := .keep [0, 1, 2, 5, 16] (.block 0 C.b1h)
def C.b1k_w := pC C.b1k.eq_1
def C.s8_b : LO := [
 X.m 12 5,
 X.o 13 (.nilchk (X.s 12)),
 X.o 14 (.fldAddr 0 (X.s 13)),
 X.o 15 (.fldAddr 0 (X.s 14)),
 X.o 16 (.load1 (X.s 15))]
def C.s8 : LO := C.s8_b
def C.s8_w := pO C.s8.eq_1
def C.b1l : ICode := .keep [0, 1, 2, 5] (.seq (.seq (.region C.s8) C.b1k) C.b1j)
def C.b1l_w := pC C.b1l.eq_1
def C.s7_b : LO := [
 X.o 6 (.load1 (X.s 1)),
 X.o 7 (.nilchk (X.s 6)),
 X.o 8 (.fldAddr 0 (X.s 7)),
 X.o 9 (.load1 (X.s 8)),
 X.m 10 0,
 X.o 11 (.idxAddr 11 (X.s 9) (X.s 10)),
 X.m 5 11]
def C.s7 : LO := C.s7_b
def C.s7_w := pO C.s7.eq_1
def C.b1m : ICode := .keep [0, 1, 2] (.seq (.region C.s7) C.b1l)
def C.b1m_w := pC C.b1m.eq_1
def C.s6_b : LO := [
 X.o 4 (.move (.cst (.bool false)))]
def C.s6 : LO := C.s6_b
def C.s6_w := pO C.s6.eq_1
def C.q18 : IFunc := ⟨3, [.slot 4], .seq (.region C.s6) C.b1m⟩
def C.q18_W := aI (aI (aI (aI @C.th_w @C.b1j_w) (aI @C.tb_w (aI @C.td_w @C.tg_w))) (aI (aI @C.b1n_w (aI @C.b1p_w @C.tf_w)) (aI @C.b1r_w (aI @C.b1s_w @C.b1t_w)))) (aI (aI (aI @C.tc_w (aI @C.b1v_w @C.b1w_w)) (aI @C.b1x_w (aI @C.s9_w @C.b1h_w))) (aI (aI @C.b1k_w (aI @C.s8_w @C.b1l_w)) (aI @C.s7_w (aI @C.b1m_w @C.s6_w))))
def C.q18_B := aI (aI (aI @C.th_b.eq_1 @C.tb_b.eq_1) (aI @C.td_b.eq_1 (aI @C.tg_b.eq_1 @C.tf_b.eq_1))) (aI (aI @C.tc_b.eq_1 @C.s9_b.eq_1) (aI @C.s8_b.eq_1 (aI @C.s7_b.eq_1 @C.s6_b.eq_1)))

def C.bh7_b : LO := [
 X.m 20 0,
 X.o 21 (.nilchk (X.s 20)),
 X.o 22 (.fldAddr 0 (X.s 21)),
 X.o 23 (.load1 (X.s 22)),
 X.m 24 1,
 X.o 25 (.idxAddr 7 (X.s 23) (X.s 24)),
 X.m 4 25]
def C.bh7 : LO := C.bh7_b
def C.bh7_w := pO C.bh7.eq_1
def C.cdy : ICode := .keep [0, 1] (.seq (.region C.bh7) .ret)
def C.cdy_w := pC C.cdy.eq_1
def C.bh6_b : LO := [
 X.o 4 (.move (.cst (.nilp)))]
def C.bh6 : LO := C.bh6_b
def C.bh6_w := pO C.bh6.eq_1
def C.cdq : ICode := .seq (.region C.bh6) .ret
def C.cdq_w := pC C.cdq.eq_1
def C.cdz : ICode := .keep [0, 1, 19] (.cond (X.s 19) C.cdq .skip)
def C.cdz_w := pC C.cdz.eq_1
def C.bh5_b : LO := [
 X.m 5 0,
 X.o 6 (.eqP 0 false (X.s 5) (.cst (.nilp))),
 X.m 7 6,
 X.f 7 8 (.move (X.s 1)),
 X.f 7 9 (.bin .lss (X.s 8) (X.i 0)),
 X.o 10 (.pick (X.s 7) (.cst (.bool true)) (X.s 9)),
 X.m 11 10,
 X.f 11 12 (.move (X.s 1)),
 X.f 11 13 (.move (X.s 0)),
 X.f 11 14 (.nilchk (X.s 13)),
 X.f 11 15 (.fldAddr 0 (X.s 14)),
 X.f 11 16 (.load1 (X.s 15)),
 X.f 11 17 (.len (X.s 16)),
 X.f 11 18 (.bin .geq (X.s 12) (X.s 17)),
 X.o 19 (.pick (X.s 11) (.cst (.bool true)) (X.s 18))]
def C.bh5 : LO := C.bh5_b
def C.bh5_w := pO C.bh5.eq_1
def C.cd0 : ICode := .keep [0, 1] (.seq (.seq (.region C.bh5) C.cdz) C.cdy)
def C.cd0_w := pC C.cd0.eq_1
def C.bh4_b : LO := [
 X.o 4 (.move (.cst (.nilp)))]
def C.bh4 : LO := C.bh4_b
def C.bh4_w := pO C.bh4.eq_1
def C.q96 : IFunc := ⟨2, [.slot 4], .seq (.region C.bh4) C.cd0⟩
def C.q96_W := aI (aI (aI @C.bh7_w @C.cdy_w) (aI @C.bh6_w @C.cdq_w)) (aI (aI @C.cdz_w @C.bh5_w) (aI @C.cd0_w @C.bh4_w))
def C.q96_B := aI (aI @C.bh7_b.eq_1 @C.bh6_b.eq_1) (aI @C.bh5_b.eq_1 @C.bh4_b.eq_1)

def C.r7_b : LO := [
 X.o 20 (.loadN 4 (X.s 6)),
 X.m 21 7,
 X.n (.storeN 4 (X.s 4) (X.s 20)),
 X.m 5 21]
def C.r7 : LO := C.r7_b
def C.r7_w := pO C.r7.eq_1
def C.r6 : ICode := .keep [4, 6, 7] (.seq (.region C.r7) .ret)
def C.r6_w := pC C.r6.eq_1
def C.fk_b : LO := [
 X.m 12 0,
 X.o 13 (.nilchk (X.s 12)),
 X.o 14 (.fldAddr 0 (X.s 13)),
 X.o 15 (.load1 (X.s 14)),
 X.m 16 1,
 X.o 17 (.lookup (.agg [.int .i64 0, .int .i64 0, .bool false, .bool false]) true (X.s 15) (X.s 16)),
 X.m 11 17,
 X.o 18 (.extract (X.s 11) 0),
 X.o 19 (.extract (X.s 11) 1),
 X.o 6 (.alloc [.int .i64 0, .int .i64 0, .bool false, .bool false]),
 X.n (.storeN 4 (X.s 6) (X.s 18)),
 X.m 7 19]
def C.fk : LO := C.fk_b
def C.fk_w := pO C.fk.eq_1
def C.blg : ICode := .keep [0, 1, 4] (.seq (.region C.fk) C.r6)
def C.blg_w := pC C.blg.eq_1
def C.fj_b : LO := [
 X.o 10 (.build [.int .i64 0, .int .i64 0, .bool false, .bool false] []),
 X.n (.storeN 4 (X.s 4) (X.s 10)),
 X.o 5 (.move (.cst (.bool false)))]
def C.fj : LO := C.fj_b
def C.fj_w := pO C.fj.eq_1
def C.blh : ICode := .seq (.region C.fj) .ret
def C.blh_w := pC C.blh.eq_1
def C.blj : ICode := .keep [0, 1, 4, 9] (.cond (X.s 9) C.blh .skip)
def C.blj_w := pC C.blj.eq_1
def C.fh_b : LO := [
 X.m 8 0,
 X.o 9 (.eqP 0 false (X.s 8) (.cst (.nilp)))]
def C.fh : LO := C.fh_b
def C.fh_w := pO C.fh.eq_1
def C.blk : ICode := .keep [0, 1, 4] (.seq (.seq (.region C.fh) C.blj) C.blg)
def C.blk_w := pC C.blk.eq_1
def C.bk_b : LO := [
 X.o 4 (.alloc [.int .i64 0, .int .i64 0, .bool false, .bool false]),
 X.o 5 (.move (.cst (.bool false)))]
def C.bk : LO := C.bk_b
def C.bk_w := pO C.bk.eq_1
def C.q120 : IFunc := ⟨2, [.cellN 4 4, .slot 5], .seq (.region C.bk) C.blk⟩
def C.q120_W := aI (aI (aI @C.r7_w @C.r6_w) (aI @C.fk_w (aI @C.blg_w @C.fj_w))) (aI (aI @C.blh_w @C.blj_w) (aI @C.fh_w (aI @C.blk_w @C.bk_w)))
def C.q120_B := aI (aI @C.r7_b.eq_1 @C.fk_b.eq_1) (aI @C.fj_b.eq_1 (aI @C.fh_b.eq_1 @C.bk_b.eq_1))

def C.y6_b : LO := [
 X.o 3 (.fldAddr 4 (X.s 1)),
 X.o 4 (.load1 (X.s 3)),
 X.o 5 (.len (X.s 4)),
 X.o 6 (.bin .gtr (X.s 5) (X.i 8)),
 X.m 7 6,
 X.f 7 8 (.fldAddr 5 (X.s 1)),
 X.f 7 9 (.load1 (X.s 8)),
 X.f 7 10 (.len (X.s 9)),
 X.f 7 11 (.bin .gtr (X.s 10) (X.i 6)),
 X.o 12 (.pick (X.s 7) (.cst (.bool true)) (X.s 11)),
 X.o 13 (.call F.q70 [X.s 12, X.i 8]),
 X.m 2 13]
def C.y6 : LO := C.y6_b
def C.y6_w := pO C.y6.eq_1
def C.b6c : ICode := .keep [1] (.seq (.region C.y6) .ret)
def C.b6c_w := pC C.b6c.eq_1
def C.y5_b : LO := [
 X.o 1 (.boxN (X.s 0)),
 X.o 2 (.move (X.i 0))]
def C.y5 : LO := C.y5_b
def C.y5_w := pO C.y5.eq_1
def C.q60 : IFunc := ⟨1, [.slot 2], .seq (.region C.y5) C.b6c⟩
def C.q60_W := aI @C.y6_w (aI @C.b6c_w @C.y5_w)
def C.q60_B := aI @C.y6_b.eq_1 @C.y5_b.eq_1

def C.bcl_b : LO := [
 X.o 4 (.move (X.i 0))]
def C.bcl : LO := C.bcl_b
def C.bcl_w := pO C.bcl.eq_1
def C.b7p : ICode := .keep [] (.seq (.region C.bcl) .ret)
def C.b7p_w := pC C.b7p.eq_1
def C.bck_b : LO := [
 X.m 6 1,
 X.m 4 6]
def C.bck : LO := C.bck_b
def C.bck_w := pO C.bck.eq_1
def C.b7r : ICode := .seq (.region C.bck) .ret
def C.b7r_w := pC C.b7r.eq_1
def C.b7s : ICode := .keep [1, 5] (.cond (X.s 5) C.b7r .skip)
def C.b7s_w := pC C.b7s.eq_1
def C.bcj_b : LO := [
 X.m 5 0]
def C.bcj : LO := C.bcj_b
def C.bcj_w := pO C.bcj.eq_1
def C.b7t : ICode := .keep [0, 1] (.seq (.seq (.region C.bcj) C.b7s) C.b7p)
def C.b7t_w := pC C.b7t.eq_1
def C.bch_b : LO := [
 X.o 4 (.move (X.i 0))]
def C.bch : LO := C.bch_b
def C.bch_w := pO C.bch.eq_1
def C.q70 : IFunc := ⟨2, [.slot 4], .seq (.region C.bch) C.b7t⟩
def C.q70_W := aI (aI (aI @C.bcl_w @C.b7p_w) (aI @C.bck_w @C.b7r_w)) (aI (aI @C.b7s_w @C.bcj_w) (aI @C.b7t_w @C.bch_w))
def C.q70_B := aI (aI @C.bcl_b.eq_1 @C.bck_b.eq_1) (aI @C.bcj_b.eq_1 @C.bch_b.eq_1)

def C.wj_b : LO := [
 X.o 2 (.loadN 6 (X.s 0)),
 X.o 3 (.call F.q69 [X.s 2]),
 X.o 4 (.un .not (X.s 3)),
 X.o 5 (.call F.q70 [X.s 4, X.i 1]),
 X.m 1 5]
def C.wj : LO := C.wj_b
def C.wj_w := pO C.wj.eq_1
def C.b3r : ICode := .keep [0] (.seq (.region C.wj) .ret)
def C.b3r_w := pC C.b3r.eq_1
def C.wh_b : LO := [
 X.o 1 (.move (X.i 0))]
def C.wh : LO := C.wh_b
def C.wh_w := pO C.wh.eq_1
def C.q39 : IFunc := ⟨1, [.slot 1], .seq (.region C.wh) C.b3r⟩
def C.q39_W := aI @C.wj_w (aI @C.b3r_w @C.wh_w)
def C.q39_B := aI @C.wj_b.eq_1 @C.wh_b.eq_1

def C.bb1_b : LO := [
 X.o 2 (.move (.cst (.bool false)))]
def C.bb1 : LO := C.bb1_b
def C.bb1_w := pO C.bb1.eq_1
def C.b61 : ICode := .keep [] (.seq (.region C.bb1) .ret)
def C.b61_w := pC C.b61.eq_1
def C.bb3_b : LO := [
 X.o 7 (.fldAddr 1 (X.s 1)),
 X.o 8 (.load1 (X.s 7)),
 X.o 9 (.len (X.s 8)),
 X.o 10 (.bin .eql (X.s 9) (X.i 0)),
 X.m 2 10]
def C.bb3 : LO := C.bb3_b
def C.bb3_w := pO C.bb3.eq_1
def C.bb7_b : LO := [
 X.o 15 (.fldAddr 1 (X.s 1)),
 X.o 16 (.load1 (X.s 15)),
 X.o 17 (.len (X.s 16)),
 X.o 18 (.bin .eql (X.s 17) (X.i 1)),
 X.m 2 18]
def C.bb7 : LO := C.bb7_b
def C.bb7_w := pO C.bb7.eq_1
def C.bb9_b : LO := [
 X.o 21 (.fldAddr 1 (X.s 1)),
 X.o 22 (.load1 (X.s 21)),
 X.o 23 (.len (X.s 22)),
 X.o 24 (.call F.q71 [X.s 23, X.i 1, X.i 4]),
 X.m 2 24]
def C.bb9 : LO := C.bb9_b
def C.bb9_w := pO C.bb9.eq_1
def C.b67 : ICode := .seq (.region C.bb9) .ret
def C.b67_w := pC C.b67.eq_1
def C.b68 : ICode := .keep [1, 19] (.cond (X.s 19) C.b67 .skip)
def C.b68_w := pC C.b68.eq_1
def C.bb8_b : LO := [
 X.o 20 (.bin .eql (X.s 4) (.cst (.int .u8 109))),
 X.m 19 20]
def C.bb8 : LO := C.bb8_b
def C.bb8_w := pO C.bb8.eq_1
def C.b69 : ICode := .seq (.region C.bb7) .ret
def C.b69_w := pC C.b69.eq_1
def C.b7b : ICode := .seq (.region C.bb8) C.b68
def C.b7b_w := pC C.b7b.eq_1
def C.b7c : ICode := .keep [1, 4, 11] (.cond (X.s 11) C.b69 C.b7b)
def C.b7c_w := pC C.b7c.eq_1
def C.bb6_b : LO := [
 X.o 14 (.bin .eql (X.s 4) (.cst (.int .u8 103))),
 X.m 11 14]
def C.bb6 : LO := C.bb6_b
def C.bb6_w := pO C.bb6.eq_1
def C.b7d : ICode := .keep [1, 4, 11] (.cond (X.s 11) .skip (.region C.bb6))
def C.b7d_w := pC C.b7d.eq_1
def C.bb5_b : LO := [
 X.o 13 (.bin .eql (X.s 4) (.cst (.int .u8 100))),
 X.m 11 13]
def C.bb5 : LO := C.bb5_b
def C.bb5_w := pO C.bb5.eq_1
def C.b7f : ICode := .seq (.region C.bb5) C.b7d
def C.b7f_w := pC C.b7f.eq_1
def C.b7g : ICode := .keep [1, 4, 11] (.cond (X.s 11) .skip C.b7f)
def C.b7g_w := pC C.b7g.eq_1
def C.bb4_b : LO := [
 X.o 12 (.bin .eql (X.s 4) (.cst (.int .u8 112))),
 X.m 11 12]
def C.bb4 : LO := C.bb4_b
def C.bb4_w := pO C.bb4.eq_1
def C.b62 : ICode := .seq (.region C.bb3) .ret
def C.b62_w := pC C.b62.eq_1
def C.b63 : ICode := .seq (.seq (.region C.bb4) C.b7g) C.b7c
def C.b63_w := pC C.b63.eq_1
def C.b64 : ICode := .keep [1, 4, 5] (.cond (X.s 5) C.b62 C.b63)
def C.b64_w := pC C.b64.eq_1
def C.bb2_b : LO := [
 X.o 6 (.bin .eql (X.s 4) (.cst (.int .u8 111))),
 X.m 5 6]
def C.bb2 : LO := C.bb2_b
def C.bb2_w := pO C.bb2.eq_1
def C.b60 : ICode := .seq (.region C.bb2) C.b64
def C.b60_w := pC C.b60.eq_1
def C.b65 : ICode := .keep [1, 4] (.block 0 C.b60)
def C.b65_w := pC C.b65.eq_1
def C.bb0_b : LO := [
 X.o 3 (.fldAddr 0 (X.s 1)),
 X.o 4 (.load1 (X.s 3))]
def C.bb0 : LO := C.bb0_b
def C.bb0_w := pO C.bb0.eq_1
def C.b66 : ICode := .keep [1] (.seq (.seq (.region C.bb0) C.b65) C.b61)
def C.b66_w := pC C.b66.eq_1
def C.bbz_b : LO := [
 X.o 1 (.boxN (X.s 0)),
 X.o 2 (.move (.cst (.bool false)))]
def C.bbz : LO := C.bbz_b
def C.bbz_w := pO C.bbz.eq_1
def C.q69 : IFunc := ⟨1, [.slot 2], .seq (.region C.bbz) C.b66⟩
def C.q69_W := aI (aI (aI (aI @C.bb1_w (aI @C.b61_w @C.bb3_w)) (aI @C.bb7_w (aI @C.bb9_w @C.b67_w))) (aI (aI @C.b68_w (aI @C.bb8_w @C.b69_w)) (aI (aI @C.b7b_w @C.b7c_w) (aI @C.bb6_w @C.b7d_w)))) (aI (aI (aI @C.bb5_w (aI @C.b7f_w @C.b7g_w)) (aI @C.bb4_w (aI @C.b62_w @C.b63_w))) (aI (aI @C.b64_w (aI @C.bb2_w @C.b60_w)) (aI (aI @C.b65_w @C.bb0_w) (aI @C.b66_w @C.bbz_w))))
def C.q69_B := aI (aI (aI @C.bb1_b.eq_1 @C.bb3_b.eq_1) (aI @C.bb7_b.eq_1 (aI @C.bb9_b.eq_1 @C.bb8_b.eq_1))) (aI (aI @C.bb6_b.eq_1 (aI @C.bb5_b.eq_1 @C.bb4_b.eq_1)) (aI @C.bb2_b.eq_1 (aI @C.bb0_b.eq_1 @C.bbz_b.eq_1)))

def C.wn_b : LO := [
 X.o 3 (.fldAddr 1 (X.s 0)),
 X.o 4 (.load1 (X.s 3)),
 X.o 5 (.makeFunc F.q41 [X.s 1]),
 X.o 6 (.call F.q57 [X.s 4, X.s 5]),
 X.m 2 6]
def C.wn : LO := C.wn_b
def C.wn_w := pO C.wn.eq_1
def C.b3t : ICode := .keep [0, 1] (.seq (.region C.wn) .ret)
def C.b3t_w := pC C.b3t.eq_1
def C.wm_b : LO := [
 X.o 2 (.move (X.i 0))]
def C.wm : LO := C.wm_b
def C.wm_w := pO C.wm.eq_1
def C.q40 : IFunc := ⟨2, [.slot 2], .seq (.region C.wm) C.b3t⟩
def C.q40_W := aI @C.wn_w (aI @C.b3t_w @C.wm_w)
def C.q40_B := aI @C.wn_b.eq_1 @C.wm_b.eq_1

def C.yf_b : LO := [
 X.o 4 (.move (X.i 0))]
def C.yf : LO := C.yf_b
def C.yf_w := pO C.yf.eq_1
def C.b45 : ICode := .keep [] (.seq (.region C.yf) .ret)
def C.b45_w := pC C.b45.eq_1
def C.yd_b : LO := [
 X.o 20 (.bin .add (X.s 10) (X.i 1)),
 X.m 10 20]
def C.yd : LO := C.yd_b
def C.yd_w := pO C.yd.eq_1
def C.b48 : ICode := .keep [1, 8, 9, 10] (.region C.yd)
def C.b48_w := pC C.b48.eq_1
def C.yc_b : LO := [
 X.m 19 7,
 X.m 4 19]
def C.yc : LO := C.yc_b
def C.yc_w := pO C.yc.eq_1
def C.b49 : ICode := .seq (.region C.yc) .ret
def C.b49_w := pC C.b49.eq_1
def C.b5b : ICode := .keep [1, 7, 8, 9, 10, 18] (.cond (X.s 18) C.b49 .skip)
def C.b5b_w := pC C.b5b.eq_1
def C.yb_b : LO := [
 X.m 17 7,
 X.o 18 (.bin .neq (X.s 17) (X.i 0))]
def C.yb : LO := C.yb_b
def C.yb_w := pO C.yb.eq_1
def C.b5c : ICode := .keep [1, 7, 8, 9, 10] (.seq (.region C.yb) C.b5b)
def C.b5c_w := pC C.b5c.eq_1
def C.x9_b : LO := [
 X.m 14 1,
 X.m 15 6,
 X.o 16 (.callv (X.s 14) [X.s 15]),
 X.m 7 16]
def C.x9 : LO := C.x9_b
def C.x9_w := pO C.x9.eq_1
def C.b5d : ICode := .keep [1, 6, 8, 9, 10] (.seq (.region C.x9) C.b5c)
def C.b5d_w := pC C.b5d.eq_1
def C.x8_b : LO := [
 X.o 12 (.idxAddr 1 (X.s 8) (X.s 10)),
 X.o 13 (.load1 (X.s 12)),
 X.m 6 13]
def C.x8 : LO := C.x8_b
def C.x8_w := pO C.x8.eq_1
def C.b44 : ICode := .seq (.region C.x8) C.b5d
def C.b44_w := pC C.b44.eq_1
def C.b5f : ICode := .keep [1, 8, 9, 10] (.seq (.block 1 C.b44) C.b48)
def C.b5f_w := pC C.b5f.eq_1
def C.b5g : ICode := .keep [1, 8, 9, 10, 11] (.seq (.cond (X.s 11) .skip (.exit 0)) C.b5f)
def C.b5g_w := pC C.b5g.eq_1
def C.x7_b : LO := [
 X.o 11 (.bin .lss (X.s 10) (X.s 9))]
def C.x7 : LO := C.x7_b
def C.x7_w := pO C.x7.eq_1
def C.cgr : ICode := .keep [1, 8, 9, 10] (.seq (.region C.x7) C.b5g)
def C.cgr_w := pC C.cgr.eq_1
def C.b43 : ICode := .loop C.cgr
def C.b43_w := pC C.b43.eq_1
def C.b46 : ICode := .keep [1, 8, 9, 10] (.block 0 C.b43)
def C.b46_w := pC C.b46.eq_1
def C.x6_b : LO := [
 X.m 8 0,
 X.o 9 (.len (X.s 8)),
 X.o 10 (.move (X.i 0))]
def C.x6 : LO := C.x6_b
def C.x6_w := pO C.x6.eq_1
def C.b47 : ICode := .keep [0, 1] (.seq (.seq (.region C.x6) C.b46) C.b45)
def C.b47_w := pC C.b47.eq_1
def C.x5_b : LO := [
 X.o 4 (.move (X.i 0))]
def C.x5 : LO := C.x5_b
def C.x5_w := pO C.x5.eq_1
def C.q57 : IFunc := ⟨2, [.slot 4], .seq (.region C.x5) C.b47⟩
def C.q57_W := aI (aI (aI (aI @C.yf_w @C.b45_w) (aI @C.yd_w (aI @C.b48_w @C.yc_w))) (aI (aI @C.b49_w @C.b5b_w) (aI @C.yb_w (aI @C.b5c_w @C.x9_w)))) (aI (aI (aI @C.b5d_w @C.x8_w) (aI @C.b44_w (aI @C.b5f_w @C.b5g_w))) (aI (aI @C.x7_w (aI @C.b43_w @C.b46_w)) (aI @C.x6_w (aI @C.b47_w @C.x5_w))))
def C.q57_B := aI (aI (aI @C.yf_b.eq_1 @C.yd_b.eq_1) (aI @C.yc_b.eq_1 @C.yb_b.eq_1)) (aI (aI @C.x9_b.eq_1 @C.x8_b.eq_1) (aI @C.x7_b.eq_1 (aI @C.x6_b.eq_1 @C.x5_b.eq_1)))

def C.wr_b : LO := [
 X.m 4 0,
 X.o 5 (.fldAddr 0 (X.s 1)),
 X.o 6 (.load1 (X.s 5)),
 X.o 7 (.len (X.s 6)),
 X.o 8 (.bin .sub (X.s 7) (X.i 1)),
 X.o 9 (.call F.q71 [X.s 4, X.i 0, X.s 8]),
 X.o 10 (.un .not (X.s 9)),
 X.o 11 (.call F.q70 [X.s 10, X.i 4]),
 X.m 3 11]
def C.wr : LO := C.wr_b
def C.wr_w := pO C.wr.eq_1
def C.b3v : ICode := .keep [0, 1] (.seq (.region C.wr) .ret)
def C.b3v_w := pC C.b3v.eq_1
def C.wp_b : LO := [
 X.o 3 (.move (X.i 0))]
def C.wp : LO := C.wp_b
def C.wp_w := pO C.wp.eq_1
def C.q41 : IFunc := ⟨2, [.slot 3], .seq (.region C.wp) C.b3v⟩
def C.q41_W := aI @C.wr_w (aI @C.b3v_w @C.wp_w)
def C.q41_B := aI @C.wr_b.eq_1 @C.wp_b.eq_1

def C.bcn_b : LO := [
 X.m 7 0,
 X.m 8 1,
 X.o 9 (.bin .geq (X.s 7) (X.s 8)),
 X.m 10 9,
 X.t 10 11 (.move (X.s 0)),
 X.t 10 12 (.move (X.s 2)),
 X.t 10 13 (.bin .leq (X.s 11) (X.s 12)),
 X.o 14 (.pick (X.s 10) (X.s 13) (.cst (.bool false))),
 X.m 6 14]
def C.bcn : LO := C.bcn_b
def C.bcn_w := pO C.bcn.eq_1
def C.b7v : ICode := .keep [0, 1, 2] (.seq (.region C.bcn) .ret)
def C.b7v_w := pC C.b7v.eq_1
def C.bcm_b : LO := [
 X.o 6 (.move (.cst (.bool false)))]
def C.bcm : LO := C.bcm_b
def C.bcm_w := pO C.bcm.eq_1
def C.q71 : IFunc := ⟨3, [.slot 6], .seq (.region C.bcm) C.b7v⟩
def C.q71_W := aI @C.bcn_w (aI @C.b7v_w @C.bcm_w)
def C.q71_B := aI @C.bcn_b.eq_1 @C.bcm_b.eq_1

def C.wt_b : LO := [
 X.o 2 (.loadN 6 (X.s 0)),
 X.o 3 (.call F.q61 [X.s 2]),
 X.o 4 (.un .not (X.s 3)),
 X.o 5 (.call F.q70 [X.s 4, X.i 3]),
 X.m 1 5]
def C.wt : LO := C.wt_b
def C.wt_w := pO C.wt.eq_1
def C.b3w : ICode := .keep [0] (.seq (.region C.wt) .ret)
def C.b3w_w := pC C.b3w.eq_1
def C.ws_b : LO := [
 X.o 1 (.move (X.i 0))]
def C.ws : LO := C.ws_b
def C.ws_w := pO C.ws.eq_1
def C.q42 : IFunc := ⟨1, [.slot 1], .seq (.region C.ws) C.b3w⟩
def C.q42_W := aI @C.wt_w (aI @C.b3w_w @C.ws_w)
def C.q42_B := aI @C.wt_b.eq_1 @C.ws_b.eq_1

def C.bbh_b : LO := [
 X.o 2 (.move (.cst (.bool true)))]
def C.bbh : LO := C.bbh_b
def C.bbh_w := pO C.bbh.eq_1
def C.b6f : ICode := .keep [] (.seq (.region C.bbh) .ret)
def C.b6f_w := pC C.b6f.eq_1
def C.bbb_b : LO := [
 X.o 7 (.fldAddr 2 (X.s 1)),
 X.o 8 (.load1 (X.s 7)),
 X.o 9 (.bin .geq (X.s 8) (.cst (.int .u64 1))),
 X.m 10 9,
 X.t 10 11 (.fldAddr 2 (X.s 1)),
 X.t 10 12 (.load1 (X.s 11)),
 X.t 10 13 (.bin .leq (X.s 12) (.cst (.int .u64 1099511627776))),
 X.o 14 (.pick (X.s 10) (X.s 13) (.cst (.bool false))),
 X.m 2 14]
def C.bbb : LO := C.bbb_b
def C.bbb_w := pO C.bbb.eq_1
def C.bbd_b : LO := [
 X.o 17 (.fldAddr 3 (X.s 1)),
 X.o 18 (.load1 (X.s 17)),
 X.o 19 (.call F.q71 [X.s 18, X.i 1, X.i 1000]),
 X.m 20 19,
 X.t 20 21 (.fldAddr 4 (X.s 1)),
 X.t 20 22 (.load1 (X.s 21)),
 X.t 20 23 (.call F.q71 [X.s 22, X.i 1, X.i 1000]),
 X.o 24 (.pick (X.s 20) (X.s 23) (.cst (.bool false))),
 X.m 25 24,
 X.t 25 26 (.fldAddr 5 (X.s 1)),
 X.t 25 27 (.load1 (X.s 26)),
 X.t 25 28 (.call F.q71 [X.s 27, X.i 0, X.i 20]),
 X.o 29 (.pick (X.s 25) (X.s 28) (.cst (.bool false))),
 X.m 2 29]
def C.bbd : LO := C.bbd_b
def C.bbd_w := pO C.bbd.eq_1
def C.bbg_b : LO := [
 X.o 32 (.fldAddr 4 (X.s 1)),
 X.o 33 (.load1 (X.s 32)),
 X.o 34 (.call F.q71 [X.s 33, X.i 1, X.i 1000]),
 X.m 2 34]
def C.bbg : LO := C.bbg_b
def C.bbg_w := pO C.bbg.eq_1
def C.b6j : ICode := .seq (.region C.bbg) .ret
def C.b6j_w := pC C.b6j.eq_1
def C.b6k : ICode := .keep [1, 30] (.cond (X.s 30) C.b6j .skip)
def C.b6k_w := pC C.b6k.eq_1
def C.bbf_b : LO := [
 X.o 31 (.bin .eql (X.s 4) (.cst (.int .u8 100))),
 X.m 30 31]
def C.bbf : LO := C.bbf_b
def C.bbf_w := pO C.bbf.eq_1
def C.b6l : ICode := .seq (.region C.bbd) .ret
def C.b6l_w := pC C.b6l.eq_1
def C.b6m : ICode := .seq (.region C.bbf) C.b6k
def C.b6m_w := pC C.b6m.eq_1
def C.b6n : ICode := .keep [1, 4, 15] (.cond (X.s 15) C.b6l C.b6m)
def C.b6n_w := pC C.b6n.eq_1
def C.bbc_b : LO := [
 X.o 16 (.bin .eql (X.s 4) (.cst (.int .u8 112))),
 X.m 15 16]
def C.bbc : LO := C.bbc_b
def C.bbc_w := pO C.bbc.eq_1
def C.b6p : ICode := .seq (.region C.bbb) .ret
def C.b6p_w := pC C.b6p.eq_1
def C.b6r : ICode := .seq (.region C.bbc) C.b6n
def C.b6r_w := pC C.b6r.eq_1
def C.b6s : ICode := .keep [1, 4, 5] (.cond (X.s 5) C.b6p C.b6r)
def C.b6s_w := pC C.b6s.eq_1
def C.y9_b : LO := [
 X.o 6 (.bin .eql (X.s 4) (.cst (.int .u8 111))),
 X.m 5 6]
def C.y9 : LO := C.y9_b
def C.y9_w := pO C.y9.eq_1
def C.b6d : ICode := .seq (.region C.y9) C.b6s
def C.b6d_w := pC C.b6d.eq_1
def C.b6g : ICode := .keep [1, 4] (.block 0 C.b6d)
def C.b6g_w := pC C.b6g.eq_1
def C.y8_b : LO := [
 X.o 3 (.fldAddr 0 (X.s 1)),
 X.o 4 (.load1 (X.s 3))]
def C.y8 : LO := C.y8_b
def C.y8_w := pO C.y8.eq_1
def C.b6h : ICode := .keep [1] (.seq (.seq (.region C.y8) C.b6g) C.b6f)
def C.b6h_w := pC C.b6h.eq_1
def C.y7_b : LO := [
 X.o 1 (.boxN (X.s 0)),
 X.o 2 (.move (.cst (.bool false)))]
def C.y7 : LO := C.y7_b
def C.y7_w := pO C.y7.eq_1
def C.q61 : IFunc := ⟨1, [.slot 2], .seq (.region C.y7) C.b6h⟩
def C.q61_W := aI (aI (aI (aI @C.bbh_w @C.b6f_w) (aI @C.bbb_w (aI @C.bbd_w @C.bbg_w))) (aI (aI @C.b6j_w @C.b6k_w) (aI @C.bbf_w (aI @C.b6l_w @C.b6m_w)))) (aI (aI (aI @C.b6n_w @C.bbc_w) (aI @C.b6p_w (aI @C.b6r_w @C.b6s_w))) (aI (aI @C.y9_w (aI @C.b6d_w @C.b6g_w)) (aI @C.y8_w (aI @C.b6h_w @C.y7_w))))
def C.q61_B := aI (aI (aI @C.bbh_b.eq_1 @C.bbb_b.eq_1) (aI @C.bbd_b.eq_1 @C.bbg_b.eq_1)) (aI (aI @C.bbf_b.eq_1 @C.bbc_b.eq_1) (aI @C.y9_b.eq_1 (aI @C.y8_b.eq_1 @C.y7_b.eq_1)))

def C.bcs_b : LO := [
 X.m 10 4,
 X.m 2 10]
def C.bcs : LO := C.bcs_b
def C.bcs_w := pO C.bcs.eq_1
def C.b7w : ICode := .keep [4] (.seq (.region C.bcs) .ret)
def C.b7w_w := pC C.b7w.eq_1
def C.bcr_b : LO := [
 X.m 6 0,
 X.o 7 (.call F.q73 [X.s 6]),
 X.m 5 7,
 X.o 8 (.extract (X.s 5) 0),
 X.o 9 (.extract (X.s 5) 1),
 X.m 3 8,
 X.m 4 9]
def C.bcr : LO := C.bcr_b
def C.bcr_w := pO C.bcr.eq_1
def C.b7x : ICode := .keep [0] (.seq (.region C.bcr) C.b7w)
def C.b7x_w := pC C.b7x.eq_1
def C.bcp_b : LO := [
 X.o 2 (.move (X.i 0))]
def C.bcp : LO := C.bcp_b
def C.bcp_w := pO C.bcp.eq_1
def C.q72 : IFunc := ⟨1, [.slot 2], .seq (.region C.bcp) C.b7x⟩
def C.q72_W := aI (aI @C.bcs_w @C.b7w_w) (aI @C.bcr_w (aI @C.b7x_w @C.bcp_w))
def C.q72_B := aI @C.bcs_b.eq_1 (aI @C.bcr_b.eq_1 @C.bcp_b.eq_1)

def C.bbx_b : LO := [
 X.m 3 0,
 X.o 4 (.append 1 8 (.cst (.nils)) (X.s 3)),
 X.m 2 4]
def C.bbx : LO := C.bbx_b
def C.bbx_w := pO C.bbx.eq_1
def C.b6q : ICode := .keep [0] (.seq (.region C.bbx) .ret)
def C.b6q_w := pC C.b6q.eq_1
def C.bbw_b : LO := [
 X.o 2 (.move (.cst (.nils)))]
def C.bbw : LO := C.bbw_b
def C.bbw_w := pO C.bbw.eq_1
def C.q67 : IFunc := ⟨1, [.slot 2], .seq (.region C.bbw) C.b6q⟩
def C.q67_W := aI @C.bbx_w (aI @C.b6q_w @C.bbw_w)
def C.q67_B := aI @C.bbx_b.eq_1 @C.bbw_b.eq_1

def C.xp_b : LO := [
 X.o 3 (.fldAddr 0 (X.s 0)),
 X.o 4 (.load1 (X.s 3)),
 X.o 5 (.bin .neq (X.s 4) (X.i (-1))),
 X.m 6 5,
 X.t 6 7 (.fldAddr 0 (X.s 0)),
 X.t 6 8 (.load1 (X.s 7)),
 X.t 6 9 (.fldAddr 1 (X.s 1)),
 X.t 6 10 (.load1 (X.s 9)),
 X.t 6 11 (.len (X.s 10)),
 X.t 6 12 (.bin .sub (X.s 11) (X.i 1)),
 X.t 6 13 (.call F.q71 [X.s 8, X.i 0, X.s 12]),
 X.t 6 14 (.un .not (X.s 13)),
 X.o 15 (.pick (X.s 6) (X.s 14) (.cst (.bool false))),
 X.o 16 (.call F.q70 [X.s 15, X.i 4]),
 X.m 2 16]
def C.xp : LO := C.xp_b
def C.xp_w := pO C.xp.eq_1
def C.b4j : ICode := .keep [0, 1] (.seq (.region C.xp) .ret)
def C.b4j_w := pC C.b4j.eq_1
def C.xn_b : LO := [
 X.o 2 (.move (X.i 0))]
def C.xn : LO := C.xn_b
def C.xn_w := pO C.xn.eq_1
def C.q51 : IFunc := ⟨2, [.slot 2], .seq (.region C.xn) C.b4j⟩
def C.q51_W := aI @C.xp_w (aI @C.b4j_w @C.xn_w)
def C.q51_B := aI @C.xp_b.eq_1 @C.xn_b.eq_1

def C.xs_b : LO := [
 X.o 2 (.fldAddr 1 (X.s 0)),
 X.o 3 (.load1 (X.s 2)),
 X.o 4 (.call F.q71 [X.s 3, X.i 0, X.i 20]),
 X.o 5 (.un .not (X.s 4)),
 X.o 6 (.call F.q70 [X.s 5, X.i 3]),
 X.m 1 6]
def C.xs : LO := C.xs_b
def C.xs_w := pO C.xs.eq_1
def C.b4k : ICode := .keep [0] (.seq (.region C.xs) .ret)
def C.b4k_w := pC C.b4k.eq_1
def C.xr_b : LO := [
 X.o 1 (.move (X.i 0))]
def C.xr : LO := C.xr_b
def C.xr_w := pO C.xr.eq_1
def C.q52 : IFunc := ⟨1, [.slot 1], .seq (.region C.xr) C.b4k⟩
def C.q52_W := aI @C.xs_w (aI @C.b4k_w @C.xr_w)
def C.q52_B := aI @C.xs_b.eq_1 @C.xr_b.eq_1

def C.wz_b : LO := [
 X.o 3 (.fldAddr 0 (X.s 0)),
 X.o 4 (.load1 (X.s 3)),
 X.o 5 (.fldAddr 0 (X.s 1)),
 X.o 6 (.load1 (X.s 5)),
 X.o 7 (.len (X.s 6)),
 X.o 8 (.bin .sub (X.s 7) (X.i 1)),
 X.o 9 (.call F.q71 [X.s 4, X.i 0, X.s 8]),
 X.o 10 (.un .not (X.s 9)),
 X.o 11 (.call F.q70 [X.s 10, X.i 4]),
 X.m 2 11]
def C.wz : LO := C.wz_b
def C.wz_w := pO C.wz.eq_1
def C.b3q : ICode := .keep [0, 1] (.seq (.region C.wz) .ret)
def C.b3q_w := pC C.b3q.eq_1
def C.wq_b : LO := [
 X.o 2 (.move (X.i 0))]
def C.wq : LO := C.wq_b
def C.wq_w := pO C.wq.eq_1
def C.q45 : IFunc := ⟨2, [.slot 2], .seq (.region C.wq) C.b3q⟩
def C.q45_W := aI @C.wz_w (aI @C.b3q_w @C.wq_w)
def C.q45_B := aI @C.wz_b.eq_1 @C.wq_b.eq_1

def C.w1_b : LO := [
 X.o 3 (.fldAddr 1 (X.s 0)),
 X.o 4 (.load1 (X.s 3)),
 X.o 5 (.fldAddr 1 (X.s 1)),
 X.o 6 (.load1 (X.s 5)),
 X.o 7 (.len (X.s 6)),
 X.o 8 (.bin .sub (X.s 7) (X.i 1)),
 X.o 9 (.call F.q71 [X.s 4, X.i 0, X.s 8]),
 X.o 10 (.un .not (X.s 9)),
 X.o 11 (.call F.q70 [X.s 10, X.i 4]),
 X.m 2 11]
def C.w1 : LO := C.w1_b
def C.w1_w := pO C.w1.eq_1
def C.b3z : ICode := .keep [0, 1] (.seq (.region C.w1) .ret)
def C.b3z_w := pC C.b3z.eq_1
def C.w0_b : LO := [
 X.o 2 (.move (X.i 0))]
def C.w0 : LO := C.w0_b
def C.w0_w := pO C.w0.eq_1
def C.q46 : IFunc := ⟨2, [.slot 2], .seq (.region C.w0) C.b3z⟩
def C.q46_W := aI @C.w1_w (aI @C.b3z_w @C.w0_w)
def C.q46_B := aI @C.w1_b.eq_1 @C.w0_b.eq_1

def C.w3_b : LO := [
 X.o 3 (.fldAddr 2 (X.s 0)),
 X.o 4 (.load1 (X.s 3)),
 X.o 5 (.fldAddr 2 (X.s 1)),
 X.o 6 (.load1 (X.s 5)),
 X.o 7 (.len (X.s 6)),
 X.o 8 (.bin .sub (X.s 7) (X.i 1)),
 X.o 9 (.call F.q71 [X.s 4, X.i 0, X.s 8]),
 X.o 10 (.un .not (X.s 9)),
 X.o 11 (.call F.q70 [X.s 10, X.i 4]),
 X.m 2 11]
def C.w3 : LO := C.w3_b
def C.w3_w := pO C.w3.eq_1
def C.b30 : ICode := .keep [0, 1] (.seq (.region C.w3) .ret)
def C.b30_w := pC C.b30.eq_1
def C.w2_b : LO := [
 X.o 2 (.move (X.i 0))]
def C.w2 : LO := C.w2_b
def C.w2_w := pO C.w2.eq_1
def C.q47 : IFunc := ⟨2, [.slot 2], .seq (.region C.w2) C.b30⟩
def C.q47_W := aI @C.w3_w (aI @C.b30_w @C.w2_w)
def C.q47_B := aI @C.w3_b.eq_1 @C.w2_b.eq_1

def C.w5_b : LO := [
 X.o 3 (.fldAddr 5 (X.s 0)),
 X.o 4 (.load1 (X.s 3)),
 X.o 5 (.makeFunc F.q49 [X.s 1]),
 X.o 6 (.call F.q57 [X.s 4, X.s 5]),
 X.m 2 6]
def C.w5 : LO := C.w5_b
def C.w5_w := pO C.w5.eq_1
def C.b31 : ICode := .keep [0, 1] (.seq (.region C.w5) .ret)
def C.b31_w := pC C.b31.eq_1
def C.w4_b : LO := [
 X.o 2 (.move (X.i 0))]
def C.w4 : LO := C.w4_b
def C.w4_w := pO C.w4.eq_1
def C.q48 : IFunc := ⟨2, [.slot 2], .seq (.region C.w4) C.b31⟩
def C.q48_W := aI @C.w5_w (aI @C.b31_w @C.w4_w)
def C.q48_B := aI @C.w5_b.eq_1 @C.w4_b.eq_1

def C.w7_b : LO := [
 X.m 4 0,
 X.o 5 (.fldAddr 3 (X.s 1)),
 X.o 6 (.load1 (X.s 5)),
 X.o 7 (.len (X.s 6)),
 X.o 8 (.bin .sub (X.s 7) (X.i 1)),
 X.o 9 (.call F.q71 [X.s 4, X.i 0, X.s 8]),
 X.o 10 (.un .not (X.s 9)),
 X.o 11 (.call F.q70 [X.s 10, X.i 4]),
 X.m 3 11]
def C.w7 : LO := C.w7_b
def C.w7_w := pO C.w7.eq_1
def C.b32 : ICode := .keep [0, 1] (.seq (.region C.w7) .ret)
def C.b32_w := pC C.b32.eq_1
def C.w6_b : LO := [
 X.o 3 (.move (X.i 0))]
def C.w6 : LO := C.w6_b
def C.w6_w := pO C.w6.eq_1
def C.q49 : IFunc := ⟨2, [.slot 3], .seq (.region C.w6) C.b32⟩
def C.q49_W := aI @C.w7_w (aI @C.b32_w @C.w6_w)
def C.q49_B := aI @C.w7_b.eq_1 @C.w6_b.eq_1

def C.rj_b : LO := [
 X.o 4 (.load1 (X.s 2)),
 X.o 5 (.makeFunc F.q115 [X.s 3, X.s 2]),
 X.o 6 (.call F.q116 [X.s 4, X.s 5])]
def C.rj : LO := C.rj_b
def C.rj_w := pO C.rj.eq_1
def C.bz3 : ICode := .keep [2, 3] (.region C.rj)
def C.bz3_w := pC C.bz3.eq_1
def C.rh_b : LO := [
 X.o 2 (.box1 (X.s 0)),
 X.o 3 (.box1 (X.s 1))]
def C.rh : LO := C.rh_b
def C.rh_w := pO C.rh.eq_1
def C.q114 : IFunc := ⟨2, [], .seq (.region C.rh) C.bz3⟩
def C.q114_W := aI @C.rj_w (aI @C.bz3_w @C.rh_w)
def C.q114_B := aI @C.rj_b.eq_1 @C.rh_b.eq_1

def C.pg_b : LO := [
 X.o 5 (.fldAddr 0 (X.s 3)),
 X.o 6 (.load1 (X.s 5)),
 X.m 4 6]
def C.pg : LO := C.pg_b
def C.pg_w := pO C.pg.eq_1
def C.bq3 : ICode := .keep [3] (.seq (.region C.pg) .ret)
def C.bq3_w := pC C.bq3.eq_1
def C.pf_b : LO := [
 X.o 3 (.boxN (X.s 1)),
 X.o 4 (.move (.cst (.int .u32 0)))]
def C.pf : LO := C.pf_b
def C.pf_w := pO C.pf.eq_1
def C.q106 : IFunc := ⟨2, [.slot 4], .seq (.region C.pf) C.bq3⟩
def C.q106_W := aI @C.pg_w (aI @C.bq3_w @C.pf_w)
def C.q106_B := aI @C.pg_b.eq_1 @C.pf_b.eq_1

def C.bjb_b : LO := [
 X.m 3 0,
 X.o 4 (.nilchk (X.s 3)),
 X.o 5 (.fldAddr 3 (X.s 4)),
 X.o 6 (.load1 (X.s 5)),
 X.o 7 (.bin .eql (X.s 6) (.cst (.int .u8 48))),
 X.m 8 7,
 X.f 8 9 (.move (X.s 0)),
 X.f 8 10 (.nilchk (X.s 9)),
 X.f 8 11 (.fldAddr 3 (X.s 10)),
 X.f 8 12 (.load1 (X.s 11)),
 X.f 8 13 (.bin .eql (X.s 12) (.cst (.int .u8 116))),
 X.o 14 (.pick (X.s 8) (.cst (.bool true)) (X.s 13)),
 X.m 2 14]
def C.bjb : LO := C.bjb_b
def C.bjb_w := pO C.bjb.eq_1
def C.cd2 : ICode := .keep [0] (.seq (.region C.bjb) .ret)
def C.cd2_w := pC C.cd2.eq_1
def C.bh9_b : LO := [
 X.o 2 (.move (.cst (.bool false)))]
def C.bh9 : LO := C.bh9_b
def C.bh9_w := pO C.bh9.eq_1
def C.q98 : IFunc := ⟨1, [.slot 2], .seq (.region C.bh9) C.cd2⟩
def C.q98_W := aI @C.bjb_w (aI @C.cd2_w @C.bh9_w)
def C.q98_B := aI @C.bjb_b.eq_1 @C.bh9_b.eq_1

def C.bbk_b : LO := [
 X.m 3 0,
 X.o 4 (.append 6 64 (.cst (.nils)) (X.s 3)),
 X.m 2 4]
def C.bbk : LO := C.bbk_b
def C.bbk_w := pO C.bbk.eq_1
def C.b6t : ICode := .keep [0] (.seq (.region C.bbk) .ret)
def C.b6t_w := pC C.b6t.eq_1
def C.bbj_b : LO := [
 X.o 2 (.move (.cst (.nils)))]
def C.bbj : LO := C.bbj_b
def C.bbj_w := pO C.bbj.eq_1
def C.q62 : IFunc := ⟨1, [.slot 2], .seq (.region C.bbj) C.b6t⟩
def C.q62_W := aI @C.bbk_w (aI @C.b6t_w @C.bbj_w)
def C.q62_B := aI @C.bbk_b.eq_1 @C.bbj_b.eq_1

def C.bbp_b : LO := [
 X.m 3 0,
 X.o 4 (.append 3 24 (.cst (.nils)) (X.s 3)),
 X.m 2 4]
def C.bbp : LO := C.bbp_b
def C.bbp_w := pO C.bbp.eq_1
def C.b6w : ICode := .keep [0] (.seq (.region C.bbp) .ret)
def C.b6w_w := pC C.b6w.eq_1
def C.bbn_b : LO := [
 X.o 2 (.move (.cst (.nils)))]
def C.bbn : LO := C.bbn_b
def C.bbn_w := pO C.bbn.eq_1
def C.q64 : IFunc := ⟨1, [.slot 2], .seq (.region C.bbn) C.b6w⟩
def C.q64_W := aI @C.bbp_w (aI @C.b6w_w @C.bbn_w)
def C.q64_B := aI @C.bbp_b.eq_1 @C.bbn_b.eq_1

def C.bbv_b : LO := [
 X.m 3 0,
 X.o 4 (.append 1 8 (.cst (.nils)) (X.s 3)),
 X.m 2 4]
def C.bbv : LO := C.bbv_b
def C.bbv_w := pO C.bbv.eq_1
def C.b6y : ICode := .keep [0] (.seq (.region C.bbv) .ret)
def C.b6y_w := pC C.b6y.eq_1
def C.bbt_b : LO := [
 X.o 2 (.move (.cst (.nils)))]
def C.bbt : LO := C.bbt_b
def C.bbt_w := pO C.bbt.eq_1
def C.q66 : IFunc := ⟨1, [.slot 2], .seq (.region C.bbt) C.b6y⟩
def C.q66_W := aI @C.bbv_w (aI @C.b6y_w @C.bbt_w)
def C.q66_B := aI @C.bbv_b.eq_1 @C.bbt_b.eq_1

def C.bbm_b : LO := [
 X.m 3 0,
 X.o 4 (.append 6 80 (.cst (.nils)) (X.s 3)),
 X.m 2 4]
def C.bbm : LO := C.bbm_b
def C.bbm_w := pO C.bbm.eq_1
def C.b6v : ICode := .keep [0] (.seq (.region C.bbm) .ret)
def C.b6v_w := pC C.b6v.eq_1
def C.bbl_b : LO := [
 X.o 2 (.move (.cst (.nils)))]
def C.bbl : LO := C.bbl_b
def C.bbl_w := pO C.bbl.eq_1
def C.q63 : IFunc := ⟨1, [.slot 2], .seq (.region C.bbl) C.b6v⟩
def C.q63_W := aI @C.bbm_w (aI @C.b6v_w @C.bbl_w)
def C.q63_B := aI @C.bbm_b.eq_1 @C.bbl_b.eq_1

def C.bbs_b : LO := [
 X.m 3 0,
 X.o 4 (.append 2 8 (.cst (.nils)) (X.s 3)),
 X.m 2 4]
def C.bbs : LO := C.bbs_b
def C.bbs_w := pO C.bbs.eq_1
def C.b6x : ICode := .keep [0] (.seq (.region C.bbs) .ret)
def C.b6x_w := pC C.b6x.eq_1
def C.bbr_b : LO := [
 X.o 2 (.move (.cst (.nils)))]
def C.bbr : LO := C.bbr_b
def C.bbr_w := pO C.bbr.eq_1
def C.q65 : IFunc := ⟨1, [.slot 2], .seq (.region C.bbr) C.b6x⟩
def C.q65_W := aI @C.bbs_w (aI @C.b6x_w @C.bbr_w)
def C.q65_B := aI @C.bbs_b.eq_1 @C.bbr_b.eq_1

def C.wl_b : LO := [
 X.o 4 (.load1 (X.s 1)),
 X.o 5 (.bin .shl (.cst (.int .u64 1)) (X.s 4)),
 X.o 6 (.bin .sub (X.s 5) (.cst (.int .u64 1))),
 X.m 7 0,
 X.o 8 (.bin .shl (X.s 6) (X.s 7)),
 X.o 9 (.conv .u32 (X.s 8)),
 X.m 3 9]
def C.wl : LO := C.wl_b
def C.wl_w := pO C.wl.eq_1
def C.b3s : ICode := .keep [0, 1] (.seq (.region C.wl) .ret)
def C.b3s_w := pC C.b3s.eq_1
def C.wk_b : LO := [
 X.o 3 (.move (.cst (.int .u32 0)))]
def C.wk : LO := C.wk_b
def C.wk_w := pO C.wk.eq_1
def C.q3 : IFunc := ⟨2, [.slot 3], .seq (.region C.wk) C.b3s⟩
def C.q3_W := aI @C.wl_w (aI @C.b3s_w @C.wk_w)
def C.q3_B := aI @C.wl_b.eq_1 @C.wk_b.eq_1

def C.nk_b : LO := [
 X.m 18 0,
 X.m 19 1,
 X.o 20 (.bin .shr (X.s 18) (X.s 19)),
 X.m 21 8,
 X.o 22 (.callv (X.s 21) [X.i 0]),
 X.o 23 (.bin .and (X.s 20) (X.s 22)),
 X.m 6 23,
 X.o 7 (.move (X.i 0))]
def C.nk : LO := C.nk_b
def C.nk_w := pO C.nk.eq_1
def C.by1 : ICode := .keep [0, 1, 8] (.seq (.region C.nk) .ret)
def C.by1_w := pC C.by1.eq_1
def C.nj_b : LO := [
 X.o 6 (.move (.cst (.int .u32 0))),
 X.o 7 (.move (X.i 3))]
def C.nj : LO := C.nj_b
def C.nj_w := pO C.nj.eq_1
def C.by2 : ICode := .seq (.region C.nj) .ret
def C.by2_w := pC C.by2.eq_1
def C.by3 : ICode := .keep [0, 1, 8, 17] (.cond (X.s 17) C.by2 .skip)
def C.by3_w := pC C.by3.eq_1
def C.nh_b : LO := [
 X.m 16 9,
 X.o 17 (.un .not (X.s 16))]
def C.nh : LO := C.nh_b
def C.nh_w := pO C.nh.eq_1
def C.by4 : ICode := .keep [0, 1, 8, 9] (.seq (.seq (.region C.nh) C.by3) C.by1)
def C.by4_w := pC C.by4.eq_1
def C.ng_b : LO := [
 X.m 11 1,
 X.m 12 2,
 X.o 13 (.call F.q2 [X.s 11, X.s 12]),
 X.m 10 13,
 X.o 14 (.extract (X.s 10) 0),
 X.o 15 (.extract (X.s 10) 1),
 X.m 8 14,
 X.m 9 15]
def C.ng : LO := C.ng_b
def C.ng_w := pO C.ng.eq_1
def C.by5 : ICode := .keep [0, 1, 2] (.seq (.region C.ng) C.by4)
def C.by5_w := pC C.by5.eq_1
def C.nf_b : LO := [
 X.o 6 (.move (.cst (.int .u32 0))),
 X.o 7 (.move (X.i 0))]
def C.nf : LO := C.nf_b
def C.nf_w := pO C.nf.eq_1
def C.q0 : IFunc := ⟨3, [.slot 6, .slot 7], .seq (.region C.nf) C.by5⟩
def C.q0_W := aI (aI (aI @C.nk_w @C.by1_w) (aI @C.nj_w (aI @C.by2_w @C.by3_w))) (aI (aI @C.nh_w @C.by4_w) (aI @C.ng_w (aI @C.by5_w @C.nf_w)))
def C.q0_B := aI (aI @C.nk_b.eq_1 @C.nj_b.eq_1) (aI @C.nh_b.eq_1 (aI @C.ng_b.eq_1 @C.nf_b.eq_1))

def C.d4_b : LO := [
 X.o 20 (.bin .add (X.s 7) (X.i 1)),
 X.m 7 20]
def C.d4 : LO := C.d4_b
def C.d4_w := pO C.d4.eq_1
def C.bky : ICode := .keep [0, 1, 6, 7] (.region C.d4)
def C.bky_w := pC C.bky.eq_1
def C.d3_b : LO := [
 X.m 10 1,
 X.m 11 4,
 X.m 12 0,
 X.o 13 (.nilchk (X.s 12)),
 X.o 14 (.fldAddr 0 (X.s 13)),
 X.o 15 (.load1 (X.s 14)),
 X.m 16 4,
 X.o 17 (.idxAddr 2 (X.s 15) (X.s 16)),
 X.o 18 (.loadN 2 (X.s 17)),
 X.o 19 (.callv (X.s 10) [X.s 11, X.s 18])]
def C.d3 : LO := C.d3_b
def C.d3_w := pO C.d3.eq_1
def C.bkq : ICode := .keep [0, 1, 4, 6, 7] (.region C.d3)
def C.bkq_w := pC C.bkq.eq_1
def C.d2_b : LO := [
 X.m 9 7,
 X.m 4 9]
def C.d2 : LO := C.d2_b
def C.d2_w := pO C.d2.eq_1
def C.bkx : ICode := .seq (.region C.d2) C.bkq
def C.bkx_w := pC C.bkx.eq_1
def C.bkz : ICode := .keep [0, 1, 6, 7] (.seq (.block 1 C.bkx) C.bky)
def C.bkz_w := pC C.bkz.eq_1
def C.bk0 : ICode := .keep [0, 1, 6, 7, 8] (.seq (.cond (X.s 8) .skip (.exit 0)) C.bkz)
def C.bk0_w := pC C.bk0.eq_1
def C.d1_b : LO := [
 X.o 8 (.bin .lss (X.s 7) (X.s 6))]
def C.d1 : LO := C.d1_b
def C.d1_w := pO C.d1.eq_1
def C.bz7 : ICode := .keep [0, 1, 6, 7] (.seq (.region C.d1) C.bk0)
def C.bz7_w := pC C.bz7.eq_1
def C.bz5 : ICode := .loop C.bz7
def C.bz5_w := pC C.bz5.eq_1
def C.bz6 : ICode := .keep [0, 1, 6, 7] (.block 0 C.bz5)
def C.bz6_w := pC C.bz6.eq_1
def C.rm_b : LO := [
 X.m 5 0,
 X.o 6 (.call F.q107 [X.s 5]),
 X.o 7 (.move (X.i 0))]
def C.rm : LO := C.rm_b
def C.rm_w := pO C.rm.eq_1
def C.q116 : IFunc := ⟨2, [], .seq (.region C.rm) C.bz6⟩
def C.q116_W := aI (aI (aI @C.d4_w (aI @C.bky_w @C.d3_w)) (aI @C.bkq_w (aI @C.d2_w @C.bkx_w))) (aI (aI @C.bkz_w (aI @C.bk0_w @C.d1_w)) (aI @C.bz5_w (aI @C.bz6_w @C.rm_w)))
def C.q116_B := aI (aI @C.d4_b.eq_1 @C.d3_b.eq_1) (aI @C.d2_b.eq_1 (aI @C.d1_b.eq_1 @C.rm_b.eq_1))

def C.p9_b : LO := [
 X.o 7 (.load1 (X.s 2)),
 X.o 8 (.nilchk (X.s 7)),
 X.o 9 (.fldAddr 2 (X.s 8)),
 X.o 10 (.load1 (X.s 9)),
 X.m 11 0,
 X.o 12 (.load1 (X.s 2)),
 X.o 13 (.nilchk (X.s 12)),
 X.o 14 (.fldAddr 1 (X.s 13)),
 X.o 15 (.load1 (X.s 14)),
 X.m 16 0,
 X.o 17 (.idxAddr 1 (X.s 15) (X.s 16)),
 X.o 18 (.load1 (X.s 17)),
 X.o 19 (.idxAddr 1 (X.s 10) (X.s 11)),
 X.n (.store1 (X.s 19) (X.s 18))]
def C.p9 : LO := C.p9_b
def C.p9_w := pO C.p9.eq_1
def C.bzx : ICode := .keep [0, 2, 6] (.cond (X.s 6) (.region C.p9) .skip)
def C.bzx_w := pC C.bzx.eq_1
def C.p8_b : LO := [
 X.o 5 (.fldAddr 1 (X.s 4)),
 X.o 6 (.load1 (X.s 5))]
def C.p8 : LO := C.p8_b
def C.p8_w := pO C.p8.eq_1
def C.bzy : ICode := .keep [0, 2, 4] (.seq (.region C.p8) C.bzx)
def C.bzy_w := pC C.bzy.eq_1
def C.p7_b : LO := [
 X.o 4 (.boxN (X.s 1))]
def C.p7 : LO := C.p7_b
def C.p7_w := pO C.p7.eq_1
def C.q112 : IFunc := ⟨3, [], .seq (.region C.p7) C.bzy⟩
def C.q112_W := aI (aI @C.p9_w @C.bzx_w) (aI @C.p8_w (aI @C.bzy_w @C.p7_w))
def C.q112_B := aI @C.p9_b.eq_1 (aI @C.p8_b.eq_1 @C.p7_b.eq_1)

def C.p2_b : LO := [
 X.o 21 (.fldAddr 0 (X.s 4)),
 X.o 22 (.load1 (X.s 21)),
 X.m 5 22]
def C.p2 : LO := C.p2_b
def C.p2_w := pO C.p2.eq_1
def C.bzm : ICode := .keep [4] (.seq (.region C.p2) .ret)
def C.bzm_w := pC C.bzm.eq_1
def C.p1_b : LO := [
 X.o 14 (.load1 (X.s 2)),
 X.o 15 (.nilchk (X.s 14)),
 X.o 16 (.fldAddr 2 (X.s 15)),
 X.o 17 (.load1 (X.s 16)),
 X.m 18 0,
 X.o 19 (.idxAddr 1 (X.s 17) (X.s 18)),
 X.o 20 (.load1 (X.s 19)),
 X.m 5 20]
def C.p1 : LO := C.p1_b
def C.p1_w := pO C.p1.eq_1
def C.bzn : ICode := .seq (.region C.p1) .ret
def C.bzn_w := pC C.bzn.eq_1
def C.bzp : ICode := .keep [0, 2, 4, 13] (.cond (X.s 13) C.bzn .skip)
def C.bzp_w := pC C.bzp.eq_1
def C.p0_b : LO := [
 X.o 6 (.load1 (X.s 2)),
 X.o 7 (.nilchk (X.s 6)),
 X.o 8 (.fldAddr 3 (X.s 7)),
 X.o 9 (.load1 (X.s 8)),
 X.m 10 9,
 X.t 10 11 (.fldAddr 1 (X.s 4)),
 X.t 10 12 (.load1 (X.s 11)),
 X.o 13 (.pick (X.s 10) (X.s 12) (.cst (.bool false)))]
def C.p0 : LO := C.p0_b
def C.p0_w := pO C.p0.eq_1
def C.bzr : ICode := .keep [0, 2, 4] (.seq (.seq (.region C.p0) C.bzp) C.bzm)
def C.bzr_w := pC C.bzr.eq_1
def C.pz_b : LO := [
 X.o 4 (.boxN (X.s 1)),
 X.o 5 (.move (.cst (.int .u32 0)))]
def C.pz : LO := C.pz_b
def C.pz_w := pO C.pz.eq_1
def C.q110 : IFunc := ⟨3, [.slot 5], .seq (.region C.pz) C.bzr⟩
def C.q110_W := aI (aI (aI @C.p2_w @C.bzm_w) (aI @C.p1_w @C.bzn_w)) (aI (aI @C.bzp_w @C.p0_w) (aI @C.bzr_w @C.pz_w))
def C.q110_B := aI (aI @C.p2_b.eq_1 @C.p1_b.eq_1) (aI @C.p0_b.eq_1 @C.pz_b.eq_1)

def C.bc6_b : LO := [
 X.m 73 8,
 X.m 2 73,
 X.o 3 (.move (X.i 0))]
def C.bc6 : LO := C.bc6_b
def C.bc6_w := pO C.bc6.eq_1
def C.b73 : ICode := .keep [8] (.seq (.region C.bc6) .ret)
def C.b73_w := pC C.b73.eq_1
def C.bc4_b : LO := [
 X.o 72 (.bin .add (X.s 62) (X.i 1)),
 X.m 62 72]
def C.bc4 : LO := C.bc4_b
def C.bc4_w := pO C.bc4.eq_1
def C.b8d : ICode := .keep [0, 5, 6, 7, 8, 60, 61, 62] (.region C.bc4)
def C.b8d_w := pC C.b8d.eq_1
def C.bc3_b : LO := [
 X.m 66 5,
 X.m 67 11,
 X.o 68 (.idxAddr 1 (X.s 66) (X.s 67)),
 X.o 69 (.load1 (X.s 68)),
 X.o 70 (.bin .sub (X.s 69) (X.i 1)),
 X.o 71 (.idxAddr 1 (X.s 66) (X.s 67)),
 X.n (.store1 (X.s 71) (X.s 70))]
def C.bc3 : LO := C.bc3_b
def C.bc3_w := pO C.bc3.eq_1
def C.b8m : ICode := .keep [0, 5, 6, 7, 8, 11, 60, 61, 62] (.region C.bc3)
def C.b8m_w := pC C.b8m.eq_1
def C.bc2_b : LO := [
 X.o 64 (.idxAddr 1 (X.s 60) (X.s 62)),
 X.o 65 (.load1 (X.s 64)),
 X.m 11 65]
def C.bc2 : LO := C.bc2_b
def C.bc2_w := pO C.bc2.eq_1
def C.b71 : ICode := .seq (.region C.bc2) C.b8m
def C.b71_w := pC C.b71.eq_1
def C.b8v : ICode := .keep [0, 5, 6, 7, 8, 60, 61, 62] (.seq (.block 5 C.b71) C.b8d)
def C.b8v_w := pC C.b8v.eq_1
def C.b8w : ICode := .keep [0, 5, 6, 7, 8, 60, 61, 62, 63] (.seq (.cond (X.s 63) .skip (.exit 4)) C.b8v)
def C.b8w_w := pC C.b8w.eq_1
def C.bc1_b : LO := [
 X.o 63 (.bin .lss (X.s 62) (X.s 61))]
def C.bc1 : LO := C.bc1_b
def C.bc1_w := pO C.bc1.eq_1
def C.cgw : ICode := .keep [0, 5, 6, 7, 8, 60, 61, 62] (.seq (.region C.bc1) C.b8w)
def C.cgw_w := pC C.cgw.eq_1
def C.b72 : ICode := .loop C.cgw
def C.b72_w := pC C.b72.eq_1
def C.b8x : ICode := .keep [0, 5, 6, 7, 8, 60, 61, 62] (.block 4 C.b72)
def C.b8x_w := pC C.b8x.eq_1
def C.bc0_b : LO := [
 X.m 57 6,
 X.m 58 9,
 X.o 59 (.idxAddr 1 (X.s 57) (X.s 58)),
 X.o 60 (.load1 (X.s 59)),
 X.o 61 (.len (X.s 60)),
 X.o 62 (.move (X.i 0))]
def C.bc0 : LO := C.bc0_b
def C.bc0_w := pO C.bc0.eq_1
def C.b74 : ICode := .keep [0, 5, 6, 7, 8, 9] (.seq (.region C.bc0) C.b8x)
def C.b74_w := pC C.b74.eq_1
def C.bcz_b : LO := [
 X.m 53 8,
 X.m 54 9,
 X.o 55 (.buildSlice 1 1 [.int .i64 0] [(0, 1, X.s 54)]),
 X.o 56 (.append 1 8 (X.s 53) (X.s 55)),
 X.m 8 56]
def C.bcz : LO := C.bcz_b
def C.bcz_w := pO C.bcz.eq_1
def C.b75 : ICode := .keep [0, 5, 6, 7, 8, 9] (.seq (.region C.bcz) C.b74)
def C.b75_w := pC C.b75.eq_1
def C.bcq_b : LO := [
 X.m 50 7,
 X.m 51 9,
 X.o 52 (.call F.q75 [X.s 50, X.s 51])]
def C.bcq : LO := C.bcq_b
def C.bcq_w := pO C.bcq.eq_1
def C.b76 : ICode := .keep [0, 5, 6, 7, 8, 9] (.seq (.region C.bcq) C.b75)
def C.b76_w := pC C.b76.eq_1
def C.bcy_b : LO := [
 X.o 2 (.move (.cst (.nils))),
 X.o 3 (.move (X.i 5))]
def C.bcy : LO := C.bcy_b
def C.bcy_w := pO C.bcy.eq_1
def C.b77 : ICode := .seq (.region C.bcy) .ret
def C.b77_w := pC C.b77.eq_1
def C.b78 : ICode := .keep [0, 5, 6, 7, 8, 9, 49] (.cond (X.s 49) C.b77 .skip)
def C.b78_w := pC C.b78.eq_1
def C.bcx_b : LO := [
 X.m 46 9,
 X.m 47 0,
 X.o 48 (.len (X.s 47)),
 X.o 49 (.bin .eql (X.s 46) (X.s 48))]
def C.bcx : LO := C.bcx_b
def C.bcx_w := pO C.bcx.eq_1
def C.b79 : ICode := .keep [0, 5, 6, 7, 8, 9] (.seq (.seq (.region C.bcx) C.b78) C.b76)
def C.b79_w := pC C.b79.eq_1
def C.bcw_b : LO := [
 X.m 44 9,
 X.o 45 (.bin .add (X.s 44) (X.i 1)),
 X.m 9 45]
def C.bcw : LO := C.bcw_b
def C.bcw_w := pO C.bcw.eq_1
def C.b7y : ICode := .region C.bcw
def C.b7y_w := pC C.b7y.eq_1
def C.b8b : ICode := .keep [0, 5, 6, 7, 8, 9] (.block 3 C.b7y)
def C.b8b_w := pC C.b8b.eq_1
def C.b8c : ICode := .keep [0, 5, 6, 7, 8, 9, 43] (.cond (X.s 43) .skip (.exit 2))
def C.b8c_w := pC C.b8c.eq_1
def C.bdf_b : LO := [
 X.m 28 9,
 X.m 29 0,
 X.o 30 (.len (X.s 29)),
 X.o 31 (.bin .lss (X.s 28) (X.s 30)),
 X.m 32 31,
 X.t 32 33 (.move (X.s 7)),
 X.t 32 34 (.move (X.s 9)),
 X.t 32 35 (.call F.q76 [X.s 33, X.s 34]),
 X.t 32 36 (.move (X.s 35)),
 X.f 36 37 (.move (X.s 5)),
 X.f 36 38 (.move (X.s 9)),
 X.f 36 39 (.idxAddr 1 (X.s 37) (X.s 38)),
 X.f 36 40 (.load1 (X.s 39)),
 X.f 36 41 (.bin .gtr (X.s 40) (X.i 0)),
 X.t 32 42 (.pick (X.s 36) (.cst (.bool true)) (X.s 41)),
 X.o 43 (.pick (X.s 32) (X.s 42) (.cst (.bool false)))]
def C.bdf : LO := C.bdf_b
def C.bdf_w := pO C.bdf.eq_1
def C.cgt : ICode := .keep [0, 5, 6, 7, 8, 9] (.seq (.seq (.region C.bdf) C.b8c) C.b8b)
def C.cgt_w := pC C.cgt.eq_1
def C.b7q : ICode := .loop C.cgt
def C.b7q_w := pC C.b7q.eq_1
def C.b8f : ICode := .keep [0, 5, 6, 7, 8, 9] (.seq (.block 2 C.b7q) C.b79)
def C.b8f_w := pC C.b8f.eq_1
def C.bdd_b : LO := [
 X.o 9 (.move (X.i 0))]
def C.bdd : LO := C.bdd_b
def C.bdd_w := pO C.bdd.eq_1
def C.b7z : ICode := .seq (.region C.bdd) C.b8f
def C.b7z_w := pC C.b7z.eq_1
def C.b8g : ICode := .keep [0, 5, 6, 7, 8] (.block 1 C.b7z)
def C.b8g_w := pC C.b8g.eq_1
def C.b8h : ICode := .keep [0, 5, 6, 7, 8, 27] (.cond (X.s 27) .skip (.exit 0))
def C.b8h_w := pC C.b8h.eq_1
def C.bdc_b : LO := [
 X.m 23 8,
 X.o 24 (.len (X.s 23)),
 X.m 25 0,
 X.o 26 (.len (X.s 25)),
 X.o 27 (.bin .lss (X.s 24) (X.s 26))]
def C.bdc : LO := C.bdc_b
def C.bdc_w := pO C.bdc.eq_1
def C.cgv : ICode := .keep [0, 5, 6, 7, 8] (.seq (.seq (.region C.bdc) C.b8h) C.b8g)
def C.cgv_w := pC C.cgv.eq_1
def C.b70 : ICode := .loop C.cgv
def C.b70_w := pC C.b70.eq_1
def C.b8j : ICode := .keep [0, 5, 6, 7, 8] (.seq (.block 0 C.b70) C.b73)
def C.b8j_w := pC C.b8j.eq_1
def C.bdb_b : LO := [
 X.o 8 (.move (.cst (.nils)))]
def C.bdb : LO := C.bdb_b
def C.bdb_w := pO C.bdb.eq_1
def C.b8k : ICode := .keep [0, 5, 6, 7] (.seq (.region C.bdb) C.b8j)
def C.b8k_w := pC C.b8k.eq_1
def C.bc9_b : LO := [
 X.o 22 (.makeMap none),
 X.m 7 22]
def C.bc9 : LO := C.bc9_b
def C.bc9_w := pO C.bc9.eq_1
def C.b8l : ICode := .keep [0, 5, 6] (.seq (.region C.bc9) C.b8k)
def C.b8l_w := pC C.b8l.eq_1
def C.bc8_b : LO := [
 X.m 18 0,
 X.o 19 (.call F.q74 [X.s 18]),
 X.m 17 19,
 X.o 20 (.extract (X.s 17) 0),
 X.o 21 (.extract (X.s 17) 1),
 X.m 5 20,
 X.m 6 21]
def C.bc8 : LO := C.bc8_b
def C.bc8_w := pO C.bc8.eq_1
def C.b8n : ICode := .keep [0] (.seq (.region C.bc8) C.b8l)
def C.b8n_w := pC C.b8n.eq_1
def C.bc7_b : LO := [
 X.m 16 4,
 X.o 2 (.move (.cst (.nils))),
 X.m 3 16]
def C.bc7 : LO := C.bc7_b
def C.bc7_w := pO C.bc7.eq_1
def C.b8p : ICode := .seq (.region C.bc7) .ret
def C.b8p_w := pC C.b8p.eq_1
def C.b8r : ICode := .keep [0, 4, 15] (.cond (X.s 15) C.b8p .skip)
def C.b8r_w := pC C.b8r.eq_1
def C.bc5_b : LO := [
 X.m 14 4,
 X.o 15 (.bin .neq (X.s 14) (X.i 0))]
def C.bc5 : LO := C.bc5_b
def C.bc5_w := pO C.bc5.eq_1
def C.b8s : ICode := .keep [0, 4] (.seq (.region C.bc5) C.b8r)
def C.b8s_w := pC C.b8s.eq_1
def C.bcv_b : LO := [
 X.m 12 0,
 X.o 13 (.call F.q77 [X.s 12]),
 X.m 4 13]
def C.bcv : LO := C.bcv_b
def C.bcv_w := pO C.bcv.eq_1
def C.b8t : ICode := .keep [0] (.seq (.seq (.region C.bcv) C.b8s) C.b8n)
def C.b8t_w := pC C.b8t.eq_1
def C.bct_b : LO := [
 X.o 2 (.move (.cst (.nils))),
 X.o 3 (.move (X.i 0))]
def C.bct : LO := C.bct_b
def C.bct_w := pO C.bct.eq_1
def C.q73 : IFunc := ⟨1, [.slot 2, .slot 3], .seq (.region C.bct) C.b8t⟩
def C.q73_W := aI (aI (aI (aI (aI @C.bc6_w (aI @C.b73_w @C.bc4_w)) (aI @C.b8d_w (aI @C.bc3_w @C.b8m_w))) (aI (aI @C.bc2_w (aI @C.b71_w @C.b8v_w)) (aI (aI @C.b8w_w @C.bc1_w) (aI @C.b72_w @C.b8x_w)))) (aI (aI (aI @C.bc0_w (aI @C.b74_w @C.bcz_w)) (aI @C.b75_w (aI @C.bcq_w @C.b76_w))) (aI (aI @C.bcy_w (aI @C.b77_w @C.b78_w)) (aI (aI @C.bcx_w @C.b79_w) (aI @C.bcw_w @C.b7y_w))))) (aI (aI (aI (aI @C.b8b_w (aI @C.b8c_w @C.bdf_w)) (aI @C.b7q_w (aI @C.b8f_w @C.bdd_w))) (aI (aI @C.b7z_w (aI @C.b8g_w @C.b8h_w)) (aI (aI @C.bdc_w @C.b70_w) (aI @C.b8j_w @C.bdb_w)))) (aI (aI (aI @C.b8k_w (aI @C.bc9_w @C.b8l_w)) (aI @C.bc8_w (aI @C.b8n_w @C.bc7_w))) (aI (aI @C.b8p_w (aI @C.b8r_w @C.bc5_w)) (aI (aI @C.b8s_w @C.bcv_w) (aI @C.b8t_w @C.bct_w)))))
def C.q73_B := aI (aI (aI (aI @C.bc6_b.eq_1 @C.bc4_b.eq_1) (aI @C.bc3_b.eq_1 (aI @C.bc2_b.eq_1 @C.bc1_b.eq_1))) (aI (aI @C.bc0_b.eq_1 @C.bcz_b.eq_1) (aI @C.bcq_b.eq_1 (aI @C.bcy_b.eq_1 @C.bcx_b.eq_1)))) (aI (aI (aI @C.bcw_b.eq_1 @C.bdf_b.eq_1) (aI @C.bdd_b.eq_1 (aI @C.bdc_b.eq_1 @C.bdb_b.eq_1))) (aI (aI @C.bc9_b.eq_1 (aI @C.bc8_b.eq_1 @C.bc7_b.eq_1)) (aI @C.bc5_b.eq_1 (aI @C.bcv_b.eq_1 @C.bct_b.eq_1))))

def C.rl_b : LO := [
 X.o 6 (.load1 (X.s 3)),
 X.o 7 (.nilchk (X.s 6)),
 X.o 8 (.fldAddr 1 (X.s 7)),
 X.o 9 (.load1 (X.s 8)),
 X.m 10 0,
 X.o 11 (.load1 (X.s 2)),
 X.m 12 0,
 X.o 13 (.loadN 2 (X.s 5)),
 ⟨some 14, .callv (X.s 11) [X.s 12, X.s 13], none, [⟨.load1 (X.s 3), 6, none⟩, ⟨.load1 (X.s 8), 9, none⟩], []⟩,
 X.o 15 (.idxAddr 1 (X.s 9) (X.s 10)),
 X.n (.store1 (X.s 15) (X.s 14))]
def C.rl : LO := C.rl_b
def C.rl_w := pO C.rl.eq_1
def C.bz4 : ICode := .keep [0, 2, 3, 5] (.region C.rl)
def C.bz4_w := pC C.bz4.eq_1
def C.rk_b : LO := [
 X.o 5 (.boxN (X.s 1))]
def C.rk : LO := C.rk_b
def C.rk_w := pO C.rk.eq_1
def C.q115 : IFunc := ⟨4, [], .seq (.region C.rk) C.bz4⟩
def C.q115_W := aI @C.rl_w (aI @C.bz4_w @C.rk_w)
def C.q115_B := aI @C.rl_b.eq_1 @C.rk_b.eq_1

def C.bd9_b : LO := [
 X.o 2 (.move (X.i 0))]
def C.bd9 : LO := C.bd9_b
def C.bd9_w := pO C.bd9.eq_1
def C.b9w : ICode := .keep [] (.seq (.region C.bd9) .ret)
def C.b9w_w := pC C.b9w.eq_1
def C.bd8_b : LO := [
 X.o 31 (.bin .add (X.s 12) (X.i 1)),
 X.m 12 31]
def C.bd8 : LO := C.bd8_b
def C.bd8_w := pO C.bd8.eq_1
def C.b91 : ICode := .keep [0, 10, 11, 12] (.region C.bd8)
def C.b91_w := pC C.b91.eq_1
def C.bd7_b : LO := [
 X.o 30 (.bin .add (X.s 18) (X.i 1)),
 X.m 18 30]
def C.bd7 : LO := C.bd7_b
def C.bd7_w := pO C.bd7.eq_1
def C.b96 : ICode := .keep [0, 10, 11, 12, 16, 17, 18] (.region C.bd7)
def C.b96_w := pC C.b96.eq_1
def C.bd6_b : LO := [
 X.o 2 (.move (X.i 4))]
def C.bd6 : LO := C.bd6_b
def C.bd6_w := pO C.bd6.eq_1
def C.b97 : ICode := .seq (.region C.bd6) .ret
def C.b97_w := pC C.b97.eq_1
def C.b98 : ICode := .keep [0, 10, 11, 12, 16, 17, 18, 29] (.cond (X.s 29) C.b97 .skip)
def C.b98_w := pC C.b98.eq_1
def C.bfk_b : LO := [
 X.m 22 6,
 X.o 23 (.bin .lss (X.s 22) (X.i 0)),
 X.m 24 23,
 X.f 24 25 (.move (X.s 6)),
 X.f 24 26 (.move (X.s 0)),
 X.f 24 27 (.len (X.s 26)),
 X.f 24 28 (.bin .geq (X.s 25) (X.s 27)),
 X.o 29 (.pick (X.s 24) (.cst (.bool true)) (X.s 28))]
def C.bfk : LO := C.bfk_b
def C.bfk_w := pO C.bfk.eq_1
def C.b99 : ICode := .keep [0, 6, 10, 11, 12, 16, 17, 18] (.seq (.region C.bfk) C.b98)
def C.b99_w := pC C.b99.eq_1
def C.bfj_b : LO := [
 X.o 20 (.idxAddr 1 (X.s 16) (X.s 18)),
 X.o 21 (.load1 (X.s 20)),
 X.m 6 21]
def C.bfj : LO := C.bfj_b
def C.bfj_w := pO C.bfj.eq_1
def C.b9v : ICode := .seq (.region C.bfj) C.b99
def C.b9v_w := pC C.b9v.eq_1
def C.cbb : ICode := .keep [0, 10, 11, 12, 16, 17, 18] (.seq (.block 3 C.b9v) C.b96)
def C.cbb_w := pC C.cbb.eq_1
def C.cbc : ICode := .keep [0, 10, 11, 12, 16, 17, 18, 19] (.seq (.cond (X.s 19) .skip (.exit 2)) C.cbb)
def C.cbc_w := pC C.cbc.eq_1
def C.bfh_b : LO := [
 X.o 19 (.bin .lss (X.s 18) (X.s 17))]
def C.bfh : LO := C.bfh_b
def C.bfh_w := pO C.bfh.eq_1
def C.cgq : ICode := .keep [0, 10, 11, 12, 16, 17, 18] (.seq (.region C.bfh) C.cbc)
def C.cgq_w := pC C.cgq.eq_1
def C.b9r : ICode := .loop C.cgq
def C.b9r_w := pC C.b9r.eq_1
def C.b9x : ICode := .keep [0, 10, 11, 12, 16, 17, 18] (.block 2 C.b9r)
def C.b9x_w := pC C.b9x.eq_1
def C.bfg_b : LO := [
 X.m 16 4,
 X.o 17 (.len (X.s 16)),
 X.o 18 (.move (X.i 0))]
def C.bfg : LO := C.bfg_b
def C.bfg_w := pO C.bfg.eq_1
def C.b9y : ICode := .keep [0, 4, 10, 11, 12] (.seq (.region C.bfg) C.b9x)
def C.b9y_w := pC C.b9y.eq_1
def C.bff_b : LO := [
 X.o 14 (.idxAddr 1 (X.s 10) (X.s 12)),
 X.o 15 (.load1 (X.s 14)),
 X.m 4 15]
def C.bff : LO := C.bff_b
def C.bff_w := pO C.bff.eq_1
def C.b9s : ICode := .seq (.region C.bff) C.b9y
def C.b9s_w := pC C.b9s.eq_1
def C.b9q : ICode := .keep [0, 10, 11, 12] (.seq (.block 1 C.b9s) C.b91)
def C.b9q_w := pC C.b9q.eq_1
def C.b9z : ICode := .keep [0, 10, 11, 12, 13] (.seq (.cond (X.s 13) .skip (.exit 0)) C.b9q)
def C.b9z_w := pC C.b9z.eq_1
def C.bfd_b : LO := [
 X.o 13 (.bin .lss (X.s 12) (X.s 11))]
def C.bfd : LO := C.bfd_b
def C.bfd_w := pO C.bfd.eq_1
def C.cgz : ICode := .keep [0, 10, 11, 12] (.seq (.region C.bfd) C.b9z)
def C.cgz_w := pC C.cgz.eq_1
def C.b9t : ICode := .loop C.cgz
def C.b9t_w := pC C.b9t.eq_1
def C.b90 : ICode := .keep [0, 10, 11, 12] (.block 0 C.b9t)
def C.b90_w := pC C.b90.eq_1
def C.bfc_b : LO := [
 X.m 10 0,
 X.o 11 (.len (X.s 10)),
 X.o 12 (.move (X.i 0))]
def C.bfc : LO := C.bfc_b
def C.bfc_w := pO C.bfc.eq_1
def C.b92 : ICode := .keep [0] (.seq (.seq (.region C.bfc) C.b90) C.b9w)
def C.b92_w := pC C.b92.eq_1
def C.bfb_b : LO := [
 X.o 2 (.move (X.i 1))]
def C.bfb : LO := C.bfb_b
def C.bfb_w := pO C.bfb.eq_1
def C.b93 : ICode := .seq (.region C.bfb) .ret
def C.b93_w := pC C.b93.eq_1
def C.b94 : ICode := .keep [0, 9] (.cond (X.s 9) C.b93 .skip)
def C.b94_w := pC C.b94.eq_1
def C.bd5_b : LO := [
 X.m 7 0,
 X.o 8 (.len (X.s 7)),
 X.o 9 (.bin .gtr (X.s 8) (X.i 100))]
def C.bd5 : LO := C.bd5_b
def C.bd5_w := pO C.bd5.eq_1
def C.b95 : ICode := .keep [0] (.seq (.seq (.region C.bd5) C.b94) C.b92)
def C.b95_w := pC C.b95.eq_1
def C.bd4_b : LO := [
 X.o 2 (.move (X.i 0))]
def C.bd4 : LO := C.bd4_b
def C.bd4_w := pO C.bd4.eq_1
def C.q77 : IFunc := ⟨1, [.slot 2], .seq (.region C.bd4) C.b95⟩
def C.q77_W := aI (aI (aI (aI (aI @C.bd9_w @C.b9w_w) (aI @C.bd8_w @C.b91_w)) (aI (aI @C.bd7_w @C.b96_w) (aI @C.bd6_w @C.b97_w))) (aI (aI (aI @C.b98_w @C.bfk_w) (aI @C.b99_w @C.bfj_w)) (aI (aI @C.b9v_w @C.cbb_w) (aI @C.cbc_w (aI @C.bfh_w @C.b9r_w))))) (aI (aI (aI (aI @C.b9x_w @C.bfg_w) (aI @C.b9y_w @C.bff_w)) (aI (aI @C.b9s_w @C.b9q_w) (aI @C.b9z_w (aI @C.bfd_w @C.b9t_w)))) (aI (aI (aI @C.b90_w @C.bfc_w) (aI @C.b92_w @C.bfb_w)) (aI (aI @C.b93_w @C.b94_w) (aI @C.bd5_w (aI @C.b95_w @C.bd4_w)))))
def C.q77_B := aI (aI (aI @C.bd9_b.eq_1 (aI @C.bd8_b.eq_1 @C.bd7_b.eq_1)) (aI (aI @C.bd6_b.eq_1 @C.bfk_b.eq_1) (aI @C.bfj_b.eq_1 @C.bfh_b.eq_1))) (aI (aI @C.bfg_b.eq_1 (aI @C.bff_b.eq_1 @C.bfd_b.eq_1)) (aI (aI @C.bfc_b.eq_1 @C.bfb_b.eq_1) (aI @C.bd5_b.eq_1 @C.bd4_b.eq_1)))

def C.bdr_b : LO := [
 X.m 53 2,
 X.m 54 3,
 X.m 2 53,
 X.m 3 54]
def C.bdr : LO := C.bdr_b
def C.bdr_w := pO C.bdr.eq_1
def C.b81 : ICode := .keep [2, 3] (.seq (.region C.bdr) .ret)
def C.b81_w := pC C.b81.eq_1
def C.bdp_b : LO := [
 X.o 52 (.bin .add (X.s 17) (X.i 1)),
 X.m 17 52]
def C.bdp : LO := C.bdp_b
def C.bdp_w := pO C.bdp.eq_1
def C.b89 : ICode := .keep [2, 3, 15, 16, 17] (.region C.bdp)
def C.b89_w := pC C.b89.eq_1
def C.bdn_b : LO := [
 X.o 51 (.bin .add (X.s 25) (X.i 1)),
 X.m 25 51]
def C.bdn : LO := C.bdn_b
def C.bdn_w := pO C.bdn.eq_1
def C.b9g : ICode := .keep [2, 3, 4, 6, 15, 16, 17, 23, 24, 25] (.region C.bdn)
def C.b9g_w := pC C.b9g.eq_1
def C.bdm_b : LO := [
 X.m 41 3,
 X.m 42 8,
 X.m 43 3,
 X.m 44 8,
 X.o 45 (.idxAddr 1 (X.s 43) (X.s 44)),
 X.o 46 (.load1 (X.s 45)),
 X.m 47 4,
 X.o 48 (.buildSlice 1 1 [.int .i64 0] [(0, 1, X.s 47)]),
 X.o 49 (.append 1 8 (X.s 46) (X.s 48)),
 X.o 50 (.idxAddr 1 (X.s 41) (X.s 42)),
 X.n (.store1 (X.s 50) (X.s 49))]
def C.bdm : LO := C.bdm_b
def C.bdm_w := pO C.bdm.eq_1
def C.b9h : ICode := .keep [2, 3, 4, 6, 8, 15, 16, 17, 23, 24, 25] (.region C.bdm)
def C.b9h_w := pC C.b9h.eq_1
def C.bdl_b : LO := [
 X.m 35 2,
 X.m 36 4,
 X.o 37 (.idxAddr 1 (X.s 35) (X.s 36)),
 X.o 38 (.load1 (X.s 37)),
 X.o 39 (.bin .add (X.s 38) (X.i 1)),
 X.o 40 (.idxAddr 1 (X.s 35) (X.s 36)),
 X.n (.store1 (X.s 40) (X.s 39))]
def C.bdl : LO := C.bdl_b
def C.bdl_w := pO C.bdl.eq_1
def C.b9j : ICode := .keep [2, 3, 4, 6, 8, 15, 16, 17, 23, 24, 25] (.seq (.region C.bdl) C.b9h)
def C.b9j_w := pC C.b9j.eq_1
def C.bdk_b : LO := [
 X.m 32 6,
 X.m 33 8,
 X.o 34 (.call F.q75 [X.s 32, X.s 33])]
def C.bdk : LO := C.bdk_b
def C.bdk_w := pO C.bdk.eq_1
def C.b9k : ICode := .keep [2, 3, 4, 6, 8, 15, 16, 17, 23, 24, 25] (.seq (.region C.bdk) C.b9j)
def C.b9k_w := pC C.b9k.eq_1
def C.b9l : ICode := .keep [2, 3, 4, 6, 8, 15, 16, 17, 23, 24, 25, 31] (.cond (X.s 31) (.exit 3) .skip)
def C.b9l_w := pC C.b9l.eq_1
def C.bdj_b : LO := [
 X.m 29 6,
 X.m 30 8,
 X.o 31 (.call F.q76 [X.s 29, X.s 30])]
def C.bdj : LO := C.bdj_b
def C.bdj_w := pO C.bdj.eq_1
def C.b9m : ICode := .keep [2, 3, 4, 6, 8, 15, 16, 17, 23, 24, 25] (.seq (.seq (.region C.bdj) C.b9l) C.b9k)
def C.b9m_w := pC C.b9m.eq_1
def C.bdz_b : LO := [
 X.o 27 (.idxAddr 1 (X.s 23) (X.s 25)),
 X.o 28 (.load1 (X.s 27)),
 X.m 8 28]
def C.bdz : LO := C.bdz_b
def C.bdz_w := pO C.bdz.eq_1
def C.b80 : ICode := .seq (.region C.bdz) C.b9m
def C.b80_w := pC C.b80.eq_1
def C.b82 : ICode := .keep [2, 3, 4, 6, 15, 16, 17, 23, 24, 25] (.seq (.block 3 C.b80) C.b9g)
def C.b82_w := pC C.b82.eq_1
def C.b83 : ICode := .keep [2, 3, 4, 6, 15, 16, 17, 23, 24, 25, 26] (.seq (.cond (X.s 26) .skip (.exit 2)) C.b82)
def C.b83_w := pC C.b83.eq_1
def C.bdq_b : LO := [
 X.o 26 (.bin .lss (X.s 25) (X.s 24))]
def C.bdq : LO := C.bdq_b
def C.bdq_w := pO C.bdq.eq_1
def C.cgx : ICode := .keep [2, 3, 4, 6, 15, 16, 17, 23, 24, 25] (.seq (.region C.bdq) C.b83)
def C.cgx_w := pC C.cgx.eq_1
def C.b8y : ICode := .loop C.cgx
def C.b8y_w := pC C.b8y.eq_1
def C.b84 : ICode := .keep [2, 3, 4, 6, 15, 16, 17, 23, 24, 25] (.block 2 C.b8y)
def C.b84_w := pC C.b84.eq_1
def C.bdy_b : LO := [
 X.m 23 5,
 X.o 24 (.len (X.s 23)),
 X.o 25 (.move (X.i 0))]
def C.bdy : LO := C.bdy_b
def C.bdy_w := pO C.bdy.eq_1
def C.b85 : ICode := .keep [2, 3, 4, 5, 6, 15, 16, 17] (.seq (.region C.bdy) C.b84)
def C.b85_w := pC C.b85.eq_1
def C.bdx_b : LO := [
 X.o 22 (.makeMap none),
 X.m 6 22]
def C.bdx : LO := C.bdx_b
def C.bdx_w := pO C.bdx.eq_1
def C.b86 : ICode := .keep [2, 3, 4, 5, 15, 16, 17] (.seq (.region C.bdx) C.b85)
def C.b86_w := pC C.b86.eq_1
def C.bdw_b : LO := [
 X.m 19 17,
 X.o 20 (.idxAddr 1 (X.s 15) (X.s 17)),
 X.o 21 (.load1 (X.s 20)),
 X.m 4 19,
 X.m 5 21]
def C.bdw : LO := C.bdw_b
def C.bdw_w := pO C.bdw.eq_1
def C.b8q : ICode := .seq (.region C.bdw) C.b86
def C.b8q_w := pC C.b8q.eq_1
def C.b87 : ICode := .keep [2, 3, 15, 16, 17] (.seq (.block 1 C.b8q) C.b89)
def C.b87_w := pC C.b87.eq_1
def C.b88 : ICode := .keep [2, 3, 15, 16, 17, 18] (.seq (.cond (X.s 18) .skip (.exit 0)) C.b87)
def C.b88_w := pC C.b88.eq_1
def C.bdv_b : LO := [
 X.o 18 (.bin .lss (X.s 17) (X.s 16))]
def C.bdv : LO := C.bdv_b
def C.bdv_w := pO C.bdv.eq_1
def C.cgy : ICode := .keep [2, 3, 15, 16, 17] (.seq (.region C.bdv) C.b88)
def C.cgy_w := pC C.cgy.eq_1
def C.b8z : ICode := .loop C.cgy
def C.b8z_w := pC C.b8z.eq_1
def C.b9b : ICode := .keep [2, 3, 15, 16, 17] (.block 0 C.b8z)
def C.b9b_w := pC C.b9b.eq_1
def C.bdt_b : LO := [
 X.m 15 0,
 X.o 16 (.len (X.s 15)),
 X.o 17 (.move (X.i 0))]
def C.bdt : LO := C.bdt_b
def C.bdt_w := pO C.bdt.eq_1
def C.b9c : ICode := .keep [0, 2, 3] (.seq (.seq (.region C.bdt) C.b9b) C.b81)
def C.b9c_w := pC C.b9c.eq_1
def C.bds_b : LO := [
 X.m 12 0,
 X.o 13 (.len (X.s 12)),
 X.o 14 (.makeSlice 1 24 [.nils] (X.s 13) (X.s 13)),
 X.m 3 14]
def C.bds : LO := C.bds_b
def C.bds_w := pO C.bds.eq_1
def C.b9d : ICode := .keep [0, 2] (.seq (.region C.bds) C.b9c)
def C.b9d_w := pC C.b9d.eq_1
def C.bdh_b : LO := [
 X.m 9 0,
 X.o 10 (.len (X.s 9)),
 X.o 11 (.makeSlice 1 8 [.int .i64 0] (X.s 10) (X.s 10)),
 X.m 2 11]
def C.bdh : LO := C.bdh_b
def C.bdh_w := pO C.bdh.eq_1
def C.b9f : ICode := .keep [0] (.seq (.region C.bdh) C.b9d)
def C.b9f_w := pC C.b9f.eq_1
def C.bdg_b : LO := [
 X.o 2 (.move (.cst (.nils))),
 X.o 3 (.move (.cst (.nils)))]
def C.bdg : LO := C.bdg_b
def C.bdg_w := pO C.bdg.eq_1
def C.q74 : IFunc := ⟨1, [.slot 2, .slot 3], .seq (.region C.bdg) C.b9f⟩
def C.q74_W := aI (aI (aI (aI (aI @C.bdr_w @C.b81_w) (aI @C.bdp_w (aI @C.b89_w @C.bdn_w))) (aI (aI @C.b9g_w @C.bdm_w) (aI @C.b9h_w (aI @C.bdl_w @C.b9j_w)))) (aI (aI (aI @C.bdk_w @C.b9k_w) (aI @C.b9l_w (aI @C.bdj_w @C.b9m_w))) (aI (aI @C.bdz_w @C.b80_w) (aI @C.b82_w (aI @C.b83_w @C.bdq_w))))) (aI (aI (aI (aI @C.b8y_w @C.b84_w) (aI @C.bdy_w (aI @C.b85_w @C.bdx_w))) (aI (aI @C.b86_w @C.bdw_w) (aI @C.b8q_w (aI @C.b87_w @C.b88_w)))) (aI (aI (aI @C.bdv_w @C.b8z_w) (aI @C.b9b_w (aI @C.bdt_w @C.b9c_w))) (aI (aI @C.bds_w @C.b9d_w) (aI @C.bdh_w (aI @C.b9f_w @C.bdg_w)))))
def C.q74_B := aI (aI (aI (aI @C.bdr_b.eq_1 @C.bdp_b.eq_1) (aI @C.bdn_b.eq_1 @C.bdm_b.eq_1)) (aI (aI @C.bdl_b.eq_1 @C.bdk_b.eq_1) (aI @C.bdj_b.eq_1 @C.bdz_b.eq_1))) (aI (aI (aI @C.bdq_b.eq_1 @C.bdy_b.eq_1) (aI @C.bdx_b.eq_1 @C.bdw_b.eq_1)) (aI (aI @C.bdv_b.eq_1 @C.bdt_b.eq_1) (aI @C.bds_b.eq_1 (aI @C.bdh_b.eq_1 @C.bdg_b.eq_1))))

def C.bd3_b : LO := [
 X.m 13 6,
 X.m 4 13]
def C.bd3 : LO := C.bd3_b
def C.bd3_w := pO C.bd3.eq_1
def C.b9n : ICode := .keep [6] (.seq (.region C.bd3) .ret)
def C.b9n_w := pC C.b9n.eq_1
def C.bd2_b : LO := [
 X.m 8 0,
 X.m 9 1,
 X.o 10 (.lookup (.agg []) true (X.s 8) (X.s 9)),
 X.m 7 10,
 X.o 11 (.extract (X.s 7) 0),
 X.o 12 (.extract (X.s 7) 1),
 X.o 5 (.alloc []),
 X.n (.storeN 0 (X.s 5) (X.s 11)),
 X.m 6 12]
def C.bd2 : LO := C.bd2_b
def C.bd2_w := pO C.bd2.eq_1
def C.b9p : ICode := .keep [0, 1] (.seq (.region C.bd2) C.b9n)
def C.b9p_w := pC C.b9p.eq_1
def C.bd1_b : LO := [
 X.o 4 (.move (.cst (.bool false)))]
def C.bd1 : LO := C.bd1_b
def C.bd1_w := pO C.bd1.eq_1
def C.q76 : IFunc := ⟨2, [.slot 4], .seq (.region C.bd1) C.b9p⟩
def C.q76_W := aI (aI @C.bd3_w @C.b9n_w) (aI @C.bd2_w (aI @C.b9p_w @C.bd1_w))
def C.q76_B := aI @C.bd3_b.eq_1 (aI @C.bd2_b.eq_1 @C.bd1_b.eq_1)

def C.bd0_b : LO := [
 X.m 4 0,
 X.m 5 1,
 X.o 6 (.build [] []),
 X.n (.mapSet (X.s 4) (X.s 5) (X.s 6))]
def C.bd0 : LO := C.bd0_b
def C.bd0_w := pO C.bd0.eq_1
def C.q75 : IFunc := ⟨2, [], .region C.bd0⟩
def C.q75_W := @C.bd0_w
def C.q75_B := @C.bd0_b.eq_1

def C.z0 := aI @C.d1_b.eq_1 (aI @C.d2_b.eq_1 (aI @C.d3_b.eq_1 @C.d4_b.eq_1))
def C.z1 := aI @C.d9_b.eq_1 (aI @C.fb_b.eq_1 (aI @C.fc_b.eq_1 @C.fd_b.eq_1))
def C.z2 := aI @C.fh_b.eq_1 (aI @C.fj_b.eq_1 @C.fk_b.eq_1)
def C.z3 := aI @C.ft_b.eq_1 @C.fv_b.eq_1
def C.z4 := aI @C.fw_b.eq_1 (aI @C.fx_b.eq_1 @C.fy_b.eq_1)
def C.z5 := aI @C.fz_b.eq_1 @C.f0_b.eq_1
def C.z6 := aI @C.f3_b.eq_1 @C.f4_b.eq_1
def C.z7 := aI @C.gb_b.eq_1 (aI @C.gc_b.eq_1 (aI @C.hs_b.eq_1 @C.ht_b.eq_1))
def C.z8 := aI @C.gd_b.eq_1 @C.gf_b.eq_1
def C.z9 := aI @C.gg_b.eq_1 (aI @C.gh_b.eq_1 (aI @C.gj_b.eq_1 (aI @C.gk_b.eq_1 (aI @C.gl_b.eq_1 (aI @C.gn_b.eq_1 (aI @C.gp_b.eq_1 (aI @C.gr_b.eq_1 (aI @C.gs_b.eq_1 @C.gt_b.eq_1))))))))
def C.z10 := aI @C.f9_b.eq_1 (aI @C.gm_b.eq_1 (aI @C.gz_b.eq_1 @C.hr_b.eq_1))
def C.z11 := aI @C.gv_b.eq_1 @C.gw_b.eq_1
def C.z12 := aI @C.gx_b.eq_1 @C.gy_b.eq_1
def C.z13 := aI @C.gq_b.eq_1 (aI @C.g0_b.eq_1 @C.g1_b.eq_1)
def C.z14 := aI @C.g2_b.eq_1 @C.g3_b.eq_1
def C.z15 := aI @C.g4_b.eq_1 @C.g5_b.eq_1
def C.z16 := aI @C.g6_b.eq_1 @C.g7_b.eq_1
def C.z17 := aI @C.g8_b.eq_1 @C.g9_b.eq_1
def C.z18 := aI @C.hc_b.eq_1 (aI @C.hd_b.eq_1 (aI @C.hf_b.eq_1 (aI @C.hg_b.eq_1 (aI @C.hh_b.eq_1 (aI @C.hj_b.eq_1 (aI @C.hk_b.eq_1 (aI @C.hl_b.eq_1 @C.hm_b.eq_1)))))))
def C.z19 := aI @C.hb_b.eq_1 (aI @C.hn_b.eq_1 @C.hp_b.eq_1)
def C.z20 := aI @C.hw_b.eq_1 (aI @C.hx_b.eq_1 (aI @C.hy_b.eq_1 (aI @C.hq_b.eq_1 @C.h7_b.eq_1)))
def C.z21 := aI @C.hz_b.eq_1 (aI @C.h0_b.eq_1 (aI @C.h4_b.eq_1 (aI @C.h5_b.eq_1 @C.h6_b.eq_1)))
def C.z22 := aI @C.hv_b.eq_1 (aI @C.h1_b.eq_1 (aI @C.h2_b.eq_1 @C.h3_b.eq_1))
def C.z23 := aI @C.h8_b.eq_1 @C.h9_b.eq_1
def C.z24 := aI @C.jb_b.eq_1 @C.jc_b.eq_1
def C.z25 := aI @C.jd_b.eq_1 @C.jf_b.eq_1
def C.z26 := aI @C.jg_b.eq_1 @C.jh_b.eq_1
def C.z27 := aI @C.jj_b.eq_1 (aI @C.jk_b.eq_1 (aI @C.jl_b.eq_1 (aI @C.jm_b.eq_1 (aI @C.jn_b.eq_1 (aI @C.jp_b.eq_1 (aI @C.jr_b.eq_1 (aI @C.js_b.eq_1 @C.jt_b.eq_1)))))))
def C.z28 := aI @C.lc_b.eq_1 (aI @C.ld_b.eq_1 @C.lg_b.eq_1)
def C.z29 := aI @C.lk_b.eq_1 (aI @C.ll_b.eq_1 @C.lp_b.eq_1)
def C.z30 := aI @C.lw_b.eq_1 (aI @C.lx_b.eq_1 @C.ly_b.eq_1)
def C.z31 := aI @C.lq_b.eq_1 (aI @C.lz_b.eq_1 (aI @C.l0_b.eq_1 (aI @C.l1_b.eq_1 @C.l2_b.eq_1)))
def C.z32 := aI @C.l4_b.eq_1 (aI @C.l5_b.eq_1 (aI @C.l6_b.eq_1 (aI @C.l7_b.eq_1 (aI @C.l3_b.eq_1 (aI @C.l9_b.eq_1 (aI @C.mb_b.eq_1 (aI @C.mc_b.eq_1 (aI @C.md_b.eq_1 (aI @C.mf_b.eq_1 (aI @C.mg_b.eq_1 (aI @C.mh_b.eq_1 @C.mj_b.eq_1)))))))))))
def C.z33 := aI @C.mk_b.eq_1 (aI @C.ml_b.eq_1 (aI @C.mm_b.eq_1 (aI @C.mn_b.eq_1 (aI @C.mp_b.eq_1 @C.mr_b.eq_1))))
def C.z34 := aI @C.mv_b.eq_1 (aI @C.mq_b.eq_1 (aI @C.mz_b.eq_1 (aI @C.m0_b.eq_1 @C.m1_b.eq_1)))
def C.z35 := aI @C.mt_b.eq_1 (aI @C.mw_b.eq_1 (aI @C.mx_b.eq_1 @C.my_b.eq_1))
def C.z36 := aI @C.bkx_w (aI @C.bky_w (aI @C.bkq_w (aI @C.bkz_w (aI @C.bk0_w (aI @C.bz7_w (aI @C.d1_w (aI @C.d2_w (aI @C.d3_w @C.d4_w))))))))
def C.z37 := aI @C.bk1_w (aI @C.bk4_w (aI @C.bk5_w (aI @C.bk6_w (aI @C.bk7_w (aI @C.d9_w (aI @C.fb_w (aI @C.fc_w @C.fd_w)))))))
def C.z38 := aI @C.blg_w (aI @C.blh_w (aI @C.blj_w (aI @C.blk_w (aI @C.fh_w (aI @C.fj_w @C.fk_w)))))
def C.z39 := aI @C.blr_w (aI @C.bls_w (aI @C.blt_w (aI @C.blv_w (aI @C.blw_w (aI @C.db_w (aI @C.dc_w (aI @C.dd_w @C.df_w)))))))
def C.z40 := aI @C.bl0_w @C.b0_w
def C.z41 := aI @C.bl1_w @C.b9_w
def C.z42 := aI @C.bl3_w @C.br_w
def C.z43 := aI @C.bl6_w @C.bt_w
def C.z44 := aI @C.bl9_w @C.b8_w
def C.z45 := aI @C.bl5_w @C.bw_w
def C.z46 := aI @C.bmc_w (aI @C.bmg_w (aI @C.fz_w @C.f0_w))
def C.z47 := aI @C.bmd_w (aI @C.bmf_w @C.cb_w)
def C.z48 := aI @C.bmh_w @C.bz_w
def C.z49 := aI @C.bmj_w (aI @C.bmk_w @C.cp_w)
def C.z50 := aI @C.bml_w (aI @C.bmm_w @C.cm_w)
def C.z51 := aI @C.bmb_w (aI @C.bmn_w @C.bv_w)
def C.z52 := aI @C.bms_w @C.bp_w
def C.z53 := aI @C.bmt_w (aI @C.bmv_w (aI @C.bmw_w (aI @C.bmx_w (aI @C.fw_w (aI @C.fx_w @C.fy_w)))))
def C.z54 := aI @C.bmq_w @C.bq_w
def C.z55 := aI @C.bmy_w @C.bh_w
def C.z56 := aI @C.bm7_w @C.cn_w
def C.z57 := aI @C.bm8_w (aI @C.ft_w @C.fv_w)
def C.z58 := aI @C.bm2_w @C.cd_w
def C.z59 := aI @C.bm9_w @C.cc_w
def C.z60 := aI @C.bnb_w (aI @C.bnc_w (aI @C.bnd_w (aI @C.f3_w @C.f4_w)))
def C.z61 := aI @C.bnf_w (aI @C.bnv_w (aI @C.bnw_w (aI @C.bnx_w (aI @C.bny_w (aI @C.bnq_w (aI @C.bn5_w (aI @C.bpc_w (aI @C.bpn_w (aI @C.bpx_w (aI @C.bp2_w (aI @C.bp8_w (aI @C.hc_w (aI @C.hd_w (aI @C.hf_w (aI @C.hg_w (aI @C.hh_w (aI @C.hj_w (aI @C.hk_w (aI @C.hl_w @C.hm_w)))))))))))))))))))
def C.z62 := aI @C.bng_w (aI @C.sg_w (aI @C.bn1_w (aI @C.g8_w @C.g9_w)))
def C.z63 := aI @C.bnh_w (aI @C.bn0_w (aI @C.bn2_w (aI @C.bj7_w (aI @C.g6_w @C.g7_w))))
def C.z64 := aI @C.bnj_w (aI @C.bn3_w (aI @C.sh_w (aI @C.g4_w @C.g5_w)))
def C.z65 := aI @C.bnk_w (aI @C.bn4_w (aI @C.bn6_w (aI @C.bj8_w (aI @C.g2_w @C.g3_w))))
def C.z66 := aI @C.bnl_w (aI @C.bn7_w (aI @C.sj_w (aI @C.gx_w @C.gy_w)))
def C.z67 := aI @C.bnm_w (aI @C.bpb_w (aI @C.bpd_w (aI @C.bkb_w (aI @C.gv_w @C.gw_w))))
def C.z68 := aI @C.bnn_w (aI @C.bpg_w (aI @C.bph_w (aI @C.bpj_w (aI @C.bpk_w (aI @C.bpl_w (aI @C.bpm_w (aI @C.bpp_w (aI @C.bpr_w (aI @C.bps_w (aI @C.bpt_w (aI @C.bkc_w (aI @C.gg_w (aI @C.gh_w (aI @C.gj_w (aI @C.gk_w (aI @C.gl_w (aI @C.gn_w (aI @C.gp_w (aI @C.gr_w (aI @C.gs_w @C.gt_w))))))))))))))))))))
def C.z69 := aI @C.bnp_w (aI @C.bpf_w (aI @C.sk_w (aI @C.gd_w @C.gf_w)))
def C.z70 := aI @C.bnr_w (aI @C.bpw_w (aI @C.bpy_w (aI @C.bpq_w (aI @C.bpz_w (aI @C.sl_w (aI @C.gb_w (aI @C.gc_w (aI @C.hs_w @C.ht_w))))))))
def C.z71 := aI @C.bns_w (aI @C.bnt_w (aI @C.bp0_w (aI @C.bp1_w (aI @C.bp3_w (aI @C.bp4_w (aI @C.hb_w (aI @C.hn_w @C.hp_w)))))))
def C.z72 := aI @C.bnz_w @C.bj_w
def C.z73 := aI @C.bj6_w @C.bg_w
def C.z74 := aI @C.bn8_w (aI @C.bn9_w (aI @C.bj9_w (aI @C.gq_w (aI @C.g0_w @C.g1_w))))
def C.z75 := aI @C.bpv_w @C.bf_w
def C.z76 := aI @C.bkd_w (aI @C.bp5_w (aI @C.bp6_w (aI @C.bp7_w (aI @C.f9_w (aI @C.gm_w (aI @C.gz_w @C.hr_w))))))
def C.z77 := aI @C.bp9_w (aI @C.brb_w (aI @C.brf_w (aI @C.brg_w (aI @C.brh_w (aI @C.bkh_w (aI @C.brd_w (aI @C.brl_w (aI @C.hz_w (aI @C.h0_w (aI @C.h4_w (aI @C.h5_w @C.h6_w)))))))))))
def C.z78 := aI @C.brc_w (aI @C.brr_w (aI @C.brs_w (aI @C.brt_w (aI @C.brv_w (aI @C.bkj_w (aI @C.hw_w (aI @C.hx_w (aI @C.hy_w (aI @C.hq_w @C.h7_w)))))))))
def C.z79 := aI @C.bkg_w @C.b1_w
def C.z80 := aI @C.brj_w (aI @C.brk_w (aI @C.brm_w (aI @C.brn_w (aI @C.brp_w (aI @C.hv_w (aI @C.h1_w (aI @C.h2_w @C.h3_w)))))))
def C.z81 := aI @C.brw_w (aI @C.brx_w (aI @C.bry_w (aI @C.brq_w (aI @C.br0_w (aI @C.br1_w (aI @C.br2_w (aI @C.br3_w (aI @C.br4_w (aI @C.br5_w (aI @C.tj_w (aI @C.br6_w (aI @C.br7_w (aI @C.br8_w (aI @C.br9_w (aI @C.jj_w (aI @C.jk_w (aI @C.jl_w (aI @C.jm_w (aI @C.jn_w (aI @C.jp_w (aI @C.jr_w (aI @C.js_w @C.jt_w))))))))))))))))))))))
def C.z82 := aI @C.brz_w (aI @C.bsg_w (aI @C.tk_w (aI @C.jb_w @C.jc_w)))
def C.z83 := aI @C.bsb_w (aI @C.bsc_w (aI @C.h8_w @C.h9_w))
def C.z84 := aI @C.bsd_w (aI @C.b2_w (aI @C.jg_w @C.jh_w))
def C.z85 := aI @C.bsf_w (aI @C.bx_w (aI @C.jd_w @C.jf_w))
def C.z86 := aI @C.bt9_w (aI @C.bvb_w (aI @C.bvc_w (aI @C.bvd_w (aI @C.dg_w (aI @C.dh_w (aI @C.dj_w @C.dk_w))))))
def C.z87 := aI @C.bvg_w (aI @C.bvw_w (aI @C.bvx_w (aI @C.dn_w @C.dp_w)))
def C.z88 := aI @C.bvj_w (aI @C.bv0_w (aI @C.bv2_w (aI @C.bv3_w (aI @C.lc_w (aI @C.ld_w @C.lg_w)))))
def C.z89 := aI @C.bvl_w (aI @C.bv5_w (aI @C.bv8_w (aI @C.bwb_w (aI @C.dl_w (aI @C.dt_w @C.dv_w)))))
def C.z90 := aI @C.bvn_w (aI @C.bv9_w (aI @C.bwm_w (aI @C.bwn_w (aI @C.lk_w (aI @C.ll_w @C.lp_w)))))
def C.z91 := aI @C.bvs_w (aI @C.bvt_w (aI @C.bvv_w (aI @C.c3_w @C.c4_w)))
def C.z92 := aI @C.bvp_w (aI @C.bvz_w (aI @C.bvy_w (aI @C.dm_w (aI @C.dr_w @C.ds_w))))
def C.z93 := aI @C.bkr_w @C.b7_w
def C.z94 := aI @C.bgh_w @C.cf_w
def C.z95 := aI @C.bwp_w (aI @C.bwr_w (aI @C.bwz_w (aI @C.bw0_w (aI @C.lw_w (aI @C.lx_w @C.ly_w)))))
def C.z96 := aI @C.bws_w @C.bl_w
def C.z97 := aI @C.bwt_w (aI @C.bwv_w (aI @C.bww_w (aI @C.bwx_w (aI @C.bwy_w (aI @C.bwq_w (aI @C.lq_w (aI @C.lz_w (aI @C.l0_w (aI @C.l1_w @C.l2_w)))))))))
def C.z98 := aI @C.bw1_w (aI @C.bw6_w (aI @C.bw7_w (aI @C.c6_w @C.c7_w)))
def C.z99 := aI @C.bw3_w (aI @C.bw4_w (aI @C.bxx_w (aI @C.dw_w @C.dx_w)))
def C.z100 := aI @C.bw5_w @C.c8_w
def C.z101 := aI @C.bxb_w (aI @C.bxc_w (aI @C.bxd_w (aI @C.bxf_w (aI @C.bxg_w (aI @C.bxh_w (aI @C.bxj_w (aI @C.bxk_w (aI @C.bxl_w (aI @C.bxm_w (aI @C.bxn_w (aI @C.bxp_w (aI @C.bxr_w (aI @C.bxs_w (aI @C.bxt_w (aI @C.bxv_w (aI @C.bxw_w (aI @C.l4_w (aI @C.l5_w (aI @C.l6_w (aI @C.l7_w (aI @C.l3_w (aI @C.l9_w (aI @C.mb_w (aI @C.mc_w (aI @C.md_w (aI @C.mf_w (aI @C.mg_w (aI @C.mh_w @C.mj_w))))))))))))))))))))))))))))
def C.z102 := aI @C.bkt_w @C.ch_w
def C.z103 := aI @C.bkv_w @C.cg_w
def C.z104 := aI @C.bkw_w @C.c9_w
def C.z105 := aI @C.bxy_w (aI @C.bxq_w (aI @C.bxz_w (aI @C.bx0_w (aI @C.bx1_w (aI @C.bx2_w (aI @C.bx3_w (aI @C.mk_w (aI @C.ml_w (aI @C.mm_w (aI @C.mn_w (aI @C.mp_w @C.mr_w)))))))))))
def C.z106 := aI @C.bx4_w (aI @C.bx5_w (aI @C.bx7_w (aI @C.bx6_w (aI @C.byf_w (aI @C.byg_w (aI @C.byh_w (aI @C.byj_w (aI @C.mv_w (aI @C.mq_w (aI @C.mz_w (aI @C.m0_w @C.m1_w)))))))))))
def C.z107 := aI @C.bx8_w (aI @C.bx9_w (aI @C.byb_w (aI @C.byc_w (aI @C.byd_w (aI @C.mt_w (aI @C.mw_w (aI @C.mx_w @C.my_w)))))))
def C.z108 := aI @C.byp_w (aI @C.byr_w (aI @C.bys_w (aI @C.byt_w (aI @C.dy_w (aI @C.dq_w (aI @C.dz_w @C.d0_w))))))
def Bt := aI @Bp (aI @aop.eq_28 @aop.eq_30)
def Bu := aI @Bq @Bs
end Go.Proofs.YtdmfgodajoojpaaGreatDoor.Cn
