/- The intermediate code of the functions, printed by a program out of the loaded program; that it is theirs is checked in the text of links. -/
import Derived.Test.YtdmfgodajoojpaaGreatDoorCnIr1
set_option linter.defProp false
namespace Go.Proofs.YtdmfgodajoojpaaGreatDoor.Cn
open Go
variable {P : Program} {Q : IExit → AFr → ASt → Prop} {fr : AFr} {st : ASt}


def C.ds_b : LO := [
 X.m 110 5,
 X.m 4 110]
def C.ds : LO := C.ds_b
def C.ds_w := pO C.ds.eq_1
def C.bvp : ICode := .keep [5] (.seq (.region C.ds) .ret)
def C.bvp_w := pC C.bvp.eq_1
def C.dr_b : LO := [
 X.m 105 0,
 X.o 106 (.nilchk (X.s 105)),
 X.o 107 (.fldAddr 2 (X.s 106)),
 X.o 108 (.load1 (X.s 107)),
 X.o 109 (.call F.q119 [X.s 108])]
def C.dr : LO := C.dr_b
def C.dr_w := pO C.dr.eq_1
def C.bvy : ICode := .keep [0, 5] (.seq (.region C.dr) C.bvp)
def C.bvy_w := pC C.bvy.eq_1
def C.cf_b : LO := [
 X.o 104 (.bin .add (X.s 76) (X.i 1)),
 X.m 76 104]
def C.cf : LO := C.cf_b
def C.cf_w := pO C.cf.eq_1
def C.bgh : ICode := .keep [0, 5, 74, 75, 76] (.region C.cf)
def C.bgh_w := pC C.bgh.eq_1
def C.lp_b : LO := [
 X.o 103 (.bin .add (X.s 90) (X.i 1)),
 X.m 90 103]
def C.lp : LO := C.lp_b
def C.lp_w := pO C.lp.eq_1
def C.bv9 : ICode := .keep [0, 5, 12, 13, 74, 75, 76, 88, 89, 90] (.region C.lp)
def C.bv9_w := pC C.bv9.eq_1
def C.ln_b : LO := [
 X.m 99 13,
 X.o 100 (.fldAddr 4 (X.s 15)),
 X.o 101 (.load1 (X.s 100)),
 X.o 102 (.callv (X.s 99) [X.s 101])]
def C.ln : LO := C.ln_b
def C.ln_w := pO C.ln.eq_1
def C.bwk : ICode := .keep [0, 5, 12, 13, 15, 74, 75, 76, 88, 89, 90, 98] (.cond (X.s 98) (.region C.ln) .skip)
def C.bwk_w := pC C.bwk.eq_1
def C.lm_b : LO := [
 X.o 94 (.fldAddr 1 (X.s 15)),
 X.o 95 (.load1 (X.s 94)),
 X.o 96 (.fldAddr 1 (X.s 12)),
 X.o 97 (.load1 (X.s 96)),
 X.o 98 (.bin .eql (X.s 95) (X.s 97))]
def C.lm : LO := C.lm_b
def C.lm_w := pO C.lm.eq_1
def C.bwl : ICode := .keep [0, 5, 12, 13, 15, 74, 75, 76, 88, 89, 90] (.seq (.region C.lm) C.bwk)
def C.bwl_w := pC C.bwl.eq_1
def C.ll_b : LO := [
 X.o 92 (.idxAddr 6 (X.s 88) (X.s 90)),
 X.o 93 (.loadN 6 (X.s 92)),
 X.o 15 (.alloc [.int .i64 0, .int .i64 0, .int .i64 0, .int .u32 0, .nilp, .nilp]),
 X.n (.storeN 6 (X.s 15) (X.s 93))]
def C.ll : LO := C.ll_b
def C.ll_w := pO C.ll.eq_1
def C.bvn : ICode := .seq (.region C.ll) C.bwl
def C.bvn_w := pC C.bvn.eq_1
def C.bwm : ICode := .keep [0, 5, 12, 13, 74, 75, 76, 88, 89, 90] (.seq (.block 7 C.bvn) C.bv9)
def C.bwm_w := pC C.bwm.eq_1
def C.bwn : ICode := .keep [0, 5, 12, 13, 74, 75, 76, 88, 89, 90, 91] (.seq (.cond (X.s 91) .skip (.exit 6)) C.bwm)
def C.bwn_w := pC C.bwn.eq_1
def C.lk_b : LO := [
 X.o 91 (.bin .lss (X.s 90) (X.s 89))]
def C.lk : LO := C.lk_b
def C.lk_w := pO C.lk.eq_1
def C.cg0 : ICode := .keep [0, 5, 12, 13, 74, 75, 76, 88, 89, 90] (.seq (.region C.lk) C.bwn)
def C.cg0_w := pC C.cg0.eq_1
def C.bvf : ICode := .loop C.cg0
def C.bvf_w := pC C.bvf.eq_1
def C.bvr : ICode := .keep [0, 5, 12, 13, 74, 75, 76, 88, 89, 90] (.block 6 C.bvf)
def C.bvr_w := pC C.bvr.eq_1
def C.lj_b : LO := [
 X.m 85 0,
 X.o 86 (.nilchk (X.s 85)),
 X.o 87 (.fldAddr 4 (X.s 86)),
 X.o 88 (.load1 (X.s 87)),
 X.o 89 (.len (X.s 88)),
 X.o 90 (.move (X.i 0))]
def C.lj : LO := C.lj_b
def C.lj_w := pO C.lj.eq_1
def C.bkp : ICode := .keep [0, 5, 12, 13, 74, 75, 76] (.seq (.region C.lj) C.bvr)
def C.bkp_w := pC C.bkp.eq_1
def C.bvs : ICode := .keep [0, 5, 12, 13, 74, 75, 76, 84] (.cond (X.s 84) (.exit 5) .skip)
def C.bvs_w := pC C.bvs.eq_1
def C.c4_b : LO := [
 X.m 83 13,
 X.o 84 (.eqP 3 false (X.s 83) (.cst (.nilf)))]
def C.c4 : LO := C.c4_b
def C.c4_w := pO C.c4.eq_1
def C.bvt : ICode := .keep [0, 5, 12, 13, 74, 75, 76] (.seq (.seq (.region C.c4) C.bvs) C.bkp)
def C.bvt_w := pC C.bvt.eq_1
def C.c3_b : LO := [
 X.o 80 (.fldAddr 0 (X.s 12)),
 X.o 81 (.load1 (X.s 80)),
 X.o 82 (.call F.q92 [X.s 81]),
 X.m 13 82]
def C.c3 : LO := C.c3_b
def C.c3_w := pO C.c3.eq_1
def C.bvv : ICode := .keep [0, 5, 12, 74, 75, 76] (.seq (.region C.c3) C.bvt)
def C.bvv_w := pC C.bvv.eq_1
def C.dp_b : LO := [
 X.o 78 (.idxAddr 2 (X.s 74) (X.s 76)),
 X.o 79 (.loadN 2 (X.s 78)),
 X.o 12 (.alloc [.int .u8 0, .int .i64 0]),
 X.n (.storeN 2 (X.s 12) (X.s 79))]
def C.dp : LO := C.dp_b
def C.dp_w := pO C.dp.eq_1
def C.bvg : ICode := .seq (.region C.dp) C.bvv
def C.bvg_w := pC C.bvg.eq_1
def C.bvw : ICode := .keep [0, 5, 74, 75, 76] (.seq (.block 5 C.bvg) C.bgh)
def C.bvw_w := pC C.bvw.eq_1
def C.bvx : ICode := .keep [0, 5, 74, 75, 76, 77] (.seq (.cond (X.s 77) .skip (.exit 4)) C.bvw)
def C.bvx_w := pC C.bvx.eq_1
def C.dn_b : LO := [
 X.o 77 (.bin .lss (X.s 76) (X.s 75))]
def C.dn : LO := C.dn_b
def C.dn_w := pO C.dn.eq_1
def C.cg1 : ICode := .keep [0, 5, 74, 75, 76] (.seq (.region C.dn) C.bvx)
def C.cg1_w := pC C.cg1.eq_1
def C.bvh : ICode := .loop C.cg1
def C.bvh_w := pC C.bvh.eq_1
def C.bvq : ICode := .keep [0, 5, 74, 75, 76] (.block 4 C.bvh)
def C.bvq_w := pC C.bvq.eq_1
def C.dm_b : LO := [
 X.m 70 0,
 X.o 71 (.nilchk (X.s 70)),
 X.o 72 (.fldAddr 1 (X.s 71)),
 X.o 73 (.load1 (X.s 72)),
 X.o 74 (.call F.q94 [X.s 73]),
 X.o 75 (.len (X.s 74)),
 X.o 76 (.move (X.i 0))]
def C.dm : LO := C.dm_b
def C.dm_w := pO C.dm.eq_1
def C.bvz : ICode := .keep [0, 5] (.seq (.seq (.region C.dm) C.bvq) C.bvy)
def C.bvz_w := pC C.bvz.eq_1
def C.c2_b : LO := [
 X.m 65 0,
 X.o 66 (.nilchk (X.s 65)),
 X.o 67 (.fldAddr 0 (X.s 66)),
 X.o 68 (.load1 (X.s 67)),
 X.o 69 (.call F.q19 [X.s 68])]
def C.c2 : LO := C.c2_b
def C.c2_w := pO C.c2.eq_1
def C.k7 : ICode := .keep [0, 5] (.seq (.region C.c2) C.bvz)
def C.k7_w := pC C.k7.eq_1
def C.lg_b : LO := [
 X.o 64 (.bin .add (X.s 44) (X.i 1)),
 X.m 44 64]
def C.lg : LO := C.lg_b
def C.lg_w := pO C.lg.eq_1
def C.bv0 : ICode := .keep [0, 1, 5, 42, 43, 44] (.region C.lg)
def C.bv0_w := pC C.bv0.eq_1
def C.lf_b : LO := [
 X.o 49 (.fldAddr 5 (X.s 10)),
 X.o 50 (.load1 (X.s 49)),
 X.m 51 0,
 X.o 52 (.nilchk (X.s 51)),
 X.o 53 (.fldAddr 3 (X.s 52)),
 X.o 54 (.load1 (X.s 53)),
 X.m 55 9,
 X.m 58 1,
 X.m 59 9,
 X.o 60 (.bin .shr (X.s 58) (X.s 59)),
 X.o 61 (.bin .and (X.s 60) (.cst (.int .u32 1))),
 X.o 62 (.bin .eql (X.s 61) (.cst (.int .u32 1))),
 ⟨some 56, .call F.q7 [X.s 54, X.s 55], none, [⟨.load1 (X.s 49), 50, none⟩], []⟩,
 X.o 57 (.bin .gtr (X.s 56) (X.i 0)),
 X.o 63 (.call F.q103 [X.s 50, X.s 57, X.s 62])]
def C.lf : LO := C.lf_b
def C.lf_w := pO C.lf.eq_1
def C.bv1 : ICode := .keep [0, 1, 5, 9, 10, 42, 43, 44] (.region C.lf)
def C.bv1_w := pC C.bv1.eq_1
def C.ld_b : LO := [
 X.m 46 44,
 X.o 47 (.idxAddr 6 (X.s 42) (X.s 44)),
 X.o 48 (.loadN 6 (X.s 47)),
 X.o 10 (.alloc [.int .i64 0, .int .i64 0, .int .i64 0, .int .u32 0, .nilp, .nilp]),
 X.m 9 46,
 X.n (.storeN 6 (X.s 10) (X.s 48))]
def C.ld : LO := C.ld_b
def C.ld_w := pO C.ld.eq_1
def C.bvj : ICode := .seq (.region C.ld) C.bv1
def C.bvj_w := pC C.bvj.eq_1
def C.bv2 : ICode := .keep [0, 1, 5, 42, 43, 44] (.seq (.block 3 C.bvj) C.bv0)
def C.bv2_w := pC C.bv2.eq_1
def C.bv3 : ICode := .keep [0, 1, 5, 42, 43, 44, 45] (.seq (.cond (X.s 45) .skip (.exit 2)) C.bv2)
def C.bv3_w := pC C.bv3.eq_1
def C.lc_b : LO := [
 X.o 45 (.bin .lss (X.s 44) (X.s 43))]
def C.lc : LO := C.lc_b
def C.lc_w := pO C.lc.eq_1
def C.cg2 : ICode := .keep [0, 1, 5, 42, 43, 44] (.seq (.region C.lc) C.bv3)
def C.cg2_w := pC C.cg2.eq_1
def C.bvk : ICode := .loop C.cg2
def C.bvk_w := pC C.bvk.eq_1
def C.bv4 : ICode := .keep [0, 1, 5, 42, 43, 44] (.block 2 C.bvk)
def C.bv4_w := pC C.bv4.eq_1
def C.lb_b : LO := [
 X.m 39 0,
 X.o 40 (.nilchk (X.s 39)),
 X.o 41 (.fldAddr 4 (X.s 40)),
 X.o 42 (.load1 (X.s 41)),
 X.o 43 (.len (X.s 42)),
 X.o 44 (.move (X.i 0))]
def C.lb : LO := C.lb_b
def C.lb_w := pO C.lb.eq_1
def C.bgj : ICode := .keep [0, 1, 5] (.seq (.seq (.region C.lb) C.bv4) C.k7)
def C.bgj_w := pC C.bgj.eq_1
def C.dl_b : LO := [
 X.o 38 (.bin .add (X.s 24) (X.i 1)),
 X.m 24 38]
def C.dl : LO := C.dl_b
def C.dl_w := pO C.dl.eq_1
def C.bv5 : ICode := .keep [0, 1, 5, 23, 24] (.region C.dl)
def C.bv5_w := pC C.bv5.eq_1
def C.lv_b : LO := [
 X.m 34 5,
 X.o 35 (.loadN 4 (X.s 7)),
 X.o 36 (.buildSlice 4 1 [.int .i64 0, .int .i64 0, .bool false, .int .u32 0] [(0, 4, X.s 35)]),
 X.o 37 (.append 4 24 (X.s 34) (X.s 36)),
 X.m 5 37]
def C.lv : LO := C.lv_b
def C.lv_w := pO C.lv.eq_1
def C.bv6 : ICode := .keep [0, 1, 5, 7, 23, 24, 33] (.cond (X.s 33) (.region C.lv) .skip)
def C.bv6_w := pC C.bv6.eq_1
def C.lt_b : LO := [
 X.m 33 8]
def C.lt : LO := C.lt_b
def C.lt_w := pO C.lt.eq_1
def C.bv7 : ICode := .keep [0, 1, 5, 7, 8, 23, 24] (.seq (.region C.lt) C.bv6)
def C.bv7_w := pC C.bv7.eq_1
def C.b7_b : LO := [
 X.m 28 0,
 X.m 29 6,
 X.o 30 (.call F.q88 [X.s 28, X.s 29]),
 X.m 27 30,
 X.o 31 (.extract (X.s 27) 0),
 X.o 32 (.extract (X.s 27) 1),
 X.o 7 (.alloc [.int .i64 0, .int .i64 0, .bool false, .int .u32 0]),
 X.n (.storeN 4 (X.s 7) (X.s 31)),
 X.m 8 32]
def C.b7 : LO := C.b7_b
def C.b7_w := pO C.b7.eq_1
def C.bkr : ICode := .keep [0, 1, 5, 6, 23, 24] (.seq (.region C.b7) C.bv7)
def C.bkr_w := pC C.bkr.eq_1
def C.dv_b : LO := [
 X.m 26 24,
 X.m 6 26]
def C.dv : LO := C.dv_b
def C.dv_w := pO C.dv.eq_1
def C.bvl : ICode := .seq (.region C.dv) C.bkr
def C.bvl_w := pC C.bvl.eq_1
def C.bv8 : ICode := .keep [0, 1, 5, 23, 24] (.seq (.block 1 C.bvl) C.bv5)
def C.bv8_w := pC C.bv8.eq_1
def C.bwb : ICode := .keep [0, 1, 5, 23, 24, 25] (.seq (.cond (X.s 25) .skip (.exit 0)) C.bv8)
def C.bwb_w := pC C.bwb.eq_1
def C.dt_b : LO := [
 X.o 25 (.bin .lss (X.s 24) (X.s 23))]
def C.dt : LO := C.dt_b
def C.dt_w := pO C.dt.eq_1
def C.cg3 : ICode := .keep [0, 1, 5, 23, 24] (.seq (.region C.dt) C.bwb)
def C.cg3_w := pC C.cg3.eq_1
def C.bvm : ICode := .loop C.cg3
def C.bvm_w := pC C.bvm.eq_1
def C.bwc : ICode := .keep [0, 1, 5, 23, 24] (.block 0 C.bvm)
def C.bwc_w := pC C.bwc.eq_1
def C.ls_b : LO := [
 X.m 19 0,
 X.o 20 (.nilchk (X.s 19)),
 X.o 21 (.fldAddr 4 (X.s 20)),
 X.o 22 (.load1 (X.s 21)),
 X.o 23 (.len (X.s 22)),
 X.o 24 (.move (X.i 0))]
def C.ls : LO := C.ls_b
def C.ls_w := pO C.ls.eq_1
def C.bwd : ICode := .keep [0, 1, 5] (.seq (.seq (.region C.ls) C.bwc) C.bgj)
def C.bwd_w := pC C.bwd.eq_1
def C.lr_b : LO := [
 X.o 5 (.move (.cst (.nils)))]
def C.lr : LO := C.lr_b
def C.lr_w := pO C.lr.eq_1
def C.bwf : ICode := .keep [0, 1] (.seq (.region C.lr) C.bwd)
def C.bwf_w := pC C.bwf.eq_1
def C.lh_b : LO := [
 X.o 4 (.move (.cst (.nils)))]
def C.lh : LO := C.lh_b
def C.lh_w := pO C.lh.eq_1
def C.bwg : ICode := .seq (.region C.lh) .ret
def C.bwg_w := pC C.bwg.eq_1
def C.bwh : ICode := .keep [0, 1, 18] (.cond (X.s 18) C.bwg .skip)
def C.bwh_w := pC C.bwh.eq_1
def C.k9_b : LO := [
 X.m 16 0,
 X.o 17 (.call F.q90 [X.s 16]),
 X.o 18 (.un .not (X.s 17))]
def C.k9 : LO := C.k9_b
def C.k9_w := pO C.k9.eq_1
def C.bwj : ICode := .keep [0, 1] (.seq (.seq (.region C.k9) C.bwh) C.bwf)
def C.bwj_w := pC C.bwj.eq_1
def C.k8_b : LO := [
 X.o 4 (.move (.cst (.nils)))]
def C.k8 : LO := C.k8_b
def C.k8_w := pO C.k8.eq_1
def C.q85 : IFunc := ⟨2, [.slot 4], .seq (.region C.k8) C.bwj⟩
def C.q85_W := aI (aI (aI (aI (aI (aI @C.ds_w @C.bvp_w) (aI @C.dr_w @C.bvy_w)) (aI (aI @C.cf_w @C.bgh_w) (aI @C.lp_w (aI @C.bv9_w @C.ln_w)))) (aI (aI (aI @C.bwk_w @C.lm_w) (aI @C.bwl_w @C.ll_w)) (aI (aI @C.bvn_w @C.bwm_w) (aI @C.bwn_w (aI @C.lk_w @C.bvf_w))))) (aI (aI (aI (aI @C.bvr_w @C.lj_w) (aI @C.bkp_w @C.bvs_w)) (aI (aI @C.c4_w @C.bvt_w) (aI @C.c3_w (aI @C.bvv_w @C.dp_w)))) (aI (aI (aI @C.bvg_w @C.bvw_w) (aI @C.bvx_w (aI @C.dn_w @C.bvh_w))) (aI (aI @C.bvq_w @C.dm_w) (aI @C.bvz_w (aI @C.c2_w @C.k7_w)))))) (aI (aI (aI (aI (aI @C.lg_w @C.bv0_w) (aI @C.lf_w @C.bv1_w)) (aI (aI @C.ld_w @C.bvj_w) (aI @C.bv2_w (aI @C.bv3_w @C.lc_w)))) (aI (aI (aI @C.bvk_w @C.bv4_w) (aI @C.lb_w (aI @C.bgj_w @C.dl_w))) (aI (aI @C.bv5_w @C.lv_w) (aI @C.bv6_w (aI @C.lt_w @C.bv7_w))))) (aI (aI (aI (aI @C.b7_w @C.bkr_w) (aI @C.dv_w @C.bvl_w)) (aI (aI @C.bv8_w @C.bwb_w) (aI @C.dt_w (aI @C.bvm_w @C.bwc_w)))) (aI (aI (aI @C.ls_w @C.bwd_w) (aI @C.lr_w (aI @C.bwf_w @C.lh_w))) (aI (aI @C.bwg_w @C.bwh_w) (aI @C.k9_w (aI @C.bwj_w @C.k8_w))))))
def C.q85_B := aI (aI (aI (aI @C.ds_b.eq_1 (aI @C.dr_b.eq_1 @C.cf_b.eq_1)) (aI (aI @C.lp_b.eq_1 @C.ln_b.eq_1) (aI @C.lm_b.eq_1 @C.ll_b.eq_1))) (aI (aI (aI @C.lk_b.eq_1 @C.lj_b.eq_1) (aI @C.c4_b.eq_1 @C.c3_b.eq_1)) (aI (aI @C.dp_b.eq_1 @C.dn_b.eq_1) (aI @C.dm_b.eq_1 @C.c2_b.eq_1)))) (aI (aI (aI (aI @C.lg_b.eq_1 @C.lf_b.eq_1) (aI @C.ld_b.eq_1 @C.lc_b.eq_1)) (aI (aI @C.lb_b.eq_1 @C.dl_b.eq_1) (aI @C.lv_b.eq_1 @C.lt_b.eq_1))) (aI (aI (aI @C.b7_b.eq_1 @C.dv_b.eq_1) (aI @C.dt_b.eq_1 @C.ls_b.eq_1)) (aI (aI @C.lr_b.eq_1 @C.lh_b.eq_1) (aI @C.k9_b.eq_1 @C.k8_b.eq_1))))

def C.bgg_b : LO := [
 X.m 9 0,
 X.o 10 (.nilchk (X.s 9)),
 X.o 11 (.fldAddr 4 (X.s 10)),
 X.o 12 (.load1 (X.s 11)),
 X.m 13 1,
 X.o 14 (.idxAddr 6 (X.s 12) (X.s 13)),
 X.o 15 (.fldAddr 5 (X.s 14)),
 X.o 16 (.load1 (X.s 15)),
 X.o 17 (.call F.q102 [X.s 16]),
 X.m 4 17]
def C.bgg : LO := C.bgg_b
def C.bgg_w := pO C.bgg.eq_1
def C.cb4 : ICode := .keep [0, 1] (.seq (.region C.bgg) .ret)
def C.cb4_w := pC C.cb4.eq_1
def C.bgf_b : LO := [
 X.o 4 (.move (.cst (.int .u8 0)))]
def C.bgf : LO := C.bgf_b
def C.bgf_w := pO C.bgf.eq_1
def C.cb5 : ICode := .seq (.region C.bgf) .ret
def C.cb5_w := pC C.cb5.eq_1
def C.cb6 : ICode := .keep [0, 1, 8] (.cond (X.s 8) C.cb5 .skip)
def C.cb6_w := pC C.cb6.eq_1
def C.bgd_b : LO := [
 X.m 5 0,
 X.m 6 1,
 X.o 7 (.call F.q89 [X.s 5, X.s 6]),
 X.o 8 (.un .not (X.s 7))]
def C.bgd : LO := C.bgd_b
def C.bgd_w := pO C.bgd.eq_1
def C.cb7 : ICode := .keep [0, 1] (.seq (.seq (.region C.bgd) C.cb6) C.cb4)
def C.cb7_w := pC C.cb7.eq_1
def C.bgc_b : LO := [
 X.o 4 (.move (.cst (.int .u8 0)))]
def C.bgc : LO := C.bgc_b
def C.bgc_w := pO C.bgc.eq_1
def C.q84 : IFunc := ⟨2, [.slot 4], .seq (.region C.bgc) C.cb7⟩
def C.q84_W := aI (aI (aI @C.bgg_w @C.cb4_w) (aI @C.bgf_w @C.cb5_w)) (aI (aI @C.cb6_w @C.bgd_w) (aI @C.cb7_w @C.bgc_w))
def C.q84_B := aI (aI @C.bgg_b.eq_1 @C.bgf_b.eq_1) (aI @C.bgd_b.eq_1 @C.bgc_b.eq_1)

def C.bf1_b : LO := [
 X.m 9 0,
 X.o 10 (.nilchk (X.s 9)),
 X.o 11 (.fldAddr 4 (X.s 10)),
 X.o 12 (.load1 (X.s 11)),
 X.m 13 1,
 X.o 14 (.idxAddr 6 (X.s 12) (X.s 13)),
 X.o 15 (.fldAddr 5 (X.s 14)),
 X.o 16 (.load1 (X.s 15)),
 X.o 17 (.call F.q101 [X.s 16]),
 X.m 4 17]
def C.bf1 : LO := C.bf1_b
def C.bf1_w := pO C.bf1.eq_1
def C.cbr : ICode := .keep [0, 1] (.seq (.region C.bf1) .ret)
def C.cbr_w := pC C.cbr.eq_1
def C.bf0_b : LO := [
 X.o 4 (.move (X.i 4))]
def C.bf0 : LO := C.bf0_b
def C.bf0_w := pO C.bf0.eq_1
def C.cbs : ICode := .seq (.region C.bf0) .ret
def C.cbs_w := pC C.cbs.eq_1
def C.cbt : ICode := .keep [0, 1, 8] (.cond (X.s 8) C.cbs .skip)
def C.cbt_w := pC C.cbt.eq_1
def C.bfz_b : LO := [
 X.m 5 0,
 X.m 6 1,
 X.o 7 (.call F.q89 [X.s 5, X.s 6]),
 X.o 8 (.un .not (X.s 7))]
def C.bfz : LO := C.bfz_b
def C.bfz_w := pO C.bfz.eq_1
def C.cbv : ICode := .keep [0, 1] (.seq (.seq (.region C.bfz) C.cbt) C.cbr)
def C.cbv_w := pC C.cbv.eq_1
def C.bfq_b : LO := [
 X.o 4 (.move (X.i 0))]
def C.bfq : LO := C.bfq_b
def C.bfq_w := pO C.bfq.eq_1
def C.q81 : IFunc := ⟨2, [.slot 4], .seq (.region C.bfq) C.cbv⟩
def C.q81_W := aI (aI (aI @C.bf1_w @C.cbr_w) (aI @C.bf0_w @C.cbs_w)) (aI (aI @C.cbt_w @C.bfz_w) (aI @C.cbv_w @C.bfq_w))
def C.q81_B := aI (aI @C.bf1_b.eq_1 @C.bf0_b.eq_1) (aI @C.bfz_b.eq_1 @C.bfq_b.eq_1)

def C.bgt_b : LO := [
 X.m 9 0,
 X.o 10 (.nilchk (X.s 9)),
 X.o 11 (.fldAddr 3 (X.s 10)),
 X.o 12 (.load1 (X.s 11)),
 X.m 13 1,
 X.o 14 (.call F.q7 [X.s 12, X.s 13]),
 X.m 4 14]
def C.bgt : LO := C.bgt_b
def C.bgt_w := pO C.bgt.eq_1
def C.ccd : ICode := .keep [0, 1] (.seq (.region C.bgt) .ret)
def C.ccd_w := pC C.ccd.eq_1
def C.bgs_b : LO := [
 X.o 4 (.move (X.i 0))]
def C.bgs : LO := C.bgs_b
def C.bgs_w := pO C.bgs.eq_1
def C.ccf : ICode := .seq (.region C.bgs) .ret
def C.ccf_w := pC C.ccf.eq_1
def C.ccg : ICode := .keep [0, 1, 8] (.cond (X.s 8) C.ccf .skip)
def C.ccg_w := pC C.ccg.eq_1
def C.bgr_b : LO := [
 X.m 5 0,
 X.m 6 1,
 X.o 7 (.call F.q89 [X.s 5, X.s 6]),
 X.o 8 (.un .not (X.s 7))]
def C.bgr : LO := C.bgr_b
def C.bgr_w := pO C.bgr.eq_1
def C.cch : ICode := .keep [0, 1] (.seq (.seq (.region C.bgr) C.ccg) C.ccd)
def C.cch_w := pC C.cch.eq_1
def C.bgp_b : LO := [
 X.o 4 (.move (X.i 0))]
def C.bgp : LO := C.bgp_b
def C.bgp_w := pO C.bgp.eq_1
def C.q87 : IFunc := ⟨2, [.slot 4], .seq (.region C.bgp) C.cch⟩
def C.q87_W := aI (aI (aI @C.bgt_w @C.ccd_w) (aI @C.bgs_w @C.ccf_w)) (aI (aI @C.ccg_w @C.bgr_w) (aI @C.cch_w @C.bgp_w))
def C.q87_B := aI (aI @C.bgt_b.eq_1 @C.bgs_b.eq_1) (aI @C.bgr_b.eq_1 @C.bgp_b.eq_1)

def C.bfl_b : LO := [
 X.m 17 0,
 X.o 18 (.nilchk (X.s 17)),
 X.o 19 (.fldAddr 0 (X.s 18)),
 X.o 20 (.load1 (X.s 19)),
 X.o 21 (.fldAddr 0 (X.s 5)),
 X.o 22 (.load1 (X.s 21)),
 X.o 23 (.call F.q17 [X.s 20, X.s 22]),
 X.m 24 23,
 X.t 24 25 (.move (X.s 0)),
 X.t 24 26 (.nilchk (X.s 25)),
 X.t 24 27 (.fldAddr 1 (X.s 26)),
 X.t 24 28 (.load1 (X.s 27)),
 X.t 24 29 (.fldAddr 1 (X.s 5)),
 X.t 24 30 (.load1 (X.s 29)),
 X.t 24 31 (.call F.q93 [X.s 28, X.s 30]),
 X.t 24 32 (.bin .eql (X.s 31) (.cst (.int .u8 49))),
 X.o 33 (.pick (X.s 24) (X.s 32) (.cst (.bool false))),
 X.m 34 33,
 X.t 34 35 (.move (X.s 0)),
 X.t 34 36 (.nilchk (X.s 35)),
 X.t 34 37 (.fldAddr 2 (X.s 36)),
 X.t 34 38 (.load1 (X.s 37)),
 X.t 34 39 (.fldAddr 2 (X.s 5)),
 X.t 34 40 (.load1 (X.s 39)),
 X.t 34 41 (.call F.q118 [X.s 38, X.s 40]),
 X.t 34 42 (.un .not (X.s 41)),
 X.o 43 (.pick (X.s 34) (X.s 42) (.cst (.bool false))),
 X.m 4 43]
def C.bfl : LO := C.bfl_b
def C.bfl_w := pO C.bfl.eq_1
def C.cbd : ICode := .keep [0, 5] (.seq (.region C.bfl) .ret)
def C.cbd_w := pC C.cbd.eq_1
def C.dk_b : LO := [
 X.m 10 0,
 X.o 11 (.nilchk (X.s 10)),
 X.o 12 (.fldAddr 4 (X.s 11)),
 X.o 13 (.load1 (X.s 12)),
 X.m 14 1,
 X.o 15 (.idxAddr 6 (X.s 13) (X.s 14)),
 X.o 16 (.loadN 6 (X.s 15)),
 X.o 5 (.alloc [.int .i64 0, .int .i64 0, .int .i64 0, .int .u32 0, .nilp, .nilp]),
 X.n (.storeN 6 (X.s 5) (X.s 16))]
def C.dk : LO := C.dk_b
def C.dk_w := pO C.dk.eq_1
def C.bt9 : ICode := .keep [0, 1] (.seq (.region C.dk) C.cbd)
def C.bt9_w := pC C.bt9.eq_1
def C.dj_b : LO := [
 X.o 4 (.move (.cst (.bool false)))]
def C.dj : LO := C.dj_b
def C.dj_w := pO C.dj.eq_1
def C.bvb : ICode := .seq (.region C.dj) .ret
def C.bvb_w := pC C.bvb.eq_1
def C.bvc : ICode := .keep [0, 1, 9] (.cond (X.s 9) C.bvb .skip)
def C.bvc_w := pC C.bvc.eq_1
def C.dh_b : LO := [
 X.m 6 0,
 X.m 7 1,
 X.o 8 (.call F.q89 [X.s 6, X.s 7]),
 X.o 9 (.un .not (X.s 8))]
def C.dh : LO := C.dh_b
def C.dh_w := pO C.dh.eq_1
def C.bvd : ICode := .keep [0, 1] (.seq (.seq (.region C.dh) C.bvc) C.bt9)
def C.bvd_w := pC C.bvd.eq_1
def C.dg_b : LO := [
 X.o 4 (.move (.cst (.bool false)))]
def C.dg : LO := C.dg_b
def C.dg_w := pO C.dg.eq_1
def C.q78 : IFunc := ⟨2, [.slot 4], .seq (.region C.dg) C.bvd⟩
def C.q78_W := aI (aI (aI @C.bfl_w @C.cbd_w) (aI @C.dk_w (aI @C.bt9_w @C.dj_w))) (aI (aI @C.bvb_w @C.bvc_w) (aI @C.dh_w (aI @C.bvd_w @C.dg_w)))
def C.q78_B := aI (aI @C.bfl_b.eq_1 @C.dk_b.eq_1) (aI @C.dj_b.eq_1 (aI @C.dh_b.eq_1 @C.dg_b.eq_1))

def C.t4_b : LO := [
 X.o 3 (.makeFunc F.q23 [X.s 1]),
 X.o 4 (.makeFunc F.q24 [X.s 1]),
 X.o 5 (.makeFunc F.q26 [X.s 1]),
 X.o 6 (.makeFunc F.q27 [X.s 1]),
 X.o 7 (.makeFunc F.q29 [X.s 1]),
 X.o 8 (.makeFunc F.q30 [X.s 1]),
 X.o 9 (.makeFunc F.q31 [X.s 1]),
 X.o 10 (.makeFunc F.q33 [X.s 1]),
 X.o 11 (.buildSlice 1 8 [.nilf] [(0, 1, X.s 3), (1, 1, X.s 4), (2, 1, X.s 5), (3, 1, X.s 6), (4, 1, X.s 7), (5, 1, X.s 8), (6, 1, X.s 9), (7, 1, X.s 10)]),
 X.o 12 (.call F.q58 [X.s 11]),
 X.m 2 12]
def C.t4 : LO := C.t4_b
def C.t4_w := pO C.t4.eq_1
def C.b2g : ICode := .keep [1] (.seq (.region C.t4) .ret)
def C.b2g_w := pC C.b2g.eq_1
def C.jv_b : LO := [
 X.o 1 (.boxN (X.s 0)),
 X.o 2 (.move (X.i 0))]
def C.jv : LO := C.jv_b
def C.jv_w := pO C.jv.eq_1
def C.q22 : IFunc := ⟨1, [.slot 2], .seq (.region C.jv) C.b2g⟩
def C.q22_W := aI @C.t4_w (aI @C.b2g_w @C.jv_w)
def C.q22_B := aI @C.t4_b.eq_1 @C.jv_b.eq_1

def C.bfy_b : LO := [
 X.m 5 0,
 X.o 6 (.call F.q90 [X.s 5]),
 X.o 7 (.un .not (X.s 6)),
 X.m 8 7,
 X.f 8 9 (.move (X.s 0)),
 X.f 8 10 (.nilchk (X.s 9)),
 X.f 8 11 (.fldAddr 2 (X.s 10)),
 X.f 8 12 (.load1 (X.s 11)),
 X.f 8 13 (.move (X.s 1)),
 X.f 8 14 (.call F.q118 [X.s 12, X.s 13]),
 X.o 15 (.pick (X.s 8) (.cst (.bool true)) (X.s 14)),
 X.m 4 15]
def C.bfy : LO := C.bfy_b
def C.bfy_w := pO C.bfy.eq_1
def C.cbp : ICode := .keep [0, 1] (.seq (.region C.bfy) .ret)
def C.cbp_w := pC C.cbp.eq_1
def C.bfx_b : LO := [
 X.o 4 (.move (.cst (.bool false)))]
def C.bfx : LO := C.bfx_b
def C.bfx_w := pO C.bfx.eq_1
def C.q80 : IFunc := ⟨2, [.slot 4], .seq (.region C.bfx) C.cbp⟩
def C.q80_W := aI @C.bfy_w (aI @C.cbp_w @C.bfx_w)
def C.q80_B := aI @C.bfy_b.eq_1 @C.bfx_b.eq_1

def C.bgn_b : LO := [
 X.m 8 0,
 X.o 9 (.nilchk (X.s 8)),
 X.o 10 (.fldAddr 1 (X.s 9)),
 X.o 11 (.load1 (X.s 10)),
 X.m 12 1,
 X.o 13 (.call F.q95 [X.s 11, X.s 12]),
 X.m 4 13]
def C.bgn : LO := C.bgn_b
def C.bgn_w := pO C.bgn.eq_1
def C.cb8 : ICode := .keep [0, 1] (.seq (.region C.bgn) .ret)
def C.cb8_w := pC C.cb8.eq_1
def C.bgm_b : LO := [
 X.o 4 (.move (X.i 4))]
def C.bgm : LO := C.bgm_b
def C.bgm_w := pO C.bgm.eq_1
def C.cb9 : ICode := .seq (.region C.bgm) .ret
def C.cb9_w := pC C.cb9.eq_1
def C.ccb : ICode := .keep [0, 1, 7] (.cond (X.s 7) C.cb9 .skip)
def C.ccb_w := pC C.ccb.eq_1
def C.bgl_b : LO := [
 X.m 5 0,
 X.o 6 (.call F.q90 [X.s 5]),
 X.o 7 (.un .not (X.s 6))]
def C.bgl : LO := C.bgl_b
def C.bgl_w := pO C.bgl.eq_1
def C.ccc : ICode := .keep [0, 1] (.seq (.seq (.region C.bgl) C.ccb) C.cb8)
def C.ccc_w := pC C.ccc.eq_1
def C.bgk_b : LO := [
 X.o 4 (.move (X.i 0))]
def C.bgk : LO := C.bgk_b
def C.bgk_w := pO C.bgk.eq_1
def C.q86 : IFunc := ⟨2, [.slot 4], .seq (.region C.bgk) C.ccc⟩
def C.q86_W := aI (aI (aI @C.bgn_w @C.cb8_w) (aI @C.bgm_w @C.cb9_w)) (aI (aI @C.ccb_w @C.bgl_w) (aI @C.ccc_w @C.bgk_w))
def C.q86_B := aI (aI @C.bgn_b.eq_1 @C.bgm_b.eq_1) (aI @C.bgl_b.eq_1 @C.bgk_b.eq_1)

def C.bgb_b : LO := [
 X.m 5 0,
 X.o 6 (.call F.q90 [X.s 5]),
 X.m 7 6,
 X.t 7 8 (.move (X.s 0)),
 X.t 7 9 (.nilchk (X.s 8)),
 X.t 7 10 (.fldAddr 0 (X.s 9)),
 X.t 7 11 (.load1 (X.s 10)),
 X.t 7 12 (.move (X.s 1)),
 X.t 7 13 (.call F.q17 [X.s 11, X.s 12]),
 X.o 14 (.pick (X.s 7) (X.s 13) (.cst (.bool false))),
 X.m 4 14]
def C.bgb : LO := C.bgb_b
def C.bgb_w := pO C.bgb.eq_1
def C.cb3 : ICode := .keep [0, 1] (.seq (.region C.bgb) .ret)
def C.cb3_w := pC C.cb3.eq_1
def C.bf9_b : LO := [
 X.o 4 (.move (.cst (.bool false)))]
def C.bf9 : LO := C.bf9_b
def C.bf9_w := pO C.bf9.eq_1
def C.q83 : IFunc := ⟨2, [.slot 4], .seq (.region C.bf9) C.cb3⟩
def C.q83_W := aI @C.bgb_w (aI @C.cb3_w @C.bf9_w)
def C.q83_B := aI @C.bgb_b.eq_1 @C.bf9_b.eq_1

def C.h0_b : LO := [
 X.m 49 5,
 X.m 2 49,
 X.o 3 (.move (X.i 0))]
def C.h0 : LO := C.h0_b
def C.h0_w := pO C.h0.eq_1
def C.brd : ICode := .keep [5] (.seq (.region C.h0) .ret)
def C.brd_w := pC C.brd.eq_1
def C.hz_b : LO := [
 X.o 48 (.bin .add (X.s 20) (X.i 1)),
 X.m 20 48]
def C.hz : LO := C.hz_b
def C.hz_w := pO C.hz.eq_1
def C.brl : ICode := .keep [5, 18, 19, 20] (.region C.hz)
def C.brl_w := pC C.brl.eq_1
def C.sz_b : LO := [
 X.m 38 5,
 X.m 39 5,
 X.o 40 (.nilchk (X.s 39)),
 X.o 41 (.fldAddr 0 (X.s 40)),
 X.o 42 (.load1 (X.s 41)),
 X.o 43 (.loadN 11 (X.s 8)),
 X.o 44 (.buildSlice 11 1 [.int .u8 0, .nils, .int .u64 0, .int .i64 0, .int .i64 0, .int .i64 0, .bool false, .int .i64 0, .int .i64 0, .int .i64 0, .int .i64 0] [(0, 11, X.s 43)]),
 X.o 45 (.append 11 104 (X.s 42) (X.s 44)),
 X.o 46 (.nilchk (X.s 38)),
 X.o 47 (.fldAddr 0 (X.s 46)),
 X.n (.store1 (X.s 47) (X.s 45))]
def C.sz : LO := C.sz_b
def C.sz_w := pO C.sz.eq_1
def C.sq : ICode := .keep [5, 8, 18, 19, 20] (.region C.sz)
def C.sq_w := pC C.sq.eq_1
def C.hx_b : LO := [
 X.o 30 (.fldAddr 5 (X.s 7)),
 X.o 31 (.load1 (X.s 30)),
 X.o 32 (.fldAddr 7 (X.s 8)),
 X.n (.store1 (X.s 32) (X.s 31))]
def C.hx : LO := C.hx_b
def C.hx_w := pO C.hx.eq_1
def C.hq_b : LO := [
 X.o 35 (.fldAddr 4 (X.s 7)),
 X.o 36 (.load1 (X.s 35)),
 X.o 37 (.fldAddr 10 (X.s 8)),
 X.n (.store1 (X.s 37) (X.s 36))]
def C.hq : LO := C.hq_b
def C.hq_w := pO C.hq.eq_1
def C.brr : ICode := .keep [5, 7, 8, 18, 19, 20, 33] (.cond (X.s 33) (.region C.hq) .skip)
def C.brr_w := pC C.brr.eq_1
def C.hy_b : LO := [
 X.o 34 (.bin .eql (X.s 27) (.cst (.int .u8 100))),
 X.m 33 34]
def C.hy : LO := C.hy_b
def C.hy_w := pO C.hy.eq_1
def C.brs : ICode := .seq (.region C.hy) C.brr
def C.brs_w := pC C.brs.eq_1
def C.brt : ICode := .keep [5, 7, 8, 18, 19, 20, 27, 28] (.cond (X.s 28) (.region C.hx) C.brs)
def C.brt_w := pC C.brt.eq_1
def C.hw_b : LO := [
 X.o 29 (.bin .eql (X.s 27) (.cst (.int .u8 112))),
 X.m 28 29]
def C.hw : LO := C.hw_b
def C.hw_w := pO C.hw.eq_1
def C.brc : ICode := .seq (.region C.hw) C.brt
def C.brc_w := pC C.brc.eq_1
def C.brv : ICode := .keep [5, 7, 8, 18, 19, 20, 27] (.block 2 C.brc)
def C.brv_w := pC C.brv.eq_1
def C.h7_b : LO := [
 X.o 26 (.fldAddr 0 (X.s 7)),
 X.o 27 (.load1 (X.s 26))]
def C.h7 : LO := C.h7_b
def C.h7_w := pO C.h7.eq_1
def C.bkj : ICode := .keep [5, 7, 8, 18, 19, 20] (.seq (.seq (.region C.h7) C.brv) C.sq)
def C.bkj_w := pC C.bkj.eq_1
def C.b1_b : LO := [
 X.o 24 (.loadN 6 (X.s 7)),
 X.o 25 (.build [.int .u8 0, .nils, .int .u64 0, .int .i64 0, .int .i64 0, .int .i64 0, .bool false, .int .i64 0, .int .i64 0, .int .i64 0, .int .i64 0] [(0, 6, X.s 24)]),
 X.o 8 (.alloc [.int .u8 0, .nils, .int .u64 0, .int .i64 0, .int .i64 0, .int .i64 0, .bool false, .int .i64 0, .int .i64 0, .int .i64 0, .int .i64 0]),
 X.n (.storeN 11 (X.s 8) (X.s 25))]
def C.b1 : LO := C.b1_b
def C.b1_w := pO C.b1.eq_1
def C.bkg : ICode := .keep [5, 7, 18, 19, 20] (.seq (.region C.b1) C.bkj)
def C.bkg_w := pC C.bkg.eq_1
def C.h6_b : LO := [
 X.o 22 (.idxAddr 6 (X.s 18) (X.s 20)),
 X.o 23 (.loadN 6 (X.s 22)),
 X.o 7 (.alloc [.int .u8 0, .nils, .int .u64 0, .int .i64 0, .int .i64 0, .int .i64 0]),
 X.n (.storeN 6 (X.s 7) (X.s 23))]
def C.h6 : LO := C.h6_b
def C.h6_w := pO C.h6.eq_1
def C.bp9 : ICode := .seq (.region C.h6) C.bkg
def C.bp9_w := pC C.bp9.eq_1
def C.brf : ICode := .keep [5, 18, 19, 20] (.seq (.block 1 C.bp9) C.brl)
def C.brf_w := pC C.brf.eq_1
def C.brg : ICode := .keep [5, 18, 19, 20, 21] (.seq (.cond (X.s 21) .skip (.exit 0)) C.brf)
def C.brg_w := pC C.brg.eq_1
def C.h5_b : LO := [
 X.o 21 (.bin .lss (X.s 20) (X.s 19))]
def C.h5 : LO := C.h5_b
def C.h5_w := pO C.h5.eq_1
def C.cgb : ICode := .keep [5, 18, 19, 20] (.seq (.region C.h5) C.brg)
def C.cgb_w := pC C.cgb.eq_1
def C.brb : ICode := .loop C.cgb
def C.brb_w := pC C.brb.eq_1
def C.brh : ICode := .keep [5, 18, 19, 20] (.block 0 C.brb)
def C.brh_w := pC C.brh.eq_1
def C.h4_b : LO := [
 X.o 16 (.loadN 4 (X.s 1)),
 X.o 17 (.call F.q35 [X.s 16]),
 X.o 18 (.field1 0 (X.s 17)),
 X.o 19 (.len (X.s 18)),
 X.o 20 (.move (X.i 0))]
def C.h4 : LO := C.h4_b
def C.h4_w := pO C.h4.eq_1
def C.bkh : ICode := .keep [1, 5] (.seq (.seq (.region C.h4) C.brh) C.brd)
def C.bkh_w := pC C.bkh.eq_1
def C.h3_b : LO := [
 X.o 14 (.build [.nils] []),
 X.o 15 (.boxN (X.s 14)),
 X.m 5 15]
def C.h3 : LO := C.h3_b
def C.h3_w := pO C.h3.eq_1
def C.brj : ICode := .keep [1] (.seq (.region C.h3) C.bkh)
def C.brj_w := pC C.brj.eq_1
def C.h2_b : LO := [
 X.m 13 4,
 X.o 2 (.move (.cst (.nilp))),
 X.m 3 13]
def C.h2 : LO := C.h2_b
def C.h2_w := pO C.h2.eq_1
def C.brk : ICode := .seq (.region C.h2) .ret
def C.brk_w := pC C.brk.eq_1
def C.brm : ICode := .keep [1, 4, 12] (.cond (X.s 12) C.brk .skip)
def C.brm_w := pC C.brm.eq_1
def C.h1_b : LO := [
 X.m 11 4,
 X.o 12 (.bin .neq (X.s 11) (X.i 0))]
def C.h1 : LO := C.h1_b
def C.h1_w := pO C.h1.eq_1
def C.brn : ICode := .keep [1, 4] (.seq (.region C.h1) C.brm)
def C.brn_w := pC C.brn.eq_1
def C.hv_b : LO := [
 X.o 9 (.loadN 4 (X.s 1)),
 X.o 10 (.call F.q22 [X.s 9]),
 X.m 4 10]
def C.hv : LO := C.hv_b
def C.hv_w := pO C.hv.eq_1
def C.brp : ICode := .keep [1] (.seq (.seq (.region C.hv) C.brn) C.brj)
def C.brp_w := pC C.brp.eq_1
def C.bc_b : LO := [
 X.o 1 (.boxN (X.s 0)),
 X.o 2 (.move (.cst (.nilp))),
 X.o 3 (.move (X.i 0))]
def C.bc : LO := C.bc_b
def C.bc_w := pO C.bc.eq_1
def C.q16 : IFunc := ⟨1, [.slot 2, .slot 3], .seq (.region C.bc) C.brp⟩
def C.q16_W := aI (aI (aI (aI (aI @C.h0_w @C.brd_w) (aI @C.hz_w @C.brl_w)) (aI (aI @C.sz_w @C.sq_w) (aI @C.hx_w (aI @C.hq_w @C.brr_w)))) (aI (aI (aI @C.hy_w @C.brs_w) (aI @C.brt_w (aI @C.hw_w @C.brc_w))) (aI (aI @C.brv_w @C.h7_w) (aI @C.bkj_w (aI @C.b1_w @C.bkg_w))))) (aI (aI (aI (aI @C.h6_w @C.bp9_w) (aI @C.brf_w @C.brg_w)) (aI (aI @C.h5_w @C.brb_w) (aI @C.brh_w (aI @C.h4_w @C.bkh_w)))) (aI (aI (aI @C.h3_w @C.brj_w) (aI @C.h2_w (aI @C.brk_w @C.brm_w))) (aI (aI @C.h1_w @C.brn_w) (aI @C.hv_w (aI @C.brp_w @C.bc_w)))))
def C.q16_B := aI (aI (aI (aI @C.h0_b.eq_1 @C.hz_b.eq_1) (aI @C.sz_b.eq_1 @C.hx_b.eq_1)) (aI (aI @C.hq_b.eq_1 @C.hy_b.eq_1) (aI @C.hw_b.eq_1 @C.h7_b.eq_1))) (aI (aI (aI @C.b1_b.eq_1 @C.h6_b.eq_1) (aI @C.h5_b.eq_1 @C.h4_b.eq_1)) (aI (aI @C.h3_b.eq_1 @C.h2_b.eq_1) (aI @C.h1_b.eq_1 (aI @C.hv_b.eq_1 @C.bc_b.eq_1))))

def C.mv_b : LO := [
 X.m 34 5,
 X.m 2 34,
 X.o 3 (.move (X.i 0))]
def C.mv : LO := C.mv_b
def C.mv_w := pO C.mv.eq_1
def C.bx6 : ICode := .keep [5] (.seq (.region C.mv) .ret)
def C.bx6_w := pC C.bx6.eq_1
def C.m1_b : LO := [
 X.o 33 (.bin .add (X.s 18) (X.i 1)),
 X.m 18 33]
def C.m1 : LO := C.m1_b
def C.m1_w := pO C.m1.eq_1
def C.byf : ICode := .keep [5, 16, 17, 18] (.region C.m1)
def C.byf_w := pC C.byf.eq_1
def C.bh8_b : LO := [
 X.m 22 5,
 X.m 23 5,
 X.o 24 (.nilchk (X.s 23)),
 X.o 25 (.fldAddr 0 (X.s 24)),
 X.o 26 (.load1 (X.s 25)),
 X.o 27 (.loadN 3 (X.s 7)),
 X.o 28 (.build [.int .i64 0, .int .i64 0, .bool false, .int .u8 0, .int .i64 0, .bool false, .bool false] [(0, 3, X.s 27), (3, 1, .cst (.int .u8 48))]),
 X.o 29 (.buildSlice 7 1 [.int .i64 0, .int .i64 0, .bool false, .int .u8 0, .int .i64 0, .bool false, .bool false] [(0, 7, X.s 28)]),
 X.o 30 (.append 7 48 (X.s 26) (X.s 29)),
 X.o 31 (.nilchk (X.s 22)),
 X.o 32 (.fldAddr 0 (X.s 31)),
 X.n (.store1 (X.s 32) (X.s 30))]
def C.bh8 : LO := C.bh8_b
def C.bh8_w := pO C.bh8.eq_1
def C.cd1 : ICode := .keep [5, 7, 16, 17, 18] (.region C.bh8)
def C.cd1_w := pC C.cd1.eq_1
def C.m0_b : LO := [
 X.o 20 (.idxAddr 3 (X.s 16) (X.s 18)),
 X.o 21 (.loadN 3 (X.s 20)),
 X.o 7 (.alloc [.int .i64 0, .int .i64 0, .bool false]),
 X.n (.storeN 3 (X.s 7) (X.s 21))]
def C.m0 : LO := C.m0_b
def C.m0_w := pO C.m0.eq_1
def C.bx4 : ICode := .seq (.region C.m0) C.cd1
def C.bx4_w := pC C.bx4.eq_1
def C.byg : ICode := .keep [5, 16, 17, 18] (.seq (.block 1 C.bx4) C.byf)
def C.byg_w := pC C.byg.eq_1
def C.byh : ICode := .keep [5, 16, 17, 18, 19] (.seq (.cond (X.s 19) .skip (.exit 0)) C.byg)
def C.byh_w := pC C.byh.eq_1
def C.mz_b : LO := [
 X.o 19 (.bin .lss (X.s 18) (X.s 17))]
def C.mz : LO := C.mz_b
def C.mz_w := pO C.mz.eq_1
def C.cg6 : ICode := .keep [5, 16, 17, 18] (.seq (.region C.mz) C.byh)
def C.cg6_w := pC C.cg6.eq_1
def C.bx5 : ICode := .loop C.cg6
def C.bx5_w := pC C.bx5.eq_1
def C.byj : ICode := .keep [5, 16, 17, 18] (.block 0 C.bx5)
def C.byj_w := pC C.byj.eq_1
def C.mq_b : LO := [
 X.o 15 (.fldAddr 1 (X.s 1)),
 X.o 16 (.load1 (X.s 15)),
 X.o 17 (.len (X.s 16)),
 X.o 18 (.move (X.i 0))]
def C.mq : LO := C.mq_b
def C.mq_w := pO C.mq.eq_1
def C.bx7 : ICode := .keep [1, 5] (.seq (.seq (.region C.mq) C.byj) C.bx6)
def C.bx7_w := pC C.bx7.eq_1
def C.my_b : LO := [
 X.o 13 (.build [.nils] []),
 X.o 14 (.boxN (X.s 13)),
 X.m 5 14]
def C.my : LO := C.my_b
def C.my_w := pO C.my.eq_1
def C.bx8 : ICode := .keep [1] (.seq (.region C.my) C.bx7)
def C.bx8_w := pC C.bx8.eq_1
def C.mx_b : LO := [
 X.m 12 4,
 X.o 2 (.move (.cst (.nilp))),
 X.m 3 12]
def C.mx : LO := C.mx_b
def C.mx_w := pO C.mx.eq_1
def C.bx9 : ICode := .seq (.region C.mx) .ret
def C.bx9_w := pC C.bx9.eq_1
def C.byb : ICode := .keep [1, 4, 11] (.cond (X.s 11) C.bx9 .skip)
def C.byb_w := pC C.byb.eq_1
def C.mw_b : LO := [
 X.m 10 4,
 X.o 11 (.bin .neq (X.s 10) (X.i 0))]
def C.mw : LO := C.mw_b
def C.mw_w := pO C.mw.eq_1
def C.byc : ICode := .keep [1, 4] (.seq (.region C.mw) C.byb)
def C.byc_w := pC C.byc.eq_1
def C.mt_b : LO := [
 X.o 8 (.loadN 4 (X.s 1)),
 X.o 9 (.call F.q22 [X.s 8]),
 X.m 4 9]
def C.mt : LO := C.mt_b
def C.mt_w := pO C.mt.eq_1
def C.byd : ICode := .keep [1] (.seq (.seq (.region C.mt) C.byc) C.bx8)
def C.byd_w := pC C.byd.eq_1
def C.bn_b : LO := [
 X.o 1 (.boxN (X.s 0)),
 X.o 2 (.move (.cst (.nilp))),
 X.o 3 (.move (X.i 0))]
def C.bn : LO := C.bn_b
def C.bn_w := pO C.bn.eq_1
def C.q97 : IFunc := ⟨1, [.slot 2, .slot 3], .seq (.region C.bn) C.byd⟩
def C.q97_W := aI (aI (aI (aI @C.mv_w (aI @C.bx6_w @C.m1_w)) (aI @C.byf_w (aI @C.bh8_w @C.cd1_w))) (aI (aI @C.m0_w (aI @C.bx4_w @C.byg_w)) (aI @C.byh_w (aI @C.mz_w @C.bx5_w)))) (aI (aI (aI @C.byj_w (aI @C.mq_w @C.bx7_w)) (aI @C.my_w (aI @C.bx8_w @C.mx_w))) (aI (aI @C.bx9_w (aI @C.byb_w @C.mw_w)) (aI (aI @C.byc_w @C.mt_w) (aI @C.byd_w @C.bn_w))))
def C.q97_B := aI (aI (aI @C.mv_b.eq_1 @C.m1_b.eq_1) (aI @C.bh8_b.eq_1 (aI @C.m0_b.eq_1 @C.mz_b.eq_1))) (aI (aI @C.mq_b.eq_1 (aI @C.my_b.eq_1 @C.mx_b.eq_1)) (aI @C.mw_b.eq_1 (aI @C.mt_b.eq_1 @C.bn_b.eq_1)))

def C.fl_b : LO := [
 X.m 36 5,
 X.m 2 36,
 X.o 3 (.move (X.i 0))]
def C.fl : LO := C.fl_b
def C.fl_w := pO C.fl.eq_1
def C.bln : ICode := .keep [5] (.seq (.region C.fl) .ret)
def C.bln_w := pC C.bln.eq_1
def C.fs_b : LO := [
 X.o 35 (.bin .add (X.s 22) (X.i 1)),
 X.m 22 35]
def C.fs : LO := C.fs_b
def C.fs_w := pO C.fs.eq_1
def C.blx : ICode := .keep [5, 20, 21, 22] (.region C.fs)
def C.blx_w := pC C.blx.eq_1
def C.r8_b : LO := [
 X.m 27 5,
 X.o 28 (.nilchk (X.s 27)),
 X.o 29 (.fldAddr 0 (X.s 28)),
 X.o 30 (.load1 (X.s 29)),
 X.m 31 6,
 X.o 32 (.fldAddr 0 (X.s 7)),
 X.o 33 (.load1 (X.s 32)),
 X.o 34 (.build [.int .i64 0, .int .i64 0, .bool false, .bool false] [(0, 1, X.s 33), (2, 1, .cst (.bool true))]),
 X.n (.mapSet (X.s 30) (X.s 31) (X.s 34))]
def C.r8 : LO := C.r8_b
def C.r8_w := pO C.r8.eq_1
def C.b0w : ICode := .keep [5, 6, 7, 20, 21, 22] (.region C.r8)
def C.b0w_w := pC C.b0w.eq_1
def C.fp_b : LO := [
 X.m 24 22,
 X.o 25 (.idxAddr 1 (X.s 20) (X.s 22)),
 X.o 26 (.loadN 1 (X.s 25)),
 X.o 7 (.alloc [.int .i64 0]),
 X.m 6 24,
 X.n (.storeN 1 (X.s 7) (X.s 26))]
def C.fp : LO := C.fp_b
def C.fp_w := pO C.fp.eq_1
def C.bll : ICode := .seq (.region C.fp) C.b0w
def C.bll_w := pC C.bll.eq_1
def C.bly : ICode := .keep [5, 20, 21, 22] (.seq (.block 1 C.bll) C.blx)
def C.bly_w := pC C.bly.eq_1
def C.blq : ICode := .keep [5, 20, 21, 22, 23] (.seq (.cond (X.s 23) .skip (.exit 0)) C.bly)
def C.blq_w := pC C.blq.eq_1
def C.fn_b : LO := [
 X.o 23 (.bin .lss (X.s 22) (X.s 21))]
def C.fn : LO := C.fn_b
def C.fn_w := pO C.fn.eq_1
def C.cf0 : ICode := .keep [5, 20, 21, 22] (.seq (.region C.fn) C.blq)
def C.cf0_w := pC C.cf0.eq_1
def C.blm : ICode := .loop C.cf0
def C.blm_w := pC C.blm.eq_1
def C.blz : ICode := .keep [5, 20, 21, 22] (.block 0 C.blm)
def C.blz_w := pC C.blz.eq_1
def C.fm_b : LO := [
 X.o 19 (.fldAddr 2 (X.s 1)),
 X.o 20 (.load1 (X.s 19)),
 X.o 21 (.len (X.s 20)),
 X.o 22 (.move (X.i 0))]
def C.fm : LO := C.fm_b
def C.fm_w := pO C.fm.eq_1
def C.blp : ICode := .keep [1, 5] (.seq (.seq (.region C.fm) C.blz) C.bln)
def C.blp_w := pC C.blp.eq_1
def C.df_b : LO := [
 X.o 13 (.fldAddr 2 (X.s 1)),
 X.o 14 (.load1 (X.s 13)),
 X.o 15 (.len (X.s 14)),
 X.o 16 (.makeMap (some (X.s 15))),
 X.o 17 (.build [.nilm] [(0, 1, X.s 16)]),
 X.o 18 (.boxN (X.s 17)),
 X.m 5 18]
def C.df : LO := C.df_b
def C.df_w := pO C.df.eq_1
def C.blr : ICode := .keep [1] (.seq (.region C.df) C.blp)
def C.blr_w := pC C.blr.eq_1
def C.dd_b : LO := [
 X.m 12 4,
 X.o 2 (.move (.cst (.nilp))),
 X.m 3 12]
def C.dd : LO := C.dd_b
def C.dd_w := pO C.dd.eq_1
def C.bls : ICode := .seq (.region C.dd) .ret
def C.bls_w := pC C.bls.eq_1
def C.blt : ICode := .keep [1, 4, 11] (.cond (X.s 11) C.bls .skip)
def C.blt_w := pC C.blt.eq_1
def C.dc_b : LO := [
 X.m 10 4,
 X.o 11 (.bin .neq (X.s 10) (X.i 0))]
def C.dc : LO := C.dc_b
def C.dc_w := pO C.dc.eq_1
def C.blv : ICode := .keep [1, 4] (.seq (.region C.dc) C.blt)
def C.blv_w := pC C.blv.eq_1
def C.db_b : LO := [
 X.o 8 (.loadN 4 (X.s 1)),
 X.o 9 (.call F.q22 [X.s 8]),
 X.m 4 9]
def C.db : LO := C.db_b
def C.db_w := pO C.db.eq_1
def C.blw : ICode := .keep [1] (.seq (.seq (.region C.db) C.blv) C.blr)
def C.blw_w := pC C.blw.eq_1
def C.by_b : LO := [
 X.o 1 (.boxN (X.s 0)),
 X.o 2 (.move (.cst (.nilp))),
 X.o 3 (.move (X.i 0))]
def C.by : LO := C.by_b
def C.by_w := pO C.by.eq_1
def C.q121 : IFunc := ⟨1, [.slot 2, .slot 3], .seq (.region C.by) C.blw⟩
def C.q121_W := aI (aI (aI (aI @C.fl_w (aI @C.bln_w @C.fs_w)) (aI @C.blx_w (aI @C.r8_w @C.b0w_w))) (aI (aI @C.fp_w (aI @C.bll_w @C.bly_w)) (aI @C.blq_w (aI @C.fn_w @C.blm_w)))) (aI (aI (aI @C.blz_w (aI @C.fm_w @C.blp_w)) (aI @C.df_w (aI @C.blr_w @C.dd_w))) (aI (aI @C.bls_w (aI @C.blt_w @C.dc_w)) (aI (aI @C.blv_w @C.db_w) (aI @C.blw_w @C.by_w))))
def C.q121_B := aI (aI (aI @C.fl_b.eq_1 @C.fs_b.eq_1) (aI @C.r8_b.eq_1 (aI @C.fp_b.eq_1 @C.fn_b.eq_1))) (aI (aI @C.fm_b.eq_1 (aI @C.df_b.eq_1 @C.dd_b.eq_1)) (aI @C.dc_b.eq_1 (aI @C.db_b.eq_1 @C.by_b.eq_1)))

def C.rv_b : LO := [
 X.m 20 4,
 X.m 2 20,
 X.o 3 (.move (X.i 0))]
def C.rv : LO := C.rv_b
def C.rv_w := pO C.rv.eq_1
def C.bz8 : ICode := .keep [4] (.seq (.region C.rv) .ret)
def C.bz8_w := pC C.bz8.eq_1
def C.rt_b : LO := [
 X.m 18 4,
 X.o 19 (.call F.q105 [X.s 18])]
def C.rt : LO := C.rt_b
def C.rt_w := pO C.rt.eq_1
def C.bz9 : ICode := .keep [4] (.seq (.region C.rt) C.bz8)
def C.bz9_w := pC C.bz9.eq_1
def C.rs_b : LO := [
 X.m 8 0,
 X.m 10 0,
 X.o 11 (.len (X.s 10)),
 X.m 13 0,
 X.o 14 (.len (X.s 13)),
 ⟨some 9, .call F.q122 [X.s 8], none, [], [(X.s 11, X.s 11), (X.s 14, X.s 14)]⟩,
 ⟨some 12, .makeSlice 1 4 [.int .u32 0] (X.s 11) (X.s 11), none, [], [(X.s 14, X.s 14)]⟩,
 X.o 15 (.makeSlice 1 4 [.int .u32 0] (X.s 14) (X.s 14)),
 X.o 16 (.build [.nils, .nils, .nils, .bool false] [(0, 1, X.s 9), (1, 1, X.s 12), (2, 1, X.s 15)]),
 X.o 17 (.boxN (X.s 16)),
 X.m 4 17]
def C.rs : LO := C.rs_b
def C.rs_w := pO C.rs.eq_1
def C.b0b : ICode := .keep [0] (.seq (.region C.rs) C.bz9)
def C.b0b_w := pC C.b0b.eq_1
def C.rr_b : LO := [
 X.o 2 (.move (.cst (.nilp))),
 X.o 3 (.move (X.i 8))]
def C.rr : LO := C.rr_b
def C.rr_w := pO C.rr.eq_1
def C.b0c : ICode := .seq (.region C.rr) .ret
def C.b0c_w := pC C.b0c.eq_1
def C.b0d : ICode := .keep [0, 7] (.cond (X.s 7) C.b0c .skip)
def C.b0d_w := pC C.b0d.eq_1
def C.rp_b : LO := [
 X.m 5 0,
 X.o 6 (.len (X.s 5)),
 X.o 7 (.bin .gtr (X.s 6) (X.i 8))]
def C.rp : LO := C.rp_b
def C.rp_w := pO C.rp.eq_1
def C.b0f : ICode := .keep [0] (.seq (.seq (.region C.rp) C.b0d) C.b0b)
def C.b0f_w := pC C.b0f.eq_1
def C.rn_b : LO := [
 X.o 2 (.move (.cst (.nilp))),
 X.o 3 (.move (X.i 0))]
def C.rn : LO := C.rn_b
def C.rn_w := pO C.rn.eq_1
def C.q117 : IFunc := ⟨1, [.slot 2, .slot 3], .seq (.region C.rn) C.b0f⟩
def C.q117_W := aI (aI (aI @C.rv_w (aI @C.bz8_w @C.rt_w)) (aI @C.bz9_w (aI @C.rs_w @C.b0b_w))) (aI (aI @C.rr_w (aI @C.b0c_w @C.b0d_w)) (aI @C.rp_w (aI @C.b0f_w @C.rn_w)))
def C.q117_B := aI (aI @C.rv_b.eq_1 (aI @C.rt_b.eq_1 @C.rs_b.eq_1)) (aI @C.rr_b.eq_1 (aI @C.rp_b.eq_1 @C.rn_b.eq_1))

def C.pl_b : LO := [
 X.m 5 0,
 X.o 6 (.nilchk (X.s 5)),
 X.o 7 (.fldAddr 0 (X.s 6)),
 X.o 8 (.load1 (X.s 7)),
 X.o 9 (.len (X.s 8)),
 X.m 2 9]
def C.pl : LO := C.pl_b
def C.pl_w := pO C.pl.eq_1
def C.bq4 : ICode := .keep [0] (.seq (.region C.pl) .ret)
def C.bq4_w := pC C.bq4.eq_1
def C.pk_b : LO := [
 X.o 2 (.move (X.i 0))]
def C.pk : LO := C.pk_b
def C.pk_w := pO C.pk.eq_1
def C.bq5 : ICode := .seq (.region C.pk) .ret
def C.bq5_w := pC C.bq5.eq_1
def C.bq6 : ICode := .keep [0, 4] (.cond (X.s 4) C.bq5 .skip)
def C.bq6_w := pC C.bq6.eq_1
def C.pj_b : LO := [
 X.m 3 0,
 X.o 4 (.eqP 0 false (X.s 3) (.cst (.nilp)))]
def C.pj : LO := C.pj_b
def C.pj_w := pO C.pj.eq_1
def C.bq7 : ICode := .keep [0] (.seq (.seq (.region C.pj) C.bq6) C.bq4)
def C.bq7_w := pC C.bq7.eq_1
def C.ph_b : LO := [
 X.o 2 (.move (X.i 0))]
def C.ph : LO := C.ph_b
def C.ph_w := pO C.ph.eq_1
def C.q107 : IFunc := ⟨1, [.slot 2], .seq (.region C.ph) C.bq7⟩
def C.q107_W := aI (aI (aI @C.pl_w @C.bq4_w) (aI @C.pk_w @C.bq5_w)) (aI (aI @C.bq6_w @C.pj_w) (aI @C.bq7_w @C.ph_w))
def C.q107_B := aI (aI @C.pl_b.eq_1 @C.pk_b.eq_1) (aI @C.pj_b.eq_1 @C.ph_b.eq_1)

def C.n9_b : LO := [
 X.o 1 (.build [.int .i64 0, .int .i64 0] []),
 X.o 2 (.boxN (X.s 1)),
 X.m 0 2]
def C.n9 : LO := C.n9_b
def C.n9_w := pO C.n9.eq_1
def C.bqz : ICode := .keep [] (.seq (.region C.n9) .ret)
def C.bqz_w := pC C.bqz.eq_1
def C.n8_b : LO := [
 X.o 0 (.move (.cst (.nilp)))]
def C.n8 : LO := C.n8_b
def C.n8_w := pO C.n8.eq_1
def C.q104 : IFunc := ⟨0, [.slot 0], .seq (.region C.n8) C.bqz⟩
def C.q104_W := aI @C.n9_w (aI @C.bqz_w @C.n8_w)
def C.q104_B := aI @C.n9_b.eq_1 @C.n8_b.eq_1

def C.bj0_b : LO := [
 X.m 39 4,
 X.m 2 39,
 X.o 3 (.move (X.i 0))]
def C.bj0 : LO := C.bj0_b
def C.bj0_w := pO C.bj0.eq_1
def C.cfq : ICode := .keep [4] (.seq (.region C.bj0) .ret)
def C.cfq_w := pC C.cfq.eq_1
def C.m2_b : LO := [
 X.o 38 (.bin .add (X.s 20) (X.i 1)),
 X.m 20 38]
def C.m2 : LO := C.m2_b
def C.m2_w := pO C.m2.eq_1
def C.byv : ICode := .keep [4, 18, 19, 20] (.region C.m2)
def C.byv_w := pC C.byv.eq_1
def C.m8_b : LO := [
 X.m 31 4,
 X.o 32 (.nilchk (X.s 31)),
 X.o 33 (.fldAddr 0 (X.s 32)),
 X.o 34 (.load1 (X.s 33)),
 X.m 35 5,
 X.m 36 6,
 X.o 37 (.idxAddr 1 (X.s 34) (X.s 35)),
 X.n (.store1 (X.s 37) (X.s 36))]
def C.m8 : LO := C.m8_b
def C.m8_w := pO C.m8.eq_1
def C.byw : ICode := .keep [4, 5, 6, 18, 19, 20] (.region C.m8)
def C.byw_w := pC C.byw.eq_1
def C.m7_b : LO := [
 X.o 2 (.move (.cst (.nilp))),
 X.o 3 (.move (X.i 1))]
def C.m7 : LO := C.m7_b
def C.m7_w := pO C.m7.eq_1
def C.byx : ICode := .seq (.region C.m7) .ret
def C.byx_w := pC C.byx.eq_1
def C.byy : ICode := .keep [4, 5, 6, 18, 19, 20, 30] (.cond (X.s 30) C.byx .skip)
def C.byy_w := pC C.byy.eq_1
def C.m6_b : LO := [
 X.m 25 6,
 X.o 26 (.bin .lss (X.s 25) (X.i 0)),
 X.m 27 26,
 X.f 27 28 (.move (X.s 6)),
 X.f 27 29 (.bin .gtr (X.s 28) (X.i 8)),
 X.o 30 (.pick (X.s 27) (.cst (.bool true)) (X.s 29))]
def C.m6 : LO := C.m6_b
def C.m6_w := pO C.m6.eq_1
def C.byq : ICode := .keep [4, 5, 6, 18, 19, 20] (.seq (.seq (.region C.m6) C.byy) C.byw)
def C.byq_w := pC C.byq.eq_1
def C.m5_b : LO := [
 X.m 22 20,
 X.o 23 (.idxAddr 1 (X.s 18) (X.s 20)),
 X.o 24 (.load1 (X.s 23)),
 X.m 5 22,
 X.m 6 24]
def C.m5 : LO := C.m5_b
def C.m5_w := pO C.m5.eq_1
def C.byl : ICode := .seq (.region C.m5) C.byq
def C.byl_w := pC C.byl.eq_1
def C.byz : ICode := .keep [4, 18, 19, 20] (.seq (.block 1 C.byl) C.byv)
def C.byz_w := pC C.byz.eq_1
def C.by0 : ICode := .keep [4, 18, 19, 20, 21] (.seq (.cond (X.s 21) .skip (.exit 0)) C.byz)
def C.by0_w := pC C.by0.eq_1
def C.m4_b : LO := [
 X.o 21 (.bin .lss (X.s 20) (X.s 19))]
def C.m4 : LO := C.m4_b
def C.m4_w := pO C.m4.eq_1
def C.cg7 : ICode := .keep [4, 18, 19, 20] (.seq (.region C.m4) C.by0)
def C.cg7_w := pC C.cg7.eq_1
def C.byk : ICode := .loop C.cg7
def C.byk_w := pC C.byk.eq_1
def C.bym : ICode := .keep [4, 18, 19, 20] (.block 0 C.byk)
def C.bym_w := pC C.bym.eq_1
def C.m3_b : LO := [
 X.m 18 0,
 X.o 19 (.len (X.s 18)),
 X.o 20 (.move (X.i 0))]
def C.m3 : LO := C.m3_b
def C.m3_w := pO C.m3.eq_1
def C.byn : ICode := .keep [0, 4] (.seq (.seq (.region C.m3) C.bym) C.cfq)
def C.byn_w := pC C.byn.eq_1
def C.d0_b : LO := [
 X.m 10 0,
 X.o 11 (.len (X.s 10)),
 X.m 13 0,
 X.o 14 (.len (X.s 13)),
 ⟨some 12, .makeSlice 1 8 [.int .i64 0] (X.s 11) (X.s 11), none, [], [(X.s 14, X.s 14)]⟩,
 X.o 15 (.makeSlice 1 24 [.nils] (X.s 14) (X.s 14)),
 X.o 16 (.build [.nils, .nils, .int .i64 0] [(0, 1, X.s 12), (1, 1, X.s 15)]),
 X.o 17 (.boxN (X.s 16)),
 X.m 4 17]
def C.d0 : LO := C.d0_b
def C.d0_w := pO C.d0.eq_1
def C.byp : ICode := .keep [0] (.seq (.region C.d0) C.byn)
def C.byp_w := pC C.byp.eq_1
def C.dz_b : LO := [
 X.o 2 (.move (.cst (.nilp))),
 X.o 3 (.move (X.i 1))]
def C.dz : LO := C.dz_b
def C.dz_w := pO C.dz.eq_1
def C.byr : ICode := .seq (.region C.dz) .ret
def C.byr_w := pC C.byr.eq_1
def C.bys : ICode := .keep [0, 9] (.cond (X.s 9) C.byr .skip)
def C.bys_w := pC C.bys.eq_1
def C.dq_b : LO := [
 X.m 7 0,
 X.o 8 (.len (X.s 7)),
 X.o 9 (.bin .gtr (X.s 8) (X.i 6))]
def C.dq : LO := C.dq_b
def C.dq_w := pO C.dq.eq_1
def C.byt : ICode := .keep [0] (.seq (.seq (.region C.dq) C.bys) C.byp)
def C.byt_w := pC C.byt.eq_1
def C.dy_b : LO := [
 X.o 2 (.move (.cst (.nilp))),
 X.o 3 (.move (X.i 0))]
def C.dy : LO := C.dy_b
def C.dy_w := pO C.dy.eq_1
def C.q9 : IFunc := ⟨1, [.slot 2, .slot 3], .seq (.region C.dy) C.byt⟩
def C.q9_W := aI (aI (aI (aI @C.bj0_w (aI @C.cfq_w @C.m2_w)) (aI (aI @C.byv_w @C.m8_w) (aI @C.byw_w @C.m7_w))) (aI (aI @C.byx_w (aI @C.byy_w @C.m6_w)) (aI (aI @C.byq_w @C.m5_w) (aI @C.byl_w @C.byz_w)))) (aI (aI (aI @C.by0_w (aI @C.m4_w @C.byk_w)) (aI (aI @C.bym_w @C.m3_w) (aI @C.byn_w @C.d0_w))) (aI (aI @C.byp_w (aI @C.dz_w @C.byr_w)) (aI (aI @C.bys_w @C.dq_w) (aI @C.byt_w @C.dy_w))))
def C.q9_B := aI (aI (aI @C.bj0_b.eq_1 (aI @C.m2_b.eq_1 @C.m8_b.eq_1)) (aI @C.m7_b.eq_1 (aI @C.m6_b.eq_1 @C.m5_b.eq_1))) (aI (aI @C.m4_b.eq_1 (aI @C.m3_b.eq_1 @C.d0_b.eq_1)) (aI @C.dz_b.eq_1 (aI @C.dq_b.eq_1 @C.dy_b.eq_1)))

def C.tv_b : LO := [
 X.m 25 0,
 X.m 26 10,
 X.m 27 1,
 X.m 30 3,
 X.m 31 1,
 X.o 32 (.bin .shl (X.s 30) (X.s 31)),
 X.o 28 (.callv (X.s 26) [X.s 27]),
 X.o 29 (.bin .andNot (X.s 25) (X.s 28)),
 X.o 33 (.bin .or (X.s 29) (X.s 32)),
 X.m 8 33,
 X.o 9 (.move (X.i 0))]
def C.tv : LO := C.tv_b
def C.tv_w := pO C.tv.eq_1
def C.b1y : ICode := .keep [0, 1, 3, 10] (.seq (.region C.tv) .ret)
def C.b1y_w := pC C.b1y.eq_1
def C.tt_b : LO := [
 X.o 8 (.move (.cst (.int .u32 0))),
 X.o 9 (.move (X.i 1))]
def C.tt : LO := C.tt_b
def C.tt_w := pO C.tt.eq_1
def C.b1q : ICode := .seq (.region C.tt) .ret
def C.b1q_w := pC C.b1q.eq_1
def C.b1z : ICode := .keep [0, 1, 3, 10, 24] (.cond (X.s 24) C.b1q .skip)
def C.b1z_w := pC C.b1z.eq_1
def C.ts_b : LO := [
 X.m 20 3,
 X.m 21 10,
 X.o 22 (.callv (X.s 21) [X.i 0]),
 X.o 23 (.bin .andNot (X.s 20) (X.s 22)),
 X.o 24 (.bin .neq (X.s 23) (.cst (.int .u32 0)))]
def C.ts : LO := C.ts_b
def C.ts_w := pO C.ts.eq_1
def C.b10 : ICode := .keep [0, 1, 3, 10] (.seq (.seq (.region C.ts) C.b1z) C.b1y)
def C.b10_w := pC C.b10.eq_1
def C.tr_b : LO := [
 X.o 8 (.move (.cst (.int .u32 0))),
 X.o 9 (.move (X.i 3))]
def C.tr : LO := C.tr_b
def C.tr_w := pO C.tr.eq_1
def C.b11 : ICode := .seq (.region C.tr) .ret
def C.b11_w := pC C.b11.eq_1
def C.b12 : ICode := .keep [0, 1, 3, 10, 19] (.cond (X.s 19) C.b11 .skip)
def C.b12_w := pC C.b12.eq_1
def C.tp_b : LO := [
 X.m 18 11,
 X.o 19 (.un .not (X.s 18))]
def C.tp : LO := C.tp_b
def C.tp_w := pO C.tp.eq_1
def C.b13 : ICode := .keep [0, 1, 3, 10, 11] (.seq (.seq (.region C.tp) C.b12) C.b10)
def C.b13_w := pC C.b13.eq_1
def C.tn_b : LO := [
 X.m 13 1,
 X.m 14 2,
 X.o 15 (.call F.q2 [X.s 13, X.s 14]),
 X.m 12 15,
 X.o 16 (.extract (X.s 12) 0),
 X.o 17 (.extract (X.s 12) 1),
 X.m 10 16,
 X.m 11 17]
def C.tn : LO := C.tn_b
def C.tn_w := pO C.tn.eq_1
def C.b14 : ICode := .keep [0, 1, 2, 3] (.seq (.region C.tn) C.b13)
def C.b14_w := pC C.b14.eq_1
def C.tm_b : LO := [
 X.o 8 (.move (.cst (.int .u32 0))),
 X.o 9 (.move (X.i 0))]
def C.tm : LO := C.tm_b
def C.tm_w := pO C.tm.eq_1
def C.q1 : IFunc := ⟨4, [.slot 8, .slot 9], .seq (.region C.tm) C.b14⟩
def C.q1_W := aI (aI (aI @C.tv_w (aI @C.b1y_w @C.tt_w)) (aI (aI @C.b1q_w @C.b1z_w) (aI @C.ts_w @C.b10_w))) (aI (aI (aI @C.tr_w @C.b11_w) (aI @C.b12_w @C.tp_w)) (aI (aI @C.b13_w @C.tn_w) (aI @C.b14_w @C.tm_w)))
def C.q1_B := aI (aI @C.tv_b.eq_1 (aI @C.tt_b.eq_1 @C.ts_b.eq_1)) (aI (aI @C.tr_b.eq_1 @C.tp_b.eq_1) (aI @C.tn_b.eq_1 @C.tm_b.eq_1))

def C.pq_b : LO := [
 X.m 12 0,
 X.o 13 (.call F.q11 [X.s 12, X.i 16, X.i 8]),
 X.m 14 0,
 X.o 15 (.call F.q11 [X.s 14, X.i 2, X.i 14]),
 X.m 2 13,
 X.m 3 15]
def C.pq : LO := C.pq_b
def C.pq_w := pO C.pq.eq_1
def C.bzh : ICode := .keep [0] (.seq (.region C.pq) .ret)
def C.bzh_w := pC C.bzh.eq_1
def C.py_b : LO := [
 X.o 2 (.move (X.i (-1))),
 X.o 3 (.move (X.i (-1)))]
def C.py : LO := C.py_b
def C.py_w := pO C.py.eq_1
def C.bzj : ICode := .seq (.region C.py) .ret
def C.bzj_w := pC C.bzj.eq_1
def C.bzk : ICode := .keep [0, 11] (.cond (X.s 11) C.bzj .skip)
def C.bzk_w := pC C.bzk.eq_1
def C.px_b : LO := [
 X.m 4 0,
 X.o 5 (.call F.q11 [X.s 4, X.i 0, X.i 2]),
 X.o 6 (.bin .neq (X.s 5) (X.i 0)),
 X.m 7 6,
 X.f 7 8 (.move (X.s 0)),
 X.f 7 9 (.call F.q11 [X.s 8, X.i 24, X.i 8]),
 X.f 7 10 (.bin .neq (X.s 9) (X.i 0)),
 X.o 11 (.pick (X.s 7) (.cst (.bool true)) (X.s 10))]
def C.px : LO := C.px_b
def C.px_w := pO C.px.eq_1
def C.bzl : ICode := .keep [0] (.seq (.seq (.region C.px) C.bzk) C.bzh)
def C.bzl_w := pC C.bzl.eq_1
def C.pw_b : LO := [
 X.o 2 (.move (X.i 0)),
 X.o 3 (.move (X.i 0))]
def C.pw : LO := C.pw_b
def C.pw_w := pO C.pw.eq_1
def C.q10 : IFunc := ⟨1, [.slot 2, .slot 3], .seq (.region C.pw) C.bzl⟩
def C.q10_W := aI (aI (aI @C.pq_w @C.bzh_w) (aI @C.py_w @C.bzj_w)) (aI (aI @C.bzk_w @C.px_w) (aI @C.bzl_w @C.pw_w))
def C.q10_B := aI (aI @C.pq_b.eq_1 @C.py_b.eq_1) (aI @C.px_b.eq_1 @C.pw_b.eq_1)

def C.bgy_b : LO := [
 X.m 5 0,
 X.o 6 (.call F.q90 [X.s 5]),
 X.m 7 6,
 X.t 7 8 (.move (X.s 1)),
 X.t 7 9 (.bin .geq (X.s 8) (X.i 0)),
 X.o 10 (.pick (X.s 7) (X.s 9) (.cst (.bool false))),
 X.m 11 10,
 X.t 11 12 (.move (X.s 1)),
 X.t 11 13 (.move (X.s 0)),
 X.t 11 14 (.nilchk (X.s 13)),
 X.t 11 15 (.fldAddr 4 (X.s 14)),
 X.t 11 16 (.load1 (X.s 15)),
 X.t 11 17 (.len (X.s 16)),
 X.t 11 18 (.bin .lss (X.s 12) (X.s 17)),
 X.o 19 (.pick (X.s 11) (X.s 18) (.cst (.bool false))),
 X.m 4 19]
def C.bgy : LO := C.bgy_b
def C.bgy_w := pO C.bgy.eq_1
def C.ccj : ICode := .keep [0, 1] (.seq (.region C.bgy) .ret)
def C.ccj_w := pC C.ccj.eq_1
def C.bgx_b : LO := [
 X.o 4 (.move (.cst (.bool false)))]
def C.bgx : LO := C.bgx_b
def C.bgx_w := pO C.bgx.eq_1
def C.q89 : IFunc := ⟨2, [.slot 4], .seq (.region C.bgx) C.ccj⟩
def C.q89_W := aI @C.bgy_w (aI @C.ccj_w @C.bgx_w)
def C.q89_B := aI @C.bgy_b.eq_1 @C.bgx_b.eq_1

def C.n0_b : LO := [
 X.m 5 0,
 X.o 6 (.nilchk (X.s 5)),
 X.o 7 (.fldAddr 0 (X.s 6)),
 X.o 8 (.load1 (X.s 7)),
 X.o 9 (.arrAddr 1 4 (.cst (.iptr [.int .u8 114, .int .u8 97, .int .u8 115, .int .u8 100] 0)) (X.s 8)),
 X.o 10 (.load1 (X.s 9)),
 X.m 2 10]
def C.n0 : LO := C.n0_b
def C.n0_w := pO C.n0.eq_1
def C.bqj : ICode := .keep [0] (.seq (.region C.n0) .ret)
def C.bqj_w := pC C.bqj.eq_1
def C.nz_b : LO := [
 X.o 2 (.move (.cst (.int .u8 0)))]
def C.nz : LO := C.nz_b
def C.nz_w := pO C.nz.eq_1
def C.bqk : ICode := .seq (.region C.nz) .ret
def C.bqk_w := pC C.bqk.eq_1
def C.bql : ICode := .keep [0, 4] (.cond (X.s 4) C.bqk .skip)
def C.bql_w := pC C.bql.eq_1
def C.nq_b : LO := [
 X.m 3 0,
 X.o 4 (.eqP 0 false (X.s 3) (.cst (.nilp)))]
def C.nq : LO := C.nq_b
def C.nq_w := pO C.nq.eq_1
def C.bqm : ICode := .keep [0] (.seq (.seq (.region C.nq) C.bql) C.bqj)
def C.bqm_w := pC C.bqm.eq_1
def C.ny_b : LO := [
 X.o 2 (.move (.cst (.int .u8 0)))]
def C.ny : LO := C.ny_b
def C.ny_w := pO C.ny.eq_1
def C.q102 : IFunc := ⟨1, [.slot 2], .seq (.region C.ny) C.bqm⟩
def C.q102_W := aI (aI (aI @C.n0_w @C.bqj_w) (aI @C.nz_w @C.bqk_w)) (aI (aI @C.bql_w @C.nq_w) (aI @C.bqm_w @C.ny_w))
def C.q102_B := aI (aI @C.n0_b.eq_1 @C.nz_b.eq_1) (aI @C.nq_b.eq_1 @C.ny_b.eq_1)

def C.y4_b : LO := [
 X.m 77 12,
 X.m 8 77,
 X.o 9 (.move (X.i 0))]
def C.y4 : LO := C.y4_b
def C.y4_w := pO C.y4.eq_1
def C.b50 : ICode := .keep [12] (.seq (.region C.y4) .ret)
def C.b50_w := pC C.b50.eq_1
def C.y3_b : LO := [
 X.m 57 0,
 X.o 58 (.nilchk (X.s 57)),
 X.o 59 (.fldAddr 1 (X.s 58)),
 X.o 60 (.load1 (X.s 59)),
 X.m 61 10,
 X.m 62 0,
 X.o 63 (.nilchk (X.s 62)),
 X.o 64 (.fldAddr 1 (X.s 63)),
 X.o 65 (.load1 (X.s 64)),
 X.m 66 10,
 X.o 67 (.idxAddr 1 (X.s 65) (X.s 66)),
 X.o 68 (.load1 (X.s 67)),
 X.m 69 12,
 X.m 70 2,
 X.m 71 11,
 X.m 72 3,
 X.o 73 (.build [.int .i64 0, .bool false, .int .i64 0, .int .u32 0] [(0, 1, X.s 69), (1, 1, X.s 70), (2, 1, X.s 71), (3, 1, X.s 72)]),
 X.o 74 (.buildSlice 4 1 [.int .i64 0, .bool false, .int .i64 0, .int .u32 0] [(0, 4, X.s 73)]),
 ⟨some 75, .append 4 32 (X.s 68) (X.s 74), none, [⟨.load1 (X.s 59), 60, none⟩], []⟩,
 X.o 76 (.idxAddr 1 (X.s 60) (X.s 61)),
 X.n (.store1 (X.s 76) (X.s 75))]
def C.y3 : LO := C.y3_b
def C.y3_w := pO C.y3.eq_1
def C.b53 : ICode := .keep [0, 2, 3, 10, 11, 12] (.seq (.region C.y3) C.b50)
def C.b53_w := pC C.b53.eq_1
def C.y2_b : LO := [
 X.m 50 0,
 X.o 51 (.nilchk (X.s 50)),
 X.o 52 (.fldAddr 2 (X.s 51)),
 X.o 53 (.load1 (X.s 52)),
 X.o 54 (.bin .add (X.s 53) (X.i 1)),
 X.o 55 (.nilchk (X.s 50)),
 X.o 56 (.fldAddr 2 (X.s 55)),
 X.n (.store1 (X.s 56) (X.s 54))]
def C.y2 : LO := C.y2_b
def C.y2_w := pO C.y2.eq_1
def C.b54 : ICode := .keep [0, 2, 3, 10, 11, 12] (.seq (.region C.y2) C.b53)
def C.b54_w := pC C.b54.eq_1
def C.y1_b : LO := [
 X.m 46 0,
 X.o 47 (.nilchk (X.s 46)),
 X.o 48 (.fldAddr 2 (X.s 47)),
 X.o 49 (.load1 (X.s 48)),
 X.m 12 49]
def C.y1 : LO := C.y1_b
def C.y1_w := pO C.y1.eq_1
def C.b55 : ICode := .keep [0, 2, 3, 10, 11] (.seq (.region C.y1) C.b54)
def C.b55_w := pC C.b55.eq_1
def C.y0_b : LO := [
 X.o 8 (.move (X.i 0)),
 X.o 9 (.move (X.i 8))]
def C.y0 : LO := C.y0_b
def C.y0_w := pO C.y0.eq_1
def C.b56 : ICode := .seq (.region C.y0) .ret
def C.b56_w := pC C.b56.eq_1
def C.b57 : ICode := .keep [0, 2, 3, 10, 11, 45] (.cond (X.s 45) C.b56 .skip)
def C.b57_w := pC C.b57.eq_1
def C.yz_b : LO := [
 X.m 37 0,
 X.o 38 (.nilchk (X.s 37)),
 X.o 39 (.fldAddr 1 (X.s 38)),
 X.o 40 (.load1 (X.s 39)),
 X.m 41 10,
 X.o 42 (.idxAddr 1 (X.s 40) (X.s 41)),
 X.o 43 (.load1 (X.s 42)),
 X.o 44 (.len (X.s 43)),
 X.o 45 (.bin .geq (X.s 44) (X.i 4))]
def C.yz : LO := C.yz_b
def C.yz_w := pO C.yz.eq_1
def C.b58 : ICode := .keep [0, 2, 3, 10, 11] (.seq (.seq (.region C.yz) C.b57) C.b55)
def C.b58_w := pC C.b58.eq_1
def C.yq_b : LO := [
 X.o 8 (.move (X.i 0)),
 X.o 9 (.move (X.i 4))]
def C.yq : LO := C.yq_b
def C.yq_w := pO C.yq.eq_1
def C.b59 : ICode := .seq (.region C.yq) .ret
def C.b59_w := pC C.b59.eq_1
def C.b6b : ICode := .keep [0, 2, 3, 10, 11, 36] (.cond (X.s 36) C.b59 .skip)
def C.b6b_w := pC C.b6b.eq_1
def C.yy_b : LO := [
 X.m 18 0,
 X.m 19 10,
 X.o 20 (.call F.q8 [X.s 18, X.s 19]),
 X.o 21 (.un .not (X.s 20)),
 X.m 22 21,
 X.f 22 23 (.move (X.s 11)),
 X.f 22 24 (.bin .lss (X.s 23) (X.i 0)),
 X.o 25 (.pick (X.s 22) (.cst (.bool true)) (X.s 24)),
 X.m 26 25,
 X.f 26 27 (.move (X.s 11)),
 X.f 26 28 (.move (X.s 0)),
 X.f 26 29 (.nilchk (X.s 28)),
 X.f 26 30 (.fldAddr 0 (X.s 29)),
 X.f 26 31 (.load1 (X.s 30)),
 X.f 26 32 (.move (X.s 10)),
 X.f 26 33 (.idxAddr 1 (X.s 31) (X.s 32)),
 X.f 26 34 (.load1 (X.s 33)),
 X.f 26 35 (.bin .geq (X.s 27) (X.s 34)),
 X.o 36 (.pick (X.s 26) (.cst (.bool true)) (X.s 35))]
def C.yy : LO := C.yy_b
def C.yy_w := pO C.yy.eq_1
def C.b51 : ICode := .keep [0, 2, 3, 10, 11] (.seq (.seq (.region C.yy) C.b6b) C.b58)
def C.b51_w := pC C.b51.eq_1
def C.yx_b : LO := [
 X.m 14 1,
 X.o 15 (.call F.q10 [X.s 14]),
 X.m 13 15,
 X.o 16 (.extract (X.s 13) 0),
 X.o 17 (.extract (X.s 13) 1),
 X.m 10 16,
 X.m 11 17]
def C.yx : LO := C.yx_b
def C.yx_w := pO C.yx.eq_1
def C.b52 : ICode := .keep [0, 1, 2, 3] (.seq (.region C.yx) C.b51)
def C.b52_w := pC C.b52.eq_1
def C.yw_b : LO := [
 X.o 8 (.move (X.i 0)),
 X.o 9 (.move (X.i 0))]
def C.yw : LO := C.yw_b
def C.yw_w := pO C.yw.eq_1
def C.q5 : IFunc := ⟨4, [.slot 8, .slot 9], .seq (.region C.yw) C.b52⟩
def C.q5_W := aI (aI (aI (aI @C.y4_w @C.b50_w) (aI @C.y3_w (aI @C.b53_w @C.y2_w))) (aI (aI @C.b54_w @C.y1_w) (aI @C.b55_w (aI @C.y0_w @C.b56_w)))) (aI (aI (aI @C.b57_w @C.yz_w) (aI @C.b58_w (aI @C.yq_w @C.b59_w))) (aI (aI @C.b6b_w (aI @C.yy_w @C.b51_w)) (aI @C.yx_w (aI @C.b52_w @C.yw_w))))
def C.q5_B := aI (aI (aI @C.y4_b.eq_1 @C.y3_b.eq_1) (aI @C.y2_b.eq_1 (aI @C.y1_b.eq_1 @C.y0_b.eq_1))) (aI (aI @C.yz_b.eq_1 @C.yq_b.eq_1) (aI @C.yy_b.eq_1 (aI @C.yx_b.eq_1 @C.yw_b.eq_1)))

def C.nr_b : LO := [
 X.o 2 (.move (X.i 0))]
def C.nr : LO := C.nr_b
def C.nr_w := pO C.nr.eq_1
def C.by6 : ICode := .keep [] (.seq (.region C.nr) .ret)
def C.by6_w := pC C.by6.eq_1
def C.np_b : LO := [
 X.m 12 0,
 X.o 13 (.nilchk (X.s 12)),
 X.o 14 (.fldAddr 0 (X.s 13)),
 X.n (.store1 (X.s 14) (X.i 1))]
def C.np : LO := C.np_b
def C.np_w := pO C.np.eq_1
def C.by7 : ICode := .keep [0] (.seq (.region C.np) C.by6)
def C.by7_w := pC C.by7.eq_1
def C.nn_b : LO := [
 X.o 2 (.move (X.i 6))]
def C.nn : LO := C.nn_b
def C.nn_w := pO C.nn.eq_1
def C.by8 : ICode := .seq (.region C.nn) .ret
def C.by8_w := pC C.by8.eq_1
def C.by9 : ICode := .keep [0, 11] (.cond (X.s 11) C.by8 .skip)
def C.by9_w := pC C.by9.eq_1
def C.nm_b : LO := [
 X.m 3 0,
 X.o 4 (.eqP 0 false (X.s 3) (.cst (.nilp))),
 X.m 5 4,
 X.f 5 6 (.move (X.s 0)),
 X.f 5 7 (.nilchk (X.s 6)),
 X.f 5 8 (.fldAddr 0 (X.s 7)),
 X.f 5 9 (.load1 (X.s 8)),
 X.f 5 10 (.bin .neq (X.s 9) (X.i 0)),
 X.o 11 (.pick (X.s 5) (.cst (.bool true)) (X.s 10))]
def C.nm : LO := C.nm_b
def C.nm_w := pO C.nm.eq_1
def C.bqb : ICode := .keep [0] (.seq (.seq (.region C.nm) C.by9) C.by7)
def C.bqb_w := pC C.bqb.eq_1
def C.nl_b : LO := [
 X.o 2 (.move (X.i 0))]
def C.nl : LO := C.nl_b
def C.nl_w := pO C.nl.eq_1
def C.q100 : IFunc := ⟨1, [.slot 2], .seq (.region C.nl) C.bqb⟩
def C.q100_W := aI (aI (aI @C.nr_w @C.by6_w) (aI @C.np_w (aI @C.by7_w @C.nn_w))) (aI (aI @C.by8_w @C.by9_w) (aI @C.nm_w (aI @C.bqb_w @C.nl_w)))
def C.q100_B := aI (aI @C.nr_b.eq_1 @C.np_b.eq_1) (aI @C.nn_b.eq_1 (aI @C.nm_b.eq_1 @C.nl_b.eq_1))

def C.bg1_b : LO := [
 X.m 3 0,
 X.o 4 (.eqP 0 true (X.s 3) (.cst (.nilp))),
 X.m 5 4,
 X.t 5 6 (.move (X.s 0)),
 X.t 5 7 (.nilchk (X.s 6)),
 X.t 5 8 (.fldAddr 0 (X.s 7)),
 X.t 5 9 (.load1 (X.s 8)),
 X.t 5 10 (.eqP 0 true (X.s 9) (.cst (.nilp))),
 X.o 11 (.pick (X.s 5) (X.s 10) (.cst (.bool false))),
 X.m 12 11,
 X.t 12 13 (.move (X.s 0)),
 X.t 12 14 (.nilchk (X.s 13)),
 X.t 12 15 (.fldAddr 1 (X.s 14)),
 X.t 12 16 (.load1 (X.s 15)),
 X.t 12 17 (.eqP 0 true (X.s 16) (.cst (.nilp))),
 X.o 18 (.pick (X.s 12) (X.s 17) (.cst (.bool false))),
 X.m 19 18,
 X.t 19 20 (.move (X.s 0)),
 X.t 19 21 (.nilchk (X.s 20)),
 X.t 19 22 (.fldAddr 2 (X.s 21)),
 X.t 19 23 (.load1 (X.s 22)),
 X.t 19 24 (.eqP 0 true (X.s 23) (.cst (.nilp))),
 X.o 25 (.pick (X.s 19) (X.s 24) (.cst (.bool false))),
 X.m 26 25,
 X.t 26 27 (.move (X.s 0)),
 X.t 26 28 (.nilchk (X.s 27)),
 X.t 26 29 (.fldAddr 3 (X.s 28)),
 X.t 26 30 (.load1 (X.s 29)),
 X.t 26 31 (.eqP 0 true (X.s 30) (.cst (.nilp))),
 X.o 32 (.pick (X.s 26) (X.s 31) (.cst (.bool false))),
 X.m 2 32]
def C.bg1 : LO := C.bg1_b
def C.bg1_w := pO C.bg1.eq_1
def C.ccl : ICode := .keep [0] (.seq (.region C.bg1) .ret)
def C.ccl_w := pC C.ccl.eq_1
def C.bg0_b : LO := [
 X.o 2 (.move (.cst (.bool false)))]
def C.bg0 : LO := C.bg0_b
def C.bg0_w := pO C.bg0.eq_1
def C.q90 : IFunc := ⟨1, [.slot 2], .seq (.region C.bg0) C.ccl⟩
def C.q90_W := aI @C.bg1_w (aI @C.ccl_w @C.bg0_w)
def C.q90_B := aI @C.bg1_b.eq_1 @C.bg0_b.eq_1

def C.bgw_b : LO := [
 X.o 57 (.fldAddr 0 (X.s 6)),
 X.o 58 (.load1 (X.s 57)),
 X.m 59 1,
 X.m 60 9,
 X.o 61 (.build [.int .i64 0, .int .i64 0, .bool false, .int .u32 0] [(0, 1, X.s 58), (1, 1, X.s 59), (3, 1, X.s 60)]),
 X.n (.storeN 4 (X.s 4) (X.s 61)),
 X.o 5 (.move (.cst (.bool true)))]
def C.bgw : LO := C.bgw_b
def C.bgw_w := pO C.bgw.eq_1
def C.bgv : ICode := .keep [1, 4, 6, 9] (.seq (.region C.bgw) .ret)
def C.bgv_w := pC C.bgv.eq_1
def C.l2_b : LO := [
 X.o 50 (.fldAddr 4 (X.s 8)),
 X.o 51 (.load1 (X.s 50)),
 X.o 52 (.fldAddr 2 (X.s 6)),
 X.o 53 (.load1 (X.s 52)),
 X.o 54 (.fldAddr 3 (X.s 6)),
 X.o 55 (.load1 (X.s 54)),
 X.o 56 (.call F.q113 [X.s 51, X.s 53, X.s 55])]
def C.l2 : LO := C.l2_b
def C.l2_w := pO C.l2.eq_1
def C.bwt : ICode := .keep [1, 4, 6, 8, 9, 49] (.cond (X.s 49) (.region C.l2) .skip)
def C.bwt_w := pC C.bwt.eq_1
def C.l1_b : LO := [
 X.o 48 (.fldAddr 1 (X.s 6)),
 X.o 49 (.load1 (X.s 48))]
def C.l1 : LO := C.l1_b
def C.l1_w := pO C.l1.eq_1
def C.bwv : ICode := .keep [1, 4, 6, 8, 9] (.seq (.seq (.region C.l1) C.bwt) C.bgv)
def C.bwv_w := pC C.bwv.eq_1
def C.l0_b : LO := [
 X.o 41 (.fldAddr 4 (X.s 8)),
 X.o 42 (.load1 (X.s 41)),
 X.o 43 (.fldAddr 2 (X.s 6)),
 X.o 44 (.load1 (X.s 43)),
 X.o 45 (.call F.q108 [X.s 42, X.s 44]),
 X.m 40 45,
 X.o 46 (.extract (X.s 40) 0),
 X.o 47 (.extract (X.s 40) 1),
 X.m 9 46,
 X.m 10 47]
def C.l0 : LO := C.l0_b
def C.l0_w := pO C.l0.eq_1
def C.bww : ICode := .keep [1, 4, 6, 8] (.seq (.region C.l0) C.bwv)
def C.bww_w := pC C.bww.eq_1
def C.lz_b : LO := [
 X.o 34 (.fldAddr 0 (X.s 6)),
 X.o 35 (.load1 (X.s 34)),
 X.m 36 1,
 X.o 37 (.fldAddr 3 (X.s 8)),
 X.o 38 (.load1 (X.s 37)),
 X.o 39 (.build [.int .i64 0, .int .i64 0, .bool false, .int .u32 0] [(0, 1, X.s 35), (1, 1, X.s 36), (2, 1, .cst (.bool true)), (3, 1, X.s 38)]),
 X.n (.storeN 4 (X.s 4) (X.s 39)),
 X.o 5 (.move (.cst (.bool true)))]
def C.lz : LO := C.lz_b
def C.lz_w := pO C.lz.eq_1
def C.bwx : ICode := .seq (.region C.lz) .ret
def C.bwx_w := pC C.bwx.eq_1
def C.bwy : ICode := .keep [1, 4, 6, 8, 33] (.cond (X.s 33) C.bwx .skip)
def C.bwy_w := pC C.bwy.eq_1
def C.lq_b : LO := [
 X.m 30 0,
 X.m 31 1,
 X.o 32 (.call F.q78 [X.s 30, X.s 31]),
 X.o 33 (.un .not (X.s 32))]
def C.lq : LO := C.lq_b
def C.lq_w := pO C.lq.eq_1
def C.bwq : ICode := .keep [0, 1, 4, 6, 8] (.seq (.seq (.region C.lq) C.bwy) C.bww)
def C.bwq_w := pC C.bwq.eq_1
def C.ly_b : LO := [
 X.m 23 0,
 X.o 24 (.nilchk (X.s 23)),
 X.o 25 (.fldAddr 4 (X.s 24)),
 X.o 26 (.load1 (X.s 25)),
 X.m 27 1,
 X.o 28 (.idxAddr 6 (X.s 26) (X.s 27)),
 X.o 29 (.loadN 6 (X.s 28)),
 X.o 8 (.alloc [.int .i64 0, .int .i64 0, .int .i64 0, .int .u32 0, .nilp, .nilp]),
 X.n (.storeN 6 (X.s 8) (X.s 29))]
def C.ly : LO := C.ly_b
def C.ly_w := pO C.ly.eq_1
def C.bwz : ICode := .keep [0, 1, 4, 6] (.seq (.region C.ly) C.bwq)
def C.bwz_w := pC C.bwz.eq_1
def C.lx_b : LO := [
 X.o 22 (.build [.int .i64 0, .int .i64 0, .bool false, .int .u32 0] []),
 X.n (.storeN 4 (X.s 4) (X.s 22)),
 X.o 5 (.move (.cst (.bool false)))]
def C.lx : LO := C.lx_b
def C.lx_w := pO C.lx.eq_1
def C.bw0 : ICode := .seq (.region C.lx) .ret
def C.bw0_w := pC C.bw0.eq_1
def C.bwp : ICode := .keep [0, 1, 4, 6, 21] (.cond (X.s 21) C.bw0 .skip)
def C.bwp_w := pC C.bwp.eq_1
def C.lw_b : LO := [
 X.m 20 7,
 X.o 21 (.un .not (X.s 20))]
def C.lw : LO := C.lw_b
def C.lw_w := pO C.lw.eq_1
def C.bwr : ICode := .keep [0, 1, 4, 6, 7] (.seq (.seq (.region C.lw) C.bwp) C.bwz)
def C.bwr_w := pC C.bwr.eq_1
def C.bl_b : LO := [
 X.m 12 0,
 X.o 13 (.nilchk (X.s 12)),
 X.o 14 (.fldAddr 3 (X.s 13)),
 X.o 15 (.load1 (X.s 14)),
 X.m 16 1,
 X.o 17 (.call F.q6 [X.s 15, X.s 16]),
 X.m 11 17,
 X.o 18 (.extract (X.s 11) 0),
 X.o 19 (.extract (X.s 11) 1),
 X.o 6 (.alloc [.int .i64 0, .bool false, .int .i64 0, .int .u32 0]),
 X.n (.storeN 4 (X.s 6) (X.s 18)),
 X.m 7 19]
def C.bl : LO := C.bl_b
def C.bl_w := pO C.bl.eq_1
def C.bws : ICode := .keep [0, 1, 4] (.seq (.region C.bl) C.bwr)
def C.bws_w := pC C.bws.eq_1
def C.bd_b : LO := [
 X.o 4 (.alloc [.int .i64 0, .int .i64 0, .bool false, .int .u32 0]),
 X.o 5 (.move (.cst (.bool false)))]
def C.bd : LO := C.bd_b
def C.bd_w := pO C.bd.eq_1
def C.q88 : IFunc := ⟨2, [.cellN 4 4, .slot 5], .seq (.region C.bd) C.bws⟩
def C.q88_W := aI (aI (aI (aI @C.bgw_w @C.bgv_w) (aI @C.l2_w (aI @C.bwt_w @C.l1_w))) (aI (aI @C.bwv_w (aI @C.l0_w @C.bww_w)) (aI @C.lz_w (aI @C.bwx_w @C.bwy_w)))) (aI (aI (aI @C.lq_w (aI @C.bwq_w @C.ly_w)) (aI @C.bwz_w (aI @C.lx_w @C.bw0_w))) (aI (aI @C.bwp_w (aI @C.lw_w @C.bwr_w)) (aI @C.bl_w (aI @C.bws_w @C.bd_w))))
def C.q88_B := aI (aI (aI @C.bgw_b.eq_1 @C.l2_b.eq_1) (aI @C.l1_b.eq_1 (aI @C.l0_b.eq_1 @C.lz_b.eq_1))) (aI (aI @C.lq_b.eq_1 (aI @C.ly_b.eq_1 @C.lx_b.eq_1)) (aI @C.lw_b.eq_1 (aI @C.bl_b.eq_1 @C.bd_b.eq_1)))

def C.n4_b : LO := [
 X.m 20 0,
 X.o 21 (.nilchk (X.s 20)),
 X.o 22 (.fldAddr 1 (X.s 21)),
 X.o 23 (.load1 (X.s 22)),
 X.o 24 (.bin .add (X.s 23) (X.i 1)),
 X.o 25 (.nilchk (X.s 20)),
 X.o 26 (.fldAddr 1 (X.s 25)),
 X.n (.store1 (X.s 26) (X.s 24))]
def C.n4 : LO := C.n4_b
def C.n4_w := pO C.n4.eq_1
def C.bqp : ICode := .keep [0] (.region C.n4)
def C.bqp_w := pC C.bqp.eq_1
def C.n3_b : LO := [
 X.m 17 0,
 X.o 18 (.nilchk (X.s 17)),
 X.o 19 (.fldAddr 0 (X.s 18)),
 X.n (.store1 (X.s 19) (X.i 3))]
def C.n3 : LO := C.n3_b
def C.n3_w := pO C.n3.eq_1
def C.n7_b : LO := [
 X.m 33 0,
 X.o 34 (.nilchk (X.s 33)),
 X.o 35 (.fldAddr 1 (X.s 34)),
 X.n (.store1 (X.s 35) (X.i 0))]
def C.n7 : LO := C.n7_b
def C.n7_w := pO C.n7.eq_1
def C.bqs : ICode := .keep [0] (.region C.n7)
def C.bqs_w := pC C.bqs.eq_1
def C.n6_b : LO := [
 X.m 30 0,
 X.o 31 (.nilchk (X.s 30)),
 X.o 32 (.fldAddr 0 (X.s 31)),
 X.n (.store1 (X.s 32) (X.i 2))]
def C.n6 : LO := C.n6_b
def C.n6_w := pO C.n6.eq_1
def C.bqt : ICode := .seq (.region C.n6) C.bqs
def C.bqt_w := pC C.bqt.eq_1
def C.bqv : ICode := .keep [0, 27] (.cond (X.s 27) C.bqt .skip)
def C.bqv_w := pC C.bqv.eq_1
def C.n5_b : LO := [
 X.m 28 1,
 X.o 29 (.un .not (X.s 28)),
 X.m 27 29]
def C.n5 : LO := C.n5_b
def C.n5_w := pO C.n5.eq_1
def C.bqw : ICode := .seq (.region C.n3) C.bqp
def C.bqw_w := pC C.bqw.eq_1
def C.bqx : ICode := .seq (.region C.n5) C.bqv
def C.bqx_w := pC C.bqx.eq_1
def C.bqy : ICode := .keep [0, 1, 15] (.cond (X.s 15) C.bqw C.bqx)
def C.bqy_w := pC C.bqy.eq_1
def C.n2_b : LO := [
 X.m 16 2,
 X.m 15 16]
def C.n2 : LO := C.n2_b
def C.n2_w := pO C.n2.eq_1
def C.bqn : ICode := .seq (.region C.n2) C.bqy
def C.bqn_w := pC C.bqn.eq_1
def C.bqq : ICode := .keep [0, 1, 2] (.block 0 C.bqn)
def C.bqq_w := pC C.bqq.eq_1
def C.bqr : ICode := .keep [0, 1, 2, 14] (.cond (X.s 14) .ret .skip)
def C.bqr_w := pC C.bqr.eq_1
def C.n1_b : LO := [
 X.m 6 0,
 X.o 7 (.eqP 0 false (X.s 6) (.cst (.nilp))),
 X.m 8 7,
 X.f 8 9 (.move (X.s 0)),
 X.f 8 10 (.nilchk (X.s 9)),
 X.f 8 11 (.fldAddr 0 (X.s 10)),
 X.f 8 12 (.load1 (X.s 11)),
 X.f 8 13 (.bin .neq (X.s 12) (X.i 1)),
 X.o 14 (.pick (X.s 8) (.cst (.bool true)) (X.s 13))]
def C.n1 : LO := C.n1_b
def C.n1_w := pO C.n1.eq_1
def C.q103 : IFunc := ⟨3, [], .seq (.seq (.region C.n1) C.bqr) C.bqq⟩
def C.q103_W := aI (aI (aI (aI @C.n4_w @C.bqp_w) (aI @C.n3_w @C.n7_w)) (aI (aI @C.bqs_w @C.n6_w) (aI @C.bqt_w @C.bqv_w))) (aI (aI (aI @C.n5_w @C.bqw_w) (aI @C.bqx_w @C.bqy_w)) (aI (aI @C.n2_w @C.bqn_w) (aI @C.bqq_w (aI @C.bqr_w @C.n1_w))))
def C.q103_B := aI (aI @C.n4_b.eq_1 (aI @C.n3_b.eq_1 @C.n7_b.eq_1)) (aI (aI @C.n6_b.eq_1 @C.n5_b.eq_1) (aI @C.n2_b.eq_1 @C.n1_b.eq_1))

def C.bfw_b : LO := [
 X.m 9 0,
 X.o 10 (.nilchk (X.s 9)),
 X.o 11 (.fldAddr 1 (X.s 10)),
 X.o 12 (.load1 (X.s 11)),
 X.m 13 1,
 X.o 14 (.idxAddr 1 (X.s 12) (X.s 13)),
 X.o 15 (.load1 (X.s 14)),
 X.o 16 (.len (X.s 15)),
 X.m 4 16]
def C.bfw : LO := C.bfw_b
def C.bfw_w := pO C.bfw.eq_1
def C.cbk : ICode := .keep [0, 1] (.seq (.region C.bfw) .ret)
def C.cbk_w := pC C.cbk.eq_1
def C.bfv_b : LO := [
 X.o 4 (.move (X.i 0))]
def C.bfv : LO := C.bfv_b
def C.bfv_w := pO C.bfv.eq_1
def C.cbl : ICode := .seq (.region C.bfv) .ret
def C.cbl_w := pC C.cbl.eq_1
def C.cbm : ICode := .keep [0, 1, 8] (.cond (X.s 8) C.cbl .skip)
def C.cbm_w := pC C.cbm.eq_1
def C.bft_b : LO := [
 X.m 5 0,
 X.m 6 1,
 X.o 7 (.call F.q8 [X.s 5, X.s 6]),
 X.o 8 (.un .not (X.s 7))]
def C.bft : LO := C.bft_b
def C.bft_w := pO C.bft.eq_1
def C.cbn : ICode := .keep [0, 1] (.seq (.seq (.region C.bft) C.cbm) C.cbk)
def C.cbn_w := pC C.cbn.eq_1
def C.bfs_b : LO := [
 X.o 4 (.move (X.i 0))]
def C.bfs : LO := C.bfs_b
def C.bfs_w := pO C.bfs.eq_1
def C.q7 : IFunc := ⟨2, [.slot 4], .seq (.region C.bfs) C.cbn⟩
def C.q7_W := aI (aI (aI @C.bfw_w @C.cbk_w) (aI @C.bfv_w @C.cbl_w)) (aI (aI @C.cbm_w @C.bft_w) (aI @C.cbn_w @C.bfs_w))
def C.q7_B := aI (aI @C.bfw_b.eq_1 @C.bfv_b.eq_1) (aI @C.bft_b.eq_1 @C.bfs_b.eq_1)

def C.jj_b : LO := [
 X.o 158 (.bin .add (X.s 34) (X.i 1)),
 X.m 34 158]
def C.jj : LO := C.jj_b
def C.jj_w := pO C.jj.eq_1
def C.tj : ICode := .keep [0, 2, 33, 34] (.region C.jj)
def C.tj_w := pC C.tj.eq_1
def C.jd_b : LO := [
 X.m 65 5,
 X.m 66 5,
 X.o 67 (.nilchk (X.s 66)),
 X.o 68 (.fldAddr 0 (X.s 67)),
 X.o 69 (.fldAddr 5 (X.s 68)),
 X.o 70 (.load1 (X.s 69)),
 X.o 71 (.nilchk (X.s 65)),
 X.o 72 (.fldAddr 7 (X.s 71)),
 X.n (.store1 (X.s 72) (X.s 70))]
def C.jd : LO := C.jd_b
def C.jd_w := pO C.jd.eq_1
def C.jg_b : LO := [
 X.m 93 5,
 X.o 94 (.nilchk (X.s 93)),
 X.o 95 (.fldAddr 7 (X.s 94)),
 X.o 96 (.load1 (X.s 95)),
 X.o 97 (.bin .sub (X.s 96) (X.i 1)),
 X.o 98 (.nilchk (X.s 93)),
 X.o 99 (.fldAddr 7 (X.s 98)),
 X.n (.store1 (X.s 99) (X.s 97))]
def C.jg : LO := C.jg_b
def C.jg_w := pO C.jg.eq_1
def C.tl_b : LO := [
 X.m 151 5,
 X.m 152 5,
 X.o 153 (.nilchk (X.s 152)),
 X.o 154 (.fldAddr 9 (X.s 153)),
 X.o 155 (.load1 (X.s 154)),
 X.o 156 (.nilchk (X.s 151)),
 X.o 157 (.fldAddr 8 (X.s 156)),
 X.n (.store1 (X.s 157) (X.s 155))]
def C.tl : LO := C.tl_b
def C.tl_w := pO C.tl.eq_1
def C.cx : ICode := .keep [0, 2, 5, 33, 34, 100] (.cond (X.s 100) (.region C.tl) .skip)
def C.cx_w := pC C.cx.eq_1
def C.jh_b : LO := [
 X.m 101 5,
 X.o 102 (.nilchk (X.s 101)),
 X.o 103 (.fldAddr 0 (X.s 102)),
 X.o 104 (.fldAddr 0 (X.s 103)),
 X.o 105 (.load1 (X.s 104)),
 X.o 106 (.bin .eql (X.s 105) (.cst (.int .u8 109))),
 X.m 107 106,
 X.t 107 108 (.move (X.s 5)),
 X.t 107 109 (.nilchk (X.s 108)),
 X.t 107 110 (.fldAddr 9 (X.s 109)),
 X.t 107 111 (.load1 (X.s 110)),
 X.t 107 112 (.move (X.s 5)),
 X.t 107 113 (.nilchk (X.s 112)),
 X.t 107 114 (.fldAddr 8 (X.s 113)),
 X.t 107 115 (.load1 (X.s 114)),
 X.t 107 116 (.bin .neq (X.s 111) (X.s 115)),
 X.o 117 (.pick (X.s 107) (X.s 116) (.cst (.bool false))),
 X.m 118 117,
 X.t 118 119 (.move (X.s 2)),
 X.t 118 120 (.move (X.s 5)),
 X.t 118 121 (.nilchk (X.s 120)),
 X.t 118 122 (.fldAddr 0 (X.s 121)),
 X.t 118 123 (.fldAddr 1 (X.s 122)),
 X.t 118 124 (.load1 (X.s 123)),
 X.t 118 125 (.move (X.s 5)),
 X.t 118 126 (.nilchk (X.s 125)),
 X.t 118 127 (.fldAddr 9 (X.s 126)),
 X.t 118 128 (.load1 (X.s 127)),
 X.t 118 129 (.idxAddr 1 (X.s 124) (X.s 128)),
 X.t 118 130 (.load1 (X.s 129)),
 X.t 118 131 (.idxAddr 1 (X.s 119) (X.s 130)),
 X.t 118 132 (.load1 (X.s 131)),
 X.t 118 133 (.move (X.s 132)),
 X.f 133 134 (.move (X.s 2)),
 X.f 133 135 (.move (X.s 5)),
 X.f 133 136 (.nilchk (X.s 135)),
 X.f 133 137 (.fldAddr 0 (X.s 136)),
 X.f 133 138 (.fldAddr 1 (X.s 137)),
 X.f 133 139 (.load1 (X.s 138)),
 X.f 133 140 (.move (X.s 5)),
 X.f 133 141 (.nilchk (X.s 140)),
 X.f 133 142 (.fldAddr 8 (X.s 141)),
 X.f 133 143 (.load1 (X.s 142)),
 X.f 133 144 (.idxAddr 1 (X.s 139) (X.s 143)),
 X.f 133 145 (.load1 (X.s 144)),
 X.f 133 146 (.idxAddr 1 (X.s 134) (X.s 145)),
 X.f 133 147 (.load1 (X.s 146)),
 X.f 133 148 (.un .not (X.s 147)),
 X.t 118 149 (.pick (X.s 133) (.cst (.bool true)) (X.s 148)),
 X.o 150 (.pick (X.s 118) (X.s 149) (.cst (.bool false))),
 X.m 100 150]
def C.jh : LO := C.jh_b
def C.jh_w := pO C.jh.eq_1
def C.bsd : ICode := .seq (.region C.jh) C.cx
def C.bsd_w := pC C.bsd.eq_1
def C.b2 : ICode := .keep [0, 2, 5, 33, 34, 73] (.cond (X.s 73) (.region C.jg) C.bsd)
def C.b2_w := pC C.b2.eq_1
def C.jf_b : LO := [
 X.m 74 5,
 X.o 75 (.nilchk (X.s 74)),
 X.o 76 (.fldAddr 0 (X.s 75)),
 X.o 77 (.fldAddr 0 (X.s 76)),
 X.o 78 (.load1 (X.s 77)),
 X.o 79 (.bin .eql (X.s 78) (.cst (.int .u8 112))),
 X.m 80 79,
 X.t 80 81 (.move (X.s 5)),
 X.t 80 82 (.nilchk (X.s 81)),
 X.t 80 83 (.fldAddr 6 (X.s 82)),
 X.t 80 84 (.load1 (X.s 83)),
 X.o 85 (.pick (X.s 80) (X.s 84) (.cst (.bool false))),
 X.m 86 85,
 X.t 86 87 (.move (X.s 5)),
 X.t 86 88 (.nilchk (X.s 87)),
 X.t 86 89 (.fldAddr 7 (X.s 88)),
 X.t 86 90 (.load1 (X.s 89)),
 X.t 86 91 (.bin .gtr (X.s 90) (X.i 0)),
 X.o 92 (.pick (X.s 86) (X.s 91) (.cst (.bool false))),
 X.m 73 92]
def C.jf : LO := C.jf_b
def C.jf_w := pO C.jf.eq_1
def C.bsf : ICode := .seq (.region C.jf) C.b2
def C.bsf_w := pC C.bsf.eq_1
def C.bx : ICode := .keep [0, 2, 5, 33, 34, 43] (.cond (X.s 43) (.region C.jd) C.bsf)
def C.bx_w := pC C.bx.eq_1
def C.jc_b : LO := [
 X.m 44 5,
 X.o 45 (.nilchk (X.s 44)),
 X.o 46 (.fldAddr 0 (X.s 45)),
 X.o 47 (.fldAddr 0 (X.s 46)),
 X.o 48 (.load1 (X.s 47)),
 X.o 49 (.bin .eql (X.s 48) (.cst (.int .u8 112))),
 X.m 50 49,
 X.t 50 51 (.move (X.s 5)),
 X.t 50 52 (.nilchk (X.s 51)),
 X.t 50 53 (.fldAddr 6 (X.s 52)),
 X.t 50 54 (.load1 (X.s 53)),
 X.o 55 (.pick (X.s 50) (X.s 54) (.cst (.bool false))),
 X.m 56 55,
 X.t 56 57 (.move (X.s 2)),
 X.t 56 58 (.move (X.s 0)),
 X.t 56 59 (.move (X.s 4)),
 X.t 56 60 (.call F.q21 [X.s 58, X.s 59]),
 X.t 56 61 (.idxAddr 1 (X.s 57) (X.s 60)),
 X.t 56 62 (.load1 (X.s 61)),
 X.t 56 63 (.un .not (X.s 62)),
 X.o 64 (.pick (X.s 56) (X.s 63) (.cst (.bool false))),
 X.m 43 64]
def C.jc : LO := C.jc_b
def C.jc_w := pO C.jc.eq_1
def C.brz : ICode := .seq (.region C.jc) C.bx
def C.brz_w := pC C.brz.eq_1
def C.bsg : ICode := .keep [0, 2, 4, 5, 33, 34] (.block 4 C.brz)
def C.bsg_w := pC C.bsg.eq_1
def C.jb_b : LO := [
 X.m 37 0,
 X.o 38 (.nilchk (X.s 37)),
 X.o 39 (.fldAddr 0 (X.s 38)),
 X.o 40 (.load1 (X.s 39)),
 X.m 41 4,
 X.o 42 (.idxAddr 11 (X.s 40) (X.s 41)),
 X.m 5 42]
def C.jb : LO := C.jb_b
def C.jb_w := pO C.jb.eq_1
def C.tk : ICode := .keep [0, 2, 4, 33, 34] (.seq (.region C.jb) C.bsg)
def C.tk_w := pC C.tk.eq_1
def C.jt_b : LO := [
 X.m 36 34,
 X.m 4 36]
def C.jt : LO := C.jt_b
def C.jt_w := pO C.jt.eq_1
def C.brw : ICode := .seq (.region C.jt) C.tk
def C.brw_w := pC C.brw.eq_1
def C.br0 : ICode := .keep [0, 2, 33, 34] (.seq (.block 3 C.brw) C.tj)
def C.br0_w := pC C.br0.eq_1
def C.br1 : ICode := .keep [0, 2, 33, 34, 35] (.seq (.cond (X.s 35) .skip (.exit 2)) C.br0)
def C.br1_w := pC C.br1.eq_1
def C.js_b : LO := [
 X.o 35 (.bin .lss (X.s 34) (X.s 33))]
def C.js : LO := C.js_b
def C.js_w := pO C.js.eq_1
def C.cgc : ICode := .keep [0, 2, 33, 34] (.seq (.region C.js) C.br1)
def C.cgc_w := pC C.cgc.eq_1
def C.brx : ICode := .loop C.cgc
def C.brx_w := pC C.brx.eq_1
def C.br2 : ICode := .keep [0, 2, 33, 34] (.block 2 C.brx)
def C.br2_w := pC C.br2.eq_1
def C.jr_b : LO := [
 X.m 29 0,
 X.o 30 (.nilchk (X.s 29)),
 X.o 31 (.fldAddr 0 (X.s 30)),
 X.o 32 (.load1 (X.s 31)),
 X.o 33 (.len (X.s 32)),
 X.o 34 (.move (X.i 0))]
def C.jr : LO := C.jr_b
def C.jr_w := pO C.jr.eq_1
def C.br3 : ICode := .keep [0, 2] (.seq (.region C.jr) C.br2)
def C.br3_w := pC C.br3.eq_1
def C.jp_b : LO := [
 X.o 28 (.bin .add (X.s 19) (X.i 1)),
 X.m 19 28]
def C.jp : LO := C.jp_b
def C.jp_w := pO C.jp.eq_1
def C.br4 : ICode := .keep [0, 2, 18, 19] (.region C.jp)
def C.br4_w := pC C.br4.eq_1
def C.jn_b : LO := [
 X.m 22 2,
 X.m 23 3,
 X.m 24 0,
 X.m 25 3,
 X.o 26 (.call F.q17 [X.s 24, X.s 25]),
 X.o 27 (.idxAddr 1 (X.s 22) (X.s 23)),
 X.n (.store1 (X.s 27) (X.s 26))]
def C.jn : LO := C.jn_b
def C.jn_w := pO C.jn.eq_1
def C.br5 : ICode := .keep [0, 2, 3, 18, 19] (.region C.jn)
def C.br5_w := pC C.br5.eq_1
def C.jm_b : LO := [
 X.m 21 19,
 X.m 3 21]
def C.jm : LO := C.jm_b
def C.jm_w := pO C.jm.eq_1
def C.bry : ICode := .seq (.region C.jm) C.br5
def C.bry_w := pC C.bry.eq_1
def C.br6 : ICode := .keep [0, 2, 18, 19] (.seq (.block 1 C.bry) C.br4)
def C.br6_w := pC C.br6.eq_1
def C.br7 : ICode := .keep [0, 2, 18, 19, 20] (.seq (.cond (X.s 20) .skip (.exit 0)) C.br6)
def C.br7_w := pC C.br7.eq_1
def C.jl_b : LO := [
 X.o 20 (.bin .lss (X.s 19) (X.s 18))]
def C.jl : LO := C.jl_b
def C.jl_w := pO C.jl.eq_1
def C.cgd : ICode := .keep [0, 2, 18, 19] (.seq (.region C.jl) C.br7)
def C.cgd_w := pC C.cgd.eq_1
def C.brq : ICode := .loop C.cgd
def C.brq_w := pC C.brq.eq_1
def C.br8 : ICode := .keep [0, 2, 18, 19] (.block 0 C.brq)
def C.br8_w := pC C.br8.eq_1
def C.jk_b : LO := [
 X.m 14 0,
 X.o 15 (.nilchk (X.s 14)),
 X.o 16 (.fldAddr 0 (X.s 15)),
 X.o 17 (.load1 (X.s 16)),
 X.o 18 (.len (X.s 17)),
 X.o 19 (.move (X.i 0))]
def C.jk : LO := C.jk_b
def C.jk_w := pO C.jk.eq_1
def C.br9 : ICode := .keep [0, 2] (.seq (.seq (.region C.jk) C.br8) C.br3)
def C.br9_w := pC C.br9.eq_1
def C.h9_b : LO := [
 X.m 8 0,
 X.o 9 (.nilchk (X.s 8)),
 X.o 10 (.fldAddr 0 (X.s 9)),
 X.o 11 (.load1 (X.s 10)),
 X.o 12 (.len (X.s 11)),
 X.o 13 (.makeSlice 1 1 [.bool false] (X.s 12) (X.s 12)),
 X.m 2 13]
def C.h9 : LO := C.h9_b
def C.h9_w := pO C.h9.eq_1
def C.bsb : ICode := .keep [0] (.seq (.region C.h9) C.br9)
def C.bsb_w := pC C.bsb.eq_1
def C.bsc : ICode := .keep [0, 7] (.cond (X.s 7) .ret .skip)
def C.bsc_w := pC C.bsc.eq_1
def C.h8_b : LO := [
 X.m 6 0,
 X.o 7 (.eqP 0 false (X.s 6) (.cst (.nilp)))]
def C.h8 : LO := C.h8_b
def C.h8_w := pO C.h8.eq_1
def C.q19 : IFunc := ⟨1, [], .seq (.seq (.region C.h8) C.bsc) C.bsb⟩
def C.q19_W := aI (aI (aI (aI (aI @C.jj_w @C.tj_w) (aI @C.jd_w (aI @C.jg_w @C.tl_w))) (aI (aI @C.cx_w @C.jh_w) (aI @C.bsd_w (aI @C.b2_w @C.jf_w)))) (aI (aI (aI @C.bsf_w @C.bx_w) (aI @C.jc_w (aI @C.brz_w @C.bsg_w))) (aI (aI @C.jb_w (aI @C.tk_w @C.jt_w)) (aI @C.brw_w (aI @C.br0_w @C.br1_w))))) (aI (aI (aI (aI @C.js_w @C.brx_w) (aI @C.br2_w (aI @C.jr_w @C.br3_w))) (aI (aI @C.jp_w (aI @C.br4_w @C.jn_w)) (aI @C.br5_w (aI @C.jm_w @C.bry_w)))) (aI (aI (aI @C.br6_w @C.br7_w) (aI @C.jl_w (aI @C.brq_w @C.br8_w))) (aI (aI @C.jk_w (aI @C.br9_w @C.h9_w)) (aI @C.bsb_w (aI @C.bsc_w @C.h8_w)))))
def C.q19_B := aI (aI (aI (aI @C.jj_b.eq_1 @C.jd_b.eq_1) (aI @C.jg_b.eq_1 @C.tl_b.eq_1)) (aI (aI @C.jh_b.eq_1 @C.jf_b.eq_1) (aI @C.jc_b.eq_1 (aI @C.jb_b.eq_1 @C.jt_b.eq_1)))) (aI (aI (aI @C.js_b.eq_1 @C.jr_b.eq_1) (aI @C.jp_b.eq_1 @C.jn_b.eq_1)) (aI (aI @C.jm_b.eq_1 @C.jl_b.eq_1) (aI @C.jk_b.eq_1 (aI @C.h9_b.eq_1 @C.h8_b.eq_1))))

def C.bht_b : LO := [
 X.m 32 3,
 X.m 2 32]
def C.bht : LO := C.bht_b
def C.bht_w := pO C.bht.eq_1
def C.cdf : ICode := .keep [3] (.seq (.region C.bht) .ret)
def C.cdf_w := pC C.cdf.eq_1
def C.bhs_b : LO := [
 X.o 31 (.bin .add (X.s 13) (X.i 1)),
 X.m 13 31]
def C.bhs : LO := C.bhs_b
def C.bhs_w := pO C.bhs.eq_1
def C.cdn : ICode := .keep [0, 3, 12, 13] (.region C.bhs)
def C.cdn_w := pC C.cdn.eq_1
def C.bh1_b : LO := [
 X.m 25 3,
 X.m 26 5,
 X.m 27 4,
 X.o 28 (.build [.int .u8 0, .int .i64 0] [(0, 1, X.s 26), (1, 1, X.s 27)]),
 X.o 29 (.buildSlice 2 1 [.int .u8 0, .int .i64 0] [(0, 2, X.s 28)]),
 X.o 30 (.append 2 16 (X.s 25) (X.s 29)),
 X.m 3 30]
def C.bh1 : LO := C.bh1_b
def C.bh1_w := pO C.bh1.eq_1
def C.cdp : ICode := .keep [0, 3, 4, 5, 12, 13, 24] (.cond (X.s 24) (.region C.bh1) .skip)
def C.cdp_w := pC C.cdp.eq_1
def C.bh0_b : LO := [
 X.m 23 5,
 X.o 24 (.bin .neq (X.s 23) (.cst (.int .u8 0)))]
def C.bh0 : LO := C.bh0_b
def C.bh0_w := pO C.bh0.eq_1
def C.cdr : ICode := .keep [0, 3, 4, 5, 12, 13] (.seq (.region C.bh0) C.cdp)
def C.cdr_w := pC C.cdr.eq_1
def C.bhz_b : LO := [
 X.m 16 0,
 X.o 17 (.nilchk (X.s 16)),
 X.o 18 (.fldAddr 0 (X.s 17)),
 X.o 19 (.load1 (X.s 18)),
 X.m 20 4,
 X.o 21 (.idxAddr 7 (X.s 19) (X.s 20)),
 X.o 22 (.call F.q99 [X.s 21]),
 X.m 5 22]
def C.bhz : LO := C.bhz_b
def C.bhz_w := pO C.bhz.eq_1
def C.cds : ICode := .keep [0, 3, 4, 12, 13] (.seq (.region C.bhz) C.cdr)
def C.cds_w := pC C.cds.eq_1
def C.bhq_b : LO := [
 X.m 15 13,
 X.m 4 15]
def C.bhq : LO := C.bhq_b
def C.bhq_w := pO C.bhq.eq_1
def C.cdd : ICode := .seq (.region C.bhq) C.cds
def C.cdd_w := pC C.cdd.eq_1
def C.cdt : ICode := .keep [0, 3, 12, 13] (.seq (.block 1 C.cdd) C.cdn)
def C.cdt_w := pC C.cdt.eq_1
def C.cdv : ICode := .keep [0, 3, 12, 13, 14] (.seq (.cond (X.s 14) .skip (.exit 0)) C.cdt)
def C.cdv_w := pC C.cdv.eq_1
def C.bhy_b : LO := [
 X.o 14 (.bin .lss (X.s 13) (X.s 12))]
def C.bhy : LO := C.bhy_b
def C.bhy_w := pO C.bhy.eq_1
def C.cg5 : ICode := .keep [0, 3, 12, 13] (.seq (.region C.bhy) C.cdv)
def C.cg5_w := pC C.cg5.eq_1
def C.cdc : ICode := .loop C.cg5
def C.cdc_w := pC C.cdc.eq_1
def C.cdg : ICode := .keep [0, 3, 12, 13] (.block 0 C.cdc)
def C.cdg_w := pC C.cdg.eq_1
def C.bhx_b : LO := [
 X.m 8 0,
 X.o 9 (.nilchk (X.s 8)),
 X.o 10 (.fldAddr 0 (X.s 9)),
 X.o 11 (.load1 (X.s 10)),
 X.o 12 (.len (X.s 11)),
 X.o 13 (.move (X.i 0))]
def C.bhx : LO := C.bhx_b
def C.bhx_w := pO C.bhx.eq_1
def C.cdh : ICode := .keep [0, 3] (.seq (.seq (.region C.bhx) C.cdg) C.cdf)
def C.cdh_w := pC C.cdh.eq_1
def C.bhw_b : LO := [
 X.o 3 (.move (.cst (.nils)))]
def C.bhw : LO := C.bhw_b
def C.bhw_w := pO C.bhw.eq_1
def C.cdj : ICode := .keep [0] (.seq (.region C.bhw) C.cdh)
def C.cdj_w := pC C.cdj.eq_1
def C.bhv_b : LO := [
 X.o 2 (.move (.cst (.nils)))]
def C.bhv : LO := C.bhv_b
def C.bhv_w := pO C.bhv.eq_1
def C.cdk : ICode := .seq (.region C.bhv) .ret
def C.cdk_w := pC C.cdk.eq_1
def C.cdl : ICode := .keep [0, 7] (.cond (X.s 7) C.cdk .skip)
def C.cdl_w := pC C.cdl.eq_1
def C.bhr_b : LO := [
 X.m 6 0,
 X.o 7 (.eqP 0 false (X.s 6) (.cst (.nilp)))]
def C.bhr : LO := C.bhr_b
def C.bhr_w := pO C.bhr.eq_1
def C.cdm : ICode := .keep [0] (.seq (.seq (.region C.bhr) C.cdl) C.cdj)
def C.cdm_w := pC C.cdm.eq_1
def C.bhp_b : LO := [
 X.o 2 (.move (.cst (.nils)))]
def C.bhp : LO := C.bhp_b
def C.bhp_w := pO C.bhp.eq_1
def C.q94 : IFunc := ⟨1, [.slot 2], .seq (.region C.bhp) C.cdm⟩
def C.q94_W := aI (aI (aI (aI @C.bht_w (aI @C.cdf_w @C.bhs_w)) (aI @C.cdn_w (aI @C.bh1_w @C.cdp_w))) (aI (aI @C.bh0_w (aI @C.cdr_w @C.bhz_w)) (aI (aI @C.cds_w @C.bhq_w) (aI @C.cdd_w @C.cdt_w)))) (aI (aI (aI @C.cdv_w (aI @C.bhy_w @C.cdc_w)) (aI (aI @C.cdg_w @C.bhx_w) (aI @C.cdh_w @C.bhw_w))) (aI (aI @C.cdj_w (aI @C.bhv_w @C.cdk_w)) (aI (aI @C.cdl_w @C.bhr_w) (aI @C.cdm_w @C.bhp_w))))
def C.q94_B := aI (aI (aI @C.bht_b.eq_1 (aI @C.bhs_b.eq_1 @C.bh1_b.eq_1)) (aI @C.bh0_b.eq_1 (aI @C.bhz_b.eq_1 @C.bhq_b.eq_1))) (aI (aI @C.bhy_b.eq_1 (aI @C.bhx_b.eq_1 @C.bhw_b.eq_1)) (aI @C.bhv_b.eq_1 (aI @C.bhr_b.eq_1 @C.bhp_b.eq_1)))

def C.bhh_b : LO := [
 X.o 2 (.move (.cst (.nilf)))]
def C.bhh : LO := C.bhh_b
def C.bhh_w := pO C.bhh.eq_1
def C.ccv : ICode := .keep [] (.seq (.region C.bhh) .ret)
def C.ccv_w := pC C.ccv.eq_1
def C.bg9_b : LO := [
 X.o 2 (.move (.fnc F.q111))]
def C.bg9 : LO := C.bg9_b
def C.bg9_w := pO C.bg9.eq_1
def C.bhc_b : LO := [
 X.o 2 (.move (.fnc F.q109))]
def C.bhc : LO := C.bhc_b
def C.bhc_w := pO C.bhc.eq_1
def C.bhg_b : LO := [
 X.o 2 (.move (.fnc F.q105))]
def C.bhg : LO := C.bhg_b
def C.bhg_w := pO C.bhg.eq_1
def C.ccq : ICode := .seq (.region C.bhg) .ret
def C.ccq_w := pC C.ccq.eq_1
def C.ccz : ICode := .keep [8] (.cond (X.s 8) C.ccq .skip)
def C.ccz_w := pC C.ccz.eq_1
def C.bhf_b : LO := [
 X.o 10 (.bin .eql (X.s 3) (.cst (.int .u8 110))),
 X.m 8 10]
def C.bhf : LO := C.bhf_b
def C.bhf_w := pO C.bhf.eq_1
def C.cc0 : ICode := .keep [3, 8] (.cond (X.s 8) .skip (.region C.bhf))
def C.cc0_w := pC C.cc0.eq_1
def C.bhd_b : LO := [
 X.o 9 (.bin .eql (X.s 3) (.cst (.int .u8 108))),
 X.m 8 9]
def C.bhd : LO := C.bhd_b
def C.bhd_w := pO C.bhd.eq_1
def C.cc1 : ICode := .seq (.region C.bhc) .ret
def C.cc1_w := pC C.cc1.eq_1
def C.cc2 : ICode := .seq (.seq (.region C.bhd) C.cc0) C.ccz
def C.cc2_w := pC C.cc2.eq_1
def C.cc3 : ICode := .keep [3, 6] (.cond (X.s 6) C.cc1 C.cc2)
def C.cc3_w := pC C.cc3.eq_1
def C.bhb_b : LO := [
 X.o 7 (.bin .eql (X.s 3) (.cst (.int .u8 114))),
 X.m 6 7]
def C.bhb : LO := C.bhb_b
def C.bhb_w := pO C.bhb.eq_1
def C.cc4 : ICode := .seq (.region C.bg9) .ret
def C.cc4_w := pC C.cc4.eq_1
def C.cc5 : ICode := .seq (.region C.bhb) C.cc3
def C.cc5_w := pC C.cc5.eq_1
def C.ccw : ICode := .keep [3, 4] (.cond (X.s 4) C.cc4 C.cc5)
def C.ccw_w := pC C.ccw.eq_1
def C.bg8_b : LO := [
 X.o 5 (.bin .eql (X.s 3) (.cst (.int .u8 115))),
 X.m 4 5]
def C.bg8 : LO := C.bg8_b
def C.bg8_w := pO C.bg8.eq_1
def C.cct : ICode := .seq (.region C.bg8) C.ccw
def C.cct_w := pC C.cct.eq_1
def C.ccx : ICode := .keep [3] (.block 0 C.cct)
def C.ccx_w := pC C.ccx.eq_1
def C.bg7_b : LO := [
 X.m 3 0]
def C.bg7 : LO := C.bg7_b
def C.bg7_w := pO C.bg7.eq_1
def C.ccy : ICode := .keep [0] (.seq (.seq (.region C.bg7) C.ccx) C.ccv)
def C.ccy_w := pC C.ccy.eq_1
def C.bg6_b : LO := [
 X.o 2 (.move (.cst (.nilf)))]
def C.bg6 : LO := C.bg6_b
def C.bg6_w := pO C.bg6.eq_1
def C.q92 : IFunc := ⟨1, [.slot 2], .seq (.region C.bg6) C.ccy⟩
def C.q92_W := aI (aI (aI (aI @C.bhh_w @C.ccv_w) (aI @C.bg9_w (aI @C.bhc_w @C.bhg_w))) (aI (aI @C.ccq_w (aI @C.ccz_w @C.bhf_w)) (aI @C.cc0_w (aI @C.bhd_w @C.cc1_w)))) (aI (aI (aI @C.cc2_w (aI @C.cc3_w @C.bhb_w)) (aI @C.cc4_w (aI @C.cc5_w @C.ccw_w))) (aI (aI @C.bg8_w (aI @C.cct_w @C.ccx_w)) (aI @C.bg7_w (aI @C.ccy_w @C.bg6_w))))
def C.q92_B := aI (aI (aI @C.bhh_b.eq_1 @C.bg9_b.eq_1) (aI @C.bhc_b.eq_1 (aI @C.bhg_b.eq_1 @C.bhf_b.eq_1))) (aI (aI @C.bhd_b.eq_1 @C.bhb_b.eq_1) (aI @C.bg8_b.eq_1 (aI @C.bg7_b.eq_1 @C.bg6_b.eq_1)))

def C.rz_b : LO := [
 X.m 55 3,
 X.m 2 55]
def C.rz : LO := C.rz_b
def C.rz_w := pO C.rz.eq_1
def C.b0j : ICode := .keep [3] (.seq (.region C.rz) .ret)
def C.b0j_w := pC C.b0j.eq_1
def C.d9_b : LO := [
 X.o 54 (.bin .add (X.s 14) (X.i 1)),
 X.m 14 54]
def C.d9 : LO := C.d9_b
def C.d9_w := pO C.d9.eq_1
def C.bk7 : ICode := .keep [0, 3, 13, 14] (.region C.d9)
def C.bk7_w := pC C.bk7.eq_1
def C.rq_b : LO := [
 X.m 48 0,
 X.o 49 (.nilchk (X.s 48)),
 X.o 50 (.fldAddr 0 (X.s 49)),
 X.o 51 (.load1 (X.s 50)),
 X.m 52 4,
 X.o 53 (.loadN 4 (X.s 5)),
 X.n (.mapSet (X.s 51) (X.s 52) (X.s 53))]
def C.rq : LO := C.rq_b
def C.rq_w := pO C.rq.eq_1
def C.b0s : ICode := .keep [0, 3, 4, 5, 13, 14] (.region C.rq)
def C.b0s_w := pC C.b0s.eq_1
def C.d5_b : LO := [
 X.o 36 (.fldAddr 1 (X.s 5)),
 X.o 37 (.load1 (X.s 36)),
 X.o 38 (.bin .sub (X.s 37) (X.i 1)),
 X.o 39 (.fldAddr 1 (X.s 5)),
 X.n (.store1 (X.s 39) (X.s 38))]
def C.d5 : LO := C.d5_b
def C.d5_w := pO C.d5.eq_1
def C.d8_b : LO := [
 X.m 44 3,
 X.m 45 4,
 X.o 46 (.buildSlice 1 1 [.int .i64 0] [(0, 1, X.s 45)]),
 X.o 47 (.append 1 8 (X.s 44) (X.s 46)),
 X.m 3 47]
def C.d8 : LO := C.d8_b
def C.d8_w := pO C.d8.eq_1
def C.bk8 : ICode := .keep [0, 3, 4, 5, 13, 14] (.region C.d8)
def C.bk8_w := pC C.bk8.eq_1
def C.d7_b : LO := [
 X.o 42 (.fldAddr 2 (X.s 5)),
 X.n (.store1 (X.s 42) (.cst (.bool false))),
 X.o 43 (.fldAddr 3 (X.s 5)),
 X.n (.store1 (X.s 43) (.cst (.bool false)))]
def C.d7 : LO := C.d7_b
def C.d7_w := pO C.d7.eq_1
def C.bk9 : ICode := .seq (.region C.d7) C.bk8
def C.bk9_w := pC C.bk9.eq_1
def C.blb : ICode := .keep [0, 3, 4, 5, 13, 14, 41] (.cond (X.s 41) C.bk9 .skip)
def C.blb_w := pC C.blb.eq_1
def C.d6_b : LO := [
 X.o 40 (.fldAddr 3 (X.s 5)),
 X.o 41 (.load1 (X.s 40))]
def C.d6 : LO := C.d6_b
def C.d6_w := pO C.d6.eq_1
def C.blc : ICode := .seq (.region C.d6) C.blb
def C.blc_w := pC C.blc.eq_1
def C.bld : ICode := .keep [0, 3, 4, 5, 13, 14, 35] (.cond (X.s 35) (.region C.d5) C.blc)
def C.bld_w := pC C.bld.eq_1
def C.fg_b : LO := [
 X.o 33 (.fldAddr 1 (X.s 5)),
 X.o 34 (.load1 (X.s 33)),
 X.o 35 (.bin .gtr (X.s 34) (X.i 0))]
def C.fg : LO := C.fg_b
def C.fg_w := pO C.fg.eq_1
def C.blf : ICode := .keep [0, 3, 4, 5, 13, 14] (.seq (.seq (.region C.fg) C.bld) C.b0s)
def C.blf_w := pC C.blf.eq_1
def C.bk2 : ICode := .keep [0, 3, 4, 5, 13, 14, 32] (.cond (X.s 32) (.exit 1) .skip)
def C.bk2_w := pC C.bk2.eq_1
def C.ff_b : LO := [
 X.m 26 6,
 X.o 27 (.un .not (X.s 26)),
 X.m 28 27,
 X.f 28 29 (.fldAddr 2 (X.s 5)),
 X.f 28 30 (.load1 (X.s 29)),
 X.f 28 31 (.un .not (X.s 30)),
 X.o 32 (.pick (X.s 28) (.cst (.bool true)) (X.s 31))]
def C.ff : LO := C.ff_b
def C.ff_w := pO C.ff.eq_1
def C.bk3 : ICode := .keep [0, 3, 4, 5, 6, 13, 14] (.seq (.seq (.region C.ff) C.bk2) C.blf)
def C.bk3_w := pC C.bk3.eq_1
def C.fd_b : LO := [
 X.m 18 0,
 X.o 19 (.nilchk (X.s 18)),
 X.o 20 (.fldAddr 0 (X.s 19)),
 X.o 21 (.load1 (X.s 20)),
 X.m 22 4,
 X.o 23 (.lookup (.agg [.int .i64 0, .int .i64 0, .bool false, .bool false]) true (X.s 21) (X.s 22)),
 X.m 17 23,
 X.o 24 (.extract (X.s 17) 0),
 X.o 25 (.extract (X.s 17) 1),
 X.o 5 (.alloc [.int .i64 0, .int .i64 0, .bool false, .bool false]),
 X.n (.storeN 4 (X.s 5) (X.s 24)),
 X.m 6 25]
def C.fd : LO := C.fd_b
def C.fd_w := pO C.fd.eq_1
def C.bk4 : ICode := .keep [0, 3, 4, 13, 14] (.seq (.region C.fd) C.bk3)
def C.bk4_w := pC C.bk4.eq_1
def C.fc_b : LO := [
 X.m 16 14,
 X.m 4 16]
def C.fc : LO := C.fc_b
def C.fc_w := pO C.fc.eq_1
def C.bk1 : ICode := .seq (.region C.fc) C.bk4
def C.bk1_w := pC C.bk1.eq_1
def C.bk5 : ICode := .keep [0, 3, 13, 14] (.seq (.block 1 C.bk1) C.bk7)
def C.bk5_w := pC C.bk5.eq_1
def C.bk6 : ICode := .keep [0, 3, 13, 14, 15] (.seq (.cond (X.s 15) .skip (.exit 0)) C.bk5)
def C.bk6_w := pC C.bk6.eq_1
def C.fb_b : LO := [
 X.o 15 (.bin .lss (X.s 14) (X.s 13))]
def C.fb : LO := C.fb_b
def C.fb_w := pO C.fb.eq_1
def C.cfz : ICode := .keep [0, 3, 13, 14] (.seq (.region C.fb) C.bk6)
def C.cfz_w := pC C.cfz.eq_1
def C.b0h : ICode := .loop C.cfz
def C.b0h_w := pC C.b0h.eq_1
def C.b0k : ICode := .keep [0, 3, 13, 14] (.block 0 C.b0h)
def C.b0k_w := pC C.b0k.eq_1
def C.r2_b : LO := [
 X.m 9 0,
 X.o 10 (.nilchk (X.s 9)),
 X.o 11 (.fldAddr 0 (X.s 10)),
 X.o 12 (.load1 (X.s 11)),
 X.o 13 (.mlen (X.s 12)),
 X.o 14 (.move (X.i 0))]
def C.r2 : LO := C.r2_b
def C.r2_w := pO C.r2.eq_1
def C.b0l : ICode := .keep [0, 3] (.seq (.seq (.region C.r2) C.b0k) C.b0j)
def C.b0l_w := pC C.b0l.eq_1
def C.r1_b : LO := [
 X.o 3 (.move (.cst (.nils)))]
def C.r1 : LO := C.r1_b
def C.r1_w := pO C.r1.eq_1
def C.b0m : ICode := .keep [0] (.seq (.region C.r1) C.b0l)
def C.b0m_w := pC C.b0m.eq_1
def C.r0_b : LO := [
 X.o 2 (.move (.cst (.nils)))]
def C.r0 : LO := C.r0_b
def C.r0_w := pO C.r0.eq_1
def C.b0n : ICode := .seq (.region C.r0) .ret
def C.b0n_w := pC C.b0n.eq_1
def C.b0p : ICode := .keep [0, 8] (.cond (X.s 8) C.b0n .skip)
def C.b0p_w := pC C.b0p.eq_1
def C.ry_b : LO := [
 X.m 7 0,
 X.o 8 (.eqP 0 false (X.s 7) (.cst (.nilp)))]
def C.ry : LO := C.ry_b
def C.ry_w := pO C.ry.eq_1
def C.b0r : ICode := .keep [0] (.seq (.seq (.region C.ry) C.b0p) C.b0m)
def C.b0r_w := pC C.b0r.eq_1
def C.rx_b : LO := [
 X.o 2 (.move (.cst (.nils)))]
def C.rx : LO := C.rx_b
def C.rx_w := pO C.rx.eq_1
def C.q119 : IFunc := ⟨1, [.slot 2], .seq (.region C.rx) C.b0r⟩
def C.q119_W := aI (aI (aI (aI (aI @C.rz_w @C.b0j_w) (aI @C.d9_w @C.bk7_w)) (aI (aI @C.rq_w @C.b0s_w) (aI @C.d5_w (aI @C.d8_w @C.bk8_w)))) (aI (aI (aI @C.d7_w @C.bk9_w) (aI @C.blb_w (aI @C.d6_w @C.blc_w))) (aI (aI @C.bld_w @C.fg_w) (aI @C.blf_w (aI @C.bk2_w @C.ff_w))))) (aI (aI (aI (aI @C.bk3_w @C.fd_w) (aI @C.bk4_w (aI @C.fc_w @C.bk1_w))) (aI (aI @C.bk5_w @C.bk6_w) (aI @C.fb_w (aI @C.b0h_w @C.b0k_w)))) (aI (aI (aI @C.r2_w @C.b0l_w) (aI @C.r1_w (aI @C.b0m_w @C.r0_w))) (aI (aI @C.b0n_w @C.b0p_w) (aI @C.ry_w (aI @C.b0r_w @C.rx_w)))))
def C.q119_B := aI (aI (aI (aI @C.rz_b.eq_1 @C.d9_b.eq_1) (aI @C.rq_b.eq_1 @C.d5_b.eq_1)) (aI (aI @C.d8_b.eq_1 @C.d7_b.eq_1) (aI @C.d6_b.eq_1 @C.fg_b.eq_1))) (aI (aI (aI @C.ff_b.eq_1 @C.fd_b.eq_1) (aI @C.fc_b.eq_1 @C.fb_b.eq_1)) (aI (aI @C.r2_b.eq_1 @C.r1_b.eq_1) (aI @C.r0_b.eq_1 (aI @C.ry_b.eq_1 @C.rx_b.eq_1))))

def C.nx_b : LO := [
 X.o 2 (.move (X.i 0))]
def C.nx : LO := C.nx_b
def C.nx_w := pO C.nx.eq_1
def C.bqc : ICode := .keep [] (.seq (.region C.nx) .ret)
def C.bqc_w := pC C.bqc.eq_1
def C.nw_b : LO := [
 X.m 19 0,
 X.o 20 (.nilchk (X.s 19)),
 X.o 21 (.fldAddr 0 (X.s 20)),
 X.n (.store1 (X.s 21) (X.i 0))]
def C.nw : LO := C.nw_b
def C.nw_w := pO C.nw.eq_1
def C.bqd : ICode := .keep [0] (.seq (.region C.nw) C.bqc)
def C.bqd_w := pC C.bqd.eq_1
def C.nv_b : LO := [
 X.o 2 (.move (X.i 6))]
def C.nv : LO := C.nv_b
def C.nv_w := pO C.nv.eq_1
def C.bqf : ICode := .seq (.region C.nv) .ret
def C.bqf_w := pC C.bqf.eq_1
def C.bqg : ICode := .keep [0, 18] (.cond (X.s 18) C.bqf .skip)
def C.bqg_w := pC C.bqg.eq_1
def C.nt_b : LO := [
 X.m 3 0,
 X.o 4 (.eqP 0 false (X.s 3) (.cst (.nilp))),
 X.m 5 4,
 X.f 5 6 (.move (X.s 0)),
 X.f 5 7 (.nilchk (X.s 6)),
 X.f 5 8 (.fldAddr 0 (X.s 7)),
 X.f 5 9 (.load1 (X.s 8)),
 X.f 5 10 (.bin .neq (X.s 9) (X.i 2)),
 X.f 5 11 (.move (X.s 10)),
 X.t 11 12 (.move (X.s 0)),
 X.t 11 13 (.nilchk (X.s 12)),
 X.t 11 14 (.fldAddr 0 (X.s 13)),
 X.t 11 15 (.load1 (X.s 14)),
 X.t 11 16 (.bin .neq (X.s 15) (X.i 3)),
 X.f 5 17 (.pick (X.s 11) (X.s 16) (.cst (.bool false))),
 X.o 18 (.pick (X.s 5) (.cst (.bool true)) (X.s 17))]
def C.nt : LO := C.nt_b
def C.nt_w := pO C.nt.eq_1
def C.bqh : ICode := .keep [0] (.seq (.seq (.region C.nt) C.bqg) C.bqd)
def C.bqh_w := pC C.bqh.eq_1
def C.ns_b : LO := [
 X.o 2 (.move (X.i 0))]
def C.ns : LO := C.ns_b
def C.ns_w := pO C.ns.eq_1
def C.q101 : IFunc := ⟨1, [.slot 2], .seq (.region C.ns) C.bqh⟩
def C.q101_W := aI (aI (aI @C.nx_w @C.bqc_w) (aI @C.nw_w (aI @C.bqd_w @C.nv_w))) (aI (aI @C.bqf_w @C.bqg_w) (aI @C.nt_w (aI @C.bqh_w @C.ns_w)))
def C.q101_B := aI (aI @C.nx_b.eq_1 @C.nw_b.eq_1) (aI @C.nv_b.eq_1 (aI @C.nt_b.eq_1 @C.ns_b.eq_1))

def C.s5_b : LO := [
 X.o 11 (.load1 (X.s 5)),
 X.m 12 1,
 X.o 13 (.callv (X.s 11) [X.s 12]),
 X.m 4 13]
def C.s5 : LO := C.s5_b
def C.s5_w := pO C.s5.eq_1
def C.b09 : ICode := .keep [1, 5] (.seq (.region C.s5) .ret)
def C.b09_w := pC C.b09.eq_1
def C.s4_b : LO := [
 X.o 10 (.makeFunc F.q18 [X.s 2, X.s 5]),
 X.n (.store1 (X.s 5) (X.s 10))]
def C.s4 : LO := C.s4_b
def C.s4_w := pO C.s4.eq_1
def C.b1b : ICode := .keep [1, 2, 5] (.seq (.region C.s4) C.b09)
def C.b1b_w := pC C.b1b.eq_1
def C.s3_b : LO := [
 X.o 5 (.alloc [.nilf])]
def C.s3 : LO := C.s3_b
def C.s3_w := pO C.s3.eq_1
def C.b1c : ICode := .keep [1, 2] (.seq (.region C.s3) C.b1b)
def C.b1c_w := pC C.b1c.eq_1
def C.s2_b : LO := [
 X.o 4 (.move (.cst (.bool false)))]
def C.s2 : LO := C.s2_b
def C.s2_w := pO C.s2.eq_1
def C.b1d : ICode := .seq (.region C.s2) .ret
def C.b1d_w := pC C.b1d.eq_1
def C.b1f : ICode := .keep [1, 2, 9] (.cond (X.s 9) C.b1d .skip)
def C.b1f_w := pC C.b1f.eq_1
def C.s1_b : LO := [
 X.o 6 (.load1 (X.s 2)),
 X.m 7 1,
 X.o 8 (.call F.q20 [X.s 6, X.s 7]),
 X.o 9 (.eqP 0 false (X.s 8) (.cst (.nilp)))]
def C.s1 : LO := C.s1_b
def C.s1_w := pO C.s1.eq_1
def C.b1g : ICode := .keep [1, 2] (.seq (.seq (.region C.s1) C.b1f) C.b1c)
def C.b1g_w := pC C.b1g.eq_1
def C.s0_b : LO := [
 X.o 2 (.box1 (X.s 0)),
 X.o 4 (.move (.cst (.bool false)))]
def C.s0 : LO := C.s0_b
def C.s0_w := pO C.s0.eq_1
def C.q17 : IFunc := ⟨2, [.slot 4], .seq (.region C.s0) C.b1g⟩
def C.q17_W := aI (aI (aI @C.s5_w (aI @C.b09_w @C.s4_w)) (aI @C.b1b_w (aI @C.s3_w @C.b1c_w))) (aI (aI @C.s2_w (aI @C.b1d_w @C.b1f_w)) (aI @C.s1_w (aI @C.b1g_w @C.s0_w)))
def C.q17_B := aI (aI @C.s5_b.eq_1 (aI @C.s4_b.eq_1 @C.s3_b.eq_1)) (aI @C.s2_b.eq_1 (aI @C.s1_b.eq_1 @C.s0_b.eq_1))

def C.bhn_b : LO := [
 X.m 11 5,
 X.o 12 (.nilchk (X.s 11)),
 X.o 13 (.fldAddr 3 (X.s 12)),
 X.o 14 (.load1 (X.s 13)),
 X.m 4 14]
def C.bhn : LO := C.bhn_b
def C.bhn_w := pO C.bhn.eq_1
def C.cc6 : ICode := .keep [5] (.seq (.region C.bhn) .ret)
def C.cc6_w := pC C.cc6.eq_1
def C.bhm_b : LO := [
 X.o 4 (.move (.cst (.int .u8 0)))]
def C.bhm : LO := C.bhm_b
def C.bhm_w := pO C.bhm.eq_1
def C.cc7 : ICode := .seq (.region C.bhm) .ret
def C.cc7_w := pC C.cc7.eq_1
def C.cc8 : ICode := .keep [5, 10] (.cond (X.s 10) C.cc7 .skip)
def C.cc8_w := pC C.cc8.eq_1
def C.bhl_b : LO := [
 X.m 9 5,
 X.o 10 (.eqP 0 false (X.s 9) (.cst (.nilp)))]
def C.bhl : LO := C.bhl_b
def C.bhl_w := pO C.bhl.eq_1
def C.cc9 : ICode := .keep [5] (.seq (.seq (.region C.bhl) C.cc8) C.cc6)
def C.cc9_w := pC C.cc9.eq_1
def C.bhk_b : LO := [
 X.m 6 0,
 X.m 7 1,
 X.o 8 (.call F.q96 [X.s 6, X.s 7]),
 X.m 5 8]
def C.bhk : LO := C.bhk_b
def C.bhk_w := pO C.bhk.eq_1
def C.cdb : ICode := .keep [0, 1] (.seq (.region C.bhk) C.cc9)
def C.cdb_w := pC C.cdb.eq_1
def C.bhj_b : LO := [
 X.o 4 (.move (.cst (.int .u8 0)))]
def C.bhj : LO := C.bhj_b
def C.bhj_w := pO C.bhj.eq_1
def C.q93 : IFunc := ⟨2, [.slot 4], .seq (.region C.bhj) C.cdb⟩
def C.q93_W := aI (aI (aI @C.bhn_w @C.cc6_w) (aI @C.bhm_w (aI @C.cc7_w @C.cc8_w))) (aI (aI @C.bhl_w @C.cc9_w) (aI @C.bhk_w (aI @C.cdb_w @C.bhj_w)))
def C.q93_B := aI (aI @C.bhn_b.eq_1 @C.bhm_b.eq_1) (aI @C.bhl_b.eq_1 (aI @C.bhk_b.eq_1 @C.bhj_b.eq_1))

def C.rw_b : LO := [
 X.m 13 6,
 X.o 14 (.un .not (X.s 13)),
 X.m 15 14,
 X.f 15 16 (.fldAddr 2 (X.s 5)),
 X.f 15 17 (.load1 (X.s 16)),
 X.o 18 (.pick (X.s 15) (.cst (.bool true)) (X.s 17)),
 X.m 4 18]
def C.rw : LO := C.rw_b
def C.rw_w := pO C.rw.eq_1
def C.b0g : ICode := .keep [5, 6] (.seq (.region C.rw) .ret)
def C.b0g_w := pC C.b0g.eq_1
def C.ck_b : LO := [
 X.m 8 0,
 X.m 9 1,
 X.o 10 (.call F.q120 [X.s 8, X.s 9]),
 X.m 7 10,
 X.o 11 (.extract (X.s 7) 0),
 X.o 12 (.extract (X.s 7) 1),
 X.o 5 (.alloc [.int .i64 0, .int .i64 0, .bool false, .bool false]),
 X.n (.storeN 4 (X.s 5) (X.s 11)),
 X.m 6 12]
def C.ck : LO := C.ck_b
def C.ck_w := pO C.ck.eq_1
def C.bj1 : ICode := .keep [0, 1] (.seq (.region C.ck) C.b0g)
def C.bj1_w := pC C.bj1.eq_1
def C.cj_b : LO := [
 X.o 4 (.move (.cst (.bool false)))]
def C.cj : LO := C.cj_b
def C.cj_w := pO C.cj.eq_1
def C.q118 : IFunc := ⟨2, [.slot 4], .seq (.region C.cj) C.bj1⟩
def C.q118_W := aI (aI @C.rw_w @C.b0g_w) (aI @C.ck_w (aI @C.bj1_w @C.cj_w))
def C.q118_B := aI @C.rw_b.eq_1 (aI @C.ck_b.eq_1 @C.cj_b.eq_1)

def C.yr_b : LO := [
 X.o 2 (.move (X.i 0))]
def C.yr : LO := C.yr_b
def C.yr_w := pO C.yr.eq_1
def C.b5k : ICode := .keep [] (.seq (.region C.yr) .ret)
def C.b5k_w := pC C.b5k.eq_1
def C.yp_b : LO := [
 X.o 17 (.bin .add (X.s 8) (X.i 1)),
 X.m 8 17]
def C.yp : LO := C.yp_b
def C.yp_w := pO C.yp.eq_1
def C.b5n : ICode := .keep [6, 7, 8] (.region C.yp)
def C.b5n_w := pC C.b5n.eq_1
def C.yn_b : LO := [
 X.m 16 5,
 X.m 2 16]
def C.yn : LO := C.yn_b
def C.yn_w := pO C.yn.eq_1
def C.b5p : ICode := .seq (.region C.yn) .ret
def C.b5p_w := pC C.b5p.eq_1
def C.b5r : ICode := .keep [5, 6, 7, 8, 15] (.cond (X.s 15) C.b5p .skip)
def C.b5r_w := pC C.b5r.eq_1
def C.ym_b : LO := [
 X.m 14 5,
 X.o 15 (.bin .neq (X.s 14) (X.i 0))]
def C.ym : LO := C.ym_b
def C.ym_w := pO C.ym.eq_1
def C.b5s : ICode := .keep [5, 6, 7, 8] (.seq (.region C.ym) C.b5r)
def C.b5s_w := pC C.b5s.eq_1
def C.yl_b : LO := [
 X.m 12 4,
 X.o 13 (.callv (X.s 12) []),
 X.m 5 13]
def C.yl : LO := C.yl_b
def C.yl_w := pO C.yl.eq_1
def C.b5t : ICode := .keep [4, 6, 7, 8] (.seq (.region C.yl) C.b5s)
def C.b5t_w := pC C.b5t.eq_1
def C.yk_b : LO := [
 X.o 10 (.idxAddr 1 (X.s 6) (X.s 8)),
 X.o 11 (.load1 (X.s 10)),
 X.m 4 11]
def C.yk : LO := C.yk_b
def C.yk_w := pO C.yk.eq_1
def C.b5j : ICode := .seq (.region C.yk) C.b5t
def C.b5j_w := pC C.b5j.eq_1
def C.b5v : ICode := .keep [6, 7, 8] (.seq (.block 1 C.b5j) C.b5n)
def C.b5v_w := pC C.b5v.eq_1
def C.b5w : ICode := .keep [6, 7, 8, 9] (.seq (.cond (X.s 9) .skip (.exit 0)) C.b5v)
def C.b5w_w := pC C.b5w.eq_1
def C.yj_b : LO := [
 X.o 9 (.bin .lss (X.s 8) (X.s 7))]
def C.yj : LO := C.yj_b
def C.yj_w := pO C.yj.eq_1
def C.cgs : ICode := .keep [6, 7, 8] (.seq (.region C.yj) C.b5w)
def C.cgs_w := pC C.cgs.eq_1
def C.b5h : ICode := .loop C.cgs
def C.b5h_w := pC C.b5h.eq_1
def C.b5l : ICode := .keep [6, 7, 8] (.block 0 C.b5h)
def C.b5l_w := pC C.b5l.eq_1
def C.yh_b : LO := [
 X.m 6 0,
 X.o 7 (.len (X.s 6)),
 X.o 8 (.move (X.i 0))]
def C.yh : LO := C.yh_b
def C.yh_w := pO C.yh.eq_1
def C.b5m : ICode := .keep [0] (.seq (.seq (.region C.yh) C.b5l) C.b5k)
def C.b5m_w := pC C.b5m.eq_1
def C.yg_b : LO := [
 X.o 2 (.move (X.i 0))]
def C.yg : LO := C.yg_b
def C.yg_w := pO C.yg.eq_1
def C.q58 : IFunc := ⟨1, [.slot 2], .seq (.region C.yg) C.b5m⟩
def C.q58_W := aI (aI (aI (aI @C.yr_w @C.b5k_w) (aI @C.yp_w (aI @C.b5n_w @C.yn_w))) (aI (aI @C.b5p_w @C.b5r_w) (aI @C.ym_w (aI @C.b5s_w @C.yl_w)))) (aI (aI (aI @C.b5t_w @C.yk_w) (aI @C.b5j_w (aI @C.b5v_w @C.b5w_w))) (aI (aI @C.yj_w (aI @C.b5h_w @C.b5l_w)) (aI @C.yh_w (aI @C.b5m_w @C.yg_w))))
def C.q58_B := aI (aI (aI @C.yr_b.eq_1 @C.yp_b.eq_1) (aI @C.yn_b.eq_1 @C.ym_b.eq_1)) (aI (aI @C.yl_b.eq_1 @C.yk_b.eq_1) (aI @C.yj_b.eq_1 (aI @C.yh_b.eq_1 @C.yg_b.eq_1)))

def C.t6_b : LO := [
 X.o 2 (.loadN 4 (X.s 0)),
 X.o 3 (.call F.q59 [X.s 2]),
 X.m 1 3]
def C.t6 : LO := C.t6_b
def C.t6_w := pO C.t6.eq_1
def C.b2h : ICode := .keep [0] (.seq (.region C.t6) .ret)
def C.b2h_w := pC C.b2h.eq_1
def C.t5_b : LO := [
 X.o 1 (.move (X.i 0))]
def C.t5 : LO := C.t5_b
def C.t5_w := pO C.t5.eq_1
def C.q23 : IFunc := ⟨1, [.slot 1], .seq (.region C.t5) C.b2h⟩
def C.q23_W := aI @C.t6_w (aI @C.b2h_w @C.t5_w)
def C.q23_B := aI @C.t6_b.eq_1 @C.t5_b.eq_1

def C.yv_b : LO := [
 X.o 25 (.fldAddr 3 (X.s 1)),
 X.o 26 (.load1 (X.s 25)),
 X.o 27 (.call F.q54 [X.s 26, .fnc F.q60]),
 X.m 2 27]
def C.yv : LO := C.yv_b
def C.yv_w := pO C.yv.eq_1
def C.b5x : ICode := .keep [1] (.seq (.region C.yv) .ret)
def C.b5x_w := pC C.b5x.eq_1
def C.yt_b : LO := [
 X.o 2 (.move (X.i 8))]
def C.yt : LO := C.yt_b
def C.yt_w := pO C.yt.eq_1
def C.b5y : ICode := .seq (.region C.yt) .ret
def C.b5y_w := pC C.b5y.eq_1
def C.b5q : ICode := .keep [1, 24] (.cond (X.s 24) C.b5y .skip)
def C.b5q_w := pC C.b5q.eq_1
def C.ys_b : LO := [
 X.o 3 (.fldAddr 0 (X.s 1)),
 X.o 4 (.load1 (X.s 3)),
 X.o 5 (.len (X.s 4)),
 X.o 6 (.bin .gtr (X.s 5) (X.i 12)),
 X.m 7 6,
 X.f 7 8 (.fldAddr 1 (X.s 1)),
 X.f 7 9 (.load1 (X.s 8)),
 X.f 7 10 (.len (X.s 9)),
 X.f 7 11 (.bin .gtr (X.s 10) (X.i 6)),
 X.o 12 (.pick (X.s 7) (.cst (.bool true)) (X.s 11)),
 X.m 13 12,
 X.f 13 14 (.fldAddr 2 (X.s 1)),
 X.f 13 15 (.load1 (X.s 14)),
 X.f 13 16 (.len (X.s 15)),
 X.f 13 17 (.bin .gtr (X.s 16) (X.i 6)),
 X.o 18 (.pick (X.s 13) (.cst (.bool true)) (X.s 17)),
 X.m 19 18,
 X.f 19 20 (.fldAddr 3 (X.s 1)),
 X.f 19 21 (.load1 (X.s 20)),
 X.f 19 22 (.len (X.s 21)),
 X.f 19 23 (.bin .gtr (X.s 22) (X.i 6)),
 X.o 24 (.pick (X.s 19) (.cst (.bool true)) (X.s 23))]
def C.ys : LO := C.ys_b
def C.ys_w := pO C.ys.eq_1
def C.b5z : ICode := .keep [1] (.seq (.seq (.region C.ys) C.b5q) C.b5x)
def C.b5z_w := pC C.b5z.eq_1
def C.k6_b : LO := [
 X.o 1 (.boxN (X.s 0)),
 X.o 2 (.move (X.i 0))]
def C.k6 : LO := C.k6_b
def C.k6_w := pO C.k6.eq_1
def C.q59 : IFunc := ⟨1, [.slot 2], .seq (.region C.k6) C.b5z⟩
def C.q59_W := aI (aI (aI @C.yv_w @C.b5x_w) (aI @C.yt_w @C.b5y_w)) (aI (aI @C.b5q_w @C.ys_w) (aI @C.b5z_w @C.k6_w))
def C.q59_B := aI (aI @C.yv_b.eq_1 @C.yt_b.eq_1) (aI @C.ys_b.eq_1 @C.k6_b.eq_1)

def C.t8_b : LO := [
 X.o 2 (.fldAddr 0 (X.s 0)),
 X.o 3 (.load1 (X.s 2)),
 X.o 4 (.makeFunc F.q25 [X.s 0]),
 X.o 5 (.call F.q53 [X.s 3, X.s 4]),
 X.m 1 5]
def C.t8 : LO := C.t8_b
def C.t8_w := pO C.t8.eq_1
def C.b2j : ICode := .keep [0] (.seq (.region C.t8) .ret)
def C.b2j_w := pC C.b2j.eq_1
def C.t7_b : LO := [
 X.o 1 (.move (X.i 0))]
def C.t7 : LO := C.t7_b
def C.t7_w := pO C.t7.eq_1
def C.q24 : IFunc := ⟨1, [.slot 1], .seq (.region C.t7) C.b2j⟩
def C.q24_W := aI @C.t8_w (aI @C.b2j_w @C.t7_w)
def C.q24_B := aI @C.t8_b.eq_1 @C.t7_b.eq_1

def C.kl_b : LO := [
 X.o 4 (.move (X.i 0))]
def C.kl : LO := C.kl_b
def C.kl_w := pO C.kl.eq_1
def C.btb : ICode := .keep [] (.seq (.region C.kl) .ret)
def C.btb_w := pC C.btb.eq_1
def C.kk_b : LO := [
 X.o 20 (.bin .add (X.s 10) (X.i 1)),
 X.m 10 20]
def C.kk : LO := C.kk_b
def C.kk_w := pO C.kk.eq_1
def C.btf : ICode := .keep [1, 8, 9, 10] (.region C.kk)
def C.btf_w := pC C.btf.eq_1
def C.xw_b : LO := [
 X.m 19 7,
 X.m 4 19]
def C.xw : LO := C.xw_b
def C.xw_w := pO C.xw.eq_1
def C.b4l : ICode := .seq (.region C.xw) .ret
def C.b4l_w := pC C.b4l.eq_1
def C.b4m : ICode := .keep [1, 7, 8, 9, 10, 18] (.cond (X.s 18) C.b4l .skip)
def C.b4m_w := pC C.b4m.eq_1
def C.xv_b : LO := [
 X.m 17 7,
 X.o 18 (.bin .neq (X.s 17) (X.i 0))]
def C.xv : LO := C.xv_b
def C.xv_w := pO C.xv.eq_1
def C.b4n : ICode := .keep [1, 7, 8, 9, 10] (.seq (.region C.xv) C.b4m)
def C.b4n_w := pC C.b4n.eq_1
def C.xt_b : LO := [
 X.m 14 1,
 X.o 15 (.loadN 6 (X.s 6)),
 X.o 16 (.callv (X.s 14) [X.s 15]),
 X.m 7 16]
def C.xt : LO := C.xt_b
def C.xt_w := pO C.xt.eq_1
def C.b4p : ICode := .keep [1, 6, 8, 9, 10] (.seq (.region C.xt) C.b4n)
def C.b4p_w := pC C.b4p.eq_1
def C.kj_b : LO := [
 X.o 12 (.idxAddr 6 (X.s 8) (X.s 10)),
 X.o 13 (.loadN 6 (X.s 12)),
 X.o 6 (.alloc [.int .u8 0, .nils, .int .u64 0, .int .i64 0, .int .i64 0, .int .i64 0]),
 X.n (.storeN 6 (X.s 6) (X.s 13))]
def C.kj : LO := C.kj_b
def C.kj_w := pO C.kj.eq_1
def C.bs9 : ICode := .seq (.region C.kj) C.b4p
def C.bs9_w := pC C.bs9.eq_1
def C.btg : ICode := .keep [1, 8, 9, 10] (.seq (.block 1 C.bs9) C.btf)
def C.btg_w := pC C.btg.eq_1
def C.bth : ICode := .keep [1, 8, 9, 10, 11] (.seq (.cond (X.s 11) .skip (.exit 0)) C.btg)
def C.bth_w := pC C.bth.eq_1
def C.kh_b : LO := [
 X.o 11 (.bin .lss (X.s 10) (X.s 9))]
def C.kh : LO := C.kh_b
def C.kh_w := pO C.kh.eq_1
def C.cgl : ICode := .keep [1, 8, 9, 10] (.seq (.region C.kh) C.bth)
def C.cgl_w := pC C.cgl.eq_1
def C.bs8 : ICode := .loop C.cgl
def C.bs8_w := pC C.bs8.eq_1
def C.btc : ICode := .keep [1, 8, 9, 10] (.block 0 C.bs8)
def C.btc_w := pC C.btc.eq_1
def C.kg_b : LO := [
 X.m 8 0,
 X.o 9 (.len (X.s 8)),
 X.o 10 (.move (X.i 0))]
def C.kg : LO := C.kg_b
def C.kg_w := pO C.kg.eq_1
def C.btd : ICode := .keep [0, 1] (.seq (.seq (.region C.kg) C.btc) C.btb)
def C.btd_w := pC C.btd.eq_1
def C.kf_b : LO := [
 X.o 4 (.move (X.i 0))]
def C.kf : LO := C.kf_b
def C.kf_w := pO C.kf.eq_1
def C.q53 : IFunc := ⟨2, [.slot 4], .seq (.region C.kf) C.btd⟩
def C.q53_W := aI (aI (aI (aI @C.kl_w @C.btb_w) (aI @C.kk_w (aI @C.btf_w @C.xw_w))) (aI (aI @C.b4l_w @C.b4m_w) (aI @C.xv_w (aI @C.b4n_w @C.xt_w)))) (aI (aI (aI @C.b4p_w @C.kj_w) (aI @C.bs9_w (aI @C.btg_w @C.bth_w))) (aI (aI @C.kh_w (aI @C.bs8_w @C.btc_w)) (aI @C.kg_w (aI @C.btd_w @C.kf_w))))
def C.q53_B := aI (aI (aI @C.kl_b.eq_1 @C.kk_b.eq_1) (aI @C.xw_b.eq_1 @C.xv_b.eq_1)) (aI (aI @C.xt_b.eq_1 @C.kj_b.eq_1) (aI @C.kh_b.eq_1 (aI @C.kg_b.eq_1 @C.kf_b.eq_1)))

def C.t9_b : LO := [
 X.o 4 (.loadN 4 (X.s 1)),
 X.o 5 (.loadN 6 (X.s 2)),
 X.o 6 (.call F.q38 [X.s 4, X.s 5]),
 X.m 3 6]
def C.t9 : LO := C.t9_b
def C.t9_w := pO C.t9.eq_1
def C.b2k : ICode := .keep [1, 2] (.seq (.region C.t9) .ret)
def C.b2k_w := pC C.b2k.eq_1
def C.jw_b : LO := [
 X.o 2 (.boxN (X.s 0)),
 X.o 3 (.move (X.i 0))]
def C.jw : LO := C.jw_b
def C.jw_w := pO C.jw.eq_1
def C.q25 : IFunc := ⟨2, [.slot 3], .seq (.region C.jw) C.b2k⟩
def C.q25_W := aI @C.t9_w (aI @C.b2k_w @C.jw_w)
def C.q25_B := aI @C.t9_b.eq_1 @C.jw_b.eq_1

def C.wg_b : LO := [
 X.o 5 (.makeFunc F.q39 [X.s 3]),
 X.o 6 (.makeFunc F.q40 [X.s 3, X.s 2]),
 X.o 7 (.makeFunc F.q42 [X.s 3]),
 X.o 8 (.buildSlice 1 3 [.nilf] [(0, 1, X.s 5), (1, 1, X.s 6), (2, 1, X.s 7)]),
 X.o 9 (.call F.q58 [X.s 8]),
 X.m 4 9]
def C.wg : LO := C.wg_b
def C.wg_w := pO C.wg.eq_1
def C.b3p : ICode := .keep [2, 3] (.seq (.region C.wg) .ret)
def C.b3p_w := pC C.b3p.eq_1
def C.wf_b : LO := [
 X.o 2 (.boxN (X.s 0)),
 X.o 3 (.boxN (X.s 1)),
 X.o 4 (.move (X.i 0))]
def C.wf : LO := C.wf_b
def C.wf_w := pO C.wf.eq_1
def C.q38 : IFunc := ⟨2, [.slot 4], .seq (.region C.wf) C.b3p⟩
def C.q38_W := aI @C.wg_w (aI @C.b3p_w @C.wf_w)
def C.q38_B := aI @C.wg_b.eq_1 @C.wf_b.eq_1

def C.vc_b : LO := [
 X.o 2 (.loadN 4 (X.s 0)),
 X.o 3 (.call F.q34 [X.s 2]),
 X.o 4 (.call F.q43 [X.s 3]),
 X.m 1 4]
def C.vc : LO := C.vc_b
def C.vc_w := pO C.vc.eq_1
def C.b2l : ICode := .keep [0] (.seq (.region C.vc) .ret)
def C.b2l_w := pC C.b2l.eq_1
def C.vb_b : LO := [
 X.o 1 (.move (X.i 0))]
def C.vb : LO := C.vb_b
def C.vb_w := pO C.vb.eq_1
def C.q26 : IFunc := ⟨1, [.slot 1], .seq (.region C.vb) C.b2l⟩
def C.q26_W := aI @C.vc_w (aI @C.b2l_w @C.vb_w)
def C.q26_B := aI @C.vc_b.eq_1 @C.vb_b.eq_1

def C.ww_b : LO := [
 X.m 3 0,
 X.o 4 (.call F.q72 [X.s 3]),
 X.o 5 (.bin .eql (X.s 4) (X.i 5)),
 X.o 6 (.call F.q70 [X.s 5, X.i 5]),
 X.m 2 6]
def C.ww : LO := C.ww_b
def C.ww_w := pO C.ww.eq_1
def C.b3x : ICode := .keep [0] (.seq (.region C.ww) .ret)
def C.b3x_w := pC C.b3x.eq_1
def C.wv_b : LO := [
 X.o 2 (.move (X.i 0))]
def C.wv : LO := C.wv_b
def C.wv_w := pO C.wv.eq_1
def C.q43 : IFunc := ⟨1, [.slot 2], .seq (.region C.wv) C.b3x⟩
def C.q43_W := aI @C.ww_w (aI @C.b3x_w @C.wv_w)
def C.q43_B := aI @C.ww_b.eq_1 @C.wv_b.eq_1

def C.j2_b : LO := [
 X.m 25 3,
 X.m 2 25]
def C.j2 : LO := C.j2_b
def C.j2_w := pO C.j2.eq_1
def C.bsk : ICode := .keep [3] (.seq (.region C.j2) .ret)
def C.bsk_w := pC C.bsk.eq_1
def C.j1_b : LO := [
 X.o 24 (.bin .add (X.s 13) (X.i 1)),
 X.m 13 24]
def C.j1 : LO := C.j1_b
def C.j1_w := pO C.j1.eq_1
def C.bsm : ICode := .keep [3, 11, 12, 13] (.region C.j1)
def C.bsm_w := pC C.bsm.eq_1
def C.vy_b : LO := [
 X.m 18 3,
 X.m 19 4,
 X.o 20 (.fldAddr 1 (X.s 5)),
 X.o 21 (.load1 (X.s 20)),
 X.o 22 (.call F.q67 [X.s 21]),
 X.o 23 (.idxAddr 1 (X.s 18) (X.s 19)),
 X.n (.store1 (X.s 23) (X.s 22))]
def C.vy : LO := C.vy_b
def C.vy_w := pO C.vy.eq_1
def C.b2z : ICode := .keep [3, 4, 5, 11, 12, 13] (.region C.vy)
def C.b2z_w := pC C.b2z.eq_1
def C.j0_b : LO := [
 X.m 15 13,
 X.o 16 (.idxAddr 6 (X.s 11) (X.s 13)),
 X.o 17 (.loadN 6 (X.s 16)),
 X.o 5 (.alloc [.int .u8 0, .nils, .int .u64 0, .int .i64 0, .int .i64 0, .int .i64 0]),
 X.m 4 15,
 X.n (.storeN 6 (X.s 5) (X.s 17))]
def C.j0 : LO := C.j0_b
def C.j0_w := pO C.j0.eq_1
def C.bsh : ICode := .seq (.region C.j0) C.b2z
def C.bsh_w := pC C.bsh.eq_1
def C.bsn : ICode := .keep [3, 11, 12, 13] (.seq (.block 1 C.bsh) C.bsm)
def C.bsn_w := pC C.bsn.eq_1
def C.bsp : ICode := .keep [3, 11, 12, 13, 14] (.seq (.cond (X.s 14) .skip (.exit 0)) C.bsn)
def C.bsp_w := pC C.bsp.eq_1
def C.jz_b : LO := [
 X.o 14 (.bin .lss (X.s 13) (X.s 12))]
def C.jz : LO := C.jz_b
def C.jz_w := pO C.jz.eq_1
def C.cgf : ICode := .keep [3, 11, 12, 13] (.seq (.region C.jz) C.bsp)
def C.cgf_w := pC C.cgf.eq_1
def C.bsj : ICode := .loop C.cgf
def C.bsj_w := pC C.bsj.eq_1
def C.bsr : ICode := .keep [3, 11, 12, 13] (.block 0 C.bsj)
def C.bsr_w := pC C.bsr.eq_1
def C.jq_b : LO := [
 X.o 10 (.fldAddr 0 (X.s 1)),
 X.o 11 (.load1 (X.s 10)),
 X.o 12 (.len (X.s 11)),
 X.o 13 (.move (X.i 0))]
def C.jq : LO := C.jq_b
def C.jq_w := pO C.jq.eq_1
def C.bsl : ICode := .keep [1, 3] (.seq (.seq (.region C.jq) C.bsr) C.bsk)
def C.bsl_w := pC C.bsl.eq_1
def C.cy_b : LO := [
 X.o 6 (.fldAddr 0 (X.s 1)),
 X.o 7 (.load1 (X.s 6)),
 X.o 8 (.len (X.s 7)),
 X.o 9 (.makeSlice 1 24 [.nils] (X.s 8) (X.s 8)),
 X.m 3 9]
def C.cy : LO := C.cy_b
def C.cy_w := pO C.cy.eq_1
def C.bkk : ICode := .keep [1] (.seq (.region C.cy) C.bsl)
def C.bkk_w := pC C.bkk.eq_1
def C.b3_b : LO := [
 X.o 1 (.boxN (X.s 0)),
 X.o 2 (.move (.cst (.nils)))]
def C.b3 : LO := C.b3_b
def C.b3_w := pO C.b3.eq_1
def C.q34 : IFunc := ⟨1, [.slot 2], .seq (.region C.b3) C.bkk⟩
def C.q34_W := aI (aI (aI (aI @C.j2_w @C.bsk_w) (aI @C.j1_w @C.bsm_w)) (aI (aI @C.vy_w @C.b2z_w) (aI @C.j0_w (aI @C.bsh_w @C.bsn_w)))) (aI (aI (aI @C.bsp_w @C.jz_w) (aI @C.bsj_w @C.bsr_w)) (aI (aI @C.jq_w @C.bsl_w) (aI @C.cy_w (aI @C.bkk_w @C.b3_w))))
def C.q34_B := aI (aI (aI @C.j2_b.eq_1 @C.j1_b.eq_1) (aI @C.vy_b.eq_1 @C.j0_b.eq_1)) (aI (aI @C.jz_b.eq_1 @C.jq_b.eq_1) (aI @C.cy_b.eq_1 @C.b3_b.eq_1))

def C.vf_b : LO := [
 X.o 2 (.fldAddr 1 (X.s 0)),
 X.o 3 (.load1 (X.s 2)),
 X.o 4 (.makeFunc F.q28 [X.s 0]),
 X.o 5 (.call F.q55 [X.s 3, X.s 4]),
 X.m 1 5]
def C.vf : LO := C.vf_b
def C.vf_w := pO C.vf.eq_1
def C.b2m : ICode := .keep [0] (.seq (.region C.vf) .ret)
def C.b2m_w := pC C.b2m.eq_1
def C.vd_b : LO := [
 X.o 1 (.move (X.i 0))]
def C.vd : LO := C.vd_b
def C.vd_w := pO C.vd.eq_1
def C.q27 : IFunc := ⟨1, [.slot 1], .seq (.region C.vd) C.b2m⟩
def C.q27_W := aI @C.vf_w (aI @C.b2m_w @C.vd_w)
def C.q27_B := aI @C.vf_b.eq_1 @C.vd_b.eq_1

def C.kz_b : LO := [
 X.o 4 (.move (X.i 0))]
def C.kz : LO := C.kz_b
def C.kz_w := pO C.kz.eq_1
def C.btw : ICode := .keep [] (.seq (.region C.kz) .ret)
def C.btw_w := pC C.btw.eq_1
def C.kq_b : LO := [
 X.o 20 (.bin .add (X.s 10) (X.i 1)),
 X.m 10 20]
def C.kq : LO := C.kq_b
def C.kq_w := pO C.kq.eq_1
def C.btq : ICode := .keep [1, 8, 9, 10] (.region C.kq)
def C.btq_w := pC C.btq.eq_1
def C.x1_b : LO := [
 X.m 19 7,
 X.m 4 19]
def C.x1 : LO := C.x1_b
def C.x1_w := pO C.x1.eq_1
def C.b4w : ICode := .seq (.region C.x1) .ret
def C.b4w_w := pC C.b4w.eq_1
def C.b4x : ICode := .keep [1, 7, 8, 9, 10, 18] (.cond (X.s 18) C.b4w .skip)
def C.b4x_w := pC C.b4x.eq_1
def C.x0_b : LO := [
 X.m 17 7,
 X.o 18 (.bin .neq (X.s 17) (X.i 0))]
def C.x0 : LO := C.x0_b
def C.x0_w := pO C.x0.eq_1
def C.b4y : ICode := .keep [1, 7, 8, 9, 10] (.seq (.region C.x0) C.b4x)
def C.b4y_w := pC C.b4y.eq_1
def C.xz_b : LO := [
 X.m 14 1,
 X.o 15 (.loadN 3 (X.s 6)),
 X.o 16 (.callv (X.s 14) [X.s 15]),
 X.m 7 16]
def C.xz : LO := C.xz_b
def C.xz_w := pO C.xz.eq_1
def C.b4q : ICode := .keep [1, 6, 8, 9, 10] (.seq (.region C.xz) C.b4y)
def C.b4q_w := pC C.b4q.eq_1
def C.ky_b : LO := [
 X.o 12 (.idxAddr 3 (X.s 8) (X.s 10)),
 X.o 13 (.loadN 3 (X.s 12)),
 X.o 6 (.alloc [.int .i64 0, .int .i64 0, .bool false]),
 X.n (.storeN 3 (X.s 6) (X.s 13))]
def C.ky : LO := C.ky_b
def C.ky_w := pO C.ky.eq_1
def C.btv : ICode := .seq (.region C.ky) C.b4q
def C.btv_w := pC C.btv.eq_1
def C.btz : ICode := .keep [1, 8, 9, 10] (.seq (.block 1 C.btv) C.btq)
def C.btz_w := pC C.btz.eq_1
def C.bt0 : ICode := .keep [1, 8, 9, 10, 11] (.seq (.cond (X.s 11) .skip (.exit 0)) C.btz)
def C.bt0_w := pC C.bt0.eq_1
def C.kx_b : LO := [
 X.o 11 (.bin .lss (X.s 10) (X.s 9))]
def C.kx : LO := C.kx_b
def C.kx_w := pO C.kx.eq_1
def C.cgn : ICode := .keep [1, 8, 9, 10] (.seq (.region C.kx) C.bt0)
def C.cgn_w := pC C.cgn.eq_1
def C.btt : ICode := .loop C.cgn
def C.btt_w := pC C.btt.eq_1
def C.btx : ICode := .keep [1, 8, 9, 10] (.block 0 C.btt)
def C.btx_w := pC C.btx.eq_1
def C.kw_b : LO := [
 X.m 8 0,
 X.o 9 (.len (X.s 8)),
 X.o 10 (.move (X.i 0))]
def C.kw : LO := C.kw_b
def C.kw_w := pO C.kw.eq_1
def C.bty : ICode := .keep [0, 1] (.seq (.seq (.region C.kw) C.btx) C.btw)
def C.bty_w := pC C.bty.eq_1
def C.kv_b : LO := [
 X.o 4 (.move (X.i 0))]
def C.kv : LO := C.kv_b
def C.kv_w := pO C.kv.eq_1
def C.q55 : IFunc := ⟨2, [.slot 4], .seq (.region C.kv) C.bty⟩
def C.q55_W := aI (aI (aI (aI @C.kz_w @C.btw_w) (aI @C.kq_w (aI @C.btq_w @C.x1_w))) (aI (aI @C.b4w_w @C.b4x_w) (aI @C.x0_w (aI @C.b4y_w @C.xz_w)))) (aI (aI (aI @C.b4q_w @C.ky_w) (aI @C.btv_w (aI @C.btz_w @C.bt0_w))) (aI (aI @C.kx_w (aI @C.btt_w @C.btx_w)) (aI @C.kw_w (aI @C.bty_w @C.kv_w))))
def C.q55_B := aI (aI (aI @C.kz_b.eq_1 @C.kq_b.eq_1) (aI @C.x1_b.eq_1 @C.x0_b.eq_1)) (aI (aI @C.xz_b.eq_1 @C.ky_b.eq_1) (aI @C.kx_b.eq_1 (aI @C.kw_b.eq_1 @C.kv_b.eq_1)))

end Go.Proofs.YtdmfgodajoojpaaGreatDoor.Cn
