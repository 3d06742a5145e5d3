/- The intermediate code of the functions, printed by a program out of the loaded program; that it is theirs is checked in the text of links. -/
import Derived.Test.YtdmfgodajoojpaaGreatDoorCnIr2
set_option linter.defProp false
namespace Go.Proofs.YtdmfgodajoojpaaGreatDoor.Cn
open Go
variable {P : Program} {Q : IExit → AFr → ASt → Prop} {fr : AFr} {st : ASt}


def C.y6_b : LO := [
 X.o 4 (.loadN 4 (X.s 1)),
 X.o 5 (.loadN 3 (X.s 2)),
 X.o 6 (.call F.q53 [X.s 4, X.s 5]),
 X.m 3 6]
def C.y6 : LO := C.y6_b
def C.y6_w := pO C.y6.eq_1
def C.b9z : ICode := .keep [1, 2] (.seq (.region C.y6) .ret)
def C.b9z_w := pC C.b9z.eq_1
def C.lh_b : LO := [
 X.o 2 (.boxN (X.s 0)),
 X.o 3 (.move (X.i 0))]
def C.lh : LO := C.lh_b
def C.lh_w := pO C.lh.eq_1
def C.q31 : IFunc := ⟨2, [.slot 3], .seq (.region C.lh) C.b9z⟩
def C.q31_W := aI @C.y6_w (aI @C.b9z_w @C.lh_w)
def C.q31_B := aI @C.y6_b.eq_1 @C.lh_b.eq_1

def C.bc7_b : LO := [
 X.o 5 (.makeFunc F.q54 [X.s 3, X.s 2]),
 X.o 6 (.makeFunc F.q55 [X.s 3]),
 X.o 7 (.buildSlice 1 2 [.nilf] [(0, 1, X.s 5), (1, 1, X.s 6)]),
 X.o 8 (.call F.q61 [X.s 7]),
 X.m 4 8]
def C.bc7 : LO := C.bc7_b
def C.bc7_w := pO C.bc7.eq_1
def C.ccp : ICode := .keep [2, 3] (.seq (.region C.bc7) .ret)
def C.ccp_w := pC C.ccp.eq_1
def C.bc6_b : LO := [
 X.o 2 (.boxN (X.s 0)),
 X.o 3 (.boxN (X.s 1)),
 X.o 4 (.move (X.i 0))]
def C.bc6 : LO := C.bc6_b
def C.bc6_w := pO C.bc6.eq_1
def C.q53 : IFunc := ⟨2, [.slot 4], .seq (.region C.bc6) C.ccp⟩
def C.q53_W := aI @C.bc7_w (aI @C.ccp_w @C.bc6_w)
def C.q53_B := aI @C.bc7_b.eq_1 @C.bc6_b.eq_1

def C.y8_b : LO := [
 X.o 2 (.loadN 4 (X.s 0)),
 X.o 3 (.call F.q39 [X.s 2]),
 X.o 4 (.call F.q46 [X.s 3]),
 X.m 1 4]
def C.y8 : LO := C.y8_b
def C.y8_w := pO C.y8.eq_1
def C.b90 : ICode := .keep [0] (.seq (.region C.y8) .ret)
def C.b90_w := pC C.b90.eq_1
def C.y7_b : LO := [
 X.o 1 (.move (X.i 0))]
def C.y7 : LO := C.y7_b
def C.y7_w := pO C.y7.eq_1
def C.q32 : IFunc := ⟨1, [.slot 1], .seq (.region C.y7) C.b90⟩
def C.q32_W := aI @C.y8_w (aI @C.b90_w @C.y7_w)
def C.q32_B := aI @C.y8_b.eq_1 @C.y7_b.eq_1

def C.lw_b : LO := [
 X.m 28 3,
 X.m 2 28]
def C.lw : LO := C.lw_b
def C.lw_w := pO C.lw.eq_1
def C.bys : ICode := .keep [3] (.seq (.region C.lw) .ret)
def C.bys_w := pC C.bys.eq_1
def C.lv_b : LO := [
 X.o 27 (.bin .add (X.s 13) (X.i 1)),
 X.m 13 27]
def C.lv : LO := C.lv_b
def C.lv_w := pO C.lv.eq_1
def C.byw : ICode := .keep [3, 11, 12, 13] (.region C.lv)
def C.byw_w := pC C.byw.eq_1
def C.bbz_b : LO := [
 X.m 21 3,
 X.m 22 4,
 X.o 23 (.fldAddr 0 (X.s 5)),
 X.o 24 (.load1 (X.s 23)),
 X.o 25 (.buildSlice 1 1 [.int .i64 0] [(0, 1, X.s 24)]),
 X.o 26 (.idxAddr 1 (X.s 21) (X.s 22)),
 X.n (.store1 (X.s 26) (X.s 25))]
def C.bbz : LO := C.bbz_b
def C.bbz_w := pO C.bbz.eq_1
def C.cbt : ICode := .keep [3, 4, 5, 11, 12, 13, 20] (.cond (X.s 20) (.region C.bbz) .skip)
def C.cbt_w := pC C.cbt.eq_1
def C.bbq_b : LO := [
 X.o 18 (.fldAddr 0 (X.s 5)),
 X.o 19 (.load1 (X.s 18)),
 X.o 20 (.bin .neq (X.s 19) (X.i (-1)))]
def C.bbq : LO := C.bbq_b
def C.bbq_w := pO C.bbq.eq_1
def C.cbv : ICode := .keep [3, 4, 5, 11, 12, 13] (.seq (.region C.bbq) C.cbt)
def C.cbv_w := pC C.cbv.eq_1
def C.lt_b : LO := [
 X.m 15 13,
 X.o 16 (.idxAddr 3 (X.s 11) (X.s 13)),
 X.o 17 (.loadN 3 (X.s 16)),
 X.o 5 (.alloc [.int .i64 0, .int .i64 0, .bool false]),
 X.m 4 15,
 X.n (.storeN 3 (X.s 5) (X.s 17))]
def C.lt : LO := C.lt_b
def C.lt_w := pO C.lt.eq_1
def C.byp : ICode := .seq (.region C.lt) C.cbv
def C.byp_w := pC C.byp.eq_1
def C.byx : ICode := .keep [3, 11, 12, 13] (.seq (.block 1 C.byp) C.byw)
def C.byx_w := pC C.byx.eq_1
def C.byy : ICode := .keep [3, 11, 12, 13, 14] (.seq (.cond (X.s 14) .skip (.exit 0)) C.byx)
def C.byy_w := pC C.byy.eq_1
def C.ls_b : LO := [
 X.o 14 (.bin .lss (X.s 13) (X.s 12))]
def C.ls : LO := C.ls_b
def C.ls_w := pO C.ls.eq_1
def C.cnz : ICode := .keep [3, 11, 12, 13] (.seq (.region C.ls) C.byy)
def C.cnz_w := pC C.cnz.eq_1
def C.byr : ICode := .loop C.cnz
def C.byr_w := pC C.byr.eq_1
def C.byt : ICode := .keep [3, 11, 12, 13] (.block 0 C.byr)
def C.byt_w := pC C.byt.eq_1
def C.lr_b : LO := [
 X.o 10 (.fldAddr 1 (X.s 1)),
 X.o 11 (.load1 (X.s 10)),
 X.o 12 (.len (X.s 11)),
 X.o 13 (.move (X.i 0))]
def C.lr : LO := C.lr_b
def C.lr_w := pO C.lr.eq_1
def C.byv : ICode := .keep [1, 3] (.seq (.seq (.region C.lr) C.byt) C.bys)
def C.byv_w := pC C.byv.eq_1
def C.c3_b : LO := [
 X.o 6 (.fldAddr 1 (X.s 1)),
 X.o 7 (.load1 (X.s 6)),
 X.o 8 (.len (X.s 7)),
 X.o 9 (.makeSlice 1 24 [.nils] (X.s 8) (X.s 8)),
 X.m 3 9]
def C.c3 : LO := C.c3_b
def C.c3_w := pO C.c3.eq_1
def C.bnc : ICode := .keep [1] (.seq (.region C.c3) C.byv)
def C.bnc_w := pC C.bnc.eq_1
def C.b2_b : LO := [
 X.o 1 (.boxN (X.s 0)),
 X.o 2 (.move (.cst (.nils)))]
def C.b2 : LO := C.b2_b
def C.b2_w := pO C.b2.eq_1
def C.q39 : IFunc := ⟨1, [.slot 2], .seq (.region C.b2) C.bnc⟩
def C.q39_W := aI (aI (aI (aI @C.lw_w @C.bys_w) (aI @C.lv_w (aI @C.byw_w @C.bbz_w))) (aI (aI @C.cbt_w @C.bbq_w) (aI @C.cbv_w (aI @C.lt_w @C.byp_w)))) (aI (aI (aI @C.byx_w @C.byy_w) (aI @C.ls_w (aI @C.byr_w @C.byt_w))) (aI (aI @C.lr_w @C.byv_w) (aI @C.c3_w (aI @C.bnc_w @C.b2_w))))
def C.q39_B := aI (aI (aI @C.lw_b.eq_1 @C.lv_b.eq_1) (aI @C.bbz_b.eq_1 @C.bbq_b.eq_1)) (aI (aI @C.lt_b.eq_1 @C.ls_b.eq_1) (aI @C.lr_b.eq_1 (aI @C.c3_b.eq_1 @C.b2_b.eq_1)))

def C.bbb_b : LO := [
 X.o 2 (.fldAddr 2 (X.s 0)),
 X.o 3 (.load1 (X.s 2)),
 X.o 4 (.call F.q59 [X.s 3, .fnc F.q71]),
 X.m 1 4]
def C.bbb : LO := C.bbb_b
def C.bbb_w := pO C.bbb.eq_1
def C.b91 : ICode := .keep [0] (.seq (.region C.bbb) .ret)
def C.b91_w := pC C.b91.eq_1
def C.y9_b : LO := [
 X.o 1 (.move (X.i 0))]
def C.y9 : LO := C.y9_b
def C.y9_w := pO C.y9.eq_1
def C.q33 : IFunc := ⟨1, [.slot 1], .seq (.region C.y9) C.b91⟩
def C.q33_W := aI @C.bbb_w (aI @C.b91_w @C.y9_w)
def C.q33_B := aI @C.bbb_b.eq_1 @C.y9_b.eq_1

def C.mt_b : LO := [
 X.o 4 (.move (X.i 0))]
def C.mt : LO := C.mt_b
def C.mt_w := pO C.mt.eq_1
def C.bq1 : ICode := .keep [] (.seq (.region C.mt) .ret)
def C.bq1_w := pC C.bq1.eq_1
def C.ms_b : LO := [
 X.o 20 (.bin .add (X.s 10) (X.i 1)),
 X.m 10 20]
def C.ms : LO := C.ms_b
def C.ms_w := pO C.ms.eq_1
def C.bq4 : ICode := .keep [1, 8, 9, 10] (.region C.ms)
def C.bq4_w := pC C.bq4.eq_1
def C.bds_b : LO := [
 X.m 19 7,
 X.m 4 19]
def C.bds : LO := C.bds_b
def C.bds_w := pO C.bds.eq_1
def C.cc5 : ICode := .seq (.region C.bds) .ret
def C.cc5_w := pC C.cc5.eq_1
def C.cc6 : ICode := .keep [1, 7, 8, 9, 10, 18] (.cond (X.s 18) C.cc5 .skip)
def C.cc6_w := pC C.cc6.eq_1
def C.bdr_b : LO := [
 X.m 17 7,
 X.o 18 (.bin .neq (X.s 17) (X.i 0))]
def C.bdr : LO := C.bdr_b
def C.bdr_w := pO C.bdr.eq_1
def C.cc7 : ICode := .keep [1, 7, 8, 9, 10] (.seq (.region C.bdr) C.cc6)
def C.cc7_w := pC C.cc7.eq_1
def C.bdp_b : LO := [
 X.m 14 1,
 X.o 15 (.loadN 1 (X.s 6)),
 X.o 16 (.callv (X.s 14) [X.s 15]),
 X.m 7 16]
def C.bdp : LO := C.bdp_b
def C.bdp_w := pO C.bdp.eq_1
def C.cc8 : ICode := .keep [1, 6, 8, 9, 10] (.seq (.region C.bdp) C.cc7)
def C.cc8_w := pC C.cc8.eq_1
def C.mr_b : LO := [
 X.o 12 (.idxAddr 1 (X.s 8) (X.s 10)),
 X.o 13 (.loadN 1 (X.s 12)),
 X.o 6 (.alloc [.int .i64 0]),
 X.n (.storeN 1 (X.s 6) (X.s 13))]
def C.mr : LO := C.mr_b
def C.mr_w := pO C.mr.eq_1
def C.bq0 : ICode := .seq (.region C.mr) C.cc8
def C.bq0_w := pC C.bq0.eq_1
def C.bq5 : ICode := .keep [1, 8, 9, 10] (.seq (.block 1 C.bq0) C.bq4)
def C.bq5_w := pC C.bq5.eq_1
def C.bq6 : ICode := .keep [1, 8, 9, 10, 11] (.seq (.cond (X.s 11) .skip (.exit 0)) C.bq5)
def C.bq6_w := pC C.bq6.eq_1
def C.mp_b : LO := [
 X.o 11 (.bin .lss (X.s 10) (X.s 9))]
def C.mp : LO := C.mp_b
def C.mp_w := pO C.mp.eq_1
def C.cn4 : ICode := .keep [1, 8, 9, 10] (.seq (.region C.mp) C.bq6)
def C.cn4_w := pC C.cn4.eq_1
def C.bqz : ICode := .loop C.cn4
def C.bqz_w := pC C.bqz.eq_1
def C.bq2 : ICode := .keep [1, 8, 9, 10] (.block 0 C.bqz)
def C.bq2_w := pC C.bq2.eq_1
def C.mn_b : LO := [
 X.m 8 0,
 X.o 9 (.len (X.s 8)),
 X.o 10 (.move (X.i 0))]
def C.mn : LO := C.mn_b
def C.mn_w := pO C.mn.eq_1
def C.bq3 : ICode := .keep [0, 1] (.seq (.seq (.region C.mn) C.bq2) C.bq1)
def C.bq3_w := pC C.bq3.eq_1
def C.mm_b : LO := [
 X.o 4 (.move (X.i 0))]
def C.mm : LO := C.mm_b
def C.mm_w := pO C.mm.eq_1
def C.q59 : IFunc := ⟨2, [.slot 4], .seq (.region C.mm) C.bq3⟩
def C.q59_W := aI (aI (aI (aI @C.mt_w @C.bq1_w) (aI @C.ms_w (aI @C.bq4_w @C.bds_w))) (aI (aI @C.cc5_w @C.cc6_w) (aI @C.bdr_w (aI @C.cc7_w @C.bdp_w)))) (aI (aI (aI @C.cc8_w @C.mr_w) (aI @C.bq0_w (aI @C.bq5_w @C.bq6_w))) (aI (aI @C.mp_w (aI @C.bqz_w @C.bq2_w)) (aI @C.mn_w (aI @C.bq3_w @C.mm_w))))
def C.q59_B := aI (aI (aI @C.mt_b.eq_1 @C.ms_b.eq_1) (aI @C.bds_b.eq_1 @C.bdr_b.eq_1)) (aI (aI @C.bdp_b.eq_1 @C.mr_b.eq_1) (aI @C.mp_b.eq_1 (aI @C.mn_b.eq_1 @C.mm_b.eq_1)))

def C.bgr_b : LO := [
 X.o 3 (.fldAddr 0 (X.s 1)),
 X.o 4 (.load1 (X.s 3)),
 X.o 5 (.call F.q74 [X.s 4, X.i 0, X.i 20]),
 X.o 6 (.un .not (X.s 5)),
 X.o 7 (.call F.q73 [X.s 6, X.i 3]),
 X.m 2 7]
def C.bgr : LO := C.bgr_b
def C.bgr_w := pO C.bgr.eq_1
def C.cgc : ICode := .keep [1] (.seq (.region C.bgr) .ret)
def C.cgc_w := pC C.cgc.eq_1
def C.bgp_b : LO := [
 X.o 1 (.boxN (X.s 0)),
 X.o 2 (.move (X.i 0))]
def C.bgp : LO := C.bgp_b
def C.bgp_w := pO C.bgp.eq_1
def C.q71 : IFunc := ⟨1, [.slot 2], .seq (.region C.bgp) C.cgc⟩
def C.q71_W := aI @C.bgr_w (aI @C.cgc_w @C.bgp_w)
def C.q71_B := aI @C.bgr_b.eq_1 @C.bgp_b.eq_1

def C.bbd_b : LO := [
 X.o 2 (.fldAddr 3 (X.s 0)),
 X.o 3 (.load1 (X.s 2)),
 X.o 4 (.makeFunc F.q35 [X.s 0]),
 X.o 5 (.call F.q57 [X.s 3, X.s 4]),
 X.m 1 5]
def C.bbd : LO := C.bbd_b
def C.bbd_w := pO C.bbd.eq_1
def C.b92 : ICode := .keep [0] (.seq (.region C.bbd) .ret)
def C.b92_w := pC C.b92.eq_1
def C.bbc_b : LO := [
 X.o 1 (.move (X.i 0))]
def C.bbc : LO := C.bbc_b
def C.bbc_w := pO C.bbc.eq_1
def C.q34 : IFunc := ⟨1, [.slot 1], .seq (.region C.bbc) C.b92⟩
def C.q34_W := aI @C.bbd_w (aI @C.b92_w @C.bbc_w)
def C.q34_B := aI @C.bbd_b.eq_1 @C.bbc_b.eq_1

def C.md_b : LO := [
 X.o 4 (.move (X.i 0))]
def C.md : LO := C.md_b
def C.md_w := pO C.md.eq_1
def C.bqj : ICode := .keep [] (.seq (.region C.md) .ret)
def C.bqj_w := pC C.bqj.eq_1
def C.mc_b : LO := [
 X.o 20 (.bin .add (X.s 10) (X.i 1)),
 X.m 10 20]
def C.mc : LO := C.mc_b
def C.mc_w := pO C.mc.eq_1
def C.bqm : ICode := .keep [1, 8, 9, 10] (.region C.mc)
def C.bqm_w := pC C.bqm.eq_1
def C.bdk_b : LO := [
 X.m 19 7,
 X.m 4 19]
def C.bdk : LO := C.bdk_b
def C.bdk_w := pO C.bdk.eq_1
def C.ccy : ICode := .seq (.region C.bdk) .ret
def C.ccy_w := pC C.ccy.eq_1
def C.ccq : ICode := .keep [1, 7, 8, 9, 10, 18] (.cond (X.s 18) C.ccy .skip)
def C.ccq_w := pC C.ccq.eq_1
def C.bdj_b : LO := [
 X.m 17 7,
 X.o 18 (.bin .neq (X.s 17) (X.i 0))]
def C.bdj : LO := C.bdj_b
def C.bdj_w := pO C.bdj.eq_1
def C.ccz : ICode := .keep [1, 7, 8, 9, 10] (.seq (.region C.bdj) C.ccq)
def C.ccz_w := pC C.ccz.eq_1
def C.bdh_b : LO := [
 X.m 14 1,
 X.o 15 (.loadN 6 (X.s 6)),
 X.o 16 (.callv (X.s 14) [X.s 15]),
 X.m 7 16]
def C.bdh : LO := C.bdh_b
def C.bdh_w := pO C.bdh.eq_1
def C.cc0 : ICode := .keep [1, 6, 8, 9, 10] (.seq (.region C.bdh) C.ccz)
def C.cc0_w := pC C.cc0.eq_1
def C.mb_b : LO := [
 X.o 12 (.idxAddr 6 (X.s 8) (X.s 10)),
 X.o 13 (.loadN 6 (X.s 12)),
 X.o 6 (.alloc [.int .i64 0, .int .i64 0, .int .i64 0, .int .u32 0, .nils, .nils]),
 X.n (.storeN 6 (X.s 6) (X.s 13))]
def C.mb : LO := C.mb_b
def C.mb_w := pO C.mb.eq_1
def C.bqh : ICode := .seq (.region C.mb) C.cc0
def C.bqh_w := pC C.bqh.eq_1
def C.bqn : ICode := .keep [1, 8, 9, 10] (.seq (.block 1 C.bqh) C.bqm)
def C.bqn_w := pC C.bqn.eq_1
def C.bqp : ICode := .keep [1, 8, 9, 10, 11] (.seq (.cond (X.s 11) .skip (.exit 0)) C.bqn)
def C.bqp_w := pC C.bqp.eq_1
def C.l9_b : LO := [
 X.o 11 (.bin .lss (X.s 10) (X.s 9))]
def C.l9 : LO := C.l9_b
def C.l9_w := pO C.l9.eq_1
def C.cn2 : ICode := .keep [1, 8, 9, 10] (.seq (.region C.l9) C.bqp)
def C.cn2_w := pC C.cn2.eq_1
def C.bqg : ICode := .loop C.cn2
def C.bqg_w := pC C.bqg.eq_1
def C.bqk : ICode := .keep [1, 8, 9, 10] (.block 0 C.bqg)
def C.bqk_w := pC C.bqk.eq_1
def C.l8_b : LO := [
 X.m 8 0,
 X.o 9 (.len (X.s 8)),
 X.o 10 (.move (X.i 0))]
def C.l8 : LO := C.l8_b
def C.l8_w := pO C.l8.eq_1
def C.bql : ICode := .keep [0, 1] (.seq (.seq (.region C.l8) C.bqk) C.bqj)
def C.bql_w := pC C.bql.eq_1
def C.l7_b : LO := [
 X.o 4 (.move (X.i 0))]
def C.l7 : LO := C.l7_b
def C.l7_w := pO C.l7.eq_1
def C.q57 : IFunc := ⟨2, [.slot 4], .seq (.region C.l7) C.bql⟩
def C.q57_W := aI (aI (aI (aI @C.md_w @C.bqj_w) (aI @C.mc_w (aI @C.bqm_w @C.bdk_w))) (aI (aI @C.ccy_w @C.ccq_w) (aI @C.bdj_w (aI @C.ccz_w @C.bdh_w)))) (aI (aI (aI @C.cc0_w @C.mb_w) (aI @C.bqh_w (aI @C.bqn_w @C.bqp_w))) (aI (aI @C.l9_w (aI @C.bqg_w @C.bqk_w)) (aI @C.l8_w (aI @C.bql_w @C.l7_w))))
def C.q57_B := aI (aI (aI @C.md_b.eq_1 @C.mc_b.eq_1) (aI @C.bdk_b.eq_1 @C.bdj_b.eq_1)) (aI (aI @C.bdh_b.eq_1 @C.mb_b.eq_1) (aI @C.l9_b.eq_1 (aI @C.l8_b.eq_1 @C.l7_b.eq_1)))

def C.bbf_b : LO := [
 X.o 4 (.loadN 4 (X.s 1)),
 X.o 5 (.loadN 6 (X.s 2)),
 X.o 6 (.call F.q47 [X.s 4, X.s 5]),
 X.m 3 6]
def C.bbf : LO := C.bbf_b
def C.bbf_w := pO C.bbf.eq_1
def C.b93 : ICode := .keep [1, 2] (.seq (.region C.bbf) .ret)
def C.b93_w := pC C.b93.eq_1
def C.lj_b : LO := [
 X.o 2 (.boxN (X.s 0)),
 X.o 3 (.move (X.i 0))]
def C.lj : LO := C.lj_b
def C.lj_w := pO C.lj.eq_1
def C.q35 : IFunc := ⟨2, [.slot 3], .seq (.region C.lj) C.b93⟩
def C.q35_W := aI @C.bbf_w (aI @C.b93_w @C.lj_w)
def C.q35_B := aI @C.bbf_b.eq_1 @C.lj_b.eq_1

def C.bcj_b : LO := [
 X.o 5 (.makeFunc F.q48 [X.s 3, X.s 2]),
 X.o 6 (.makeFunc F.q49 [X.s 3, X.s 2]),
 X.o 7 (.makeFunc F.q50 [X.s 3, X.s 2]),
 X.o 8 (.makeFunc F.q51 [X.s 3, X.s 2]),
 X.o 9 (.buildSlice 1 4 [.nilf] [(0, 1, X.s 5), (1, 1, X.s 6), (2, 1, X.s 7), (3, 1, X.s 8)]),
 X.o 10 (.call F.q61 [X.s 9]),
 X.m 4 10]
def C.bcj : LO := C.bcj_b
def C.bcj_w := pO C.bcj.eq_1
def C.cb3 : ICode := .keep [2, 3] (.seq (.region C.bcj) .ret)
def C.cb3_w := pC C.cb3.eq_1
def C.bch_b : LO := [
 X.o 2 (.boxN (X.s 0)),
 X.o 3 (.boxN (X.s 1)),
 X.o 4 (.move (X.i 0))]
def C.bch : LO := C.bch_b
def C.bch_w := pO C.bch.eq_1
def C.q47 : IFunc := ⟨2, [.slot 4], .seq (.region C.bch) C.cb3⟩
def C.q47_W := aI @C.bcj_w (aI @C.cb3_w @C.bch_w)
def C.q47_B := aI @C.bcj_b.eq_1 @C.bch_b.eq_1

def C.bbh_b : LO := [
 X.o 2 (.loadN 4 (X.s 0)),
 X.o 3 (.call F.q40 [X.s 2]),
 X.o 4 (.call F.q46 [X.s 3]),
 X.m 1 4]
def C.bbh : LO := C.bbh_b
def C.bbh_w := pO C.bbh.eq_1
def C.b94 : ICode := .keep [0] (.seq (.region C.bbh) .ret)
def C.b94_w := pC C.b94.eq_1
def C.bbg_b : LO := [
 X.o 1 (.move (X.i 0))]
def C.bbg : LO := C.bbg_b
def C.bbg_w := pO C.bbg.eq_1
def C.q36 : IFunc := ⟨1, [.slot 1], .seq (.region C.bbg) C.b94⟩
def C.q36_W := aI @C.bbh_w (aI @C.b94_w @C.bbg_w)
def C.q36_B := aI @C.bbh_b.eq_1 @C.bbg_b.eq_1

def C.l0_b : LO := [
 X.m 25 3,
 X.m 2 25]
def C.l0 : LO := C.l0_b
def C.l0_w := pO C.l0.eq_1
def C.by0 : ICode := .keep [3] (.seq (.region C.l0) .ret)
def C.by0_w := pC C.by0.eq_1
def C.lz_b : LO := [
 X.o 24 (.bin .add (X.s 13) (X.i 1)),
 X.m 13 24]
def C.lz : LO := C.lz_b
def C.lz_w := pO C.lz.eq_1
def C.by2 : ICode := .keep [3, 11, 12, 13] (.region C.lz)
def C.by2_w := pC C.by2.eq_1
def C.bb2_b : LO := [
 X.m 18 3,
 X.m 19 4,
 X.o 20 (.fldAddr 5 (X.s 5)),
 X.o 21 (.load1 (X.s 20)),
 X.o 22 (.call F.q70 [X.s 21]),
 X.o 23 (.idxAddr 1 (X.s 18) (X.s 19)),
 X.n (.store1 (X.s 23) (X.s 22))]
def C.bb2 : LO := C.bb2_b
def C.bb2_w := pO C.bb2.eq_1
def C.cbx : ICode := .keep [3, 4, 5, 11, 12, 13] (.region C.bb2)
def C.cbx_w := pC C.cbx.eq_1
def C.lq_b : LO := [
 X.m 15 13,
 X.o 16 (.idxAddr 6 (X.s 11) (X.s 13)),
 X.o 17 (.loadN 6 (X.s 16)),
 X.o 5 (.alloc [.int .i64 0, .int .i64 0, .int .i64 0, .int .u32 0, .nils, .nils]),
 X.m 4 15,
 X.n (.storeN 6 (X.s 5) (X.s 17))]
def C.lq : LO := C.lq_b
def C.lq_w := pO C.lq.eq_1
def C.byq : ICode := .seq (.region C.lq) C.cbx
def C.byq_w := pC C.byq.eq_1
def C.by3 : ICode := .keep [3, 11, 12, 13] (.seq (.block 1 C.byq) C.by2)
def C.by3_w := pC C.by3.eq_1
def C.by4 : ICode := .keep [3, 11, 12, 13, 14] (.seq (.cond (X.s 14) .skip (.exit 0)) C.by3)
def C.by4_w := pC C.by4.eq_1
def C.ly_b : LO := [
 X.o 14 (.bin .lss (X.s 13) (X.s 12))]
def C.ly : LO := C.ly_b
def C.ly_w := pO C.ly.eq_1
def C.cn0 : ICode := .keep [3, 11, 12, 13] (.seq (.region C.ly) C.by4)
def C.cn0_w := pC C.cn0.eq_1
def C.byz : ICode := .loop C.cn0
def C.byz_w := pC C.byz.eq_1
def C.by5 : ICode := .keep [3, 11, 12, 13] (.block 0 C.byz)
def C.by5_w := pC C.by5.eq_1
def C.lx_b : LO := [
 X.o 10 (.fldAddr 3 (X.s 1)),
 X.o 11 (.load1 (X.s 10)),
 X.o 12 (.len (X.s 11)),
 X.o 13 (.move (X.i 0))]
def C.lx : LO := C.lx_b
def C.lx_w := pO C.lx.eq_1
def C.by1 : ICode := .keep [1, 3] (.seq (.seq (.region C.lx) C.by5) C.by0)
def C.by1_w := pC C.by1.eq_1
def C.c4_b : LO := [
 X.o 6 (.fldAddr 3 (X.s 1)),
 X.o 7 (.load1 (X.s 6)),
 X.o 8 (.len (X.s 7)),
 X.o 9 (.makeSlice 1 24 [.nils] (X.s 8) (X.s 8)),
 X.m 3 9]
def C.c4 : LO := C.c4_b
def C.c4_w := pO C.c4.eq_1
def C.bnd : ICode := .keep [1] (.seq (.region C.c4) C.by1)
def C.bnd_w := pC C.bnd.eq_1
def C.b3_b : LO := [
 X.o 1 (.boxN (X.s 0)),
 X.o 2 (.move (.cst (.nils)))]
def C.b3 : LO := C.b3_b
def C.b3_w := pO C.b3.eq_1
def C.q40 : IFunc := ⟨1, [.slot 2], .seq (.region C.b3) C.bnd⟩
def C.q40_W := aI (aI (aI (aI @C.l0_w @C.by0_w) (aI @C.lz_w @C.by2_w)) (aI (aI @C.bb2_w @C.cbx_w) (aI @C.lq_w (aI @C.byq_w @C.by3_w)))) (aI (aI (aI @C.by4_w @C.ly_w) (aI @C.byz_w @C.by5_w)) (aI (aI @C.lx_w @C.by1_w) (aI @C.c4_w (aI @C.bnd_w @C.b3_w))))
def C.q40_B := aI (aI (aI @C.l0_b.eq_1 @C.lz_b.eq_1) (aI @C.bb2_b.eq_1 @C.lq_b.eq_1)) (aI (aI @C.ly_b.eq_1 @C.lx_b.eq_1) (aI @C.c4_b.eq_1 @C.b3_b.eq_1))

def C.vd_b : LO := [
 X.o 4 (.move (X.i 0))]
def C.vd : LO := C.vd_b
def C.vd_w := pO C.vd.eq_1
def C.b59 : ICode := .keep [] (.seq (.region C.vd) .ret)
def C.b59_w := pC C.b59.eq_1
def C.vc_b : LO := [
 X.m 20 0,
 X.o 21 (.nilchk (X.s 20)),
 X.o 22 (.fldAddr 0 (X.s 21)),
 X.o 23 (.load1 (X.s 22)),
 X.m 24 1,
 X.o 25 (.loadN 4 (X.s 5)),
 X.n (.mapSet (X.s 23) (X.s 24) (X.s 25))]
def C.vc : LO := C.vc_b
def C.vc_w := pO C.vc.eq_1
def C.b6b : ICode := .keep [0, 1, 5] (.seq (.region C.vc) C.b59)
def C.b6b_w := pC C.b6b.eq_1
def C.vb_b : LO := [
 X.o 15 (.fldAddr 0 (X.s 5)),
 X.o 16 (.load1 (X.s 15)),
 X.o 17 (.fldAddr 2 (X.s 5)),
 X.n (.store1 (X.s 17) (.cst (.bool true))),
 X.o 18 (.fldAddr 1 (X.s 5)),
 X.n (.store1 (X.s 18) (X.s 16)),
 X.o 19 (.fldAddr 3 (X.s 5)),
 X.n (.store1 (X.s 19) (.cst (.bool false)))]
def C.vb : LO := C.vb_b
def C.vb_w := pO C.vb.eq_1
def C.b6c : ICode := .keep [0, 1, 5] (.seq (.region C.vb) C.b6b)
def C.b6c_w := pC C.b6c.eq_1
def C.t9_b : LO := [
 X.o 4 (.move (X.i 4))]
def C.t9 : LO := C.t9_b
def C.t9_w := pO C.t9.eq_1
def C.b6d : ICode := .seq (.region C.t9) .ret
def C.b6d_w := pC C.b6d.eq_1
def C.b6f : ICode := .keep [0, 1, 5, 14] (.cond (X.s 14) C.b6d .skip)
def C.b6f_w := pC C.b6f.eq_1
def C.t8_b : LO := [
 X.m 13 6,
 X.o 14 (.un .not (X.s 13))]
def C.t8 : LO := C.t8_b
def C.t8_w := pO C.t8.eq_1
def C.b6g : ICode := .keep [0, 1, 5, 6] (.seq (.seq (.region C.t8) C.b6f) C.b6c)
def C.b6g_w := pC C.b6g.eq_1
def C.ch_b : LO := [
 X.m 8 0,
 X.m 9 1,
 X.o 10 (.call F.q124 [X.s 8, X.s 9]),
 X.m 7 10,
 X.o 11 (.extract (X.s 7) 0),
 X.o 12 (.extract (X.s 7) 1),
 X.o 5 (.alloc [.int .i64 0, .int .i64 0, .bool false, .bool false]),
 X.n (.storeN 4 (X.s 5) (X.s 11)),
 X.m 6 12]
def C.ch : LO := C.ch_b
def C.ch_w := pO C.ch.eq_1
def C.bmt : ICode := .keep [0, 1] (.seq (.region C.ch) C.b6g)
def C.bmt_w := pC C.bmt.eq_1
def C.cg_b : LO := [
 X.o 4 (.move (X.i 0))]
def C.cg : LO := C.cg_b
def C.cg_w := pO C.cg.eq_1
def C.q120 : IFunc := ⟨2, [.slot 4], .seq (.region C.cg) C.bmt⟩
def C.q120_W := aI (aI (aI @C.vd_w (aI @C.b59_w @C.vc_w)) (aI (aI @C.b6b_w @C.vb_w) (aI @C.b6c_w @C.t9_w))) (aI (aI @C.b6d_w (aI @C.b6f_w @C.t8_w)) (aI (aI @C.b6g_w @C.ch_w) (aI @C.bmt_w @C.cg_w)))
def C.q120_B := aI (aI @C.vd_b.eq_1 (aI @C.vc_b.eq_1 @C.vb_b.eq_1)) (aI (aI @C.t9_b.eq_1 @C.t8_b.eq_1) (aI @C.ch_b.eq_1 @C.cg_b.eq_1))

def C.sp_b : LO := [
 X.m 6 0,
 X.o 7 (.nilchk (X.s 6)),
 X.o 8 (.fldAddr 3 (X.s 7)),
 X.n (.store1 (X.s 8) (.cst (.bool false)))]
def C.sp : LO := C.sp_b
def C.sp_w := pO C.sp.eq_1
def C.b4t : ICode := .keep [0] (.region C.sp)
def C.b4t_w := pC C.b4t.eq_1
def C.sn_b : LO := [
 X.m 4 0,
 X.o 5 (.call F.q116 [X.s 4, .fnc F.q108])]
def C.sn : LO := C.sn_b
def C.sn_w := pO C.sn.eq_1
def C.b4v : ICode := .keep [0] (.seq (.region C.sn) C.b4t)
def C.b4v_w := pC C.b4v.eq_1
def C.b4w : ICode := .keep [0, 3] (.cond (X.s 3) .ret .skip)
def C.b4w_w := pC C.b4w.eq_1
def C.sm_b : LO := [
 X.m 2 0,
 X.o 3 (.eqP 0 false (X.s 2) (.cst (.nilp)))]
def C.sm : LO := C.sm_b
def C.sm_w := pO C.sm.eq_1
def C.q107 : IFunc := ⟨1, [], .seq (.seq (.region C.sm) C.b4w) C.b4v⟩
def C.q107_W := aI (aI @C.sp_w (aI @C.b4t_w @C.sn_w)) (aI @C.b4v_w (aI @C.b4w_w @C.sm_w))
def C.q107_B := aI @C.sp_b.eq_1 (aI @C.sn_b.eq_1 @C.sm_b.eq_1)

def C.vn_b : LO := [
 X.o 4 (.move (X.i 0))]
def C.vn : LO := C.vn_b
def C.vn_w := pO C.vn.eq_1
def C.b6j : ICode := .keep [] (.seq (.region C.vn) .ret)
def C.b6j_w := pC C.b6j.eq_1
def C.vm_b : LO := [
 X.m 19 0,
 X.o 20 (.nilchk (X.s 19)),
 X.o 21 (.fldAddr 0 (X.s 20)),
 X.o 22 (.load1 (X.s 21)),
 X.m 23 1,
 X.o 24 (.loadN 4 (X.s 5)),
 X.n (.mapSet (X.s 22) (X.s 23) (X.s 24))]
def C.vm : LO := C.vm_b
def C.vm_w := pO C.vm.eq_1
def C.b6k : ICode := .keep [0, 1, 5] (.seq (.region C.vm) C.b6j)
def C.b6k_w := pC C.b6k.eq_1
def C.vl_b : LO := [
 X.o 18 (.fldAddr 3 (X.s 5)),
 X.n (.store1 (X.s 18) (.cst (.bool true)))]
def C.vl : LO := C.vl_b
def C.vl_w := pO C.vl.eq_1
def C.b6l : ICode := .keep [0, 1, 5] (.seq (.region C.vl) C.b6k)
def C.b6l_w := pC C.b6l.eq_1
def C.vk_b : LO := [
 X.o 4 (.move (X.i 6))]
def C.vk : LO := C.vk_b
def C.vk_w := pO C.vk.eq_1
def C.b6m : ICode := .seq (.region C.vk) .ret
def C.b6m_w := pC C.b6m.eq_1
def C.b6n : ICode := .keep [0, 1, 5, 17] (.cond (X.s 17) C.b6m .skip)
def C.b6n_w := pC C.b6n.eq_1
def C.vj_b : LO := [
 X.o 15 (.fldAddr 2 (X.s 5)),
 X.o 16 (.load1 (X.s 15)),
 X.o 17 (.un .not (X.s 16))]
def C.vj : LO := C.vj_b
def C.vj_w := pO C.vj.eq_1
def C.b6p : ICode := .keep [0, 1, 5] (.seq (.seq (.region C.vj) C.b6n) C.b6l)
def C.b6p_w := pC C.b6p.eq_1
def C.vh_b : LO := [
 X.o 4 (.move (X.i 4))]
def C.vh : LO := C.vh_b
def C.vh_w := pO C.vh.eq_1
def C.b6r : ICode := .seq (.region C.vh) .ret
def C.b6r_w := pC C.b6r.eq_1
def C.b6s : ICode := .keep [0, 1, 5, 14] (.cond (X.s 14) C.b6r .skip)
def C.b6s_w := pC C.b6s.eq_1
def C.vg_b : LO := [
 X.m 13 6,
 X.o 14 (.un .not (X.s 13))]
def C.vg : LO := C.vg_b
def C.vg_w := pO C.vg.eq_1
def C.b6t : ICode := .keep [0, 1, 5, 6] (.seq (.seq (.region C.vg) C.b6s) C.b6p)
def C.b6t_w := pC C.b6t.eq_1
def C.dh_b : LO := [
 X.m 8 0,
 X.m 9 1,
 X.o 10 (.call F.q124 [X.s 8, X.s 9]),
 X.m 7 10,
 X.o 11 (.extract (X.s 7) 0),
 X.o 12 (.extract (X.s 7) 1),
 X.o 5 (.alloc [.int .i64 0, .int .i64 0, .bool false, .bool false]),
 X.n (.storeN 4 (X.s 5) (X.s 11)),
 X.m 6 12]
def C.dh : LO := C.dh_b
def C.dh_w := pO C.dh.eq_1
def C.bn6 : ICode := .keep [0, 1] (.seq (.region C.dh) C.b6t)
def C.bn6_w := pC C.bn6.eq_1
def C.dg_b : LO := [
 X.o 4 (.move (X.i 0))]
def C.dg : LO := C.dg_b
def C.dg_w := pO C.dg.eq_1
def C.q122 : IFunc := ⟨2, [.slot 4], .seq (.region C.dg) C.bn6⟩
def C.q122_W := aI (aI (aI (aI @C.vn_w @C.b6j_w) (aI @C.vm_w @C.b6k_w)) (aI (aI @C.vl_w @C.b6l_w) (aI @C.vk_w (aI @C.b6m_w @C.b6n_w)))) (aI (aI (aI @C.vj_w @C.b6p_w) (aI @C.vh_w (aI @C.b6r_w @C.b6s_w))) (aI (aI @C.vg_w @C.b6t_w) (aI @C.dh_w (aI @C.bn6_w @C.dg_w))))
def C.q122_B := aI (aI (aI @C.vn_b.eq_1 @C.vm_b.eq_1) (aI @C.vl_b.eq_1 @C.vk_b.eq_1)) (aI (aI @C.vj_b.eq_1 @C.vh_b.eq_1) (aI @C.vg_b.eq_1 (aI @C.dh_b.eq_1 @C.dg_b.eq_1)))

def C.bmr_b : LO := [
 X.o 4 (.move (X.i 0))]
def C.bmr : LO := C.bmr_b
def C.bmr_w := pO C.bmr.eq_1
def C.cm1 : ICode := .keep [] (.seq (.region C.bmr) .ret)
def C.cm1_w := pC C.cm1.eq_1
def C.bmp_b : LO := [
 X.m 45 5,
 X.m 46 5,
 X.m 47 5,
 X.o 48 (.nilchk (X.s 47)),
 X.o 49 (.fldAddr 0 (X.s 48)),
 X.o 50 (.fldAddr 1 (X.s 49)),
 X.o 51 (.load1 (X.s 50)),
 X.o 52 (.nilchk (X.s 45)),
 X.o 53 (.fldAddr 3 (X.s 52)),
 X.n (.store1 (X.s 53) (.cst (.int .u8 114))),
 X.o 54 (.nilchk (X.s 46)),
 X.o 55 (.fldAddr 4 (X.s 54)),
 X.n (.store1 (X.s 55) (X.s 51))]
def C.bmp : LO := C.bmp_b
def C.bmp_w := pO C.bmp.eq_1
def C.cm2 : ICode := .keep [5] (.seq (.region C.bmp) C.cm1)
def C.cm2_w := pC C.cm2.eq_1
def C.pt_b : LO := [
 X.m 37 5,
 X.m 38 5,
 X.o 39 (.nilchk (X.s 38)),
 X.o 40 (.fldAddr 3 (X.s 39)),
 X.o 41 (.load1 (X.s 40)),
 X.o 42 (.bin .eql (X.s 41) (.cst (.int .u8 116))),
 X.o 43 (.nilchk (X.s 37)),
 X.o 44 (.fldAddr 5 (X.s 43)),
 X.n (.store1 (X.s 44) (X.s 42))]
def C.pt : LO := C.pt_b
def C.pt_w := pO C.pt.eq_1
def C.p4 : ICode := .keep [5] (.seq (.region C.pt) C.cm2)
def C.p4_w := pC C.p4.eq_1
def C.ps_b : LO := [
 X.o 4 (.move (X.i 6))]
def C.ps : LO := C.ps_b
def C.ps_w := pO C.ps.eq_1
def C.b2f : ICode := .seq (.region C.ps) .ret
def C.b2f_w := pC C.b2f.eq_1
def C.b2g : ICode := .keep [5, 36] (.cond (X.s 36) C.b2f .skip)
def C.b2g_w := pC C.b2g.eq_1
def C.pr_b : LO := [
 X.m 11 5,
 X.o 12 (.call F.q102 [X.s 11]),
 X.o 13 (.un .not (X.s 12)),
 X.m 14 13,
 X.f 14 15 (.move (X.s 5)),
 X.f 14 16 (.nilchk (X.s 15)),
 X.f 14 17 (.fldAddr 0 (X.s 16)),
 X.f 14 18 (.fldAddr 0 (X.s 17)),
 X.f 14 19 (.load1 (X.s 18)),
 X.f 14 20 (.bin .neq (X.s 19) (X.i (-1))),
 X.f 14 21 (.move (X.s 20)),
 X.t 21 22 (.move (X.s 0)),
 X.t 21 23 (.nilchk (X.s 22)),
 X.t 21 24 (.fldAddr 0 (X.s 23)),
 X.t 21 25 (.load1 (X.s 24)),
 X.t 21 26 (.move (X.s 5)),
 X.t 21 27 (.nilchk (X.s 26)),
 X.t 21 28 (.fldAddr 0 (X.s 27)),
 X.t 21 29 (.fldAddr 0 (X.s 28)),
 X.t 21 30 (.load1 (X.s 29)),
 X.t 21 31 (.idxAddr 7 (X.s 25) (X.s 30)),
 X.t 21 32 (.fldAddr 3 (X.s 31)),
 X.t 21 33 (.load1 (X.s 32)),
 X.t 21 34 (.bin .neq (X.s 33) (.cst (.int .u8 49))),
 X.f 14 35 (.pick (X.s 21) (X.s 34) (.cst (.bool false))),
 X.o 36 (.pick (X.s 14) (.cst (.bool true)) (X.s 35))]
def C.pr : LO := C.pr_b
def C.pr_w := pO C.pr.eq_1
def C.b2h : ICode := .keep [0, 5] (.seq (.seq (.region C.pr) C.b2g) C.p4)
def C.b2h_w := pC C.b2h.eq_1
def C.pp_b : LO := [
 X.o 4 (.move (X.i 4))]
def C.pp : LO := C.pp_b
def C.pp_w := pO C.pp.eq_1
def C.b2j : ICode := .seq (.region C.pp) .ret
def C.b2j_w := pC C.b2j.eq_1
def C.b2k : ICode := .keep [0, 5, 10] (.cond (X.s 10) C.b2j .skip)
def C.b2k_w := pC C.b2k.eq_1
def C.pn_b : LO := [
 X.m 9 5,
 X.o 10 (.eqP 0 false (X.s 9) (.cst (.nilp)))]
def C.pn : LO := C.pn_b
def C.pn_w := pO C.pn.eq_1
def C.b2l : ICode := .keep [0, 5] (.seq (.seq (.region C.pn) C.b2k) C.b2h)
def C.b2l_w := pC C.b2l.eq_1
def C.pm_b : LO := [
 X.m 6 0,
 X.m 7 1,
 X.o 8 (.call F.q100 [X.s 6, X.s 7]),
 X.m 5 8]
def C.pm : LO := C.pm_b
def C.pm_w := pO C.pm.eq_1
def C.b2d : ICode := .keep [0, 1] (.seq (.region C.pm) C.b2l)
def C.b2d_w := pC C.b2d.eq_1
def C.pl_b : LO := [
 X.o 4 (.move (X.i 0))]
def C.pl : LO := C.pl_b
def C.pl_w := pO C.pl.eq_1
def C.q99 : IFunc := ⟨2, [.slot 4], .seq (.region C.pl) C.b2d⟩
def C.q99_W := aI (aI (aI (aI @C.bmr_w @C.cm1_w) (aI @C.bmp_w @C.cm2_w)) (aI (aI @C.pt_w @C.p4_w) (aI @C.ps_w (aI @C.b2f_w @C.b2g_w)))) (aI (aI (aI @C.pr_w @C.b2h_w) (aI @C.pp_w (aI @C.b2j_w @C.b2k_w))) (aI (aI @C.pn_w @C.b2l_w) (aI @C.pm_w (aI @C.b2d_w @C.pl_w))))
def C.q99_B := aI (aI (aI @C.bmr_b.eq_1 @C.bmp_b.eq_1) (aI @C.pt_b.eq_1 @C.ps_b.eq_1)) (aI (aI @C.pr_b.eq_1 @C.pp_b.eq_1) (aI @C.pn_b.eq_1 (aI @C.pm_b.eq_1 @C.pl_b.eq_1)))

def C.bbn_b : LO := [
 X.o 66 (.loadN 4 (X.s 3)),
 X.n (.storeN 4 (X.s 2) (X.s 66))]
def C.bbn : LO := C.bbn_b
def C.bbn_w := pO C.bbn.eq_1
def C.cbb : ICode := .keep [2, 3] (.seq (.region C.bbn) .ret)
def C.cbb_w := pC C.cbb.eq_1
def C.bbm_b : LO := [
 X.o 65 (.bin .add (X.s 42) (X.i 1)),
 X.m 42 65]
def C.bbm : LO := C.bbm_b
def C.bbm_w := pO C.bbm.eq_1
def C.cbl : ICode := .keep [2, 3, 41, 42] (.region C.bbm)
def C.cbl_w := pC C.cbl.eq_1
def C.bbl_b : LO := [
 X.m 49 6,
 X.m 50 6,
 X.m 51 6,
 X.o 52 (.nilchk (X.s 51)),
 X.o 53 (.fldAddr 4 (X.s 52)),
 X.o 54 (.load1 (X.s 53)),
 X.m 56 6,
 X.o 57 (.nilchk (X.s 56)),
 X.o 58 (.fldAddr 5 (X.s 57)),
 X.o 59 (.load1 (X.s 58)),
 ⟨some 55, .call F.q68 [X.s 54], none, [⟨.load1 (X.s 58), 59, none⟩], []⟩,
 X.o 60 (.call F.q70 [X.s 59]),
 X.o 61 (.nilchk (X.s 49)),
 X.o 62 (.fldAddr 4 (X.s 61)),
 X.n (.store1 (X.s 62) (X.s 55)),
 X.o 63 (.nilchk (X.s 50)),
 X.o 64 (.fldAddr 5 (X.s 63)),
 X.n (.store1 (X.s 64) (X.s 60))]
def C.bbl : LO := C.bbl_b
def C.bbl_w := pO C.bbl.eq_1
def C.cbn : ICode := .keep [2, 3, 6, 41, 42] (.region C.bbl)
def C.cbn_w := pC C.cbn.eq_1
def C.bbk_b : LO := [
 X.o 45 (.fldAddr 3 (X.s 3)),
 X.o 46 (.load1 (X.s 45)),
 X.m 47 5,
 X.o 48 (.idxAddr 6 (X.s 46) (X.s 47)),
 X.m 6 48]
def C.bbk : LO := C.bbk_b
def C.bbk_w := pO C.bbk.eq_1
def C.cbp : ICode := .keep [2, 3, 5, 41, 42] (.seq (.region C.bbk) C.cbn)
def C.cbp_w := pC C.cbp.eq_1
def C.bby_b : LO := [
 X.m 44 42,
 X.m 5 44]
def C.bby : LO := C.bby_b
def C.bby_w := pO C.bby.eq_1
def C.b98 : ICode := .seq (.region C.bby) C.cbp
def C.b98_w := pC C.b98.eq_1
def C.cbr : ICode := .keep [2, 3, 41, 42] (.seq (.block 3 C.b98) C.cbl)
def C.cbr_w := pC C.cbr.eq_1
def C.cbs : ICode := .keep [2, 3, 41, 42, 43] (.seq (.cond (X.s 43) .skip (.exit 2)) C.cbr)
def C.cbs_w := pC C.cbs.eq_1
def C.bbx_b : LO := [
 X.o 43 (.bin .lss (X.s 42) (X.s 41))]
def C.bbx : LO := C.bbx_b
def C.bbx_w := pO C.bbx.eq_1
def C.cnq : ICode := .keep [2, 3, 41, 42] (.seq (.region C.bbx) C.cbs)
def C.cnq_w := pC C.cnq.eq_1
def C.b99 : ICode := .loop C.cnq
def C.b99_w := pC C.b99.eq_1
def C.cbc : ICode := .keep [2, 3, 41, 42] (.block 2 C.b99)
def C.cbc_w := pC C.cbc.eq_1
def C.bbw_b : LO := [
 X.o 39 (.fldAddr 3 (X.s 3)),
 X.o 40 (.load1 (X.s 39)),
 X.o 41 (.len (X.s 40)),
 X.o 42 (.move (X.i 0))]
def C.bbw : LO := C.bbw_b
def C.bbw_w := pO C.bbw.eq_1
def C.cbd : ICode := .keep [2, 3] (.seq (.seq (.region C.bbw) C.cbc) C.cbb)
def C.cbd_w := pC C.cbd.eq_1
def C.bbv_b : LO := [
 X.o 38 (.bin .add (X.s 23) (X.i 1)),
 X.m 23 38]
def C.bbv : LO := C.bbv_b
def C.bbv_w := pO C.bbv.eq_1
def C.cbf : ICode := .keep [2, 3, 22, 23] (.region C.bbv)
def C.cbf_w := pC C.cbf.eq_1
def C.bbt_b : LO := [
 X.o 26 (.fldAddr 0 (X.s 3)),
 X.o 27 (.load1 (X.s 26)),
 X.m 28 4,
 X.o 29 (.fldAddr 0 (X.s 3)),
 X.o 30 (.load1 (X.s 29)),
 X.m 31 4,
 X.o 32 (.idxAddr 6 (X.s 30) (X.s 31)),
 X.o 33 (.fldAddr 1 (X.s 32)),
 X.o 34 (.load1 (X.s 33)),
 ⟨some 35, .call F.q70 [X.s 34], none, [⟨.load1 (X.s 26), 27, none⟩], []⟩,
 X.o 36 (.idxAddr 6 (X.s 27) (X.s 28)),
 X.o 37 (.fldAddr 1 (X.s 36)),
 X.n (.store1 (X.s 37) (X.s 35))]
def C.bbt : LO := C.bbt_b
def C.bbt_w := pO C.bbt.eq_1
def C.cbg : ICode := .keep [2, 3, 4, 22, 23] (.region C.bbt)
def C.cbg_w := pC C.cbg.eq_1
def C.bbs_b : LO := [
 X.m 25 23,
 X.m 4 25]
def C.bbs : LO := C.bbs_b
def C.bbs_w := pO C.bbs.eq_1
def C.b96 : ICode := .seq (.region C.bbs) C.cbg
def C.b96_w := pC C.b96.eq_1
def C.cbh : ICode := .keep [2, 3, 22, 23] (.seq (.block 1 C.b96) C.cbf)
def C.cbh_w := pC C.cbh.eq_1
def C.cbj : ICode := .keep [2, 3, 22, 23, 24] (.seq (.cond (X.s 24) .skip (.exit 0)) C.cbh)
def C.cbj_w := pC C.cbj.eq_1
def C.bbr_b : LO := [
 X.o 24 (.bin .lss (X.s 23) (X.s 22))]
def C.bbr : LO := C.bbr_b
def C.bbr_w := pO C.bbr.eq_1
def C.cny : ICode := .keep [2, 3, 22, 23] (.seq (.region C.bbr) C.cbj)
def C.cny_w := pC C.cny.eq_1
def C.b97 : ICode := .loop C.cny
def C.b97_w := pC C.b97.eq_1
def C.cbk : ICode := .keep [2, 3, 22, 23] (.block 0 C.b97)
def C.cbk_w := pC C.cbk.eq_1
def C.bbp_b : LO := [
 X.o 20 (.fldAddr 0 (X.s 3)),
 X.o 21 (.load1 (X.s 20)),
 X.o 22 (.len (X.s 21)),
 X.o 23 (.move (X.i 0))]
def C.bbp : LO := C.bbp_b
def C.bbp_w := pO C.bbp.eq_1
def C.cbm : ICode := .keep [2, 3] (.seq (.seq (.region C.bbp) C.cbk) C.cbd)
def C.cbm_w := pC C.cbm.eq_1
def C.c2_b : LO := [
 X.o 7 (.fldAddr 0 (X.s 1)),
 X.o 8 (.load1 (X.s 7)),
 X.o 10 (.fldAddr 1 (X.s 1)),
 X.o 11 (.load1 (X.s 10)),
 X.o 13 (.fldAddr 2 (X.s 1)),
 X.o 14 (.load1 (X.s 13)),
 X.o 16 (.fldAddr 3 (X.s 1)),
 X.o 17 (.load1 (X.s 16)),
 ⟨some 9, .call F.q65 [X.s 8], none, [⟨.load1 (X.s 10), 11, none⟩, ⟨.load1 (X.s 13), 14, none⟩, ⟨.load1 (X.s 16), 17, none⟩], []⟩,
 ⟨some 12, .call F.q67 [X.s 11], none, [⟨.load1 (X.s 13), 14, none⟩, ⟨.load1 (X.s 16), 17, none⟩], []⟩,
 ⟨some 15, .call F.q69 [X.s 14], none, [⟨.load1 (X.s 16), 17, none⟩], []⟩,
 X.o 18 (.call F.q66 [X.s 17]),
 X.o 19 (.build [.nils, .nils, .nils, .nils] [(0, 1, X.s 9), (1, 1, X.s 12), (2, 1, X.s 15), (3, 1, X.s 18)]),
 X.o 3 (.alloc [.nils, .nils, .nils, .nils]),
 X.n (.storeN 4 (X.s 3) (X.s 19))]
def C.c2 : LO := C.c2_b
def C.c2_w := pO C.c2.eq_1
def C.bnb : ICode := .keep [1, 2] (.seq (.region C.c2) C.cbm)
def C.bnb_w := pC C.bnb.eq_1
def C.b1_b : LO := [
 X.o 1 (.boxN (X.s 0)),
 X.o 2 (.alloc [.nils, .nils, .nils, .nils])]
def C.b1 : LO := C.b1_b
def C.b1_w := pO C.b1.eq_1
def C.q38 : IFunc := ⟨1, [.cellN 2 4], .seq (.region C.b1) C.bnb⟩
def C.q38_W := aI (aI (aI (aI (aI @C.bbn_w @C.cbb_w) (aI @C.bbm_w @C.cbl_w)) (aI (aI @C.bbl_w @C.cbn_w) (aI @C.bbk_w @C.cbp_w))) (aI (aI (aI @C.bby_w @C.b98_w) (aI @C.cbr_w @C.cbs_w)) (aI (aI @C.bbx_w @C.b99_w) (aI @C.cbc_w @C.bbw_w)))) (aI (aI (aI (aI @C.cbd_w @C.bbv_w) (aI @C.cbf_w @C.bbt_w)) (aI (aI @C.cbg_w @C.bbs_w) (aI @C.b96_w @C.cbh_w))) (aI (aI (aI @C.cbj_w @C.bbr_w) (aI @C.b97_w @C.cbk_w)) (aI (aI @C.bbp_w @C.cbm_w) (aI @C.c2_w (aI @C.bnb_w @C.b1_w)))))
def C.q38_B := aI (aI (aI @C.bbn_b.eq_1 (aI @C.bbm_b.eq_1 @C.bbl_b.eq_1)) (aI (aI @C.bbk_b.eq_1 @C.bby_b.eq_1) (aI @C.bbx_b.eq_1 @C.bbw_b.eq_1))) (aI (aI @C.bbv_b.eq_1 (aI @C.bbt_b.eq_1 @C.bbs_b.eq_1)) (aI (aI @C.bbr_b.eq_1 @C.bbp_b.eq_1) (aI @C.c2_b.eq_1 @C.b1_b.eq_1)))

def C.v3_b : LO := [
 X.o 5 (.buildSlice 2 0 [.int .u32 0, .bool false] []),
 X.m 6 0,
 X.o 7 (.append 2 8 (X.s 5) (X.s 6)),
 X.m 2 7]
def C.v3 : LO := C.v3_b
def C.v3_w := pO C.v3.eq_1
def C.b64 : ICode := .keep [0] (.seq (.region C.v3) .ret)
def C.b64_w := pC C.b64.eq_1
def C.v2_b : LO := [
 X.o 2 (.move (.cst (.nils)))]
def C.v2 : LO := C.v2_b
def C.v2_w := pO C.v2.eq_1
def C.b65 : ICode := .seq (.region C.v2) .ret
def C.b65_w := pC C.b65.eq_1
def C.b66 : ICode := .keep [0, 4] (.cond (X.s 4) C.b65 .skip)
def C.b66_w := pC C.b66.eq_1
def C.v1_b : LO := [
 X.m 3 0,
 X.o 4 (.eqP 1 false (X.s 3) (.cst (.nils)))]
def C.v1 : LO := C.v1_b
def C.v1_w := pO C.v1.eq_1
def C.b67 : ICode := .keep [0] (.seq (.seq (.region C.v1) C.b66) C.b64)
def C.b67_w := pC C.b67.eq_1
def C.v0_b : LO := [
 X.o 2 (.move (.cst (.nils)))]
def C.v0 : LO := C.v0_b
def C.v0_w := pO C.v0.eq_1
def C.q126 : IFunc := ⟨1, [.slot 2], .seq (.region C.v0) C.b67⟩
def C.q126_W := aI (aI (aI @C.v3_w @C.b64_w) (aI @C.v2_w @C.b65_w)) (aI (aI @C.b66_w @C.v1_w) (aI @C.b67_w @C.v0_w))
def C.q126_B := aI (aI @C.v3_b.eq_1 @C.v2_b.eq_1) (aI @C.v1_b.eq_1 @C.v0_b.eq_1)

def C.y3_b : LO := [
 X.o 22 (.makeFunc F.q3 [X.s 3]),
 X.m 4 22,
 X.o 5 (.move (.cst (.bool true)))]
def C.y3 : LO := C.y3_b
def C.y3_w := pO C.y3.eq_1
def C.b9v : ICode := .keep [3] (.seq (.region C.y3) .ret)
def C.b9v_w := pC C.b9v.eq_1
def C.y2_b : LO := [
 X.o 4 (.move (.cst (.nilf))),
 X.o 5 (.move (.cst (.bool false)))]
def C.y2 : LO := C.y2_b
def C.y2_w := pO C.y2.eq_1
def C.b9w : ICode := .seq (.region C.y2) .ret
def C.b9w_w := pC C.b9w.eq_1
def C.b9x : ICode := .keep [3, 21] (.cond (X.s 21) C.b9w .skip)
def C.b9x_w := pC C.b9x.eq_1
def C.y1_b : LO := [
 X.o 6 (.load1 (X.s 3)),
 X.o 7 (.bin .lss (X.s 6) (X.i 1)),
 X.m 8 7,
 X.f 8 9 (.load1 (X.s 3)),
 X.f 8 10 (.bin .gtr (X.s 9) (X.i 32)),
 X.o 11 (.pick (X.s 8) (.cst (.bool true)) (X.s 10)),
 X.m 12 11,
 X.f 12 13 (.move (X.s 0)),
 X.f 12 14 (.bin .lss (X.s 13) (X.i 0)),
 X.o 15 (.pick (X.s 12) (.cst (.bool true)) (X.s 14)),
 X.m 16 15,
 X.f 16 17 (.move (X.s 0)),
 X.f 16 18 (.load1 (X.s 3)),
 X.f 16 19 (.bin .sub (X.i 32) (X.s 18)),
 X.f 16 20 (.bin .gtr (X.s 17) (X.s 19)),
 X.o 21 (.pick (X.s 16) (.cst (.bool true)) (X.s 20))]
def C.y1 : LO := C.y1_b
def C.y1_w := pO C.y1.eq_1
def C.b9y : ICode := .keep [0, 3] (.seq (.seq (.region C.y1) C.b9x) C.b9v)
def C.b9y_w := pC C.b9y.eq_1
def C.y0_b : LO := [
 X.o 3 (.box1 (X.s 1)),
 X.o 4 (.move (.cst (.nilf))),
 X.o 5 (.move (.cst (.bool false)))]
def C.y0 : LO := C.y0_b
def C.y0_w := pO C.y0.eq_1
def C.q2 : IFunc := ⟨2, [.slot 4, .slot 5], .seq (.region C.y0) C.b9y⟩
def C.q2_W := aI (aI (aI @C.y3_w @C.b9v_w) (aI @C.y2_w @C.b9w_w)) (aI (aI @C.b9x_w @C.y1_w) (aI @C.b9y_w @C.y0_w))
def C.q2_B := aI (aI @C.y3_b.eq_1 @C.y2_b.eq_1) (aI @C.y1_b.eq_1 @C.y0_b.eq_1)

def C.t7_b : LO := [
 X.m 16 7,
 X.o 17 (.conv .i64 (X.s 16)),
 X.m 6 17]
def C.t7 : LO := C.t7_b
def C.t7_w := pO C.t7.eq_1
def C.b57 : ICode := .keep [7] (.seq (.region C.t7) .ret)
def C.b57_w := pC C.b57.eq_1
def C.t6_b : LO := [
 X.m 10 0,
 X.m 11 1,
 X.m 12 2,
 X.o 13 (.call F.q0 [X.s 10, X.s 11, X.s 12]),
 X.m 9 13,
 X.o 14 (.extract (X.s 9) 0),
 X.o 15 (.extract (X.s 9) 1),
 X.m 7 14,
 X.m 8 15]
def C.t6 : LO := C.t6_b
def C.t6_w := pO C.t6.eq_1
def C.b58 : ICode := .keep [0, 1, 2] (.seq (.region C.t6) C.b57)
def C.b58_w := pC C.b58.eq_1
def C.t5_b : LO := [
 X.o 6 (.move (X.i 0))]
def C.t5 : LO := C.t5_b
def C.t5_w := pO C.t5.eq_1
def C.q11 : IFunc := ⟨3, [.slot 6], .seq (.region C.t5) C.b58⟩
def C.q11_W := aI (aI @C.t7_w @C.b57_w) (aI @C.t6_w (aI @C.b58_w @C.t5_w))
def C.q11_B := aI @C.t7_b.eq_1 (aI @C.t6_b.eq_1 @C.t5_b.eq_1)

def C.bk8_b : LO := [
 X.m 5 0,
 X.o 6 (.eqP 0 true (X.s 5) (.cst (.nilp))),
 X.m 7 6,
 X.t 7 8 (.move (X.s 1)),
 X.t 7 9 (.bin .geq (X.s 8) (X.i 0)),
 X.o 10 (.pick (X.s 7) (X.s 9) (.cst (.bool false))),
 X.m 11 10,
 X.t 11 12 (.move (X.s 1)),
 X.t 11 13 (.move (X.s 0)),
 X.t 11 14 (.nilchk (X.s 13)),
 X.t 11 15 (.fldAddr 0 (X.s 14)),
 X.t 11 16 (.load1 (X.s 15)),
 X.t 11 17 (.len (X.s 16)),
 X.t 11 18 (.bin .lss (X.s 12) (X.s 17)),
 X.o 19 (.pick (X.s 11) (X.s 18) (.cst (.bool false))),
 X.m 4 19]
def C.bk8 : LO := C.bk8_b
def C.bk8_w := pO C.bk8.eq_1
def C.cll : ICode := .keep [0, 1] (.seq (.region C.bk8) .ret)
def C.cll_w := pC C.cll.eq_1
def C.bk7_b : LO := [
 X.o 4 (.move (.cst (.bool false)))]
def C.bk7 : LO := C.bk7_b
def C.bk7_w := pO C.bk7.eq_1
def C.q8 : IFunc := ⟨2, [.slot 4], .seq (.region C.bk7) C.cll⟩
def C.q8_W := aI @C.bk8_w (aI @C.cll_w @C.bk7_w)
def C.q8_B := aI @C.bk8_b.eq_1 @C.bk7_b.eq_1

def C.bgl_b : LO := [
 X.m 42 6,
 X.o 43 (.idxAddr 4 (X.s 42) (X.i 0)),
 X.o 44 (.loadN 4 (X.s 43)),
 X.n (.storeN 4 (X.s 4) (X.s 44)),
 X.o 5 (.move (.cst (.bool true)))]
def C.bgl : LO := C.bgl_b
def C.bgl_w := pO C.bgl.eq_1
def C.cf4 : ICode := .keep [4, 6] (.seq (.region C.bgl) .ret)
def C.cf4_w := pC C.cf4.eq_1
def C.bgk_b : LO := [
 X.m 30 0,
 X.o 31 (.nilchk (X.s 30)),
 X.o 32 (.fldAddr 1 (X.s 31)),
 X.o 33 (.load1 (X.s 32)),
 X.m 34 1,
 X.m 35 6,
 X.m 36 6,
 X.o 37 (.len (X.s 36)),
 X.m 38 6,
 X.o 39 (.len (X.s 38)),
 X.o 40 (.slice 4 (X.s 35) (some (X.i 1)) (some (X.s 37)) (some (X.s 39))),
 X.o 41 (.idxAddr 1 (X.s 33) (X.s 34)),
 X.n (.store1 (X.s 41) (X.s 40))]
def C.bgk : LO := C.bgk_b
def C.bgk_w := pO C.bgk.eq_1
def C.cf5 : ICode := .keep [0, 1, 4, 6] (.seq (.region C.bgk) C.cf4)
def C.cf5_w := pC C.cf5.eq_1
def C.bgj_b : LO := [
 X.m 23 0,
 X.o 24 (.nilchk (X.s 23)),
 X.o 25 (.fldAddr 1 (X.s 24)),
 X.o 26 (.load1 (X.s 25)),
 X.m 27 1,
 X.o 28 (.idxAddr 1 (X.s 26) (X.s 27)),
 X.o 29 (.load1 (X.s 28)),
 X.m 6 29]
def C.bgj : LO := C.bgj_b
def C.bgj_w := pO C.bgj.eq_1
def C.cf6 : ICode := .keep [0, 1, 4] (.seq (.region C.bgj) C.cf5)
def C.cf6_w := pC C.cf6.eq_1
def C.bgh_b : LO := [
 X.o 22 (.build [.int .i64 0, .bool false, .int .i64 0, .int .u32 0] []),
 X.n (.storeN 4 (X.s 4) (X.s 22)),
 X.o 5 (.move (.cst (.bool false)))]
def C.bgh : LO := C.bgh_b
def C.bgh_w := pO C.bgh.eq_1
def C.cf7 : ICode := .seq (.region C.bgh) .ret
def C.cf7_w := pC C.cf7.eq_1
def C.cf8 : ICode := .keep [0, 1, 4, 21] (.cond (X.s 21) C.cf7 .skip)
def C.cf8_w := pC C.cf8.eq_1
def C.bgg_b : LO := [
 X.m 7 0,
 X.m 8 1,
 X.o 9 (.call F.q8 [X.s 7, X.s 8]),
 X.o 10 (.un .not (X.s 9)),
 X.m 11 10,
 X.f 11 12 (.move (X.s 0)),
 X.f 11 13 (.nilchk (X.s 12)),
 X.f 11 14 (.fldAddr 1 (X.s 13)),
 X.f 11 15 (.load1 (X.s 14)),
 X.f 11 16 (.move (X.s 1)),
 X.f 11 17 (.idxAddr 1 (X.s 15) (X.s 16)),
 X.f 11 18 (.load1 (X.s 17)),
 X.f 11 19 (.len (X.s 18)),
 X.f 11 20 (.bin .eql (X.s 19) (X.i 0)),
 X.o 21 (.pick (X.s 11) (.cst (.bool true)) (X.s 20))]
def C.bgg : LO := C.bgg_b
def C.bgg_w := pO C.bgg.eq_1
def C.cf9 : ICode := .keep [0, 1, 4] (.seq (.seq (.region C.bgg) C.cf8) C.cf6)
def C.cf9_w := pC C.cf9.eq_1
def C.c5_b : LO := [
 X.o 4 (.alloc [.int .i64 0, .bool false, .int .i64 0, .int .u32 0]),
 X.o 5 (.move (.cst (.bool false)))]
def C.c5 : LO := C.c5_b
def C.c5_w := pO C.c5.eq_1
def C.q6 : IFunc := ⟨2, [.cellN 4 4, .slot 5], .seq (.region C.c5) C.cf9⟩
def C.q6_W := aI (aI (aI @C.bgl_w (aI @C.cf4_w @C.bgk_w)) (aI @C.cf5_w (aI @C.bgj_w @C.cf6_w))) (aI (aI @C.bgh_w (aI @C.cf7_w @C.cf8_w)) (aI @C.bgg_w (aI @C.cf9_w @C.c5_w)))
def C.q6_B := aI (aI @C.bgl_b.eq_1 (aI @C.bgk_b.eq_1 @C.bgj_b.eq_1)) (aI @C.bgh_b.eq_1 (aI @C.bgg_b.eq_1 @C.c5_b.eq_1))

def C.s5_b : LO := [
 X.m 14 0,
 X.o 15 (.nilchk (X.s 14)),
 X.o 16 (.fldAddr 1 (X.s 15)),
 X.o 17 (.load1 (X.s 16)),
 X.m 18 1,
 X.o 19 (.idxAddr 1 (X.s 17) (X.s 18)),
 X.o 20 (.load1 (X.s 19)),
 X.m 4 20,
 X.o 5 (.move (X.i 0))]
def C.s5 : LO := C.s5_b
def C.s5_w := pO C.s5.eq_1
def C.b45 : ICode := .keep [0, 1] (.seq (.region C.s5) .ret)
def C.b45_w := pC C.b45.eq_1
def C.s4_b : LO := [
 X.o 4 (.move (.cst (.int .u32 0))),
 X.o 5 (.move (X.i 4))]
def C.s4 : LO := C.s4_b
def C.s4_w := pO C.s4.eq_1
def C.b46 : ICode := .seq (.region C.s4) .ret
def C.b46_w := pC C.b46.eq_1
def C.b47 : ICode := .keep [0, 1, 13] (.cond (X.s 13) C.b46 .skip)
def C.b47_w := pC C.b47.eq_1
def C.s3_b : LO := [
 X.m 6 1,
 X.o 7 (.bin .lss (X.s 6) (X.i 0)),
 X.m 8 7,
 X.f 8 9 (.move (X.s 1)),
 X.f 8 10 (.move (X.s 0)),
 X.f 8 11 (.call F.q109 [X.s 10]),
 X.f 8 12 (.bin .geq (X.s 9) (X.s 11)),
 X.o 13 (.pick (X.s 8) (.cst (.bool true)) (X.s 12))]
def C.s3 : LO := C.s3_b
def C.s3_w := pO C.s3.eq_1
def C.b48 : ICode := .keep [0, 1] (.seq (.seq (.region C.s3) C.b47) C.b45)
def C.b48_w := pC C.b48.eq_1
def C.s2_b : LO := [
 X.o 4 (.move (.cst (.int .u32 0))),
 X.o 5 (.move (X.i 0))]
def C.s2 : LO := C.s2_b
def C.s2_w := pO C.s2.eq_1
def C.q110 : IFunc := ⟨2, [.slot 4, .slot 5], .seq (.region C.s2) C.b48⟩
def C.q110_W := aI (aI (aI @C.s5_w @C.b45_w) (aI @C.s4_w @C.b46_w)) (aI (aI @C.b47_w @C.s3_w) (aI @C.b48_w @C.s2_w))
def C.q110_B := aI (aI @C.s5_b.eq_1 @C.s4_b.eq_1) (aI @C.s3_b.eq_1 @C.s2_b.eq_1)

def C.tt_b : LO := [
 X.o 6 (.move (X.i 0))]
def C.tt : LO := C.tt_b
def C.tt_w := pO C.tt.eq_1
def C.b5r : ICode := .keep [] (.seq (.region C.tt) .ret)
def C.b5r_w := pC C.b5r.eq_1
def C.ts_b : LO := [
 X.m 15 0,
 X.o 16 (.nilchk (X.s 15)),
 X.o 17 (.fldAddr 1 (X.s 16)),
 X.o 18 (.load1 (X.s 17)),
 X.m 19 1,
 X.m 20 2,
 X.o 21 (.idxAddr 1 (X.s 18) (X.s 19)),
 X.n (.store1 (X.s 21) (X.s 20))]
def C.ts : LO := C.ts_b
def C.ts_w := pO C.ts.eq_1
def C.b5s : ICode := .keep [0, 1, 2] (.seq (.region C.ts) C.b5r)
def C.b5s_w := pC C.b5s.eq_1
def C.tr_b : LO := [
 X.o 6 (.move (X.i 4))]
def C.tr : LO := C.tr_b
def C.tr_w := pO C.tr.eq_1
def C.b5t : ICode := .seq (.region C.tr) .ret
def C.b5t_w := pC C.b5t.eq_1
def C.b5v : ICode := .keep [0, 1, 2, 14] (.cond (X.s 14) C.b5t .skip)
def C.b5v_w := pC C.b5v.eq_1
def C.tp_b : LO := [
 X.m 7 1,
 X.o 8 (.bin .lss (X.s 7) (X.i 0)),
 X.m 9 8,
 X.f 9 10 (.move (X.s 1)),
 X.f 9 11 (.move (X.s 0)),
 X.f 9 12 (.call F.q109 [X.s 11]),
 X.f 9 13 (.bin .geq (X.s 10) (X.s 12)),
 X.o 14 (.pick (X.s 9) (.cst (.bool true)) (X.s 13))]
def C.tp : LO := C.tp_b
def C.tp_w := pO C.tp.eq_1
def C.b5w : ICode := .keep [0, 1, 2] (.seq (.seq (.region C.tp) C.b5v) C.b5s)
def C.b5w_w := pC C.b5w.eq_1
def C.tn_b : LO := [
 X.o 6 (.move (X.i 0))]
def C.tn : LO := C.tn_b
def C.tn_w := pO C.tn.eq_1
def C.q115 : IFunc := ⟨3, [.slot 6], .seq (.region C.tn) C.b5w⟩
def C.q115_W := aI (aI (aI @C.tt_w @C.b5r_w) (aI @C.ts_w (aI @C.b5s_w @C.tr_w))) (aI (aI @C.b5t_w @C.b5v_w) (aI @C.tp_w (aI @C.b5w_w @C.tn_w)))
def C.q115_B := aI (aI @C.tt_b.eq_1 @C.ts_b.eq_1) (aI @C.tr_b.eq_1 (aI @C.tp_b.eq_1 @C.tn_b.eq_1))

def C.yr_b : LO := [
 X.m 19 5,
 X.o 20 (.nilchk (X.s 19)),
 X.o 21 (.fldAddr 0 (X.s 20)),
 X.o 22 (.fldAddr 1 (X.s 21)),
 X.o 23 (.load1 (X.s 22)),
 X.m 24 5,
 X.o 25 (.nilchk (X.s 24)),
 X.o 26 (.fldAddr 8 (X.s 25)),
 X.o 27 (.load1 (X.s 26)),
 X.o 28 (.idxAddr 1 (X.s 23) (X.s 27)),
 X.o 29 (.load1 (X.s 28)),
 X.m 4 29]
def C.yr : LO := C.yr_b
def C.yr_w := pO C.yr.eq_1
def C.b9h : ICode := .keep [5] (.seq (.region C.yr) .ret)
def C.b9h_w := pC C.b9h.eq_1
def C.yp_b : LO := [
 X.o 4 (.move (X.i (-1)))]
def C.yp : LO := C.yp_b
def C.yp_w := pO C.yp.eq_1
def C.b9j : ICode := .seq (.region C.yp) .ret
def C.b9j_w := pC C.b9j.eq_1
def C.b9k : ICode := .keep [5, 18] (.cond (X.s 18) C.b9j .skip)
def C.b9k_w := pC C.b9k.eq_1
def C.yn_b : LO := [
 X.m 12 5,
 X.o 13 (.nilchk (X.s 12)),
 X.o 14 (.fldAddr 0 (X.s 13)),
 X.o 15 (.fldAddr 1 (X.s 14)),
 X.o 16 (.load1 (X.s 15)),
 X.o 17 (.len (X.s 16)),
 X.o 18 (.bin .eql (X.s 17) (X.i 0))]
def C.yn : LO := C.yn_b
def C.yn_w := pO C.yn.eq_1
def C.b9l : ICode := .keep [5] (.seq (.seq (.region C.yn) C.b9k) C.b9h)
def C.b9l_w := pC C.b9l.eq_1
def C.ym_b : LO := [
 X.m 6 0,
 X.o 7 (.nilchk (X.s 6)),
 X.o 8 (.fldAddr 0 (X.s 7)),
 X.o 9 (.load1 (X.s 8)),
 X.m 10 1,
 X.o 11 (.idxAddr 11 (X.s 9) (X.s 10)),
 X.m 5 11]
def C.ym : LO := C.ym_b
def C.ym_w := pO C.ym.eq_1
def C.b9m : ICode := .keep [0, 1] (.seq (.region C.ym) C.b9l)
def C.b9m_w := pC C.b9m.eq_1
def C.yl_b : LO := [
 X.o 4 (.move (X.i 0))]
def C.yl : LO := C.yl_b
def C.yl_w := pO C.yl.eq_1
def C.q24 : IFunc := ⟨2, [.slot 4], .seq (.region C.yl) C.b9m⟩
def C.q24_W := aI (aI (aI @C.yr_w @C.b9h_w) (aI @C.yp_w (aI @C.b9j_w @C.b9k_w))) (aI (aI @C.yn_w @C.b9l_w) (aI @C.ym_w (aI @C.b9m_w @C.yl_w)))
def C.q24_B := aI (aI @C.yr_b.eq_1 @C.yp_b.eq_1) (aI @C.yn_b.eq_1 (aI @C.ym_b.eq_1 @C.yl_b.eq_1))

def C.ry_b : LO := [
 X.o 2 (.move (.cst (.int .u8 0)))]
def C.ry : LO := C.ry_b
def C.ry_w := pO C.ry.eq_1
def C.b3h : ICode := .keep [] (.seq (.region C.ry) .ret)
def C.b3h_w := pC C.b3h.eq_1
def C.r5_b : LO := [
 X.o 2 (.move (.cst (.int .u8 110)))]
def C.r5 : LO := C.r5_b
def C.r5_w := pO C.r5.eq_1
def C.b3w : ICode := .keep [] (.seq (.region C.r5) .ret)
def C.b3w_w := pC C.b3w.eq_1
def C.r4_b : LO := [
 X.o 2 (.move (.cst (.int .u8 114)))]
def C.r4 : LO := C.r4_b
def C.r4_w := pO C.r4.eq_1
def C.b32 : ICode := .seq (.region C.r4) .ret
def C.b32_w := pC C.b32.eq_1
def C.b33 : ICode := .keep [27] (.cond (X.s 27) C.b32 .skip)
def C.b33_w := pC C.b33.eq_1
def C.r3_b : LO := [
 X.m 24 0,
 X.o 25 (.nilchk (X.s 24)),
 X.o 26 (.fldAddr 5 (X.s 25)),
 X.o 27 (.load1 (X.s 26))]
def C.r3 : LO := C.r3_b
def C.r3_w := pO C.r3.eq_1
def C.b34 : ICode := .keep [0] (.seq (.seq (.region C.r3) C.b33) C.b3w)
def C.b34_w := pC C.b34.eq_1
def C.r2_b : LO := [
 X.m 21 0,
 X.o 22 (.nilchk (X.s 21)),
 X.o 23 (.fldAddr 3 (X.s 22)),
 X.n (.store1 (X.s 23) (.cst (.int .u8 104)))]
def C.r2 : LO := C.r2_b
def C.r2_w := pO C.r2.eq_1
def C.b35 : ICode := .keep [0] (.seq (.region C.r2) C.b34)
def C.b35_w := pC C.b35.eq_1
def C.r1_b : LO := [
 X.o 2 (.move (.cst (.int .u8 0)))]
def C.r1 : LO := C.r1_b
def C.r1_w := pO C.r1.eq_1
def C.b36 : ICode := .keep [] (.seq (.region C.r1) .ret)
def C.b36_w := pC C.b36.eq_1
def C.r0_b : LO := [
 X.m 14 0,
 X.o 15 (.nilchk (X.s 14)),
 X.o 16 (.fldAddr 4 (X.s 15)),
 X.o 17 (.load1 (X.s 16)),
 X.o 18 (.bin .sub (X.s 17) (X.i 1)),
 X.o 19 (.nilchk (X.s 14)),
 X.o 20 (.fldAddr 4 (X.s 19)),
 X.n (.store1 (X.s 20) (X.s 18))]
def C.r0 : LO := C.r0_b
def C.r0_w := pO C.r0.eq_1
def C.b37 : ICode := .seq (.region C.r0) C.b36
def C.b37_w := pC C.b37.eq_1
def C.b38 : ICode := .keep [0, 13] (.cond (X.s 13) C.b37 .skip)
def C.b38_w := pC C.b38.eq_1
def C.rz_b : LO := [
 X.m 9 0,
 X.o 10 (.nilchk (X.s 9)),
 X.o 11 (.fldAddr 4 (X.s 10)),
 X.o 12 (.load1 (X.s 11)),
 X.o 13 (.bin .gtr (X.s 12) (X.i 0))]
def C.rz : LO := C.rz_b
def C.rz_w := pO C.rz.eq_1
def C.rp_b : LO := [
 X.o 2 (.move (.cst (.int .u8 111)))]
def C.rp : LO := C.rp_b
def C.rp_w := pO C.rp.eq_1
def C.b3j : ICode := .keep [] (.seq (.region C.rp) .ret)
def C.b3j_w := pC C.b3j.eq_1
def C.rn_b : LO := [
 X.m 30 0,
 X.o 31 (.nilchk (X.s 30)),
 X.o 32 (.fldAddr 3 (X.s 31)),
 X.n (.store1 (X.s 32) (.cst (.int .u8 49)))]
def C.rn : LO := C.rn_b
def C.rn_w := pO C.rn.eq_1
def C.rx_b : LO := [
 X.o 2 (.move (.cst (.int .u8 108)))]
def C.rx : LO := C.rx_b
def C.rx_w := pO C.rx.eq_1
def C.b3k : ICode := .keep [] (.seq (.region C.rx) .ret)
def C.b3k_w := pC C.b3k.eq_1
def C.rw_b : LO := [
 X.m 42 0,
 X.o 43 (.nilchk (X.s 42)),
 X.o 44 (.fldAddr 3 (X.s 43)),
 X.n (.store1 (X.s 44) (.cst (.int .u8 48)))]
def C.rw : LO := C.rw_b
def C.rw_w := pO C.rw.eq_1
def C.b3l : ICode := .keep [0] (.seq (.region C.rw) C.b3k)
def C.b3l_w := pC C.b3l.eq_1
def C.rv_b : LO := [
 X.o 2 (.move (.cst (.int .u8 115)))]
def C.rv : LO := C.rv_b
def C.rv_w := pO C.rv.eq_1
def C.b3m : ICode := .keep [] (.seq (.region C.rv) .ret)
def C.b3m_w := pC C.b3m.eq_1
def C.rt_b : LO := [
 X.m 39 0,
 X.o 40 (.nilchk (X.s 39)),
 X.o 41 (.fldAddr 3 (X.s 40)),
 X.n (.store1 (X.s 41) (.cst (.int .u8 116)))]
def C.rt : LO := C.rt_b
def C.rt_w := pO C.rt.eq_1
def C.b3n : ICode := .seq (.region C.rt) C.b3m
def C.b3n_w := pC C.b3n.eq_1
def C.b3p : ICode := .keep [0, 38] (.cond (X.s 38) C.b3n .skip)
def C.b3p_w := pC C.b3p.eq_1
def C.rs_b : LO := [
 X.m 35 0,
 X.o 36 (.nilchk (X.s 35)),
 X.o 37 (.fldAddr 6 (X.s 36)),
 X.o 38 (.load1 (X.s 37))]
def C.rs : LO := C.rs_b
def C.rs_w := pO C.rs.eq_1
def C.b3r : ICode := .seq (.seq (.region C.rs) C.b3p) C.b3l
def C.b3r_w := pC C.b3r.eq_1
def C.b3s : ICode := .keep [0, 33] (.cond (X.s 33) C.b3r .skip)
def C.b3s_w := pC C.b3s.eq_1
def C.rr_b : LO := [
 X.o 34 (.bin .eql (X.s 6) (.cst (.int .u8 99))),
 X.m 33 34]
def C.rr : LO := C.rr_b
def C.rr_w := pO C.rr.eq_1
def C.b3t : ICode := .seq (.region C.rn) C.b3j
def C.b3t_w := pC C.b3t.eq_1
def C.b3v : ICode := .seq (.region C.rr) C.b3s
def C.b3v_w := pC C.b3v.eq_1
def C.b3x : ICode := .keep [0, 6, 28] (.cond (X.s 28) C.b3t C.b3v)
def C.b3x_w := pC C.b3x.eq_1
def C.rm_b : LO := [
 X.o 29 (.bin .eql (X.s 6) (.cst (.int .u8 104))),
 X.m 28 29]
def C.rm : LO := C.rm_b
def C.rm_w := pO C.rm.eq_1
def C.b3y : ICode := .seq (.seq (.region C.rz) C.b38) C.b35
def C.b3y_w := pC C.b3y.eq_1
def C.b3q : ICode := .seq (.region C.rm) C.b3x
def C.b3q_w := pC C.b3q.eq_1
def C.b3z : ICode := .keep [0, 6, 7] (.cond (X.s 7) C.b3y C.b3q)
def C.b3z_w := pC C.b3z.eq_1
def C.rq_b : LO := [
 X.o 8 (.bin .eql (X.s 6) (.cst (.int .u8 114))),
 X.m 7 8]
def C.rq : LO := C.rq_b
def C.rq_w := pO C.rq.eq_1
def C.b3g : ICode := .seq (.region C.rq) C.b3z
def C.b3g_w := pC C.b3g.eq_1
def C.b30 : ICode := .keep [0, 6] (.block 0 C.b3g)
def C.b30_w := pC C.b30.eq_1
def C.rl_b : LO := [
 X.m 3 0,
 X.o 4 (.nilchk (X.s 3)),
 X.o 5 (.fldAddr 3 (X.s 4)),
 X.o 6 (.load1 (X.s 5))]
def C.rl : LO := C.rl_b
def C.rl_w := pO C.rl.eq_1
def C.b31 : ICode := .keep [0] (.seq (.seq (.region C.rl) C.b30) C.b3h)
def C.b31_w := pC C.b31.eq_1
def C.rk_b : LO := [
 X.o 2 (.move (.cst (.int .u8 0)))]
def C.rk : LO := C.rk_b
def C.rk_w := pO C.rk.eq_1
def C.q103 : IFunc := ⟨1, [.slot 2], .seq (.region C.rk) C.b31⟩
def C.q103_W := aI (aI (aI (aI (aI @C.ry_w @C.b3h_w) (aI @C.r5_w (aI @C.b3w_w @C.r4_w))) (aI (aI @C.b32_w (aI @C.b33_w @C.r3_w)) (aI @C.b34_w (aI @C.r2_w @C.b35_w)))) (aI (aI (aI @C.r1_w (aI @C.b36_w @C.r0_w)) (aI @C.b37_w (aI @C.b38_w @C.rz_w))) (aI (aI @C.rp_w (aI @C.b3j_w @C.rn_w)) (aI @C.rx_w (aI @C.b3k_w @C.rw_w))))) (aI (aI (aI (aI @C.b3l_w @C.rv_w) (aI @C.b3m_w (aI @C.rt_w @C.b3n_w))) (aI (aI @C.b3p_w (aI @C.rs_w @C.b3r_w)) (aI @C.b3s_w (aI @C.rr_w @C.b3t_w)))) (aI (aI (aI @C.b3v_w (aI @C.b3x_w @C.rm_w)) (aI @C.b3y_w (aI @C.b3q_w @C.b3z_w))) (aI (aI @C.rq_w (aI @C.b3g_w @C.b30_w)) (aI @C.rl_w (aI @C.b31_w @C.rk_w)))))
def C.q103_B := aI (aI (aI (aI @C.ry_b.eq_1 @C.r5_b.eq_1) (aI @C.r4_b.eq_1 (aI @C.r3_b.eq_1 @C.r2_b.eq_1))) (aI (aI @C.r1_b.eq_1 @C.r0_b.eq_1) (aI @C.rz_b.eq_1 (aI @C.rp_b.eq_1 @C.rn_b.eq_1)))) (aI (aI (aI @C.rx_b.eq_1 @C.rw_b.eq_1) (aI @C.rv_b.eq_1 (aI @C.rt_b.eq_1 @C.rs_b.eq_1))) (aI (aI @C.rr_b.eq_1 @C.rm_b.eq_1) (aI @C.rq_b.eq_1 (aI @C.rl_b.eq_1 @C.rk_b.eq_1))))

def C.tj_b : LO := [
 X.o 7 (.load1 (X.s 1)),
 X.o 8 (.nilchk (X.s 7)),
 X.o 9 (.fldAddr 3 (X.s 8)),
 X.n (.store1 (X.s 9) (.cst (.bool true)))]
def C.tj : LO := C.tj_b
def C.tj_w := pO C.tj.eq_1
def C.b5j : ICode := .keep [1] (.region C.tj)
def C.b5j_w := pC C.b5j.eq_1
def C.th_b : LO := [
 X.o 4 (.load1 (X.s 1)),
 X.o 5 (.makeFunc F.q114 [X.s 1]),
 X.o 6 (.call F.q118 [X.s 4, X.s 5])]
def C.th : LO := C.th_b
def C.th_w := pO C.th.eq_1
def C.b5k : ICode := .keep [1] (.seq (.region C.th) C.b5j)
def C.b5k_w := pC C.b5k.eq_1
def C.b5l : ICode := .keep [1, 3] (.cond (X.s 3) .ret .skip)
def C.b5l_w := pC C.b5l.eq_1
def C.tg_b : LO := [
 X.o 2 (.load1 (X.s 1)),
 X.o 3 (.eqP 0 false (X.s 2) (.cst (.nilp)))]
def C.tg : LO := C.tg_b
def C.tg_w := pO C.tg.eq_1
def C.b5m : ICode := .keep [1] (.seq (.seq (.region C.tg) C.b5l) C.b5k)
def C.b5m_w := pC C.b5m.eq_1
def C.tf_b : LO := [
 X.o 1 (.box1 (X.s 0))]
def C.tf : LO := C.tf_b
def C.tf_w := pO C.tf.eq_1
def C.q113 : IFunc := ⟨1, [], .seq (.region C.tf) C.b5m⟩
def C.q113_W := aI (aI (aI @C.tj_w @C.b5j_w) (aI @C.th_w @C.b5k_w)) (aI (aI @C.b5l_w @C.tg_w) (aI @C.b5m_w @C.tf_w))
def C.q113_B := aI (aI @C.tj_b.eq_1 @C.th_b.eq_1) (aI @C.tg_b.eq_1 @C.tf_b.eq_1)

def C.s8_b : LO := [
 X.o 4 (.load1 (X.s 1)),
 X.o 5 (.makeFunc F.q112 [X.s 1]),
 X.o 6 (.call F.q116 [X.s 4, X.s 5])]
def C.s8 : LO := C.s8_b
def C.s8_w := pO C.s8.eq_1
def C.b49 : ICode := .keep [1] (.region C.s8)
def C.b49_w := pC C.b49.eq_1
def C.b5b : ICode := .keep [1, 3] (.cond (X.s 3) .ret .skip)
def C.b5b_w := pC C.b5b.eq_1
def C.s7_b : LO := [
 X.o 2 (.load1 (X.s 1)),
 X.o 3 (.eqP 0 false (X.s 2) (.cst (.nilp)))]
def C.s7 : LO := C.s7_b
def C.s7_w := pO C.s7.eq_1
def C.b5c : ICode := .keep [1] (.seq (.seq (.region C.s7) C.b5b) C.b49)
def C.b5c_w := pC C.b5c.eq_1
def C.s6_b : LO := [
 X.o 1 (.box1 (X.s 0))]
def C.s6 : LO := C.s6_b
def C.s6_w := pO C.s6.eq_1
def C.q111 : IFunc := ⟨1, [], .seq (.region C.s6) C.b5c⟩
def C.q111_W := aI (aI @C.s8_w (aI @C.b49_w @C.b5b_w)) (aI @C.s7_w (aI @C.b5c_w @C.s6_w))
def C.q111_B := aI @C.s8_b.eq_1 (aI @C.s7_b.eq_1 @C.s6_b.eq_1)

def C.yk_b : LO := [
 X.m 20 0,
 X.o 21 (.nilchk (X.s 20)),
 X.o 22 (.fldAddr 0 (X.s 21)),
 X.o 23 (.load1 (X.s 22)),
 X.m 24 1,
 X.o 25 (.idxAddr 11 (X.s 23) (X.s 24)),
 X.m 4 25]
def C.yk : LO := C.yk_b
def C.yk_w := pO C.yk.eq_1
def C.b9c : ICode := .keep [0, 1] (.seq (.region C.yk) .ret)
def C.b9c_w := pC C.b9c.eq_1
def C.yj_b : LO := [
 X.o 4 (.move (.cst (.nilp)))]
def C.yj : LO := C.yj_b
def C.yj_w := pO C.yj.eq_1
def C.b9d : ICode := .seq (.region C.yj) .ret
def C.b9d_w := pC C.b9d.eq_1
def C.b9f : ICode := .keep [0, 1, 19] (.cond (X.s 19) C.b9d .skip)
def C.b9f_w := pC C.b9f.eq_1
def C.yh_b : LO := [
 X.m 5 0,
 X.o 6 (.eqP 0 false (X.s 5) (.cst (.nilp))),
 X.m 7 6,
 X.f 7 8 (.move (X.s 1)),
 X.f 7 9 (.bin .lss (X.s 8) (X.i 0)),
 X.o 10 (.pick (X.s 7) (.cst (.bool true)) (X.s 9)),
 X.m 11 10,
 X.f 11 12 (.move (X.s 1)),
 X.f 11 13 (.move (X.s 0)),
 X.f 11 14 (.nilchk (X.s 13)),
 X.f 11 15 (.fldAddr 0 (X.s 14)),
 X.f 11 16 (.load1 (X.s 15)),
 X.f 11 17 (.len (X.s 16)),
 X.f 11 18 (.bin .geq (X.s 12) (X.s 17)),
 X.o 19 (.pick (X.s 11) (.cst (.bool true)) (X.s 18))]
def C.yh : LO := C.yh_b
def C.yh_w := pO C.yh.eq_1
def C.b9g : ICode := .keep [0, 1] (.seq (.seq (.region C.yh) C.b9f) C.b9c)
def C.b9g_w := pC C.b9g.eq_1
def C.yg_b : LO := [
 X.o 4 (.move (.cst (.nilp)))]
def C.yg : LO := C.yg_b
def C.yg_w := pO C.yg.eq_1
def C.q23 : IFunc := ⟨2, [.slot 4], .seq (.region C.yg) C.b9g⟩
def C.q23_W := aI (aI (aI @C.yk_w @C.b9c_w) (aI @C.yj_w @C.b9d_w)) (aI (aI @C.b9f_w @C.yh_w) (aI @C.b9g_w @C.yg_w))
def C.q23_B := aI (aI @C.yk_b.eq_1 @C.yj_b.eq_1) (aI @C.yh_b.eq_1 @C.yg_b.eq_1)

def C.v6_b : LO := [
 X.m 10 2,
 X.o 11 (.bin .add (X.s 10) (X.i 1)),
 X.m 12 3,
 X.o 13 (.bin .sub (X.s 12) (X.i 1)),
 X.m 2 11,
 X.m 3 13]
def C.v6 : LO := C.v6_b
def C.v6_w := pO C.v6.eq_1
def C.b7b : ICode := .keep [0, 2, 3] (.region C.v6)
def C.b7b_w := pC C.b7b.eq_1
def C.v7_b : LO := [
 X.m 14 0,
 X.m 15 2,
 X.m 16 0,
 X.m 17 3,
 X.m 18 0,
 X.m 19 3,
 X.o 20 (.idxAddr 1 (X.s 18) (X.s 19)),
 X.o 21 (.load1 (X.s 20)),
 X.m 22 0,
 X.m 23 2,
 X.o 24 (.idxAddr 1 (X.s 22) (X.s 23)),
 X.o 25 (.load1 (X.s 24)),
 X.o 26 (.idxAddr 1 (X.s 14) (X.s 15)),
 X.n (.store1 (X.s 26) (X.s 21)),
 X.o 27 (.idxAddr 1 (X.s 16) (X.s 17)),
 X.n (.store1 (X.s 27) (X.s 25))]
def C.v7 : LO := C.v7_b
def C.v7_w := pO C.v7.eq_1
def C.b68 : ICode := .region C.v7
def C.b68_w := pC C.b68.eq_1
def C.b7c : ICode := .keep [0, 2, 3] (.seq (.block 1 C.b68) C.b7b)
def C.b7c_w := pC C.b7c.eq_1
def C.b7d : ICode := .keep [0, 2, 3, 9] (.cond (X.s 9) .skip (.exit 0))
def C.b7d_w := pC C.b7d.eq_1
def C.v5_b : LO := [
 X.m 7 2,
 X.m 8 3,
 X.o 9 (.bin .lss (X.s 7) (X.s 8))]
def C.v5 : LO := C.v5_b
def C.v5_w := pO C.v5.eq_1
def C.cm7 : ICode := .keep [0, 2, 3] (.seq (.seq (.region C.v5) C.b7d) C.b7c)
def C.cm7_w := pC C.cm7.eq_1
def C.b69 : ICode := .loop C.cm7
def C.b69_w := pC C.b69.eq_1
def C.b7f : ICode := .keep [0, 2, 3] (.block 0 C.b69)
def C.b7f_w := pC C.b7f.eq_1
def C.v4_b : LO := [
 X.m 4 0,
 X.o 5 (.len (X.s 4)),
 X.o 6 (.bin .sub (X.s 5) (X.i 1)),
 X.o 2 (.move (X.i 0)),
 X.m 3 6]
def C.v4 : LO := C.v4_b
def C.v4_w := pO C.v4.eq_1
def C.q127 : IFunc := ⟨1, [], .seq (.region C.v4) C.b7f⟩
def C.q127_W := aI (aI (aI @C.v6_w @C.b7b_w) (aI @C.v7_w (aI @C.b68_w @C.b7c_w))) (aI (aI @C.b7d_w @C.v5_w) (aI @C.b69_w (aI @C.b7f_w @C.v4_w)))
def C.q127_B := aI (aI @C.v6_b.eq_1 @C.v7_b.eq_1) (aI @C.v5_b.eq_1 @C.v4_b.eq_1)

def C.yb_b : LO := [
 X.o 52 (.load1 (X.s 2)),
 X.o 53 (.load1 (X.s 1)),
 X.m 54 0,
 ⟨some 55, .call F.q24 [X.s 53, X.s 54], none, [⟨.load1 (X.s 2), 52, none⟩], []⟩,
 X.o 56 (.callv (X.s 52) [X.s 55]),
 X.m 4 56]
def C.yb : LO := C.yb_b
def C.yb_w := pO C.yb.eq_1
def C.b8z : ICode := .keep [0, 1, 2] (.seq (.region C.yb) .ret)
def C.b8z_w := pC C.b8z.eq_1
def C.x5_b : LO := [
 X.o 4 (.move (.cst (.bool true)))]
def C.x5 : LO := C.x5_b
def C.x5_w := pO C.x5.eq_1
def C.x7_b : LO := [
 X.m 21 5,
 X.o 22 (.nilchk (X.s 21)),
 X.o 23 (.fldAddr 6 (X.s 22)),
 X.o 24 (.load1 (X.s 23)),
 X.m 25 24,
 X.t 25 26 (.move (X.s 5)),
 X.t 25 27 (.nilchk (X.s 26)),
 X.t 25 28 (.fldAddr 7 (X.s 27)),
 X.t 25 29 (.load1 (X.s 28)),
 X.t 25 30 (.bin .eql (X.s 29) (X.i 0)),
 X.o 31 (.pick (X.s 25) (X.s 30) (.cst (.bool false))),
 X.m 32 31,
 X.t 32 33 (.load1 (X.s 2)),
 X.t 32 34 (.load1 (X.s 1)),
 X.t 32 35 (.move (X.s 0)),
 ⟨some 36, .call F.q24 [X.s 34, X.s 35], some (32, true), [⟨.load1 (X.s 2), 33, some (32, true)⟩], []⟩,
 X.t 32 37 (.callv (X.s 33) [X.s 36]),
 X.o 38 (.pick (X.s 32) (X.s 37) (.cst (.bool false))),
 X.m 4 38]
def C.x7 : LO := C.x7_b
def C.x7_w := pO C.x7.eq_1
def C.x9_b : LO := [
 X.m 41 5,
 X.o 42 (.nilchk (X.s 41)),
 X.o 43 (.fldAddr 6 (X.s 42)),
 X.o 44 (.load1 (X.s 43)),
 X.m 45 44,
 X.t 45 46 (.load1 (X.s 2)),
 X.t 45 47 (.load1 (X.s 1)),
 X.t 45 48 (.move (X.s 0)),
 ⟨some 49, .call F.q24 [X.s 47, X.s 48], some (45, true), [⟨.load1 (X.s 2), 46, some (45, true)⟩], []⟩,
 X.t 45 50 (.callv (X.s 46) [X.s 49]),
 X.o 51 (.pick (X.s 45) (X.s 50) (.cst (.bool false))),
 X.m 4 51]
def C.x9 : LO := C.x9_b
def C.x9_w := pO C.x9.eq_1
def C.b83 : ICode := .seq (.region C.x9) .ret
def C.b83_w := pC C.b83.eq_1
def C.b84 : ICode := .keep [0, 1, 2, 5, 39] (.cond (X.s 39) C.b83 .skip)
def C.b84_w := pC C.b84.eq_1
def C.x8_b : LO := [
 X.o 40 (.bin .eql (X.s 16) (.cst (.int .u8 103))),
 X.m 39 40]
def C.x8 : LO := C.x8_b
def C.x8_w := pO C.x8.eq_1
def C.b85 : ICode := .seq (.region C.x7) .ret
def C.b85_w := pC C.b85.eq_1
def C.b86 : ICode := .seq (.region C.x8) C.b84
def C.b86_w := pC C.b86.eq_1
def C.b87 : ICode := .keep [0, 1, 2, 5, 16, 19] (.cond (X.s 19) C.b85 C.b86)
def C.b87_w := pC C.b87.eq_1
def C.x6_b : LO := [
 X.o 20 (.bin .eql (X.s 16) (.cst (.int .u8 112))),
 X.m 19 20]
def C.x6 : LO := C.x6_b
def C.x6_w := pO C.x6.eq_1
def C.b88 : ICode := .seq (.region C.x5) .ret
def C.b88_w := pC C.b88.eq_1
def C.b89 : ICode := .seq (.region C.x6) C.b87
def C.b89_w := pC C.b89.eq_1
def C.b9b : ICode := .keep [0, 1, 2, 5, 16, 17] (.cond (X.s 17) C.b88 C.b89)
def C.b9b_w := pC C.b9b.eq_1
def C.x4_b : LO := [
 X.o 18 (.bin .eql (X.s 16) (.cst (.int .u8 111))),
 X.m 17 18]
def C.x4 : LO := C.x4_b
def C.x4_w := pO C.x4.eq_1
def C.b8q : ICode := .seq (.region C.x4) C.b9b
def C.b8q_w := pC C.b8q.eq_1
def C.b80 : ICode := .keep [0, 1, 2, 5, 16] (.block 0 C.b8q)
def C.b80_w := pC C.b80.eq_1
def C.x3_b : LO := [
 X.m 12 5,
 X.o 13 (.nilchk (X.s 12)),
 X.o 14 (.fldAddr 0 (X.s 13)),
 X.o 15 (.fldAddr 0 (X.s 14)),
 X.o 16 (.load1 (X.s 15))]
def C.x3 : LO := C.x3_b
def C.x3_w := pO C.x3.eq_1
def C.b81 : ICode := .keep [0, 1, 2, 5] (.seq (.seq (.region C.x3) C.b80) C.b8z)
def C.b81_w := pC C.b81.eq_1
def C.x2_b : LO := [
 X.o 6 (.load1 (X.s 1)),
 X.o 7 (.nilchk (X.s 6)),
 X.o 8 (.fldAddr 0 (X.s 7)),
 X.o 9 (.load1 (X.s 8)),
 X.m 10 0,
 X.o 11 (.idxAddr 11 (X.s 9) (X.s 10)),
 X.m 5 11]
def C.x2 : LO := C.x2_b
def C.x2_w := pO C.x2.eq_1
def C.b82 : ICode := .keep [0, 1, 2] (.seq (.region C.x2) C.b81)
def C.b82_w := pC C.b82.eq_1
def C.x1_b : LO := [
 X.o 4 (.move (.cst (.bool false)))]
def C.x1 : LO := C.x1_b
def C.x1_w := pO C.x1.eq_1
def C.q21 : IFunc := ⟨3, [.slot 4], .seq (.region C.x1) C.b82⟩
def C.q21_W := aI (aI (aI (aI @C.yb_w @C.b8z_w) (aI @C.x5_w (aI @C.x7_w @C.x9_w))) (aI (aI @C.b83_w (aI @C.b84_w @C.x8_w)) (aI @C.b85_w (aI @C.b86_w @C.b87_w)))) (aI (aI (aI @C.x6_w (aI @C.b88_w @C.b89_w)) (aI @C.b9b_w (aI @C.x4_w @C.b8q_w))) (aI (aI @C.b80_w (aI @C.x3_w @C.b81_w)) (aI @C.x2_w (aI @C.b82_w @C.x1_w))))
def C.q21_B := aI (aI (aI @C.yb_b.eq_1 @C.x5_b.eq_1) (aI @C.x7_b.eq_1 (aI @C.x9_b.eq_1 @C.x8_b.eq_1))) (aI (aI @C.x6_b.eq_1 @C.x4_b.eq_1) (aI @C.x3_b.eq_1 (aI @C.x2_b.eq_1 @C.x1_b.eq_1)))

def C.rf_b : LO := [
 X.m 20 0,
 X.o 21 (.nilchk (X.s 20)),
 X.o 22 (.fldAddr 0 (X.s 21)),
 X.o 23 (.load1 (X.s 22)),
 X.m 24 1,
 X.o 25 (.idxAddr 7 (X.s 23) (X.s 24)),
 X.m 4 25]
def C.rf : LO := C.rf_b
def C.rf_w := pO C.rf.eq_1
def C.b28 : ICode := .keep [0, 1] (.seq (.region C.rf) .ret)
def C.b28_w := pC C.b28.eq_1
def C.rd_b : LO := [
 X.o 4 (.move (.cst (.nilp)))]
def C.rd : LO := C.rd_b
def C.rd_w := pO C.rd.eq_1
def C.b29 : ICode := .seq (.region C.rd) .ret
def C.b29_w := pC C.b29.eq_1
def C.b3b : ICode := .keep [0, 1, 19] (.cond (X.s 19) C.b29 .skip)
def C.b3b_w := pC C.b3b.eq_1
def C.rc_b : LO := [
 X.m 5 0,
 X.o 6 (.eqP 0 false (X.s 5) (.cst (.nilp))),
 X.m 7 6,
 X.f 7 8 (.move (X.s 1)),
 X.f 7 9 (.bin .lss (X.s 8) (X.i 0)),
 X.o 10 (.pick (X.s 7) (.cst (.bool true)) (X.s 9)),
 X.m 11 10,
 X.f 11 12 (.move (X.s 1)),
 X.f 11 13 (.move (X.s 0)),
 X.f 11 14 (.nilchk (X.s 13)),
 X.f 11 15 (.fldAddr 0 (X.s 14)),
 X.f 11 16 (.load1 (X.s 15)),
 X.f 11 17 (.len (X.s 16)),
 X.f 11 18 (.bin .geq (X.s 12) (X.s 17)),
 X.o 19 (.pick (X.s 11) (.cst (.bool true)) (X.s 18))]
def C.rc : LO := C.rc_b
def C.rc_w := pO C.rc.eq_1
def C.b3c : ICode := .keep [0, 1] (.seq (.seq (.region C.rc) C.b3b) C.b28)
def C.b3c_w := pC C.b3c.eq_1
def C.rb_b : LO := [
 X.o 4 (.move (.cst (.nilp)))]
def C.rb : LO := C.rb_b
def C.rb_w := pO C.rb.eq_1
def C.q100 : IFunc := ⟨2, [.slot 4], .seq (.region C.rb) C.b3c⟩
def C.q100_W := aI (aI (aI @C.rf_w @C.b28_w) (aI @C.rd_w @C.b29_w)) (aI (aI @C.b3b_w @C.rc_w) (aI @C.b3c_w @C.rb_w))
def C.q100_B := aI (aI @C.rf_b.eq_1 @C.rd_b.eq_1) (aI @C.rc_b.eq_1 @C.rb_b.eq_1)

def C.vq_b : LO := [
 X.o 20 (.loadN 4 (X.s 6)),
 X.m 21 7,
 X.n (.storeN 4 (X.s 4) (X.s 20)),
 X.m 5 21]
def C.vq : LO := C.vq_b
def C.vq_w := pO C.vq.eq_1
def C.vy : ICode := .keep [4, 6, 7] (.seq (.region C.vq) .ret)
def C.vy_w := pC C.vy.eq_1
def C.f4_b : LO := [
 X.m 12 0,
 X.o 13 (.nilchk (X.s 12)),
 X.o 14 (.fldAddr 0 (X.s 13)),
 X.o 15 (.load1 (X.s 14)),
 X.m 16 1,
 X.o 17 (.lookup (.agg [.int .i64 0, .int .i64 0, .bool false, .bool false]) true (X.s 15) (X.s 16)),
 X.m 11 17,
 X.o 18 (.extract (X.s 11) 0),
 X.o 19 (.extract (X.s 11) 1),
 X.o 6 (.alloc [.int .i64 0, .int .i64 0, .bool false, .bool false]),
 X.n (.storeN 4 (X.s 6) (X.s 18)),
 X.m 7 19]
def C.f4 : LO := C.f4_b
def C.f4_w := pO C.f4.eq_1
def C.bpn : ICode := .keep [0, 1, 4] (.seq (.region C.f4) C.vy)
def C.bpn_w := pC C.bpn.eq_1
def C.f3_b : LO := [
 X.o 10 (.build [.int .i64 0, .int .i64 0, .bool false, .bool false] []),
 X.n (.storeN 4 (X.s 4) (X.s 10)),
 X.o 5 (.move (.cst (.bool false)))]
def C.f3 : LO := C.f3_b
def C.f3_w := pO C.f3.eq_1
def C.bpp : ICode := .seq (.region C.f3) .ret
def C.bpp_w := pC C.bpp.eq_1
def C.bpr : ICode := .keep [0, 1, 4, 9] (.cond (X.s 9) C.bpp .skip)
def C.bpr_w := pC C.bpr.eq_1
def C.f2_b : LO := [
 X.m 8 0,
 X.o 9 (.eqP 0 false (X.s 8) (.cst (.nilp)))]
def C.f2 : LO := C.f2_b
def C.f2_w := pO C.f2.eq_1
def C.bps : ICode := .keep [0, 1, 4] (.seq (.seq (.region C.f2) C.bpr) C.bpn)
def C.bps_w := pC C.bps.eq_1
def C.bj_b : LO := [
 X.o 4 (.alloc [.int .i64 0, .int .i64 0, .bool false, .bool false]),
 X.o 5 (.move (.cst (.bool false)))]
def C.bj : LO := C.bj_b
def C.bj_w := pO C.bj.eq_1
def C.q124 : IFunc := ⟨2, [.cellN 4 4, .slot 5], .seq (.region C.bj) C.bps⟩
def C.q124_W := aI (aI (aI @C.vq_w @C.vy_w) (aI @C.f4_w (aI @C.bpn_w @C.f3_w))) (aI (aI @C.bpp_w @C.bpr_w) (aI @C.f2_w (aI @C.bps_w @C.bj_w)))
def C.q124_B := aI (aI @C.vq_b.eq_1 @C.f4_b.eq_1) (aI @C.f3_b.eq_1 (aI @C.f2_b.eq_1 @C.bj_b.eq_1))

def C.bfv_b : LO := [
 X.o 3 (.fldAddr 4 (X.s 1)),
 X.o 4 (.load1 (X.s 3)),
 X.o 5 (.len (X.s 4)),
 X.o 6 (.bin .gtr (X.s 5) (X.i 8)),
 X.m 7 6,
 X.f 7 8 (.fldAddr 5 (X.s 1)),
 X.f 7 9 (.load1 (X.s 8)),
 X.f 7 10 (.len (X.s 9)),
 X.f 7 11 (.bin .gtr (X.s 10) (X.i 6)),
 X.o 12 (.pick (X.s 7) (.cst (.bool true)) (X.s 11)),
 X.o 13 (.call F.q73 [X.s 12, X.i 8]),
 X.m 2 13]
def C.bfv : LO := C.bfv_b
def C.bfv_w := pO C.bfv.eq_1
def C.cfk : ICode := .keep [1] (.seq (.region C.bfv) .ret)
def C.cfk_w := pC C.cfk.eq_1
def C.bft_b : LO := [
 X.o 1 (.boxN (X.s 0)),
 X.o 2 (.move (X.i 0))]
def C.bft : LO := C.bft_b
def C.bft_w := pO C.bft.eq_1
def C.q63 : IFunc := ⟨1, [.slot 2], .seq (.region C.bft) C.cfk⟩
def C.q63_W := aI @C.bfv_w (aI @C.cfk_w @C.bft_w)
def C.q63_B := aI @C.bfv_b.eq_1 @C.bft_b.eq_1

def C.bg6_b : LO := [
 X.o 4 (.move (X.i 0))]
def C.bg6 : LO := C.bg6_b
def C.bg6_w := pO C.bg6.eq_1
def C.cgx : ICode := .keep [] (.seq (.region C.bg6) .ret)
def C.cgx_w := pC C.cgx.eq_1
def C.bg5_b : LO := [
 X.m 6 1,
 X.m 4 6]
def C.bg5 : LO := C.bg5_b
def C.bg5_w := pO C.bg5.eq_1
def C.cgy : ICode := .seq (.region C.bg5) .ret
def C.cgy_w := pC C.cgy.eq_1
def C.cgq : ICode := .keep [1, 5] (.cond (X.s 5) C.cgy .skip)
def C.cgq_w := pC C.cgq.eq_1
def C.bg4_b : LO := [
 X.m 5 0]
def C.bg4 : LO := C.bg4_b
def C.bg4_w := pO C.bg4.eq_1
def C.cgz : ICode := .keep [0, 1] (.seq (.seq (.region C.bg4) C.cgq) C.cgx)
def C.cgz_w := pC C.cgz.eq_1
def C.bg3_b : LO := [
 X.o 4 (.move (X.i 0))]
def C.bg3 : LO := C.bg3_b
def C.bg3_w := pO C.bg3.eq_1
def C.q73 : IFunc := ⟨2, [.slot 4], .seq (.region C.bg3) C.cgz⟩
def C.q73_W := aI (aI (aI @C.bg6_w @C.cgx_w) (aI @C.bg5_w @C.cgy_w)) (aI (aI @C.cgq_w @C.bg4_w) (aI @C.cgz_w @C.bg3_w))
def C.q73_B := aI (aI @C.bg6_b.eq_1 @C.bg5_b.eq_1) (aI @C.bg4_b.eq_1 @C.bg3_b.eq_1)

def C.bb6_b : LO := [
 X.o 2 (.loadN 6 (X.s 0)),
 X.o 3 (.call F.q72 [X.s 2]),
 X.o 4 (.un .not (X.s 3)),
 X.o 5 (.call F.q73 [X.s 4, X.i 1]),
 X.m 1 5]
def C.bb6 : LO := C.bb6_b
def C.bb6_w := pO C.bb6.eq_1
def C.cbq : ICode := .keep [0] (.seq (.region C.bb6) .ret)
def C.cbq_w := pC C.cbq.eq_1
def C.bb5_b : LO := [
 X.o 1 (.move (X.i 0))]
def C.bb5 : LO := C.bb5_b
def C.bb5_w := pO C.bb5.eq_1
def C.q42 : IFunc := ⟨1, [.slot 1], .seq (.region C.bb5) C.cbq⟩
def C.q42_W := aI @C.bb6_w (aI @C.cbq_w @C.bb5_w)
def C.q42_B := aI @C.bb6_b.eq_1 @C.bb5_b.eq_1

def C.bgv_b : LO := [
 X.o 2 (.move (.cst (.bool false)))]
def C.bgv : LO := C.bgv_b
def C.bgv_w := pO C.bgv.eq_1
def C.cgf : ICode := .keep [] (.seq (.region C.bgv) .ret)
def C.cgf_w := pC C.cgf.eq_1
def C.bgx_b : LO := [
 X.o 7 (.fldAddr 1 (X.s 1)),
 X.o 8 (.load1 (X.s 7)),
 X.o 9 (.len (X.s 8)),
 X.o 10 (.bin .eql (X.s 9) (X.i 0)),
 X.m 2 10]
def C.bgx : LO := C.bgx_b
def C.bgx_w := pO C.bgx.eq_1
def C.bg0_b : LO := [
 X.o 15 (.fldAddr 1 (X.s 1)),
 X.o 16 (.load1 (X.s 15)),
 X.o 17 (.len (X.s 16)),
 X.o 18 (.bin .eql (X.s 17) (X.i 1)),
 X.m 2 18]
def C.bg0 : LO := C.bg0_b
def C.bg0_w := pO C.bg0.eq_1
def C.bg2_b : LO := [
 X.o 21 (.fldAddr 1 (X.s 1)),
 X.o 22 (.load1 (X.s 21)),
 X.o 23 (.len (X.s 22)),
 X.o 24 (.call F.q74 [X.s 23, X.i 1, X.i 4]),
 X.m 2 24]
def C.bg2 : LO := C.bg2_b
def C.bg2_w := pO C.bg2.eq_1
def C.cgm : ICode := .seq (.region C.bg2) .ret
def C.cgm_w := pC C.cgm.eq_1
def C.cgn : ICode := .keep [1, 19] (.cond (X.s 19) C.cgm .skip)
def C.cgn_w := pC C.cgn.eq_1
def C.bg1_b : LO := [
 X.o 20 (.bin .eql (X.s 4) (.cst (.int .u8 109))),
 X.m 19 20]
def C.bg1 : LO := C.bg1_b
def C.bg1_w := pO C.bg1.eq_1
def C.cgp : ICode := .seq (.region C.bg0) .ret
def C.cgp_w := pC C.cgp.eq_1
def C.cgr : ICode := .seq (.region C.bg1) C.cgn
def C.cgr_w := pC C.cgr.eq_1
def C.cgs : ICode := .keep [1, 4, 11] (.cond (X.s 11) C.cgp C.cgr)
def C.cgs_w := pC C.cgs.eq_1
def C.bgz_b : LO := [
 X.o 14 (.bin .eql (X.s 4) (.cst (.int .u8 103))),
 X.m 11 14]
def C.bgz : LO := C.bgz_b
def C.bgz_w := pO C.bgz.eq_1
def C.cgt : ICode := .keep [1, 4, 11] (.cond (X.s 11) .skip (.region C.bgz))
def C.cgt_w := pC C.cgt.eq_1
def C.bgq_b : LO := [
 X.o 13 (.bin .eql (X.s 4) (.cst (.int .u8 100))),
 X.m 11 13]
def C.bgq : LO := C.bgq_b
def C.bgq_w := pO C.bgq.eq_1
def C.cgv : ICode := .seq (.region C.bgq) C.cgt
def C.cgv_w := pC C.cgv.eq_1
def C.cgw : ICode := .keep [1, 4, 11] (.cond (X.s 11) .skip C.cgv)
def C.cgw_w := pC C.cgw.eq_1
def C.bgy_b : LO := [
 X.o 12 (.bin .eql (X.s 4) (.cst (.int .u8 112))),
 X.m 11 12]
def C.bgy : LO := C.bgy_b
def C.bgy_w := pO C.bgy.eq_1
def C.cgg : ICode := .seq (.region C.bgx) .ret
def C.cgg_w := pC C.cgg.eq_1
def C.cgh : ICode := .seq (.seq (.region C.bgy) C.cgw) C.cgs
def C.cgh_w := pC C.cgh.eq_1
def C.cgj : ICode := .keep [1, 4, 5] (.cond (X.s 5) C.cgg C.cgh)
def C.cgj_w := pC C.cgj.eq_1
def C.bgw_b : LO := [
 X.o 6 (.bin .eql (X.s 4) (.cst (.int .u8 111))),
 X.m 5 6]
def C.bgw : LO := C.bgw_b
def C.bgw_w := pO C.bgw.eq_1
def C.cgd : ICode := .seq (.region C.bgw) C.cgj
def C.cgd_w := pC C.cgd.eq_1
def C.cgk : ICode := .keep [1, 4] (.block 0 C.cgd)
def C.cgk_w := pC C.cgk.eq_1
def C.bgt_b : LO := [
 X.o 3 (.fldAddr 0 (X.s 1)),
 X.o 4 (.load1 (X.s 3))]
def C.bgt : LO := C.bgt_b
def C.bgt_w := pO C.bgt.eq_1
def C.cgl : ICode := .keep [1] (.seq (.seq (.region C.bgt) C.cgk) C.cgf)
def C.cgl_w := pC C.cgl.eq_1
def C.bgs_b : LO := [
 X.o 1 (.boxN (X.s 0)),
 X.o 2 (.move (.cst (.bool false)))]
def C.bgs : LO := C.bgs_b
def C.bgs_w := pO C.bgs.eq_1
def C.q72 : IFunc := ⟨1, [.slot 2], .seq (.region C.bgs) C.cgl⟩
def C.q72_W := aI (aI (aI (aI @C.bgv_w (aI @C.cgf_w @C.bgx_w)) (aI @C.bg0_w (aI @C.bg2_w @C.cgm_w))) (aI (aI @C.cgn_w (aI @C.bg1_w @C.cgp_w)) (aI (aI @C.cgr_w @C.cgs_w) (aI @C.bgz_w @C.cgt_w)))) (aI (aI (aI @C.bgq_w (aI @C.cgv_w @C.cgw_w)) (aI @C.bgy_w (aI @C.cgg_w @C.cgh_w))) (aI (aI @C.cgj_w (aI @C.bgw_w @C.cgd_w)) (aI (aI @C.cgk_w @C.bgt_w) (aI @C.cgl_w @C.bgs_w))))
def C.q72_B := aI (aI (aI @C.bgv_b.eq_1 @C.bgx_b.eq_1) (aI @C.bg0_b.eq_1 (aI @C.bg2_b.eq_1 @C.bg1_b.eq_1))) (aI (aI @C.bgz_b.eq_1 (aI @C.bgq_b.eq_1 @C.bgy_b.eq_1)) (aI @C.bgw_b.eq_1 (aI @C.bgt_b.eq_1 @C.bgs_b.eq_1)))

def C.bb8_b : LO := [
 X.o 3 (.fldAddr 1 (X.s 0)),
 X.o 4 (.load1 (X.s 3)),
 X.o 5 (.makeFunc F.q44 [X.s 1]),
 X.o 6 (.call F.q60 [X.s 4, X.s 5]),
 X.m 2 6]
def C.bb8 : LO := C.bb8_b
def C.bb8_w := pO C.bb8.eq_1
def C.cbz : ICode := .keep [0, 1] (.seq (.region C.bb8) .ret)
def C.cbz_w := pC C.cbz.eq_1
def C.bb7_b : LO := [
 X.o 2 (.move (X.i 0))]
def C.bb7 : LO := C.bb7_b
def C.bb7_w := pO C.bb7.eq_1
def C.q43 : IFunc := ⟨2, [.slot 2], .seq (.region C.bb7) C.cbz⟩
def C.q43_W := aI @C.bb8_w (aI @C.cbz_w @C.bb7_w)
def C.q43_B := aI @C.bb8_b.eq_1 @C.bb7_b.eq_1

def C.bfc_b : LO := [
 X.o 4 (.move (X.i 0))]
def C.bfc : LO := C.bfc_b
def C.bfc_w := pO C.bfc.eq_1
def C.cdr : ICode := .keep [] (.seq (.region C.bfc) .ret)
def C.cdr_w := pC C.cdr.eq_1
def C.bfb_b : LO := [
 X.o 20 (.bin .add (X.s 10) (X.i 1)),
 X.m 10 20]
def C.bfb : LO := C.bfb_b
def C.bfb_w := pO C.bfb.eq_1
def C.cdv : ICode := .keep [1, 8, 9, 10] (.region C.bfb)
def C.cdv_w := pC C.cdv.eq_1
def C.bd9_b : LO := [
 X.m 19 7,
 X.m 4 19]
def C.bd9 : LO := C.bd9_b
def C.bd9_w := pO C.bd9.eq_1
def C.cdw : ICode := .seq (.region C.bd9) .ret
def C.cdw_w := pC C.cdw.eq_1
def C.cdx : ICode := .keep [1, 7, 8, 9, 10, 18] (.cond (X.s 18) C.cdw .skip)
def C.cdx_w := pC C.cdx.eq_1
def C.bd8_b : LO := [
 X.m 17 7,
 X.o 18 (.bin .neq (X.s 17) (X.i 0))]
def C.bd8 : LO := C.bd8_b
def C.bd8_w := pO C.bd8.eq_1
def C.cdy : ICode := .keep [1, 7, 8, 9, 10] (.seq (.region C.bd8) C.cdx)
def C.cdy_w := pC C.cdy.eq_1
def C.bd7_b : LO := [
 X.m 14 1,
 X.m 15 6,
 X.o 16 (.callv (X.s 14) [X.s 15]),
 X.m 7 16]
def C.bd7 : LO := C.bd7_b
def C.bd7_w := pO C.bd7.eq_1
def C.cdq : ICode := .keep [1, 6, 8, 9, 10] (.seq (.region C.bd7) C.cdy)
def C.cdq_w := pC C.cdq.eq_1
def C.bd6_b : LO := [
 X.o 12 (.idxAddr 1 (X.s 8) (X.s 10)),
 X.o 13 (.load1 (X.s 12)),
 X.m 6 13]
def C.bd6 : LO := C.bd6_b
def C.bd6_w := pO C.bd6.eq_1
def C.cdp : ICode := .seq (.region C.bd6) C.cdq
def C.cdp_w := pC C.cdp.eq_1
def C.cdz : ICode := .keep [1, 8, 9, 10] (.seq (.block 1 C.cdp) C.cdv)
def C.cdz_w := pC C.cdz.eq_1
def C.cd0 : ICode := .keep [1, 8, 9, 10, 11] (.seq (.cond (X.s 11) .skip (.exit 0)) C.cdz)
def C.cd0_w := pC C.cd0.eq_1
def C.bd5_b : LO := [
 X.o 11 (.bin .lss (X.s 10) (X.s 9))]
def C.bd5 : LO := C.bd5_b
def C.bd5_w := pO C.bd5.eq_1
def C.cn5 : ICode := .keep [1, 8, 9, 10] (.seq (.region C.bd5) C.cd0)
def C.cn5_w := pC C.cn5.eq_1
def C.cdn : ICode := .loop C.cn5
def C.cdn_w := pC C.cdn.eq_1
def C.cds : ICode := .keep [1, 8, 9, 10] (.block 0 C.cdn)
def C.cds_w := pC C.cds.eq_1
def C.bd4_b : LO := [
 X.m 8 0,
 X.o 9 (.len (X.s 8)),
 X.o 10 (.move (X.i 0))]
def C.bd4 : LO := C.bd4_b
def C.bd4_w := pO C.bd4.eq_1
def C.cdt : ICode := .keep [0, 1] (.seq (.seq (.region C.bd4) C.cds) C.cdr)
def C.cdt_w := pC C.cdt.eq_1
def C.bd3_b : LO := [
 X.o 4 (.move (X.i 0))]
def C.bd3 : LO := C.bd3_b
def C.bd3_w := pO C.bd3.eq_1
def C.q60 : IFunc := ⟨2, [.slot 4], .seq (.region C.bd3) C.cdt⟩
def C.q60_W := aI (aI (aI (aI @C.bfc_w @C.cdr_w) (aI @C.bfb_w (aI @C.cdv_w @C.bd9_w))) (aI (aI @C.cdw_w @C.cdx_w) (aI @C.bd8_w (aI @C.cdy_w @C.bd7_w)))) (aI (aI (aI @C.cdq_w @C.bd6_w) (aI @C.cdp_w (aI @C.cdz_w @C.cd0_w))) (aI (aI @C.bd5_w (aI @C.cdn_w @C.cds_w)) (aI @C.bd4_w (aI @C.cdt_w @C.bd3_w))))
def C.q60_B := aI (aI (aI @C.bfc_b.eq_1 @C.bfb_b.eq_1) (aI @C.bd9_b.eq_1 @C.bd8_b.eq_1)) (aI (aI @C.bd7_b.eq_1 @C.bd6_b.eq_1) (aI @C.bd5_b.eq_1 (aI @C.bd4_b.eq_1 @C.bd3_b.eq_1)))

def C.bcb_b : LO := [
 X.m 4 0,
 X.o 5 (.fldAddr 0 (X.s 1)),
 X.o 6 (.load1 (X.s 5)),
 X.o 7 (.len (X.s 6)),
 X.o 8 (.bin .sub (X.s 7) (X.i 1)),
 X.o 9 (.call F.q74 [X.s 4, X.i 0, X.s 8]),
 X.o 10 (.un .not (X.s 9)),
 X.o 11 (.call F.q73 [X.s 10, X.i 4]),
 X.m 3 11]
def C.bcb : LO := C.bcb_b
def C.bcb_w := pO C.bcb.eq_1
def C.cb0 : ICode := .keep [0, 1] (.seq (.region C.bcb) .ret)
def C.cb0_w := pC C.cb0.eq_1
def C.bb9_b : LO := [
 X.o 3 (.move (X.i 0))]
def C.bb9 : LO := C.bb9_b
def C.bb9_w := pO C.bb9.eq_1
def C.q44 : IFunc := ⟨2, [.slot 3], .seq (.region C.bb9) C.cb0⟩
def C.q44_W := aI @C.bcb_w (aI @C.cb0_w @C.bb9_w)
def C.q44_B := aI @C.bcb_b.eq_1 @C.bb9_b.eq_1

def C.bg8_b : LO := [
 X.m 7 0,
 X.m 8 1,
 X.o 9 (.bin .geq (X.s 7) (X.s 8)),
 X.m 10 9,
 X.t 10 11 (.move (X.s 0)),
 X.t 10 12 (.move (X.s 2)),
 X.t 10 13 (.bin .leq (X.s 11) (X.s 12)),
 X.o 14 (.pick (X.s 10) (X.s 13) (.cst (.bool false))),
 X.m 6 14]
def C.bg8 : LO := C.bg8_b
def C.bg8_w := pO C.bg8.eq_1
def C.cg0 : ICode := .keep [0, 1, 2] (.seq (.region C.bg8) .ret)
def C.cg0_w := pC C.cg0.eq_1
def C.bg7_b : LO := [
 X.o 6 (.move (.cst (.bool false)))]
def C.bg7 : LO := C.bg7_b
def C.bg7_w := pO C.bg7.eq_1
def C.q74 : IFunc := ⟨3, [.slot 6], .seq (.region C.bg7) C.cg0⟩
def C.q74_W := aI @C.bg8_w (aI @C.cg0_w @C.bg7_w)
def C.q74_B := aI @C.bg8_b.eq_1 @C.bg7_b.eq_1

def C.bcd_b : LO := [
 X.o 2 (.loadN 6 (X.s 0)),
 X.o 3 (.call F.q64 [X.s 2]),
 X.o 4 (.un .not (X.s 3)),
 X.o 5 (.call F.q73 [X.s 4, X.i 3]),
 X.m 1 5]
def C.bcd : LO := C.bcd_b
def C.bcd_w := pO C.bcd.eq_1
def C.cb1 : ICode := .keep [0] (.seq (.region C.bcd) .ret)
def C.cb1_w := pC C.cb1.eq_1
def C.bcc_b : LO := [
 X.o 1 (.move (X.i 0))]
def C.bcc : LO := C.bcc_b
def C.bcc_w := pO C.bcc.eq_1
def C.q45 : IFunc := ⟨1, [.slot 1], .seq (.region C.bcc) C.cb1⟩
def C.q45_W := aI @C.bcd_w (aI @C.cb1_w @C.bcc_w)
def C.q45_B := aI @C.bcd_b.eq_1 @C.bcc_b.eq_1

def C.bf3_b : LO := [
 X.o 2 (.move (.cst (.bool true)))]
def C.bf3 : LO := C.bf3_b
def C.bf3_w := pO C.bf3.eq_1
def C.cfm : ICode := .keep [] (.seq (.region C.bf3) .ret)
def C.cfm_w := pC C.cfm.eq_1
def C.bfq_b : LO := [
 X.o 7 (.fldAddr 2 (X.s 1)),
 X.o 8 (.load1 (X.s 7)),
 X.o 9 (.bin .geq (X.s 8) (.cst (.int .u64 1))),
 X.m 10 9,
 X.t 10 11 (.fldAddr 2 (X.s 1)),
 X.t 10 12 (.load1 (X.s 11)),
 X.t 10 13 (.bin .leq (X.s 12) (.cst (.int .u64 1099511627776))),
 X.o 14 (.pick (X.s 10) (X.s 13) (.cst (.bool false))),
 X.m 2 14]
def C.bfq : LO := C.bfq_b
def C.bfq_w := pO C.bfq.eq_1
def C.bf0_b : LO := [
 X.o 17 (.fldAddr 3 (X.s 1)),
 X.o 18 (.load1 (X.s 17)),
 X.o 19 (.call F.q74 [X.s 18, X.i 1, X.i 1000]),
 X.m 20 19,
 X.t 20 21 (.fldAddr 4 (X.s 1)),
 X.t 20 22 (.load1 (X.s 21)),
 X.t 20 23 (.call F.q74 [X.s 22, X.i 1, X.i 1000]),
 X.o 24 (.pick (X.s 20) (X.s 23) (.cst (.bool false))),
 X.m 25 24,
 X.t 25 26 (.fldAddr 5 (X.s 1)),
 X.t 25 27 (.load1 (X.s 26)),
 X.t 25 28 (.call F.q74 [X.s 27, X.i 0, X.i 20]),
 X.o 29 (.pick (X.s 25) (X.s 28) (.cst (.bool false))),
 X.m 2 29]
def C.bf0 : LO := C.bf0_b
def C.bf0_w := pO C.bf0.eq_1
def C.bf2_b : LO := [
 X.o 32 (.fldAddr 4 (X.s 1)),
 X.o 33 (.load1 (X.s 32)),
 X.o 34 (.call F.q74 [X.s 33, X.i 1, X.i 1000]),
 X.m 2 34]
def C.bf2 : LO := C.bf2_b
def C.bf2_w := pO C.bf2.eq_1
def C.cfr : ICode := .seq (.region C.bf2) .ret
def C.cfr_w := pC C.cfr.eq_1
def C.cfs : ICode := .keep [1, 30] (.cond (X.s 30) C.cfr .skip)
def C.cfs_w := pC C.cfs.eq_1
def C.bf1_b : LO := [
 X.o 31 (.bin .eql (X.s 4) (.cst (.int .u8 100))),
 X.m 30 31]
def C.bf1 : LO := C.bf1_b
def C.bf1_w := pO C.bf1.eq_1
def C.cft : ICode := .seq (.region C.bf0) .ret
def C.cft_w := pC C.cft.eq_1
def C.cfv : ICode := .seq (.region C.bf1) C.cfs
def C.cfv_w := pC C.cfv.eq_1
def C.cfw : ICode := .keep [1, 4, 15] (.cond (X.s 15) C.cft C.cfv)
def C.cfw_w := pC C.cfw.eq_1
def C.bfz_b : LO := [
 X.o 16 (.bin .eql (X.s 4) (.cst (.int .u8 112))),
 X.m 15 16]
def C.bfz : LO := C.bfz_b
def C.bfz_w := pO C.bfz.eq_1
def C.cfx : ICode := .seq (.region C.bfq) .ret
def C.cfx_w := pC C.cfx.eq_1
def C.cfy : ICode := .seq (.region C.bfz) C.cfw
def C.cfy_w := pC C.cfy.eq_1
def C.cfq : ICode := .keep [1, 4, 5] (.cond (X.s 5) C.cfx C.cfy)
def C.cfq_w := pC C.cfq.eq_1
def C.bfy_b : LO := [
 X.o 6 (.bin .eql (X.s 4) (.cst (.int .u8 111))),
 X.m 5 6]
def C.bfy : LO := C.bfy_b
def C.bfy_w := pO C.bfy.eq_1
def C.cfl : ICode := .seq (.region C.bfy) C.cfq
def C.cfl_w := pC C.cfl.eq_1
def C.cfn : ICode := .keep [1, 4] (.block 0 C.cfl)
def C.cfn_w := pC C.cfn.eq_1
def C.bfx_b : LO := [
 X.o 3 (.fldAddr 0 (X.s 1)),
 X.o 4 (.load1 (X.s 3))]
def C.bfx : LO := C.bfx_b
def C.bfx_w := pO C.bfx.eq_1
def C.cfp : ICode := .keep [1] (.seq (.seq (.region C.bfx) C.cfn) C.cfm)
def C.cfp_w := pC C.cfp.eq_1
def C.bfw_b : LO := [
 X.o 1 (.boxN (X.s 0)),
 X.o 2 (.move (.cst (.bool false)))]
def C.bfw : LO := C.bfw_b
def C.bfw_w := pO C.bfw.eq_1
def C.q64 : IFunc := ⟨1, [.slot 2], .seq (.region C.bfw) C.cfp⟩
def C.q64_W := aI (aI (aI (aI @C.bf3_w @C.cfm_w) (aI @C.bfq_w (aI @C.bf0_w @C.bf2_w))) (aI (aI @C.cfr_w @C.cfs_w) (aI @C.bf1_w (aI @C.cft_w @C.cfv_w)))) (aI (aI (aI @C.cfw_w @C.bfz_w) (aI @C.cfx_w (aI @C.cfy_w @C.cfq_w))) (aI (aI @C.bfy_w (aI @C.cfl_w @C.cfn_w)) (aI @C.bfx_w (aI @C.cfp_w @C.bfw_w))))
def C.q64_B := aI (aI (aI @C.bf3_b.eq_1 @C.bfq_b.eq_1) (aI @C.bf0_b.eq_1 @C.bf2_b.eq_1)) (aI (aI @C.bf1_b.eq_1 @C.bfz_b.eq_1) (aI @C.bfy_b.eq_1 (aI @C.bfx_b.eq_1 @C.bfw_b.eq_1)))

def C.bhc_b : LO := [
 X.m 10 4,
 X.m 2 10]
def C.bhc : LO := C.bhc_b
def C.bhc_w := pO C.bhc.eq_1
def C.cg1 : ICode := .keep [4] (.seq (.region C.bhc) .ret)
def C.cg1_w := pC C.cg1.eq_1
def C.bhb_b : LO := [
 X.m 6 0,
 X.o 7 (.call F.q76 [X.s 6]),
 X.m 5 7,
 X.o 8 (.extract (X.s 5) 0),
 X.o 9 (.extract (X.s 5) 1),
 X.m 3 8,
 X.m 4 9]
def C.bhb : LO := C.bhb_b
def C.bhb_w := pO C.bhb.eq_1
def C.cg2 : ICode := .keep [0] (.seq (.region C.bhb) C.cg1)
def C.cg2_w := pC C.cg2.eq_1
def C.bg9_b : LO := [
 X.o 2 (.move (X.i 0))]
def C.bg9 : LO := C.bg9_b
def C.bg9_w := pO C.bg9.eq_1
def C.q75 : IFunc := ⟨1, [.slot 2], .seq (.region C.bg9) C.cg2⟩
def C.q75_W := aI (aI @C.bhc_w @C.cg1_w) (aI @C.bhb_w (aI @C.cg2_w @C.bg9_w))
def C.q75_B := aI @C.bhc_b.eq_1 (aI @C.bhb_b.eq_1 @C.bg9_b.eq_1)

def C.bgn_b : LO := [
 X.m 3 0,
 X.o 4 (.append 1 8 (.cst (.nils)) (X.s 3)),
 X.m 2 4]
def C.bgn : LO := C.bgn_b
def C.bgn_w := pO C.bgn.eq_1
def C.cgb : ICode := .keep [0] (.seq (.region C.bgn) .ret)
def C.cgb_w := pC C.cgb.eq_1
def C.bgm_b : LO := [
 X.o 2 (.move (.cst (.nils)))]
def C.bgm : LO := C.bgm_b
def C.bgm_w := pO C.bgm.eq_1
def C.q70 : IFunc := ⟨1, [.slot 2], .seq (.region C.bgm) C.cgb⟩
def C.q70_W := aI @C.bgn_w (aI @C.cgb_w @C.bgm_w)
def C.q70_B := aI @C.bgn_b.eq_1 @C.bgm_b.eq_1

def C.bc9_b : LO := [
 X.o 3 (.fldAddr 0 (X.s 0)),
 X.o 4 (.load1 (X.s 3)),
 X.o 5 (.bin .neq (X.s 4) (X.i (-1))),
 X.m 6 5,
 X.t 6 7 (.fldAddr 0 (X.s 0)),
 X.t 6 8 (.load1 (X.s 7)),
 X.t 6 9 (.fldAddr 1 (X.s 1)),
 X.t 6 10 (.load1 (X.s 9)),
 X.t 6 11 (.len (X.s 10)),
 X.t 6 12 (.bin .sub (X.s 11) (X.i 1)),
 X.t 6 13 (.call F.q74 [X.s 8, X.i 0, X.s 12]),
 X.t 6 14 (.un .not (X.s 13)),
 X.o 15 (.pick (X.s 6) (X.s 14) (.cst (.bool false))),
 X.o 16 (.call F.q73 [X.s 15, X.i 4]),
 X.m 2 16]
def C.bc9 : LO := C.bc9_b
def C.bc9_w := pO C.bc9.eq_1
def C.ccr : ICode := .keep [0, 1] (.seq (.region C.bc9) .ret)
def C.ccr_w := pC C.ccr.eq_1
def C.bc8_b : LO := [
 X.o 2 (.move (X.i 0))]
def C.bc8 : LO := C.bc8_b
def C.bc8_w := pO C.bc8.eq_1
def C.q54 : IFunc := ⟨2, [.slot 2], .seq (.region C.bc8) C.ccr⟩
def C.q54_W := aI @C.bc9_w (aI @C.ccr_w @C.bc8_w)
def C.q54_B := aI @C.bc9_b.eq_1 @C.bc8_b.eq_1

def C.bdc_b : LO := [
 X.o 2 (.fldAddr 1 (X.s 0)),
 X.o 3 (.load1 (X.s 2)),
 X.o 4 (.call F.q74 [X.s 3, X.i 0, X.i 20]),
 X.o 5 (.un .not (X.s 4)),
 X.o 6 (.call F.q73 [X.s 5, X.i 3]),
 X.m 1 6]
def C.bdc : LO := C.bdc_b
def C.bdc_w := pO C.bdc.eq_1
def C.ccs : ICode := .keep [0] (.seq (.region C.bdc) .ret)
def C.ccs_w := pC C.ccs.eq_1
def C.bdb_b : LO := [
 X.o 1 (.move (X.i 0))]
def C.bdb : LO := C.bdb_b
def C.bdb_w := pO C.bdb.eq_1
def C.q55 : IFunc := ⟨1, [.slot 1], .seq (.region C.bdb) C.ccs⟩
def C.q55_W := aI @C.bdc_w (aI @C.ccs_w @C.bdb_w)
def C.q55_B := aI @C.bdc_b.eq_1 @C.bdb_b.eq_1

def C.bcl_b : LO := [
 X.o 3 (.fldAddr 0 (X.s 0)),
 X.o 4 (.load1 (X.s 3)),
 X.o 5 (.fldAddr 0 (X.s 1)),
 X.o 6 (.load1 (X.s 5)),
 X.o 7 (.len (X.s 6)),
 X.o 8 (.bin .sub (X.s 7) (X.i 1)),
 X.o 9 (.call F.q74 [X.s 4, X.i 0, X.s 8]),
 X.o 10 (.un .not (X.s 9)),
 X.o 11 (.call F.q73 [X.s 10, X.i 4]),
 X.m 2 11]
def C.bcl : LO := C.bcl_b
def C.bcl_w := pO C.bcl.eq_1
def C.cb4 : ICode := .keep [0, 1] (.seq (.region C.bcl) .ret)
def C.cb4_w := pC C.cb4.eq_1
def C.bck_b : LO := [
 X.o 2 (.move (X.i 0))]
def C.bck : LO := C.bck_b
def C.bck_w := pO C.bck.eq_1
def C.q48 : IFunc := ⟨2, [.slot 2], .seq (.region C.bck) C.cb4⟩
def C.q48_W := aI @C.bcl_w (aI @C.cb4_w @C.bck_w)
def C.q48_B := aI @C.bcl_b.eq_1 @C.bck_b.eq_1

def C.bcn_b : LO := [
 X.o 3 (.fldAddr 1 (X.s 0)),
 X.o 4 (.load1 (X.s 3)),
 X.o 5 (.fldAddr 1 (X.s 1)),
 X.o 6 (.load1 (X.s 5)),
 X.o 7 (.len (X.s 6)),
 X.o 8 (.bin .sub (X.s 7) (X.i 1)),
 X.o 9 (.call F.q74 [X.s 4, X.i 0, X.s 8]),
 X.o 10 (.un .not (X.s 9)),
 X.o 11 (.call F.q73 [X.s 10, X.i 4]),
 X.m 2 11]
def C.bcn : LO := C.bcn_b
def C.bcn_w := pO C.bcn.eq_1
def C.cb5 : ICode := .keep [0, 1] (.seq (.region C.bcn) .ret)
def C.cb5_w := pC C.cb5.eq_1
def C.bcm_b : LO := [
 X.o 2 (.move (X.i 0))]
def C.bcm : LO := C.bcm_b
def C.bcm_w := pO C.bcm.eq_1
def C.q49 : IFunc := ⟨2, [.slot 2], .seq (.region C.bcm) C.cb5⟩
def C.q49_W := aI @C.bcn_w (aI @C.cb5_w @C.bcm_w)
def C.q49_B := aI @C.bcn_b.eq_1 @C.bcm_b.eq_1

def C.bc1_b : LO := [
 X.o 3 (.fldAddr 2 (X.s 0)),
 X.o 4 (.load1 (X.s 3)),
 X.o 5 (.fldAddr 2 (X.s 1)),
 X.o 6 (.load1 (X.s 5)),
 X.o 7 (.len (X.s 6)),
 X.o 8 (.bin .sub (X.s 7) (X.i 1)),
 X.o 9 (.call F.q74 [X.s 4, X.i 0, X.s 8]),
 X.o 10 (.un .not (X.s 9)),
 X.o 11 (.call F.q73 [X.s 10, X.i 4]),
 X.m 2 11]
def C.bc1 : LO := C.bc1_b
def C.bc1_w := pO C.bc1.eq_1
def C.ccl : ICode := .keep [0, 1] (.seq (.region C.bc1) .ret)
def C.ccl_w := pC C.ccl.eq_1
def C.bc0_b : LO := [
 X.o 2 (.move (X.i 0))]
def C.bc0 : LO := C.bc0_b
def C.bc0_w := pO C.bc0.eq_1
def C.q50 : IFunc := ⟨2, [.slot 2], .seq (.region C.bc0) C.ccl⟩
def C.q50_W := aI @C.bc1_w (aI @C.ccl_w @C.bc0_w)
def C.q50_B := aI @C.bc1_b.eq_1 @C.bc0_b.eq_1

def C.bc3_b : LO := [
 X.o 3 (.fldAddr 5 (X.s 0)),
 X.o 4 (.load1 (X.s 3)),
 X.o 5 (.makeFunc F.q52 [X.s 1]),
 X.o 6 (.call F.q60 [X.s 4, X.s 5]),
 X.m 2 6]
def C.bc3 : LO := C.bc3_b
def C.bc3_w := pO C.bc3.eq_1
def C.ccm : ICode := .keep [0, 1] (.seq (.region C.bc3) .ret)
def C.ccm_w := pC C.ccm.eq_1
def C.bc2_b : LO := [
 X.o 2 (.move (X.i 0))]
def C.bc2 : LO := C.bc2_b
def C.bc2_w := pO C.bc2.eq_1
def C.q51 : IFunc := ⟨2, [.slot 2], .seq (.region C.bc2) C.ccm⟩
def C.q51_W := aI @C.bc3_w (aI @C.ccm_w @C.bc2_w)
def C.q51_B := aI @C.bc3_b.eq_1 @C.bc2_b.eq_1

def C.bc5_b : LO := [
 X.m 4 0,
 X.o 5 (.fldAddr 3 (X.s 1)),
 X.o 6 (.load1 (X.s 5)),
 X.o 7 (.len (X.s 6)),
 X.o 8 (.bin .sub (X.s 7) (X.i 1)),
 X.o 9 (.call F.q74 [X.s 4, X.i 0, X.s 8]),
 X.o 10 (.un .not (X.s 9)),
 X.o 11 (.call F.q73 [X.s 10, X.i 4]),
 X.m 3 11]
def C.bc5 : LO := C.bc5_b
def C.bc5_w := pO C.bc5.eq_1
def C.ccn : ICode := .keep [0, 1] (.seq (.region C.bc5) .ret)
def C.ccn_w := pC C.ccn.eq_1
def C.bc4_b : LO := [
 X.o 3 (.move (X.i 0))]
def C.bc4 : LO := C.bc4_b
def C.bc4_w := pO C.bc4.eq_1
def C.q52 : IFunc := ⟨2, [.slot 3], .seq (.region C.bc4) C.ccn⟩
def C.q52_W := aI @C.bc5_w (aI @C.ccn_w @C.bc4_w)
def C.q52_B := aI @C.bc5_b.eq_1 @C.bc4_b.eq_1

def C.tw_b : LO := [
 X.o 4 (.load1 (X.s 2)),
 X.o 5 (.makeFunc F.q117 [X.s 3, X.s 2]),
 X.o 6 (.call F.q118 [X.s 4, X.s 5])]
def C.tw : LO := C.tw_b
def C.tw_w := pO C.tw.eq_1
def C.b5x : ICode := .keep [2, 3] (.region C.tw)
def C.b5x_w := pC C.b5x.eq_1
def C.tv_b : LO := [
 X.o 2 (.box1 (X.s 0)),
 X.o 3 (.box1 (X.s 1))]
def C.tv : LO := C.tv_b
def C.tv_w := pO C.tv.eq_1
def C.q116 : IFunc := ⟨2, [], .seq (.region C.tv) C.b5x⟩
def C.q116_W := aI @C.tw_w (aI @C.b5x_w @C.tv_w)
def C.q116_B := aI @C.tw_b.eq_1 @C.tv_b.eq_1

def C.ss_b : LO := [
 X.o 5 (.fldAddr 0 (X.s 3)),
 X.o 6 (.load1 (X.s 5)),
 X.m 4 6]
def C.ss : LO := C.ss_b
def C.ss_w := pO C.ss.eq_1
def C.b4x : ICode := .keep [3] (.seq (.region C.ss) .ret)
def C.b4x_w := pC C.b4x.eq_1
def C.sr_b : LO := [
 X.o 3 (.boxN (X.s 1)),
 X.o 4 (.move (.cst (.int .u32 0)))]
def C.sr : LO := C.sr_b
def C.sr_w := pO C.sr.eq_1
def C.q108 : IFunc := ⟨2, [.slot 4], .seq (.region C.sr) C.b4x⟩
def C.q108_W := aI @C.ss_w (aI @C.b4x_w @C.sr_w)
def C.q108_B := aI @C.ss_b.eq_1 @C.sr_b.eq_1

def C.rj_b : LO := [
 X.m 3 0,
 X.o 4 (.nilchk (X.s 3)),
 X.o 5 (.fldAddr 3 (X.s 4)),
 X.o 6 (.load1 (X.s 5)),
 X.o 7 (.bin .eql (X.s 6) (.cst (.int .u8 48))),
 X.m 8 7,
 X.f 8 9 (.move (X.s 0)),
 X.f 8 10 (.nilchk (X.s 9)),
 X.f 8 11 (.fldAddr 3 (X.s 10)),
 X.f 8 12 (.load1 (X.s 11)),
 X.f 8 13 (.bin .eql (X.s 12) (.cst (.int .u8 116))),
 X.o 14 (.pick (X.s 8) (.cst (.bool true)) (X.s 13)),
 X.m 2 14]
def C.rj : LO := C.rj_b
def C.rj_w := pO C.rj.eq_1
def C.b3f : ICode := .keep [0] (.seq (.region C.rj) .ret)
def C.b3f_w := pC C.b3f.eq_1
def C.rh_b : LO := [
 X.o 2 (.move (.cst (.bool false)))]
def C.rh : LO := C.rh_b
def C.rh_w := pO C.rh.eq_1
def C.q102 : IFunc := ⟨1, [.slot 2], .seq (.region C.rh) C.b3f⟩
def C.q102_W := aI @C.rj_w (aI @C.b3f_w @C.rh_w)
def C.q102_B := aI @C.rj_b.eq_1 @C.rh_b.eq_1

def C.bf5_b : LO := [
 X.m 3 0,
 X.o 4 (.append 6 64 (.cst (.nils)) (X.s 3)),
 X.m 2 4]
def C.bf5 : LO := C.bf5_b
def C.bf5_w := pO C.bf5.eq_1
def C.cfz : ICode := .keep [0] (.seq (.region C.bf5) .ret)
def C.cfz_w := pC C.cfz.eq_1
def C.bf4_b : LO := [
 X.o 2 (.move (.cst (.nils)))]
def C.bf4 : LO := C.bf4_b
def C.bf4_w := pO C.bf4.eq_1
def C.q65 : IFunc := ⟨1, [.slot 2], .seq (.region C.bf4) C.cfz⟩
def C.q65_W := aI @C.bf5_w (aI @C.cfz_w @C.bf4_w)
def C.q65_B := aI @C.bf5_b.eq_1 @C.bf4_b.eq_1

def C.bf9_b : LO := [
 X.m 3 0,
 X.o 4 (.append 3 24 (.cst (.nils)) (X.s 3)),
 X.m 2 4]
def C.bf9 : LO := C.bf9_b
def C.bf9_w := pO C.bf9.eq_1
def C.cf1 : ICode := .keep [0] (.seq (.region C.bf9) .ret)
def C.cf1_w := pC C.cf1.eq_1
def C.bf8_b : LO := [
 X.o 2 (.move (.cst (.nils)))]
def C.bf8 : LO := C.bf8_b
def C.bf8_w := pO C.bf8.eq_1
def C.q67 : IFunc := ⟨1, [.slot 2], .seq (.region C.bf8) C.cf1⟩
def C.q67_W := aI @C.bf9_w (aI @C.cf1_w @C.bf8_w)
def C.q67_B := aI @C.bf9_b.eq_1 @C.bf8_b.eq_1

def C.bgf_b : LO := [
 X.m 3 0,
 X.o 4 (.append 1 8 (.cst (.nils)) (X.s 3)),
 X.m 2 4]
def C.bgf : LO := C.bgf_b
def C.bgf_w := pO C.bgf.eq_1
def C.cf3 : ICode := .keep [0] (.seq (.region C.bgf) .ret)
def C.cf3_w := pC C.cf3.eq_1
def C.bgd_b : LO := [
 X.o 2 (.move (.cst (.nils)))]
def C.bgd : LO := C.bgd_b
def C.bgd_w := pO C.bgd.eq_1
def C.q69 : IFunc := ⟨1, [.slot 2], .seq (.region C.bgd) C.cf3⟩
def C.q69_W := aI @C.bgf_w (aI @C.cf3_w @C.bgd_w)
def C.q69_B := aI @C.bgf_b.eq_1 @C.bgd_b.eq_1

def C.bf7_b : LO := [
 X.m 3 0,
 X.o 4 (.append 6 80 (.cst (.nils)) (X.s 3)),
 X.m 2 4]
def C.bf7 : LO := C.bf7_b
def C.bf7_w := pO C.bf7.eq_1
def C.cf0 : ICode := .keep [0] (.seq (.region C.bf7) .ret)
def C.cf0_w := pC C.cf0.eq_1
def C.bf6_b : LO := [
 X.o 2 (.move (.cst (.nils)))]
def C.bf6 : LO := C.bf6_b
def C.bf6_w := pO C.bf6.eq_1
def C.q66 : IFunc := ⟨1, [.slot 2], .seq (.region C.bf6) C.cf0⟩
def C.q66_W := aI @C.bf7_w (aI @C.cf0_w @C.bf6_w)
def C.q66_B := aI @C.bf7_b.eq_1 @C.bf6_b.eq_1

def C.bgc_b : LO := [
 X.m 3 0,
 X.o 4 (.append 2 8 (.cst (.nils)) (X.s 3)),
 X.m 2 4]
def C.bgc : LO := C.bgc_b
def C.bgc_w := pO C.bgc.eq_1
def C.cf2 : ICode := .keep [0] (.seq (.region C.bgc) .ret)
def C.cf2_w := pC C.cf2.eq_1
def C.bgb_b : LO := [
 X.o 2 (.move (.cst (.nils)))]
def C.bgb : LO := C.bgb_b
def C.bgb_w := pO C.bgb.eq_1
def C.q68 : IFunc := ⟨1, [.slot 2], .seq (.region C.bgb) C.cf2⟩
def C.q68_W := aI @C.bgc_w (aI @C.cf2_w @C.bgb_w)
def C.q68_B := aI @C.bgc_b.eq_1 @C.bgb_b.eq_1

def C.bb1_b : LO := [
 X.o 4 (.load1 (X.s 1)),
 X.o 5 (.bin .shl (.cst (.int .u64 1)) (X.s 4)),
 X.o 6 (.bin .sub (X.s 5) (.cst (.int .u64 1))),
 X.m 7 0,
 X.o 8 (.bin .shl (X.s 6) (X.s 7)),
 X.o 9 (.conv .u32 (X.s 8)),
 X.m 3 9]
def C.bb1 : LO := C.bb1_b
def C.bb1_w := pO C.bb1.eq_1
def C.cbw : ICode := .keep [0, 1] (.seq (.region C.bb1) .ret)
def C.cbw_w := pC C.cbw.eq_1
def C.bb0_b : LO := [
 X.o 3 (.move (.cst (.int .u32 0)))]
def C.bb0 : LO := C.bb0_b
def C.bb0_w := pO C.bb0.eq_1
def C.q3 : IFunc := ⟨2, [.slot 3], .seq (.region C.bb0) C.cbw⟩
def C.q3_W := aI @C.bb1_w (aI @C.cbw_w @C.bb0_w)
def C.q3_B := aI @C.bb1_b.eq_1 @C.bb0_b.eq_1

def C.p9_b : LO := [
 X.m 18 0,
 X.m 19 1,
 X.o 20 (.bin .shr (X.s 18) (X.s 19)),
 X.m 21 8,
 X.o 22 (.callv (X.s 21) [X.i 0]),
 X.o 23 (.bin .and (X.s 20) (X.s 22)),
 X.m 6 23,
 X.o 7 (.move (X.i 0))]
def C.p9 : LO := C.p9_b
def C.p9_w := pO C.p9.eq_1
def C.b23 : ICode := .keep [0, 1, 8] (.seq (.region C.p9) .ret)
def C.b23_w := pC C.b23.eq_1
def C.p8_b : LO := [
 X.o 6 (.move (.cst (.int .u32 0))),
 X.o 7 (.move (X.i 3))]
def C.p8 : LO := C.p8_b
def C.p8_w := pO C.p8.eq_1
def C.b24 : ICode := .seq (.region C.p8) .ret
def C.b24_w := pC C.b24.eq_1
def C.b25 : ICode := .keep [0, 1, 8, 17] (.cond (X.s 17) C.b24 .skip)
def C.b25_w := pC C.b25.eq_1
def C.p7_b : LO := [
 X.m 16 9,
 X.o 17 (.un .not (X.s 16))]
def C.p7 : LO := C.p7_b
def C.p7_w := pO C.p7.eq_1
def C.b26 : ICode := .keep [0, 1, 8, 9] (.seq (.seq (.region C.p7) C.b25) C.b23)
def C.b26_w := pC C.b26.eq_1
def C.p6_b : LO := [
 X.m 11 1,
 X.m 12 2,
 X.o 13 (.call F.q2 [X.s 11, X.s 12]),
 X.m 10 13,
 X.o 14 (.extract (X.s 10) 0),
 X.o 15 (.extract (X.s 10) 1),
 X.m 8 14,
 X.m 9 15]
def C.p6 : LO := C.p6_b
def C.p6_w := pO C.p6.eq_1
def C.b27 : ICode := .keep [0, 1, 2] (.seq (.region C.p6) C.b26)
def C.b27_w := pC C.b27.eq_1
def C.p5_b : LO := [
 X.o 6 (.move (.cst (.int .u32 0))),
 X.o 7 (.move (X.i 0))]
def C.p5 : LO := C.p5_b
def C.p5_w := pO C.p5.eq_1
def C.q0 : IFunc := ⟨3, [.slot 6, .slot 7], .seq (.region C.p5) C.b27⟩
def C.q0_W := aI (aI (aI @C.p9_w @C.b23_w) (aI @C.p8_w (aI @C.b24_w @C.b25_w))) (aI (aI @C.p7_w @C.b26_w) (aI @C.p6_w (aI @C.b27_w @C.p5_w)))
def C.q0_B := aI (aI @C.p9_b.eq_1 @C.p8_b.eq_1) (aI @C.p7_b.eq_1 (aI @C.p6_b.eq_1 @C.p5_b.eq_1))

def C.fp_b : LO := [
 X.o 20 (.bin .add (X.s 7) (X.i 1)),
 X.m 7 20]
def C.fp : LO := C.fp_b
def C.fp_w := pO C.fp.eq_1
def C.bn2 : ICode := .keep [0, 1, 6, 7] (.region C.fp)
def C.bn2_w := pC C.bn2.eq_1
def C.fn_b : LO := [
 X.m 10 1,
 X.m 11 4,
 X.m 12 0,
 X.o 13 (.nilchk (X.s 12)),
 X.o 14 (.fldAddr 0 (X.s 13)),
 X.o 15 (.load1 (X.s 14)),
 X.m 16 4,
 X.o 17 (.idxAddr 2 (X.s 15) (X.s 16)),
 X.o 18 (.loadN 2 (X.s 17)),
 X.o 19 (.callv (X.s 10) [X.s 11, X.s 18])]
def C.fn : LO := C.fn_b
def C.fn_w := pO C.fn.eq_1
def C.bn3 : ICode := .keep [0, 1, 4, 6, 7] (.region C.fn)
def C.bn3_w := pC C.bn3.eq_1
def C.fm_b : LO := [
 X.m 9 7,
 X.m 4 9]
def C.fm : LO := C.fm_b
def C.fm_w := pO C.fm.eq_1
def C.bn1 : ICode := .seq (.region C.fm) C.bn3
def C.bn1_w := pC C.bn1.eq_1
def C.bn4 : ICode := .keep [0, 1, 6, 7] (.seq (.block 1 C.bn1) C.bn2)
def C.bn4_w := pC C.bn4.eq_1
def C.bn5 : ICode := .keep [0, 1, 6, 7, 8] (.seq (.cond (X.s 8) .skip (.exit 0)) C.bn4)
def C.bn5_w := pC C.bn5.eq_1
def C.fl_b : LO := [
 X.o 8 (.bin .lss (X.s 7) (X.s 6))]
def C.fl : LO := C.fl_b
def C.fl_w := pO C.fl.eq_1
def C.b50 : ICode := .keep [0, 1, 6, 7] (.seq (.region C.fl) C.bn5)
def C.b50_w := pC C.b50.eq_1
def C.b5q : ICode := .loop C.b50
def C.b5q_w := pC C.b5q.eq_1
def C.b5z : ICode := .keep [0, 1, 6, 7] (.block 0 C.b5q)
def C.b5z_w := pC C.b5z.eq_1
def C.tq_b : LO := [
 X.m 5 0,
 X.o 6 (.call F.q109 [X.s 5]),
 X.o 7 (.move (X.i 0))]
def C.tq : LO := C.tq_b
def C.tq_w := pO C.tq.eq_1
def C.q118 : IFunc := ⟨2, [], .seq (.region C.tq) C.b5z⟩
def C.q118_W := aI (aI (aI @C.fp_w (aI @C.bn2_w @C.fn_w)) (aI @C.bn3_w (aI @C.fm_w @C.bn1_w))) (aI (aI @C.bn4_w (aI @C.bn5_w @C.fl_w)) (aI @C.b5q_w (aI @C.b5z_w @C.tq_w)))
def C.q118_B := aI (aI @C.fp_b.eq_1 @C.fn_b.eq_1) (aI @C.fm_b.eq_1 (aI @C.fl_b.eq_1 @C.tq_b.eq_1))

def C.tm_b : LO := [
 X.o 7 (.load1 (X.s 2)),
 X.o 8 (.nilchk (X.s 7)),
 X.o 9 (.fldAddr 2 (X.s 8)),
 X.o 10 (.load1 (X.s 9)),
 X.m 11 0,
 X.o 12 (.load1 (X.s 2)),
 X.o 13 (.nilchk (X.s 12)),
 X.o 14 (.fldAddr 1 (X.s 13)),
 X.o 15 (.load1 (X.s 14)),
 X.m 16 0,
 X.o 17 (.idxAddr 1 (X.s 15) (X.s 16)),
 X.o 18 (.load1 (X.s 17)),
 X.o 19 (.idxAddr 1 (X.s 10) (X.s 11)),
 X.n (.store1 (X.s 19) (X.s 18))]
def C.tm : LO := C.tm_b
def C.tm_w := pO C.tm.eq_1
def C.b5n : ICode := .keep [0, 2, 6] (.cond (X.s 6) (.region C.tm) .skip)
def C.b5n_w := pC C.b5n.eq_1
def C.tl_b : LO := [
 X.o 5 (.fldAddr 1 (X.s 4)),
 X.o 6 (.load1 (X.s 5))]
def C.tl : LO := C.tl_b
def C.tl_w := pO C.tl.eq_1
def C.b5p : ICode := .keep [0, 2, 4] (.seq (.region C.tl) C.b5n)
def C.b5p_w := pC C.b5p.eq_1
def C.tk_b : LO := [
 X.o 4 (.boxN (X.s 1))]
def C.tk : LO := C.tk_b
def C.tk_w := pO C.tk.eq_1
def C.q114 : IFunc := ⟨3, [], .seq (.region C.tk) C.b5p⟩
def C.q114_W := aI (aI @C.tm_w @C.b5n_w) (aI @C.tl_w (aI @C.b5p_w @C.tk_w))
def C.q114_B := aI @C.tm_b.eq_1 (aI @C.tl_b.eq_1 @C.tk_b.eq_1)

def C.td_b : LO := [
 X.o 21 (.fldAddr 0 (X.s 4)),
 X.o 22 (.load1 (X.s 21)),
 X.m 5 22]
def C.td : LO := C.td_b
def C.td_w := pO C.td.eq_1
def C.b5d : ICode := .keep [4] (.seq (.region C.td) .ret)
def C.b5d_w := pC C.b5d.eq_1
def C.tc_b : LO := [
 X.o 14 (.load1 (X.s 2)),
 X.o 15 (.nilchk (X.s 14)),
 X.o 16 (.fldAddr 2 (X.s 15)),
 X.o 17 (.load1 (X.s 16)),
 X.m 18 0,
 X.o 19 (.idxAddr 1 (X.s 17) (X.s 18)),
 X.o 20 (.load1 (X.s 19)),
 X.m 5 20]
def C.tc : LO := C.tc_b
def C.tc_w := pO C.tc.eq_1
def C.b5f : ICode := .seq (.region C.tc) .ret
def C.b5f_w := pC C.b5f.eq_1
def C.b5g : ICode := .keep [0, 2, 4, 13] (.cond (X.s 13) C.b5f .skip)
def C.b5g_w := pC C.b5g.eq_1
def C.tb_b : LO := [
 X.o 6 (.load1 (X.s 2)),
 X.o 7 (.nilchk (X.s 6)),
 X.o 8 (.fldAddr 3 (X.s 7)),
 X.o 9 (.load1 (X.s 8)),
 X.m 10 9,
 X.t 10 11 (.fldAddr 1 (X.s 4)),
 X.t 10 12 (.load1 (X.s 11)),
 X.o 13 (.pick (X.s 10) (X.s 12) (.cst (.bool false)))]
def C.tb : LO := C.tb_b
def C.tb_w := pO C.tb.eq_1
def C.b5h : ICode := .keep [0, 2, 4] (.seq (.seq (.region C.tb) C.b5g) C.b5d)
def C.b5h_w := pC C.b5h.eq_1
def C.s9_b : LO := [
 X.o 4 (.boxN (X.s 1)),
 X.o 5 (.move (.cst (.int .u32 0)))]
def C.s9 : LO := C.s9_b
def C.s9_w := pO C.s9.eq_1
def C.q112 : IFunc := ⟨3, [.slot 5], .seq (.region C.s9) C.b5h⟩
def C.q112_W := aI (aI (aI @C.td_w @C.b5d_w) (aI @C.tc_w @C.b5f_w)) (aI (aI @C.b5g_w @C.tb_w) (aI @C.b5h_w @C.s9_w))
def C.q112_B := aI (aI @C.td_b.eq_1 @C.tc_b.eq_1) (aI @C.tb_b.eq_1 @C.s9_b.eq_1)

def C.bhv_b : LO := [
 X.m 73 8,
 X.m 2 73,
 X.o 3 (.move (X.i 0))]
def C.bhv : LO := C.bhv_b
def C.bhv_w := pO C.bhv.eq_1
def C.cg9 : ICode := .keep [8] (.seq (.region C.bhv) .ret)
def C.cg9_w := pC C.cg9.eq_1
def C.bhs_b : LO := [
 X.o 72 (.bin .add (X.s 62) (X.i 1)),
 X.m 62 72]
def C.bhs : LO := C.bhs_b
def C.bhs_w := pO C.bhs.eq_1
def C.chl : ICode := .keep [0, 5, 6, 7, 8, 60, 61, 62] (.region C.bhs)
def C.chl_w := pC C.chl.eq_1
def C.bhr_b : LO := [
 X.m 66 5,
 X.m 67 11,
 X.o 68 (.idxAddr 1 (X.s 66) (X.s 67)),
 X.o 69 (.load1 (X.s 68)),
 X.o 70 (.bin .sub (X.s 69) (X.i 1)),
 X.o 71 (.idxAddr 1 (X.s 66) (X.s 67)),
 X.n (.store1 (X.s 71) (X.s 70))]
def C.bhr : LO := C.bhr_b
def C.bhr_w := pO C.bhr.eq_1
def C.chv : ICode := .keep [0, 5, 6, 7, 8, 11, 60, 61, 62] (.region C.bhr)
def C.chv_w := pC C.chv.eq_1
def C.bhp_b : LO := [
 X.o 64 (.idxAddr 1 (X.s 60) (X.s 62)),
 X.o 65 (.load1 (X.s 64)),
 X.m 11 65]
def C.bhp : LO := C.bhp_b
def C.bhp_w := pO C.bhp.eq_1
def C.cg7 : ICode := .seq (.region C.bhp) C.chv
def C.cg7_w := pC C.cg7.eq_1
def C.ch0 : ICode := .keep [0, 5, 6, 7, 8, 60, 61, 62] (.seq (.block 5 C.cg7) C.chl)
def C.ch0_w := pC C.ch0.eq_1
def C.ch1 : ICode := .keep [0, 5, 6, 7, 8, 60, 61, 62, 63] (.seq (.cond (X.s 63) .skip (.exit 4)) C.ch0)
def C.ch1_w := pC C.ch1.eq_1
def C.bhn_b : LO := [
 X.o 63 (.bin .lss (X.s 62) (X.s 61))]
def C.bhn : LO := C.bhn_b
def C.bhn_w := pO C.bhn.eq_1
def C.cn9 : ICode := .keep [0, 5, 6, 7, 8, 60, 61, 62] (.seq (.region C.bhn) C.ch1)
def C.cn9_w := pC C.cn9.eq_1
def C.cg8 : ICode := .loop C.cn9
def C.cg8_w := pC C.cg8.eq_1
def C.ch2 : ICode := .keep [0, 5, 6, 7, 8, 60, 61, 62] (.block 4 C.cg8)
def C.ch2_w := pC C.ch2.eq_1
def C.bhm_b : LO := [
 X.m 57 6,
 X.m 58 9,
 X.o 59 (.idxAddr 1 (X.s 57) (X.s 58)),
 X.o 60 (.load1 (X.s 59)),
 X.o 61 (.len (X.s 60)),
 X.o 62 (.move (X.i 0))]
def C.bhm : LO := C.bhm_b
def C.bhm_w := pO C.bhm.eq_1
def C.chb : ICode := .keep [0, 5, 6, 7, 8, 9] (.seq (.region C.bhm) C.ch2)
def C.chb_w := pC C.chb.eq_1
def C.bhl_b : LO := [
 X.m 53 8,
 X.m 54 9,
 X.o 55 (.buildSlice 1 1 [.int .i64 0] [(0, 1, X.s 54)]),
 X.o 56 (.append 1 8 (X.s 53) (X.s 55)),
 X.m 8 56]
def C.bhl : LO := C.bhl_b
def C.bhl_w := pO C.bhl.eq_1
def C.chc : ICode := .keep [0, 5, 6, 7, 8, 9] (.seq (.region C.bhl) C.chb)
def C.chc_w := pC C.chc.eq_1
def C.bhk_b : LO := [
 X.m 50 7,
 X.m 51 9,
 X.o 52 (.call F.q78 [X.s 50, X.s 51])]
def C.bhk : LO := C.bhk_b
def C.bhk_w := pO C.bhk.eq_1
def C.chd : ICode := .keep [0, 5, 6, 7, 8, 9] (.seq (.region C.bhk) C.chc)
def C.chd_w := pC C.chd.eq_1
def C.bhj_b : LO := [
 X.o 2 (.move (.cst (.nils))),
 X.o 3 (.move (X.i 5))]
def C.bhj : LO := C.bhj_b
def C.bhj_w := pO C.bhj.eq_1
def C.chf : ICode := .seq (.region C.bhj) .ret
def C.chf_w := pC C.chf.eq_1
def C.chg : ICode := .keep [0, 5, 6, 7, 8, 9, 49] (.cond (X.s 49) C.chf .skip)
def C.chg_w := pC C.chg.eq_1
def C.bhh_b : LO := [
 X.m 46 9,
 X.m 47 0,
 X.o 48 (.len (X.s 47)),
 X.o 49 (.bin .eql (X.s 46) (X.s 48))]
def C.bhh : LO := C.bhh_b
def C.bhh_w := pO C.bhh.eq_1
def C.chh : ICode := .keep [0, 5, 6, 7, 8, 9] (.seq (.seq (.region C.bhh) C.chg) C.chd)
def C.chh_w := pC C.chh.eq_1
def C.bhg_b : LO := [
 X.m 44 9,
 X.o 45 (.bin .add (X.s 44) (X.i 1)),
 X.m 9 45]
def C.bhg : LO := C.bhg_b
def C.bhg_w := pO C.bhg.eq_1
def C.cg3 : ICode := .region C.bhg
def C.cg3_w := pC C.cg3.eq_1
def C.chj : ICode := .keep [0, 5, 6, 7, 8, 9] (.block 3 C.cg3)
def C.chj_w := pC C.chj.eq_1
def C.chk : ICode := .keep [0, 5, 6, 7, 8, 9, 43] (.cond (X.s 43) .skip (.exit 2))
def C.chk_w := pC C.chk.eq_1
def C.bh1_b : LO := [
 X.m 28 9,
 X.m 29 0,
 X.o 30 (.len (X.s 29)),
 X.o 31 (.bin .lss (X.s 28) (X.s 30)),
 X.m 32 31,
 X.t 32 33 (.move (X.s 7)),
 X.t 32 34 (.move (X.s 9)),
 X.t 32 35 (.call F.q79 [X.s 33, X.s 34]),
 X.t 32 36 (.move (X.s 35)),
 X.f 36 37 (.move (X.s 5)),
 X.f 36 38 (.move (X.s 9)),
 X.f 36 39 (.idxAddr 1 (X.s 37) (X.s 38)),
 X.f 36 40 (.load1 (X.s 39)),
 X.f 36 41 (.bin .gtr (X.s 40) (X.i 0)),
 X.t 32 42 (.pick (X.s 36) (.cst (.bool true)) (X.s 41)),
 X.o 43 (.pick (X.s 32) (X.s 42) (.cst (.bool false)))]
def C.bh1 : LO := C.bh1_b
def C.bh1_w := pO C.bh1.eq_1
def C.cn7 : ICode := .keep [0, 5, 6, 7, 8, 9] (.seq (.seq (.region C.bh1) C.chk) C.chj)
def C.cn7_w := pC C.cn7.eq_1
def C.cg4 : ICode := .loop C.cn7
def C.cg4_w := pC C.cg4.eq_1
def C.chm : ICode := .keep [0, 5, 6, 7, 8, 9] (.seq (.block 2 C.cg4) C.chh)
def C.chm_w := pC C.chm.eq_1
def C.bh0_b : LO := [
 X.o 9 (.move (X.i 0))]
def C.bh0 : LO := C.bh0_b
def C.bh0_w := pO C.bh0.eq_1
def C.cg5 : ICode := .seq (.region C.bh0) C.chm
def C.cg5_w := pC C.cg5.eq_1
def C.chn : ICode := .keep [0, 5, 6, 7, 8] (.block 1 C.cg5)
def C.chn_w := pC C.chn.eq_1
def C.chp : ICode := .keep [0, 5, 6, 7, 8, 27] (.cond (X.s 27) .skip (.exit 0))
def C.chp_w := pC C.chp.eq_1
def C.bhz_b : LO := [
 X.m 23 8,
 X.o 24 (.len (X.s 23)),
 X.m 25 0,
 X.o 26 (.len (X.s 25)),
 X.o 27 (.bin .lss (X.s 24) (X.s 26))]
def C.bhz : LO := C.bhz_b
def C.bhz_w := pO C.bhz.eq_1
def C.cn8 : ICode := .keep [0, 5, 6, 7, 8] (.seq (.seq (.region C.bhz) C.chp) C.chn)
def C.cn8_w := pC C.cn8.eq_1
def C.cg6 : ICode := .loop C.cn8
def C.cg6_w := pC C.cg6.eq_1
def C.chr : ICode := .keep [0, 5, 6, 7, 8] (.seq (.block 0 C.cg6) C.cg9)
def C.chr_w := pC C.chr.eq_1
def C.bhq_b : LO := [
 X.o 8 (.move (.cst (.nils)))]
def C.bhq : LO := C.bhq_b
def C.bhq_w := pO C.bhq.eq_1
def C.chs : ICode := .keep [0, 5, 6, 7] (.seq (.region C.bhq) C.chr)
def C.chs_w := pC C.chs.eq_1
def C.bhy_b : LO := [
 X.o 22 (.makeMap none),
 X.m 7 22]
def C.bhy : LO := C.bhy_b
def C.bhy_w := pO C.bhy.eq_1
def C.cht : ICode := .keep [0, 5, 6] (.seq (.region C.bhy) C.chs)
def C.cht_w := pC C.cht.eq_1
def C.bhx_b : LO := [
 X.m 18 0,
 X.o 19 (.call F.q77 [X.s 18]),
 X.m 17 19,
 X.o 20 (.extract (X.s 17) 0),
 X.o 21 (.extract (X.s 17) 1),
 X.m 5 20,
 X.m 6 21]
def C.bhx : LO := C.bhx_b
def C.bhx_w := pO C.bhx.eq_1
def C.chw : ICode := .keep [0] (.seq (.region C.bhx) C.cht)
def C.chw_w := pC C.chw.eq_1
def C.bhw_b : LO := [
 X.m 16 4,
 X.o 2 (.move (.cst (.nils))),
 X.m 3 16]
def C.bhw : LO := C.bhw_b
def C.bhw_w := pO C.bhw.eq_1
def C.chx : ICode := .seq (.region C.bhw) .ret
def C.chx_w := pC C.chx.eq_1
def C.chy : ICode := .keep [0, 4, 15] (.cond (X.s 15) C.chx .skip)
def C.chy_w := pC C.chy.eq_1
def C.bht_b : LO := [
 X.m 14 4,
 X.o 15 (.bin .neq (X.s 14) (X.i 0))]
def C.bht : LO := C.bht_b
def C.bht_w := pO C.bht.eq_1
def C.chq : ICode := .keep [0, 4] (.seq (.region C.bht) C.chy)
def C.chq_w := pC C.chq.eq_1
def C.bhf_b : LO := [
 X.m 12 0,
 X.o 13 (.call F.q80 [X.s 12]),
 X.m 4 13]
def C.bhf : LO := C.bhf_b
def C.bhf_w := pO C.bhf.eq_1
def C.chz : ICode := .keep [0] (.seq (.seq (.region C.bhf) C.chq) C.chw)
def C.chz_w := pC C.chz.eq_1
def C.bhd_b : LO := [
 X.o 2 (.move (.cst (.nils))),
 X.o 3 (.move (X.i 0))]
def C.bhd : LO := C.bhd_b
def C.bhd_w := pO C.bhd.eq_1
def C.q76 : IFunc := ⟨1, [.slot 2, .slot 3], .seq (.region C.bhd) C.chz⟩
def C.q76_W := aI (aI (aI (aI (aI @C.bhv_w (aI @C.cg9_w @C.bhs_w)) (aI @C.chl_w (aI @C.bhr_w @C.chv_w))) (aI (aI @C.bhp_w (aI @C.cg7_w @C.ch0_w)) (aI (aI @C.ch1_w @C.bhn_w) (aI @C.cg8_w @C.ch2_w)))) (aI (aI (aI @C.bhm_w (aI @C.chb_w @C.bhl_w)) (aI @C.chc_w (aI @C.bhk_w @C.chd_w))) (aI (aI @C.bhj_w (aI @C.chf_w @C.chg_w)) (aI (aI @C.bhh_w @C.chh_w) (aI @C.bhg_w @C.cg3_w))))) (aI (aI (aI (aI @C.chj_w (aI @C.chk_w @C.bh1_w)) (aI @C.cg4_w (aI @C.chm_w @C.bh0_w))) (aI (aI @C.cg5_w (aI @C.chn_w @C.chp_w)) (aI (aI @C.bhz_w @C.cg6_w) (aI @C.chr_w @C.bhq_w)))) (aI (aI (aI @C.chs_w (aI @C.bhy_w @C.cht_w)) (aI @C.bhx_w (aI @C.chw_w @C.bhw_w))) (aI (aI @C.chx_w (aI @C.chy_w @C.bht_w)) (aI (aI @C.chq_w @C.bhf_w) (aI @C.chz_w @C.bhd_w)))))
def C.q76_B := aI (aI (aI (aI @C.bhv_b.eq_1 @C.bhs_b.eq_1) (aI @C.bhr_b.eq_1 (aI @C.bhp_b.eq_1 @C.bhn_b.eq_1))) (aI (aI @C.bhm_b.eq_1 @C.bhl_b.eq_1) (aI @C.bhk_b.eq_1 (aI @C.bhj_b.eq_1 @C.bhh_b.eq_1)))) (aI (aI (aI @C.bhg_b.eq_1 @C.bh1_b.eq_1) (aI @C.bh0_b.eq_1 (aI @C.bhz_b.eq_1 @C.bhq_b.eq_1))) (aI (aI @C.bhy_b.eq_1 (aI @C.bhx_b.eq_1 @C.bhw_b.eq_1)) (aI @C.bht_b.eq_1 (aI @C.bhf_b.eq_1 @C.bhd_b.eq_1))))

def C.ty_b : LO := [
 X.o 6 (.load1 (X.s 3)),
 X.o 7 (.nilchk (X.s 6)),
 X.o 8 (.fldAddr 1 (X.s 7)),
 X.o 9 (.load1 (X.s 8)),
 X.m 10 0,
 X.o 11 (.load1 (X.s 2)),
 X.m 12 0,
 X.o 13 (.loadN 2 (X.s 5)),
 ⟨some 14, .callv (X.s 11) [X.s 12, X.s 13], none, [⟨.load1 (X.s 3), 6, none⟩, ⟨.load1 (X.s 8), 9, none⟩], []⟩,
 X.o 15 (.idxAddr 1 (X.s 9) (X.s 10)),
 X.n (.store1 (X.s 15) (X.s 14))]
def C.ty : LO := C.ty_b
def C.ty_w := pO C.ty.eq_1
def C.b5y : ICode := .keep [0, 2, 3, 5] (.region C.ty)
def C.b5y_w := pC C.b5y.eq_1
def C.tx_b : LO := [
 X.o 5 (.boxN (X.s 1))]
def C.tx : LO := C.tx_b
def C.tx_w := pO C.tx.eq_1
def C.q117 : IFunc := ⟨4, [], .seq (.region C.tx) C.b5y⟩
def C.q117_W := aI @C.ty_w (aI @C.b5y_w @C.tx_w)
def C.q117_B := aI @C.ty_b.eq_1 @C.tx_b.eq_1

def C.bj1_b : LO := [
 X.o 2 (.move (X.i 0))]
def C.bj1 : LO := C.bj1_b
def C.bj1_w := pO C.bj1.eq_1
def C.cj5 : ICode := .keep [] (.seq (.region C.bj1) .ret)
def C.cj5_w := pC C.cj5.eq_1
def C.bj0_b : LO := [
 X.o 31 (.bin .add (X.s 12) (X.i 1)),
 X.m 12 31]
def C.bj0 : LO := C.bj0_b
def C.bj0_w := pO C.bj0.eq_1
def C.ckc : ICode := .keep [0, 10, 11, 12] (.region C.bj0)
def C.ckc_w := pC C.ckc.eq_1
def C.bjz_b : LO := [
 X.o 30 (.bin .add (X.s 18) (X.i 1)),
 X.m 18 30]
def C.bjz : LO := C.bjz_b
def C.bjz_w := pO C.bjz.eq_1
def C.ckj : ICode := .keep [0, 10, 11, 12, 16, 17, 18] (.region C.bjz)
def C.ckj_w := pC C.ckj.eq_1
def C.bjq_b : LO := [
 X.o 2 (.move (X.i 4))]
def C.bjq : LO := C.bjq_b
def C.bjq_w := pO C.bjq.eq_1
def C.ckk : ICode := .seq (.region C.bjq) .ret
def C.ckk_w := pC C.ckk.eq_1
def C.ckl : ICode := .keep [0, 10, 11, 12, 16, 17, 18, 29] (.cond (X.s 29) C.ckk .skip)
def C.ckl_w := pC C.ckl.eq_1
def C.bj9_b : LO := [
 X.m 22 6,
 X.o 23 (.bin .lss (X.s 22) (X.i 0)),
 X.m 24 23,
 X.f 24 25 (.move (X.s 6)),
 X.f 24 26 (.move (X.s 0)),
 X.f 24 27 (.len (X.s 26)),
 X.f 24 28 (.bin .geq (X.s 25) (X.s 27)),
 X.o 29 (.pick (X.s 24) (.cst (.bool true)) (X.s 28))]
def C.bj9 : LO := C.bj9_b
def C.bj9_w := pO C.bj9.eq_1
def C.ckm : ICode := .keep [0, 6, 10, 11, 12, 16, 17, 18] (.seq (.region C.bj9) C.ckl)
def C.ckm_w := pC C.ckm.eq_1
def C.bj8_b : LO := [
 X.o 20 (.idxAddr 1 (X.s 16) (X.s 18)),
 X.o 21 (.load1 (X.s 20)),
 X.m 6 21]
def C.bj8 : LO := C.bj8_b
def C.bj8_w := pO C.bj8.eq_1
def C.cj4 : ICode := .seq (.region C.bj8) C.ckm
def C.cj4_w := pC C.cj4.eq_1
def C.ckn : ICode := .keep [0, 10, 11, 12, 16, 17, 18] (.seq (.block 3 C.cj4) C.ckj)
def C.ckn_w := pC C.ckn.eq_1
def C.ckp : ICode := .keep [0, 10, 11, 12, 16, 17, 18, 19] (.seq (.cond (X.s 19) .skip (.exit 2)) C.ckn)
def C.ckp_w := pC C.ckp.eq_1
def C.bj7_b : LO := [
 X.o 19 (.bin .lss (X.s 18) (X.s 17))]
def C.bj7 : LO := C.bj7_b
def C.bj7_w := pO C.bj7.eq_1
def C.cpd : ICode := .keep [0, 10, 11, 12, 16, 17, 18] (.seq (.region C.bj7) C.ckp)
def C.cpd_w := pC C.cpd.eq_1
def C.cj1 : ICode := .loop C.cpd
def C.cj1_w := pC C.cj1.eq_1
def C.cj6 : ICode := .keep [0, 10, 11, 12, 16, 17, 18] (.block 2 C.cj1)
def C.cj6_w := pC C.cj6.eq_1
def C.bj6_b : LO := [
 X.m 16 4,
 X.o 17 (.len (X.s 16)),
 X.o 18 (.move (X.i 0))]
def C.bj6 : LO := C.bj6_b
def C.bj6_w := pO C.bj6.eq_1
def C.cj7 : ICode := .keep [0, 4, 10, 11, 12] (.seq (.region C.bj6) C.cj6)
def C.cj7_w := pC C.cj7.eq_1
def C.bj5_b : LO := [
 X.o 14 (.idxAddr 1 (X.s 10) (X.s 12)),
 X.o 15 (.load1 (X.s 14)),
 X.m 4 15]
def C.bj5 : LO := C.bj5_b
def C.bj5_w := pO C.bj5.eq_1
def C.cj2 : ICode := .seq (.region C.bj5) C.cj7
def C.cj2_w := pC C.cj2.eq_1
def C.cj8 : ICode := .keep [0, 10, 11, 12] (.seq (.block 1 C.cj2) C.ckc)
def C.cj8_w := pC C.cj8.eq_1
def C.cj9 : ICode := .keep [0, 10, 11, 12, 13] (.seq (.cond (X.s 13) .skip (.exit 0)) C.cj8)
def C.cj9_w := pC C.cj9.eq_1
def C.bj4_b : LO := [
 X.o 13 (.bin .lss (X.s 12) (X.s 11))]
def C.bj4 : LO := C.bj4_b
def C.bj4_w := pO C.bj4.eq_1
def C.cpf : ICode := .keep [0, 10, 11, 12] (.seq (.region C.bj4) C.cj9)
def C.cpf_w := pC C.cpf.eq_1
def C.cj3 : ICode := .loop C.cpf
def C.cj3_w := pC C.cj3.eq_1
def C.ckb : ICode := .keep [0, 10, 11, 12] (.block 0 C.cj3)
def C.ckb_w := pC C.ckb.eq_1
def C.bj3_b : LO := [
 X.m 10 0,
 X.o 11 (.len (X.s 10)),
 X.o 12 (.move (X.i 0))]
def C.bj3 : LO := C.bj3_b
def C.bj3_w := pO C.bj3.eq_1
def C.ckd : ICode := .keep [0] (.seq (.seq (.region C.bj3) C.ckb) C.cj5)
def C.ckd_w := pC C.ckd.eq_1
def C.bj2_b : LO := [
 X.o 2 (.move (X.i 1))]
def C.bj2 : LO := C.bj2_b
def C.bj2_w := pO C.bj2.eq_1
def C.ckf : ICode := .seq (.region C.bj2) .ret
def C.ckf_w := pC C.ckf.eq_1
def C.ckg : ICode := .keep [0, 9] (.cond (X.s 9) C.ckf .skip)
def C.ckg_w := pC C.ckg.eq_1
def C.bjy_b : LO := [
 X.m 7 0,
 X.o 8 (.len (X.s 7)),
 X.o 9 (.bin .gtr (X.s 8) (X.i 100))]
def C.bjy : LO := C.bjy_b
def C.bjy_w := pO C.bjy.eq_1
def C.ckh : ICode := .keep [0] (.seq (.seq (.region C.bjy) C.ckg) C.ckd)
def C.ckh_w := pC C.ckh.eq_1
def C.bjx_b : LO := [
 X.o 2 (.move (X.i 0))]
def C.bjx : LO := C.bjx_b
def C.bjx_w := pO C.bjx.eq_1
def C.q80 : IFunc := ⟨1, [.slot 2], .seq (.region C.bjx) C.ckh⟩
def C.q80_W := aI (aI (aI (aI (aI @C.bj1_w @C.cj5_w) (aI @C.bj0_w @C.ckc_w)) (aI (aI @C.bjz_w @C.ckj_w) (aI @C.bjq_w @C.ckk_w))) (aI (aI (aI @C.ckl_w @C.bj9_w) (aI @C.ckm_w @C.bj8_w)) (aI (aI @C.cj4_w @C.ckn_w) (aI @C.ckp_w (aI @C.bj7_w @C.cj1_w))))) (aI (aI (aI (aI @C.cj6_w @C.bj6_w) (aI @C.cj7_w @C.bj5_w)) (aI (aI @C.cj2_w @C.cj8_w) (aI @C.cj9_w (aI @C.bj4_w @C.cj3_w)))) (aI (aI (aI @C.ckb_w @C.bj3_w) (aI @C.ckd_w @C.bj2_w)) (aI (aI @C.ckf_w @C.ckg_w) (aI @C.bjy_w (aI @C.ckh_w @C.bjx_w)))))
def C.q80_B := aI (aI (aI @C.bj1_b.eq_1 (aI @C.bj0_b.eq_1 @C.bjz_b.eq_1)) (aI (aI @C.bjq_b.eq_1 @C.bj9_b.eq_1) (aI @C.bj8_b.eq_1 @C.bj7_b.eq_1))) (aI (aI @C.bj6_b.eq_1 (aI @C.bj5_b.eq_1 @C.bj4_b.eq_1)) (aI (aI @C.bj3_b.eq_1 @C.bj2_b.eq_1) (aI @C.bjy_b.eq_1 @C.bjx_b.eq_1)))

def C.bjb_b : LO := [
 X.m 53 2,
 X.m 54 3,
 X.m 2 53,
 X.m 3 54]
def C.bjb : LO := C.bjb_b
def C.bjb_w := pO C.bjb.eq_1
def C.ch7 : ICode := .keep [2, 3] (.seq (.region C.bjb) .ret)
def C.ch7_w := pC C.ch7.eq_1
def C.bh9_b : LO := [
 X.o 52 (.bin .add (X.s 17) (X.i 1)),
 X.m 17 52]
def C.bh9 : LO := C.bh9_b
def C.bh9_w := pO C.bh9.eq_1
def C.cjh : ICode := .keep [2, 3, 15, 16, 17] (.region C.bh9)
def C.cjh_w := pC C.cjh.eq_1
def C.bh8_b : LO := [
 X.o 51 (.bin .add (X.s 25) (X.i 1)),
 X.m 25 51]
def C.bh8 : LO := C.bh8_b
def C.bh8_w := pO C.bh8.eq_1
def C.cjn : ICode := .keep [2, 3, 4, 6, 15, 16, 17, 23, 24, 25] (.region C.bh8)
def C.cjn_w := pC C.cjn.eq_1
def C.bh7_b : LO := [
 X.m 41 3,
 X.m 42 8,
 X.m 43 3,
 X.m 44 8,
 X.o 45 (.idxAddr 1 (X.s 43) (X.s 44)),
 X.o 46 (.load1 (X.s 45)),
 X.m 47 4,
 X.o 48 (.buildSlice 1 1 [.int .i64 0] [(0, 1, X.s 47)]),
 X.o 49 (.append 1 8 (X.s 46) (X.s 48)),
 X.o 50 (.idxAddr 1 (X.s 41) (X.s 42)),
 X.n (.store1 (X.s 50) (X.s 49))]
def C.bh7 : LO := C.bh7_b
def C.bh7_w := pO C.bh7.eq_1
def C.cjp : ICode := .keep [2, 3, 4, 6, 8, 15, 16, 17, 23, 24, 25] (.region C.bh7)
def C.cjp_w := pC C.cjp.eq_1
def C.bh6_b : LO := [
 X.m 35 2,
 X.m 36 4,
 X.o 37 (.idxAddr 1 (X.s 35) (X.s 36)),
 X.o 38 (.load1 (X.s 37)),
 X.o 39 (.bin .add (X.s 38) (X.i 1)),
 X.o 40 (.idxAddr 1 (X.s 35) (X.s 36)),
 X.n (.store1 (X.s 40) (X.s 39))]
def C.bh6 : LO := C.bh6_b
def C.bh6_w := pO C.bh6.eq_1
def C.cjr : ICode := .keep [2, 3, 4, 6, 8, 15, 16, 17, 23, 24, 25] (.seq (.region C.bh6) C.cjp)
def C.cjr_w := pC C.cjr.eq_1
def C.bh5_b : LO := [
 X.m 32 6,
 X.m 33 8,
 X.o 34 (.call F.q78 [X.s 32, X.s 33])]
def C.bh5 : LO := C.bh5_b
def C.bh5_w := pO C.bh5.eq_1
def C.cjs : ICode := .keep [2, 3, 4, 6, 8, 15, 16, 17, 23, 24, 25] (.seq (.region C.bh5) C.cjr)
def C.cjs_w := pC C.cjs.eq_1
def C.cjt : ICode := .keep [2, 3, 4, 6, 8, 15, 16, 17, 23, 24, 25, 31] (.cond (X.s 31) (.exit 3) .skip)
def C.cjt_w := pC C.cjt.eq_1
def C.bh4_b : LO := [
 X.m 29 6,
 X.m 30 8,
 X.o 31 (.call F.q79 [X.s 29, X.s 30])]
def C.bh4 : LO := C.bh4_b
def C.bh4_w := pO C.bh4.eq_1
def C.cjv : ICode := .keep [2, 3, 4, 6, 8, 15, 16, 17, 23, 24, 25] (.seq (.seq (.region C.bh4) C.cjt) C.cjs)
def C.cjv_w := pC C.cjv.eq_1
def C.bjl_b : LO := [
 X.o 27 (.idxAddr 1 (X.s 23) (X.s 25)),
 X.o 28 (.load1 (X.s 27)),
 X.m 8 28]
def C.bjl : LO := C.bjl_b
def C.bjl_w := pO C.bjl.eq_1
def C.ch6 : ICode := .seq (.region C.bjl) C.cjv
def C.ch6_w := pC C.ch6.eq_1
def C.ch8 : ICode := .keep [2, 3, 4, 6, 15, 16, 17, 23, 24, 25] (.seq (.block 3 C.ch6) C.cjn)
def C.ch8_w := pC C.ch8.eq_1
def C.ch9 : ICode := .keep [2, 3, 4, 6, 15, 16, 17, 23, 24, 25, 26] (.seq (.cond (X.s 26) .skip (.exit 2)) C.ch8)
def C.ch9_w := pC C.ch9.eq_1
def C.bjk_b : LO := [
 X.o 26 (.bin .lss (X.s 25) (X.s 24))]
def C.bjk : LO := C.bjk_b
def C.bjk_w := pO C.bjk.eq_1
def C.cpb : ICode := .keep [2, 3, 4, 6, 15, 16, 17, 23, 24, 25] (.seq (.region C.bjk) C.ch9)
def C.cpb_w := pC C.cpb.eq_1
def C.ch3 : ICode := .loop C.cpb
def C.ch3_w := pC C.ch3.eq_1
def C.cjb : ICode := .keep [2, 3, 4, 6, 15, 16, 17, 23, 24, 25] (.block 2 C.ch3)
def C.cjb_w := pC C.cjb.eq_1
def C.bjj_b : LO := [
 X.m 23 5,
 X.o 24 (.len (X.s 23)),
 X.o 25 (.move (X.i 0))]
def C.bjj : LO := C.bjj_b
def C.bjj_w := pO C.bjj.eq_1
def C.cjc : ICode := .keep [2, 3, 4, 5, 6, 15, 16, 17] (.seq (.region C.bjj) C.cjb)
def C.cjc_w := pC C.cjc.eq_1
def C.bjh_b : LO := [
 X.o 22 (.makeMap none),
 X.m 6 22]
def C.bjh : LO := C.bjh_b
def C.bjh_w := pO C.bjh.eq_1
def C.cjd : ICode := .keep [2, 3, 4, 5, 15, 16, 17] (.seq (.region C.bjh) C.cjc)
def C.cjd_w := pC C.cjd.eq_1
def C.bjg_b : LO := [
 X.m 19 17,
 X.o 20 (.idxAddr 1 (X.s 15) (X.s 17)),
 X.o 21 (.load1 (X.s 20)),
 X.m 4 19,
 X.m 5 21]
def C.bjg : LO := C.bjg_b
def C.bjg_w := pO C.bjg.eq_1
def C.ch4 : ICode := .seq (.region C.bjg) C.cjd
def C.ch4_w := pC C.ch4.eq_1
def C.cjf : ICode := .keep [2, 3, 15, 16, 17] (.seq (.block 1 C.ch4) C.cjh)
def C.cjf_w := pC C.cjf.eq_1
def C.cjg : ICode := .keep [2, 3, 15, 16, 17, 18] (.seq (.cond (X.s 18) .skip (.exit 0)) C.cjf)
def C.cjg_w := pC C.cjg.eq_1
def C.bjf_b : LO := [
 X.o 18 (.bin .lss (X.s 17) (X.s 16))]
def C.bjf : LO := C.bjf_b
def C.bjf_w := pO C.bjf.eq_1
def C.cpc : ICode := .keep [2, 3, 15, 16, 17] (.seq (.region C.bjf) C.cjg)
def C.cpc_w := pC C.cpc.eq_1
def C.ch5 : ICode := .loop C.cpc
def C.ch5_w := pC C.ch5.eq_1
def C.cjj : ICode := .keep [2, 3, 15, 16, 17] (.block 0 C.ch5)
def C.cjj_w := pC C.cjj.eq_1
def C.bjd_b : LO := [
 X.m 15 0,
 X.o 16 (.len (X.s 15)),
 X.o 17 (.move (X.i 0))]
def C.bjd : LO := C.bjd_b
def C.bjd_w := pO C.bjd.eq_1
def C.cjk : ICode := .keep [0, 2, 3] (.seq (.seq (.region C.bjd) C.cjj) C.ch7)
def C.cjk_w := pC C.cjk.eq_1
def C.bjc_b : LO := [
 X.m 12 0,
 X.o 13 (.len (X.s 12)),
 X.o 14 (.makeSlice 1 24 [.nils] (X.s 13) (X.s 13)),
 X.m 3 14]
def C.bjc : LO := C.bjc_b
def C.bjc_w := pO C.bjc.eq_1
def C.cjl : ICode := .keep [0, 2] (.seq (.region C.bjc) C.cjk)
def C.cjl_w := pC C.cjl.eq_1
def C.bh3_b : LO := [
 X.m 9 0,
 X.o 10 (.len (X.s 9)),
 X.o 11 (.makeSlice 1 8 [.int .i64 0] (X.s 10) (X.s 10)),
 X.m 2 11]
def C.bh3 : LO := C.bh3_b
def C.bh3_w := pO C.bh3.eq_1
def C.cjm : ICode := .keep [0] (.seq (.region C.bh3) C.cjl)
def C.cjm_w := pC C.cjm.eq_1
def C.bh2_b : LO := [
 X.o 2 (.move (.cst (.nils))),
 X.o 3 (.move (.cst (.nils)))]
def C.bh2 : LO := C.bh2_b
def C.bh2_w := pO C.bh2.eq_1
def C.q77 : IFunc := ⟨1, [.slot 2, .slot 3], .seq (.region C.bh2) C.cjm⟩
def C.q77_W := aI (aI (aI (aI (aI @C.bjb_w @C.ch7_w) (aI @C.bh9_w (aI @C.cjh_w @C.bh8_w))) (aI (aI @C.cjn_w @C.bh7_w) (aI @C.cjp_w (aI @C.bh6_w @C.cjr_w)))) (aI (aI (aI @C.bh5_w @C.cjs_w) (aI @C.cjt_w (aI @C.bh4_w @C.cjv_w))) (aI (aI @C.bjl_w @C.ch6_w) (aI @C.ch8_w (aI @C.ch9_w @C.bjk_w))))) (aI (aI (aI (aI @C.ch3_w @C.cjb_w) (aI @C.bjj_w (aI @C.cjc_w @C.bjh_w))) (aI (aI @C.cjd_w @C.bjg_w) (aI @C.ch4_w (aI @C.cjf_w @C.cjg_w)))) (aI (aI (aI @C.bjf_w @C.ch5_w) (aI @C.cjj_w (aI @C.bjd_w @C.cjk_w))) (aI (aI @C.bjc_w @C.cjl_w) (aI @C.bh3_w (aI @C.cjm_w @C.bh2_w)))))
def C.q77_B := aI (aI (aI (aI @C.bjb_b.eq_1 @C.bh9_b.eq_1) (aI @C.bh8_b.eq_1 @C.bh7_b.eq_1)) (aI (aI @C.bh6_b.eq_1 @C.bh5_b.eq_1) (aI @C.bh4_b.eq_1 @C.bjl_b.eq_1))) (aI (aI (aI @C.bjk_b.eq_1 @C.bjj_b.eq_1) (aI @C.bjh_b.eq_1 @C.bjg_b.eq_1)) (aI (aI @C.bjf_b.eq_1 @C.bjd_b.eq_1) (aI @C.bjc_b.eq_1 (aI @C.bh3_b.eq_1 @C.bh2_b.eq_1))))

def C.bjr_b : LO := [
 X.m 13 6,
 X.m 4 13]
def C.bjr : LO := C.bjr_b
def C.bjr_w := pO C.bjr.eq_1
def C.cjw : ICode := .keep [6] (.seq (.region C.bjr) .ret)
def C.cjw_w := pC C.cjw.eq_1
def C.bjp_b : LO := [
 X.m 8 0,
 X.m 9 1,
 X.o 10 (.lookup (.agg []) true (X.s 8) (X.s 9)),
 X.m 7 10,
 X.o 11 (.extract (X.s 7) 0),
 X.o 12 (.extract (X.s 7) 1),
 X.o 5 (.alloc []),
 X.n (.storeN 0 (X.s 5) (X.s 11)),
 X.m 6 12]
def C.bjp : LO := C.bjp_b
def C.bjp_w := pO C.bjp.eq_1
def C.cjx : ICode := .keep [0, 1] (.seq (.region C.bjp) C.cjw)
def C.cjx_w := pC C.cjx.eq_1
def C.bjn_b : LO := [
 X.o 4 (.move (.cst (.bool false)))]
def C.bjn : LO := C.bjn_b
def C.bjn_w := pO C.bjn.eq_1
def C.q79 : IFunc := ⟨2, [.slot 4], .seq (.region C.bjn) C.cjx⟩
def C.q79_W := aI (aI @C.bjr_w @C.cjw_w) (aI @C.bjp_w (aI @C.cjx_w @C.bjn_w))
def C.q79_B := aI @C.bjr_b.eq_1 (aI @C.bjp_b.eq_1 @C.bjn_b.eq_1)

def C.bjm_b : LO := [
 X.m 4 0,
 X.m 5 1,
 X.o 6 (.build [] []),
 X.n (.mapSet (X.s 4) (X.s 5) (X.s 6))]
def C.bjm : LO := C.bjm_b
def C.bjm_w := pO C.bjm.eq_1
def C.q78 : IFunc := ⟨2, [], .region C.bjm⟩
def C.q78_W := @C.bjm_w
def C.q78_B := @C.bjm_b.eq_1

def C.z0 := aI @C.fb_b.eq_1 (aI @C.fg_b.eq_1 (aI @C.fh_b.eq_1 (aI @C.fj_b.eq_1 @C.fk_b.eq_1)))
def C.z1 := aI @C.d9_b.eq_1 (aI @C.fc_b.eq_1 (aI @C.fd_b.eq_1 @C.ff_b.eq_1))
def C.z2 := aI @C.fl_b.eq_1 (aI @C.fm_b.eq_1 (aI @C.fn_b.eq_1 @C.fp_b.eq_1))
def C.z3 := aI @C.fx_b.eq_1 (aI @C.fy_b.eq_1 (aI @C.fq_b.eq_1 @C.fz_b.eq_1))
def C.z4 := aI @C.f2_b.eq_1 (aI @C.f3_b.eq_1 @C.f4_b.eq_1)
def C.z5 := aI @C.gb_b.eq_1 @C.gc_b.eq_1
def C.z6 := aI @C.gd_b.eq_1 (aI @C.gf_b.eq_1 @C.g6_b.eq_1)
def C.z7 := aI @C.gh_b.eq_1 @C.gj_b.eq_1
def C.z8 := aI @C.gl_b.eq_1 @C.gm_b.eq_1
def C.z9 := aI @C.gp_b.eq_1 (aI @C.gr_b.eq_1 @C.gs_b.eq_1)
def C.z10 := aI @C.gw_b.eq_1 @C.gx_b.eq_1
def C.z11 := aI @C.gy_b.eq_1 (aI @C.gq_b.eq_1 (aI @C.gz_b.eq_1 (aI @C.g1_b.eq_1 @C.g2_b.eq_1)))
def C.z12 := aI @C.g8_b.eq_1 (aI @C.g9_b.eq_1 (aI @C.jp_b.eq_1 @C.jr_b.eq_1))
def C.z13 := aI @C.hb_b.eq_1 @C.hc_b.eq_1
def C.z14 := aI @C.hd_b.eq_1 (aI @C.hf_b.eq_1 (aI @C.hg_b.eq_1 (aI @C.hh_b.eq_1 (aI @C.hj_b.eq_1 (aI @C.hl_b.eq_1 (aI @C.hm_b.eq_1 (aI @C.hn_b.eq_1 (aI @C.hp_b.eq_1 @C.hr_b.eq_1))))))))
def C.z15 := aI @C.g7_b.eq_1 (aI @C.hk_b.eq_1 (aI @C.hy_b.eq_1 @C.jn_b.eq_1))
def C.z16 := aI @C.hs_b.eq_1 @C.ht_b.eq_1
def C.z17 := aI @C.hv_b.eq_1 @C.hw_b.eq_1
def C.z18 := aI @C.hx_b.eq_1 (aI @C.hq_b.eq_1 @C.hz_b.eq_1)
def C.z19 := aI @C.h0_b.eq_1 @C.h1_b.eq_1
def C.z20 := aI @C.h2_b.eq_1 @C.h3_b.eq_1
def C.z21 := aI @C.h4_b.eq_1 @C.h5_b.eq_1
def C.z22 := aI @C.h6_b.eq_1 @C.h7_b.eq_1
def C.z23 := aI @C.h9_b.eq_1 (aI @C.jb_b.eq_1 (aI @C.jc_b.eq_1 (aI @C.jd_b.eq_1 (aI @C.jf_b.eq_1 (aI @C.jg_b.eq_1 (aI @C.jh_b.eq_1 (aI @C.jj_b.eq_1 @C.jk_b.eq_1)))))))
def C.z24 := aI @C.h8_b.eq_1 (aI @C.jl_b.eq_1 @C.jm_b.eq_1)
def C.z25 := aI @C.jv_b.eq_1 @C.jw_b.eq_1
def C.z26 := aI @C.jy_b.eq_1 (aI @C.jq_b.eq_1 (aI @C.jz_b.eq_1 @C.j0_b.eq_1))
def C.z27 := aI @C.j1_b.eq_1 (aI @C.j2_b.eq_1 @C.j3_b.eq_1)
def C.z28 := aI @C.j4_b.eq_1 @C.j5_b.eq_1
def C.z29 := aI @C.j7_b.eq_1 @C.j8_b.eq_1
def C.z30 := aI @C.kb_b.eq_1 @C.kc_b.eq_1
def C.z31 := aI @C.kg_b.eq_1 (aI @C.kh_b.eq_1 (aI @C.kj_b.eq_1 (aI @C.kk_b.eq_1 @C.kw_b.eq_1)))
def C.z32 := aI @C.kl_b.eq_1 (aI @C.km_b.eq_1 (aI @C.ks_b.eq_1 (aI @C.kt_b.eq_1 @C.kv_b.eq_1)))
def C.z33 := aI @C.kf_b.eq_1 (aI @C.kn_b.eq_1 (aI @C.kp_b.eq_1 @C.kr_b.eq_1))
def C.z34 := aI @C.kx_b.eq_1 @C.ky_b.eq_1
def C.z35 := aI @C.kq_b.eq_1 @C.kz_b.eq_1
def C.z36 := aI @C.k0_b.eq_1 @C.k1_b.eq_1
def C.z37 := aI @C.k2_b.eq_1 @C.k3_b.eq_1
def C.z38 := aI @C.k4_b.eq_1 (aI @C.k5_b.eq_1 (aI @C.k6_b.eq_1 (aI @C.k7_b.eq_1 (aI @C.k8_b.eq_1 (aI @C.k9_b.eq_1 (aI @C.lb_b.eq_1 (aI @C.lc_b.eq_1 @C.ld_b.eq_1)))))))
def C.z39 := aI @C.mw_b.eq_1 (aI @C.my_b.eq_1 (aI @C.mx_b.eq_1 (aI @C.m0_b.eq_1 (aI @C.m1_b.eq_1 (aI @C.m4_b.eq_1 @C.m7_b.eq_1)))))
def C.z40 := aI @C.mq_b.eq_1 (aI @C.m5_b.eq_1 @C.m6_b.eq_1)
def C.z41 := aI @C.nd_b.eq_1 (aI @C.nf_b.eq_1 @C.nh_b.eq_1)
def C.z42 := aI @C.nl_b.eq_1 (aI @C.nm_b.eq_1 @C.nr_b.eq_1)
def C.z43 := aI @C.nx_b.eq_1 (aI @C.ny_b.eq_1 @C.nq_b.eq_1)
def C.z44 := aI @C.nz_b.eq_1 (aI @C.n0_b.eq_1 (aI @C.n1_b.eq_1 (aI @C.n2_b.eq_1 @C.n3_b.eq_1)))
def C.z45 := aI @C.n5_b.eq_1 (aI @C.n6_b.eq_1 (aI @C.n7_b.eq_1 (aI @C.n8_b.eq_1 (aI @C.n4_b.eq_1 (aI @C.pb_b.eq_1 (aI @C.pc_b.eq_1 (aI @C.pd_b.eq_1 (aI @C.pf_b.eq_1 (aI @C.pg_b.eq_1 (aI @C.ph_b.eq_1 (aI @C.pj_b.eq_1 @C.pk_b.eq_1)))))))))))
def C.z46 := aI @C.pl_b.eq_1 (aI @C.pm_b.eq_1 (aI @C.pn_b.eq_1 (aI @C.pp_b.eq_1 (aI @C.pr_b.eq_1 @C.ps_b.eq_1))))
def C.z47 := aI @C.bnm_w (aI @C.bnn_w (aI @C.bnr_w (aI @C.bnp_w (aI @C.bny_w (aI @C.bnq_w (aI @C.bnz_w (aI @C.bn0_w (aI @C.fb_w (aI @C.fg_w (aI @C.fh_w (aI @C.fj_w @C.fk_w)))))))))))
def C.z48 := aI @C.bns_w (aI @C.bnt_w (aI @C.bnv_w (aI @C.bnw_w (aI @C.bnx_w (aI @C.d9_w (aI @C.fc_w (aI @C.fd_w @C.ff_w)))))))
def C.z49 := aI @C.bn1_w (aI @C.bn2_w (aI @C.bn3_w (aI @C.bn4_w (aI @C.bn5_w (aI @C.b50_w (aI @C.fl_w (aI @C.fm_w (aI @C.fn_w @C.fp_w))))))))
def C.z50 := aI @C.bn6_w (aI @C.dg_w @C.dh_w)
def C.z51 := aI @C.bn7_w (aI @C.bpb_w (aI @C.bpc_w (aI @C.bpd_w (aI @C.bpf_w (aI @C.fx_w (aI @C.fy_w (aI @C.fq_w @C.fz_w)))))))
def C.z52 := aI @C.bpn_w (aI @C.bpp_w (aI @C.bpr_w (aI @C.bps_w (aI @C.f2_w (aI @C.f3_w @C.f4_w)))))
def C.z53 := aI @C.bpy_w (aI @C.bpq_w (aI @C.bpz_w (aI @C.bp0_w (aI @C.bp1_w (aI @C.dj_w (aI @C.dk_w (aI @C.dl_w @C.dm_w)))))))
def C.z54 := aI @C.bp6_w (aI @C.brl_w (aI @C.brm_w (aI @C.brn_w (aI @C.gw_w @C.gx_w))))
def C.z55 := aI @C.bp8_w (aI @C.brx_w (aI @C.bry_w (aI @C.brq_w (aI @C.gp_w (aI @C.gr_w @C.gs_w)))))
def C.z56 := aI @C.brb_w (aI @C.bsd_w (aI @C.bsf_w (aI @C.bsg_w (aI @C.gh_w @C.gj_w))))
def C.z57 := aI @C.brd_w (aI @C.bsl_w (aI @C.bsm_w (aI @C.bsn_w (aI @C.bsp_w (aI @C.gd_w (aI @C.gf_w @C.g6_w))))))
def C.z58 := aI @C.brh_w @C.bx_w
def C.z59 := aI @C.brj_w @C.cb_w
def C.z60 := aI @C.brk_w @C.b9_w
def C.z61 := aI @C.brt_w (aI @C.brv_w (aI @C.v8_w (aI @C.dn_w @C.dp_w)))
def C.z62 := aI @C.brw_w @C.b8_w
def C.z63 := aI @C.brz_w (aI @C.br1_w @C.cm_w)
def C.z64 := aI @C.brr_w @C.bw_w
def C.z65 := aI @C.br4_w (aI @C.br5_w (aI @C.br6_w (aI @C.gl_w @C.gm_w)))
def C.z66 := aI @C.br7_w @C.b5_w
def C.z67 := aI @C.br0_w (aI @C.br8_w (aI @C.bsj_w (aI @C.bss_w (aI @C.bs0_w (aI @C.bs1_w (aI @C.bs2_w (aI @C.gy_w (aI @C.gq_w (aI @C.gz_w (aI @C.g1_w @C.g2_w))))))))))
def C.z68 := aI @C.br9_w @C.b7_w
def C.z69 := aI @C.bsb_w @C.bv_w
def C.z70 := aI @C.bsc_w @C.b6_w
def C.z71 := aI @C.bsk_w @C.cp_w
def C.z72 := aI @C.bsq_w @C.cl_w
def C.z73 := aI @C.bsz_w (aI @C.gb_w @C.gc_w)
def C.z74 := aI @C.bs3_w (aI @C.bth_w (aI @C.btj_w (aI @C.btk_w (aI @C.btl_w (aI @C.btm_w (aI @C.btw_w (aI @C.bt1_w (aI @C.bvb_w (aI @C.bvk_w (aI @C.bvs_w (aI @C.bvq_w (aI @C.h9_w (aI @C.jb_w (aI @C.jc_w (aI @C.jd_w (aI @C.jf_w (aI @C.jg_w (aI @C.jh_w (aI @C.jj_w @C.jk_w)))))))))))))))))))
def C.z75 := aI @C.bs4_w (aI @C.wc_w (aI @C.btr_w (aI @C.h6_w @C.h7_w)))
def C.z76 := aI @C.bs5_w (aI @C.btp_w (aI @C.bts_w (aI @C.bmy_w (aI @C.h4_w @C.h5_w))))
def C.z77 := aI @C.bs6_w (aI @C.btt_w (aI @C.wd_w (aI @C.h2_w @C.h3_w)))
def C.z78 := aI @C.bs7_w (aI @C.btv_w (aI @C.btx_w (aI @C.bmq_w (aI @C.h0_w @C.h1_w))))
def C.z79 := aI @C.bs8_w (aI @C.bty_w (aI @C.wf_w (aI @C.hv_w @C.hw_w)))
def C.z80 := aI @C.bs9_w (aI @C.bt0_w (aI @C.bt2_w (aI @C.bm0_w (aI @C.hs_w @C.ht_w))))
def C.z81 := aI @C.btb_w (aI @C.bt4_w (aI @C.bt5_w (aI @C.bt6_w (aI @C.bt7_w (aI @C.bt8_w (aI @C.bt9_w (aI @C.bvc_w (aI @C.bvd_w (aI @C.bvf_w (aI @C.bvg_w (aI @C.bm1_w (aI @C.hd_w (aI @C.hf_w (aI @C.hg_w (aI @C.hh_w (aI @C.hj_w (aI @C.hl_w (aI @C.hm_w (aI @C.hn_w (aI @C.hp_w @C.hr_w))))))))))))))))))))
def C.z82 := aI @C.btc_w (aI @C.bt3_w (aI @C.wg_w (aI @C.hb_w @C.hc_w)))
def C.z83 := aI @C.btd_w (aI @C.bvj_w (aI @C.bvl_w (aI @C.bvm_w (aI @C.bvn_w (aI @C.wh_w (aI @C.g8_w (aI @C.g9_w (aI @C.jp_w @C.jr_w))))))))
def C.z84 := aI @C.btf_w (aI @C.btg_w (aI @C.bvp_w (aI @C.bvr_w (aI @C.bvt_w (aI @C.bvv_w (aI @C.h8_w (aI @C.jl_w @C.jm_w)))))))
def C.z85 := aI @C.btn_w @C.bh_w
def C.z86 := aI @C.bmx_w @C.bg_w
def C.z87 := aI @C.btq_w (aI @C.btz_w (aI @C.bmz_w (aI @C.hx_w (aI @C.hq_w @C.hz_w))))
def C.z88 := aI @C.bvh_w @C.bf_w
def C.z89 := aI @C.bm2_w (aI @C.bvw_w (aI @C.bvx_w (aI @C.bvy_w (aI @C.g7_w (aI @C.hk_w (aI @C.hy_w @C.jn_w))))))
def C.z90 := aI @C.bvz_w (aI @C.bwc_w (aI @C.bwd_w (aI @C.bwf_w (aI @C.j1_w (aI @C.j2_w @C.j3_w)))))
def C.z91 := aI @C.bv0_w (aI @C.bwh_w (aI @C.ww_w @C.cx_w))
def C.z92 := aI @C.bv1_w (aI @C.bwj_w (aI @C.bwk_w (aI @C.bwl_w (aI @C.bwm_w (aI @C.bwn_w (aI @C.jy_w (aI @C.jq_w (aI @C.jz_w @C.j0_w))))))))
def C.z93 := aI @C.bv4_w (aI @C.bws_w (aI @C.bwt_w (aI @C.jv_w @C.jw_w)))
def C.z94 := aI @C.bv3_w (aI @C.bwg_w (aI @C.bwx_w (aI @C.j7_w @C.j8_w)))
def C.z95 := aI @C.bv6_w (aI @C.bw1_w (aI @C.bw2_w (aI @C.cq_w @C.cz_w)))
def C.z96 := aI @C.bv9_w (aI @C.bwb_w (aI @C.wv_w (aI @C.j4_w @C.j5_w)))
def C.z97 := aI @C.p1_w @C.by_w
def C.z98 := aI @C.bwr_w @C.cv_w
def C.z99 := aI @C.bwy_w @C.bp_w
def C.z100 := aI @C.bwq_w (aI @C.bwz_w (aI @C.bw0_w (aI @C.kb_w @C.kc_w)))
def C.z101 := aI @C.bw3_w @C.bm_w
def C.z102 := aI @C.bw7_w (aI @C.bw8_w (aI @C.bxc_w (aI @C.bxd_w (aI @C.bxf_w (aI @C.bm7_w (aI @C.bxb_w (aI @C.bxj_w (aI @C.kl_w (aI @C.km_w (aI @C.ks_w (aI @C.kt_w @C.kv_w)))))))))))
def C.z103 := aI @C.bw9_w (aI @C.bxn_w (aI @C.bxp_w (aI @C.bxr_w (aI @C.bxs_w (aI @C.bm8_w (aI @C.kg_w (aI @C.kh_w (aI @C.kj_w (aI @C.kk_w @C.kw_w)))))))))
def C.z104 := aI @C.bm6_w @C.bq_w
def C.z105 := aI @C.bxg_w (aI @C.bxh_w (aI @C.bxk_w (aI @C.bxl_w (aI @C.bxm_w (aI @C.kf_w (aI @C.kn_w (aI @C.kp_w @C.kr_w)))))))
def C.z106 := aI @C.bxt_w (aI @C.bxv_w (aI @C.bxw_w (aI @C.bxx_w (aI @C.bxq_w (aI @C.bxz_w (aI @C.bx0_w (aI @C.bx1_w (aI @C.bx2_w (aI @C.bx3_w (aI @C.yc_w (aI @C.bx4_w (aI @C.bx5_w (aI @C.bx6_w (aI @C.bx7_w (aI @C.k4_w (aI @C.k5_w (aI @C.k6_w (aI @C.k7_w (aI @C.k8_w (aI @C.k9_w (aI @C.lb_w (aI @C.lc_w @C.ld_w))))))))))))))))))))))
def C.z107 := aI @C.bxy_w (aI @C.byd_w (aI @C.yd_w (aI @C.kq_w @C.kz_w)))
def C.z108 := aI @C.bx8_w (aI @C.bx9_w (aI @C.kx_w @C.ky_w))
def C.z109 := aI @C.byb_w (aI @C.bz_w (aI @C.k2_w @C.k3_w))
def C.z110 := aI @C.byc_w (aI @C.br_w (aI @C.k0_w @C.k1_w))
def C.z111 := aI @C.bq7_w (aI @C.bq8_w (aI @C.bq9_w (aI @C.bzb_w (aI @C.dr_w (aI @C.ds_w (aI @C.dt_w @C.dv_w))))))
def C.z112 := aI @C.bzc_w (aI @C.bzs_w (aI @C.bzw_w (aI @C.bzx_w (aI @C.mq_w (aI @C.m5_w @C.m6_w)))))
def C.z113 := aI @C.bzd_w (aI @C.bzg_w (aI @C.bzh_w (aI @C.bzm_w (aI @C.bzn_w (aI @C.bzp_w (aI @C.bzr_w (aI @C.bzt_w (aI @C.bzv_w (aI @C.mw_w (aI @C.my_w (aI @C.mx_w (aI @C.m0_w (aI @C.m1_w (aI @C.m4_w @C.m7_w))))))))))))))
def C.z114 := aI @C.bzq_w (aI @C.b0b_w (aI @C.b0c_w (aI @C.dy_w @C.dq_w)))
def C.z115 := aI @C.bz0_w (aI @C.b0h_w (aI @C.b0k_w (aI @C.b0l_w (aI @C.nd_w (aI @C.nf_w @C.nh_w)))))
def C.z116 := aI @C.bz2_w (aI @C.b0n_w (aI @C.b0s_w (aI @C.b0v_w (aI @C.dw_w (aI @C.d1_w @C.d2_w)))))
def C.z117 := aI @C.bz4_w (aI @C.b0t_w (aI @C.b03_w (aI @C.b04_w (aI @C.nl_w (aI @C.nm_w @C.nr_w)))))
def C.z118 := aI @C.bz7_w (aI @C.bz8_w (aI @C.bz9_w (aI @C.c7_w @C.c8_w)))
def C.z119 := aI @C.bz5_w (aI @C.b0g_w (aI @C.b0d_w (aI @C.dx_w (aI @C.dz_w @C.d0_w))))
def C.z120 := aI @C.bng_w @C.b4_w
def C.z121 := aI @C.bk9_w @C.cc_w
def C.z122 := aI @C.b05_w (aI @C.b06_w (aI @C.b1g_w (aI @C.b1h_w (aI @C.nx_w (aI @C.ny_w @C.nq_w)))))
def C.z123 := aI @C.b07_w @C.bk_w
def C.z124 := aI @C.b08_w (aI @C.b09_w (aI @C.b1b_w (aI @C.b1c_w (aI @C.b1d_w (aI @C.b1f_w (aI @C.nz_w (aI @C.n0_w (aI @C.n1_w (aI @C.n2_w @C.n3_w)))))))))
def C.z125 := aI @C.b1j_w (aI @C.b1p_w (aI @C.b1r_w (aI @C.db_w @C.dc_w)))
def C.z126 := aI @C.b1l_w (aI @C.b1m_w (aI @C.b2c_w (aI @C.d3_w @C.d4_w)))
def C.z127 := aI @C.b1n_w @C.dd_w
def C.z128 := aI @C.b1v_w (aI @C.b1w_w (aI @C.b1x_w (aI @C.b1y_w (aI @C.b1q_w (aI @C.b1z_w (aI @C.b10_w (aI @C.b11_w (aI @C.b12_w (aI @C.b13_w (aI @C.b14_w (aI @C.b15_w (aI @C.b16_w (aI @C.b17_w (aI @C.b18_w (aI @C.b19_w (aI @C.b2b_w (aI @C.n5_w (aI @C.n6_w (aI @C.n7_w (aI @C.n8_w (aI @C.n4_w (aI @C.pb_w (aI @C.pc_w (aI @C.pd_w (aI @C.pf_w (aI @C.pg_w (aI @C.ph_w (aI @C.pj_w @C.pk_w))))))))))))))))))))))))))))
def C.z129 := aI @C.bnj_w @C.cf_w
def C.z130 := aI @C.bnk_w @C.cd_w
def C.z131 := aI @C.bnl_w @C.df_w
def C.z132 := aI @C.b2d_w (aI @C.b2f_w (aI @C.b2g_w (aI @C.b2h_w (aI @C.b2j_w (aI @C.b2k_w (aI @C.b2l_w (aI @C.pl_w (aI @C.pm_w (aI @C.pn_w (aI @C.pp_w (aI @C.pr_w @C.ps_w)))))))))))
def C.z133 := aI @C.b2s_w (aI @C.b2t_w (aI @C.b2v_w (aI @C.b2w_w (aI @C.d5_w (aI @C.d6_w (aI @C.d7_w @C.d8_w))))))
def Bt := aI @Bp (aI @aop.eq_28 @aop.eq_30)
def Bu := aI @Bq @Bs
end Go.Proofs.YtdmfgodajoojpaaGreatDoor.Cn
