/- The intermediate code of the functions, printed by a program out of the loaded program; that it is theirs is checked in the text of links. -/
import Derived.Test.YtdmfgodajoojpaaGreatDoorCnIr2
set_option linter.defProp false
namespace Go.Proofs.YtdmfgodajoojpaaGreatDoor.Cn
open Go
variable {P : Program} {Q : IExit → AFr → ASt → Prop} {fr : AFr} {st : ASt}


def C.bb4_b : LO := [
 X.o 4 (.loadN 4 (X.s 1)),
 X.o 5 (.loadN 3 (X.s 2)),
 X.o 6 (.call F.q53 [X.s 4, X.s 5]),
 X.m 3 6]
def C.bb4 : LO := C.bb4_b
def C.bb4_w := pO C.bb4.eq_1
def C.ccd : ICode := .keep [1, 2] (.seq (.region C.bb4) .ret)
def C.ccd_w := pC C.ccd.eq_1
def C.ln_b : LO := [
 X.o 2 (.boxN (X.s 0)),
 X.o 3 (.move (X.i 0))]
def C.ln : LO := C.ln_b
def C.ln_w := pO C.ln.eq_1
def C.q31 : IFunc := ⟨2, [.slot 3], .seq (.region C.ln) C.ccd⟩
def C.q31_W := aI @C.bb4_w (aI @C.ccd_w @C.ln_w)
def C.q31_B := aI @C.bb4_b.eq_1 @C.ln_b.eq_1

def C.bd5_b : LO := [
 X.o 5 (.makeFunc F.q54 [X.s 3, X.s 2]),
 X.o 6 (.makeFunc F.q55 [X.s 3]),
 X.o 7 (.buildSlice 1 2 [.nilf] [(0, 1, X.s 5), (1, 1, X.s 6)]),
 X.o 8 (.call F.q61 [X.s 7]),
 X.m 4 8]
def C.bd5 : LO := C.bd5_b
def C.bd5_w := pO C.bd5.eq_1
def C.cd3 : ICode := .keep [2, 3] (.seq (.region C.bd5) .ret)
def C.cd3_w := pC C.cd3.eq_1
def C.bd4_b : LO := [
 X.o 2 (.boxN (X.s 0)),
 X.o 3 (.boxN (X.s 1)),
 X.o 4 (.move (X.i 0))]
def C.bd4 : LO := C.bd4_b
def C.bd4_w := pO C.bd4.eq_1
def C.q53 : IFunc := ⟨2, [.slot 4], .seq (.region C.bd4) C.cd3⟩
def C.q53_W := aI @C.bd5_w (aI @C.cd3_w @C.bd4_w)
def C.q53_B := aI @C.bd5_b.eq_1 @C.bd4_b.eq_1

def C.bb6_b : LO := [
 X.o 2 (.loadN 4 (X.s 0)),
 X.o 3 (.call F.q39 [X.s 2]),
 X.o 4 (.call F.q46 [X.s 3]),
 X.m 1 4]
def C.bb6 : LO := C.bb6_b
def C.bb6_w := pO C.bb6.eq_1
def C.ccf : ICode := .keep [0] (.seq (.region C.bb6) .ret)
def C.ccf_w := pC C.ccf.eq_1
def C.bb5_b : LO := [
 X.o 1 (.move (X.i 0))]
def C.bb5 : LO := C.bb5_b
def C.bb5_w := pO C.bb5.eq_1
def C.q32 : IFunc := ⟨1, [.slot 1], .seq (.region C.bb5) C.ccf⟩
def C.q32_W := aI @C.bb6_w (aI @C.ccf_w @C.bb5_w)
def C.q32_B := aI @C.bb6_b.eq_1 @C.bb5_b.eq_1

def C.l0_b : LO := [
 X.m 28 3,
 X.m 2 28]
def C.l0 : LO := C.l0_b
def C.l0_w := pO C.l0.eq_1
def C.by7 : ICode := .keep [3] (.seq (.region C.l0) .ret)
def C.by7_w := pC C.by7.eq_1
def C.lz_b : LO := [
 X.o 27 (.bin .add (X.s 13) (X.i 1)),
 X.m 13 27]
def C.lz : LO := C.lz_b
def C.lz_w := pO C.lz.eq_1
def C.bqb : ICode := .keep [3, 11, 12, 13] (.region C.lz)
def C.bqb_w := pC C.bqb.eq_1
def C.bcy_b : LO := [
 X.m 21 3,
 X.m 22 4,
 X.o 23 (.fldAddr 0 (X.s 5)),
 X.o 24 (.load1 (X.s 23)),
 X.o 25 (.buildSlice 1 1 [.int .i64 0] [(0, 1, X.s 24)]),
 X.o 26 (.idxAddr 1 (X.s 21) (X.s 22)),
 X.n (.store1 (X.s 26) (X.s 25))]
def C.bcy : LO := C.bcy_b
def C.bcy_w := pO C.bcy.eq_1
def C.cc6 : ICode := .keep [3, 4, 5, 11, 12, 13, 20] (.cond (X.s 20) (.region C.bcy) .skip)
def C.cc6_w := pC C.cc6.eq_1
def C.bcx_b : LO := [
 X.o 18 (.fldAddr 0 (X.s 5)),
 X.o 19 (.load1 (X.s 18)),
 X.o 20 (.bin .neq (X.s 19) (X.i (-1)))]
def C.bcx : LO := C.bcx_b
def C.bcx_w := pO C.bcx.eq_1
def C.cc7 : ICode := .keep [3, 4, 5, 11, 12, 13] (.seq (.region C.bcx) C.cc6)
def C.cc7_w := pC C.cc7.eq_1
def C.lq_b : LO := [
 X.m 15 13,
 X.o 16 (.idxAddr 3 (X.s 11) (X.s 13)),
 X.o 17 (.loadN 3 (X.s 16)),
 X.o 5 (.alloc [.int .i64 0, .int .i64 0, .bool false]),
 X.m 4 15,
 X.n (.storeN 3 (X.s 5) (X.s 17))]
def C.lq : LO := C.lq_b
def C.lq_w := pO C.lq.eq_1
def C.by5 : ICode := .seq (.region C.lq) C.cc7
def C.by5_w := pC C.by5.eq_1
def C.bqc : ICode := .keep [3, 11, 12, 13] (.seq (.block 1 C.by5) C.bqb)
def C.bqc_w := pC C.bqc.eq_1
def C.bqd : ICode := .keep [3, 11, 12, 13, 14] (.seq (.cond (X.s 14) .skip (.exit 0)) C.bqc)
def C.bqd_w := pC C.bqd.eq_1
def C.ly_b : LO := [
 X.o 14 (.bin .lss (X.s 13) (X.s 12))]
def C.ly : LO := C.ly_b
def C.ly_w := pO C.ly.eq_1
def C.cp0 : ICode := .keep [3, 11, 12, 13] (.seq (.region C.ly) C.bqd)
def C.cp0_w := pC C.cp0.eq_1
def C.by6 : ICode := .loop C.cp0
def C.by6_w := pC C.by6.eq_1
def C.by8 : ICode := .keep [3, 11, 12, 13] (.block 0 C.by6)
def C.by8_w := pC C.by8.eq_1
def C.lx_b : LO := [
 X.o 10 (.fldAddr 1 (X.s 1)),
 X.o 11 (.load1 (X.s 10)),
 X.o 12 (.len (X.s 11)),
 X.o 13 (.move (X.i 0))]
def C.lx : LO := C.lx_b
def C.lx_w := pO C.lx.eq_1
def C.by9 : ICode := .keep [1, 3] (.seq (.seq (.region C.lx) C.by8) C.by7)
def C.by9_w := pC C.by9.eq_1
def C.c9_b : LO := [
 X.o 6 (.fldAddr 1 (X.s 1)),
 X.o 7 (.load1 (X.s 6)),
 X.o 8 (.len (X.s 7)),
 X.o 9 (.makeSlice 1 24 [.nils] (X.s 8) (X.s 8)),
 X.m 3 9]
def C.c9 : LO := C.c9_b
def C.c9_w := pO C.c9.eq_1
def C.bn1 : ICode := .keep [1] (.seq (.region C.c9) C.by9)
def C.bn1_w := pC C.bn1.eq_1
def C.b3_b : LO := [
 X.o 1 (.boxN (X.s 0)),
 X.o 2 (.move (.cst (.nils)))]
def C.b3 : LO := C.b3_b
def C.b3_w := pO C.b3.eq_1
def C.q39 : IFunc := ⟨1, [.slot 2], .seq (.region C.b3) C.bn1⟩
def C.q39_W := aI (aI (aI (aI @C.l0_w @C.by7_w) (aI @C.lz_w (aI @C.bqb_w @C.bcy_w))) (aI (aI @C.cc6_w @C.bcx_w) (aI @C.cc7_w (aI @C.lq_w @C.by5_w)))) (aI (aI (aI @C.bqc_w @C.bqd_w) (aI @C.ly_w (aI @C.by6_w @C.by8_w))) (aI (aI @C.lx_w @C.by9_w) (aI @C.c9_w (aI @C.bn1_w @C.b3_w))))
def C.q39_B := aI (aI (aI @C.l0_b.eq_1 @C.lz_b.eq_1) (aI @C.bcy_b.eq_1 @C.bcx_b.eq_1)) (aI (aI @C.lq_b.eq_1 @C.ly_b.eq_1) (aI @C.lx_b.eq_1 (aI @C.c9_b.eq_1 @C.b3_b.eq_1)))

def C.bb8_b : LO := [
 X.o 2 (.fldAddr 2 (X.s 0)),
 X.o 3 (.load1 (X.s 2)),
 X.o 4 (.call F.q59 [X.s 3, .fnc F.q71]),
 X.m 1 4]
def C.bb8 : LO := C.bb8_b
def C.bb8_w := pO C.bb8.eq_1
def C.ccg : ICode := .keep [0] (.seq (.region C.bb8) .ret)
def C.ccg_w := pC C.ccg.eq_1
def C.bb7_b : LO := [
 X.o 1 (.move (X.i 0))]
def C.bb7 : LO := C.bb7_b
def C.bb7_w := pO C.bb7.eq_1
def C.q33 : IFunc := ⟨1, [.slot 1], .seq (.region C.bb7) C.ccg⟩
def C.q33_W := aI @C.bb8_w (aI @C.ccg_w @C.bb7_w)
def C.q33_B := aI @C.bb8_b.eq_1 @C.bb7_b.eq_1

def C.mq_b : LO := [
 X.o 4 (.move (X.i 0))]
def C.mq : LO := C.mq_b
def C.mq_w := pO C.mq.eq_1
def C.bzj : ICode := .keep [] (.seq (.region C.mq) .ret)
def C.bzj_w := pC C.bzj.eq_1
def C.my_b : LO := [
 X.o 20 (.bin .add (X.s 10) (X.i 1)),
 X.m 10 20]
def C.my : LO := C.my_b
def C.my_w := pO C.my.eq_1
def C.bzm : ICode := .keep [1, 8, 9, 10] (.region C.my)
def C.bzm_w := pC C.bzm.eq_1
def C.bfp_b : LO := [
 X.m 19 7,
 X.m 4 19]
def C.bfp : LO := C.bfp_b
def C.bfp_w := pO C.bfp.eq_1
def C.cfl : ICode := .seq (.region C.bfp) .ret
def C.cfl_w := pC C.cfl.eq_1
def C.cfm : ICode := .keep [1, 7, 8, 9, 10, 18] (.cond (X.s 18) C.cfl .skip)
def C.cfm_w := pC C.cfm.eq_1
def C.bfn_b : LO := [
 X.m 17 7,
 X.o 18 (.bin .neq (X.s 17) (X.i 0))]
def C.bfn : LO := C.bfn_b
def C.bfn_w := pO C.bfn.eq_1
def C.cfn : ICode := .keep [1, 7, 8, 9, 10] (.seq (.region C.bfn) C.cfm)
def C.cfn_w := pC C.cfn.eq_1
def C.bfm_b : LO := [
 X.m 14 1,
 X.o 15 (.loadN 1 (X.s 6)),
 X.o 16 (.callv (X.s 14) [X.s 15]),
 X.m 7 16]
def C.bfm : LO := C.bfm_b
def C.bfm_w := pO C.bfm.eq_1
def C.cfp : ICode := .keep [1, 6, 8, 9, 10] (.seq (.region C.bfm) C.cfn)
def C.cfp_w := pC C.cfp.eq_1
def C.mx_b : LO := [
 X.o 12 (.idxAddr 1 (X.s 8) (X.s 10)),
 X.o 13 (.loadN 1 (X.s 12)),
 X.o 6 (.alloc [.int .i64 0]),
 X.n (.storeN 1 (X.s 6) (X.s 13))]
def C.mx : LO := C.mx_b
def C.mx_w := pO C.mx.eq_1
def C.bzh : ICode := .seq (.region C.mx) C.cfp
def C.bzh_w := pC C.bzh.eq_1
def C.bzn : ICode := .keep [1, 8, 9, 10] (.seq (.block 1 C.bzh) C.bzm)
def C.bzn_w := pC C.bzn.eq_1
def C.bzp : ICode := .keep [1, 8, 9, 10, 11] (.seq (.cond (X.s 11) .skip (.exit 0)) C.bzn)
def C.bzp_w := pC C.bzp.eq_1
def C.mw_b : LO := [
 X.o 11 (.bin .lss (X.s 10) (X.s 9))]
def C.mw : LO := C.mw_b
def C.mw_w := pO C.mw.eq_1
def C.cp5 : ICode := .keep [1, 8, 9, 10] (.seq (.region C.mw) C.bzp)
def C.cp5_w := pC C.cp5.eq_1
def C.bzg : ICode := .loop C.cp5
def C.bzg_w := pC C.bzg.eq_1
def C.bzk : ICode := .keep [1, 8, 9, 10] (.block 0 C.bzg)
def C.bzk_w := pC C.bzk.eq_1
def C.mv_b : LO := [
 X.m 8 0,
 X.o 9 (.len (X.s 8)),
 X.o 10 (.move (X.i 0))]
def C.mv : LO := C.mv_b
def C.mv_w := pO C.mv.eq_1
def C.bzl : ICode := .keep [0, 1] (.seq (.seq (.region C.mv) C.bzk) C.bzj)
def C.bzl_w := pC C.bzl.eq_1
def C.mt_b : LO := [
 X.o 4 (.move (X.i 0))]
def C.mt : LO := C.mt_b
def C.mt_w := pO C.mt.eq_1
def C.q59 : IFunc := ⟨2, [.slot 4], .seq (.region C.mt) C.bzl⟩
def C.q59_W := aI (aI (aI (aI @C.mq_w @C.bzj_w) (aI @C.my_w (aI @C.bzm_w @C.bfp_w))) (aI (aI @C.cfl_w @C.cfm_w) (aI @C.bfn_w (aI @C.cfn_w @C.bfm_w)))) (aI (aI (aI @C.cfp_w @C.mx_w) (aI @C.bzh_w (aI @C.bzn_w @C.bzp_w))) (aI (aI @C.mw_w (aI @C.bzg_w @C.bzk_w)) (aI @C.mv_w (aI @C.bzl_w @C.mt_w))))
def C.q59_B := aI (aI (aI @C.mq_b.eq_1 @C.my_b.eq_1) (aI @C.bfp_b.eq_1 @C.bfn_b.eq_1)) (aI (aI @C.bfm_b.eq_1 @C.mx_b.eq_1) (aI @C.mw_b.eq_1 (aI @C.mv_b.eq_1 @C.mt_b.eq_1)))

def C.bhn_b : LO := [
 X.o 3 (.fldAddr 0 (X.s 1)),
 X.o 4 (.load1 (X.s 3)),
 X.o 5 (.call F.q74 [X.s 4, X.i 0, X.i 20]),
 X.o 6 (.un .not (X.s 5)),
 X.o 7 (.call F.q73 [X.s 6, X.i 3]),
 X.m 2 7]
def C.bhn : LO := C.bhn_b
def C.bhn_w := pO C.bhn.eq_1
def C.cht : ICode := .keep [1] (.seq (.region C.bhn) .ret)
def C.cht_w := pC C.cht.eq_1
def C.bhm_b : LO := [
 X.o 1 (.boxN (X.s 0)),
 X.o 2 (.move (X.i 0))]
def C.bhm : LO := C.bhm_b
def C.bhm_w := pO C.bhm.eq_1
def C.q71 : IFunc := ⟨1, [.slot 2], .seq (.region C.bhm) C.cht⟩
def C.q71_W := aI @C.bhn_w (aI @C.cht_w @C.bhm_w)
def C.q71_B := aI @C.bhn_b.eq_1 @C.bhm_b.eq_1

def C.bcb_b : LO := [
 X.o 2 (.fldAddr 3 (X.s 0)),
 X.o 3 (.load1 (X.s 2)),
 X.o 4 (.makeFunc F.q35 [X.s 0]),
 X.o 5 (.call F.q57 [X.s 3, X.s 4]),
 X.m 1 5]
def C.bcb : LO := C.bcb_b
def C.bcb_w := pO C.bcb.eq_1
def C.cch : ICode := .keep [0] (.seq (.region C.bcb) .ret)
def C.cch_w := pC C.cch.eq_1
def C.bb9_b : LO := [
 X.o 1 (.move (X.i 0))]
def C.bb9 : LO := C.bb9_b
def C.bb9_w := pO C.bb9.eq_1
def C.q34 : IFunc := ⟨1, [.slot 1], .seq (.region C.bb9) C.cch⟩
def C.q34_W := aI @C.bcb_w (aI @C.cch_w @C.bb9_w)
def C.q34_B := aI @C.bcb_b.eq_1 @C.bb9_b.eq_1

def C.mk_b : LO := [
 X.o 4 (.move (X.i 0))]
def C.mk : LO := C.mk_b
def C.mk_w := pO C.mk.eq_1
def C.bq0 : ICode := .keep [] (.seq (.region C.mk) .ret)
def C.bq0_w := pC C.bq0.eq_1
def C.mj_b : LO := [
 X.o 20 (.bin .add (X.s 10) (X.i 1)),
 X.m 10 20]
def C.mj : LO := C.mj_b
def C.mj_w := pO C.mj.eq_1
def C.bq3 : ICode := .keep [1, 8, 9, 10] (.region C.mj)
def C.bq3_w := pC C.bq3.eq_1
def C.bfh_b : LO := [
 X.m 19 7,
 X.m 4 19]
def C.bfh : LO := C.bfh_b
def C.bfh_w := pO C.bfh.eq_1
def C.cfb : ICode := .seq (.region C.bfh) .ret
def C.cfb_w := pC C.cfb.eq_1
def C.cfc : ICode := .keep [1, 7, 8, 9, 10, 18] (.cond (X.s 18) C.cfb .skip)
def C.cfc_w := pC C.cfc.eq_1
def C.bfg_b : LO := [
 X.m 17 7,
 X.o 18 (.bin .neq (X.s 17) (X.i 0))]
def C.bfg : LO := C.bfg_b
def C.bfg_w := pO C.bfg.eq_1
def C.cfd : ICode := .keep [1, 7, 8, 9, 10] (.seq (.region C.bfg) C.cfc)
def C.cfd_w := pC C.cfd.eq_1
def C.bff_b : LO := [
 X.m 14 1,
 X.o 15 (.loadN 6 (X.s 6)),
 X.o 16 (.callv (X.s 14) [X.s 15]),
 X.m 7 16]
def C.bff : LO := C.bff_b
def C.bff_w := pO C.bff.eq_1
def C.cff : ICode := .keep [1, 6, 8, 9, 10] (.seq (.region C.bff) C.cfd)
def C.cff_w := pC C.cff.eq_1
def C.mh_b : LO := [
 X.o 12 (.idxAddr 6 (X.s 8) (X.s 10)),
 X.o 13 (.loadN 6 (X.s 12)),
 X.o 6 (.alloc [.int .i64 0, .int .i64 0, .int .i64 0, .int .u32 0, .nils, .nils]),
 X.n (.storeN 6 (X.s 6) (X.s 13))]
def C.mh : LO := C.mh_b
def C.mh_w := pO C.mh.eq_1
def C.bqz : ICode := .seq (.region C.mh) C.cff
def C.bqz_w := pC C.bqz.eq_1
def C.bq4 : ICode := .keep [1, 8, 9, 10] (.seq (.block 1 C.bqz) C.bq3)
def C.bq4_w := pC C.bq4.eq_1
def C.bq5 : ICode := .keep [1, 8, 9, 10, 11] (.seq (.cond (X.s 11) .skip (.exit 0)) C.bq4)
def C.bq5_w := pC C.bq5.eq_1
def C.mg_b : LO := [
 X.o 11 (.bin .lss (X.s 10) (X.s 9))]
def C.mg : LO := C.mg_b
def C.mg_w := pO C.mg.eq_1
def C.cp3 : ICode := .keep [1, 8, 9, 10] (.seq (.region C.mg) C.bq5)
def C.cp3_w := pC C.cp3.eq_1
def C.bqq : ICode := .loop C.cp3
def C.bqq_w := pC C.bqq.eq_1
def C.bq1 : ICode := .keep [1, 8, 9, 10] (.block 0 C.bqq)
def C.bq1_w := pC C.bq1.eq_1
def C.mf_b : LO := [
 X.m 8 0,
 X.o 9 (.len (X.s 8)),
 X.o 10 (.move (X.i 0))]
def C.mf : LO := C.mf_b
def C.mf_w := pO C.mf.eq_1
def C.bq2 : ICode := .keep [0, 1] (.seq (.seq (.region C.mf) C.bq1) C.bq0)
def C.bq2_w := pC C.bq2.eq_1
def C.md_b : LO := [
 X.o 4 (.move (X.i 0))]
def C.md : LO := C.md_b
def C.md_w := pO C.md.eq_1
def C.q57 : IFunc := ⟨2, [.slot 4], .seq (.region C.md) C.bq2⟩
def C.q57_W := aI (aI (aI (aI @C.mk_w @C.bq0_w) (aI @C.mj_w (aI @C.bq3_w @C.bfh_w))) (aI (aI @C.cfb_w @C.cfc_w) (aI @C.bfg_w (aI @C.cfd_w @C.bff_w)))) (aI (aI (aI @C.cff_w @C.mh_w) (aI @C.bqz_w (aI @C.bq4_w @C.bq5_w))) (aI (aI @C.mg_w (aI @C.bqq_w @C.bq1_w)) (aI @C.mf_w (aI @C.bq2_w @C.md_w))))
def C.q57_B := aI (aI (aI @C.mk_b.eq_1 @C.mj_b.eq_1) (aI @C.bfh_b.eq_1 @C.bfg_b.eq_1)) (aI (aI @C.bff_b.eq_1 @C.mh_b.eq_1) (aI @C.mg_b.eq_1 (aI @C.mf_b.eq_1 @C.md_b.eq_1)))

def C.bcc_b : LO := [
 X.o 4 (.loadN 4 (X.s 1)),
 X.o 5 (.loadN 6 (X.s 2)),
 X.o 6 (.call F.q47 [X.s 4, X.s 5]),
 X.m 3 6]
def C.bcc : LO := C.bcc_b
def C.bcc_w := pO C.bcc.eq_1
def C.ccj : ICode := .keep [1, 2] (.seq (.region C.bcc) .ret)
def C.ccj_w := pC C.ccj.eq_1
def C.lp_b : LO := [
 X.o 2 (.boxN (X.s 0)),
 X.o 3 (.move (X.i 0))]
def C.lp : LO := C.lp_b
def C.lp_w := pO C.lp.eq_1
def C.q35 : IFunc := ⟨2, [.slot 3], .seq (.region C.lp) C.ccj⟩
def C.q35_W := aI @C.bcc_w (aI @C.ccj_w @C.lp_w)
def C.q35_B := aI @C.bcc_b.eq_1 @C.lp_b.eq_1

def C.bdg_b : LO := [
 X.o 5 (.makeFunc F.q48 [X.s 3, X.s 2]),
 X.o 6 (.makeFunc F.q49 [X.s 3, X.s 2]),
 X.o 7 (.makeFunc F.q50 [X.s 3, X.s 2]),
 X.o 8 (.makeFunc F.q51 [X.s 3, X.s 2]),
 X.o 9 (.buildSlice 1 4 [.nilf] [(0, 1, X.s 5), (1, 1, X.s 6), (2, 1, X.s 7), (3, 1, X.s 8)]),
 X.o 10 (.call F.q61 [X.s 9]),
 X.m 4 10]
def C.bdg : LO := C.bdg_b
def C.bdg_w := pO C.bdg.eq_1
def C.cdj : ICode := .keep [2, 3] (.seq (.region C.bdg) .ret)
def C.cdj_w := pC C.cdj.eq_1
def C.bdf_b : LO := [
 X.o 2 (.boxN (X.s 0)),
 X.o 3 (.boxN (X.s 1)),
 X.o 4 (.move (X.i 0))]
def C.bdf : LO := C.bdf_b
def C.bdf_w := pO C.bdf.eq_1
def C.q47 : IFunc := ⟨2, [.slot 4], .seq (.region C.bdf) C.cdj⟩
def C.q47_W := aI @C.bdg_w (aI @C.cdj_w @C.bdf_w)
def C.q47_B := aI @C.bdg_b.eq_1 @C.bdf_b.eq_1

def C.bcf_b : LO := [
 X.o 2 (.loadN 4 (X.s 0)),
 X.o 3 (.call F.q40 [X.s 2]),
 X.o 4 (.call F.q46 [X.s 3]),
 X.m 1 4]
def C.bcf : LO := C.bcf_b
def C.bcf_w := pO C.bcf.eq_1
def C.cck : ICode := .keep [0] (.seq (.region C.bcf) .ret)
def C.cck_w := pC C.cck.eq_1
def C.bcd_b : LO := [
 X.o 1 (.move (X.i 0))]
def C.bcd : LO := C.bcd_b
def C.bcd_w := pO C.bcd.eq_1
def C.q36 : IFunc := ⟨1, [.slot 1], .seq (.region C.bcd) C.cck⟩
def C.q36_W := aI @C.bcf_w (aI @C.cck_w @C.bcd_w)
def C.q36_B := aI @C.bcf_b.eq_1 @C.bcd_b.eq_1

def C.l5_b : LO := [
 X.m 25 3,
 X.m 2 25]
def C.l5 : LO := C.l5_b
def C.l5_w := pO C.l5.eq_1
def C.bqh : ICode := .keep [3] (.seq (.region C.l5) .ret)
def C.bqh_w := pC C.bqh.eq_1
def C.l4_b : LO := [
 X.o 24 (.bin .add (X.s 13) (X.i 1)),
 X.m 13 24]
def C.l4 : LO := C.l4_b
def C.l4_w := pO C.l4.eq_1
def C.bqk : ICode := .keep [3, 11, 12, 13] (.region C.l4)
def C.bqk_w := pC C.bqk.eq_1
def C.bc0_b : LO := [
 X.m 18 3,
 X.m 19 4,
 X.o 20 (.fldAddr 5 (X.s 5)),
 X.o 21 (.load1 (X.s 20)),
 X.o 22 (.call F.q70 [X.s 21]),
 X.o 23 (.idxAddr 1 (X.s 18) (X.s 19)),
 X.n (.store1 (X.s 23) (X.s 22))]
def C.bc0 : LO := C.bc0_b
def C.bc0_w := pO C.bc0.eq_1
def C.cc9 : ICode := .keep [3, 4, 5, 11, 12, 13] (.region C.bc0)
def C.cc9_w := pC C.cc9.eq_1
def C.l3_b : LO := [
 X.m 15 13,
 X.o 16 (.idxAddr 6 (X.s 11) (X.s 13)),
 X.o 17 (.loadN 6 (X.s 16)),
 X.o 5 (.alloc [.int .i64 0, .int .i64 0, .int .i64 0, .int .u32 0, .nils, .nils]),
 X.m 4 15,
 X.n (.storeN 6 (X.s 5) (X.s 17))]
def C.l3 : LO := C.l3_b
def C.l3_w := pO C.l3.eq_1
def C.bqf : ICode := .seq (.region C.l3) C.cc9
def C.bqf_w := pC C.bqf.eq_1
def C.bql : ICode := .keep [3, 11, 12, 13] (.seq (.block 1 C.bqf) C.bqk)
def C.bql_w := pC C.bql.eq_1
def C.bqm : ICode := .keep [3, 11, 12, 13, 14] (.seq (.cond (X.s 14) .skip (.exit 0)) C.bql)
def C.bqm_w := pC C.bqm.eq_1
def C.l2_b : LO := [
 X.o 14 (.bin .lss (X.s 13) (X.s 12))]
def C.l2 : LO := C.l2_b
def C.l2_w := pO C.l2.eq_1
def C.cp1 : ICode := .keep [3, 11, 12, 13] (.seq (.region C.l2) C.bqm)
def C.cp1_w := pC C.cp1.eq_1
def C.bqg : ICode := .loop C.cp1
def C.bqg_w := pC C.bqg.eq_1
def C.bqn : ICode := .keep [3, 11, 12, 13] (.block 0 C.bqg)
def C.bqn_w := pC C.bqn.eq_1
def C.l1_b : LO := [
 X.o 10 (.fldAddr 3 (X.s 1)),
 X.o 11 (.load1 (X.s 10)),
 X.o 12 (.len (X.s 11)),
 X.o 13 (.move (X.i 0))]
def C.l1 : LO := C.l1_b
def C.l1_w := pO C.l1.eq_1
def C.bqj : ICode := .keep [1, 3] (.seq (.seq (.region C.l1) C.bqn) C.bqh)
def C.bqj_w := pC C.bqj.eq_1
def C.db_b : LO := [
 X.o 6 (.fldAddr 3 (X.s 1)),
 X.o 7 (.load1 (X.s 6)),
 X.o 8 (.len (X.s 7)),
 X.o 9 (.makeSlice 1 24 [.nils] (X.s 8) (X.s 8)),
 X.m 3 9]
def C.db : LO := C.db_b
def C.db_w := pO C.db.eq_1
def C.bn2 : ICode := .keep [1] (.seq (.region C.db) C.bqj)
def C.bn2_w := pC C.bn2.eq_1
def C.b4_b : LO := [
 X.o 1 (.boxN (X.s 0)),
 X.o 2 (.move (.cst (.nils)))]
def C.b4 : LO := C.b4_b
def C.b4_w := pO C.b4.eq_1
def C.q40 : IFunc := ⟨1, [.slot 2], .seq (.region C.b4) C.bn2⟩
def C.q40_W := aI (aI (aI (aI @C.l5_w @C.bqh_w) (aI @C.l4_w @C.bqk_w)) (aI (aI @C.bc0_w @C.cc9_w) (aI @C.l3_w (aI @C.bqf_w @C.bql_w)))) (aI (aI (aI @C.bqm_w @C.l2_w) (aI @C.bqg_w @C.bqn_w)) (aI (aI @C.l1_w @C.bqj_w) (aI @C.db_w (aI @C.bn2_w @C.b4_w))))
def C.q40_B := aI (aI (aI @C.l5_b.eq_1 @C.l4_b.eq_1) (aI @C.bc0_b.eq_1 @C.l3_b.eq_1)) (aI (aI @C.l2_b.eq_1 @C.l1_b.eq_1) (aI @C.db_b.eq_1 @C.b4_b.eq_1))

def C.wf_b : LO := [
 X.o 4 (.move (X.i 0))]
def C.wf : LO := C.wf_b
def C.wf_w := pO C.wf.eq_1
def C.b7r : ICode := .keep [] (.seq (.region C.wf) .ret)
def C.b7r_w := pC C.b7r.eq_1
def C.wd_b : LO := [
 X.m 20 0,
 X.o 21 (.nilchk (X.s 20)),
 X.o 22 (.fldAddr 0 (X.s 21)),
 X.o 23 (.load1 (X.s 22)),
 X.m 24 1,
 X.o 25 (.loadN 4 (X.s 5)),
 X.n (.mapSet (X.s 23) (X.s 24) (X.s 25))]
def C.wd : LO := C.wd_b
def C.wd_w := pO C.wd.eq_1
def C.b7s : ICode := .keep [0, 1, 5] (.seq (.region C.wd) C.b7r)
def C.b7s_w := pC C.b7s.eq_1
def C.wc_b : LO := [
 X.o 15 (.fldAddr 0 (X.s 5)),
 X.o 16 (.load1 (X.s 15)),
 X.o 17 (.fldAddr 2 (X.s 5)),
 X.n (.store1 (X.s 17) (.cst (.bool true))),
 X.o 18 (.fldAddr 1 (X.s 5)),
 X.n (.store1 (X.s 18) (X.s 16)),
 X.o 19 (.fldAddr 3 (X.s 5)),
 X.n (.store1 (X.s 19) (.cst (.bool false)))]
def C.wc : LO := C.wc_b
def C.wc_w := pO C.wc.eq_1
def C.b7t : ICode := .keep [0, 1, 5] (.seq (.region C.wc) C.b7s)
def C.b7t_w := pC C.b7t.eq_1
def C.wb_b : LO := [
 X.o 4 (.move (X.i 4))]
def C.wb : LO := C.wb_b
def C.wb_w := pO C.wb.eq_1
def C.b7v : ICode := .seq (.region C.wb) .ret
def C.b7v_w := pC C.b7v.eq_1
def C.b7w : ICode := .keep [0, 1, 5, 14] (.cond (X.s 14) C.b7v .skip)
def C.b7w_w := pC C.b7w.eq_1
def C.v9_b : LO := [
 X.m 13 6,
 X.o 14 (.un .not (X.s 13))]
def C.v9 : LO := C.v9_b
def C.v9_w := pO C.v9.eq_1
def C.b7x : ICode := .keep [0, 1, 5, 6] (.seq (.seq (.region C.v9) C.b7w) C.b7t)
def C.b7x_w := pC C.b7x.eq_1
def C.ch_b : LO := [
 X.m 8 0,
 X.m 9 1,
 X.o 10 (.call F.q126 [X.s 8, X.s 9]),
 X.m 7 10,
 X.o 11 (.extract (X.s 7) 0),
 X.o 12 (.extract (X.s 7) 1),
 X.o 5 (.alloc [.int .i64 0, .int .i64 0, .bool false, .bool false]),
 X.n (.storeN 4 (X.s 5) (X.s 11)),
 X.m 6 12]
def C.ch : LO := C.ch_b
def C.ch_w := pO C.ch.eq_1
def C.bnf : ICode := .keep [0, 1] (.seq (.region C.ch) C.b7x)
def C.bnf_w := pC C.bnf.eq_1
def C.cg_b : LO := [
 X.o 4 (.move (X.i 0))]
def C.cg : LO := C.cg_b
def C.cg_w := pO C.cg.eq_1
def C.q122 : IFunc := ⟨2, [.slot 4], .seq (.region C.cg) C.bnf⟩
def C.q122_W := aI (aI (aI @C.wf_w (aI @C.b7r_w @C.wd_w)) (aI (aI @C.b7s_w @C.wc_w) (aI @C.b7t_w @C.wb_w))) (aI (aI @C.b7v_w (aI @C.b7w_w @C.v9_w)) (aI (aI @C.b7x_w @C.ch_w) (aI @C.bnf_w @C.cg_w)))
def C.q122_B := aI (aI @C.wf_b.eq_1 (aI @C.wd_b.eq_1 @C.wc_b.eq_1)) (aI (aI @C.wb_b.eq_1 @C.v9_b.eq_1) (aI @C.ch_b.eq_1 @C.cg_b.eq_1))

def C.ts_b : LO := [
 X.m 6 0,
 X.o 7 (.nilchk (X.s 6)),
 X.o 8 (.fldAddr 3 (X.s 7)),
 X.n (.store1 (X.s 8) (.cst (.bool false)))]
def C.ts : LO := C.ts_b
def C.ts_w := pO C.ts.eq_1
def C.b56 : ICode := .keep [0] (.region C.ts)
def C.b56_w := pC C.b56.eq_1
def C.tr_b : LO := [
 X.m 4 0,
 X.o 5 (.call F.q118 [X.s 4, .fnc F.q110])]
def C.tr : LO := C.tr_b
def C.tr_w := pO C.tr.eq_1
def C.b57 : ICode := .keep [0] (.seq (.region C.tr) C.b56)
def C.b57_w := pC C.b57.eq_1
def C.b58 : ICode := .keep [0, 3] (.cond (X.s 3) .ret .skip)
def C.b58_w := pC C.b58.eq_1
def C.tp_b : LO := [
 X.m 2 0,
 X.o 3 (.eqP 0 false (X.s 2) (.cst (.nilp)))]
def C.tp : LO := C.tp_b
def C.tp_w := pO C.tp.eq_1
def C.q109 : IFunc := ⟨1, [], .seq (.seq (.region C.tp) C.b58) C.b57⟩
def C.q109_W := aI (aI @C.ts_w (aI @C.b56_w @C.tr_w)) (aI @C.b57_w (aI @C.b58_w @C.tp_w))
def C.q109_B := aI @C.ts_b.eq_1 (aI @C.tr_b.eq_1 @C.tp_b.eq_1)

def C.wp_b : LO := [
 X.o 4 (.move (X.i 0))]
def C.wp : LO := C.wp_b
def C.wp_w := pO C.wp.eq_1
def C.b7q : ICode := .keep [] (.seq (.region C.wp) .ret)
def C.b7q_w := pC C.b7q.eq_1
def C.wn_b : LO := [
 X.m 19 0,
 X.o 20 (.nilchk (X.s 19)),
 X.o 21 (.fldAddr 0 (X.s 20)),
 X.o 22 (.load1 (X.s 21)),
 X.m 23 1,
 X.o 24 (.loadN 4 (X.s 5)),
 X.n (.mapSet (X.s 22) (X.s 23) (X.s 24))]
def C.wn : LO := C.wn_b
def C.wn_w := pO C.wn.eq_1
def C.b7z : ICode := .keep [0, 1, 5] (.seq (.region C.wn) C.b7q)
def C.b7z_w := pC C.b7z.eq_1
def C.wm_b : LO := [
 X.o 18 (.fldAddr 3 (X.s 5)),
 X.n (.store1 (X.s 18) (.cst (.bool true)))]
def C.wm : LO := C.wm_b
def C.wm_w := pO C.wm.eq_1
def C.b70 : ICode := .keep [0, 1, 5] (.seq (.region C.wm) C.b7z)
def C.b70_w := pC C.b70.eq_1
def C.wl_b : LO := [
 X.o 4 (.move (X.i 6))]
def C.wl : LO := C.wl_b
def C.wl_w := pO C.wl.eq_1
def C.b71 : ICode := .seq (.region C.wl) .ret
def C.b71_w := pC C.b71.eq_1
def C.b72 : ICode := .keep [0, 1, 5, 17] (.cond (X.s 17) C.b71 .skip)
def C.b72_w := pC C.b72.eq_1
def C.wk_b : LO := [
 X.o 15 (.fldAddr 2 (X.s 5)),
 X.o 16 (.load1 (X.s 15)),
 X.o 17 (.un .not (X.s 16))]
def C.wk : LO := C.wk_b
def C.wk_w := pO C.wk.eq_1
def C.b73 : ICode := .keep [0, 1, 5] (.seq (.seq (.region C.wk) C.b72) C.b70)
def C.b73_w := pC C.b73.eq_1
def C.wj_b : LO := [
 X.o 4 (.move (X.i 4))]
def C.wj : LO := C.wj_b
def C.wj_w := pO C.wj.eq_1
def C.b74 : ICode := .seq (.region C.wj) .ret
def C.b74_w := pC C.b74.eq_1
def C.b75 : ICode := .keep [0, 1, 5, 14] (.cond (X.s 14) C.b74 .skip)
def C.b75_w := pC C.b75.eq_1
def C.wh_b : LO := [
 X.m 13 6,
 X.o 14 (.un .not (X.s 13))]
def C.wh : LO := C.wh_b
def C.wh_w := pO C.wh.eq_1
def C.b76 : ICode := .keep [0, 1, 5, 6] (.seq (.seq (.region C.wh) C.b75) C.b73)
def C.b76_w := pC C.b76.eq_1
def C.dp_b : LO := [
 X.m 8 0,
 X.m 9 1,
 X.o 10 (.call F.q126 [X.s 8, X.s 9]),
 X.m 7 10,
 X.o 11 (.extract (X.s 7) 0),
 X.o 12 (.extract (X.s 7) 1),
 X.o 5 (.alloc [.int .i64 0, .int .i64 0, .bool false, .bool false]),
 X.n (.storeN 4 (X.s 5) (X.s 11)),
 X.m 6 12]
def C.dp : LO := C.dp_b
def C.dp_w := pO C.dp.eq_1
def C.bp3 : ICode := .keep [0, 1] (.seq (.region C.dp) C.b76)
def C.bp3_w := pC C.bp3.eq_1
def C.dn_b : LO := [
 X.o 4 (.move (X.i 0))]
def C.dn : LO := C.dn_b
def C.dn_w := pO C.dn.eq_1
def C.q124 : IFunc := ⟨2, [.slot 4], .seq (.region C.dn) C.bp3⟩
def C.q124_W := aI (aI (aI (aI @C.wp_w @C.b7q_w) (aI @C.wn_w @C.b7z_w)) (aI (aI @C.wm_w @C.b70_w) (aI @C.wl_w (aI @C.b71_w @C.b72_w)))) (aI (aI (aI @C.wk_w @C.b73_w) (aI @C.wj_w (aI @C.b74_w @C.b75_w))) (aI (aI @C.wh_w @C.b76_w) (aI @C.dp_w (aI @C.bp3_w @C.dn_w))))
def C.q124_B := aI (aI (aI @C.wp_b.eq_1 @C.wn_b.eq_1) (aI @C.wm_b.eq_1 @C.wl_b.eq_1)) (aI (aI @C.wk_b.eq_1 @C.wj_b.eq_1) (aI @C.wh_b.eq_1 (aI @C.dp_b.eq_1 @C.dn_b.eq_1)))

def C.pq_b : LO := [
 X.o 6 (.move (X.i 0))]
def C.pq : LO := C.pq_b
def C.pq_w := pO C.pq.eq_1
def C.b2q : ICode := .keep [] (.seq (.region C.pq) .ret)
def C.b2q_w := pC C.b2q.eq_1
def C.py_b : LO := [
 X.m 58 7,
 X.m 59 7,
 X.m 60 2,
 X.o 61 (.nilchk (X.s 58)),
 X.o 62 (.fldAddr 3 (X.s 61)),
 X.n (.store1 (X.s 62) (.cst (.int .u8 99))),
 X.o 63 (.nilchk (X.s 59)),
 X.o 64 (.fldAddr 6 (X.s 63)),
 X.n (.store1 (X.s 64) (X.s 60))]
def C.py : LO := C.py_b
def C.py_w := pO C.py.eq_1
def C.b26 : ICode := .keep [2, 7] (.seq (.region C.py) C.b2q)
def C.b26_w := pC C.b26.eq_1
def C.px_b : LO := [
 X.o 57 (.bin .add (X.s 33) (X.i 1)),
 X.m 33 57]
def C.px : LO := C.px_b
def C.px_w := pO C.px.eq_1
def C.b3c : ICode := .keep [0, 1, 2, 7, 32, 33] (.region C.px)
def C.b3c_w := pC C.b3c.eq_1
def C.bm6_b : LO := [
 X.o 6 (.move (X.i 7))]
def C.bm6 : LO := C.bm6_b
def C.bm6_w := pO C.bm6.eq_1
def C.cnq : ICode := .seq (.region C.bm6) .ret
def C.cnq_w := pC C.cnq.eq_1
def C.cnz : ICode := .keep [0, 1, 2, 7, 32, 33, 56] (.cond (X.s 56) C.cnq .skip)
def C.cnz_w := pC C.cnz.eq_1
def C.pw_b : LO := [
 X.m 36 0,
 X.o 37 (.nilchk (X.s 36)),
 X.o 38 (.fldAddr 0 (X.s 37)),
 X.o 39 (.load1 (X.s 38)),
 X.m 40 8,
 X.o 41 (.idxAddr 7 (X.s 39) (X.s 40)),
 X.o 42 (.fldAddr 0 (X.s 41)),
 X.o 43 (.fldAddr 0 (X.s 42)),
 X.o 44 (.load1 (X.s 43)),
 X.m 45 1,
 X.o 46 (.bin .eql (X.s 44) (X.s 45)),
 X.m 47 46,
 X.t 47 48 (.move (X.s 0)),
 X.t 47 49 (.nilchk (X.s 48)),
 X.t 47 50 (.fldAddr 0 (X.s 49)),
 X.t 47 51 (.load1 (X.s 50)),
 X.t 47 52 (.move (X.s 8)),
 X.t 47 53 (.idxAddr 7 (X.s 51) (X.s 52)),
 X.t 47 54 (.call F.q104 [X.s 53]),
 X.t 47 55 (.un .not (X.s 54)),
 X.o 56 (.pick (X.s 47) (X.s 55) (.cst (.bool false)))]
def C.pw : LO := C.pw_b
def C.pw_w := pO C.pw.eq_1
def C.b3d : ICode := .keep [0, 1, 2, 7, 8, 32, 33] (.seq (.region C.pw) C.cnz)
def C.b3d_w := pC C.b3d.eq_1
def C.pv_b : LO := [
 X.m 35 33,
 X.m 8 35]
def C.pv : LO := C.pv_b
def C.pv_w := pO C.pv.eq_1
def C.b2y : ICode := .seq (.region C.pv) C.b3d
def C.b2y_w := pC C.b2y.eq_1
def C.b3f : ICode := .keep [0, 1, 2, 7, 32, 33] (.seq (.block 1 C.b2y) C.b3c)
def C.b3f_w := pC C.b3f.eq_1
def C.b3g : ICode := .keep [0, 1, 2, 7, 32, 33, 34] (.seq (.cond (X.s 34) .skip (.exit 0)) C.b3f)
def C.b3g_w := pC C.b3g.eq_1
def C.p6_b : LO := [
 X.o 34 (.bin .lss (X.s 33) (X.s 32))]
def C.p6 : LO := C.p6_b
def C.p6_w := pO C.p6.eq_1
def C.crp : ICode := .keep [0, 1, 2, 7, 32, 33] (.seq (.region C.p6) C.b3g)
def C.crp_w := pC C.crp.eq_1
def C.b2x : ICode := .loop C.crp
def C.b2x_w := pC C.b2x.eq_1
def C.b2z : ICode := .keep [0, 1, 2, 7, 32, 33] (.block 0 C.b2x)
def C.b2z_w := pC C.b2z.eq_1
def C.p5_b : LO := [
 X.m 28 0,
 X.o 29 (.nilchk (X.s 28)),
 X.o 30 (.fldAddr 0 (X.s 29)),
 X.o 31 (.load1 (X.s 30)),
 X.o 32 (.len (X.s 31)),
 X.o 33 (.move (X.i 0))]
def C.p5 : LO := C.p5_b
def C.p5_w := pO C.p5.eq_1
def C.rr : ICode := .keep [0, 1, 2, 7] (.seq (.seq (.region C.p5) C.b2z) C.b26)
def C.rr_w := pC C.rr.eq_1
def C.p4_b : LO := [
 X.o 6 (.move (X.i 1))]
def C.p4 : LO := C.p4_b
def C.p4_w := pO C.p4.eq_1
def C.b20 : ICode := .seq (.region C.p4) .ret
def C.b20_w := pC C.b20.eq_1
def C.b21 : ICode := .keep [0, 1, 2, 7, 27] (.cond (X.s 27) C.b20 .skip)
def C.b21_w := pC C.b21.eq_1
def C.p3_b : LO := [
 X.m 19 2,
 X.m 20 19,
 X.t 20 21 (.move (X.s 7)),
 X.t 20 22 (.nilchk (X.s 21)),
 X.t 20 23 (.fldAddr 0 (X.s 22)),
 X.t 20 24 (.fldAddr 2 (X.s 23)),
 X.t 20 25 (.load1 (X.s 24)),
 X.t 20 26 (.un .not (X.s 25)),
 X.o 27 (.pick (X.s 20) (X.s 26) (.cst (.bool false)))]
def C.p3 : LO := C.p3_b
def C.p3_w := pO C.p3.eq_1
def C.b22 : ICode := .keep [0, 1, 2, 7] (.seq (.seq (.region C.p3) C.b21) C.rr)
def C.b22_w := pC C.b22.eq_1
def C.p2_b : LO := [
 X.o 6 (.move (X.i 6))]
def C.p2 : LO := C.p2_b
def C.p2_w := pO C.p2.eq_1
def C.b23 : ICode := .seq (.region C.p2) .ret
def C.b23_w := pC C.b23.eq_1
def C.b24 : ICode := .keep [0, 1, 2, 7, 18] (.cond (X.s 18) C.b23 .skip)
def C.b24_w := pC C.b24.eq_1
def C.p1_b : LO := [
 X.m 14 7,
 X.o 15 (.nilchk (X.s 14)),
 X.o 16 (.fldAddr 3 (X.s 15)),
 X.o 17 (.load1 (X.s 16)),
 X.o 18 (.bin .neq (X.s 17) (.cst (.int .u8 49)))]
def C.p1 : LO := C.p1_b
def C.p1_w := pO C.p1.eq_1
def C.b25 : ICode := .keep [0, 1, 2, 7] (.seq (.seq (.region C.p1) C.b24) C.b22)
def C.b25_w := pC C.b25.eq_1
def C.p0_b : LO := [
 X.o 6 (.move (X.i 4))]
def C.p0 : LO := C.p0_b
def C.p0_w := pO C.p0.eq_1
def C.b27 : ICode := .seq (.region C.p0) .ret
def C.b27_w := pC C.b27.eq_1
def C.b28 : ICode := .keep [0, 1, 2, 7, 13] (.cond (X.s 13) C.b27 .skip)
def C.b28_w := pC C.b28.eq_1
def C.pz_b : LO := [
 X.m 12 7,
 X.o 13 (.eqP 0 false (X.s 12) (.cst (.nilp)))]
def C.pz : LO := C.pz_b
def C.pz_w := pO C.pz.eq_1
def C.b29 : ICode := .keep [0, 1, 2, 7] (.seq (.seq (.region C.pz) C.b28) C.b25)
def C.b29_w := pC C.b29.eq_1
def C.pt_b : LO := [
 X.m 9 0,
 X.m 10 1,
 X.o 11 (.call F.q102 [X.s 9, X.s 10]),
 X.m 7 11]
def C.pt : LO := C.pt_b
def C.pt_w := pO C.pt.eq_1
def C.b3b : ICode := .keep [0, 1, 2] (.seq (.region C.pt) C.b29)
def C.b3b_w := pC C.b3b.eq_1
def C.ps_b : LO := [
 X.o 6 (.move (X.i 0))]
def C.ps : LO := C.ps_b
def C.ps_w := pO C.ps.eq_1
def C.q98 : IFunc := ⟨3, [.slot 6], .seq (.region C.ps) C.b3b⟩
def C.q98_W := aI (aI (aI (aI (aI @C.pq_w @C.b2q_w) (aI @C.py_w @C.b26_w)) (aI (aI @C.px_w @C.b3c_w) (aI @C.bm6_w (aI @C.cnq_w @C.cnz_w)))) (aI (aI (aI @C.pw_w @C.b3d_w) (aI @C.pv_w (aI @C.b2y_w @C.b3f_w))) (aI (aI @C.b3g_w @C.p6_w) (aI @C.b2x_w (aI @C.b2z_w @C.p5_w))))) (aI (aI (aI (aI @C.rr_w @C.p4_w) (aI @C.b20_w @C.b21_w)) (aI (aI @C.p3_w @C.b22_w) (aI @C.p2_w (aI @C.b23_w @C.b24_w)))) (aI (aI (aI @C.p1_w @C.b25_w) (aI @C.p0_w (aI @C.b27_w @C.b28_w))) (aI (aI @C.pz_w @C.b29_w) (aI @C.pt_w (aI @C.b3b_w @C.ps_w)))))
def C.q98_B := aI (aI (aI (aI @C.pq_b.eq_1 @C.py_b.eq_1) (aI @C.px_b.eq_1 @C.bm6_b.eq_1)) (aI (aI @C.pw_b.eq_1 @C.pv_b.eq_1) (aI @C.p6_b.eq_1 @C.p5_b.eq_1))) (aI (aI (aI @C.p4_b.eq_1 @C.p3_b.eq_1) (aI @C.p2_b.eq_1 @C.p1_b.eq_1)) (aI (aI @C.p0_b.eq_1 @C.pz_b.eq_1) (aI @C.pt_b.eq_1 @C.ps_b.eq_1)))

def C.sb_b : LO := [
 X.o 4 (.move (X.i 0))]
def C.sb : LO := C.sb_b
def C.sb_w := pO C.sb.eq_1
def C.b4m : ICode := .keep [] (.seq (.region C.sb) .ret)
def C.b4m_w := pC C.b4m.eq_1
def C.r9_b : LO := [
 X.m 45 5,
 X.m 46 5,
 X.m 47 5,
 X.o 48 (.nilchk (X.s 47)),
 X.o 49 (.fldAddr 0 (X.s 48)),
 X.o 50 (.fldAddr 1 (X.s 49)),
 X.o 51 (.load1 (X.s 50)),
 X.o 52 (.nilchk (X.s 45)),
 X.o 53 (.fldAddr 3 (X.s 52)),
 X.n (.store1 (X.s 53) (.cst (.int .u8 114))),
 X.o 54 (.nilchk (X.s 46)),
 X.o 55 (.fldAddr 4 (X.s 54)),
 X.n (.store1 (X.s 55) (X.s 51))]
def C.r9 : LO := C.r9_b
def C.r9_w := pO C.r9.eq_1
def C.b4n : ICode := .keep [5] (.seq (.region C.r9) C.b4m)
def C.b4n_w := pC C.b4n.eq_1
def C.fx_b : LO := [
 X.m 37 5,
 X.m 38 5,
 X.o 39 (.nilchk (X.s 38)),
 X.o 40 (.fldAddr 3 (X.s 39)),
 X.o 41 (.load1 (X.s 40)),
 X.o 42 (.bin .eql (X.s 41) (.cst (.int .u8 116))),
 X.o 43 (.nilchk (X.s 37)),
 X.o 44 (.fldAddr 5 (X.s 43)),
 X.n (.store1 (X.s 44) (X.s 42))]
def C.fx : LO := C.fx_b
def C.fx_w := pO C.fx.eq_1
def C.rg : ICode := .keep [5] (.seq (.region C.fx) C.b4n)
def C.rg_w := pC C.rg.eq_1
def C.fw_b : LO := [
 X.o 4 (.move (X.i 6))]
def C.fw : LO := C.fw_b
def C.fw_w := pO C.fw.eq_1
def C.bpb : ICode := .seq (.region C.fw) .ret
def C.bpb_w := pC C.bpb.eq_1
def C.bpc : ICode := .keep [5, 36] (.cond (X.s 36) C.bpb .skip)
def C.bpc_w := pC C.bpc.eq_1
def C.fv_b : LO := [
 X.m 11 5,
 X.o 12 (.call F.q104 [X.s 11]),
 X.o 13 (.un .not (X.s 12)),
 X.m 14 13,
 X.f 14 15 (.move (X.s 5)),
 X.f 14 16 (.nilchk (X.s 15)),
 X.f 14 17 (.fldAddr 0 (X.s 16)),
 X.f 14 18 (.fldAddr 0 (X.s 17)),
 X.f 14 19 (.load1 (X.s 18)),
 X.f 14 20 (.bin .neq (X.s 19) (X.i (-1))),
 X.f 14 21 (.move (X.s 20)),
 X.t 21 22 (.move (X.s 0)),
 X.t 21 23 (.nilchk (X.s 22)),
 X.t 21 24 (.fldAddr 0 (X.s 23)),
 X.t 21 25 (.load1 (X.s 24)),
 X.t 21 26 (.move (X.s 5)),
 X.t 21 27 (.nilchk (X.s 26)),
 X.t 21 28 (.fldAddr 0 (X.s 27)),
 X.t 21 29 (.fldAddr 0 (X.s 28)),
 X.t 21 30 (.load1 (X.s 29)),
 X.t 21 31 (.idxAddr 7 (X.s 25) (X.s 30)),
 X.t 21 32 (.fldAddr 3 (X.s 31)),
 X.t 21 33 (.load1 (X.s 32)),
 X.t 21 34 (.bin .neq (X.s 33) (.cst (.int .u8 49))),
 X.f 14 35 (.pick (X.s 21) (X.s 34) (.cst (.bool false))),
 X.o 36 (.pick (X.s 14) (.cst (.bool true)) (X.s 35))]
def C.fv : LO := C.fv_b
def C.fv_w := pO C.fv.eq_1
def C.bpd : ICode := .keep [0, 5] (.seq (.seq (.region C.fv) C.bpc) C.rg)
def C.bpd_w := pC C.bpd.eq_1
def C.ft_b : LO := [
 X.o 4 (.move (X.i 4))]
def C.ft : LO := C.ft_b
def C.ft_w := pO C.ft.eq_1
def C.bpf : ICode := .seq (.region C.ft) .ret
def C.bpf_w := pC C.bpf.eq_1
def C.bpg : ICode := .keep [0, 5, 10] (.cond (X.s 10) C.bpf .skip)
def C.bpg_w := pC C.bpg.eq_1
def C.fs_b : LO := [
 X.m 9 5,
 X.o 10 (.eqP 0 false (X.s 9) (.cst (.nilp)))]
def C.fs : LO := C.fs_b
def C.fs_w := pO C.fs.eq_1
def C.bph : ICode := .keep [0, 5] (.seq (.seq (.region C.fs) C.bpg) C.bpd)
def C.bph_w := pC C.bph.eq_1
def C.fp_b : LO := [
 X.m 6 0,
 X.m 7 1,
 X.o 8 (.call F.q102 [X.s 6, X.s 7]),
 X.m 5 8]
def C.fp : LO := C.fp_b
def C.fp_w := pO C.fp.eq_1
def C.bn9 : ICode := .keep [0, 1] (.seq (.region C.fp) C.bph)
def C.bn9_w := pC C.bn9.eq_1
def C.fn_b : LO := [
 X.o 4 (.move (X.i 0))]
def C.fn : LO := C.fn_b
def C.fn_w := pO C.fn.eq_1
def C.q101 : IFunc := ⟨2, [.slot 4], .seq (.region C.fn) C.bn9⟩
def C.q101_W := aI (aI (aI (aI @C.sb_w @C.b4m_w) (aI @C.r9_w @C.b4n_w)) (aI (aI @C.fx_w @C.rg_w) (aI @C.fw_w (aI @C.bpb_w @C.bpc_w)))) (aI (aI (aI @C.fv_w @C.bpd_w) (aI @C.ft_w (aI @C.bpf_w @C.bpg_w))) (aI (aI @C.fs_w @C.bph_w) (aI @C.fp_w (aI @C.bn9_w @C.fn_w))))
def C.q101_B := aI (aI (aI @C.sb_b.eq_1 @C.r9_b.eq_1) (aI @C.fx_b.eq_1 @C.fw_b.eq_1)) (aI (aI @C.fv_b.eq_1 @C.ft_b.eq_1) (aI @C.fs_b.eq_1 (aI @C.fp_b.eq_1 @C.fn_b.eq_1)))

def C.bcl_b : LO := [
 X.o 66 (.loadN 4 (X.s 3)),
 X.n (.storeN 4 (X.s 2) (X.s 66))]
def C.bcl : LO := C.bcl_b
def C.bcl_w := pO C.bcl.eq_1
def C.ccs : ICode := .keep [2, 3] (.seq (.region C.bcl) .ret)
def C.ccs_w := pC C.ccs.eq_1
def C.bck_b : LO := [
 X.o 65 (.bin .add (X.s 42) (X.i 1)),
 X.m 42 65]
def C.bck : LO := C.bck_b
def C.bck_w := pO C.bck.eq_1
def C.cc0 : ICode := .keep [2, 3, 41, 42] (.region C.bck)
def C.cc0_w := pC C.cc0.eq_1
def C.bcj_b : LO := [
 X.m 49 6,
 X.m 50 6,
 X.m 51 6,
 X.o 52 (.nilchk (X.s 51)),
 X.o 53 (.fldAddr 4 (X.s 52)),
 X.o 54 (.load1 (X.s 53)),
 X.m 56 6,
 X.o 57 (.nilchk (X.s 56)),
 X.o 58 (.fldAddr 5 (X.s 57)),
 X.o 59 (.load1 (X.s 58)),
 ⟨some 55, .call F.q68 [X.s 54], none, [⟨.load1 (X.s 58), 59, none⟩], []⟩,
 X.o 60 (.call F.q70 [X.s 59]),
 X.o 61 (.nilchk (X.s 49)),
 X.o 62 (.fldAddr 4 (X.s 61)),
 X.n (.store1 (X.s 62) (X.s 55)),
 X.o 63 (.nilchk (X.s 50)),
 X.o 64 (.fldAddr 5 (X.s 63)),
 X.n (.store1 (X.s 64) (X.s 60))]
def C.bcj : LO := C.bcj_b
def C.bcj_w := pO C.bcj.eq_1
def C.cc2 : ICode := .keep [2, 3, 6, 41, 42] (.region C.bcj)
def C.cc2_w := pC C.cc2.eq_1
def C.bch_b : LO := [
 X.o 45 (.fldAddr 3 (X.s 3)),
 X.o 46 (.load1 (X.s 45)),
 X.m 47 5,
 X.o 48 (.idxAddr 6 (X.s 46) (X.s 47)),
 X.m 6 48]
def C.bch : LO := C.bch_b
def C.bch_w := pO C.bch.eq_1
def C.cc3 : ICode := .keep [2, 3, 5, 41, 42] (.seq (.region C.bch) C.cc2)
def C.cc3_w := pC C.cc3.eq_1
def C.bcw_b : LO := [
 X.m 44 42,
 X.m 5 44]
def C.bcw : LO := C.bcw_b
def C.bcw_w := pO C.bcw.eq_1
def C.ccp : ICode := .seq (.region C.bcw) C.cc3
def C.ccp_w := pC C.ccp.eq_1
def C.cc4 : ICode := .keep [2, 3, 41, 42] (.seq (.block 3 C.ccp) C.cc0)
def C.cc4_w := pC C.cc4.eq_1
def C.cc5 : ICode := .keep [2, 3, 41, 42, 43] (.seq (.cond (X.s 43) .skip (.exit 2)) C.cc4)
def C.cc5_w := pC C.cc5.eq_1
def C.bcv_b : LO := [
 X.o 43 (.bin .lss (X.s 42) (X.s 41))]
def C.bcv : LO := C.bcv_b
def C.bcv_w := pO C.bcv.eq_1
def C.cpz : ICode := .keep [2, 3, 41, 42] (.seq (.region C.bcv) C.cc5)
def C.cpz_w := pC C.cpz.eq_1
def C.ccr : ICode := .loop C.cpz
def C.ccr_w := pC C.ccr.eq_1
def C.cct : ICode := .keep [2, 3, 41, 42] (.block 2 C.ccr)
def C.cct_w := pC C.cct.eq_1
def C.bct_b : LO := [
 X.o 39 (.fldAddr 3 (X.s 3)),
 X.o 40 (.load1 (X.s 39)),
 X.o 41 (.len (X.s 40)),
 X.o 42 (.move (X.i 0))]
def C.bct : LO := C.bct_b
def C.bct_w := pO C.bct.eq_1
def C.ccv : ICode := .keep [2, 3] (.seq (.seq (.region C.bct) C.cct) C.ccs)
def C.ccv_w := pC C.ccv.eq_1
def C.bcs_b : LO := [
 X.o 38 (.bin .add (X.s 23) (X.i 1)),
 X.m 23 38]
def C.bcs : LO := C.bcs_b
def C.bcs_w := pO C.bcs.eq_1
def C.ccw : ICode := .keep [2, 3, 22, 23] (.region C.bcs)
def C.ccw_w := pC C.ccw.eq_1
def C.bcr_b : LO := [
 X.o 26 (.fldAddr 0 (X.s 3)),
 X.o 27 (.load1 (X.s 26)),
 X.m 28 4,
 X.o 29 (.fldAddr 0 (X.s 3)),
 X.o 30 (.load1 (X.s 29)),
 X.m 31 4,
 X.o 32 (.idxAddr 6 (X.s 30) (X.s 31)),
 X.o 33 (.fldAddr 1 (X.s 32)),
 X.o 34 (.load1 (X.s 33)),
 ⟨some 35, .call F.q70 [X.s 34], none, [⟨.load1 (X.s 26), 27, none⟩], []⟩,
 X.o 36 (.idxAddr 6 (X.s 27) (X.s 28)),
 X.o 37 (.fldAddr 1 (X.s 36)),
 X.n (.store1 (X.s 37) (X.s 35))]
def C.bcr : LO := C.bcr_b
def C.bcr_w := pO C.bcr.eq_1
def C.ccx : ICode := .keep [2, 3, 4, 22, 23] (.region C.bcr)
def C.ccx_w := pC C.ccx.eq_1
def C.bcp_b : LO := [
 X.m 25 23,
 X.m 4 25]
def C.bcp : LO := C.bcp_b
def C.bcp_w := pO C.bcp.eq_1
def C.ccm : ICode := .seq (.region C.bcp) C.ccx
def C.ccm_w := pC C.ccm.eq_1
def C.ccy : ICode := .keep [2, 3, 22, 23] (.seq (.block 1 C.ccm) C.ccw)
def C.ccy_w := pC C.ccy.eq_1
def C.ccq : ICode := .keep [2, 3, 22, 23, 24] (.seq (.cond (X.s 24) .skip (.exit 0)) C.ccy)
def C.ccq_w := pC C.ccq.eq_1
def C.bcn_b : LO := [
 X.o 24 (.bin .lss (X.s 23) (X.s 22))]
def C.bcn : LO := C.bcn_b
def C.bcn_w := pO C.bcn.eq_1
def C.cpq : ICode := .keep [2, 3, 22, 23] (.seq (.region C.bcn) C.ccq)
def C.cpq_w := pC C.cpq.eq_1
def C.ccn : ICode := .loop C.cpq
def C.ccn_w := pC C.ccn.eq_1
def C.ccz : ICode := .keep [2, 3, 22, 23] (.block 0 C.ccn)
def C.ccz_w := pC C.ccz.eq_1
def C.bcm_b : LO := [
 X.o 20 (.fldAddr 0 (X.s 3)),
 X.o 21 (.load1 (X.s 20)),
 X.o 22 (.len (X.s 21)),
 X.o 23 (.move (X.i 0))]
def C.bcm : LO := C.bcm_b
def C.bcm_w := pO C.bcm.eq_1
def C.cc1 : ICode := .keep [2, 3] (.seq (.seq (.region C.bcm) C.ccz) C.ccv)
def C.cc1_w := pC C.cc1.eq_1
def C.c8_b : LO := [
 X.o 7 (.fldAddr 0 (X.s 1)),
 X.o 8 (.load1 (X.s 7)),
 X.o 10 (.fldAddr 1 (X.s 1)),
 X.o 11 (.load1 (X.s 10)),
 X.o 13 (.fldAddr 2 (X.s 1)),
 X.o 14 (.load1 (X.s 13)),
 X.o 16 (.fldAddr 3 (X.s 1)),
 X.o 17 (.load1 (X.s 16)),
 ⟨some 9, .call F.q65 [X.s 8], none, [⟨.load1 (X.s 10), 11, none⟩, ⟨.load1 (X.s 13), 14, none⟩, ⟨.load1 (X.s 16), 17, none⟩], []⟩,
 ⟨some 12, .call F.q67 [X.s 11], none, [⟨.load1 (X.s 13), 14, none⟩, ⟨.load1 (X.s 16), 17, none⟩], []⟩,
 ⟨some 15, .call F.q69 [X.s 14], none, [⟨.load1 (X.s 16), 17, none⟩], []⟩,
 X.o 18 (.call F.q66 [X.s 17]),
 X.o 19 (.build [.nils, .nils, .nils, .nils] [(0, 1, X.s 9), (1, 1, X.s 12), (2, 1, X.s 15), (3, 1, X.s 18)]),
 X.o 3 (.alloc [.nils, .nils, .nils, .nils]),
 X.n (.storeN 4 (X.s 3) (X.s 19))]
def C.c8 : LO := C.c8_b
def C.c8_w := pO C.c8.eq_1
def C.bn0 : ICode := .keep [1, 2] (.seq (.region C.c8) C.cc1)
def C.bn0_w := pC C.bn0.eq_1
def C.b2_b : LO := [
 X.o 1 (.boxN (X.s 0)),
 X.o 2 (.alloc [.nils, .nils, .nils, .nils])]
def C.b2 : LO := C.b2_b
def C.b2_w := pO C.b2.eq_1
def C.q38 : IFunc := ⟨1, [.cellN 2 4], .seq (.region C.b2) C.bn0⟩
def C.q38_W := aI (aI (aI (aI (aI @C.bcl_w @C.ccs_w) (aI @C.bck_w @C.cc0_w)) (aI (aI @C.bcj_w @C.cc2_w) (aI @C.bch_w @C.cc3_w))) (aI (aI (aI @C.bcw_w @C.ccp_w) (aI @C.cc4_w @C.cc5_w)) (aI (aI @C.bcv_w @C.ccr_w) (aI @C.cct_w @C.bct_w)))) (aI (aI (aI (aI @C.ccv_w @C.bcs_w) (aI @C.ccw_w @C.bcr_w)) (aI (aI @C.ccx_w @C.bcp_w) (aI @C.ccm_w @C.ccy_w))) (aI (aI (aI @C.ccq_w @C.bcn_w) (aI @C.ccn_w @C.ccz_w)) (aI (aI @C.bcm_w @C.cc1_w) (aI @C.c8_w (aI @C.bn0_w @C.b2_w)))))
def C.q38_B := aI (aI (aI @C.bcl_b.eq_1 (aI @C.bck_b.eq_1 @C.bcj_b.eq_1)) (aI (aI @C.bch_b.eq_1 @C.bcw_b.eq_1) (aI @C.bcv_b.eq_1 @C.bct_b.eq_1))) (aI (aI @C.bcs_b.eq_1 (aI @C.bcr_b.eq_1 @C.bcp_b.eq_1)) (aI (aI @C.bcn_b.eq_1 @C.bcm_b.eq_1) (aI @C.c8_b.eq_1 @C.b2_b.eq_1)))

def C.w4_b : LO := [
 X.o 5 (.buildSlice 2 0 [.int .u32 0, .bool false] []),
 X.m 6 0,
 X.o 7 (.append 2 8 (X.s 5) (X.s 6)),
 X.m 2 7]
def C.w4 : LO := C.w4_b
def C.w4_w := pO C.w4.eq_1
def C.b8k : ICode := .keep [0] (.seq (.region C.w4) .ret)
def C.b8k_w := pC C.b8k.eq_1
def C.w3_b : LO := [
 X.o 2 (.move (.cst (.nils)))]
def C.w3 : LO := C.w3_b
def C.w3_w := pO C.w3.eq_1
def C.b8l : ICode := .seq (.region C.w3) .ret
def C.b8l_w := pC C.b8l.eq_1
def C.b8m : ICode := .keep [0, 4] (.cond (X.s 4) C.b8l .skip)
def C.b8m_w := pC C.b8m.eq_1
def C.w2_b : LO := [
 X.m 3 0,
 X.o 4 (.eqP 1 false (X.s 3) (.cst (.nils)))]
def C.w2 : LO := C.w2_b
def C.w2_w := pO C.w2.eq_1
def C.b8n : ICode := .keep [0] (.seq (.seq (.region C.w2) C.b8m) C.b8k)
def C.b8n_w := pC C.b8n.eq_1
def C.w1_b : LO := [
 X.o 2 (.move (.cst (.nils)))]
def C.w1 : LO := C.w1_b
def C.w1_w := pO C.w1.eq_1
def C.q128 : IFunc := ⟨1, [.slot 2], .seq (.region C.w1) C.b8n⟩
def C.q128_W := aI (aI (aI @C.w4_w @C.b8k_w) (aI @C.w3_w @C.b8l_w)) (aI (aI @C.b8m_w @C.w2_w) (aI @C.b8n_w @C.w1_w))
def C.q128_B := aI (aI @C.w4_b.eq_1 @C.w3_b.eq_1) (aI @C.w2_b.eq_1 @C.w1_b.eq_1)

def C.bb1_b : LO := [
 X.o 22 (.makeFunc F.q3 [X.s 3]),
 X.m 4 22,
 X.o 5 (.move (.cst (.bool true)))]
def C.bb1 : LO := C.bb1_b
def C.bb1_w := pO C.bb1.eq_1
def C.cb7 : ICode := .keep [3] (.seq (.region C.bb1) .ret)
def C.cb7_w := pC C.cb7.eq_1
def C.bb0_b : LO := [
 X.o 4 (.move (.cst (.nilf))),
 X.o 5 (.move (.cst (.bool false)))]
def C.bb0 : LO := C.bb0_b
def C.bb0_w := pO C.bb0.eq_1
def C.cb8 : ICode := .seq (.region C.bb0) .ret
def C.cb8_w := pC C.cb8.eq_1
def C.cb9 : ICode := .keep [3, 21] (.cond (X.s 21) C.cb8 .skip)
def C.cb9_w := pC C.cb9.eq_1
def C.bbz_b : LO := [
 X.o 6 (.load1 (X.s 3)),
 X.o 7 (.bin .lss (X.s 6) (X.i 1)),
 X.m 8 7,
 X.f 8 9 (.load1 (X.s 3)),
 X.f 8 10 (.bin .gtr (X.s 9) (X.i 32)),
 X.o 11 (.pick (X.s 8) (.cst (.bool true)) (X.s 10)),
 X.m 12 11,
 X.f 12 13 (.move (X.s 0)),
 X.f 12 14 (.bin .lss (X.s 13) (X.i 0)),
 X.o 15 (.pick (X.s 12) (.cst (.bool true)) (X.s 14)),
 X.m 16 15,
 X.f 16 17 (.move (X.s 0)),
 X.f 16 18 (.load1 (X.s 3)),
 X.f 16 19 (.bin .sub (X.i 32) (X.s 18)),
 X.f 16 20 (.bin .gtr (X.s 17) (X.s 19)),
 X.o 21 (.pick (X.s 16) (.cst (.bool true)) (X.s 20))]
def C.bbz : LO := C.bbz_b
def C.bbz_w := pO C.bbz.eq_1
def C.ccb : ICode := .keep [0, 3] (.seq (.seq (.region C.bbz) C.cb9) C.cb7)
def C.ccb_w := pC C.ccb.eq_1
def C.bbq_b : LO := [
 X.o 3 (.box1 (X.s 1)),
 X.o 4 (.move (.cst (.nilf))),
 X.o 5 (.move (.cst (.bool false)))]
def C.bbq : LO := C.bbq_b
def C.bbq_w := pO C.bbq.eq_1
def C.q2 : IFunc := ⟨2, [.slot 4, .slot 5], .seq (.region C.bbq) C.ccb⟩
def C.q2_W := aI (aI (aI @C.bb1_w @C.cb7_w) (aI @C.bb0_w @C.cb8_w)) (aI (aI @C.cb9_w @C.bbz_w) (aI @C.ccb_w @C.bbq_w))
def C.q2_B := aI (aI @C.bb1_b.eq_1 @C.bb0_b.eq_1) (aI @C.bbz_b.eq_1 @C.bbq_b.eq_1)

def C.v1_b : LO := [
 X.m 16 7,
 X.o 17 (.conv .i64 (X.s 16)),
 X.m 6 17]
def C.v1 : LO := C.v1_b
def C.v1_w := pO C.v1.eq_1
def C.b7c : ICode := .keep [7] (.seq (.region C.v1) .ret)
def C.b7c_w := pC C.b7c.eq_1
def C.v0_b : LO := [
 X.m 10 0,
 X.m 11 1,
 X.m 12 2,
 X.o 13 (.call F.q0 [X.s 10, X.s 11, X.s 12]),
 X.m 9 13,
 X.o 14 (.extract (X.s 9) 0),
 X.o 15 (.extract (X.s 9) 1),
 X.m 7 14,
 X.m 8 15]
def C.v0 : LO := C.v0_b
def C.v0_w := pO C.v0.eq_1
def C.b7d : ICode := .keep [0, 1, 2] (.seq (.region C.v0) C.b7c)
def C.b7d_w := pC C.b7d.eq_1
def C.vz_b : LO := [
 X.o 6 (.move (X.i 0))]
def C.vz : LO := C.vz_b
def C.vz_w := pO C.vz.eq_1
def C.q11 : IFunc := ⟨3, [.slot 6], .seq (.region C.vz) C.b7d⟩
def C.q11_W := aI (aI @C.v1_w @C.b7c_w) (aI @C.v0_w (aI @C.b7d_w @C.vz_w))
def C.q11_B := aI @C.v1_b.eq_1 (aI @C.v0_b.eq_1 @C.vz_b.eq_1)

def C.bl8_b : LO := [
 X.m 5 0,
 X.o 6 (.eqP 0 true (X.s 5) (.cst (.nilp))),
 X.m 7 6,
 X.t 7 8 (.move (X.s 1)),
 X.t 7 9 (.bin .geq (X.s 8) (X.i 0)),
 X.o 10 (.pick (X.s 7) (X.s 9) (.cst (.bool false))),
 X.m 11 10,
 X.t 11 12 (.move (X.s 1)),
 X.t 11 13 (.move (X.s 0)),
 X.t 11 14 (.nilchk (X.s 13)),
 X.t 11 15 (.fldAddr 0 (X.s 14)),
 X.t 11 16 (.load1 (X.s 15)),
 X.t 11 17 (.len (X.s 16)),
 X.t 11 18 (.bin .lss (X.s 12) (X.s 17)),
 X.o 19 (.pick (X.s 11) (X.s 18) (.cst (.bool false))),
 X.m 4 19]
def C.bl8 : LO := C.bl8_b
def C.bl8_w := pO C.bl8.eq_1
def C.cm3 : ICode := .keep [0, 1] (.seq (.region C.bl8) .ret)
def C.cm3_w := pC C.cm3.eq_1
def C.bl7_b : LO := [
 X.o 4 (.move (.cst (.bool false)))]
def C.bl7 : LO := C.bl7_b
def C.bl7_w := pO C.bl7.eq_1
def C.q8 : IFunc := ⟨2, [.slot 4], .seq (.region C.bl7) C.cm3⟩
def C.q8_W := aI @C.bl8_w (aI @C.cm3_w @C.bl7_w)
def C.q8_B := aI @C.bl8_b.eq_1 @C.bl7_b.eq_1

def C.bhj_b : LO := [
 X.m 42 6,
 X.o 43 (.idxAddr 4 (X.s 42) (X.i 0)),
 X.o 44 (.loadN 4 (X.s 43)),
 X.n (.storeN 4 (X.s 4) (X.s 44)),
 X.o 5 (.move (.cst (.bool true)))]
def C.bhj : LO := C.bhj_b
def C.bhj_w := pO C.bhj.eq_1
def C.chk : ICode := .keep [4, 6] (.seq (.region C.bhj) .ret)
def C.chk_w := pC C.chk.eq_1
def C.bhh_b : LO := [
 X.m 30 0,
 X.o 31 (.nilchk (X.s 30)),
 X.o 32 (.fldAddr 1 (X.s 31)),
 X.o 33 (.load1 (X.s 32)),
 X.m 34 1,
 X.m 35 6,
 X.m 36 6,
 X.o 37 (.len (X.s 36)),
 X.m 38 6,
 X.o 39 (.len (X.s 38)),
 X.o 40 (.slice 4 (X.s 35) (some (X.i 1)) (some (X.s 37)) (some (X.s 39))),
 X.o 41 (.idxAddr 1 (X.s 33) (X.s 34)),
 X.n (.store1 (X.s 41) (X.s 40))]
def C.bhh : LO := C.bhh_b
def C.bhh_w := pO C.bhh.eq_1
def C.chl : ICode := .keep [0, 1, 4, 6] (.seq (.region C.bhh) C.chk)
def C.chl_w := pC C.chl.eq_1
def C.bhg_b : LO := [
 X.m 23 0,
 X.o 24 (.nilchk (X.s 23)),
 X.o 25 (.fldAddr 1 (X.s 24)),
 X.o 26 (.load1 (X.s 25)),
 X.m 27 1,
 X.o 28 (.idxAddr 1 (X.s 26) (X.s 27)),
 X.o 29 (.load1 (X.s 28)),
 X.m 6 29]
def C.bhg : LO := C.bhg_b
def C.bhg_w := pO C.bhg.eq_1
def C.chm : ICode := .keep [0, 1, 4] (.seq (.region C.bhg) C.chl)
def C.chm_w := pC C.chm.eq_1
def C.bhf_b : LO := [
 X.o 22 (.build [.int .i64 0, .bool false, .int .i64 0, .int .u32 0] []),
 X.n (.storeN 4 (X.s 4) (X.s 22)),
 X.o 5 (.move (.cst (.bool false)))]
def C.bhf : LO := C.bhf_b
def C.bhf_w := pO C.bhf.eq_1
def C.chn : ICode := .seq (.region C.bhf) .ret
def C.chn_w := pC C.chn.eq_1
def C.chp : ICode := .keep [0, 1, 4, 21] (.cond (X.s 21) C.chn .skip)
def C.chp_w := pC C.chp.eq_1
def C.bhd_b : LO := [
 X.m 7 0,
 X.m 8 1,
 X.o 9 (.call F.q8 [X.s 7, X.s 8]),
 X.o 10 (.un .not (X.s 9)),
 X.m 11 10,
 X.f 11 12 (.move (X.s 0)),
 X.f 11 13 (.nilchk (X.s 12)),
 X.f 11 14 (.fldAddr 1 (X.s 13)),
 X.f 11 15 (.load1 (X.s 14)),
 X.f 11 16 (.move (X.s 1)),
 X.f 11 17 (.idxAddr 1 (X.s 15) (X.s 16)),
 X.f 11 18 (.load1 (X.s 17)),
 X.f 11 19 (.len (X.s 18)),
 X.f 11 20 (.bin .eql (X.s 19) (X.i 0)),
 X.o 21 (.pick (X.s 11) (.cst (.bool true)) (X.s 20))]
def C.bhd : LO := C.bhd_b
def C.bhd_w := pO C.bhd.eq_1
def C.chr : ICode := .keep [0, 1, 4] (.seq (.seq (.region C.bhd) C.chp) C.chm)
def C.chr_w := pC C.chr.eq_1
def C.dc_b : LO := [
 X.o 4 (.alloc [.int .i64 0, .bool false, .int .i64 0, .int .u32 0]),
 X.o 5 (.move (.cst (.bool false)))]
def C.dc : LO := C.dc_b
def C.dc_w := pO C.dc.eq_1
def C.q6 : IFunc := ⟨2, [.cellN 4 4, .slot 5], .seq (.region C.dc) C.chr⟩
def C.q6_W := aI (aI (aI @C.bhj_w (aI @C.chk_w @C.bhh_w)) (aI @C.chl_w (aI @C.bhg_w @C.chm_w))) (aI (aI @C.bhf_w (aI @C.chn_w @C.chp_w)) (aI @C.bhd_w (aI @C.chr_w @C.dc_w)))
def C.q6_B := aI (aI @C.bhj_b.eq_1 (aI @C.bhh_b.eq_1 @C.bhg_b.eq_1)) (aI @C.bhf_b.eq_1 (aI @C.bhd_b.eq_1 @C.dc_b.eq_1))

def C.t6_b : LO := [
 X.m 14 0,
 X.o 15 (.nilchk (X.s 14)),
 X.o 16 (.fldAddr 1 (X.s 15)),
 X.o 17 (.load1 (X.s 16)),
 X.m 18 1,
 X.o 19 (.idxAddr 1 (X.s 17) (X.s 18)),
 X.o 20 (.load1 (X.s 19)),
 X.m 4 20,
 X.o 5 (.move (X.i 0))]
def C.t6 : LO := C.t6_b
def C.t6_w := pO C.t6.eq_1
def C.b6l : ICode := .keep [0, 1] (.seq (.region C.t6) .ret)
def C.b6l_w := pC C.b6l.eq_1
def C.t5_b : LO := [
 X.o 4 (.move (.cst (.int .u32 0))),
 X.o 5 (.move (X.i 4))]
def C.t5 : LO := C.t5_b
def C.t5_w := pO C.t5.eq_1
def C.b6m : ICode := .seq (.region C.t5) .ret
def C.b6m_w := pC C.b6m.eq_1
def C.b6n : ICode := .keep [0, 1, 13] (.cond (X.s 13) C.b6m .skip)
def C.b6n_w := pC C.b6n.eq_1
def C.t4_b : LO := [
 X.m 6 1,
 X.o 7 (.bin .lss (X.s 6) (X.i 0)),
 X.m 8 7,
 X.f 8 9 (.move (X.s 1)),
 X.f 8 10 (.move (X.s 0)),
 X.f 8 11 (.call F.q111 [X.s 10]),
 X.f 8 12 (.bin .geq (X.s 9) (X.s 11)),
 X.o 13 (.pick (X.s 8) (.cst (.bool true)) (X.s 12))]
def C.t4 : LO := C.t4_b
def C.t4_w := pO C.t4.eq_1
def C.b6p : ICode := .keep [0, 1] (.seq (.seq (.region C.t4) C.b6n) C.b6l)
def C.b6p_w := pC C.b6p.eq_1
def C.t3_b : LO := [
 X.o 4 (.move (.cst (.int .u32 0))),
 X.o 5 (.move (X.i 0))]
def C.t3 : LO := C.t3_b
def C.t3_w := pO C.t3.eq_1
def C.q112 : IFunc := ⟨2, [.slot 4, .slot 5], .seq (.region C.t3) C.b6p⟩
def C.q112_W := aI (aI (aI @C.t6_w @C.b6l_w) (aI @C.t5_w @C.b6m_w)) (aI (aI @C.b6n_w @C.t4_w) (aI @C.b6p_w @C.t3_w))
def C.q112_B := aI (aI @C.t6_b.eq_1 @C.t5_b.eq_1) (aI @C.t4_b.eq_1 @C.t3_b.eq_1)

def C.vv_b : LO := [
 X.o 6 (.move (X.i 0))]
def C.vv : LO := C.vv_b
def C.vv_w := pO C.vv.eq_1
def C.b64 : ICode := .keep [] (.seq (.region C.vv) .ret)
def C.b64_w := pC C.b64.eq_1
def C.vt_b : LO := [
 X.m 15 0,
 X.o 16 (.nilchk (X.s 15)),
 X.o 17 (.fldAddr 1 (X.s 16)),
 X.o 18 (.load1 (X.s 17)),
 X.m 19 1,
 X.m 20 2,
 X.o 21 (.idxAddr 1 (X.s 18) (X.s 19)),
 X.n (.store1 (X.s 21) (X.s 20))]
def C.vt : LO := C.vt_b
def C.vt_w := pO C.vt.eq_1
def C.b65 : ICode := .keep [0, 1, 2] (.seq (.region C.vt) C.b64)
def C.b65_w := pC C.b65.eq_1
def C.vs_b : LO := [
 X.o 6 (.move (X.i 4))]
def C.vs : LO := C.vs_b
def C.vs_w := pO C.vs.eq_1
def C.b66 : ICode := .seq (.region C.vs) .ret
def C.b66_w := pC C.b66.eq_1
def C.b67 : ICode := .keep [0, 1, 2, 14] (.cond (X.s 14) C.b66 .skip)
def C.b67_w := pC C.b67.eq_1
def C.vr_b : LO := [
 X.m 7 1,
 X.o 8 (.bin .lss (X.s 7) (X.i 0)),
 X.m 9 8,
 X.f 9 10 (.move (X.s 1)),
 X.f 9 11 (.move (X.s 0)),
 X.f 9 12 (.call F.q111 [X.s 11]),
 X.f 9 13 (.bin .geq (X.s 10) (X.s 12)),
 X.o 14 (.pick (X.s 9) (.cst (.bool true)) (X.s 13))]
def C.vr : LO := C.vr_b
def C.vr_w := pO C.vr.eq_1
def C.b68 : ICode := .keep [0, 1, 2] (.seq (.seq (.region C.vr) C.b67) C.b65)
def C.b68_w := pC C.b68.eq_1
def C.vp_b : LO := [
 X.o 6 (.move (X.i 0))]
def C.vp : LO := C.vp_b
def C.vp_w := pO C.vp.eq_1
def C.q117 : IFunc := ⟨3, [.slot 6], .seq (.region C.vp) C.b68⟩
def C.q117_W := aI (aI (aI @C.vv_w @C.b64_w) (aI @C.vt_w (aI @C.b65_w @C.vs_w))) (aI (aI @C.b66_w @C.b67_w) (aI @C.vr_w (aI @C.b68_w @C.vp_w)))
def C.q117_B := aI (aI @C.vv_b.eq_1 @C.vt_b.eq_1) (aI @C.vs_b.eq_1 (aI @C.vr_b.eq_1 @C.vp_b.eq_1))

def C.bbn_b : LO := [
 X.m 19 5,
 X.o 20 (.nilchk (X.s 19)),
 X.o 21 (.fldAddr 0 (X.s 20)),
 X.o 22 (.fldAddr 1 (X.s 21)),
 X.o 23 (.load1 (X.s 22)),
 X.m 24 5,
 X.o 25 (.nilchk (X.s 24)),
 X.o 26 (.fldAddr 8 (X.s 25)),
 X.o 27 (.load1 (X.s 26)),
 X.o 28 (.idxAddr 1 (X.s 23) (X.s 27)),
 X.o 29 (.load1 (X.s 28)),
 X.m 4 29]
def C.bbn : LO := C.bbn_b
def C.bbn_w := pO C.bbn.eq_1
def C.cby : ICode := .keep [5] (.seq (.region C.bbn) .ret)
def C.cby_w := pC C.cby.eq_1
def C.bbm_b : LO := [
 X.o 4 (.move (X.i (-1)))]
def C.bbm : LO := C.bbm_b
def C.bbm_w := pO C.bbm.eq_1
def C.cbq : ICode := .seq (.region C.bbm) .ret
def C.cbq_w := pC C.cbq.eq_1
def C.cbz : ICode := .keep [5, 18] (.cond (X.s 18) C.cbq .skip)
def C.cbz_w := pC C.cbz.eq_1
def C.bbl_b : LO := [
 X.m 12 5,
 X.o 13 (.nilchk (X.s 12)),
 X.o 14 (.fldAddr 0 (X.s 13)),
 X.o 15 (.fldAddr 1 (X.s 14)),
 X.o 16 (.load1 (X.s 15)),
 X.o 17 (.len (X.s 16)),
 X.o 18 (.bin .eql (X.s 17) (X.i 0))]
def C.bbl : LO := C.bbl_b
def C.bbl_w := pO C.bbl.eq_1
def C.cb0 : ICode := .keep [5] (.seq (.seq (.region C.bbl) C.cbz) C.cby)
def C.cb0_w := pC C.cb0.eq_1
def C.bbk_b : LO := [
 X.m 6 0,
 X.o 7 (.nilchk (X.s 6)),
 X.o 8 (.fldAddr 0 (X.s 7)),
 X.o 9 (.load1 (X.s 8)),
 X.m 10 1,
 X.o 11 (.idxAddr 11 (X.s 9) (X.s 10)),
 X.m 5 11]
def C.bbk : LO := C.bbk_b
def C.bbk_w := pO C.bbk.eq_1
def C.cb1 : ICode := .keep [0, 1] (.seq (.region C.bbk) C.cb0)
def C.cb1_w := pC C.cb1.eq_1
def C.bbj_b : LO := [
 X.o 4 (.move (X.i 0))]
def C.bbj : LO := C.bbj_b
def C.bbj_w := pO C.bbj.eq_1
def C.q24 : IFunc := ⟨2, [.slot 4], .seq (.region C.bbj) C.cb1⟩
def C.q24_W := aI (aI (aI @C.bbn_w @C.cby_w) (aI @C.bbm_w (aI @C.cbq_w @C.cbz_w))) (aI (aI @C.bbl_w @C.cb0_w) (aI @C.bbk_w (aI @C.cb1_w @C.bbj_w)))
def C.q24_B := aI (aI @C.bbn_b.eq_1 @C.bbm_b.eq_1) (aI @C.bbl_b.eq_1 (aI @C.bbk_b.eq_1 @C.bbj_b.eq_1))

def C.sz_b : LO := [
 X.o 2 (.move (.cst (.int .u8 0)))]
def C.sz : LO := C.sz_b
def C.sz_w := pO C.sz.eq_1
def C.b4y : ICode := .keep [] (.seq (.region C.sz) .ret)
def C.b4y_w := pC C.b4y.eq_1
def C.s7_b : LO := [
 X.o 2 (.move (.cst (.int .u8 110)))]
def C.s7 : LO := C.s7_b
def C.s7_w := pO C.s7.eq_1
def C.b48 : ICode := .keep [] (.seq (.region C.s7) .ret)
def C.b48_w := pC C.b48.eq_1
def C.s6_b : LO := [
 X.o 2 (.move (.cst (.int .u8 114)))]
def C.s6 : LO := C.s6_b
def C.s6_w := pO C.s6.eq_1
def C.b5h : ICode := .seq (.region C.s6) .ret
def C.b5h_w := pC C.b5h.eq_1
def C.b5j : ICode := .keep [27] (.cond (X.s 27) C.b5h .skip)
def C.b5j_w := pC C.b5j.eq_1
def C.s5_b : LO := [
 X.m 24 0,
 X.o 25 (.nilchk (X.s 24)),
 X.o 26 (.fldAddr 5 (X.s 25)),
 X.o 27 (.load1 (X.s 26))]
def C.s5 : LO := C.s5_b
def C.s5_w := pO C.s5.eq_1
def C.b5k : ICode := .keep [0] (.seq (.seq (.region C.s5) C.b5j) C.b48)
def C.b5k_w := pC C.b5k.eq_1
def C.s4_b : LO := [
 X.m 21 0,
 X.o 22 (.nilchk (X.s 21)),
 X.o 23 (.fldAddr 3 (X.s 22)),
 X.n (.store1 (X.s 23) (.cst (.int .u8 104)))]
def C.s4 : LO := C.s4_b
def C.s4_w := pO C.s4.eq_1
def C.b5l : ICode := .keep [0] (.seq (.region C.s4) C.b5k)
def C.b5l_w := pC C.b5l.eq_1
def C.s3_b : LO := [
 X.o 2 (.move (.cst (.int .u8 0)))]
def C.s3 : LO := C.s3_b
def C.s3_w := pO C.s3.eq_1
def C.b5m : ICode := .keep [] (.seq (.region C.s3) .ret)
def C.b5m_w := pC C.b5m.eq_1
def C.s2_b : LO := [
 X.m 14 0,
 X.o 15 (.nilchk (X.s 14)),
 X.o 16 (.fldAddr 4 (X.s 15)),
 X.o 17 (.load1 (X.s 16)),
 X.o 18 (.bin .sub (X.s 17) (X.i 1)),
 X.o 19 (.nilchk (X.s 14)),
 X.o 20 (.fldAddr 4 (X.s 19)),
 X.n (.store1 (X.s 20) (X.s 18))]
def C.s2 : LO := C.s2_b
def C.s2_w := pO C.s2.eq_1
def C.b5n : ICode := .seq (.region C.s2) C.b5m
def C.b5n_w := pC C.b5n.eq_1
def C.b5p : ICode := .keep [0, 13] (.cond (X.s 13) C.b5n .skip)
def C.b5p_w := pC C.b5p.eq_1
def C.s1_b : LO := [
 X.m 9 0,
 X.o 10 (.nilchk (X.s 9)),
 X.o 11 (.fldAddr 4 (X.s 10)),
 X.o 12 (.load1 (X.s 11)),
 X.o 13 (.bin .gtr (X.s 12) (X.i 0))]
def C.s1 : LO := C.s1_b
def C.s1_w := pO C.s1.eq_1
def C.sr_b : LO := [
 X.o 2 (.move (.cst (.int .u8 111)))]
def C.sr : LO := C.sr_b
def C.sr_w := pO C.sr.eq_1
def C.b4q : ICode := .keep [] (.seq (.region C.sr) .ret)
def C.b4q_w := pC C.b4q.eq_1
def C.sp_b : LO := [
 X.m 30 0,
 X.o 31 (.nilchk (X.s 30)),
 X.o 32 (.fldAddr 3 (X.s 31)),
 X.n (.store1 (X.s 32) (.cst (.int .u8 49)))]
def C.sp : LO := C.sp_b
def C.sp_w := pO C.sp.eq_1
def C.sq_b : LO := [
 X.o 2 (.move (.cst (.int .u8 108)))]
def C.sq : LO := C.sq_b
def C.sq_w := pO C.sq.eq_1
def C.b4z : ICode := .keep [] (.seq (.region C.sq) .ret)
def C.b4z_w := pC C.b4z.eq_1
def C.sy_b : LO := [
 X.m 42 0,
 X.o 43 (.nilchk (X.s 42)),
 X.o 44 (.fldAddr 3 (X.s 43)),
 X.n (.store1 (X.s 44) (.cst (.int .u8 48)))]
def C.sy : LO := C.sy_b
def C.sy_w := pO C.sy.eq_1
def C.b40 : ICode := .keep [0] (.seq (.region C.sy) C.b4z)
def C.b40_w := pC C.b40.eq_1
def C.sx_b : LO := [
 X.o 2 (.move (.cst (.int .u8 115)))]
def C.sx : LO := C.sx_b
def C.sx_w := pO C.sx.eq_1
def C.b41 : ICode := .keep [] (.seq (.region C.sx) .ret)
def C.b41_w := pC C.b41.eq_1
def C.sw_b : LO := [
 X.m 39 0,
 X.o 40 (.nilchk (X.s 39)),
 X.o 41 (.fldAddr 3 (X.s 40)),
 X.n (.store1 (X.s 41) (.cst (.int .u8 116)))]
def C.sw : LO := C.sw_b
def C.sw_w := pO C.sw.eq_1
def C.b42 : ICode := .seq (.region C.sw) C.b41
def C.b42_w := pC C.b42.eq_1
def C.b43 : ICode := .keep [0, 38] (.cond (X.s 38) C.b42 .skip)
def C.b43_w := pC C.b43.eq_1
def C.sv_b : LO := [
 X.m 35 0,
 X.o 36 (.nilchk (X.s 35)),
 X.o 37 (.fldAddr 6 (X.s 36)),
 X.o 38 (.load1 (X.s 37))]
def C.sv : LO := C.sv_b
def C.sv_w := pO C.sv.eq_1
def C.b44 : ICode := .seq (.seq (.region C.sv) C.b43) C.b40
def C.b44_w := pC C.b44.eq_1
def C.b45 : ICode := .keep [0, 33] (.cond (X.s 33) C.b44 .skip)
def C.b45_w := pC C.b45.eq_1
def C.ss_b : LO := [
 X.o 34 (.bin .eql (X.s 6) (.cst (.int .u8 99))),
 X.m 33 34]
def C.ss : LO := C.ss_b
def C.ss_w := pO C.ss.eq_1
def C.b46 : ICode := .seq (.region C.sp) C.b4q
def C.b46_w := pC C.b46.eq_1
def C.b47 : ICode := .seq (.region C.ss) C.b45
def C.b47_w := pC C.b47.eq_1
def C.b49 : ICode := .keep [0, 6, 28] (.cond (X.s 28) C.b46 C.b47)
def C.b49_w := pC C.b49.eq_1
def C.sn_b : LO := [
 X.o 29 (.bin .eql (X.s 6) (.cst (.int .u8 104))),
 X.m 28 29]
def C.sn : LO := C.sn_b
def C.sn_w := pO C.sn.eq_1
def C.b5b : ICode := .seq (.seq (.region C.s1) C.b5p) C.b5l
def C.b5b_w := pC C.b5b.eq_1
def C.b5c : ICode := .seq (.region C.sn) C.b49
def C.b5c_w := pC C.b5c.eq_1
def C.b5d : ICode := .keep [0, 6, 7] (.cond (X.s 7) C.b5b C.b5c)
def C.b5d_w := pC C.b5d.eq_1
def C.s0_b : LO := [
 X.o 8 (.bin .eql (X.s 6) (.cst (.int .u8 114))),
 X.m 7 8]
def C.s0 : LO := C.s0_b
def C.s0_w := pO C.s0.eq_1
def C.b4x : ICode := .seq (.region C.s0) C.b5d
def C.b4x_w := pC C.b4x.eq_1
def C.b5f : ICode := .keep [0, 6] (.block 0 C.b4x)
def C.b5f_w := pC C.b5f.eq_1
def C.sm_b : LO := [
 X.m 3 0,
 X.o 4 (.nilchk (X.s 3)),
 X.o 5 (.fldAddr 3 (X.s 4)),
 X.o 6 (.load1 (X.s 5))]
def C.sm : LO := C.sm_b
def C.sm_w := pO C.sm.eq_1
def C.b5g : ICode := .keep [0] (.seq (.seq (.region C.sm) C.b5f) C.b4y)
def C.b5g_w := pC C.b5g.eq_1
def C.sl_b : LO := [
 X.o 2 (.move (.cst (.int .u8 0)))]
def C.sl : LO := C.sl_b
def C.sl_w := pO C.sl.eq_1
def C.q105 : IFunc := ⟨1, [.slot 2], .seq (.region C.sl) C.b5g⟩
def C.q105_W := aI (aI (aI (aI (aI @C.sz_w @C.b4y_w) (aI @C.s7_w (aI @C.b48_w @C.s6_w))) (aI (aI @C.b5h_w (aI @C.b5j_w @C.s5_w)) (aI @C.b5k_w (aI @C.s4_w @C.b5l_w)))) (aI (aI (aI @C.s3_w (aI @C.b5m_w @C.s2_w)) (aI @C.b5n_w (aI @C.b5p_w @C.s1_w))) (aI (aI @C.sr_w (aI @C.b4q_w @C.sp_w)) (aI @C.sq_w (aI @C.b4z_w @C.sy_w))))) (aI (aI (aI (aI @C.b40_w @C.sx_w) (aI @C.b41_w (aI @C.sw_w @C.b42_w))) (aI (aI @C.b43_w (aI @C.sv_w @C.b44_w)) (aI @C.b45_w (aI @C.ss_w @C.b46_w)))) (aI (aI (aI @C.b47_w (aI @C.b49_w @C.sn_w)) (aI @C.b5b_w (aI @C.b5c_w @C.b5d_w))) (aI (aI @C.s0_w (aI @C.b4x_w @C.b5f_w)) (aI @C.sm_w (aI @C.b5g_w @C.sl_w)))))
def C.q105_B := aI (aI (aI (aI @C.sz_b.eq_1 @C.s7_b.eq_1) (aI @C.s6_b.eq_1 (aI @C.s5_b.eq_1 @C.s4_b.eq_1))) (aI (aI @C.s3_b.eq_1 @C.s2_b.eq_1) (aI @C.s1_b.eq_1 (aI @C.sr_b.eq_1 @C.sp_b.eq_1)))) (aI (aI (aI @C.sq_b.eq_1 @C.sy_b.eq_1) (aI @C.sx_b.eq_1 (aI @C.sw_b.eq_1 @C.sv_b.eq_1))) (aI (aI @C.ss_b.eq_1 @C.sn_b.eq_1) (aI @C.s0_b.eq_1 (aI @C.sm_b.eq_1 @C.sl_b.eq_1))))

def C.vk_b : LO := [
 X.o 7 (.load1 (X.s 1)),
 X.o 8 (.nilchk (X.s 7)),
 X.o 9 (.fldAddr 3 (X.s 8)),
 X.n (.store1 (X.s 9) (.cst (.bool true)))]
def C.vk : LO := C.vk_b
def C.vk_w := pO C.vk.eq_1
def C.b6q : ICode := .keep [1] (.region C.vk)
def C.b6q_w := pC C.b6q.eq_1
def C.vj_b : LO := [
 X.o 4 (.load1 (X.s 1)),
 X.o 5 (.makeFunc F.q116 [X.s 1]),
 X.o 6 (.call F.q120 [X.s 4, X.s 5])]
def C.vj : LO := C.vj_b
def C.vj_w := pO C.vj.eq_1
def C.b6z : ICode := .keep [1] (.seq (.region C.vj) C.b6q)
def C.b6z_w := pC C.b6z.eq_1
def C.b60 : ICode := .keep [1, 3] (.cond (X.s 3) .ret .skip)
def C.b60_w := pC C.b60.eq_1
def C.vh_b : LO := [
 X.o 2 (.load1 (X.s 1)),
 X.o 3 (.eqP 0 false (X.s 2) (.cst (.nilp)))]
def C.vh : LO := C.vh_b
def C.vh_w := pO C.vh.eq_1
def C.b61 : ICode := .keep [1] (.seq (.seq (.region C.vh) C.b60) C.b6z)
def C.b61_w := pC C.b61.eq_1
def C.vg_b : LO := [
 X.o 1 (.box1 (X.s 0))]
def C.vg : LO := C.vg_b
def C.vg_w := pO C.vg.eq_1
def C.q115 : IFunc := ⟨1, [], .seq (.region C.vg) C.b61⟩
def C.q115_W := aI (aI (aI @C.vk_w @C.b6q_w) (aI @C.vj_w @C.b6z_w)) (aI (aI @C.b60_w @C.vh_w) (aI @C.b61_w @C.vg_w))
def C.q115_B := aI (aI @C.vk_b.eq_1 @C.vj_b.eq_1) (aI @C.vh_b.eq_1 @C.vg_b.eq_1)

def C.t9_b : LO := [
 X.o 4 (.load1 (X.s 1)),
 X.o 5 (.makeFunc F.q114 [X.s 1]),
 X.o 6 (.call F.q118 [X.s 4, X.s 5])]
def C.t9 : LO := C.t9_b
def C.t9_w := pO C.t9.eq_1
def C.b6r : ICode := .keep [1] (.region C.t9)
def C.b6r_w := pC C.b6r.eq_1
def C.b6s : ICode := .keep [1, 3] (.cond (X.s 3) .ret .skip)
def C.b6s_w := pC C.b6s.eq_1
def C.t8_b : LO := [
 X.o 2 (.load1 (X.s 1)),
 X.o 3 (.eqP 0 false (X.s 2) (.cst (.nilp)))]
def C.t8 : LO := C.t8_b
def C.t8_w := pO C.t8.eq_1
def C.b6t : ICode := .keep [1] (.seq (.seq (.region C.t8) C.b6s) C.b6r)
def C.b6t_w := pC C.b6t.eq_1
def C.t7_b : LO := [
 X.o 1 (.box1 (X.s 0))]
def C.t7 : LO := C.t7_b
def C.t7_w := pO C.t7.eq_1
def C.q113 : IFunc := ⟨1, [], .seq (.region C.t7) C.b6t⟩
def C.q113_W := aI (aI @C.t9_w (aI @C.b6r_w @C.b6s_w)) (aI @C.t8_w (aI @C.b6t_w @C.t7_w))
def C.q113_B := aI @C.t9_b.eq_1 (aI @C.t8_b.eq_1 @C.t7_b.eq_1)

def C.bbh_b : LO := [
 X.m 20 0,
 X.o 21 (.nilchk (X.s 20)),
 X.o 22 (.fldAddr 0 (X.s 21)),
 X.o 23 (.load1 (X.s 22)),
 X.m 24 1,
 X.o 25 (.idxAddr 11 (X.s 23) (X.s 24)),
 X.m 4 25]
def C.bbh : LO := C.bbh_b
def C.bbh_w := pO C.bbh.eq_1
def C.cbt : ICode := .keep [0, 1] (.seq (.region C.bbh) .ret)
def C.cbt_w := pC C.cbt.eq_1
def C.bbg_b : LO := [
 X.o 4 (.move (.cst (.nilp)))]
def C.bbg : LO := C.bbg_b
def C.bbg_w := pO C.bbg.eq_1
def C.cbv : ICode := .seq (.region C.bbg) .ret
def C.cbv_w := pC C.cbv.eq_1
def C.cbw : ICode := .keep [0, 1, 19] (.cond (X.s 19) C.cbv .skip)
def C.cbw_w := pC C.cbw.eq_1
def C.bbf_b : LO := [
 X.m 5 0,
 X.o 6 (.eqP 0 false (X.s 5) (.cst (.nilp))),
 X.m 7 6,
 X.f 7 8 (.move (X.s 1)),
 X.f 7 9 (.bin .lss (X.s 8) (X.i 0)),
 X.o 10 (.pick (X.s 7) (.cst (.bool true)) (X.s 9)),
 X.m 11 10,
 X.f 11 12 (.move (X.s 1)),
 X.f 11 13 (.move (X.s 0)),
 X.f 11 14 (.nilchk (X.s 13)),
 X.f 11 15 (.fldAddr 0 (X.s 14)),
 X.f 11 16 (.load1 (X.s 15)),
 X.f 11 17 (.len (X.s 16)),
 X.f 11 18 (.bin .geq (X.s 12) (X.s 17)),
 X.o 19 (.pick (X.s 11) (.cst (.bool true)) (X.s 18))]
def C.bbf : LO := C.bbf_b
def C.bbf_w := pO C.bbf.eq_1
def C.cbx : ICode := .keep [0, 1] (.seq (.seq (.region C.bbf) C.cbw) C.cbt)
def C.cbx_w := pC C.cbx.eq_1
def C.bbd_b : LO := [
 X.o 4 (.move (.cst (.nilp)))]
def C.bbd : LO := C.bbd_b
def C.bbd_w := pO C.bbd.eq_1
def C.q23 : IFunc := ⟨2, [.slot 4], .seq (.region C.bbd) C.cbx⟩
def C.q23_W := aI (aI (aI @C.bbh_w @C.cbt_w) (aI @C.bbg_w @C.cbv_w)) (aI (aI @C.cbw_w @C.bbf_w) (aI @C.cbx_w @C.bbd_w))
def C.q23_B := aI (aI @C.bbh_b.eq_1 @C.bbg_b.eq_1) (aI @C.bbf_b.eq_1 @C.bbd_b.eq_1)

def C.w7_b : LO := [
 X.m 10 2,
 X.o 11 (.bin .add (X.s 10) (X.i 1)),
 X.m 12 3,
 X.o 13 (.bin .sub (X.s 12) (X.i 1)),
 X.m 2 11,
 X.m 3 13]
def C.w7 : LO := C.w7_b
def C.w7_w := pO C.w7.eq_1
def C.b8s : ICode := .keep [0, 2, 3] (.region C.w7)
def C.b8s_w := pC C.b8s.eq_1
def C.w8_b : LO := [
 X.m 14 0,
 X.m 15 2,
 X.m 16 0,
 X.m 17 3,
 X.m 18 0,
 X.m 19 3,
 X.o 20 (.idxAddr 1 (X.s 18) (X.s 19)),
 X.o 21 (.load1 (X.s 20)),
 X.m 22 0,
 X.m 23 2,
 X.o 24 (.idxAddr 1 (X.s 22) (X.s 23)),
 X.o 25 (.load1 (X.s 24)),
 X.o 26 (.idxAddr 1 (X.s 14) (X.s 15)),
 X.n (.store1 (X.s 26) (X.s 21)),
 X.o 27 (.idxAddr 1 (X.s 16) (X.s 17)),
 X.n (.store1 (X.s 27) (X.s 25))]
def C.w8 : LO := C.w8_b
def C.w8_w := pO C.w8.eq_1
def C.b8p : ICode := .region C.w8
def C.b8p_w := pC C.b8p.eq_1
def C.b8t : ICode := .keep [0, 2, 3] (.seq (.block 1 C.b8p) C.b8s)
def C.b8t_w := pC C.b8t.eq_1
def C.b8v : ICode := .keep [0, 2, 3, 9] (.cond (X.s 9) .skip (.exit 0))
def C.b8v_w := pC C.b8v.eq_1
def C.w6_b : LO := [
 X.m 7 2,
 X.m 8 3,
 X.o 9 (.bin .lss (X.s 7) (X.s 8))]
def C.w6 : LO := C.w6_b
def C.w6_w := pO C.w6.eq_1
def C.cpb : ICode := .keep [0, 2, 3] (.seq (.seq (.region C.w6) C.b8v) C.b8t)
def C.cpb_w := pC C.cpb.eq_1
def C.b8r : ICode := .loop C.cpb
def C.b8r_w := pC C.b8r.eq_1
def C.b8w : ICode := .keep [0, 2, 3] (.block 0 C.b8r)
def C.b8w_w := pC C.b8w.eq_1
def C.w5_b : LO := [
 X.m 4 0,
 X.o 5 (.len (X.s 4)),
 X.o 6 (.bin .sub (X.s 5) (X.i 1)),
 X.o 2 (.move (X.i 0)),
 X.m 3 6]
def C.w5 : LO := C.w5_b
def C.w5_w := pO C.w5.eq_1
def C.q129 : IFunc := ⟨1, [], .seq (.region C.w5) C.b8w⟩
def C.q129_W := aI (aI (aI @C.w7_w @C.b8s_w) (aI @C.w8_w (aI @C.b8p_w @C.b8t_w))) (aI (aI @C.b8v_w @C.w6_w) (aI @C.b8r_w (aI @C.b8w_w @C.w5_w)))
def C.q129_B := aI (aI @C.w7_b.eq_1 @C.w8_b.eq_1) (aI @C.w6_b.eq_1 @C.w5_b.eq_1)

def C.y8_b : LO := [
 X.o 52 (.load1 (X.s 2)),
 X.o 53 (.load1 (X.s 1)),
 X.m 54 0,
 ⟨some 55, .call F.q24 [X.s 53, X.s 54], none, [⟨.load1 (X.s 2), 52, none⟩], []⟩,
 X.o 56 (.callv (X.s 52) [X.s 55]),
 X.m 4 56]
def C.y8 : LO := C.y8_b
def C.y8_w := pO C.y8.eq_1
def C.cbd : ICode := .keep [0, 1, 2] (.seq (.region C.y8) .ret)
def C.cbd_w := pC C.cbd.eq_1
def C.y3_b : LO := [
 X.o 4 (.move (.cst (.bool true)))]
def C.y3 : LO := C.y3_b
def C.y3_w := pO C.y3.eq_1
def C.y5_b : LO := [
 X.m 21 5,
 X.o 22 (.nilchk (X.s 21)),
 X.o 23 (.fldAddr 6 (X.s 22)),
 X.o 24 (.load1 (X.s 23)),
 X.m 25 24,
 X.t 25 26 (.move (X.s 5)),
 X.t 25 27 (.nilchk (X.s 26)),
 X.t 25 28 (.fldAddr 7 (X.s 27)),
 X.t 25 29 (.load1 (X.s 28)),
 X.t 25 30 (.bin .eql (X.s 29) (X.i 0)),
 X.o 31 (.pick (X.s 25) (X.s 30) (.cst (.bool false))),
 X.m 32 31,
 X.t 32 33 (.load1 (X.s 2)),
 X.t 32 34 (.load1 (X.s 1)),
 X.t 32 35 (.move (X.s 0)),
 ⟨some 36, .call F.q24 [X.s 34, X.s 35], some (32, true), [⟨.load1 (X.s 2), 33, some (32, true)⟩], []⟩,
 X.t 32 37 (.callv (X.s 33) [X.s 36]),
 X.o 38 (.pick (X.s 32) (X.s 37) (.cst (.bool false))),
 X.m 4 38]
def C.y5 : LO := C.y5_b
def C.y5_w := pO C.y5.eq_1
def C.y7_b : LO := [
 X.m 41 5,
 X.o 42 (.nilchk (X.s 41)),
 X.o 43 (.fldAddr 6 (X.s 42)),
 X.o 44 (.load1 (X.s 43)),
 X.m 45 44,
 X.t 45 46 (.load1 (X.s 2)),
 X.t 45 47 (.load1 (X.s 1)),
 X.t 45 48 (.move (X.s 0)),
 ⟨some 49, .call F.q24 [X.s 47, X.s 48], some (45, true), [⟨.load1 (X.s 2), 46, some (45, true)⟩], []⟩,
 X.t 45 50 (.callv (X.s 46) [X.s 49]),
 X.o 51 (.pick (X.s 45) (X.s 50) (.cst (.bool false))),
 X.m 4 51]
def C.y7 : LO := C.y7_b
def C.y7_w := pO C.y7.eq_1
def C.cbj : ICode := .seq (.region C.y7) .ret
def C.cbj_w := pC C.cbj.eq_1
def C.cbk : ICode := .keep [0, 1, 2, 5, 39] (.cond (X.s 39) C.cbj .skip)
def C.cbk_w := pC C.cbk.eq_1
def C.y6_b : LO := [
 X.o 40 (.bin .eql (X.s 16) (.cst (.int .u8 103))),
 X.m 39 40]
def C.y6 : LO := C.y6_b
def C.y6_w := pO C.y6.eq_1
def C.cbl : ICode := .seq (.region C.y5) .ret
def C.cbl_w := pC C.cbl.eq_1
def C.cbm : ICode := .seq (.region C.y6) C.cbk
def C.cbm_w := pC C.cbm.eq_1
def C.cbn : ICode := .keep [0, 1, 2, 5, 16, 19] (.cond (X.s 19) C.cbl C.cbm)
def C.cbn_w := pC C.cbn.eq_1
def C.y4_b : LO := [
 X.o 20 (.bin .eql (X.s 16) (.cst (.int .u8 112))),
 X.m 19 20]
def C.y4 : LO := C.y4_b
def C.y4_w := pO C.y4.eq_1
def C.cbp : ICode := .seq (.region C.y3) .ret
def C.cbp_w := pC C.cbp.eq_1
def C.cbr : ICode := .seq (.region C.y4) C.cbn
def C.cbr_w := pC C.cbr.eq_1
def C.cbs : ICode := .keep [0, 1, 2, 5, 16, 17] (.cond (X.s 17) C.cbp C.cbr)
def C.cbs_w := pC C.cbs.eq_1
def C.y2_b : LO := [
 X.o 18 (.bin .eql (X.s 16) (.cst (.int .u8 111))),
 X.m 17 18]
def C.y2 : LO := C.y2_b
def C.y2_w := pO C.y2.eq_1
def C.cbc : ICode := .seq (.region C.y2) C.cbs
def C.cbc_w := pC C.cbc.eq_1
def C.cbf : ICode := .keep [0, 1, 2, 5, 16] (.block 0 C.cbc)
def C.cbf_w := pC C.cbf.eq_1
def C.y1_b : LO := [
 X.m 12 5,
 X.o 13 (.nilchk (X.s 12)),
 X.o 14 (.fldAddr 0 (X.s 13)),
 X.o 15 (.fldAddr 0 (X.s 14)),
 X.o 16 (.load1 (X.s 15))]
def C.y1 : LO := C.y1_b
def C.y1_w := pO C.y1.eq_1
def C.cbg : ICode := .keep [0, 1, 2, 5] (.seq (.seq (.region C.y1) C.cbf) C.cbd)
def C.cbg_w := pC C.cbg.eq_1
def C.y0_b : LO := [
 X.o 6 (.load1 (X.s 1)),
 X.o 7 (.nilchk (X.s 6)),
 X.o 8 (.fldAddr 0 (X.s 7)),
 X.o 9 (.load1 (X.s 8)),
 X.m 10 0,
 X.o 11 (.idxAddr 11 (X.s 9) (X.s 10)),
 X.m 5 11]
def C.y0 : LO := C.y0_b
def C.y0_w := pO C.y0.eq_1
def C.cbh : ICode := .keep [0, 1, 2] (.seq (.region C.y0) C.cbg)
def C.cbh_w := pC C.cbh.eq_1
def C.yz_b : LO := [
 X.o 4 (.move (.cst (.bool false)))]
def C.yz : LO := C.yz_b
def C.yz_w := pO C.yz.eq_1
def C.q21 : IFunc := ⟨3, [.slot 4], .seq (.region C.yz) C.cbh⟩
def C.q21_W := aI (aI (aI (aI @C.y8_w @C.cbd_w) (aI @C.y3_w (aI @C.y5_w @C.y7_w))) (aI (aI @C.cbj_w (aI @C.cbk_w @C.y6_w)) (aI @C.cbl_w (aI @C.cbm_w @C.cbn_w)))) (aI (aI (aI @C.y4_w (aI @C.cbp_w @C.cbr_w)) (aI @C.cbs_w (aI @C.y2_w @C.cbc_w))) (aI (aI @C.cbf_w (aI @C.y1_w @C.cbg_w)) (aI @C.y0_w (aI @C.cbh_w @C.yz_w))))
def C.q21_B := aI (aI (aI @C.y8_b.eq_1 @C.y3_b.eq_1) (aI @C.y5_b.eq_1 (aI @C.y7_b.eq_1 @C.y6_b.eq_1))) (aI (aI @C.y4_b.eq_1 @C.y2_b.eq_1) (aI @C.y1_b.eq_1 (aI @C.y0_b.eq_1 @C.yz_b.eq_1)))

def C.sg_b : LO := [
 X.m 20 0,
 X.o 21 (.nilchk (X.s 20)),
 X.o 22 (.fldAddr 0 (X.s 21)),
 X.o 23 (.load1 (X.s 22)),
 X.m 24 1,
 X.o 25 (.idxAddr 7 (X.s 23) (X.s 24)),
 X.m 4 25]
def C.sg : LO := C.sg_b
def C.sg_w := pO C.sg.eq_1
def C.b4p : ICode := .keep [0, 1] (.seq (.region C.sg) .ret)
def C.b4p_w := pC C.b4p.eq_1
def C.sf_b : LO := [
 X.o 4 (.move (.cst (.nilp)))]
def C.sf : LO := C.sf_b
def C.sf_w := pO C.sf.eq_1
def C.b4r : ICode := .seq (.region C.sf) .ret
def C.b4r_w := pC C.b4r.eq_1
def C.b4s : ICode := .keep [0, 1, 19] (.cond (X.s 19) C.b4r .skip)
def C.b4s_w := pC C.b4s.eq_1
def C.sd_b : LO := [
 X.m 5 0,
 X.o 6 (.eqP 0 false (X.s 5) (.cst (.nilp))),
 X.m 7 6,
 X.f 7 8 (.move (X.s 1)),
 X.f 7 9 (.bin .lss (X.s 8) (X.i 0)),
 X.o 10 (.pick (X.s 7) (.cst (.bool true)) (X.s 9)),
 X.m 11 10,
 X.f 11 12 (.move (X.s 1)),
 X.f 11 13 (.move (X.s 0)),
 X.f 11 14 (.nilchk (X.s 13)),
 X.f 11 15 (.fldAddr 0 (X.s 14)),
 X.f 11 16 (.load1 (X.s 15)),
 X.f 11 17 (.len (X.s 16)),
 X.f 11 18 (.bin .geq (X.s 12) (X.s 17)),
 X.o 19 (.pick (X.s 11) (.cst (.bool true)) (X.s 18))]
def C.sd : LO := C.sd_b
def C.sd_w := pO C.sd.eq_1
def C.b4t : ICode := .keep [0, 1] (.seq (.seq (.region C.sd) C.b4s) C.b4p)
def C.b4t_w := pC C.b4t.eq_1
def C.sc_b : LO := [
 X.o 4 (.move (.cst (.nilp)))]
def C.sc : LO := C.sc_b
def C.sc_w := pO C.sc.eq_1
def C.q102 : IFunc := ⟨2, [.slot 4], .seq (.region C.sc) C.b4t⟩
def C.q102_W := aI (aI (aI @C.sg_w @C.b4p_w) (aI @C.sf_w @C.b4r_w)) (aI (aI @C.b4s_w @C.sd_w) (aI @C.b4t_w @C.sc_w))
def C.q102_B := aI (aI @C.sg_b.eq_1 @C.sf_b.eq_1) (aI @C.sd_b.eq_1 @C.sc_b.eq_1)

def C.wz_b : LO := [
 X.o 20 (.loadN 4 (X.s 6)),
 X.m 21 7,
 X.n (.storeN 4 (X.s 4) (X.s 20)),
 X.m 5 21]
def C.wz : LO := C.wz_b
def C.wz_w := pO C.wz.eq_1
def C.wq : ICode := .keep [4, 6, 7] (.seq (.region C.wz) .ret)
def C.wq_w := pC C.wq.eq_1
def C.gr_b : LO := [
 X.m 12 0,
 X.o 13 (.nilchk (X.s 12)),
 X.o 14 (.fldAddr 0 (X.s 13)),
 X.o 15 (.load1 (X.s 14)),
 X.m 16 1,
 X.o 17 (.lookup (.agg [.int .i64 0, .int .i64 0, .bool false, .bool false]) true (X.s 15) (X.s 16)),
 X.m 11 17,
 X.o 18 (.extract (X.s 11) 0),
 X.o 19 (.extract (X.s 11) 1),
 X.o 6 (.alloc [.int .i64 0, .int .i64 0, .bool false, .bool false]),
 X.n (.storeN 4 (X.s 6) (X.s 18)),
 X.m 7 19]
def C.gr : LO := C.gr_b
def C.gr_w := pO C.gr.eq_1
def C.brk : ICode := .keep [0, 1, 4] (.seq (.region C.gr) C.wq)
def C.brk_w := pC C.brk.eq_1
def C.gp_b : LO := [
 X.o 10 (.build [.int .i64 0, .int .i64 0, .bool false, .bool false] []),
 X.n (.storeN 4 (X.s 4) (X.s 10)),
 X.o 5 (.move (.cst (.bool false)))]
def C.gp : LO := C.gp_b
def C.gp_w := pO C.gp.eq_1
def C.brl : ICode := .seq (.region C.gp) .ret
def C.brl_w := pC C.brl.eq_1
def C.brm : ICode := .keep [0, 1, 4, 9] (.cond (X.s 9) C.brl .skip)
def C.brm_w := pC C.brm.eq_1
def C.gn_b : LO := [
 X.m 8 0,
 X.o 9 (.eqP 0 false (X.s 8) (.cst (.nilp)))]
def C.gn : LO := C.gn_b
def C.gn_w := pO C.gn.eq_1
def C.brn : ICode := .keep [0, 1, 4] (.seq (.seq (.region C.gn) C.brm) C.brk)
def C.brn_w := pC C.brn.eq_1
def C.bj_b : LO := [
 X.o 4 (.alloc [.int .i64 0, .int .i64 0, .bool false, .bool false]),
 X.o 5 (.move (.cst (.bool false)))]
def C.bj : LO := C.bj_b
def C.bj_w := pO C.bj.eq_1
def C.q126 : IFunc := ⟨2, [.cellN 4 4, .slot 5], .seq (.region C.bj) C.brn⟩
def C.q126_W := aI (aI (aI @C.wz_w @C.wq_w) (aI @C.gr_w (aI @C.brk_w @C.gp_w))) (aI (aI @C.brl_w @C.brm_w) (aI @C.gn_w (aI @C.brn_w @C.bj_w)))
def C.q126_B := aI (aI @C.wz_b.eq_1 @C.gr_b.eq_1) (aI @C.gp_b.eq_1 (aI @C.gn_b.eq_1 @C.bj_b.eq_1))

def C.bgs_b : LO := [
 X.o 3 (.fldAddr 4 (X.s 1)),
 X.o 4 (.load1 (X.s 3)),
 X.o 5 (.len (X.s 4)),
 X.o 6 (.bin .gtr (X.s 5) (X.i 8)),
 X.m 7 6,
 X.f 7 8 (.fldAddr 5 (X.s 1)),
 X.f 7 9 (.load1 (X.s 8)),
 X.f 7 10 (.len (X.s 9)),
 X.f 7 11 (.bin .gtr (X.s 10) (X.i 6)),
 X.o 12 (.pick (X.s 7) (.cst (.bool true)) (X.s 11)),
 X.o 13 (.call F.q73 [X.s 12, X.i 8]),
 X.m 2 13]
def C.bgs : LO := C.bgs_b
def C.bgs_w := pO C.bgs.eq_1
def C.cgz : ICode := .keep [1] (.seq (.region C.bgs) .ret)
def C.cgz_w := pC C.cgz.eq_1
def C.bgr_b : LO := [
 X.o 1 (.boxN (X.s 0)),
 X.o 2 (.move (X.i 0))]
def C.bgr : LO := C.bgr_b
def C.bgr_w := pO C.bgr.eq_1
def C.q63 : IFunc := ⟨1, [.slot 2], .seq (.region C.bgr) C.cgz⟩
def C.q63_W := aI @C.bgs_w (aI @C.cgz_w @C.bgr_w)
def C.q63_B := aI @C.bgs_b.eq_1 @C.bgr_b.eq_1

def C.bh4_b : LO := [
 X.o 4 (.move (X.i 0))]
def C.bh4 : LO := C.bh4_b
def C.bh4_w := pO C.bh4.eq_1
def C.ch9 : ICode := .keep [] (.seq (.region C.bh4) .ret)
def C.ch9_w := pC C.ch9.eq_1
def C.bh3_b : LO := [
 X.m 6 1,
 X.m 4 6]
def C.bh3 : LO := C.bh3_b
def C.bh3_w := pO C.bh3.eq_1
def C.cjb : ICode := .seq (.region C.bh3) .ret
def C.cjb_w := pC C.cjb.eq_1
def C.cjc : ICode := .keep [1, 5] (.cond (X.s 5) C.cjb .skip)
def C.cjc_w := pC C.cjc.eq_1
def C.bh2_b : LO := [
 X.m 5 0]
def C.bh2 : LO := C.bh2_b
def C.bh2_w := pO C.bh2.eq_1
def C.cjd : ICode := .keep [0, 1] (.seq (.seq (.region C.bh2) C.cjc) C.ch9)
def C.cjd_w := pC C.cjd.eq_1
def C.bh1_b : LO := [
 X.o 4 (.move (X.i 0))]
def C.bh1 : LO := C.bh1_b
def C.bh1_w := pO C.bh1.eq_1
def C.q73 : IFunc := ⟨2, [.slot 4], .seq (.region C.bh1) C.cjd⟩
def C.q73_W := aI (aI (aI @C.bh4_w @C.ch9_w) (aI @C.bh3_w @C.cjb_w)) (aI (aI @C.cjc_w @C.bh2_w) (aI @C.cjd_w @C.bh1_w))
def C.q73_B := aI (aI @C.bh4_b.eq_1 @C.bh3_b.eq_1) (aI @C.bh2_b.eq_1 @C.bh1_b.eq_1)

def C.bc4_b : LO := [
 X.o 2 (.loadN 6 (X.s 0)),
 X.o 3 (.call F.q72 [X.s 2]),
 X.o 4 (.un .not (X.s 3)),
 X.o 5 (.call F.q73 [X.s 4, X.i 1]),
 X.m 1 5]
def C.bc4 : LO := C.bc4_b
def C.bc4_w := pO C.bc4.eq_1
def C.cdc : ICode := .keep [0] (.seq (.region C.bc4) .ret)
def C.cdc_w := pC C.cdc.eq_1
def C.bc3_b : LO := [
 X.o 1 (.move (X.i 0))]
def C.bc3 : LO := C.bc3_b
def C.bc3_w := pO C.bc3.eq_1
def C.q42 : IFunc := ⟨1, [.slot 1], .seq (.region C.bc3) C.cdc⟩
def C.q42_W := aI @C.bc4_w (aI @C.cdc_w @C.bc3_w)
def C.q42_B := aI @C.bc4_b.eq_1 @C.bc3_b.eq_1

def C.bhs_b : LO := [
 X.o 2 (.move (.cst (.bool false)))]
def C.bhs : LO := C.bhs_b
def C.bhs_w := pO C.bhs.eq_1
def C.chw : ICode := .keep [] (.seq (.region C.bhs) .ret)
def C.chw_w := pC C.chw.eq_1
def C.bhv_b : LO := [
 X.o 7 (.fldAddr 1 (X.s 1)),
 X.o 8 (.load1 (X.s 7)),
 X.o 9 (.len (X.s 8)),
 X.o 10 (.bin .eql (X.s 9) (X.i 0)),
 X.m 2 10]
def C.bhv : LO := C.bhv_b
def C.bhv_w := pO C.bhv.eq_1
def C.bhq_b : LO := [
 X.o 15 (.fldAddr 1 (X.s 1)),
 X.o 16 (.load1 (X.s 15)),
 X.o 17 (.len (X.s 16)),
 X.o 18 (.bin .eql (X.s 17) (X.i 1)),
 X.m 2 18]
def C.bhq : LO := C.bhq_b
def C.bhq_w := pO C.bhq.eq_1
def C.bh0_b : LO := [
 X.o 21 (.fldAddr 1 (X.s 1)),
 X.o 22 (.load1 (X.s 21)),
 X.o 23 (.len (X.s 22)),
 X.o 24 (.call F.q74 [X.s 23, X.i 1, X.i 4]),
 X.m 2 24]
def C.bh0 : LO := C.bh0_b
def C.bh0_w := pO C.bh0.eq_1
def C.ch1 : ICode := .seq (.region C.bh0) .ret
def C.ch1_w := pC C.ch1.eq_1
def C.ch2 : ICode := .keep [1, 19] (.cond (X.s 19) C.ch1 .skip)
def C.ch2_w := pC C.ch2.eq_1
def C.bhz_b : LO := [
 X.o 20 (.bin .eql (X.s 4) (.cst (.int .u8 109))),
 X.m 19 20]
def C.bhz : LO := C.bhz_b
def C.bhz_w := pO C.bhz.eq_1
def C.ch3 : ICode := .seq (.region C.bhq) .ret
def C.ch3_w := pC C.ch3.eq_1
def C.ch4 : ICode := .seq (.region C.bhz) C.ch2
def C.ch4_w := pC C.ch4.eq_1
def C.ch5 : ICode := .keep [1, 4, 11] (.cond (X.s 11) C.ch3 C.ch4)
def C.ch5_w := pC C.ch5.eq_1
def C.bhy_b : LO := [
 X.o 14 (.bin .eql (X.s 4) (.cst (.int .u8 103))),
 X.m 11 14]
def C.bhy : LO := C.bhy_b
def C.bhy_w := pO C.bhy.eq_1
def C.ch6 : ICode := .keep [1, 4, 11] (.cond (X.s 11) .skip (.region C.bhy))
def C.ch6_w := pC C.ch6.eq_1
def C.bhx_b : LO := [
 X.o 13 (.bin .eql (X.s 4) (.cst (.int .u8 100))),
 X.m 11 13]
def C.bhx : LO := C.bhx_b
def C.bhx_w := pO C.bhx.eq_1
def C.ch7 : ICode := .seq (.region C.bhx) C.ch6
def C.ch7_w := pC C.ch7.eq_1
def C.ch8 : ICode := .keep [1, 4, 11] (.cond (X.s 11) .skip C.ch7)
def C.ch8_w := pC C.ch8.eq_1
def C.bhw_b : LO := [
 X.o 12 (.bin .eql (X.s 4) (.cst (.int .u8 112))),
 X.m 11 12]
def C.bhw : LO := C.bhw_b
def C.bhw_w := pO C.bhw.eq_1
def C.chx : ICode := .seq (.region C.bhv) .ret
def C.chx_w := pC C.chx.eq_1
def C.chy : ICode := .seq (.seq (.region C.bhw) C.ch8) C.ch5
def C.chy_w := pC C.chy.eq_1
def C.chq : ICode := .keep [1, 4, 5] (.cond (X.s 5) C.chx C.chy)
def C.chq_w := pC C.chq.eq_1
def C.bht_b : LO := [
 X.o 6 (.bin .eql (X.s 4) (.cst (.int .u8 111))),
 X.m 5 6]
def C.bht : LO := C.bht_b
def C.bht_w := pO C.bht.eq_1
def C.chv : ICode := .seq (.region C.bht) C.chq
def C.chv_w := pC C.chv.eq_1
def C.chz : ICode := .keep [1, 4] (.block 0 C.chv)
def C.chz_w := pC C.chz.eq_1
def C.bhr_b : LO := [
 X.o 3 (.fldAddr 0 (X.s 1)),
 X.o 4 (.load1 (X.s 3))]
def C.bhr : LO := C.bhr_b
def C.bhr_w := pO C.bhr.eq_1
def C.ch0 : ICode := .keep [1] (.seq (.seq (.region C.bhr) C.chz) C.chw)
def C.ch0_w := pC C.ch0.eq_1
def C.bhp_b : LO := [
 X.o 1 (.boxN (X.s 0)),
 X.o 2 (.move (.cst (.bool false)))]
def C.bhp : LO := C.bhp_b
def C.bhp_w := pO C.bhp.eq_1
def C.q72 : IFunc := ⟨1, [.slot 2], .seq (.region C.bhp) C.ch0⟩
def C.q72_W := aI (aI (aI (aI @C.bhs_w (aI @C.chw_w @C.bhv_w)) (aI @C.bhq_w (aI @C.bh0_w @C.ch1_w))) (aI (aI @C.ch2_w (aI @C.bhz_w @C.ch3_w)) (aI (aI @C.ch4_w @C.ch5_w) (aI @C.bhy_w @C.ch6_w)))) (aI (aI (aI @C.bhx_w (aI @C.ch7_w @C.ch8_w)) (aI @C.bhw_w (aI @C.chx_w @C.chy_w))) (aI (aI @C.chq_w (aI @C.bht_w @C.chv_w)) (aI (aI @C.chz_w @C.bhr_w) (aI @C.ch0_w @C.bhp_w))))
def C.q72_B := aI (aI (aI @C.bhs_b.eq_1 @C.bhv_b.eq_1) (aI @C.bhq_b.eq_1 (aI @C.bh0_b.eq_1 @C.bhz_b.eq_1))) (aI (aI @C.bhy_b.eq_1 (aI @C.bhx_b.eq_1 @C.bhw_b.eq_1)) (aI @C.bht_b.eq_1 (aI @C.bhr_b.eq_1 @C.bhp_b.eq_1)))

def C.bc6_b : LO := [
 X.o 3 (.fldAddr 1 (X.s 0)),
 X.o 4 (.load1 (X.s 3)),
 X.o 5 (.makeFunc F.q44 [X.s 1]),
 X.o 6 (.call F.q60 [X.s 4, X.s 5]),
 X.m 2 6]
def C.bc6 : LO := C.bc6_b
def C.bc6_w := pO C.bc6.eq_1
def C.cdd : ICode := .keep [0, 1] (.seq (.region C.bc6) .ret)
def C.cdd_w := pC C.cdd.eq_1
def C.bc5_b : LO := [
 X.o 2 (.move (X.i 0))]
def C.bc5 : LO := C.bc5_b
def C.bc5_w := pO C.bc5.eq_1
def C.q43 : IFunc := ⟨2, [.slot 2], .seq (.region C.bc5) C.cdd⟩
def C.q43_W := aI @C.bc6_w (aI @C.cdd_w @C.bc5_w)
def C.q43_B := aI @C.bc6_b.eq_1 @C.bc5_b.eq_1

def C.bf9_b : LO := [
 X.o 4 (.move (X.i 0))]
def C.bf9 : LO := C.bf9_b
def C.bf9_w := pO C.bf9.eq_1
def C.cf4 : ICode := .keep [] (.seq (.region C.bf9) .ret)
def C.cf4_w := pC C.cf4.eq_1
def C.bf8_b : LO := [
 X.o 20 (.bin .add (X.s 10) (X.i 1)),
 X.m 10 20]
def C.bf8 : LO := C.bf8_b
def C.bf8_w := pO C.bf8.eq_1
def C.cf7 : ICode := .keep [1, 8, 9, 10] (.region C.bf8)
def C.cf7_w := pC C.cf7.eq_1
def C.bf7_b : LO := [
 X.m 19 7,
 X.m 4 19]
def C.bf7 : LO := C.bf7_b
def C.bf7_w := pO C.bf7.eq_1
def C.cf8 : ICode := .seq (.region C.bf7) .ret
def C.cf8_w := pC C.cf8.eq_1
def C.cf9 : ICode := .keep [1, 7, 8, 9, 10, 18] (.cond (X.s 18) C.cf8 .skip)
def C.cf9_w := pC C.cf9.eq_1
def C.bf6_b : LO := [
 X.m 17 7,
 X.o 18 (.bin .neq (X.s 17) (X.i 0))]
def C.bf6 : LO := C.bf6_b
def C.bf6_w := pO C.bf6.eq_1
def C.cgb : ICode := .keep [1, 7, 8, 9, 10] (.seq (.region C.bf6) C.cf9)
def C.cgb_w := pC C.cgb.eq_1
def C.bf5_b : LO := [
 X.m 14 1,
 X.m 15 6,
 X.o 16 (.callv (X.s 14) [X.s 15]),
 X.m 7 16]
def C.bf5 : LO := C.bf5_b
def C.bf5_w := pO C.bf5.eq_1
def C.cgc : ICode := .keep [1, 6, 8, 9, 10] (.seq (.region C.bf5) C.cgb)
def C.cgc_w := pC C.cgc.eq_1
def C.bf4_b : LO := [
 X.o 12 (.idxAddr 1 (X.s 8) (X.s 10)),
 X.o 13 (.load1 (X.s 12)),
 X.m 6 13]
def C.bf4 : LO := C.bf4_b
def C.bf4_w := pO C.bf4.eq_1
def C.cf3 : ICode := .seq (.region C.bf4) C.cgc
def C.cf3_w := pC C.cf3.eq_1
def C.cgd : ICode := .keep [1, 8, 9, 10] (.seq (.block 1 C.cf3) C.cf7)
def C.cgd_w := pC C.cgd.eq_1
def C.cgf : ICode := .keep [1, 8, 9, 10, 11] (.seq (.cond (X.s 11) .skip (.exit 0)) C.cgd)
def C.cgf_w := pC C.cgf.eq_1
def C.bf3_b : LO := [
 X.o 11 (.bin .lss (X.s 10) (X.s 9))]
def C.bf3 : LO := C.bf3_b
def C.bf3_w := pO C.bf3.eq_1
def C.cp6 : ICode := .keep [1, 8, 9, 10] (.seq (.region C.bf3) C.cgf)
def C.cp6_w := pC C.cp6.eq_1
def C.cf2 : ICode := .loop C.cp6
def C.cf2_w := pC C.cf2.eq_1
def C.cf5 : ICode := .keep [1, 8, 9, 10] (.block 0 C.cf2)
def C.cf5_w := pC C.cf5.eq_1
def C.bf2_b : LO := [
 X.m 8 0,
 X.o 9 (.len (X.s 8)),
 X.o 10 (.move (X.i 0))]
def C.bf2 : LO := C.bf2_b
def C.bf2_w := pO C.bf2.eq_1
def C.cf6 : ICode := .keep [0, 1] (.seq (.seq (.region C.bf2) C.cf5) C.cf4)
def C.cf6_w := pC C.cf6.eq_1
def C.bf1_b : LO := [
 X.o 4 (.move (X.i 0))]
def C.bf1 : LO := C.bf1_b
def C.bf1_w := pO C.bf1.eq_1
def C.q60 : IFunc := ⟨2, [.slot 4], .seq (.region C.bf1) C.cf6⟩
def C.q60_W := aI (aI (aI (aI @C.bf9_w @C.cf4_w) (aI @C.bf8_w (aI @C.cf7_w @C.bf7_w))) (aI (aI @C.cf8_w @C.cf9_w) (aI @C.bf6_w (aI @C.cgb_w @C.bf5_w)))) (aI (aI (aI @C.cgc_w @C.bf4_w) (aI @C.cf3_w (aI @C.cgd_w @C.cgf_w))) (aI (aI @C.bf3_w (aI @C.cf2_w @C.cf5_w)) (aI @C.bf2_w (aI @C.cf6_w @C.bf1_w))))
def C.q60_B := aI (aI (aI @C.bf9_b.eq_1 @C.bf8_b.eq_1) (aI @C.bf7_b.eq_1 @C.bf6_b.eq_1)) (aI (aI @C.bf5_b.eq_1 @C.bf4_b.eq_1) (aI @C.bf3_b.eq_1 (aI @C.bf2_b.eq_1 @C.bf1_b.eq_1)))

def C.bc8_b : LO := [
 X.m 4 0,
 X.o 5 (.fldAddr 0 (X.s 1)),
 X.o 6 (.load1 (X.s 5)),
 X.o 7 (.len (X.s 6)),
 X.o 8 (.bin .sub (X.s 7) (X.i 1)),
 X.o 9 (.call F.q74 [X.s 4, X.i 0, X.s 8]),
 X.o 10 (.un .not (X.s 9)),
 X.o 11 (.call F.q73 [X.s 10, X.i 4]),
 X.m 3 11]
def C.bc8 : LO := C.bc8_b
def C.bc8_w := pO C.bc8.eq_1
def C.cdf : ICode := .keep [0, 1] (.seq (.region C.bc8) .ret)
def C.cdf_w := pC C.cdf.eq_1
def C.bc7_b : LO := [
 X.o 3 (.move (X.i 0))]
def C.bc7 : LO := C.bc7_b
def C.bc7_w := pO C.bc7.eq_1
def C.q44 : IFunc := ⟨2, [.slot 3], .seq (.region C.bc7) C.cdf⟩
def C.q44_W := aI @C.bc8_w (aI @C.cdf_w @C.bc7_w)
def C.q44_B := aI @C.bc8_b.eq_1 @C.bc7_b.eq_1

def C.bh6_b : LO := [
 X.m 7 0,
 X.m 8 1,
 X.o 9 (.bin .geq (X.s 7) (X.s 8)),
 X.m 10 9,
 X.t 10 11 (.move (X.s 0)),
 X.t 10 12 (.move (X.s 2)),
 X.t 10 13 (.bin .leq (X.s 11) (X.s 12)),
 X.o 14 (.pick (X.s 10) (X.s 13) (.cst (.bool false))),
 X.m 6 14]
def C.bh6 : LO := C.bh6_b
def C.bh6_w := pO C.bh6.eq_1
def C.cjf : ICode := .keep [0, 1, 2] (.seq (.region C.bh6) .ret)
def C.cjf_w := pC C.cjf.eq_1
def C.bh5_b : LO := [
 X.o 6 (.move (.cst (.bool false)))]
def C.bh5 : LO := C.bh5_b
def C.bh5_w := pO C.bh5.eq_1
def C.q74 : IFunc := ⟨3, [.slot 6], .seq (.region C.bh5) C.cjf⟩
def C.q74_W := aI @C.bh6_w (aI @C.cjf_w @C.bh5_w)
def C.q74_B := aI @C.bh6_b.eq_1 @C.bh5_b.eq_1

def C.bdb_b : LO := [
 X.o 2 (.loadN 6 (X.s 0)),
 X.o 3 (.call F.q64 [X.s 2]),
 X.o 4 (.un .not (X.s 3)),
 X.o 5 (.call F.q73 [X.s 4, X.i 3]),
 X.m 1 5]
def C.bdb : LO := C.bdb_b
def C.bdb_w := pO C.bdb.eq_1
def C.cdg : ICode := .keep [0] (.seq (.region C.bdb) .ret)
def C.cdg_w := pC C.cdg.eq_1
def C.bc9_b : LO := [
 X.o 1 (.move (X.i 0))]
def C.bc9 : LO := C.bc9_b
def C.bc9_w := pO C.bc9.eq_1
def C.q45 : IFunc := ⟨1, [.slot 1], .seq (.region C.bc9) C.cdg⟩
def C.q45_W := aI @C.bdb_w (aI @C.cdg_w @C.bc9_w)
def C.q45_B := aI @C.bdb_b.eq_1 @C.bc9_b.eq_1

def C.bg1_b : LO := [
 X.o 2 (.move (.cst (.bool true)))]
def C.bg1 : LO := C.bg1_b
def C.bg1_w := pO C.bg1.eq_1
def C.cg1 : ICode := .keep [] (.seq (.region C.bg1) .ret)
def C.cg1_w := pC C.cg1.eq_1
def C.bgx_b : LO := [
 X.o 7 (.fldAddr 2 (X.s 1)),
 X.o 8 (.load1 (X.s 7)),
 X.o 9 (.bin .geq (X.s 8) (.cst (.int .u64 1))),
 X.m 10 9,
 X.t 10 11 (.fldAddr 2 (X.s 1)),
 X.t 10 12 (.load1 (X.s 11)),
 X.t 10 13 (.bin .leq (X.s 12) (.cst (.int .u64 1099511627776))),
 X.o 14 (.pick (X.s 10) (X.s 13) (.cst (.bool false))),
 X.m 2 14]
def C.bgx : LO := C.bgx_b
def C.bgx_w := pO C.bgx.eq_1
def C.bgq_b : LO := [
 X.o 17 (.fldAddr 3 (X.s 1)),
 X.o 18 (.load1 (X.s 17)),
 X.o 19 (.call F.q74 [X.s 18, X.i 1, X.i 1000]),
 X.m 20 19,
 X.t 20 21 (.fldAddr 4 (X.s 1)),
 X.t 20 22 (.load1 (X.s 21)),
 X.t 20 23 (.call F.q74 [X.s 22, X.i 1, X.i 1000]),
 X.o 24 (.pick (X.s 20) (X.s 23) (.cst (.bool false))),
 X.m 25 24,
 X.t 25 26 (.fldAddr 5 (X.s 1)),
 X.t 25 27 (.load1 (X.s 26)),
 X.t 25 28 (.call F.q74 [X.s 27, X.i 0, X.i 20]),
 X.o 29 (.pick (X.s 25) (X.s 28) (.cst (.bool false))),
 X.m 2 29]
def C.bgq : LO := C.bgq_b
def C.bgq_w := pO C.bgq.eq_1
def C.bg0_b : LO := [
 X.o 32 (.fldAddr 4 (X.s 1)),
 X.o 33 (.load1 (X.s 32)),
 X.o 34 (.call F.q74 [X.s 33, X.i 1, X.i 1000]),
 X.m 2 34]
def C.bg0 : LO := C.bg0_b
def C.bg0_w := pO C.bg0.eq_1
def C.cg4 : ICode := .seq (.region C.bg0) .ret
def C.cg4_w := pC C.cg4.eq_1
def C.cg5 : ICode := .keep [1, 30] (.cond (X.s 30) C.cg4 .skip)
def C.cg5_w := pC C.cg5.eq_1
def C.bgz_b : LO := [
 X.o 31 (.bin .eql (X.s 4) (.cst (.int .u8 100))),
 X.m 30 31]
def C.bgz : LO := C.bgz_b
def C.bgz_w := pO C.bgz.eq_1
def C.cg6 : ICode := .seq (.region C.bgq) .ret
def C.cg6_w := pC C.cg6.eq_1
def C.cg7 : ICode := .seq (.region C.bgz) C.cg5
def C.cg7_w := pC C.cg7.eq_1
def C.cg8 : ICode := .keep [1, 4, 15] (.cond (X.s 15) C.cg6 C.cg7)
def C.cg8_w := pC C.cg8.eq_1
def C.bgy_b : LO := [
 X.o 16 (.bin .eql (X.s 4) (.cst (.int .u8 112))),
 X.m 15 16]
def C.bgy : LO := C.bgy_b
def C.bgy_w := pO C.bgy.eq_1
def C.cg9 : ICode := .seq (.region C.bgx) .ret
def C.cg9_w := pC C.cg9.eq_1
def C.chb : ICode := .seq (.region C.bgy) C.cg8
def C.chb_w := pC C.chb.eq_1
def C.chc : ICode := .keep [1, 4, 5] (.cond (X.s 5) C.cg9 C.chb)
def C.chc_w := pC C.chc.eq_1
def C.bgw_b : LO := [
 X.o 6 (.bin .eql (X.s 4) (.cst (.int .u8 111))),
 X.m 5 6]
def C.bgw : LO := C.bgw_b
def C.bgw_w := pO C.bgw.eq_1
def C.cg0 : ICode := .seq (.region C.bgw) C.chc
def C.cg0_w := pC C.cg0.eq_1
def C.cg2 : ICode := .keep [1, 4] (.block 0 C.cg0)
def C.cg2_w := pC C.cg2.eq_1
def C.bgv_b : LO := [
 X.o 3 (.fldAddr 0 (X.s 1)),
 X.o 4 (.load1 (X.s 3))]
def C.bgv : LO := C.bgv_b
def C.bgv_w := pO C.bgv.eq_1
def C.cg3 : ICode := .keep [1] (.seq (.seq (.region C.bgv) C.cg2) C.cg1)
def C.cg3_w := pC C.cg3.eq_1
def C.bgt_b : LO := [
 X.o 1 (.boxN (X.s 0)),
 X.o 2 (.move (.cst (.bool false)))]
def C.bgt : LO := C.bgt_b
def C.bgt_w := pO C.bgt.eq_1
def C.q64 : IFunc := ⟨1, [.slot 2], .seq (.region C.bgt) C.cg3⟩
def C.q64_W := aI (aI (aI (aI @C.bg1_w @C.cg1_w) (aI @C.bgx_w (aI @C.bgq_w @C.bg0_w))) (aI (aI @C.cg4_w @C.cg5_w) (aI @C.bgz_w (aI @C.cg6_w @C.cg7_w)))) (aI (aI (aI @C.cg8_w @C.bgy_w) (aI @C.cg9_w (aI @C.chb_w @C.chc_w))) (aI (aI @C.bgw_w (aI @C.cg0_w @C.cg2_w)) (aI @C.bgv_w (aI @C.cg3_w @C.bgt_w))))
def C.q64_B := aI (aI (aI @C.bg1_b.eq_1 @C.bgx_b.eq_1) (aI @C.bgq_b.eq_1 @C.bg0_b.eq_1)) (aI (aI @C.bgz_b.eq_1 @C.bgy_b.eq_1) (aI @C.bgw_b.eq_1 (aI @C.bgv_b.eq_1 @C.bgt_b.eq_1)))

def C.bh9_b : LO := [
 X.m 10 4,
 X.m 2 10]
def C.bh9 : LO := C.bh9_b
def C.bh9_w := pO C.bh9.eq_1
def C.cjg : ICode := .keep [4] (.seq (.region C.bh9) .ret)
def C.cjg_w := pC C.cjg.eq_1
def C.bh8_b : LO := [
 X.m 6 0,
 X.o 7 (.call F.q76 [X.s 6]),
 X.m 5 7,
 X.o 8 (.extract (X.s 5) 0),
 X.o 9 (.extract (X.s 5) 1),
 X.m 3 8,
 X.m 4 9]
def C.bh8 : LO := C.bh8_b
def C.bh8_w := pO C.bh8.eq_1
def C.cjh : ICode := .keep [0] (.seq (.region C.bh8) C.cjg)
def C.cjh_w := pC C.cjh.eq_1
def C.bh7_b : LO := [
 X.o 2 (.move (X.i 0))]
def C.bh7 : LO := C.bh7_b
def C.bh7_w := pO C.bh7.eq_1
def C.q75 : IFunc := ⟨1, [.slot 2], .seq (.region C.bh7) C.cjh⟩
def C.q75_W := aI (aI @C.bh9_w @C.cjg_w) (aI @C.bh8_w (aI @C.cjh_w @C.bh7_w))
def C.q75_B := aI @C.bh9_b.eq_1 (aI @C.bh8_b.eq_1 @C.bh7_b.eq_1)

def C.bhl_b : LO := [
 X.m 3 0,
 X.o 4 (.append 1 8 (.cst (.nils)) (X.s 3)),
 X.m 2 4]
def C.bhl : LO := C.bhl_b
def C.bhl_w := pO C.bhl.eq_1
def C.chs : ICode := .keep [0] (.seq (.region C.bhl) .ret)
def C.chs_w := pC C.chs.eq_1
def C.bhk_b : LO := [
 X.o 2 (.move (.cst (.nils)))]
def C.bhk : LO := C.bhk_b
def C.bhk_w := pO C.bhk.eq_1
def C.q70 : IFunc := ⟨1, [.slot 2], .seq (.region C.bhk) C.chs⟩
def C.q70_W := aI @C.bhl_w (aI @C.chs_w @C.bhk_w)
def C.q70_B := aI @C.bhl_b.eq_1 @C.bhk_b.eq_1

def C.bd7_b : LO := [
 X.o 3 (.fldAddr 0 (X.s 0)),
 X.o 4 (.load1 (X.s 3)),
 X.o 5 (.bin .neq (X.s 4) (X.i (-1))),
 X.m 6 5,
 X.t 6 7 (.fldAddr 0 (X.s 0)),
 X.t 6 8 (.load1 (X.s 7)),
 X.t 6 9 (.fldAddr 1 (X.s 1)),
 X.t 6 10 (.load1 (X.s 9)),
 X.t 6 11 (.len (X.s 10)),
 X.t 6 12 (.bin .sub (X.s 11) (X.i 1)),
 X.t 6 13 (.call F.q74 [X.s 8, X.i 0, X.s 12]),
 X.t 6 14 (.un .not (X.s 13)),
 X.o 15 (.pick (X.s 6) (X.s 14) (.cst (.bool false))),
 X.o 16 (.call F.q73 [X.s 15, X.i 4]),
 X.m 2 16]
def C.bd7 : LO := C.bd7_b
def C.bd7_w := pO C.bd7.eq_1
def C.cd4 : ICode := .keep [0, 1] (.seq (.region C.bd7) .ret)
def C.cd4_w := pC C.cd4.eq_1
def C.bd6_b : LO := [
 X.o 2 (.move (X.i 0))]
def C.bd6 : LO := C.bd6_b
def C.bd6_w := pO C.bd6.eq_1
def C.q54 : IFunc := ⟨2, [.slot 2], .seq (.region C.bd6) C.cd4⟩
def C.q54_W := aI @C.bd7_w (aI @C.cd4_w @C.bd6_w)
def C.q54_B := aI @C.bd7_b.eq_1 @C.bd6_b.eq_1

def C.bd9_b : LO := [
 X.o 2 (.fldAddr 1 (X.s 0)),
 X.o 3 (.load1 (X.s 2)),
 X.o 4 (.call F.q74 [X.s 3, X.i 0, X.i 20]),
 X.o 5 (.un .not (X.s 4)),
 X.o 6 (.call F.q73 [X.s 5, X.i 3]),
 X.m 1 6]
def C.bd9 : LO := C.bd9_b
def C.bd9_w := pO C.bd9.eq_1
def C.cd5 : ICode := .keep [0] (.seq (.region C.bd9) .ret)
def C.cd5_w := pC C.cd5.eq_1
def C.bd8_b : LO := [
 X.o 1 (.move (X.i 0))]
def C.bd8 : LO := C.bd8_b
def C.bd8_w := pO C.bd8.eq_1
def C.q55 : IFunc := ⟨1, [.slot 1], .seq (.region C.bd8) C.cd5⟩
def C.q55_W := aI @C.bd9_w (aI @C.cd5_w @C.bd8_w)
def C.q55_B := aI @C.bd9_b.eq_1 @C.bd8_b.eq_1

def C.bdj_b : LO := [
 X.o 3 (.fldAddr 0 (X.s 0)),
 X.o 4 (.load1 (X.s 3)),
 X.o 5 (.fldAddr 0 (X.s 1)),
 X.o 6 (.load1 (X.s 5)),
 X.o 7 (.len (X.s 6)),
 X.o 8 (.bin .sub (X.s 7) (X.i 1)),
 X.o 9 (.call F.q74 [X.s 4, X.i 0, X.s 8]),
 X.o 10 (.un .not (X.s 9)),
 X.o 11 (.call F.q73 [X.s 10, X.i 4]),
 X.m 2 11]
def C.bdj : LO := C.bdj_b
def C.bdj_w := pO C.bdj.eq_1
def C.cdk : ICode := .keep [0, 1] (.seq (.region C.bdj) .ret)
def C.cdk_w := pC C.cdk.eq_1
def C.bdh_b : LO := [
 X.o 2 (.move (X.i 0))]
def C.bdh : LO := C.bdh_b
def C.bdh_w := pO C.bdh.eq_1
def C.q48 : IFunc := ⟨2, [.slot 2], .seq (.region C.bdh) C.cdk⟩
def C.q48_W := aI @C.bdj_w (aI @C.cdk_w @C.bdh_w)
def C.q48_B := aI @C.bdj_b.eq_1 @C.bdh_b.eq_1

def C.bdl_b : LO := [
 X.o 3 (.fldAddr 1 (X.s 0)),
 X.o 4 (.load1 (X.s 3)),
 X.o 5 (.fldAddr 1 (X.s 1)),
 X.o 6 (.load1 (X.s 5)),
 X.o 7 (.len (X.s 6)),
 X.o 8 (.bin .sub (X.s 7) (X.i 1)),
 X.o 9 (.call F.q74 [X.s 4, X.i 0, X.s 8]),
 X.o 10 (.un .not (X.s 9)),
 X.o 11 (.call F.q73 [X.s 10, X.i 4]),
 X.m 2 11]
def C.bdl : LO := C.bdl_b
def C.bdl_w := pO C.bdl.eq_1
def C.cdl : ICode := .keep [0, 1] (.seq (.region C.bdl) .ret)
def C.cdl_w := pC C.cdl.eq_1
def C.bdk_b : LO := [
 X.o 2 (.move (X.i 0))]
def C.bdk : LO := C.bdk_b
def C.bdk_w := pO C.bdk.eq_1
def C.q49 : IFunc := ⟨2, [.slot 2], .seq (.region C.bdk) C.cdl⟩
def C.q49_W := aI @C.bdl_w (aI @C.cdl_w @C.bdk_w)
def C.q49_B := aI @C.bdl_b.eq_1 @C.bdk_b.eq_1

def C.bdz_b : LO := [
 X.o 3 (.fldAddr 2 (X.s 0)),
 X.o 4 (.load1 (X.s 3)),
 X.o 5 (.fldAddr 2 (X.s 1)),
 X.o 6 (.load1 (X.s 5)),
 X.o 7 (.len (X.s 6)),
 X.o 8 (.bin .sub (X.s 7) (X.i 1)),
 X.o 9 (.call F.q74 [X.s 4, X.i 0, X.s 8]),
 X.o 10 (.un .not (X.s 9)),
 X.o 11 (.call F.q73 [X.s 10, X.i 4]),
 X.m 2 11]
def C.bdz : LO := C.bdz_b
def C.bdz_w := pO C.bdz.eq_1
def C.cd0 : ICode := .keep [0, 1] (.seq (.region C.bdz) .ret)
def C.cd0_w := pC C.cd0.eq_1
def C.bdq_b : LO := [
 X.o 2 (.move (X.i 0))]
def C.bdq : LO := C.bdq_b
def C.bdq_w := pO C.bdq.eq_1
def C.q50 : IFunc := ⟨2, [.slot 2], .seq (.region C.bdq) C.cd0⟩
def C.q50_W := aI @C.bdz_w (aI @C.cd0_w @C.bdq_w)
def C.q50_B := aI @C.bdz_b.eq_1 @C.bdq_b.eq_1

def C.bd1_b : LO := [
 X.o 3 (.fldAddr 5 (X.s 0)),
 X.o 4 (.load1 (X.s 3)),
 X.o 5 (.makeFunc F.q52 [X.s 1]),
 X.o 6 (.call F.q60 [X.s 4, X.s 5]),
 X.m 2 6]
def C.bd1 : LO := C.bd1_b
def C.bd1_w := pO C.bd1.eq_1
def C.cd1 : ICode := .keep [0, 1] (.seq (.region C.bd1) .ret)
def C.cd1_w := pC C.cd1.eq_1
def C.bd0_b : LO := [
 X.o 2 (.move (X.i 0))]
def C.bd0 : LO := C.bd0_b
def C.bd0_w := pO C.bd0.eq_1
def C.q51 : IFunc := ⟨2, [.slot 2], .seq (.region C.bd0) C.cd1⟩
def C.q51_W := aI @C.bd1_w (aI @C.cd1_w @C.bd0_w)
def C.q51_B := aI @C.bd1_b.eq_1 @C.bd0_b.eq_1

def C.bd3_b : LO := [
 X.m 4 0,
 X.o 5 (.fldAddr 3 (X.s 1)),
 X.o 6 (.load1 (X.s 5)),
 X.o 7 (.len (X.s 6)),
 X.o 8 (.bin .sub (X.s 7) (X.i 1)),
 X.o 9 (.call F.q74 [X.s 4, X.i 0, X.s 8]),
 X.o 10 (.un .not (X.s 9)),
 X.o 11 (.call F.q73 [X.s 10, X.i 4]),
 X.m 3 11]
def C.bd3 : LO := C.bd3_b
def C.bd3_w := pO C.bd3.eq_1
def C.cd2 : ICode := .keep [0, 1] (.seq (.region C.bd3) .ret)
def C.cd2_w := pC C.cd2.eq_1
def C.bd2_b : LO := [
 X.o 3 (.move (X.i 0))]
def C.bd2 : LO := C.bd2_b
def C.bd2_w := pO C.bd2.eq_1
def C.q52 : IFunc := ⟨2, [.slot 3], .seq (.region C.bd2) C.cd2⟩
def C.q52_W := aI @C.bd3_w (aI @C.cd2_w @C.bd2_w)
def C.q52_B := aI @C.bd3_b.eq_1 @C.bd2_b.eq_1

def C.vx_b : LO := [
 X.o 4 (.load1 (X.s 2)),
 X.o 5 (.makeFunc F.q119 [X.s 3, X.s 2]),
 X.o 6 (.call F.q120 [X.s 4, X.s 5])]
def C.vx : LO := C.vx_b
def C.vx_w := pO C.vx.eq_1
def C.b69 : ICode := .keep [2, 3] (.region C.vx)
def C.b69_w := pC C.b69.eq_1
def C.vw_b : LO := [
 X.o 2 (.box1 (X.s 0)),
 X.o 3 (.box1 (X.s 1))]
def C.vw : LO := C.vw_b
def C.vw_w := pO C.vw.eq_1
def C.q118 : IFunc := ⟨2, [], .seq (.region C.vw) C.b69⟩
def C.q118_W := aI @C.vx_w (aI @C.b69_w @C.vw_w)
def C.q118_B := aI @C.vx_b.eq_1 @C.vw_b.eq_1

def C.tq_b : LO := [
 X.o 5 (.fldAddr 0 (X.s 3)),
 X.o 6 (.load1 (X.s 5)),
 X.m 4 6]
def C.tq : LO := C.tq_b
def C.tq_w := pO C.tq.eq_1
def C.b6f : ICode := .keep [3] (.seq (.region C.tq) .ret)
def C.b6f_w := pC C.b6f.eq_1
def C.ty_b : LO := [
 X.o 3 (.boxN (X.s 1)),
 X.o 4 (.move (.cst (.int .u32 0)))]
def C.ty : LO := C.ty_b
def C.ty_w := pO C.ty.eq_1
def C.q110 : IFunc := ⟨2, [.slot 4], .seq (.region C.ty) C.b6f⟩
def C.q110_W := aI @C.tq_w (aI @C.b6f_w @C.ty_w)
def C.q110_B := aI @C.tq_b.eq_1 @C.ty_b.eq_1

def C.sk_b : LO := [
 X.m 3 0,
 X.o 4 (.nilchk (X.s 3)),
 X.o 5 (.fldAddr 3 (X.s 4)),
 X.o 6 (.load1 (X.s 5)),
 X.o 7 (.bin .eql (X.s 6) (.cst (.int .u8 48))),
 X.m 8 7,
 X.f 8 9 (.move (X.s 0)),
 X.f 8 10 (.nilchk (X.s 9)),
 X.f 8 11 (.fldAddr 3 (X.s 10)),
 X.f 8 12 (.load1 (X.s 11)),
 X.f 8 13 (.bin .eql (X.s 12) (.cst (.int .u8 116))),
 X.o 14 (.pick (X.s 8) (.cst (.bool true)) (X.s 13)),
 X.m 2 14]
def C.sk : LO := C.sk_b
def C.sk_w := pO C.sk.eq_1
def C.b4w : ICode := .keep [0] (.seq (.region C.sk) .ret)
def C.b4w_w := pC C.b4w.eq_1
def C.sj_b : LO := [
 X.o 2 (.move (.cst (.bool false)))]
def C.sj : LO := C.sj_b
def C.sj_w := pO C.sj.eq_1
def C.q104 : IFunc := ⟨1, [.slot 2], .seq (.region C.sj) C.b4w⟩
def C.q104_W := aI @C.sk_w (aI @C.b4w_w @C.sj_w)
def C.q104_B := aI @C.sk_b.eq_1 @C.sj_b.eq_1

def C.bg3_b : LO := [
 X.m 3 0,
 X.o 4 (.append 6 64 (.cst (.nils)) (X.s 3)),
 X.m 2 4]
def C.bg3 : LO := C.bg3_b
def C.bg3_w := pO C.bg3.eq_1
def C.chd : ICode := .keep [0] (.seq (.region C.bg3) .ret)
def C.chd_w := pC C.chd.eq_1
def C.bg2_b : LO := [
 X.o 2 (.move (.cst (.nils)))]
def C.bg2 : LO := C.bg2_b
def C.bg2_w := pO C.bg2.eq_1
def C.q65 : IFunc := ⟨1, [.slot 2], .seq (.region C.bg2) C.chd⟩
def C.q65_W := aI @C.bg3_w (aI @C.chd_w @C.bg2_w)
def C.q65_B := aI @C.bg3_b.eq_1 @C.bg2_b.eq_1

def C.bg7_b : LO := [
 X.m 3 0,
 X.o 4 (.append 3 24 (.cst (.nils)) (X.s 3)),
 X.m 2 4]
def C.bg7 : LO := C.bg7_b
def C.bg7_w := pO C.bg7.eq_1
def C.chg : ICode := .keep [0] (.seq (.region C.bg7) .ret)
def C.chg_w := pC C.chg.eq_1
def C.bg6_b : LO := [
 X.o 2 (.move (.cst (.nils)))]
def C.bg6 : LO := C.bg6_b
def C.bg6_w := pO C.bg6.eq_1
def C.q67 : IFunc := ⟨1, [.slot 2], .seq (.region C.bg6) C.chg⟩
def C.q67_W := aI @C.bg7_w (aI @C.chg_w @C.bg6_w)
def C.q67_B := aI @C.bg7_b.eq_1 @C.bg6_b.eq_1

def C.bhc_b : LO := [
 X.m 3 0,
 X.o 4 (.append 1 8 (.cst (.nils)) (X.s 3)),
 X.m 2 4]
def C.bhc : LO := C.bhc_b
def C.bhc_w := pO C.bhc.eq_1
def C.chj : ICode := .keep [0] (.seq (.region C.bhc) .ret)
def C.chj_w := pC C.chj.eq_1
def C.bhb_b : LO := [
 X.o 2 (.move (.cst (.nils)))]
def C.bhb : LO := C.bhb_b
def C.bhb_w := pO C.bhb.eq_1
def C.q69 : IFunc := ⟨1, [.slot 2], .seq (.region C.bhb) C.chj⟩
def C.q69_W := aI @C.bhc_w (aI @C.chj_w @C.bhb_w)
def C.q69_B := aI @C.bhc_b.eq_1 @C.bhb_b.eq_1

def C.bg5_b : LO := [
 X.m 3 0,
 X.o 4 (.append 6 80 (.cst (.nils)) (X.s 3)),
 X.m 2 4]
def C.bg5 : LO := C.bg5_b
def C.bg5_w := pO C.bg5.eq_1
def C.chf : ICode := .keep [0] (.seq (.region C.bg5) .ret)
def C.chf_w := pC C.chf.eq_1
def C.bg4_b : LO := [
 X.o 2 (.move (.cst (.nils)))]
def C.bg4 : LO := C.bg4_b
def C.bg4_w := pO C.bg4.eq_1
def C.q66 : IFunc := ⟨1, [.slot 2], .seq (.region C.bg4) C.chf⟩
def C.q66_W := aI @C.bg5_w (aI @C.chf_w @C.bg4_w)
def C.q66_B := aI @C.bg5_b.eq_1 @C.bg4_b.eq_1

def C.bg9_b : LO := [
 X.m 3 0,
 X.o 4 (.append 2 8 (.cst (.nils)) (X.s 3)),
 X.m 2 4]
def C.bg9 : LO := C.bg9_b
def C.bg9_w := pO C.bg9.eq_1
def C.chh : ICode := .keep [0] (.seq (.region C.bg9) .ret)
def C.chh_w := pC C.chh.eq_1
def C.bg8_b : LO := [
 X.o 2 (.move (.cst (.nils)))]
def C.bg8 : LO := C.bg8_b
def C.bg8_w := pO C.bg8.eq_1
def C.q68 : IFunc := ⟨1, [.slot 2], .seq (.region C.bg8) C.chh⟩
def C.q68_W := aI @C.bg9_w (aI @C.chh_w @C.bg8_w)
def C.q68_B := aI @C.bg9_b.eq_1 @C.bg8_b.eq_1

def C.bcz_b : LO := [
 X.o 4 (.load1 (X.s 1)),
 X.o 5 (.bin .shl (.cst (.int .u64 1)) (X.s 4)),
 X.o 6 (.bin .sub (X.s 5) (.cst (.int .u64 1))),
 X.m 7 0,
 X.o 8 (.bin .shl (X.s 6) (X.s 7)),
 X.o 9 (.conv .u32 (X.s 8)),
 X.m 3 9]
def C.bcz : LO := C.bcz_b
def C.bcz_w := pO C.bcz.eq_1
def C.cc8 : ICode := .keep [0, 1] (.seq (.region C.bcz) .ret)
def C.cc8_w := pC C.cc8.eq_1
def C.bcq_b : LO := [
 X.o 3 (.move (.cst (.int .u32 0)))]
def C.bcq : LO := C.bcq_b
def C.bcq_w := pO C.bcq.eq_1
def C.q3 : IFunc := ⟨2, [.slot 3], .seq (.region C.bcq) C.cc8⟩
def C.q3_W := aI @C.bcz_w (aI @C.cc8_w @C.bcq_w)
def C.q3_B := aI @C.bcz_b.eq_1 @C.bcq_b.eq_1

def C.rx_b : LO := [
 X.m 18 0,
 X.m 19 1,
 X.o 20 (.bin .shr (X.s 18) (X.s 19)),
 X.m 21 8,
 X.o 22 (.callv (X.s 21) [X.i 0]),
 X.o 23 (.bin .and (X.s 20) (X.s 22)),
 X.m 6 23,
 X.o 7 (.move (X.i 0))]
def C.rx : LO := C.rx_b
def C.rx_w := pO C.rx.eq_1
def C.b3z : ICode := .keep [0, 1, 8] (.seq (.region C.rx) .ret)
def C.b3z_w := pC C.b3z.eq_1
def C.rw_b : LO := [
 X.o 6 (.move (.cst (.int .u32 0))),
 X.o 7 (.move (X.i 3))]
def C.rw : LO := C.rw_b
def C.rw_w := pO C.rw.eq_1
def C.b30 : ICode := .seq (.region C.rw) .ret
def C.b30_w := pC C.b30.eq_1
def C.b31 : ICode := .keep [0, 1, 8, 17] (.cond (X.s 17) C.b30 .skip)
def C.b31_w := pC C.b31.eq_1
def C.rv_b : LO := [
 X.m 16 9,
 X.o 17 (.un .not (X.s 16))]
def C.rv : LO := C.rv_b
def C.rv_w := pO C.rv.eq_1
def C.b32 : ICode := .keep [0, 1, 8, 9] (.seq (.seq (.region C.rv) C.b31) C.b3z)
def C.b32_w := pC C.b32.eq_1
def C.rt_b : LO := [
 X.m 11 1,
 X.m 12 2,
 X.o 13 (.call F.q2 [X.s 11, X.s 12]),
 X.m 10 13,
 X.o 14 (.extract (X.s 10) 0),
 X.o 15 (.extract (X.s 10) 1),
 X.m 8 14,
 X.m 9 15]
def C.rt : LO := C.rt_b
def C.rt_w := pO C.rt.eq_1
def C.b33 : ICode := .keep [0, 1, 2] (.seq (.region C.rt) C.b32)
def C.b33_w := pC C.b33.eq_1
def C.rs_b : LO := [
 X.o 6 (.move (.cst (.int .u32 0))),
 X.o 7 (.move (X.i 0))]
def C.rs : LO := C.rs_b
def C.rs_w := pO C.rs.eq_1
def C.q0 : IFunc := ⟨3, [.slot 6, .slot 7], .seq (.region C.rs) C.b33⟩
def C.q0_W := aI (aI (aI @C.rx_w @C.b3z_w) (aI @C.rw_w (aI @C.b30_w @C.b31_w))) (aI (aI @C.rv_w @C.b32_w) (aI @C.rt_w (aI @C.b33_w @C.rs_w)))
def C.q0_B := aI (aI @C.rx_b.eq_1 @C.rw_b.eq_1) (aI @C.rv_b.eq_1 (aI @C.rt_b.eq_1 @C.rs_b.eq_1))

def C.f9_b : LO := [
 X.o 20 (.bin .add (X.s 7) (X.i 1)),
 X.m 7 20]
def C.f9 : LO := C.f9_b
def C.f9_w := pO C.f9.eq_1
def C.bpz : ICode := .keep [0, 1, 6, 7] (.region C.f9)
def C.bpz_w := pC C.bpz.eq_1
def C.f8_b : LO := [
 X.m 10 1,
 X.m 11 4,
 X.m 12 0,
 X.o 13 (.nilchk (X.s 12)),
 X.o 14 (.fldAddr 0 (X.s 13)),
 X.o 15 (.load1 (X.s 14)),
 X.m 16 4,
 X.o 17 (.idxAddr 2 (X.s 15) (X.s 16)),
 X.o 18 (.loadN 2 (X.s 17)),
 X.o 19 (.callv (X.s 10) [X.s 11, X.s 18])]
def C.f8 : LO := C.f8_b
def C.f8_w := pO C.f8.eq_1
def C.bp0 : ICode := .keep [0, 1, 4, 6, 7] (.region C.f8)
def C.bp0_w := pC C.bp0.eq_1
def C.f7_b : LO := [
 X.m 9 7,
 X.m 4 9]
def C.f7 : LO := C.f7_b
def C.f7_w := pO C.f7.eq_1
def C.bpq : ICode := .seq (.region C.f7) C.bp0
def C.bpq_w := pC C.bpq.eq_1
def C.bp1 : ICode := .keep [0, 1, 6, 7] (.seq (.block 1 C.bpq) C.bpz)
def C.bp1_w := pC C.bp1.eq_1
def C.bp2 : ICode := .keep [0, 1, 6, 7, 8] (.seq (.cond (X.s 8) .skip (.exit 0)) C.bp1)
def C.bp2_w := pC C.bp2.eq_1
def C.f6_b : LO := [
 X.o 8 (.bin .lss (X.s 7) (X.s 6))]
def C.f6 : LO := C.f6_b
def C.f6_w := pO C.f6.eq_1
def C.b7h : ICode := .keep [0, 1, 6, 7] (.seq (.region C.f6) C.bp2)
def C.b7h_w := pC C.b7h.eq_1
def C.b7f : ICode := .loop C.b7h
def C.b7f_w := pC C.b7f.eq_1
def C.b7g : ICode := .keep [0, 1, 6, 7] (.block 0 C.b7f)
def C.b7g_w := pC C.b7g.eq_1
def C.v2_b : LO := [
 X.m 5 0,
 X.o 6 (.call F.q111 [X.s 5]),
 X.o 7 (.move (X.i 0))]
def C.v2 : LO := C.v2_b
def C.v2_w := pO C.v2.eq_1
def C.q120 : IFunc := ⟨2, [], .seq (.region C.v2) C.b7g⟩
def C.q120_W := aI (aI (aI @C.f9_w (aI @C.bpz_w @C.f8_w)) (aI @C.bp0_w (aI @C.f7_w @C.bpq_w))) (aI (aI @C.bp1_w (aI @C.bp2_w @C.f6_w)) (aI @C.b7f_w (aI @C.b7g_w @C.v2_w)))
def C.q120_B := aI (aI @C.f9_b.eq_1 @C.f8_b.eq_1) (aI @C.f7_b.eq_1 (aI @C.f6_b.eq_1 @C.v2_b.eq_1))

def C.vn_b : LO := [
 X.o 7 (.load1 (X.s 2)),
 X.o 8 (.nilchk (X.s 7)),
 X.o 9 (.fldAddr 2 (X.s 8)),
 X.o 10 (.load1 (X.s 9)),
 X.m 11 0,
 X.o 12 (.load1 (X.s 2)),
 X.o 13 (.nilchk (X.s 12)),
 X.o 14 (.fldAddr 1 (X.s 13)),
 X.o 15 (.load1 (X.s 14)),
 X.m 16 0,
 X.o 17 (.idxAddr 1 (X.s 15) (X.s 16)),
 X.o 18 (.load1 (X.s 17)),
 X.o 19 (.idxAddr 1 (X.s 10) (X.s 11)),
 X.n (.store1 (X.s 19) (X.s 18))]
def C.vn : LO := C.vn_b
def C.vn_w := pO C.vn.eq_1
def C.b62 : ICode := .keep [0, 2, 6] (.cond (X.s 6) (.region C.vn) .skip)
def C.b62_w := pC C.b62.eq_1
def C.vm_b : LO := [
 X.o 5 (.fldAddr 1 (X.s 4)),
 X.o 6 (.load1 (X.s 5))]
def C.vm : LO := C.vm_b
def C.vm_w := pO C.vm.eq_1
def C.b63 : ICode := .keep [0, 2, 4] (.seq (.region C.vm) C.b62)
def C.b63_w := pC C.b63.eq_1
def C.vl_b : LO := [
 X.o 4 (.boxN (X.s 1))]
def C.vl : LO := C.vl_b
def C.vl_w := pO C.vl.eq_1
def C.q116 : IFunc := ⟨3, [], .seq (.region C.vl) C.b63⟩
def C.q116_W := aI (aI @C.vn_w @C.b62_w) (aI @C.vm_w (aI @C.b63_w @C.vl_w))
def C.q116_B := aI @C.vn_b.eq_1 (aI @C.vm_b.eq_1 @C.vl_b.eq_1)

def C.vf_b : LO := [
 X.o 21 (.fldAddr 0 (X.s 4)),
 X.o 22 (.load1 (X.s 21)),
 X.m 5 22]
def C.vf : LO := C.vf_b
def C.vf_w := pO C.vf.eq_1
def C.b6v : ICode := .keep [4] (.seq (.region C.vf) .ret)
def C.b6v_w := pC C.b6v.eq_1
def C.vd_b : LO := [
 X.o 14 (.load1 (X.s 2)),
 X.o 15 (.nilchk (X.s 14)),
 X.o 16 (.fldAddr 2 (X.s 15)),
 X.o 17 (.load1 (X.s 16)),
 X.m 18 0,
 X.o 19 (.idxAddr 1 (X.s 17) (X.s 18)),
 X.o 20 (.load1 (X.s 19)),
 X.m 5 20]
def C.vd : LO := C.vd_b
def C.vd_w := pO C.vd.eq_1
def C.b6w : ICode := .seq (.region C.vd) .ret
def C.b6w_w := pC C.b6w.eq_1
def C.b6x : ICode := .keep [0, 2, 4, 13] (.cond (X.s 13) C.b6w .skip)
def C.b6x_w := pC C.b6x.eq_1
def C.vc_b : LO := [
 X.o 6 (.load1 (X.s 2)),
 X.o 7 (.nilchk (X.s 6)),
 X.o 8 (.fldAddr 3 (X.s 7)),
 X.o 9 (.load1 (X.s 8)),
 X.m 10 9,
 X.t 10 11 (.fldAddr 1 (X.s 4)),
 X.t 10 12 (.load1 (X.s 11)),
 X.o 13 (.pick (X.s 10) (X.s 12) (.cst (.bool false)))]
def C.vc : LO := C.vc_b
def C.vc_w := pO C.vc.eq_1
def C.b6y : ICode := .keep [0, 2, 4] (.seq (.seq (.region C.vc) C.b6x) C.b6v)
def C.b6y_w := pC C.b6y.eq_1
def C.vb_b : LO := [
 X.o 4 (.boxN (X.s 1)),
 X.o 5 (.move (.cst (.int .u32 0)))]
def C.vb : LO := C.vb_b
def C.vb_w := pO C.vb.eq_1
def C.q114 : IFunc := ⟨3, [.slot 5], .seq (.region C.vb) C.b6y⟩
def C.q114_W := aI (aI (aI @C.vf_w @C.b6v_w) (aI @C.vd_w @C.b6w_w)) (aI (aI @C.b6x_w @C.vc_w) (aI @C.b6y_w @C.vb_w))
def C.q114_B := aI (aI @C.vf_b.eq_1 @C.vd_b.eq_1) (aI @C.vc_b.eq_1 @C.vb_b.eq_1)

def C.bjs_b : LO := [
 X.m 73 8,
 X.m 2 73,
 X.o 3 (.move (X.i 0))]
def C.bjs : LO := C.bjs_b
def C.bjs_w := pO C.bjs.eq_1
def C.cjr : ICode := .keep [8] (.seq (.region C.bjs) .ret)
def C.cjr_w := pC C.cjr.eq_1
def C.bjp_b : LO := [
 X.o 72 (.bin .add (X.s 62) (X.i 1)),
 X.m 62 72]
def C.bjp : LO := C.bjp_b
def C.bjp_w := pO C.bjp.eq_1
def C.cj0 : ICode := .keep [0, 5, 6, 7, 8, 60, 61, 62] (.region C.bjp)
def C.cj0_w := pC C.cj0.eq_1
def C.bjn_b : LO := [
 X.m 66 5,
 X.m 67 11,
 X.o 68 (.idxAddr 1 (X.s 66) (X.s 67)),
 X.o 69 (.load1 (X.s 68)),
 X.o 70 (.bin .sub (X.s 69) (X.i 1)),
 X.o 71 (.idxAddr 1 (X.s 66) (X.s 67)),
 X.n (.store1 (X.s 71) (X.s 70))]
def C.bjn : LO := C.bjn_b
def C.bjn_w := pO C.bjn.eq_1
def C.cj7 : ICode := .keep [0, 5, 6, 7, 8, 11, 60, 61, 62] (.region C.bjn)
def C.cj7_w := pC C.cj7.eq_1
def C.bjm_b : LO := [
 X.o 64 (.idxAddr 1 (X.s 60) (X.s 62)),
 X.o 65 (.load1 (X.s 64)),
 X.m 11 65]
def C.bjm : LO := C.bjm_b
def C.bjm_w := pO C.bjm.eq_1
def C.cjn : ICode := .seq (.region C.bjm) C.cj7
def C.cjn_w := pC C.cjn.eq_1
def C.ckf : ICode := .keep [0, 5, 6, 7, 8, 60, 61, 62] (.seq (.block 5 C.cjn) C.cj0)
def C.ckf_w := pC C.ckf.eq_1
def C.ckg : ICode := .keep [0, 5, 6, 7, 8, 60, 61, 62, 63] (.seq (.cond (X.s 63) .skip (.exit 4)) C.ckf)
def C.ckg_w := pC C.ckg.eq_1
def C.bjl_b : LO := [
 X.o 63 (.bin .lss (X.s 62) (X.s 61))]
def C.bjl : LO := C.bjl_b
def C.bjl_w := pO C.bjl.eq_1
def C.crb : ICode := .keep [0, 5, 6, 7, 8, 60, 61, 62] (.seq (.region C.bjl) C.ckg)
def C.crb_w := pC C.crb.eq_1
def C.cjp : ICode := .loop C.crb
def C.cjp_w := pC C.cjp.eq_1
def C.ckh : ICode := .keep [0, 5, 6, 7, 8, 60, 61, 62] (.block 4 C.cjp)
def C.ckh_w := pC C.ckh.eq_1
def C.bjk_b : LO := [
 X.m 57 6,
 X.m 58 9,
 X.o 59 (.idxAddr 1 (X.s 57) (X.s 58)),
 X.o 60 (.load1 (X.s 59)),
 X.o 61 (.len (X.s 60)),
 X.o 62 (.move (X.i 0))]
def C.bjk : LO := C.bjk_b
def C.bjk_w := pO C.bjk.eq_1
def C.cjs : ICode := .keep [0, 5, 6, 7, 8, 9] (.seq (.region C.bjk) C.ckh)
def C.cjs_w := pC C.cjs.eq_1
def C.bjj_b : LO := [
 X.m 53 8,
 X.m 54 9,
 X.o 55 (.buildSlice 1 1 [.int .i64 0] [(0, 1, X.s 54)]),
 X.o 56 (.append 1 8 (X.s 53) (X.s 55)),
 X.m 8 56]
def C.bjj : LO := C.bjj_b
def C.bjj_w := pO C.bjj.eq_1
def C.cjt : ICode := .keep [0, 5, 6, 7, 8, 9] (.seq (.region C.bjj) C.cjs)
def C.cjt_w := pC C.cjt.eq_1
def C.bjh_b : LO := [
 X.m 50 7,
 X.m 51 9,
 X.o 52 (.call F.q78 [X.s 50, X.s 51])]
def C.bjh : LO := C.bjh_b
def C.bjh_w := pO C.bjh.eq_1
def C.cjv : ICode := .keep [0, 5, 6, 7, 8, 9] (.seq (.region C.bjh) C.cjt)
def C.cjv_w := pC C.cjv.eq_1
def C.bjg_b : LO := [
 X.o 2 (.move (.cst (.nils))),
 X.o 3 (.move (X.i 5))]
def C.bjg : LO := C.bjg_b
def C.bjg_w := pO C.bjg.eq_1
def C.cjw : ICode := .seq (.region C.bjg) .ret
def C.cjw_w := pC C.cjw.eq_1
def C.cjx : ICode := .keep [0, 5, 6, 7, 8, 9, 49] (.cond (X.s 49) C.cjw .skip)
def C.cjx_w := pC C.cjx.eq_1
def C.bjf_b : LO := [
 X.m 46 9,
 X.m 47 0,
 X.o 48 (.len (X.s 47)),
 X.o 49 (.bin .eql (X.s 46) (X.s 48))]
def C.bjf : LO := C.bjf_b
def C.bjf_w := pO C.bjf.eq_1
def C.cjy : ICode := .keep [0, 5, 6, 7, 8, 9] (.seq (.seq (.region C.bjf) C.cjx) C.cjv)
def C.cjy_w := pC C.cjy.eq_1
def C.bjd_b : LO := [
 X.m 44 9,
 X.o 45 (.bin .add (X.s 44) (X.i 1)),
 X.m 9 45]
def C.bjd : LO := C.bjd_b
def C.bjd_w := pO C.bjd.eq_1
def C.cjj : ICode := .region C.bjd
def C.cjj_w := pC C.cjj.eq_1
def C.cjq : ICode := .keep [0, 5, 6, 7, 8, 9] (.block 3 C.cjj)
def C.cjq_w := pC C.cjq.eq_1
def C.cjz : ICode := .keep [0, 5, 6, 7, 8, 9, 43] (.cond (X.s 43) .skip (.exit 2))
def C.cjz_w := pC C.cjz.eq_1
def C.bjz_b : LO := [
 X.m 28 9,
 X.m 29 0,
 X.o 30 (.len (X.s 29)),
 X.o 31 (.bin .lss (X.s 28) (X.s 30)),
 X.m 32 31,
 X.t 32 33 (.move (X.s 7)),
 X.t 32 34 (.move (X.s 9)),
 X.t 32 35 (.call F.q79 [X.s 33, X.s 34]),
 X.t 32 36 (.move (X.s 35)),
 X.f 36 37 (.move (X.s 5)),
 X.f 36 38 (.move (X.s 9)),
 X.f 36 39 (.idxAddr 1 (X.s 37) (X.s 38)),
 X.f 36 40 (.load1 (X.s 39)),
 X.f 36 41 (.bin .gtr (X.s 40) (X.i 0)),
 X.t 32 42 (.pick (X.s 36) (.cst (.bool true)) (X.s 41)),
 X.o 43 (.pick (X.s 32) (X.s 42) (.cst (.bool false)))]
def C.bjz : LO := C.bjz_b
def C.bjz_w := pO C.bjz.eq_1
def C.cp8 : ICode := .keep [0, 5, 6, 7, 8, 9] (.seq (.seq (.region C.bjz) C.cjz) C.cjq)
def C.cp8_w := pC C.cp8.eq_1
def C.cjk : ICode := .loop C.cp8
def C.cjk_w := pC C.cjk.eq_1
def C.cj1 : ICode := .keep [0, 5, 6, 7, 8, 9] (.seq (.block 2 C.cjk) C.cjy)
def C.cj1_w := pC C.cj1.eq_1
def C.bjq_b : LO := [
 X.o 9 (.move (X.i 0))]
def C.bjq : LO := C.bjq_b
def C.bjq_w := pO C.bjq.eq_1
def C.cjl : ICode := .seq (.region C.bjq) C.cj1
def C.cjl_w := pC C.cjl.eq_1
def C.cj2 : ICode := .keep [0, 5, 6, 7, 8] (.block 1 C.cjl)
def C.cj2_w := pC C.cj2.eq_1
def C.cj3 : ICode := .keep [0, 5, 6, 7, 8, 27] (.cond (X.s 27) .skip (.exit 0))
def C.cj3_w := pC C.cj3.eq_1
def C.bjy_b : LO := [
 X.m 23 8,
 X.o 24 (.len (X.s 23)),
 X.m 25 0,
 X.o 26 (.len (X.s 25)),
 X.o 27 (.bin .lss (X.s 24) (X.s 26))]
def C.bjy : LO := C.bjy_b
def C.bjy_w := pO C.bjy.eq_1
def C.cp9 : ICode := .keep [0, 5, 6, 7, 8] (.seq (.seq (.region C.bjy) C.cj3) C.cj2)
def C.cp9_w := pC C.cp9.eq_1
def C.cjm : ICode := .loop C.cp9
def C.cjm_w := pC C.cjm.eq_1
def C.cj4 : ICode := .keep [0, 5, 6, 7, 8] (.seq (.block 0 C.cjm) C.cjr)
def C.cj4_w := pC C.cj4.eq_1
def C.bjx_b : LO := [
 X.o 8 (.move (.cst (.nils)))]
def C.bjx : LO := C.bjx_b
def C.bjx_w := pO C.bjx.eq_1
def C.cj5 : ICode := .keep [0, 5, 6, 7] (.seq (.region C.bjx) C.cj4)
def C.cj5_w := pC C.cj5.eq_1
def C.bjw_b : LO := [
 X.o 22 (.makeMap none),
 X.m 7 22]
def C.bjw : LO := C.bjw_b
def C.bjw_w := pO C.bjw.eq_1
def C.cj6 : ICode := .keep [0, 5, 6] (.seq (.region C.bjw) C.cj5)
def C.cj6_w := pC C.cj6.eq_1
def C.bjv_b : LO := [
 X.m 18 0,
 X.o 19 (.call F.q77 [X.s 18]),
 X.m 17 19,
 X.o 20 (.extract (X.s 17) 0),
 X.o 21 (.extract (X.s 17) 1),
 X.m 5 20,
 X.m 6 21]
def C.bjv : LO := C.bjv_b
def C.bjv_w := pO C.bjv.eq_1
def C.cj8 : ICode := .keep [0] (.seq (.region C.bjv) C.cj6)
def C.cj8_w := pC C.cj8.eq_1
def C.bjt_b : LO := [
 X.m 16 4,
 X.o 2 (.move (.cst (.nils))),
 X.m 3 16]
def C.bjt : LO := C.bjt_b
def C.bjt_w := pO C.bjt.eq_1
def C.cj9 : ICode := .seq (.region C.bjt) .ret
def C.cj9_w := pC C.cj9.eq_1
def C.ckb : ICode := .keep [0, 4, 15] (.cond (X.s 15) C.cj9 .skip)
def C.ckb_w := pC C.ckb.eq_1
def C.bjr_b : LO := [
 X.m 14 4,
 X.o 15 (.bin .neq (X.s 14) (X.i 0))]
def C.bjr : LO := C.bjr_b
def C.bjr_w := pO C.bjr.eq_1
def C.ckc : ICode := .keep [0, 4] (.seq (.region C.bjr) C.ckb)
def C.ckc_w := pC C.ckc.eq_1
def C.bjc_b : LO := [
 X.m 12 0,
 X.o 13 (.call F.q80 [X.s 12]),
 X.m 4 13]
def C.bjc : LO := C.bjc_b
def C.bjc_w := pO C.bjc.eq_1
def C.ckd : ICode := .keep [0] (.seq (.seq (.region C.bjc) C.ckc) C.cj8)
def C.ckd_w := pC C.ckd.eq_1
def C.bjb_b : LO := [
 X.o 2 (.move (.cst (.nils))),
 X.o 3 (.move (X.i 0))]
def C.bjb : LO := C.bjb_b
def C.bjb_w := pO C.bjb.eq_1
def C.q76 : IFunc := ⟨1, [.slot 2, .slot 3], .seq (.region C.bjb) C.ckd⟩
def C.q76_W := aI (aI (aI (aI (aI @C.bjs_w (aI @C.cjr_w @C.bjp_w)) (aI @C.cj0_w (aI @C.bjn_w @C.cj7_w))) (aI (aI @C.bjm_w (aI @C.cjn_w @C.ckf_w)) (aI (aI @C.ckg_w @C.bjl_w) (aI @C.cjp_w @C.ckh_w)))) (aI (aI (aI @C.bjk_w (aI @C.cjs_w @C.bjj_w)) (aI @C.cjt_w (aI @C.bjh_w @C.cjv_w))) (aI (aI @C.bjg_w (aI @C.cjw_w @C.cjx_w)) (aI (aI @C.bjf_w @C.cjy_w) (aI @C.bjd_w @C.cjj_w))))) (aI (aI (aI (aI @C.cjq_w (aI @C.cjz_w @C.bjz_w)) (aI @C.cjk_w (aI @C.cj1_w @C.bjq_w))) (aI (aI @C.cjl_w (aI @C.cj2_w @C.cj3_w)) (aI (aI @C.bjy_w @C.cjm_w) (aI @C.cj4_w @C.bjx_w)))) (aI (aI (aI @C.cj5_w (aI @C.bjw_w @C.cj6_w)) (aI @C.bjv_w (aI @C.cj8_w @C.bjt_w))) (aI (aI @C.cj9_w (aI @C.ckb_w @C.bjr_w)) (aI (aI @C.ckc_w @C.bjc_w) (aI @C.ckd_w @C.bjb_w)))))
def C.q76_B := aI (aI (aI (aI @C.bjs_b.eq_1 @C.bjp_b.eq_1) (aI @C.bjn_b.eq_1 (aI @C.bjm_b.eq_1 @C.bjl_b.eq_1))) (aI (aI @C.bjk_b.eq_1 @C.bjj_b.eq_1) (aI @C.bjh_b.eq_1 (aI @C.bjg_b.eq_1 @C.bjf_b.eq_1)))) (aI (aI (aI @C.bjd_b.eq_1 @C.bjz_b.eq_1) (aI @C.bjq_b.eq_1 (aI @C.bjy_b.eq_1 @C.bjx_b.eq_1))) (aI (aI @C.bjw_b.eq_1 (aI @C.bjv_b.eq_1 @C.bjt_b.eq_1)) (aI @C.bjr_b.eq_1 (aI @C.bjc_b.eq_1 @C.bjb_b.eq_1))))

def C.vq_b : LO := [
 X.o 6 (.load1 (X.s 3)),
 X.o 7 (.nilchk (X.s 6)),
 X.o 8 (.fldAddr 1 (X.s 7)),
 X.o 9 (.load1 (X.s 8)),
 X.m 10 0,
 X.o 11 (.load1 (X.s 2)),
 X.m 12 0,
 X.o 13 (.loadN 2 (X.s 5)),
 ⟨some 14, .callv (X.s 11) [X.s 12, X.s 13], none, [⟨.load1 (X.s 3), 6, none⟩, ⟨.load1 (X.s 8), 9, none⟩], []⟩,
 X.o 15 (.idxAddr 1 (X.s 9) (X.s 10)),
 X.n (.store1 (X.s 15) (X.s 14))]
def C.vq : LO := C.vq_b
def C.vq_w := pO C.vq.eq_1
def C.b7b : ICode := .keep [0, 2, 3, 5] (.region C.vq)
def C.b7b_w := pC C.b7b.eq_1
def C.vy_b : LO := [
 X.o 5 (.boxN (X.s 1))]
def C.vy : LO := C.vy_b
def C.vy_w := pO C.vy.eq_1
def C.q119 : IFunc := ⟨4, [], .seq (.region C.vy) C.b7b⟩
def C.q119_W := aI @C.vq_w (aI @C.b7b_w @C.vy_w)
def C.q119_B := aI @C.vq_b.eq_1 @C.vy_b.eq_1

def C.bkz_b : LO := [
 X.o 2 (.move (X.i 0))]
def C.bkz : LO := C.bkz_b
def C.bkz_w := pO C.bkz.eq_1
def C.cll : ICode := .keep [] (.seq (.region C.bkz) .ret)
def C.cll_w := pC C.cll.eq_1
def C.bkq_b : LO := [
 X.o 31 (.bin .add (X.s 12) (X.i 1)),
 X.m 12 31]
def C.bkq : LO := C.bkq_b
def C.bkq_w := pO C.bkq.eq_1
def C.clt : ICode := .keep [0, 10, 11, 12] (.region C.bkq)
def C.clt_w := pC C.clt.eq_1
def C.bky_b : LO := [
 X.o 30 (.bin .add (X.s 18) (X.i 1)),
 X.m 18 30]
def C.bky : LO := C.bky_b
def C.bky_w := pO C.bky.eq_1
def C.clq : ICode := .keep [0, 10, 11, 12, 16, 17, 18] (.region C.bky)
def C.clq_w := pC C.clq.eq_1
def C.bkx_b : LO := [
 X.o 2 (.move (X.i 4))]
def C.bkx : LO := C.bkx_b
def C.bkx_w := pO C.bkx.eq_1
def C.clz : ICode := .seq (.region C.bkx) .ret
def C.clz_w := pC C.clz.eq_1
def C.cl0 : ICode := .keep [0, 10, 11, 12, 16, 17, 18, 29] (.cond (X.s 29) C.clz .skip)
def C.cl0_w := pC C.cl0.eq_1
def C.bk7_b : LO := [
 X.m 22 6,
 X.o 23 (.bin .lss (X.s 22) (X.i 0)),
 X.m 24 23,
 X.f 24 25 (.move (X.s 6)),
 X.f 24 26 (.move (X.s 0)),
 X.f 24 27 (.len (X.s 26)),
 X.f 24 28 (.bin .geq (X.s 25) (X.s 27)),
 X.o 29 (.pick (X.s 24) (.cst (.bool true)) (X.s 28))]
def C.bk7 : LO := C.bk7_b
def C.bk7_w := pO C.bk7.eq_1
def C.cl1 : ICode := .keep [0, 6, 10, 11, 12, 16, 17, 18] (.seq (.region C.bk7) C.cl0)
def C.cl1_w := pC C.cl1.eq_1
def C.bk6_b : LO := [
 X.o 20 (.idxAddr 1 (X.s 16) (X.s 18)),
 X.o 21 (.load1 (X.s 20)),
 X.m 6 21]
def C.bk6 : LO := C.bk6_b
def C.bk6_w := pO C.bk6.eq_1
def C.clk : ICode := .seq (.region C.bk6) C.cl1
def C.clk_w := pC C.clk.eq_1
def C.cl2 : ICode := .keep [0, 10, 11, 12, 16, 17, 18] (.seq (.block 3 C.clk) C.clq)
def C.cl2_w := pC C.cl2.eq_1
def C.cl3 : ICode := .keep [0, 10, 11, 12, 16, 17, 18, 19] (.seq (.cond (X.s 19) .skip (.exit 2)) C.cl2)
def C.cl3_w := pC C.cl3.eq_1
def C.bk5_b : LO := [
 X.o 19 (.bin .lss (X.s 18) (X.s 17))]
def C.bk5 : LO := C.bk5_b
def C.bk5_w := pO C.bk5.eq_1
def C.crf : ICode := .keep [0, 10, 11, 12, 16, 17, 18] (.seq (.region C.bk5) C.cl3)
def C.crf_w := pC C.crf.eq_1
def C.clg : ICode := .loop C.crf
def C.clg_w := pC C.clg.eq_1
def C.clm : ICode := .keep [0, 10, 11, 12, 16, 17, 18] (.block 2 C.clg)
def C.clm_w := pC C.clm.eq_1
def C.bk4_b : LO := [
 X.m 16 4,
 X.o 17 (.len (X.s 16)),
 X.o 18 (.move (X.i 0))]
def C.bk4 : LO := C.bk4_b
def C.bk4_w := pO C.bk4.eq_1
def C.cln : ICode := .keep [0, 4, 10, 11, 12] (.seq (.region C.bk4) C.clm)
def C.cln_w := pC C.cln.eq_1
def C.bk3_b : LO := [
 X.o 14 (.idxAddr 1 (X.s 10) (X.s 12)),
 X.o 15 (.load1 (X.s 14)),
 X.m 4 15]
def C.bk3 : LO := C.bk3_b
def C.bk3_w := pO C.bk3.eq_1
def C.clh : ICode := .seq (.region C.bk3) C.cln
def C.clh_w := pC C.clh.eq_1
def C.clp : ICode := .keep [0, 10, 11, 12] (.seq (.block 1 C.clh) C.clt)
def C.clp_w := pC C.clp.eq_1
def C.clr : ICode := .keep [0, 10, 11, 12, 13] (.seq (.cond (X.s 13) .skip (.exit 0)) C.clp)
def C.clr_w := pC C.clr.eq_1
def C.bk2_b : LO := [
 X.o 13 (.bin .lss (X.s 12) (X.s 11))]
def C.bk2 : LO := C.bk2_b
def C.bk2_w := pO C.bk2.eq_1
def C.crg : ICode := .keep [0, 10, 11, 12] (.seq (.region C.bk2) C.clr)
def C.crg_w := pC C.crg.eq_1
def C.clj : ICode := .loop C.crg
def C.clj_w := pC C.clj.eq_1
def C.cls : ICode := .keep [0, 10, 11, 12] (.block 0 C.clj)
def C.cls_w := pC C.cls.eq_1
def C.bk1_b : LO := [
 X.m 10 0,
 X.o 11 (.len (X.s 10)),
 X.o 12 (.move (X.i 0))]
def C.bk1 : LO := C.bk1_b
def C.bk1_w := pO C.bk1.eq_1
def C.clv : ICode := .keep [0] (.seq (.seq (.region C.bk1) C.cls) C.cll)
def C.clv_w := pC C.clv.eq_1
def C.bk0_b : LO := [
 X.o 2 (.move (X.i 1))]
def C.bk0 : LO := C.bk0_b
def C.bk0_w := pO C.bk0.eq_1
def C.clw : ICode := .seq (.region C.bk0) .ret
def C.clw_w := pC C.clw.eq_1
def C.clx : ICode := .keep [0, 9] (.cond (X.s 9) C.clw .skip)
def C.clx_w := pC C.clx.eq_1
def C.bkw_b : LO := [
 X.m 7 0,
 X.o 8 (.len (X.s 7)),
 X.o 9 (.bin .gtr (X.s 8) (X.i 100))]
def C.bkw : LO := C.bkw_b
def C.bkw_w := pO C.bkw.eq_1
def C.cly : ICode := .keep [0] (.seq (.seq (.region C.bkw) C.clx) C.clv)
def C.cly_w := pC C.cly.eq_1
def C.bkv_b : LO := [
 X.o 2 (.move (X.i 0))]
def C.bkv : LO := C.bkv_b
def C.bkv_w := pO C.bkv.eq_1
def C.q80 : IFunc := ⟨1, [.slot 2], .seq (.region C.bkv) C.cly⟩
def C.q80_W := aI (aI (aI (aI (aI @C.bkz_w @C.cll_w) (aI @C.bkq_w @C.clt_w)) (aI (aI @C.bky_w @C.clq_w) (aI @C.bkx_w @C.clz_w))) (aI (aI (aI @C.cl0_w @C.bk7_w) (aI @C.cl1_w @C.bk6_w)) (aI (aI @C.clk_w @C.cl2_w) (aI @C.cl3_w (aI @C.bk5_w @C.clg_w))))) (aI (aI (aI (aI @C.clm_w @C.bk4_w) (aI @C.cln_w @C.bk3_w)) (aI (aI @C.clh_w @C.clp_w) (aI @C.clr_w (aI @C.bk2_w @C.clj_w)))) (aI (aI (aI @C.cls_w @C.bk1_w) (aI @C.clv_w @C.bk0_w)) (aI (aI @C.clw_w @C.clx_w) (aI @C.bkw_w (aI @C.cly_w @C.bkv_w)))))
def C.q80_B := aI (aI (aI @C.bkz_b.eq_1 (aI @C.bkq_b.eq_1 @C.bky_b.eq_1)) (aI (aI @C.bkx_b.eq_1 @C.bk7_b.eq_1) (aI @C.bk6_b.eq_1 @C.bk5_b.eq_1))) (aI (aI @C.bk4_b.eq_1 (aI @C.bk3_b.eq_1 @C.bk2_b.eq_1)) (aI (aI @C.bk1_b.eq_1 @C.bk0_b.eq_1) (aI @C.bkw_b.eq_1 @C.bkv_b.eq_1)))

def C.bj8_b : LO := [
 X.m 53 2,
 X.m 54 3,
 X.m 2 53,
 X.m 3 54]
def C.bj8 : LO := C.bj8_b
def C.bj8_w := pO C.bj8.eq_1
def C.ckn : ICode := .keep [2, 3] (.seq (.region C.bj8) .ret)
def C.ckn_w := pC C.ckn.eq_1
def C.bj7_b : LO := [
 X.o 52 (.bin .add (X.s 17) (X.i 1)),
 X.m 17 52]
def C.bj7 : LO := C.bj7_b
def C.bj7_w := pO C.bj7.eq_1
def C.cky : ICode := .keep [2, 3, 15, 16, 17] (.region C.bj7)
def C.cky_w := pC C.cky.eq_1
def C.bj6_b : LO := [
 X.o 51 (.bin .add (X.s 25) (X.i 1)),
 X.m 25 51]
def C.bj6 : LO := C.bj6_b
def C.bj6_w := pO C.bj6.eq_1
def C.ck2 : ICode := .keep [2, 3, 4, 6, 15, 16, 17, 23, 24, 25] (.region C.bj6)
def C.ck2_w := pC C.ck2.eq_1
def C.bj5_b : LO := [
 X.m 41 3,
 X.m 42 8,
 X.m 43 3,
 X.m 44 8,
 X.o 45 (.idxAddr 1 (X.s 43) (X.s 44)),
 X.o 46 (.load1 (X.s 45)),
 X.m 47 4,
 X.o 48 (.buildSlice 1 1 [.int .i64 0] [(0, 1, X.s 47)]),
 X.o 49 (.append 1 8 (X.s 46) (X.s 48)),
 X.o 50 (.idxAddr 1 (X.s 41) (X.s 42)),
 X.n (.store1 (X.s 50) (X.s 49))]
def C.bj5 : LO := C.bj5_b
def C.bj5_w := pO C.bj5.eq_1
def C.ck3 : ICode := .keep [2, 3, 4, 6, 8, 15, 16, 17, 23, 24, 25] (.region C.bj5)
def C.ck3_w := pC C.ck3.eq_1
def C.bj4_b : LO := [
 X.m 35 2,
 X.m 36 4,
 X.o 37 (.idxAddr 1 (X.s 35) (X.s 36)),
 X.o 38 (.load1 (X.s 37)),
 X.o 39 (.bin .add (X.s 38) (X.i 1)),
 X.o 40 (.idxAddr 1 (X.s 35) (X.s 36)),
 X.n (.store1 (X.s 40) (X.s 39))]
def C.bj4 : LO := C.bj4_b
def C.bj4_w := pO C.bj4.eq_1
def C.ck4 : ICode := .keep [2, 3, 4, 6, 8, 15, 16, 17, 23, 24, 25] (.seq (.region C.bj4) C.ck3)
def C.ck4_w := pC C.ck4.eq_1
def C.bj3_b : LO := [
 X.m 32 6,
 X.m 33 8,
 X.o 34 (.call F.q78 [X.s 32, X.s 33])]
def C.bj3 : LO := C.bj3_b
def C.bj3_w := pO C.bj3.eq_1
def C.ck5 : ICode := .keep [2, 3, 4, 6, 8, 15, 16, 17, 23, 24, 25] (.seq (.region C.bj3) C.ck4)
def C.ck5_w := pC C.ck5.eq_1
def C.ck6 : ICode := .keep [2, 3, 4, 6, 8, 15, 16, 17, 23, 24, 25, 31] (.cond (X.s 31) (.exit 3) .skip)
def C.ck6_w := pC C.ck6.eq_1
def C.bj2_b : LO := [
 X.m 29 6,
 X.m 30 8,
 X.o 31 (.call F.q79 [X.s 29, X.s 30])]
def C.bj2 : LO := C.bj2_b
def C.bj2_w := pO C.bj2.eq_1
def C.ck7 : ICode := .keep [2, 3, 4, 6, 8, 15, 16, 17, 23, 24, 25] (.seq (.seq (.region C.bj2) C.ck6) C.ck5)
def C.ck7_w := pC C.ck7.eq_1
def C.bkj_b : LO := [
 X.o 27 (.idxAddr 1 (X.s 23) (X.s 25)),
 X.o 28 (.load1 (X.s 27)),
 X.m 8 28]
def C.bkj : LO := C.bkj_b
def C.bkj_w := pO C.bkj.eq_1
def C.ckm : ICode := .seq (.region C.bkj) C.ck7
def C.ckm_w := pC C.ckm.eq_1
def C.ckp : ICode := .keep [2, 3, 4, 6, 15, 16, 17, 23, 24, 25] (.seq (.block 3 C.ckm) C.ck2)
def C.ckp_w := pC C.ckp.eq_1
def C.ckr : ICode := .keep [2, 3, 4, 6, 15, 16, 17, 23, 24, 25, 26] (.seq (.cond (X.s 26) .skip (.exit 2)) C.ckp)
def C.ckr_w := pC C.ckr.eq_1
def C.bkh_b : LO := [
 X.o 26 (.bin .lss (X.s 25) (X.s 24))]
def C.bkh : LO := C.bkh_b
def C.bkh_w := pO C.bkh.eq_1
def C.crc : ICode := .keep [2, 3, 4, 6, 15, 16, 17, 23, 24, 25] (.seq (.region C.bkh) C.ckr)
def C.crc_w := pC C.crc.eq_1
def C.ckj : ICode := .loop C.crc
def C.ckj_w := pC C.ckj.eq_1
def C.cks : ICode := .keep [2, 3, 4, 6, 15, 16, 17, 23, 24, 25] (.block 2 C.ckj)
def C.cks_w := pC C.cks.eq_1
def C.bkg_b : LO := [
 X.m 23 5,
 X.o 24 (.len (X.s 23)),
 X.o 25 (.move (X.i 0))]
def C.bkg : LO := C.bkg_b
def C.bkg_w := pO C.bkg.eq_1
def C.ckt : ICode := .keep [2, 3, 4, 5, 6, 15, 16, 17] (.seq (.region C.bkg) C.cks)
def C.ckt_w := pC C.ckt.eq_1
def C.bkf_b : LO := [
 X.o 22 (.makeMap none),
 X.m 6 22]
def C.bkf : LO := C.bkf_b
def C.bkf_w := pO C.bkf.eq_1
def C.ckv : ICode := .keep [2, 3, 4, 5, 15, 16, 17] (.seq (.region C.bkf) C.ckt)
def C.ckv_w := pC C.ckv.eq_1
def C.bkd_b : LO := [
 X.m 19 17,
 X.o 20 (.idxAddr 1 (X.s 15) (X.s 17)),
 X.o 21 (.load1 (X.s 20)),
 X.m 4 19,
 X.m 5 21]
def C.bkd : LO := C.bkd_b
def C.bkd_w := pO C.bkd.eq_1
def C.ckk : ICode := .seq (.region C.bkd) C.ckv
def C.ckk_w := pC C.ckk.eq_1
def C.ckw : ICode := .keep [2, 3, 15, 16, 17] (.seq (.block 1 C.ckk) C.cky)
def C.ckw_w := pC C.ckw.eq_1
def C.ckx : ICode := .keep [2, 3, 15, 16, 17, 18] (.seq (.cond (X.s 18) .skip (.exit 0)) C.ckw)
def C.ckx_w := pC C.ckx.eq_1
def C.bkc_b : LO := [
 X.o 18 (.bin .lss (X.s 17) (X.s 16))]
def C.bkc : LO := C.bkc_b
def C.bkc_w := pO C.bkc.eq_1
def C.crd : ICode := .keep [2, 3, 15, 16, 17] (.seq (.region C.bkc) C.ckx)
def C.crd_w := pC C.crd.eq_1
def C.ckl : ICode := .loop C.crd
def C.ckl_w := pC C.ckl.eq_1
def C.ckq : ICode := .keep [2, 3, 15, 16, 17] (.block 0 C.ckl)
def C.ckq_w := pC C.ckq.eq_1
def C.bkb_b : LO := [
 X.m 15 0,
 X.o 16 (.len (X.s 15)),
 X.o 17 (.move (X.i 0))]
def C.bkb : LO := C.bkb_b
def C.bkb_w := pO C.bkb.eq_1
def C.ckz : ICode := .keep [0, 2, 3] (.seq (.seq (.region C.bkb) C.ckq) C.ckn)
def C.ckz_w := pC C.ckz.eq_1
def C.bj9_b : LO := [
 X.m 12 0,
 X.o 13 (.len (X.s 12)),
 X.o 14 (.makeSlice 1 24 [.nils] (X.s 13) (X.s 13)),
 X.m 3 14]
def C.bj9 : LO := C.bj9_b
def C.bj9_w := pO C.bj9.eq_1
def C.ck0 : ICode := .keep [0, 2] (.seq (.region C.bj9) C.ckz)
def C.ck0_w := pC C.ck0.eq_1
def C.bj1_b : LO := [
 X.m 9 0,
 X.o 10 (.len (X.s 9)),
 X.o 11 (.makeSlice 1 8 [.int .i64 0] (X.s 10) (X.s 10)),
 X.m 2 11]
def C.bj1 : LO := C.bj1_b
def C.bj1_w := pO C.bj1.eq_1
def C.ck1 : ICode := .keep [0] (.seq (.region C.bj1) C.ck0)
def C.ck1_w := pC C.ck1.eq_1
def C.bj0_b : LO := [
 X.o 2 (.move (.cst (.nils))),
 X.o 3 (.move (.cst (.nils)))]
def C.bj0 : LO := C.bj0_b
def C.bj0_w := pO C.bj0.eq_1
def C.q77 : IFunc := ⟨1, [.slot 2, .slot 3], .seq (.region C.bj0) C.ck1⟩
def C.q77_W := aI (aI (aI (aI (aI @C.bj8_w @C.ckn_w) (aI @C.bj7_w (aI @C.cky_w @C.bj6_w))) (aI (aI @C.ck2_w @C.bj5_w) (aI @C.ck3_w (aI @C.bj4_w @C.ck4_w)))) (aI (aI (aI @C.bj3_w @C.ck5_w) (aI @C.ck6_w (aI @C.bj2_w @C.ck7_w))) (aI (aI @C.bkj_w @C.ckm_w) (aI @C.ckp_w (aI @C.ckr_w @C.bkh_w))))) (aI (aI (aI (aI @C.ckj_w @C.cks_w) (aI @C.bkg_w (aI @C.ckt_w @C.bkf_w))) (aI (aI @C.ckv_w @C.bkd_w) (aI @C.ckk_w (aI @C.ckw_w @C.ckx_w)))) (aI (aI (aI @C.bkc_w @C.ckl_w) (aI @C.ckq_w (aI @C.bkb_w @C.ckz_w))) (aI (aI @C.bj9_w @C.ck0_w) (aI @C.bj1_w (aI @C.ck1_w @C.bj0_w)))))
def C.q77_B := aI (aI (aI (aI @C.bj8_b.eq_1 @C.bj7_b.eq_1) (aI @C.bj6_b.eq_1 @C.bj5_b.eq_1)) (aI (aI @C.bj4_b.eq_1 @C.bj3_b.eq_1) (aI @C.bj2_b.eq_1 @C.bkj_b.eq_1))) (aI (aI (aI @C.bkh_b.eq_1 @C.bkg_b.eq_1) (aI @C.bkf_b.eq_1 @C.bkd_b.eq_1)) (aI (aI @C.bkc_b.eq_1 @C.bkb_b.eq_1) (aI @C.bj9_b.eq_1 (aI @C.bj1_b.eq_1 @C.bj0_b.eq_1))))

def C.bkn_b : LO := [
 X.m 13 6,
 X.m 4 13]
def C.bkn : LO := C.bkn_b
def C.bkn_w := pO C.bkn.eq_1
def C.ck8 : ICode := .keep [6] (.seq (.region C.bkn) .ret)
def C.ck8_w := pC C.ck8.eq_1
def C.bkm_b : LO := [
 X.m 8 0,
 X.m 9 1,
 X.o 10 (.lookup (.agg []) true (X.s 8) (X.s 9)),
 X.m 7 10,
 X.o 11 (.extract (X.s 7) 0),
 X.o 12 (.extract (X.s 7) 1),
 X.o 5 (.alloc []),
 X.n (.storeN 0 (X.s 5) (X.s 11)),
 X.m 6 12]
def C.bkm : LO := C.bkm_b
def C.bkm_w := pO C.bkm.eq_1
def C.ck9 : ICode := .keep [0, 1] (.seq (.region C.bkm) C.ck8)
def C.ck9_w := pC C.ck9.eq_1
def C.bkl_b : LO := [
 X.o 4 (.move (.cst (.bool false)))]
def C.bkl : LO := C.bkl_b
def C.bkl_w := pO C.bkl.eq_1
def C.q79 : IFunc := ⟨2, [.slot 4], .seq (.region C.bkl) C.ck9⟩
def C.q79_W := aI (aI @C.bkn_w @C.ck8_w) (aI @C.bkm_w (aI @C.ck9_w @C.bkl_w))
def C.q79_B := aI @C.bkn_b.eq_1 (aI @C.bkm_b.eq_1 @C.bkl_b.eq_1)

def C.bkk_b : LO := [
 X.m 4 0,
 X.m 5 1,
 X.o 6 (.build [] []),
 X.n (.mapSet (X.s 4) (X.s 5) (X.s 6))]
def C.bkk : LO := C.bkk_b
def C.bkk_w := pO C.bkk.eq_1
def C.q78 : IFunc := ⟨2, [], .region C.bkk⟩
def C.q78_W := @C.bkk_w
def C.q78_B := @C.bkk_b.eq_1

def C.z0 := aI @C.fn_b.eq_1 (aI @C.fp_b.eq_1 (aI @C.fs_b.eq_1 (aI @C.ft_b.eq_1 (aI @C.fv_b.eq_1 @C.fw_b.eq_1))))
def C.z1 := aI @C.fq_b.eq_1 (aI @C.f2_b.eq_1 (aI @C.f3_b.eq_1 (aI @C.f4_b.eq_1 @C.f5_b.eq_1)))
def C.z2 := aI @C.fy_b.eq_1 (aI @C.fz_b.eq_1 (aI @C.f0_b.eq_1 @C.f1_b.eq_1))
def C.z3 := aI @C.f6_b.eq_1 (aI @C.f7_b.eq_1 (aI @C.f8_b.eq_1 @C.f9_b.eq_1))
def C.z4 := aI @C.gg_b.eq_1 (aI @C.gh_b.eq_1 (aI @C.gj_b.eq_1 @C.gk_b.eq_1))
def C.z5 := aI @C.gn_b.eq_1 (aI @C.gp_b.eq_1 @C.gr_b.eq_1)
def C.z6 := aI @C.gy_b.eq_1 @C.gq_b.eq_1
def C.z7 := aI @C.g3_b.eq_1 @C.g4_b.eq_1
def C.z8 := aI @C.g6_b.eq_1 (aI @C.g8_b.eq_1 (aI @C.g9_b.eq_1 @C.hb_b.eq_1))
def C.z9 := aI @C.hf_b.eq_1 (aI @C.hg_b.eq_1 (aI @C.jw_b.eq_1 @C.jx_b.eq_1))
def C.z10 := aI @C.hh_b.eq_1 @C.hj_b.eq_1
def C.z11 := aI @C.hk_b.eq_1 (aI @C.hl_b.eq_1 (aI @C.hm_b.eq_1 (aI @C.hn_b.eq_1 (aI @C.hp_b.eq_1 (aI @C.hs_b.eq_1 (aI @C.ht_b.eq_1 (aI @C.hv_b.eq_1 (aI @C.hw_b.eq_1 @C.hx_b.eq_1))))))))
def C.z12 := aI @C.hd_b.eq_1 (aI @C.hr_b.eq_1 (aI @C.h2_b.eq_1 @C.jv_b.eq_1))
def C.z13 := aI @C.hy_b.eq_1 @C.hq_b.eq_1
def C.z14 := aI @C.hz_b.eq_1 @C.h0_b.eq_1
def C.z15 := aI @C.h1_b.eq_1 (aI @C.h3_b.eq_1 @C.h4_b.eq_1)
def C.z16 := aI @C.h5_b.eq_1 @C.h6_b.eq_1
def C.z17 := aI @C.h7_b.eq_1 @C.h8_b.eq_1
def C.z18 := aI @C.h9_b.eq_1 @C.jb_b.eq_1
def C.z19 := aI @C.jc_b.eq_1 @C.jd_b.eq_1
def C.z20 := aI @C.jg_b.eq_1 (aI @C.jh_b.eq_1 (aI @C.jj_b.eq_1 (aI @C.jk_b.eq_1 (aI @C.jl_b.eq_1 (aI @C.jm_b.eq_1 (aI @C.jn_b.eq_1 (aI @C.jp_b.eq_1 @C.jr_b.eq_1)))))))
def C.z21 := aI @C.jf_b.eq_1 (aI @C.js_b.eq_1 @C.jt_b.eq_1)
def C.z22 := aI @C.jz_b.eq_1 @C.j0_b.eq_1
def C.z23 := aI @C.j2_b.eq_1 (aI @C.j3_b.eq_1 (aI @C.j4_b.eq_1 @C.j5_b.eq_1))
def C.z24 := aI @C.j6_b.eq_1 (aI @C.j7_b.eq_1 @C.j8_b.eq_1)
def C.z25 := aI @C.j9_b.eq_1 @C.kb_b.eq_1
def C.z26 := aI @C.kd_b.eq_1 @C.kf_b.eq_1
def C.z27 := aI @C.kh_b.eq_1 @C.kj_b.eq_1
def C.z28 := aI @C.km_b.eq_1 (aI @C.kn_b.eq_1 (aI @C.kp_b.eq_1 (aI @C.kr_b.eq_1 @C.k0_b.eq_1)))
def C.z29 := aI @C.ks_b.eq_1 (aI @C.kt_b.eq_1 (aI @C.ky_b.eq_1 (aI @C.kq_b.eq_1 @C.kz_b.eq_1)))
def C.z30 := aI @C.kl_b.eq_1 (aI @C.kv_b.eq_1 (aI @C.kw_b.eq_1 @C.kx_b.eq_1))
def C.z31 := aI @C.k1_b.eq_1 @C.k2_b.eq_1
def C.z32 := aI @C.k3_b.eq_1 @C.k4_b.eq_1
def C.z33 := aI @C.k5_b.eq_1 @C.k6_b.eq_1
def C.z34 := aI @C.k7_b.eq_1 @C.k8_b.eq_1
def C.z35 := aI @C.k9_b.eq_1 (aI @C.lb_b.eq_1 (aI @C.lc_b.eq_1 (aI @C.ld_b.eq_1 (aI @C.lf_b.eq_1 (aI @C.lg_b.eq_1 (aI @C.lh_b.eq_1 (aI @C.lj_b.eq_1 @C.lk_b.eq_1)))))))
def C.z36 := aI @C.m0_b.eq_1 (aI @C.m2_b.eq_1 (aI @C.m1_b.eq_1 (aI @C.m5_b.eq_1 (aI @C.m6_b.eq_1 (aI @C.m9_b.eq_1 @C.nd_b.eq_1)))))
def C.z37 := aI @C.m3_b.eq_1 (aI @C.nb_b.eq_1 @C.nc_b.eq_1)
def C.z38 := aI @C.nk_b.eq_1 (aI @C.nl_b.eq_1 @C.nn_b.eq_1)
def C.z39 := aI @C.ns_b.eq_1 (aI @C.nt_b.eq_1 @C.nx_b.eq_1)
def C.z40 := aI @C.n1_b.eq_1 (aI @C.n2_b.eq_1 @C.n3_b.eq_1)
def C.z41 := aI @C.n4_b.eq_1 (aI @C.n5_b.eq_1 (aI @C.n6_b.eq_1 (aI @C.n7_b.eq_1 @C.n8_b.eq_1)))
def C.z42 := aI @C.pb_b.eq_1 (aI @C.pc_b.eq_1 (aI @C.pd_b.eq_1 (aI @C.pf_b.eq_1 (aI @C.n9_b.eq_1 (aI @C.ph_b.eq_1 (aI @C.pj_b.eq_1 (aI @C.pk_b.eq_1 (aI @C.pl_b.eq_1 (aI @C.pm_b.eq_1 (aI @C.pn_b.eq_1 (aI @C.pp_b.eq_1 @C.pr_b.eq_1)))))))))))
def C.z43 := aI @C.ps_b.eq_1 (aI @C.pt_b.eq_1 (aI @C.pz_b.eq_1 (aI @C.p0_b.eq_1 (aI @C.p1_b.eq_1 (aI @C.p2_b.eq_1 (aI @C.p3_b.eq_1 @C.p4_b.eq_1))))))
def C.z44 := aI @C.bn9_w (aI @C.bpb_w (aI @C.bpc_w (aI @C.bpd_w (aI @C.bpf_w (aI @C.bpg_w (aI @C.bph_w (aI @C.fn_w (aI @C.fp_w (aI @C.fs_w (aI @C.ft_w (aI @C.fv_w @C.fw_w)))))))))))
def C.z45 := aI @C.bpj_w (aI @C.bpk_w (aI @C.bpm_w (aI @C.bpl_w (aI @C.bpv_w (aI @C.bpw_w (aI @C.bpx_w (aI @C.bpy_w (aI @C.fq_w (aI @C.f2_w (aI @C.f3_w (aI @C.f4_w @C.f5_w)))))))))))
def C.z46 := aI @C.bpn_w (aI @C.bpp_w (aI @C.bpr_w (aI @C.bps_w (aI @C.bpt_w (aI @C.fy_w (aI @C.fz_w (aI @C.f0_w @C.f1_w)))))))
def C.z47 := aI @C.bpq_w (aI @C.bpz_w (aI @C.bp0_w (aI @C.bp1_w (aI @C.bp2_w (aI @C.b7h_w (aI @C.f6_w (aI @C.f7_w (aI @C.f8_w @C.f9_w))))))))
def C.z48 := aI @C.bp3_w (aI @C.dn_w @C.dp_w)
def C.z49 := aI @C.bp4_w (aI @C.bp7_w (aI @C.bp8_w (aI @C.bp9_w (aI @C.brb_w (aI @C.gg_w (aI @C.gh_w (aI @C.gj_w @C.gk_w)))))))
def C.z50 := aI @C.brk_w (aI @C.brl_w (aI @C.brm_w (aI @C.brn_w (aI @C.gn_w (aI @C.gp_w @C.gr_w)))))
def C.z51 := aI @C.brv_w (aI @C.brw_w (aI @C.brx_w (aI @C.bry_w (aI @C.brq_w (aI @C.dr_w (aI @C.ds_w (aI @C.dt_w @C.dv_w)))))))
def C.z52 := aI @C.br3_w (aI @C.br8_w (aI @C.br9_w (aI @C.bsb_w (aI @C.bsc_w (aI @C.btk_w (aI @C.g6_w (aI @C.g8_w (aI @C.g9_w @C.hb_w))))))))
def C.z53 := aI @C.br5_w @C.bm_w
def C.z54 := aI @C.bsg_w (aI @C.bsh_w (aI @C.rj_w (aI @C.dx_w @C.dy_w)))
def C.z55 := aI @C.bsj_w (aI @C.bsk_w (aI @C.bsl_w (aI @C.cp_w @C.cr_w)))
def C.z56 := aI @C.rk_w @C.cn_w
def C.z57 := aI @C.bsm_w (aI @C.bsn_w (aI @C.bsp_w (aI @C.g3_w @C.g4_w)))
def C.z58 := aI @C.rh_w @C.cs_w
def C.z59 := aI @C.bsx_w @C.b7_w
def C.z60 := aI @C.bsy_w @C.bx_w
def C.z61 := aI @C.bsq_w @C.by_w
def C.z62 := aI @C.bsz_w @C.br_w
def C.z63 := aI @C.bs0_w (aI @C.bs2_w @C.b6_w)
def C.z64 := aI @C.bss_w (aI @C.bs1_w (aI @C.bs8_w (aI @C.ct_w @C.cv_w)))
def C.z65 := aI @C.bs5_w (aI @C.bs6_w (aI @C.bs7_w (aI @C.d0_w @C.d1_w)))
def C.z66 := aI @C.bs9_w (aI @C.btb_w (aI @C.btc_w (aI @C.dq_w @C.dz_w)))
def C.z67 := aI @C.btf_w @C.cm_w
def C.z68 := aI @C.btg_w (aI @C.gy_w @C.gq_w)
def C.z69 := aI @C.bth_w @C.cb_w
def C.z70 := aI @C.btj_w @C.b9_w
def C.z71 := aI @C.rl_w @C.b8_w
def C.z72 := aI @C.btl_w (aI @C.btz_w (aI @C.bt0_w (aI @C.bt1_w (aI @C.bt2_w (aI @C.bt3_w (aI @C.bvb_w (aI @C.bvj_w (aI @C.bvv_w (aI @C.bv1_w (aI @C.bv7_w (aI @C.bwf_w (aI @C.jg_w (aI @C.jh_w (aI @C.jj_w (aI @C.jk_w (aI @C.jl_w (aI @C.jm_w (aI @C.jn_w (aI @C.jp_w @C.jr_w)))))))))))))))))))
def C.z73 := aI @C.btm_w (aI @C.w9_w (aI @C.bt6_w (aI @C.jc_w @C.jd_w)))
def C.z74 := aI @C.btn_w (aI @C.bt5_w (aI @C.bt7_w (aI @C.bnl_w (aI @C.h9_w @C.jb_w))))
def C.z75 := aI @C.btp_w (aI @C.bt8_w (aI @C.xb_w (aI @C.h7_w @C.h8_w)))
def C.z76 := aI @C.btr_w (aI @C.bt9_w (aI @C.bvc_w (aI @C.bnm_w (aI @C.h5_w @C.h6_w))))
def C.z77 := aI @C.bts_w (aI @C.bvd_w (aI @C.xc_w (aI @C.hz_w @C.h0_w)))
def C.z78 := aI @C.btt_w (aI @C.bvh_w (aI @C.bvk_w (aI @C.bnp_w (aI @C.hy_w @C.hq_w))))
def C.z79 := aI @C.btv_w (aI @C.bvm_w (aI @C.bvn_w (aI @C.bvp_w (aI @C.bvr_w (aI @C.bvs_w (aI @C.bvt_w (aI @C.bvw_w (aI @C.bvx_w (aI @C.bvy_w (aI @C.bvq_w (aI @C.bnr_w (aI @C.hk_w (aI @C.hl_w (aI @C.hm_w (aI @C.hn_w (aI @C.hp_w (aI @C.hs_w (aI @C.ht_w (aI @C.hv_w (aI @C.hw_w @C.hx_w))))))))))))))))))))
def C.z80 := aI @C.btw_w (aI @C.bvl_w (aI @C.xd_w (aI @C.hh_w @C.hj_w)))
def C.z81 := aI @C.btx_w (aI @C.bv0_w (aI @C.bv2_w (aI @C.bv3_w (aI @C.bv4_w (aI @C.xf_w (aI @C.hf_w (aI @C.hg_w (aI @C.jw_w @C.jx_w))))))))
def C.z82 := aI @C.bty_w (aI @C.btq_w (aI @C.bv5_w (aI @C.bv6_w (aI @C.bv8_w (aI @C.bv9_w (aI @C.jf_w (aI @C.js_w @C.jt_w)))))))
def C.z83 := aI @C.bt4_w @C.bh_w
def C.z84 := aI @C.bnk_w @C.bg_w
def C.z85 := aI @C.bvf_w (aI @C.bvg_w (aI @C.bnn_w (aI @C.h1_w (aI @C.h3_w @C.h4_w))))
def C.z86 := aI @C.bvz_w @C.bf_w
def C.z87 := aI @C.bns_w (aI @C.bwb_w (aI @C.bwc_w (aI @C.bwd_w (aI @C.hd_w (aI @C.hr_w (aI @C.h2_w @C.jv_w))))))
def C.z88 := aI @C.bwg_w (aI @C.bww_w (aI @C.bwx_w (aI @C.bwy_w (aI @C.j6_w (aI @C.j7_w @C.j8_w)))))
def C.z89 := aI @C.bwh_w (aI @C.bwz_w (aI @C.xt_w @C.c2_w))
def C.z90 := aI @C.bwj_w (aI @C.bw0_w (aI @C.bw1_w (aI @C.bw2_w (aI @C.bw3_w (aI @C.bw4_w (aI @C.j2_w (aI @C.j3_w (aI @C.j4_w @C.j5_w))))))))
def C.z91 := aI @C.bwm_w (aI @C.bw7_w (aI @C.bw8_w (aI @C.jz_w @C.j0_w)))
def C.z92 := aI @C.bwl_w (aI @C.bwq_w (aI @C.bxc_w (aI @C.kd_w @C.kf_w)))
def C.z93 := aI @C.bwp_w (aI @C.bxj_w (aI @C.bxk_w (aI @C.c4_w @C.c5_w)))
def C.z94 := aI @C.bwt_w (aI @C.bwv_w (aI @C.xs_w (aI @C.j9_w @C.kb_w)))
def C.z95 := aI @C.rm_w @C.bq_w
def C.z96 := aI @C.bw6_w @C.c0_w
def C.z97 := aI @C.bxd_w @C.bt_w
def C.z98 := aI @C.bxf_w (aI @C.bxg_w (aI @C.bxh_w (aI @C.kh_w @C.kj_w)))
def C.z99 := aI @C.bxl_w @C.bn_w
def C.z100 := aI @C.bxr_w (aI @C.bxs_w (aI @C.bxw_w (aI @C.bxx_w (aI @C.bxy_w (aI @C.bny_w (aI @C.bxv_w (aI @C.bx0_w (aI @C.ks_w (aI @C.kt_w (aI @C.ky_w (aI @C.kq_w @C.kz_w)))))))))))
def C.z101 := aI @C.bxt_w (aI @C.bx4_w (aI @C.bx5_w (aI @C.bx6_w (aI @C.bx7_w (aI @C.bnq_w (aI @C.km_w (aI @C.kn_w (aI @C.kp_w (aI @C.kr_w @C.k0_w)))))))))
def C.z102 := aI @C.bnx_w @C.bz_w
def C.z103 := aI @C.bxq_w (aI @C.bxz_w (aI @C.bx1_w (aI @C.bx2_w (aI @C.bx3_w (aI @C.kl_w (aI @C.kv_w (aI @C.kw_w @C.kx_w)))))))
def C.z104 := aI @C.bx8_w (aI @C.bx9_w (aI @C.byb_w (aI @C.byc_w (aI @C.byf_w (aI @C.byg_w (aI @C.byh_w (aI @C.byj_w (aI @C.byk_w (aI @C.byl_w (aI @C.y9_w (aI @C.bym_w (aI @C.byn_w (aI @C.byp_w (aI @C.byr_w (aI @C.k9_w (aI @C.lb_w (aI @C.lc_w (aI @C.ld_w (aI @C.lf_w (aI @C.lg_w (aI @C.lh_w (aI @C.lj_w @C.lk_w))))))))))))))))))))))
def C.z105 := aI @C.byd_w (aI @C.byx_w (aI @C.bbb_w (aI @C.k3_w @C.k4_w)))
def C.z106 := aI @C.bys_w (aI @C.byt_w (aI @C.k1_w @C.k2_w))
def C.z107 := aI @C.byv_w (aI @C.b0_w (aI @C.k7_w @C.k8_w))
def C.z108 := aI @C.byw_w (aI @C.bv_w (aI @C.k5_w @C.k6_w))
def C.z109 := aI @C.bzr_w (aI @C.bzs_w (aI @C.bzt_w (aI @C.bzv_w (aI @C.d2_w (aI @C.d3_w (aI @C.d4_w @C.d5_w))))))
def C.z110 := aI @C.bzw_w (aI @C.bz7_w (aI @C.b0b_w (aI @C.b0c_w (aI @C.m3_w (aI @C.nb_w @C.nc_w)))))
def C.z111 := aI @C.bzx_w (aI @C.bzq_w (aI @C.bzz_w (aI @C.bz3_w (aI @C.bz4_w (aI @C.bz5_w (aI @C.bz6_w (aI @C.bz8_w (aI @C.bz9_w (aI @C.m0_w (aI @C.m2_w (aI @C.m1_w (aI @C.m5_w (aI @C.m6_w (aI @C.m9_w @C.nd_w))))))))))))))
def C.z112 := aI @C.b0f_w (aI @C.b0v_w (aI @C.b0w_w (aI @C.d8_w @C.d9_w)))
def C.z113 := aI @C.b0h_w (aI @C.b0z_w (aI @C.b01_w (aI @C.b02_w (aI @C.nk_w (aI @C.nl_w @C.nn_w)))))
def C.z114 := aI @C.b0k_w (aI @C.b04_w (aI @C.b07_w (aI @C.b09_w (aI @C.d6_w (aI @C.fd_w @C.ff_w)))))
def C.z115 := aI @C.b0m_w (aI @C.b08_w (aI @C.b1l_w (aI @C.b1m_w (aI @C.ns_w (aI @C.nt_w @C.nx_w)))))
def C.z116 := aI @C.b0r_w (aI @C.b0s_w (aI @C.b0t_w (aI @C.df_w @C.dg_w)))
def C.z117 := aI @C.b0n_w (aI @C.b0q_w (aI @C.b0x_w (aI @C.d7_w (aI @C.fb_w @C.fc_w))))
def C.z118 := aI @C.bn4_w @C.b5_w
def C.z119 := aI @C.bmc_w @C.cc_w
def C.z120 := aI @C.b1n_w (aI @C.b1p_w (aI @C.b1q_w (aI @C.b1z_w (aI @C.n1_w (aI @C.n2_w @C.n3_w)))))
def C.z121 := aI @C.b1r_w @C.bk_w
def C.z122 := aI @C.b1s_w (aI @C.b1t_w (aI @C.b1v_w (aI @C.b1w_w (aI @C.b1x_w (aI @C.b1y_w (aI @C.n4_w (aI @C.n5_w (aI @C.n6_w (aI @C.n7_w @C.n8_w)))))))))
def C.z123 := aI @C.b10_w (aI @C.b15_w (aI @C.b16_w (aI @C.dj_w @C.dk_w)))
def C.z124 := aI @C.b12_w (aI @C.b13_w (aI @C.b2w_w (aI @C.fg_w @C.fh_w)))
def C.z125 := aI @C.b14_w @C.dl_w
def C.z126 := aI @C.b19_w (aI @C.b2b_w (aI @C.b2c_w (aI @C.b2d_w (aI @C.b2f_w (aI @C.b2g_w (aI @C.b2h_w (aI @C.b2j_w (aI @C.b2k_w (aI @C.b2l_w (aI @C.b2m_w (aI @C.b2n_w (aI @C.b2p_w (aI @C.b2r_w (aI @C.b2s_w (aI @C.b2t_w (aI @C.b2v_w (aI @C.pb_w (aI @C.pc_w (aI @C.pd_w (aI @C.pf_w (aI @C.n9_w (aI @C.ph_w (aI @C.pj_w (aI @C.pk_w (aI @C.pl_w (aI @C.pm_w (aI @C.pn_w (aI @C.pp_w @C.pr_w))))))))))))))))))))))))))))
def C.z127 := aI @C.bn6_w @C.cf_w
def C.z128 := aI @C.bn7_w @C.cd_w
def C.z129 := aI @C.bn8_w @C.dm_w
def C.z130 := aI @C.b20_w (aI @C.b21_w (aI @C.b22_w (aI @C.b23_w (aI @C.b24_w (aI @C.b25_w (aI @C.b27_w (aI @C.b28_w (aI @C.b29_w (aI @C.b3b_w (aI @C.ps_w (aI @C.pt_w (aI @C.pz_w (aI @C.p0_w (aI @C.p1_w (aI @C.p2_w (aI @C.p3_w @C.p4_w))))))))))))))))
def C.z131 := aI @C.b3m_w (aI @C.b3n_w (aI @C.b3p_w (aI @C.b3r_w (aI @C.fj_w (aI @C.fk_w (aI @C.fl_w @C.fm_w))))))
def Bt := aI @Bp (aI @aop.eq_28 @aop.eq_30)
def Bu := aI @Bq @Bs
end Go.Proofs.YtdmfgodajoojpaaGreatDoor.Cn
