/- The intermediate code of the functions, printed by a program out of the loaded program; that it is theirs is checked in the text of links. -/
import Derived.Test.YtdmfgodajoojpaaGreatDoorCnIr2
set_option linter.defProp false
namespace Go.Proofs.YtdmfgodajoojpaaGreatDoor.Cn
open Go
variable {P : Program} {Q : IExit → AFr → ASt → Prop} {fr : AFr} {st : ASt}


def C.xz_b : LO := [
 X.o 4 (.loadN 4 (X.s 1)),
 X.o 5 (.loadN 3 (X.s 2)),
 X.o 6 (.call F.q53 [X.s 4, X.s 5]),
 X.m 3 6]
def C.xz : LO := C.xz_b
def C.xz_w := pO C.xz.eq_1
def C.b69 : ICode := .keep [1, 2] (.seq (.region C.xz) .ret)
def C.b69_w := pC C.b69.eq_1
def C.kq_b : LO := [
 X.o 2 (.boxN (X.s 0)),
 X.o 3 (.move (X.i 0))]
def C.kq : LO := C.kq_b
def C.kq_w := pO C.kq.eq_1
def C.q31 : IFunc := ⟨2, [.slot 3], .seq (.region C.kq) C.b69⟩
def C.q31_W := aI @C.xz_w (aI @C.b69_w @C.kq_w)
def C.q31_B := aI @C.xz_b.eq_1 @C.kq_b.eq_1

def C.bb0_b : LO := [
 X.o 5 (.makeFunc F.q54 [X.s 3, X.s 2]),
 X.o 6 (.makeFunc F.q55 [X.s 3]),
 X.o 7 (.buildSlice 1 2 [.nilf] [(0, 1, X.s 5), (1, 1, X.s 6)]),
 X.o 8 (.call F.q61 [X.s 7]),
 X.m 4 8]
def C.bb0 : LO := C.bb0_b
def C.bb0_w := pO C.bb0.eq_1
def C.b80 : ICode := .keep [2, 3] (.seq (.region C.bb0) .ret)
def C.b80_w := pC C.b80.eq_1
def C.bbz_b : LO := [
 X.o 2 (.boxN (X.s 0)),
 X.o 3 (.boxN (X.s 1)),
 X.o 4 (.move (X.i 0))]
def C.bbz : LO := C.bbz_b
def C.bbz_w := pO C.bbz.eq_1
def C.q53 : IFunc := ⟨2, [.slot 4], .seq (.region C.bbz) C.b80⟩
def C.q53_W := aI @C.bb0_w (aI @C.b80_w @C.bbz_w)
def C.q53_B := aI @C.bb0_b.eq_1 @C.bbz_b.eq_1

def C.x1_b : LO := [
 X.o 2 (.loadN 4 (X.s 0)),
 X.o 3 (.call F.q39 [X.s 2]),
 X.o 4 (.call F.q46 [X.s 3]),
 X.m 1 4]
def C.x1 : LO := C.x1_b
def C.x1_w := pO C.x1.eq_1
def C.b7b : ICode := .keep [0] (.seq (.region C.x1) .ret)
def C.b7b_w := pC C.b7b.eq_1
def C.x0_b : LO := [
 X.o 1 (.move (X.i 0))]
def C.x0 : LO := C.x0_b
def C.x0_w := pO C.x0.eq_1
def C.q32 : IFunc := ⟨1, [.slot 1], .seq (.region C.x0) C.b7b⟩
def C.q32_W := aI @C.x1_w (aI @C.b7b_w @C.x0_w)
def C.q32_B := aI @C.x1_b.eq_1 @C.x0_b.eq_1

def C.k9_b : LO := [
 X.m 28 3,
 X.m 2 28]
def C.k9 : LO := C.k9_b
def C.k9_w := pO C.k9.eq_1
def C.bwv : ICode := .keep [3] (.seq (.region C.k9) .ret)
def C.bwv_w := pC C.bwv.eq_1
def C.k8_b : LO := [
 X.o 27 (.bin .add (X.s 13) (X.i 1)),
 X.m 13 27]
def C.k8 : LO := C.k8_b
def C.k8_w := pO C.k8.eq_1
def C.bwy : ICode := .keep [3, 11, 12, 13] (.region C.k8)
def C.bwy_w := pC C.bwy.eq_1
def C.ys_b : LO := [
 X.m 21 3,
 X.m 22 4,
 X.o 23 (.fldAddr 0 (X.s 5)),
 X.o 24 (.load1 (X.s 23)),
 X.o 25 (.buildSlice 1 1 [.int .i64 0] [(0, 1, X.s 24)]),
 X.o 26 (.idxAddr 1 (X.s 21) (X.s 22)),
 X.n (.store1 (X.s 26) (X.s 25))]
def C.ys : LO := C.ys_b
def C.ys_w := pO C.ys.eq_1
def C.b73 : ICode := .keep [3, 4, 5, 11, 12, 13, 20] (.cond (X.s 20) (.region C.ys) .skip)
def C.b73_w := pC C.b73.eq_1
def C.yr_b : LO := [
 X.o 18 (.fldAddr 0 (X.s 5)),
 X.o 19 (.load1 (X.s 18)),
 X.o 20 (.bin .neq (X.s 19) (X.i (-1)))]
def C.yr : LO := C.yr_b
def C.yr_w := pO C.yr.eq_1
def C.b74 : ICode := .keep [3, 4, 5, 11, 12, 13] (.seq (.region C.yr) C.b73)
def C.b74_w := pC C.b74.eq_1
def C.k7_b : LO := [
 X.m 15 13,
 X.o 16 (.idxAddr 3 (X.s 11) (X.s 13)),
 X.o 17 (.loadN 3 (X.s 16)),
 X.o 5 (.alloc [.int .i64 0, .int .i64 0, .bool false]),
 X.m 4 15,
 X.n (.storeN 3 (X.s 5) (X.s 17))]
def C.k7 : LO := C.k7_b
def C.k7_w := pO C.k7.eq_1
def C.bws : ICode := .seq (.region C.k7) C.b74
def C.bws_w := pC C.bws.eq_1
def C.bwq : ICode := .keep [3, 11, 12, 13] (.seq (.block 1 C.bws) C.bwy)
def C.bwq_w := pC C.bwq.eq_1
def C.bwz : ICode := .keep [3, 11, 12, 13, 14] (.seq (.cond (X.s 14) .skip (.exit 0)) C.bwq)
def C.bwz_w := pC C.bwz.eq_1
def C.k6_b : LO := [
 X.o 14 (.bin .lss (X.s 13) (X.s 12))]
def C.k6 : LO := C.k6_b
def C.k6_w := pO C.k6.eq_1
def C.clb : ICode := .keep [3, 11, 12, 13] (.seq (.region C.k6) C.bwz)
def C.clb_w := pC C.clb.eq_1
def C.bwt : ICode := .loop C.clb
def C.bwt_w := pC C.bwt.eq_1
def C.bww : ICode := .keep [3, 11, 12, 13] (.block 0 C.bwt)
def C.bww_w := pC C.bww.eq_1
def C.k5_b : LO := [
 X.o 10 (.fldAddr 1 (X.s 1)),
 X.o 11 (.load1 (X.s 10)),
 X.o 12 (.len (X.s 11)),
 X.o 13 (.move (X.i 0))]
def C.k5 : LO := C.k5_b
def C.k5_w := pO C.k5.eq_1
def C.bwx : ICode := .keep [1, 3] (.seq (.seq (.region C.k5) C.bww) C.bwv)
def C.bwx_w := pC C.bwx.eq_1
def C.c6_b : LO := [
 X.o 6 (.fldAddr 1 (X.s 1)),
 X.o 7 (.load1 (X.s 6)),
 X.o 8 (.len (X.s 7)),
 X.o 9 (.makeSlice 1 24 [.nils] (X.s 8) (X.s 8)),
 X.m 3 9]
def C.c6 : LO := C.c6_b
def C.c6_w := pO C.c6.eq_1
def C.bmc : ICode := .keep [1] (.seq (.region C.c6) C.bwx)
def C.bmc_w := pC C.bmc.eq_1
def C.b0_b : LO := [
 X.o 1 (.boxN (X.s 0)),
 X.o 2 (.move (.cst (.nils)))]
def C.b0 : LO := C.b0_b
def C.b0_w := pO C.b0.eq_1
def C.q39 : IFunc := ⟨1, [.slot 2], .seq (.region C.b0) C.bmc⟩
def C.q39_W := aI (aI (aI (aI @C.k9_w @C.bwv_w) (aI @C.k8_w (aI @C.bwy_w @C.ys_w))) (aI (aI @C.b73_w @C.yr_w) (aI @C.b74_w (aI @C.k7_w @C.bws_w)))) (aI (aI (aI @C.bwq_w @C.bwz_w) (aI @C.k6_w (aI @C.bwt_w @C.bww_w))) (aI (aI @C.k5_w @C.bwx_w) (aI @C.c6_w (aI @C.bmc_w @C.b0_w))))
def C.q39_B := aI (aI (aI @C.k9_b.eq_1 @C.k8_b.eq_1) (aI @C.ys_b.eq_1 @C.yr_b.eq_1)) (aI (aI @C.k7_b.eq_1 @C.k6_b.eq_1) (aI @C.k5_b.eq_1 (aI @C.c6_b.eq_1 @C.b0_b.eq_1)))

def C.x3_b : LO := [
 X.o 2 (.fldAddr 2 (X.s 0)),
 X.o 3 (.load1 (X.s 2)),
 X.o 4 (.call F.q59 [X.s 3, .fnc F.q71]),
 X.m 1 4]
def C.x3 : LO := C.x3_b
def C.x3_w := pO C.x3.eq_1
def C.b7c : ICode := .keep [0] (.seq (.region C.x3) .ret)
def C.b7c_w := pC C.b7c.eq_1
def C.x2_b : LO := [
 X.o 1 (.move (X.i 0))]
def C.x2 : LO := C.x2_b
def C.x2_w := pO C.x2.eq_1
def C.q33 : IFunc := ⟨1, [.slot 1], .seq (.region C.x2) C.b7c⟩
def C.q33_W := aI @C.x3_w (aI @C.b7c_w @C.x2_w)
def C.q33_B := aI @C.x3_b.eq_1 @C.x2_b.eq_1

def C.l7_b : LO := [
 X.o 4 (.move (X.i 0))]
def C.l7 : LO := C.l7_b
def C.l7_w := pO C.l7.eq_1
def C.bx3 : ICode := .keep [] (.seq (.region C.l7) .ret)
def C.bx3_w := pC C.bx3.eq_1
def C.l6_b : LO := [
 X.o 20 (.bin .add (X.s 10) (X.i 1)),
 X.m 10 20]
def C.l6 : LO := C.l6_b
def C.l6_w := pO C.l6.eq_1
def C.bx6 : ICode := .keep [1, 8, 9, 10] (.region C.l6)
def C.bx6_w := pC C.bx6.eq_1
def C.bcj_b : LO := [
 X.m 19 7,
 X.m 4 19]
def C.bcj : LO := C.bcj_b
def C.bcj_w := pO C.bcj.eq_1
def C.b9h : ICode := .seq (.region C.bcj) .ret
def C.b9h_w := pC C.b9h.eq_1
def C.b9j : ICode := .keep [1, 7, 8, 9, 10, 18] (.cond (X.s 18) C.b9h .skip)
def C.b9j_w := pC C.b9j.eq_1
def C.bch_b : LO := [
 X.m 17 7,
 X.o 18 (.bin .neq (X.s 17) (X.i 0))]
def C.bch : LO := C.bch_b
def C.bch_w := pO C.bch.eq_1
def C.b9k : ICode := .keep [1, 7, 8, 9, 10] (.seq (.region C.bch) C.b9j)
def C.b9k_w := pC C.b9k.eq_1
def C.bcg_b : LO := [
 X.m 14 1,
 X.o 15 (.loadN 1 (X.s 6)),
 X.o 16 (.callv (X.s 14) [X.s 15]),
 X.m 7 16]
def C.bcg : LO := C.bcg_b
def C.bcg_w := pO C.bcg.eq_1
def C.b9l : ICode := .keep [1, 6, 8, 9, 10] (.seq (.region C.bcg) C.b9k)
def C.b9l_w := pC C.b9l.eq_1
def C.l5_b : LO := [
 X.o 12 (.idxAddr 1 (X.s 8) (X.s 10)),
 X.o 13 (.loadN 1 (X.s 12)),
 X.o 6 (.alloc [.int .i64 0]),
 X.n (.storeN 1 (X.s 6) (X.s 13))]
def C.l5 : LO := C.l5_b
def C.l5_w := pO C.l5.eq_1
def C.bx2 : ICode := .seq (.region C.l5) C.b9l
def C.bx2_w := pC C.bx2.eq_1
def C.bx7 : ICode := .keep [1, 8, 9, 10] (.seq (.block 1 C.bx2) C.bx6)
def C.bx7_w := pC C.bx7.eq_1
def C.bx8 : ICode := .keep [1, 8, 9, 10, 11] (.seq (.cond (X.s 11) .skip (.exit 0)) C.bx7)
def C.bx8_w := pC C.bx8.eq_1
def C.l4_b : LO := [
 X.o 11 (.bin .lss (X.s 10) (X.s 9))]
def C.l4 : LO := C.l4_b
def C.l4_w := pO C.l4.eq_1
def C.clh : ICode := .keep [1, 8, 9, 10] (.seq (.region C.l4) C.bx8)
def C.clh_w := pC C.clh.eq_1
def C.bx1 : ICode := .loop C.clh
def C.bx1_w := pC C.bx1.eq_1
def C.bx4 : ICode := .keep [1, 8, 9, 10] (.block 0 C.bx1)
def C.bx4_w := pC C.bx4.eq_1
def C.l3_b : LO := [
 X.m 8 0,
 X.o 9 (.len (X.s 8)),
 X.o 10 (.move (X.i 0))]
def C.l3 : LO := C.l3_b
def C.l3_w := pO C.l3.eq_1
def C.bx5 : ICode := .keep [0, 1] (.seq (.seq (.region C.l3) C.bx4) C.bx3)
def C.bx5_w := pC C.bx5.eq_1
def C.l2_b : LO := [
 X.o 4 (.move (X.i 0))]
def C.l2 : LO := C.l2_b
def C.l2_w := pO C.l2.eq_1
def C.q59 : IFunc := ⟨2, [.slot 4], .seq (.region C.l2) C.bx5⟩
def C.q59_W := aI (aI (aI (aI @C.l7_w @C.bx3_w) (aI @C.l6_w (aI @C.bx6_w @C.bcj_w))) (aI (aI @C.b9h_w @C.b9j_w) (aI @C.bch_w (aI @C.b9k_w @C.bcg_w)))) (aI (aI (aI @C.b9l_w @C.l5_w) (aI @C.bx2_w (aI @C.bx7_w @C.bx8_w))) (aI (aI @C.l4_w (aI @C.bx1_w @C.bx4_w)) (aI @C.l3_w (aI @C.bx5_w @C.l2_w))))
def C.q59_B := aI (aI (aI @C.l7_b.eq_1 @C.l6_b.eq_1) (aI @C.bcj_b.eq_1 @C.bch_b.eq_1)) (aI (aI @C.bcg_b.eq_1 @C.l5_b.eq_1) (aI @C.l4_b.eq_1 (aI @C.l3_b.eq_1 @C.l2_b.eq_1)))

def C.bfh_b : LO := [
 X.o 3 (.fldAddr 0 (X.s 1)),
 X.o 4 (.load1 (X.s 3)),
 X.o 5 (.call F.q74 [X.s 4, X.i 0, X.i 20]),
 X.o 6 (.un .not (X.s 5)),
 X.o 7 (.call F.q73 [X.s 6, X.i 3]),
 X.m 2 7]
def C.bfh : LO := C.bfh_b
def C.bfh_w := pO C.bfh.eq_1
def C.ccp : ICode := .keep [1] (.seq (.region C.bfh) .ret)
def C.ccp_w := pC C.ccp.eq_1
def C.bfg_b : LO := [
 X.o 1 (.boxN (X.s 0)),
 X.o 2 (.move (X.i 0))]
def C.bfg : LO := C.bfg_b
def C.bfg_w := pO C.bfg.eq_1
def C.q71 : IFunc := ⟨1, [.slot 2], .seq (.region C.bfg) C.ccp⟩
def C.q71_W := aI @C.bfh_w (aI @C.ccp_w @C.bfg_w)
def C.q71_B := aI @C.bfh_b.eq_1 @C.bfg_b.eq_1

def C.x5_b : LO := [
 X.o 2 (.fldAddr 3 (X.s 0)),
 X.o 3 (.load1 (X.s 2)),
 X.o 4 (.makeFunc F.q35 [X.s 0]),
 X.o 5 (.call F.q57 [X.s 3, X.s 4]),
 X.m 1 5]
def C.x5 : LO := C.x5_b
def C.x5_w := pO C.x5.eq_1
def C.b7d : ICode := .keep [0] (.seq (.region C.x5) .ret)
def C.b7d_w := pC C.b7d.eq_1
def C.x4_b : LO := [
 X.o 1 (.move (X.i 0))]
def C.x4 : LO := C.x4_b
def C.x4_w := pO C.x4.eq_1
def C.q34 : IFunc := ⟨1, [.slot 1], .seq (.region C.x4) C.b7d⟩
def C.q34_W := aI @C.x5_w (aI @C.b7d_w @C.x4_w)
def C.q34_B := aI @C.x5_b.eq_1 @C.x4_b.eq_1

def C.lw_b : LO := [
 X.o 4 (.move (X.i 0))]
def C.lw : LO := C.lw_b
def C.lw_w := pO C.lw.eq_1
def C.bxl : ICode := .keep [] (.seq (.region C.lw) .ret)
def C.bxl_w := pC C.bxl.eq_1
def C.lv_b : LO := [
 X.o 20 (.bin .add (X.s 10) (X.i 1)),
 X.m 10 20]
def C.lv : LO := C.lv_b
def C.lv_w := pO C.lv.eq_1
def C.bxp : ICode := .keep [1, 8, 9, 10] (.region C.lv)
def C.bxp_w := pC C.bxp.eq_1
def C.bcb_b : LO := [
 X.m 19 7,
 X.m 4 19]
def C.bcb : LO := C.bcb_b
def C.bcb_w := pO C.bcb.eq_1
def C.b87 : ICode := .seq (.region C.bcb) .ret
def C.b87_w := pC C.b87.eq_1
def C.b88 : ICode := .keep [1, 7, 8, 9, 10, 18] (.cond (X.s 18) C.b87 .skip)
def C.b88_w := pC C.b88.eq_1
def C.bb9_b : LO := [
 X.m 17 7,
 X.o 18 (.bin .neq (X.s 17) (X.i 0))]
def C.bb9 : LO := C.bb9_b
def C.bb9_w := pO C.bb9.eq_1
def C.b89 : ICode := .keep [1, 7, 8, 9, 10] (.seq (.region C.bb9) C.b88)
def C.b89_w := pC C.b89.eq_1
def C.bb8_b : LO := [
 X.m 14 1,
 X.o 15 (.loadN 6 (X.s 6)),
 X.o 16 (.callv (X.s 14) [X.s 15]),
 X.m 7 16]
def C.bb8 : LO := C.bb8_b
def C.bb8_w := pO C.bb8.eq_1
def C.b9b : ICode := .keep [1, 6, 8, 9, 10] (.seq (.region C.bb8) C.b89)
def C.b9b_w := pC C.b9b.eq_1
def C.lt_b : LO := [
 X.o 12 (.idxAddr 6 (X.s 8) (X.s 10)),
 X.o 13 (.loadN 6 (X.s 12)),
 X.o 6 (.alloc [.int .i64 0, .int .i64 0, .int .i64 0, .int .u32 0, .nils, .nils]),
 X.n (.storeN 6 (X.s 6) (X.s 13))]
def C.lt : LO := C.lt_b
def C.lt_w := pO C.lt.eq_1
def C.bxk : ICode := .seq (.region C.lt) C.b9b
def C.bxk_w := pC C.bxk.eq_1
def C.bxr : ICode := .keep [1, 8, 9, 10] (.seq (.block 1 C.bxk) C.bxp)
def C.bxr_w := pC C.bxr.eq_1
def C.bxs : ICode := .keep [1, 8, 9, 10, 11] (.seq (.cond (X.s 11) .skip (.exit 0)) C.bxr)
def C.bxs_w := pC C.bxs.eq_1
def C.ls_b : LO := [
 X.o 11 (.bin .lss (X.s 10) (X.s 9))]
def C.ls : LO := C.ls_b
def C.ls_w := pO C.ls.eq_1
def C.clf : ICode := .keep [1, 8, 9, 10] (.seq (.region C.ls) C.bxs)
def C.clf_w := pC C.clf.eq_1
def C.bxj : ICode := .loop C.clf
def C.bxj_w := pC C.bxj.eq_1
def C.bxm : ICode := .keep [1, 8, 9, 10] (.block 0 C.bxj)
def C.bxm_w := pC C.bxm.eq_1
def C.lr_b : LO := [
 X.m 8 0,
 X.o 9 (.len (X.s 8)),
 X.o 10 (.move (X.i 0))]
def C.lr : LO := C.lr_b
def C.lr_w := pO C.lr.eq_1
def C.bxn : ICode := .keep [0, 1] (.seq (.seq (.region C.lr) C.bxm) C.bxl)
def C.bxn_w := pC C.bxn.eq_1
def C.lp_b : LO := [
 X.o 4 (.move (X.i 0))]
def C.lp : LO := C.lp_b
def C.lp_w := pO C.lp.eq_1
def C.q57 : IFunc := ⟨2, [.slot 4], .seq (.region C.lp) C.bxn⟩
def C.q57_W := aI (aI (aI (aI @C.lw_w @C.bxl_w) (aI @C.lv_w (aI @C.bxp_w @C.bcb_w))) (aI (aI @C.b87_w @C.b88_w) (aI @C.bb9_w (aI @C.b89_w @C.bb8_w)))) (aI (aI (aI @C.b9b_w @C.lt_w) (aI @C.bxk_w (aI @C.bxr_w @C.bxs_w))) (aI (aI @C.ls_w (aI @C.bxj_w @C.bxm_w)) (aI @C.lr_w (aI @C.bxn_w @C.lp_w))))
def C.q57_B := aI (aI (aI @C.lw_b.eq_1 @C.lv_b.eq_1) (aI @C.bcb_b.eq_1 @C.bb9_b.eq_1)) (aI (aI @C.bb8_b.eq_1 @C.lt_b.eq_1) (aI @C.ls_b.eq_1 (aI @C.lr_b.eq_1 @C.lp_b.eq_1)))

def C.x6_b : LO := [
 X.o 4 (.loadN 4 (X.s 1)),
 X.o 5 (.loadN 6 (X.s 2)),
 X.o 6 (.call F.q47 [X.s 4, X.s 5]),
 X.m 3 6]
def C.x6 : LO := C.x6_b
def C.x6_w := pO C.x6.eq_1
def C.b7f : ICode := .keep [1, 2] (.seq (.region C.x6) .ret)
def C.b7f_w := pC C.b7f.eq_1
def C.kz_b : LO := [
 X.o 2 (.boxN (X.s 0)),
 X.o 3 (.move (X.i 0))]
def C.kz : LO := C.kz_b
def C.kz_w := pO C.kz.eq_1
def C.q35 : IFunc := ⟨2, [.slot 3], .seq (.region C.kz) C.b7f⟩
def C.q35_W := aI @C.x6_w (aI @C.b7f_w @C.kz_w)
def C.q35_B := aI @C.x6_b.eq_1 @C.kz_b.eq_1

def C.y9_b : LO := [
 X.o 5 (.makeFunc F.q48 [X.s 3, X.s 2]),
 X.o 6 (.makeFunc F.q49 [X.s 3, X.s 2]),
 X.o 7 (.makeFunc F.q50 [X.s 3, X.s 2]),
 X.o 8 (.makeFunc F.q51 [X.s 3, X.s 2]),
 X.o 9 (.buildSlice 1 4 [.nilf] [(0, 1, X.s 5), (1, 1, X.s 6), (2, 1, X.s 7), (3, 1, X.s 8)]),
 X.o 10 (.call F.q61 [X.s 9]),
 X.m 4 10]
def C.y9 : LO := C.y9_b
def C.y9_w := pO C.y9.eq_1
def C.b8f : ICode := .keep [2, 3] (.seq (.region C.y9) .ret)
def C.b8f_w := pC C.b8f.eq_1
def C.y8_b : LO := [
 X.o 2 (.boxN (X.s 0)),
 X.o 3 (.boxN (X.s 1)),
 X.o 4 (.move (X.i 0))]
def C.y8 : LO := C.y8_b
def C.y8_w := pO C.y8.eq_1
def C.q47 : IFunc := ⟨2, [.slot 4], .seq (.region C.y8) C.b8f⟩
def C.q47_W := aI @C.y9_w (aI @C.b8f_w @C.y8_w)
def C.q47_B := aI @C.y9_b.eq_1 @C.y8_b.eq_1

def C.x8_b : LO := [
 X.o 2 (.loadN 4 (X.s 0)),
 X.o 3 (.call F.q40 [X.s 2]),
 X.o 4 (.call F.q46 [X.s 3]),
 X.m 1 4]
def C.x8 : LO := C.x8_b
def C.x8_w := pO C.x8.eq_1
def C.b7g : ICode := .keep [0] (.seq (.region C.x8) .ret)
def C.b7g_w := pC C.b7g.eq_1
def C.x7_b : LO := [
 X.o 1 (.move (X.i 0))]
def C.x7 : LO := C.x7_b
def C.x7_w := pO C.x7.eq_1
def C.q36 : IFunc := ⟨1, [.slot 1], .seq (.region C.x7) C.b7g⟩
def C.q36_W := aI @C.x8_w (aI @C.b7g_w @C.x7_w)
def C.q36_B := aI @C.x8_b.eq_1 @C.x7_b.eq_1

def C.lg_b : LO := [
 X.m 25 3,
 X.m 2 25]
def C.lg : LO := C.lg_b
def C.lg_w := pO C.lg.eq_1
def C.bw2 : ICode := .keep [3] (.seq (.region C.lg) .ret)
def C.bw2_w := pC C.bw2.eq_1
def C.lf_b : LO := [
 X.o 24 (.bin .add (X.s 13) (X.i 1)),
 X.m 13 24]
def C.lf : LO := C.lf_b
def C.lf_w := pO C.lf.eq_1
def C.bw4 : ICode := .keep [3, 11, 12, 13] (.region C.lf)
def C.bw4_w := pC C.bw4.eq_1
def C.yw_b : LO := [
 X.m 18 3,
 X.m 19 4,
 X.o 20 (.fldAddr 5 (X.s 5)),
 X.o 21 (.load1 (X.s 20)),
 X.o 22 (.call F.q70 [X.s 21]),
 X.o 23 (.idxAddr 1 (X.s 18) (X.s 19)),
 X.n (.store1 (X.s 23) (X.s 22))]
def C.yw : LO := C.yw_b
def C.yw_w := pO C.yw.eq_1
def C.b76 : ICode := .keep [3, 4, 5, 11, 12, 13] (.region C.yw)
def C.b76_w := pC C.b76.eq_1
def C.ld_b : LO := [
 X.m 15 13,
 X.o 16 (.idxAddr 6 (X.s 11) (X.s 13)),
 X.o 17 (.loadN 6 (X.s 16)),
 X.o 5 (.alloc [.int .i64 0, .int .i64 0, .int .i64 0, .int .u32 0, .nils, .nils]),
 X.m 4 15,
 X.n (.storeN 6 (X.s 5) (X.s 17))]
def C.ld : LO := C.ld_b
def C.ld_w := pO C.ld.eq_1
def C.bw0 : ICode := .seq (.region C.ld) C.b76
def C.bw0_w := pC C.bw0.eq_1
def C.bw5 : ICode := .keep [3, 11, 12, 13] (.seq (.block 1 C.bw0) C.bw4)
def C.bw5_w := pC C.bw5.eq_1
def C.bw6 : ICode := .keep [3, 11, 12, 13, 14] (.seq (.cond (X.s 14) .skip (.exit 0)) C.bw5)
def C.bw6_w := pC C.bw6.eq_1
def C.lc_b : LO := [
 X.o 14 (.bin .lss (X.s 13) (X.s 12))]
def C.lc : LO := C.lc_b
def C.lc_w := pO C.lc.eq_1
def C.clc : ICode := .keep [3, 11, 12, 13] (.seq (.region C.lc) C.bw6)
def C.clc_w := pC C.clc.eq_1
def C.bw1 : ICode := .loop C.clc
def C.bw1_w := pC C.bw1.eq_1
def C.bw7 : ICode := .keep [3, 11, 12, 13] (.block 0 C.bw1)
def C.bw7_w := pC C.bw7.eq_1
def C.lb_b : LO := [
 X.o 10 (.fldAddr 3 (X.s 1)),
 X.o 11 (.load1 (X.s 10)),
 X.o 12 (.len (X.s 11)),
 X.o 13 (.move (X.i 0))]
def C.lb : LO := C.lb_b
def C.lb_w := pO C.lb.eq_1
def C.bw3 : ICode := .keep [1, 3] (.seq (.seq (.region C.lb) C.bw7) C.bw2)
def C.bw3_w := pC C.bw3.eq_1
def C.c7_b : LO := [
 X.o 6 (.fldAddr 3 (X.s 1)),
 X.o 7 (.load1 (X.s 6)),
 X.o 8 (.len (X.s 7)),
 X.o 9 (.makeSlice 1 24 [.nils] (X.s 8) (X.s 8)),
 X.m 3 9]
def C.c7 : LO := C.c7_b
def C.c7_w := pO C.c7.eq_1
def C.bmd : ICode := .keep [1] (.seq (.region C.c7) C.bw3)
def C.bmd_w := pC C.bmd.eq_1
def C.b1_b : LO := [
 X.o 1 (.boxN (X.s 0)),
 X.o 2 (.move (.cst (.nils)))]
def C.b1 : LO := C.b1_b
def C.b1_w := pO C.b1.eq_1
def C.q40 : IFunc := ⟨1, [.slot 2], .seq (.region C.b1) C.bmd⟩
def C.q40_W := aI (aI (aI (aI @C.lg_w @C.bw2_w) (aI @C.lf_w @C.bw4_w)) (aI (aI @C.yw_w @C.b76_w) (aI @C.ld_w (aI @C.bw0_w @C.bw5_w)))) (aI (aI (aI @C.bw6_w @C.lc_w) (aI @C.bw1_w @C.bw7_w)) (aI (aI @C.lb_w @C.bw3_w) (aI @C.c7_w (aI @C.bmd_w @C.b1_w))))
def C.q40_B := aI (aI (aI @C.lg_b.eq_1 @C.lf_b.eq_1) (aI @C.yw_b.eq_1 @C.ld_b.eq_1)) (aI (aI @C.lc_b.eq_1 @C.lb_b.eq_1) (aI @C.c7_b.eq_1 @C.b1_b.eq_1))

def C.rr_b : LO := [
 X.m 6 0,
 X.o 7 (.nilchk (X.s 6)),
 X.o 8 (.fldAddr 3 (X.s 7)),
 X.n (.store1 (X.s 8) (.cst (.bool false)))]
def C.rr : LO := C.rr_b
def C.rr_w := pO C.rr.eq_1
def C.b19 : ICode := .keep [0] (.region C.rr)
def C.b19_w := pC C.b19.eq_1
def C.rp_b : LO := [
 X.m 4 0,
 X.o 5 (.call F.q116 [X.s 4, .fnc F.q108])]
def C.rp : LO := C.rp_b
def C.rp_w := pO C.rp.eq_1
def C.b2b : ICode := .keep [0] (.seq (.region C.rp) C.b19)
def C.b2b_w := pC C.b2b.eq_1
def C.b2c : ICode := .keep [0, 3] (.cond (X.s 3) .ret .skip)
def C.b2c_w := pC C.b2c.eq_1
def C.rn_b : LO := [
 X.m 2 0,
 X.o 3 (.eqP 0 false (X.s 2) (.cst (.nilp)))]
def C.rn : LO := C.rn_b
def C.rn_w := pO C.rn.eq_1
def C.q107 : IFunc := ⟨1, [], .seq (.seq (.region C.rn) C.b2c) C.b2b⟩
def C.q107_W := aI (aI @C.rr_w (aI @C.b19_w @C.rp_w)) (aI @C.b2b_w (aI @C.b2c_w @C.rn_w))
def C.q107_B := aI @C.rr_b.eq_1 (aI @C.rp_b.eq_1 @C.rn_b.eq_1)

def C.tj_b : LO := [
 X.o 4 (.move (X.i 0))]
def C.tj : LO := C.tj_b
def C.tj_w := pO C.tj.eq_1
def C.b3w : ICode := .keep [] (.seq (.region C.tj) .ret)
def C.b3w_w := pC C.b3w.eq_1
def C.th_b : LO := [
 X.m 19 0,
 X.o 20 (.nilchk (X.s 19)),
 X.o 21 (.fldAddr 0 (X.s 20)),
 X.o 22 (.load1 (X.s 21)),
 X.m 23 1,
 X.o 24 (.loadN 4 (X.s 5)),
 X.n (.mapSet (X.s 22) (X.s 23) (X.s 24))]
def C.th : LO := C.th_b
def C.th_w := pO C.th.eq_1
def C.b3x : ICode := .keep [0, 1, 5] (.seq (.region C.th) C.b3w)
def C.b3x_w := pC C.b3x.eq_1
def C.tg_b : LO := [
 X.o 18 (.fldAddr 3 (X.s 5)),
 X.n (.store1 (X.s 18) (.cst (.bool true)))]
def C.tg : LO := C.tg_b
def C.tg_w := pO C.tg.eq_1
def C.b3y : ICode := .keep [0, 1, 5] (.seq (.region C.tg) C.b3x)
def C.b3y_w := pC C.b3y.eq_1
def C.tf_b : LO := [
 X.o 4 (.move (X.i 6))]
def C.tf : LO := C.tf_b
def C.tf_w := pO C.tf.eq_1
def C.b3q : ICode := .seq (.region C.tf) .ret
def C.b3q_w := pC C.b3q.eq_1
def C.b3z : ICode := .keep [0, 1, 5, 17] (.cond (X.s 17) C.b3q .skip)
def C.b3z_w := pC C.b3z.eq_1
def C.td_b : LO := [
 X.o 15 (.fldAddr 2 (X.s 5)),
 X.o 16 (.load1 (X.s 15)),
 X.o 17 (.un .not (X.s 16))]
def C.td : LO := C.td_b
def C.td_w := pO C.td.eq_1
def C.b30 : ICode := .keep [0, 1, 5] (.seq (.seq (.region C.td) C.b3z) C.b3y)
def C.b30_w := pC C.b30.eq_1
def C.tc_b : LO := [
 X.o 4 (.move (X.i 4))]
def C.tc : LO := C.tc_b
def C.tc_w := pO C.tc.eq_1
def C.b31 : ICode := .seq (.region C.tc) .ret
def C.b31_w := pC C.b31.eq_1
def C.b32 : ICode := .keep [0, 1, 5, 14] (.cond (X.s 14) C.b31 .skip)
def C.b32_w := pC C.b32.eq_1
def C.tb_b : LO := [
 X.m 13 6,
 X.o 14 (.un .not (X.s 13))]
def C.tb : LO := C.tb_b
def C.tb_w := pO C.tb.eq_1
def C.b33 : ICode := .keep [0, 1, 5, 6] (.seq (.seq (.region C.tb) C.b32) C.b30)
def C.b33_w := pC C.b33.eq_1
def C.dl_b : LO := [
 X.m 8 0,
 X.m 9 1,
 X.o 10 (.call F.q123 [X.s 8, X.s 9]),
 X.m 7 10,
 X.o 11 (.extract (X.s 7) 0),
 X.o 12 (.extract (X.s 7) 1),
 X.o 5 (.alloc [.int .i64 0, .int .i64 0, .bool false, .bool false]),
 X.n (.storeN 4 (X.s 5) (X.s 11)),
 X.m 6 12]
def C.dl : LO := C.dl_b
def C.dl_w := pO C.dl.eq_1
def C.bm6 : ICode := .keep [0, 1] (.seq (.region C.dl) C.b33)
def C.bm6_w := pC C.bm6.eq_1
def C.dk_b : LO := [
 X.o 4 (.move (X.i 0))]
def C.dk : LO := C.dk_b
def C.dk_w := pO C.dk.eq_1
def C.q121 : IFunc := ⟨2, [.slot 4], .seq (.region C.dk) C.bm6⟩
def C.q121_W := aI (aI (aI (aI @C.tj_w @C.b3w_w) (aI @C.th_w @C.b3x_w)) (aI (aI @C.tg_w @C.b3y_w) (aI @C.tf_w (aI @C.b3q_w @C.b3z_w)))) (aI (aI (aI @C.td_w @C.b30_w) (aI @C.tc_w (aI @C.b31_w @C.b32_w))) (aI (aI @C.tb_w @C.b33_w) (aI @C.dl_w (aI @C.bm6_w @C.dk_w))))
def C.q121_B := aI (aI (aI @C.tj_b.eq_1 @C.th_b.eq_1) (aI @C.tg_b.eq_1 @C.tf_b.eq_1)) (aI (aI @C.td_b.eq_1 @C.tc_b.eq_1) (aI @C.tb_b.eq_1 (aI @C.dl_b.eq_1 @C.dk_b.eq_1)))

def C.blm_b : LO := [
 X.o 4 (.move (X.i 0))]
def C.blm : LO := C.blm_b
def C.blm_w := pO C.blm.eq_1
def C.ckh : ICode := .keep [] (.seq (.region C.blm) .ret)
def C.ckh_w := pC C.ckh.eq_1
def C.bll_b : LO := [
 X.m 45 5,
 X.m 46 5,
 X.m 47 5,
 X.o 48 (.nilchk (X.s 47)),
 X.o 49 (.fldAddr 0 (X.s 48)),
 X.o 50 (.fldAddr 1 (X.s 49)),
 X.o 51 (.load1 (X.s 50)),
 X.o 52 (.nilchk (X.s 45)),
 X.o 53 (.fldAddr 3 (X.s 52)),
 X.n (.store1 (X.s 53) (.cst (.int .u8 114))),
 X.o 54 (.nilchk (X.s 46)),
 X.o 55 (.fldAddr 4 (X.s 54)),
 X.n (.store1 (X.s 55) (X.s 51))]
def C.bll : LO := C.bll_b
def C.bll_w := pO C.bll.eq_1
def C.ckj : ICode := .keep [5] (.seq (.region C.bll) C.ckh)
def C.ckj_w := pC C.ckj.eq_1
def C.nv_b : LO := [
 X.m 37 5,
 X.m 38 5,
 X.o 39 (.nilchk (X.s 38)),
 X.o 40 (.fldAddr 3 (X.s 39)),
 X.o 41 (.load1 (X.s 40)),
 X.o 42 (.bin .eql (X.s 41) (.cst (.int .u8 116))),
 X.o 43 (.nilchk (X.s 37)),
 X.o 44 (.fldAddr 5 (X.s 43)),
 X.n (.store1 (X.s 44) (X.s 42))]
def C.nv : LO := C.nv_b
def C.nv_w := pO C.nv.eq_1
def C.n5 : ICode := .keep [5] (.seq (.region C.nv) C.ckj)
def C.n5_w := pC C.n5.eq_1
def C.nt_b : LO := [
 X.o 4 (.move (X.i 6))]
def C.nt : LO := C.nt_b
def C.nt_w := pO C.nt.eq_1
def C.bzq : ICode := .seq (.region C.nt) .ret
def C.bzq_w := pC C.bzq.eq_1
def C.bzz : ICode := .keep [5, 36] (.cond (X.s 36) C.bzq .skip)
def C.bzz_w := pC C.bzz.eq_1
def C.ns_b : LO := [
 X.m 11 5,
 X.o 12 (.call F.q102 [X.s 11]),
 X.o 13 (.un .not (X.s 12)),
 X.m 14 13,
 X.f 14 15 (.move (X.s 5)),
 X.f 14 16 (.nilchk (X.s 15)),
 X.f 14 17 (.fldAddr 0 (X.s 16)),
 X.f 14 18 (.fldAddr 0 (X.s 17)),
 X.f 14 19 (.load1 (X.s 18)),
 X.f 14 20 (.bin .neq (X.s 19) (X.i (-1))),
 X.f 14 21 (.move (X.s 20)),
 X.t 21 22 (.move (X.s 0)),
 X.t 21 23 (.nilchk (X.s 22)),
 X.t 21 24 (.fldAddr 0 (X.s 23)),
 X.t 21 25 (.load1 (X.s 24)),
 X.t 21 26 (.move (X.s 5)),
 X.t 21 27 (.nilchk (X.s 26)),
 X.t 21 28 (.fldAddr 0 (X.s 27)),
 X.t 21 29 (.fldAddr 0 (X.s 28)),
 X.t 21 30 (.load1 (X.s 29)),
 X.t 21 31 (.idxAddr 7 (X.s 25) (X.s 30)),
 X.t 21 32 (.fldAddr 3 (X.s 31)),
 X.t 21 33 (.load1 (X.s 32)),
 X.t 21 34 (.bin .neq (X.s 33) (.cst (.int .u8 49))),
 X.f 14 35 (.pick (X.s 21) (X.s 34) (.cst (.bool false))),
 X.o 36 (.pick (X.s 14) (.cst (.bool true)) (X.s 35))]
def C.ns : LO := C.ns_b
def C.ns_w := pO C.ns.eq_1
def C.bz0 : ICode := .keep [0, 5] (.seq (.seq (.region C.ns) C.bzz) C.n5)
def C.bz0_w := pC C.bz0.eq_1
def C.nr_b : LO := [
 X.o 4 (.move (X.i 4))]
def C.nr : LO := C.nr_b
def C.nr_w := pO C.nr.eq_1
def C.bz1 : ICode := .seq (.region C.nr) .ret
def C.bz1_w := pC C.bz1.eq_1
def C.bz2 : ICode := .keep [0, 5, 10] (.cond (X.s 10) C.bz1 .skip)
def C.bz2_w := pC C.bz2.eq_1
def C.np_b : LO := [
 X.m 9 5,
 X.o 10 (.eqP 0 false (X.s 9) (.cst (.nilp)))]
def C.np : LO := C.np_b
def C.np_w := pO C.np.eq_1
def C.bz3 : ICode := .keep [0, 5] (.seq (.seq (.region C.np) C.bz2) C.bz0)
def C.bz3_w := pC C.bz3.eq_1
def C.nn_b : LO := [
 X.m 6 0,
 X.m 7 1,
 X.o 8 (.call F.q100 [X.s 6, X.s 7]),
 X.m 5 8]
def C.nn : LO := C.nn_b
def C.nn_w := pO C.nn.eq_1
def C.bzy : ICode := .keep [0, 1] (.seq (.region C.nn) C.bz3)
def C.bzy_w := pC C.bzy.eq_1
def C.nm_b : LO := [
 X.o 4 (.move (X.i 0))]
def C.nm : LO := C.nm_b
def C.nm_w := pO C.nm.eq_1
def C.q99 : IFunc := ⟨2, [.slot 4], .seq (.region C.nm) C.bzy⟩
def C.q99_W := aI (aI (aI (aI @C.blm_w @C.ckh_w) (aI @C.bll_w @C.ckj_w)) (aI (aI @C.nv_w @C.n5_w) (aI @C.nt_w (aI @C.bzq_w @C.bzz_w)))) (aI (aI (aI @C.ns_w @C.bz0_w) (aI @C.nr_w (aI @C.bz1_w @C.bz2_w))) (aI (aI @C.np_w @C.bz3_w) (aI @C.nn_w (aI @C.bzy_w @C.nm_w))))
def C.q99_B := aI (aI (aI @C.blm_b.eq_1 @C.bll_b.eq_1) (aI @C.nv_b.eq_1 @C.nt_b.eq_1)) (aI (aI @C.ns_b.eq_1 @C.nr_b.eq_1) (aI @C.np_b.eq_1 (aI @C.nn_b.eq_1 @C.nm_b.eq_1)))

def C.yf_b : LO := [
 X.o 66 (.loadN 4 (X.s 3)),
 X.n (.storeN 4 (X.s 2) (X.s 66))]
def C.yf : LO := C.yf_b
def C.yf_w := pO C.yf.eq_1
def C.b7n : ICode := .keep [2, 3] (.seq (.region C.yf) .ret)
def C.b7n_w := pC C.b7n.eq_1
def C.yd_b : LO := [
 X.o 65 (.bin .add (X.s 42) (X.i 1)),
 X.m 42 65]
def C.yd : LO := C.yd_b
def C.yd_w := pO C.yd.eq_1
def C.b7y : ICode := .keep [2, 3, 41, 42] (.region C.yd)
def C.b7y_w := pC C.b7y.eq_1
def C.yc_b : LO := [
 X.m 49 6,
 X.m 50 6,
 X.m 51 6,
 X.o 52 (.nilchk (X.s 51)),
 X.o 53 (.fldAddr 4 (X.s 52)),
 X.o 54 (.load1 (X.s 53)),
 X.m 56 6,
 X.o 57 (.nilchk (X.s 56)),
 X.o 58 (.fldAddr 5 (X.s 57)),
 X.o 59 (.load1 (X.s 58)),
 ⟨some 55, .call F.q68 [X.s 54], none, [⟨.load1 (X.s 58), 59, none⟩], []⟩,
 X.o 60 (.call F.q70 [X.s 59]),
 X.o 61 (.nilchk (X.s 49)),
 X.o 62 (.fldAddr 4 (X.s 61)),
 X.n (.store1 (X.s 62) (X.s 55)),
 X.o 63 (.nilchk (X.s 50)),
 X.o 64 (.fldAddr 5 (X.s 63)),
 X.n (.store1 (X.s 64) (X.s 60))]
def C.yc : LO := C.yc_b
def C.yc_w := pO C.yc.eq_1
def C.b7z : ICode := .keep [2, 3, 6, 41, 42] (.region C.yc)
def C.b7z_w := pC C.b7z.eq_1
def C.yb_b : LO := [
 X.o 45 (.fldAddr 3 (X.s 3)),
 X.o 46 (.load1 (X.s 45)),
 X.m 47 5,
 X.o 48 (.idxAddr 6 (X.s 46) (X.s 47)),
 X.m 6 48]
def C.yb : LO := C.yb_b
def C.yb_w := pO C.yb.eq_1
def C.b70 : ICode := .keep [2, 3, 5, 41, 42] (.seq (.region C.yb) C.b7z)
def C.b70_w := pC C.b70.eq_1
def C.yp_b : LO := [
 X.m 44 42,
 X.m 5 44]
def C.yp : LO := C.yp_b
def C.yp_w := pO C.yp.eq_1
def C.b7l : ICode := .seq (.region C.yp) C.b70
def C.b7l_w := pC C.b7l.eq_1
def C.b71 : ICode := .keep [2, 3, 41, 42] (.seq (.block 3 C.b7l) C.b7y)
def C.b71_w := pC C.b71.eq_1
def C.b72 : ICode := .keep [2, 3, 41, 42, 43] (.seq (.cond (X.s 43) .skip (.exit 2)) C.b71)
def C.b72_w := pC C.b72.eq_1
def C.yn_b : LO := [
 X.o 43 (.bin .lss (X.s 42) (X.s 41))]
def C.yn : LO := C.yn_b
def C.yn_w := pO C.yn.eq_1
def C.ck9 : ICode := .keep [2, 3, 41, 42] (.seq (.region C.yn) C.b72)
def C.ck9_w := pC C.ck9.eq_1
def C.b7m : ICode := .loop C.ck9
def C.b7m_w := pC C.b7m.eq_1
def C.b7p : ICode := .keep [2, 3, 41, 42] (.block 2 C.b7m)
def C.b7p_w := pC C.b7p.eq_1
def C.ym_b : LO := [
 X.o 39 (.fldAddr 3 (X.s 3)),
 X.o 40 (.load1 (X.s 39)),
 X.o 41 (.len (X.s 40)),
 X.o 42 (.move (X.i 0))]
def C.ym : LO := C.ym_b
def C.ym_w := pO C.ym.eq_1
def C.b7r : ICode := .keep [2, 3] (.seq (.seq (.region C.ym) C.b7p) C.b7n)
def C.b7r_w := pC C.b7r.eq_1
def C.yl_b : LO := [
 X.o 38 (.bin .add (X.s 23) (X.i 1)),
 X.m 23 38]
def C.yl : LO := C.yl_b
def C.yl_w := pO C.yl.eq_1
def C.b7s : ICode := .keep [2, 3, 22, 23] (.region C.yl)
def C.b7s_w := pC C.b7s.eq_1
def C.yk_b : LO := [
 X.o 26 (.fldAddr 0 (X.s 3)),
 X.o 27 (.load1 (X.s 26)),
 X.m 28 4,
 X.o 29 (.fldAddr 0 (X.s 3)),
 X.o 30 (.load1 (X.s 29)),
 X.m 31 4,
 X.o 32 (.idxAddr 6 (X.s 30) (X.s 31)),
 X.o 33 (.fldAddr 1 (X.s 32)),
 X.o 34 (.load1 (X.s 33)),
 ⟨some 35, .call F.q70 [X.s 34], none, [⟨.load1 (X.s 26), 27, none⟩], []⟩,
 X.o 36 (.idxAddr 6 (X.s 27) (X.s 28)),
 X.o 37 (.fldAddr 1 (X.s 36)),
 X.n (.store1 (X.s 37) (X.s 35))]
def C.yk : LO := C.yk_b
def C.yk_w := pO C.yk.eq_1
def C.b7t : ICode := .keep [2, 3, 4, 22, 23] (.region C.yk)
def C.b7t_w := pC C.b7t.eq_1
def C.yj_b : LO := [
 X.m 25 23,
 X.m 4 25]
def C.yj : LO := C.yj_b
def C.yj_w := pO C.yj.eq_1
def C.b7j : ICode := .seq (.region C.yj) C.b7t
def C.b7j_w := pC C.b7j.eq_1
def C.b7v : ICode := .keep [2, 3, 22, 23] (.seq (.block 1 C.b7j) C.b7s)
def C.b7v_w := pC C.b7v.eq_1
def C.b7w : ICode := .keep [2, 3, 22, 23, 24] (.seq (.cond (X.s 24) .skip (.exit 0)) C.b7v)
def C.b7w_w := pC C.b7w.eq_1
def C.yh_b : LO := [
 X.o 24 (.bin .lss (X.s 23) (X.s 22))]
def C.yh : LO := C.yh_b
def C.yh_w := pO C.yh.eq_1
def C.ck8 : ICode := .keep [2, 3, 22, 23] (.seq (.region C.yh) C.b7w)
def C.ck8_w := pC C.ck8.eq_1
def C.b7k : ICode := .loop C.ck8
def C.b7k_w := pC C.b7k.eq_1
def C.b7x : ICode := .keep [2, 3, 22, 23] (.block 0 C.b7k)
def C.b7x_w := pC C.b7x.eq_1
def C.yg_b : LO := [
 X.o 20 (.fldAddr 0 (X.s 3)),
 X.o 21 (.load1 (X.s 20)),
 X.o 22 (.len (X.s 21)),
 X.o 23 (.move (X.i 0))]
def C.yg : LO := C.yg_b
def C.yg_w := pO C.yg.eq_1
def C.b7q : ICode := .keep [2, 3] (.seq (.seq (.region C.yg) C.b7x) C.b7r)
def C.b7q_w := pC C.b7q.eq_1
def C.c5_b : LO := [
 X.o 7 (.fldAddr 0 (X.s 1)),
 X.o 8 (.load1 (X.s 7)),
 X.o 10 (.fldAddr 1 (X.s 1)),
 X.o 11 (.load1 (X.s 10)),
 X.o 13 (.fldAddr 2 (X.s 1)),
 X.o 14 (.load1 (X.s 13)),
 X.o 16 (.fldAddr 3 (X.s 1)),
 X.o 17 (.load1 (X.s 16)),
 ⟨some 9, .call F.q65 [X.s 8], none, [⟨.load1 (X.s 10), 11, none⟩, ⟨.load1 (X.s 13), 14, none⟩, ⟨.load1 (X.s 16), 17, none⟩], []⟩,
 ⟨some 12, .call F.q67 [X.s 11], none, [⟨.load1 (X.s 13), 14, none⟩, ⟨.load1 (X.s 16), 17, none⟩], []⟩,
 ⟨some 15, .call F.q69 [X.s 14], none, [⟨.load1 (X.s 16), 17, none⟩], []⟩,
 X.o 18 (.call F.q66 [X.s 17]),
 X.o 19 (.build [.nils, .nils, .nils, .nils] [(0, 1, X.s 9), (1, 1, X.s 12), (2, 1, X.s 15), (3, 1, X.s 18)]),
 X.o 3 (.alloc [.nils, .nils, .nils, .nils]),
 X.n (.storeN 4 (X.s 3) (X.s 19))]
def C.c5 : LO := C.c5_b
def C.c5_w := pO C.c5.eq_1
def C.bmb : ICode := .keep [1, 2] (.seq (.region C.c5) C.b7q)
def C.bmb_w := pC C.bmb.eq_1
def C.bz_b : LO := [
 X.o 1 (.boxN (X.s 0)),
 X.o 2 (.alloc [.nils, .nils, .nils, .nils])]
def C.bz : LO := C.bz_b
def C.bz_w := pO C.bz.eq_1
def C.q38 : IFunc := ⟨1, [.cellN 2 4], .seq (.region C.bz) C.bmb⟩
def C.q38_W := aI (aI (aI (aI (aI @C.yf_w @C.b7n_w) (aI @C.yd_w @C.b7y_w)) (aI (aI @C.yc_w @C.b7z_w) (aI @C.yb_w @C.b70_w))) (aI (aI (aI @C.yp_w @C.b7l_w) (aI @C.b71_w @C.b72_w)) (aI (aI @C.yn_w @C.b7m_w) (aI @C.b7p_w @C.ym_w)))) (aI (aI (aI (aI @C.b7r_w @C.yl_w) (aI @C.b7s_w @C.yk_w)) (aI (aI @C.b7t_w @C.yj_w) (aI @C.b7j_w @C.b7v_w))) (aI (aI (aI @C.b7w_w @C.yh_w) (aI @C.b7k_w @C.b7x_w)) (aI (aI @C.yg_w @C.b7q_w) (aI @C.c5_w (aI @C.bmb_w @C.bz_w)))))
def C.q38_B := aI (aI (aI @C.yf_b.eq_1 (aI @C.yd_b.eq_1 @C.yc_b.eq_1)) (aI (aI @C.yb_b.eq_1 @C.yp_b.eq_1) (aI @C.yn_b.eq_1 @C.ym_b.eq_1))) (aI (aI @C.yl_b.eq_1 (aI @C.yk_b.eq_1 @C.yj_b.eq_1)) (aI (aI @C.yh_b.eq_1 @C.yg_b.eq_1) (aI @C.c5_b.eq_1 @C.bz_b.eq_1)))

def C.tz_b : LO := [
 X.o 5 (.buildSlice 2 0 [.int .u32 0, .bool false] []),
 X.m 6 0,
 X.o 7 (.append 2 8 (X.s 5) (X.s 6)),
 X.m 2 7]
def C.tz : LO := C.tz_b
def C.tz_w := pO C.tz.eq_1
def C.b4g : ICode := .keep [0] (.seq (.region C.tz) .ret)
def C.b4g_w := pC C.b4g.eq_1
def C.tq_b : LO := [
 X.o 2 (.move (.cst (.nils)))]
def C.tq : LO := C.tq_b
def C.tq_w := pO C.tq.eq_1
def C.b4h : ICode := .seq (.region C.tq) .ret
def C.b4h_w := pC C.b4h.eq_1
def C.b4j : ICode := .keep [0, 4] (.cond (X.s 4) C.b4h .skip)
def C.b4j_w := pC C.b4j.eq_1
def C.ty_b : LO := [
 X.m 3 0,
 X.o 4 (.eqP 1 false (X.s 3) (.cst (.nils)))]
def C.ty : LO := C.ty_b
def C.ty_w := pO C.ty.eq_1
def C.b4k : ICode := .keep [0] (.seq (.seq (.region C.ty) C.b4j) C.b4g)
def C.b4k_w := pC C.b4k.eq_1
def C.tx_b : LO := [
 X.o 2 (.move (.cst (.nils)))]
def C.tx : LO := C.tx_b
def C.tx_w := pO C.tx.eq_1
def C.q125 : IFunc := ⟨1, [.slot 2], .seq (.region C.tx) C.b4k⟩
def C.q125_W := aI (aI (aI @C.tz_w @C.b4g_w) (aI @C.tq_w @C.b4h_w)) (aI (aI @C.b4j_w @C.ty_w) (aI @C.b4k_w @C.tx_w))
def C.q125_B := aI (aI @C.tz_b.eq_1 @C.tq_b.eq_1) (aI @C.ty_b.eq_1 @C.tx_b.eq_1)

def C.xx_b : LO := [
 X.o 22 (.makeFunc F.q3 [X.s 3]),
 X.m 4 22,
 X.o 5 (.move (.cst (.bool true)))]
def C.xx : LO := C.xx_b
def C.xx_w := pO C.xx.eq_1
def C.b64 : ICode := .keep [3] (.seq (.region C.xx) .ret)
def C.b64_w := pC C.b64.eq_1
def C.xw_b : LO := [
 X.o 4 (.move (.cst (.nilf))),
 X.o 5 (.move (.cst (.bool false)))]
def C.xw : LO := C.xw_b
def C.xw_w := pO C.xw.eq_1
def C.b65 : ICode := .seq (.region C.xw) .ret
def C.b65_w := pC C.b65.eq_1
def C.b66 : ICode := .keep [3, 21] (.cond (X.s 21) C.b65 .skip)
def C.b66_w := pC C.b66.eq_1
def C.xv_b : LO := [
 X.o 6 (.load1 (X.s 3)),
 X.o 7 (.bin .lss (X.s 6) (X.i 1)),
 X.m 8 7,
 X.f 8 9 (.load1 (X.s 3)),
 X.f 8 10 (.bin .gtr (X.s 9) (X.i 32)),
 X.o 11 (.pick (X.s 8) (.cst (.bool true)) (X.s 10)),
 X.m 12 11,
 X.f 12 13 (.move (X.s 0)),
 X.f 12 14 (.bin .lss (X.s 13) (X.i 0)),
 X.o 15 (.pick (X.s 12) (.cst (.bool true)) (X.s 14)),
 X.m 16 15,
 X.f 16 17 (.move (X.s 0)),
 X.f 16 18 (.load1 (X.s 3)),
 X.f 16 19 (.bin .sub (X.i 32) (X.s 18)),
 X.f 16 20 (.bin .gtr (X.s 17) (X.s 19)),
 X.o 21 (.pick (X.s 16) (.cst (.bool true)) (X.s 20))]
def C.xv : LO := C.xv_b
def C.xv_w := pO C.xv.eq_1
def C.b67 : ICode := .keep [0, 3] (.seq (.seq (.region C.xv) C.b66) C.b64)
def C.b67_w := pC C.b67.eq_1
def C.xt_b : LO := [
 X.o 3 (.box1 (X.s 1)),
 X.o 4 (.move (.cst (.nilf))),
 X.o 5 (.move (.cst (.bool false)))]
def C.xt : LO := C.xt_b
def C.xt_w := pO C.xt.eq_1
def C.q2 : IFunc := ⟨2, [.slot 4, .slot 5], .seq (.region C.xt) C.b67⟩
def C.q2_W := aI (aI (aI @C.xx_w @C.b64_w) (aI @C.xw_w @C.b65_w)) (aI (aI @C.b66_w @C.xv_w) (aI @C.b67_w @C.xt_w))
def C.q2_B := aI (aI @C.xx_b.eq_1 @C.xw_b.eq_1) (aI @C.xv_b.eq_1 @C.xt_b.eq_1)

def C.s8_b : LO := [
 X.m 16 7,
 X.o 17 (.conv .i64 (X.s 16)),
 X.m 6 17]
def C.s8 : LO := C.s8_b
def C.s8_w := pO C.s8.eq_1
def C.b3s : ICode := .keep [7] (.seq (.region C.s8) .ret)
def C.b3s_w := pC C.b3s.eq_1
def C.s7_b : LO := [
 X.m 10 0,
 X.m 11 1,
 X.m 12 2,
 X.o 13 (.call F.q0 [X.s 10, X.s 11, X.s 12]),
 X.m 9 13,
 X.o 14 (.extract (X.s 9) 0),
 X.o 15 (.extract (X.s 9) 1),
 X.m 7 14,
 X.m 8 15]
def C.s7 : LO := C.s7_b
def C.s7_w := pO C.s7.eq_1
def C.b3t : ICode := .keep [0, 1, 2] (.seq (.region C.s7) C.b3s)
def C.b3t_w := pC C.b3t.eq_1
def C.s6_b : LO := [
 X.o 6 (.move (X.i 0))]
def C.s6 : LO := C.s6_b
def C.s6_w := pO C.s6.eq_1
def C.q11 : IFunc := ⟨3, [.slot 6], .seq (.region C.s6) C.b3t⟩
def C.q11_W := aI (aI @C.s8_w @C.b3s_w) (aI @C.s7_w (aI @C.b3t_w @C.s6_w))
def C.q11_B := aI @C.s8_b.eq_1 (aI @C.s7_b.eq_1 @C.s6_b.eq_1)

def C.bj3_b : LO := [
 X.m 5 0,
 X.o 6 (.eqP 0 true (X.s 5) (.cst (.nilp))),
 X.m 7 6,
 X.t 7 8 (.move (X.s 1)),
 X.t 7 9 (.bin .geq (X.s 8) (X.i 0)),
 X.o 10 (.pick (X.s 7) (X.s 9) (.cst (.bool false))),
 X.m 11 10,
 X.t 11 12 (.move (X.s 1)),
 X.t 11 13 (.move (X.s 0)),
 X.t 11 14 (.nilchk (X.s 13)),
 X.t 11 15 (.fldAddr 0 (X.s 14)),
 X.t 11 16 (.load1 (X.s 15)),
 X.t 11 17 (.len (X.s 16)),
 X.t 11 18 (.bin .lss (X.s 12) (X.s 17)),
 X.o 19 (.pick (X.s 11) (X.s 18) (.cst (.bool false))),
 X.m 4 19]
def C.bj3 : LO := C.bj3_b
def C.bj3_w := pO C.bj3.eq_1
def C.chy : ICode := .keep [0, 1] (.seq (.region C.bj3) .ret)
def C.chy_w := pC C.chy.eq_1
def C.bj2_b : LO := [
 X.o 4 (.move (.cst (.bool false)))]
def C.bj2 : LO := C.bj2_b
def C.bj2_w := pO C.bj2.eq_1
def C.q8 : IFunc := ⟨2, [.slot 4], .seq (.region C.bj2) C.chy⟩
def C.q8_W := aI @C.bj3_w (aI @C.chy_w @C.bj2_w)
def C.q8_B := aI @C.bj3_b.eq_1 @C.bj2_b.eq_1

def C.bfc_b : LO := [
 X.m 42 6,
 X.o 43 (.idxAddr 4 (X.s 42) (X.i 0)),
 X.o 44 (.loadN 4 (X.s 43)),
 X.n (.storeN 4 (X.s 4) (X.s 44)),
 X.o 5 (.move (.cst (.bool true)))]
def C.bfc : LO := C.bfc_b
def C.bfc_w := pO C.bfc.eq_1
def C.ccg : ICode := .keep [4, 6] (.seq (.region C.bfc) .ret)
def C.ccg_w := pC C.ccg.eq_1
def C.bfb_b : LO := [
 X.m 30 0,
 X.o 31 (.nilchk (X.s 30)),
 X.o 32 (.fldAddr 1 (X.s 31)),
 X.o 33 (.load1 (X.s 32)),
 X.m 34 1,
 X.m 35 6,
 X.m 36 6,
 X.o 37 (.len (X.s 36)),
 X.m 38 6,
 X.o 39 (.len (X.s 38)),
 X.o 40 (.slice 4 (X.s 35) (some (X.i 1)) (some (X.s 37)) (some (X.s 39))),
 X.o 41 (.idxAddr 1 (X.s 33) (X.s 34)),
 X.n (.store1 (X.s 41) (X.s 40))]
def C.bfb : LO := C.bfb_b
def C.bfb_w := pO C.bfb.eq_1
def C.cch : ICode := .keep [0, 1, 4, 6] (.seq (.region C.bfb) C.ccg)
def C.cch_w := pC C.cch.eq_1
def C.bd9_b : LO := [
 X.m 23 0,
 X.o 24 (.nilchk (X.s 23)),
 X.o 25 (.fldAddr 1 (X.s 24)),
 X.o 26 (.load1 (X.s 25)),
 X.m 27 1,
 X.o 28 (.idxAddr 1 (X.s 26) (X.s 27)),
 X.o 29 (.load1 (X.s 28)),
 X.m 6 29]
def C.bd9 : LO := C.bd9_b
def C.bd9_w := pO C.bd9.eq_1
def C.ccj : ICode := .keep [0, 1, 4] (.seq (.region C.bd9) C.cch)
def C.ccj_w := pC C.ccj.eq_1
def C.bd8_b : LO := [
 X.o 22 (.build [.int .i64 0, .bool false, .int .i64 0, .int .u32 0] []),
 X.n (.storeN 4 (X.s 4) (X.s 22)),
 X.o 5 (.move (.cst (.bool false)))]
def C.bd8 : LO := C.bd8_b
def C.bd8_w := pO C.bd8.eq_1
def C.cck : ICode := .seq (.region C.bd8) .ret
def C.cck_w := pC C.cck.eq_1
def C.ccl : ICode := .keep [0, 1, 4, 21] (.cond (X.s 21) C.cck .skip)
def C.ccl_w := pC C.ccl.eq_1
def C.bd7_b : LO := [
 X.m 7 0,
 X.m 8 1,
 X.o 9 (.call F.q8 [X.s 7, X.s 8]),
 X.o 10 (.un .not (X.s 9)),
 X.m 11 10,
 X.f 11 12 (.move (X.s 0)),
 X.f 11 13 (.nilchk (X.s 12)),
 X.f 11 14 (.fldAddr 1 (X.s 13)),
 X.f 11 15 (.load1 (X.s 14)),
 X.f 11 16 (.move (X.s 1)),
 X.f 11 17 (.idxAddr 1 (X.s 15) (X.s 16)),
 X.f 11 18 (.load1 (X.s 17)),
 X.f 11 19 (.len (X.s 18)),
 X.f 11 20 (.bin .eql (X.s 19) (X.i 0)),
 X.o 21 (.pick (X.s 11) (.cst (.bool true)) (X.s 20))]
def C.bd7 : LO := C.bd7_b
def C.bd7_w := pO C.bd7.eq_1
def C.ccm : ICode := .keep [0, 1, 4] (.seq (.seq (.region C.bd7) C.ccl) C.ccj)
def C.ccm_w := pC C.ccm.eq_1
def C.c8_b : LO := [
 X.o 4 (.alloc [.int .i64 0, .bool false, .int .i64 0, .int .u32 0]),
 X.o 5 (.move (.cst (.bool false)))]
def C.c8 : LO := C.c8_b
def C.c8_w := pO C.c8.eq_1
def C.q6 : IFunc := ⟨2, [.cellN 4 4, .slot 5], .seq (.region C.c8) C.ccm⟩
def C.q6_W := aI (aI (aI @C.bfc_w (aI @C.ccg_w @C.bfb_w)) (aI @C.cch_w (aI @C.bd9_w @C.ccj_w))) (aI (aI @C.bd8_w (aI @C.cck_w @C.ccl_w)) (aI @C.bd7_w (aI @C.ccm_w @C.c8_w)))
def C.q6_B := aI (aI @C.bfc_b.eq_1 (aI @C.bfb_b.eq_1 @C.bd9_b.eq_1)) (aI @C.bd8_b.eq_1 (aI @C.bd7_b.eq_1 @C.c8_b.eq_1))

def C.r5_b : LO := [
 X.m 14 0,
 X.o 15 (.nilchk (X.s 14)),
 X.o 16 (.fldAddr 1 (X.s 15)),
 X.o 17 (.load1 (X.s 16)),
 X.m 18 1,
 X.o 19 (.idxAddr 1 (X.s 17) (X.s 18)),
 X.o 20 (.load1 (X.s 19)),
 X.m 4 20,
 X.o 5 (.move (X.i 0))]
def C.r5 : LO := C.r5_b
def C.r5_w := pO C.r5.eq_1
def C.b2p : ICode := .keep [0, 1] (.seq (.region C.r5) .ret)
def C.b2p_w := pC C.b2p.eq_1
def C.r4_b : LO := [
 X.o 4 (.move (.cst (.int .u32 0))),
 X.o 5 (.move (X.i 4))]
def C.r4 : LO := C.r4_b
def C.r4_w := pO C.r4.eq_1
def C.b2r : ICode := .seq (.region C.r4) .ret
def C.b2r_w := pC C.b2r.eq_1
def C.b2s : ICode := .keep [0, 1, 13] (.cond (X.s 13) C.b2r .skip)
def C.b2s_w := pC C.b2s.eq_1
def C.r3_b : LO := [
 X.m 6 1,
 X.o 7 (.bin .lss (X.s 6) (X.i 0)),
 X.m 8 7,
 X.f 8 9 (.move (X.s 1)),
 X.f 8 10 (.move (X.s 0)),
 X.f 8 11 (.call F.q109 [X.s 10]),
 X.f 8 12 (.bin .geq (X.s 9) (X.s 11)),
 X.o 13 (.pick (X.s 8) (.cst (.bool true)) (X.s 12))]
def C.r3 : LO := C.r3_b
def C.r3_w := pO C.r3.eq_1
def C.b2t : ICode := .keep [0, 1] (.seq (.seq (.region C.r3) C.b2s) C.b2p)
def C.b2t_w := pC C.b2t.eq_1
def C.r2_b : LO := [
 X.o 4 (.move (.cst (.int .u32 0))),
 X.o 5 (.move (X.i 0))]
def C.r2 : LO := C.r2_b
def C.r2_w := pO C.r2.eq_1
def C.q110 : IFunc := ⟨2, [.slot 4, .slot 5], .seq (.region C.r2) C.b2t⟩
def C.q110_W := aI (aI (aI @C.r5_w @C.b2p_w) (aI @C.r4_w @C.b2r_w)) (aI (aI @C.b2s_w @C.r3_w) (aI @C.b2t_w @C.r2_w))
def C.q110_B := aI (aI @C.r5_b.eq_1 @C.r4_b.eq_1) (aI @C.r3_b.eq_1 @C.r2_b.eq_1)

def C.sv_b : LO := [
 X.o 6 (.move (X.i 0))]
def C.sv : LO := C.sv_b
def C.sv_w := pO C.sv.eq_1
def C.b27 : ICode := .keep [] (.seq (.region C.sv) .ret)
def C.b27_w := pC C.b27.eq_1
def C.ss_b : LO := [
 X.m 15 0,
 X.o 16 (.nilchk (X.s 15)),
 X.o 17 (.fldAddr 1 (X.s 16)),
 X.o 18 (.load1 (X.s 17)),
 X.m 19 1,
 X.m 20 2,
 X.o 21 (.idxAddr 1 (X.s 18) (X.s 19)),
 X.n (.store1 (X.s 21) (X.s 20))]
def C.ss : LO := C.ss_b
def C.ss_w := pO C.ss.eq_1
def C.b28 : ICode := .keep [0, 1, 2] (.seq (.region C.ss) C.b27)
def C.b28_w := pC C.b28.eq_1
def C.sr_b : LO := [
 X.o 6 (.move (X.i 4))]
def C.sr : LO := C.sr_b
def C.sr_w := pO C.sr.eq_1
def C.b29 : ICode := .seq (.region C.sr) .ret
def C.b29_w := pC C.b29.eq_1
def C.b3b : ICode := .keep [0, 1, 2, 14] (.cond (X.s 14) C.b29 .skip)
def C.b3b_w := pC C.b3b.eq_1
def C.sp_b : LO := [
 X.m 7 1,
 X.o 8 (.bin .lss (X.s 7) (X.i 0)),
 X.m 9 8,
 X.f 9 10 (.move (X.s 1)),
 X.f 9 11 (.move (X.s 0)),
 X.f 9 12 (.call F.q109 [X.s 11]),
 X.f 9 13 (.bin .geq (X.s 10) (X.s 12)),
 X.o 14 (.pick (X.s 9) (.cst (.bool true)) (X.s 13))]
def C.sp : LO := C.sp_b
def C.sp_w := pO C.sp.eq_1
def C.b3c : ICode := .keep [0, 1, 2] (.seq (.seq (.region C.sp) C.b3b) C.b28)
def C.b3c_w := pC C.b3c.eq_1
def C.sn_b : LO := [
 X.o 6 (.move (X.i 0))]
def C.sn : LO := C.sn_b
def C.sn_w := pO C.sn.eq_1
def C.q115 : IFunc := ⟨3, [.slot 6], .seq (.region C.sn) C.b3c⟩
def C.q115_W := aI (aI (aI @C.sv_w @C.b27_w) (aI @C.ss_w (aI @C.b28_w @C.sr_w))) (aI (aI @C.b29_w @C.b3b_w) (aI @C.sp_w (aI @C.b3c_w @C.sn_w)))
def C.q115_B := aI (aI @C.sv_b.eq_1 @C.ss_b.eq_1) (aI @C.sr_b.eq_1 (aI @C.sp_b.eq_1 @C.sn_b.eq_1))

def C.xh_b : LO := [
 X.m 19 5,
 X.o 20 (.nilchk (X.s 19)),
 X.o 21 (.fldAddr 0 (X.s 20)),
 X.o 22 (.fldAddr 1 (X.s 21)),
 X.o 23 (.load1 (X.s 22)),
 X.m 24 5,
 X.o 25 (.nilchk (X.s 24)),
 X.o 26 (.fldAddr 8 (X.s 25)),
 X.o 27 (.load1 (X.s 26)),
 X.o 28 (.idxAddr 1 (X.s 23) (X.s 27)),
 X.o 29 (.load1 (X.s 28)),
 X.m 4 29]
def C.xh : LO := C.xh_b
def C.xh_w := pO C.xh.eq_1
def C.b6v : ICode := .keep [5] (.seq (.region C.xh) .ret)
def C.b6v_w := pC C.b6v.eq_1
def C.xg_b : LO := [
 X.o 4 (.move (X.i (-1)))]
def C.xg : LO := C.xg_b
def C.xg_w := pO C.xg.eq_1
def C.b6w : ICode := .seq (.region C.xg) .ret
def C.b6w_w := pC C.b6w.eq_1
def C.b6x : ICode := .keep [5, 18] (.cond (X.s 18) C.b6w .skip)
def C.b6x_w := pC C.b6x.eq_1
def C.xf_b : LO := [
 X.m 12 5,
 X.o 13 (.nilchk (X.s 12)),
 X.o 14 (.fldAddr 0 (X.s 13)),
 X.o 15 (.fldAddr 1 (X.s 14)),
 X.o 16 (.load1 (X.s 15)),
 X.o 17 (.len (X.s 16)),
 X.o 18 (.bin .eql (X.s 17) (X.i 0))]
def C.xf : LO := C.xf_b
def C.xf_w := pO C.xf.eq_1
def C.b6y : ICode := .keep [5] (.seq (.seq (.region C.xf) C.b6x) C.b6v)
def C.b6y_w := pC C.b6y.eq_1
def C.xd_b : LO := [
 X.m 6 0,
 X.o 7 (.nilchk (X.s 6)),
 X.o 8 (.fldAddr 0 (X.s 7)),
 X.o 9 (.load1 (X.s 8)),
 X.m 10 1,
 X.o 11 (.idxAddr 11 (X.s 9) (X.s 10)),
 X.m 5 11]
def C.xd : LO := C.xd_b
def C.xd_w := pO C.xd.eq_1
def C.b6q : ICode := .keep [0, 1] (.seq (.region C.xd) C.b6y)
def C.b6q_w := pC C.b6q.eq_1
def C.xc_b : LO := [
 X.o 4 (.move (X.i 0))]
def C.xc : LO := C.xc_b
def C.xc_w := pO C.xc.eq_1
def C.q24 : IFunc := ⟨2, [.slot 4], .seq (.region C.xc) C.b6q⟩
def C.q24_W := aI (aI (aI @C.xh_w @C.b6v_w) (aI @C.xg_w (aI @C.b6w_w @C.b6x_w))) (aI (aI @C.xf_w @C.b6y_w) (aI @C.xd_w (aI @C.b6q_w @C.xc_w)))
def C.q24_B := aI (aI @C.xh_b.eq_1 @C.xg_b.eq_1) (aI @C.xf_b.eq_1 (aI @C.xd_b.eq_1 @C.xc_b.eq_1))

def C.pq_b : LO := [
 X.o 2 (.move (.cst (.int .u8 0)))]
def C.pq : LO := C.pq_b
def C.pq_w := pO C.pq.eq_1
def C.b00 : ICode := .keep [] (.seq (.region C.pq) .ret)
def C.b00_w := pC C.b00.eq_1
def C.p6_b : LO := [
 X.o 2 (.move (.cst (.int .u8 110)))]
def C.p6 : LO := C.p6_b
def C.p6_w := pO C.p6.eq_1
def C.b1c : ICode := .keep [] (.seq (.region C.p6) .ret)
def C.b1c_w := pC C.b1c.eq_1
def C.p5_b : LO := [
 X.o 2 (.move (.cst (.int .u8 114)))]
def C.p5 : LO := C.p5_b
def C.p5_w := pO C.p5.eq_1
def C.b1l : ICode := .seq (.region C.p5) .ret
def C.b1l_w := pC C.b1l.eq_1
def C.b1m : ICode := .keep [27] (.cond (X.s 27) C.b1l .skip)
def C.b1m_w := pC C.b1m.eq_1
def C.p4_b : LO := [
 X.m 24 0,
 X.o 25 (.nilchk (X.s 24)),
 X.o 26 (.fldAddr 5 (X.s 25)),
 X.o 27 (.load1 (X.s 26))]
def C.p4 : LO := C.p4_b
def C.p4_w := pO C.p4.eq_1
def C.b1n : ICode := .keep [0] (.seq (.seq (.region C.p4) C.b1m) C.b1c)
def C.b1n_w := pC C.b1n.eq_1
def C.p3_b : LO := [
 X.m 21 0,
 X.o 22 (.nilchk (X.s 21)),
 X.o 23 (.fldAddr 3 (X.s 22)),
 X.n (.store1 (X.s 23) (.cst (.int .u8 104)))]
def C.p3 : LO := C.p3_b
def C.p3_w := pO C.p3.eq_1
def C.b1p : ICode := .keep [0] (.seq (.region C.p3) C.b1n)
def C.b1p_w := pC C.b1p.eq_1
def C.p2_b : LO := [
 X.o 2 (.move (.cst (.int .u8 0)))]
def C.p2 : LO := C.p2_b
def C.p2_w := pO C.p2.eq_1
def C.b1r : ICode := .keep [] (.seq (.region C.p2) .ret)
def C.b1r_w := pC C.b1r.eq_1
def C.p1_b : LO := [
 X.m 14 0,
 X.o 15 (.nilchk (X.s 14)),
 X.o 16 (.fldAddr 4 (X.s 15)),
 X.o 17 (.load1 (X.s 16)),
 X.o 18 (.bin .sub (X.s 17) (X.i 1)),
 X.o 19 (.nilchk (X.s 14)),
 X.o 20 (.fldAddr 4 (X.s 19)),
 X.n (.store1 (X.s 20) (X.s 18))]
def C.p1 : LO := C.p1_b
def C.p1_w := pO C.p1.eq_1
def C.b1s : ICode := .seq (.region C.p1) C.b1r
def C.b1s_w := pC C.b1s.eq_1
def C.b1t : ICode := .keep [0, 13] (.cond (X.s 13) C.b1s .skip)
def C.b1t_w := pC C.b1t.eq_1
def C.p0_b : LO := [
 X.m 9 0,
 X.o 10 (.nilchk (X.s 9)),
 X.o 11 (.fldAddr 4 (X.s 10)),
 X.o 12 (.load1 (X.s 11)),
 X.o 13 (.bin .gtr (X.s 12) (X.i 0))]
def C.p0 : LO := C.p0_b
def C.p0_w := pO C.p0.eq_1
def C.pr_b : LO := [
 X.o 2 (.move (.cst (.int .u8 111)))]
def C.pr : LO := C.pr_b
def C.pr_w := pO C.pr.eq_1
def C.b01 : ICode := .keep [] (.seq (.region C.pr) .ret)
def C.b01_w := pC C.b01.eq_1
def C.pp_b : LO := [
 X.m 30 0,
 X.o 31 (.nilchk (X.s 30)),
 X.o 32 (.fldAddr 3 (X.s 31)),
 X.n (.store1 (X.s 32) (.cst (.int .u8 49)))]
def C.pp : LO := C.pp_b
def C.pp_w := pO C.pp.eq_1
def C.py_b : LO := [
 X.o 2 (.move (.cst (.int .u8 108)))]
def C.py : LO := C.py_b
def C.py_w := pO C.py.eq_1
def C.b02 : ICode := .keep [] (.seq (.region C.py) .ret)
def C.b02_w := pC C.b02.eq_1
def C.px_b : LO := [
 X.m 42 0,
 X.o 43 (.nilchk (X.s 42)),
 X.o 44 (.fldAddr 3 (X.s 43)),
 X.n (.store1 (X.s 44) (.cst (.int .u8 48)))]
def C.px : LO := C.px_b
def C.px_w := pO C.px.eq_1
def C.b03 : ICode := .keep [0] (.seq (.region C.px) C.b02)
def C.b03_w := pC C.b03.eq_1
def C.pw_b : LO := [
 X.o 2 (.move (.cst (.int .u8 115)))]
def C.pw : LO := C.pw_b
def C.pw_w := pO C.pw.eq_1
def C.b04 : ICode := .keep [] (.seq (.region C.pw) .ret)
def C.b04_w := pC C.b04.eq_1
def C.pv_b : LO := [
 X.m 39 0,
 X.o 40 (.nilchk (X.s 39)),
 X.o 41 (.fldAddr 3 (X.s 40)),
 X.n (.store1 (X.s 41) (.cst (.int .u8 116)))]
def C.pv : LO := C.pv_b
def C.pv_w := pO C.pv.eq_1
def C.b05 : ICode := .seq (.region C.pv) C.b04
def C.b05_w := pC C.b05.eq_1
def C.b06 : ICode := .keep [0, 38] (.cond (X.s 38) C.b05 .skip)
def C.b06_w := pC C.b06.eq_1
def C.pt_b : LO := [
 X.m 35 0,
 X.o 36 (.nilchk (X.s 35)),
 X.o 37 (.fldAddr 6 (X.s 36)),
 X.o 38 (.load1 (X.s 37))]
def C.pt : LO := C.pt_b
def C.pt_w := pO C.pt.eq_1
def C.b07 : ICode := .seq (.seq (.region C.pt) C.b06) C.b03
def C.b07_w := pC C.b07.eq_1
def C.b08 : ICode := .keep [0, 33] (.cond (X.s 33) C.b07 .skip)
def C.b08_w := pC C.b08.eq_1
def C.ps_b : LO := [
 X.o 34 (.bin .eql (X.s 6) (.cst (.int .u8 99))),
 X.m 33 34]
def C.ps : LO := C.ps_b
def C.ps_w := pO C.ps.eq_1
def C.b09 : ICode := .seq (.region C.pp) C.b01
def C.b09_w := pC C.b09.eq_1
def C.b1b : ICode := .seq (.region C.ps) C.b08
def C.b1b_w := pC C.b1b.eq_1
def C.b1d : ICode := .keep [0, 6, 28] (.cond (X.s 28) C.b09 C.b1b)
def C.b1d_w := pC C.b1d.eq_1
def C.pn_b : LO := [
 X.o 29 (.bin .eql (X.s 6) (.cst (.int .u8 104))),
 X.m 28 29]
def C.pn : LO := C.pn_b
def C.pn_w := pO C.pn.eq_1
def C.b1f : ICode := .seq (.seq (.region C.p0) C.b1t) C.b1p
def C.b1f_w := pC C.b1f.eq_1
def C.b1g : ICode := .seq (.region C.pn) C.b1d
def C.b1g_w := pC C.b1g.eq_1
def C.b1h : ICode := .keep [0, 6, 7] (.cond (X.s 7) C.b1f C.b1g)
def C.b1h_w := pC C.b1h.eq_1
def C.pz_b : LO := [
 X.o 8 (.bin .eql (X.s 6) (.cst (.int .u8 114))),
 X.m 7 8]
def C.pz : LO := C.pz_b
def C.pz_w := pO C.pz.eq_1
def C.b0z : ICode := .seq (.region C.pz) C.b1h
def C.b0z_w := pC C.b0z.eq_1
def C.b1j : ICode := .keep [0, 6] (.block 0 C.b0z)
def C.b1j_w := pC C.b1j.eq_1
def C.pm_b : LO := [
 X.m 3 0,
 X.o 4 (.nilchk (X.s 3)),
 X.o 5 (.fldAddr 3 (X.s 4)),
 X.o 6 (.load1 (X.s 5))]
def C.pm : LO := C.pm_b
def C.pm_w := pO C.pm.eq_1
def C.b1k : ICode := .keep [0] (.seq (.seq (.region C.pm) C.b1j) C.b00)
def C.b1k_w := pC C.b1k.eq_1
def C.pl_b : LO := [
 X.o 2 (.move (.cst (.int .u8 0)))]
def C.pl : LO := C.pl_b
def C.pl_w := pO C.pl.eq_1
def C.q103 : IFunc := ⟨1, [.slot 2], .seq (.region C.pl) C.b1k⟩
def C.q103_W := aI (aI (aI (aI (aI @C.pq_w @C.b00_w) (aI @C.p6_w (aI @C.b1c_w @C.p5_w))) (aI (aI @C.b1l_w (aI @C.b1m_w @C.p4_w)) (aI @C.b1n_w (aI @C.p3_w @C.b1p_w)))) (aI (aI (aI @C.p2_w (aI @C.b1r_w @C.p1_w)) (aI @C.b1s_w (aI @C.b1t_w @C.p0_w))) (aI (aI @C.pr_w (aI @C.b01_w @C.pp_w)) (aI @C.py_w (aI @C.b02_w @C.px_w))))) (aI (aI (aI (aI @C.b03_w @C.pw_w) (aI @C.b04_w (aI @C.pv_w @C.b05_w))) (aI (aI @C.b06_w (aI @C.pt_w @C.b07_w)) (aI @C.b08_w (aI @C.ps_w @C.b09_w)))) (aI (aI (aI @C.b1b_w (aI @C.b1d_w @C.pn_w)) (aI @C.b1f_w (aI @C.b1g_w @C.b1h_w))) (aI (aI @C.pz_w (aI @C.b0z_w @C.b1j_w)) (aI @C.pm_w (aI @C.b1k_w @C.pl_w)))))
def C.q103_B := aI (aI (aI (aI @C.pq_b.eq_1 @C.p6_b.eq_1) (aI @C.p5_b.eq_1 (aI @C.p4_b.eq_1 @C.p3_b.eq_1))) (aI (aI @C.p2_b.eq_1 @C.p1_b.eq_1) (aI @C.p0_b.eq_1 (aI @C.pr_b.eq_1 @C.pp_b.eq_1)))) (aI (aI (aI @C.py_b.eq_1 @C.px_b.eq_1) (aI @C.pw_b.eq_1 (aI @C.pv_b.eq_1 @C.pt_b.eq_1))) (aI (aI @C.ps_b.eq_1 @C.pn_b.eq_1) (aI @C.pz_b.eq_1 (aI @C.pm_b.eq_1 @C.pl_b.eq_1))))

def C.sj_b : LO := [
 X.o 7 (.load1 (X.s 1)),
 X.o 8 (.nilchk (X.s 7)),
 X.o 9 (.fldAddr 3 (X.s 8)),
 X.n (.store1 (X.s 9) (.cst (.bool true)))]
def C.sj : LO := C.sj_b
def C.sj_w := pO C.sj.eq_1
def C.b21 : ICode := .keep [1] (.region C.sj)
def C.b21_w := pC C.b21.eq_1
def C.sh_b : LO := [
 X.o 4 (.load1 (X.s 1)),
 X.o 5 (.makeFunc F.q114 [X.s 1]),
 X.o 6 (.call F.q118 [X.s 4, X.s 5])]
def C.sh : LO := C.sh_b
def C.sh_w := pO C.sh.eq_1
def C.b22 : ICode := .keep [1] (.seq (.region C.sh) C.b21)
def C.b22_w := pC C.b22.eq_1
def C.b23 : ICode := .keep [1, 3] (.cond (X.s 3) .ret .skip)
def C.b23_w := pC C.b23.eq_1
def C.sg_b : LO := [
 X.o 2 (.load1 (X.s 1)),
 X.o 3 (.eqP 0 false (X.s 2) (.cst (.nilp)))]
def C.sg : LO := C.sg_b
def C.sg_w := pO C.sg.eq_1
def C.b24 : ICode := .keep [1] (.seq (.seq (.region C.sg) C.b23) C.b22)
def C.b24_w := pC C.b24.eq_1
def C.sf_b : LO := [
 X.o 1 (.box1 (X.s 0))]
def C.sf : LO := C.sf_b
def C.sf_w := pO C.sf.eq_1
def C.q113 : IFunc := ⟨1, [], .seq (.region C.sf) C.b24⟩
def C.q113_W := aI (aI (aI @C.sj_w @C.b21_w) (aI @C.sh_w @C.b22_w)) (aI (aI @C.b23_w @C.sg_w) (aI @C.b24_w @C.sf_w))
def C.q113_B := aI (aI @C.sj_b.eq_1 @C.sh_b.eq_1) (aI @C.sg_b.eq_1 @C.sf_b.eq_1)

def C.r8_b : LO := [
 X.o 4 (.load1 (X.s 1)),
 X.o 5 (.makeFunc F.q112 [X.s 1]),
 X.o 6 (.call F.q116 [X.s 4, X.s 5])]
def C.r8 : LO := C.r8_b
def C.r8_w := pO C.r8.eq_1
def C.b2v : ICode := .keep [1] (.region C.r8)
def C.b2v_w := pC C.b2v.eq_1
def C.b2w : ICode := .keep [1, 3] (.cond (X.s 3) .ret .skip)
def C.b2w_w := pC C.b2w.eq_1
def C.r7_b : LO := [
 X.o 2 (.load1 (X.s 1)),
 X.o 3 (.eqP 0 false (X.s 2) (.cst (.nilp)))]
def C.r7 : LO := C.r7_b
def C.r7_w := pO C.r7.eq_1
def C.b2x : ICode := .keep [1] (.seq (.seq (.region C.r7) C.b2w) C.b2v)
def C.b2x_w := pC C.b2x.eq_1
def C.r6_b : LO := [
 X.o 1 (.box1 (X.s 0))]
def C.r6 : LO := C.r6_b
def C.r6_w := pO C.r6.eq_1
def C.q111 : IFunc := ⟨1, [], .seq (.region C.r6) C.b2x⟩
def C.q111_W := aI (aI @C.r8_w (aI @C.b2v_w @C.b2w_w)) (aI @C.r7_w (aI @C.b2x_w @C.r6_w))
def C.q111_B := aI @C.r8_b.eq_1 (aI @C.r7_b.eq_1 @C.r6_b.eq_1)

def C.xb_b : LO := [
 X.m 20 0,
 X.o 21 (.nilchk (X.s 20)),
 X.o 22 (.fldAddr 0 (X.s 21)),
 X.o 23 (.load1 (X.s 22)),
 X.m 24 1,
 X.o 25 (.idxAddr 11 (X.s 23) (X.s 24)),
 X.m 4 25]
def C.xb : LO := C.xb_b
def C.xb_w := pO C.xb.eq_1
def C.b6p : ICode := .keep [0, 1] (.seq (.region C.xb) .ret)
def C.b6p_w := pC C.b6p.eq_1
def C.w9_b : LO := [
 X.o 4 (.move (.cst (.nilp)))]
def C.w9 : LO := C.w9_b
def C.w9_w := pO C.w9.eq_1
def C.b6r : ICode := .seq (.region C.w9) .ret
def C.b6r_w := pC C.b6r.eq_1
def C.b6s : ICode := .keep [0, 1, 19] (.cond (X.s 19) C.b6r .skip)
def C.b6s_w := pC C.b6s.eq_1
def C.w8_b : LO := [
 X.m 5 0,
 X.o 6 (.eqP 0 false (X.s 5) (.cst (.nilp))),
 X.m 7 6,
 X.f 7 8 (.move (X.s 1)),
 X.f 7 9 (.bin .lss (X.s 8) (X.i 0)),
 X.o 10 (.pick (X.s 7) (.cst (.bool true)) (X.s 9)),
 X.m 11 10,
 X.f 11 12 (.move (X.s 1)),
 X.f 11 13 (.move (X.s 0)),
 X.f 11 14 (.nilchk (X.s 13)),
 X.f 11 15 (.fldAddr 0 (X.s 14)),
 X.f 11 16 (.load1 (X.s 15)),
 X.f 11 17 (.len (X.s 16)),
 X.f 11 18 (.bin .geq (X.s 12) (X.s 17)),
 X.o 19 (.pick (X.s 11) (.cst (.bool true)) (X.s 18))]
def C.w8 : LO := C.w8_b
def C.w8_w := pO C.w8.eq_1
def C.b6t : ICode := .keep [0, 1] (.seq (.seq (.region C.w8) C.b6s) C.b6p)
def C.b6t_w := pC C.b6t.eq_1
def C.w7_b : LO := [
 X.o 4 (.move (.cst (.nilp)))]
def C.w7 : LO := C.w7_b
def C.w7_w := pO C.w7.eq_1
def C.q23 : IFunc := ⟨2, [.slot 4], .seq (.region C.w7) C.b6t⟩
def C.q23_W := aI (aI (aI @C.xb_w @C.b6p_w) (aI @C.w9_w @C.b6r_w)) (aI (aI @C.b6s_w @C.w8_w) (aI @C.b6t_w @C.w7_w))
def C.q23_B := aI (aI @C.xb_b.eq_1 @C.w9_b.eq_1) (aI @C.w8_b.eq_1 @C.w7_b.eq_1)

def C.t2_b : LO := [
 X.m 10 2,
 X.o 11 (.bin .add (X.s 10) (X.i 1)),
 X.m 12 3,
 X.o 13 (.bin .sub (X.s 12) (X.i 1)),
 X.m 2 11,
 X.m 3 13]
def C.t2 : LO := C.t2_b
def C.t2_w := pO C.t2.eq_1
def C.b4n : ICode := .keep [0, 2, 3] (.region C.t2)
def C.b4n_w := pC C.b4n.eq_1
def C.t3_b : LO := [
 X.m 14 0,
 X.m 15 2,
 X.m 16 0,
 X.m 17 3,
 X.m 18 0,
 X.m 19 3,
 X.o 20 (.idxAddr 1 (X.s 18) (X.s 19)),
 X.o 21 (.load1 (X.s 20)),
 X.m 22 0,
 X.m 23 2,
 X.o 24 (.idxAddr 1 (X.s 22) (X.s 23)),
 X.o 25 (.load1 (X.s 24)),
 X.o 26 (.idxAddr 1 (X.s 14) (X.s 15)),
 X.n (.store1 (X.s 26) (X.s 21)),
 X.o 27 (.idxAddr 1 (X.s 16) (X.s 17)),
 X.n (.store1 (X.s 27) (X.s 25))]
def C.t3 : LO := C.t3_b
def C.t3_w := pO C.t3.eq_1
def C.b4l : ICode := .region C.t3
def C.b4l_w := pC C.b4l.eq_1
def C.b4p : ICode := .keep [0, 2, 3] (.seq (.block 1 C.b4l) C.b4n)
def C.b4p_w := pC C.b4p.eq_1
def C.b4r : ICode := .keep [0, 2, 3, 9] (.cond (X.s 9) .skip (.exit 0))
def C.b4r_w := pC C.b4r.eq_1
def C.t1_b : LO := [
 X.m 7 2,
 X.m 8 3,
 X.o 9 (.bin .lss (X.s 7) (X.s 8))]
def C.t1 : LO := C.t1_b
def C.t1_w := pO C.t1.eq_1
def C.ckp : ICode := .keep [0, 2, 3] (.seq (.seq (.region C.t1) C.b4r) C.b4p)
def C.ckp_w := pC C.ckp.eq_1
def C.b4m : ICode := .loop C.ckp
def C.b4m_w := pC C.b4m.eq_1
def C.b4s : ICode := .keep [0, 2, 3] (.block 0 C.b4m)
def C.b4s_w := pC C.b4s.eq_1
def C.t0_b : LO := [
 X.m 4 0,
 X.o 5 (.len (X.s 4)),
 X.o 6 (.bin .sub (X.s 5) (X.i 1)),
 X.o 2 (.move (X.i 0)),
 X.m 3 6]
def C.t0 : LO := C.t0_b
def C.t0_w := pO C.t0.eq_1
def C.q126 : IFunc := ⟨1, [], .seq (.region C.t0) C.b4s⟩
def C.q126_W := aI (aI (aI @C.t2_w @C.b4n_w) (aI @C.t3_w (aI @C.b4l_w @C.b4p_w))) (aI (aI @C.b4r_w @C.t1_w) (aI @C.b4m_w (aI @C.b4s_w @C.t0_w)))
def C.q126_B := aI (aI @C.t2_b.eq_1 @C.t3_b.eq_1) (aI @C.t1_b.eq_1 @C.t0_b.eq_1)

def C.w3_b : LO := [
 X.o 52 (.load1 (X.s 2)),
 X.o 53 (.load1 (X.s 1)),
 X.m 54 0,
 ⟨some 55, .call F.q24 [X.s 53, X.s 54], none, [⟨.load1 (X.s 2), 52, none⟩], []⟩,
 X.o 56 (.callv (X.s 52) [X.s 55]),
 X.m 4 56]
def C.w3 : LO := C.w3_b
def C.w3_w := pO C.w3.eq_1
def C.b59 : ICode := .keep [0, 1, 2] (.seq (.region C.w3) .ret)
def C.b59_w := pC C.b59.eq_1
def C.wq_b : LO := [
 X.o 4 (.move (.cst (.bool true)))]
def C.wq : LO := C.wq_b
def C.wq_w := pO C.wq.eq_1
def C.w0_b : LO := [
 X.m 21 5,
 X.o 22 (.nilchk (X.s 21)),
 X.o 23 (.fldAddr 6 (X.s 22)),
 X.o 24 (.load1 (X.s 23)),
 X.m 25 24,
 X.t 25 26 (.move (X.s 5)),
 X.t 25 27 (.nilchk (X.s 26)),
 X.t 25 28 (.fldAddr 7 (X.s 27)),
 X.t 25 29 (.load1 (X.s 28)),
 X.t 25 30 (.bin .eql (X.s 29) (X.i 0)),
 X.o 31 (.pick (X.s 25) (X.s 30) (.cst (.bool false))),
 X.m 32 31,
 X.t 32 33 (.load1 (X.s 2)),
 X.t 32 34 (.load1 (X.s 1)),
 X.t 32 35 (.move (X.s 0)),
 ⟨some 36, .call F.q24 [X.s 34, X.s 35], some (32, true), [⟨.load1 (X.s 2), 33, some (32, true)⟩], []⟩,
 X.t 32 37 (.callv (X.s 33) [X.s 36]),
 X.o 38 (.pick (X.s 32) (X.s 37) (.cst (.bool false))),
 X.m 4 38]
def C.w0 : LO := C.w0_b
def C.w0_w := pO C.w0.eq_1
def C.w2_b : LO := [
 X.m 41 5,
 X.o 42 (.nilchk (X.s 41)),
 X.o 43 (.fldAddr 6 (X.s 42)),
 X.o 44 (.load1 (X.s 43)),
 X.m 45 44,
 X.t 45 46 (.load1 (X.s 2)),
 X.t 45 47 (.load1 (X.s 1)),
 X.t 45 48 (.move (X.s 0)),
 ⟨some 49, .call F.q24 [X.s 47, X.s 48], some (45, true), [⟨.load1 (X.s 2), 46, some (45, true)⟩], []⟩,
 X.t 45 50 (.callv (X.s 46) [X.s 49]),
 X.o 51 (.pick (X.s 45) (X.s 50) (.cst (.bool false))),
 X.m 4 51]
def C.w2 : LO := C.w2_b
def C.w2_w := pO C.w2.eq_1
def C.b6f : ICode := .seq (.region C.w2) .ret
def C.b6f_w := pC C.b6f.eq_1
def C.b6g : ICode := .keep [0, 1, 2, 5, 39] (.cond (X.s 39) C.b6f .skip)
def C.b6g_w := pC C.b6g.eq_1
def C.w1_b : LO := [
 X.o 40 (.bin .eql (X.s 16) (.cst (.int .u8 103))),
 X.m 39 40]
def C.w1 : LO := C.w1_b
def C.w1_w := pO C.w1.eq_1
def C.b6h : ICode := .seq (.region C.w0) .ret
def C.b6h_w := pC C.b6h.eq_1
def C.b6j : ICode := .seq (.region C.w1) C.b6g
def C.b6j_w := pC C.b6j.eq_1
def C.b6k : ICode := .keep [0, 1, 2, 5, 16, 19] (.cond (X.s 19) C.b6h C.b6j)
def C.b6k_w := pC C.b6k.eq_1
def C.wz_b : LO := [
 X.o 20 (.bin .eql (X.s 16) (.cst (.int .u8 112))),
 X.m 19 20]
def C.wz : LO := C.wz_b
def C.wz_w := pO C.wz.eq_1
def C.b6l : ICode := .seq (.region C.wq) .ret
def C.b6l_w := pC C.b6l.eq_1
def C.b6m : ICode := .seq (.region C.wz) C.b6k
def C.b6m_w := pC C.b6m.eq_1
def C.b6n : ICode := .keep [0, 1, 2, 5, 16, 17] (.cond (X.s 17) C.b6l C.b6m)
def C.b6n_w := pC C.b6n.eq_1
def C.wy_b : LO := [
 X.o 18 (.bin .eql (X.s 16) (.cst (.int .u8 111))),
 X.m 17 18]
def C.wy : LO := C.wy_b
def C.wy_w := pO C.wy.eq_1
def C.b58 : ICode := .seq (.region C.wy) C.b6n
def C.b58_w := pC C.b58.eq_1
def C.b6b : ICode := .keep [0, 1, 2, 5, 16] (.block 0 C.b58)
def C.b6b_w := pC C.b6b.eq_1
def C.wx_b : LO := [
 X.m 12 5,
 X.o 13 (.nilchk (X.s 12)),
 X.o 14 (.fldAddr 0 (X.s 13)),
 X.o 15 (.fldAddr 0 (X.s 14)),
 X.o 16 (.load1 (X.s 15))]
def C.wx : LO := C.wx_b
def C.wx_w := pO C.wx.eq_1
def C.b6c : ICode := .keep [0, 1, 2, 5] (.seq (.seq (.region C.wx) C.b6b) C.b59)
def C.b6c_w := pC C.b6c.eq_1
def C.ww_b : LO := [
 X.o 6 (.load1 (X.s 1)),
 X.o 7 (.nilchk (X.s 6)),
 X.o 8 (.fldAddr 0 (X.s 7)),
 X.o 9 (.load1 (X.s 8)),
 X.m 10 0,
 X.o 11 (.idxAddr 11 (X.s 9) (X.s 10)),
 X.m 5 11]
def C.ww : LO := C.ww_b
def C.ww_w := pO C.ww.eq_1
def C.b6d : ICode := .keep [0, 1, 2] (.seq (.region C.ww) C.b6c)
def C.b6d_w := pC C.b6d.eq_1
def C.wv_b : LO := [
 X.o 4 (.move (.cst (.bool false)))]
def C.wv : LO := C.wv_b
def C.wv_w := pO C.wv.eq_1
def C.q21 : IFunc := ⟨3, [.slot 4], .seq (.region C.wv) C.b6d⟩
def C.q21_W := aI (aI (aI (aI @C.w3_w @C.b59_w) (aI @C.wq_w (aI @C.w0_w @C.w2_w))) (aI (aI @C.b6f_w (aI @C.b6g_w @C.w1_w)) (aI @C.b6h_w (aI @C.b6j_w @C.b6k_w)))) (aI (aI (aI @C.wz_w (aI @C.b6l_w @C.b6m_w)) (aI @C.b6n_w (aI @C.wy_w @C.b58_w))) (aI (aI @C.b6b_w (aI @C.wx_w @C.b6c_w)) (aI @C.ww_w (aI @C.b6d_w @C.wv_w))))
def C.q21_B := aI (aI (aI @C.w3_b.eq_1 @C.wq_b.eq_1) (aI @C.w0_b.eq_1 (aI @C.w2_b.eq_1 @C.w1_b.eq_1))) (aI (aI @C.wz_b.eq_1 @C.wy_b.eq_1) (aI @C.wx_b.eq_1 (aI @C.ww_b.eq_1 @C.wv_b.eq_1)))

def C.pg_b : LO := [
 X.m 20 0,
 X.o 21 (.nilchk (X.s 20)),
 X.o 22 (.fldAddr 0 (X.s 21)),
 X.o 23 (.load1 (X.s 22)),
 X.m 24 1,
 X.o 25 (.idxAddr 7 (X.s 23) (X.s 24)),
 X.m 4 25]
def C.pg : LO := C.pg_b
def C.pg_w := pO C.pg.eq_1
def C.b0t : ICode := .keep [0, 1] (.seq (.region C.pg) .ret)
def C.b0t_w := pC C.b0t.eq_1
def C.pf_b : LO := [
 X.o 4 (.move (.cst (.nilp)))]
def C.pf : LO := C.pf_b
def C.pf_w := pO C.pf.eq_1
def C.b0v : ICode := .seq (.region C.pf) .ret
def C.b0v_w := pC C.b0v.eq_1
def C.b0w : ICode := .keep [0, 1, 19] (.cond (X.s 19) C.b0v .skip)
def C.b0w_w := pC C.b0w.eq_1
def C.pd_b : LO := [
 X.m 5 0,
 X.o 6 (.eqP 0 false (X.s 5) (.cst (.nilp))),
 X.m 7 6,
 X.f 7 8 (.move (X.s 1)),
 X.f 7 9 (.bin .lss (X.s 8) (X.i 0)),
 X.o 10 (.pick (X.s 7) (.cst (.bool true)) (X.s 9)),
 X.m 11 10,
 X.f 11 12 (.move (X.s 1)),
 X.f 11 13 (.move (X.s 0)),
 X.f 11 14 (.nilchk (X.s 13)),
 X.f 11 15 (.fldAddr 0 (X.s 14)),
 X.f 11 16 (.load1 (X.s 15)),
 X.f 11 17 (.len (X.s 16)),
 X.f 11 18 (.bin .geq (X.s 12) (X.s 17)),
 X.o 19 (.pick (X.s 11) (.cst (.bool true)) (X.s 18))]
def C.pd : LO := C.pd_b
def C.pd_w := pO C.pd.eq_1
def C.b0x : ICode := .keep [0, 1] (.seq (.seq (.region C.pd) C.b0w) C.b0t)
def C.b0x_w := pC C.b0x.eq_1
def C.pc_b : LO := [
 X.o 4 (.move (.cst (.nilp)))]
def C.pc : LO := C.pc_b
def C.pc_w := pO C.pc.eq_1
def C.q100 : IFunc := ⟨2, [.slot 4], .seq (.region C.pc) C.b0x⟩
def C.q100_W := aI (aI (aI @C.pg_w @C.b0t_w) (aI @C.pf_w @C.b0v_w)) (aI (aI @C.b0w_w @C.pd_w) (aI @C.b0x_w @C.pc_w))
def C.q100_B := aI (aI @C.pg_b.eq_1 @C.pf_b.eq_1) (aI @C.pd_b.eq_1 @C.pc_b.eq_1)

def C.tv_b : LO := [
 X.o 20 (.loadN 4 (X.s 6)),
 X.m 21 7,
 X.n (.storeN 4 (X.s 4) (X.s 20)),
 X.m 5 21]
def C.tv : LO := C.tv_b
def C.tv_w := pO C.tv.eq_1
def C.tt : ICode := .keep [4, 6, 7] (.seq (.region C.tv) .ret)
def C.tt_w := pC C.tt.eq_1
def C.f8_b : LO := [
 X.m 12 0,
 X.o 13 (.nilchk (X.s 12)),
 X.o 14 (.fldAddr 0 (X.s 13)),
 X.o 15 (.load1 (X.s 14)),
 X.m 16 1,
 X.o 17 (.lookup (.agg [.int .i64 0, .int .i64 0, .bool false, .bool false]) true (X.s 15) (X.s 16)),
 X.m 11 17,
 X.o 18 (.extract (X.s 11) 0),
 X.o 19 (.extract (X.s 11) 1),
 X.o 6 (.alloc [.int .i64 0, .int .i64 0, .bool false, .bool false]),
 X.n (.storeN 4 (X.s 6) (X.s 18)),
 X.m 7 19]
def C.f8 : LO := C.f8_b
def C.f8_w := pO C.f8.eq_1
def C.bnn : ICode := .keep [0, 1, 4] (.seq (.region C.f8) C.tt)
def C.bnn_w := pC C.bnn.eq_1
def C.f7_b : LO := [
 X.o 10 (.build [.int .i64 0, .int .i64 0, .bool false, .bool false] []),
 X.n (.storeN 4 (X.s 4) (X.s 10)),
 X.o 5 (.move (.cst (.bool false)))]
def C.f7 : LO := C.f7_b
def C.f7_w := pO C.f7.eq_1
def C.bnp : ICode := .seq (.region C.f7) .ret
def C.bnp_w := pC C.bnp.eq_1
def C.bnr : ICode := .keep [0, 1, 4, 9] (.cond (X.s 9) C.bnp .skip)
def C.bnr_w := pC C.bnr.eq_1
def C.f6_b : LO := [
 X.m 8 0,
 X.o 9 (.eqP 0 false (X.s 8) (.cst (.nilp)))]
def C.f6 : LO := C.f6_b
def C.f6_w := pO C.f6.eq_1
def C.bns : ICode := .keep [0, 1, 4] (.seq (.seq (.region C.f6) C.bnr) C.bnn)
def C.bns_w := pC C.bns.eq_1
def C.bj_b : LO := [
 X.o 4 (.alloc [.int .i64 0, .int .i64 0, .bool false, .bool false]),
 X.o 5 (.move (.cst (.bool false)))]
def C.bj : LO := C.bj_b
def C.bj_w := pO C.bj.eq_1
def C.q123 : IFunc := ⟨2, [.cellN 4 4, .slot 5], .seq (.region C.bj) C.bns⟩
def C.q123_W := aI (aI (aI @C.tv_w @C.tt_w) (aI @C.f8_w (aI @C.bnn_w @C.f7_w))) (aI (aI @C.bnp_w @C.bnr_w) (aI @C.f6_w (aI @C.bns_w @C.bj_w)))
def C.q123_B := aI (aI @C.tv_b.eq_1 @C.f8_b.eq_1) (aI @C.f7_b.eq_1 (aI @C.f6_b.eq_1 @C.bj_b.eq_1))

def C.bdl_b : LO := [
 X.o 3 (.fldAddr 4 (X.s 1)),
 X.o 4 (.load1 (X.s 3)),
 X.o 5 (.len (X.s 4)),
 X.o 6 (.bin .gtr (X.s 5) (X.i 8)),
 X.m 7 6,
 X.f 7 8 (.fldAddr 5 (X.s 1)),
 X.f 7 9 (.load1 (X.s 8)),
 X.f 7 10 (.len (X.s 9)),
 X.f 7 11 (.bin .gtr (X.s 10) (X.i 6)),
 X.o 12 (.pick (X.s 7) (.cst (.bool true)) (X.s 11)),
 X.o 13 (.call F.q73 [X.s 12, X.i 8]),
 X.m 2 13]
def C.bdl : LO := C.bdl_b
def C.bdl_w := pO C.bdl.eq_1
def C.cbx : ICode := .keep [1] (.seq (.region C.bdl) .ret)
def C.cbx_w := pC C.cbx.eq_1
def C.bdk_b : LO := [
 X.o 1 (.boxN (X.s 0)),
 X.o 2 (.move (X.i 0))]
def C.bdk : LO := C.bdk_b
def C.bdk_w := pO C.bdk.eq_1
def C.q63 : IFunc := ⟨1, [.slot 2], .seq (.region C.bdk) C.cbx⟩
def C.q63_W := aI @C.bdl_w (aI @C.cbx_w @C.bdk_w)
def C.q63_B := aI @C.bdl_b.eq_1 @C.bdk_b.eq_1

def C.bfz_b : LO := [
 X.o 4 (.move (X.i 0))]
def C.bfz : LO := C.bfz_b
def C.bfz_w := pO C.bfz.eq_1
def C.cc6 : ICode := .keep [] (.seq (.region C.bfz) .ret)
def C.cc6_w := pC C.cc6.eq_1
def C.bfq_b : LO := [
 X.m 6 1,
 X.m 4 6]
def C.bfq : LO := C.bfq_b
def C.bfq_w := pO C.bfq.eq_1
def C.cc7 : ICode := .seq (.region C.bfq) .ret
def C.cc7_w := pC C.cc7.eq_1
def C.cc8 : ICode := .keep [1, 5] (.cond (X.s 5) C.cc7 .skip)
def C.cc8_w := pC C.cc8.eq_1
def C.bfy_b : LO := [
 X.m 5 0]
def C.bfy : LO := C.bfy_b
def C.bfy_w := pO C.bfy.eq_1
def C.cc9 : ICode := .keep [0, 1] (.seq (.seq (.region C.bfy) C.cc8) C.cc6)
def C.cc9_w := pC C.cc9.eq_1
def C.bfx_b : LO := [
 X.o 4 (.move (X.i 0))]
def C.bfx : LO := C.bfx_b
def C.bfx_w := pO C.bfx.eq_1
def C.q73 : IFunc := ⟨2, [.slot 4], .seq (.region C.bfx) C.cc9⟩
def C.q73_W := aI (aI (aI @C.bfz_w @C.cc6_w) (aI @C.bfq_w @C.cc7_w)) (aI (aI @C.cc8_w @C.bfy_w) (aI @C.cc9_w @C.bfx_w))
def C.q73_B := aI (aI @C.bfz_b.eq_1 @C.bfq_b.eq_1) (aI @C.bfy_b.eq_1 @C.bfx_b.eq_1)

def C.yz_b : LO := [
 X.o 2 (.loadN 6 (X.s 0)),
 X.o 3 (.call F.q72 [X.s 2]),
 X.o 4 (.un .not (X.s 3)),
 X.o 5 (.call F.q73 [X.s 4, X.i 1]),
 X.m 1 5]
def C.yz : LO := C.yz_b
def C.yz_w := pO C.yz.eq_1
def C.b78 : ICode := .keep [0] (.seq (.region C.yz) .ret)
def C.b78_w := pC C.b78.eq_1
def C.yq_b : LO := [
 X.o 1 (.move (X.i 0))]
def C.yq : LO := C.yq_b
def C.yq_w := pO C.yq.eq_1
def C.q42 : IFunc := ⟨1, [.slot 1], .seq (.region C.yq) C.b78⟩
def C.q42_W := aI @C.yz_w (aI @C.b78_w @C.yq_w)
def C.q42_B := aI @C.yz_b.eq_1 @C.yq_b.eq_1

def C.bfl_b : LO := [
 X.o 2 (.move (.cst (.bool false)))]
def C.bfl : LO := C.bfl_b
def C.bfl_w := pO C.bfl.eq_1
def C.ccs : ICode := .keep [] (.seq (.region C.bfl) .ret)
def C.ccs_w := pC C.ccs.eq_1
def C.bfn_b : LO := [
 X.o 7 (.fldAddr 1 (X.s 1)),
 X.o 8 (.load1 (X.s 7)),
 X.o 9 (.len (X.s 8)),
 X.o 10 (.bin .eql (X.s 9) (X.i 0)),
 X.m 2 10]
def C.bfn : LO := C.bfn_b
def C.bfn_w := pO C.bfn.eq_1
def C.bft_b : LO := [
 X.o 15 (.fldAddr 1 (X.s 1)),
 X.o 16 (.load1 (X.s 15)),
 X.o 17 (.len (X.s 16)),
 X.o 18 (.bin .eql (X.s 17) (X.i 1)),
 X.m 2 18]
def C.bft : LO := C.bft_b
def C.bft_w := pO C.bft.eq_1
def C.bfw_b : LO := [
 X.o 21 (.fldAddr 1 (X.s 1)),
 X.o 22 (.load1 (X.s 21)),
 X.o 23 (.len (X.s 22)),
 X.o 24 (.call F.q74 [X.s 23, X.i 1, X.i 4]),
 X.m 2 24]
def C.bfw : LO := C.bfw_b
def C.bfw_w := pO C.bfw.eq_1
def C.ccq : ICode := .seq (.region C.bfw) .ret
def C.ccq_w := pC C.ccq.eq_1
def C.ccz : ICode := .keep [1, 19] (.cond (X.s 19) C.ccq .skip)
def C.ccz_w := pC C.ccz.eq_1
def C.bfv_b : LO := [
 X.o 20 (.bin .eql (X.s 4) (.cst (.int .u8 109))),
 X.m 19 20]
def C.bfv : LO := C.bfv_b
def C.bfv_w := pO C.bfv.eq_1
def C.cc0 : ICode := .seq (.region C.bft) .ret
def C.cc0_w := pC C.cc0.eq_1
def C.cc1 : ICode := .seq (.region C.bfv) C.ccz
def C.cc1_w := pC C.cc1.eq_1
def C.cc2 : ICode := .keep [1, 4, 11] (.cond (X.s 11) C.cc0 C.cc1)
def C.cc2_w := pC C.cc2.eq_1
def C.bfs_b : LO := [
 X.o 14 (.bin .eql (X.s 4) (.cst (.int .u8 103))),
 X.m 11 14]
def C.bfs : LO := C.bfs_b
def C.bfs_w := pO C.bfs.eq_1
def C.cc3 : ICode := .keep [1, 4, 11] (.cond (X.s 11) .skip (.region C.bfs))
def C.cc3_w := pC C.cc3.eq_1
def C.bfr_b : LO := [
 X.o 13 (.bin .eql (X.s 4) (.cst (.int .u8 100))),
 X.m 11 13]
def C.bfr : LO := C.bfr_b
def C.bfr_w := pO C.bfr.eq_1
def C.cc4 : ICode := .seq (.region C.bfr) C.cc3
def C.cc4_w := pC C.cc4.eq_1
def C.cc5 : ICode := .keep [1, 4, 11] (.cond (X.s 11) .skip C.cc4)
def C.cc5_w := pC C.cc5.eq_1
def C.bfp_b : LO := [
 X.o 12 (.bin .eql (X.s 4) (.cst (.int .u8 112))),
 X.m 11 12]
def C.bfp : LO := C.bfp_b
def C.bfp_w := pO C.bfp.eq_1
def C.cct : ICode := .seq (.region C.bfn) .ret
def C.cct_w := pC C.cct.eq_1
def C.ccv : ICode := .seq (.seq (.region C.bfp) C.cc5) C.cc2
def C.ccv_w := pC C.ccv.eq_1
def C.ccw : ICode := .keep [1, 4, 5] (.cond (X.s 5) C.cct C.ccv)
def C.ccw_w := pC C.ccw.eq_1
def C.bfm_b : LO := [
 X.o 6 (.bin .eql (X.s 4) (.cst (.int .u8 111))),
 X.m 5 6]
def C.bfm : LO := C.bfm_b
def C.bfm_w := pO C.bfm.eq_1
def C.ccr : ICode := .seq (.region C.bfm) C.ccw
def C.ccr_w := pC C.ccr.eq_1
def C.ccx : ICode := .keep [1, 4] (.block 0 C.ccr)
def C.ccx_w := pC C.ccx.eq_1
def C.bfk_b : LO := [
 X.o 3 (.fldAddr 0 (X.s 1)),
 X.o 4 (.load1 (X.s 3))]
def C.bfk : LO := C.bfk_b
def C.bfk_w := pO C.bfk.eq_1
def C.ccy : ICode := .keep [1] (.seq (.seq (.region C.bfk) C.ccx) C.ccs)
def C.ccy_w := pC C.ccy.eq_1
def C.bfj_b : LO := [
 X.o 1 (.boxN (X.s 0)),
 X.o 2 (.move (.cst (.bool false)))]
def C.bfj : LO := C.bfj_b
def C.bfj_w := pO C.bfj.eq_1
def C.q72 : IFunc := ⟨1, [.slot 2], .seq (.region C.bfj) C.ccy⟩
def C.q72_W := aI (aI (aI (aI @C.bfl_w (aI @C.ccs_w @C.bfn_w)) (aI @C.bft_w (aI @C.bfw_w @C.ccq_w))) (aI (aI @C.ccz_w (aI @C.bfv_w @C.cc0_w)) (aI (aI @C.cc1_w @C.cc2_w) (aI @C.bfs_w @C.cc3_w)))) (aI (aI (aI @C.bfr_w (aI @C.cc4_w @C.cc5_w)) (aI @C.bfp_w (aI @C.cct_w @C.ccv_w))) (aI (aI @C.ccw_w (aI @C.bfm_w @C.ccr_w)) (aI (aI @C.ccx_w @C.bfk_w) (aI @C.ccy_w @C.bfj_w))))
def C.q72_B := aI (aI (aI @C.bfl_b.eq_1 @C.bfn_b.eq_1) (aI @C.bft_b.eq_1 (aI @C.bfw_b.eq_1 @C.bfv_b.eq_1))) (aI (aI @C.bfs_b.eq_1 (aI @C.bfr_b.eq_1 @C.bfp_b.eq_1)) (aI @C.bfm_b.eq_1 (aI @C.bfk_b.eq_1 @C.bfj_b.eq_1)))

def C.y1_b : LO := [
 X.o 3 (.fldAddr 1 (X.s 0)),
 X.o 4 (.load1 (X.s 3)),
 X.o 5 (.makeFunc F.q44 [X.s 1]),
 X.o 6 (.call F.q60 [X.s 4, X.s 5]),
 X.m 2 6]
def C.y1 : LO := C.y1_b
def C.y1_w := pO C.y1.eq_1
def C.b79 : ICode := .keep [0, 1] (.seq (.region C.y1) .ret)
def C.b79_w := pC C.b79.eq_1
def C.y0_b : LO := [
 X.o 2 (.move (X.i 0))]
def C.y0 : LO := C.y0_b
def C.y0_w := pO C.y0.eq_1
def C.q43 : IFunc := ⟨2, [.slot 2], .seq (.region C.y0) C.b79⟩
def C.q43_W := aI @C.y1_w (aI @C.b79_w @C.y0_w)
def C.q43_B := aI @C.y1_b.eq_1 @C.y0_b.eq_1

def C.bc4_b : LO := [
 X.o 4 (.move (X.i 0))]
def C.bc4 : LO := C.bc4_b
def C.bc4_w := pO C.bc4.eq_1
def C.b91 : ICode := .keep [] (.seq (.region C.bc4) .ret)
def C.b91_w := pC C.b91.eq_1
def C.bc3_b : LO := [
 X.o 20 (.bin .add (X.s 10) (X.i 1)),
 X.m 10 20]
def C.bc3 : LO := C.bc3_b
def C.bc3_w := pO C.bc3.eq_1
def C.b94 : ICode := .keep [1, 8, 9, 10] (.region C.bc3)
def C.b94_w := pC C.b94.eq_1
def C.bc2_b : LO := [
 X.m 19 7,
 X.m 4 19]
def C.bc2 : LO := C.bc2_b
def C.bc2_w := pO C.bc2.eq_1
def C.b95 : ICode := .seq (.region C.bc2) .ret
def C.b95_w := pC C.b95.eq_1
def C.b96 : ICode := .keep [1, 7, 8, 9, 10, 18] (.cond (X.s 18) C.b95 .skip)
def C.b96_w := pC C.b96.eq_1
def C.bc1_b : LO := [
 X.m 17 7,
 X.o 18 (.bin .neq (X.s 17) (X.i 0))]
def C.bc1 : LO := C.bc1_b
def C.bc1_w := pO C.bc1.eq_1
def C.b97 : ICode := .keep [1, 7, 8, 9, 10] (.seq (.region C.bc1) C.b96)
def C.b97_w := pC C.b97.eq_1
def C.bc0_b : LO := [
 X.m 14 1,
 X.m 15 6,
 X.o 16 (.callv (X.s 14) [X.s 15]),
 X.m 7 16]
def C.bc0 : LO := C.bc0_b
def C.bc0_w := pO C.bc0.eq_1
def C.b98 : ICode := .keep [1, 6, 8, 9, 10] (.seq (.region C.bc0) C.b97)
def C.b98_w := pC C.b98.eq_1
def C.bcz_b : LO := [
 X.o 12 (.idxAddr 1 (X.s 8) (X.s 10)),
 X.o 13 (.load1 (X.s 12)),
 X.m 6 13]
def C.bcz : LO := C.bcz_b
def C.bcz_w := pO C.bcz.eq_1
def C.b90 : ICode := .seq (.region C.bcz) C.b98
def C.b90_w := pC C.b90.eq_1
def C.b99 : ICode := .keep [1, 8, 9, 10] (.seq (.block 1 C.b90) C.b94)
def C.b99_w := pC C.b99.eq_1
def C.cbb : ICode := .keep [1, 8, 9, 10, 11] (.seq (.cond (X.s 11) .skip (.exit 0)) C.b99)
def C.cbb_w := pC C.cbb.eq_1
def C.bcq_b : LO := [
 X.o 11 (.bin .lss (X.s 10) (X.s 9))]
def C.bcq : LO := C.bcq_b
def C.bcq_w := pO C.bcq.eq_1
def C.clj : ICode := .keep [1, 8, 9, 10] (.seq (.region C.bcq) C.cbb)
def C.clj_w := pC C.clj.eq_1
def C.b9z : ICode := .loop C.clj
def C.b9z_w := pC C.b9z.eq_1
def C.b92 : ICode := .keep [1, 8, 9, 10] (.block 0 C.b9z)
def C.b92_w := pC C.b92.eq_1
def C.bcy_b : LO := [
 X.m 8 0,
 X.o 9 (.len (X.s 8)),
 X.o 10 (.move (X.i 0))]
def C.bcy : LO := C.bcy_b
def C.bcy_w := pO C.bcy.eq_1
def C.b93 : ICode := .keep [0, 1] (.seq (.seq (.region C.bcy) C.b92) C.b91)
def C.b93_w := pC C.b93.eq_1
def C.bcx_b : LO := [
 X.o 4 (.move (X.i 0))]
def C.bcx : LO := C.bcx_b
def C.bcx_w := pO C.bcx.eq_1
def C.q60 : IFunc := ⟨2, [.slot 4], .seq (.region C.bcx) C.b93⟩
def C.q60_W := aI (aI (aI (aI @C.bc4_w @C.b91_w) (aI @C.bc3_w (aI @C.b94_w @C.bc2_w))) (aI (aI @C.b95_w @C.b96_w) (aI @C.bc1_w (aI @C.b97_w @C.bc0_w)))) (aI (aI (aI @C.b98_w @C.bcz_w) (aI @C.b90_w (aI @C.b99_w @C.cbb_w))) (aI (aI @C.bcq_w (aI @C.b9z_w @C.b92_w)) (aI @C.bcy_w (aI @C.b93_w @C.bcx_w))))
def C.q60_B := aI (aI (aI @C.bc4_b.eq_1 @C.bc3_b.eq_1) (aI @C.bc2_b.eq_1 @C.bc1_b.eq_1)) (aI (aI @C.bc0_b.eq_1 @C.bcz_b.eq_1) (aI @C.bcq_b.eq_1 (aI @C.bcy_b.eq_1 @C.bcx_b.eq_1)))

def C.y3_b : LO := [
 X.m 4 0,
 X.o 5 (.fldAddr 0 (X.s 1)),
 X.o 6 (.load1 (X.s 5)),
 X.o 7 (.len (X.s 6)),
 X.o 8 (.bin .sub (X.s 7) (X.i 1)),
 X.o 9 (.call F.q74 [X.s 4, X.i 0, X.s 8]),
 X.o 10 (.un .not (X.s 9)),
 X.o 11 (.call F.q73 [X.s 10, X.i 4]),
 X.m 3 11]
def C.y3 : LO := C.y3_b
def C.y3_w := pO C.y3.eq_1
def C.b8b : ICode := .keep [0, 1] (.seq (.region C.y3) .ret)
def C.b8b_w := pC C.b8b.eq_1
def C.y2_b : LO := [
 X.o 3 (.move (X.i 0))]
def C.y2 : LO := C.y2_b
def C.y2_w := pO C.y2.eq_1
def C.q44 : IFunc := ⟨2, [.slot 3], .seq (.region C.y2) C.b8b⟩
def C.q44_W := aI @C.y3_w (aI @C.b8b_w @C.y2_w)
def C.q44_B := aI @C.y3_b.eq_1 @C.y2_b.eq_1

def C.bf1_b : LO := [
 X.m 7 0,
 X.m 8 1,
 X.o 9 (.bin .geq (X.s 7) (X.s 8)),
 X.m 10 9,
 X.t 10 11 (.move (X.s 0)),
 X.t 10 12 (.move (X.s 2)),
 X.t 10 13 (.bin .leq (X.s 11) (X.s 12)),
 X.o 14 (.pick (X.s 10) (X.s 13) (.cst (.bool false))),
 X.m 6 14]
def C.bf1 : LO := C.bf1_b
def C.bf1_w := pO C.bf1.eq_1
def C.cdb : ICode := .keep [0, 1, 2] (.seq (.region C.bf1) .ret)
def C.cdb_w := pC C.cdb.eq_1
def C.bf0_b : LO := [
 X.o 6 (.move (.cst (.bool false)))]
def C.bf0 : LO := C.bf0_b
def C.bf0_w := pO C.bf0.eq_1
def C.q74 : IFunc := ⟨3, [.slot 6], .seq (.region C.bf0) C.cdb⟩
def C.q74_W := aI @C.bf1_w (aI @C.cdb_w @C.bf0_w)
def C.q74_B := aI @C.bf1_b.eq_1 @C.bf0_b.eq_1

def C.y5_b : LO := [
 X.o 2 (.loadN 6 (X.s 0)),
 X.o 3 (.call F.q64 [X.s 2]),
 X.o 4 (.un .not (X.s 3)),
 X.o 5 (.call F.q73 [X.s 4, X.i 3]),
 X.m 1 5]
def C.y5 : LO := C.y5_b
def C.y5_w := pO C.y5.eq_1
def C.b8c : ICode := .keep [0] (.seq (.region C.y5) .ret)
def C.b8c_w := pC C.b8c.eq_1
def C.y4_b : LO := [
 X.o 1 (.move (X.i 0))]
def C.y4 : LO := C.y4_b
def C.y4_w := pO C.y4.eq_1
def C.q45 : IFunc := ⟨1, [.slot 1], .seq (.region C.y4) C.b8c⟩
def C.q45_W := aI @C.y5_w (aI @C.b8c_w @C.y4_w)
def C.q45_B := aI @C.y5_b.eq_1 @C.y4_b.eq_1

def C.bdx_b : LO := [
 X.o 2 (.move (.cst (.bool true)))]
def C.bdx : LO := C.bdx_b
def C.bdx_w := pO C.bdx.eq_1
def C.cbq : ICode := .keep [] (.seq (.region C.bdx) .ret)
def C.cbq_w := pC C.cbq.eq_1
def C.bdr_b : LO := [
 X.o 7 (.fldAddr 2 (X.s 1)),
 X.o 8 (.load1 (X.s 7)),
 X.o 9 (.bin .geq (X.s 8) (.cst (.int .u64 1))),
 X.m 10 9,
 X.t 10 11 (.fldAddr 2 (X.s 1)),
 X.t 10 12 (.load1 (X.s 11)),
 X.t 10 13 (.bin .leq (X.s 12) (.cst (.int .u64 1099511627776))),
 X.o 14 (.pick (X.s 10) (X.s 13) (.cst (.bool false))),
 X.m 2 14]
def C.bdr : LO := C.bdr_b
def C.bdr_w := pO C.bdr.eq_1
def C.bdt_b : LO := [
 X.o 17 (.fldAddr 3 (X.s 1)),
 X.o 18 (.load1 (X.s 17)),
 X.o 19 (.call F.q74 [X.s 18, X.i 1, X.i 1000]),
 X.m 20 19,
 X.t 20 21 (.fldAddr 4 (X.s 1)),
 X.t 20 22 (.load1 (X.s 21)),
 X.t 20 23 (.call F.q74 [X.s 22, X.i 1, X.i 1000]),
 X.o 24 (.pick (X.s 20) (X.s 23) (.cst (.bool false))),
 X.m 25 24,
 X.t 25 26 (.fldAddr 5 (X.s 1)),
 X.t 25 27 (.load1 (X.s 26)),
 X.t 25 28 (.call F.q74 [X.s 27, X.i 0, X.i 20]),
 X.o 29 (.pick (X.s 25) (X.s 28) (.cst (.bool false))),
 X.m 2 29]
def C.bdt : LO := C.bdt_b
def C.bdt_w := pO C.bdt.eq_1
def C.bdw_b : LO := [
 X.o 32 (.fldAddr 4 (X.s 1)),
 X.o 33 (.load1 (X.s 32)),
 X.o 34 (.call F.q74 [X.s 33, X.i 1, X.i 1000]),
 X.m 2 34]
def C.bdw : LO := C.bdw_b
def C.bdw_w := pO C.bdw.eq_1
def C.cb1 : ICode := .seq (.region C.bdw) .ret
def C.cb1_w := pC C.cb1.eq_1
def C.cb2 : ICode := .keep [1, 30] (.cond (X.s 30) C.cb1 .skip)
def C.cb2_w := pC C.cb2.eq_1
def C.bdv_b : LO := [
 X.o 31 (.bin .eql (X.s 4) (.cst (.int .u8 100))),
 X.m 30 31]
def C.bdv : LO := C.bdv_b
def C.bdv_w := pO C.bdv.eq_1
def C.cb3 : ICode := .seq (.region C.bdt) .ret
def C.cb3_w := pC C.cb3.eq_1
def C.cb4 : ICode := .seq (.region C.bdv) C.cb2
def C.cb4_w := pC C.cb4.eq_1
def C.cb5 : ICode := .keep [1, 4, 15] (.cond (X.s 15) C.cb3 C.cb4)
def C.cb5_w := pC C.cb5.eq_1
def C.bds_b : LO := [
 X.o 16 (.bin .eql (X.s 4) (.cst (.int .u8 112))),
 X.m 15 16]
def C.bds : LO := C.bds_b
def C.bds_w := pO C.bds.eq_1
def C.cb6 : ICode := .seq (.region C.bdr) .ret
def C.cb6_w := pC C.cb6.eq_1
def C.cb7 : ICode := .seq (.region C.bds) C.cb5
def C.cb7_w := pC C.cb7.eq_1
def C.cb8 : ICode := .keep [1, 4, 5] (.cond (X.s 5) C.cb6 C.cb7)
def C.cb8_w := pC C.cb8.eq_1
def C.bdp_b : LO := [
 X.o 6 (.bin .eql (X.s 4) (.cst (.int .u8 111))),
 X.m 5 6]
def C.bdp : LO := C.bdp_b
def C.bdp_w := pO C.bdp.eq_1
def C.cby : ICode := .seq (.region C.bdp) C.cb8
def C.cby_w := pC C.cby.eq_1
def C.cbz : ICode := .keep [1, 4] (.block 0 C.cby)
def C.cbz_w := pC C.cbz.eq_1
def C.bdn_b : LO := [
 X.o 3 (.fldAddr 0 (X.s 1)),
 X.o 4 (.load1 (X.s 3))]
def C.bdn : LO := C.bdn_b
def C.bdn_w := pO C.bdn.eq_1
def C.cb0 : ICode := .keep [1] (.seq (.seq (.region C.bdn) C.cbz) C.cbq)
def C.cb0_w := pC C.cb0.eq_1
def C.bdm_b : LO := [
 X.o 1 (.boxN (X.s 0)),
 X.o 2 (.move (.cst (.bool false)))]
def C.bdm : LO := C.bdm_b
def C.bdm_w := pO C.bdm.eq_1
def C.q64 : IFunc := ⟨1, [.slot 2], .seq (.region C.bdm) C.cb0⟩
def C.q64_W := aI (aI (aI (aI @C.bdx_w @C.cbq_w) (aI @C.bdr_w (aI @C.bdt_w @C.bdw_w))) (aI (aI @C.cb1_w @C.cb2_w) (aI @C.bdv_w (aI @C.cb3_w @C.cb4_w)))) (aI (aI (aI @C.cb5_w @C.bds_w) (aI @C.cb6_w (aI @C.cb7_w @C.cb8_w))) (aI (aI @C.bdp_w (aI @C.cby_w @C.cbz_w)) (aI @C.bdn_w (aI @C.cb0_w @C.bdm_w))))
def C.q64_B := aI (aI (aI @C.bdx_b.eq_1 @C.bdr_b.eq_1) (aI @C.bdt_b.eq_1 @C.bdw_b.eq_1)) (aI (aI @C.bdv_b.eq_1 @C.bds_b.eq_1) (aI @C.bdp_b.eq_1 (aI @C.bdn_b.eq_1 @C.bdm_b.eq_1)))

def C.bf4_b : LO := [
 X.m 10 4,
 X.m 2 10]
def C.bf4 : LO := C.bf4_b
def C.bf4_w := pO C.bf4.eq_1
def C.cdc : ICode := .keep [4] (.seq (.region C.bf4) .ret)
def C.cdc_w := pC C.cdc.eq_1
def C.bf3_b : LO := [
 X.m 6 0,
 X.o 7 (.call F.q76 [X.s 6]),
 X.m 5 7,
 X.o 8 (.extract (X.s 5) 0),
 X.o 9 (.extract (X.s 5) 1),
 X.m 3 8,
 X.m 4 9]
def C.bf3 : LO := C.bf3_b
def C.bf3_w := pO C.bf3.eq_1
def C.cdd : ICode := .keep [0] (.seq (.region C.bf3) C.cdc)
def C.cdd_w := pC C.cdd.eq_1
def C.bf2_b : LO := [
 X.o 2 (.move (X.i 0))]
def C.bf2 : LO := C.bf2_b
def C.bf2_w := pO C.bf2.eq_1
def C.q75 : IFunc := ⟨1, [.slot 2], .seq (.region C.bf2) C.cdd⟩
def C.q75_W := aI (aI @C.bf4_w @C.cdc_w) (aI @C.bf3_w (aI @C.cdd_w @C.bf2_w))
def C.q75_B := aI @C.bf4_b.eq_1 (aI @C.bf3_b.eq_1 @C.bf2_b.eq_1)

def C.bff_b : LO := [
 X.m 3 0,
 X.o 4 (.append 1 8 (.cst (.nils)) (X.s 3)),
 X.m 2 4]
def C.bff : LO := C.bff_b
def C.bff_w := pO C.bff.eq_1
def C.ccn : ICode := .keep [0] (.seq (.region C.bff) .ret)
def C.ccn_w := pC C.ccn.eq_1
def C.bfd_b : LO := [
 X.o 2 (.move (.cst (.nils)))]
def C.bfd : LO := C.bfd_b
def C.bfd_w := pO C.bfd.eq_1
def C.q70 : IFunc := ⟨1, [.slot 2], .seq (.region C.bfd) C.ccn⟩
def C.q70_W := aI @C.bff_w (aI @C.ccn_w @C.bfd_w)
def C.q70_B := aI @C.bff_b.eq_1 @C.bfd_b.eq_1

def C.bb2_b : LO := [
 X.o 3 (.fldAddr 0 (X.s 0)),
 X.o 4 (.load1 (X.s 3)),
 X.o 5 (.bin .neq (X.s 4) (X.i (-1))),
 X.m 6 5,
 X.t 6 7 (.fldAddr 0 (X.s 0)),
 X.t 6 8 (.load1 (X.s 7)),
 X.t 6 9 (.fldAddr 1 (X.s 1)),
 X.t 6 10 (.load1 (X.s 9)),
 X.t 6 11 (.len (X.s 10)),
 X.t 6 12 (.bin .sub (X.s 11) (X.i 1)),
 X.t 6 13 (.call F.q74 [X.s 8, X.i 0, X.s 12]),
 X.t 6 14 (.un .not (X.s 13)),
 X.o 15 (.pick (X.s 6) (X.s 14) (.cst (.bool false))),
 X.o 16 (.call F.q73 [X.s 15, X.i 4]),
 X.m 2 16]
def C.bb2 : LO := C.bb2_b
def C.bb2_w := pO C.bb2.eq_1
def C.b81 : ICode := .keep [0, 1] (.seq (.region C.bb2) .ret)
def C.b81_w := pC C.b81.eq_1
def C.bb1_b : LO := [
 X.o 2 (.move (X.i 0))]
def C.bb1 : LO := C.bb1_b
def C.bb1_w := pO C.bb1.eq_1
def C.q54 : IFunc := ⟨2, [.slot 2], .seq (.region C.bb1) C.b81⟩
def C.q54_W := aI @C.bb2_w (aI @C.b81_w @C.bb1_w)
def C.q54_B := aI @C.bb2_b.eq_1 @C.bb1_b.eq_1

def C.bb4_b : LO := [
 X.o 2 (.fldAddr 1 (X.s 0)),
 X.o 3 (.load1 (X.s 2)),
 X.o 4 (.call F.q74 [X.s 3, X.i 0, X.i 20]),
 X.o 5 (.un .not (X.s 4)),
 X.o 6 (.call F.q73 [X.s 5, X.i 3]),
 X.m 1 6]
def C.bb4 : LO := C.bb4_b
def C.bb4_w := pO C.bb4.eq_1
def C.b82 : ICode := .keep [0] (.seq (.region C.bb4) .ret)
def C.b82_w := pC C.b82.eq_1
def C.bb3_b : LO := [
 X.o 1 (.move (X.i 0))]
def C.bb3 : LO := C.bb3_b
def C.bb3_w := pO C.bb3.eq_1
def C.q55 : IFunc := ⟨1, [.slot 1], .seq (.region C.bb3) C.b82⟩
def C.q55_W := aI @C.bb4_w (aI @C.b82_w @C.bb3_w)
def C.q55_B := aI @C.bb4_b.eq_1 @C.bb3_b.eq_1

def C.bbc_b : LO := [
 X.o 3 (.fldAddr 0 (X.s 0)),
 X.o 4 (.load1 (X.s 3)),
 X.o 5 (.fldAddr 0 (X.s 1)),
 X.o 6 (.load1 (X.s 5)),
 X.o 7 (.len (X.s 6)),
 X.o 8 (.bin .sub (X.s 7) (X.i 1)),
 X.o 9 (.call F.q74 [X.s 4, X.i 0, X.s 8]),
 X.o 10 (.un .not (X.s 9)),
 X.o 11 (.call F.q73 [X.s 10, X.i 4]),
 X.m 2 11]
def C.bbc : LO := C.bbc_b
def C.bbc_w := pO C.bbc.eq_1
def C.b8g : ICode := .keep [0, 1] (.seq (.region C.bbc) .ret)
def C.b8g_w := pC C.b8g.eq_1
def C.bbb_b : LO := [
 X.o 2 (.move (X.i 0))]
def C.bbb : LO := C.bbb_b
def C.bbb_w := pO C.bbb.eq_1
def C.q48 : IFunc := ⟨2, [.slot 2], .seq (.region C.bbb) C.b8g⟩
def C.q48_W := aI @C.bbc_w (aI @C.b8g_w @C.bbb_w)
def C.q48_B := aI @C.bbc_b.eq_1 @C.bbb_b.eq_1

def C.bbf_b : LO := [
 X.o 3 (.fldAddr 1 (X.s 0)),
 X.o 4 (.load1 (X.s 3)),
 X.o 5 (.fldAddr 1 (X.s 1)),
 X.o 6 (.load1 (X.s 5)),
 X.o 7 (.len (X.s 6)),
 X.o 8 (.bin .sub (X.s 7) (X.i 1)),
 X.o 9 (.call F.q74 [X.s 4, X.i 0, X.s 8]),
 X.o 10 (.un .not (X.s 9)),
 X.o 11 (.call F.q73 [X.s 10, X.i 4]),
 X.m 2 11]
def C.bbf : LO := C.bbf_b
def C.bbf_w := pO C.bbf.eq_1
def C.b8h : ICode := .keep [0, 1] (.seq (.region C.bbf) .ret)
def C.b8h_w := pC C.b8h.eq_1
def C.bbd_b : LO := [
 X.o 2 (.move (X.i 0))]
def C.bbd : LO := C.bbd_b
def C.bbd_w := pO C.bbd.eq_1
def C.q49 : IFunc := ⟨2, [.slot 2], .seq (.region C.bbd) C.b8h⟩
def C.q49_W := aI @C.bbf_w (aI @C.b8h_w @C.bbd_w)
def C.q49_B := aI @C.bbf_b.eq_1 @C.bbd_b.eq_1

def C.bbv_b : LO := [
 X.o 3 (.fldAddr 2 (X.s 0)),
 X.o 4 (.load1 (X.s 3)),
 X.o 5 (.fldAddr 2 (X.s 1)),
 X.o 6 (.load1 (X.s 5)),
 X.o 7 (.len (X.s 6)),
 X.o 8 (.bin .sub (X.s 7) (X.i 1)),
 X.o 9 (.call F.q74 [X.s 4, X.i 0, X.s 8]),
 X.o 10 (.un .not (X.s 9)),
 X.o 11 (.call F.q73 [X.s 10, X.i 4]),
 X.m 2 11]
def C.bbv : LO := C.bbv_b
def C.bbv_w := pO C.bbv.eq_1
def C.b8y : ICode := .keep [0, 1] (.seq (.region C.bbv) .ret)
def C.b8y_w := pC C.b8y.eq_1
def C.bbt_b : LO := [
 X.o 2 (.move (X.i 0))]
def C.bbt : LO := C.bbt_b
def C.bbt_w := pO C.bbt.eq_1
def C.q50 : IFunc := ⟨2, [.slot 2], .seq (.region C.bbt) C.b8y⟩
def C.q50_W := aI @C.bbv_w (aI @C.b8y_w @C.bbt_w)
def C.q50_B := aI @C.bbv_b.eq_1 @C.bbt_b.eq_1

def C.bbx_b : LO := [
 X.o 3 (.fldAddr 5 (X.s 0)),
 X.o 4 (.load1 (X.s 3)),
 X.o 5 (.makeFunc F.q52 [X.s 1]),
 X.o 6 (.call F.q60 [X.s 4, X.s 5]),
 X.m 2 6]
def C.bbx : LO := C.bbx_b
def C.bbx_w := pO C.bbx.eq_1
def C.b8q : ICode := .keep [0, 1] (.seq (.region C.bbx) .ret)
def C.b8q_w := pC C.b8q.eq_1
def C.bbw_b : LO := [
 X.o 2 (.move (X.i 0))]
def C.bbw : LO := C.bbw_b
def C.bbw_w := pO C.bbw.eq_1
def C.q51 : IFunc := ⟨2, [.slot 2], .seq (.region C.bbw) C.b8q⟩
def C.q51_W := aI @C.bbx_w (aI @C.b8q_w @C.bbw_w)
def C.q51_B := aI @C.bbx_b.eq_1 @C.bbw_b.eq_1

def C.bbq_b : LO := [
 X.m 4 0,
 X.o 5 (.fldAddr 3 (X.s 1)),
 X.o 6 (.load1 (X.s 5)),
 X.o 7 (.len (X.s 6)),
 X.o 8 (.bin .sub (X.s 7) (X.i 1)),
 X.o 9 (.call F.q74 [X.s 4, X.i 0, X.s 8]),
 X.o 10 (.un .not (X.s 9)),
 X.o 11 (.call F.q73 [X.s 10, X.i 4]),
 X.m 3 11]
def C.bbq : LO := C.bbq_b
def C.bbq_w := pO C.bbq.eq_1
def C.b8z : ICode := .keep [0, 1] (.seq (.region C.bbq) .ret)
def C.b8z_w := pC C.b8z.eq_1
def C.bby_b : LO := [
 X.o 3 (.move (X.i 0))]
def C.bby : LO := C.bby_b
def C.bby_w := pO C.bby.eq_1
def C.q52 : IFunc := ⟨2, [.slot 3], .seq (.region C.bby) C.b8z⟩
def C.q52_W := aI @C.bbq_w (aI @C.b8z_w @C.bby_w)
def C.q52_B := aI @C.bbq_b.eq_1 @C.bby_b.eq_1

def C.sx_b : LO := [
 X.o 4 (.load1 (X.s 2)),
 X.o 5 (.makeFunc F.q117 [X.s 3, X.s 2]),
 X.o 6 (.call F.q118 [X.s 4, X.s 5])]
def C.sx : LO := C.sx_b
def C.sx_w := pO C.sx.eq_1
def C.b3d : ICode := .keep [2, 3] (.region C.sx)
def C.b3d_w := pC C.b3d.eq_1
def C.sw_b : LO := [
 X.o 2 (.box1 (X.s 0)),
 X.o 3 (.box1 (X.s 1))]
def C.sw : LO := C.sw_b
def C.sw_w := pO C.sw.eq_1
def C.q116 : IFunc := ⟨2, [], .seq (.region C.sw) C.b3d⟩
def C.q116_W := aI @C.sx_w (aI @C.b3d_w @C.sw_w)
def C.q116_B := aI @C.sx_b.eq_1 @C.sw_b.eq_1

def C.rt_b : LO := [
 X.o 5 (.fldAddr 0 (X.s 3)),
 X.o 6 (.load1 (X.s 5)),
 X.m 4 6]
def C.rt : LO := C.rt_b
def C.rt_w := pO C.rt.eq_1
def C.b2d : ICode := .keep [3] (.seq (.region C.rt) .ret)
def C.b2d_w := pC C.b2d.eq_1
def C.rs_b : LO := [
 X.o 3 (.boxN (X.s 1)),
 X.o 4 (.move (.cst (.int .u32 0)))]
def C.rs : LO := C.rs_b
def C.rs_w := pO C.rs.eq_1
def C.q108 : IFunc := ⟨2, [.slot 4], .seq (.region C.rs) C.b2d⟩
def C.q108_W := aI @C.rt_w (aI @C.b2d_w @C.rs_w)
def C.q108_B := aI @C.rt_b.eq_1 @C.rs_b.eq_1

def C.pk_b : LO := [
 X.m 3 0,
 X.o 4 (.nilchk (X.s 3)),
 X.o 5 (.fldAddr 3 (X.s 4)),
 X.o 6 (.load1 (X.s 5)),
 X.o 7 (.bin .eql (X.s 6) (.cst (.int .u8 48))),
 X.m 8 7,
 X.f 8 9 (.move (X.s 0)),
 X.f 8 10 (.nilchk (X.s 9)),
 X.f 8 11 (.fldAddr 3 (X.s 10)),
 X.f 8 12 (.load1 (X.s 11)),
 X.f 8 13 (.bin .eql (X.s 12) (.cst (.int .u8 116))),
 X.o 14 (.pick (X.s 8) (.cst (.bool true)) (X.s 13)),
 X.m 2 14]
def C.pk : LO := C.pk_b
def C.pk_w := pO C.pk.eq_1
def C.b0q : ICode := .keep [0] (.seq (.region C.pk) .ret)
def C.b0q_w := pC C.b0q.eq_1
def C.pj_b : LO := [
 X.o 2 (.move (.cst (.bool false)))]
def C.pj : LO := C.pj_b
def C.pj_w := pO C.pj.eq_1
def C.q102 : IFunc := ⟨1, [.slot 2], .seq (.region C.pj) C.b0q⟩
def C.q102_W := aI @C.pk_w (aI @C.b0q_w @C.pj_w)
def C.q102_B := aI @C.pk_b.eq_1 @C.pj_b.eq_1

def C.bdq_b : LO := [
 X.m 3 0,
 X.o 4 (.append 6 64 (.cst (.nils)) (X.s 3)),
 X.m 2 4]
def C.bdq : LO := C.bdq_b
def C.bdq_w := pO C.bdq.eq_1
def C.cb9 : ICode := .keep [0] (.seq (.region C.bdq) .ret)
def C.cb9_w := pC C.cb9.eq_1
def C.bdy_b : LO := [
 X.o 2 (.move (.cst (.nils)))]
def C.bdy : LO := C.bdy_b
def C.bdy_w := pO C.bdy.eq_1
def C.q65 : IFunc := ⟨1, [.slot 2], .seq (.region C.bdy) C.cb9⟩
def C.q65_W := aI @C.bdq_w (aI @C.cb9_w @C.bdy_w)
def C.q65_B := aI @C.bdq_b.eq_1 @C.bdy_b.eq_1

def C.bd2_b : LO := [
 X.m 3 0,
 X.o 4 (.append 3 24 (.cst (.nils)) (X.s 3)),
 X.m 2 4]
def C.bd2 : LO := C.bd2_b
def C.bd2_w := pO C.bd2.eq_1
def C.ccc : ICode := .keep [0] (.seq (.region C.bd2) .ret)
def C.ccc_w := pC C.ccc.eq_1
def C.bd1_b : LO := [
 X.o 2 (.move (.cst (.nils)))]
def C.bd1 : LO := C.bd1_b
def C.bd1_w := pO C.bd1.eq_1
def C.q67 : IFunc := ⟨1, [.slot 2], .seq (.region C.bd1) C.ccc⟩
def C.q67_W := aI @C.bd2_w (aI @C.ccc_w @C.bd1_w)
def C.q67_B := aI @C.bd2_b.eq_1 @C.bd1_b.eq_1

def C.bd6_b : LO := [
 X.m 3 0,
 X.o 4 (.append 1 8 (.cst (.nils)) (X.s 3)),
 X.m 2 4]
def C.bd6 : LO := C.bd6_b
def C.bd6_w := pO C.bd6.eq_1
def C.ccf : ICode := .keep [0] (.seq (.region C.bd6) .ret)
def C.ccf_w := pC C.ccf.eq_1
def C.bd5_b : LO := [
 X.o 2 (.move (.cst (.nils)))]
def C.bd5 : LO := C.bd5_b
def C.bd5_w := pO C.bd5.eq_1
def C.q69 : IFunc := ⟨1, [.slot 2], .seq (.region C.bd5) C.ccf⟩
def C.q69_W := aI @C.bd6_w (aI @C.ccf_w @C.bd5_w)
def C.q69_B := aI @C.bd6_b.eq_1 @C.bd5_b.eq_1

def C.bd0_b : LO := [
 X.m 3 0,
 X.o 4 (.append 6 80 (.cst (.nils)) (X.s 3)),
 X.m 2 4]
def C.bd0 : LO := C.bd0_b
def C.bd0_w := pO C.bd0.eq_1
def C.ccb : ICode := .keep [0] (.seq (.region C.bd0) .ret)
def C.ccb_w := pC C.ccb.eq_1
def C.bdz_b : LO := [
 X.o 2 (.move (.cst (.nils)))]
def C.bdz : LO := C.bdz_b
def C.bdz_w := pO C.bdz.eq_1
def C.q66 : IFunc := ⟨1, [.slot 2], .seq (.region C.bdz) C.ccb⟩
def C.q66_W := aI @C.bd0_w (aI @C.ccb_w @C.bdz_w)
def C.q66_B := aI @C.bd0_b.eq_1 @C.bdz_b.eq_1

def C.bd4_b : LO := [
 X.m 3 0,
 X.o 4 (.append 2 8 (.cst (.nils)) (X.s 3)),
 X.m 2 4]
def C.bd4 : LO := C.bd4_b
def C.bd4_w := pO C.bd4.eq_1
def C.ccd : ICode := .keep [0] (.seq (.region C.bd4) .ret)
def C.ccd_w := pC C.ccd.eq_1
def C.bd3_b : LO := [
 X.o 2 (.move (.cst (.nils)))]
def C.bd3 : LO := C.bd3_b
def C.bd3_w := pO C.bd3.eq_1
def C.q68 : IFunc := ⟨1, [.slot 2], .seq (.region C.bd3) C.ccd⟩
def C.q68_W := aI @C.bd4_w (aI @C.ccd_w @C.bd3_w)
def C.q68_B := aI @C.bd4_b.eq_1 @C.bd3_b.eq_1

def C.yv_b : LO := [
 X.o 4 (.load1 (X.s 1)),
 X.o 5 (.bin .shl (.cst (.int .u64 1)) (X.s 4)),
 X.o 6 (.bin .sub (X.s 5) (.cst (.int .u64 1))),
 X.m 7 0,
 X.o 8 (.bin .shl (X.s 6) (X.s 7)),
 X.o 9 (.conv .u32 (X.s 8)),
 X.m 3 9]
def C.yv : LO := C.yv_b
def C.yv_w := pO C.yv.eq_1
def C.b75 : ICode := .keep [0, 1] (.seq (.region C.yv) .ret)
def C.b75_w := pC C.b75.eq_1
def C.yt_b : LO := [
 X.o 3 (.move (.cst (.int .u32 0)))]
def C.yt : LO := C.yt_b
def C.yt_w := pO C.yt.eq_1
def C.q3 : IFunc := ⟨2, [.slot 3], .seq (.region C.yt) C.b75⟩
def C.q3_W := aI @C.yv_w (aI @C.b75_w @C.yt_w)
def C.q3_B := aI @C.yv_b.eq_1 @C.yt_b.eq_1

def C.pb_b : LO := [
 X.m 18 0,
 X.m 19 1,
 X.o 20 (.bin .shr (X.s 18) (X.s 19)),
 X.m 21 8,
 X.o 22 (.callv (X.s 21) [X.i 0]),
 X.o 23 (.bin .and (X.s 20) (X.s 22)),
 X.m 6 23,
 X.o 7 (.move (X.i 0))]
def C.pb : LO := C.pb_b
def C.pb_w := pO C.pb.eq_1
def C.b0m : ICode := .keep [0, 1, 8] (.seq (.region C.pb) .ret)
def C.b0m_w := pC C.b0m.eq_1
def C.n9_b : LO := [
 X.o 6 (.move (.cst (.int .u32 0))),
 X.o 7 (.move (X.i 3))]
def C.n9 : LO := C.n9_b
def C.n9_w := pO C.n9.eq_1
def C.b0n : ICode := .seq (.region C.n9) .ret
def C.b0n_w := pC C.b0n.eq_1
def C.b0p : ICode := .keep [0, 1, 8, 17] (.cond (X.s 17) C.b0n .skip)
def C.b0p_w := pC C.b0p.eq_1
def C.n8_b : LO := [
 X.m 16 9,
 X.o 17 (.un .not (X.s 16))]
def C.n8 : LO := C.n8_b
def C.n8_w := pO C.n8.eq_1
def C.b0r : ICode := .keep [0, 1, 8, 9] (.seq (.seq (.region C.n8) C.b0p) C.b0m)
def C.b0r_w := pC C.b0r.eq_1
def C.n7_b : LO := [
 X.m 11 1,
 X.m 12 2,
 X.o 13 (.call F.q2 [X.s 11, X.s 12]),
 X.m 10 13,
 X.o 14 (.extract (X.s 10) 0),
 X.o 15 (.extract (X.s 10) 1),
 X.m 8 14,
 X.m 9 15]
def C.n7 : LO := C.n7_b
def C.n7_w := pO C.n7.eq_1
def C.b0s : ICode := .keep [0, 1, 2] (.seq (.region C.n7) C.b0r)
def C.b0s_w := pC C.b0s.eq_1
def C.n6_b : LO := [
 X.o 6 (.move (.cst (.int .u32 0))),
 X.o 7 (.move (X.i 0))]
def C.n6 : LO := C.n6_b
def C.n6_w := pO C.n6.eq_1
def C.q0 : IFunc := ⟨3, [.slot 6, .slot 7], .seq (.region C.n6) C.b0s⟩
def C.q0_W := aI (aI (aI @C.pb_w @C.b0m_w) (aI @C.n9_w (aI @C.b0n_w @C.b0p_w))) (aI (aI @C.n8_w @C.b0r_w) (aI @C.n7_w (aI @C.b0s_w @C.n6_w)))
def C.q0_B := aI (aI @C.pb_b.eq_1 @C.n9_b.eq_1) (aI @C.n8_b.eq_1 (aI @C.n7_b.eq_1 @C.n6_b.eq_1))

def C.fw_b : LO := [
 X.o 20 (.bin .add (X.s 7) (X.i 1)),
 X.m 7 20]
def C.fw : LO := C.fw_b
def C.fw_w := pO C.fw.eq_1
def C.bm2 : ICode := .keep [0, 1, 6, 7] (.region C.fw)
def C.bm2_w := pC C.bm2.eq_1
def C.fv_b : LO := [
 X.m 10 1,
 X.m 11 4,
 X.m 12 0,
 X.o 13 (.nilchk (X.s 12)),
 X.o 14 (.fldAddr 0 (X.s 13)),
 X.o 15 (.load1 (X.s 14)),
 X.m 16 4,
 X.o 17 (.idxAddr 2 (X.s 15) (X.s 16)),
 X.o 18 (.loadN 2 (X.s 17)),
 X.o 19 (.callv (X.s 10) [X.s 11, X.s 18])]
def C.fv : LO := C.fv_b
def C.fv_w := pO C.fv.eq_1
def C.bm3 : ICode := .keep [0, 1, 4, 6, 7] (.region C.fv)
def C.bm3_w := pC C.bm3.eq_1
def C.ft_b : LO := [
 X.m 9 7,
 X.m 4 9]
def C.ft : LO := C.ft_b
def C.ft_w := pO C.ft.eq_1
def C.bm1 : ICode := .seq (.region C.ft) C.bm3
def C.bm1_w := pC C.bm1.eq_1
def C.bm4 : ICode := .keep [0, 1, 6, 7] (.seq (.block 1 C.bm1) C.bm2)
def C.bm4_w := pC C.bm4.eq_1
def C.bm5 : ICode := .keep [0, 1, 6, 7, 8] (.seq (.cond (X.s 8) .skip (.exit 0)) C.bm4)
def C.bm5_w := pC C.bm5.eq_1
def C.fs_b : LO := [
 X.o 8 (.bin .lss (X.s 7) (X.s 6))]
def C.fs : LO := C.fs_b
def C.fs_w := pO C.fs.eq_1
def C.b3j : ICode := .keep [0, 1, 6, 7] (.seq (.region C.fs) C.bm5)
def C.b3j_w := pC C.b3j.eq_1
def C.b3g : ICode := .loop C.b3j
def C.b3g_w := pC C.b3g.eq_1
def C.b3h : ICode := .keep [0, 1, 6, 7] (.block 0 C.b3g)
def C.b3h_w := pC C.b3h.eq_1
def C.sz_b : LO := [
 X.m 5 0,
 X.o 6 (.call F.q109 [X.s 5]),
 X.o 7 (.move (X.i 0))]
def C.sz : LO := C.sz_b
def C.sz_w := pO C.sz.eq_1
def C.q118 : IFunc := ⟨2, [], .seq (.region C.sz) C.b3h⟩
def C.q118_W := aI (aI (aI @C.fw_w (aI @C.bm2_w @C.fv_w)) (aI @C.bm3_w (aI @C.ft_w @C.bm1_w))) (aI (aI @C.bm4_w (aI @C.bm5_w @C.fs_w)) (aI @C.b3g_w (aI @C.b3h_w @C.sz_w)))
def C.q118_B := aI (aI @C.fw_b.eq_1 @C.fv_b.eq_1) (aI @C.ft_b.eq_1 (aI @C.fs_b.eq_1 @C.sz_b.eq_1))

def C.sm_b : LO := [
 X.o 7 (.load1 (X.s 2)),
 X.o 8 (.nilchk (X.s 7)),
 X.o 9 (.fldAddr 2 (X.s 8)),
 X.o 10 (.load1 (X.s 9)),
 X.m 11 0,
 X.o 12 (.load1 (X.s 2)),
 X.o 13 (.nilchk (X.s 12)),
 X.o 14 (.fldAddr 1 (X.s 13)),
 X.o 15 (.load1 (X.s 14)),
 X.m 16 0,
 X.o 17 (.idxAddr 1 (X.s 15) (X.s 16)),
 X.o 18 (.load1 (X.s 17)),
 X.o 19 (.idxAddr 1 (X.s 10) (X.s 11)),
 X.n (.store1 (X.s 19) (X.s 18))]
def C.sm : LO := C.sm_b
def C.sm_w := pO C.sm.eq_1
def C.b25 : ICode := .keep [0, 2, 6] (.cond (X.s 6) (.region C.sm) .skip)
def C.b25_w := pC C.b25.eq_1
def C.sl_b : LO := [
 X.o 5 (.fldAddr 1 (X.s 4)),
 X.o 6 (.load1 (X.s 5))]
def C.sl : LO := C.sl_b
def C.sl_w := pO C.sl.eq_1
def C.b26 : ICode := .keep [0, 2, 4] (.seq (.region C.sl) C.b25)
def C.b26_w := pC C.b26.eq_1
def C.sk_b : LO := [
 X.o 4 (.boxN (X.s 1))]
def C.sk : LO := C.sk_b
def C.sk_w := pO C.sk.eq_1
def C.q114 : IFunc := ⟨3, [], .seq (.region C.sk) C.b26⟩
def C.q114_W := aI (aI @C.sm_w @C.b25_w) (aI @C.sl_w (aI @C.b26_w @C.sk_w))
def C.q114_B := aI @C.sm_b.eq_1 (aI @C.sl_b.eq_1 @C.sk_b.eq_1)

def C.sd_b : LO := [
 X.o 21 (.fldAddr 0 (X.s 4)),
 X.o 22 (.load1 (X.s 21)),
 X.m 5 22]
def C.sd : LO := C.sd_b
def C.sd_w := pO C.sd.eq_1
def C.b2y : ICode := .keep [4] (.seq (.region C.sd) .ret)
def C.b2y_w := pC C.b2y.eq_1
def C.sc_b : LO := [
 X.o 14 (.load1 (X.s 2)),
 X.o 15 (.nilchk (X.s 14)),
 X.o 16 (.fldAddr 2 (X.s 15)),
 X.o 17 (.load1 (X.s 16)),
 X.m 18 0,
 X.o 19 (.idxAddr 1 (X.s 17) (X.s 18)),
 X.o 20 (.load1 (X.s 19)),
 X.m 5 20]
def C.sc : LO := C.sc_b
def C.sc_w := pO C.sc.eq_1
def C.b2q : ICode := .seq (.region C.sc) .ret
def C.b2q_w := pC C.b2q.eq_1
def C.b2z : ICode := .keep [0, 2, 4, 13] (.cond (X.s 13) C.b2q .skip)
def C.b2z_w := pC C.b2z.eq_1
def C.sb_b : LO := [
 X.o 6 (.load1 (X.s 2)),
 X.o 7 (.nilchk (X.s 6)),
 X.o 8 (.fldAddr 3 (X.s 7)),
 X.o 9 (.load1 (X.s 8)),
 X.m 10 9,
 X.t 10 11 (.fldAddr 1 (X.s 4)),
 X.t 10 12 (.load1 (X.s 11)),
 X.o 13 (.pick (X.s 10) (X.s 12) (.cst (.bool false)))]
def C.sb : LO := C.sb_b
def C.sb_w := pO C.sb.eq_1
def C.b20 : ICode := .keep [0, 2, 4] (.seq (.seq (.region C.sb) C.b2z) C.b2y)
def C.b20_w := pC C.b20.eq_1
def C.r9_b : LO := [
 X.o 4 (.boxN (X.s 1)),
 X.o 5 (.move (.cst (.int .u32 0)))]
def C.r9 : LO := C.r9_b
def C.r9_w := pO C.r9.eq_1
def C.q112 : IFunc := ⟨3, [.slot 5], .seq (.region C.r9) C.b20⟩
def C.q112_W := aI (aI (aI @C.sd_w @C.b2y_w) (aI @C.sc_w @C.b2q_w)) (aI (aI @C.b2z_w @C.sb_w) (aI @C.b20_w @C.r9_w))
def C.q112_B := aI (aI @C.sd_b.eq_1 @C.sc_b.eq_1) (aI @C.sb_b.eq_1 @C.r9_b.eq_1)

def C.bgl_b : LO := [
 X.m 73 8,
 X.m 2 73,
 X.o 3 (.move (X.i 0))]
def C.bgl : LO := C.bgl_b
def C.bgl_w := pO C.bgl.eq_1
def C.cdm : ICode := .keep [8] (.seq (.region C.bgl) .ret)
def C.cdm_w := pC C.cdm.eq_1
def C.bgj_b : LO := [
 X.o 72 (.bin .add (X.s 62) (X.i 1)),
 X.m 62 72]
def C.bgj : LO := C.bgj_b
def C.bgj_w := pO C.bgj.eq_1
def C.cdy : ICode := .keep [0, 5, 6, 7, 8, 60, 61, 62] (.region C.bgj)
def C.cdy_w := pC C.cdy.eq_1
def C.bgh_b : LO := [
 X.m 66 5,
 X.m 67 11,
 X.o 68 (.idxAddr 1 (X.s 66) (X.s 67)),
 X.o 69 (.load1 (X.s 68)),
 X.o 70 (.bin .sub (X.s 69) (X.i 1)),
 X.o 71 (.idxAddr 1 (X.s 66) (X.s 67)),
 X.n (.store1 (X.s 71) (X.s 70))]
def C.bgh : LO := C.bgh_b
def C.bgh_w := pO C.bgh.eq_1
def C.cd4 : ICode := .keep [0, 5, 6, 7, 8, 11, 60, 61, 62] (.region C.bgh)
def C.cd4_w := pC C.cd4.eq_1
def C.bgg_b : LO := [
 X.o 64 (.idxAddr 1 (X.s 60) (X.s 62)),
 X.o 65 (.load1 (X.s 64)),
 X.m 11 65]
def C.bgg : LO := C.bgg_b
def C.bgg_w := pO C.bgg.eq_1
def C.cdk : ICode := .seq (.region C.bgg) C.cd4
def C.cdk_w := pC C.cdk.eq_1
def C.cfb : ICode := .keep [0, 5, 6, 7, 8, 60, 61, 62] (.seq (.block 5 C.cdk) C.cdy)
def C.cfb_w := pC C.cfb.eq_1
def C.cfc : ICode := .keep [0, 5, 6, 7, 8, 60, 61, 62, 63] (.seq (.cond (X.s 63) .skip (.exit 4)) C.cfb)
def C.cfc_w := pC C.cfc.eq_1
def C.bgf_b : LO := [
 X.o 63 (.bin .lss (X.s 62) (X.s 61))]
def C.bgf : LO := C.bgf_b
def C.bgf_w := pO C.bgf.eq_1
def C.cln : ICode := .keep [0, 5, 6, 7, 8, 60, 61, 62] (.seq (.region C.bgf) C.cfc)
def C.cln_w := pC C.cln.eq_1
def C.cdl : ICode := .loop C.cln
def C.cdl_w := pC C.cdl.eq_1
def C.cfd : ICode := .keep [0, 5, 6, 7, 8, 60, 61, 62] (.block 4 C.cdl)
def C.cfd_w := pC C.cfd.eq_1
def C.bgd_b : LO := [
 X.m 57 6,
 X.m 58 9,
 X.o 59 (.idxAddr 1 (X.s 57) (X.s 58)),
 X.o 60 (.load1 (X.s 59)),
 X.o 61 (.len (X.s 60)),
 X.o 62 (.move (X.i 0))]
def C.bgd : LO := C.bgd_b
def C.bgd_w := pO C.bgd.eq_1
def C.cdn : ICode := .keep [0, 5, 6, 7, 8, 9] (.seq (.region C.bgd) C.cfd)
def C.cdn_w := pC C.cdn.eq_1
def C.bgc_b : LO := [
 X.m 53 8,
 X.m 54 9,
 X.o 55 (.buildSlice 1 1 [.int .i64 0] [(0, 1, X.s 54)]),
 X.o 56 (.append 1 8 (X.s 53) (X.s 55)),
 X.m 8 56]
def C.bgc : LO := C.bgc_b
def C.bgc_w := pO C.bgc.eq_1
def C.cdp : ICode := .keep [0, 5, 6, 7, 8, 9] (.seq (.region C.bgc) C.cdn)
def C.cdp_w := pC C.cdp.eq_1
def C.bgb_b : LO := [
 X.m 50 7,
 X.m 51 9,
 X.o 52 (.call F.q78 [X.s 50, X.s 51])]
def C.bgb : LO := C.bgb_b
def C.bgb_w := pO C.bgb.eq_1
def C.cdr : ICode := .keep [0, 5, 6, 7, 8, 9] (.seq (.region C.bgb) C.cdp)
def C.cdr_w := pC C.cdr.eq_1
def C.bf9_b : LO := [
 X.o 2 (.move (.cst (.nils))),
 X.o 3 (.move (X.i 5))]
def C.bf9 : LO := C.bf9_b
def C.bf9_w := pO C.bf9.eq_1
def C.cds : ICode := .seq (.region C.bf9) .ret
def C.cds_w := pC C.cds.eq_1
def C.cdt : ICode := .keep [0, 5, 6, 7, 8, 9, 49] (.cond (X.s 49) C.cds .skip)
def C.cdt_w := pC C.cdt.eq_1
def C.bf8_b : LO := [
 X.m 46 9,
 X.m 47 0,
 X.o 48 (.len (X.s 47)),
 X.o 49 (.bin .eql (X.s 46) (X.s 48))]
def C.bf8 : LO := C.bf8_b
def C.bf8_w := pO C.bf8.eq_1
def C.cdv : ICode := .keep [0, 5, 6, 7, 8, 9] (.seq (.seq (.region C.bf8) C.cdt) C.cdr)
def C.cdv_w := pC C.cdv.eq_1
def C.bf7_b : LO := [
 X.m 44 9,
 X.o 45 (.bin .add (X.s 44) (X.i 1)),
 X.m 9 45]
def C.bf7 : LO := C.bf7_b
def C.bf7_w := pO C.bf7.eq_1
def C.cdf : ICode := .region C.bf7
def C.cdf_w := pC C.cdf.eq_1
def C.cdw : ICode := .keep [0, 5, 6, 7, 8, 9] (.block 3 C.cdf)
def C.cdw_w := pC C.cdw.eq_1
def C.cdx : ICode := .keep [0, 5, 6, 7, 8, 9, 43] (.cond (X.s 43) .skip (.exit 2))
def C.cdx_w := pC C.cdx.eq_1
def C.bgv_b : LO := [
 X.m 28 9,
 X.m 29 0,
 X.o 30 (.len (X.s 29)),
 X.o 31 (.bin .lss (X.s 28) (X.s 30)),
 X.m 32 31,
 X.t 32 33 (.move (X.s 7)),
 X.t 32 34 (.move (X.s 9)),
 X.t 32 35 (.call F.q79 [X.s 33, X.s 34]),
 X.t 32 36 (.move (X.s 35)),
 X.f 36 37 (.move (X.s 5)),
 X.f 36 38 (.move (X.s 9)),
 X.f 36 39 (.idxAddr 1 (X.s 37) (X.s 38)),
 X.f 36 40 (.load1 (X.s 39)),
 X.f 36 41 (.bin .gtr (X.s 40) (X.i 0)),
 X.t 32 42 (.pick (X.s 36) (.cst (.bool true)) (X.s 41)),
 X.o 43 (.pick (X.s 32) (X.s 42) (.cst (.bool false)))]
def C.bgv : LO := C.bgv_b
def C.bgv_w := pO C.bgv.eq_1
def C.cll : ICode := .keep [0, 5, 6, 7, 8, 9] (.seq (.seq (.region C.bgv) C.cdx) C.cdw)
def C.cll_w := pC C.cll.eq_1
def C.cdg : ICode := .loop C.cll
def C.cdg_w := pC C.cdg.eq_1
def C.cdq : ICode := .keep [0, 5, 6, 7, 8, 9] (.seq (.block 2 C.cdg) C.cdv)
def C.cdq_w := pC C.cdq.eq_1
def C.bgt_b : LO := [
 X.o 9 (.move (X.i 0))]
def C.bgt : LO := C.bgt_b
def C.bgt_w := pO C.bgt.eq_1
def C.cdh : ICode := .seq (.region C.bgt) C.cdq
def C.cdh_w := pC C.cdh.eq_1
def C.cdz : ICode := .keep [0, 5, 6, 7, 8] (.block 1 C.cdh)
def C.cdz_w := pC C.cdz.eq_1
def C.cd0 : ICode := .keep [0, 5, 6, 7, 8, 27] (.cond (X.s 27) .skip (.exit 0))
def C.cd0_w := pC C.cd0.eq_1
def C.bgs_b : LO := [
 X.m 23 8,
 X.o 24 (.len (X.s 23)),
 X.m 25 0,
 X.o 26 (.len (X.s 25)),
 X.o 27 (.bin .lss (X.s 24) (X.s 26))]
def C.bgs : LO := C.bgs_b
def C.bgs_w := pO C.bgs.eq_1
def C.clm : ICode := .keep [0, 5, 6, 7, 8] (.seq (.seq (.region C.bgs) C.cd0) C.cdz)
def C.clm_w := pC C.clm.eq_1
def C.cdj : ICode := .loop C.clm
def C.cdj_w := pC C.cdj.eq_1
def C.cd1 : ICode := .keep [0, 5, 6, 7, 8] (.seq (.block 0 C.cdj) C.cdm)
def C.cd1_w := pC C.cd1.eq_1
def C.bgr_b : LO := [
 X.o 8 (.move (.cst (.nils)))]
def C.bgr : LO := C.bgr_b
def C.bgr_w := pO C.bgr.eq_1
def C.cd2 : ICode := .keep [0, 5, 6, 7] (.seq (.region C.bgr) C.cd1)
def C.cd2_w := pC C.cd2.eq_1
def C.bgp_b : LO := [
 X.o 22 (.makeMap none),
 X.m 7 22]
def C.bgp : LO := C.bgp_b
def C.bgp_w := pO C.bgp.eq_1
def C.cd3 : ICode := .keep [0, 5, 6] (.seq (.region C.bgp) C.cd2)
def C.cd3_w := pC C.cd3.eq_1
def C.bgn_b : LO := [
 X.m 18 0,
 X.o 19 (.call F.q77 [X.s 18]),
 X.m 17 19,
 X.o 20 (.extract (X.s 17) 0),
 X.o 21 (.extract (X.s 17) 1),
 X.m 5 20,
 X.m 6 21]
def C.bgn : LO := C.bgn_b
def C.bgn_w := pO C.bgn.eq_1
def C.cd5 : ICode := .keep [0] (.seq (.region C.bgn) C.cd3)
def C.cd5_w := pC C.cd5.eq_1
def C.bgm_b : LO := [
 X.m 16 4,
 X.o 2 (.move (.cst (.nils))),
 X.m 3 16]
def C.bgm : LO := C.bgm_b
def C.bgm_w := pO C.bgm.eq_1
def C.cd6 : ICode := .seq (.region C.bgm) .ret
def C.cd6_w := pC C.cd6.eq_1
def C.cd7 : ICode := .keep [0, 4, 15] (.cond (X.s 15) C.cd6 .skip)
def C.cd7_w := pC C.cd7.eq_1
def C.bgk_b : LO := [
 X.m 14 4,
 X.o 15 (.bin .neq (X.s 14) (X.i 0))]
def C.bgk : LO := C.bgk_b
def C.bgk_w := pO C.bgk.eq_1
def C.cd8 : ICode := .keep [0, 4] (.seq (.region C.bgk) C.cd7)
def C.cd8_w := pC C.cd8.eq_1
def C.bf6_b : LO := [
 X.m 12 0,
 X.o 13 (.call F.q80 [X.s 12]),
 X.m 4 13]
def C.bf6 : LO := C.bf6_b
def C.bf6_w := pO C.bf6.eq_1
def C.cd9 : ICode := .keep [0] (.seq (.seq (.region C.bf6) C.cd8) C.cd5)
def C.cd9_w := pC C.cd9.eq_1
def C.bf5_b : LO := [
 X.o 2 (.move (.cst (.nils))),
 X.o 3 (.move (X.i 0))]
def C.bf5 : LO := C.bf5_b
def C.bf5_w := pO C.bf5.eq_1
def C.q76 : IFunc := ⟨1, [.slot 2, .slot 3], .seq (.region C.bf5) C.cd9⟩
def C.q76_W := aI (aI (aI (aI (aI @C.bgl_w (aI @C.cdm_w @C.bgj_w)) (aI @C.cdy_w (aI @C.bgh_w @C.cd4_w))) (aI (aI @C.bgg_w (aI @C.cdk_w @C.cfb_w)) (aI (aI @C.cfc_w @C.bgf_w) (aI @C.cdl_w @C.cfd_w)))) (aI (aI (aI @C.bgd_w (aI @C.cdn_w @C.bgc_w)) (aI @C.cdp_w (aI @C.bgb_w @C.cdr_w))) (aI (aI @C.bf9_w (aI @C.cds_w @C.cdt_w)) (aI (aI @C.bf8_w @C.cdv_w) (aI @C.bf7_w @C.cdf_w))))) (aI (aI (aI (aI @C.cdw_w (aI @C.cdx_w @C.bgv_w)) (aI @C.cdg_w (aI @C.cdq_w @C.bgt_w))) (aI (aI @C.cdh_w (aI @C.cdz_w @C.cd0_w)) (aI (aI @C.bgs_w @C.cdj_w) (aI @C.cd1_w @C.bgr_w)))) (aI (aI (aI @C.cd2_w (aI @C.bgp_w @C.cd3_w)) (aI @C.bgn_w (aI @C.cd5_w @C.bgm_w))) (aI (aI @C.cd6_w (aI @C.cd7_w @C.bgk_w)) (aI (aI @C.cd8_w @C.bf6_w) (aI @C.cd9_w @C.bf5_w)))))
def C.q76_B := aI (aI (aI (aI @C.bgl_b.eq_1 @C.bgj_b.eq_1) (aI @C.bgh_b.eq_1 (aI @C.bgg_b.eq_1 @C.bgf_b.eq_1))) (aI (aI @C.bgd_b.eq_1 @C.bgc_b.eq_1) (aI @C.bgb_b.eq_1 (aI @C.bf9_b.eq_1 @C.bf8_b.eq_1)))) (aI (aI (aI @C.bf7_b.eq_1 @C.bgv_b.eq_1) (aI @C.bgt_b.eq_1 (aI @C.bgs_b.eq_1 @C.bgr_b.eq_1))) (aI (aI @C.bgp_b.eq_1 (aI @C.bgn_b.eq_1 @C.bgm_b.eq_1)) (aI @C.bgk_b.eq_1 (aI @C.bf6_b.eq_1 @C.bf5_b.eq_1))))

def C.sq_b : LO := [
 X.o 6 (.load1 (X.s 3)),
 X.o 7 (.nilchk (X.s 6)),
 X.o 8 (.fldAddr 1 (X.s 7)),
 X.o 9 (.load1 (X.s 8)),
 X.m 10 0,
 X.o 11 (.load1 (X.s 2)),
 X.m 12 0,
 X.o 13 (.loadN 2 (X.s 5)),
 ⟨some 14, .callv (X.s 11) [X.s 12, X.s 13], none, [⟨.load1 (X.s 3), 6, none⟩, ⟨.load1 (X.s 8), 9, none⟩], []⟩,
 X.o 15 (.idxAddr 1 (X.s 9) (X.s 10)),
 X.n (.store1 (X.s 15) (X.s 14))]
def C.sq : LO := C.sq_b
def C.sq_w := pO C.sq.eq_1
def C.b3f : ICode := .keep [0, 2, 3, 5] (.region C.sq)
def C.b3f_w := pC C.b3f.eq_1
def C.sy_b : LO := [
 X.o 5 (.boxN (X.s 1))]
def C.sy : LO := C.sy_b
def C.sy_w := pO C.sy.eq_1
def C.q117 : IFunc := ⟨4, [], .seq (.region C.sy) C.b3f⟩
def C.q117_W := aI @C.sq_w (aI @C.b3f_w @C.sy_w)
def C.q117_B := aI @C.sq_b.eq_1 @C.sy_b.eq_1

def C.bhv_b : LO := [
 X.o 2 (.move (X.i 0))]
def C.bhv : LO := C.bhv_b
def C.bhv_w := pO C.bhv.eq_1
def C.cgh : ICode := .keep [] (.seq (.region C.bhv) .ret)
def C.cgh_w := pC C.cgh.eq_1
def C.bht_b : LO := [
 X.o 31 (.bin .add (X.s 12) (X.i 1)),
 X.m 12 31]
def C.bht : LO := C.bht_b
def C.bht_w := pO C.bht.eq_1
def C.cgp : ICode := .keep [0, 10, 11, 12] (.region C.bht)
def C.cgp_w := pC C.cgp.eq_1
def C.bhs_b : LO := [
 X.o 30 (.bin .add (X.s 18) (X.i 1)),
 X.m 18 30]
def C.bhs : LO := C.bhs_b
def C.bhs_w := pO C.bhs.eq_1
def C.cgw : ICode := .keep [0, 10, 11, 12, 16, 17, 18] (.region C.bhs)
def C.cgw_w := pC C.cgw.eq_1
def C.bhr_b : LO := [
 X.o 2 (.move (X.i 4))]
def C.bhr : LO := C.bhr_b
def C.bhr_w := pO C.bhr.eq_1
def C.cgx : ICode := .seq (.region C.bhr) .ret
def C.cgx_w := pC C.cgx.eq_1
def C.cgy : ICode := .keep [0, 10, 11, 12, 16, 17, 18, 29] (.cond (X.s 29) C.cgx .skip)
def C.cgy_w := pC C.cgy.eq_1
def C.bh2_b : LO := [
 X.m 22 6,
 X.o 23 (.bin .lss (X.s 22) (X.i 0)),
 X.m 24 23,
 X.f 24 25 (.move (X.s 6)),
 X.f 24 26 (.move (X.s 0)),
 X.f 24 27 (.len (X.s 26)),
 X.f 24 28 (.bin .geq (X.s 25) (X.s 27)),
 X.o 29 (.pick (X.s 24) (.cst (.bool true)) (X.s 28))]
def C.bh2 : LO := C.bh2_b
def C.bh2_w := pO C.bh2.eq_1
def C.cgq : ICode := .keep [0, 6, 10, 11, 12, 16, 17, 18] (.seq (.region C.bh2) C.cgy)
def C.cgq_w := pC C.cgq.eq_1
def C.bh1_b : LO := [
 X.o 20 (.idxAddr 1 (X.s 16) (X.s 18)),
 X.o 21 (.load1 (X.s 20)),
 X.m 6 21]
def C.bh1 : LO := C.bh1_b
def C.bh1_w := pO C.bh1.eq_1
def C.cgg : ICode := .seq (.region C.bh1) C.cgq
def C.cgg_w := pC C.cgg.eq_1
def C.cgz : ICode := .keep [0, 10, 11, 12, 16, 17, 18] (.seq (.block 3 C.cgg) C.cgw)
def C.cgz_w := pC C.cgz.eq_1
def C.cg0 : ICode := .keep [0, 10, 11, 12, 16, 17, 18, 19] (.seq (.cond (X.s 19) .skip (.exit 2)) C.cgz)
def C.cg0_w := pC C.cg0.eq_1
def C.bh0_b : LO := [
 X.o 19 (.bin .lss (X.s 18) (X.s 17))]
def C.bh0 : LO := C.bh0_b
def C.bh0_w := pO C.bh0.eq_1
def C.cls : ICode := .keep [0, 10, 11, 12, 16, 17, 18] (.seq (.region C.bh0) C.cg0)
def C.cls_w := pC C.cls.eq_1
def C.cgc : ICode := .loop C.cls
def C.cgc_w := pC C.cgc.eq_1
def C.cgj : ICode := .keep [0, 10, 11, 12, 16, 17, 18] (.block 2 C.cgc)
def C.cgj_w := pC C.cgj.eq_1
def C.bhz_b : LO := [
 X.m 16 4,
 X.o 17 (.len (X.s 16)),
 X.o 18 (.move (X.i 0))]
def C.bhz : LO := C.bhz_b
def C.bhz_w := pO C.bhz.eq_1
def C.cgk : ICode := .keep [0, 4, 10, 11, 12] (.seq (.region C.bhz) C.cgj)
def C.cgk_w := pC C.cgk.eq_1
def C.bhq_b : LO := [
 X.o 14 (.idxAddr 1 (X.s 10) (X.s 12)),
 X.o 15 (.load1 (X.s 14)),
 X.m 4 15]
def C.bhq : LO := C.bhq_b
def C.bhq_w := pO C.bhq.eq_1
def C.cgd : ICode := .seq (.region C.bhq) C.cgk
def C.cgd_w := pC C.cgd.eq_1
def C.cgl : ICode := .keep [0, 10, 11, 12] (.seq (.block 1 C.cgd) C.cgp)
def C.cgl_w := pC C.cgl.eq_1
def C.cgm : ICode := .keep [0, 10, 11, 12, 13] (.seq (.cond (X.s 13) .skip (.exit 0)) C.cgl)
def C.cgm_w := pC C.cgm.eq_1
def C.bhy_b : LO := [
 X.o 13 (.bin .lss (X.s 12) (X.s 11))]
def C.bhy : LO := C.bhy_b
def C.bhy_w := pO C.bhy.eq_1
def C.clt : ICode := .keep [0, 10, 11, 12] (.seq (.region C.bhy) C.cgm)
def C.clt_w := pC C.clt.eq_1
def C.cgf : ICode := .loop C.clt
def C.cgf_w := pC C.cgf.eq_1
def C.cgn : ICode := .keep [0, 10, 11, 12] (.block 0 C.cgf)
def C.cgn_w := pC C.cgn.eq_1
def C.bhx_b : LO := [
 X.m 10 0,
 X.o 11 (.len (X.s 10)),
 X.o 12 (.move (X.i 0))]
def C.bhx : LO := C.bhx_b
def C.bhx_w := pO C.bhx.eq_1
def C.cgr : ICode := .keep [0] (.seq (.seq (.region C.bhx) C.cgn) C.cgh)
def C.cgr_w := pC C.cgr.eq_1
def C.bhw_b : LO := [
 X.o 2 (.move (X.i 1))]
def C.bhw : LO := C.bhw_b
def C.bhw_w := pO C.bhw.eq_1
def C.cgs : ICode := .seq (.region C.bhw) .ret
def C.cgs_w := pC C.cgs.eq_1
def C.cgt : ICode := .keep [0, 9] (.cond (X.s 9) C.cgs .skip)
def C.cgt_w := pC C.cgt.eq_1
def C.bhp_b : LO := [
 X.m 7 0,
 X.o 8 (.len (X.s 7)),
 X.o 9 (.bin .gtr (X.s 8) (X.i 100))]
def C.bhp : LO := C.bhp_b
def C.bhp_w := pO C.bhp.eq_1
def C.cgv : ICode := .keep [0] (.seq (.seq (.region C.bhp) C.cgt) C.cgr)
def C.cgv_w := pC C.cgv.eq_1
def C.bhn_b : LO := [
 X.o 2 (.move (X.i 0))]
def C.bhn : LO := C.bhn_b
def C.bhn_w := pO C.bhn.eq_1
def C.q80 : IFunc := ⟨1, [.slot 2], .seq (.region C.bhn) C.cgv⟩
def C.q80_W := aI (aI (aI (aI (aI @C.bhv_w @C.cgh_w) (aI @C.bht_w @C.cgp_w)) (aI (aI @C.bhs_w @C.cgw_w) (aI @C.bhr_w @C.cgx_w))) (aI (aI (aI @C.cgy_w @C.bh2_w) (aI @C.cgq_w @C.bh1_w)) (aI (aI @C.cgg_w @C.cgz_w) (aI @C.cg0_w (aI @C.bh0_w @C.cgc_w))))) (aI (aI (aI (aI @C.cgj_w @C.bhz_w) (aI @C.cgk_w @C.bhq_w)) (aI (aI @C.cgd_w @C.cgl_w) (aI @C.cgm_w (aI @C.bhy_w @C.cgf_w)))) (aI (aI (aI @C.cgn_w @C.bhx_w) (aI @C.cgr_w @C.bhw_w)) (aI (aI @C.cgs_w @C.cgt_w) (aI @C.bhp_w (aI @C.cgv_w @C.bhn_w)))))
def C.q80_B := aI (aI (aI @C.bhv_b.eq_1 (aI @C.bht_b.eq_1 @C.bhs_b.eq_1)) (aI (aI @C.bhr_b.eq_1 @C.bh2_b.eq_1) (aI @C.bh1_b.eq_1 @C.bh0_b.eq_1))) (aI (aI @C.bhz_b.eq_1 (aI @C.bhq_b.eq_1 @C.bhy_b.eq_1)) (aI (aI @C.bhx_b.eq_1 @C.bhw_b.eq_1) (aI @C.bhp_b.eq_1 @C.bhn_b.eq_1)))

def C.bg3_b : LO := [
 X.m 53 2,
 X.m 54 3,
 X.m 2 53,
 X.m 3 54]
def C.bg3 : LO := C.bg3_b
def C.bg3_w := pO C.bg3.eq_1
def C.cfk : ICode := .keep [2, 3] (.seq (.region C.bg3) .ret)
def C.cfk_w := pC C.cfk.eq_1
def C.bg2_b : LO := [
 X.o 52 (.bin .add (X.s 17) (X.i 1)),
 X.m 17 52]
def C.bg2 : LO := C.bg2_b
def C.bg2_w := pO C.bg2.eq_1
def C.cfv : ICode := .keep [2, 3, 15, 16, 17] (.region C.bg2)
def C.cfv_w := pC C.cfv.eq_1
def C.bg1_b : LO := [
 X.o 51 (.bin .add (X.s 25) (X.i 1)),
 X.m 25 51]
def C.bg1 : LO := C.bg1_b
def C.bg1_w := pO C.bg1.eq_1
def C.cfz : ICode := .keep [2, 3, 4, 6, 15, 16, 17, 23, 24, 25] (.region C.bg1)
def C.cfz_w := pC C.cfz.eq_1
def C.bg0_b : LO := [
 X.m 41 3,
 X.m 42 8,
 X.m 43 3,
 X.m 44 8,
 X.o 45 (.idxAddr 1 (X.s 43) (X.s 44)),
 X.o 46 (.load1 (X.s 45)),
 X.m 47 4,
 X.o 48 (.buildSlice 1 1 [.int .i64 0] [(0, 1, X.s 47)]),
 X.o 49 (.append 1 8 (X.s 46) (X.s 48)),
 X.o 50 (.idxAddr 1 (X.s 41) (X.s 42)),
 X.n (.store1 (X.s 50) (X.s 49))]
def C.bg0 : LO := C.bg0_b
def C.bg0_w := pO C.bg0.eq_1
def C.cf0 : ICode := .keep [2, 3, 4, 6, 8, 15, 16, 17, 23, 24, 25] (.region C.bg0)
def C.cf0_w := pC C.cf0.eq_1
def C.bgz_b : LO := [
 X.m 35 2,
 X.m 36 4,
 X.o 37 (.idxAddr 1 (X.s 35) (X.s 36)),
 X.o 38 (.load1 (X.s 37)),
 X.o 39 (.bin .add (X.s 38) (X.i 1)),
 X.o 40 (.idxAddr 1 (X.s 35) (X.s 36)),
 X.n (.store1 (X.s 40) (X.s 39))]
def C.bgz : LO := C.bgz_b
def C.bgz_w := pO C.bgz.eq_1
def C.cf1 : ICode := .keep [2, 3, 4, 6, 8, 15, 16, 17, 23, 24, 25] (.seq (.region C.bgz) C.cf0)
def C.cf1_w := pC C.cf1.eq_1
def C.bgq_b : LO := [
 X.m 32 6,
 X.m 33 8,
 X.o 34 (.call F.q78 [X.s 32, X.s 33])]
def C.bgq : LO := C.bgq_b
def C.bgq_w := pO C.bgq.eq_1
def C.cf2 : ICode := .keep [2, 3, 4, 6, 8, 15, 16, 17, 23, 24, 25] (.seq (.region C.bgq) C.cf1)
def C.cf2_w := pC C.cf2.eq_1
def C.cf3 : ICode := .keep [2, 3, 4, 6, 8, 15, 16, 17, 23, 24, 25, 31] (.cond (X.s 31) (.exit 3) .skip)
def C.cf3_w := pC C.cf3.eq_1
def C.bgy_b : LO := [
 X.m 29 6,
 X.m 30 8,
 X.o 31 (.call F.q79 [X.s 29, X.s 30])]
def C.bgy : LO := C.bgy_b
def C.bgy_w := pO C.bgy.eq_1
def C.cf4 : ICode := .keep [2, 3, 4, 6, 8, 15, 16, 17, 23, 24, 25] (.seq (.seq (.region C.bgy) C.cf3) C.cf2)
def C.cf4_w := pC C.cf4.eq_1
def C.bhc_b : LO := [
 X.o 27 (.idxAddr 1 (X.s 23) (X.s 25)),
 X.o 28 (.load1 (X.s 27)),
 X.m 8 28]
def C.bhc : LO := C.bhc_b
def C.bhc_w := pO C.bhc.eq_1
def C.cfj : ICode := .seq (.region C.bhc) C.cf4
def C.cfj_w := pC C.cfj.eq_1
def C.cfl : ICode := .keep [2, 3, 4, 6, 15, 16, 17, 23, 24, 25] (.seq (.block 3 C.cfj) C.cfz)
def C.cfl_w := pC C.cfl.eq_1
def C.cfm : ICode := .keep [2, 3, 4, 6, 15, 16, 17, 23, 24, 25, 26] (.seq (.cond (X.s 26) .skip (.exit 2)) C.cfl)
def C.cfm_w := pC C.cfm.eq_1
def C.bhb_b : LO := [
 X.o 26 (.bin .lss (X.s 25) (X.s 24))]
def C.bhb : LO := C.bhb_b
def C.bhb_w := pO C.bhb.eq_1
def C.clp : ICode := .keep [2, 3, 4, 6, 15, 16, 17, 23, 24, 25] (.seq (.region C.bhb) C.cfm)
def C.clp_w := pC C.clp.eq_1
def C.cff : ICode := .loop C.clp
def C.cff_w := pC C.cff.eq_1
def C.cfn : ICode := .keep [2, 3, 4, 6, 15, 16, 17, 23, 24, 25] (.block 2 C.cff)
def C.cfn_w := pC C.cfn.eq_1
def C.bg9_b : LO := [
 X.m 23 5,
 X.o 24 (.len (X.s 23)),
 X.o 25 (.move (X.i 0))]
def C.bg9 : LO := C.bg9_b
def C.bg9_w := pO C.bg9.eq_1
def C.cfp : ICode := .keep [2, 3, 4, 5, 6, 15, 16, 17] (.seq (.region C.bg9) C.cfn)
def C.cfp_w := pC C.cfp.eq_1
def C.bg8_b : LO := [
 X.o 22 (.makeMap none),
 X.m 6 22]
def C.bg8 : LO := C.bg8_b
def C.bg8_w := pO C.bg8.eq_1
def C.cfr : ICode := .keep [2, 3, 4, 5, 15, 16, 17] (.seq (.region C.bg8) C.cfp)
def C.cfr_w := pC C.cfr.eq_1
def C.bg7_b : LO := [
 X.m 19 17,
 X.o 20 (.idxAddr 1 (X.s 15) (X.s 17)),
 X.o 21 (.load1 (X.s 20)),
 X.m 4 19,
 X.m 5 21]
def C.bg7 : LO := C.bg7_b
def C.bg7_w := pO C.bg7.eq_1
def C.cfg : ICode := .seq (.region C.bg7) C.cfr
def C.cfg_w := pC C.cfg.eq_1
def C.cfs : ICode := .keep [2, 3, 15, 16, 17] (.seq (.block 1 C.cfg) C.cfv)
def C.cfs_w := pC C.cfs.eq_1
def C.cft : ICode := .keep [2, 3, 15, 16, 17, 18] (.seq (.cond (X.s 18) .skip (.exit 0)) C.cfs)
def C.cft_w := pC C.cft.eq_1
def C.bg6_b : LO := [
 X.o 18 (.bin .lss (X.s 17) (X.s 16))]
def C.bg6 : LO := C.bg6_b
def C.bg6_w := pO C.bg6.eq_1
def C.clr : ICode := .keep [2, 3, 15, 16, 17] (.seq (.region C.bg6) C.cft)
def C.clr_w := pC C.clr.eq_1
def C.cfh : ICode := .loop C.clr
def C.cfh_w := pC C.cfh.eq_1
def C.cfw : ICode := .keep [2, 3, 15, 16, 17] (.block 0 C.cfh)
def C.cfw_w := pC C.cfw.eq_1
def C.bg5_b : LO := [
 X.m 15 0,
 X.o 16 (.len (X.s 15)),
 X.o 17 (.move (X.i 0))]
def C.bg5 : LO := C.bg5_b
def C.bg5_w := pO C.bg5.eq_1
def C.cfx : ICode := .keep [0, 2, 3] (.seq (.seq (.region C.bg5) C.cfw) C.cfk)
def C.cfx_w := pC C.cfx.eq_1
def C.bg4_b : LO := [
 X.m 12 0,
 X.o 13 (.len (X.s 12)),
 X.o 14 (.makeSlice 1 24 [.nils] (X.s 13) (X.s 13)),
 X.m 3 14]
def C.bg4 : LO := C.bg4_b
def C.bg4_w := pO C.bg4.eq_1
def C.cfy : ICode := .keep [0, 2] (.seq (.region C.bg4) C.cfx)
def C.cfy_w := pC C.cfy.eq_1
def C.bgx_b : LO := [
 X.m 9 0,
 X.o 10 (.len (X.s 9)),
 X.o 11 (.makeSlice 1 8 [.int .i64 0] (X.s 10) (X.s 10)),
 X.m 2 11]
def C.bgx : LO := C.bgx_b
def C.bgx_w := pO C.bgx.eq_1
def C.cfq : ICode := .keep [0] (.seq (.region C.bgx) C.cfy)
def C.cfq_w := pC C.cfq.eq_1
def C.bgw_b : LO := [
 X.o 2 (.move (.cst (.nils))),
 X.o 3 (.move (.cst (.nils)))]
def C.bgw : LO := C.bgw_b
def C.bgw_w := pO C.bgw.eq_1
def C.q77 : IFunc := ⟨1, [.slot 2, .slot 3], .seq (.region C.bgw) C.cfq⟩
def C.q77_W := aI (aI (aI (aI (aI @C.bg3_w @C.cfk_w) (aI @C.bg2_w (aI @C.cfv_w @C.bg1_w))) (aI (aI @C.cfz_w @C.bg0_w) (aI @C.cf0_w (aI @C.bgz_w @C.cf1_w)))) (aI (aI (aI @C.bgq_w @C.cf2_w) (aI @C.cf3_w (aI @C.bgy_w @C.cf4_w))) (aI (aI @C.bhc_w @C.cfj_w) (aI @C.cfl_w (aI @C.cfm_w @C.bhb_w))))) (aI (aI (aI (aI @C.cff_w @C.cfn_w) (aI @C.bg9_w (aI @C.cfp_w @C.bg8_w))) (aI (aI @C.cfr_w @C.bg7_w) (aI @C.cfg_w (aI @C.cfs_w @C.cft_w)))) (aI (aI (aI @C.bg6_w @C.cfh_w) (aI @C.cfw_w (aI @C.bg5_w @C.cfx_w))) (aI (aI @C.bg4_w @C.cfy_w) (aI @C.bgx_w (aI @C.cfq_w @C.bgw_w)))))
def C.q77_B := aI (aI (aI (aI @C.bg3_b.eq_1 @C.bg2_b.eq_1) (aI @C.bg1_b.eq_1 @C.bg0_b.eq_1)) (aI (aI @C.bgz_b.eq_1 @C.bgq_b.eq_1) (aI @C.bgy_b.eq_1 @C.bhc_b.eq_1))) (aI (aI (aI @C.bhb_b.eq_1 @C.bg9_b.eq_1) (aI @C.bg8_b.eq_1 @C.bg7_b.eq_1)) (aI (aI @C.bg6_b.eq_1 @C.bg5_b.eq_1) (aI @C.bg4_b.eq_1 (aI @C.bgx_b.eq_1 @C.bgw_b.eq_1))))

def C.bhh_b : LO := [
 X.m 13 6,
 X.m 4 13]
def C.bhh : LO := C.bhh_b
def C.bhh_w := pO C.bhh.eq_1
def C.cf5 : ICode := .keep [6] (.seq (.region C.bhh) .ret)
def C.cf5_w := pC C.cf5.eq_1
def C.bhg_b : LO := [
 X.m 8 0,
 X.m 9 1,
 X.o 10 (.lookup (.agg []) true (X.s 8) (X.s 9)),
 X.m 7 10,
 X.o 11 (.extract (X.s 7) 0),
 X.o 12 (.extract (X.s 7) 1),
 X.o 5 (.alloc []),
 X.n (.storeN 0 (X.s 5) (X.s 11)),
 X.m 6 12]
def C.bhg : LO := C.bhg_b
def C.bhg_w := pO C.bhg.eq_1
def C.cf6 : ICode := .keep [0, 1] (.seq (.region C.bhg) C.cf5)
def C.cf6_w := pC C.cf6.eq_1
def C.bhf_b : LO := [
 X.o 4 (.move (.cst (.bool false)))]
def C.bhf : LO := C.bhf_b
def C.bhf_w := pO C.bhf.eq_1
def C.q79 : IFunc := ⟨2, [.slot 4], .seq (.region C.bhf) C.cf6⟩
def C.q79_W := aI (aI @C.bhh_w @C.cf5_w) (aI @C.bhg_w (aI @C.cf6_w @C.bhf_w))
def C.q79_B := aI @C.bhh_b.eq_1 (aI @C.bhg_b.eq_1 @C.bhf_b.eq_1)

def C.bhd_b : LO := [
 X.m 4 0,
 X.m 5 1,
 X.o 6 (.build [] []),
 X.n (.mapSet (X.s 4) (X.s 5) (X.s 6))]
def C.bhd : LO := C.bhd_b
def C.bhd_w := pO C.bhd.eq_1
def C.q78 : IFunc := ⟨2, [], .region C.bhd⟩
def C.q78_W := @C.bhd_w
def C.q78_B := @C.bhd_b.eq_1

def C.z0 := aI @C.fg_b.eq_1 (aI @C.fl_b.eq_1 (aI @C.fm_b.eq_1 (aI @C.fn_b.eq_1 @C.fp_b.eq_1)))
def C.z1 := aI @C.ff_b.eq_1 (aI @C.fh_b.eq_1 (aI @C.fj_b.eq_1 @C.fk_b.eq_1))
def C.z2 := aI @C.fs_b.eq_1 (aI @C.ft_b.eq_1 (aI @C.fv_b.eq_1 @C.fw_b.eq_1))
def C.z3 := aI @C.f0_b.eq_1 (aI @C.f1_b.eq_1 (aI @C.f2_b.eq_1 @C.f3_b.eq_1))
def C.z4 := aI @C.f6_b.eq_1 (aI @C.f7_b.eq_1 @C.f8_b.eq_1)
def C.z5 := aI @C.gg_b.eq_1 @C.gh_b.eq_1
def C.z6 := aI @C.gj_b.eq_1 @C.gk_b.eq_1
def C.z7 := aI @C.gl_b.eq_1 @C.gm_b.eq_1
def C.z8 := aI @C.gr_b.eq_1 (aI @C.gs_b.eq_1 (aI @C.h4_b.eq_1 @C.h5_b.eq_1))
def C.z9 := aI @C.gt_b.eq_1 @C.gv_b.eq_1
def C.z10 := aI @C.gw_b.eq_1 (aI @C.gx_b.eq_1 (aI @C.gy_b.eq_1 (aI @C.gq_b.eq_1 (aI @C.gz_b.eq_1 (aI @C.g1_b.eq_1 (aI @C.g2_b.eq_1 (aI @C.g3_b.eq_1 (aI @C.g4_b.eq_1 @C.g5_b.eq_1))))))))
def C.z11 := aI @C.gp_b.eq_1 (aI @C.g0_b.eq_1 (aI @C.hc_b.eq_1 @C.h3_b.eq_1))
def C.z12 := aI @C.g6_b.eq_1 @C.g7_b.eq_1
def C.z13 := aI @C.g8_b.eq_1 @C.g9_b.eq_1
def C.z14 := aI @C.hb_b.eq_1 (aI @C.hd_b.eq_1 @C.hf_b.eq_1)
def C.z15 := aI @C.hg_b.eq_1 @C.hh_b.eq_1
def C.z16 := aI @C.hj_b.eq_1 @C.hk_b.eq_1
def C.z17 := aI @C.hl_b.eq_1 @C.hm_b.eq_1
def C.z18 := aI @C.hn_b.eq_1 @C.hp_b.eq_1
def C.z19 := aI @C.hs_b.eq_1 (aI @C.ht_b.eq_1 (aI @C.hv_b.eq_1 (aI @C.hw_b.eq_1 (aI @C.hx_b.eq_1 (aI @C.hy_b.eq_1 (aI @C.hq_b.eq_1 (aI @C.hz_b.eq_1 @C.h0_b.eq_1)))))))
def C.z20 := aI @C.hr_b.eq_1 (aI @C.h1_b.eq_1 @C.h2_b.eq_1)
def C.z21 := aI @C.h8_b.eq_1 @C.h9_b.eq_1
def C.z22 := aI @C.jc_b.eq_1 (aI @C.jd_b.eq_1 (aI @C.jf_b.eq_1 @C.jg_b.eq_1))
def C.z23 := aI @C.jh_b.eq_1 (aI @C.jj_b.eq_1 @C.jk_b.eq_1)
def C.z24 := aI @C.jl_b.eq_1 @C.jm_b.eq_1
def C.z25 := aI @C.jp_b.eq_1 @C.jr_b.eq_1
def C.z26 := aI @C.jt_b.eq_1 @C.jv_b.eq_1
def C.z27 := aI @C.jy_b.eq_1 (aI @C.jq_b.eq_1 (aI @C.jz_b.eq_1 (aI @C.j0_b.eq_1 @C.j9_b.eq_1)))
def C.z28 := aI @C.j1_b.eq_1 (aI @C.j2_b.eq_1 (aI @C.j6_b.eq_1 (aI @C.j7_b.eq_1 @C.j8_b.eq_1)))
def C.z29 := aI @C.jx_b.eq_1 (aI @C.j3_b.eq_1 (aI @C.j4_b.eq_1 @C.j5_b.eq_1))
def C.z30 := aI @C.kb_b.eq_1 @C.kc_b.eq_1
def C.z31 := aI @C.kd_b.eq_1 @C.kf_b.eq_1
def C.z32 := aI @C.kg_b.eq_1 @C.kh_b.eq_1
def C.z33 := aI @C.kj_b.eq_1 @C.kk_b.eq_1
def C.z34 := aI @C.kl_b.eq_1 (aI @C.km_b.eq_1 (aI @C.kn_b.eq_1 (aI @C.kp_b.eq_1 (aI @C.kr_b.eq_1 (aI @C.ks_b.eq_1 (aI @C.kt_b.eq_1 (aI @C.kv_b.eq_1 @C.kw_b.eq_1)))))))
def C.z35 := aI @C.mf_b.eq_1 (aI @C.mg_b.eq_1 @C.mj_b.eq_1)
def C.z36 := aI @C.mm_b.eq_1 (aI @C.mn_b.eq_1 @C.ms_b.eq_1)
def C.z37 := aI @C.my_b.eq_1 (aI @C.mq_b.eq_1 @C.mz_b.eq_1)
def C.z38 := aI @C.m0_b.eq_1 (aI @C.m1_b.eq_1 (aI @C.m2_b.eq_1 (aI @C.m3_b.eq_1 @C.m4_b.eq_1)))
def C.z39 := aI @C.m6_b.eq_1 (aI @C.m7_b.eq_1 (aI @C.m8_b.eq_1 (aI @C.m9_b.eq_1 (aI @C.m5_b.eq_1 (aI @C.nc_b.eq_1 (aI @C.nd_b.eq_1 (aI @C.nf_b.eq_1 (aI @C.ng_b.eq_1 (aI @C.nh_b.eq_1 (aI @C.nj_b.eq_1 (aI @C.nk_b.eq_1 @C.nl_b.eq_1)))))))))))
def C.z40 := aI @C.nm_b.eq_1 (aI @C.nn_b.eq_1 (aI @C.np_b.eq_1 (aI @C.nr_b.eq_1 (aI @C.ns_b.eq_1 @C.nt_b.eq_1))))
def C.z41 := aI @C.bmm_w (aI @C.bmn_w (aI @C.bmr_w (aI @C.bmp_w (aI @C.bmy_w (aI @C.bmq_w (aI @C.bmz_w (aI @C.bm0_w (aI @C.fg_w (aI @C.fl_w (aI @C.fm_w (aI @C.fn_w @C.fp_w)))))))))))
def C.z42 := aI @C.bms_w (aI @C.bmt_w (aI @C.bmv_w (aI @C.bmw_w (aI @C.bmx_w (aI @C.ff_w (aI @C.fh_w (aI @C.fj_w @C.fk_w)))))))
def C.z43 := aI @C.bm1_w (aI @C.bm2_w (aI @C.bm3_w (aI @C.bm4_w (aI @C.bm5_w (aI @C.b3j_w (aI @C.fs_w (aI @C.ft_w (aI @C.fv_w @C.fw_w))))))))
def C.z44 := aI @C.bm6_w (aI @C.dk_w @C.dl_w)
def C.z45 := aI @C.bm7_w (aI @C.bnb_w (aI @C.bnc_w (aI @C.bnd_w (aI @C.bnf_w (aI @C.f0_w (aI @C.f1_w (aI @C.f2_w @C.f3_w)))))))
def C.z46 := aI @C.bnn_w (aI @C.bnp_w (aI @C.bnr_w (aI @C.bns_w (aI @C.f6_w (aI @C.f7_w @C.f8_w)))))
def C.z47 := aI @C.bny_w (aI @C.bnq_w (aI @C.bnz_w (aI @C.bn0_w (aI @C.bn1_w (aI @C.dm_w (aI @C.dn_w (aI @C.dp_w @C.dr_w)))))))
def C.z48 := aI @C.bn6_w (aI @C.bn9_w (aI @C.blr_w @C.ds_w))
def C.z49 := aI @C.bn7_w (aI @C.bp3_w (aI @C.bp4_w (aI @C.gj_w @C.gk_w)))
def C.z50 := aI @C.bpb_w (aI @C.bpc_w (aI @C.bpd_w (aI @C.cl_w @C.cm_w)))
def C.z51 := aI @C.bpf_w @C.b4_w
def C.z52 := aI @C.bpg_w @C.ck_w
def C.z53 := aI @C.bph_w @C.cj_w
def C.z54 := aI @C.bn8_w @C.b5_w
def C.z55 := aI @C.bpk_w @C.ch_w
def C.z56 := aI @C.bpl_w @C.cg_w
def C.z57 := aI @C.bpm_w @C.cd_w
def C.z58 := aI @C.bpn_w @C.b3_w
def C.z59 := aI @C.bpp_w (aI @C.bpr_w (aI @C.bps_w (aI @C.cr_w @C.cs_w)))
def C.z60 := aI @C.bpj_w @C.bv_w
def C.z61 := aI @C.bpv_w @C.b6_w
def C.z62 := aI @C.bpw_w (aI @C.bpx_w (aI @C.bpy_w (aI @C.dt_w @C.dv_w)))
def C.z63 := aI @C.bpz_w @C.cn_w
def C.z64 := aI @C.bp0_w (aI @C.gg_w @C.gh_w)
def C.z65 := aI @C.bpt_w (aI @C.bp1_w (aI @C.bp2_w (aI @C.gl_w @C.gm_w)))
def C.z66 := aI @C.bp5_w (aI @C.brk_w (aI @C.brl_w (aI @C.brm_w (aI @C.brn_w (aI @C.brp_w (aI @C.bry_w (aI @C.br3_w (aI @C.bsd_w (aI @C.bsm_w (aI @C.bsv_w (aI @C.bs0_w (aI @C.hs_w (aI @C.ht_w (aI @C.hv_w (aI @C.hw_w (aI @C.hx_w (aI @C.hy_w (aI @C.hq_w (aI @C.hz_w @C.h0_w)))))))))))))))))))
def C.z67 := aI @C.bp6_w (aI @C.t4_w (aI @C.brt_w (aI @C.hn_w @C.hp_w)))
def C.z68 := aI @C.bp7_w (aI @C.brs_w (aI @C.brv_w (aI @C.bly_w (aI @C.hl_w @C.hm_w))))
def C.z69 := aI @C.bp8_w (aI @C.brw_w (aI @C.t5_w (aI @C.hj_w @C.hk_w)))
def C.z70 := aI @C.bp9_w (aI @C.brx_w (aI @C.brq_w (aI @C.blq_w (aI @C.hg_w @C.hh_w))))
def C.z71 := aI @C.brb_w (aI @C.brz_w (aI @C.t6_w (aI @C.g8_w @C.g9_w)))
def C.z72 := aI @C.brc_w (aI @C.br2_w (aI @C.br4_w (aI @C.bl0_w (aI @C.g6_w @C.g7_w))))
def C.z73 := aI @C.brd_w (aI @C.br6_w (aI @C.br7_w (aI @C.br8_w (aI @C.br9_w (aI @C.bsb_w (aI @C.bsc_w (aI @C.bsf_w (aI @C.bsg_w (aI @C.bsh_w (aI @C.bsj_w (aI @C.bl1_w (aI @C.gw_w (aI @C.gx_w (aI @C.gy_w (aI @C.gq_w (aI @C.gz_w (aI @C.g1_w (aI @C.g2_w (aI @C.g3_w (aI @C.g4_w @C.g5_w))))))))))))))))))))
def C.z74 := aI @C.brf_w (aI @C.br5_w (aI @C.t7_w (aI @C.gt_w @C.gv_w)))
def C.z75 := aI @C.brg_w (aI @C.bsl_w (aI @C.bsn_w (aI @C.bsp_w (aI @C.bsr_w (aI @C.t8_w (aI @C.gr_w (aI @C.gs_w (aI @C.h4_w @C.h5_w))))))))
def C.z76 := aI @C.brh_w (aI @C.brj_w (aI @C.bss_w (aI @C.bst_w (aI @C.bsw_w (aI @C.bsx_w (aI @C.hr_w (aI @C.h1_w @C.h2_w)))))))
def C.z77 := aI @C.brr_w @C.bh_w
def C.z78 := aI @C.blx_w @C.bg_w
def C.z79 := aI @C.br0_w (aI @C.br1_w (aI @C.blz_w (aI @C.hb_w (aI @C.hd_w @C.hf_w))))
def C.z80 := aI @C.bsk_w @C.bf_w
def C.z81 := aI @C.bl2_w (aI @C.bsy_w (aI @C.bsq_w (aI @C.bsz_w (aI @C.gp_w (aI @C.g0_w (aI @C.hc_w @C.h3_w))))))
def C.z82 := aI @C.bs1_w (aI @C.btf_w (aI @C.btg_w (aI @C.bth_w (aI @C.jh_w (aI @C.jj_w @C.jk_w)))))
def C.z83 := aI @C.bs2_w (aI @C.btk_w (aI @C.vm_w @C.cz_w))
def C.z84 := aI @C.bs3_w (aI @C.btl_w (aI @C.btm_w (aI @C.btn_w (aI @C.btp_w (aI @C.btr_w (aI @C.jc_w (aI @C.jd_w (aI @C.jf_w @C.jg_w))))))))
def C.z85 := aI @C.bs6_w (aI @C.btv_w (aI @C.btw_w (aI @C.h8_w @C.h9_w)))
def C.z86 := aI @C.bs5_w (aI @C.btj_w (aI @C.btq_w (aI @C.jp_w @C.jr_w)))
def C.z87 := aI @C.bs8_w (aI @C.bt3_w (aI @C.bt4_w (aI @C.c1_w @C.c2_w)))
def C.z88 := aI @C.btc_w (aI @C.btd_w (aI @C.vl_w (aI @C.jl_w @C.jm_w)))
def C.z89 := aI @C.n2_w @C.bw_w
def C.z90 := aI @C.btt_w @C.cy_w
def C.z91 := aI @C.btz_w @C.bp_w
def C.z92 := aI @C.bt0_w (aI @C.bt1_w (aI @C.bt2_w (aI @C.jt_w @C.jv_w)))
def C.z93 := aI @C.bt5_w @C.bm_w
def C.z94 := aI @C.bt9_w (aI @C.bvb_w (aI @C.bvf_w (aI @C.bvg_w (aI @C.bvh_w (aI @C.bl7_w (aI @C.bvd_w (aI @C.bvl_w (aI @C.j1_w (aI @C.j2_w (aI @C.j6_w (aI @C.j7_w @C.j8_w)))))))))))
def C.z95 := aI @C.bvc_w (aI @C.bvr_w (aI @C.bvs_w (aI @C.bvt_w (aI @C.bvv_w (aI @C.bl8_w (aI @C.jy_w (aI @C.jq_w (aI @C.jz_w (aI @C.j0_w @C.j9_w)))))))))
def C.z96 := aI @C.bl6_w @C.bx_w
def C.z97 := aI @C.bvj_w (aI @C.bvk_w (aI @C.bvm_w (aI @C.bvn_w (aI @C.bvp_w (aI @C.jx_w (aI @C.j3_w (aI @C.j4_w @C.j5_w)))))))
def C.z98 := aI @C.bvw_w (aI @C.bvx_w (aI @C.bvy_w (aI @C.bvq_w (aI @C.bv0_w (aI @C.bv1_w (aI @C.bv2_w (aI @C.bv3_w (aI @C.bv4_w (aI @C.bv5_w (aI @C.w4_w (aI @C.bv6_w (aI @C.bv7_w (aI @C.bv8_w (aI @C.bv9_w (aI @C.kl_w (aI @C.km_w (aI @C.kn_w (aI @C.kp_w (aI @C.kr_w (aI @C.ks_w (aI @C.kt_w (aI @C.kv_w @C.kw_w))))))))))))))))))))))
def C.z99 := aI @C.bvz_w (aI @C.bwg_w (aI @C.w5_w (aI @C.kd_w @C.kf_w)))
def C.z100 := aI @C.bwb_w (aI @C.bwc_w (aI @C.kb_w @C.kc_w))
def C.z101 := aI @C.bwd_w (aI @C.by_w (aI @C.kj_w @C.kk_w))
def C.z102 := aI @C.bwf_w (aI @C.br_w (aI @C.kg_w @C.kh_w))
def C.z103 := aI @C.bx9_w (aI @C.byb_w (aI @C.byc_w (aI @C.byd_w (aI @C.dw_w (aI @C.dx_w (aI @C.dy_w @C.dq_w))))))
def C.z104 := aI @C.byg_w (aI @C.byw_w (aI @C.byx_w (aI @C.d1_w @C.d2_w)))
def C.z105 := aI @C.byj_w (aI @C.by0_w (aI @C.by2_w (aI @C.by3_w (aI @C.mf_w (aI @C.mg_w @C.mj_w)))))
def C.z106 := aI @C.byl_w (aI @C.by5_w (aI @C.by8_w (aI @C.bqb_w (aI @C.dz_w (aI @C.d5_w @C.d6_w)))))
def C.z107 := aI @C.byn_w (aI @C.by9_w (aI @C.bqm_w (aI @C.bqn_w (aI @C.mm_w (aI @C.mn_w @C.ms_w)))))
def C.z108 := aI @C.bys_w (aI @C.byt_w (aI @C.byv_w (aI @C.db_w @C.dc_w)))
def C.z109 := aI @C.byp_w (aI @C.byz_w (aI @C.byy_w (aI @C.d0_w (aI @C.d3_w @C.d4_w))))
def C.z110 := aI @C.bmg_w @C.b2_w
def C.z111 := aI @C.bj0_w @C.b7_w
def C.z112 := aI @C.bqp_w (aI @C.bqr_w (aI @C.bqz_w (aI @C.bq0_w (aI @C.my_w (aI @C.mq_w @C.mz_w)))))
def C.z113 := aI @C.bqs_w @C.bk_w
def C.z114 := aI @C.bqt_w (aI @C.bqv_w (aI @C.bqw_w (aI @C.bqx_w (aI @C.bqy_w (aI @C.bqq_w (aI @C.m0_w (aI @C.m1_w (aI @C.m2_w (aI @C.m3_w @C.m4_w)))))))))
def C.z115 := aI @C.bq1_w (aI @C.bq6_w (aI @C.bq7_w (aI @C.df_w @C.dg_w)))
def C.z116 := aI @C.bq3_w (aI @C.bq4_w (aI @C.bzx_w (aI @C.d7_w @C.d8_w)))
def C.z117 := aI @C.bq5_w @C.dh_w
def C.z118 := aI @C.bzb_w (aI @C.bzc_w (aI @C.bzd_w (aI @C.bzf_w (aI @C.bzg_w (aI @C.bzh_w (aI @C.bzj_w (aI @C.bzk_w (aI @C.bzl_w (aI @C.bzm_w (aI @C.bzn_w (aI @C.bzp_w (aI @C.bzr_w (aI @C.bzs_w (aI @C.bzt_w (aI @C.bzv_w (aI @C.bzw_w (aI @C.m6_w (aI @C.m7_w (aI @C.m8_w (aI @C.m9_w (aI @C.m5_w (aI @C.nc_w (aI @C.nd_w (aI @C.nf_w (aI @C.ng_w (aI @C.nh_w (aI @C.nj_w (aI @C.nk_w @C.nl_w))))))))))))))))))))))))))))
def C.z119 := aI @C.bmj_w @C.b9_w
def C.z120 := aI @C.bmk_w @C.b8_w
def C.z121 := aI @C.bml_w @C.dj_w
def C.z122 := aI @C.bzy_w (aI @C.bzq_w (aI @C.bzz_w (aI @C.bz0_w (aI @C.bz1_w (aI @C.bz2_w (aI @C.bz3_w (aI @C.nm_w (aI @C.nn_w (aI @C.np_w (aI @C.nr_w (aI @C.ns_w @C.nt_w)))))))))))
def C.z123 := aI @C.bz8_w (aI @C.bz9_w (aI @C.b0b_w (aI @C.b0c_w (aI @C.d9_w (aI @C.fb_w (aI @C.fc_w @C.fd_w))))))
def Bt := aI @Bp (aI @aop.eq_28 @aop.eq_30)
def Bu := aI @Bq @Bs
end Go.Proofs.YtdmfgodajoojpaaGreatDoor.Cn
