/- The intermediate code of the functions, printed by a program out of the loaded program; that it is theirs is checked in the text of links. -/
import Derived.Test.YtdmfgodajoojpaaGreatDoorCnIr2
set_option linter.defProp false
namespace Go.Proofs.YtdmfgodajoojpaaGreatDoor.Cn
open Go
variable {P : Program} {Q : IExit → AFr → ASt → Prop} {fr : AFr} {st : ASt}


def C.xy_b : LO := [
 X.o 4 (.loadN 4 (X.s 1)),
 X.o 5 (.loadN 3 (X.s 2)),
 X.o 6 (.call F.q53 [X.s 4, X.s 5]),
 X.m 3 6]
def C.xy : LO := C.xy_b
def C.xy_w := pO C.xy.eq_1
def C.b66 : ICode := .keep [1, 2] (.seq (.region C.xy) .ret)
def C.b66_w := pC C.b66.eq_1
def C.k0_b : LO := [
 X.o 2 (.boxN (X.s 0)),
 X.o 3 (.move (X.i 0))]
def C.k0 : LO := C.k0_b
def C.k0_w := pO C.k0.eq_1
def C.q31 : IFunc := ⟨2, [.slot 3], .seq (.region C.k0) C.b66⟩
def C.q31_W := aI @C.xy_w (aI @C.b66_w @C.k0_w)
def C.q31_B := aI @C.xy_b.eq_1 @C.k0_b.eq_1

def C.bbq_b : LO := [
 X.o 5 (.makeFunc F.q54 [X.s 3, X.s 2]),
 X.o 6 (.makeFunc F.q55 [X.s 3]),
 X.o 7 (.buildSlice 1 2 [.nilf] [(0, 1, X.s 5), (1, 1, X.s 6)]),
 X.o 8 (.call F.q61 [X.s 7]),
 X.m 4 8]
def C.bbq : LO := C.bbq_b
def C.bbq_w := pO C.bbq.eq_1
def C.b8y : ICode := .keep [2, 3] (.seq (.region C.bbq) .ret)
def C.b8y_w := pC C.b8y.eq_1
def C.bby_b : LO := [
 X.o 2 (.boxN (X.s 0)),
 X.o 3 (.boxN (X.s 1)),
 X.o 4 (.move (X.i 0))]
def C.bby : LO := C.bby_b
def C.bby_w := pO C.bby.eq_1
def C.q53 : IFunc := ⟨2, [.slot 4], .seq (.region C.bby) C.b8y⟩
def C.q53_W := aI @C.bbq_w (aI @C.b8y_w @C.bby_w)
def C.q53_B := aI @C.bbq_b.eq_1 @C.bby_b.eq_1

def C.xz_b : LO := [
 X.o 2 (.loadN 4 (X.s 0)),
 X.o 3 (.call F.q39 [X.s 2]),
 X.o 4 (.call F.q46 [X.s 3]),
 X.m 1 4]
def C.xz : LO := C.xz_b
def C.xz_w := pO C.xz.eq_1
def C.b67 : ICode := .keep [0] (.seq (.region C.xz) .ret)
def C.b67_w := pC C.b67.eq_1
def C.xq_b : LO := [
 X.o 1 (.move (X.i 0))]
def C.xq : LO := C.xq_b
def C.xq_w := pO C.xq.eq_1
def C.q32 : IFunc := ⟨1, [.slot 1], .seq (.region C.xq) C.b67⟩
def C.q32_W := aI @C.xz_w (aI @C.b67_w @C.xq_w)
def C.q32_B := aI @C.xz_b.eq_1 @C.xq_b.eq_1

def C.lc_b : LO := [
 X.m 28 3,
 X.m 2 28]
def C.lc : LO := C.lc_b
def C.lc_w := pO C.lc.eq_1
def C.bww : ICode := .keep [3] (.seq (.region C.lc) .ret)
def C.bww_w := pC C.bww.eq_1
def C.lb_b : LO := [
 X.o 27 (.bin .add (X.s 13) (X.i 1)),
 X.m 13 27]
def C.lb : LO := C.lb_b
def C.lb_w := pO C.lb.eq_1
def C.bwq : ICode := .keep [3, 11, 12, 13] (.region C.lb)
def C.bwq_w := pC C.bwq.eq_1
def C.yp_b : LO := [
 X.m 21 3,
 X.m 22 4,
 X.o 23 (.fldAddr 0 (X.s 5)),
 X.o 24 (.load1 (X.s 23)),
 X.o 25 (.buildSlice 1 1 [.int .i64 0] [(0, 1, X.s 24)]),
 X.o 26 (.idxAddr 1 (X.s 21) (X.s 22)),
 X.n (.store1 (X.s 26) (X.s 25))]
def C.yp : LO := C.yp_b
def C.yp_w := pO C.yp.eq_1
def C.b70 : ICode := .keep [3, 4, 5, 11, 12, 13, 20] (.cond (X.s 20) (.region C.yp) .skip)
def C.b70_w := pC C.b70.eq_1
def C.yn_b : LO := [
 X.o 18 (.fldAddr 0 (X.s 5)),
 X.o 19 (.load1 (X.s 18)),
 X.o 20 (.bin .neq (X.s 19) (X.i (-1)))]
def C.yn : LO := C.yn_b
def C.yn_w := pO C.yn.eq_1
def C.b71 : ICode := .keep [3, 4, 5, 11, 12, 13] (.seq (.region C.yn) C.b70)
def C.b71_w := pC C.b71.eq_1
def C.k9_b : LO := [
 X.m 15 13,
 X.o 16 (.idxAddr 3 (X.s 11) (X.s 13)),
 X.o 17 (.loadN 3 (X.s 16)),
 X.o 5 (.alloc [.int .i64 0, .int .i64 0, .bool false]),
 X.m 4 15,
 X.n (.storeN 3 (X.s 5) (X.s 17))]
def C.k9 : LO := C.k9_b
def C.k9_w := pO C.k9.eq_1
def C.bwt : ICode := .seq (.region C.k9) C.b71
def C.bwt_w := pC C.bwt.eq_1
def C.bwz : ICode := .keep [3, 11, 12, 13] (.seq (.block 1 C.bwt) C.bwq)
def C.bwz_w := pC C.bwz.eq_1
def C.bw0 : ICode := .keep [3, 11, 12, 13, 14] (.seq (.cond (X.s 14) .skip (.exit 0)) C.bwz)
def C.bw0_w := pC C.bw0.eq_1
def C.k8_b : LO := [
 X.o 14 (.bin .lss (X.s 13) (X.s 12))]
def C.k8 : LO := C.k8_b
def C.k8_w := pO C.k8.eq_1
def C.ck7 : ICode := .keep [3, 11, 12, 13] (.seq (.region C.k8) C.bw0)
def C.ck7_w := pC C.ck7.eq_1
def C.bwv : ICode := .loop C.ck7
def C.bwv_w := pC C.bwv.eq_1
def C.bwx : ICode := .keep [3, 11, 12, 13] (.block 0 C.bwv)
def C.bwx_w := pC C.bwx.eq_1
def C.k7_b : LO := [
 X.o 10 (.fldAddr 1 (X.s 1)),
 X.o 11 (.load1 (X.s 10)),
 X.o 12 (.len (X.s 11)),
 X.o 13 (.move (X.i 0))]
def C.k7 : LO := C.k7_b
def C.k7_w := pO C.k7.eq_1
def C.bwy : ICode := .keep [1, 3] (.seq (.seq (.region C.k7) C.bwx) C.bww)
def C.bwy_w := pC C.bwy.eq_1
def C.c3_b : LO := [
 X.o 6 (.fldAddr 1 (X.s 1)),
 X.o 7 (.load1 (X.s 6)),
 X.o 8 (.len (X.s 7)),
 X.o 9 (.makeSlice 1 24 [.nils] (X.s 8) (X.s 8)),
 X.m 3 9]
def C.c3 : LO := C.c3_b
def C.c3_w := pO C.c3.eq_1
def C.bl8 : ICode := .keep [1] (.seq (.region C.c3) C.bwy)
def C.bl8_w := pC C.bl8.eq_1
def C.b0_b : LO := [
 X.o 1 (.boxN (X.s 0)),
 X.o 2 (.move (.cst (.nils)))]
def C.b0 : LO := C.b0_b
def C.b0_w := pO C.b0.eq_1
def C.q39 : IFunc := ⟨1, [.slot 2], .seq (.region C.b0) C.bl8⟩
def C.q39_W := aI (aI (aI (aI @C.lc_w @C.bww_w) (aI @C.lb_w (aI @C.bwq_w @C.yp_w))) (aI (aI @C.b70_w @C.yn_w) (aI @C.b71_w (aI @C.k9_w @C.bwt_w)))) (aI (aI (aI @C.bwz_w @C.bw0_w) (aI @C.k8_w (aI @C.bwv_w @C.bwx_w))) (aI (aI @C.k7_w @C.bwy_w) (aI @C.c3_w (aI @C.bl8_w @C.b0_w))))
def C.q39_B := aI (aI (aI @C.lc_b.eq_1 @C.lb_b.eq_1) (aI @C.yp_b.eq_1 @C.yn_b.eq_1)) (aI (aI @C.k9_b.eq_1 @C.k8_b.eq_1) (aI @C.k7_b.eq_1 (aI @C.c3_b.eq_1 @C.b0_b.eq_1)))

def C.x1_b : LO := [
 X.o 2 (.fldAddr 2 (X.s 0)),
 X.o 3 (.load1 (X.s 2)),
 X.o 4 (.call F.q59 [X.s 3, .fnc F.q71]),
 X.m 1 4]
def C.x1 : LO := C.x1_b
def C.x1_w := pO C.x1.eq_1
def C.b68 : ICode := .keep [0] (.seq (.region C.x1) .ret)
def C.b68_w := pC C.b68.eq_1
def C.x0_b : LO := [
 X.o 1 (.move (X.i 0))]
def C.x0 : LO := C.x0_b
def C.x0_w := pO C.x0.eq_1
def C.q33 : IFunc := ⟨1, [.slot 1], .seq (.region C.x0) C.b68⟩
def C.q33_W := aI @C.x1_w (aI @C.b68_w @C.x0_w)
def C.q33_B := aI @C.x1_b.eq_1 @C.x0_b.eq_1

def C.l9_b : LO := [
 X.o 4 (.move (X.i 0))]
def C.l9 : LO := C.l9_b
def C.l9_w := pO C.l9.eq_1
def C.bx4 : ICode := .keep [] (.seq (.region C.l9) .ret)
def C.bx4_w := pC C.bx4.eq_1
def C.l8_b : LO := [
 X.o 20 (.bin .add (X.s 10) (X.i 1)),
 X.m 10 20]
def C.l8 : LO := C.l8_b
def C.l8_w := pO C.l8.eq_1
def C.bx7 : ICode := .keep [1, 8, 9, 10] (.region C.l8)
def C.bx7_w := pC C.bx7.eq_1
def C.bcg_b : LO := [
 X.m 19 7,
 X.m 4 19]
def C.bcg : LO := C.bcg_b
def C.bcg_w := pO C.bcg.eq_1
def C.b9d : ICode := .seq (.region C.bcg) .ret
def C.b9d_w := pC C.b9d.eq_1
def C.b9f : ICode := .keep [1, 7, 8, 9, 10, 18] (.cond (X.s 18) C.b9d .skip)
def C.b9f_w := pC C.b9f.eq_1
def C.bcf_b : LO := [
 X.m 17 7,
 X.o 18 (.bin .neq (X.s 17) (X.i 0))]
def C.bcf : LO := C.bcf_b
def C.bcf_w := pO C.bcf.eq_1
def C.b9g : ICode := .keep [1, 7, 8, 9, 10] (.seq (.region C.bcf) C.b9f)
def C.b9g_w := pC C.b9g.eq_1
def C.bcd_b : LO := [
 X.m 14 1,
 X.o 15 (.loadN 1 (X.s 6)),
 X.o 16 (.callv (X.s 14) [X.s 15]),
 X.m 7 16]
def C.bcd : LO := C.bcd_b
def C.bcd_w := pO C.bcd.eq_1
def C.b9h : ICode := .keep [1, 6, 8, 9, 10] (.seq (.region C.bcd) C.b9g)
def C.b9h_w := pC C.b9h.eq_1
def C.l7_b : LO := [
 X.o 12 (.idxAddr 1 (X.s 8) (X.s 10)),
 X.o 13 (.loadN 1 (X.s 12)),
 X.o 6 (.alloc [.int .i64 0]),
 X.n (.storeN 1 (X.s 6) (X.s 13))]
def C.l7 : LO := C.l7_b
def C.l7_w := pO C.l7.eq_1
def C.bx3 : ICode := .seq (.region C.l7) C.b9h
def C.bx3_w := pC C.bx3.eq_1
def C.bx8 : ICode := .keep [1, 8, 9, 10] (.seq (.block 1 C.bx3) C.bx7)
def C.bx8_w := pC C.bx8.eq_1
def C.bx9 : ICode := .keep [1, 8, 9, 10, 11] (.seq (.cond (X.s 11) .skip (.exit 0)) C.bx8)
def C.bx9_w := pC C.bx9.eq_1
def C.l6_b : LO := [
 X.o 11 (.bin .lss (X.s 10) (X.s 9))]
def C.l6 : LO := C.l6_b
def C.l6_w := pO C.l6.eq_1
def C.cld : ICode := .keep [1, 8, 9, 10] (.seq (.region C.l6) C.bx9)
def C.cld_w := pC C.cld.eq_1
def C.bx2 : ICode := .loop C.cld
def C.bx2_w := pC C.bx2.eq_1
def C.bx5 : ICode := .keep [1, 8, 9, 10] (.block 0 C.bx2)
def C.bx5_w := pC C.bx5.eq_1
def C.l5_b : LO := [
 X.m 8 0,
 X.o 9 (.len (X.s 8)),
 X.o 10 (.move (X.i 0))]
def C.l5 : LO := C.l5_b
def C.l5_w := pO C.l5.eq_1
def C.bx6 : ICode := .keep [0, 1] (.seq (.seq (.region C.l5) C.bx5) C.bx4)
def C.bx6_w := pC C.bx6.eq_1
def C.l4_b : LO := [
 X.o 4 (.move (X.i 0))]
def C.l4 : LO := C.l4_b
def C.l4_w := pO C.l4.eq_1
def C.q59 : IFunc := ⟨2, [.slot 4], .seq (.region C.l4) C.bx6⟩
def C.q59_W := aI (aI (aI (aI @C.l9_w @C.bx4_w) (aI @C.l8_w (aI @C.bx7_w @C.bcg_w))) (aI (aI @C.b9d_w @C.b9f_w) (aI @C.bcf_w (aI @C.b9g_w @C.bcd_w)))) (aI (aI (aI @C.b9h_w @C.l7_w) (aI @C.bx3_w (aI @C.bx8_w @C.bx9_w))) (aI (aI @C.l6_w (aI @C.bx2_w @C.bx5_w)) (aI @C.l5_w (aI @C.bx6_w @C.l4_w))))
def C.q59_B := aI (aI (aI @C.l9_b.eq_1 @C.l8_b.eq_1) (aI @C.bcg_b.eq_1 @C.bcf_b.eq_1)) (aI (aI @C.bcd_b.eq_1 @C.l7_b.eq_1) (aI @C.l6_b.eq_1 (aI @C.l5_b.eq_1 @C.l4_b.eq_1)))

def C.bff_b : LO := [
 X.o 3 (.fldAddr 0 (X.s 1)),
 X.o 4 (.load1 (X.s 3)),
 X.o 5 (.call F.q74 [X.s 4, X.i 0, X.i 20]),
 X.o 6 (.un .not (X.s 5)),
 X.o 7 (.call F.q73 [X.s 6, X.i 3]),
 X.m 2 7]
def C.bff : LO := C.bff_b
def C.bff_w := pO C.bff.eq_1
def C.ccl : ICode := .keep [1] (.seq (.region C.bff) .ret)
def C.ccl_w := pC C.ccl.eq_1
def C.bfd_b : LO := [
 X.o 1 (.boxN (X.s 0)),
 X.o 2 (.move (X.i 0))]
def C.bfd : LO := C.bfd_b
def C.bfd_w := pO C.bfd.eq_1
def C.q71 : IFunc := ⟨1, [.slot 2], .seq (.region C.bfd) C.ccl⟩
def C.q71_W := aI @C.bff_w (aI @C.ccl_w @C.bfd_w)
def C.q71_B := aI @C.bff_b.eq_1 @C.bfd_b.eq_1

def C.x3_b : LO := [
 X.o 2 (.fldAddr 3 (X.s 0)),
 X.o 3 (.load1 (X.s 2)),
 X.o 4 (.makeFunc F.q35 [X.s 0]),
 X.o 5 (.call F.q57 [X.s 3, X.s 4]),
 X.m 1 5]
def C.x3 : LO := C.x3_b
def C.x3_w := pO C.x3.eq_1
def C.b69 : ICode := .keep [0] (.seq (.region C.x3) .ret)
def C.b69_w := pC C.b69.eq_1
def C.x2_b : LO := [
 X.o 1 (.move (X.i 0))]
def C.x2 : LO := C.x2_b
def C.x2_w := pO C.x2.eq_1
def C.q34 : IFunc := ⟨1, [.slot 1], .seq (.region C.x2) C.b69⟩
def C.q34_W := aI @C.x3_w (aI @C.b69_w @C.x2_w)
def C.q34_B := aI @C.x3_b.eq_1 @C.x2_b.eq_1

def C.ly_b : LO := [
 X.o 4 (.move (X.i 0))]
def C.ly : LO := C.ly_b
def C.ly_w := pO C.ly.eq_1
def C.bxm : ICode := .keep [] (.seq (.region C.ly) .ret)
def C.bxm_w := pC C.bxm.eq_1
def C.lx_b : LO := [
 X.o 20 (.bin .add (X.s 10) (X.i 1)),
 X.m 10 20]
def C.lx : LO := C.lx_b
def C.lx_w := pO C.lx.eq_1
def C.bxr : ICode := .keep [1, 8, 9, 10] (.region C.lx)
def C.bxr_w := pC C.bxr.eq_1
def C.bb8_b : LO := [
 X.m 19 7,
 X.m 4 19]
def C.bb8 : LO := C.bb8_b
def C.bb8_w := pO C.bb8.eq_1
def C.b84 : ICode := .seq (.region C.bb8) .ret
def C.b84_w := pC C.b84.eq_1
def C.b85 : ICode := .keep [1, 7, 8, 9, 10, 18] (.cond (X.s 18) C.b84 .skip)
def C.b85_w := pC C.b85.eq_1
def C.bb7_b : LO := [
 X.m 17 7,
 X.o 18 (.bin .neq (X.s 17) (X.i 0))]
def C.bb7 : LO := C.bb7_b
def C.bb7_w := pO C.bb7.eq_1
def C.b86 : ICode := .keep [1, 7, 8, 9, 10] (.seq (.region C.bb7) C.b85)
def C.b86_w := pC C.b86.eq_1
def C.bb6_b : LO := [
 X.m 14 1,
 X.o 15 (.loadN 6 (X.s 6)),
 X.o 16 (.callv (X.s 14) [X.s 15]),
 X.m 7 16]
def C.bb6 : LO := C.bb6_b
def C.bb6_w := pO C.bb6.eq_1
def C.b87 : ICode := .keep [1, 6, 8, 9, 10] (.seq (.region C.bb6) C.b86)
def C.b87_w := pC C.b87.eq_1
def C.lw_b : LO := [
 X.o 12 (.idxAddr 6 (X.s 8) (X.s 10)),
 X.o 13 (.loadN 6 (X.s 12)),
 X.o 6 (.alloc [.int .i64 0, .int .i64 0, .int .i64 0, .int .u32 0, .nils, .nils]),
 X.n (.storeN 6 (X.s 6) (X.s 13))]
def C.lw : LO := C.lw_b
def C.lw_w := pO C.lw.eq_1
def C.bxl : ICode := .seq (.region C.lw) C.b87
def C.bxl_w := pC C.bxl.eq_1
def C.bxs : ICode := .keep [1, 8, 9, 10] (.seq (.block 1 C.bxl) C.bxr)
def C.bxs_w := pC C.bxs.eq_1
def C.bxt : ICode := .keep [1, 8, 9, 10, 11] (.seq (.cond (X.s 11) .skip (.exit 0)) C.bxs)
def C.bxt_w := pC C.bxt.eq_1
def C.lv_b : LO := [
 X.o 11 (.bin .lss (X.s 10) (X.s 9))]
def C.lv : LO := C.lv_b
def C.lv_w := pO C.lv.eq_1
def C.clb : ICode := .keep [1, 8, 9, 10] (.seq (.region C.lv) C.bxt)
def C.clb_w := pC C.clb.eq_1
def C.bxk : ICode := .loop C.clb
def C.bxk_w := pC C.bxk.eq_1
def C.bxn : ICode := .keep [1, 8, 9, 10] (.block 0 C.bxk)
def C.bxn_w := pC C.bxn.eq_1
def C.lt_b : LO := [
 X.m 8 0,
 X.o 9 (.len (X.s 8)),
 X.o 10 (.move (X.i 0))]
def C.lt : LO := C.lt_b
def C.lt_w := pO C.lt.eq_1
def C.bxp : ICode := .keep [0, 1] (.seq (.seq (.region C.lt) C.bxn) C.bxm)
def C.bxp_w := pC C.bxp.eq_1
def C.ls_b : LO := [
 X.o 4 (.move (X.i 0))]
def C.ls : LO := C.ls_b
def C.ls_w := pO C.ls.eq_1
def C.q57 : IFunc := ⟨2, [.slot 4], .seq (.region C.ls) C.bxp⟩
def C.q57_W := aI (aI (aI (aI @C.ly_w @C.bxm_w) (aI @C.lx_w (aI @C.bxr_w @C.bb8_w))) (aI (aI @C.b84_w @C.b85_w) (aI @C.bb7_w (aI @C.b86_w @C.bb6_w)))) (aI (aI (aI @C.b87_w @C.lw_w) (aI @C.bxl_w (aI @C.bxs_w @C.bxt_w))) (aI (aI @C.lv_w (aI @C.bxk_w @C.bxn_w)) (aI @C.lt_w (aI @C.bxp_w @C.ls_w))))
def C.q57_B := aI (aI (aI @C.ly_b.eq_1 @C.lx_b.eq_1) (aI @C.bb8_b.eq_1 @C.bb7_b.eq_1)) (aI (aI @C.bb6_b.eq_1 @C.lw_b.eq_1) (aI @C.lv_b.eq_1 (aI @C.lt_b.eq_1 @C.ls_b.eq_1)))

def C.x4_b : LO := [
 X.o 4 (.loadN 4 (X.s 1)),
 X.o 5 (.loadN 6 (X.s 2)),
 X.o 6 (.call F.q47 [X.s 4, X.s 5]),
 X.m 3 6]
def C.x4 : LO := C.x4_b
def C.x4_w := pO C.x4.eq_1
def C.b7b : ICode := .keep [1, 2] (.seq (.region C.x4) .ret)
def C.b7b_w := pC C.b7b.eq_1
def C.k1_b : LO := [
 X.o 2 (.boxN (X.s 0)),
 X.o 3 (.move (X.i 0))]
def C.k1 : LO := C.k1_b
def C.k1_w := pO C.k1.eq_1
def C.q35 : IFunc := ⟨2, [.slot 3], .seq (.region C.k1) C.b7b⟩
def C.q35_W := aI @C.x4_w (aI @C.b7b_w @C.k1_w)
def C.q35_B := aI @C.x4_b.eq_1 @C.k1_b.eq_1

def C.y7_b : LO := [
 X.o 5 (.makeFunc F.q48 [X.s 3, X.s 2]),
 X.o 6 (.makeFunc F.q49 [X.s 3, X.s 2]),
 X.o 7 (.makeFunc F.q50 [X.s 3, X.s 2]),
 X.o 8 (.makeFunc F.q51 [X.s 3, X.s 2]),
 X.o 9 (.buildSlice 1 4 [.nilf] [(0, 1, X.s 5), (1, 1, X.s 6), (2, 1, X.s 7), (3, 1, X.s 8)]),
 X.o 10 (.call F.q61 [X.s 9]),
 X.m 4 10]
def C.y7 : LO := C.y7_b
def C.y7_w := pO C.y7.eq_1
def C.b8b : ICode := .keep [2, 3] (.seq (.region C.y7) .ret)
def C.b8b_w := pC C.b8b.eq_1
def C.y6_b : LO := [
 X.o 2 (.boxN (X.s 0)),
 X.o 3 (.boxN (X.s 1)),
 X.o 4 (.move (X.i 0))]
def C.y6 : LO := C.y6_b
def C.y6_w := pO C.y6.eq_1
def C.q47 : IFunc := ⟨2, [.slot 4], .seq (.region C.y6) C.b8b⟩
def C.q47_W := aI @C.y7_w (aI @C.b8b_w @C.y6_w)
def C.q47_B := aI @C.y7_b.eq_1 @C.y6_b.eq_1

def C.x6_b : LO := [
 X.o 2 (.loadN 4 (X.s 0)),
 X.o 3 (.call F.q40 [X.s 2]),
 X.o 4 (.call F.q46 [X.s 3]),
 X.m 1 4]
def C.x6 : LO := C.x6_b
def C.x6_w := pO C.x6.eq_1
def C.b7c : ICode := .keep [0] (.seq (.region C.x6) .ret)
def C.b7c_w := pC C.b7c.eq_1
def C.x5_b : LO := [
 X.o 1 (.move (X.i 0))]
def C.x5 : LO := C.x5_b
def C.x5_w := pO C.x5.eq_1
def C.q36 : IFunc := ⟨1, [.slot 1], .seq (.region C.x5) C.b7c⟩
def C.q36_W := aI @C.x6_w (aI @C.b7c_w @C.x5_w)
def C.q36_B := aI @C.x6_b.eq_1 @C.x5_b.eq_1

def C.lj_b : LO := [
 X.m 25 3,
 X.m 2 25]
def C.lj : LO := C.lj_b
def C.lj_w := pO C.lj.eq_1
def C.bw3 : ICode := .keep [3] (.seq (.region C.lj) .ret)
def C.bw3_w := pC C.bw3.eq_1
def C.lh_b : LO := [
 X.o 24 (.bin .add (X.s 13) (X.i 1)),
 X.m 13 24]
def C.lh : LO := C.lh_b
def C.lh_w := pO C.lh.eq_1
def C.bw5 : ICode := .keep [3, 11, 12, 13] (.region C.lh)
def C.bw5_w := pC C.bw5.eq_1
def C.yt_b : LO := [
 X.m 18 3,
 X.m 19 4,
 X.o 20 (.fldAddr 5 (X.s 5)),
 X.o 21 (.load1 (X.s 20)),
 X.o 22 (.call F.q70 [X.s 21]),
 X.o 23 (.idxAddr 1 (X.s 18) (X.s 19)),
 X.n (.store1 (X.s 23) (X.s 22))]
def C.yt : LO := C.yt_b
def C.yt_w := pO C.yt.eq_1
def C.b73 : ICode := .keep [3, 4, 5, 11, 12, 13] (.region C.yt)
def C.b73_w := pC C.b73.eq_1
def C.lg_b : LO := [
 X.m 15 13,
 X.o 16 (.idxAddr 6 (X.s 11) (X.s 13)),
 X.o 17 (.loadN 6 (X.s 16)),
 X.o 5 (.alloc [.int .i64 0, .int .i64 0, .int .i64 0, .int .u32 0, .nils, .nils]),
 X.m 4 15,
 X.n (.storeN 6 (X.s 5) (X.s 17))]
def C.lg : LO := C.lg_b
def C.lg_w := pO C.lg.eq_1
def C.bw1 : ICode := .seq (.region C.lg) C.b73
def C.bw1_w := pC C.bw1.eq_1
def C.bw6 : ICode := .keep [3, 11, 12, 13] (.seq (.block 1 C.bw1) C.bw5)
def C.bw6_w := pC C.bw6.eq_1
def C.bw7 : ICode := .keep [3, 11, 12, 13, 14] (.seq (.cond (X.s 14) .skip (.exit 0)) C.bw6)
def C.bw7_w := pC C.bw7.eq_1
def C.lf_b : LO := [
 X.o 14 (.bin .lss (X.s 13) (X.s 12))]
def C.lf : LO := C.lf_b
def C.lf_w := pO C.lf.eq_1
def C.ck8 : ICode := .keep [3, 11, 12, 13] (.seq (.region C.lf) C.bw7)
def C.ck8_w := pC C.ck8.eq_1
def C.bw2 : ICode := .loop C.ck8
def C.bw2_w := pC C.bw2.eq_1
def C.bw8 : ICode := .keep [3, 11, 12, 13] (.block 0 C.bw2)
def C.bw8_w := pC C.bw8.eq_1
def C.ld_b : LO := [
 X.o 10 (.fldAddr 3 (X.s 1)),
 X.o 11 (.load1 (X.s 10)),
 X.o 12 (.len (X.s 11)),
 X.o 13 (.move (X.i 0))]
def C.ld : LO := C.ld_b
def C.ld_w := pO C.ld.eq_1
def C.bw4 : ICode := .keep [1, 3] (.seq (.seq (.region C.ld) C.bw8) C.bw3)
def C.bw4_w := pC C.bw4.eq_1
def C.c4_b : LO := [
 X.o 6 (.fldAddr 3 (X.s 1)),
 X.o 7 (.load1 (X.s 6)),
 X.o 8 (.len (X.s 7)),
 X.o 9 (.makeSlice 1 24 [.nils] (X.s 8) (X.s 8)),
 X.m 3 9]
def C.c4 : LO := C.c4_b
def C.c4_w := pO C.c4.eq_1
def C.bl9 : ICode := .keep [1] (.seq (.region C.c4) C.bw4)
def C.bl9_w := pC C.bl9.eq_1
def C.b1_b : LO := [
 X.o 1 (.boxN (X.s 0)),
 X.o 2 (.move (.cst (.nils)))]
def C.b1 : LO := C.b1_b
def C.b1_w := pO C.b1.eq_1
def C.q40 : IFunc := ⟨1, [.slot 2], .seq (.region C.b1) C.bl9⟩
def C.q40_W := aI (aI (aI (aI @C.lj_w @C.bw3_w) (aI @C.lh_w @C.bw5_w)) (aI (aI @C.yt_w @C.b73_w) (aI @C.lg_w (aI @C.bw1_w @C.bw6_w)))) (aI (aI (aI @C.bw7_w @C.lf_w) (aI @C.bw2_w @C.bw8_w)) (aI (aI @C.ld_w @C.bw4_w) (aI @C.c4_w (aI @C.bl9_w @C.b1_w))))
def C.q40_B := aI (aI (aI @C.lj_b.eq_1 @C.lh_b.eq_1) (aI @C.yt_b.eq_1 @C.lg_b.eq_1)) (aI (aI @C.lf_b.eq_1 @C.ld_b.eq_1) (aI @C.c4_b.eq_1 @C.b1_b.eq_1))

def C.rn_b : LO := [
 X.m 6 0,
 X.o 7 (.nilchk (X.s 6)),
 X.o 8 (.fldAddr 3 (X.s 7)),
 X.n (.store1 (X.s 8) (.cst (.bool false)))]
def C.rn : LO := C.rn_b
def C.rn_w := pO C.rn.eq_1
def C.b16 : ICode := .keep [0] (.region C.rn)
def C.b16_w := pC C.b16.eq_1
def C.rm_b : LO := [
 X.m 4 0,
 X.o 5 (.call F.q115 [X.s 4, .fnc F.q107])]
def C.rm : LO := C.rm_b
def C.rm_w := pO C.rm.eq_1
def C.b17 : ICode := .keep [0] (.seq (.region C.rm) C.b16)
def C.b17_w := pC C.b17.eq_1
def C.b18 : ICode := .keep [0, 3] (.cond (X.s 3) .ret .skip)
def C.b18_w := pC C.b18.eq_1
def C.rl_b : LO := [
 X.m 2 0,
 X.o 3 (.eqP 0 false (X.s 2) (.cst (.nilp)))]
def C.rl : LO := C.rl_b
def C.rl_w := pO C.rl.eq_1
def C.q106 : IFunc := ⟨1, [], .seq (.seq (.region C.rl) C.b18) C.b17⟩
def C.q106_W := aI (aI @C.rn_w (aI @C.b16_w @C.rm_w)) (aI @C.b17_w (aI @C.b18_w @C.rl_w))
def C.q106_B := aI @C.rn_b.eq_1 (aI @C.rm_b.eq_1 @C.rl_b.eq_1)

def C.tg_b : LO := [
 X.o 4 (.move (X.i 0))]
def C.tg : LO := C.tg_b
def C.tg_w := pO C.tg.eq_1
def C.b3s : ICode := .keep [] (.seq (.region C.tg) .ret)
def C.b3s_w := pC C.b3s.eq_1
def C.tf_b : LO := [
 X.m 19 0,
 X.o 20 (.nilchk (X.s 19)),
 X.o 21 (.fldAddr 0 (X.s 20)),
 X.o 22 (.load1 (X.s 21)),
 X.m 23 1,
 X.o 24 (.loadN 4 (X.s 5)),
 X.n (.mapSet (X.s 22) (X.s 23) (X.s 24))]
def C.tf : LO := C.tf_b
def C.tf_w := pO C.tf.eq_1
def C.b3t : ICode := .keep [0, 1, 5] (.seq (.region C.tf) C.b3s)
def C.b3t_w := pC C.b3t.eq_1
def C.td_b : LO := [
 X.o 18 (.fldAddr 3 (X.s 5)),
 X.n (.store1 (X.s 18) (.cst (.bool true)))]
def C.td : LO := C.td_b
def C.td_w := pO C.td.eq_1
def C.b3v : ICode := .keep [0, 1, 5] (.seq (.region C.td) C.b3t)
def C.b3v_w := pC C.b3v.eq_1
def C.tc_b : LO := [
 X.o 4 (.move (X.i 6))]
def C.tc : LO := C.tc_b
def C.tc_w := pO C.tc.eq_1
def C.b3w : ICode := .seq (.region C.tc) .ret
def C.b3w_w := pC C.b3w.eq_1
def C.b3x : ICode := .keep [0, 1, 5, 17] (.cond (X.s 17) C.b3w .skip)
def C.b3x_w := pC C.b3x.eq_1
def C.tb_b : LO := [
 X.o 15 (.fldAddr 2 (X.s 5)),
 X.o 16 (.load1 (X.s 15)),
 X.o 17 (.un .not (X.s 16))]
def C.tb : LO := C.tb_b
def C.tb_w := pO C.tb.eq_1
def C.b3y : ICode := .keep [0, 1, 5] (.seq (.seq (.region C.tb) C.b3x) C.b3v)
def C.b3y_w := pC C.b3y.eq_1
def C.s9_b : LO := [
 X.o 4 (.move (X.i 4))]
def C.s9 : LO := C.s9_b
def C.s9_w := pO C.s9.eq_1
def C.b3q : ICode := .seq (.region C.s9) .ret
def C.b3q_w := pC C.b3q.eq_1
def C.b3z : ICode := .keep [0, 1, 5, 14] (.cond (X.s 14) C.b3q .skip)
def C.b3z_w := pC C.b3z.eq_1
def C.s8_b : LO := [
 X.m 13 6,
 X.o 14 (.un .not (X.s 13))]
def C.s8 : LO := C.s8_b
def C.s8_w := pO C.s8.eq_1
def C.b30 : ICode := .keep [0, 1, 5, 6] (.seq (.seq (.region C.s8) C.b3z) C.b3y)
def C.b30_w := pC C.b30.eq_1
def C.dh_b : LO := [
 X.m 8 0,
 X.m 9 1,
 X.o 10 (.call F.q122 [X.s 8, X.s 9]),
 X.m 7 10,
 X.o 11 (.extract (X.s 7) 0),
 X.o 12 (.extract (X.s 7) 1),
 X.o 5 (.alloc [.int .i64 0, .int .i64 0, .bool false, .bool false]),
 X.n (.storeN 4 (X.s 5) (X.s 11)),
 X.m 6 12]
def C.dh : LO := C.dh_b
def C.dh_w := pO C.dh.eq_1
def C.bm3 : ICode := .keep [0, 1] (.seq (.region C.dh) C.b30)
def C.bm3_w := pC C.bm3.eq_1
def C.dg_b : LO := [
 X.o 4 (.move (X.i 0))]
def C.dg : LO := C.dg_b
def C.dg_w := pO C.dg.eq_1
def C.q120 : IFunc := ⟨2, [.slot 4], .seq (.region C.dg) C.bm3⟩
def C.q120_W := aI (aI (aI (aI @C.tg_w @C.b3s_w) (aI @C.tf_w @C.b3t_w)) (aI (aI @C.td_w @C.b3v_w) (aI @C.tc_w (aI @C.b3w_w @C.b3x_w)))) (aI (aI (aI @C.tb_w @C.b3y_w) (aI @C.s9_w (aI @C.b3q_w @C.b3z_w))) (aI (aI @C.s8_w @C.b30_w) (aI @C.dh_w (aI @C.bm3_w @C.dg_w))))
def C.q120_B := aI (aI (aI @C.tg_b.eq_1 @C.tf_b.eq_1) (aI @C.td_b.eq_1 @C.tc_b.eq_1)) (aI (aI @C.tb_b.eq_1 @C.s9_b.eq_1) (aI @C.s8_b.eq_1 (aI @C.dh_b.eq_1 @C.dg_b.eq_1)))

def C.blf_b : LO := [
 X.o 4 (.move (X.i 0))]
def C.blf : LO := C.blf_b
def C.blf_w := pO C.blf.eq_1
def C.cj8 : ICode := .keep [] (.seq (.region C.blf) .ret)
def C.cj8_w := pC C.cj8.eq_1
def C.bld_b : LO := [
 X.m 45 5,
 X.m 46 5,
 X.m 47 5,
 X.o 48 (.nilchk (X.s 47)),
 X.o 49 (.fldAddr 0 (X.s 48)),
 X.o 50 (.fldAddr 1 (X.s 49)),
 X.o 51 (.load1 (X.s 50)),
 X.o 52 (.nilchk (X.s 45)),
 X.o 53 (.fldAddr 3 (X.s 52)),
 X.n (.store1 (X.s 53) (.cst (.int .u8 114))),
 X.o 54 (.nilchk (X.s 46)),
 X.o 55 (.fldAddr 4 (X.s 54)),
 X.n (.store1 (X.s 55) (X.s 51))]
def C.bld : LO := C.bld_b
def C.bld_w := pO C.bld.eq_1
def C.cj9 : ICode := .keep [5] (.seq (.region C.bld) C.cj8)
def C.cj9_w := pC C.cj9.eq_1
def C.nx_b : LO := [
 X.m 37 5,
 X.m 38 5,
 X.o 39 (.nilchk (X.s 38)),
 X.o 40 (.fldAddr 3 (X.s 39)),
 X.o 41 (.load1 (X.s 40)),
 X.o 42 (.bin .eql (X.s 41) (.cst (.int .u8 116))),
 X.o 43 (.nilchk (X.s 37)),
 X.o 44 (.fldAddr 5 (X.s 43)),
 X.n (.store1 (X.s 44) (X.s 42))]
def C.nx : LO := C.nx_b
def C.nx_w := pO C.nx.eq_1
def C.n7 : ICode := .keep [5] (.seq (.region C.nx) C.cj9)
def C.n7_w := pC C.n7.eq_1
def C.nw_b : LO := [
 X.o 4 (.move (X.i 6))]
def C.nw : LO := C.nw_b
def C.nw_w := pO C.nw.eq_1
def C.bzz : ICode := .seq (.region C.nw) .ret
def C.bzz_w := pC C.bzz.eq_1
def C.bz0 : ICode := .keep [5, 36] (.cond (X.s 36) C.bzz .skip)
def C.bz0_w := pC C.bz0.eq_1
def C.nv_b : LO := [
 X.m 11 5,
 X.o 12 (.call F.q101 [X.s 11]),
 X.o 13 (.un .not (X.s 12)),
 X.m 14 13,
 X.f 14 15 (.move (X.s 5)),
 X.f 14 16 (.nilchk (X.s 15)),
 X.f 14 17 (.fldAddr 0 (X.s 16)),
 X.f 14 18 (.fldAddr 0 (X.s 17)),
 X.f 14 19 (.load1 (X.s 18)),
 X.f 14 20 (.bin .neq (X.s 19) (X.i (-1))),
 X.f 14 21 (.move (X.s 20)),
 X.t 21 22 (.move (X.s 0)),
 X.t 21 23 (.nilchk (X.s 22)),
 X.t 21 24 (.fldAddr 0 (X.s 23)),
 X.t 21 25 (.load1 (X.s 24)),
 X.t 21 26 (.move (X.s 5)),
 X.t 21 27 (.nilchk (X.s 26)),
 X.t 21 28 (.fldAddr 0 (X.s 27)),
 X.t 21 29 (.fldAddr 0 (X.s 28)),
 X.t 21 30 (.load1 (X.s 29)),
 X.t 21 31 (.idxAddr 7 (X.s 25) (X.s 30)),
 X.t 21 32 (.fldAddr 3 (X.s 31)),
 X.t 21 33 (.load1 (X.s 32)),
 X.t 21 34 (.bin .neq (X.s 33) (.cst (.int .u8 49))),
 X.f 14 35 (.pick (X.s 21) (X.s 34) (.cst (.bool false))),
 X.o 36 (.pick (X.s 14) (.cst (.bool true)) (X.s 35))]
def C.nv : LO := C.nv_b
def C.nv_w := pO C.nv.eq_1
def C.bz1 : ICode := .keep [0, 5] (.seq (.seq (.region C.nv) C.bz0) C.n7)
def C.bz1_w := pC C.bz1.eq_1
def C.nt_b : LO := [
 X.o 4 (.move (X.i 4))]
def C.nt : LO := C.nt_b
def C.nt_w := pO C.nt.eq_1
def C.bz2 : ICode := .seq (.region C.nt) .ret
def C.bz2_w := pC C.bz2.eq_1
def C.bz3 : ICode := .keep [0, 5, 10] (.cond (X.s 10) C.bz2 .skip)
def C.bz3_w := pC C.bz3.eq_1
def C.ns_b : LO := [
 X.m 9 5,
 X.o 10 (.eqP 0 false (X.s 9) (.cst (.nilp)))]
def C.ns : LO := C.ns_b
def C.ns_w := pO C.ns.eq_1
def C.bz4 : ICode := .keep [0, 5] (.seq (.seq (.region C.ns) C.bz3) C.bz1)
def C.bz4_w := pC C.bz4.eq_1
def C.nr_b : LO := [
 X.m 6 0,
 X.m 7 1,
 X.o 8 (.call F.q99 [X.s 6, X.s 7]),
 X.m 5 8]
def C.nr : LO := C.nr_b
def C.nr_w := pO C.nr.eq_1
def C.bzq : ICode := .keep [0, 1] (.seq (.region C.nr) C.bz4)
def C.bzq_w := pC C.bzq.eq_1
def C.np_b : LO := [
 X.o 4 (.move (X.i 0))]
def C.np : LO := C.np_b
def C.np_w := pO C.np.eq_1
def C.q98 : IFunc := ⟨2, [.slot 4], .seq (.region C.np) C.bzq⟩
def C.q98_W := aI (aI (aI (aI @C.blf_w @C.cj8_w) (aI @C.bld_w @C.cj9_w)) (aI (aI @C.nx_w @C.n7_w) (aI @C.nw_w (aI @C.bzz_w @C.bz0_w)))) (aI (aI (aI @C.nv_w @C.bz1_w) (aI @C.nt_w (aI @C.bz2_w @C.bz3_w))) (aI (aI @C.ns_w @C.bz4_w) (aI @C.nr_w (aI @C.bzq_w @C.np_w))))
def C.q98_B := aI (aI (aI @C.blf_b.eq_1 @C.bld_b.eq_1) (aI @C.nx_b.eq_1 @C.nw_b.eq_1)) (aI (aI @C.nv_b.eq_1 @C.nt_b.eq_1) (aI @C.ns_b.eq_1 (aI @C.nr_b.eq_1 @C.np_b.eq_1)))

def C.yc_b : LO := [
 X.o 66 (.loadN 4 (X.s 3)),
 X.n (.storeN 4 (X.s 2) (X.s 66))]
def C.yc : LO := C.yc_b
def C.yc_w := pO C.yc.eq_1
def C.b7k : ICode := .keep [2, 3] (.seq (.region C.yc) .ret)
def C.b7k_w := pC C.b7k.eq_1
def C.yb_b : LO := [
 X.o 65 (.bin .add (X.s 42) (X.i 1)),
 X.m 42 65]
def C.yb : LO := C.yb_b
def C.yb_w := pO C.yb.eq_1
def C.b7v : ICode := .keep [2, 3, 41, 42] (.region C.yb)
def C.b7v_w := pC C.b7v.eq_1
def C.x9_b : LO := [
 X.m 49 6,
 X.m 50 6,
 X.m 51 6,
 X.o 52 (.nilchk (X.s 51)),
 X.o 53 (.fldAddr 4 (X.s 52)),
 X.o 54 (.load1 (X.s 53)),
 X.m 56 6,
 X.o 57 (.nilchk (X.s 56)),
 X.o 58 (.fldAddr 5 (X.s 57)),
 X.o 59 (.load1 (X.s 58)),
 ⟨some 55, .call F.q68 [X.s 54], none, [⟨.load1 (X.s 58), 59, none⟩], []⟩,
 X.o 60 (.call F.q70 [X.s 59]),
 X.o 61 (.nilchk (X.s 49)),
 X.o 62 (.fldAddr 4 (X.s 61)),
 X.n (.store1 (X.s 62) (X.s 55)),
 X.o 63 (.nilchk (X.s 50)),
 X.o 64 (.fldAddr 5 (X.s 63)),
 X.n (.store1 (X.s 64) (X.s 60))]
def C.x9 : LO := C.x9_b
def C.x9_w := pO C.x9.eq_1
def C.b7x : ICode := .keep [2, 3, 6, 41, 42] (.region C.x9)
def C.b7x_w := pC C.b7x.eq_1
def C.x8_b : LO := [
 X.o 45 (.fldAddr 3 (X.s 3)),
 X.o 46 (.load1 (X.s 45)),
 X.m 47 5,
 X.o 48 (.idxAddr 6 (X.s 46) (X.s 47)),
 X.m 6 48]
def C.x8 : LO := C.x8_b
def C.x8_w := pO C.x8.eq_1
def C.b7y : ICode := .keep [2, 3, 5, 41, 42] (.seq (.region C.x8) C.b7x)
def C.b7y_w := pC C.b7y.eq_1
def C.ym_b : LO := [
 X.m 44 42,
 X.m 5 44]
def C.ym : LO := C.ym_b
def C.ym_w := pO C.ym.eq_1
def C.b7h : ICode := .seq (.region C.ym) C.b7y
def C.b7h_w := pC C.b7h.eq_1
def C.b7q : ICode := .keep [2, 3, 41, 42] (.seq (.block 3 C.b7h) C.b7v)
def C.b7q_w := pC C.b7q.eq_1
def C.b7z : ICode := .keep [2, 3, 41, 42, 43] (.seq (.cond (X.s 43) .skip (.exit 2)) C.b7q)
def C.b7z_w := pC C.b7z.eq_1
def C.yl_b : LO := [
 X.o 43 (.bin .lss (X.s 42) (X.s 41))]
def C.yl : LO := C.yl_b
def C.yl_w := pO C.yl.eq_1
def C.ck6 : ICode := .keep [2, 3, 41, 42] (.seq (.region C.yl) C.b7z)
def C.ck6_w := pC C.ck6.eq_1
def C.b7j : ICode := .loop C.ck6
def C.b7j_w := pC C.b7j.eq_1
def C.b7l : ICode := .keep [2, 3, 41, 42] (.block 2 C.b7j)
def C.b7l_w := pC C.b7l.eq_1
def C.yk_b : LO := [
 X.o 39 (.fldAddr 3 (X.s 3)),
 X.o 40 (.load1 (X.s 39)),
 X.o 41 (.len (X.s 40)),
 X.o 42 (.move (X.i 0))]
def C.yk : LO := C.yk_b
def C.yk_w := pO C.yk.eq_1
def C.b7m : ICode := .keep [2, 3] (.seq (.seq (.region C.yk) C.b7l) C.b7k)
def C.b7m_w := pC C.b7m.eq_1
def C.yj_b : LO := [
 X.o 38 (.bin .add (X.s 23) (X.i 1)),
 X.m 23 38]
def C.yj : LO := C.yj_b
def C.yj_w := pO C.yj.eq_1
def C.b7n : ICode := .keep [2, 3, 22, 23] (.region C.yj)
def C.b7n_w := pC C.b7n.eq_1
def C.yh_b : LO := [
 X.o 26 (.fldAddr 0 (X.s 3)),
 X.o 27 (.load1 (X.s 26)),
 X.m 28 4,
 X.o 29 (.fldAddr 0 (X.s 3)),
 X.o 30 (.load1 (X.s 29)),
 X.m 31 4,
 X.o 32 (.idxAddr 6 (X.s 30) (X.s 31)),
 X.o 33 (.fldAddr 1 (X.s 32)),
 X.o 34 (.load1 (X.s 33)),
 ⟨some 35, .call F.q70 [X.s 34], none, [⟨.load1 (X.s 26), 27, none⟩], []⟩,
 X.o 36 (.idxAddr 6 (X.s 27) (X.s 28)),
 X.o 37 (.fldAddr 1 (X.s 36)),
 X.n (.store1 (X.s 37) (X.s 35))]
def C.yh : LO := C.yh_b
def C.yh_w := pO C.yh.eq_1
def C.b7p : ICode := .keep [2, 3, 4, 22, 23] (.region C.yh)
def C.b7p_w := pC C.b7p.eq_1
def C.yg_b : LO := [
 X.m 25 23,
 X.m 4 25]
def C.yg : LO := C.yg_b
def C.yg_w := pO C.yg.eq_1
def C.b7f : ICode := .seq (.region C.yg) C.b7p
def C.b7f_w := pC C.b7f.eq_1
def C.b7r : ICode := .keep [2, 3, 22, 23] (.seq (.block 1 C.b7f) C.b7n)
def C.b7r_w := pC C.b7r.eq_1
def C.b7s : ICode := .keep [2, 3, 22, 23, 24] (.seq (.cond (X.s 24) .skip (.exit 0)) C.b7r)
def C.b7s_w := pC C.b7s.eq_1
def C.yf_b : LO := [
 X.o 24 (.bin .lss (X.s 23) (X.s 22))]
def C.yf : LO := C.yf_b
def C.yf_w := pO C.yf.eq_1
def C.ck5 : ICode := .keep [2, 3, 22, 23] (.seq (.region C.yf) C.b7s)
def C.ck5_w := pC C.ck5.eq_1
def C.b7g : ICode := .loop C.ck5
def C.b7g_w := pC C.b7g.eq_1
def C.b7t : ICode := .keep [2, 3, 22, 23] (.block 0 C.b7g)
def C.b7t_w := pC C.b7t.eq_1
def C.yd_b : LO := [
 X.o 20 (.fldAddr 0 (X.s 3)),
 X.o 21 (.load1 (X.s 20)),
 X.o 22 (.len (X.s 21)),
 X.o 23 (.move (X.i 0))]
def C.yd : LO := C.yd_b
def C.yd_w := pO C.yd.eq_1
def C.b7w : ICode := .keep [2, 3] (.seq (.seq (.region C.yd) C.b7t) C.b7m)
def C.b7w_w := pC C.b7w.eq_1
def C.c2_b : LO := [
 X.o 7 (.fldAddr 0 (X.s 1)),
 X.o 8 (.load1 (X.s 7)),
 X.o 10 (.fldAddr 1 (X.s 1)),
 X.o 11 (.load1 (X.s 10)),
 X.o 13 (.fldAddr 2 (X.s 1)),
 X.o 14 (.load1 (X.s 13)),
 X.o 16 (.fldAddr 3 (X.s 1)),
 X.o 17 (.load1 (X.s 16)),
 ⟨some 9, .call F.q65 [X.s 8], none, [⟨.load1 (X.s 10), 11, none⟩, ⟨.load1 (X.s 13), 14, none⟩, ⟨.load1 (X.s 16), 17, none⟩], []⟩,
 ⟨some 12, .call F.q67 [X.s 11], none, [⟨.load1 (X.s 13), 14, none⟩, ⟨.load1 (X.s 16), 17, none⟩], []⟩,
 ⟨some 15, .call F.q69 [X.s 14], none, [⟨.load1 (X.s 16), 17, none⟩], []⟩,
 X.o 18 (.call F.q66 [X.s 17]),
 X.o 19 (.build [.nils, .nils, .nils, .nils] [(0, 1, X.s 9), (1, 1, X.s 12), (2, 1, X.s 15), (3, 1, X.s 18)]),
 X.o 3 (.alloc [.nils, .nils, .nils, .nils]),
 X.n (.storeN 4 (X.s 3) (X.s 19))]
def C.c2 : LO := C.c2_b
def C.c2_w := pO C.c2.eq_1
def C.bl7 : ICode := .keep [1, 2] (.seq (.region C.c2) C.b7w)
def C.bl7_w := pC C.bl7.eq_1
def C.bz_b : LO := [
 X.o 1 (.boxN (X.s 0)),
 X.o 2 (.alloc [.nils, .nils, .nils, .nils])]
def C.bz : LO := C.bz_b
def C.bz_w := pO C.bz.eq_1
def C.q38 : IFunc := ⟨1, [.cellN 2 4], .seq (.region C.bz) C.bl7⟩
def C.q38_W := aI (aI (aI (aI (aI @C.yc_w @C.b7k_w) (aI @C.yb_w @C.b7v_w)) (aI (aI @C.x9_w @C.b7x_w) (aI @C.x8_w @C.b7y_w))) (aI (aI (aI @C.ym_w @C.b7h_w) (aI @C.b7q_w @C.b7z_w)) (aI (aI @C.yl_w @C.b7j_w) (aI @C.b7l_w @C.yk_w)))) (aI (aI (aI (aI @C.b7m_w @C.yj_w) (aI @C.b7n_w @C.yh_w)) (aI (aI @C.b7p_w @C.yg_w) (aI @C.b7f_w @C.b7r_w))) (aI (aI (aI @C.b7s_w @C.yf_w) (aI @C.b7g_w @C.b7t_w)) (aI (aI @C.yd_w @C.b7w_w) (aI @C.c2_w (aI @C.bl7_w @C.bz_w)))))
def C.q38_B := aI (aI (aI @C.yc_b.eq_1 (aI @C.yb_b.eq_1 @C.x9_b.eq_1)) (aI (aI @C.x8_b.eq_1 @C.ym_b.eq_1) (aI @C.yl_b.eq_1 @C.yk_b.eq_1))) (aI (aI @C.yj_b.eq_1 (aI @C.yh_b.eq_1 @C.yg_b.eq_1)) (aI (aI @C.yf_b.eq_1 @C.yd_b.eq_1) (aI @C.c2_b.eq_1 @C.bz_b.eq_1)))

def C.ty_b : LO := [
 X.o 5 (.buildSlice 2 0 [.int .u32 0, .bool false] []),
 X.m 6 0,
 X.o 7 (.append 2 8 (X.s 5) (X.s 6)),
 X.m 2 7]
def C.ty : LO := C.ty_b
def C.ty_w := pO C.ty.eq_1
def C.b4c : ICode := .keep [0] (.seq (.region C.ty) .ret)
def C.b4c_w := pC C.b4c.eq_1
def C.tx_b : LO := [
 X.o 2 (.move (.cst (.nils)))]
def C.tx : LO := C.tx_b
def C.tx_w := pO C.tx.eq_1
def C.b4d : ICode := .seq (.region C.tx) .ret
def C.b4d_w := pC C.b4d.eq_1
def C.b4f : ICode := .keep [0, 4] (.cond (X.s 4) C.b4d .skip)
def C.b4f_w := pC C.b4f.eq_1
def C.tw_b : LO := [
 X.m 3 0,
 X.o 4 (.eqP 1 false (X.s 3) (.cst (.nils)))]
def C.tw : LO := C.tw_b
def C.tw_w := pO C.tw.eq_1
def C.b4g : ICode := .keep [0] (.seq (.seq (.region C.tw) C.b4f) C.b4c)
def C.b4g_w := pC C.b4g.eq_1
def C.tv_b : LO := [
 X.o 2 (.move (.cst (.nils)))]
def C.tv : LO := C.tv_b
def C.tv_w := pO C.tv.eq_1
def C.q124 : IFunc := ⟨1, [.slot 2], .seq (.region C.tv) C.b4g⟩
def C.q124_W := aI (aI (aI @C.ty_w @C.b4c_w) (aI @C.tx_w @C.b4d_w)) (aI (aI @C.b4f_w @C.tw_w) (aI @C.b4g_w @C.tv_w))
def C.q124_B := aI (aI @C.ty_b.eq_1 @C.tx_b.eq_1) (aI @C.tw_b.eq_1 @C.tv_b.eq_1)

def C.xv_b : LO := [
 X.o 22 (.makeFunc F.q3 [X.s 3]),
 X.m 4 22,
 X.o 5 (.move (.cst (.bool true)))]
def C.xv : LO := C.xv_b
def C.xv_w := pO C.xv.eq_1
def C.b61 : ICode := .keep [3] (.seq (.region C.xv) .ret)
def C.b61_w := pC C.b61.eq_1
def C.xt_b : LO := [
 X.o 4 (.move (.cst (.nilf))),
 X.o 5 (.move (.cst (.bool false)))]
def C.xt : LO := C.xt_b
def C.xt_w := pO C.xt.eq_1
def C.b62 : ICode := .seq (.region C.xt) .ret
def C.b62_w := pC C.b62.eq_1
def C.b63 : ICode := .keep [3, 21] (.cond (X.s 21) C.b62 .skip)
def C.b63_w := pC C.b63.eq_1
def C.xs_b : LO := [
 X.o 6 (.load1 (X.s 3)),
 X.o 7 (.bin .lss (X.s 6) (X.i 1)),
 X.m 8 7,
 X.f 8 9 (.load1 (X.s 3)),
 X.f 8 10 (.bin .gtr (X.s 9) (X.i 32)),
 X.o 11 (.pick (X.s 8) (.cst (.bool true)) (X.s 10)),
 X.m 12 11,
 X.f 12 13 (.move (X.s 0)),
 X.f 12 14 (.bin .lss (X.s 13) (X.i 0)),
 X.o 15 (.pick (X.s 12) (.cst (.bool true)) (X.s 14)),
 X.m 16 15,
 X.f 16 17 (.move (X.s 0)),
 X.f 16 18 (.load1 (X.s 3)),
 X.f 16 19 (.bin .sub (X.i 32) (X.s 18)),
 X.f 16 20 (.bin .gtr (X.s 17) (X.s 19)),
 X.o 21 (.pick (X.s 16) (.cst (.bool true)) (X.s 20))]
def C.xs : LO := C.xs_b
def C.xs_w := pO C.xs.eq_1
def C.b64 : ICode := .keep [0, 3] (.seq (.seq (.region C.xs) C.b63) C.b61)
def C.b64_w := pC C.b64.eq_1
def C.xr_b : LO := [
 X.o 3 (.box1 (X.s 1)),
 X.o 4 (.move (.cst (.nilf))),
 X.o 5 (.move (.cst (.bool false)))]
def C.xr : LO := C.xr_b
def C.xr_w := pO C.xr.eq_1
def C.q2 : IFunc := ⟨2, [.slot 4, .slot 5], .seq (.region C.xr) C.b64⟩
def C.q2_W := aI (aI (aI @C.xv_w @C.b61_w) (aI @C.xt_w @C.b62_w)) (aI (aI @C.b63_w @C.xs_w) (aI @C.b64_w @C.xr_w))
def C.q2_B := aI (aI @C.xv_b.eq_1 @C.xt_b.eq_1) (aI @C.xs_b.eq_1 @C.xr_b.eq_1)

def C.s7_b : LO := [
 X.m 16 7,
 X.o 17 (.conv .i64 (X.s 16)),
 X.m 6 17]
def C.s7 : LO := C.s7_b
def C.s7_w := pO C.s7.eq_1
def C.b3p : ICode := .keep [7] (.seq (.region C.s7) .ret)
def C.b3p_w := pC C.b3p.eq_1
def C.s6_b : LO := [
 X.m 10 0,
 X.m 11 1,
 X.m 12 2,
 X.o 13 (.call F.q0 [X.s 10, X.s 11, X.s 12]),
 X.m 9 13,
 X.o 14 (.extract (X.s 9) 0),
 X.o 15 (.extract (X.s 9) 1),
 X.m 7 14,
 X.m 8 15]
def C.s6 : LO := C.s6_b
def C.s6_w := pO C.s6.eq_1
def C.b3r : ICode := .keep [0, 1, 2] (.seq (.region C.s6) C.b3p)
def C.b3r_w := pC C.b3r.eq_1
def C.s5_b : LO := [
 X.o 6 (.move (X.i 0))]
def C.s5 : LO := C.s5_b
def C.s5_w := pO C.s5.eq_1
def C.q11 : IFunc := ⟨3, [.slot 6], .seq (.region C.s5) C.b3r⟩
def C.q11_W := aI (aI @C.s7_w @C.b3p_w) (aI @C.s6_w (aI @C.b3r_w @C.s5_w))
def C.q11_B := aI @C.s7_b.eq_1 (aI @C.s6_b.eq_1 @C.s5_b.eq_1)

def C.bj1_b : LO := [
 X.m 5 0,
 X.o 6 (.eqP 0 true (X.s 5) (.cst (.nilp))),
 X.m 7 6,
 X.t 7 8 (.move (X.s 1)),
 X.t 7 9 (.bin .geq (X.s 8) (X.i 0)),
 X.o 10 (.pick (X.s 7) (X.s 9) (.cst (.bool false))),
 X.m 11 10,
 X.t 11 12 (.move (X.s 1)),
 X.t 11 13 (.move (X.s 0)),
 X.t 11 14 (.nilchk (X.s 13)),
 X.t 11 15 (.fldAddr 0 (X.s 14)),
 X.t 11 16 (.load1 (X.s 15)),
 X.t 11 17 (.len (X.s 16)),
 X.t 11 18 (.bin .lss (X.s 12) (X.s 17)),
 X.o 19 (.pick (X.s 11) (X.s 18) (.cst (.bool false))),
 X.m 4 19]
def C.bj1 : LO := C.bj1_b
def C.bj1_w := pO C.bj1.eq_1
def C.chv : ICode := .keep [0, 1] (.seq (.region C.bj1) .ret)
def C.chv_w := pC C.chv.eq_1
def C.bj0_b : LO := [
 X.o 4 (.move (.cst (.bool false)))]
def C.bj0 : LO := C.bj0_b
def C.bj0_w := pO C.bj0.eq_1
def C.q8 : IFunc := ⟨2, [.slot 4], .seq (.region C.bj0) C.chv⟩
def C.q8_W := aI @C.bj1_w (aI @C.chv_w @C.bj0_w)
def C.q8_B := aI @C.bj1_b.eq_1 @C.bj0_b.eq_1

def C.bd9_b : LO := [
 X.m 42 6,
 X.o 43 (.idxAddr 4 (X.s 42) (X.i 0)),
 X.o 44 (.loadN 4 (X.s 43)),
 X.n (.storeN 4 (X.s 4) (X.s 44)),
 X.o 5 (.move (.cst (.bool true)))]
def C.bd9 : LO := C.bd9_b
def C.bd9_w := pO C.bd9.eq_1
def C.ccc : ICode := .keep [4, 6] (.seq (.region C.bd9) .ret)
def C.ccc_w := pC C.ccc.eq_1
def C.bd8_b : LO := [
 X.m 30 0,
 X.o 31 (.nilchk (X.s 30)),
 X.o 32 (.fldAddr 1 (X.s 31)),
 X.o 33 (.load1 (X.s 32)),
 X.m 34 1,
 X.m 35 6,
 X.m 36 6,
 X.o 37 (.len (X.s 36)),
 X.m 38 6,
 X.o 39 (.len (X.s 38)),
 X.o 40 (.slice 4 (X.s 35) (some (X.i 1)) (some (X.s 37)) (some (X.s 39))),
 X.o 41 (.idxAddr 1 (X.s 33) (X.s 34)),
 X.n (.store1 (X.s 41) (X.s 40))]
def C.bd8 : LO := C.bd8_b
def C.bd8_w := pO C.bd8.eq_1
def C.ccd : ICode := .keep [0, 1, 4, 6] (.seq (.region C.bd8) C.ccc)
def C.ccd_w := pC C.ccd.eq_1
def C.bd7_b : LO := [
 X.m 23 0,
 X.o 24 (.nilchk (X.s 23)),
 X.o 25 (.fldAddr 1 (X.s 24)),
 X.o 26 (.load1 (X.s 25)),
 X.m 27 1,
 X.o 28 (.idxAddr 1 (X.s 26) (X.s 27)),
 X.o 29 (.load1 (X.s 28)),
 X.m 6 29]
def C.bd7 : LO := C.bd7_b
def C.bd7_w := pO C.bd7.eq_1
def C.ccf : ICode := .keep [0, 1, 4] (.seq (.region C.bd7) C.ccd)
def C.ccf_w := pC C.ccf.eq_1
def C.bd6_b : LO := [
 X.o 22 (.build [.int .i64 0, .bool false, .int .i64 0, .int .u32 0] []),
 X.n (.storeN 4 (X.s 4) (X.s 22)),
 X.o 5 (.move (.cst (.bool false)))]
def C.bd6 : LO := C.bd6_b
def C.bd6_w := pO C.bd6.eq_1
def C.ccg : ICode := .seq (.region C.bd6) .ret
def C.ccg_w := pC C.ccg.eq_1
def C.cch : ICode := .keep [0, 1, 4, 21] (.cond (X.s 21) C.ccg .skip)
def C.cch_w := pC C.cch.eq_1
def C.bd5_b : LO := [
 X.m 7 0,
 X.m 8 1,
 X.o 9 (.call F.q8 [X.s 7, X.s 8]),
 X.o 10 (.un .not (X.s 9)),
 X.m 11 10,
 X.f 11 12 (.move (X.s 0)),
 X.f 11 13 (.nilchk (X.s 12)),
 X.f 11 14 (.fldAddr 1 (X.s 13)),
 X.f 11 15 (.load1 (X.s 14)),
 X.f 11 16 (.move (X.s 1)),
 X.f 11 17 (.idxAddr 1 (X.s 15) (X.s 16)),
 X.f 11 18 (.load1 (X.s 17)),
 X.f 11 19 (.len (X.s 18)),
 X.f 11 20 (.bin .eql (X.s 19) (X.i 0)),
 X.o 21 (.pick (X.s 11) (.cst (.bool true)) (X.s 20))]
def C.bd5 : LO := C.bd5_b
def C.bd5_w := pO C.bd5.eq_1
def C.ccj : ICode := .keep [0, 1, 4] (.seq (.seq (.region C.bd5) C.cch) C.ccf)
def C.ccj_w := pC C.ccj.eq_1
def C.c5_b : LO := [
 X.o 4 (.alloc [.int .i64 0, .bool false, .int .i64 0, .int .u32 0]),
 X.o 5 (.move (.cst (.bool false)))]
def C.c5 : LO := C.c5_b
def C.c5_w := pO C.c5.eq_1
def C.q6 : IFunc := ⟨2, [.cellN 4 4, .slot 5], .seq (.region C.c5) C.ccj⟩
def C.q6_W := aI (aI (aI @C.bd9_w (aI @C.ccc_w @C.bd8_w)) (aI @C.ccd_w (aI @C.bd7_w @C.ccf_w))) (aI (aI @C.bd6_w (aI @C.ccg_w @C.cch_w)) (aI @C.bd5_w (aI @C.ccj_w @C.c5_w)))
def C.q6_B := aI (aI @C.bd9_b.eq_1 (aI @C.bd8_b.eq_1 @C.bd7_b.eq_1)) (aI @C.bd6_b.eq_1 (aI @C.bd5_b.eq_1 @C.c5_b.eq_1))

def C.rz_b : LO := [
 X.m 14 0,
 X.o 15 (.nilchk (X.s 14)),
 X.o 16 (.fldAddr 1 (X.s 15)),
 X.o 17 (.load1 (X.s 16)),
 X.m 18 1,
 X.o 19 (.idxAddr 1 (X.s 17) (X.s 18)),
 X.o 20 (.load1 (X.s 19)),
 X.m 4 20,
 X.o 5 (.move (X.i 0))]
def C.rz : LO := C.rz_b
def C.rz_w := pO C.rz.eq_1
def C.b2g : ICode := .keep [0, 1] (.seq (.region C.rz) .ret)
def C.b2g_w := pC C.b2g.eq_1
def C.rq_b : LO := [
 X.o 4 (.move (.cst (.int .u32 0))),
 X.o 5 (.move (X.i 4))]
def C.rq : LO := C.rq_b
def C.rq_w := pO C.rq.eq_1
def C.b2h : ICode := .seq (.region C.rq) .ret
def C.b2h_w := pC C.b2h.eq_1
def C.b2j : ICode := .keep [0, 1, 13] (.cond (X.s 13) C.b2h .skip)
def C.b2j_w := pC C.b2j.eq_1
def C.ry_b : LO := [
 X.m 6 1,
 X.o 7 (.bin .lss (X.s 6) (X.i 0)),
 X.m 8 7,
 X.f 8 9 (.move (X.s 1)),
 X.f 8 10 (.move (X.s 0)),
 X.f 8 11 (.call F.q108 [X.s 10]),
 X.f 8 12 (.bin .geq (X.s 9) (X.s 11)),
 X.o 13 (.pick (X.s 8) (.cst (.bool true)) (X.s 12))]
def C.ry : LO := C.ry_b
def C.ry_w := pO C.ry.eq_1
def C.b2k : ICode := .keep [0, 1] (.seq (.seq (.region C.ry) C.b2j) C.b2g)
def C.b2k_w := pC C.b2k.eq_1
def C.rx_b : LO := [
 X.o 4 (.move (.cst (.int .u32 0))),
 X.o 5 (.move (X.i 0))]
def C.rx : LO := C.rx_b
def C.rx_w := pO C.rx.eq_1
def C.q109 : IFunc := ⟨2, [.slot 4, .slot 5], .seq (.region C.rx) C.b2k⟩
def C.q109_W := aI (aI (aI @C.rz_w @C.b2g_w) (aI @C.rq_w @C.b2h_w)) (aI (aI @C.b2j_w @C.ry_w) (aI @C.b2k_w @C.rx_w))
def C.q109_B := aI (aI @C.rz_b.eq_1 @C.rq_b.eq_1) (aI @C.ry_b.eq_1 @C.rx_b.eq_1)

def C.sr_b : LO := [
 X.o 6 (.move (X.i 0))]
def C.sr : LO := C.sr_b
def C.sr_w := pO C.sr.eq_1
def C.b24 : ICode := .keep [] (.seq (.region C.sr) .ret)
def C.b24_w := pC C.b24.eq_1
def C.sp_b : LO := [
 X.m 15 0,
 X.o 16 (.nilchk (X.s 15)),
 X.o 17 (.fldAddr 1 (X.s 16)),
 X.o 18 (.load1 (X.s 17)),
 X.m 19 1,
 X.m 20 2,
 X.o 21 (.idxAddr 1 (X.s 18) (X.s 19)),
 X.n (.store1 (X.s 21) (X.s 20))]
def C.sp : LO := C.sp_b
def C.sp_w := pO C.sp.eq_1
def C.b25 : ICode := .keep [0, 1, 2] (.seq (.region C.sp) C.b24)
def C.b25_w := pC C.b25.eq_1
def C.sn_b : LO := [
 X.o 6 (.move (X.i 4))]
def C.sn : LO := C.sn_b
def C.sn_w := pO C.sn.eq_1
def C.b26 : ICode := .seq (.region C.sn) .ret
def C.b26_w := pC C.b26.eq_1
def C.b27 : ICode := .keep [0, 1, 2, 14] (.cond (X.s 14) C.b26 .skip)
def C.b27_w := pC C.b27.eq_1
def C.sm_b : LO := [
 X.m 7 1,
 X.o 8 (.bin .lss (X.s 7) (X.i 0)),
 X.m 9 8,
 X.f 9 10 (.move (X.s 1)),
 X.f 9 11 (.move (X.s 0)),
 X.f 9 12 (.call F.q108 [X.s 11]),
 X.f 9 13 (.bin .geq (X.s 10) (X.s 12)),
 X.o 14 (.pick (X.s 9) (.cst (.bool true)) (X.s 13))]
def C.sm : LO := C.sm_b
def C.sm_w := pO C.sm.eq_1
def C.b28 : ICode := .keep [0, 1, 2] (.seq (.seq (.region C.sm) C.b27) C.b25)
def C.b28_w := pC C.b28.eq_1
def C.sl_b : LO := [
 X.o 6 (.move (X.i 0))]
def C.sl : LO := C.sl_b
def C.sl_w := pO C.sl.eq_1
def C.q114 : IFunc := ⟨3, [.slot 6], .seq (.region C.sl) C.b28⟩
def C.q114_W := aI (aI (aI @C.sr_w @C.b24_w) (aI @C.sp_w (aI @C.b25_w @C.sn_w))) (aI (aI @C.b26_w @C.b27_w) (aI @C.sm_w (aI @C.b28_w @C.sl_w)))
def C.q114_B := aI (aI @C.sr_b.eq_1 @C.sp_b.eq_1) (aI @C.sn_b.eq_1 (aI @C.sm_b.eq_1 @C.sl_b.eq_1))

def C.xf_b : LO := [
 X.m 19 5,
 X.o 20 (.nilchk (X.s 19)),
 X.o 21 (.fldAddr 0 (X.s 20)),
 X.o 22 (.fldAddr 1 (X.s 21)),
 X.o 23 (.load1 (X.s 22)),
 X.m 24 5,
 X.o 25 (.nilchk (X.s 24)),
 X.o 26 (.fldAddr 8 (X.s 25)),
 X.o 27 (.load1 (X.s 26)),
 X.o 28 (.idxAddr 1 (X.s 23) (X.s 27)),
 X.o 29 (.load1 (X.s 28)),
 X.m 4 29]
def C.xf : LO := C.xf_b
def C.xf_w := pO C.xf.eq_1
def C.b6r : ICode := .keep [5] (.seq (.region C.xf) .ret)
def C.b6r_w := pC C.b6r.eq_1
def C.xd_b : LO := [
 X.o 4 (.move (X.i (-1)))]
def C.xd : LO := C.xd_b
def C.xd_w := pO C.xd.eq_1
def C.b6s : ICode := .seq (.region C.xd) .ret
def C.b6s_w := pC C.b6s.eq_1
def C.b6t : ICode := .keep [5, 18] (.cond (X.s 18) C.b6s .skip)
def C.b6t_w := pC C.b6t.eq_1
def C.xc_b : LO := [
 X.m 12 5,
 X.o 13 (.nilchk (X.s 12)),
 X.o 14 (.fldAddr 0 (X.s 13)),
 X.o 15 (.fldAddr 1 (X.s 14)),
 X.o 16 (.load1 (X.s 15)),
 X.o 17 (.len (X.s 16)),
 X.o 18 (.bin .eql (X.s 17) (X.i 0))]
def C.xc : LO := C.xc_b
def C.xc_w := pO C.xc.eq_1
def C.b6v : ICode := .keep [5] (.seq (.seq (.region C.xc) C.b6t) C.b6r)
def C.b6v_w := pC C.b6v.eq_1
def C.xb_b : LO := [
 X.m 6 0,
 X.o 7 (.nilchk (X.s 6)),
 X.o 8 (.fldAddr 0 (X.s 7)),
 X.o 9 (.load1 (X.s 8)),
 X.m 10 1,
 X.o 11 (.idxAddr 11 (X.s 9) (X.s 10)),
 X.m 5 11]
def C.xb : LO := C.xb_b
def C.xb_w := pO C.xb.eq_1
def C.b6w : ICode := .keep [0, 1] (.seq (.region C.xb) C.b6v)
def C.b6w_w := pC C.b6w.eq_1
def C.w9_b : LO := [
 X.o 4 (.move (X.i 0))]
def C.w9 : LO := C.w9_b
def C.w9_w := pO C.w9.eq_1
def C.q24 : IFunc := ⟨2, [.slot 4], .seq (.region C.w9) C.b6w⟩
def C.q24_W := aI (aI (aI @C.xf_w @C.b6r_w) (aI @C.xd_w (aI @C.b6s_w @C.b6t_w))) (aI (aI @C.xc_w @C.b6v_w) (aI @C.xb_w (aI @C.b6w_w @C.w9_w)))
def C.q24_B := aI (aI @C.xf_b.eq_1 @C.xd_b.eq_1) (aI @C.xc_b.eq_1 (aI @C.xb_b.eq_1 @C.w9_b.eq_1))

def C.px_b : LO := [
 X.o 2 (.move (.cst (.int .u8 0)))]
def C.px : LO := C.px_b
def C.px_w := pO C.px.eq_1
def C.b0y : ICode := .keep [] (.seq (.region C.px) .ret)
def C.b0y_w := pC C.b0y.eq_1
def C.p4_b : LO := [
 X.o 2 (.move (.cst (.int .u8 110)))]
def C.p4 : LO := C.p4_b
def C.p4_w := pO C.p4.eq_1
def C.b08 : ICode := .keep [] (.seq (.region C.p4) .ret)
def C.b08_w := pC C.b08.eq_1
def C.p3_b : LO := [
 X.o 2 (.move (.cst (.int .u8 114)))]
def C.p3 : LO := C.p3_b
def C.p3_w := pO C.p3.eq_1
def C.b1h : ICode := .seq (.region C.p3) .ret
def C.b1h_w := pC C.b1h.eq_1
def C.b1j : ICode := .keep [27] (.cond (X.s 27) C.b1h .skip)
def C.b1j_w := pC C.b1j.eq_1
def C.p2_b : LO := [
 X.m 24 0,
 X.o 25 (.nilchk (X.s 24)),
 X.o 26 (.fldAddr 5 (X.s 25)),
 X.o 27 (.load1 (X.s 26))]
def C.p2 : LO := C.p2_b
def C.p2_w := pO C.p2.eq_1
def C.b1k : ICode := .keep [0] (.seq (.seq (.region C.p2) C.b1j) C.b08)
def C.b1k_w := pC C.b1k.eq_1
def C.p1_b : LO := [
 X.m 21 0,
 X.o 22 (.nilchk (X.s 21)),
 X.o 23 (.fldAddr 3 (X.s 22)),
 X.n (.store1 (X.s 23) (.cst (.int .u8 104)))]
def C.p1 : LO := C.p1_b
def C.p1_w := pO C.p1.eq_1
def C.b1l : ICode := .keep [0] (.seq (.region C.p1) C.b1k)
def C.b1l_w := pC C.b1l.eq_1
def C.p0_b : LO := [
 X.o 2 (.move (.cst (.int .u8 0)))]
def C.p0 : LO := C.p0_b
def C.p0_w := pO C.p0.eq_1
def C.b1m : ICode := .keep [] (.seq (.region C.p0) .ret)
def C.b1m_w := pC C.b1m.eq_1
def C.pz_b : LO := [
 X.m 14 0,
 X.o 15 (.nilchk (X.s 14)),
 X.o 16 (.fldAddr 4 (X.s 15)),
 X.o 17 (.load1 (X.s 16)),
 X.o 18 (.bin .sub (X.s 17) (X.i 1)),
 X.o 19 (.nilchk (X.s 14)),
 X.o 20 (.fldAddr 4 (X.s 19)),
 X.n (.store1 (X.s 20) (X.s 18))]
def C.pz : LO := C.pz_b
def C.pz_w := pO C.pz.eq_1
def C.b1n : ICode := .seq (.region C.pz) C.b1m
def C.b1n_w := pC C.b1n.eq_1
def C.b1p : ICode := .keep [0, 13] (.cond (X.s 13) C.b1n .skip)
def C.b1p_w := pC C.b1p.eq_1
def C.pq_b : LO := [
 X.m 9 0,
 X.o 10 (.nilchk (X.s 9)),
 X.o 11 (.fldAddr 4 (X.s 10)),
 X.o 12 (.load1 (X.s 11)),
 X.o 13 (.bin .gtr (X.s 12) (X.i 0))]
def C.pq : LO := C.pq_b
def C.pq_w := pO C.pq.eq_1
def C.pn_b : LO := [
 X.o 2 (.move (.cst (.int .u8 111)))]
def C.pn : LO := C.pn_b
def C.pn_w := pO C.pn.eq_1
def C.b0q : ICode := .keep [] (.seq (.region C.pn) .ret)
def C.b0q_w := pC C.b0q.eq_1
def C.pm_b : LO := [
 X.m 30 0,
 X.o 31 (.nilchk (X.s 30)),
 X.o 32 (.fldAddr 3 (X.s 31)),
 X.n (.store1 (X.s 32) (.cst (.int .u8 49)))]
def C.pm : LO := C.pm_b
def C.pm_w := pO C.pm.eq_1
def C.pw_b : LO := [
 X.o 2 (.move (.cst (.int .u8 108)))]
def C.pw : LO := C.pw_b
def C.pw_w := pO C.pw.eq_1
def C.b0z : ICode := .keep [] (.seq (.region C.pw) .ret)
def C.b0z_w := pC C.b0z.eq_1
def C.pv_b : LO := [
 X.m 42 0,
 X.o 43 (.nilchk (X.s 42)),
 X.o 44 (.fldAddr 3 (X.s 43)),
 X.n (.store1 (X.s 44) (.cst (.int .u8 48)))]
def C.pv : LO := C.pv_b
def C.pv_w := pO C.pv.eq_1
def C.b00 : ICode := .keep [0] (.seq (.region C.pv) C.b0z)
def C.b00_w := pC C.b00.eq_1
def C.pt_b : LO := [
 X.o 2 (.move (.cst (.int .u8 115)))]
def C.pt : LO := C.pt_b
def C.pt_w := pO C.pt.eq_1
def C.b01 : ICode := .keep [] (.seq (.region C.pt) .ret)
def C.b01_w := pC C.b01.eq_1
def C.ps_b : LO := [
 X.m 39 0,
 X.o 40 (.nilchk (X.s 39)),
 X.o 41 (.fldAddr 3 (X.s 40)),
 X.n (.store1 (X.s 41) (.cst (.int .u8 116)))]
def C.ps : LO := C.ps_b
def C.ps_w := pO C.ps.eq_1
def C.b02 : ICode := .seq (.region C.ps) C.b01
def C.b02_w := pC C.b02.eq_1
def C.b03 : ICode := .keep [0, 38] (.cond (X.s 38) C.b02 .skip)
def C.b03_w := pC C.b03.eq_1
def C.pr_b : LO := [
 X.m 35 0,
 X.o 36 (.nilchk (X.s 35)),
 X.o 37 (.fldAddr 6 (X.s 36)),
 X.o 38 (.load1 (X.s 37))]
def C.pr : LO := C.pr_b
def C.pr_w := pO C.pr.eq_1
def C.b04 : ICode := .seq (.seq (.region C.pr) C.b03) C.b00
def C.b04_w := pC C.b04.eq_1
def C.b05 : ICode := .keep [0, 33] (.cond (X.s 33) C.b04 .skip)
def C.b05_w := pC C.b05.eq_1
def C.pp_b : LO := [
 X.o 34 (.bin .eql (X.s 6) (.cst (.int .u8 99))),
 X.m 33 34]
def C.pp : LO := C.pp_b
def C.pp_w := pO C.pp.eq_1
def C.b06 : ICode := .seq (.region C.pm) C.b0q
def C.b06_w := pC C.b06.eq_1
def C.b07 : ICode := .seq (.region C.pp) C.b05
def C.b07_w := pC C.b07.eq_1
def C.b09 : ICode := .keep [0, 6, 28] (.cond (X.s 28) C.b06 C.b07)
def C.b09_w := pC C.b09.eq_1
def C.pl_b : LO := [
 X.o 29 (.bin .eql (X.s 6) (.cst (.int .u8 104))),
 X.m 28 29]
def C.pl : LO := C.pl_b
def C.pl_w := pO C.pl.eq_1
def C.b1b : ICode := .seq (.seq (.region C.pq) C.b1p) C.b1l
def C.b1b_w := pC C.b1b.eq_1
def C.b1c : ICode := .seq (.region C.pl) C.b09
def C.b1c_w := pC C.b1c.eq_1
def C.b1d : ICode := .keep [0, 6, 7] (.cond (X.s 7) C.b1b C.b1c)
def C.b1d_w := pC C.b1d.eq_1
def C.py_b : LO := [
 X.o 8 (.bin .eql (X.s 6) (.cst (.int .u8 114))),
 X.m 7 8]
def C.py : LO := C.py_b
def C.py_w := pO C.py.eq_1
def C.b0x : ICode := .seq (.region C.py) C.b1d
def C.b0x_w := pC C.b0x.eq_1
def C.b1f : ICode := .keep [0, 6] (.block 0 C.b0x)
def C.b1f_w := pC C.b1f.eq_1
def C.pk_b : LO := [
 X.m 3 0,
 X.o 4 (.nilchk (X.s 3)),
 X.o 5 (.fldAddr 3 (X.s 4)),
 X.o 6 (.load1 (X.s 5))]
def C.pk : LO := C.pk_b
def C.pk_w := pO C.pk.eq_1
def C.b1g : ICode := .keep [0] (.seq (.seq (.region C.pk) C.b1f) C.b0y)
def C.b1g_w := pC C.b1g.eq_1
def C.pj_b : LO := [
 X.o 2 (.move (.cst (.int .u8 0)))]
def C.pj : LO := C.pj_b
def C.pj_w := pO C.pj.eq_1
def C.q102 : IFunc := ⟨1, [.slot 2], .seq (.region C.pj) C.b1g⟩
def C.q102_W := aI (aI (aI (aI (aI @C.px_w @C.b0y_w) (aI @C.p4_w (aI @C.b08_w @C.p3_w))) (aI (aI @C.b1h_w (aI @C.b1j_w @C.p2_w)) (aI @C.b1k_w (aI @C.p1_w @C.b1l_w)))) (aI (aI (aI @C.p0_w (aI @C.b1m_w @C.pz_w)) (aI @C.b1n_w (aI @C.b1p_w @C.pq_w))) (aI (aI @C.pn_w (aI @C.b0q_w @C.pm_w)) (aI @C.pw_w (aI @C.b0z_w @C.pv_w))))) (aI (aI (aI (aI @C.b00_w @C.pt_w) (aI @C.b01_w (aI @C.ps_w @C.b02_w))) (aI (aI @C.b03_w (aI @C.pr_w @C.b04_w)) (aI @C.b05_w (aI @C.pp_w @C.b06_w)))) (aI (aI (aI @C.b07_w (aI @C.b09_w @C.pl_w)) (aI @C.b1b_w (aI @C.b1c_w @C.b1d_w))) (aI (aI @C.py_w (aI @C.b0x_w @C.b1f_w)) (aI @C.pk_w (aI @C.b1g_w @C.pj_w)))))
def C.q102_B := aI (aI (aI (aI @C.px_b.eq_1 @C.p4_b.eq_1) (aI @C.p3_b.eq_1 (aI @C.p2_b.eq_1 @C.p1_b.eq_1))) (aI (aI @C.p0_b.eq_1 @C.pz_b.eq_1) (aI @C.pq_b.eq_1 (aI @C.pn_b.eq_1 @C.pm_b.eq_1)))) (aI (aI (aI @C.pw_b.eq_1 @C.pv_b.eq_1) (aI @C.pt_b.eq_1 (aI @C.ps_b.eq_1 @C.pr_b.eq_1))) (aI (aI @C.pp_b.eq_1 @C.pl_b.eq_1) (aI @C.py_b.eq_1 (aI @C.pk_b.eq_1 @C.pj_b.eq_1))))

def C.sg_b : LO := [
 X.o 7 (.load1 (X.s 1)),
 X.o 8 (.nilchk (X.s 7)),
 X.o 9 (.fldAddr 3 (X.s 8)),
 X.n (.store1 (X.s 9) (.cst (.bool true)))]
def C.sg : LO := C.sg_b
def C.sg_w := pO C.sg.eq_1
def C.b2q : ICode := .keep [1] (.region C.sg)
def C.b2q_w := pC C.b2q.eq_1
def C.sf_b : LO := [
 X.o 4 (.load1 (X.s 1)),
 X.o 5 (.makeFunc F.q113 [X.s 1]),
 X.o 6 (.call F.q117 [X.s 4, X.s 5])]
def C.sf : LO := C.sf_b
def C.sf_w := pO C.sf.eq_1
def C.b2z : ICode := .keep [1] (.seq (.region C.sf) C.b2q)
def C.b2z_w := pC C.b2z.eq_1
def C.b20 : ICode := .keep [1, 3] (.cond (X.s 3) .ret .skip)
def C.b20_w := pC C.b20.eq_1
def C.sd_b : LO := [
 X.o 2 (.load1 (X.s 1)),
 X.o 3 (.eqP 0 false (X.s 2) (.cst (.nilp)))]
def C.sd : LO := C.sd_b
def C.sd_w := pO C.sd.eq_1
def C.b21 : ICode := .keep [1] (.seq (.seq (.region C.sd) C.b20) C.b2z)
def C.b21_w := pC C.b21.eq_1
def C.sc_b : LO := [
 X.o 1 (.box1 (X.s 0))]
def C.sc : LO := C.sc_b
def C.sc_w := pO C.sc.eq_1
def C.q112 : IFunc := ⟨1, [], .seq (.region C.sc) C.b21⟩
def C.q112_W := aI (aI (aI @C.sg_w @C.b2q_w) (aI @C.sf_w @C.b2z_w)) (aI (aI @C.b20_w @C.sd_w) (aI @C.b21_w @C.sc_w))
def C.q112_B := aI (aI @C.sg_b.eq_1 @C.sf_b.eq_1) (aI @C.sd_b.eq_1 @C.sc_b.eq_1)

def C.r6_b : LO := [
 X.o 4 (.load1 (X.s 1)),
 X.o 5 (.makeFunc F.q111 [X.s 1]),
 X.o 6 (.call F.q115 [X.s 4, X.s 5])]
def C.r6 : LO := C.r6_b
def C.r6_w := pO C.r6.eq_1
def C.b2r : ICode := .keep [1] (.region C.r6)
def C.b2r_w := pC C.b2r.eq_1
def C.b2s : ICode := .keep [1, 3] (.cond (X.s 3) .ret .skip)
def C.b2s_w := pC C.b2s.eq_1
def C.r5_b : LO := [
 X.o 2 (.load1 (X.s 1)),
 X.o 3 (.eqP 0 false (X.s 2) (.cst (.nilp)))]
def C.r5 : LO := C.r5_b
def C.r5_w := pO C.r5.eq_1
def C.b2t : ICode := .keep [1] (.seq (.seq (.region C.r5) C.b2s) C.b2r)
def C.b2t_w := pC C.b2t.eq_1
def C.r4_b : LO := [
 X.o 1 (.box1 (X.s 0))]
def C.r4 : LO := C.r4_b
def C.r4_w := pO C.r4.eq_1
def C.q110 : IFunc := ⟨1, [], .seq (.region C.r4) C.b2t⟩
def C.q110_W := aI (aI @C.r6_w (aI @C.b2r_w @C.b2s_w)) (aI @C.r5_w (aI @C.b2t_w @C.r4_w))
def C.q110_B := aI @C.r6_b.eq_1 (aI @C.r5_b.eq_1 @C.r4_b.eq_1)

def C.w8_b : LO := [
 X.m 20 0,
 X.o 21 (.nilchk (X.s 20)),
 X.o 22 (.fldAddr 0 (X.s 21)),
 X.o 23 (.load1 (X.s 22)),
 X.m 24 1,
 X.o 25 (.idxAddr 11 (X.s 23) (X.s 24)),
 X.m 4 25]
def C.w8 : LO := C.w8_b
def C.w8_w := pO C.w8.eq_1
def C.b6l : ICode := .keep [0, 1] (.seq (.region C.w8) .ret)
def C.b6l_w := pC C.b6l.eq_1
def C.w7_b : LO := [
 X.o 4 (.move (.cst (.nilp)))]
def C.w7 : LO := C.w7_b
def C.w7_w := pO C.w7.eq_1
def C.b6m : ICode := .seq (.region C.w7) .ret
def C.b6m_w := pC C.b6m.eq_1
def C.b6n : ICode := .keep [0, 1, 19] (.cond (X.s 19) C.b6m .skip)
def C.b6n_w := pC C.b6n.eq_1
def C.w6_b : LO := [
 X.m 5 0,
 X.o 6 (.eqP 0 false (X.s 5) (.cst (.nilp))),
 X.m 7 6,
 X.f 7 8 (.move (X.s 1)),
 X.f 7 9 (.bin .lss (X.s 8) (X.i 0)),
 X.o 10 (.pick (X.s 7) (.cst (.bool true)) (X.s 9)),
 X.m 11 10,
 X.f 11 12 (.move (X.s 1)),
 X.f 11 13 (.move (X.s 0)),
 X.f 11 14 (.nilchk (X.s 13)),
 X.f 11 15 (.fldAddr 0 (X.s 14)),
 X.f 11 16 (.load1 (X.s 15)),
 X.f 11 17 (.len (X.s 16)),
 X.f 11 18 (.bin .geq (X.s 12) (X.s 17)),
 X.o 19 (.pick (X.s 11) (.cst (.bool true)) (X.s 18))]
def C.w6 : LO := C.w6_b
def C.w6_w := pO C.w6.eq_1
def C.b6p : ICode := .keep [0, 1] (.seq (.seq (.region C.w6) C.b6n) C.b6l)
def C.b6p_w := pC C.b6p.eq_1
def C.w5_b : LO := [
 X.o 4 (.move (.cst (.nilp)))]
def C.w5 : LO := C.w5_b
def C.w5_w := pO C.w5.eq_1
def C.q23 : IFunc := ⟨2, [.slot 4], .seq (.region C.w5) C.b6p⟩
def C.q23_W := aI (aI (aI @C.w8_w @C.b6l_w) (aI @C.w7_w @C.b6m_w)) (aI (aI @C.b6n_w @C.w6_w) (aI @C.b6p_w @C.w5_w))
def C.q23_B := aI (aI @C.w8_b.eq_1 @C.w7_b.eq_1) (aI @C.w6_b.eq_1 @C.w5_b.eq_1)

def C.t0_b : LO := [
 X.m 10 2,
 X.o 11 (.bin .add (X.s 10) (X.i 1)),
 X.m 12 3,
 X.o 13 (.bin .sub (X.s 12) (X.i 1)),
 X.m 2 11,
 X.m 3 13]
def C.t0 : LO := C.t0_b
def C.t0_w := pO C.t0.eq_1
def C.b4k : ICode := .keep [0, 2, 3] (.region C.t0)
def C.b4k_w := pC C.b4k.eq_1
def C.t1_b : LO := [
 X.m 14 0,
 X.m 15 2,
 X.m 16 0,
 X.m 17 3,
 X.m 18 0,
 X.m 19 3,
 X.o 20 (.idxAddr 1 (X.s 18) (X.s 19)),
 X.o 21 (.load1 (X.s 20)),
 X.m 22 0,
 X.m 23 2,
 X.o 24 (.idxAddr 1 (X.s 22) (X.s 23)),
 X.o 25 (.load1 (X.s 24)),
 X.o 26 (.idxAddr 1 (X.s 14) (X.s 15)),
 X.n (.store1 (X.s 26) (X.s 21)),
 X.o 27 (.idxAddr 1 (X.s 16) (X.s 17)),
 X.n (.store1 (X.s 27) (X.s 25))]
def C.t1 : LO := C.t1_b
def C.t1_w := pO C.t1.eq_1
def C.b4h : ICode := .region C.t1
def C.b4h_w := pC C.b4h.eq_1
def C.b4l : ICode := .keep [0, 2, 3] (.seq (.block 1 C.b4h) C.b4k)
def C.b4l_w := pC C.b4l.eq_1
def C.b4m : ICode := .keep [0, 2, 3, 9] (.cond (X.s 9) .skip (.exit 0))
def C.b4m_w := pC C.b4m.eq_1
def C.tz_b : LO := [
 X.m 7 2,
 X.m 8 3,
 X.o 9 (.bin .lss (X.s 7) (X.s 8))]
def C.tz : LO := C.tz_b
def C.tz_w := pO C.tz.eq_1
def C.ckl : ICode := .keep [0, 2, 3] (.seq (.seq (.region C.tz) C.b4m) C.b4l)
def C.ckl_w := pC C.ckl.eq_1
def C.b4j : ICode := .loop C.ckl
def C.b4j_w := pC C.b4j.eq_1
def C.b4n : ICode := .keep [0, 2, 3] (.block 0 C.b4j)
def C.b4n_w := pC C.b4n.eq_1
def C.tq_b : LO := [
 X.m 4 0,
 X.o 5 (.len (X.s 4)),
 X.o 6 (.bin .sub (X.s 5) (X.i 1)),
 X.o 2 (.move (X.i 0)),
 X.m 3 6]
def C.tq : LO := C.tq_b
def C.tq_w := pO C.tq.eq_1
def C.q125 : IFunc := ⟨1, [], .seq (.region C.tq) C.b4n⟩
def C.q125_W := aI (aI (aI @C.t0_w @C.b4k_w) (aI @C.t1_w (aI @C.b4h_w @C.b4l_w))) (aI (aI @C.b4m_w @C.tz_w) (aI @C.b4j_w (aI @C.b4n_w @C.tq_w)))
def C.q125_B := aI (aI @C.t0_b.eq_1 @C.t1_b.eq_1) (aI @C.tz_b.eq_1 @C.tq_b.eq_1)

def C.w1_b : LO := [
 X.o 52 (.load1 (X.s 2)),
 X.o 53 (.load1 (X.s 1)),
 X.m 54 0,
 ⟨some 55, .call F.q24 [X.s 53, X.s 54], none, [⟨.load1 (X.s 2), 52, none⟩], []⟩,
 X.o 56 (.callv (X.s 52) [X.s 55]),
 X.m 4 56]
def C.w1 : LO := C.w1_b
def C.w1_w := pO C.w1.eq_1
def C.b56 : ICode := .keep [0, 1, 2] (.seq (.region C.w1) .ret)
def C.b56_w := pC C.b56.eq_1
def C.wx_b : LO := [
 X.o 4 (.move (.cst (.bool true)))]
def C.wx : LO := C.wx_b
def C.wx_w := pO C.wx.eq_1
def C.wq_b : LO := [
 X.m 21 5,
 X.o 22 (.nilchk (X.s 21)),
 X.o 23 (.fldAddr 6 (X.s 22)),
 X.o 24 (.load1 (X.s 23)),
 X.m 25 24,
 X.t 25 26 (.move (X.s 5)),
 X.t 25 27 (.nilchk (X.s 26)),
 X.t 25 28 (.fldAddr 7 (X.s 27)),
 X.t 25 29 (.load1 (X.s 28)),
 X.t 25 30 (.bin .eql (X.s 29) (X.i 0)),
 X.o 31 (.pick (X.s 25) (X.s 30) (.cst (.bool false))),
 X.m 32 31,
 X.t 32 33 (.load1 (X.s 2)),
 X.t 32 34 (.load1 (X.s 1)),
 X.t 32 35 (.move (X.s 0)),
 ⟨some 36, .call F.q24 [X.s 34, X.s 35], some (32, true), [⟨.load1 (X.s 2), 33, some (32, true)⟩], []⟩,
 X.t 32 37 (.callv (X.s 33) [X.s 36]),
 X.o 38 (.pick (X.s 32) (X.s 37) (.cst (.bool false))),
 X.m 4 38]
def C.wq : LO := C.wq_b
def C.wq_w := pO C.wq.eq_1
def C.w0_b : LO := [
 X.m 41 5,
 X.o 42 (.nilchk (X.s 41)),
 X.o 43 (.fldAddr 6 (X.s 42)),
 X.o 44 (.load1 (X.s 43)),
 X.m 45 44,
 X.t 45 46 (.load1 (X.s 2)),
 X.t 45 47 (.load1 (X.s 1)),
 X.t 45 48 (.move (X.s 0)),
 ⟨some 49, .call F.q24 [X.s 47, X.s 48], some (45, true), [⟨.load1 (X.s 2), 46, some (45, true)⟩], []⟩,
 X.t 45 50 (.callv (X.s 46) [X.s 49]),
 X.o 51 (.pick (X.s 45) (X.s 50) (.cst (.bool false))),
 X.m 4 51]
def C.w0 : LO := C.w0_b
def C.w0_w := pO C.w0.eq_1
def C.b6b : ICode := .seq (.region C.w0) .ret
def C.b6b_w := pC C.b6b.eq_1
def C.b6c : ICode := .keep [0, 1, 2, 5, 39] (.cond (X.s 39) C.b6b .skip)
def C.b6c_w := pC C.b6c.eq_1
def C.wz_b : LO := [
 X.o 40 (.bin .eql (X.s 16) (.cst (.int .u8 103))),
 X.m 39 40]
def C.wz : LO := C.wz_b
def C.wz_w := pO C.wz.eq_1
def C.b6d : ICode := .seq (.region C.wq) .ret
def C.b6d_w := pC C.b6d.eq_1
def C.b6f : ICode := .seq (.region C.wz) C.b6c
def C.b6f_w := pC C.b6f.eq_1
def C.b6g : ICode := .keep [0, 1, 2, 5, 16, 19] (.cond (X.s 19) C.b6d C.b6f)
def C.b6g_w := pC C.b6g.eq_1
def C.wy_b : LO := [
 X.o 20 (.bin .eql (X.s 16) (.cst (.int .u8 112))),
 X.m 19 20]
def C.wy : LO := C.wy_b
def C.wy_w := pO C.wy.eq_1
def C.b6h : ICode := .seq (.region C.wx) .ret
def C.b6h_w := pC C.b6h.eq_1
def C.b6j : ICode := .seq (.region C.wy) C.b6g
def C.b6j_w := pC C.b6j.eq_1
def C.b6k : ICode := .keep [0, 1, 2, 5, 16, 17] (.cond (X.s 17) C.b6h C.b6j)
def C.b6k_w := pC C.b6k.eq_1
def C.ww_b : LO := [
 X.o 18 (.bin .eql (X.s 16) (.cst (.int .u8 111))),
 X.m 17 18]
def C.ww : LO := C.ww_b
def C.ww_w := pO C.ww.eq_1
def C.b55 : ICode := .seq (.region C.ww) C.b6k
def C.b55_w := pC C.b55.eq_1
def C.b57 : ICode := .keep [0, 1, 2, 5, 16] (.block 0 C.b55)
def C.b57_w := pC C.b57.eq_1
def C.wv_b : LO := [
 X.m 12 5,
 X.o 13 (.nilchk (X.s 12)),
 X.o 14 (.fldAddr 0 (X.s 13)),
 X.o 15 (.fldAddr 0 (X.s 14)),
 X.o 16 (.load1 (X.s 15))]
def C.wv : LO := C.wv_b
def C.wv_w := pO C.wv.eq_1
def C.b58 : ICode := .keep [0, 1, 2, 5] (.seq (.seq (.region C.wv) C.b57) C.b56)
def C.b58_w := pC C.b58.eq_1
def C.wt_b : LO := [
 X.o 6 (.load1 (X.s 1)),
 X.o 7 (.nilchk (X.s 6)),
 X.o 8 (.fldAddr 0 (X.s 7)),
 X.o 9 (.load1 (X.s 8)),
 X.m 10 0,
 X.o 11 (.idxAddr 11 (X.s 9) (X.s 10)),
 X.m 5 11]
def C.wt : LO := C.wt_b
def C.wt_w := pO C.wt.eq_1
def C.b59 : ICode := .keep [0, 1, 2] (.seq (.region C.wt) C.b58)
def C.b59_w := pC C.b59.eq_1
def C.ws_b : LO := [
 X.o 4 (.move (.cst (.bool false)))]
def C.ws : LO := C.ws_b
def C.ws_w := pO C.ws.eq_1
def C.q21 : IFunc := ⟨3, [.slot 4], .seq (.region C.ws) C.b59⟩
def C.q21_W := aI (aI (aI (aI @C.w1_w @C.b56_w) (aI @C.wx_w (aI @C.wq_w @C.w0_w))) (aI (aI @C.b6b_w (aI @C.b6c_w @C.wz_w)) (aI @C.b6d_w (aI @C.b6f_w @C.b6g_w)))) (aI (aI (aI @C.wy_w (aI @C.b6h_w @C.b6j_w)) (aI @C.b6k_w (aI @C.ww_w @C.b55_w))) (aI (aI @C.b57_w (aI @C.wv_w @C.b58_w)) (aI @C.wt_w (aI @C.b59_w @C.ws_w))))
def C.q21_B := aI (aI (aI @C.w1_b.eq_1 @C.wx_b.eq_1) (aI @C.wq_b.eq_1 (aI @C.w0_b.eq_1 @C.wz_b.eq_1))) (aI (aI @C.wy_b.eq_1 @C.ww_b.eq_1) (aI @C.wv_b.eq_1 (aI @C.wt_b.eq_1 @C.ws_b.eq_1)))

def C.blk_b : LO := [
 X.m 20 0,
 X.o 21 (.nilchk (X.s 20)),
 X.o 22 (.fldAddr 0 (X.s 21)),
 X.o 23 (.load1 (X.s 22)),
 X.m 24 1,
 X.o 25 (.idxAddr 7 (X.s 23) (X.s 24)),
 X.m 4 25]
def C.blk : LO := C.blk_b
def C.blk_w := pO C.blk.eq_1
def C.ckb : ICode := .keep [0, 1] (.seq (.region C.blk) .ret)
def C.ckb_w := pC C.ckb.eq_1
def C.blj_b : LO := [
 X.o 4 (.move (.cst (.nilp)))]
def C.blj : LO := C.blj_b
def C.blj_w := pO C.blj.eq_1
def C.ckc : ICode := .seq (.region C.blj) .ret
def C.ckc_w := pC C.ckc.eq_1
def C.ckd : ICode := .keep [0, 1, 19] (.cond (X.s 19) C.ckc .skip)
def C.ckd_w := pC C.ckd.eq_1
def C.blh_b : LO := [
 X.m 5 0,
 X.o 6 (.eqP 0 false (X.s 5) (.cst (.nilp))),
 X.m 7 6,
 X.f 7 8 (.move (X.s 1)),
 X.f 7 9 (.bin .lss (X.s 8) (X.i 0)),
 X.o 10 (.pick (X.s 7) (.cst (.bool true)) (X.s 9)),
 X.m 11 10,
 X.f 11 12 (.move (X.s 1)),
 X.f 11 13 (.move (X.s 0)),
 X.f 11 14 (.nilchk (X.s 13)),
 X.f 11 15 (.fldAddr 0 (X.s 14)),
 X.f 11 16 (.load1 (X.s 15)),
 X.f 11 17 (.len (X.s 16)),
 X.f 11 18 (.bin .geq (X.s 12) (X.s 17)),
 X.o 19 (.pick (X.s 11) (.cst (.bool true)) (X.s 18))]
def C.blh : LO := C.blh_b
def C.blh_w := pO C.blh.eq_1
def C.ckf : ICode := .keep [0, 1] (.seq (.seq (.region C.blh) C.ckd) C.ckb)
def C.ckf_w := pC C.ckf.eq_1
def C.blg_b : LO := [
 X.o 4 (.move (.cst (.nilp)))]
def C.blg : LO := C.blg_b
def C.blg_w := pO C.blg.eq_1
def C.q99 : IFunc := ⟨2, [.slot 4], .seq (.region C.blg) C.ckf⟩
def C.q99_W := aI (aI (aI @C.blk_w @C.ckb_w) (aI @C.blj_w @C.ckc_w)) (aI (aI @C.ckd_w @C.blh_w) (aI @C.ckf_w @C.blg_w))
def C.q99_B := aI (aI @C.blk_b.eq_1 @C.blj_b.eq_1) (aI @C.blh_b.eq_1 @C.blg_b.eq_1)

def C.ts_b : LO := [
 X.o 20 (.loadN 4 (X.s 6)),
 X.m 21 7,
 X.n (.storeN 4 (X.s 4) (X.s 20)),
 X.m 5 21]
def C.ts : LO := C.ts_b
def C.ts_w := pO C.ts.eq_1
def C.tr : ICode := .keep [4, 6, 7] (.seq (.region C.ts) .ret)
def C.tr_w := pC C.tr.eq_1
def C.f4_b : LO := [
 X.m 12 0,
 X.o 13 (.nilchk (X.s 12)),
 X.o 14 (.fldAddr 0 (X.s 13)),
 X.o 15 (.load1 (X.s 14)),
 X.m 16 1,
 X.o 17 (.lookup (.agg [.int .i64 0, .int .i64 0, .bool false, .bool false]) true (X.s 15) (X.s 16)),
 X.m 11 17,
 X.o 18 (.extract (X.s 11) 0),
 X.o 19 (.extract (X.s 11) 1),
 X.o 6 (.alloc [.int .i64 0, .int .i64 0, .bool false, .bool false]),
 X.n (.storeN 4 (X.s 6) (X.s 18)),
 X.m 7 19]
def C.f4 : LO := C.f4_b
def C.f4_w := pO C.f4.eq_1
def C.bnk : ICode := .keep [0, 1, 4] (.seq (.region C.f4) C.tr)
def C.bnk_w := pC C.bnk.eq_1
def C.f3_b : LO := [
 X.o 10 (.build [.int .i64 0, .int .i64 0, .bool false, .bool false] []),
 X.n (.storeN 4 (X.s 4) (X.s 10)),
 X.o 5 (.move (.cst (.bool false)))]
def C.f3 : LO := C.f3_b
def C.f3_w := pO C.f3.eq_1
def C.bnl : ICode := .seq (.region C.f3) .ret
def C.bnl_w := pC C.bnl.eq_1
def C.bnm : ICode := .keep [0, 1, 4, 9] (.cond (X.s 9) C.bnl .skip)
def C.bnm_w := pC C.bnm.eq_1
def C.f2_b : LO := [
 X.m 8 0,
 X.o 9 (.eqP 0 false (X.s 8) (.cst (.nilp)))]
def C.f2 : LO := C.f2_b
def C.f2_w := pO C.f2.eq_1
def C.bnn : ICode := .keep [0, 1, 4] (.seq (.seq (.region C.f2) C.bnm) C.bnk)
def C.bnn_w := pC C.bnn.eq_1
def C.bj_b : LO := [
 X.o 4 (.alloc [.int .i64 0, .int .i64 0, .bool false, .bool false]),
 X.o 5 (.move (.cst (.bool false)))]
def C.bj : LO := C.bj_b
def C.bj_w := pO C.bj.eq_1
def C.q122 : IFunc := ⟨2, [.cellN 4 4, .slot 5], .seq (.region C.bj) C.bnn⟩
def C.q122_W := aI (aI (aI @C.ts_w @C.tr_w) (aI @C.f4_w (aI @C.bnk_w @C.f3_w))) (aI (aI @C.bnl_w @C.bnm_w) (aI @C.f2_w (aI @C.bnn_w @C.bj_w)))
def C.q122_B := aI (aI @C.ts_b.eq_1 @C.f4_b.eq_1) (aI @C.f3_b.eq_1 (aI @C.f2_b.eq_1 @C.bj_b.eq_1))

def C.bdj_b : LO := [
 X.o 3 (.fldAddr 4 (X.s 1)),
 X.o 4 (.load1 (X.s 3)),
 X.o 5 (.len (X.s 4)),
 X.o 6 (.bin .gtr (X.s 5) (X.i 8)),
 X.m 7 6,
 X.f 7 8 (.fldAddr 5 (X.s 1)),
 X.f 7 9 (.load1 (X.s 8)),
 X.f 7 10 (.len (X.s 9)),
 X.f 7 11 (.bin .gtr (X.s 10) (X.i 6)),
 X.o 12 (.pick (X.s 7) (.cst (.bool true)) (X.s 11)),
 X.o 13 (.call F.q73 [X.s 12, X.i 8]),
 X.m 2 13]
def C.bdj : LO := C.bdj_b
def C.bdj_w := pO C.bdj.eq_1
def C.cbt : ICode := .keep [1] (.seq (.region C.bdj) .ret)
def C.cbt_w := pC C.cbt.eq_1
def C.bdh_b : LO := [
 X.o 1 (.boxN (X.s 0)),
 X.o 2 (.move (X.i 0))]
def C.bdh : LO := C.bdh_b
def C.bdh_w := pO C.bdh.eq_1
def C.q63 : IFunc := ⟨1, [.slot 2], .seq (.region C.bdh) C.cbt⟩
def C.q63_W := aI @C.bdj_w (aI @C.cbt_w @C.bdh_w)
def C.q63_B := aI @C.bdj_b.eq_1 @C.bdh_b.eq_1

def C.bfy_b : LO := [
 X.o 4 (.move (X.i 0))]
def C.bfy : LO := C.bfy_b
def C.bfy_w := pO C.bfy.eq_1
def C.cc3 : ICode := .keep [] (.seq (.region C.bfy) .ret)
def C.cc3_w := pC C.cc3.eq_1
def C.bfx_b : LO := [
 X.m 6 1,
 X.m 4 6]
def C.bfx : LO := C.bfx_b
def C.bfx_w := pO C.bfx.eq_1
def C.cc4 : ICode := .seq (.region C.bfx) .ret
def C.cc4_w := pC C.cc4.eq_1
def C.cc5 : ICode := .keep [1, 5] (.cond (X.s 5) C.cc4 .skip)
def C.cc5_w := pC C.cc5.eq_1
def C.bfw_b : LO := [
 X.m 5 0]
def C.bfw : LO := C.bfw_b
def C.bfw_w := pO C.bfw.eq_1
def C.cc6 : ICode := .keep [0, 1] (.seq (.seq (.region C.bfw) C.cc5) C.cc3)
def C.cc6_w := pC C.cc6.eq_1
def C.bfv_b : LO := [
 X.o 4 (.move (X.i 0))]
def C.bfv : LO := C.bfv_b
def C.bfv_w := pO C.bfv.eq_1
def C.q73 : IFunc := ⟨2, [.slot 4], .seq (.region C.bfv) C.cc6⟩
def C.q73_W := aI (aI (aI @C.bfy_w @C.cc3_w) (aI @C.bfx_w @C.cc4_w)) (aI (aI @C.cc5_w @C.bfw_w) (aI @C.cc6_w @C.bfv_w))
def C.q73_B := aI (aI @C.bfy_b.eq_1 @C.bfx_b.eq_1) (aI @C.bfw_b.eq_1 @C.bfv_b.eq_1)

def C.yy_b : LO := [
 X.o 2 (.loadN 6 (X.s 0)),
 X.o 3 (.call F.q72 [X.s 2]),
 X.o 4 (.un .not (X.s 3)),
 X.o 5 (.call F.q73 [X.s 4, X.i 1]),
 X.m 1 5]
def C.yy : LO := C.yy_b
def C.yy_w := pO C.yy.eq_1
def C.b75 : ICode := .keep [0] (.seq (.region C.yy) .ret)
def C.b75_w := pC C.b75.eq_1
def C.yx_b : LO := [
 X.o 1 (.move (X.i 0))]
def C.yx : LO := C.yx_b
def C.yx_w := pO C.yx.eq_1
def C.q42 : IFunc := ⟨1, [.slot 1], .seq (.region C.yx) C.b75⟩
def C.q42_W := aI @C.yy_w (aI @C.b75_w @C.yx_w)
def C.q42_B := aI @C.yy_b.eq_1 @C.yx_b.eq_1

def C.bfj_b : LO := [
 X.o 2 (.move (.cst (.bool false)))]
def C.bfj : LO := C.bfj_b
def C.bfj_w := pO C.bfj.eq_1
def C.ccn : ICode := .keep [] (.seq (.region C.bfj) .ret)
def C.ccn_w := pC C.ccn.eq_1
def C.bfl_b : LO := [
 X.o 7 (.fldAddr 1 (X.s 1)),
 X.o 8 (.load1 (X.s 7)),
 X.o 9 (.len (X.s 8)),
 X.o 10 (.bin .eql (X.s 9) (X.i 0)),
 X.m 2 10]
def C.bfl : LO := C.bfl_b
def C.bfl_w := pO C.bfl.eq_1
def C.bfr_b : LO := [
 X.o 15 (.fldAddr 1 (X.s 1)),
 X.o 16 (.load1 (X.s 15)),
 X.o 17 (.len (X.s 16)),
 X.o 18 (.bin .eql (X.s 17) (X.i 1)),
 X.m 2 18]
def C.bfr : LO := C.bfr_b
def C.bfr_w := pO C.bfr.eq_1
def C.bft_b : LO := [
 X.o 21 (.fldAddr 1 (X.s 1)),
 X.o 22 (.load1 (X.s 21)),
 X.o 23 (.len (X.s 22)),
 X.o 24 (.call F.q74 [X.s 23, X.i 1, X.i 4]),
 X.m 2 24]
def C.bft : LO := C.bft_b
def C.bft_w := pO C.bft.eq_1
def C.ccw : ICode := .seq (.region C.bft) .ret
def C.ccw_w := pC C.ccw.eq_1
def C.ccx : ICode := .keep [1, 19] (.cond (X.s 19) C.ccw .skip)
def C.ccx_w := pC C.ccx.eq_1
def C.bfs_b : LO := [
 X.o 20 (.bin .eql (X.s 4) (.cst (.int .u8 109))),
 X.m 19 20]
def C.bfs : LO := C.bfs_b
def C.bfs_w := pO C.bfs.eq_1
def C.ccy : ICode := .seq (.region C.bfr) .ret
def C.ccy_w := pC C.ccy.eq_1
def C.ccq : ICode := .seq (.region C.bfs) C.ccx
def C.ccq_w := pC C.ccq.eq_1
def C.ccz : ICode := .keep [1, 4, 11] (.cond (X.s 11) C.ccy C.ccq)
def C.ccz_w := pC C.ccz.eq_1
def C.bfp_b : LO := [
 X.o 14 (.bin .eql (X.s 4) (.cst (.int .u8 103))),
 X.m 11 14]
def C.bfp : LO := C.bfp_b
def C.bfp_w := pO C.bfp.eq_1
def C.cc0 : ICode := .keep [1, 4, 11] (.cond (X.s 11) .skip (.region C.bfp))
def C.cc0_w := pC C.cc0.eq_1
def C.bfn_b : LO := [
 X.o 13 (.bin .eql (X.s 4) (.cst (.int .u8 100))),
 X.m 11 13]
def C.bfn : LO := C.bfn_b
def C.bfn_w := pO C.bfn.eq_1
def C.cc1 : ICode := .seq (.region C.bfn) C.cc0
def C.cc1_w := pC C.cc1.eq_1
def C.cc2 : ICode := .keep [1, 4, 11] (.cond (X.s 11) .skip C.cc1)
def C.cc2_w := pC C.cc2.eq_1
def C.bfm_b : LO := [
 X.o 12 (.bin .eql (X.s 4) (.cst (.int .u8 112))),
 X.m 11 12]
def C.bfm : LO := C.bfm_b
def C.bfm_w := pO C.bfm.eq_1
def C.ccp : ICode := .seq (.region C.bfl) .ret
def C.ccp_w := pC C.ccp.eq_1
def C.ccr : ICode := .seq (.seq (.region C.bfm) C.cc2) C.ccz
def C.ccr_w := pC C.ccr.eq_1
def C.ccs : ICode := .keep [1, 4, 5] (.cond (X.s 5) C.ccp C.ccr)
def C.ccs_w := pC C.ccs.eq_1
def C.bfk_b : LO := [
 X.o 6 (.bin .eql (X.s 4) (.cst (.int .u8 111))),
 X.m 5 6]
def C.bfk : LO := C.bfk_b
def C.bfk_w := pO C.bfk.eq_1
def C.ccm : ICode := .seq (.region C.bfk) C.ccs
def C.ccm_w := pC C.ccm.eq_1
def C.cct : ICode := .keep [1, 4] (.block 0 C.ccm)
def C.cct_w := pC C.cct.eq_1
def C.bfh_b : LO := [
 X.o 3 (.fldAddr 0 (X.s 1)),
 X.o 4 (.load1 (X.s 3))]
def C.bfh : LO := C.bfh_b
def C.bfh_w := pO C.bfh.eq_1
def C.ccv : ICode := .keep [1] (.seq (.seq (.region C.bfh) C.cct) C.ccn)
def C.ccv_w := pC C.ccv.eq_1
def C.bfg_b : LO := [
 X.o 1 (.boxN (X.s 0)),
 X.o 2 (.move (.cst (.bool false)))]
def C.bfg : LO := C.bfg_b
def C.bfg_w := pO C.bfg.eq_1
def C.q72 : IFunc := ⟨1, [.slot 2], .seq (.region C.bfg) C.ccv⟩
def C.q72_W := aI (aI (aI (aI @C.bfj_w (aI @C.ccn_w @C.bfl_w)) (aI @C.bfr_w (aI @C.bft_w @C.ccw_w))) (aI (aI @C.ccx_w (aI @C.bfs_w @C.ccy_w)) (aI (aI @C.ccq_w @C.ccz_w) (aI @C.bfp_w @C.cc0_w)))) (aI (aI (aI @C.bfn_w (aI @C.cc1_w @C.cc2_w)) (aI @C.bfm_w (aI @C.ccp_w @C.ccr_w))) (aI (aI @C.ccs_w (aI @C.bfk_w @C.ccm_w)) (aI (aI @C.cct_w @C.bfh_w) (aI @C.ccv_w @C.bfg_w))))
def C.q72_B := aI (aI (aI @C.bfj_b.eq_1 @C.bfl_b.eq_1) (aI @C.bfr_b.eq_1 (aI @C.bft_b.eq_1 @C.bfs_b.eq_1))) (aI (aI @C.bfp_b.eq_1 (aI @C.bfn_b.eq_1 @C.bfm_b.eq_1)) (aI @C.bfk_b.eq_1 (aI @C.bfh_b.eq_1 @C.bfg_b.eq_1)))

def C.yz_b : LO := [
 X.o 3 (.fldAddr 1 (X.s 0)),
 X.o 4 (.load1 (X.s 3)),
 X.o 5 (.makeFunc F.q44 [X.s 1]),
 X.o 6 (.call F.q60 [X.s 4, X.s 5]),
 X.m 2 6]
def C.yz : LO := C.yz_b
def C.yz_w := pO C.yz.eq_1
def C.b76 : ICode := .keep [0, 1] (.seq (.region C.yz) .ret)
def C.b76_w := pC C.b76.eq_1
def C.yq_b : LO := [
 X.o 2 (.move (X.i 0))]
def C.yq : LO := C.yq_b
def C.yq_w := pO C.yq.eq_1
def C.q43 : IFunc := ⟨2, [.slot 2], .seq (.region C.yq) C.b76⟩
def C.q43_W := aI @C.yz_w (aI @C.b76_w @C.yq_w)
def C.q43_B := aI @C.yz_b.eq_1 @C.yq_b.eq_1

def C.bc2_b : LO := [
 X.o 4 (.move (X.i 0))]
def C.bc2 : LO := C.bc2_b
def C.bc2_w := pO C.bc2.eq_1
def C.b9q : ICode := .keep [] (.seq (.region C.bc2) .ret)
def C.b9q_w := pC C.b9q.eq_1
def C.bc1_b : LO := [
 X.o 20 (.bin .add (X.s 10) (X.i 1)),
 X.m 10 20]
def C.bc1 : LO := C.bc1_b
def C.bc1_w := pO C.bc1.eq_1
def C.b91 : ICode := .keep [1, 8, 9, 10] (.region C.bc1)
def C.b91_w := pC C.b91.eq_1
def C.bc0_b : LO := [
 X.m 19 7,
 X.m 4 19]
def C.bc0 : LO := C.bc0_b
def C.bc0_w := pO C.bc0.eq_1
def C.b92 : ICode := .seq (.region C.bc0) .ret
def C.b92_w := pC C.b92.eq_1
def C.b93 : ICode := .keep [1, 7, 8, 9, 10, 18] (.cond (X.s 18) C.b92 .skip)
def C.b93_w := pC C.b93.eq_1
def C.bcz_b : LO := [
 X.m 17 7,
 X.o 18 (.bin .neq (X.s 17) (X.i 0))]
def C.bcz : LO := C.bcz_b
def C.bcz_w := pO C.bcz.eq_1
def C.b94 : ICode := .keep [1, 7, 8, 9, 10] (.seq (.region C.bcz) C.b93)
def C.b94_w := pC C.b94.eq_1
def C.bcq_b : LO := [
 X.m 14 1,
 X.m 15 6,
 X.o 16 (.callv (X.s 14) [X.s 15]),
 X.m 7 16]
def C.bcq : LO := C.bcq_b
def C.bcq_w := pO C.bcq.eq_1
def C.b95 : ICode := .keep [1, 6, 8, 9, 10] (.seq (.region C.bcq) C.b94)
def C.b95_w := pC C.b95.eq_1
def C.bcy_b : LO := [
 X.o 12 (.idxAddr 1 (X.s 8) (X.s 10)),
 X.o 13 (.load1 (X.s 12)),
 X.m 6 13]
def C.bcy : LO := C.bcy_b
def C.bcy_w := pO C.bcy.eq_1
def C.b9y : ICode := .seq (.region C.bcy) C.b95
def C.b9y_w := pC C.b9y.eq_1
def C.b96 : ICode := .keep [1, 8, 9, 10] (.seq (.block 1 C.b9y) C.b91)
def C.b96_w := pC C.b96.eq_1
def C.b97 : ICode := .keep [1, 8, 9, 10, 11] (.seq (.cond (X.s 11) .skip (.exit 0)) C.b96)
def C.b97_w := pC C.b97.eq_1
def C.bcx_b : LO := [
 X.o 11 (.bin .lss (X.s 10) (X.s 9))]
def C.bcx : LO := C.bcx_b
def C.bcx_w := pO C.bcx.eq_1
def C.clf : ICode := .keep [1, 8, 9, 10] (.seq (.region C.bcx) C.b97)
def C.clf_w := pC C.clf.eq_1
def C.b9x : ICode := .loop C.clf
def C.b9x_w := pC C.b9x.eq_1
def C.b9z : ICode := .keep [1, 8, 9, 10] (.block 0 C.b9x)
def C.b9z_w := pC C.b9z.eq_1
def C.bcw_b : LO := [
 X.m 8 0,
 X.o 9 (.len (X.s 8)),
 X.o 10 (.move (X.i 0))]
def C.bcw : LO := C.bcw_b
def C.bcw_w := pO C.bcw.eq_1
def C.b90 : ICode := .keep [0, 1] (.seq (.seq (.region C.bcw) C.b9z) C.b9q)
def C.b90_w := pC C.b90.eq_1
def C.bcv_b : LO := [
 X.o 4 (.move (X.i 0))]
def C.bcv : LO := C.bcv_b
def C.bcv_w := pO C.bcv.eq_1
def C.q60 : IFunc := ⟨2, [.slot 4], .seq (.region C.bcv) C.b90⟩
def C.q60_W := aI (aI (aI (aI @C.bc2_w @C.b9q_w) (aI @C.bc1_w (aI @C.b91_w @C.bc0_w))) (aI (aI @C.b92_w @C.b93_w) (aI @C.bcz_w (aI @C.b94_w @C.bcq_w)))) (aI (aI (aI @C.b95_w @C.bcy_w) (aI @C.b9y_w (aI @C.b96_w @C.b97_w))) (aI (aI @C.bcx_w (aI @C.b9x_w @C.b9z_w)) (aI @C.bcw_w (aI @C.b90_w @C.bcv_w))))
def C.q60_B := aI (aI (aI @C.bc2_b.eq_1 @C.bc1_b.eq_1) (aI @C.bc0_b.eq_1 @C.bcz_b.eq_1)) (aI (aI @C.bcq_b.eq_1 @C.bcy_b.eq_1) (aI @C.bcx_b.eq_1 (aI @C.bcw_b.eq_1 @C.bcv_b.eq_1)))

def C.y1_b : LO := [
 X.m 4 0,
 X.o 5 (.fldAddr 0 (X.s 1)),
 X.o 6 (.load1 (X.s 5)),
 X.o 7 (.len (X.s 6)),
 X.o 8 (.bin .sub (X.s 7) (X.i 1)),
 X.o 9 (.call F.q74 [X.s 4, X.i 0, X.s 8]),
 X.o 10 (.un .not (X.s 9)),
 X.o 11 (.call F.q73 [X.s 10, X.i 4]),
 X.m 3 11]
def C.y1 : LO := C.y1_b
def C.y1_w := pO C.y1.eq_1
def C.b77 : ICode := .keep [0, 1] (.seq (.region C.y1) .ret)
def C.b77_w := pC C.b77.eq_1
def C.y0_b : LO := [
 X.o 3 (.move (X.i 0))]
def C.y0 : LO := C.y0_b
def C.y0_w := pO C.y0.eq_1
def C.q44 : IFunc := ⟨2, [.slot 3], .seq (.region C.y0) C.b77⟩
def C.q44_W := aI @C.y1_w (aI @C.b77_w @C.y0_w)
def C.q44_B := aI @C.y1_b.eq_1 @C.y0_b.eq_1

def C.bfz_b : LO := [
 X.m 7 0,
 X.m 8 1,
 X.o 9 (.bin .geq (X.s 7) (X.s 8)),
 X.m 10 9,
 X.t 10 11 (.move (X.s 0)),
 X.t 10 12 (.move (X.s 2)),
 X.t 10 13 (.bin .leq (X.s 11) (X.s 12)),
 X.o 14 (.pick (X.s 10) (X.s 13) (.cst (.bool false))),
 X.m 6 14]
def C.bfz : LO := C.bfz_b
def C.bfz_w := pO C.bfz.eq_1
def C.cc7 : ICode := .keep [0, 1, 2] (.seq (.region C.bfz) .ret)
def C.cc7_w := pC C.cc7.eq_1
def C.bfq_b : LO := [
 X.o 6 (.move (.cst (.bool false)))]
def C.bfq : LO := C.bfq_b
def C.bfq_w := pO C.bfq.eq_1
def C.q74 : IFunc := ⟨3, [.slot 6], .seq (.region C.bfq) C.cc7⟩
def C.q74_W := aI @C.bfz_w (aI @C.cc7_w @C.bfq_w)
def C.q74_B := aI @C.bfz_b.eq_1 @C.bfq_b.eq_1

def C.y3_b : LO := [
 X.o 2 (.loadN 6 (X.s 0)),
 X.o 3 (.call F.q64 [X.s 2]),
 X.o 4 (.un .not (X.s 3)),
 X.o 5 (.call F.q73 [X.s 4, X.i 3]),
 X.m 1 5]
def C.y3 : LO := C.y3_b
def C.y3_w := pO C.y3.eq_1
def C.b78 : ICode := .keep [0] (.seq (.region C.y3) .ret)
def C.b78_w := pC C.b78.eq_1
def C.y2_b : LO := [
 X.o 1 (.move (X.i 0))]
def C.y2 : LO := C.y2_b
def C.y2_w := pO C.y2.eq_1
def C.q45 : IFunc := ⟨1, [.slot 1], .seq (.region C.y2) C.b78⟩
def C.q45_W := aI @C.y3_w (aI @C.b78_w @C.y2_w)
def C.q45_B := aI @C.y3_b.eq_1 @C.y2_b.eq_1

def C.bdv_b : LO := [
 X.o 2 (.move (.cst (.bool true)))]
def C.bdv : LO := C.bdv_b
def C.bdv_w := pO C.bdv.eq_1
def C.cbw : ICode := .keep [] (.seq (.region C.bdv) .ret)
def C.cbw_w := pC C.cbw.eq_1
def C.bdn_b : LO := [
 X.o 7 (.fldAddr 2 (X.s 1)),
 X.o 8 (.load1 (X.s 7)),
 X.o 9 (.bin .geq (X.s 8) (.cst (.int .u64 1))),
 X.m 10 9,
 X.t 10 11 (.fldAddr 2 (X.s 1)),
 X.t 10 12 (.load1 (X.s 11)),
 X.t 10 13 (.bin .leq (X.s 12) (.cst (.int .u64 1099511627776))),
 X.o 14 (.pick (X.s 10) (X.s 13) (.cst (.bool false))),
 X.m 2 14]
def C.bdn : LO := C.bdn_b
def C.bdn_w := pO C.bdn.eq_1
def C.bdr_b : LO := [
 X.o 17 (.fldAddr 3 (X.s 1)),
 X.o 18 (.load1 (X.s 17)),
 X.o 19 (.call F.q74 [X.s 18, X.i 1, X.i 1000]),
 X.m 20 19,
 X.t 20 21 (.fldAddr 4 (X.s 1)),
 X.t 20 22 (.load1 (X.s 21)),
 X.t 20 23 (.call F.q74 [X.s 22, X.i 1, X.i 1000]),
 X.o 24 (.pick (X.s 20) (X.s 23) (.cst (.bool false))),
 X.m 25 24,
 X.t 25 26 (.fldAddr 5 (X.s 1)),
 X.t 25 27 (.load1 (X.s 26)),
 X.t 25 28 (.call F.q74 [X.s 27, X.i 0, X.i 20]),
 X.o 29 (.pick (X.s 25) (X.s 28) (.cst (.bool false))),
 X.m 2 29]
def C.bdr : LO := C.bdr_b
def C.bdr_w := pO C.bdr.eq_1
def C.bdt_b : LO := [
 X.o 32 (.fldAddr 4 (X.s 1)),
 X.o 33 (.load1 (X.s 32)),
 X.o 34 (.call F.q74 [X.s 33, X.i 1, X.i 1000]),
 X.m 2 34]
def C.bdt : LO := C.bdt_b
def C.bdt_w := pO C.bdt.eq_1
def C.cbq : ICode := .seq (.region C.bdt) .ret
def C.cbq_w := pC C.cbq.eq_1
def C.cbz : ICode := .keep [1, 30] (.cond (X.s 30) C.cbq .skip)
def C.cbz_w := pC C.cbz.eq_1
def C.bds_b : LO := [
 X.o 31 (.bin .eql (X.s 4) (.cst (.int .u8 100))),
 X.m 30 31]
def C.bds : LO := C.bds_b
def C.bds_w := pO C.bds.eq_1
def C.cb0 : ICode := .seq (.region C.bdr) .ret
def C.cb0_w := pC C.cb0.eq_1
def C.cb1 : ICode := .seq (.region C.bds) C.cbz
def C.cb1_w := pC C.cb1.eq_1
def C.cb2 : ICode := .keep [1, 4, 15] (.cond (X.s 15) C.cb0 C.cb1)
def C.cb2_w := pC C.cb2.eq_1
def C.bdp_b : LO := [
 X.o 16 (.bin .eql (X.s 4) (.cst (.int .u8 112))),
 X.m 15 16]
def C.bdp : LO := C.bdp_b
def C.bdp_w := pO C.bdp.eq_1
def C.cb3 : ICode := .seq (.region C.bdn) .ret
def C.cb3_w := pC C.cb3.eq_1
def C.cb4 : ICode := .seq (.region C.bdp) C.cb2
def C.cb4_w := pC C.cb4.eq_1
def C.cb5 : ICode := .keep [1, 4, 5] (.cond (X.s 5) C.cb3 C.cb4)
def C.cb5_w := pC C.cb5.eq_1
def C.bdm_b : LO := [
 X.o 6 (.bin .eql (X.s 4) (.cst (.int .u8 111))),
 X.m 5 6]
def C.bdm : LO := C.bdm_b
def C.bdm_w := pO C.bdm.eq_1
def C.cbv : ICode := .seq (.region C.bdm) C.cb5
def C.cbv_w := pC C.cbv.eq_1
def C.cbx : ICode := .keep [1, 4] (.block 0 C.cbv)
def C.cbx_w := pC C.cbx.eq_1
def C.bdl_b : LO := [
 X.o 3 (.fldAddr 0 (X.s 1)),
 X.o 4 (.load1 (X.s 3))]
def C.bdl : LO := C.bdl_b
def C.bdl_w := pO C.bdl.eq_1
def C.cby : ICode := .keep [1] (.seq (.seq (.region C.bdl) C.cbx) C.cbw)
def C.cby_w := pC C.cby.eq_1
def C.bdk_b : LO := [
 X.o 1 (.boxN (X.s 0)),
 X.o 2 (.move (.cst (.bool false)))]
def C.bdk : LO := C.bdk_b
def C.bdk_w := pO C.bdk.eq_1
def C.q64 : IFunc := ⟨1, [.slot 2], .seq (.region C.bdk) C.cby⟩
def C.q64_W := aI (aI (aI (aI @C.bdv_w @C.cbw_w) (aI @C.bdn_w (aI @C.bdr_w @C.bdt_w))) (aI (aI @C.cbq_w @C.cbz_w) (aI @C.bds_w (aI @C.cb0_w @C.cb1_w)))) (aI (aI (aI @C.cb2_w @C.bdp_w) (aI @C.cb3_w (aI @C.cb4_w @C.cb5_w))) (aI (aI @C.bdm_w (aI @C.cbv_w @C.cbx_w)) (aI @C.bdl_w (aI @C.cby_w @C.bdk_w))))
def C.q64_B := aI (aI (aI @C.bdv_b.eq_1 @C.bdn_b.eq_1) (aI @C.bdr_b.eq_1 @C.bdt_b.eq_1)) (aI (aI @C.bds_b.eq_1 @C.bdp_b.eq_1) (aI @C.bdm_b.eq_1 (aI @C.bdl_b.eq_1 @C.bdk_b.eq_1)))

def C.bf2_b : LO := [
 X.m 10 4,
 X.m 2 10]
def C.bf2 : LO := C.bf2_b
def C.bf2_w := pO C.bf2.eq_1
def C.cc8 : ICode := .keep [4] (.seq (.region C.bf2) .ret)
def C.cc8_w := pC C.cc8.eq_1
def C.bf1_b : LO := [
 X.m 6 0,
 X.o 7 (.call F.q76 [X.s 6]),
 X.m 5 7,
 X.o 8 (.extract (X.s 5) 0),
 X.o 9 (.extract (X.s 5) 1),
 X.m 3 8,
 X.m 4 9]
def C.bf1 : LO := C.bf1_b
def C.bf1_w := pO C.bf1.eq_1
def C.cc9 : ICode := .keep [0] (.seq (.region C.bf1) C.cc8)
def C.cc9_w := pC C.cc9.eq_1
def C.bf0_b : LO := [
 X.o 2 (.move (X.i 0))]
def C.bf0 : LO := C.bf0_b
def C.bf0_w := pO C.bf0.eq_1
def C.q75 : IFunc := ⟨1, [.slot 2], .seq (.region C.bf0) C.cc9⟩
def C.q75_W := aI (aI @C.bf2_w @C.cc8_w) (aI @C.bf1_w (aI @C.cc9_w @C.bf0_w))
def C.q75_B := aI @C.bf2_b.eq_1 (aI @C.bf1_b.eq_1 @C.bf0_b.eq_1)

def C.bfc_b : LO := [
 X.m 3 0,
 X.o 4 (.append 1 8 (.cst (.nils)) (X.s 3)),
 X.m 2 4]
def C.bfc : LO := C.bfc_b
def C.bfc_w := pO C.bfc.eq_1
def C.cck : ICode := .keep [0] (.seq (.region C.bfc) .ret)
def C.cck_w := pC C.cck.eq_1
def C.bfb_b : LO := [
 X.o 2 (.move (.cst (.nils)))]
def C.bfb : LO := C.bfb_b
def C.bfb_w := pO C.bfb.eq_1
def C.q70 : IFunc := ⟨1, [.slot 2], .seq (.region C.bfb) C.cck⟩
def C.q70_W := aI @C.bfc_w (aI @C.cck_w @C.bfb_w)
def C.q70_B := aI @C.bfc_b.eq_1 @C.bfb_b.eq_1

def C.bb0_b : LO := [
 X.o 3 (.fldAddr 0 (X.s 0)),
 X.o 4 (.load1 (X.s 3)),
 X.o 5 (.bin .neq (X.s 4) (X.i (-1))),
 X.m 6 5,
 X.t 6 7 (.fldAddr 0 (X.s 0)),
 X.t 6 8 (.load1 (X.s 7)),
 X.t 6 9 (.fldAddr 1 (X.s 1)),
 X.t 6 10 (.load1 (X.s 9)),
 X.t 6 11 (.len (X.s 10)),
 X.t 6 12 (.bin .sub (X.s 11) (X.i 1)),
 X.t 6 13 (.call F.q74 [X.s 8, X.i 0, X.s 12]),
 X.t 6 14 (.un .not (X.s 13)),
 X.o 15 (.pick (X.s 6) (X.s 14) (.cst (.bool false))),
 X.o 16 (.call F.q73 [X.s 15, X.i 4]),
 X.m 2 16]
def C.bb0 : LO := C.bb0_b
def C.bb0_w := pO C.bb0.eq_1
def C.b8q : ICode := .keep [0, 1] (.seq (.region C.bb0) .ret)
def C.b8q_w := pC C.b8q.eq_1
def C.bbz_b : LO := [
 X.o 2 (.move (X.i 0))]
def C.bbz : LO := C.bbz_b
def C.bbz_w := pO C.bbz.eq_1
def C.q54 : IFunc := ⟨2, [.slot 2], .seq (.region C.bbz) C.b8q⟩
def C.q54_W := aI @C.bb0_w (aI @C.b8q_w @C.bbz_w)
def C.q54_B := aI @C.bb0_b.eq_1 @C.bbz_b.eq_1

def C.bb2_b : LO := [
 X.o 2 (.fldAddr 1 (X.s 0)),
 X.o 3 (.load1 (X.s 2)),
 X.o 4 (.call F.q74 [X.s 3, X.i 0, X.i 20]),
 X.o 5 (.un .not (X.s 4)),
 X.o 6 (.call F.q73 [X.s 5, X.i 3]),
 X.m 1 6]
def C.bb2 : LO := C.bb2_b
def C.bb2_w := pO C.bb2.eq_1
def C.b8z : ICode := .keep [0] (.seq (.region C.bb2) .ret)
def C.b8z_w := pC C.b8z.eq_1
def C.bb1_b : LO := [
 X.o 1 (.move (X.i 0))]
def C.bb1 : LO := C.bb1_b
def C.bb1_w := pO C.bb1.eq_1
def C.q55 : IFunc := ⟨1, [.slot 1], .seq (.region C.bb1) C.b8z⟩
def C.q55_W := aI @C.bb2_w (aI @C.b8z_w @C.bb1_w)
def C.q55_B := aI @C.bb2_b.eq_1 @C.bb1_b.eq_1

def C.y9_b : LO := [
 X.o 3 (.fldAddr 0 (X.s 0)),
 X.o 4 (.load1 (X.s 3)),
 X.o 5 (.fldAddr 0 (X.s 1)),
 X.o 6 (.load1 (X.s 5)),
 X.o 7 (.len (X.s 6)),
 X.o 8 (.bin .sub (X.s 7) (X.i 1)),
 X.o 9 (.call F.q74 [X.s 4, X.i 0, X.s 8]),
 X.o 10 (.un .not (X.s 9)),
 X.o 11 (.call F.q73 [X.s 10, X.i 4]),
 X.m 2 11]
def C.y9 : LO := C.y9_b
def C.y9_w := pO C.y9.eq_1
def C.b8c : ICode := .keep [0, 1] (.seq (.region C.y9) .ret)
def C.b8c_w := pC C.b8c.eq_1
def C.y8_b : LO := [
 X.o 2 (.move (X.i 0))]
def C.y8 : LO := C.y8_b
def C.y8_w := pO C.y8.eq_1
def C.q48 : IFunc := ⟨2, [.slot 2], .seq (.region C.y8) C.b8c⟩
def C.q48_W := aI @C.y9_w (aI @C.b8c_w @C.y8_w)
def C.q48_B := aI @C.y9_b.eq_1 @C.y8_b.eq_1

def C.bbc_b : LO := [
 X.o 3 (.fldAddr 1 (X.s 0)),
 X.o 4 (.load1 (X.s 3)),
 X.o 5 (.fldAddr 1 (X.s 1)),
 X.o 6 (.load1 (X.s 5)),
 X.o 7 (.len (X.s 6)),
 X.o 8 (.bin .sub (X.s 7) (X.i 1)),
 X.o 9 (.call F.q74 [X.s 4, X.i 0, X.s 8]),
 X.o 10 (.un .not (X.s 9)),
 X.o 11 (.call F.q73 [X.s 10, X.i 4]),
 X.m 2 11]
def C.bbc : LO := C.bbc_b
def C.bbc_w := pO C.bbc.eq_1
def C.b8d : ICode := .keep [0, 1] (.seq (.region C.bbc) .ret)
def C.b8d_w := pC C.b8d.eq_1
def C.bbb_b : LO := [
 X.o 2 (.move (X.i 0))]
def C.bbb : LO := C.bbb_b
def C.bbb_w := pO C.bbb.eq_1
def C.q49 : IFunc := ⟨2, [.slot 2], .seq (.region C.bbb) C.b8d⟩
def C.q49_W := aI @C.bbc_w (aI @C.b8d_w @C.bbb_w)
def C.q49_B := aI @C.bbc_b.eq_1 @C.bbb_b.eq_1

def C.bbs_b : LO := [
 X.o 3 (.fldAddr 2 (X.s 0)),
 X.o 4 (.load1 (X.s 3)),
 X.o 5 (.fldAddr 2 (X.s 1)),
 X.o 6 (.load1 (X.s 5)),
 X.o 7 (.len (X.s 6)),
 X.o 8 (.bin .sub (X.s 7) (X.i 1)),
 X.o 9 (.call F.q74 [X.s 4, X.i 0, X.s 8]),
 X.o 10 (.un .not (X.s 9)),
 X.o 11 (.call F.q73 [X.s 10, X.i 4]),
 X.m 2 11]
def C.bbs : LO := C.bbs_b
def C.bbs_w := pO C.bbs.eq_1
def C.b8v : ICode := .keep [0, 1] (.seq (.region C.bbs) .ret)
def C.b8v_w := pC C.b8v.eq_1
def C.bbr_b : LO := [
 X.o 2 (.move (X.i 0))]
def C.bbr : LO := C.bbr_b
def C.bbr_w := pO C.bbr.eq_1
def C.q50 : IFunc := ⟨2, [.slot 2], .seq (.region C.bbr) C.b8v⟩
def C.q50_W := aI @C.bbs_w (aI @C.b8v_w @C.bbr_w)
def C.q50_B := aI @C.bbs_b.eq_1 @C.bbr_b.eq_1

def C.bbv_b : LO := [
 X.o 3 (.fldAddr 5 (X.s 0)),
 X.o 4 (.load1 (X.s 3)),
 X.o 5 (.makeFunc F.q52 [X.s 1]),
 X.o 6 (.call F.q60 [X.s 4, X.s 5]),
 X.m 2 6]
def C.bbv : LO := C.bbv_b
def C.bbv_w := pO C.bbv.eq_1
def C.b8w : ICode := .keep [0, 1] (.seq (.region C.bbv) .ret)
def C.b8w_w := pC C.b8w.eq_1
def C.bbt_b : LO := [
 X.o 2 (.move (X.i 0))]
def C.bbt : LO := C.bbt_b
def C.bbt_w := pO C.bbt.eq_1
def C.q51 : IFunc := ⟨2, [.slot 2], .seq (.region C.bbt) C.b8w⟩
def C.q51_W := aI @C.bbv_w (aI @C.b8w_w @C.bbt_w)
def C.q51_B := aI @C.bbv_b.eq_1 @C.bbt_b.eq_1

def C.bbx_b : LO := [
 X.m 4 0,
 X.o 5 (.fldAddr 3 (X.s 1)),
 X.o 6 (.load1 (X.s 5)),
 X.o 7 (.len (X.s 6)),
 X.o 8 (.bin .sub (X.s 7) (X.i 1)),
 X.o 9 (.call F.q74 [X.s 4, X.i 0, X.s 8]),
 X.o 10 (.un .not (X.s 9)),
 X.o 11 (.call F.q73 [X.s 10, X.i 4]),
 X.m 3 11]
def C.bbx : LO := C.bbx_b
def C.bbx_w := pO C.bbx.eq_1
def C.b8x : ICode := .keep [0, 1] (.seq (.region C.bbx) .ret)
def C.b8x_w := pC C.b8x.eq_1
def C.bbw_b : LO := [
 X.o 3 (.move (X.i 0))]
def C.bbw : LO := C.bbw_b
def C.bbw_w := pO C.bbw.eq_1
def C.q52 : IFunc := ⟨2, [.slot 3], .seq (.region C.bbw) C.b8x⟩
def C.q52_W := aI @C.bbx_w (aI @C.b8x_w @C.bbw_w)
def C.q52_B := aI @C.bbx_b.eq_1 @C.bbw_b.eq_1

def C.sv_b : LO := [
 X.o 4 (.load1 (X.s 2)),
 X.o 5 (.makeFunc F.q116 [X.s 3, X.s 2]),
 X.o 6 (.call F.q117 [X.s 4, X.s 5])]
def C.sv : LO := C.sv_b
def C.sv_w := pO C.sv.eq_1
def C.b29 : ICode := .keep [2, 3] (.region C.sv)
def C.b29_w := pC C.b29.eq_1
def C.ss_b : LO := [
 X.o 2 (.box1 (X.s 0)),
 X.o 3 (.box1 (X.s 1))]
def C.ss : LO := C.ss_b
def C.ss_w := pO C.ss.eq_1
def C.q115 : IFunc := ⟨2, [], .seq (.region C.ss) C.b29⟩
def C.q115_W := aI @C.sv_w (aI @C.b29_w @C.ss_w)
def C.q115_B := aI @C.sv_b.eq_1 @C.ss_b.eq_1

def C.rr_b : LO := [
 X.o 5 (.fldAddr 0 (X.s 3)),
 X.o 6 (.load1 (X.s 5)),
 X.m 4 6]
def C.rr : LO := C.rr_b
def C.rr_w := pO C.rr.eq_1
def C.b19 : ICode := .keep [3] (.seq (.region C.rr) .ret)
def C.b19_w := pC C.b19.eq_1
def C.rp_b : LO := [
 X.o 3 (.boxN (X.s 1)),
 X.o 4 (.move (.cst (.int .u32 0)))]
def C.rp : LO := C.rp_b
def C.rp_w := pO C.rp.eq_1
def C.q107 : IFunc := ⟨2, [.slot 4], .seq (.region C.rp) C.b19⟩
def C.q107_W := aI @C.rr_w (aI @C.b19_w @C.rp_w)
def C.q107_B := aI @C.rr_b.eq_1 @C.rp_b.eq_1

def C.ph_b : LO := [
 X.m 3 0,
 X.o 4 (.nilchk (X.s 3)),
 X.o 5 (.fldAddr 3 (X.s 4)),
 X.o 6 (.load1 (X.s 5)),
 X.o 7 (.bin .eql (X.s 6) (.cst (.int .u8 48))),
 X.m 8 7,
 X.f 8 9 (.move (X.s 0)),
 X.f 8 10 (.nilchk (X.s 9)),
 X.f 8 11 (.fldAddr 3 (X.s 10)),
 X.f 8 12 (.load1 (X.s 11)),
 X.f 8 13 (.bin .eql (X.s 12) (.cst (.int .u8 116))),
 X.o 14 (.pick (X.s 8) (.cst (.bool true)) (X.s 13)),
 X.m 2 14]
def C.ph : LO := C.ph_b
def C.ph_w := pO C.ph.eq_1
def C.b0w : ICode := .keep [0] (.seq (.region C.ph) .ret)
def C.b0w_w := pC C.b0w.eq_1
def C.pg_b : LO := [
 X.o 2 (.move (.cst (.bool false)))]
def C.pg : LO := C.pg_b
def C.pg_w := pO C.pg.eq_1
def C.q101 : IFunc := ⟨1, [.slot 2], .seq (.region C.pg) C.b0w⟩
def C.q101_W := aI @C.ph_w (aI @C.b0w_w @C.pg_w)
def C.q101_B := aI @C.ph_b.eq_1 @C.pg_b.eq_1

def C.bdx_b : LO := [
 X.m 3 0,
 X.o 4 (.append 6 64 (.cst (.nils)) (X.s 3)),
 X.m 2 4]
def C.bdx : LO := C.bdx_b
def C.bdx_w := pO C.bdx.eq_1
def C.cb6 : ICode := .keep [0] (.seq (.region C.bdx) .ret)
def C.cb6_w := pC C.cb6.eq_1
def C.bdw_b : LO := [
 X.o 2 (.move (.cst (.nils)))]
def C.bdw : LO := C.bdw_b
def C.bdw_w := pO C.bdw.eq_1
def C.q65 : IFunc := ⟨1, [.slot 2], .seq (.region C.bdw) C.cb6⟩
def C.q65_W := aI @C.bdx_w (aI @C.cb6_w @C.bdw_w)
def C.q65_B := aI @C.bdx_b.eq_1 @C.bdw_b.eq_1

def C.bd0_b : LO := [
 X.m 3 0,
 X.o 4 (.append 3 24 (.cst (.nils)) (X.s 3)),
 X.m 2 4]
def C.bd0 : LO := C.bd0_b
def C.bd0_w := pO C.bd0.eq_1
def C.cb8 : ICode := .keep [0] (.seq (.region C.bd0) .ret)
def C.cb8_w := pC C.cb8.eq_1
def C.bdz_b : LO := [
 X.o 2 (.move (.cst (.nils)))]
def C.bdz : LO := C.bdz_b
def C.bdz_w := pO C.bdz.eq_1
def C.q67 : IFunc := ⟨1, [.slot 2], .seq (.region C.bdz) C.cb8⟩
def C.q67_W := aI @C.bd0_w (aI @C.cb8_w @C.bdz_w)
def C.q67_B := aI @C.bd0_b.eq_1 @C.bdz_b.eq_1

def C.bd4_b : LO := [
 X.m 3 0,
 X.o 4 (.append 1 8 (.cst (.nils)) (X.s 3)),
 X.m 2 4]
def C.bd4 : LO := C.bd4_b
def C.bd4_w := pO C.bd4.eq_1
def C.ccb : ICode := .keep [0] (.seq (.region C.bd4) .ret)
def C.ccb_w := pC C.ccb.eq_1
def C.bd3_b : LO := [
 X.o 2 (.move (.cst (.nils)))]
def C.bd3 : LO := C.bd3_b
def C.bd3_w := pO C.bd3.eq_1
def C.q69 : IFunc := ⟨1, [.slot 2], .seq (.region C.bd3) C.ccb⟩
def C.q69_W := aI @C.bd4_w (aI @C.ccb_w @C.bd3_w)
def C.q69_B := aI @C.bd4_b.eq_1 @C.bd3_b.eq_1

def C.bdq_b : LO := [
 X.m 3 0,
 X.o 4 (.append 6 80 (.cst (.nils)) (X.s 3)),
 X.m 2 4]
def C.bdq : LO := C.bdq_b
def C.bdq_w := pO C.bdq.eq_1
def C.cb7 : ICode := .keep [0] (.seq (.region C.bdq) .ret)
def C.cb7_w := pC C.cb7.eq_1
def C.bdy_b : LO := [
 X.o 2 (.move (.cst (.nils)))]
def C.bdy : LO := C.bdy_b
def C.bdy_w := pO C.bdy.eq_1
def C.q66 : IFunc := ⟨1, [.slot 2], .seq (.region C.bdy) C.cb7⟩
def C.q66_W := aI @C.bdq_w (aI @C.cb7_w @C.bdy_w)
def C.q66_B := aI @C.bdq_b.eq_1 @C.bdy_b.eq_1

def C.bd2_b : LO := [
 X.m 3 0,
 X.o 4 (.append 2 8 (.cst (.nils)) (X.s 3)),
 X.m 2 4]
def C.bd2 : LO := C.bd2_b
def C.bd2_w := pO C.bd2.eq_1
def C.cb9 : ICode := .keep [0] (.seq (.region C.bd2) .ret)
def C.cb9_w := pC C.cb9.eq_1
def C.bd1_b : LO := [
 X.o 2 (.move (.cst (.nils)))]
def C.bd1 : LO := C.bd1_b
def C.bd1_w := pO C.bd1.eq_1
def C.q68 : IFunc := ⟨1, [.slot 2], .seq (.region C.bd1) C.cb9⟩
def C.q68_W := aI @C.bd2_w (aI @C.cb9_w @C.bd1_w)
def C.q68_B := aI @C.bd2_b.eq_1 @C.bd1_b.eq_1

def C.ys_b : LO := [
 X.o 4 (.load1 (X.s 1)),
 X.o 5 (.bin .shl (.cst (.int .u64 1)) (X.s 4)),
 X.o 6 (.bin .sub (X.s 5) (.cst (.int .u64 1))),
 X.m 7 0,
 X.o 8 (.bin .shl (X.s 6) (X.s 7)),
 X.o 9 (.conv .u32 (X.s 8)),
 X.m 3 9]
def C.ys : LO := C.ys_b
def C.ys_w := pO C.ys.eq_1
def C.b72 : ICode := .keep [0, 1] (.seq (.region C.ys) .ret)
def C.b72_w := pC C.b72.eq_1
def C.yr_b : LO := [
 X.o 3 (.move (.cst (.int .u32 0)))]
def C.yr : LO := C.yr_b
def C.yr_w := pO C.yr.eq_1
def C.q3 : IFunc := ⟨2, [.slot 3], .seq (.region C.yr) C.b72⟩
def C.q3_W := aI @C.ys_w (aI @C.b72_w @C.yr_w)
def C.q3_B := aI @C.ys_b.eq_1 @C.yr_b.eq_1

def C.pd_b : LO := [
 X.m 18 0,
 X.m 19 1,
 X.o 20 (.bin .shr (X.s 18) (X.s 19)),
 X.m 21 8,
 X.o 22 (.callv (X.s 21) [X.i 0]),
 X.o 23 (.bin .and (X.s 20) (X.s 22)),
 X.m 6 23,
 X.o 7 (.move (X.i 0))]
def C.pd : LO := C.pd_b
def C.pd_w := pO C.pd.eq_1
def C.b0n : ICode := .keep [0, 1, 8] (.seq (.region C.pd) .ret)
def C.b0n_w := pC C.b0n.eq_1
def C.pc_b : LO := [
 X.o 6 (.move (.cst (.int .u32 0))),
 X.o 7 (.move (X.i 3))]
def C.pc : LO := C.pc_b
def C.pc_w := pO C.pc.eq_1
def C.b0p : ICode := .seq (.region C.pc) .ret
def C.b0p_w := pC C.b0p.eq_1
def C.b0r : ICode := .keep [0, 1, 8, 17] (.cond (X.s 17) C.b0p .skip)
def C.b0r_w := pC C.b0r.eq_1
def C.pb_b : LO := [
 X.m 16 9,
 X.o 17 (.un .not (X.s 16))]
def C.pb : LO := C.pb_b
def C.pb_w := pO C.pb.eq_1
def C.b0s : ICode := .keep [0, 1, 8, 9] (.seq (.seq (.region C.pb) C.b0r) C.b0n)
def C.b0s_w := pC C.b0s.eq_1
def C.n9_b : LO := [
 X.m 11 1,
 X.m 12 2,
 X.o 13 (.call F.q2 [X.s 11, X.s 12]),
 X.m 10 13,
 X.o 14 (.extract (X.s 10) 0),
 X.o 15 (.extract (X.s 10) 1),
 X.m 8 14,
 X.m 9 15]
def C.n9 : LO := C.n9_b
def C.n9_w := pO C.n9.eq_1
def C.b0t : ICode := .keep [0, 1, 2] (.seq (.region C.n9) C.b0s)
def C.b0t_w := pC C.b0t.eq_1
def C.n8_b : LO := [
 X.o 6 (.move (.cst (.int .u32 0))),
 X.o 7 (.move (X.i 0))]
def C.n8 : LO := C.n8_b
def C.n8_w := pO C.n8.eq_1
def C.q0 : IFunc := ⟨3, [.slot 6, .slot 7], .seq (.region C.n8) C.b0t⟩
def C.q0_W := aI (aI (aI @C.pd_w @C.b0n_w) (aI @C.pc_w (aI @C.b0p_w @C.b0r_w))) (aI (aI @C.pb_w @C.b0s_w) (aI @C.n9_w (aI @C.b0t_w @C.n8_w)))
def C.q0_B := aI (aI @C.pd_b.eq_1 @C.pc_b.eq_1) (aI @C.pb_b.eq_1 (aI @C.n9_b.eq_1 @C.n8_b.eq_1))

def C.fp_b : LO := [
 X.o 20 (.bin .add (X.s 7) (X.i 1)),
 X.m 7 20]
def C.fp : LO := C.fp_b
def C.fp_w := pO C.fp.eq_1
def C.bmz : ICode := .keep [0, 1, 6, 7] (.region C.fp)
def C.bmz_w := pC C.bmz.eq_1
def C.fn_b : LO := [
 X.m 10 1,
 X.m 11 4,
 X.m 12 0,
 X.o 13 (.nilchk (X.s 12)),
 X.o 14 (.fldAddr 0 (X.s 13)),
 X.o 15 (.load1 (X.s 14)),
 X.m 16 4,
 X.o 17 (.idxAddr 2 (X.s 15) (X.s 16)),
 X.o 18 (.loadN 2 (X.s 17)),
 X.o 19 (.callv (X.s 10) [X.s 11, X.s 18])]
def C.fn : LO := C.fn_b
def C.fn_w := pO C.fn.eq_1
def C.bm0 : ICode := .keep [0, 1, 4, 6, 7] (.region C.fn)
def C.bm0_w := pC C.bm0.eq_1
def C.fm_b : LO := [
 X.m 9 7,
 X.m 4 9]
def C.fm : LO := C.fm_b
def C.fm_w := pO C.fm.eq_1
def C.bmq : ICode := .seq (.region C.fm) C.bm0
def C.bmq_w := pC C.bmq.eq_1
def C.bm1 : ICode := .keep [0, 1, 6, 7] (.seq (.block 1 C.bmq) C.bmz)
def C.bm1_w := pC C.bm1.eq_1
def C.bm2 : ICode := .keep [0, 1, 6, 7, 8] (.seq (.cond (X.s 8) .skip (.exit 0)) C.bm1)
def C.bm2_w := pC C.bm2.eq_1
def C.fl_b : LO := [
 X.o 8 (.bin .lss (X.s 7) (X.s 6))]
def C.fl : LO := C.fl_b
def C.fl_w := pO C.fl.eq_1
def C.b3f : ICode := .keep [0, 1, 6, 7] (.seq (.region C.fl) C.bm2)
def C.b3f_w := pC C.b3f.eq_1
def C.b3c : ICode := .loop C.b3f
def C.b3c_w := pC C.b3c.eq_1
def C.b3d : ICode := .keep [0, 1, 6, 7] (.block 0 C.b3c)
def C.b3d_w := pC C.b3d.eq_1
def C.sy_b : LO := [
 X.m 5 0,
 X.o 6 (.call F.q108 [X.s 5]),
 X.o 7 (.move (X.i 0))]
def C.sy : LO := C.sy_b
def C.sy_w := pO C.sy.eq_1
def C.q117 : IFunc := ⟨2, [], .seq (.region C.sy) C.b3d⟩
def C.q117_W := aI (aI (aI @C.fp_w (aI @C.bmz_w @C.fn_w)) (aI @C.bm0_w (aI @C.fm_w @C.bmq_w))) (aI (aI @C.bm1_w (aI @C.bm2_w @C.fl_w)) (aI @C.b3c_w (aI @C.b3d_w @C.sy_w)))
def C.q117_B := aI (aI @C.fp_b.eq_1 @C.fn_b.eq_1) (aI @C.fm_b.eq_1 (aI @C.fl_b.eq_1 @C.sy_b.eq_1))

def C.sk_b : LO := [
 X.o 7 (.load1 (X.s 2)),
 X.o 8 (.nilchk (X.s 7)),
 X.o 9 (.fldAddr 2 (X.s 8)),
 X.o 10 (.load1 (X.s 9)),
 X.m 11 0,
 X.o 12 (.load1 (X.s 2)),
 X.o 13 (.nilchk (X.s 12)),
 X.o 14 (.fldAddr 1 (X.s 13)),
 X.o 15 (.load1 (X.s 14)),
 X.m 16 0,
 X.o 17 (.idxAddr 1 (X.s 15) (X.s 16)),
 X.o 18 (.load1 (X.s 17)),
 X.o 19 (.idxAddr 1 (X.s 10) (X.s 11)),
 X.n (.store1 (X.s 19) (X.s 18))]
def C.sk : LO := C.sk_b
def C.sk_w := pO C.sk.eq_1
def C.b22 : ICode := .keep [0, 2, 6] (.cond (X.s 6) (.region C.sk) .skip)
def C.b22_w := pC C.b22.eq_1
def C.sj_b : LO := [
 X.o 5 (.fldAddr 1 (X.s 4)),
 X.o 6 (.load1 (X.s 5))]
def C.sj : LO := C.sj_b
def C.sj_w := pO C.sj.eq_1
def C.b23 : ICode := .keep [0, 2, 4] (.seq (.region C.sj) C.b22)
def C.b23_w := pC C.b23.eq_1
def C.sh_b : LO := [
 X.o 4 (.boxN (X.s 1))]
def C.sh : LO := C.sh_b
def C.sh_w := pO C.sh.eq_1
def C.q113 : IFunc := ⟨3, [], .seq (.region C.sh) C.b23⟩
def C.q113_W := aI (aI @C.sk_w @C.b22_w) (aI @C.sj_w (aI @C.b23_w @C.sh_w))
def C.q113_B := aI @C.sk_b.eq_1 (aI @C.sj_b.eq_1 @C.sh_b.eq_1)

def C.sb_b : LO := [
 X.o 21 (.fldAddr 0 (X.s 4)),
 X.o 22 (.load1 (X.s 21)),
 X.m 5 22]
def C.sb : LO := C.sb_b
def C.sb_w := pO C.sb.eq_1
def C.b2v : ICode := .keep [4] (.seq (.region C.sb) .ret)
def C.b2v_w := pC C.b2v.eq_1
def C.r9_b : LO := [
 X.o 14 (.load1 (X.s 2)),
 X.o 15 (.nilchk (X.s 14)),
 X.o 16 (.fldAddr 2 (X.s 15)),
 X.o 17 (.load1 (X.s 16)),
 X.m 18 0,
 X.o 19 (.idxAddr 1 (X.s 17) (X.s 18)),
 X.o 20 (.load1 (X.s 19)),
 X.m 5 20]
def C.r9 : LO := C.r9_b
def C.r9_w := pO C.r9.eq_1
def C.b2w : ICode := .seq (.region C.r9) .ret
def C.b2w_w := pC C.b2w.eq_1
def C.b2x : ICode := .keep [0, 2, 4, 13] (.cond (X.s 13) C.b2w .skip)
def C.b2x_w := pC C.b2x.eq_1
def C.r8_b : LO := [
 X.o 6 (.load1 (X.s 2)),
 X.o 7 (.nilchk (X.s 6)),
 X.o 8 (.fldAddr 3 (X.s 7)),
 X.o 9 (.load1 (X.s 8)),
 X.m 10 9,
 X.t 10 11 (.fldAddr 1 (X.s 4)),
 X.t 10 12 (.load1 (X.s 11)),
 X.o 13 (.pick (X.s 10) (X.s 12) (.cst (.bool false)))]
def C.r8 : LO := C.r8_b
def C.r8_w := pO C.r8.eq_1
def C.b2y : ICode := .keep [0, 2, 4] (.seq (.seq (.region C.r8) C.b2x) C.b2v)
def C.b2y_w := pC C.b2y.eq_1
def C.r7_b : LO := [
 X.o 4 (.boxN (X.s 1)),
 X.o 5 (.move (.cst (.int .u32 0)))]
def C.r7 : LO := C.r7_b
def C.r7_w := pO C.r7.eq_1
def C.q111 : IFunc := ⟨3, [.slot 5], .seq (.region C.r7) C.b2y⟩
def C.q111_W := aI (aI (aI @C.sb_w @C.b2v_w) (aI @C.r9_w @C.b2w_w)) (aI (aI @C.b2x_w @C.r8_w) (aI @C.b2y_w @C.r7_w))
def C.q111_B := aI (aI @C.sb_b.eq_1 @C.r9_b.eq_1) (aI @C.r8_b.eq_1 @C.r7_b.eq_1)

def C.bgj_b : LO := [
 X.m 73 8,
 X.m 2 73,
 X.o 3 (.move (X.i 0))]
def C.bgj : LO := C.bgj_b
def C.bgj_w := pO C.bgj.eq_1
def C.cdj : ICode := .keep [8] (.seq (.region C.bgj) .ret)
def C.cdj_w := pC C.cdj.eq_1
def C.bgg_b : LO := [
 X.o 72 (.bin .add (X.s 62) (X.i 1)),
 X.m 62 72]
def C.bgg : LO := C.bgg_b
def C.bgg_w := pO C.bgg.eq_1
def C.cdv : ICode := .keep [0, 5, 6, 7, 8, 60, 61, 62] (.region C.bgg)
def C.cdv_w := pC C.cdv.eq_1
def C.bgf_b : LO := [
 X.m 66 5,
 X.m 67 11,
 X.o 68 (.idxAddr 1 (X.s 66) (X.s 67)),
 X.o 69 (.load1 (X.s 68)),
 X.o 70 (.bin .sub (X.s 69) (X.i 1)),
 X.o 71 (.idxAddr 1 (X.s 66) (X.s 67)),
 X.n (.store1 (X.s 71) (X.s 70))]
def C.bgf : LO := C.bgf_b
def C.bgf_w := pO C.bgf.eq_1
def C.cd1 : ICode := .keep [0, 5, 6, 7, 8, 11, 60, 61, 62] (.region C.bgf)
def C.cd1_w := pC C.cd1.eq_1
def C.bgd_b : LO := [
 X.o 64 (.idxAddr 1 (X.s 60) (X.s 62)),
 X.o 65 (.load1 (X.s 64)),
 X.m 11 65]
def C.bgd : LO := C.bgd_b
def C.bgd_w := pO C.bgd.eq_1
def C.cdg : ICode := .seq (.region C.bgd) C.cd1
def C.cdg_w := pC C.cdg.eq_1
def C.cd7 : ICode := .keep [0, 5, 6, 7, 8, 60, 61, 62] (.seq (.block 5 C.cdg) C.cdv)
def C.cd7_w := pC C.cd7.eq_1
def C.cd8 : ICode := .keep [0, 5, 6, 7, 8, 60, 61, 62, 63] (.seq (.cond (X.s 63) .skip (.exit 4)) C.cd7)
def C.cd8_w := pC C.cd8.eq_1
def C.bgc_b : LO := [
 X.o 63 (.bin .lss (X.s 62) (X.s 61))]
def C.bgc : LO := C.bgc_b
def C.bgc_w := pO C.bgc.eq_1
def C.clk : ICode := .keep [0, 5, 6, 7, 8, 60, 61, 62] (.seq (.region C.bgc) C.cd8)
def C.clk_w := pC C.clk.eq_1
def C.cdh : ICode := .loop C.clk
def C.cdh_w := pC C.cdh.eq_1
def C.cd9 : ICode := .keep [0, 5, 6, 7, 8, 60, 61, 62] (.block 4 C.cdh)
def C.cd9_w := pC C.cd9.eq_1
def C.bgb_b : LO := [
 X.m 57 6,
 X.m 58 9,
 X.o 59 (.idxAddr 1 (X.s 57) (X.s 58)),
 X.o 60 (.load1 (X.s 59)),
 X.o 61 (.len (X.s 60)),
 X.o 62 (.move (X.i 0))]
def C.bgb : LO := C.bgb_b
def C.bgb_w := pO C.bgb.eq_1
def C.cdk : ICode := .keep [0, 5, 6, 7, 8, 9] (.seq (.region C.bgb) C.cd9)
def C.cdk_w := pC C.cdk.eq_1
def C.bf9_b : LO := [
 X.m 53 8,
 X.m 54 9,
 X.o 55 (.buildSlice 1 1 [.int .i64 0] [(0, 1, X.s 54)]),
 X.o 56 (.append 1 8 (X.s 53) (X.s 55)),
 X.m 8 56]
def C.bf9 : LO := C.bf9_b
def C.bf9_w := pO C.bf9.eq_1
def C.cdl : ICode := .keep [0, 5, 6, 7, 8, 9] (.seq (.region C.bf9) C.cdk)
def C.cdl_w := pC C.cdl.eq_1
def C.bf8_b : LO := [
 X.m 50 7,
 X.m 51 9,
 X.o 52 (.call F.q78 [X.s 50, X.s 51])]
def C.bf8 : LO := C.bf8_b
def C.bf8_w := pO C.bf8.eq_1
def C.cdm : ICode := .keep [0, 5, 6, 7, 8, 9] (.seq (.region C.bf8) C.cdl)
def C.cdm_w := pC C.cdm.eq_1
def C.bf7_b : LO := [
 X.o 2 (.move (.cst (.nils))),
 X.o 3 (.move (X.i 5))]
def C.bf7 : LO := C.bf7_b
def C.bf7_w := pO C.bf7.eq_1
def C.cdn : ICode := .seq (.region C.bf7) .ret
def C.cdn_w := pC C.cdn.eq_1
def C.cdp : ICode := .keep [0, 5, 6, 7, 8, 9, 49] (.cond (X.s 49) C.cdn .skip)
def C.cdp_w := pC C.cdp.eq_1
def C.bf6_b : LO := [
 X.m 46 9,
 X.m 47 0,
 X.o 48 (.len (X.s 47)),
 X.o 49 (.bin .eql (X.s 46) (X.s 48))]
def C.bf6 : LO := C.bf6_b
def C.bf6_w := pO C.bf6.eq_1
def C.cdr : ICode := .keep [0, 5, 6, 7, 8, 9] (.seq (.seq (.region C.bf6) C.cdp) C.cdm)
def C.cdr_w := pC C.cdr.eq_1
def C.bf5_b : LO := [
 X.m 44 9,
 X.o 45 (.bin .add (X.s 44) (X.i 1)),
 X.m 9 45]
def C.bf5 : LO := C.bf5_b
def C.bf5_w := pO C.bf5.eq_1
def C.cdb : ICode := .region C.bf5
def C.cdb_w := pC C.cdb.eq_1
def C.cds : ICode := .keep [0, 5, 6, 7, 8, 9] (.block 3 C.cdb)
def C.cds_w := pC C.cds.eq_1
def C.cdt : ICode := .keep [0, 5, 6, 7, 8, 9, 43] (.cond (X.s 43) .skip (.exit 2))
def C.cdt_w := pC C.cdt.eq_1
def C.bgs_b : LO := [
 X.m 28 9,
 X.m 29 0,
 X.o 30 (.len (X.s 29)),
 X.o 31 (.bin .lss (X.s 28) (X.s 30)),
 X.m 32 31,
 X.t 32 33 (.move (X.s 7)),
 X.t 32 34 (.move (X.s 9)),
 X.t 32 35 (.call F.q79 [X.s 33, X.s 34]),
 X.t 32 36 (.move (X.s 35)),
 X.f 36 37 (.move (X.s 5)),
 X.f 36 38 (.move (X.s 9)),
 X.f 36 39 (.idxAddr 1 (X.s 37) (X.s 38)),
 X.f 36 40 (.load1 (X.s 39)),
 X.f 36 41 (.bin .gtr (X.s 40) (X.i 0)),
 X.t 32 42 (.pick (X.s 36) (.cst (.bool true)) (X.s 41)),
 X.o 43 (.pick (X.s 32) (X.s 42) (.cst (.bool false)))]
def C.bgs : LO := C.bgs_b
def C.bgs_w := pO C.bgs.eq_1
def C.clh : ICode := .keep [0, 5, 6, 7, 8, 9] (.seq (.seq (.region C.bgs) C.cdt) C.cds)
def C.clh_w := pC C.clh.eq_1
def C.cdc : ICode := .loop C.clh
def C.cdc_w := pC C.cdc.eq_1
def C.cdw : ICode := .keep [0, 5, 6, 7, 8, 9] (.seq (.block 2 C.cdc) C.cdr)
def C.cdw_w := pC C.cdw.eq_1
def C.bgr_b : LO := [
 X.o 9 (.move (X.i 0))]
def C.bgr : LO := C.bgr_b
def C.bgr_w := pO C.bgr.eq_1
def C.cdd : ICode := .seq (.region C.bgr) C.cdw
def C.cdd_w := pC C.cdd.eq_1
def C.cdx : ICode := .keep [0, 5, 6, 7, 8] (.block 1 C.cdd)
def C.cdx_w := pC C.cdx.eq_1
def C.cdy : ICode := .keep [0, 5, 6, 7, 8, 27] (.cond (X.s 27) .skip (.exit 0))
def C.cdy_w := pC C.cdy.eq_1
def C.bgp_b : LO := [
 X.m 23 8,
 X.o 24 (.len (X.s 23)),
 X.m 25 0,
 X.o 26 (.len (X.s 25)),
 X.o 27 (.bin .lss (X.s 24) (X.s 26))]
def C.bgp : LO := C.bgp_b
def C.bgp_w := pO C.bgp.eq_1
def C.clj : ICode := .keep [0, 5, 6, 7, 8] (.seq (.seq (.region C.bgp) C.cdy) C.cdx)
def C.clj_w := pC C.clj.eq_1
def C.cdf : ICode := .loop C.clj
def C.cdf_w := pC C.cdf.eq_1
def C.cdq : ICode := .keep [0, 5, 6, 7, 8] (.seq (.block 0 C.cdf) C.cdj)
def C.cdq_w := pC C.cdq.eq_1
def C.bgn_b : LO := [
 X.o 8 (.move (.cst (.nils)))]
def C.bgn : LO := C.bgn_b
def C.bgn_w := pO C.bgn.eq_1
def C.cdz : ICode := .keep [0, 5, 6, 7] (.seq (.region C.bgn) C.cdq)
def C.cdz_w := pC C.cdz.eq_1
def C.bgm_b : LO := [
 X.o 22 (.makeMap none),
 X.m 7 22]
def C.bgm : LO := C.bgm_b
def C.bgm_w := pO C.bgm.eq_1
def C.cd0 : ICode := .keep [0, 5, 6] (.seq (.region C.bgm) C.cdz)
def C.cd0_w := pC C.cd0.eq_1
def C.bgl_b : LO := [
 X.m 18 0,
 X.o 19 (.call F.q77 [X.s 18]),
 X.m 17 19,
 X.o 20 (.extract (X.s 17) 0),
 X.o 21 (.extract (X.s 17) 1),
 X.m 5 20,
 X.m 6 21]
def C.bgl : LO := C.bgl_b
def C.bgl_w := pO C.bgl.eq_1
def C.cd2 : ICode := .keep [0] (.seq (.region C.bgl) C.cd0)
def C.cd2_w := pC C.cd2.eq_1
def C.bgk_b : LO := [
 X.m 16 4,
 X.o 2 (.move (.cst (.nils))),
 X.m 3 16]
def C.bgk : LO := C.bgk_b
def C.bgk_w := pO C.bgk.eq_1
def C.cd3 : ICode := .seq (.region C.bgk) .ret
def C.cd3_w := pC C.cd3.eq_1
def C.cd4 : ICode := .keep [0, 4, 15] (.cond (X.s 15) C.cd3 .skip)
def C.cd4_w := pC C.cd4.eq_1
def C.bgh_b : LO := [
 X.m 14 4,
 X.o 15 (.bin .neq (X.s 14) (X.i 0))]
def C.bgh : LO := C.bgh_b
def C.bgh_w := pO C.bgh.eq_1
def C.cd5 : ICode := .keep [0, 4] (.seq (.region C.bgh) C.cd4)
def C.cd5_w := pC C.cd5.eq_1
def C.bf4_b : LO := [
 X.m 12 0,
 X.o 13 (.call F.q80 [X.s 12]),
 X.m 4 13]
def C.bf4 : LO := C.bf4_b
def C.bf4_w := pO C.bf4.eq_1
def C.cd6 : ICode := .keep [0] (.seq (.seq (.region C.bf4) C.cd5) C.cd2)
def C.cd6_w := pC C.cd6.eq_1
def C.bf3_b : LO := [
 X.o 2 (.move (.cst (.nils))),
 X.o 3 (.move (X.i 0))]
def C.bf3 : LO := C.bf3_b
def C.bf3_w := pO C.bf3.eq_1
def C.q76 : IFunc := ⟨1, [.slot 2, .slot 3], .seq (.region C.bf3) C.cd6⟩
def C.q76_W := aI (aI (aI (aI (aI @C.bgj_w (aI @C.cdj_w @C.bgg_w)) (aI @C.cdv_w (aI @C.bgf_w @C.cd1_w))) (aI (aI @C.bgd_w (aI @C.cdg_w @C.cd7_w)) (aI (aI @C.cd8_w @C.bgc_w) (aI @C.cdh_w @C.cd9_w)))) (aI (aI (aI @C.bgb_w (aI @C.cdk_w @C.bf9_w)) (aI @C.cdl_w (aI @C.bf8_w @C.cdm_w))) (aI (aI @C.bf7_w (aI @C.cdn_w @C.cdp_w)) (aI (aI @C.bf6_w @C.cdr_w) (aI @C.bf5_w @C.cdb_w))))) (aI (aI (aI (aI @C.cds_w (aI @C.cdt_w @C.bgs_w)) (aI @C.cdc_w (aI @C.cdw_w @C.bgr_w))) (aI (aI @C.cdd_w (aI @C.cdx_w @C.cdy_w)) (aI (aI @C.bgp_w @C.cdf_w) (aI @C.cdq_w @C.bgn_w)))) (aI (aI (aI @C.cdz_w (aI @C.bgm_w @C.cd0_w)) (aI @C.bgl_w (aI @C.cd2_w @C.bgk_w))) (aI (aI @C.cd3_w (aI @C.cd4_w @C.bgh_w)) (aI (aI @C.cd5_w @C.bf4_w) (aI @C.cd6_w @C.bf3_w)))))
def C.q76_B := aI (aI (aI (aI @C.bgj_b.eq_1 @C.bgg_b.eq_1) (aI @C.bgf_b.eq_1 (aI @C.bgd_b.eq_1 @C.bgc_b.eq_1))) (aI (aI @C.bgb_b.eq_1 @C.bf9_b.eq_1) (aI @C.bf8_b.eq_1 (aI @C.bf7_b.eq_1 @C.bf6_b.eq_1)))) (aI (aI (aI @C.bf5_b.eq_1 @C.bgs_b.eq_1) (aI @C.bgr_b.eq_1 (aI @C.bgp_b.eq_1 @C.bgn_b.eq_1))) (aI (aI @C.bgm_b.eq_1 (aI @C.bgl_b.eq_1 @C.bgk_b.eq_1)) (aI @C.bgh_b.eq_1 (aI @C.bf4_b.eq_1 @C.bf3_b.eq_1))))

def C.sx_b : LO := [
 X.o 6 (.load1 (X.s 3)),
 X.o 7 (.nilchk (X.s 6)),
 X.o 8 (.fldAddr 1 (X.s 7)),
 X.o 9 (.load1 (X.s 8)),
 X.m 10 0,
 X.o 11 (.load1 (X.s 2)),
 X.m 12 0,
 X.o 13 (.loadN 2 (X.s 5)),
 ⟨some 14, .callv (X.s 11) [X.s 12, X.s 13], none, [⟨.load1 (X.s 3), 6, none⟩, ⟨.load1 (X.s 8), 9, none⟩], []⟩,
 X.o 15 (.idxAddr 1 (X.s 9) (X.s 10)),
 X.n (.store1 (X.s 15) (X.s 14))]
def C.sx : LO := C.sx_b
def C.sx_w := pO C.sx.eq_1
def C.b3b : ICode := .keep [0, 2, 3, 5] (.region C.sx)
def C.b3b_w := pC C.b3b.eq_1
def C.sw_b : LO := [
 X.o 5 (.boxN (X.s 1))]
def C.sw : LO := C.sw_b
def C.sw_w := pO C.sw.eq_1
def C.q116 : IFunc := ⟨4, [], .seq (.region C.sw) C.b3b⟩
def C.q116_W := aI @C.sx_w (aI @C.b3b_w @C.sw_w)
def C.q116_B := aI @C.sx_b.eq_1 @C.sw_b.eq_1

def C.bhs_b : LO := [
 X.o 2 (.move (X.i 0))]
def C.bhs : LO := C.bhs_b
def C.bhs_w := pO C.bhs.eq_1
def C.cgd : ICode := .keep [] (.seq (.region C.bhs) .ret)
def C.cgd_w := pC C.cgd.eq_1
def C.bhr_b : LO := [
 X.o 31 (.bin .add (X.s 12) (X.i 1)),
 X.m 12 31]
def C.bhr : LO := C.bhr_b
def C.bhr_w := pO C.bhr.eq_1
def C.cgl : ICode := .keep [0, 10, 11, 12] (.region C.bhr)
def C.cgl_w := pC C.cgl.eq_1
def C.bhp_b : LO := [
 X.o 30 (.bin .add (X.s 18) (X.i 1)),
 X.m 18 30]
def C.bhp : LO := C.bhp_b
def C.bhp_w := pO C.bhp.eq_1
def C.cgs : ICode := .keep [0, 10, 11, 12, 16, 17, 18] (.region C.bhp)
def C.cgs_w := pC C.cgs.eq_1
def C.bhn_b : LO := [
 X.o 2 (.move (X.i 4))]
def C.bhn : LO := C.bhn_b
def C.bhn_w := pO C.bhn.eq_1
def C.cgt : ICode := .seq (.region C.bhn) .ret
def C.cgt_w := pC C.cgt.eq_1
def C.cgv : ICode := .keep [0, 10, 11, 12, 16, 17, 18, 29] (.cond (X.s 29) C.cgt .skip)
def C.cgv_w := pC C.cgv.eq_1
def C.bh0_b : LO := [
 X.m 22 6,
 X.o 23 (.bin .lss (X.s 22) (X.i 0)),
 X.m 24 23,
 X.f 24 25 (.move (X.s 6)),
 X.f 24 26 (.move (X.s 0)),
 X.f 24 27 (.len (X.s 26)),
 X.f 24 28 (.bin .geq (X.s 25) (X.s 27)),
 X.o 29 (.pick (X.s 24) (.cst (.bool true)) (X.s 28))]
def C.bh0 : LO := C.bh0_b
def C.bh0_w := pO C.bh0.eq_1
def C.cgw : ICode := .keep [0, 6, 10, 11, 12, 16, 17, 18] (.seq (.region C.bh0) C.cgv)
def C.cgw_w := pC C.cgw.eq_1
def C.bhz_b : LO := [
 X.o 20 (.idxAddr 1 (X.s 16) (X.s 18)),
 X.o 21 (.load1 (X.s 20)),
 X.m 6 21]
def C.bhz : LO := C.bhz_b
def C.bhz_w := pO C.bhz.eq_1
def C.cgc : ICode := .seq (.region C.bhz) C.cgw
def C.cgc_w := pC C.cgc.eq_1
def C.cgx : ICode := .keep [0, 10, 11, 12, 16, 17, 18] (.seq (.block 3 C.cgc) C.cgs)
def C.cgx_w := pC C.cgx.eq_1
def C.cgy : ICode := .keep [0, 10, 11, 12, 16, 17, 18, 19] (.seq (.cond (X.s 19) .skip (.exit 2)) C.cgx)
def C.cgy_w := pC C.cgy.eq_1
def C.bhq_b : LO := [
 X.o 19 (.bin .lss (X.s 18) (X.s 17))]
def C.bhq : LO := C.bhq_b
def C.bhq_w := pO C.bhq.eq_1
def C.cln : ICode := .keep [0, 10, 11, 12, 16, 17, 18] (.seq (.region C.bhq) C.cgy)
def C.cln_w := pC C.cln.eq_1
def C.cf8 : ICode := .loop C.cln
def C.cf8_w := pC C.cf8.eq_1
def C.cgf : ICode := .keep [0, 10, 11, 12, 16, 17, 18] (.block 2 C.cf8)
def C.cgf_w := pC C.cgf.eq_1
def C.bhy_b : LO := [
 X.m 16 4,
 X.o 17 (.len (X.s 16)),
 X.o 18 (.move (X.i 0))]
def C.bhy : LO := C.bhy_b
def C.bhy_w := pO C.bhy.eq_1
def C.cgg : ICode := .keep [0, 4, 10, 11, 12] (.seq (.region C.bhy) C.cgf)
def C.cgg_w := pC C.cgg.eq_1
def C.bhx_b : LO := [
 X.o 14 (.idxAddr 1 (X.s 10) (X.s 12)),
 X.o 15 (.load1 (X.s 14)),
 X.m 4 15]
def C.bhx : LO := C.bhx_b
def C.bhx_w := pO C.bhx.eq_1
def C.cf9 : ICode := .seq (.region C.bhx) C.cgg
def C.cf9_w := pC C.cf9.eq_1
def C.cgh : ICode := .keep [0, 10, 11, 12] (.seq (.block 1 C.cf9) C.cgl)
def C.cgh_w := pC C.cgh.eq_1
def C.cgj : ICode := .keep [0, 10, 11, 12, 13] (.seq (.cond (X.s 13) .skip (.exit 0)) C.cgh)
def C.cgj_w := pC C.cgj.eq_1
def C.bhw_b : LO := [
 X.o 13 (.bin .lss (X.s 12) (X.s 11))]
def C.bhw : LO := C.bhw_b
def C.bhw_w := pO C.bhw.eq_1
def C.clp : ICode := .keep [0, 10, 11, 12] (.seq (.region C.bhw) C.cgj)
def C.clp_w := pC C.clp.eq_1
def C.cgb : ICode := .loop C.clp
def C.cgb_w := pC C.cgb.eq_1
def C.cgk : ICode := .keep [0, 10, 11, 12] (.block 0 C.cgb)
def C.cgk_w := pC C.cgk.eq_1
def C.bhv_b : LO := [
 X.m 10 0,
 X.o 11 (.len (X.s 10)),
 X.o 12 (.move (X.i 0))]
def C.bhv : LO := C.bhv_b
def C.bhv_w := pO C.bhv.eq_1
def C.cgm : ICode := .keep [0] (.seq (.seq (.region C.bhv) C.cgk) C.cgd)
def C.cgm_w := pC C.cgm.eq_1
def C.bht_b : LO := [
 X.o 2 (.move (X.i 1))]
def C.bht : LO := C.bht_b
def C.bht_w := pO C.bht.eq_1
def C.cgn : ICode := .seq (.region C.bht) .ret
def C.cgn_w := pC C.cgn.eq_1
def C.cgp : ICode := .keep [0, 9] (.cond (X.s 9) C.cgn .skip)
def C.cgp_w := pC C.cgp.eq_1
def C.bhm_b : LO := [
 X.m 7 0,
 X.o 8 (.len (X.s 7)),
 X.o 9 (.bin .gtr (X.s 8) (X.i 100))]
def C.bhm : LO := C.bhm_b
def C.bhm_w := pO C.bhm.eq_1
def C.cgr : ICode := .keep [0] (.seq (.seq (.region C.bhm) C.cgp) C.cgm)
def C.cgr_w := pC C.cgr.eq_1
def C.bhl_b : LO := [
 X.o 2 (.move (X.i 0))]
def C.bhl : LO := C.bhl_b
def C.bhl_w := pO C.bhl.eq_1
def C.q80 : IFunc := ⟨1, [.slot 2], .seq (.region C.bhl) C.cgr⟩
def C.q80_W := aI (aI (aI (aI (aI @C.bhs_w @C.cgd_w) (aI @C.bhr_w @C.cgl_w)) (aI (aI @C.bhp_w @C.cgs_w) (aI @C.bhn_w @C.cgt_w))) (aI (aI (aI @C.cgv_w @C.bh0_w) (aI @C.cgw_w @C.bhz_w)) (aI (aI @C.cgc_w @C.cgx_w) (aI @C.cgy_w (aI @C.bhq_w @C.cf8_w))))) (aI (aI (aI (aI @C.cgf_w @C.bhy_w) (aI @C.cgg_w @C.bhx_w)) (aI (aI @C.cf9_w @C.cgh_w) (aI @C.cgj_w (aI @C.bhw_w @C.cgb_w)))) (aI (aI (aI @C.cgk_w @C.bhv_w) (aI @C.cgm_w @C.bht_w)) (aI (aI @C.cgn_w @C.cgp_w) (aI @C.bhm_w (aI @C.cgr_w @C.bhl_w)))))
def C.q80_B := aI (aI (aI @C.bhs_b.eq_1 (aI @C.bhr_b.eq_1 @C.bhp_b.eq_1)) (aI (aI @C.bhn_b.eq_1 @C.bh0_b.eq_1) (aI @C.bhz_b.eq_1 @C.bhq_b.eq_1))) (aI (aI @C.bhy_b.eq_1 (aI @C.bhx_b.eq_1 @C.bhw_b.eq_1)) (aI (aI @C.bhv_b.eq_1 @C.bht_b.eq_1) (aI @C.bhm_b.eq_1 @C.bhl_b.eq_1)))

def C.bg1_b : LO := [
 X.m 53 2,
 X.m 54 3,
 X.m 2 53,
 X.m 3 54]
def C.bg1 : LO := C.bg1_b
def C.bg1_w := pO C.bg1.eq_1
def C.cfg : ICode := .keep [2, 3] (.seq (.region C.bg1) .ret)
def C.cfg_w := pC C.cfg.eq_1
def C.bg0_b : LO := [
 X.o 52 (.bin .add (X.s 17) (X.i 1)),
 X.m 17 52]
def C.bg0 : LO := C.bg0_b
def C.bg0_w := pO C.bg0.eq_1
def C.cfr : ICode := .keep [2, 3, 15, 16, 17] (.region C.bg0)
def C.cfr_w := pC C.cfr.eq_1
def C.bgz_b : LO := [
 X.o 51 (.bin .add (X.s 25) (X.i 1)),
 X.m 25 51]
def C.bgz : LO := C.bgz_b
def C.bgz_w := pO C.bgz.eq_1
def C.cfx : ICode := .keep [2, 3, 4, 6, 15, 16, 17, 23, 24, 25] (.region C.bgz)
def C.cfx_w := pC C.cfx.eq_1
def C.bgq_b : LO := [
 X.m 41 3,
 X.m 42 8,
 X.m 43 3,
 X.m 44 8,
 X.o 45 (.idxAddr 1 (X.s 43) (X.s 44)),
 X.o 46 (.load1 (X.s 45)),
 X.m 47 4,
 X.o 48 (.buildSlice 1 1 [.int .i64 0] [(0, 1, X.s 47)]),
 X.o 49 (.append 1 8 (X.s 46) (X.s 48)),
 X.o 50 (.idxAddr 1 (X.s 41) (X.s 42)),
 X.n (.store1 (X.s 50) (X.s 49))]
def C.bgq : LO := C.bgq_b
def C.bgq_w := pO C.bgq.eq_1
def C.cfy : ICode := .keep [2, 3, 4, 6, 8, 15, 16, 17, 23, 24, 25] (.region C.bgq)
def C.cfy_w := pC C.cfy.eq_1
def C.bgy_b : LO := [
 X.m 35 2,
 X.m 36 4,
 X.o 37 (.idxAddr 1 (X.s 35) (X.s 36)),
 X.o 38 (.load1 (X.s 37)),
 X.o 39 (.bin .add (X.s 38) (X.i 1)),
 X.o 40 (.idxAddr 1 (X.s 35) (X.s 36)),
 X.n (.store1 (X.s 40) (X.s 39))]
def C.bgy : LO := C.bgy_b
def C.bgy_w := pO C.bgy.eq_1
def C.cfq : ICode := .keep [2, 3, 4, 6, 8, 15, 16, 17, 23, 24, 25] (.seq (.region C.bgy) C.cfy)
def C.cfq_w := pC C.cfq.eq_1
def C.bgx_b : LO := [
 X.m 32 6,
 X.m 33 8,
 X.o 34 (.call F.q78 [X.s 32, X.s 33])]
def C.bgx : LO := C.bgx_b
def C.bgx_w := pO C.bgx.eq_1
def C.cfz : ICode := .keep [2, 3, 4, 6, 8, 15, 16, 17, 23, 24, 25] (.seq (.region C.bgx) C.cfq)
def C.cfz_w := pC C.cfz.eq_1
def C.cf0 : ICode := .keep [2, 3, 4, 6, 8, 15, 16, 17, 23, 24, 25, 31] (.cond (X.s 31) (.exit 3) .skip)
def C.cf0_w := pC C.cf0.eq_1
def C.bgw_b : LO := [
 X.m 29 6,
 X.m 30 8,
 X.o 31 (.call F.q79 [X.s 29, X.s 30])]
def C.bgw : LO := C.bgw_b
def C.bgw_w := pO C.bgw.eq_1
def C.cf1 : ICode := .keep [2, 3, 4, 6, 8, 15, 16, 17, 23, 24, 25] (.seq (.seq (.region C.bgw) C.cf0) C.cfz)
def C.cf1_w := pC C.cf1.eq_1
def C.bg9_b : LO := [
 X.o 27 (.idxAddr 1 (X.s 23) (X.s 25)),
 X.o 28 (.load1 (X.s 27)),
 X.m 8 28]
def C.bg9 : LO := C.bg9_b
def C.bg9_w := pO C.bg9.eq_1
def C.cff : ICode := .seq (.region C.bg9) C.cf1
def C.cff_w := pC C.cff.eq_1
def C.cfh : ICode := .keep [2, 3, 4, 6, 15, 16, 17, 23, 24, 25] (.seq (.block 3 C.cff) C.cfx)
def C.cfh_w := pC C.cfh.eq_1
def C.cfj : ICode := .keep [2, 3, 4, 6, 15, 16, 17, 23, 24, 25, 26] (.seq (.cond (X.s 26) .skip (.exit 2)) C.cfh)
def C.cfj_w := pC C.cfj.eq_1
def C.bg8_b : LO := [
 X.o 26 (.bin .lss (X.s 25) (X.s 24))]
def C.bg8 : LO := C.bg8_b
def C.bg8_w := pO C.bg8.eq_1
def C.cll : ICode := .keep [2, 3, 4, 6, 15, 16, 17, 23, 24, 25] (.seq (.region C.bg8) C.cfj)
def C.cll_w := pC C.cll.eq_1
def C.cfb : ICode := .loop C.cll
def C.cfb_w := pC C.cfb.eq_1
def C.cfk : ICode := .keep [2, 3, 4, 6, 15, 16, 17, 23, 24, 25] (.block 2 C.cfb)
def C.cfk_w := pC C.cfk.eq_1
def C.bg7_b : LO := [
 X.m 23 5,
 X.o 24 (.len (X.s 23)),
 X.o 25 (.move (X.i 0))]
def C.bg7 : LO := C.bg7_b
def C.bg7_w := pO C.bg7.eq_1
def C.cfl : ICode := .keep [2, 3, 4, 5, 6, 15, 16, 17] (.seq (.region C.bg7) C.cfk)
def C.cfl_w := pC C.cfl.eq_1
def C.bg6_b : LO := [
 X.o 22 (.makeMap none),
 X.m 6 22]
def C.bg6 : LO := C.bg6_b
def C.bg6_w := pO C.bg6.eq_1
def C.cfm : ICode := .keep [2, 3, 4, 5, 15, 16, 17] (.seq (.region C.bg6) C.cfl)
def C.cfm_w := pC C.cfm.eq_1
def C.bg5_b : LO := [
 X.m 19 17,
 X.o 20 (.idxAddr 1 (X.s 15) (X.s 17)),
 X.o 21 (.load1 (X.s 20)),
 X.m 4 19,
 X.m 5 21]
def C.bg5 : LO := C.bg5_b
def C.bg5_w := pO C.bg5.eq_1
def C.cfc : ICode := .seq (.region C.bg5) C.cfm
def C.cfc_w := pC C.cfc.eq_1
def C.cfn : ICode := .keep [2, 3, 15, 16, 17] (.seq (.block 1 C.cfc) C.cfr)
def C.cfn_w := pC C.cfn.eq_1
def C.cfp : ICode := .keep [2, 3, 15, 16, 17, 18] (.seq (.cond (X.s 18) .skip (.exit 0)) C.cfn)
def C.cfp_w := pC C.cfp.eq_1
def C.bg4_b : LO := [
 X.o 18 (.bin .lss (X.s 17) (X.s 16))]
def C.bg4 : LO := C.bg4_b
def C.bg4_w := pO C.bg4.eq_1
def C.clm : ICode := .keep [2, 3, 15, 16, 17] (.seq (.region C.bg4) C.cfp)
def C.clm_w := pC C.clm.eq_1
def C.cfd : ICode := .loop C.clm
def C.cfd_w := pC C.cfd.eq_1
def C.cfs : ICode := .keep [2, 3, 15, 16, 17] (.block 0 C.cfd)
def C.cfs_w := pC C.cfs.eq_1
def C.bg3_b : LO := [
 X.m 15 0,
 X.o 16 (.len (X.s 15)),
 X.o 17 (.move (X.i 0))]
def C.bg3 : LO := C.bg3_b
def C.bg3_w := pO C.bg3.eq_1
def C.cft : ICode := .keep [0, 2, 3] (.seq (.seq (.region C.bg3) C.cfs) C.cfg)
def C.cft_w := pC C.cft.eq_1
def C.bg2_b : LO := [
 X.m 12 0,
 X.o 13 (.len (X.s 12)),
 X.o 14 (.makeSlice 1 24 [.nils] (X.s 13) (X.s 13)),
 X.m 3 14]
def C.bg2 : LO := C.bg2_b
def C.bg2_w := pO C.bg2.eq_1
def C.cfv : ICode := .keep [0, 2] (.seq (.region C.bg2) C.cft)
def C.cfv_w := pC C.cfv.eq_1
def C.bgv_b : LO := [
 X.m 9 0,
 X.o 10 (.len (X.s 9)),
 X.o 11 (.makeSlice 1 8 [.int .i64 0] (X.s 10) (X.s 10)),
 X.m 2 11]
def C.bgv : LO := C.bgv_b
def C.bgv_w := pO C.bgv.eq_1
def C.cfw : ICode := .keep [0] (.seq (.region C.bgv) C.cfv)
def C.cfw_w := pC C.cfw.eq_1
def C.bgt_b : LO := [
 X.o 2 (.move (.cst (.nils))),
 X.o 3 (.move (.cst (.nils)))]
def C.bgt : LO := C.bgt_b
def C.bgt_w := pO C.bgt.eq_1
def C.q77 : IFunc := ⟨1, [.slot 2, .slot 3], .seq (.region C.bgt) C.cfw⟩
def C.q77_W := aI (aI (aI (aI (aI @C.bg1_w @C.cfg_w) (aI @C.bg0_w (aI @C.cfr_w @C.bgz_w))) (aI (aI @C.cfx_w @C.bgq_w) (aI @C.cfy_w (aI @C.bgy_w @C.cfq_w)))) (aI (aI (aI @C.bgx_w @C.cfz_w) (aI @C.cf0_w (aI @C.bgw_w @C.cf1_w))) (aI (aI @C.bg9_w @C.cff_w) (aI @C.cfh_w (aI @C.cfj_w @C.bg8_w))))) (aI (aI (aI (aI @C.cfb_w @C.cfk_w) (aI @C.bg7_w (aI @C.cfl_w @C.bg6_w))) (aI (aI @C.cfm_w @C.bg5_w) (aI @C.cfc_w (aI @C.cfn_w @C.cfp_w)))) (aI (aI (aI @C.bg4_w @C.cfd_w) (aI @C.cfs_w (aI @C.bg3_w @C.cft_w))) (aI (aI @C.bg2_w @C.cfv_w) (aI @C.bgv_w (aI @C.cfw_w @C.bgt_w)))))
def C.q77_B := aI (aI (aI (aI @C.bg1_b.eq_1 @C.bg0_b.eq_1) (aI @C.bgz_b.eq_1 @C.bgq_b.eq_1)) (aI (aI @C.bgy_b.eq_1 @C.bgx_b.eq_1) (aI @C.bgw_b.eq_1 @C.bg9_b.eq_1))) (aI (aI (aI @C.bg8_b.eq_1 @C.bg7_b.eq_1) (aI @C.bg6_b.eq_1 @C.bg5_b.eq_1)) (aI (aI @C.bg4_b.eq_1 @C.bg3_b.eq_1) (aI @C.bg2_b.eq_1 (aI @C.bgv_b.eq_1 @C.bgt_b.eq_1))))

def C.bhf_b : LO := [
 X.m 13 6,
 X.m 4 13]
def C.bhf : LO := C.bhf_b
def C.bhf_w := pO C.bhf.eq_1
def C.cf2 : ICode := .keep [6] (.seq (.region C.bhf) .ret)
def C.cf2_w := pC C.cf2.eq_1
def C.bhd_b : LO := [
 X.m 8 0,
 X.m 9 1,
 X.o 10 (.lookup (.agg []) true (X.s 8) (X.s 9)),
 X.m 7 10,
 X.o 11 (.extract (X.s 7) 0),
 X.o 12 (.extract (X.s 7) 1),
 X.o 5 (.alloc []),
 X.n (.storeN 0 (X.s 5) (X.s 11)),
 X.m 6 12]
def C.bhd : LO := C.bhd_b
def C.bhd_w := pO C.bhd.eq_1
def C.cf3 : ICode := .keep [0, 1] (.seq (.region C.bhd) C.cf2)
def C.cf3_w := pC C.cf3.eq_1
def C.bhc_b : LO := [
 X.o 4 (.move (.cst (.bool false)))]
def C.bhc : LO := C.bhc_b
def C.bhc_w := pO C.bhc.eq_1
def C.q79 : IFunc := ⟨2, [.slot 4], .seq (.region C.bhc) C.cf3⟩
def C.q79_W := aI (aI @C.bhf_w @C.cf2_w) (aI @C.bhd_w (aI @C.cf3_w @C.bhc_w))
def C.q79_B := aI @C.bhf_b.eq_1 (aI @C.bhd_b.eq_1 @C.bhc_b.eq_1)

def C.bhb_b : LO := [
 X.m 4 0,
 X.m 5 1,
 X.o 6 (.build [] []),
 X.n (.mapSet (X.s 4) (X.s 5) (X.s 6))]
def C.bhb : LO := C.bhb_b
def C.bhb_w := pO C.bhb.eq_1
def C.q78 : IFunc := ⟨2, [], .region C.bhb⟩
def C.q78_W := @C.bhb_w
def C.q78_B := @C.bhb_b.eq_1

def C.z0 := aI @C.fb_b.eq_1 (aI @C.fg_b.eq_1 (aI @C.fh_b.eq_1 (aI @C.fj_b.eq_1 @C.fk_b.eq_1)))
def C.z1 := aI @C.d9_b.eq_1 (aI @C.fc_b.eq_1 (aI @C.fd_b.eq_1 @C.ff_b.eq_1))
def C.z2 := aI @C.fl_b.eq_1 (aI @C.fm_b.eq_1 (aI @C.fn_b.eq_1 @C.fp_b.eq_1))
def C.z3 := aI @C.fx_b.eq_1 (aI @C.fy_b.eq_1 (aI @C.fq_b.eq_1 @C.fz_b.eq_1))
def C.z4 := aI @C.f2_b.eq_1 (aI @C.f3_b.eq_1 @C.f4_b.eq_1)
def C.z5 := aI @C.gb_b.eq_1 @C.gc_b.eq_1
def C.z6 := aI @C.gg_b.eq_1 (aI @C.gh_b.eq_1 @C.gj_b.eq_1)
def C.z7 := aI @C.gk_b.eq_1 @C.gl_b.eq_1
def C.z8 := aI @C.gt_b.eq_1 (aI @C.gv_b.eq_1 (aI @C.h6_b.eq_1 @C.h7_b.eq_1))
def C.z9 := aI @C.gw_b.eq_1 @C.gx_b.eq_1
def C.z10 := aI @C.gy_b.eq_1 (aI @C.gq_b.eq_1 (aI @C.gz_b.eq_1 (aI @C.g0_b.eq_1 (aI @C.g1_b.eq_1 (aI @C.g3_b.eq_1 (aI @C.g4_b.eq_1 (aI @C.g5_b.eq_1 (aI @C.g6_b.eq_1 @C.g7_b.eq_1))))))))
def C.z11 := aI @C.gs_b.eq_1 (aI @C.g2_b.eq_1 (aI @C.hf_b.eq_1 @C.h5_b.eq_1))
def C.z12 := aI @C.g8_b.eq_1 @C.g9_b.eq_1
def C.z13 := aI @C.hb_b.eq_1 @C.hc_b.eq_1
def C.z14 := aI @C.hd_b.eq_1 (aI @C.hg_b.eq_1 @C.hh_b.eq_1)
def C.z15 := aI @C.hj_b.eq_1 @C.hk_b.eq_1
def C.z16 := aI @C.hl_b.eq_1 @C.hm_b.eq_1
def C.z17 := aI @C.hn_b.eq_1 @C.hp_b.eq_1
def C.z18 := aI @C.hr_b.eq_1 @C.hs_b.eq_1
def C.z19 := aI @C.hv_b.eq_1 (aI @C.hw_b.eq_1 (aI @C.hx_b.eq_1 (aI @C.hy_b.eq_1 (aI @C.hq_b.eq_1 (aI @C.hz_b.eq_1 (aI @C.h0_b.eq_1 (aI @C.h1_b.eq_1 @C.h2_b.eq_1)))))))
def C.z20 := aI @C.ht_b.eq_1 (aI @C.h3_b.eq_1 @C.h4_b.eq_1)
def C.z21 := aI @C.jb_b.eq_1 @C.jc_b.eq_1
def C.z22 := aI @C.jf_b.eq_1 (aI @C.jg_b.eq_1 (aI @C.jh_b.eq_1 @C.jj_b.eq_1))
def C.z23 := aI @C.jk_b.eq_1 (aI @C.jl_b.eq_1 @C.jm_b.eq_1)
def C.z24 := aI @C.jn_b.eq_1 @C.jp_b.eq_1
def C.z25 := aI @C.js_b.eq_1 @C.jt_b.eq_1
def C.z26 := aI @C.jw_b.eq_1 @C.jx_b.eq_1
def C.z27 := aI @C.jz_b.eq_1 (aI @C.j0_b.eq_1 (aI @C.j1_b.eq_1 (aI @C.j2_b.eq_1 @C.kc_b.eq_1)))
def C.z28 := aI @C.j3_b.eq_1 (aI @C.j4_b.eq_1 (aI @C.j8_b.eq_1 (aI @C.j9_b.eq_1 @C.kb_b.eq_1)))
def C.z29 := aI @C.jq_b.eq_1 (aI @C.j5_b.eq_1 (aI @C.j6_b.eq_1 @C.j7_b.eq_1))
def C.z30 := aI @C.kd_b.eq_1 @C.kf_b.eq_1
def C.z31 := aI @C.kg_b.eq_1 @C.kh_b.eq_1
def C.z32 := aI @C.kj_b.eq_1 @C.kk_b.eq_1
def C.z33 := aI @C.kl_b.eq_1 @C.km_b.eq_1
def C.z34 := aI @C.kn_b.eq_1 (aI @C.kp_b.eq_1 (aI @C.kr_b.eq_1 (aI @C.ks_b.eq_1 (aI @C.kt_b.eq_1 (aI @C.kv_b.eq_1 (aI @C.kw_b.eq_1 (aI @C.kx_b.eq_1 @C.ky_b.eq_1)))))))
def C.z35 := aI @C.mh_b.eq_1 (aI @C.mj_b.eq_1 @C.ml_b.eq_1)
def C.z36 := aI @C.mp_b.eq_1 (aI @C.mr_b.eq_1 @C.mv_b.eq_1)
def C.z37 := aI @C.mz_b.eq_1 (aI @C.m0_b.eq_1 @C.m1_b.eq_1)
def C.z38 := aI @C.m2_b.eq_1 (aI @C.m3_b.eq_1 (aI @C.m4_b.eq_1 (aI @C.m5_b.eq_1 @C.m6_b.eq_1)))
def C.z39 := aI @C.m8_b.eq_1 (aI @C.m9_b.eq_1 (aI @C.nb_b.eq_1 (aI @C.nc_b.eq_1 (aI @C.m7_b.eq_1 (aI @C.nf_b.eq_1 (aI @C.ng_b.eq_1 (aI @C.nh_b.eq_1 (aI @C.nj_b.eq_1 (aI @C.nk_b.eq_1 (aI @C.nl_b.eq_1 (aI @C.nm_b.eq_1 @C.nn_b.eq_1)))))))))))
def C.z40 := aI @C.np_b.eq_1 (aI @C.nr_b.eq_1 (aI @C.ns_b.eq_1 (aI @C.nt_b.eq_1 (aI @C.nv_b.eq_1 @C.nw_b.eq_1))))
def C.z41 := aI @C.bmj_w (aI @C.bmk_w (aI @C.bmm_w (aI @C.bml_w (aI @C.bmv_w (aI @C.bmw_w (aI @C.bmx_w (aI @C.bmy_w (aI @C.fb_w (aI @C.fg_w (aI @C.fh_w (aI @C.fj_w @C.fk_w)))))))))))
def C.z42 := aI @C.bmn_w (aI @C.bmp_w (aI @C.bmr_w (aI @C.bms_w (aI @C.bmt_w (aI @C.d9_w (aI @C.fc_w (aI @C.fd_w @C.ff_w)))))))
def C.z43 := aI @C.bmq_w (aI @C.bmz_w (aI @C.bm0_w (aI @C.bm1_w (aI @C.bm2_w (aI @C.b3f_w (aI @C.fl_w (aI @C.fm_w (aI @C.fn_w @C.fp_w))))))))
def C.z44 := aI @C.bm3_w (aI @C.dg_w @C.dh_w)
def C.z45 := aI @C.bm4_w (aI @C.bm7_w (aI @C.bm8_w (aI @C.bm9_w (aI @C.bnb_w (aI @C.fx_w (aI @C.fy_w (aI @C.fq_w @C.fz_w)))))))
def C.z46 := aI @C.bnk_w (aI @C.bnl_w (aI @C.bnm_w (aI @C.bnn_w (aI @C.f2_w (aI @C.f3_w @C.f4_w)))))
def C.z47 := aI @C.bnv_w (aI @C.bnw_w (aI @C.bnx_w (aI @C.bny_w (aI @C.bnq_w (aI @C.dj_w (aI @C.dk_w (aI @C.dl_w @C.dm_w)))))))
def C.z48 := aI @C.bn3_w (aI @C.bpg_w (aI @C.bph_w (aI @C.bpj_w (aI @C.bpk_w (aI @C.gg_w (aI @C.gh_w @C.gj_w))))))
def C.z49 := aI @C.bn5_w (aI @C.bn6_w (aI @C.bp5_w (aI @C.gk_w @C.gl_w)))
def C.z50 := aI @C.bn7_w @C.cf_w
def C.z51 := aI @C.bn8_w @C.cc_w
def C.z52 := aI @C.bn9_w @C.cb_w
def C.z53 := aI @C.bpb_w (aI @C.bpc_w (aI @C.bpd_w (aI @C.b8_w @C.b9_w)))
def C.z54 := aI @C.bpf_w @C.bk_w
def C.z55 := aI @C.bpr_w (aI @C.bps_w (aI @C.bpt_w (aI @C.dn_w @C.dp_w)))
def C.z56 := aI @C.bpz_w @C.cd_w
def C.z57 := aI @C.bp0_w (aI @C.gb_w @C.gc_w)
def C.z58 := aI @C.bpp_w @C.cl_w
def C.z59 := aI @C.bp1_w (aI @C.bp2_w (aI @C.bp3_w (aI @C.cj_w @C.ck_w)))
def C.z60 := aI @C.bp4_w @C.cg_w
def C.z61 := aI @C.bp6_w (aI @C.brl_w (aI @C.brm_w (aI @C.brn_w (aI @C.brp_w (aI @C.brr_w (aI @C.brq_w (aI @C.br4_w (aI @C.bsf_w (aI @C.bsn_w (aI @C.bsw_w (aI @C.bs1_w (aI @C.hv_w (aI @C.hw_w (aI @C.hx_w (aI @C.hy_w (aI @C.hq_w (aI @C.hz_w (aI @C.h0_w (aI @C.h1_w @C.h2_w)))))))))))))))))))
def C.z62 := aI @C.bp7_w (aI @C.t2_w (aI @C.brv_w (aI @C.hr_w @C.hs_w)))
def C.z63 := aI @C.bp8_w (aI @C.brt_w (aI @C.brw_w (aI @C.blv_w (aI @C.hn_w @C.hp_w))))
def C.z64 := aI @C.bp9_w (aI @C.brx_w (aI @C.t3_w (aI @C.hl_w @C.hm_w)))
def C.z65 := aI @C.brb_w (aI @C.bry_w (aI @C.brz_w (aI @C.blw_w (aI @C.hj_w @C.hk_w))))
def C.z66 := aI @C.brc_w (aI @C.br0_w (aI @C.t4_w (aI @C.hb_w @C.hc_w)))
def C.z67 := aI @C.brd_w (aI @C.br3_w (aI @C.br5_w (aI @C.bly_w (aI @C.g8_w @C.g9_w))))
def C.z68 := aI @C.brf_w (aI @C.br7_w (aI @C.br8_w (aI @C.br9_w (aI @C.bsb_w (aI @C.bsc_w (aI @C.bsd_w (aI @C.bsg_w (aI @C.bsh_w (aI @C.bsj_w (aI @C.bsk_w (aI @C.blq_w (aI @C.gy_w (aI @C.gq_w (aI @C.gz_w (aI @C.g0_w (aI @C.g1_w (aI @C.g3_w (aI @C.g4_w (aI @C.g5_w (aI @C.g6_w @C.g7_w))))))))))))))))))))
def C.z69 := aI @C.brg_w (aI @C.br6_w (aI @C.t5_w (aI @C.gw_w @C.gx_w)))
def C.z70 := aI @C.brh_w (aI @C.bsm_w (aI @C.bsp_w (aI @C.bsr_w (aI @C.bss_w (aI @C.t6_w (aI @C.gt_w (aI @C.gv_w (aI @C.h6_w @C.h7_w))))))))
def C.z71 := aI @C.brj_w (aI @C.brk_w (aI @C.bst_w (aI @C.bsv_w (aI @C.bsx_w (aI @C.bsy_w (aI @C.ht_w (aI @C.h3_w @C.h4_w)))))))
def C.z72 := aI @C.brs_w @C.bh_w
def C.z73 := aI @C.blt_w @C.bg_w
def C.z74 := aI @C.br1_w (aI @C.br2_w (aI @C.blx_w (aI @C.hd_w (aI @C.hg_w @C.hh_w))))
def C.z75 := aI @C.bsl_w @C.bf_w
def C.z76 := aI @C.blz_w (aI @C.bsq_w (aI @C.bsz_w (aI @C.bs0_w (aI @C.gs_w (aI @C.g2_w (aI @C.hf_w @C.h5_w))))))
def C.z77 := aI @C.bs2_w (aI @C.btg_w (aI @C.bth_w (aI @C.btj_w (aI @C.jk_w (aI @C.jl_w @C.jm_w)))))
def C.z78 := aI @C.bs3_w (aI @C.btl_w (aI @C.vk_w @C.cx_w))
def C.z79 := aI @C.bs4_w (aI @C.btm_w (aI @C.btn_w (aI @C.btp_w (aI @C.btr_w (aI @C.bts_w (aI @C.jf_w (aI @C.jg_w (aI @C.jh_w @C.jj_w))))))))
def C.z80 := aI @C.bs7_w (aI @C.btw_w (aI @C.btx_w (aI @C.jb_w @C.jc_w)))
def C.z81 := aI @C.bs6_w (aI @C.btk_w (aI @C.btz_w (aI @C.js_w @C.jt_w)))
def C.z82 := aI @C.bs9_w (aI @C.bt4_w (aI @C.bt5_w (aI @C.cq_w @C.cz_w)))
def C.z83 := aI @C.btd_w (aI @C.btf_w (aI @C.vj_w (aI @C.jn_w @C.jp_w)))
def C.z84 := aI @C.n4_w @C.bw_w
def C.z85 := aI @C.btv_w @C.cv_w
def C.z86 := aI @C.bt0_w @C.br_w
def C.z87 := aI @C.bt1_w (aI @C.bt2_w (aI @C.bt3_w (aI @C.jw_w @C.jx_w)))
def C.z88 := aI @C.bt6_w @C.bn_w
def C.z89 := aI @C.bvb_w (aI @C.bvc_w (aI @C.bvg_w (aI @C.bvh_w (aI @C.bvj_w (aI @C.bl4_w (aI @C.bvf_w (aI @C.bvm_w (aI @C.j3_w (aI @C.j4_w (aI @C.j8_w (aI @C.j9_w @C.kb_w)))))))))))
def C.z90 := aI @C.bvd_w (aI @C.bvs_w (aI @C.bvt_w (aI @C.bvv_w (aI @C.bvw_w (aI @C.bl5_w (aI @C.jz_w (aI @C.j0_w (aI @C.j1_w (aI @C.j2_w @C.kc_w)))))))))
def C.z91 := aI @C.bl3_w @C.bx_w
def C.z92 := aI @C.bvk_w (aI @C.bvl_w (aI @C.bvn_w (aI @C.bvp_w (aI @C.bvr_w (aI @C.jq_w (aI @C.j5_w (aI @C.j6_w @C.j7_w)))))))
def C.z93 := aI @C.bvx_w (aI @C.bvy_w (aI @C.bvq_w (aI @C.bvz_w (aI @C.bv1_w (aI @C.bv2_w (aI @C.bv3_w (aI @C.bv4_w (aI @C.bv5_w (aI @C.bv6_w (aI @C.w2_w (aI @C.bv7_w (aI @C.bv8_w (aI @C.bv9_w (aI @C.bwb_w (aI @C.kn_w (aI @C.kp_w (aI @C.kr_w (aI @C.ks_w (aI @C.kt_w (aI @C.kv_w (aI @C.kw_w (aI @C.kx_w @C.ky_w))))))))))))))))))))))
def C.z94 := aI @C.bv0_w (aI @C.bwh_w (aI @C.w3_w (aI @C.kg_w @C.kh_w)))
def C.z95 := aI @C.bwc_w (aI @C.bwd_w (aI @C.kd_w @C.kf_w))
def C.z96 := aI @C.bwf_w (aI @C.by_w (aI @C.kl_w @C.km_w))
def C.z97 := aI @C.bwg_w (aI @C.bt_w (aI @C.kj_w @C.kk_w))
def C.z98 := aI @C.byb_w (aI @C.byc_w (aI @C.byd_w (aI @C.byf_w (aI @C.dr_w (aI @C.ds_w (aI @C.dt_w @C.dv_w))))))
def C.z99 := aI @C.byh_w (aI @C.byx_w (aI @C.byy_w (aI @C.dy_w @C.dq_w)))
def C.z100 := aI @C.byk_w (aI @C.by1_w (aI @C.by3_w (aI @C.by4_w (aI @C.mh_w (aI @C.mj_w @C.ml_w)))))
def C.z101 := aI @C.bym_w (aI @C.by6_w (aI @C.by9_w (aI @C.bqc_w (aI @C.dw_w (aI @C.d1_w @C.d2_w)))))
def C.z102 := aI @C.byp_w (aI @C.bqb_w (aI @C.bqn_w (aI @C.bqp_w (aI @C.mp_w (aI @C.mr_w @C.mv_w)))))
def C.z103 := aI @C.byt_w (aI @C.byv_w (aI @C.byw_w (aI @C.c7_w @C.c8_w)))
def C.z104 := aI @C.byr_w (aI @C.by0_w (aI @C.byq_w (aI @C.dx_w (aI @C.dz_w @C.d0_w))))
def C.z105 := aI @C.bmc_w @C.b2_w
def C.z106 := aI @C.bjq_w @C.b3_w
def C.z107 := aI @C.bqr_w (aI @C.bqs_w (aI @C.bq0_w (aI @C.bq1_w (aI @C.mz_w (aI @C.m0_w @C.m1_w)))))
def C.z108 := aI @C.bqt_w @C.bl_w
def C.z109 := aI @C.bqv_w (aI @C.bqw_w (aI @C.bqx_w (aI @C.bqy_w (aI @C.bqq_w (aI @C.bqz_w (aI @C.m2_w (aI @C.m3_w (aI @C.m4_w (aI @C.m5_w @C.m6_w)))))))))
def C.z110 := aI @C.bq2_w (aI @C.bq7_w (aI @C.bq8_w (aI @C.db_w @C.dc_w)))
def C.z111 := aI @C.bq4_w (aI @C.bq5_w (aI @C.bzy_w (aI @C.d3_w @C.d4_w)))
def C.z112 := aI @C.bq6_w @C.dd_w
def C.z113 := aI @C.bzc_w (aI @C.bzd_w (aI @C.bzf_w (aI @C.bzg_w (aI @C.bzh_w (aI @C.bzj_w (aI @C.bzk_w (aI @C.bzl_w (aI @C.bzm_w (aI @C.bzn_w (aI @C.bzp_w (aI @C.bzr_w (aI @C.bzs_w (aI @C.bzt_w (aI @C.bzv_w (aI @C.bzw_w (aI @C.bzx_w (aI @C.m8_w (aI @C.m9_w (aI @C.nb_w (aI @C.nc_w (aI @C.m7_w (aI @C.nf_w (aI @C.ng_w (aI @C.nh_w (aI @C.nj_w (aI @C.nk_w (aI @C.nl_w (aI @C.nm_w @C.nn_w))))))))))))))))))))))))))))
def C.z114 := aI @C.bmf_w @C.b5_w
def C.z115 := aI @C.bmg_w @C.b4_w
def C.z116 := aI @C.bmh_w @C.df_w
def C.z117 := aI @C.bzq_w (aI @C.bzz_w (aI @C.bz0_w (aI @C.bz1_w (aI @C.bz2_w (aI @C.bz3_w (aI @C.bz4_w (aI @C.np_w (aI @C.nr_w (aI @C.ns_w (aI @C.nt_w (aI @C.nv_w @C.nw_w)))))))))))
def C.z118 := aI @C.bz9_w (aI @C.b0b_w (aI @C.b0c_w (aI @C.b0d_w (aI @C.d5_w (aI @C.d6_w (aI @C.d7_w @C.d8_w))))))
def Bt := aI @Bp (aI @aop.eq_28 @aop.eq_30)
def Bu := aI @Bq @Bs
end Go.Proofs.YtdmfgodajoojpaaGreatDoor.Cn
