/- The intermediate code of the functions, printed by a program out of the loaded program; that it is theirs is checked in the text of links. -/
import Derived.Test.YtdmfgodajoojpaaGreatDoorCnIr2
set_option linter.defProp false
namespace Go.Proofs.YtdmfgodajoojpaaGreatDoor.Cn
open Go
variable {P : Program} {Q : IExit → AFr → ASt → Prop} {fr : AFr} {st : ASt}


def C.xh_b : LO := [
 X.o 4 (.loadN 4 (X.s 1)),
 X.o 5 (.loadN 3 (X.s 2)),
 X.o 6 (.call F.q53 [X.s 4, X.s 5]),
 X.m 3 6]
def C.xh : LO := C.xh_b
def C.xh_w := pO C.xh.eq_1
def C.b55 : ICode := .keep [1, 2] (.seq (.region C.xh) .ret)
def C.b55_w := pC C.b55.eq_1
def C.kl_b : LO := [
 X.o 2 (.boxN (X.s 0)),
 X.o 3 (.move (X.i 0))]
def C.kl : LO := C.kl_b
def C.kl_w := pO C.kl.eq_1
def C.q31 : IFunc := ⟨2, [.slot 3], .seq (.region C.kl) C.b55⟩
def C.q31_W := aI @C.xh_w (aI @C.b55_w @C.kl_w)
def C.q31_B := aI @C.xh_b.eq_1 @C.kl_b.eq_1

def C.bbj_b : LO := [
 X.o 5 (.makeFunc F.q54 [X.s 3, X.s 2]),
 X.o 6 (.makeFunc F.q55 [X.s 3]),
 X.o 7 (.buildSlice 1 2 [.nilf] [(0, 1, X.s 5), (1, 1, X.s 6)]),
 X.o 8 (.call F.q61 [X.s 7]),
 X.m 4 8]
def C.bbj : LO := C.bbj_b
def C.bbj_w := pO C.bbj.eq_1
def C.b7x : ICode := .keep [2, 3] (.seq (.region C.bbj) .ret)
def C.b7x_w := pC C.b7x.eq_1
def C.bbh_b : LO := [
 X.o 2 (.boxN (X.s 0)),
 X.o 3 (.boxN (X.s 1)),
 X.o 4 (.move (X.i 0))]
def C.bbh : LO := C.bbh_b
def C.bbh_w := pO C.bbh.eq_1
def C.q53 : IFunc := ⟨2, [.slot 4], .seq (.region C.bbh) C.b7x⟩
def C.q53_W := aI @C.bbj_w (aI @C.b7x_w @C.bbh_w)
def C.q53_B := aI @C.bbj_b.eq_1 @C.bbh_b.eq_1

def C.xk_b : LO := [
 X.o 2 (.loadN 4 (X.s 0)),
 X.o 3 (.call F.q39 [X.s 2]),
 X.o 4 (.call F.q46 [X.s 3]),
 X.m 1 4]
def C.xk : LO := C.xk_b
def C.xk_w := pO C.xk.eq_1
def C.b56 : ICode := .keep [0] (.seq (.region C.xk) .ret)
def C.b56_w := pC C.b56.eq_1
def C.xj_b : LO := [
 X.o 1 (.move (X.i 0))]
def C.xj : LO := C.xj_b
def C.xj_w := pO C.xj.eq_1
def C.q32 : IFunc := ⟨1, [.slot 1], .seq (.region C.xj) C.b56⟩
def C.q32_W := aI @C.xk_w (aI @C.b56_w @C.xj_w)
def C.q32_B := aI @C.xk_b.eq_1 @C.xj_b.eq_1

def C.kq_b : LO := [
 X.m 28 3,
 X.m 2 28]
def C.kq : LO := C.kq_b
def C.kq_w := pO C.kq.eq_1
def C.bvv : ICode := .keep [3] (.seq (.region C.kq) .ret)
def C.bvv_w := pC C.bvv.eq_1
def C.ky_b : LO := [
 X.o 27 (.bin .add (X.s 13) (X.i 1)),
 X.m 13 27]
def C.ky : LO := C.ky_b
def C.ky_w := pO C.ky.eq_1
def C.bvy : ICode := .keep [3, 11, 12, 13] (.region C.ky)
def C.bvy_w := pC C.bvy.eq_1
def C.x8_b : LO := [
 X.m 21 3,
 X.m 22 4,
 X.o 23 (.fldAddr 0 (X.s 5)),
 X.o 24 (.load1 (X.s 23)),
 X.o 25 (.buildSlice 1 1 [.int .i64 0] [(0, 1, X.s 24)]),
 X.o 26 (.idxAddr 1 (X.s 21) (X.s 22)),
 X.n (.store1 (X.s 26) (X.s 25))]
def C.x8 : LO := C.x8_b
def C.x8_w := pO C.x8.eq_1
def C.b6z : ICode := .keep [3, 4, 5, 11, 12, 13, 20] (.cond (X.s 20) (.region C.x8) .skip)
def C.b6z_w := pC C.b6z.eq_1
def C.x7_b : LO := [
 X.o 18 (.fldAddr 0 (X.s 5)),
 X.o 19 (.load1 (X.s 18)),
 X.o 20 (.bin .neq (X.s 19) (X.i (-1)))]
def C.x7 : LO := C.x7_b
def C.x7_w := pO C.x7.eq_1
def C.b60 : ICode := .keep [3, 4, 5, 11, 12, 13] (.seq (.region C.x7) C.b6z)
def C.b60_w := pC C.b60.eq_1
def C.kx_b : LO := [
 X.m 15 13,
 X.o 16 (.idxAddr 3 (X.s 11) (X.s 13)),
 X.o 17 (.loadN 3 (X.s 16)),
 X.o 5 (.alloc [.int .i64 0, .int .i64 0, .bool false]),
 X.m 4 15,
 X.n (.storeN 3 (X.s 5) (X.s 17))]
def C.kx : LO := C.kx_b
def C.kx_w := pO C.kx.eq_1
def C.bvs : ICode := .seq (.region C.kx) C.b60
def C.bvs_w := pC C.bvs.eq_1
def C.bvq : ICode := .keep [3, 11, 12, 13] (.seq (.block 1 C.bvs) C.bvy)
def C.bvq_w := pC C.bvq.eq_1
def C.bvz : ICode := .keep [3, 11, 12, 13, 14] (.seq (.cond (X.s 14) .skip (.exit 0)) C.bvq)
def C.bvz_w := pC C.bvz.eq_1
def C.kw_b : LO := [
 X.o 14 (.bin .lss (X.s 13) (X.s 12))]
def C.kw : LO := C.kw_b
def C.kw_w := pO C.kw.eq_1
def C.cj5 : ICode := .keep [3, 11, 12, 13] (.seq (.region C.kw) C.bvz)
def C.cj5_w := pC C.cj5.eq_1
def C.bvt : ICode := .loop C.cj5
def C.bvt_w := pC C.bvt.eq_1
def C.bvw : ICode := .keep [3, 11, 12, 13] (.block 0 C.bvt)
def C.bvw_w := pC C.bvw.eq_1
def C.kv_b : LO := [
 X.o 10 (.fldAddr 1 (X.s 1)),
 X.o 11 (.load1 (X.s 10)),
 X.o 12 (.len (X.s 11)),
 X.o 13 (.move (X.i 0))]
def C.kv : LO := C.kv_b
def C.kv_w := pO C.kv.eq_1
def C.bvx : ICode := .keep [1, 3] (.seq (.seq (.region C.kv) C.bvw) C.bvv)
def C.bvx_w := pC C.bvx.eq_1
def C.cr_b : LO := [
 X.o 6 (.fldAddr 1 (X.s 1)),
 X.o 7 (.load1 (X.s 6)),
 X.o 8 (.len (X.s 7)),
 X.o 9 (.makeSlice 1 24 [.nils] (X.s 8) (X.s 8)),
 X.m 3 9]
def C.cr : LO := C.cr_b
def C.cr_w := pO C.cr.eq_1
def C.blt : ICode := .keep [1] (.seq (.region C.cr) C.bvx)
def C.blt_w := pC C.blt.eq_1
def C.bz_b : LO := [
 X.o 1 (.boxN (X.s 0)),
 X.o 2 (.move (.cst (.nils)))]
def C.bz : LO := C.bz_b
def C.bz_w := pO C.bz.eq_1
def C.q39 : IFunc := ⟨1, [.slot 2], .seq (.region C.bz) C.blt⟩
def C.q39_W := aI (aI (aI (aI @C.kq_w @C.bvv_w) (aI @C.ky_w (aI @C.bvy_w @C.x8_w))) (aI (aI @C.b6z_w @C.x7_w) (aI @C.b60_w (aI @C.kx_w @C.bvs_w)))) (aI (aI (aI @C.bvq_w @C.bvz_w) (aI @C.kw_w (aI @C.bvt_w @C.bvw_w))) (aI (aI @C.kv_w @C.bvx_w) (aI @C.cr_w (aI @C.blt_w @C.bz_w))))
def C.q39_B := aI (aI (aI @C.kq_b.eq_1 @C.ky_b.eq_1) (aI @C.x8_b.eq_1 @C.x7_b.eq_1)) (aI (aI @C.kx_b.eq_1 @C.kw_b.eq_1) (aI @C.kv_b.eq_1 (aI @C.cr_b.eq_1 @C.bz_b.eq_1)))

def C.xm_b : LO := [
 X.o 2 (.fldAddr 2 (X.s 0)),
 X.o 3 (.load1 (X.s 2)),
 X.o 4 (.call F.q59 [X.s 3, .fnc F.q71]),
 X.m 1 4]
def C.xm : LO := C.xm_b
def C.xm_w := pO C.xm.eq_1
def C.b57 : ICode := .keep [0] (.seq (.region C.xm) .ret)
def C.b57_w := pC C.b57.eq_1
def C.xl_b : LO := [
 X.o 1 (.move (X.i 0))]
def C.xl : LO := C.xl_b
def C.xl_w := pO C.xl.eq_1
def C.q33 : IFunc := ⟨1, [.slot 1], .seq (.region C.xl) C.b57⟩
def C.q33_W := aI @C.xm_w (aI @C.b57_w @C.xl_w)
def C.q33_B := aI @C.xm_b.eq_1 @C.xl_b.eq_1

def C.lx_b : LO := [
 X.o 4 (.move (X.i 0))]
def C.lx : LO := C.lx_b
def C.lx_w := pO C.lx.eq_1
def C.bw3 : ICode := .keep [] (.seq (.region C.lx) .ret)
def C.bw3_w := pC C.bw3.eq_1
def C.lw_b : LO := [
 X.o 20 (.bin .add (X.s 10) (X.i 1)),
 X.m 10 20]
def C.lw : LO := C.lw_b
def C.lw_w := pO C.lw.eq_1
def C.bw6 : ICode := .keep [1, 8, 9, 10] (.region C.lw)
def C.bw6_w := pC C.bw6.eq_1
def C.bb1_b : LO := [
 X.m 19 7,
 X.m 4 19]
def C.bb1 : LO := C.bb1_b
def C.bb1_w := pO C.bb1.eq_1
def C.b8c : ICode := .seq (.region C.bb1) .ret
def C.b8c_w := pC C.b8c.eq_1
def C.b8d : ICode := .keep [1, 7, 8, 9, 10, 18] (.cond (X.s 18) C.b8c .skip)
def C.b8d_w := pC C.b8d.eq_1
def C.bb0_b : LO := [
 X.m 17 7,
 X.o 18 (.bin .neq (X.s 17) (X.i 0))]
def C.bb0 : LO := C.bb0_b
def C.bb0_w := pO C.bb0.eq_1
def C.b8f : ICode := .keep [1, 7, 8, 9, 10] (.seq (.region C.bb0) C.b8d)
def C.b8f_w := pC C.b8f.eq_1
def C.bbz_b : LO := [
 X.m 14 1,
 X.o 15 (.loadN 1 (X.s 6)),
 X.o 16 (.callv (X.s 14) [X.s 15]),
 X.m 7 16]
def C.bbz : LO := C.bbz_b
def C.bbz_w := pO C.bbz.eq_1
def C.b8g : ICode := .keep [1, 6, 8, 9, 10] (.seq (.region C.bbz) C.b8f)
def C.b8g_w := pC C.b8g.eq_1
def C.lv_b : LO := [
 X.o 12 (.idxAddr 1 (X.s 8) (X.s 10)),
 X.o 13 (.loadN 1 (X.s 12)),
 X.o 6 (.alloc [.int .i64 0]),
 X.n (.storeN 1 (X.s 6) (X.s 13))]
def C.lv : LO := C.lv_b
def C.lv_w := pO C.lv.eq_1
def C.bw2 : ICode := .seq (.region C.lv) C.b8g
def C.bw2_w := pC C.bw2.eq_1
def C.bw7 : ICode := .keep [1, 8, 9, 10] (.seq (.block 1 C.bw2) C.bw6)
def C.bw7_w := pC C.bw7.eq_1
def C.bw8 : ICode := .keep [1, 8, 9, 10, 11] (.seq (.cond (X.s 11) .skip (.exit 0)) C.bw7)
def C.bw8_w := pC C.bw8.eq_1
def C.lt_b : LO := [
 X.o 11 (.bin .lss (X.s 10) (X.s 9))]
def C.lt : LO := C.lt_b
def C.lt_w := pO C.lt.eq_1
def C.ckb : ICode := .keep [1, 8, 9, 10] (.seq (.region C.lt) C.bw8)
def C.ckb_w := pC C.ckb.eq_1
def C.bw1 : ICode := .loop C.ckb
def C.bw1_w := pC C.bw1.eq_1
def C.bw4 : ICode := .keep [1, 8, 9, 10] (.block 0 C.bw1)
def C.bw4_w := pC C.bw4.eq_1
def C.ls_b : LO := [
 X.m 8 0,
 X.o 9 (.len (X.s 8)),
 X.o 10 (.move (X.i 0))]
def C.ls : LO := C.ls_b
def C.ls_w := pO C.ls.eq_1
def C.bw5 : ICode := .keep [0, 1] (.seq (.seq (.region C.ls) C.bw4) C.bw3)
def C.bw5_w := pC C.bw5.eq_1
def C.lr_b : LO := [
 X.o 4 (.move (X.i 0))]
def C.lr : LO := C.lr_b
def C.lr_w := pO C.lr.eq_1
def C.q59 : IFunc := ⟨2, [.slot 4], .seq (.region C.lr) C.bw5⟩
def C.q59_W := aI (aI (aI (aI @C.lx_w @C.bw3_w) (aI @C.lw_w (aI @C.bw6_w @C.bb1_w))) (aI (aI @C.b8c_w @C.b8d_w) (aI @C.bb0_w (aI @C.b8f_w @C.bbz_w)))) (aI (aI (aI @C.b8g_w @C.lv_w) (aI @C.bw2_w (aI @C.bw7_w @C.bw8_w))) (aI (aI @C.lt_w (aI @C.bw1_w @C.bw4_w)) (aI @C.ls_w (aI @C.bw5_w @C.lr_w))))
def C.q59_B := aI (aI (aI @C.lx_b.eq_1 @C.lw_b.eq_1) (aI @C.bb1_b.eq_1 @C.bb0_b.eq_1)) (aI (aI @C.bbz_b.eq_1 @C.lv_b.eq_1) (aI @C.lt_b.eq_1 (aI @C.ls_b.eq_1 @C.lr_b.eq_1)))

def C.bd0_b : LO := [
 X.o 3 (.fldAddr 0 (X.s 1)),
 X.o 4 (.load1 (X.s 3)),
 X.o 5 (.call F.q74 [X.s 4, X.i 0, X.i 20]),
 X.o 6 (.un .not (X.s 5)),
 X.o 7 (.call F.q73 [X.s 6, X.i 3]),
 X.m 2 7]
def C.bd0 : LO := C.bd0_b
def C.bd0_w := pO C.bd0.eq_1
def C.cbk : ICode := .keep [1] (.seq (.region C.bd0) .ret)
def C.cbk_w := pC C.cbk.eq_1
def C.bdz_b : LO := [
 X.o 1 (.boxN (X.s 0)),
 X.o 2 (.move (X.i 0))]
def C.bdz : LO := C.bdz_b
def C.bdz_w := pO C.bdz.eq_1
def C.q71 : IFunc := ⟨1, [.slot 2], .seq (.region C.bdz) C.cbk⟩
def C.q71_W := aI @C.bd0_w (aI @C.cbk_w @C.bdz_w)
def C.q71_B := aI @C.bd0_b.eq_1 @C.bdz_b.eq_1

def C.xp_b : LO := [
 X.o 2 (.fldAddr 3 (X.s 0)),
 X.o 3 (.load1 (X.s 2)),
 X.o 4 (.makeFunc F.q35 [X.s 0]),
 X.o 5 (.call F.q57 [X.s 3, X.s 4]),
 X.m 1 5]
def C.xp : LO := C.xp_b
def C.xp_w := pO C.xp.eq_1
def C.b58 : ICode := .keep [0] (.seq (.region C.xp) .ret)
def C.b58_w := pC C.b58.eq_1
def C.xn_b : LO := [
 X.o 1 (.move (X.i 0))]
def C.xn : LO := C.xn_b
def C.xn_w := pO C.xn.eq_1
def C.q34 : IFunc := ⟨1, [.slot 1], .seq (.region C.xn) C.b58⟩
def C.q34_W := aI @C.xp_w (aI @C.b58_w @C.xn_w)
def C.q34_B := aI @C.xp_b.eq_1 @C.xn_b.eq_1

def C.lh_b : LO := [
 X.o 4 (.move (X.i 0))]
def C.lh : LO := C.lh_b
def C.lh_w := pO C.lh.eq_1
def C.bwl : ICode := .keep [] (.seq (.region C.lh) .ret)
def C.bwl_w := pC C.bwl.eq_1
def C.lg_b : LO := [
 X.o 20 (.bin .add (X.s 10) (X.i 1)),
 X.m 10 20]
def C.lg : LO := C.lg_b
def C.lg_w := pO C.lg.eq_1
def C.bwp : ICode := .keep [1, 8, 9, 10] (.region C.lg)
def C.bwp_w := pC C.bwp.eq_1
def C.bbw_b : LO := [
 X.m 19 7,
 X.m 4 19]
def C.bbw : LO := C.bbw_b
def C.bbw_w := pO C.bbw.eq_1
def C.b73 : ICode := .seq (.region C.bbw) .ret
def C.b73_w := pC C.b73.eq_1
def C.b74 : ICode := .keep [1, 7, 8, 9, 10, 18] (.cond (X.s 18) C.b73 .skip)
def C.b74_w := pC C.b74.eq_1
def C.bbv_b : LO := [
 X.m 17 7,
 X.o 18 (.bin .neq (X.s 17) (X.i 0))]
def C.bbv : LO := C.bbv_b
def C.bbv_w := pO C.bbv.eq_1
def C.b75 : ICode := .keep [1, 7, 8, 9, 10] (.seq (.region C.bbv) C.b74)
def C.b75_w := pC C.b75.eq_1
def C.bbt_b : LO := [
 X.m 14 1,
 X.o 15 (.loadN 6 (X.s 6)),
 X.o 16 (.callv (X.s 14) [X.s 15]),
 X.m 7 16]
def C.bbt : LO := C.bbt_b
def C.bbt_w := pO C.bbt.eq_1
def C.b76 : ICode := .keep [1, 6, 8, 9, 10] (.seq (.region C.bbt) C.b75)
def C.b76_w := pC C.b76.eq_1
def C.lf_b : LO := [
 X.o 12 (.idxAddr 6 (X.s 8) (X.s 10)),
 X.o 13 (.loadN 6 (X.s 12)),
 X.o 6 (.alloc [.int .i64 0, .int .i64 0, .int .i64 0, .int .u32 0, .nils, .nils]),
 X.n (.storeN 6 (X.s 6) (X.s 13))]
def C.lf : LO := C.lf_b
def C.lf_w := pO C.lf.eq_1
def C.bwk : ICode := .seq (.region C.lf) C.b76
def C.bwk_w := pC C.bwk.eq_1
def C.bwr : ICode := .keep [1, 8, 9, 10] (.seq (.block 1 C.bwk) C.bwp)
def C.bwr_w := pC C.bwr.eq_1
def C.bws : ICode := .keep [1, 8, 9, 10, 11] (.seq (.cond (X.s 11) .skip (.exit 0)) C.bwr)
def C.bws_w := pC C.bws.eq_1
def C.ld_b : LO := [
 X.o 11 (.bin .lss (X.s 10) (X.s 9))]
def C.ld : LO := C.ld_b
def C.ld_w := pO C.ld.eq_1
def C.cj8 : ICode := .keep [1, 8, 9, 10] (.seq (.region C.ld) C.bws)
def C.cj8_w := pC C.cj8.eq_1
def C.bwj : ICode := .loop C.cj8
def C.bwj_w := pC C.bwj.eq_1
def C.bwm : ICode := .keep [1, 8, 9, 10] (.block 0 C.bwj)
def C.bwm_w := pC C.bwm.eq_1
def C.lc_b : LO := [
 X.m 8 0,
 X.o 9 (.len (X.s 8)),
 X.o 10 (.move (X.i 0))]
def C.lc : LO := C.lc_b
def C.lc_w := pO C.lc.eq_1
def C.bwn : ICode := .keep [0, 1] (.seq (.seq (.region C.lc) C.bwm) C.bwl)
def C.bwn_w := pC C.bwn.eq_1
def C.lb_b : LO := [
 X.o 4 (.move (X.i 0))]
def C.lb : LO := C.lb_b
def C.lb_w := pO C.lb.eq_1
def C.q57 : IFunc := ⟨2, [.slot 4], .seq (.region C.lb) C.bwn⟩
def C.q57_W := aI (aI (aI (aI @C.lh_w @C.bwl_w) (aI @C.lg_w (aI @C.bwp_w @C.bbw_w))) (aI (aI @C.b73_w @C.b74_w) (aI @C.bbv_w (aI @C.b75_w @C.bbt_w)))) (aI (aI (aI @C.b76_w @C.lf_w) (aI @C.bwk_w (aI @C.bwr_w @C.bws_w))) (aI (aI @C.ld_w (aI @C.bwj_w @C.bwm_w)) (aI @C.lc_w (aI @C.bwn_w @C.lb_w))))
def C.q57_B := aI (aI (aI @C.lh_b.eq_1 @C.lg_b.eq_1) (aI @C.bbw_b.eq_1 @C.bbv_b.eq_1)) (aI (aI @C.bbt_b.eq_1 @C.lf_b.eq_1) (aI @C.ld_b.eq_1 (aI @C.lc_b.eq_1 @C.lb_b.eq_1)))

def C.xr_b : LO := [
 X.o 4 (.loadN 4 (X.s 1)),
 X.o 5 (.loadN 6 (X.s 2)),
 X.o 6 (.call F.q47 [X.s 4, X.s 5]),
 X.m 3 6]
def C.xr : LO := C.xr_b
def C.xr_w := pO C.xr.eq_1
def C.b59 : ICode := .keep [1, 2] (.seq (.region C.xr) .ret)
def C.b59_w := pC C.b59.eq_1
def C.km_b : LO := [
 X.o 2 (.boxN (X.s 0)),
 X.o 3 (.move (X.i 0))]
def C.km : LO := C.km_b
def C.km_w := pO C.km.eq_1
def C.q35 : IFunc := ⟨2, [.slot 3], .seq (.region C.km) C.b59⟩
def C.q35_W := aI @C.xr_w (aI @C.b59_w @C.km_w)
def C.q35_B := aI @C.xr_b.eq_1 @C.km_b.eq_1

def C.yv_b : LO := [
 X.o 5 (.makeFunc F.q48 [X.s 3, X.s 2]),
 X.o 6 (.makeFunc F.q49 [X.s 3, X.s 2]),
 X.o 7 (.makeFunc F.q50 [X.s 3, X.s 2]),
 X.o 8 (.makeFunc F.q51 [X.s 3, X.s 2]),
 X.o 9 (.buildSlice 1 4 [.nilf] [(0, 1, X.s 5), (1, 1, X.s 6), (2, 1, X.s 7), (3, 1, X.s 8)]),
 X.o 10 (.call F.q61 [X.s 9]),
 X.m 4 10]
def C.yv : LO := C.yv_b
def C.yv_w := pO C.yv.eq_1
def C.b69 : ICode := .keep [2, 3] (.seq (.region C.yv) .ret)
def C.b69_w := pC C.b69.eq_1
def C.yt_b : LO := [
 X.o 2 (.boxN (X.s 0)),
 X.o 3 (.boxN (X.s 1)),
 X.o 4 (.move (X.i 0))]
def C.yt : LO := C.yt_b
def C.yt_w := pO C.yt.eq_1
def C.q47 : IFunc := ⟨2, [.slot 4], .seq (.region C.yt) C.b69⟩
def C.q47_W := aI @C.yv_w (aI @C.b69_w @C.yt_w)
def C.q47_B := aI @C.yv_b.eq_1 @C.yt_b.eq_1

def C.xt_b : LO := [
 X.o 2 (.loadN 4 (X.s 0)),
 X.o 3 (.call F.q40 [X.s 2]),
 X.o 4 (.call F.q46 [X.s 3]),
 X.m 1 4]
def C.xt : LO := C.xt_b
def C.xt_w := pO C.xt.eq_1
def C.b6b : ICode := .keep [0] (.seq (.region C.xt) .ret)
def C.b6b_w := pC C.b6b.eq_1
def C.xs_b : LO := [
 X.o 1 (.move (X.i 0))]
def C.xs : LO := C.xs_b
def C.xs_w := pO C.xs.eq_1
def C.q36 : IFunc := ⟨1, [.slot 1], .seq (.region C.xs) C.b6b⟩
def C.q36_W := aI @C.xt_w (aI @C.b6b_w @C.xs_w)
def C.q36_B := aI @C.xt_b.eq_1 @C.xs_b.eq_1

def C.k3_b : LO := [
 X.m 25 3,
 X.m 2 25]
def C.k3 : LO := C.k3_b
def C.k3_w := pO C.k3.eq_1
def C.bv2 : ICode := .keep [3] (.seq (.region C.k3) .ret)
def C.bv2_w := pC C.bv2.eq_1
def C.k2_b : LO := [
 X.o 24 (.bin .add (X.s 13) (X.i 1)),
 X.m 13 24]
def C.k2 : LO := C.k2_b
def C.k2_w := pO C.k2.eq_1
def C.bv4 : ICode := .keep [3, 11, 12, 13] (.region C.k2)
def C.bv4_w := pC C.bv4.eq_1
def C.yc_b : LO := [
 X.m 18 3,
 X.m 19 4,
 X.o 20 (.fldAddr 5 (X.s 5)),
 X.o 21 (.load1 (X.s 20)),
 X.o 22 (.call F.q70 [X.s 21]),
 X.o 23 (.idxAddr 1 (X.s 18) (X.s 19)),
 X.n (.store1 (X.s 23) (X.s 22))]
def C.yc : LO := C.yc_b
def C.yc_w := pO C.yc.eq_1
def C.b62 : ICode := .keep [3, 4, 5, 11, 12, 13] (.region C.yc)
def C.b62_w := pC C.b62.eq_1
def C.k1_b : LO := [
 X.m 15 13,
 X.o 16 (.idxAddr 6 (X.s 11) (X.s 13)),
 X.o 17 (.loadN 6 (X.s 16)),
 X.o 5 (.alloc [.int .i64 0, .int .i64 0, .int .i64 0, .int .u32 0, .nils, .nils]),
 X.m 4 15,
 X.n (.storeN 6 (X.s 5) (X.s 17))]
def C.k1 : LO := C.k1_b
def C.k1_w := pO C.k1.eq_1
def C.bv0 : ICode := .seq (.region C.k1) C.b62
def C.bv0_w := pC C.bv0.eq_1
def C.bv5 : ICode := .keep [3, 11, 12, 13] (.seq (.block 1 C.bv0) C.bv4)
def C.bv5_w := pC C.bv5.eq_1
def C.bv6 : ICode := .keep [3, 11, 12, 13, 14] (.seq (.cond (X.s 14) .skip (.exit 0)) C.bv5)
def C.bv6_w := pC C.bv6.eq_1
def C.k0_b : LO := [
 X.o 14 (.bin .lss (X.s 13) (X.s 12))]
def C.k0 : LO := C.k0_b
def C.k0_w := pO C.k0.eq_1
def C.cj6 : ICode := .keep [3, 11, 12, 13] (.seq (.region C.k0) C.bv6)
def C.cj6_w := pC C.cj6.eq_1
def C.bv1 : ICode := .loop C.cj6
def C.bv1_w := pC C.bv1.eq_1
def C.bv7 : ICode := .keep [3, 11, 12, 13] (.block 0 C.bv1)
def C.bv7_w := pC C.bv7.eq_1
def C.kz_b : LO := [
 X.o 10 (.fldAddr 3 (X.s 1)),
 X.o 11 (.load1 (X.s 10)),
 X.o 12 (.len (X.s 11)),
 X.o 13 (.move (X.i 0))]
def C.kz : LO := C.kz_b
def C.kz_w := pO C.kz.eq_1
def C.bv3 : ICode := .keep [1, 3] (.seq (.seq (.region C.kz) C.bv7) C.bv2)
def C.bv3_w := pC C.bv3.eq_1
def C.cs_b : LO := [
 X.o 6 (.fldAddr 3 (X.s 1)),
 X.o 7 (.load1 (X.s 6)),
 X.o 8 (.len (X.s 7)),
 X.o 9 (.makeSlice 1 24 [.nils] (X.s 8) (X.s 8)),
 X.m 3 9]
def C.cs : LO := C.cs_b
def C.cs_w := pO C.cs.eq_1
def C.blv : ICode := .keep [1] (.seq (.region C.cs) C.bv3)
def C.blv_w := pC C.blv.eq_1
def C.b0_b : LO := [
 X.o 1 (.boxN (X.s 0)),
 X.o 2 (.move (.cst (.nils)))]
def C.b0 : LO := C.b0_b
def C.b0_w := pO C.b0.eq_1
def C.q40 : IFunc := ⟨1, [.slot 2], .seq (.region C.b0) C.blv⟩
def C.q40_W := aI (aI (aI (aI @C.k3_w @C.bv2_w) (aI @C.k2_w @C.bv4_w)) (aI (aI @C.yc_w @C.b62_w) (aI @C.k1_w (aI @C.bv0_w @C.bv5_w)))) (aI (aI (aI @C.bv6_w @C.k0_w) (aI @C.bv1_w @C.bv7_w)) (aI (aI @C.kz_w @C.bv3_w) (aI @C.cs_w (aI @C.blv_w @C.b0_w))))
def C.q40_B := aI (aI (aI @C.k3_b.eq_1 @C.k2_b.eq_1) (aI @C.yc_b.eq_1 @C.k1_b.eq_1)) (aI (aI @C.k0_b.eq_1 @C.kz_b.eq_1) (aI @C.cs_b.eq_1 @C.b0_b.eq_1))

def C.p7_b : LO := [
 X.m 6 0,
 X.o 7 (.nilchk (X.s 6)),
 X.o 8 (.fldAddr 3 (X.s 7)),
 X.n (.store1 (X.s 8) (.cst (.bool false)))]
def C.p7 : LO := C.p7_b
def C.p7_w := pO C.p7.eq_1
def C.b05 : ICode := .keep [0] (.region C.p7)
def C.b05_w := pC C.b05.eq_1
def C.p6_b : LO := [
 X.m 4 0,
 X.o 5 (.call F.q115 [X.s 4, .fnc F.q107])]
def C.p6 : LO := C.p6_b
def C.p6_w := pO C.p6.eq_1
def C.b06 : ICode := .keep [0] (.seq (.region C.p6) C.b05)
def C.b06_w := pC C.b06.eq_1
def C.b07 : ICode := .keep [0, 3] (.cond (X.s 3) .ret .skip)
def C.b07_w := pC C.b07.eq_1
def C.p5_b : LO := [
 X.m 2 0,
 X.o 3 (.eqP 0 false (X.s 2) (.cst (.nilp)))]
def C.p5 : LO := C.p5_b
def C.p5_w := pO C.p5.eq_1
def C.q106 : IFunc := ⟨1, [], .seq (.seq (.region C.p5) C.b07) C.b06⟩
def C.q106_W := aI (aI @C.p7_w (aI @C.b05_w @C.p6_w)) (aI @C.b06_w (aI @C.b07_w @C.p5_w))
def C.q106_B := aI @C.p7_b.eq_1 (aI @C.p6_b.eq_1 @C.p5_b.eq_1)

def C.s1_b : LO := [
 X.o 4 (.move (X.i 0))]
def C.s1 : LO := C.s1_b
def C.s1_w := pO C.s1.eq_1
def C.b2r : ICode := .keep [] (.seq (.region C.s1) .ret)
def C.b2r_w := pC C.b2r.eq_1
def C.s0_b : LO := [
 X.m 19 0,
 X.o 20 (.nilchk (X.s 19)),
 X.o 21 (.fldAddr 0 (X.s 20)),
 X.o 22 (.load1 (X.s 21)),
 X.m 23 1,
 X.o 24 (.loadN 4 (X.s 5)),
 X.n (.mapSet (X.s 22) (X.s 23) (X.s 24))]
def C.s0 : LO := C.s0_b
def C.s0_w := pO C.s0.eq_1
def C.b2s : ICode := .keep [0, 1, 5] (.seq (.region C.s0) C.b2r)
def C.b2s_w := pC C.b2s.eq_1
def C.sz_b : LO := [
 X.o 18 (.fldAddr 3 (X.s 5)),
 X.n (.store1 (X.s 18) (.cst (.bool true)))]
def C.sz : LO := C.sz_b
def C.sz_w := pO C.sz.eq_1
def C.b2t : ICode := .keep [0, 1, 5] (.seq (.region C.sz) C.b2s)
def C.b2t_w := pC C.b2t.eq_1
def C.sq_b : LO := [
 X.o 4 (.move (X.i 6))]
def C.sq : LO := C.sq_b
def C.sq_w := pO C.sq.eq_1
def C.b2v : ICode := .seq (.region C.sq) .ret
def C.b2v_w := pC C.b2v.eq_1
def C.b2w : ICode := .keep [0, 1, 5, 17] (.cond (X.s 17) C.b2v .skip)
def C.b2w_w := pC C.b2w.eq_1
def C.sy_b : LO := [
 X.o 15 (.fldAddr 2 (X.s 5)),
 X.o 16 (.load1 (X.s 15)),
 X.o 17 (.un .not (X.s 16))]
def C.sy : LO := C.sy_b
def C.sy_w := pO C.sy.eq_1
def C.b2x : ICode := .keep [0, 1, 5] (.seq (.seq (.region C.sy) C.b2w) C.b2t)
def C.b2x_w := pC C.b2x.eq_1
def C.sx_b : LO := [
 X.o 4 (.move (X.i 4))]
def C.sx : LO := C.sx_b
def C.sx_w := pO C.sx.eq_1
def C.b2y : ICode := .seq (.region C.sx) .ret
def C.b2y_w := pC C.b2y.eq_1
def C.b2q : ICode := .keep [0, 1, 5, 14] (.cond (X.s 14) C.b2y .skip)
def C.b2q_w := pC C.b2q.eq_1
def C.sw_b : LO := [
 X.m 13 6,
 X.o 14 (.un .not (X.s 13))]
def C.sw : LO := C.sw_b
def C.sw_w := pO C.sw.eq_1
def C.b2z : ICode := .keep [0, 1, 5, 6] (.seq (.seq (.region C.sw) C.b2q) C.b2x)
def C.b2z_w := pC C.b2z.eq_1
def C.c3_b : LO := [
 X.m 8 0,
 X.m 9 1,
 X.o 10 (.call F.q122 [X.s 8, X.s 9]),
 X.m 7 10,
 X.o 11 (.extract (X.s 7) 0),
 X.o 12 (.extract (X.s 7) 1),
 X.o 5 (.alloc [.int .i64 0, .int .i64 0, .bool false, .bool false]),
 X.n (.storeN 4 (X.s 5) (X.s 11)),
 X.m 6 12]
def C.c3 : LO := C.c3_b
def C.c3_w := pO C.c3.eq_1
def C.bmm : ICode := .keep [0, 1] (.seq (.region C.c3) C.b2z)
def C.bmm_w := pC C.bmm.eq_1
def C.c2_b : LO := [
 X.o 4 (.move (X.i 0))]
def C.c2 : LO := C.c2_b
def C.c2_w := pO C.c2.eq_1
def C.q120 : IFunc := ⟨2, [.slot 4], .seq (.region C.c2) C.bmm⟩
def C.q120_W := aI (aI (aI (aI @C.s1_w @C.b2r_w) (aI @C.s0_w @C.b2s_w)) (aI (aI @C.sz_w @C.b2t_w) (aI @C.sq_w (aI @C.b2v_w @C.b2w_w)))) (aI (aI (aI @C.sy_w @C.b2x_w) (aI @C.sx_w (aI @C.b2y_w @C.b2q_w))) (aI (aI @C.sw_w @C.b2z_w) (aI @C.c3_w (aI @C.bmm_w @C.c2_w))))
def C.q120_B := aI (aI (aI @C.s1_b.eq_1 @C.s0_b.eq_1) (aI @C.sz_b.eq_1 @C.sq_b.eq_1)) (aI (aI @C.sy_b.eq_1 @C.sx_b.eq_1) (aI @C.sw_b.eq_1 (aI @C.c3_b.eq_1 @C.c2_b.eq_1)))

def C.bk0_b : LO := [
 X.o 4 (.move (X.i 0))]
def C.bk0 : LO := C.bk0_b
def C.bk0_w := pO C.bk0.eq_1
def C.ch7 : ICode := .keep [] (.seq (.region C.bk0) .ret)
def C.ch7_w := pC C.ch7.eq_1
def C.bkz_b : LO := [
 X.m 45 5,
 X.m 46 5,
 X.m 47 5,
 X.o 48 (.nilchk (X.s 47)),
 X.o 49 (.fldAddr 0 (X.s 48)),
 X.o 50 (.fldAddr 1 (X.s 49)),
 X.o 51 (.load1 (X.s 50)),
 X.o 52 (.nilchk (X.s 45)),
 X.o 53 (.fldAddr 3 (X.s 52)),
 X.n (.store1 (X.s 53) (.cst (.int .u8 114))),
 X.o 54 (.nilchk (X.s 46)),
 X.o 55 (.fldAddr 4 (X.s 54)),
 X.n (.store1 (X.s 55) (X.s 51))]
def C.bkz : LO := C.bkz_b
def C.bkz_w := pO C.bkz.eq_1
def C.ch8 : ICode := .keep [5] (.seq (.region C.bkz) C.ch7)
def C.ch8_w := pC C.ch8.eq_1
def C.ng_b : LO := [
 X.m 37 5,
 X.m 38 5,
 X.o 39 (.nilchk (X.s 38)),
 X.o 40 (.fldAddr 3 (X.s 39)),
 X.o 41 (.load1 (X.s 40)),
 X.o 42 (.bin .eql (X.s 41) (.cst (.int .u8 116))),
 X.o 43 (.nilchk (X.s 37)),
 X.o 44 (.fldAddr 5 (X.s 43)),
 X.n (.store1 (X.s 44) (X.s 42))]
def C.ng : LO := C.ng_b
def C.ng_w := pO C.ng.eq_1
def C.nv : ICode := .keep [5] (.seq (.region C.ng) C.ch8)
def C.nv_w := pC C.nv.eq_1
def C.nf_b : LO := [
 X.o 4 (.move (X.i 6))]
def C.nf : LO := C.nf_b
def C.nf_w := pO C.nf.eq_1
def C.bqq : ICode := .seq (.region C.nf) .ret
def C.bqq_w := pC C.bqq.eq_1
def C.bqz : ICode := .keep [5, 36] (.cond (X.s 36) C.bqq .skip)
def C.bqz_w := pC C.bqz.eq_1
def C.nd_b : LO := [
 X.m 11 5,
 X.o 12 (.call F.q101 [X.s 11]),
 X.o 13 (.un .not (X.s 12)),
 X.m 14 13,
 X.f 14 15 (.move (X.s 5)),
 X.f 14 16 (.nilchk (X.s 15)),
 X.f 14 17 (.fldAddr 0 (X.s 16)),
 X.f 14 18 (.fldAddr 0 (X.s 17)),
 X.f 14 19 (.load1 (X.s 18)),
 X.f 14 20 (.bin .neq (X.s 19) (X.i (-1))),
 X.f 14 21 (.move (X.s 20)),
 X.t 21 22 (.move (X.s 0)),
 X.t 21 23 (.nilchk (X.s 22)),
 X.t 21 24 (.fldAddr 0 (X.s 23)),
 X.t 21 25 (.load1 (X.s 24)),
 X.t 21 26 (.move (X.s 5)),
 X.t 21 27 (.nilchk (X.s 26)),
 X.t 21 28 (.fldAddr 0 (X.s 27)),
 X.t 21 29 (.fldAddr 0 (X.s 28)),
 X.t 21 30 (.load1 (X.s 29)),
 X.t 21 31 (.idxAddr 7 (X.s 25) (X.s 30)),
 X.t 21 32 (.fldAddr 3 (X.s 31)),
 X.t 21 33 (.load1 (X.s 32)),
 X.t 21 34 (.bin .neq (X.s 33) (.cst (.int .u8 49))),
 X.f 14 35 (.pick (X.s 21) (X.s 34) (.cst (.bool false))),
 X.o 36 (.pick (X.s 14) (.cst (.bool true)) (X.s 35))]
def C.nd : LO := C.nd_b
def C.nd_w := pO C.nd.eq_1
def C.bq0 : ICode := .keep [0, 5] (.seq (.seq (.region C.nd) C.bqz) C.nv)
def C.bq0_w := pC C.bq0.eq_1
def C.nc_b : LO := [
 X.o 4 (.move (X.i 4))]
def C.nc : LO := C.nc_b
def C.nc_w := pO C.nc.eq_1
def C.bq1 : ICode := .seq (.region C.nc) .ret
def C.bq1_w := pC C.bq1.eq_1
def C.bq2 : ICode := .keep [0, 5, 10] (.cond (X.s 10) C.bq1 .skip)
def C.bq2_w := pC C.bq2.eq_1
def C.nb_b : LO := [
 X.m 9 5,
 X.o 10 (.eqP 0 false (X.s 9) (.cst (.nilp)))]
def C.nb : LO := C.nb_b
def C.nb_w := pO C.nb.eq_1
def C.bq3 : ICode := .keep [0, 5] (.seq (.seq (.region C.nb) C.bq2) C.bq0)
def C.bq3_w := pC C.bq3.eq_1
def C.m9_b : LO := [
 X.m 6 0,
 X.m 7 1,
 X.o 8 (.call F.q99 [X.s 6, X.s 7]),
 X.m 5 8]
def C.m9 : LO := C.m9_b
def C.m9_w := pO C.m9.eq_1
def C.bqy : ICode := .keep [0, 1] (.seq (.region C.m9) C.bq3)
def C.bqy_w := pC C.bqy.eq_1
def C.m8_b : LO := [
 X.o 4 (.move (X.i 0))]
def C.m8 : LO := C.m8_b
def C.m8_w := pO C.m8.eq_1
def C.q98 : IFunc := ⟨2, [.slot 4], .seq (.region C.m8) C.bqy⟩
def C.q98_W := aI (aI (aI (aI @C.bk0_w @C.ch7_w) (aI @C.bkz_w @C.ch8_w)) (aI (aI @C.ng_w @C.nv_w) (aI @C.nf_w (aI @C.bqq_w @C.bqz_w)))) (aI (aI (aI @C.nd_w @C.bq0_w) (aI @C.nc_w (aI @C.bq1_w @C.bq2_w))) (aI (aI @C.nb_w @C.bq3_w) (aI @C.m9_w (aI @C.bqy_w @C.m8_w))))
def C.q98_B := aI (aI (aI @C.bk0_b.eq_1 @C.bkz_b.eq_1) (aI @C.ng_b.eq_1 @C.nf_b.eq_1)) (aI (aI @C.nd_b.eq_1 @C.nc_b.eq_1) (aI @C.nb_b.eq_1 (aI @C.m9_b.eq_1 @C.m8_b.eq_1)))

def C.xq_b : LO := [
 X.o 66 (.loadN 4 (X.s 3)),
 X.n (.storeN 4 (X.s 2) (X.s 66))]
def C.xq : LO := C.xq_b
def C.xq_w := pO C.xq.eq_1
def C.b6j : ICode := .keep [2, 3] (.seq (.region C.xq) .ret)
def C.b6j_w := pC C.b6j.eq_1
def C.xy_b : LO := [
 X.o 65 (.bin .add (X.s 42) (X.i 1)),
 X.m 42 65]
def C.xy : LO := C.xy_b
def C.xy_w := pO C.xy.eq_1
def C.b6t : ICode := .keep [2, 3, 41, 42] (.region C.xy)
def C.b6t_w := pC C.b6t.eq_1
def C.xx_b : LO := [
 X.m 49 6,
 X.m 50 6,
 X.m 51 6,
 X.o 52 (.nilchk (X.s 51)),
 X.o 53 (.fldAddr 4 (X.s 52)),
 X.o 54 (.load1 (X.s 53)),
 X.m 56 6,
 X.o 57 (.nilchk (X.s 56)),
 X.o 58 (.fldAddr 5 (X.s 57)),
 X.o 59 (.load1 (X.s 58)),
 ⟨some 55, .call F.q68 [X.s 54], none, [⟨.load1 (X.s 58), 59, none⟩], []⟩,
 X.o 60 (.call F.q70 [X.s 59]),
 X.o 61 (.nilchk (X.s 49)),
 X.o 62 (.fldAddr 4 (X.s 61)),
 X.n (.store1 (X.s 62) (X.s 55)),
 X.o 63 (.nilchk (X.s 50)),
 X.o 64 (.fldAddr 5 (X.s 63)),
 X.n (.store1 (X.s 64) (X.s 60))]
def C.xx : LO := C.xx_b
def C.xx_w := pO C.xx.eq_1
def C.b6w : ICode := .keep [2, 3, 6, 41, 42] (.region C.xx)
def C.b6w_w := pC C.b6w.eq_1
def C.xw_b : LO := [
 X.o 45 (.fldAddr 3 (X.s 3)),
 X.o 46 (.load1 (X.s 45)),
 X.m 47 5,
 X.o 48 (.idxAddr 6 (X.s 46) (X.s 47)),
 X.m 6 48]
def C.xw : LO := C.xw_b
def C.xw_w := pO C.xw.eq_1
def C.b6x : ICode := .keep [2, 3, 5, 41, 42] (.seq (.region C.xw) C.b6w)
def C.b6x_w := pC C.b6x.eq_1
def C.x6_b : LO := [
 X.m 44 42,
 X.m 5 44]
def C.x6 : LO := C.x6_b
def C.x6_w := pO C.x6.eq_1
def C.b6g : ICode := .seq (.region C.x6) C.b6x
def C.b6g_w := pC C.b6g.eq_1
def C.b6y : ICode := .keep [2, 3, 41, 42] (.seq (.block 3 C.b6g) C.b6t)
def C.b6y_w := pC C.b6y.eq_1
def C.b6q : ICode := .keep [2, 3, 41, 42, 43] (.seq (.cond (X.s 43) .skip (.exit 2)) C.b6y)
def C.b6q_w := pC C.b6q.eq_1
def C.x5_b : LO := [
 X.o 43 (.bin .lss (X.s 42) (X.s 41))]
def C.x5 : LO := C.x5_b
def C.x5_w := pO C.x5.eq_1
def C.cj4 : ICode := .keep [2, 3, 41, 42] (.seq (.region C.x5) C.b6q)
def C.cj4_w := pC C.cj4.eq_1
def C.b6h : ICode := .loop C.cj4
def C.b6h_w := pC C.b6h.eq_1
def C.b6k : ICode := .keep [2, 3, 41, 42] (.block 2 C.b6h)
def C.b6k_w := pC C.b6k.eq_1
def C.x4_b : LO := [
 X.o 39 (.fldAddr 3 (X.s 3)),
 X.o 40 (.load1 (X.s 39)),
 X.o 41 (.len (X.s 40)),
 X.o 42 (.move (X.i 0))]
def C.x4 : LO := C.x4_b
def C.x4_w := pO C.x4.eq_1
def C.b6l : ICode := .keep [2, 3] (.seq (.seq (.region C.x4) C.b6k) C.b6j)
def C.b6l_w := pC C.b6l.eq_1
def C.x3_b : LO := [
 X.o 38 (.bin .add (X.s 23) (X.i 1)),
 X.m 23 38]
def C.x3 : LO := C.x3_b
def C.x3_w := pO C.x3.eq_1
def C.b6m : ICode := .keep [2, 3, 22, 23] (.region C.x3)
def C.b6m_w := pC C.b6m.eq_1
def C.x2_b : LO := [
 X.o 26 (.fldAddr 0 (X.s 3)),
 X.o 27 (.load1 (X.s 26)),
 X.m 28 4,
 X.o 29 (.fldAddr 0 (X.s 3)),
 X.o 30 (.load1 (X.s 29)),
 X.m 31 4,
 X.o 32 (.idxAddr 6 (X.s 30) (X.s 31)),
 X.o 33 (.fldAddr 1 (X.s 32)),
 X.o 34 (.load1 (X.s 33)),
 ⟨some 35, .call F.q70 [X.s 34], none, [⟨.load1 (X.s 26), 27, none⟩], []⟩,
 X.o 36 (.idxAddr 6 (X.s 27) (X.s 28)),
 X.o 37 (.fldAddr 1 (X.s 36)),
 X.n (.store1 (X.s 37) (X.s 35))]
def C.x2 : LO := C.x2_b
def C.x2_w := pO C.x2.eq_1
def C.b6n : ICode := .keep [2, 3, 4, 22, 23] (.region C.x2)
def C.b6n_w := pC C.b6n.eq_1
def C.x1_b : LO := [
 X.m 25 23,
 X.m 4 25]
def C.x1 : LO := C.x1_b
def C.x1_w := pO C.x1.eq_1
def C.b6d : ICode := .seq (.region C.x1) C.b6n
def C.b6d_w := pC C.b6d.eq_1
def C.b6p : ICode := .keep [2, 3, 22, 23] (.seq (.block 1 C.b6d) C.b6m)
def C.b6p_w := pC C.b6p.eq_1
def C.b6r : ICode := .keep [2, 3, 22, 23, 24] (.seq (.cond (X.s 24) .skip (.exit 0)) C.b6p)
def C.b6r_w := pC C.b6r.eq_1
def C.x0_b : LO := [
 X.o 24 (.bin .lss (X.s 23) (X.s 22))]
def C.x0 : LO := C.x0_b
def C.x0_w := pO C.x0.eq_1
def C.cj3 : ICode := .keep [2, 3, 22, 23] (.seq (.region C.x0) C.b6r)
def C.cj3_w := pC C.cj3.eq_1
def C.b6f : ICode := .loop C.cj3
def C.b6f_w := pC C.b6f.eq_1
def C.b6s : ICode := .keep [2, 3, 22, 23] (.block 0 C.b6f)
def C.b6s_w := pC C.b6s.eq_1
def C.xz_b : LO := [
 X.o 20 (.fldAddr 0 (X.s 3)),
 X.o 21 (.load1 (X.s 20)),
 X.o 22 (.len (X.s 21)),
 X.o 23 (.move (X.i 0))]
def C.xz : LO := C.xz_b
def C.xz_w := pO C.xz.eq_1
def C.b6v : ICode := .keep [2, 3] (.seq (.seq (.region C.xz) C.b6s) C.b6l)
def C.b6v_w := pC C.b6v.eq_1
def C.cp_b : LO := [
 X.o 7 (.fldAddr 0 (X.s 1)),
 X.o 8 (.load1 (X.s 7)),
 X.o 10 (.fldAddr 1 (X.s 1)),
 X.o 11 (.load1 (X.s 10)),
 X.o 13 (.fldAddr 2 (X.s 1)),
 X.o 14 (.load1 (X.s 13)),
 X.o 16 (.fldAddr 3 (X.s 1)),
 X.o 17 (.load1 (X.s 16)),
 ⟨some 9, .call F.q65 [X.s 8], none, [⟨.load1 (X.s 10), 11, none⟩, ⟨.load1 (X.s 13), 14, none⟩, ⟨.load1 (X.s 16), 17, none⟩], []⟩,
 ⟨some 12, .call F.q67 [X.s 11], none, [⟨.load1 (X.s 13), 14, none⟩, ⟨.load1 (X.s 16), 17, none⟩], []⟩,
 ⟨some 15, .call F.q69 [X.s 14], none, [⟨.load1 (X.s 16), 17, none⟩], []⟩,
 X.o 18 (.call F.q66 [X.s 17]),
 X.o 19 (.build [.nils, .nils, .nils, .nils] [(0, 1, X.s 9), (1, 1, X.s 12), (2, 1, X.s 15), (3, 1, X.s 18)]),
 X.o 3 (.alloc [.nils, .nils, .nils, .nils]),
 X.n (.storeN 4 (X.s 3) (X.s 19))]
def C.cp : LO := C.cp_b
def C.cp_w := pO C.cp.eq_1
def C.bls : ICode := .keep [1, 2] (.seq (.region C.cp) C.b6v)
def C.bls_w := pC C.bls.eq_1
def C.bq_b : LO := [
 X.o 1 (.boxN (X.s 0)),
 X.o 2 (.alloc [.nils, .nils, .nils, .nils])]
def C.bq : LO := C.bq_b
def C.bq_w := pO C.bq.eq_1
def C.q38 : IFunc := ⟨1, [.cellN 2 4], .seq (.region C.bq) C.bls⟩
def C.q38_W := aI (aI (aI (aI (aI @C.xq_w @C.b6j_w) (aI @C.xy_w @C.b6t_w)) (aI (aI @C.xx_w @C.b6w_w) (aI @C.xw_w @C.b6x_w))) (aI (aI (aI @C.x6_w @C.b6g_w) (aI @C.b6y_w @C.b6q_w)) (aI (aI @C.x5_w @C.b6h_w) (aI @C.b6k_w @C.x4_w)))) (aI (aI (aI (aI @C.b6l_w @C.x3_w) (aI @C.b6m_w @C.x2_w)) (aI (aI @C.b6n_w @C.x1_w) (aI @C.b6d_w @C.b6p_w))) (aI (aI (aI @C.b6r_w @C.x0_w) (aI @C.b6f_w @C.b6s_w)) (aI (aI @C.xz_w @C.b6v_w) (aI @C.cp_w (aI @C.bls_w @C.bq_w)))))
def C.q38_B := aI (aI (aI @C.xq_b.eq_1 (aI @C.xy_b.eq_1 @C.xx_b.eq_1)) (aI (aI @C.xw_b.eq_1 @C.x6_b.eq_1) (aI @C.x5_b.eq_1 @C.x4_b.eq_1))) (aI (aI @C.x3_b.eq_1 (aI @C.x2_b.eq_1 @C.x1_b.eq_1)) (aI (aI @C.x0_b.eq_1 @C.xz_b.eq_1) (aI @C.cp_b.eq_1 @C.bq_b.eq_1)))

def C.th_b : LO := [
 X.o 5 (.buildSlice 2 0 [.int .u32 0, .bool false] []),
 X.m 6 0,
 X.o 7 (.append 2 8 (X.s 5) (X.s 6)),
 X.m 2 7]
def C.th : LO := C.th_b
def C.th_w := pO C.th.eq_1
def C.b3b : ICode := .keep [0] (.seq (.region C.th) .ret)
def C.b3b_w := pC C.b3b.eq_1
def C.tg_b : LO := [
 X.o 2 (.move (.cst (.nils)))]
def C.tg : LO := C.tg_b
def C.tg_w := pO C.tg.eq_1
def C.b3c : ICode := .seq (.region C.tg) .ret
def C.b3c_w := pC C.b3c.eq_1
def C.b3d : ICode := .keep [0, 4] (.cond (X.s 4) C.b3c .skip)
def C.b3d_w := pC C.b3d.eq_1
def C.tf_b : LO := [
 X.m 3 0,
 X.o 4 (.eqP 1 false (X.s 3) (.cst (.nils)))]
def C.tf : LO := C.tf_b
def C.tf_w := pO C.tf.eq_1
def C.b3f : ICode := .keep [0] (.seq (.seq (.region C.tf) C.b3d) C.b3b)
def C.b3f_w := pC C.b3f.eq_1
def C.td_b : LO := [
 X.o 2 (.move (.cst (.nils)))]
def C.td : LO := C.td_b
def C.td_w := pO C.td.eq_1
def C.q124 : IFunc := ⟨1, [.slot 2], .seq (.region C.td) C.b3f⟩
def C.q124_W := aI (aI (aI @C.th_w @C.b3b_w) (aI @C.tg_w @C.b3c_w)) (aI (aI @C.b3d_w @C.tf_w) (aI @C.b3f_w @C.td_w))
def C.q124_B := aI (aI @C.th_b.eq_1 @C.tg_b.eq_1) (aI @C.tf_b.eq_1 @C.td_b.eq_1)

def C.xd_b : LO := [
 X.o 22 (.makeFunc F.q3 [X.s 3]),
 X.m 4 22,
 X.o 5 (.move (.cst (.bool true)))]
def C.xd : LO := C.xd_b
def C.xd_w := pO C.xd.eq_1
def C.b50 : ICode := .keep [3] (.seq (.region C.xd) .ret)
def C.b50_w := pC C.b50.eq_1
def C.xc_b : LO := [
 X.o 4 (.move (.cst (.nilf))),
 X.o 5 (.move (.cst (.bool false)))]
def C.xc : LO := C.xc_b
def C.xc_w := pO C.xc.eq_1
def C.b51 : ICode := .seq (.region C.xc) .ret
def C.b51_w := pC C.b51.eq_1
def C.b52 : ICode := .keep [3, 21] (.cond (X.s 21) C.b51 .skip)
def C.b52_w := pC C.b52.eq_1
def C.xb_b : LO := [
 X.o 6 (.load1 (X.s 3)),
 X.o 7 (.bin .lss (X.s 6) (X.i 1)),
 X.m 8 7,
 X.f 8 9 (.load1 (X.s 3)),
 X.f 8 10 (.bin .gtr (X.s 9) (X.i 32)),
 X.o 11 (.pick (X.s 8) (.cst (.bool true)) (X.s 10)),
 X.m 12 11,
 X.f 12 13 (.move (X.s 0)),
 X.f 12 14 (.bin .lss (X.s 13) (X.i 0)),
 X.o 15 (.pick (X.s 12) (.cst (.bool true)) (X.s 14)),
 X.m 16 15,
 X.f 16 17 (.move (X.s 0)),
 X.f 16 18 (.load1 (X.s 3)),
 X.f 16 19 (.bin .sub (X.i 32) (X.s 18)),
 X.f 16 20 (.bin .gtr (X.s 17) (X.s 19)),
 X.o 21 (.pick (X.s 16) (.cst (.bool true)) (X.s 20))]
def C.xb : LO := C.xb_b
def C.xb_w := pO C.xb.eq_1
def C.b53 : ICode := .keep [0, 3] (.seq (.seq (.region C.xb) C.b52) C.b50)
def C.b53_w := pC C.b53.eq_1
def C.w9_b : LO := [
 X.o 3 (.box1 (X.s 1)),
 X.o 4 (.move (.cst (.nilf))),
 X.o 5 (.move (.cst (.bool false)))]
def C.w9 : LO := C.w9_b
def C.w9_w := pO C.w9.eq_1
def C.q2 : IFunc := ⟨2, [.slot 4, .slot 5], .seq (.region C.w9) C.b53⟩
def C.q2_W := aI (aI (aI @C.xd_w @C.b50_w) (aI @C.xc_w @C.b51_w)) (aI (aI @C.b52_w @C.xb_w) (aI @C.b53_w @C.w9_w))
def C.q2_B := aI (aI @C.xd_b.eq_1 @C.xc_b.eq_1) (aI @C.xb_b.eq_1 @C.w9_b.eq_1)

def C.sv_b : LO := [
 X.m 16 7,
 X.o 17 (.conv .i64 (X.s 16)),
 X.m 6 17]
def C.sv : LO := C.sv_b
def C.sv_w := pO C.sv.eq_1
def C.b2n : ICode := .keep [7] (.seq (.region C.sv) .ret)
def C.b2n_w := pC C.b2n.eq_1
def C.ss_b : LO := [
 X.m 10 0,
 X.m 11 1,
 X.m 12 2,
 X.o 13 (.call F.q0 [X.s 10, X.s 11, X.s 12]),
 X.m 9 13,
 X.o 14 (.extract (X.s 9) 0),
 X.o 15 (.extract (X.s 9) 1),
 X.m 7 14,
 X.m 8 15]
def C.ss : LO := C.ss_b
def C.ss_w := pO C.ss.eq_1
def C.b2p : ICode := .keep [0, 1, 2] (.seq (.region C.ss) C.b2n)
def C.b2p_w := pC C.b2p.eq_1
def C.sr_b : LO := [
 X.o 6 (.move (X.i 0))]
def C.sr : LO := C.sr_b
def C.sr_w := pO C.sr.eq_1
def C.q11 : IFunc := ⟨3, [.slot 6], .seq (.region C.sr) C.b2p⟩
def C.q11_W := aI (aI @C.sv_w @C.b2n_w) (aI @C.ss_w (aI @C.b2p_w @C.sr_w))
def C.q11_B := aI @C.sv_b.eq_1 (aI @C.ss_b.eq_1 @C.sr_b.eq_1)

def C.bjm_b : LO := [
 X.m 5 0,
 X.o 6 (.eqP 0 true (X.s 5) (.cst (.nilp))),
 X.m 7 6,
 X.t 7 8 (.move (X.s 1)),
 X.t 7 9 (.bin .geq (X.s 8) (X.i 0)),
 X.o 10 (.pick (X.s 7) (X.s 9) (.cst (.bool false))),
 X.m 11 10,
 X.t 11 12 (.move (X.s 1)),
 X.t 11 13 (.move (X.s 0)),
 X.t 11 14 (.nilchk (X.s 13)),
 X.t 11 15 (.fldAddr 0 (X.s 14)),
 X.t 11 16 (.load1 (X.s 15)),
 X.t 11 17 (.len (X.s 16)),
 X.t 11 18 (.bin .lss (X.s 12) (X.s 17)),
 X.o 19 (.pick (X.s 11) (X.s 18) (.cst (.bool false))),
 X.m 4 19]
def C.bjm : LO := C.bjm_b
def C.bjm_w := pO C.bjm.eq_1
def C.cgt : ICode := .keep [0, 1] (.seq (.region C.bjm) .ret)
def C.cgt_w := pC C.cgt.eq_1
def C.bjl_b : LO := [
 X.o 4 (.move (.cst (.bool false)))]
def C.bjl : LO := C.bjl_b
def C.bjl_w := pO C.bjl.eq_1
def C.q8 : IFunc := ⟨2, [.slot 4], .seq (.region C.bjl) C.cgt⟩
def C.q8_W := aI @C.bjm_w (aI @C.cgt_w @C.bjl_w)
def C.q8_B := aI @C.bjm_b.eq_1 @C.bjl_b.eq_1

def C.bdx_b : LO := [
 X.m 42 6,
 X.o 43 (.idxAddr 4 (X.s 42) (X.i 0)),
 X.o 44 (.loadN 4 (X.s 43)),
 X.n (.storeN 4 (X.s 4) (X.s 44)),
 X.o 5 (.move (.cst (.bool true)))]
def C.bdx : LO := C.bdx_b
def C.bdx_w := pO C.bdx.eq_1
def C.cbb : ICode := .keep [4, 6] (.seq (.region C.bdx) .ret)
def C.cbb_w := pC C.cbb.eq_1
def C.bdw_b : LO := [
 X.m 30 0,
 X.o 31 (.nilchk (X.s 30)),
 X.o 32 (.fldAddr 1 (X.s 31)),
 X.o 33 (.load1 (X.s 32)),
 X.m 34 1,
 X.m 35 6,
 X.m 36 6,
 X.o 37 (.len (X.s 36)),
 X.m 38 6,
 X.o 39 (.len (X.s 38)),
 X.o 40 (.slice 4 (X.s 35) (some (X.i 1)) (some (X.s 37)) (some (X.s 39))),
 X.o 41 (.idxAddr 1 (X.s 33) (X.s 34)),
 X.n (.store1 (X.s 41) (X.s 40))]
def C.bdw : LO := C.bdw_b
def C.bdw_w := pO C.bdw.eq_1
def C.cbc : ICode := .keep [0, 1, 4, 6] (.seq (.region C.bdw) C.cbb)
def C.cbc_w := pC C.cbc.eq_1
def C.bdv_b : LO := [
 X.m 23 0,
 X.o 24 (.nilchk (X.s 23)),
 X.o 25 (.fldAddr 1 (X.s 24)),
 X.o 26 (.load1 (X.s 25)),
 X.m 27 1,
 X.o 28 (.idxAddr 1 (X.s 26) (X.s 27)),
 X.o 29 (.load1 (X.s 28)),
 X.m 6 29]
def C.bdv : LO := C.bdv_b
def C.bdv_w := pO C.bdv.eq_1
def C.cbd : ICode := .keep [0, 1, 4] (.seq (.region C.bdv) C.cbc)
def C.cbd_w := pC C.cbd.eq_1
def C.bdt_b : LO := [
 X.o 22 (.build [.int .i64 0, .bool false, .int .i64 0, .int .u32 0] []),
 X.n (.storeN 4 (X.s 4) (X.s 22)),
 X.o 5 (.move (.cst (.bool false)))]
def C.bdt : LO := C.bdt_b
def C.bdt_w := pO C.bdt.eq_1
def C.cbf : ICode := .seq (.region C.bdt) .ret
def C.cbf_w := pC C.cbf.eq_1
def C.cbg : ICode := .keep [0, 1, 4, 21] (.cond (X.s 21) C.cbf .skip)
def C.cbg_w := pC C.cbg.eq_1
def C.bds_b : LO := [
 X.m 7 0,
 X.m 8 1,
 X.o 9 (.call F.q8 [X.s 7, X.s 8]),
 X.o 10 (.un .not (X.s 9)),
 X.m 11 10,
 X.f 11 12 (.move (X.s 0)),
 X.f 11 13 (.nilchk (X.s 12)),
 X.f 11 14 (.fldAddr 1 (X.s 13)),
 X.f 11 15 (.load1 (X.s 14)),
 X.f 11 16 (.move (X.s 1)),
 X.f 11 17 (.idxAddr 1 (X.s 15) (X.s 16)),
 X.f 11 18 (.load1 (X.s 17)),
 X.f 11 19 (.len (X.s 18)),
 X.f 11 20 (.bin .eql (X.s 19) (X.i 0)),
 X.o 21 (.pick (X.s 11) (.cst (.bool true)) (X.s 20))]
def C.bds : LO := C.bds_b
def C.bds_w := pO C.bds.eq_1
def C.cbh : ICode := .keep [0, 1, 4] (.seq (.seq (.region C.bds) C.cbg) C.cbd)
def C.cbh_w := pC C.cbh.eq_1
def C.ct_b : LO := [
 X.o 4 (.alloc [.int .i64 0, .bool false, .int .i64 0, .int .u32 0]),
 X.o 5 (.move (.cst (.bool false)))]
def C.ct : LO := C.ct_b
def C.ct_w := pO C.ct.eq_1
def C.q6 : IFunc := ⟨2, [.cellN 4 4, .slot 5], .seq (.region C.ct) C.cbh⟩
def C.q6_W := aI (aI (aI @C.bdx_w (aI @C.cbb_w @C.bdw_w)) (aI @C.cbc_w (aI @C.bdv_w @C.cbd_w))) (aI (aI @C.bdt_w (aI @C.cbf_w @C.cbg_w)) (aI @C.bds_w (aI @C.cbh_w @C.ct_w)))
def C.q6_B := aI (aI @C.bdx_b.eq_1 (aI @C.bdw_b.eq_1 @C.bdv_b.eq_1)) (aI @C.bdt_b.eq_1 (aI @C.bds_b.eq_1 @C.ct_b.eq_1))

def C.rk_b : LO := [
 X.m 14 0,
 X.o 15 (.nilchk (X.s 14)),
 X.o 16 (.fldAddr 1 (X.s 15)),
 X.o 17 (.load1 (X.s 16)),
 X.m 18 1,
 X.o 19 (.idxAddr 1 (X.s 17) (X.s 18)),
 X.o 20 (.load1 (X.s 19)),
 X.m 4 20,
 X.o 5 (.move (X.i 0))]
def C.rk : LO := C.rk_b
def C.rk_w := pO C.rk.eq_1
def C.b1f : ICode := .keep [0, 1] (.seq (.region C.rk) .ret)
def C.b1f_w := pC C.b1f.eq_1
def C.rj_b : LO := [
 X.o 4 (.move (.cst (.int .u32 0))),
 X.o 5 (.move (X.i 4))]
def C.rj : LO := C.rj_b
def C.rj_w := pO C.rj.eq_1
def C.b1g : ICode := .seq (.region C.rj) .ret
def C.b1g_w := pC C.b1g.eq_1
def C.b1h : ICode := .keep [0, 1, 13] (.cond (X.s 13) C.b1g .skip)
def C.b1h_w := pC C.b1h.eq_1
def C.rh_b : LO := [
 X.m 6 1,
 X.o 7 (.bin .lss (X.s 6) (X.i 0)),
 X.m 8 7,
 X.f 8 9 (.move (X.s 1)),
 X.f 8 10 (.move (X.s 0)),
 X.f 8 11 (.call F.q108 [X.s 10]),
 X.f 8 12 (.bin .geq (X.s 9) (X.s 11)),
 X.o 13 (.pick (X.s 8) (.cst (.bool true)) (X.s 12))]
def C.rh : LO := C.rh_b
def C.rh_w := pO C.rh.eq_1
def C.b1j : ICode := .keep [0, 1] (.seq (.seq (.region C.rh) C.b1h) C.b1f)
def C.b1j_w := pC C.b1j.eq_1
def C.rg_b : LO := [
 X.o 4 (.move (.cst (.int .u32 0))),
 X.o 5 (.move (X.i 0))]
def C.rg : LO := C.rg_b
def C.rg_w := pO C.rg.eq_1
def C.q109 : IFunc := ⟨2, [.slot 4, .slot 5], .seq (.region C.rg) C.b1j⟩
def C.q109_W := aI (aI (aI @C.rk_w @C.b1f_w) (aI @C.rj_w @C.b1g_w)) (aI (aI @C.b1h_w @C.rh_w) (aI @C.b1j_w @C.rg_w))
def C.q109_B := aI (aI @C.rk_b.eq_1 @C.rj_b.eq_1) (aI @C.rh_b.eq_1 @C.rg_b.eq_1)

def C.r9_b : LO := [
 X.o 6 (.move (X.i 0))]
def C.r9 : LO := C.r9_b
def C.r9_w := pO C.r9.eq_1
def C.b13 : ICode := .keep [] (.seq (.region C.r9) .ret)
def C.b13_w := pC C.b13.eq_1
def C.r8_b : LO := [
 X.m 15 0,
 X.o 16 (.nilchk (X.s 15)),
 X.o 17 (.fldAddr 1 (X.s 16)),
 X.o 18 (.load1 (X.s 17)),
 X.m 19 1,
 X.m 20 2,
 X.o 21 (.idxAddr 1 (X.s 18) (X.s 19)),
 X.n (.store1 (X.s 21) (X.s 20))]
def C.r8 : LO := C.r8_b
def C.r8_w := pO C.r8.eq_1
def C.b14 : ICode := .keep [0, 1, 2] (.seq (.region C.r8) C.b13)
def C.b14_w := pC C.b14.eq_1
def C.r7_b : LO := [
 X.o 6 (.move (X.i 4))]
def C.r7 : LO := C.r7_b
def C.r7_w := pO C.r7.eq_1
def C.b15 : ICode := .seq (.region C.r7) .ret
def C.b15_w := pC C.b15.eq_1
def C.b16 : ICode := .keep [0, 1, 2, 14] (.cond (X.s 14) C.b15 .skip)
def C.b16_w := pC C.b16.eq_1
def C.r6_b : LO := [
 X.m 7 1,
 X.o 8 (.bin .lss (X.s 7) (X.i 0)),
 X.m 9 8,
 X.f 9 10 (.move (X.s 1)),
 X.f 9 11 (.move (X.s 0)),
 X.f 9 12 (.call F.q108 [X.s 11]),
 X.f 9 13 (.bin .geq (X.s 10) (X.s 12)),
 X.o 14 (.pick (X.s 9) (.cst (.bool true)) (X.s 13))]
def C.r6 : LO := C.r6_b
def C.r6_w := pO C.r6.eq_1
def C.b17 : ICode := .keep [0, 1, 2] (.seq (.seq (.region C.r6) C.b16) C.b14)
def C.b17_w := pC C.b17.eq_1
def C.r5_b : LO := [
 X.o 6 (.move (X.i 0))]
def C.r5 : LO := C.r5_b
def C.r5_w := pO C.r5.eq_1
def C.q114 : IFunc := ⟨3, [.slot 6], .seq (.region C.r5) C.b17⟩
def C.q114_W := aI (aI (aI @C.r9_w @C.b13_w) (aI @C.r8_w (aI @C.b14_w @C.r7_w))) (aI (aI @C.b15_w @C.b16_w) (aI @C.r6_w (aI @C.b17_w @C.r5_w)))
def C.q114_B := aI (aI @C.r9_b.eq_1 @C.r8_b.eq_1) (aI @C.r7_b.eq_1 (aI @C.r6_b.eq_1 @C.r5_b.eq_1))

def C.w0_b : LO := [
 X.m 19 5,
 X.o 20 (.nilchk (X.s 19)),
 X.o 21 (.fldAddr 0 (X.s 20)),
 X.o 22 (.fldAddr 1 (X.s 21)),
 X.o 23 (.load1 (X.s 22)),
 X.m 24 5,
 X.o 25 (.nilchk (X.s 24)),
 X.o 26 (.fldAddr 8 (X.s 25)),
 X.o 27 (.load1 (X.s 26)),
 X.o 28 (.idxAddr 1 (X.s 23) (X.s 27)),
 X.o 29 (.load1 (X.s 28)),
 X.m 4 29]
def C.w0 : LO := C.w0_b
def C.w0_w := pO C.w0.eq_1
def C.b5p : ICode := .keep [5] (.seq (.region C.w0) .ret)
def C.b5p_w := pC C.b5p.eq_1
def C.wz_b : LO := [
 X.o 4 (.move (X.i (-1)))]
def C.wz : LO := C.wz_b
def C.wz_w := pO C.wz.eq_1
def C.b5r : ICode := .seq (.region C.wz) .ret
def C.b5r_w := pC C.b5r.eq_1
def C.b5s : ICode := .keep [5, 18] (.cond (X.s 18) C.b5r .skip)
def C.b5s_w := pC C.b5s.eq_1
def C.wq_b : LO := [
 X.m 12 5,
 X.o 13 (.nilchk (X.s 12)),
 X.o 14 (.fldAddr 0 (X.s 13)),
 X.o 15 (.fldAddr 1 (X.s 14)),
 X.o 16 (.load1 (X.s 15)),
 X.o 17 (.len (X.s 16)),
 X.o 18 (.bin .eql (X.s 17) (X.i 0))]
def C.wq : LO := C.wq_b
def C.wq_w := pO C.wq.eq_1
def C.b5t : ICode := .keep [5] (.seq (.seq (.region C.wq) C.b5s) C.b5p)
def C.b5t_w := pC C.b5t.eq_1
def C.wy_b : LO := [
 X.m 6 0,
 X.o 7 (.nilchk (X.s 6)),
 X.o 8 (.fldAddr 0 (X.s 7)),
 X.o 9 (.load1 (X.s 8)),
 X.m 10 1,
 X.o 11 (.idxAddr 11 (X.s 9) (X.s 10)),
 X.m 5 11]
def C.wy : LO := C.wy_b
def C.wy_w := pO C.wy.eq_1
def C.b5v : ICode := .keep [0, 1] (.seq (.region C.wy) C.b5t)
def C.b5v_w := pC C.b5v.eq_1
def C.wx_b : LO := [
 X.o 4 (.move (X.i 0))]
def C.wx : LO := C.wx_b
def C.wx_w := pO C.wx.eq_1
def C.q24 : IFunc := ⟨2, [.slot 4], .seq (.region C.wx) C.b5v⟩
def C.q24_W := aI (aI (aI @C.w0_w @C.b5p_w) (aI @C.wz_w (aI @C.b5r_w @C.b5s_w))) (aI (aI @C.wq_w @C.b5t_w) (aI @C.wy_w (aI @C.b5v_w @C.wx_w)))
def C.q24_B := aI (aI @C.w0_b.eq_1 @C.wz_b.eq_1) (aI @C.wq_b.eq_1 (aI @C.wy_b.eq_1 @C.wx_b.eq_1))

def C.pg_b : LO := [
 X.o 2 (.move (.cst (.int .u8 0)))]
def C.pg : LO := C.pg_b
def C.pg_w := pO C.pg.eq_1
def C.bzx : ICode := .keep [] (.seq (.region C.pg) .ret)
def C.bzx_w := pC C.bzx.eq_1
def C.pr_b : LO := [
 X.o 2 (.move (.cst (.int .u8 110)))]
def C.pr : LO := C.pr_b
def C.pr_w := pO C.pr.eq_1
def C.bz7 : ICode := .keep [] (.seq (.region C.pr) .ret)
def C.bz7_w := pC C.bz7.eq_1
def C.pp_b : LO := [
 X.o 2 (.move (.cst (.int .u8 114)))]
def C.pp : LO := C.pp_b
def C.pp_w := pO C.pp.eq_1
def C.b0g : ICode := .seq (.region C.pp) .ret
def C.b0g_w := pC C.b0g.eq_1
def C.b0h : ICode := .keep [27] (.cond (X.s 27) C.b0g .skip)
def C.b0h_w := pC C.b0h.eq_1
def C.pn_b : LO := [
 X.m 24 0,
 X.o 25 (.nilchk (X.s 24)),
 X.o 26 (.fldAddr 5 (X.s 25)),
 X.o 27 (.load1 (X.s 26))]
def C.pn : LO := C.pn_b
def C.pn_w := pO C.pn.eq_1
def C.b0j : ICode := .keep [0] (.seq (.seq (.region C.pn) C.b0h) C.bz7)
def C.b0j_w := pC C.b0j.eq_1
def C.pm_b : LO := [
 X.m 21 0,
 X.o 22 (.nilchk (X.s 21)),
 X.o 23 (.fldAddr 3 (X.s 22)),
 X.n (.store1 (X.s 23) (.cst (.int .u8 104)))]
def C.pm : LO := C.pm_b
def C.pm_w := pO C.pm.eq_1
def C.b0k : ICode := .keep [0] (.seq (.region C.pm) C.b0j)
def C.b0k_w := pC C.b0k.eq_1
def C.pl_b : LO := [
 X.o 2 (.move (.cst (.int .u8 0)))]
def C.pl : LO := C.pl_b
def C.pl_w := pO C.pl.eq_1
def C.b0l : ICode := .keep [] (.seq (.region C.pl) .ret)
def C.b0l_w := pC C.b0l.eq_1
def C.pk_b : LO := [
 X.m 14 0,
 X.o 15 (.nilchk (X.s 14)),
 X.o 16 (.fldAddr 4 (X.s 15)),
 X.o 17 (.load1 (X.s 16)),
 X.o 18 (.bin .sub (X.s 17) (X.i 1)),
 X.o 19 (.nilchk (X.s 14)),
 X.o 20 (.fldAddr 4 (X.s 19)),
 X.n (.store1 (X.s 20) (X.s 18))]
def C.pk : LO := C.pk_b
def C.pk_w := pO C.pk.eq_1
def C.b0m : ICode := .seq (.region C.pk) C.b0l
def C.b0m_w := pC C.b0m.eq_1
def C.b0n : ICode := .keep [0, 13] (.cond (X.s 13) C.b0m .skip)
def C.b0n_w := pC C.b0n.eq_1
def C.pj_b : LO := [
 X.m 9 0,
 X.o 10 (.nilchk (X.s 9)),
 X.o 11 (.fldAddr 4 (X.s 10)),
 X.o 12 (.load1 (X.s 11)),
 X.o 13 (.bin .gtr (X.s 12) (X.i 0))]
def C.pj : LO := C.pj_b
def C.pj_w := pO C.pj.eq_1
def C.n7_b : LO := [
 X.o 2 (.move (.cst (.int .u8 111)))]
def C.n7 : LO := C.n7_b
def C.n7_w := pO C.n7.eq_1
def C.bzy : ICode := .keep [] (.seq (.region C.n7) .ret)
def C.bzy_w := pC C.bzy.eq_1
def C.n6_b : LO := [
 X.m 30 0,
 X.o 31 (.nilchk (X.s 30)),
 X.o 32 (.fldAddr 3 (X.s 31)),
 X.n (.store1 (X.s 32) (.cst (.int .u8 49)))]
def C.n6 : LO := C.n6_b
def C.n6_w := pO C.n6.eq_1
def C.pf_b : LO := [
 X.o 2 (.move (.cst (.int .u8 108)))]
def C.pf : LO := C.pf_b
def C.pf_w := pO C.pf.eq_1
def C.bzq : ICode := .keep [] (.seq (.region C.pf) .ret)
def C.bzq_w := pC C.bzq.eq_1
def C.pd_b : LO := [
 X.m 42 0,
 X.o 43 (.nilchk (X.s 42)),
 X.o 44 (.fldAddr 3 (X.s 43)),
 X.n (.store1 (X.s 44) (.cst (.int .u8 48)))]
def C.pd : LO := C.pd_b
def C.pd_w := pO C.pd.eq_1
def C.bzz : ICode := .keep [0] (.seq (.region C.pd) C.bzq)
def C.bzz_w := pC C.bzz.eq_1
def C.pc_b : LO := [
 X.o 2 (.move (.cst (.int .u8 115)))]
def C.pc : LO := C.pc_b
def C.pc_w := pO C.pc.eq_1
def C.bz0 : ICode := .keep [] (.seq (.region C.pc) .ret)
def C.bz0_w := pC C.bz0.eq_1
def C.pb_b : LO := [
 X.m 39 0,
 X.o 40 (.nilchk (X.s 39)),
 X.o 41 (.fldAddr 3 (X.s 40)),
 X.n (.store1 (X.s 41) (.cst (.int .u8 116)))]
def C.pb : LO := C.pb_b
def C.pb_w := pO C.pb.eq_1
def C.bz1 : ICode := .seq (.region C.pb) C.bz0
def C.bz1_w := pC C.bz1.eq_1
def C.bz2 : ICode := .keep [0, 38] (.cond (X.s 38) C.bz1 .skip)
def C.bz2_w := pC C.bz2.eq_1
def C.n9_b : LO := [
 X.m 35 0,
 X.o 36 (.nilchk (X.s 35)),
 X.o 37 (.fldAddr 6 (X.s 36)),
 X.o 38 (.load1 (X.s 37))]
def C.n9 : LO := C.n9_b
def C.n9_w := pO C.n9.eq_1
def C.bz3 : ICode := .seq (.seq (.region C.n9) C.bz2) C.bzz
def C.bz3_w := pC C.bz3.eq_1
def C.bz4 : ICode := .keep [0, 33] (.cond (X.s 33) C.bz3 .skip)
def C.bz4_w := pC C.bz4.eq_1
def C.n8_b : LO := [
 X.o 34 (.bin .eql (X.s 6) (.cst (.int .u8 99))),
 X.m 33 34]
def C.n8 : LO := C.n8_b
def C.n8_w := pO C.n8.eq_1
def C.bz5 : ICode := .seq (.region C.n6) C.bzy
def C.bz5_w := pC C.bz5.eq_1
def C.bz6 : ICode := .seq (.region C.n8) C.bz4
def C.bz6_w := pC C.bz6.eq_1
def C.bz8 : ICode := .keep [0, 6, 28] (.cond (X.s 28) C.bz5 C.bz6)
def C.bz8_w := pC C.bz8.eq_1
def C.n5_b : LO := [
 X.o 29 (.bin .eql (X.s 6) (.cst (.int .u8 104))),
 X.m 28 29]
def C.n5 : LO := C.n5_b
def C.n5_w := pO C.n5.eq_1
def C.bz9 : ICode := .seq (.seq (.region C.pj) C.b0n) C.b0k
def C.bz9_w := pC C.bz9.eq_1
def C.b0b : ICode := .seq (.region C.n5) C.bz8
def C.b0b_w := pC C.b0b.eq_1
def C.b0c : ICode := .keep [0, 6, 7] (.cond (X.s 7) C.bz9 C.b0b)
def C.b0c_w := pC C.b0c.eq_1
def C.ph_b : LO := [
 X.o 8 (.bin .eql (X.s 6) (.cst (.int .u8 114))),
 X.m 7 8]
def C.ph : LO := C.ph_b
def C.ph_w := pO C.ph.eq_1
def C.bzw : ICode := .seq (.region C.ph) C.b0c
def C.bzw_w := pC C.bzw.eq_1
def C.b0d : ICode := .keep [0, 6] (.block 0 C.bzw)
def C.b0d_w := pC C.b0d.eq_1
def C.n4_b : LO := [
 X.m 3 0,
 X.o 4 (.nilchk (X.s 3)),
 X.o 5 (.fldAddr 3 (X.s 4)),
 X.o 6 (.load1 (X.s 5))]
def C.n4 : LO := C.n4_b
def C.n4_w := pO C.n4.eq_1
def C.b0f : ICode := .keep [0] (.seq (.seq (.region C.n4) C.b0d) C.bzx)
def C.b0f_w := pC C.b0f.eq_1
def C.n3_b : LO := [
 X.o 2 (.move (.cst (.int .u8 0)))]
def C.n3 : LO := C.n3_b
def C.n3_w := pO C.n3.eq_1
def C.q102 : IFunc := ⟨1, [.slot 2], .seq (.region C.n3) C.b0f⟩
def C.q102_W := aI (aI (aI (aI (aI @C.pg_w @C.bzx_w) (aI @C.pr_w (aI @C.bz7_w @C.pp_w))) (aI (aI @C.b0g_w (aI @C.b0h_w @C.pn_w)) (aI @C.b0j_w (aI @C.pm_w @C.b0k_w)))) (aI (aI (aI @C.pl_w (aI @C.b0l_w @C.pk_w)) (aI @C.b0m_w (aI @C.b0n_w @C.pj_w))) (aI (aI @C.n7_w (aI @C.bzy_w @C.n6_w)) (aI @C.pf_w (aI @C.bzq_w @C.pd_w))))) (aI (aI (aI (aI @C.bzz_w @C.pc_w) (aI @C.bz0_w (aI @C.pb_w @C.bz1_w))) (aI (aI @C.bz2_w (aI @C.n9_w @C.bz3_w)) (aI @C.bz4_w (aI @C.n8_w @C.bz5_w)))) (aI (aI (aI @C.bz6_w (aI @C.bz8_w @C.n5_w)) (aI @C.bz9_w (aI @C.b0b_w @C.b0c_w))) (aI (aI @C.ph_w (aI @C.bzw_w @C.b0d_w)) (aI @C.n4_w (aI @C.b0f_w @C.n3_w)))))
def C.q102_B := aI (aI (aI (aI @C.pg_b.eq_1 @C.pr_b.eq_1) (aI @C.pp_b.eq_1 (aI @C.pn_b.eq_1 @C.pm_b.eq_1))) (aI (aI @C.pl_b.eq_1 @C.pk_b.eq_1) (aI @C.pj_b.eq_1 (aI @C.n7_b.eq_1 @C.n6_b.eq_1)))) (aI (aI (aI @C.pf_b.eq_1 @C.pd_b.eq_1) (aI @C.pc_b.eq_1 (aI @C.pb_b.eq_1 @C.n9_b.eq_1))) (aI (aI @C.n8_b.eq_1 @C.n5_b.eq_1) (aI @C.ph_b.eq_1 (aI @C.n4_b.eq_1 @C.n3_b.eq_1))))

def C.r1_b : LO := [
 X.o 7 (.load1 (X.s 1)),
 X.o 8 (.nilchk (X.s 7)),
 X.o 9 (.fldAddr 3 (X.s 8)),
 X.n (.store1 (X.s 9) (.cst (.bool true)))]
def C.r1 : LO := C.r1_b
def C.r1_w := pO C.r1.eq_1
def C.b1y : ICode := .keep [1] (.region C.r1)
def C.b1y_w := pC C.b1y.eq_1
def C.r0_b : LO := [
 X.o 4 (.load1 (X.s 1)),
 X.o 5 (.makeFunc F.q113 [X.s 1]),
 X.o 6 (.call F.q117 [X.s 4, X.s 5])]
def C.r0 : LO := C.r0_b
def C.r0_w := pO C.r0.eq_1
def C.b1q : ICode := .keep [1] (.seq (.region C.r0) C.b1y)
def C.b1q_w := pC C.b1q.eq_1
def C.b1z : ICode := .keep [1, 3] (.cond (X.s 3) .ret .skip)
def C.b1z_w := pC C.b1z.eq_1
def C.rz_b : LO := [
 X.o 2 (.load1 (X.s 1)),
 X.o 3 (.eqP 0 false (X.s 2) (.cst (.nilp)))]
def C.rz : LO := C.rz_b
def C.rz_w := pO C.rz.eq_1
def C.b10 : ICode := .keep [1] (.seq (.seq (.region C.rz) C.b1z) C.b1q)
def C.b10_w := pC C.b10.eq_1
def C.rq_b : LO := [
 X.o 1 (.box1 (X.s 0))]
def C.rq : LO := C.rq_b
def C.rq_w := pO C.rq.eq_1
def C.q112 : IFunc := ⟨1, [], .seq (.region C.rq) C.b10⟩
def C.q112_W := aI (aI (aI @C.r1_w @C.b1y_w) (aI @C.r0_w @C.b1q_w)) (aI (aI @C.b1z_w @C.rz_w) (aI @C.b10_w @C.rq_w))
def C.q112_B := aI (aI @C.r1_b.eq_1 @C.r0_b.eq_1) (aI @C.rz_b.eq_1 @C.rq_b.eq_1)

def C.rt_b : LO := [
 X.o 4 (.load1 (X.s 1)),
 X.o 5 (.makeFunc F.q111 [X.s 1]),
 X.o 6 (.call F.q115 [X.s 4, X.s 5])]
def C.rt : LO := C.rt_b
def C.rt_w := pO C.rt.eq_1
def C.b1p : ICode := .keep [1] (.region C.rt)
def C.b1p_w := pC C.b1p.eq_1
def C.b1r : ICode := .keep [1, 3] (.cond (X.s 3) .ret .skip)
def C.b1r_w := pC C.b1r.eq_1
def C.rs_b : LO := [
 X.o 2 (.load1 (X.s 1)),
 X.o 3 (.eqP 0 false (X.s 2) (.cst (.nilp)))]
def C.rs : LO := C.rs_b
def C.rs_w := pO C.rs.eq_1
def C.b1s : ICode := .keep [1] (.seq (.seq (.region C.rs) C.b1r) C.b1p)
def C.b1s_w := pC C.b1s.eq_1
def C.rr_b : LO := [
 X.o 1 (.box1 (X.s 0))]
def C.rr : LO := C.rr_b
def C.rr_w := pO C.rr.eq_1
def C.q110 : IFunc := ⟨1, [], .seq (.region C.rr) C.b1s⟩
def C.q110_W := aI (aI @C.rt_w (aI @C.b1p_w @C.b1r_w)) (aI @C.rs_w (aI @C.b1s_w @C.rr_w))
def C.q110_B := aI @C.rt_b.eq_1 (aI @C.rs_b.eq_1 @C.rr_b.eq_1)

def C.ww_b : LO := [
 X.m 20 0,
 X.o 21 (.nilchk (X.s 20)),
 X.o 22 (.fldAddr 0 (X.s 21)),
 X.o 23 (.load1 (X.s 22)),
 X.m 24 1,
 X.o 25 (.idxAddr 11 (X.s 23) (X.s 24)),
 X.m 4 25]
def C.ww : LO := C.ww_b
def C.ww_w := pO C.ww.eq_1
def C.b5k : ICode := .keep [0, 1] (.seq (.region C.ww) .ret)
def C.b5k_w := pC C.b5k.eq_1
def C.wv_b : LO := [
 X.o 4 (.move (.cst (.nilp)))]
def C.wv : LO := C.wv_b
def C.wv_w := pO C.wv.eq_1
def C.b5l : ICode := .seq (.region C.wv) .ret
def C.b5l_w := pC C.b5l.eq_1
def C.b5m : ICode := .keep [0, 1, 19] (.cond (X.s 19) C.b5l .skip)
def C.b5m_w := pC C.b5m.eq_1
def C.wt_b : LO := [
 X.m 5 0,
 X.o 6 (.eqP 0 false (X.s 5) (.cst (.nilp))),
 X.m 7 6,
 X.f 7 8 (.move (X.s 1)),
 X.f 7 9 (.bin .lss (X.s 8) (X.i 0)),
 X.o 10 (.pick (X.s 7) (.cst (.bool true)) (X.s 9)),
 X.m 11 10,
 X.f 11 12 (.move (X.s 1)),
 X.f 11 13 (.move (X.s 0)),
 X.f 11 14 (.nilchk (X.s 13)),
 X.f 11 15 (.fldAddr 0 (X.s 14)),
 X.f 11 16 (.load1 (X.s 15)),
 X.f 11 17 (.len (X.s 16)),
 X.f 11 18 (.bin .geq (X.s 12) (X.s 17)),
 X.o 19 (.pick (X.s 11) (.cst (.bool true)) (X.s 18))]
def C.wt : LO := C.wt_b
def C.wt_w := pO C.wt.eq_1
def C.b5n : ICode := .keep [0, 1] (.seq (.seq (.region C.wt) C.b5m) C.b5k)
def C.b5n_w := pC C.b5n.eq_1
def C.ws_b : LO := [
 X.o 4 (.move (.cst (.nilp)))]
def C.ws : LO := C.ws_b
def C.ws_w := pO C.ws.eq_1
def C.q23 : IFunc := ⟨2, [.slot 4], .seq (.region C.ws) C.b5n⟩
def C.q23_W := aI (aI (aI @C.ww_w @C.b5k_w) (aI @C.wv_w @C.b5l_w)) (aI (aI @C.b5m_w @C.wt_w) (aI @C.b5n_w @C.ws_w))
def C.q23_B := aI (aI @C.ww_b.eq_1 @C.wv_b.eq_1) (aI @C.wt_b.eq_1 @C.ws_b.eq_1)

def C.tl_b : LO := [
 X.m 10 2,
 X.o 11 (.bin .add (X.s 10) (X.i 1)),
 X.m 12 3,
 X.o 13 (.bin .sub (X.s 12) (X.i 1)),
 X.m 2 11,
 X.m 3 13]
def C.tl : LO := C.tl_b
def C.tl_w := pO C.tl.eq_1
def C.b3j : ICode := .keep [0, 2, 3] (.region C.tl)
def C.b3j_w := pC C.b3j.eq_1
def C.tm_b : LO := [
 X.m 14 0,
 X.m 15 2,
 X.m 16 0,
 X.m 17 3,
 X.m 18 0,
 X.m 19 3,
 X.o 20 (.idxAddr 1 (X.s 18) (X.s 19)),
 X.o 21 (.load1 (X.s 20)),
 X.m 22 0,
 X.m 23 2,
 X.o 24 (.idxAddr 1 (X.s 22) (X.s 23)),
 X.o 25 (.load1 (X.s 24)),
 X.o 26 (.idxAddr 1 (X.s 14) (X.s 15)),
 X.n (.store1 (X.s 26) (X.s 21)),
 X.o 27 (.idxAddr 1 (X.s 16) (X.s 17)),
 X.n (.store1 (X.s 27) (X.s 25))]
def C.tm : LO := C.tm_b
def C.tm_w := pO C.tm.eq_1
def C.b3g : ICode := .region C.tm
def C.b3g_w := pC C.b3g.eq_1
def C.b3k : ICode := .keep [0, 2, 3] (.seq (.block 1 C.b3g) C.b3j)
def C.b3k_w := pC C.b3k.eq_1
def C.b3l : ICode := .keep [0, 2, 3, 9] (.cond (X.s 9) .skip (.exit 0))
def C.b3l_w := pC C.b3l.eq_1
def C.tk_b : LO := [
 X.m 7 2,
 X.m 8 3,
 X.o 9 (.bin .lss (X.s 7) (X.s 8))]
def C.tk : LO := C.tk_b
def C.tk_w := pO C.tk.eq_1
def C.cjk : ICode := .keep [0, 2, 3] (.seq (.seq (.region C.tk) C.b3l) C.b3k)
def C.cjk_w := pC C.cjk.eq_1
def C.b3h : ICode := .loop C.cjk
def C.b3h_w := pC C.b3h.eq_1
def C.b3m : ICode := .keep [0, 2, 3] (.block 0 C.b3h)
def C.b3m_w := pC C.b3m.eq_1
def C.tj_b : LO := [
 X.m 4 0,
 X.o 5 (.len (X.s 4)),
 X.o 6 (.bin .sub (X.s 5) (X.i 1)),
 X.o 2 (.move (X.i 0)),
 X.m 3 6]
def C.tj : LO := C.tj_b
def C.tj_w := pO C.tj.eq_1
def C.q125 : IFunc := ⟨1, [], .seq (.region C.tj) C.b3m⟩
def C.q125_W := aI (aI (aI @C.tl_w @C.b3j_w) (aI @C.tm_w (aI @C.b3g_w @C.b3k_w))) (aI (aI @C.b3l_w @C.tk_w) (aI @C.b3h_w (aI @C.b3m_w @C.tj_w)))
def C.q125_B := aI (aI @C.tl_b.eq_1 @C.tm_b.eq_1) (aI @C.tk_b.eq_1 @C.tj_b.eq_1)

def C.wm_b : LO := [
 X.o 52 (.load1 (X.s 2)),
 X.o 53 (.load1 (X.s 1)),
 X.m 54 0,
 ⟨some 55, .call F.q24 [X.s 53, X.s 54], none, [⟨.load1 (X.s 2), 52, none⟩], []⟩,
 X.o 56 (.callv (X.s 52) [X.s 55]),
 X.m 4 56]
def C.wm : LO := C.wm_b
def C.wm_w := pO C.wm.eq_1
def C.b45 : ICode := .keep [0, 1, 2] (.seq (.region C.wm) .ret)
def C.b45_w := pC C.b45.eq_1
def C.wg_b : LO := [
 X.o 4 (.move (.cst (.bool true)))]
def C.wg : LO := C.wg_b
def C.wg_w := pO C.wg.eq_1
def C.wj_b : LO := [
 X.m 21 5,
 X.o 22 (.nilchk (X.s 21)),
 X.o 23 (.fldAddr 6 (X.s 22)),
 X.o 24 (.load1 (X.s 23)),
 X.m 25 24,
 X.t 25 26 (.move (X.s 5)),
 X.t 25 27 (.nilchk (X.s 26)),
 X.t 25 28 (.fldAddr 7 (X.s 27)),
 X.t 25 29 (.load1 (X.s 28)),
 X.t 25 30 (.bin .eql (X.s 29) (X.i 0)),
 X.o 31 (.pick (X.s 25) (X.s 30) (.cst (.bool false))),
 X.m 32 31,
 X.t 32 33 (.load1 (X.s 2)),
 X.t 32 34 (.load1 (X.s 1)),
 X.t 32 35 (.move (X.s 0)),
 ⟨some 36, .call F.q24 [X.s 34, X.s 35], some (32, true), [⟨.load1 (X.s 2), 33, some (32, true)⟩], []⟩,
 X.t 32 37 (.callv (X.s 33) [X.s 36]),
 X.o 38 (.pick (X.s 32) (X.s 37) (.cst (.bool false))),
 X.m 4 38]
def C.wj : LO := C.wj_b
def C.wj_w := pO C.wj.eq_1
def C.wl_b : LO := [
 X.m 41 5,
 X.o 42 (.nilchk (X.s 41)),
 X.o 43 (.fldAddr 6 (X.s 42)),
 X.o 44 (.load1 (X.s 43)),
 X.m 45 44,
 X.t 45 46 (.load1 (X.s 2)),
 X.t 45 47 (.load1 (X.s 1)),
 X.t 45 48 (.move (X.s 0)),
 ⟨some 49, .call F.q24 [X.s 47, X.s 48], some (45, true), [⟨.load1 (X.s 2), 46, some (45, true)⟩], []⟩,
 X.t 45 50 (.callv (X.s 46) [X.s 49]),
 X.o 51 (.pick (X.s 45) (X.s 50) (.cst (.bool false))),
 X.m 4 51]
def C.wl : LO := C.wl_b
def C.wl_w := pO C.wl.eq_1
def C.b49 : ICode := .seq (.region C.wl) .ret
def C.b49_w := pC C.b49.eq_1
def C.b5b : ICode := .keep [0, 1, 2, 5, 39] (.cond (X.s 39) C.b49 .skip)
def C.b5b_w := pC C.b5b.eq_1
def C.wk_b : LO := [
 X.o 40 (.bin .eql (X.s 16) (.cst (.int .u8 103))),
 X.m 39 40]
def C.wk : LO := C.wk_b
def C.wk_w := pO C.wk.eq_1
def C.b5c : ICode := .seq (.region C.wj) .ret
def C.b5c_w := pC C.b5c.eq_1
def C.b5d : ICode := .seq (.region C.wk) C.b5b
def C.b5d_w := pC C.b5d.eq_1
def C.b5f : ICode := .keep [0, 1, 2, 5, 16, 19] (.cond (X.s 19) C.b5c C.b5d)
def C.b5f_w := pC C.b5f.eq_1
def C.wh_b : LO := [
 X.o 20 (.bin .eql (X.s 16) (.cst (.int .u8 112))),
 X.m 19 20]
def C.wh : LO := C.wh_b
def C.wh_w := pO C.wh.eq_1
def C.b5g : ICode := .seq (.region C.wg) .ret
def C.b5g_w := pC C.b5g.eq_1
def C.b5h : ICode := .seq (.region C.wh) C.b5f
def C.b5h_w := pC C.b5h.eq_1
def C.b5j : ICode := .keep [0, 1, 2, 5, 16, 17] (.cond (X.s 17) C.b5g C.b5h)
def C.b5j_w := pC C.b5j.eq_1
def C.wf_b : LO := [
 X.o 18 (.bin .eql (X.s 16) (.cst (.int .u8 111))),
 X.m 17 18]
def C.wf : LO := C.wf_b
def C.wf_w := pO C.wf.eq_1
def C.b44 : ICode := .seq (.region C.wf) C.b5j
def C.b44_w := pC C.b44.eq_1
def C.b46 : ICode := .keep [0, 1, 2, 5, 16] (.block 0 C.b44)
def C.b46_w := pC C.b46.eq_1
def C.wd_b : LO := [
 X.m 12 5,
 X.o 13 (.nilchk (X.s 12)),
 X.o 14 (.fldAddr 0 (X.s 13)),
 X.o 15 (.fldAddr 0 (X.s 14)),
 X.o 16 (.load1 (X.s 15))]
def C.wd : LO := C.wd_b
def C.wd_w := pO C.wd.eq_1
def C.b47 : ICode := .keep [0, 1, 2, 5] (.seq (.seq (.region C.wd) C.b46) C.b45)
def C.b47_w := pC C.b47.eq_1
def C.wc_b : LO := [
 X.o 6 (.load1 (X.s 1)),
 X.o 7 (.nilchk (X.s 6)),
 X.o 8 (.fldAddr 0 (X.s 7)),
 X.o 9 (.load1 (X.s 8)),
 X.m 10 0,
 X.o 11 (.idxAddr 11 (X.s 9) (X.s 10)),
 X.m 5 11]
def C.wc : LO := C.wc_b
def C.wc_w := pO C.wc.eq_1
def C.b48 : ICode := .keep [0, 1, 2] (.seq (.region C.wc) C.b47)
def C.b48_w := pC C.b48.eq_1
def C.wb_b : LO := [
 X.o 4 (.move (.cst (.bool false)))]
def C.wb : LO := C.wb_b
def C.wb_w := pO C.wb.eq_1
def C.q21 : IFunc := ⟨3, [.slot 4], .seq (.region C.wb) C.b48⟩
def C.q21_W := aI (aI (aI (aI @C.wm_w @C.b45_w) (aI @C.wg_w (aI @C.wj_w @C.wl_w))) (aI (aI @C.b49_w (aI @C.b5b_w @C.wk_w)) (aI @C.b5c_w (aI @C.b5d_w @C.b5f_w)))) (aI (aI (aI @C.wh_w (aI @C.b5g_w @C.b5h_w)) (aI @C.b5j_w (aI @C.wf_w @C.b44_w))) (aI (aI @C.b46_w (aI @C.wd_w @C.b47_w)) (aI @C.wc_w (aI @C.b48_w @C.wb_w))))
def C.q21_B := aI (aI (aI @C.wm_b.eq_1 @C.wg_b.eq_1) (aI @C.wj_b.eq_1 (aI @C.wl_b.eq_1 @C.wk_b.eq_1))) (aI (aI @C.wh_b.eq_1 @C.wf_b.eq_1) (aI @C.wd_b.eq_1 (aI @C.wc_b.eq_1 @C.wb_b.eq_1)))

def C.bk4_b : LO := [
 X.m 20 0,
 X.o 21 (.nilchk (X.s 20)),
 X.o 22 (.fldAddr 0 (X.s 21)),
 X.o 23 (.load1 (X.s 22)),
 X.m 24 1,
 X.o 25 (.idxAddr 7 (X.s 23) (X.s 24)),
 X.m 4 25]
def C.bk4 : LO := C.bk4_b
def C.bk4_w := pO C.bk4.eq_1
def C.ch9 : ICode := .keep [0, 1] (.seq (.region C.bk4) .ret)
def C.ch9_w := pC C.ch9.eq_1
def C.bk3_b : LO := [
 X.o 4 (.move (.cst (.nilp)))]
def C.bk3 : LO := C.bk3_b
def C.bk3_w := pO C.bk3.eq_1
def C.cjb : ICode := .seq (.region C.bk3) .ret
def C.cjb_w := pC C.cjb.eq_1
def C.cjc : ICode := .keep [0, 1, 19] (.cond (X.s 19) C.cjb .skip)
def C.cjc_w := pC C.cjc.eq_1
def C.bk2_b : LO := [
 X.m 5 0,
 X.o 6 (.eqP 0 false (X.s 5) (.cst (.nilp))),
 X.m 7 6,
 X.f 7 8 (.move (X.s 1)),
 X.f 7 9 (.bin .lss (X.s 8) (X.i 0)),
 X.o 10 (.pick (X.s 7) (.cst (.bool true)) (X.s 9)),
 X.m 11 10,
 X.f 11 12 (.move (X.s 1)),
 X.f 11 13 (.move (X.s 0)),
 X.f 11 14 (.nilchk (X.s 13)),
 X.f 11 15 (.fldAddr 0 (X.s 14)),
 X.f 11 16 (.load1 (X.s 15)),
 X.f 11 17 (.len (X.s 16)),
 X.f 11 18 (.bin .geq (X.s 12) (X.s 17)),
 X.o 19 (.pick (X.s 11) (.cst (.bool true)) (X.s 18))]
def C.bk2 : LO := C.bk2_b
def C.bk2_w := pO C.bk2.eq_1
def C.cjd : ICode := .keep [0, 1] (.seq (.seq (.region C.bk2) C.cjc) C.ch9)
def C.cjd_w := pC C.cjd.eq_1
def C.bk1_b : LO := [
 X.o 4 (.move (.cst (.nilp)))]
def C.bk1 : LO := C.bk1_b
def C.bk1_w := pO C.bk1.eq_1
def C.q99 : IFunc := ⟨2, [.slot 4], .seq (.region C.bk1) C.cjd⟩
def C.q99_W := aI (aI (aI @C.bk4_w @C.ch9_w) (aI @C.bk3_w @C.cjb_w)) (aI (aI @C.cjc_w @C.bk2_w) (aI @C.cjd_w @C.bk1_w))
def C.q99_B := aI (aI @C.bk4_b.eq_1 @C.bk3_b.eq_1) (aI @C.bk2_b.eq_1 @C.bk1_b.eq_1)

def C.tb_b : LO := [
 X.o 20 (.loadN 4 (X.s 6)),
 X.m 21 7,
 X.n (.storeN 4 (X.s 4) (X.s 20)),
 X.m 5 21]
def C.tb : LO := C.tb_b
def C.tb_w := pO C.tb.eq_1
def C.s9 : ICode := .keep [4, 6, 7] (.seq (.region C.tb) .ret)
def C.s9_w := pC C.s9.eq_1
def C.fv_b : LO := [
 X.m 12 0,
 X.o 13 (.nilchk (X.s 12)),
 X.o 14 (.fldAddr 0 (X.s 13)),
 X.o 15 (.load1 (X.s 14)),
 X.m 16 1,
 X.o 17 (.lookup (.agg [.int .i64 0, .int .i64 0, .bool false, .bool false]) true (X.s 15) (X.s 16)),
 X.m 11 17,
 X.o 18 (.extract (X.s 11) 0),
 X.o 19 (.extract (X.s 11) 1),
 X.o 6 (.alloc [.int .i64 0, .int .i64 0, .bool false, .bool false]),
 X.n (.storeN 4 (X.s 6) (X.s 18)),
 X.m 7 19]
def C.fv : LO := C.fv_b
def C.fv_w := pO C.fv.eq_1
def C.bm2 : ICode := .keep [0, 1, 4] (.seq (.region C.fv) C.s9)
def C.bm2_w := pC C.bm2.eq_1
def C.ft_b : LO := [
 X.o 10 (.build [.int .i64 0, .int .i64 0, .bool false, .bool false] []),
 X.n (.storeN 4 (X.s 4) (X.s 10)),
 X.o 5 (.move (.cst (.bool false)))]
def C.ft : LO := C.ft_b
def C.ft_w := pO C.ft.eq_1
def C.bm3 : ICode := .seq (.region C.ft) .ret
def C.bm3_w := pC C.bm3.eq_1
def C.bm4 : ICode := .keep [0, 1, 4, 9] (.cond (X.s 9) C.bm3 .skip)
def C.bm4_w := pC C.bm4.eq_1
def C.fs_b : LO := [
 X.m 8 0,
 X.o 9 (.eqP 0 false (X.s 8) (.cst (.nilp)))]
def C.fs : LO := C.fs_b
def C.fs_w := pO C.fs.eq_1
def C.bm5 : ICode := .keep [0, 1, 4] (.seq (.seq (.region C.fs) C.bm4) C.bm2)
def C.bm5_w := pC C.bm5.eq_1
def C.bj_b : LO := [
 X.o 4 (.alloc [.int .i64 0, .int .i64 0, .bool false, .bool false]),
 X.o 5 (.move (.cst (.bool false)))]
def C.bj : LO := C.bj_b
def C.bj_w := pO C.bj.eq_1
def C.q122 : IFunc := ⟨2, [.cellN 4 4, .slot 5], .seq (.region C.bj) C.bm5⟩
def C.q122_W := aI (aI (aI @C.tb_w @C.s9_w) (aI @C.fv_w (aI @C.bm2_w @C.ft_w))) (aI (aI @C.bm3_w @C.bm4_w) (aI @C.fs_w (aI @C.bm5_w @C.bj_w)))
def C.q122_B := aI (aI @C.tb_b.eq_1 @C.fv_b.eq_1) (aI @C.ft_b.eq_1 (aI @C.fs_b.eq_1 @C.bj_b.eq_1))

def C.bc3_b : LO := [
 X.o 3 (.fldAddr 4 (X.s 1)),
 X.o 4 (.load1 (X.s 3)),
 X.o 5 (.len (X.s 4)),
 X.o 6 (.bin .gtr (X.s 5) (X.i 8)),
 X.m 7 6,
 X.f 7 8 (.fldAddr 5 (X.s 1)),
 X.f 7 9 (.load1 (X.s 8)),
 X.f 7 10 (.len (X.s 9)),
 X.f 7 11 (.bin .gtr (X.s 10) (X.i 6)),
 X.o 12 (.pick (X.s 7) (.cst (.bool true)) (X.s 11)),
 X.o 13 (.call F.q73 [X.s 12, X.i 8]),
 X.m 2 13]
def C.bc3 : LO := C.bc3_b
def C.bc3_w := pO C.bc3.eq_1
def C.b9s : ICode := .keep [1] (.seq (.region C.bc3) .ret)
def C.b9s_w := pC C.b9s.eq_1
def C.bc2_b : LO := [
 X.o 1 (.boxN (X.s 0)),
 X.o 2 (.move (X.i 0))]
def C.bc2 : LO := C.bc2_b
def C.bc2_w := pO C.bc2.eq_1
def C.q63 : IFunc := ⟨1, [.slot 2], .seq (.region C.bc2) C.b9s⟩
def C.q63_W := aI @C.bc3_w (aI @C.b9s_w @C.bc2_w)
def C.q63_B := aI @C.bc3_b.eq_1 @C.bc2_b.eq_1

def C.bfh_b : LO := [
 X.o 4 (.move (X.i 0))]
def C.bfh : LO := C.bfh_b
def C.bfh_w := pO C.bfh.eq_1
def C.cb2 : ICode := .keep [] (.seq (.region C.bfh) .ret)
def C.cb2_w := pC C.cb2.eq_1
def C.bfg_b : LO := [
 X.m 6 1,
 X.m 4 6]
def C.bfg : LO := C.bfg_b
def C.bfg_w := pO C.bfg.eq_1
def C.cb3 : ICode := .seq (.region C.bfg) .ret
def C.cb3_w := pC C.cb3.eq_1
def C.cb4 : ICode := .keep [1, 5] (.cond (X.s 5) C.cb3 .skip)
def C.cb4_w := pC C.cb4.eq_1
def C.bff_b : LO := [
 X.m 5 0]
def C.bff : LO := C.bff_b
def C.bff_w := pO C.bff.eq_1
def C.cb5 : ICode := .keep [0, 1] (.seq (.seq (.region C.bff) C.cb4) C.cb2)
def C.cb5_w := pC C.cb5.eq_1
def C.bfd_b : LO := [
 X.o 4 (.move (X.i 0))]
def C.bfd : LO := C.bfd_b
def C.bfd_w := pO C.bfd.eq_1
def C.q73 : IFunc := ⟨2, [.slot 4], .seq (.region C.bfd) C.cb5⟩
def C.q73_W := aI (aI (aI @C.bfh_w @C.cb2_w) (aI @C.bfg_w @C.cb3_w)) (aI (aI @C.cb4_w @C.bff_w) (aI @C.cb5_w @C.bfd_w))
def C.q73_B := aI (aI @C.bfh_b.eq_1 @C.bfg_b.eq_1) (aI @C.bff_b.eq_1 @C.bfd_b.eq_1)

def C.yh_b : LO := [
 X.o 2 (.loadN 6 (X.s 0)),
 X.o 3 (.call F.q72 [X.s 2]),
 X.o 4 (.un .not (X.s 3)),
 X.o 5 (.call F.q73 [X.s 4, X.i 1]),
 X.m 1 5]
def C.yh : LO := C.yh_b
def C.yh_w := pO C.yh.eq_1
def C.b64 : ICode := .keep [0] (.seq (.region C.yh) .ret)
def C.b64_w := pC C.b64.eq_1
def C.yg_b : LO := [
 X.o 1 (.move (X.i 0))]
def C.yg : LO := C.yg_b
def C.yg_w := pO C.yg.eq_1
def C.q42 : IFunc := ⟨1, [.slot 1], .seq (.region C.yg) C.b64⟩
def C.q42_W := aI @C.yh_w (aI @C.b64_w @C.yg_w)
def C.q42_B := aI @C.yh_b.eq_1 @C.yg_b.eq_1

def C.bd3_b : LO := [
 X.o 2 (.move (.cst (.bool false)))]
def C.bd3 : LO := C.bd3_b
def C.bd3_w := pO C.bd3.eq_1
def C.cbm : ICode := .keep [] (.seq (.region C.bd3) .ret)
def C.cbm_w := pC C.cbm.eq_1
def C.bd5_b : LO := [
 X.o 7 (.fldAddr 1 (X.s 1)),
 X.o 8 (.load1 (X.s 7)),
 X.o 9 (.len (X.s 8)),
 X.o 10 (.bin .eql (X.s 9) (X.i 0)),
 X.m 2 10]
def C.bd5 : LO := C.bd5_b
def C.bd5_w := pO C.bd5.eq_1
def C.bd9_b : LO := [
 X.o 15 (.fldAddr 1 (X.s 1)),
 X.o 16 (.load1 (X.s 15)),
 X.o 17 (.len (X.s 16)),
 X.o 18 (.bin .eql (X.s 17) (X.i 1)),
 X.m 2 18]
def C.bd9 : LO := C.bd9_b
def C.bd9_w := pO C.bd9.eq_1
def C.bfc_b : LO := [
 X.o 21 (.fldAddr 1 (X.s 1)),
 X.o 22 (.load1 (X.s 21)),
 X.o 23 (.len (X.s 22)),
 X.o 24 (.call F.q74 [X.s 23, X.i 1, X.i 4]),
 X.m 2 24]
def C.bfc : LO := C.bfc_b
def C.bfc_w := pO C.bfc.eq_1
def C.cbv : ICode := .seq (.region C.bfc) .ret
def C.cbv_w := pC C.cbv.eq_1
def C.cbw : ICode := .keep [1, 19] (.cond (X.s 19) C.cbv .skip)
def C.cbw_w := pC C.cbw.eq_1
def C.bfb_b : LO := [
 X.o 20 (.bin .eql (X.s 4) (.cst (.int .u8 109))),
 X.m 19 20]
def C.bfb : LO := C.bfb_b
def C.bfb_w := pO C.bfb.eq_1
def C.cbx : ICode := .seq (.region C.bd9) .ret
def C.cbx_w := pC C.cbx.eq_1
def C.cby : ICode := .seq (.region C.bfb) C.cbw
def C.cby_w := pC C.cby.eq_1
def C.cbq : ICode := .keep [1, 4, 11] (.cond (X.s 11) C.cbx C.cby)
def C.cbq_w := pC C.cbq.eq_1
def C.bd8_b : LO := [
 X.o 14 (.bin .eql (X.s 4) (.cst (.int .u8 103))),
 X.m 11 14]
def C.bd8 : LO := C.bd8_b
def C.bd8_w := pO C.bd8.eq_1
def C.cbz : ICode := .keep [1, 4, 11] (.cond (X.s 11) .skip (.region C.bd8))
def C.cbz_w := pC C.cbz.eq_1
def C.bd7_b : LO := [
 X.o 13 (.bin .eql (X.s 4) (.cst (.int .u8 100))),
 X.m 11 13]
def C.bd7 : LO := C.bd7_b
def C.bd7_w := pO C.bd7.eq_1
def C.cb0 : ICode := .seq (.region C.bd7) C.cbz
def C.cb0_w := pC C.cb0.eq_1
def C.cb1 : ICode := .keep [1, 4, 11] (.cond (X.s 11) .skip C.cb0)
def C.cb1_w := pC C.cb1.eq_1
def C.bd6_b : LO := [
 X.o 12 (.bin .eql (X.s 4) (.cst (.int .u8 112))),
 X.m 11 12]
def C.bd6 : LO := C.bd6_b
def C.bd6_w := pO C.bd6.eq_1
def C.cbn : ICode := .seq (.region C.bd5) .ret
def C.cbn_w := pC C.cbn.eq_1
def C.cbp : ICode := .seq (.seq (.region C.bd6) C.cb1) C.cbq
def C.cbp_w := pC C.cbp.eq_1
def C.cbr : ICode := .keep [1, 4, 5] (.cond (X.s 5) C.cbn C.cbp)
def C.cbr_w := pC C.cbr.eq_1
def C.bd4_b : LO := [
 X.o 6 (.bin .eql (X.s 4) (.cst (.int .u8 111))),
 X.m 5 6]
def C.bd4 : LO := C.bd4_b
def C.bd4_w := pO C.bd4.eq_1
def C.cbl : ICode := .seq (.region C.bd4) C.cbr
def C.cbl_w := pC C.cbl.eq_1
def C.cbs : ICode := .keep [1, 4] (.block 0 C.cbl)
def C.cbs_w := pC C.cbs.eq_1
def C.bd2_b : LO := [
 X.o 3 (.fldAddr 0 (X.s 1)),
 X.o 4 (.load1 (X.s 3))]
def C.bd2 : LO := C.bd2_b
def C.bd2_w := pO C.bd2.eq_1
def C.cbt : ICode := .keep [1] (.seq (.seq (.region C.bd2) C.cbs) C.cbm)
def C.cbt_w := pC C.cbt.eq_1
def C.bd1_b : LO := [
 X.o 1 (.boxN (X.s 0)),
 X.o 2 (.move (.cst (.bool false)))]
def C.bd1 : LO := C.bd1_b
def C.bd1_w := pO C.bd1.eq_1
def C.q72 : IFunc := ⟨1, [.slot 2], .seq (.region C.bd1) C.cbt⟩
def C.q72_W := aI (aI (aI (aI @C.bd3_w (aI @C.cbm_w @C.bd5_w)) (aI @C.bd9_w (aI @C.bfc_w @C.cbv_w))) (aI (aI @C.cbw_w (aI @C.bfb_w @C.cbx_w)) (aI (aI @C.cby_w @C.cbq_w) (aI @C.bd8_w @C.cbz_w)))) (aI (aI (aI @C.bd7_w (aI @C.cb0_w @C.cb1_w)) (aI @C.bd6_w (aI @C.cbn_w @C.cbp_w))) (aI (aI @C.cbr_w (aI @C.bd4_w @C.cbl_w)) (aI (aI @C.cbs_w @C.bd2_w) (aI @C.cbt_w @C.bd1_w))))
def C.q72_B := aI (aI (aI @C.bd3_b.eq_1 @C.bd5_b.eq_1) (aI @C.bd9_b.eq_1 (aI @C.bfc_b.eq_1 @C.bfb_b.eq_1))) (aI (aI @C.bd8_b.eq_1 (aI @C.bd7_b.eq_1 @C.bd6_b.eq_1)) (aI @C.bd4_b.eq_1 (aI @C.bd2_b.eq_1 @C.bd1_b.eq_1)))

def C.yk_b : LO := [
 X.o 3 (.fldAddr 1 (X.s 0)),
 X.o 4 (.load1 (X.s 3)),
 X.o 5 (.makeFunc F.q44 [X.s 1]),
 X.o 6 (.call F.q60 [X.s 4, X.s 5]),
 X.m 2 6]
def C.yk : LO := C.yk_b
def C.yk_w := pO C.yk.eq_1
def C.b65 : ICode := .keep [0, 1] (.seq (.region C.yk) .ret)
def C.b65_w := pC C.b65.eq_1
def C.yj_b : LO := [
 X.o 2 (.move (X.i 0))]
def C.yj : LO := C.yj_b
def C.yj_w := pO C.yj.eq_1
def C.q43 : IFunc := ⟨2, [.slot 2], .seq (.region C.yj) C.b65⟩
def C.q43_W := aI @C.yk_w (aI @C.b65_w @C.yj_w)
def C.q43_B := aI @C.yk_b.eq_1 @C.yj_b.eq_1

def C.bcn_b : LO := [
 X.o 4 (.move (X.i 0))]
def C.bcn : LO := C.bcn_b
def C.bcn_w := pO C.bcn.eq_1
def C.b8y : ICode := .keep [] (.seq (.region C.bcn) .ret)
def C.b8y_w := pC C.b8y.eq_1
def C.bcm_b : LO := [
 X.o 20 (.bin .add (X.s 10) (X.i 1)),
 X.m 10 20]
def C.bcm : LO := C.bcm_b
def C.bcm_w := pO C.bcm.eq_1
def C.b80 : ICode := .keep [1, 8, 9, 10] (.region C.bcm)
def C.b80_w := pC C.b80.eq_1
def C.bcl_b : LO := [
 X.m 19 7,
 X.m 4 19]
def C.bcl : LO := C.bcl_b
def C.bcl_w := pO C.bcl.eq_1
def C.b81 : ICode := .seq (.region C.bcl) .ret
def C.b81_w := pC C.b81.eq_1
def C.b82 : ICode := .keep [1, 7, 8, 9, 10, 18] (.cond (X.s 18) C.b81 .skip)
def C.b82_w := pC C.b82.eq_1
def C.bck_b : LO := [
 X.m 17 7,
 X.o 18 (.bin .neq (X.s 17) (X.i 0))]
def C.bck : LO := C.bck_b
def C.bck_w := pO C.bck.eq_1
def C.b83 : ICode := .keep [1, 7, 8, 9, 10] (.seq (.region C.bck) C.b82)
def C.b83_w := pC C.b83.eq_1
def C.bcj_b : LO := [
 X.m 14 1,
 X.m 15 6,
 X.o 16 (.callv (X.s 14) [X.s 15]),
 X.m 7 16]
def C.bcj : LO := C.bcj_b
def C.bcj_w := pO C.bcj.eq_1
def C.b84 : ICode := .keep [1, 6, 8, 9, 10] (.seq (.region C.bcj) C.b83)
def C.b84_w := pC C.b84.eq_1
def C.bch_b : LO := [
 X.o 12 (.idxAddr 1 (X.s 8) (X.s 10)),
 X.o 13 (.load1 (X.s 12)),
 X.m 6 13]
def C.bch : LO := C.bch_b
def C.bch_w := pO C.bch.eq_1
def C.b8x : ICode := .seq (.region C.bch) C.b84
def C.b8x_w := pC C.b8x.eq_1
def C.b85 : ICode := .keep [1, 8, 9, 10] (.seq (.block 1 C.b8x) C.b80)
def C.b85_w := pC C.b85.eq_1
def C.b86 : ICode := .keep [1, 8, 9, 10, 11] (.seq (.cond (X.s 11) .skip (.exit 0)) C.b85)
def C.b86_w := pC C.b86.eq_1
def C.bcg_b : LO := [
 X.o 11 (.bin .lss (X.s 10) (X.s 9))]
def C.bcg : LO := C.bcg_b
def C.bcg_w := pO C.bcg.eq_1
def C.ckc : ICode := .keep [1, 8, 9, 10] (.seq (.region C.bcg) C.b86)
def C.ckc_w := pC C.ckc.eq_1
def C.b8w : ICode := .loop C.ckc
def C.b8w_w := pC C.b8w.eq_1
def C.b8q : ICode := .keep [1, 8, 9, 10] (.block 0 C.b8w)
def C.b8q_w := pC C.b8q.eq_1
def C.bcf_b : LO := [
 X.m 8 0,
 X.o 9 (.len (X.s 8)),
 X.o 10 (.move (X.i 0))]
def C.bcf : LO := C.bcf_b
def C.bcf_w := pO C.bcf.eq_1
def C.b8z : ICode := .keep [0, 1] (.seq (.seq (.region C.bcf) C.b8q) C.b8y)
def C.b8z_w := pC C.b8z.eq_1
def C.bcd_b : LO := [
 X.o 4 (.move (X.i 0))]
def C.bcd : LO := C.bcd_b
def C.bcd_w := pO C.bcd.eq_1
def C.q60 : IFunc := ⟨2, [.slot 4], .seq (.region C.bcd) C.b8z⟩
def C.q60_W := aI (aI (aI (aI @C.bcn_w @C.b8y_w) (aI @C.bcm_w (aI @C.b80_w @C.bcl_w))) (aI (aI @C.b81_w @C.b82_w) (aI @C.bck_w (aI @C.b83_w @C.bcj_w)))) (aI (aI (aI @C.b84_w @C.bch_w) (aI @C.b8x_w (aI @C.b85_w @C.b86_w))) (aI (aI @C.bcg_w (aI @C.b8w_w @C.b8q_w)) (aI @C.bcf_w (aI @C.b8z_w @C.bcd_w))))
def C.q60_B := aI (aI (aI @C.bcn_b.eq_1 @C.bcm_b.eq_1) (aI @C.bcl_b.eq_1 @C.bck_b.eq_1)) (aI (aI @C.bcj_b.eq_1 @C.bch_b.eq_1) (aI @C.bcg_b.eq_1 (aI @C.bcf_b.eq_1 @C.bcd_b.eq_1)))

def C.ym_b : LO := [
 X.m 4 0,
 X.o 5 (.fldAddr 0 (X.s 1)),
 X.o 6 (.load1 (X.s 5)),
 X.o 7 (.len (X.s 6)),
 X.o 8 (.bin .sub (X.s 7) (X.i 1)),
 X.o 9 (.call F.q74 [X.s 4, X.i 0, X.s 8]),
 X.o 10 (.un .not (X.s 9)),
 X.o 11 (.call F.q73 [X.s 10, X.i 4]),
 X.m 3 11]
def C.ym : LO := C.ym_b
def C.ym_w := pO C.ym.eq_1
def C.b66 : ICode := .keep [0, 1] (.seq (.region C.ym) .ret)
def C.b66_w := pC C.b66.eq_1
def C.yl_b : LO := [
 X.o 3 (.move (X.i 0))]
def C.yl : LO := C.yl_b
def C.yl_w := pO C.yl.eq_1
def C.q44 : IFunc := ⟨2, [.slot 3], .seq (.region C.yl) C.b66⟩
def C.q44_W := aI @C.ym_w (aI @C.b66_w @C.yl_w)
def C.q44_B := aI @C.ym_b.eq_1 @C.yl_b.eq_1

def C.bfk_b : LO := [
 X.m 7 0,
 X.m 8 1,
 X.o 9 (.bin .geq (X.s 7) (X.s 8)),
 X.m 10 9,
 X.t 10 11 (.move (X.s 0)),
 X.t 10 12 (.move (X.s 2)),
 X.t 10 13 (.bin .leq (X.s 11) (X.s 12)),
 X.o 14 (.pick (X.s 10) (X.s 13) (.cst (.bool false))),
 X.m 6 14]
def C.bfk : LO := C.bfk_b
def C.bfk_w := pO C.bfk.eq_1
def C.cb6 : ICode := .keep [0, 1, 2] (.seq (.region C.bfk) .ret)
def C.cb6_w := pC C.cb6.eq_1
def C.bfj_b : LO := [
 X.o 6 (.move (.cst (.bool false)))]
def C.bfj : LO := C.bfj_b
def C.bfj_w := pO C.bfj.eq_1
def C.q74 : IFunc := ⟨3, [.slot 6], .seq (.region C.bfj) C.cb6⟩
def C.q74_W := aI @C.bfk_w (aI @C.cb6_w @C.bfj_w)
def C.q74_B := aI @C.bfk_b.eq_1 @C.bfj_b.eq_1

def C.yp_b : LO := [
 X.o 2 (.loadN 6 (X.s 0)),
 X.o 3 (.call F.q64 [X.s 2]),
 X.o 4 (.un .not (X.s 3)),
 X.o 5 (.call F.q73 [X.s 4, X.i 3]),
 X.m 1 5]
def C.yp : LO := C.yp_b
def C.yp_w := pO C.yp.eq_1
def C.b67 : ICode := .keep [0] (.seq (.region C.yp) .ret)
def C.b67_w := pC C.b67.eq_1
def C.yn_b : LO := [
 X.o 1 (.move (X.i 0))]
def C.yn : LO := C.yn_b
def C.yn_w := pO C.yn.eq_1
def C.q45 : IFunc := ⟨1, [.slot 1], .seq (.region C.yn) C.b67⟩
def C.q45_W := aI @C.yp_w (aI @C.b67_w @C.yn_w)
def C.q45_B := aI @C.yp_b.eq_1 @C.yn_b.eq_1

def C.bdd_b : LO := [
 X.o 2 (.move (.cst (.bool true)))]
def C.bdd : LO := C.bdd_b
def C.bdd_w := pO C.bdd.eq_1
def C.b9v : ICode := .keep [] (.seq (.region C.bdd) .ret)
def C.b9v_w := pC C.b9v.eq_1
def C.bc7_b : LO := [
 X.o 7 (.fldAddr 2 (X.s 1)),
 X.o 8 (.load1 (X.s 7)),
 X.o 9 (.bin .geq (X.s 8) (.cst (.int .u64 1))),
 X.m 10 9,
 X.t 10 11 (.fldAddr 2 (X.s 1)),
 X.t 10 12 (.load1 (X.s 11)),
 X.t 10 13 (.bin .leq (X.s 12) (.cst (.int .u64 1099511627776))),
 X.o 14 (.pick (X.s 10) (X.s 13) (.cst (.bool false))),
 X.m 2 14]
def C.bc7 : LO := C.bc7_b
def C.bc7_w := pO C.bc7.eq_1
def C.bc9_b : LO := [
 X.o 17 (.fldAddr 3 (X.s 1)),
 X.o 18 (.load1 (X.s 17)),
 X.o 19 (.call F.q74 [X.s 18, X.i 1, X.i 1000]),
 X.m 20 19,
 X.t 20 21 (.fldAddr 4 (X.s 1)),
 X.t 20 22 (.load1 (X.s 21)),
 X.t 20 23 (.call F.q74 [X.s 22, X.i 1, X.i 1000]),
 X.o 24 (.pick (X.s 20) (X.s 23) (.cst (.bool false))),
 X.m 25 24,
 X.t 25 26 (.fldAddr 5 (X.s 1)),
 X.t 25 27 (.load1 (X.s 26)),
 X.t 25 28 (.call F.q74 [X.s 27, X.i 0, X.i 20]),
 X.o 29 (.pick (X.s 25) (X.s 28) (.cst (.bool false))),
 X.m 2 29]
def C.bc9 : LO := C.bc9_b
def C.bc9_w := pO C.bc9.eq_1
def C.bdc_b : LO := [
 X.o 32 (.fldAddr 4 (X.s 1)),
 X.o 33 (.load1 (X.s 32)),
 X.o 34 (.call F.q74 [X.s 33, X.i 1, X.i 1000]),
 X.m 2 34]
def C.bdc : LO := C.bdc_b
def C.bdc_w := pO C.bdc.eq_1
def C.b9y : ICode := .seq (.region C.bdc) .ret
def C.b9y_w := pC C.b9y.eq_1
def C.b9q : ICode := .keep [1, 30] (.cond (X.s 30) C.b9y .skip)
def C.b9q_w := pC C.b9q.eq_1
def C.bdb_b : LO := [
 X.o 31 (.bin .eql (X.s 4) (.cst (.int .u8 100))),
 X.m 30 31]
def C.bdb : LO := C.bdb_b
def C.bdb_w := pO C.bdb.eq_1
def C.b9z : ICode := .seq (.region C.bc9) .ret
def C.b9z_w := pC C.b9z.eq_1
def C.b90 : ICode := .seq (.region C.bdb) C.b9q
def C.b90_w := pC C.b90.eq_1
def C.b91 : ICode := .keep [1, 4, 15] (.cond (X.s 15) C.b9z C.b90)
def C.b91_w := pC C.b91.eq_1
def C.bc8_b : LO := [
 X.o 16 (.bin .eql (X.s 4) (.cst (.int .u8 112))),
 X.m 15 16]
def C.bc8 : LO := C.bc8_b
def C.bc8_w := pO C.bc8.eq_1
def C.b92 : ICode := .seq (.region C.bc7) .ret
def C.b92_w := pC C.b92.eq_1
def C.b93 : ICode := .seq (.region C.bc8) C.b91
def C.b93_w := pC C.b93.eq_1
def C.b94 : ICode := .keep [1, 4, 5] (.cond (X.s 5) C.b92 C.b93)
def C.b94_w := pC C.b94.eq_1
def C.bc6_b : LO := [
 X.o 6 (.bin .eql (X.s 4) (.cst (.int .u8 111))),
 X.m 5 6]
def C.bc6 : LO := C.bc6_b
def C.bc6_w := pO C.bc6.eq_1
def C.b9t : ICode := .seq (.region C.bc6) C.b94
def C.b9t_w := pC C.b9t.eq_1
def C.b9w : ICode := .keep [1, 4] (.block 0 C.b9t)
def C.b9w_w := pC C.b9w.eq_1
def C.bc5_b : LO := [
 X.o 3 (.fldAddr 0 (X.s 1)),
 X.o 4 (.load1 (X.s 3))]
def C.bc5 : LO := C.bc5_b
def C.bc5_w := pO C.bc5.eq_1
def C.b9x : ICode := .keep [1] (.seq (.seq (.region C.bc5) C.b9w) C.b9v)
def C.b9x_w := pC C.b9x.eq_1
def C.bc4_b : LO := [
 X.o 1 (.boxN (X.s 0)),
 X.o 2 (.move (.cst (.bool false)))]
def C.bc4 : LO := C.bc4_b
def C.bc4_w := pO C.bc4.eq_1
def C.q64 : IFunc := ⟨1, [.slot 2], .seq (.region C.bc4) C.b9x⟩
def C.q64_W := aI (aI (aI (aI @C.bdd_w @C.b9v_w) (aI @C.bc7_w (aI @C.bc9_w @C.bdc_w))) (aI (aI @C.b9y_w @C.b9q_w) (aI @C.bdb_w (aI @C.b9z_w @C.b90_w)))) (aI (aI (aI @C.b91_w @C.bc8_w) (aI @C.b92_w (aI @C.b93_w @C.b94_w))) (aI (aI @C.bc6_w (aI @C.b9t_w @C.b9w_w)) (aI @C.bc5_w (aI @C.b9x_w @C.bc4_w))))
def C.q64_B := aI (aI (aI @C.bdd_b.eq_1 @C.bc7_b.eq_1) (aI @C.bc9_b.eq_1 @C.bdc_b.eq_1)) (aI (aI @C.bdb_b.eq_1 @C.bc8_b.eq_1) (aI @C.bc6_b.eq_1 (aI @C.bc5_b.eq_1 @C.bc4_b.eq_1)))

def C.bfn_b : LO := [
 X.m 10 4,
 X.m 2 10]
def C.bfn : LO := C.bfn_b
def C.bfn_w := pO C.bfn.eq_1
def C.cb7 : ICode := .keep [4] (.seq (.region C.bfn) .ret)
def C.cb7_w := pC C.cb7.eq_1
def C.bfm_b : LO := [
 X.m 6 0,
 X.o 7 (.call F.q76 [X.s 6]),
 X.m 5 7,
 X.o 8 (.extract (X.s 5) 0),
 X.o 9 (.extract (X.s 5) 1),
 X.m 3 8,
 X.m 4 9]
def C.bfm : LO := C.bfm_b
def C.bfm_w := pO C.bfm.eq_1
def C.cb8 : ICode := .keep [0] (.seq (.region C.bfm) C.cb7)
def C.cb8_w := pC C.cb8.eq_1
def C.bfl_b : LO := [
 X.o 2 (.move (X.i 0))]
def C.bfl : LO := C.bfl_b
def C.bfl_w := pO C.bfl.eq_1
def C.q75 : IFunc := ⟨1, [.slot 2], .seq (.region C.bfl) C.cb8⟩
def C.q75_W := aI (aI @C.bfn_w @C.cb7_w) (aI @C.bfm_w (aI @C.cb8_w @C.bfl_w))
def C.q75_B := aI @C.bfn_b.eq_1 (aI @C.bfm_b.eq_1 @C.bfl_b.eq_1)

def C.bdq_b : LO := [
 X.m 3 0,
 X.o 4 (.append 1 8 (.cst (.nils)) (X.s 3)),
 X.m 2 4]
def C.bdq : LO := C.bdq_b
def C.bdq_w := pO C.bdq.eq_1
def C.cbj : ICode := .keep [0] (.seq (.region C.bdq) .ret)
def C.cbj_w := pC C.cbj.eq_1
def C.bdy_b : LO := [
 X.o 2 (.move (.cst (.nils)))]
def C.bdy : LO := C.bdy_b
def C.bdy_w := pO C.bdy.eq_1
def C.q70 : IFunc := ⟨1, [.slot 2], .seq (.region C.bdy) C.cbj⟩
def C.q70_W := aI @C.bdq_w (aI @C.cbj_w @C.bdy_w)
def C.q70_B := aI @C.bdq_b.eq_1 @C.bdy_b.eq_1

def C.bbl_b : LO := [
 X.o 3 (.fldAddr 0 (X.s 0)),
 X.o 4 (.load1 (X.s 3)),
 X.o 5 (.bin .neq (X.s 4) (X.i (-1))),
 X.m 6 5,
 X.t 6 7 (.fldAddr 0 (X.s 0)),
 X.t 6 8 (.load1 (X.s 7)),
 X.t 6 9 (.fldAddr 1 (X.s 1)),
 X.t 6 10 (.load1 (X.s 9)),
 X.t 6 11 (.len (X.s 10)),
 X.t 6 12 (.bin .sub (X.s 11) (X.i 1)),
 X.t 6 13 (.call F.q74 [X.s 8, X.i 0, X.s 12]),
 X.t 6 14 (.un .not (X.s 13)),
 X.o 15 (.pick (X.s 6) (X.s 14) (.cst (.bool false))),
 X.o 16 (.call F.q73 [X.s 15, X.i 4]),
 X.m 2 16]
def C.bbl : LO := C.bbl_b
def C.bbl_w := pO C.bbl.eq_1
def C.b7y : ICode := .keep [0, 1] (.seq (.region C.bbl) .ret)
def C.b7y_w := pC C.b7y.eq_1
def C.bbk_b : LO := [
 X.o 2 (.move (X.i 0))]
def C.bbk : LO := C.bbk_b
def C.bbk_w := pO C.bbk.eq_1
def C.q54 : IFunc := ⟨2, [.slot 2], .seq (.region C.bbk) C.b7y⟩
def C.q54_W := aI @C.bbl_w (aI @C.b7y_w @C.bbk_w)
def C.q54_B := aI @C.bbl_b.eq_1 @C.bbk_b.eq_1

def C.bbn_b : LO := [
 X.o 2 (.fldAddr 1 (X.s 0)),
 X.o 3 (.load1 (X.s 2)),
 X.o 4 (.call F.q74 [X.s 3, X.i 0, X.i 20]),
 X.o 5 (.un .not (X.s 4)),
 X.o 6 (.call F.q73 [X.s 5, X.i 3]),
 X.m 1 6]
def C.bbn : LO := C.bbn_b
def C.bbn_w := pO C.bbn.eq_1
def C.b7q : ICode := .keep [0] (.seq (.region C.bbn) .ret)
def C.b7q_w := pC C.b7q.eq_1
def C.bbm_b : LO := [
 X.o 1 (.move (X.i 0))]
def C.bbm : LO := C.bbm_b
def C.bbm_w := pO C.bbm.eq_1
def C.q55 : IFunc := ⟨1, [.slot 1], .seq (.region C.bbm) C.b7q⟩
def C.q55_W := aI @C.bbn_w (aI @C.b7q_w @C.bbm_w)
def C.q55_B := aI @C.bbn_b.eq_1 @C.bbm_b.eq_1

def C.yx_b : LO := [
 X.o 3 (.fldAddr 0 (X.s 0)),
 X.o 4 (.load1 (X.s 3)),
 X.o 5 (.fldAddr 0 (X.s 1)),
 X.o 6 (.load1 (X.s 5)),
 X.o 7 (.len (X.s 6)),
 X.o 8 (.bin .sub (X.s 7) (X.i 1)),
 X.o 9 (.call F.q74 [X.s 4, X.i 0, X.s 8]),
 X.o 10 (.un .not (X.s 9)),
 X.o 11 (.call F.q73 [X.s 10, X.i 4]),
 X.m 2 11]
def C.yx : LO := C.yx_b
def C.yx_w := pO C.yx.eq_1
def C.b7b : ICode := .keep [0, 1] (.seq (.region C.yx) .ret)
def C.b7b_w := pC C.b7b.eq_1
def C.yw_b : LO := [
 X.o 2 (.move (X.i 0))]
def C.yw : LO := C.yw_b
def C.yw_w := pO C.yw.eq_1
def C.q48 : IFunc := ⟨2, [.slot 2], .seq (.region C.yw) C.b7b⟩
def C.q48_W := aI @C.yx_w (aI @C.b7b_w @C.yw_w)
def C.q48_B := aI @C.yx_b.eq_1 @C.yw_b.eq_1

def C.yq_b : LO := [
 X.o 3 (.fldAddr 1 (X.s 0)),
 X.o 4 (.load1 (X.s 3)),
 X.o 5 (.fldAddr 1 (X.s 1)),
 X.o 6 (.load1 (X.s 5)),
 X.o 7 (.len (X.s 6)),
 X.o 8 (.bin .sub (X.s 7) (X.i 1)),
 X.o 9 (.call F.q74 [X.s 4, X.i 0, X.s 8]),
 X.o 10 (.un .not (X.s 9)),
 X.o 11 (.call F.q73 [X.s 10, X.i 4]),
 X.m 2 11]
def C.yq : LO := C.yq_b
def C.yq_w := pO C.yq.eq_1
def C.b7c : ICode := .keep [0, 1] (.seq (.region C.yq) .ret)
def C.b7c_w := pC C.b7c.eq_1
def C.yy_b : LO := [
 X.o 2 (.move (X.i 0))]
def C.yy : LO := C.yy_b
def C.yy_w := pO C.yy.eq_1
def C.q49 : IFunc := ⟨2, [.slot 2], .seq (.region C.yy) C.b7c⟩
def C.q49_W := aI @C.yq_w (aI @C.b7c_w @C.yy_w)
def C.q49_B := aI @C.yq_b.eq_1 @C.yy_b.eq_1

def C.bbb_b : LO := [
 X.o 3 (.fldAddr 2 (X.s 0)),
 X.o 4 (.load1 (X.s 3)),
 X.o 5 (.fldAddr 2 (X.s 1)),
 X.o 6 (.load1 (X.s 5)),
 X.o 7 (.len (X.s 6)),
 X.o 8 (.bin .sub (X.s 7) (X.i 1)),
 X.o 9 (.call F.q74 [X.s 4, X.i 0, X.s 8]),
 X.o 10 (.un .not (X.s 9)),
 X.o 11 (.call F.q73 [X.s 10, X.i 4]),
 X.m 2 11]
def C.bbb : LO := C.bbb_b
def C.bbb_w := pO C.bbb.eq_1
def C.b7t : ICode := .keep [0, 1] (.seq (.region C.bbb) .ret)
def C.b7t_w := pC C.b7t.eq_1
def C.y9_b : LO := [
 X.o 2 (.move (X.i 0))]
def C.y9 : LO := C.y9_b
def C.y9_w := pO C.y9.eq_1
def C.q50 : IFunc := ⟨2, [.slot 2], .seq (.region C.y9) C.b7t⟩
def C.q50_W := aI @C.bbb_w (aI @C.b7t_w @C.y9_w)
def C.q50_B := aI @C.bbb_b.eq_1 @C.y9_b.eq_1

def C.bbd_b : LO := [
 X.o 3 (.fldAddr 5 (X.s 0)),
 X.o 4 (.load1 (X.s 3)),
 X.o 5 (.makeFunc F.q52 [X.s 1]),
 X.o 6 (.call F.q60 [X.s 4, X.s 5]),
 X.m 2 6]
def C.bbd : LO := C.bbd_b
def C.bbd_w := pO C.bbd.eq_1
def C.b7v : ICode := .keep [0, 1] (.seq (.region C.bbd) .ret)
def C.b7v_w := pC C.b7v.eq_1
def C.bbc_b : LO := [
 X.o 2 (.move (X.i 0))]
def C.bbc : LO := C.bbc_b
def C.bbc_w := pO C.bbc.eq_1
def C.q51 : IFunc := ⟨2, [.slot 2], .seq (.region C.bbc) C.b7v⟩
def C.q51_W := aI @C.bbd_w (aI @C.b7v_w @C.bbc_w)
def C.q51_B := aI @C.bbd_b.eq_1 @C.bbc_b.eq_1

def C.bbg_b : LO := [
 X.m 4 0,
 X.o 5 (.fldAddr 3 (X.s 1)),
 X.o 6 (.load1 (X.s 5)),
 X.o 7 (.len (X.s 6)),
 X.o 8 (.bin .sub (X.s 7) (X.i 1)),
 X.o 9 (.call F.q74 [X.s 4, X.i 0, X.s 8]),
 X.o 10 (.un .not (X.s 9)),
 X.o 11 (.call F.q73 [X.s 10, X.i 4]),
 X.m 3 11]
def C.bbg : LO := C.bbg_b
def C.bbg_w := pO C.bbg.eq_1
def C.b7w : ICode := .keep [0, 1] (.seq (.region C.bbg) .ret)
def C.b7w_w := pC C.b7w.eq_1
def C.bbf_b : LO := [
 X.o 3 (.move (X.i 0))]
def C.bbf : LO := C.bbf_b
def C.bbf_w := pO C.bbf.eq_1
def C.q52 : IFunc := ⟨2, [.slot 3], .seq (.region C.bbf) C.b7w⟩
def C.q52_W := aI @C.bbg_w (aI @C.b7w_w @C.bbf_w)
def C.q52_B := aI @C.bbg_b.eq_1 @C.bbf_b.eq_1

def C.sc_b : LO := [
 X.o 4 (.load1 (X.s 2)),
 X.o 5 (.makeFunc F.q116 [X.s 3, X.s 2]),
 X.o 6 (.call F.q117 [X.s 4, X.s 5])]
def C.sc : LO := C.sc_b
def C.sc_w := pO C.sc.eq_1
def C.b18 : ICode := .keep [2, 3] (.region C.sc)
def C.b18_w := pC C.b18.eq_1
def C.sb_b : LO := [
 X.o 2 (.box1 (X.s 0)),
 X.o 3 (.box1 (X.s 1))]
def C.sb : LO := C.sb_b
def C.sb_w := pO C.sb.eq_1
def C.q115 : IFunc := ⟨2, [], .seq (.region C.sb) C.b18⟩
def C.q115_W := aI @C.sc_w (aI @C.b18_w @C.sb_w)
def C.q115_B := aI @C.sc_b.eq_1 @C.sb_b.eq_1

def C.p9_b : LO := [
 X.o 5 (.fldAddr 0 (X.s 3)),
 X.o 6 (.load1 (X.s 5)),
 X.m 4 6]
def C.p9 : LO := C.p9_b
def C.p9_w := pO C.p9.eq_1
def C.b08 : ICode := .keep [3] (.seq (.region C.p9) .ret)
def C.b08_w := pC C.b08.eq_1
def C.p8_b : LO := [
 X.o 3 (.boxN (X.s 1)),
 X.o 4 (.move (.cst (.int .u32 0)))]
def C.p8 : LO := C.p8_b
def C.p8_w := pO C.p8.eq_1
def C.q107 : IFunc := ⟨2, [.slot 4], .seq (.region C.p8) C.b08⟩
def C.q107_W := aI @C.p9_w (aI @C.b08_w @C.p8_w)
def C.q107_B := aI @C.p9_b.eq_1 @C.p8_b.eq_1

def C.n2_b : LO := [
 X.m 3 0,
 X.o 4 (.nilchk (X.s 3)),
 X.o 5 (.fldAddr 3 (X.s 4)),
 X.o 6 (.load1 (X.s 5)),
 X.o 7 (.bin .eql (X.s 6) (.cst (.int .u8 48))),
 X.m 8 7,
 X.f 8 9 (.move (X.s 0)),
 X.f 8 10 (.nilchk (X.s 9)),
 X.f 8 11 (.fldAddr 3 (X.s 10)),
 X.f 8 12 (.load1 (X.s 11)),
 X.f 8 13 (.bin .eql (X.s 12) (.cst (.int .u8 116))),
 X.o 14 (.pick (X.s 8) (.cst (.bool true)) (X.s 13)),
 X.m 2 14]
def C.n2 : LO := C.n2_b
def C.n2_w := pO C.n2.eq_1
def C.bzv : ICode := .keep [0] (.seq (.region C.n2) .ret)
def C.bzv_w := pC C.bzv.eq_1
def C.n1_b : LO := [
 X.o 2 (.move (.cst (.bool false)))]
def C.n1 : LO := C.n1_b
def C.n1_w := pO C.n1.eq_1
def C.q101 : IFunc := ⟨1, [.slot 2], .seq (.region C.n1) C.bzv⟩
def C.q101_W := aI @C.n2_w (aI @C.bzv_w @C.n1_w)
def C.q101_B := aI @C.n2_b.eq_1 @C.n1_b.eq_1

def C.bdg_b : LO := [
 X.m 3 0,
 X.o 4 (.append 6 64 (.cst (.nils)) (X.s 3)),
 X.m 2 4]
def C.bdg : LO := C.bdg_b
def C.bdg_w := pO C.bdg.eq_1
def C.b95 : ICode := .keep [0] (.seq (.region C.bdg) .ret)
def C.b95_w := pC C.b95.eq_1
def C.bdf_b : LO := [
 X.o 2 (.move (.cst (.nils)))]
def C.bdf : LO := C.bdf_b
def C.bdf_w := pO C.bdf.eq_1
def C.q65 : IFunc := ⟨1, [.slot 2], .seq (.region C.bdf) C.b95⟩
def C.q65_W := aI @C.bdg_w (aI @C.b95_w @C.bdf_w)
def C.q65_B := aI @C.bdg_b.eq_1 @C.bdf_b.eq_1

def C.bdl_b : LO := [
 X.m 3 0,
 X.o 4 (.append 3 24 (.cst (.nils)) (X.s 3)),
 X.m 2 4]
def C.bdl : LO := C.bdl_b
def C.bdl_w := pO C.bdl.eq_1
def C.b97 : ICode := .keep [0] (.seq (.region C.bdl) .ret)
def C.b97_w := pC C.b97.eq_1
def C.bdk_b : LO := [
 X.o 2 (.move (.cst (.nils)))]
def C.bdk : LO := C.bdk_b
def C.bdk_w := pO C.bdk.eq_1
def C.q67 : IFunc := ⟨1, [.slot 2], .seq (.region C.bdk) C.b97⟩
def C.q67_W := aI @C.bdl_w (aI @C.b97_w @C.bdk_w)
def C.q67_B := aI @C.bdl_b.eq_1 @C.bdk_b.eq_1

def C.bdr_b : LO := [
 X.m 3 0,
 X.o 4 (.append 1 8 (.cst (.nils)) (X.s 3)),
 X.m 2 4]
def C.bdr : LO := C.bdr_b
def C.bdr_w := pO C.bdr.eq_1
def C.b99 : ICode := .keep [0] (.seq (.region C.bdr) .ret)
def C.b99_w := pC C.b99.eq_1
def C.bdp_b : LO := [
 X.o 2 (.move (.cst (.nils)))]
def C.bdp : LO := C.bdp_b
def C.bdp_w := pO C.bdp.eq_1
def C.q69 : IFunc := ⟨1, [.slot 2], .seq (.region C.bdp) C.b99⟩
def C.q69_W := aI @C.bdr_w (aI @C.b99_w @C.bdp_w)
def C.q69_B := aI @C.bdr_b.eq_1 @C.bdp_b.eq_1

def C.bdj_b : LO := [
 X.m 3 0,
 X.o 4 (.append 6 80 (.cst (.nils)) (X.s 3)),
 X.m 2 4]
def C.bdj : LO := C.bdj_b
def C.bdj_w := pO C.bdj.eq_1
def C.b96 : ICode := .keep [0] (.seq (.region C.bdj) .ret)
def C.b96_w := pC C.b96.eq_1
def C.bdh_b : LO := [
 X.o 2 (.move (.cst (.nils)))]
def C.bdh : LO := C.bdh_b
def C.bdh_w := pO C.bdh.eq_1
def C.q66 : IFunc := ⟨1, [.slot 2], .seq (.region C.bdh) C.b96⟩
def C.q66_W := aI @C.bdj_w (aI @C.b96_w @C.bdh_w)
def C.q66_B := aI @C.bdj_b.eq_1 @C.bdh_b.eq_1

def C.bdn_b : LO := [
 X.m 3 0,
 X.o 4 (.append 2 8 (.cst (.nils)) (X.s 3)),
 X.m 2 4]
def C.bdn : LO := C.bdn_b
def C.bdn_w := pO C.bdn.eq_1
def C.b98 : ICode := .keep [0] (.seq (.region C.bdn) .ret)
def C.b98_w := pC C.b98.eq_1
def C.bdm_b : LO := [
 X.o 2 (.move (.cst (.nils)))]
def C.bdm : LO := C.bdm_b
def C.bdm_w := pO C.bdm.eq_1
def C.q68 : IFunc := ⟨1, [.slot 2], .seq (.region C.bdm) C.b98⟩
def C.q68_W := aI @C.bdn_w (aI @C.b98_w @C.bdm_w)
def C.q68_B := aI @C.bdn_b.eq_1 @C.bdm_b.eq_1

def C.yb_b : LO := [
 X.o 4 (.load1 (X.s 1)),
 X.o 5 (.bin .shl (.cst (.int .u64 1)) (X.s 4)),
 X.o 6 (.bin .sub (X.s 5) (.cst (.int .u64 1))),
 X.m 7 0,
 X.o 8 (.bin .shl (X.s 6) (X.s 7)),
 X.o 9 (.conv .u32 (X.s 8)),
 X.m 3 9]
def C.yb : LO := C.yb_b
def C.yb_w := pO C.yb.eq_1
def C.b61 : ICode := .keep [0, 1] (.seq (.region C.yb) .ret)
def C.b61_w := pC C.b61.eq_1
def C.x9_b : LO := [
 X.o 3 (.move (.cst (.int .u32 0)))]
def C.x9 : LO := C.x9_b
def C.x9_w := pO C.x9.eq_1
def C.q3 : IFunc := ⟨2, [.slot 3], .seq (.region C.x9) C.b61⟩
def C.q3_W := aI @C.yb_w (aI @C.b61_w @C.x9_w)
def C.q3_B := aI @C.yb_b.eq_1 @C.x9_b.eq_1

def C.nz_b : LO := [
 X.m 18 0,
 X.m 19 1,
 X.o 20 (.bin .shr (X.s 18) (X.s 19)),
 X.m 21 8,
 X.o 22 (.callv (X.s 21) [X.i 0]),
 X.o 23 (.bin .and (X.s 20) (X.s 22)),
 X.m 6 23,
 X.o 7 (.move (X.i 0))]
def C.nz : LO := C.nz_b
def C.nz_w := pO C.nz.eq_1
def C.bzm : ICode := .keep [0, 1, 8] (.seq (.region C.nz) .ret)
def C.bzm_w := pC C.bzm.eq_1
def C.nq_b : LO := [
 X.o 6 (.move (.cst (.int .u32 0))),
 X.o 7 (.move (X.i 3))]
def C.nq : LO := C.nq_b
def C.nq_w := pO C.nq.eq_1
def C.bzn : ICode := .seq (.region C.nq) .ret
def C.bzn_w := pC C.bzn.eq_1
def C.bzp : ICode := .keep [0, 1, 8, 17] (.cond (X.s 17) C.bzn .skip)
def C.bzp_w := pC C.bzp.eq_1
def C.ny_b : LO := [
 X.m 16 9,
 X.o 17 (.un .not (X.s 16))]
def C.ny : LO := C.ny_b
def C.ny_w := pO C.ny.eq_1
def C.bzr : ICode := .keep [0, 1, 8, 9] (.seq (.seq (.region C.ny) C.bzp) C.bzm)
def C.bzr_w := pC C.bzr.eq_1
def C.nx_b : LO := [
 X.m 11 1,
 X.m 12 2,
 X.o 13 (.call F.q2 [X.s 11, X.s 12]),
 X.m 10 13,
 X.o 14 (.extract (X.s 10) 0),
 X.o 15 (.extract (X.s 10) 1),
 X.m 8 14,
 X.m 9 15]
def C.nx : LO := C.nx_b
def C.nx_w := pO C.nx.eq_1
def C.bzs : ICode := .keep [0, 1, 2] (.seq (.region C.nx) C.bzr)
def C.bzs_w := pC C.bzs.eq_1
def C.nw_b : LO := [
 X.o 6 (.move (.cst (.int .u32 0))),
 X.o 7 (.move (X.i 0))]
def C.nw : LO := C.nw_b
def C.nw_w := pO C.nw.eq_1
def C.q0 : IFunc := ⟨3, [.slot 6, .slot 7], .seq (.region C.nw) C.bzs⟩
def C.q0_W := aI (aI (aI @C.nz_w @C.bzm_w) (aI @C.nq_w (aI @C.bzn_w @C.bzp_w))) (aI (aI @C.ny_w @C.bzr_w) (aI @C.nx_w (aI @C.bzs_w @C.nw_w)))
def C.q0_B := aI (aI @C.nz_b.eq_1 @C.nq_b.eq_1) (aI @C.ny_b.eq_1 (aI @C.nx_b.eq_1 @C.nw_b.eq_1))

def C.fc_b : LO := [
 X.o 20 (.bin .add (X.s 7) (X.i 1)),
 X.m 7 20]
def C.fc : LO := C.fc_b
def C.fc_w := pO C.fc.eq_1
def C.bmh : ICode := .keep [0, 1, 6, 7] (.region C.fc)
def C.bmh_w := pC C.bmh.eq_1
def C.fb_b : LO := [
 X.m 10 1,
 X.m 11 4,
 X.m 12 0,
 X.o 13 (.nilchk (X.s 12)),
 X.o 14 (.fldAddr 0 (X.s 13)),
 X.o 15 (.load1 (X.s 14)),
 X.m 16 4,
 X.o 17 (.idxAddr 2 (X.s 15) (X.s 16)),
 X.o 18 (.loadN 2 (X.s 17)),
 X.o 19 (.callv (X.s 10) [X.s 11, X.s 18])]
def C.fb : LO := C.fb_b
def C.fb_w := pO C.fb.eq_1
def C.bmj : ICode := .keep [0, 1, 4, 6, 7] (.region C.fb)
def C.bmj_w := pC C.bmj.eq_1
def C.d9_b : LO := [
 X.m 9 7,
 X.m 4 9]
def C.d9 : LO := C.d9_b
def C.d9_w := pO C.d9.eq_1
def C.bmg : ICode := .seq (.region C.d9) C.bmj
def C.bmg_w := pC C.bmg.eq_1
def C.bmk : ICode := .keep [0, 1, 6, 7] (.seq (.block 1 C.bmg) C.bmh)
def C.bmk_w := pC C.bmk.eq_1
def C.bml : ICode := .keep [0, 1, 6, 7, 8] (.seq (.cond (X.s 8) .skip (.exit 0)) C.bmk)
def C.bml_w := pC C.bml.eq_1
def C.d8_b : LO := [
 X.o 8 (.bin .lss (X.s 7) (X.s 6))]
def C.d8 : LO := C.d8_b
def C.d8_w := pO C.d8.eq_1
def C.b2d : ICode := .keep [0, 1, 6, 7] (.seq (.region C.d8) C.bml)
def C.b2d_w := pC C.b2d.eq_1
def C.b2b : ICode := .loop C.b2d
def C.b2b_w := pC C.b2b.eq_1
def C.b2c : ICode := .keep [0, 1, 6, 7] (.block 0 C.b2b)
def C.b2c_w := pC C.b2c.eq_1
def C.sg_b : LO := [
 X.m 5 0,
 X.o 6 (.call F.q108 [X.s 5]),
 X.o 7 (.move (X.i 0))]
def C.sg : LO := C.sg_b
def C.sg_w := pO C.sg.eq_1
def C.q117 : IFunc := ⟨2, [], .seq (.region C.sg) C.b2c⟩
def C.q117_W := aI (aI (aI @C.fc_w (aI @C.bmh_w @C.fb_w)) (aI @C.bmj_w (aI @C.d9_w @C.bmg_w))) (aI (aI @C.bmk_w (aI @C.bml_w @C.d8_w)) (aI @C.b2b_w (aI @C.b2c_w @C.sg_w)))
def C.q117_B := aI (aI @C.fc_b.eq_1 @C.fb_b.eq_1) (aI @C.d9_b.eq_1 (aI @C.d8_b.eq_1 @C.sg_b.eq_1))

def C.r4_b : LO := [
 X.o 7 (.load1 (X.s 2)),
 X.o 8 (.nilchk (X.s 7)),
 X.o 9 (.fldAddr 2 (X.s 8)),
 X.o 10 (.load1 (X.s 9)),
 X.m 11 0,
 X.o 12 (.load1 (X.s 2)),
 X.o 13 (.nilchk (X.s 12)),
 X.o 14 (.fldAddr 1 (X.s 13)),
 X.o 15 (.load1 (X.s 14)),
 X.m 16 0,
 X.o 17 (.idxAddr 1 (X.s 15) (X.s 16)),
 X.o 18 (.load1 (X.s 17)),
 X.o 19 (.idxAddr 1 (X.s 10) (X.s 11)),
 X.n (.store1 (X.s 19) (X.s 18))]
def C.r4 : LO := C.r4_b
def C.r4_w := pO C.r4.eq_1
def C.b11 : ICode := .keep [0, 2, 6] (.cond (X.s 6) (.region C.r4) .skip)
def C.b11_w := pC C.b11.eq_1
def C.r3_b : LO := [
 X.o 5 (.fldAddr 1 (X.s 4)),
 X.o 6 (.load1 (X.s 5))]
def C.r3 : LO := C.r3_b
def C.r3_w := pO C.r3.eq_1
def C.b12 : ICode := .keep [0, 2, 4] (.seq (.region C.r3) C.b11)
def C.b12_w := pC C.b12.eq_1
def C.r2_b : LO := [
 X.o 4 (.boxN (X.s 1))]
def C.r2 : LO := C.r2_b
def C.r2_w := pO C.r2.eq_1
def C.q113 : IFunc := ⟨3, [], .seq (.region C.r2) C.b12⟩
def C.q113_W := aI (aI @C.r4_w @C.b11_w) (aI @C.r3_w (aI @C.b12_w @C.r2_w))
def C.q113_B := aI @C.r4_b.eq_1 (aI @C.r3_b.eq_1 @C.r2_b.eq_1)

def C.ry_b : LO := [
 X.o 21 (.fldAddr 0 (X.s 4)),
 X.o 22 (.load1 (X.s 21)),
 X.m 5 22]
def C.ry : LO := C.ry_b
def C.ry_w := pO C.ry.eq_1
def C.b1t : ICode := .keep [4] (.seq (.region C.ry) .ret)
def C.b1t_w := pC C.b1t.eq_1
def C.rx_b : LO := [
 X.o 14 (.load1 (X.s 2)),
 X.o 15 (.nilchk (X.s 14)),
 X.o 16 (.fldAddr 2 (X.s 15)),
 X.o 17 (.load1 (X.s 16)),
 X.m 18 0,
 X.o 19 (.idxAddr 1 (X.s 17) (X.s 18)),
 X.o 20 (.load1 (X.s 19)),
 X.m 5 20]
def C.rx : LO := C.rx_b
def C.rx_w := pO C.rx.eq_1
def C.b1v : ICode := .seq (.region C.rx) .ret
def C.b1v_w := pC C.b1v.eq_1
def C.b1w : ICode := .keep [0, 2, 4, 13] (.cond (X.s 13) C.b1v .skip)
def C.b1w_w := pC C.b1w.eq_1
def C.rw_b : LO := [
 X.o 6 (.load1 (X.s 2)),
 X.o 7 (.nilchk (X.s 6)),
 X.o 8 (.fldAddr 3 (X.s 7)),
 X.o 9 (.load1 (X.s 8)),
 X.m 10 9,
 X.t 10 11 (.fldAddr 1 (X.s 4)),
 X.t 10 12 (.load1 (X.s 11)),
 X.o 13 (.pick (X.s 10) (X.s 12) (.cst (.bool false)))]
def C.rw : LO := C.rw_b
def C.rw_w := pO C.rw.eq_1
def C.b1x : ICode := .keep [0, 2, 4] (.seq (.seq (.region C.rw) C.b1w) C.b1t)
def C.b1x_w := pC C.b1x.eq_1
def C.rv_b : LO := [
 X.o 4 (.boxN (X.s 1)),
 X.o 5 (.move (.cst (.int .u32 0)))]
def C.rv : LO := C.rv_b
def C.rv_w := pO C.rv.eq_1
def C.q111 : IFunc := ⟨3, [.slot 5], .seq (.region C.rv) C.b1x⟩
def C.q111_W := aI (aI (aI @C.ry_w @C.b1t_w) (aI @C.rx_w @C.b1v_w)) (aI (aI @C.b1w_w @C.rw_w) (aI @C.b1x_w @C.rv_w))
def C.q111_B := aI (aI @C.ry_b.eq_1 @C.rx_b.eq_1) (aI @C.rw_b.eq_1 @C.rv_b.eq_1)

def C.bf3_b : LO := [
 X.m 73 8,
 X.m 2 73,
 X.o 3 (.move (X.i 0))]
def C.bf3 : LO := C.bf3_b
def C.bf3_w := pO C.bf3.eq_1
def C.cch : ICode := .keep [8] (.seq (.region C.bf3) .ret)
def C.cch_w := pC C.cch.eq_1
def C.bf1_b : LO := [
 X.o 72 (.bin .add (X.s 62) (X.i 1)),
 X.m 62 72]
def C.bf1 : LO := C.bf1_b
def C.bf1_w := pO C.bf1.eq_1
def C.cct : ICode := .keep [0, 5, 6, 7, 8, 60, 61, 62] (.region C.bf1)
def C.cct_w := pC C.cct.eq_1
def C.bf0_b : LO := [
 X.m 66 5,
 X.m 67 11,
 X.o 68 (.idxAddr 1 (X.s 66) (X.s 67)),
 X.o 69 (.load1 (X.s 68)),
 X.o 70 (.bin .sub (X.s 69) (X.i 1)),
 X.o 71 (.idxAddr 1 (X.s 66) (X.s 67)),
 X.n (.store1 (X.s 71) (X.s 70))]
def C.bf0 : LO := C.bf0_b
def C.bf0_w := pO C.bf0.eq_1
def C.cc0 : ICode := .keep [0, 5, 6, 7, 8, 11, 60, 61, 62] (.region C.bf0)
def C.cc0_w := pC C.cc0.eq_1
def C.bfz_b : LO := [
 X.o 64 (.idxAddr 1 (X.s 60) (X.s 62)),
 X.o 65 (.load1 (X.s 64)),
 X.m 11 65]
def C.bfz : LO := C.bfz_b
def C.bfz_w := pO C.bfz.eq_1
def C.ccf : ICode := .seq (.region C.bfz) C.cc0
def C.ccf_w := pC C.ccf.eq_1
def C.cc6 : ICode := .keep [0, 5, 6, 7, 8, 60, 61, 62] (.seq (.block 5 C.ccf) C.cct)
def C.cc6_w := pC C.cc6.eq_1
def C.cc7 : ICode := .keep [0, 5, 6, 7, 8, 60, 61, 62, 63] (.seq (.cond (X.s 63) .skip (.exit 4)) C.cc6)
def C.cc7_w := pC C.cc7.eq_1
def C.bfq_b : LO := [
 X.o 63 (.bin .lss (X.s 62) (X.s 61))]
def C.bfq : LO := C.bfq_b
def C.bfq_w := pO C.bfq.eq_1
def C.ckh : ICode := .keep [0, 5, 6, 7, 8, 60, 61, 62] (.seq (.region C.bfq) C.cc7)
def C.ckh_w := pC C.ckh.eq_1
def C.ccg : ICode := .loop C.ckh
def C.ccg_w := pC C.ccg.eq_1
def C.cc8 : ICode := .keep [0, 5, 6, 7, 8, 60, 61, 62] (.block 4 C.ccg)
def C.cc8_w := pC C.cc8.eq_1
def C.bfy_b : LO := [
 X.m 57 6,
 X.m 58 9,
 X.o 59 (.idxAddr 1 (X.s 57) (X.s 58)),
 X.o 60 (.load1 (X.s 59)),
 X.o 61 (.len (X.s 60)),
 X.o 62 (.move (X.i 0))]
def C.bfy : LO := C.bfy_b
def C.bfy_w := pO C.bfy.eq_1
def C.ccj : ICode := .keep [0, 5, 6, 7, 8, 9] (.seq (.region C.bfy) C.cc8)
def C.ccj_w := pC C.ccj.eq_1
def C.bfx_b : LO := [
 X.m 53 8,
 X.m 54 9,
 X.o 55 (.buildSlice 1 1 [.int .i64 0] [(0, 1, X.s 54)]),
 X.o 56 (.append 1 8 (X.s 53) (X.s 55)),
 X.m 8 56]
def C.bfx : LO := C.bfx_b
def C.bfx_w := pO C.bfx.eq_1
def C.cck : ICode := .keep [0, 5, 6, 7, 8, 9] (.seq (.region C.bfx) C.ccj)
def C.cck_w := pC C.cck.eq_1
def C.bfw_b : LO := [
 X.m 50 7,
 X.m 51 9,
 X.o 52 (.call F.q78 [X.s 50, X.s 51])]
def C.bfw : LO := C.bfw_b
def C.bfw_w := pO C.bfw.eq_1
def C.ccl : ICode := .keep [0, 5, 6, 7, 8, 9] (.seq (.region C.bfw) C.cck)
def C.ccl_w := pC C.ccl.eq_1
def C.bfv_b : LO := [
 X.o 2 (.move (.cst (.nils))),
 X.o 3 (.move (X.i 5))]
def C.bfv : LO := C.bfv_b
def C.bfv_w := pO C.bfv.eq_1
def C.ccm : ICode := .seq (.region C.bfv) .ret
def C.ccm_w := pC C.ccm.eq_1
def C.ccn : ICode := .keep [0, 5, 6, 7, 8, 9, 49] (.cond (X.s 49) C.ccm .skip)
def C.ccn_w := pC C.ccn.eq_1
def C.bft_b : LO := [
 X.m 46 9,
 X.m 47 0,
 X.o 48 (.len (X.s 47)),
 X.o 49 (.bin .eql (X.s 46) (X.s 48))]
def C.bft : LO := C.bft_b
def C.bft_w := pO C.bft.eq_1
def C.ccp : ICode := .keep [0, 5, 6, 7, 8, 9] (.seq (.seq (.region C.bft) C.ccn) C.ccl)
def C.ccp_w := pC C.ccp.eq_1
def C.bfs_b : LO := [
 X.m 44 9,
 X.o 45 (.bin .add (X.s 44) (X.i 1)),
 X.m 9 45]
def C.bfs : LO := C.bfs_b
def C.bfs_w := pO C.bfs.eq_1
def C.cb9 : ICode := .region C.bfs
def C.cb9_w := pC C.cb9.eq_1
def C.ccr : ICode := .keep [0, 5, 6, 7, 8, 9] (.block 3 C.cb9)
def C.ccr_w := pC C.ccr.eq_1
def C.ccs : ICode := .keep [0, 5, 6, 7, 8, 9, 43] (.cond (X.s 43) .skip (.exit 2))
def C.ccs_w := pC C.ccs.eq_1
def C.bgb_b : LO := [
 X.m 28 9,
 X.m 29 0,
 X.o 30 (.len (X.s 29)),
 X.o 31 (.bin .lss (X.s 28) (X.s 30)),
 X.m 32 31,
 X.t 32 33 (.move (X.s 7)),
 X.t 32 34 (.move (X.s 9)),
 X.t 32 35 (.call F.q79 [X.s 33, X.s 34]),
 X.t 32 36 (.move (X.s 35)),
 X.f 36 37 (.move (X.s 5)),
 X.f 36 38 (.move (X.s 9)),
 X.f 36 39 (.idxAddr 1 (X.s 37) (X.s 38)),
 X.f 36 40 (.load1 (X.s 39)),
 X.f 36 41 (.bin .gtr (X.s 40) (X.i 0)),
 X.t 32 42 (.pick (X.s 36) (.cst (.bool true)) (X.s 41)),
 X.o 43 (.pick (X.s 32) (X.s 42) (.cst (.bool false)))]
def C.bgb : LO := C.bgb_b
def C.bgb_w := pO C.bgb.eq_1
def C.ckf : ICode := .keep [0, 5, 6, 7, 8, 9] (.seq (.seq (.region C.bgb) C.ccs) C.ccr)
def C.ckf_w := pC C.ckf.eq_1
def C.ccb : ICode := .loop C.ckf
def C.ccb_w := pC C.ccb.eq_1
def C.ccv : ICode := .keep [0, 5, 6, 7, 8, 9] (.seq (.block 2 C.ccb) C.ccp)
def C.ccv_w := pC C.ccv.eq_1
def C.bf9_b : LO := [
 X.o 9 (.move (X.i 0))]
def C.bf9 : LO := C.bf9_b
def C.bf9_w := pO C.bf9.eq_1
def C.ccc : ICode := .seq (.region C.bf9) C.ccv
def C.ccc_w := pC C.ccc.eq_1
def C.ccw : ICode := .keep [0, 5, 6, 7, 8] (.block 1 C.ccc)
def C.ccw_w := pC C.ccw.eq_1
def C.ccx : ICode := .keep [0, 5, 6, 7, 8, 27] (.cond (X.s 27) .skip (.exit 0))
def C.ccx_w := pC C.ccx.eq_1
def C.bf8_b : LO := [
 X.m 23 8,
 X.o 24 (.len (X.s 23)),
 X.m 25 0,
 X.o 26 (.len (X.s 25)),
 X.o 27 (.bin .lss (X.s 24) (X.s 26))]
def C.bf8 : LO := C.bf8_b
def C.bf8_w := pO C.bf8.eq_1
def C.ckg : ICode := .keep [0, 5, 6, 7, 8] (.seq (.seq (.region C.bf8) C.ccx) C.ccw)
def C.ckg_w := pC C.ckg.eq_1
def C.ccd : ICode := .loop C.ckg
def C.ccd_w := pC C.ccd.eq_1
def C.ccy : ICode := .keep [0, 5, 6, 7, 8] (.seq (.block 0 C.ccd) C.cch)
def C.ccy_w := pC C.ccy.eq_1
def C.bf7_b : LO := [
 X.o 8 (.move (.cst (.nils)))]
def C.bf7 : LO := C.bf7_b
def C.bf7_w := pO C.bf7.eq_1
def C.ccq : ICode := .keep [0, 5, 6, 7] (.seq (.region C.bf7) C.ccy)
def C.ccq_w := pC C.ccq.eq_1
def C.bf6_b : LO := [
 X.o 22 (.makeMap none),
 X.m 7 22]
def C.bf6 : LO := C.bf6_b
def C.bf6_w := pO C.bf6.eq_1
def C.ccz : ICode := .keep [0, 5, 6] (.seq (.region C.bf6) C.ccq)
def C.ccz_w := pC C.ccz.eq_1
def C.bf5_b : LO := [
 X.m 18 0,
 X.o 19 (.call F.q77 [X.s 18]),
 X.m 17 19,
 X.o 20 (.extract (X.s 17) 0),
 X.o 21 (.extract (X.s 17) 1),
 X.m 5 20,
 X.m 6 21]
def C.bf5 : LO := C.bf5_b
def C.bf5_w := pO C.bf5.eq_1
def C.cc1 : ICode := .keep [0] (.seq (.region C.bf5) C.ccz)
def C.cc1_w := pC C.cc1.eq_1
def C.bf4_b : LO := [
 X.m 16 4,
 X.o 2 (.move (.cst (.nils))),
 X.m 3 16]
def C.bf4 : LO := C.bf4_b
def C.bf4_w := pO C.bf4.eq_1
def C.cc2 : ICode := .seq (.region C.bf4) .ret
def C.cc2_w := pC C.cc2.eq_1
def C.cc3 : ICode := .keep [0, 4, 15] (.cond (X.s 15) C.cc2 .skip)
def C.cc3_w := pC C.cc3.eq_1
def C.bf2_b : LO := [
 X.m 14 4,
 X.o 15 (.bin .neq (X.s 14) (X.i 0))]
def C.bf2 : LO := C.bf2_b
def C.bf2_w := pO C.bf2.eq_1
def C.cc4 : ICode := .keep [0, 4] (.seq (.region C.bf2) C.cc3)
def C.cc4_w := pC C.cc4.eq_1
def C.bfr_b : LO := [
 X.m 12 0,
 X.o 13 (.call F.q80 [X.s 12]),
 X.m 4 13]
def C.bfr : LO := C.bfr_b
def C.bfr_w := pO C.bfr.eq_1
def C.cc5 : ICode := .keep [0] (.seq (.seq (.region C.bfr) C.cc4) C.cc1)
def C.cc5_w := pC C.cc5.eq_1
def C.bfp_b : LO := [
 X.o 2 (.move (.cst (.nils))),
 X.o 3 (.move (X.i 0))]
def C.bfp : LO := C.bfp_b
def C.bfp_w := pO C.bfp.eq_1
def C.q76 : IFunc := ⟨1, [.slot 2, .slot 3], .seq (.region C.bfp) C.cc5⟩
def C.q76_W := aI (aI (aI (aI (aI @C.bf3_w (aI @C.cch_w @C.bf1_w)) (aI @C.cct_w (aI @C.bf0_w @C.cc0_w))) (aI (aI @C.bfz_w (aI @C.ccf_w @C.cc6_w)) (aI (aI @C.cc7_w @C.bfq_w) (aI @C.ccg_w @C.cc8_w)))) (aI (aI (aI @C.bfy_w (aI @C.ccj_w @C.bfx_w)) (aI @C.cck_w (aI @C.bfw_w @C.ccl_w))) (aI (aI @C.bfv_w (aI @C.ccm_w @C.ccn_w)) (aI (aI @C.bft_w @C.ccp_w) (aI @C.bfs_w @C.cb9_w))))) (aI (aI (aI (aI @C.ccr_w (aI @C.ccs_w @C.bgb_w)) (aI @C.ccb_w (aI @C.ccv_w @C.bf9_w))) (aI (aI @C.ccc_w (aI @C.ccw_w @C.ccx_w)) (aI (aI @C.bf8_w @C.ccd_w) (aI @C.ccy_w @C.bf7_w)))) (aI (aI (aI @C.ccq_w (aI @C.bf6_w @C.ccz_w)) (aI @C.bf5_w (aI @C.cc1_w @C.bf4_w))) (aI (aI @C.cc2_w (aI @C.cc3_w @C.bf2_w)) (aI (aI @C.cc4_w @C.bfr_w) (aI @C.cc5_w @C.bfp_w)))))
def C.q76_B := aI (aI (aI (aI @C.bf3_b.eq_1 @C.bf1_b.eq_1) (aI @C.bf0_b.eq_1 (aI @C.bfz_b.eq_1 @C.bfq_b.eq_1))) (aI (aI @C.bfy_b.eq_1 @C.bfx_b.eq_1) (aI @C.bfw_b.eq_1 (aI @C.bfv_b.eq_1 @C.bft_b.eq_1)))) (aI (aI (aI @C.bfs_b.eq_1 @C.bgb_b.eq_1) (aI @C.bf9_b.eq_1 (aI @C.bf8_b.eq_1 @C.bf7_b.eq_1))) (aI (aI @C.bf6_b.eq_1 (aI @C.bf5_b.eq_1 @C.bf4_b.eq_1)) (aI @C.bf2_b.eq_1 (aI @C.bfr_b.eq_1 @C.bfp_b.eq_1))))

def C.sf_b : LO := [
 X.o 6 (.load1 (X.s 3)),
 X.o 7 (.nilchk (X.s 6)),
 X.o 8 (.fldAddr 1 (X.s 7)),
 X.o 9 (.load1 (X.s 8)),
 X.m 10 0,
 X.o 11 (.load1 (X.s 2)),
 X.m 12 0,
 X.o 13 (.loadN 2 (X.s 5)),
 ⟨some 14, .callv (X.s 11) [X.s 12, X.s 13], none, [⟨.load1 (X.s 3), 6, none⟩, ⟨.load1 (X.s 8), 9, none⟩], []⟩,
 X.o 15 (.idxAddr 1 (X.s 9) (X.s 10)),
 X.n (.store1 (X.s 15) (X.s 14))]
def C.sf : LO := C.sf_b
def C.sf_w := pO C.sf.eq_1
def C.b19 : ICode := .keep [0, 2, 3, 5] (.region C.sf)
def C.b19_w := pC C.b19.eq_1
def C.sd_b : LO := [
 X.o 5 (.boxN (X.s 1))]
def C.sd : LO := C.sd_b
def C.sd_w := pO C.sd.eq_1
def C.q116 : IFunc := ⟨4, [], .seq (.region C.sd) C.b19⟩
def C.q116_W := aI @C.sf_w (aI @C.b19_w @C.sd_w)
def C.q116_B := aI @C.sf_b.eq_1 @C.sd_b.eq_1

def C.bhb_b : LO := [
 X.o 2 (.move (X.i 0))]
def C.bhb : LO := C.bhb_b
def C.bhb_w := pO C.bhb.eq_1
def C.cfc : ICode := .keep [] (.seq (.region C.bhb) .ret)
def C.cfc_w := pC C.cfc.eq_1
def C.bg9_b : LO := [
 X.o 31 (.bin .add (X.s 12) (X.i 1)),
 X.m 12 31]
def C.bg9 : LO := C.bg9_b
def C.bg9_w := pO C.bg9.eq_1
def C.cfk : ICode := .keep [0, 10, 11, 12] (.region C.bg9)
def C.cfk_w := pC C.cfk.eq_1
def C.bg8_b : LO := [
 X.o 30 (.bin .add (X.s 18) (X.i 1)),
 X.m 18 30]
def C.bg8 : LO := C.bg8_b
def C.bg8_w := pO C.bg8.eq_1
def C.cfr : ICode := .keep [0, 10, 11, 12, 16, 17, 18] (.region C.bg8)
def C.cfr_w := pC C.cfr.eq_1
def C.bg7_b : LO := [
 X.o 2 (.move (X.i 4))]
def C.bg7 : LO := C.bg7_b
def C.bg7_w := pO C.bg7.eq_1
def C.cfs : ICode := .seq (.region C.bg7) .ret
def C.cfs_w := pC C.cfs.eq_1
def C.cft : ICode := .keep [0, 10, 11, 12, 16, 17, 18, 29] (.cond (X.s 29) C.cfs .skip)
def C.cft_w := pC C.cft.eq_1
def C.bhl_b : LO := [
 X.m 22 6,
 X.o 23 (.bin .lss (X.s 22) (X.i 0)),
 X.m 24 23,
 X.f 24 25 (.move (X.s 6)),
 X.f 24 26 (.move (X.s 0)),
 X.f 24 27 (.len (X.s 26)),
 X.f 24 28 (.bin .geq (X.s 25) (X.s 27)),
 X.o 29 (.pick (X.s 24) (.cst (.bool true)) (X.s 28))]
def C.bhl : LO := C.bhl_b
def C.bhl_w := pO C.bhl.eq_1
def C.cfv : ICode := .keep [0, 6, 10, 11, 12, 16, 17, 18] (.seq (.region C.bhl) C.cft)
def C.cfv_w := pC C.cfv.eq_1
def C.bhk_b : LO := [
 X.o 20 (.idxAddr 1 (X.s 16) (X.s 18)),
 X.o 21 (.load1 (X.s 20)),
 X.m 6 21]
def C.bhk : LO := C.bhk_b
def C.bhk_w := pO C.bhk.eq_1
def C.cfb : ICode := .seq (.region C.bhk) C.cfv
def C.cfb_w := pC C.cfb.eq_1
def C.cfw : ICode := .keep [0, 10, 11, 12, 16, 17, 18] (.seq (.block 3 C.cfb) C.cfr)
def C.cfw_w := pC C.cfw.eq_1
def C.cfx : ICode := .keep [0, 10, 11, 12, 16, 17, 18, 19] (.seq (.cond (X.s 19) .skip (.exit 2)) C.cfw)
def C.cfx_w := pC C.cfx.eq_1
def C.bhj_b : LO := [
 X.o 19 (.bin .lss (X.s 18) (X.s 17))]
def C.bhj : LO := C.bhj_b
def C.bhj_w := pO C.bhj.eq_1
def C.ckl : ICode := .keep [0, 10, 11, 12, 16, 17, 18] (.seq (.region C.bhj) C.cfx)
def C.ckl_w := pC C.ckl.eq_1
def C.cd7 : ICode := .loop C.ckl
def C.cd7_w := pC C.cd7.eq_1
def C.cfd : ICode := .keep [0, 10, 11, 12, 16, 17, 18] (.block 2 C.cd7)
def C.cfd_w := pC C.cfd.eq_1
def C.bhh_b : LO := [
 X.m 16 4,
 X.o 17 (.len (X.s 16)),
 X.o 18 (.move (X.i 0))]
def C.bhh : LO := C.bhh_b
def C.bhh_w := pO C.bhh.eq_1
def C.cff : ICode := .keep [0, 4, 10, 11, 12] (.seq (.region C.bhh) C.cfd)
def C.cff_w := pC C.cff.eq_1
def C.bhg_b : LO := [
 X.o 14 (.idxAddr 1 (X.s 10) (X.s 12)),
 X.o 15 (.load1 (X.s 14)),
 X.m 4 15]
def C.bhg : LO := C.bhg_b
def C.bhg_w := pO C.bhg.eq_1
def C.cd8 : ICode := .seq (.region C.bhg) C.cff
def C.cd8_w := pC C.cd8.eq_1
def C.cfg : ICode := .keep [0, 10, 11, 12] (.seq (.block 1 C.cd8) C.cfk)
def C.cfg_w := pC C.cfg.eq_1
def C.cfh : ICode := .keep [0, 10, 11, 12, 13] (.seq (.cond (X.s 13) .skip (.exit 0)) C.cfg)
def C.cfh_w := pC C.cfh.eq_1
def C.bhf_b : LO := [
 X.o 13 (.bin .lss (X.s 12) (X.s 11))]
def C.bhf : LO := C.bhf_b
def C.bhf_w := pO C.bhf.eq_1
def C.ckm : ICode := .keep [0, 10, 11, 12] (.seq (.region C.bhf) C.cfh)
def C.ckm_w := pC C.ckm.eq_1
def C.cd9 : ICode := .loop C.ckm
def C.cd9_w := pC C.cd9.eq_1
def C.cfj : ICode := .keep [0, 10, 11, 12] (.block 0 C.cd9)
def C.cfj_w := pC C.cfj.eq_1
def C.bhd_b : LO := [
 X.m 10 0,
 X.o 11 (.len (X.s 10)),
 X.o 12 (.move (X.i 0))]
def C.bhd : LO := C.bhd_b
def C.bhd_w := pO C.bhd.eq_1
def C.cfl : ICode := .keep [0] (.seq (.seq (.region C.bhd) C.cfj) C.cfc)
def C.cfl_w := pC C.cfl.eq_1
def C.bhc_b : LO := [
 X.o 2 (.move (X.i 1))]
def C.bhc : LO := C.bhc_b
def C.bhc_w := pO C.bhc.eq_1
def C.cfm : ICode := .seq (.region C.bhc) .ret
def C.cfm_w := pC C.cfm.eq_1
def C.cfn : ICode := .keep [0, 9] (.cond (X.s 9) C.cfm .skip)
def C.cfn_w := pC C.cfn.eq_1
def C.bg6_b : LO := [
 X.m 7 0,
 X.o 8 (.len (X.s 7)),
 X.o 9 (.bin .gtr (X.s 8) (X.i 100))]
def C.bg6 : LO := C.bg6_b
def C.bg6_w := pO C.bg6.eq_1
def C.cfp : ICode := .keep [0] (.seq (.seq (.region C.bg6) C.cfn) C.cfl)
def C.cfp_w := pC C.cfp.eq_1
def C.bg5_b : LO := [
 X.o 2 (.move (X.i 0))]
def C.bg5 : LO := C.bg5_b
def C.bg5_w := pO C.bg5.eq_1
def C.q80 : IFunc := ⟨1, [.slot 2], .seq (.region C.bg5) C.cfp⟩
def C.q80_W := aI (aI (aI (aI (aI @C.bhb_w @C.cfc_w) (aI @C.bg9_w @C.cfk_w)) (aI (aI @C.bg8_w @C.cfr_w) (aI @C.bg7_w @C.cfs_w))) (aI (aI (aI @C.cft_w @C.bhl_w) (aI @C.cfv_w @C.bhk_w)) (aI (aI @C.cfb_w @C.cfw_w) (aI @C.cfx_w (aI @C.bhj_w @C.cd7_w))))) (aI (aI (aI (aI @C.cfd_w @C.bhh_w) (aI @C.cff_w @C.bhg_w)) (aI (aI @C.cd8_w @C.cfg_w) (aI @C.cfh_w (aI @C.bhf_w @C.cd9_w)))) (aI (aI (aI @C.cfj_w @C.bhd_w) (aI @C.cfl_w @C.bhc_w)) (aI (aI @C.cfm_w @C.cfn_w) (aI @C.bg6_w (aI @C.cfp_w @C.bg5_w)))))
def C.q80_B := aI (aI (aI @C.bhb_b.eq_1 (aI @C.bg9_b.eq_1 @C.bg8_b.eq_1)) (aI (aI @C.bg7_b.eq_1 @C.bhl_b.eq_1) (aI @C.bhk_b.eq_1 @C.bhj_b.eq_1))) (aI (aI @C.bhh_b.eq_1 (aI @C.bhg_b.eq_1 @C.bhf_b.eq_1)) (aI (aI @C.bhd_b.eq_1 @C.bhc_b.eq_1) (aI @C.bg6_b.eq_1 @C.bg5_b.eq_1)))

def C.bgm_b : LO := [
 X.m 53 2,
 X.m 54 3,
 X.m 2 53,
 X.m 3 54]
def C.bgm : LO := C.bgm_b
def C.bgm_w := pO C.bgm.eq_1
def C.cdf : ICode := .keep [2, 3] (.seq (.region C.bgm) .ret)
def C.cdf_w := pC C.cdf.eq_1
def C.bgl_b : LO := [
 X.o 52 (.bin .add (X.s 17) (X.i 1)),
 X.m 17 52]
def C.bgl : LO := C.bgl_b
def C.bgl_w := pO C.bgl.eq_1
def C.cdp : ICode := .keep [2, 3, 15, 16, 17] (.region C.bgl)
def C.cdp_w := pC C.cdp.eq_1
def C.bgk_b : LO := [
 X.o 51 (.bin .add (X.s 25) (X.i 1)),
 X.m 25 51]
def C.bgk : LO := C.bgk_b
def C.bgk_w := pO C.bgk.eq_1
def C.cdw : ICode := .keep [2, 3, 4, 6, 15, 16, 17, 23, 24, 25] (.region C.bgk)
def C.cdw_w := pC C.cdw.eq_1
def C.bgj_b : LO := [
 X.m 41 3,
 X.m 42 8,
 X.m 43 3,
 X.m 44 8,
 X.o 45 (.idxAddr 1 (X.s 43) (X.s 44)),
 X.o 46 (.load1 (X.s 45)),
 X.m 47 4,
 X.o 48 (.buildSlice 1 1 [.int .i64 0] [(0, 1, X.s 47)]),
 X.o 49 (.append 1 8 (X.s 46) (X.s 48)),
 X.o 50 (.idxAddr 1 (X.s 41) (X.s 42)),
 X.n (.store1 (X.s 50) (X.s 49))]
def C.bgj : LO := C.bgj_b
def C.bgj_w := pO C.bgj.eq_1
def C.cdx : ICode := .keep [2, 3, 4, 6, 8, 15, 16, 17, 23, 24, 25] (.region C.bgj)
def C.cdx_w := pC C.cdx.eq_1
def C.bgh_b : LO := [
 X.m 35 2,
 X.m 36 4,
 X.o 37 (.idxAddr 1 (X.s 35) (X.s 36)),
 X.o 38 (.load1 (X.s 37)),
 X.o 39 (.bin .add (X.s 38) (X.i 1)),
 X.o 40 (.idxAddr 1 (X.s 35) (X.s 36)),
 X.n (.store1 (X.s 40) (X.s 39))]
def C.bgh : LO := C.bgh_b
def C.bgh_w := pO C.bgh.eq_1
def C.cdy : ICode := .keep [2, 3, 4, 6, 8, 15, 16, 17, 23, 24, 25] (.seq (.region C.bgh) C.cdx)
def C.cdy_w := pC C.cdy.eq_1
def C.bgg_b : LO := [
 X.m 32 6,
 X.m 33 8,
 X.o 34 (.call F.q78 [X.s 32, X.s 33])]
def C.bgg : LO := C.bgg_b
def C.bgg_w := pO C.bgg.eq_1
def C.cdq : ICode := .keep [2, 3, 4, 6, 8, 15, 16, 17, 23, 24, 25] (.seq (.region C.bgg) C.cdy)
def C.cdq_w := pC C.cdq.eq_1
def C.cdz : ICode := .keep [2, 3, 4, 6, 8, 15, 16, 17, 23, 24, 25, 31] (.cond (X.s 31) (.exit 3) .skip)
def C.cdz_w := pC C.cdz.eq_1
def C.bgf_b : LO := [
 X.m 29 6,
 X.m 30 8,
 X.o 31 (.call F.q79 [X.s 29, X.s 30])]
def C.bgf : LO := C.bgf_b
def C.bgf_w := pO C.bgf.eq_1
def C.cd0 : ICode := .keep [2, 3, 4, 6, 8, 15, 16, 17, 23, 24, 25] (.seq (.seq (.region C.bgf) C.cdz) C.cdq)
def C.cd0_w := pC C.cd0.eq_1
def C.bgx_b : LO := [
 X.o 27 (.idxAddr 1 (X.s 23) (X.s 25)),
 X.o 28 (.load1 (X.s 27)),
 X.m 8 28]
def C.bgx : LO := C.bgx_b
def C.bgx_w := pO C.bgx.eq_1
def C.cdd : ICode := .seq (.region C.bgx) C.cd0
def C.cdd_w := pC C.cdd.eq_1
def C.cdg : ICode := .keep [2, 3, 4, 6, 15, 16, 17, 23, 24, 25] (.seq (.block 3 C.cdd) C.cdw)
def C.cdg_w := pC C.cdg.eq_1
def C.cdh : ICode := .keep [2, 3, 4, 6, 15, 16, 17, 23, 24, 25, 26] (.seq (.cond (X.s 26) .skip (.exit 2)) C.cdg)
def C.cdh_w := pC C.cdh.eq_1
def C.bgw_b : LO := [
 X.o 26 (.bin .lss (X.s 25) (X.s 24))]
def C.bgw : LO := C.bgw_b
def C.bgw_w := pO C.bgw.eq_1
def C.ckj : ICode := .keep [2, 3, 4, 6, 15, 16, 17, 23, 24, 25] (.seq (.region C.bgw) C.cdh)
def C.ckj_w := pC C.ckj.eq_1
def C.cc9 : ICode := .loop C.ckj
def C.cc9_w := pC C.cc9.eq_1
def C.cdj : ICode := .keep [2, 3, 4, 6, 15, 16, 17, 23, 24, 25] (.block 2 C.cc9)
def C.cdj_w := pC C.cdj.eq_1
def C.bgv_b : LO := [
 X.m 23 5,
 X.o 24 (.len (X.s 23)),
 X.o 25 (.move (X.i 0))]
def C.bgv : LO := C.bgv_b
def C.bgv_w := pO C.bgv.eq_1
def C.cdk : ICode := .keep [2, 3, 4, 5, 6, 15, 16, 17] (.seq (.region C.bgv) C.cdj)
def C.cdk_w := pC C.cdk.eq_1
def C.bgt_b : LO := [
 X.o 22 (.makeMap none),
 X.m 6 22]
def C.bgt : LO := C.bgt_b
def C.bgt_w := pO C.bgt.eq_1
def C.cdl : ICode := .keep [2, 3, 4, 5, 15, 16, 17] (.seq (.region C.bgt) C.cdk)
def C.cdl_w := pC C.cdl.eq_1
def C.bgs_b : LO := [
 X.m 19 17,
 X.o 20 (.idxAddr 1 (X.s 15) (X.s 17)),
 X.o 21 (.load1 (X.s 20)),
 X.m 4 19,
 X.m 5 21]
def C.bgs : LO := C.bgs_b
def C.bgs_w := pO C.bgs.eq_1
def C.cdb : ICode := .seq (.region C.bgs) C.cdl
def C.cdb_w := pC C.cdb.eq_1
def C.cdm : ICode := .keep [2, 3, 15, 16, 17] (.seq (.block 1 C.cdb) C.cdp)
def C.cdm_w := pC C.cdm.eq_1
def C.cdn : ICode := .keep [2, 3, 15, 16, 17, 18] (.seq (.cond (X.s 18) .skip (.exit 0)) C.cdm)
def C.cdn_w := pC C.cdn.eq_1
def C.bgr_b : LO := [
 X.o 18 (.bin .lss (X.s 17) (X.s 16))]
def C.bgr : LO := C.bgr_b
def C.bgr_w := pO C.bgr.eq_1
def C.ckk : ICode := .keep [2, 3, 15, 16, 17] (.seq (.region C.bgr) C.cdn)
def C.ckk_w := pC C.ckk.eq_1
def C.cdc : ICode := .loop C.ckk
def C.cdc_w := pC C.cdc.eq_1
def C.cdr : ICode := .keep [2, 3, 15, 16, 17] (.block 0 C.cdc)
def C.cdr_w := pC C.cdr.eq_1
def C.bgp_b : LO := [
 X.m 15 0,
 X.o 16 (.len (X.s 15)),
 X.o 17 (.move (X.i 0))]
def C.bgp : LO := C.bgp_b
def C.bgp_w := pO C.bgp.eq_1
def C.cds : ICode := .keep [0, 2, 3] (.seq (.seq (.region C.bgp) C.cdr) C.cdf)
def C.cds_w := pC C.cds.eq_1
def C.bgn_b : LO := [
 X.m 12 0,
 X.o 13 (.len (X.s 12)),
 X.o 14 (.makeSlice 1 24 [.nils] (X.s 13) (X.s 13)),
 X.m 3 14]
def C.bgn : LO := C.bgn_b
def C.bgn_w := pO C.bgn.eq_1
def C.cdt : ICode := .keep [0, 2] (.seq (.region C.bgn) C.cds)
def C.cdt_w := pC C.cdt.eq_1
def C.bgd_b : LO := [
 X.m 9 0,
 X.o 10 (.len (X.s 9)),
 X.o 11 (.makeSlice 1 8 [.int .i64 0] (X.s 10) (X.s 10)),
 X.m 2 11]
def C.bgd : LO := C.bgd_b
def C.bgd_w := pO C.bgd.eq_1
def C.cdv : ICode := .keep [0] (.seq (.region C.bgd) C.cdt)
def C.cdv_w := pC C.cdv.eq_1
def C.bgc_b : LO := [
 X.o 2 (.move (.cst (.nils))),
 X.o 3 (.move (.cst (.nils)))]
def C.bgc : LO := C.bgc_b
def C.bgc_w := pO C.bgc.eq_1
def C.q77 : IFunc := ⟨1, [.slot 2, .slot 3], .seq (.region C.bgc) C.cdv⟩
def C.q77_W := aI (aI (aI (aI (aI @C.bgm_w @C.cdf_w) (aI @C.bgl_w (aI @C.cdp_w @C.bgk_w))) (aI (aI @C.cdw_w @C.bgj_w) (aI @C.cdx_w (aI @C.bgh_w @C.cdy_w)))) (aI (aI (aI @C.bgg_w @C.cdq_w) (aI @C.cdz_w (aI @C.bgf_w @C.cd0_w))) (aI (aI @C.bgx_w @C.cdd_w) (aI @C.cdg_w (aI @C.cdh_w @C.bgw_w))))) (aI (aI (aI (aI @C.cc9_w @C.cdj_w) (aI @C.bgv_w (aI @C.cdk_w @C.bgt_w))) (aI (aI @C.cdl_w @C.bgs_w) (aI @C.cdb_w (aI @C.cdm_w @C.cdn_w)))) (aI (aI (aI @C.bgr_w @C.cdc_w) (aI @C.cdr_w (aI @C.bgp_w @C.cds_w))) (aI (aI @C.bgn_w @C.cdt_w) (aI @C.bgd_w (aI @C.cdv_w @C.bgc_w)))))
def C.q77_B := aI (aI (aI (aI @C.bgm_b.eq_1 @C.bgl_b.eq_1) (aI @C.bgk_b.eq_1 @C.bgj_b.eq_1)) (aI (aI @C.bgh_b.eq_1 @C.bgg_b.eq_1) (aI @C.bgf_b.eq_1 @C.bgx_b.eq_1))) (aI (aI (aI @C.bgw_b.eq_1 @C.bgv_b.eq_1) (aI @C.bgt_b.eq_1 @C.bgs_b.eq_1)) (aI (aI @C.bgr_b.eq_1 @C.bgp_b.eq_1) (aI @C.bgn_b.eq_1 (aI @C.bgd_b.eq_1 @C.bgc_b.eq_1))))

def C.bg0_b : LO := [
 X.m 13 6,
 X.m 4 13]
def C.bg0 : LO := C.bg0_b
def C.bg0_w := pO C.bg0.eq_1
def C.cd1 : ICode := .keep [6] (.seq (.region C.bg0) .ret)
def C.cd1_w := pC C.cd1.eq_1
def C.bgz_b : LO := [
 X.m 8 0,
 X.m 9 1,
 X.o 10 (.lookup (.agg []) true (X.s 8) (X.s 9)),
 X.m 7 10,
 X.o 11 (.extract (X.s 7) 0),
 X.o 12 (.extract (X.s 7) 1),
 X.o 5 (.alloc []),
 X.n (.storeN 0 (X.s 5) (X.s 11)),
 X.m 6 12]
def C.bgz : LO := C.bgz_b
def C.bgz_w := pO C.bgz.eq_1
def C.cd2 : ICode := .keep [0, 1] (.seq (.region C.bgz) C.cd1)
def C.cd2_w := pC C.cd2.eq_1
def C.bgq_b : LO := [
 X.o 4 (.move (.cst (.bool false)))]
def C.bgq : LO := C.bgq_b
def C.bgq_w := pO C.bgq.eq_1
def C.q79 : IFunc := ⟨2, [.slot 4], .seq (.region C.bgq) C.cd2⟩
def C.q79_W := aI (aI @C.bg0_w @C.cd1_w) (aI @C.bgz_w (aI @C.cd2_w @C.bgq_w))
def C.q79_B := aI @C.bg0_b.eq_1 (aI @C.bgz_b.eq_1 @C.bgq_b.eq_1)

def C.bgy_b : LO := [
 X.m 4 0,
 X.m 5 1,
 X.o 6 (.build [] []),
 X.n (.mapSet (X.s 4) (X.s 5) (X.s 6))]
def C.bgy : LO := C.bgy_b
def C.bgy_w := pO C.bgy.eq_1
def C.q78 : IFunc := ⟨2, [], .region C.bgy⟩
def C.q78_W := @C.bgy_w
def C.q78_B := @C.bgy_b.eq_1

def C.z0 := aI @C.d0_b.eq_1 (aI @C.d4_b.eq_1 (aI @C.d5_b.eq_1 (aI @C.d6_b.eq_1 @C.d7_b.eq_1)))
def C.z1 := aI @C.dz_b.eq_1 (aI @C.d1_b.eq_1 (aI @C.d2_b.eq_1 @C.d3_b.eq_1))
def C.z2 := aI @C.d8_b.eq_1 (aI @C.d9_b.eq_1 (aI @C.fb_b.eq_1 @C.fc_b.eq_1))
def C.z3 := aI @C.fj_b.eq_1 (aI @C.fk_b.eq_1 (aI @C.fl_b.eq_1 @C.fm_b.eq_1))
def C.z4 := aI @C.fs_b.eq_1 (aI @C.ft_b.eq_1 @C.fv_b.eq_1)
def C.z5 := aI @C.f0_b.eq_1 @C.f1_b.eq_1
def C.z6 := aI @C.gc_b.eq_1 (aI @C.gd_b.eq_1 (aI @C.ht_b.eq_1 @C.hv_b.eq_1))
def C.z7 := aI @C.gf_b.eq_1 @C.gg_b.eq_1
def C.z8 := aI @C.gh_b.eq_1 (aI @C.gj_b.eq_1 (aI @C.gk_b.eq_1 (aI @C.gl_b.eq_1 (aI @C.gm_b.eq_1 (aI @C.gp_b.eq_1 (aI @C.gr_b.eq_1 (aI @C.gs_b.eq_1 (aI @C.gt_b.eq_1 @C.gv_b.eq_1))))))))
def C.z9 := aI @C.gb_b.eq_1 (aI @C.gn_b.eq_1 (aI @C.g0_b.eq_1 @C.hs_b.eq_1))
def C.z10 := aI @C.gw_b.eq_1 @C.gx_b.eq_1
def C.z11 := aI @C.gy_b.eq_1 @C.gq_b.eq_1
def C.z12 := aI @C.gz_b.eq_1 (aI @C.g1_b.eq_1 @C.g2_b.eq_1)
def C.z13 := aI @C.g3_b.eq_1 @C.g4_b.eq_1
def C.z14 := aI @C.g5_b.eq_1 @C.g6_b.eq_1
def C.z15 := aI @C.g7_b.eq_1 @C.g8_b.eq_1
def C.z16 := aI @C.g9_b.eq_1 @C.hb_b.eq_1
def C.z17 := aI @C.hd_b.eq_1 (aI @C.hf_b.eq_1 (aI @C.hg_b.eq_1 (aI @C.hh_b.eq_1 (aI @C.hj_b.eq_1 (aI @C.hk_b.eq_1 (aI @C.hl_b.eq_1 (aI @C.hm_b.eq_1 @C.hn_b.eq_1)))))))
def C.z18 := aI @C.hc_b.eq_1 (aI @C.hp_b.eq_1 @C.hr_b.eq_1)
def C.z19 := aI @C.hy_b.eq_1 @C.hq_b.eq_1
def C.z20 := aI @C.h0_b.eq_1 (aI @C.h1_b.eq_1 (aI @C.h2_b.eq_1 @C.h3_b.eq_1))
def C.z21 := aI @C.h4_b.eq_1 (aI @C.h5_b.eq_1 @C.h6_b.eq_1)
def C.z22 := aI @C.h7_b.eq_1 @C.h8_b.eq_1
def C.z23 := aI @C.jb_b.eq_1 @C.jc_b.eq_1
def C.z24 := aI @C.jf_b.eq_1 @C.jg_b.eq_1
def C.z25 := aI @C.jk_b.eq_1 (aI @C.jl_b.eq_1 (aI @C.jm_b.eq_1 (aI @C.jn_b.eq_1 @C.jq_b.eq_1)))
def C.z26 := aI @C.jp_b.eq_1 (aI @C.jr_b.eq_1 (aI @C.jw_b.eq_1 (aI @C.jx_b.eq_1 @C.jy_b.eq_1)))
def C.z27 := aI @C.jj_b.eq_1 (aI @C.js_b.eq_1 (aI @C.jt_b.eq_1 @C.jv_b.eq_1))
def C.z28 := aI @C.jz_b.eq_1 @C.j0_b.eq_1
def C.z29 := aI @C.j1_b.eq_1 @C.j2_b.eq_1
def C.z30 := aI @C.j3_b.eq_1 @C.j4_b.eq_1
def C.z31 := aI @C.j5_b.eq_1 @C.j6_b.eq_1
def C.z32 := aI @C.j7_b.eq_1 (aI @C.j8_b.eq_1 (aI @C.j9_b.eq_1 (aI @C.kb_b.eq_1 (aI @C.kc_b.eq_1 (aI @C.kd_b.eq_1 (aI @C.kf_b.eq_1 (aI @C.kg_b.eq_1 @C.kh_b.eq_1)))))))
def C.z33 := aI @C.l2_b.eq_1 (aI @C.l3_b.eq_1 @C.l5_b.eq_1)
def C.z34 := aI @C.l8_b.eq_1 (aI @C.l9_b.eq_1 @C.md_b.eq_1)
def C.z35 := aI @C.mk_b.eq_1 (aI @C.ml_b.eq_1 @C.mm_b.eq_1)
def C.z36 := aI @C.mn_b.eq_1 (aI @C.mp_b.eq_1 (aI @C.mr_b.eq_1 (aI @C.ms_b.eq_1 @C.mt_b.eq_1)))
def C.z37 := aI @C.mw_b.eq_1 (aI @C.mx_b.eq_1 (aI @C.my_b.eq_1 (aI @C.mq_b.eq_1 (aI @C.mv_b.eq_1 (aI @C.m0_b.eq_1 (aI @C.m1_b.eq_1 (aI @C.m2_b.eq_1 (aI @C.m3_b.eq_1 (aI @C.m4_b.eq_1 (aI @C.m5_b.eq_1 (aI @C.m6_b.eq_1 @C.m7_b.eq_1)))))))))))
def C.z38 := aI @C.m8_b.eq_1 (aI @C.m9_b.eq_1 (aI @C.nb_b.eq_1 (aI @C.nc_b.eq_1 (aI @C.nd_b.eq_1 @C.nf_b.eq_1))))
def C.z39 := aI @C.bl1_w (aI @C.bl2_w (aI @C.bl4_w (aI @C.bl3_w (aI @C.bmb_w (aI @C.bmc_w (aI @C.bmd_w (aI @C.bmf_w (aI @C.d0_w (aI @C.d4_w (aI @C.d5_w (aI @C.d6_w @C.d7_w)))))))))))
def C.z40 := aI @C.bl5_w (aI @C.bl6_w (aI @C.bl7_w (aI @C.bl8_w (aI @C.bl9_w (aI @C.dz_w (aI @C.d1_w (aI @C.d2_w @C.d3_w)))))))
def C.z41 := aI @C.bmg_w (aI @C.bmh_w (aI @C.bmj_w (aI @C.bmk_w (aI @C.bml_w (aI @C.b2d_w (aI @C.d8_w (aI @C.d9_w (aI @C.fb_w @C.fc_w))))))))
def C.z42 := aI @C.bmm_w (aI @C.c2_w @C.c3_w)
def C.z43 := aI @C.bmn_w (aI @C.bms_w (aI @C.bmt_w (aI @C.bmv_w (aI @C.bmw_w (aI @C.fj_w (aI @C.fk_w (aI @C.fl_w @C.fm_w)))))))
def C.z44 := aI @C.bm2_w (aI @C.bm3_w (aI @C.bm4_w (aI @C.bm5_w (aI @C.fs_w (aI @C.ft_w @C.fv_w)))))
def C.z45 := aI @C.bnb_w (aI @C.bnc_w (aI @C.bnd_w (aI @C.bnf_w (aI @C.bng_w (aI @C.c4_w (aI @C.c5_w (aI @C.c6_w @C.c7_w)))))))
def C.z46 := aI @C.bnn_w (aI @C.bnp_w (aI @C.bnr_w (aI @C.db_w @C.dc_w)))
def C.z47 := aI @C.bny_w @C.b9_w
def C.z48 := aI @C.bnq_w (aI @C.f0_w @C.f1_w)
def C.z49 := aI @C.bn0_w (aI @C.bn1_w (aI @C.bn2_w (aI @C.c8_w @C.c9_w)))
def C.z50 := aI @C.bn5_w (aI @C.bpk_w (aI @C.bpl_w (aI @C.bpm_w (aI @C.bpn_w (aI @C.bpp_w (aI @C.bpy_w (aI @C.bp3_w (aI @C.brd_w (aI @C.brm_w (aI @C.brv_w (aI @C.br0_w (aI @C.hd_w (aI @C.hf_w (aI @C.hg_w (aI @C.hh_w (aI @C.hj_w (aI @C.hk_w (aI @C.hl_w (aI @C.hm_w @C.hn_w)))))))))))))))))))
def C.z51 := aI @C.bn6_w (aI @C.tn_w (aI @C.bpt_w (aI @C.g9_w @C.hb_w)))
def C.z52 := aI @C.bn7_w (aI @C.bps_w (aI @C.bpv_w (aI @C.blb_w (aI @C.g7_w @C.g8_w))))
def C.z53 := aI @C.bn8_w (aI @C.bpw_w (aI @C.tp_w (aI @C.g5_w @C.g6_w)))
def C.z54 := aI @C.bn9_w (aI @C.bpx_w (aI @C.bpq_w (aI @C.blc_w (aI @C.g3_w @C.g4_w))))
def C.z55 := aI @C.bpb_w (aI @C.bpz_w (aI @C.tr_w (aI @C.gy_w @C.gq_w)))
def C.z56 := aI @C.bpc_w (aI @C.bp2_w (aI @C.bp4_w (aI @C.blf_w (aI @C.gw_w @C.gx_w))))
def C.z57 := aI @C.bpd_w (aI @C.bp6_w (aI @C.bp7_w (aI @C.bp8_w (aI @C.bp9_w (aI @C.brb_w (aI @C.brc_w (aI @C.brf_w (aI @C.brg_w (aI @C.brh_w (aI @C.brj_w (aI @C.blg_w (aI @C.gh_w (aI @C.gj_w (aI @C.gk_w (aI @C.gl_w (aI @C.gm_w (aI @C.gp_w (aI @C.gr_w (aI @C.gs_w (aI @C.gt_w @C.gv_w))))))))))))))))))))
def C.z58 := aI @C.bpf_w (aI @C.bp5_w (aI @C.ts_w (aI @C.gf_w @C.gg_w)))
def C.z59 := aI @C.bpg_w (aI @C.brl_w (aI @C.brn_w (aI @C.brp_w (aI @C.brr_w (aI @C.tt_w (aI @C.gc_w (aI @C.gd_w (aI @C.ht_w @C.hv_w))))))))
def C.z60 := aI @C.bph_w (aI @C.bpj_w (aI @C.brs_w (aI @C.brt_w (aI @C.brw_w (aI @C.brx_w (aI @C.hc_w (aI @C.hp_w @C.hr_w)))))))
def C.z61 := aI @C.bpr_w @C.bh_w
def C.z62 := aI @C.bk9_w @C.bg_w
def C.z63 := aI @C.bp0_w (aI @C.bp1_w (aI @C.bld_w (aI @C.gz_w (aI @C.g1_w @C.g2_w))))
def C.z64 := aI @C.brk_w @C.bf_w
def C.z65 := aI @C.blh_w (aI @C.bry_w (aI @C.brq_w (aI @C.brz_w (aI @C.gb_w (aI @C.gn_w (aI @C.g0_w @C.hs_w))))))
def C.z66 := aI @C.br1_w (aI @C.bsf_w (aI @C.bsg_w (aI @C.bsh_w (aI @C.h4_w (aI @C.h5_w @C.h6_w)))))
def C.z67 := aI @C.br2_w (aI @C.bsk_w (aI @C.t4_w @C.ch_w))
def C.z68 := aI @C.br3_w (aI @C.bsl_w (aI @C.bsm_w (aI @C.bsn_w (aI @C.bsp_w (aI @C.bsr_w (aI @C.h0_w (aI @C.h1_w (aI @C.h2_w @C.h3_w))))))))
def C.z69 := aI @C.br6_w (aI @C.bsv_w (aI @C.bsw_w (aI @C.hy_w @C.hq_w)))
def C.z70 := aI @C.br5_w (aI @C.bsj_w (aI @C.bsq_w (aI @C.jb_w @C.jc_w)))
def C.z71 := aI @C.br8_w (aI @C.bs3_w (aI @C.bs4_w (aI @C.ck_w @C.cl_w)))
def C.z72 := aI @C.bsc_w (aI @C.bsd_w (aI @C.t3_w (aI @C.h7_w @C.h8_w)))
def C.z73 := aI @C.nr_w @C.bv_w
def C.z74 := aI @C.bst_w @C.cf_w
def C.z75 := aI @C.bsz_w @C.bp_w
def C.z76 := aI @C.bs0_w (aI @C.bs1_w (aI @C.bs2_w (aI @C.jf_w @C.jg_w)))
def C.z77 := aI @C.bs5_w @C.bm_w
def C.z78 := aI @C.bs9_w (aI @C.btb_w (aI @C.btf_w (aI @C.btg_w (aI @C.bth_w (aI @C.bln_w (aI @C.btd_w (aI @C.btl_w (aI @C.jp_w (aI @C.jr_w (aI @C.jw_w (aI @C.jx_w @C.jy_w)))))))))))
def C.z79 := aI @C.btc_w (aI @C.btr_w (aI @C.bts_w (aI @C.btt_w (aI @C.btv_w (aI @C.blp_w (aI @C.jk_w (aI @C.jl_w (aI @C.jm_w (aI @C.jn_w @C.jq_w)))))))))
def C.z80 := aI @C.blm_w @C.bw_w
def C.z81 := aI @C.btj_w (aI @C.btk_w (aI @C.btm_w (aI @C.btn_w (aI @C.btp_w (aI @C.jj_w (aI @C.js_w (aI @C.jt_w @C.jv_w)))))))
def C.z82 := aI @C.btw_w (aI @C.btx_w (aI @C.bty_w (aI @C.btq_w (aI @C.bt0_w (aI @C.bt1_w (aI @C.bt2_w (aI @C.bt3_w (aI @C.bt4_w (aI @C.bt5_w (aI @C.wn_w (aI @C.bt6_w (aI @C.bt7_w (aI @C.bt8_w (aI @C.bt9_w (aI @C.j7_w (aI @C.j8_w (aI @C.j9_w (aI @C.kb_w (aI @C.kc_w (aI @C.kd_w (aI @C.kf_w (aI @C.kg_w @C.kh_w))))))))))))))))))))))
def C.z83 := aI @C.btz_w (aI @C.bvg_w (aI @C.wp_w (aI @C.j1_w @C.j2_w)))
def C.z84 := aI @C.bvb_w (aI @C.bvc_w (aI @C.jz_w @C.j0_w))
def C.z85 := aI @C.bvd_w (aI @C.bx_w (aI @C.j5_w @C.j6_w))
def C.z86 := aI @C.bvf_w (aI @C.br_w (aI @C.j3_w @C.j4_w))
def C.z87 := aI @C.bw9_w (aI @C.bxb_w (aI @C.bxc_w (aI @C.bxd_w (aI @C.dd_w (aI @C.df_w (aI @C.dg_w @C.dh_w))))))
def C.z88 := aI @C.bxg_w (aI @C.bxw_w (aI @C.bxx_w (aI @C.dl_w @C.dm_w)))
def C.z89 := aI @C.bxj_w (aI @C.bx0_w (aI @C.bx2_w (aI @C.bx3_w (aI @C.l2_w (aI @C.l3_w @C.l5_w)))))
def C.z90 := aI @C.bxl_w (aI @C.bx5_w (aI @C.bx8_w (aI @C.byb_w (aI @C.dj_w (aI @C.dr_w @C.ds_w)))))
def C.z91 := aI @C.bxn_w (aI @C.bx9_w (aI @C.bym_w (aI @C.byn_w (aI @C.l8_w (aI @C.l9_w @C.md_w)))))
def C.z92 := aI @C.bxs_w (aI @C.bxt_w (aI @C.bxv_w (aI @C.cw_w @C.cx_w)))
def C.z93 := aI @C.bxp_w (aI @C.bxz_w (aI @C.bxy_w (aI @C.dk_w (aI @C.dn_w @C.dp_w))))
def C.z94 := aI @C.blx_w @C.b1_w
def C.z95 := aI @C.bjj_w @C.b2_w
def C.z96 := aI @C.byp_w (aI @C.byr_w (aI @C.byz_w (aI @C.by0_w (aI @C.mk_w (aI @C.ml_w @C.mm_w)))))
def C.z97 := aI @C.bys_w @C.bk_w
def C.z98 := aI @C.byt_w (aI @C.byv_w (aI @C.byw_w (aI @C.byx_w (aI @C.byy_w (aI @C.byq_w (aI @C.mn_w (aI @C.mp_w (aI @C.mr_w (aI @C.ms_w @C.mt_w)))))))))
def C.z99 := aI @C.by1_w (aI @C.by6_w (aI @C.by7_w (aI @C.cq_w @C.cz_w)))
def C.z100 := aI @C.by3_w (aI @C.by4_w (aI @C.bqx_w (aI @C.dt_w @C.dv_w)))
def C.z101 := aI @C.by5_w @C.c0_w
def C.z102 := aI @C.bqb_w (aI @C.bqc_w (aI @C.bqd_w (aI @C.bqf_w (aI @C.bqg_w (aI @C.bqh_w (aI @C.bqj_w (aI @C.bqk_w (aI @C.bql_w (aI @C.bqm_w (aI @C.bqn_w (aI @C.bqp_w (aI @C.bqr_w (aI @C.bqs_w (aI @C.bqt_w (aI @C.bqv_w (aI @C.bqw_w (aI @C.mw_w (aI @C.mx_w (aI @C.my_w (aI @C.mq_w (aI @C.mv_w (aI @C.m0_w (aI @C.m1_w (aI @C.m2_w (aI @C.m3_w (aI @C.m4_w (aI @C.m5_w (aI @C.m6_w @C.m7_w))))))))))))))))))))))))))))
def C.z103 := aI @C.blq_w @C.b4_w
def C.z104 := aI @C.blz_w @C.b3_w
def C.z105 := aI @C.bl0_w @C.c1_w
def C.z106 := aI @C.bqy_w (aI @C.bqq_w (aI @C.bqz_w (aI @C.bq0_w (aI @C.bq1_w (aI @C.bq2_w (aI @C.bq3_w (aI @C.m8_w (aI @C.m9_w (aI @C.nb_w (aI @C.nc_w (aI @C.nd_w @C.nf_w)))))))))))
def C.z107 := aI @C.bq8_w (aI @C.bq9_w (aI @C.bzb_w (aI @C.bzc_w (aI @C.dw_w (aI @C.dx_w (aI @C.dy_w @C.dq_w))))))
def Bt := aI @Bp (aI @aop.eq_28 @aop.eq_30)
def Bu := aI @Bq @Bs
end Go.Proofs.YtdmfgodajoojpaaGreatDoor.Cn
