/- The intermediate code of the functions, printed by a program out of the loaded program; that it is theirs is checked in the text of links. -/
import Derived.Test.YtdmfgodajoojpaaGreatDoorCnIr1
set_option linter.defProp false
namespace Go.Proofs.YtdmfgodajoojpaaGreatDoor.Cn
open Go
variable {P : Program} {Q : IExit → AFr → ASt → Prop} {fr : AFr} {st : ASt}


def C.dp_b : LO := [
 X.m 110 5,
 X.m 4 110]
def C.dp : LO := C.dp_b
def C.dp_w := pO C.dp.eq_1
def C.bxp : ICode := .keep [5] (.seq (.region C.dp) .ret)
def C.bxp_w := pC C.bxp.eq_1
def C.dn_b : LO := [
 X.m 105 0,
 X.o 106 (.nilchk (X.s 105)),
 X.o 107 (.fldAddr 2 (X.s 106)),
 X.o 108 (.load1 (X.s 107)),
 X.o 109 (.call F.q121 [X.s 108])]
def C.dn : LO := C.dn_b
def C.dn_w := pO C.dn.eq_1
def C.bxy : ICode := .keep [0, 5] (.seq (.region C.dn) C.bxp)
def C.bxy_w := pC C.bxy.eq_1
def C.b2_b : LO := [
 X.o 104 (.bin .add (X.s 76) (X.i 1)),
 X.m 76 104]
def C.b2 : LO := C.b2_b
def C.b2_w := pO C.b2.eq_1
def C.bjj : ICode := .keep [0, 5, 74, 75, 76] (.region C.b2)
def C.bjj_w := pC C.bjj.eq_1
def C.md_b : LO := [
 X.o 103 (.bin .add (X.s 90) (X.i 1)),
 X.m 90 103]
def C.md : LO := C.md_b
def C.md_w := pO C.md.eq_1
def C.bx9 : ICode := .keep [0, 5, 12, 13, 74, 75, 76, 88, 89, 90] (.region C.md)
def C.bx9_w := pC C.bx9.eq_1
def C.mc_b : LO := [
 X.m 99 13,
 X.o 100 (.fldAddr 4 (X.s 15)),
 X.o 101 (.load1 (X.s 100)),
 X.o 102 (.callv (X.s 99) [X.s 101])]
def C.mc : LO := C.mc_b
def C.mc_w := pO C.mc.eq_1
def C.byk : ICode := .keep [0, 5, 12, 13, 15, 74, 75, 76, 88, 89, 90, 98] (.cond (X.s 98) (.region C.mc) .skip)
def C.byk_w := pC C.byk.eq_1
def C.mb_b : LO := [
 X.o 94 (.fldAddr 1 (X.s 15)),
 X.o 95 (.load1 (X.s 94)),
 X.o 96 (.fldAddr 1 (X.s 12)),
 X.o 97 (.load1 (X.s 96)),
 X.o 98 (.bin .eql (X.s 95) (X.s 97))]
def C.mb : LO := C.mb_b
def C.mb_w := pO C.mb.eq_1
def C.byl : ICode := .keep [0, 5, 12, 13, 15, 74, 75, 76, 88, 89, 90] (.seq (.region C.mb) C.byk)
def C.byl_w := pC C.byl.eq_1
def C.l9_b : LO := [
 X.o 92 (.idxAddr 6 (X.s 88) (X.s 90)),
 X.o 93 (.loadN 6 (X.s 92)),
 X.o 15 (.alloc [.int .i64 0, .int .i64 0, .int .i64 0, .int .u32 0, .nilp, .nilp]),
 X.n (.storeN 6 (X.s 15) (X.s 93))]
def C.l9 : LO := C.l9_b
def C.l9_w := pO C.l9.eq_1
def C.bxn : ICode := .seq (.region C.l9) C.byl
def C.bxn_w := pC C.bxn.eq_1
def C.bym : ICode := .keep [0, 5, 12, 13, 74, 75, 76, 88, 89, 90] (.seq (.block 7 C.bxn) C.bx9)
def C.bym_w := pC C.bym.eq_1
def C.byn : ICode := .keep [0, 5, 12, 13, 74, 75, 76, 88, 89, 90, 91] (.seq (.cond (X.s 91) .skip (.exit 6)) C.bym)
def C.byn_w := pC C.byn.eq_1
def C.l8_b : LO := [
 X.o 91 (.bin .lss (X.s 90) (X.s 89))]
def C.l8 : LO := C.l8_b
def C.l8_w := pO C.l8.eq_1
def C.ckn : ICode := .keep [0, 5, 12, 13, 74, 75, 76, 88, 89, 90] (.seq (.region C.l8) C.byn)
def C.ckn_w := pC C.ckn.eq_1
def C.bxf : ICode := .loop C.ckn
def C.bxf_w := pC C.bxf.eq_1
def C.bxr : ICode := .keep [0, 5, 12, 13, 74, 75, 76, 88, 89, 90] (.block 6 C.bxf)
def C.bxr_w := pC C.bxr.eq_1
def C.l7_b : LO := [
 X.m 85 0,
 X.o 86 (.nilchk (X.s 85)),
 X.o 87 (.fldAddr 4 (X.s 86)),
 X.o 88 (.load1 (X.s 87)),
 X.o 89 (.len (X.s 88)),
 X.o 90 (.move (X.i 0))]
def C.l7 : LO := C.l7_b
def C.l7_w := pO C.l7.eq_1
def C.blw : ICode := .keep [0, 5, 12, 13, 74, 75, 76] (.seq (.region C.l7) C.bxr)
def C.blw_w := pC C.blw.eq_1
def C.bxs : ICode := .keep [0, 5, 12, 13, 74, 75, 76, 84] (.cond (X.s 84) (.exit 5) .skip)
def C.bxs_w := pC C.bxs.eq_1
def C.cx_b : LO := [
 X.m 83 13,
 X.o 84 (.eqP 3 false (X.s 83) (.cst (.nilf)))]
def C.cx : LO := C.cx_b
def C.cx_w := pO C.cx.eq_1
def C.bxt : ICode := .keep [0, 5, 12, 13, 74, 75, 76] (.seq (.seq (.region C.cx) C.bxs) C.blw)
def C.bxt_w := pC C.bxt.eq_1
def C.cw_b : LO := [
 X.o 80 (.fldAddr 0 (X.s 12)),
 X.o 81 (.load1 (X.s 80)),
 X.o 82 (.call F.q95 [X.s 81]),
 X.m 13 82]
def C.cw : LO := C.cw_b
def C.cw_w := pO C.cw.eq_1
def C.bxv : ICode := .keep [0, 5, 12, 74, 75, 76] (.seq (.region C.cw) C.bxt)
def C.bxv_w := pC C.bxv.eq_1
def C.dm_b : LO := [
 X.o 78 (.idxAddr 2 (X.s 74) (X.s 76)),
 X.o 79 (.loadN 2 (X.s 78)),
 X.o 12 (.alloc [.int .u8 0, .int .i64 0]),
 X.n (.storeN 2 (X.s 12) (X.s 79))]
def C.dm : LO := C.dm_b
def C.dm_w := pO C.dm.eq_1
def C.bxg : ICode := .seq (.region C.dm) C.bxv
def C.bxg_w := pC C.bxg.eq_1
def C.bxw : ICode := .keep [0, 5, 74, 75, 76] (.seq (.block 5 C.bxg) C.bjj)
def C.bxw_w := pC C.bxw.eq_1
def C.bxx : ICode := .keep [0, 5, 74, 75, 76, 77] (.seq (.cond (X.s 77) .skip (.exit 4)) C.bxw)
def C.bxx_w := pC C.bxx.eq_1
def C.dl_b : LO := [
 X.o 77 (.bin .lss (X.s 76) (X.s 75))]
def C.dl : LO := C.dl_b
def C.dl_w := pO C.dl.eq_1
def C.ckp : ICode := .keep [0, 5, 74, 75, 76] (.seq (.region C.dl) C.bxx)
def C.ckp_w := pC C.ckp.eq_1
def C.bxh : ICode := .loop C.ckp
def C.bxh_w := pC C.bxh.eq_1
def C.bxq : ICode := .keep [0, 5, 74, 75, 76] (.block 4 C.bxh)
def C.bxq_w := pC C.bxq.eq_1
def C.dk_b : LO := [
 X.m 70 0,
 X.o 71 (.nilchk (X.s 70)),
 X.o 72 (.fldAddr 1 (X.s 71)),
 X.o 73 (.load1 (X.s 72)),
 X.o 74 (.call F.q97 [X.s 73]),
 X.o 75 (.len (X.s 74)),
 X.o 76 (.move (X.i 0))]
def C.dk : LO := C.dk_b
def C.dk_w := pO C.dk.eq_1
def C.bxz : ICode := .keep [0, 5] (.seq (.seq (.region C.dk) C.bxq) C.bxy)
def C.bxz_w := pC C.bxz.eq_1
def C.cv_b : LO := [
 X.m 65 0,
 X.o 66 (.nilchk (X.s 65)),
 X.o 67 (.fldAddr 0 (X.s 66)),
 X.o 68 (.load1 (X.s 67)),
 X.o 69 (.call F.q22 [X.s 68])]
def C.cv : LO := C.cv_b
def C.cv_w := pO C.cv.eq_1
def C.lq : ICode := .keep [0, 5] (.seq (.region C.cv) C.bxz)
def C.lq_w := pC C.lq.eq_1
def C.l5_b : LO := [
 X.o 64 (.bin .add (X.s 44) (X.i 1)),
 X.m 44 64]
def C.l5 : LO := C.l5_b
def C.l5_w := pO C.l5.eq_1
def C.bx0 : ICode := .keep [0, 1, 5, 42, 43, 44] (.region C.l5)
def C.bx0_w := pC C.bx0.eq_1
def C.l4_b : LO := [
 X.o 49 (.fldAddr 5 (X.s 10)),
 X.o 50 (.load1 (X.s 49)),
 X.m 51 0,
 X.o 52 (.nilchk (X.s 51)),
 X.o 53 (.fldAddr 3 (X.s 52)),
 X.o 54 (.load1 (X.s 53)),
 X.m 55 9,
 X.m 58 1,
 X.m 59 9,
 X.o 60 (.bin .shr (X.s 58) (X.s 59)),
 X.o 61 (.bin .and (X.s 60) (.cst (.int .u32 1))),
 X.o 62 (.bin .eql (X.s 61) (.cst (.int .u32 1))),
 ⟨some 56, .call F.q7 [X.s 54, X.s 55], none, [⟨.load1 (X.s 49), 50, none⟩], []⟩,
 X.o 57 (.bin .gtr (X.s 56) (X.i 0)),
 X.o 63 (.call F.q104 [X.s 50, X.s 57, X.s 62])]
def C.l4 : LO := C.l4_b
def C.l4_w := pO C.l4.eq_1
def C.bx1 : ICode := .keep [0, 1, 5, 9, 10, 42, 43, 44] (.region C.l4)
def C.bx1_w := pC C.bx1.eq_1
def C.l3_b : LO := [
 X.m 46 44,
 X.o 47 (.idxAddr 6 (X.s 42) (X.s 44)),
 X.o 48 (.loadN 6 (X.s 47)),
 X.o 10 (.alloc [.int .i64 0, .int .i64 0, .int .i64 0, .int .u32 0, .nilp, .nilp]),
 X.m 9 46,
 X.n (.storeN 6 (X.s 10) (X.s 48))]
def C.l3 : LO := C.l3_b
def C.l3_w := pO C.l3.eq_1
def C.bxj : ICode := .seq (.region C.l3) C.bx1
def C.bxj_w := pC C.bxj.eq_1
def C.bx2 : ICode := .keep [0, 1, 5, 42, 43, 44] (.seq (.block 3 C.bxj) C.bx0)
def C.bx2_w := pC C.bx2.eq_1
def C.bx3 : ICode := .keep [0, 1, 5, 42, 43, 44, 45] (.seq (.cond (X.s 45) .skip (.exit 2)) C.bx2)
def C.bx3_w := pC C.bx3.eq_1
def C.l2_b : LO := [
 X.o 45 (.bin .lss (X.s 44) (X.s 43))]
def C.l2 : LO := C.l2_b
def C.l2_w := pO C.l2.eq_1
def C.ckr : ICode := .keep [0, 1, 5, 42, 43, 44] (.seq (.region C.l2) C.bx3)
def C.ckr_w := pC C.ckr.eq_1
def C.bxk : ICode := .loop C.ckr
def C.bxk_w := pC C.bxk.eq_1
def C.bx4 : ICode := .keep [0, 1, 5, 42, 43, 44] (.block 2 C.bxk)
def C.bx4_w := pC C.bx4.eq_1
def C.l1_b : LO := [
 X.m 39 0,
 X.o 40 (.nilchk (X.s 39)),
 X.o 41 (.fldAddr 4 (X.s 40)),
 X.o 42 (.load1 (X.s 41)),
 X.o 43 (.len (X.s 42)),
 X.o 44 (.move (X.i 0))]
def C.l1 : LO := C.l1_b
def C.l1_w := pO C.l1.eq_1
def C.bjk : ICode := .keep [0, 1, 5] (.seq (.seq (.region C.l1) C.bx4) C.lq)
def C.bjk_w := pC C.bjk.eq_1
def C.dj_b : LO := [
 X.o 38 (.bin .add (X.s 24) (X.i 1)),
 X.m 24 38]
def C.dj : LO := C.dj_b
def C.dj_w := pO C.dj.eq_1
def C.bx5 : ICode := .keep [0, 1, 5, 23, 24] (.region C.dj)
def C.bx5_w := pC C.bx5.eq_1
def C.mj_b : LO := [
 X.m 34 5,
 X.o 35 (.loadN 4 (X.s 7)),
 X.o 36 (.buildSlice 4 1 [.int .i64 0, .int .i64 0, .bool false, .int .u32 0] [(0, 4, X.s 35)]),
 X.o 37 (.append 4 24 (X.s 34) (X.s 36)),
 X.m 5 37]
def C.mj : LO := C.mj_b
def C.mj_w := pO C.mj.eq_1
def C.bx6 : ICode := .keep [0, 1, 5, 7, 23, 24, 33] (.cond (X.s 33) (.region C.mj) .skip)
def C.bx6_w := pC C.bx6.eq_1
def C.mh_b : LO := [
 X.m 33 8]
def C.mh : LO := C.mh_b
def C.mh_w := pO C.mh.eq_1
def C.bx7 : ICode := .keep [0, 1, 5, 7, 8, 23, 24] (.seq (.region C.mh) C.bx6)
def C.bx7_w := pC C.bx7.eq_1
def C.b1_b : LO := [
 X.m 28 0,
 X.m 29 6,
 X.o 30 (.call F.q91 [X.s 28, X.s 29]),
 X.m 27 30,
 X.o 31 (.extract (X.s 27) 0),
 X.o 32 (.extract (X.s 27) 1),
 X.o 7 (.alloc [.int .i64 0, .int .i64 0, .bool false, .int .u32 0]),
 X.n (.storeN 4 (X.s 7) (X.s 31)),
 X.m 8 32]
def C.b1 : LO := C.b1_b
def C.b1_w := pO C.b1.eq_1
def C.blx : ICode := .keep [0, 1, 5, 6, 23, 24] (.seq (.region C.b1) C.bx7)
def C.blx_w := pC C.blx.eq_1
def C.ds_b : LO := [
 X.m 26 24,
 X.m 6 26]
def C.ds : LO := C.ds_b
def C.ds_w := pO C.ds.eq_1
def C.bxl : ICode := .seq (.region C.ds) C.blx
def C.bxl_w := pC C.bxl.eq_1
def C.bx8 : ICode := .keep [0, 1, 5, 23, 24] (.seq (.block 1 C.bxl) C.bx5)
def C.bx8_w := pC C.bx8.eq_1
def C.byb : ICode := .keep [0, 1, 5, 23, 24, 25] (.seq (.cond (X.s 25) .skip (.exit 0)) C.bx8)
def C.byb_w := pC C.byb.eq_1
def C.dr_b : LO := [
 X.o 25 (.bin .lss (X.s 24) (X.s 23))]
def C.dr : LO := C.dr_b
def C.dr_w := pO C.dr.eq_1
def C.cks : ICode := .keep [0, 1, 5, 23, 24] (.seq (.region C.dr) C.byb)
def C.cks_w := pC C.cks.eq_1
def C.bxm : ICode := .loop C.cks
def C.bxm_w := pC C.bxm.eq_1
def C.byc : ICode := .keep [0, 1, 5, 23, 24] (.block 0 C.bxm)
def C.byc_w := pC C.byc.eq_1
def C.mg_b : LO := [
 X.m 19 0,
 X.o 20 (.nilchk (X.s 19)),
 X.o 21 (.fldAddr 4 (X.s 20)),
 X.o 22 (.load1 (X.s 21)),
 X.o 23 (.len (X.s 22)),
 X.o 24 (.move (X.i 0))]
def C.mg : LO := C.mg_b
def C.mg_w := pO C.mg.eq_1
def C.byd : ICode := .keep [0, 1, 5] (.seq (.seq (.region C.mg) C.byc) C.bjk)
def C.byd_w := pC C.byd.eq_1
def C.mf_b : LO := [
 X.o 5 (.move (.cst (.nils)))]
def C.mf : LO := C.mf_b
def C.mf_w := pO C.mf.eq_1
def C.byf : ICode := .keep [0, 1] (.seq (.region C.mf) C.byd)
def C.byf_w := pC C.byf.eq_1
def C.l6_b : LO := [
 X.o 4 (.move (.cst (.nils)))]
def C.l6 : LO := C.l6_b
def C.l6_w := pO C.l6.eq_1
def C.byg : ICode := .seq (.region C.l6) .ret
def C.byg_w := pC C.byg.eq_1
def C.byh : ICode := .keep [0, 1, 18] (.cond (X.s 18) C.byg .skip)
def C.byh_w := pC C.byh.eq_1
def C.l0_b : LO := [
 X.m 16 0,
 X.o 17 (.call F.q93 [X.s 16]),
 X.o 18 (.un .not (X.s 17))]
def C.l0 : LO := C.l0_b
def C.l0_w := pO C.l0.eq_1
def C.byj : ICode := .keep [0, 1] (.seq (.seq (.region C.l0) C.byh) C.byf)
def C.byj_w := pC C.byj.eq_1
def C.lz_b : LO := [
 X.o 4 (.move (.cst (.nils)))]
def C.lz : LO := C.lz_b
def C.lz_w := pO C.lz.eq_1
def C.q89 : IFunc := ⟨2, [.slot 4], .seq (.region C.lz) C.byj⟩
def C.q89_W := aI (aI (aI (aI (aI (aI @C.dp_w @C.bxp_w) (aI @C.dn_w @C.bxy_w)) (aI (aI @C.b2_w @C.bjj_w) (aI @C.md_w (aI @C.bx9_w @C.mc_w)))) (aI (aI (aI @C.byk_w @C.mb_w) (aI @C.byl_w @C.l9_w)) (aI (aI @C.bxn_w @C.bym_w) (aI @C.byn_w (aI @C.l8_w @C.bxf_w))))) (aI (aI (aI (aI @C.bxr_w @C.l7_w) (aI @C.blw_w @C.bxs_w)) (aI (aI @C.cx_w @C.bxt_w) (aI @C.cw_w (aI @C.bxv_w @C.dm_w)))) (aI (aI (aI @C.bxg_w @C.bxw_w) (aI @C.bxx_w (aI @C.dl_w @C.bxh_w))) (aI (aI @C.bxq_w @C.dk_w) (aI @C.bxz_w (aI @C.cv_w @C.lq_w)))))) (aI (aI (aI (aI (aI @C.l5_w @C.bx0_w) (aI @C.l4_w @C.bx1_w)) (aI (aI @C.l3_w @C.bxj_w) (aI @C.bx2_w (aI @C.bx3_w @C.l2_w)))) (aI (aI (aI @C.bxk_w @C.bx4_w) (aI @C.l1_w (aI @C.bjk_w @C.dj_w))) (aI (aI @C.bx5_w @C.mj_w) (aI @C.bx6_w (aI @C.mh_w @C.bx7_w))))) (aI (aI (aI (aI @C.b1_w @C.blx_w) (aI @C.ds_w @C.bxl_w)) (aI (aI @C.bx8_w @C.byb_w) (aI @C.dr_w (aI @C.bxm_w @C.byc_w)))) (aI (aI (aI @C.mg_w @C.byd_w) (aI @C.mf_w (aI @C.byf_w @C.l6_w))) (aI (aI @C.byg_w @C.byh_w) (aI @C.l0_w (aI @C.byj_w @C.lz_w))))))
def C.q89_B := aI (aI (aI (aI @C.dp_b.eq_1 (aI @C.dn_b.eq_1 @C.b2_b.eq_1)) (aI (aI @C.md_b.eq_1 @C.mc_b.eq_1) (aI @C.mb_b.eq_1 @C.l9_b.eq_1))) (aI (aI (aI @C.l8_b.eq_1 @C.l7_b.eq_1) (aI @C.cx_b.eq_1 @C.cw_b.eq_1)) (aI (aI @C.dm_b.eq_1 @C.dl_b.eq_1) (aI @C.dk_b.eq_1 @C.cv_b.eq_1)))) (aI (aI (aI (aI @C.l5_b.eq_1 @C.l4_b.eq_1) (aI @C.l3_b.eq_1 @C.l2_b.eq_1)) (aI (aI @C.l1_b.eq_1 @C.dj_b.eq_1) (aI @C.mj_b.eq_1 @C.mh_b.eq_1))) (aI (aI (aI @C.b1_b.eq_1 @C.ds_b.eq_1) (aI @C.dr_b.eq_1 @C.mg_b.eq_1)) (aI (aI @C.mf_b.eq_1 @C.l6_b.eq_1) (aI @C.l0_b.eq_1 @C.lz_b.eq_1))))

def C.cj_b : LO := [
 X.m 135 0,
 X.m 136 2,
 X.o 137 (.call F.q81 [X.s 135, X.s 136]),
 X.m 6 137]
def C.cj : LO := C.cj_b
def C.cj_w := pO C.cj.eq_1
def C.blk : ICode := .keep [0, 2] (.seq (.region C.cj) .ret)
def C.blk_w := pC C.blk.eq_1
def C.jb_b : LO := [
 X.m 131 16,
 X.o 132 (.bin .add (X.s 131) (X.i 1)),
 X.m 16 132]
def C.jb : LO := C.jb_b
def C.jb_w := pO C.jb.eq_1
def C.bsj : ICode := .keep [0, 2, 16] (.region C.jb)
def C.bsj_w := pC C.bsj.eq_1
def C.jc_b : LO := [
 X.m 133 0,
 X.o 134 (.call F.q89 [X.s 133, .cst (.int .u32 0)])]
def C.jc : LO := C.jc_b
def C.jc_w := pO C.jc.eq_1
def C.br5 : ICode := .region C.jc
def C.br5_w := pC C.br5.eq_1
def C.bsq : ICode := .keep [0, 2, 16] (.seq (.block 9 C.br5) C.bsj)
def C.bsq_w := pC C.bsq.eq_1
def C.bs5 : ICode := .keep [0, 2, 16, 130] (.cond (X.s 130) .skip (.exit 8))
def C.bs5_w := pC C.bs5.eq_1
def C.bm_b : LO := [
 X.m 123 16,
 X.o 124 (.bin .lss (X.s 123) (X.i 300)),
 X.m 125 124,
 X.t 125 126 (.move (X.s 0)),
 X.t 125 127 (.move (X.s 2)),
 X.t 125 128 (.call F.q81 [X.s 126, X.s 127]),
 X.t 125 129 (.un .not (X.s 128)),
 X.o 130 (.pick (X.s 125) (X.s 129) (.cst (.bool false)))]
def C.bm : LO := C.bm_b
def C.bm_w := pO C.bm.eq_1
def C.cjy : ICode := .keep [0, 2, 16] (.seq (.seq (.region C.bm) C.bs5) C.bsq)
def C.cjy_w := pC C.cjy.eq_1
def C.bsb : ICode := .loop C.cjy
def C.bsb_w := pC C.bsb.eq_1
def C.bs8 : ICode := .keep [0, 2, 16] (.block 8 C.bsb)
def C.bs8_w := pC C.bs8.eq_1
def C.h9_b : LO := [
 X.o 16 (.move (X.i 0))]
def C.h9 : LO := C.h9_b
def C.h9_w := pO C.h9.eq_1
def C.nt : ICode := .keep [0, 2] (.seq (.seq (.region C.h9) C.bs8) C.blk)
def C.nt_w := pC C.nt.eq_1
def C.h8_b : LO := [
 X.o 6 (.move (.cst (.bool false)))]
def C.h8 : LO := C.h8_b
def C.h8_w := pO C.h8.eq_1
def C.bsc : ICode := .seq (.region C.h8) .ret
def C.bsc_w := pC C.bsc.eq_1
def C.bsd : ICode := .keep [0, 2, 122] (.cond (X.s 122) C.bsc .skip)
def C.bsd_w := pC C.bsd.eq_1
def C.h7_b : LO := [
 X.m 112 0,
 X.o 113 (.fldAddr 2 (X.s 7)),
 X.o 114 (.load1 (X.s 113)),
 X.o 115 (.call F.q84 [X.s 112, X.s 114]),
 X.m 116 115,
 X.t 116 117 (.move (X.s 0)),
 X.t 116 118 (.fldAddr 2 (X.s 7)),
 X.t 116 119 (.load1 (X.s 118)),
 X.t 116 120 (.call F.q87 [X.s 117, X.s 119]),
 X.t 116 121 (.bin .neq (X.s 120) (X.i 0)),
 X.o 122 (.pick (X.s 116) (X.s 121) (.cst (.bool false)))]
def C.h7 : LO := C.h7_b
def C.h7_w := pO C.h7.eq_1
def C.t3 : ICode := .keep [0, 2, 7] (.seq (.seq (.region C.h7) C.bsd) C.nt)
def C.t3_w := pC C.t3.eq_1
def C.bv_b : LO := [
 X.m 74 13,
 X.o 75 (.bin .add (X.s 74) (X.i 1)),
 X.m 13 75]
def C.bv : LO := C.bv_b
def C.bv_w := pO C.bv.eq_1
def C.nr : ICode := .keep [0, 2, 7, 11, 13] (.region C.bv)
def C.nr_w := pC C.nr.eq_1
def C.h5_b : LO := [
 X.m 108 15,
 X.o 109 (.bin .add (X.s 108) (X.i 1)),
 X.m 15 109]
def C.h5 : LO := C.h5_b
def C.h5_w := pO C.h5.eq_1
def C.bsf : ICode := .keep [0, 2, 7, 11, 13, 15] (.region C.h5)
def C.bsf_w := pC C.bsf.eq_1
def C.h6_b : LO := [
 X.m 110 0,
 X.o 111 (.call F.q89 [X.s 110, .cst (.int .u32 0)])]
def C.h6 : LO := C.h6_b
def C.h6_w := pO C.h6.eq_1
def C.br1 : ICode := .region C.h6
def C.br1_w := pC C.br1.eq_1
def C.bsg : ICode := .keep [0, 2, 7, 11, 13, 15] (.seq (.block 7 C.br1) C.bsf)
def C.bsg_w := pC C.bsg.eq_1
def C.bsh : ICode := .keep [0, 2, 7, 11, 13, 15, 107] (.cond (X.s 107) .skip (.exit 6))
def C.bsh_w := pC C.bsh.eq_1
def C.h4_b : LO := [
 X.m 97 15,
 X.o 98 (.bin .lss (X.s 97) (X.i 40)),
 X.m 99 98,
 X.t 99 100 (.move (X.s 0)),
 X.t 99 101 (.move (X.s 11)),
 X.t 99 102 (.move (X.s 13)),
 X.t 99 103 (.idxAddr 1 (X.s 101) (X.s 102)),
 X.t 99 104 (.load1 (X.s 103)),
 X.t 99 105 (.call F.q85 [X.s 100, X.s 104]),
 X.t 99 106 (.bin .neq (X.s 105) (.cst (.int .u8 49))),
 X.o 107 (.pick (X.s 99) (X.s 106) (.cst (.bool false)))]
def C.h4 : LO := C.h4_b
def C.h4_w := pO C.h4.eq_1
def C.cjt : ICode := .keep [0, 2, 7, 11, 13, 15] (.seq (.seq (.region C.h4) C.bsh) C.bsg)
def C.cjt_w := pC C.cjt.eq_1
def C.br2 : ICode := .loop C.cjt
def C.br2_w := pC C.br2.eq_1
def C.bsk : ICode := .keep [0, 2, 7, 11, 13, 15] (.block 6 C.br2)
def C.bsk_w := pC C.bsk.eq_1
def C.ch_b : LO := [
 X.o 15 (.move (X.i 0))]
def C.ch : LO := C.ch_b
def C.ch_w := pO C.ch.eq_1
def C.t4 : ICode := .keep [0, 2, 7, 11, 13] (.seq (.region C.ch) C.bsk)
def C.t4_w := pC C.t4.eq_1
def C.h3_b : LO := [
 X.o 6 (.move (.cst (.bool false)))]
def C.h3 : LO := C.h3_b
def C.h3_w := pO C.h3.eq_1
def C.bsl : ICode := .seq (.region C.h3) .ret
def C.bsl_w := pC C.bsl.eq_1
def C.bsm : ICode := .keep [0, 2, 7, 11, 13, 96] (.cond (X.s 96) C.bsl .skip)
def C.bsm_w := pC C.bsm.eq_1
def C.h2_b : LO := [
 X.m 82 14,
 X.o 83 (.bin .eql (X.s 82) (.cst (.int .u8 48))),
 X.m 84 83,
 X.f 84 85 (.move (X.s 14)),
 X.f 84 86 (.bin .eql (X.s 85) (.cst (.int .u8 116))),
 X.o 87 (.pick (X.s 84) (.cst (.bool true)) (X.s 86)),
 X.m 88 87,
 X.t 88 89 (.move (X.s 0)),
 X.t 88 90 (.move (X.s 11)),
 X.t 88 91 (.move (X.s 13)),
 X.t 88 92 (.idxAddr 1 (X.s 90) (X.s 91)),
 X.t 88 93 (.load1 (X.s 92)),
 X.t 88 94 (.call F.q90 [X.s 89, X.s 93]),
 X.t 88 95 (.bin .neq (X.s 94) (X.i 0)),
 X.o 96 (.pick (X.s 88) (X.s 95) (.cst (.bool false)))]
def C.h2 : LO := C.h2_b
def C.h2_w := pO C.h2.eq_1
def C.bsn : ICode := .keep [0, 2, 7, 11, 13, 14] (.seq (.seq (.region C.h2) C.bsm) C.t4)
def C.bsn_w := pC C.bsn.eq_1
def C.h1_b : LO := [
 X.m 76 0,
 X.m 77 11,
 X.m 78 13,
 X.o 79 (.idxAddr 1 (X.s 77) (X.s 78)),
 X.o 80 (.load1 (X.s 79)),
 X.o 81 (.call F.q85 [X.s 76, X.s 80]),
 X.m 14 81]
def C.h1 : LO := C.h1_b
def C.h1_w := pO C.h1.eq_1
def C.br3 : ICode := .seq (.region C.h1) C.bsn
def C.br3_w := pC C.br3.eq_1
def C.bsp : ICode := .keep [0, 2, 7, 11, 13] (.seq (.block 5 C.br3) C.nr)
def C.bsp_w := pC C.bsp.eq_1
def C.bsr : ICode := .keep [0, 2, 7, 11, 13, 73] (.cond (X.s 73) .skip (.exit 4))
def C.bsr_w := pC C.bsr.eq_1
def C.h0_b : LO := [
 X.m 70 13,
 X.m 71 11,
 X.o 72 (.len (X.s 71)),
 X.o 73 (.bin .lss (X.s 70) (X.s 72))]
def C.h0 : LO := C.h0_b
def C.h0_w := pO C.h0.eq_1
def C.cjv : ICode := .keep [0, 2, 7, 11, 13] (.seq (.seq (.region C.h0) C.bsr) C.bsp)
def C.cjv_w := pC C.cjv.eq_1
def C.br4 : ICode := .loop C.cjv
def C.br4_w := pC C.br4.eq_1
def C.bss : ICode := .keep [0, 2, 7, 11, 13] (.block 4 C.br4)
def C.bss_w := pC C.bss.eq_1
def C.hz_b : LO := [
 X.o 13 (.move (X.i 0))]
def C.hz : LO := C.hz_b
def C.hz_w := pO C.hz.eq_1
def C.t5 : ICode := .keep [0, 2, 7, 11] (.seq (.seq (.region C.hz) C.bss) C.t3)
def C.t5_w := pC C.t5.eq_1
def C.cf_b : LO := [
 X.o 60 (.fldAddr 1 (X.s 4)),
 X.o 61 (.load1 (X.s 60)),
 X.m 62 12,
 X.o 63 (.idxAddr 3 (X.s 61) (X.s 62)),
 X.o 64 (.fldAddr 0 (X.s 63)),
 X.o 65 (.load1 (X.s 64)),
 X.m 12 65]
def C.cf : LO := C.cf_b
def C.cf_w := pO C.cf.eq_1
def C.bst : ICode := .keep [0, 2, 4, 7, 11, 12] (.region C.cf)
def C.bst_w := pC C.bst.eq_1
def C.hq_b : LO := [
 X.m 66 12,
 X.o 67 (.buildSlice 1 1 [.int .i64 0] [(0, 1, X.s 66)]),
 X.m 68 11,
 X.o 69 (.append 1 8 (X.s 67) (X.s 68)),
 X.m 11 69]
def C.hq : LO := C.hq_b
def C.hq_w := pO C.hq.eq_1
def C.br6 : ICode := .region C.hq
def C.br6_w := pC C.br6.eq_1
def C.bsv : ICode := .keep [0, 2, 4, 7, 11, 12] (.seq (.block 3 C.br6) C.bst)
def C.bsv_w := pC C.bsv.eq_1
def C.bsw : ICode := .keep [0, 2, 4, 7, 11, 12, 59] (.cond (X.s 59) .skip (.exit 2))
def C.bsw_w := pC C.bsw.eq_1
def C.hy_b : LO := [
 X.m 58 12,
 X.o 59 (.bin .geq (X.s 58) (X.i 0))]
def C.hy : LO := C.hy_b
def C.hy_w := pO C.hy.eq_1
def C.cjw : ICode := .keep [0, 2, 4, 7, 11, 12] (.seq (.seq (.region C.hy) C.bsw) C.bsv)
def C.cjw_w := pC C.cjw.eq_1
def C.br7 : ICode := .loop C.cjw
def C.br7_w := pC C.br7.eq_1
def C.bsx : ICode := .keep [0, 2, 4, 7, 11, 12] (.block 2 C.br7)
def C.bsx_w := pC C.bsx.eq_1
def C.hx_b : LO := [
 X.o 56 (.fldAddr 1 (X.s 7)),
 X.o 57 (.load1 (X.s 56)),
 X.m 12 57]
def C.hx : LO := C.hx_b
def C.hx_w := pO C.hx.eq_1
def C.bsy : ICode := .keep [0, 2, 4, 7, 11] (.seq (.seq (.region C.hx) C.bsx) C.t5)
def C.bsy_w := pC C.bsy.eq_1
def C.jh_b : LO := [
 X.o 11 (.move (.cst (.nils)))]
def C.jh : LO := C.jh_b
def C.jh_w := pO C.jh.eq_1
def C.t6 : ICode := .keep [0, 2, 4, 7] (.seq (.region C.jh) C.bsy)
def C.t6_w := pC C.t6.eq_1
def C.bp_b : LO := [
 X.m 30 9,
 X.o 31 (.bin .add (X.s 30) (X.i 1)),
 X.m 9 31]
def C.bp : LO := C.bp_b
def C.bp_w := pO C.bp.eq_1
def C.bsz : ICode := .keep [0, 2, 4, 7, 8, 9] (.region C.bp)
def C.bsz_w := pC C.bsz.eq_1
def C.jg_b : LO := [
 X.o 6 (.move (.cst (.bool false)))]
def C.jg : LO := C.jg_b
def C.jg_w := pO C.jg.eq_1
def C.bs0 : ICode := .seq (.region C.jg) .ret
def C.bs0_w := pC C.bs0.eq_1
def C.bs1 : ICode := .keep [0, 2, 4, 7, 8, 9, 55] (.cond (X.s 55) C.bs0 .skip)
def C.bs1_w := pC C.bs1.eq_1
def C.jf_b : LO := [
 X.m 41 10,
 X.o 42 (.bin .eql (X.s 41) (.cst (.int .u8 112))),
 X.m 43 42,
 X.f 43 44 (.move (X.s 10)),
 X.f 43 45 (.bin .eql (X.s 44) (.cst (.int .u8 103))),
 X.o 46 (.pick (X.s 43) (.cst (.bool true)) (X.s 45)),
 X.m 47 46,
 X.t 47 48 (.move (X.s 0)),
 X.t 47 49 (.move (X.s 8)),
 X.t 47 50 (.move (X.s 9)),
 X.t 47 51 (.idxAddr 1 (X.s 49) (X.s 50)),
 X.t 47 52 (.load1 (X.s 51)),
 X.t 47 53 (.call F.q83 [X.s 48, X.s 52, .cst (.bool true)]),
 X.t 47 54 (.bin .neq (X.s 53) (X.i 0)),
 X.o 55 (.pick (X.s 47) (X.s 54) (.cst (.bool false)))]
def C.jf : LO := C.jf_b
def C.jf_w := pO C.jf.eq_1
def C.bs2 : ICode := .keep [0, 2, 4, 7, 8, 9, 10] (.seq (.region C.jf) C.bs1)
def C.bs2_w := pC C.bs2.eq_1
def C.cl_b : LO := [
 X.o 32 (.fldAddr 0 (X.s 4)),
 X.o 33 (.load1 (X.s 32)),
 X.m 34 8,
 X.m 35 9,
 X.o 36 (.idxAddr 1 (X.s 34) (X.s 35)),
 X.o 37 (.load1 (X.s 36)),
 X.o 38 (.idxAddr 6 (X.s 33) (X.s 37)),
 X.o 39 (.fldAddr 0 (X.s 38)),
 X.o 40 (.load1 (X.s 39)),
 X.m 10 40]
def C.cl : LO := C.cl_b
def C.cl_w := pO C.cl.eq_1
def C.br8 : ICode := .seq (.region C.cl) C.bs2
def C.br8_w := pC C.br8.eq_1
def C.bs3 : ICode := .keep [0, 2, 4, 7, 8, 9] (.seq (.block 1 C.br8) C.bsz)
def C.bs3_w := pC C.bs3.eq_1
def C.bs4 : ICode := .keep [0, 2, 4, 7, 8, 9, 29] (.cond (X.s 29) .skip (.exit 0))
def C.bs4_w := pC C.bs4.eq_1
def C.ck_b : LO := [
 X.m 26 9,
 X.m 27 8,
 X.o 28 (.len (X.s 27)),
 X.o 29 (.bin .lss (X.s 26) (X.s 28))]
def C.ck : LO := C.ck_b
def C.ck_w := pO C.ck.eq_1
def C.cjx : ICode := .keep [0, 2, 4, 7, 8, 9] (.seq (.seq (.region C.ck) C.bs4) C.bs3)
def C.cjx_w := pC C.cjx.eq_1
def C.br9 : ICode := .loop C.cjx
def C.br9_w := pC C.br9.eq_1
def C.bs6 : ICode := .keep [0, 2, 4, 7, 8, 9] (.block 0 C.br9)
def C.bs6_w := pC C.bs6.eq_1
def C.jd_b : LO := [
 X.o 9 (.move (X.i 0))]
def C.jd : LO := C.jd_b
def C.jd_w := pO C.jd.eq_1
def C.bs7 : ICode := .keep [0, 2, 4, 7, 8] (.seq (.seq (.region C.jd) C.bs6) C.t6)
def C.bs7_w := pC C.bs7.eq_1
def C.cg_b : LO := [
 X.m 22 0,
 X.o 23 (.fldAddr 0 (X.s 7)),
 X.o 24 (.load1 (X.s 23)),
 X.o 25 (.call F.q82 [X.s 22, X.s 24]),
 X.m 8 25]
def C.cg : LO := C.cg_b
def C.cg_w := pO C.cg.eq_1
def C.ns : ICode := .keep [0, 2, 4, 7] (.seq (.region C.cg) C.bs7)
def C.ns_w := pC C.ns.eq_1
def C.cd_b : LO := [
 X.o 17 (.fldAddr 3 (X.s 4)),
 X.o 18 (.load1 (X.s 17)),
 X.m 19 2,
 X.o 20 (.idxAddr 6 (X.s 18) (X.s 19)),
 X.o 21 (.loadN 6 (X.s 20)),
 X.o 7 (.alloc [.int .i64 0, .int .i64 0, .int .i64 0, .int .u32 0, .nils, .nils]),
 X.n (.storeN 6 (X.s 7) (X.s 21))]
def C.cd : LO := C.cd_b
def C.cd_w := pO C.cd.eq_1
def C.bll : ICode := .keep [0, 2, 4] (.seq (.region C.cd) C.ns)
def C.bll_w := pC C.bll.eq_1
def C.hw_b : LO := [
 X.o 4 (.boxN (X.s 1)),
 X.o 6 (.move (.cst (.bool false)))]
def C.hw : LO := C.hw_b
def C.hw_w := pO C.hw.eq_1
def C.q16 : IFunc := ⟨3, [.slot 6], .seq (.region C.hw) C.bll⟩
def C.q16_W := aI (aI (aI (aI (aI (aI @C.cj_w @C.blk_w) (aI @C.jb_w @C.bsj_w)) (aI (aI @C.jc_w @C.br5_w) (aI @C.bsq_w (aI @C.bs5_w @C.bm_w)))) (aI (aI (aI @C.bsb_w @C.bs8_w) (aI @C.h9_w (aI @C.nt_w @C.h8_w))) (aI (aI @C.bsc_w @C.bsd_w) (aI @C.h7_w (aI @C.t3_w @C.bv_w))))) (aI (aI (aI (aI @C.nr_w @C.h5_w) (aI @C.bsf_w (aI @C.h6_w @C.br1_w))) (aI (aI @C.bsg_w @C.bsh_w) (aI @C.h4_w (aI @C.br2_w @C.bsk_w)))) (aI (aI (aI @C.ch_w @C.t4_w) (aI @C.h3_w (aI @C.bsl_w @C.bsm_w))) (aI (aI @C.h2_w @C.bsn_w) (aI @C.h1_w (aI @C.br3_w @C.bsp_w)))))) (aI (aI (aI (aI (aI @C.bsr_w @C.h0_w) (aI @C.br4_w (aI @C.bss_w @C.hz_w))) (aI (aI @C.t5_w @C.cf_w) (aI @C.bst_w (aI @C.hq_w @C.br6_w)))) (aI (aI (aI @C.bsv_w @C.bsw_w) (aI @C.hy_w (aI @C.br7_w @C.bsx_w))) (aI (aI @C.hx_w @C.bsy_w) (aI @C.jh_w (aI @C.t6_w @C.bp_w))))) (aI (aI (aI (aI @C.bsz_w @C.jg_w) (aI @C.bs0_w (aI @C.bs1_w @C.jf_w))) (aI (aI @C.bs2_w @C.cl_w) (aI @C.br8_w (aI @C.bs3_w @C.bs4_w)))) (aI (aI (aI @C.ck_w @C.br9_w) (aI @C.bs6_w (aI @C.jd_w @C.bs7_w))) (aI (aI @C.cg_w @C.ns_w) (aI @C.cd_w (aI @C.bll_w @C.hw_w))))))
def C.q16_B := aI (aI (aI (aI @C.cj_b.eq_1 (aI @C.jb_b.eq_1 @C.jc_b.eq_1)) (aI (aI @C.bm_b.eq_1 @C.h9_b.eq_1) (aI @C.h8_b.eq_1 @C.h7_b.eq_1))) (aI (aI (aI @C.bv_b.eq_1 @C.h5_b.eq_1) (aI @C.h6_b.eq_1 @C.h4_b.eq_1)) (aI (aI @C.ch_b.eq_1 @C.h3_b.eq_1) (aI @C.h2_b.eq_1 @C.h1_b.eq_1)))) (aI (aI (aI (aI @C.h0_b.eq_1 @C.hz_b.eq_1) (aI @C.cf_b.eq_1 @C.hq_b.eq_1)) (aI (aI @C.hy_b.eq_1 @C.hx_b.eq_1) (aI @C.jh_b.eq_1 @C.bp_b.eq_1))) (aI (aI (aI @C.jg_b.eq_1 @C.jf_b.eq_1) (aI @C.cl_b.eq_1 @C.ck_b.eq_1)) (aI (aI @C.jd_b.eq_1 @C.cg_b.eq_1) (aI @C.cd_b.eq_1 @C.hw_b.eq_1))))

def C.bhs_b : LO := [
 X.m 8 0,
 X.o 9 (.nilchk (X.s 8)),
 X.o 10 (.fldAddr 0 (X.s 9)),
 X.o 11 (.load1 (X.s 10)),
 X.m 12 1,
 X.o 13 (.call F.q18 [X.s 11, X.s 12]),
 X.m 4 13]
def C.bhs : LO := C.bhs_b
def C.bhs_w := pO C.bhs.eq_1
def C.cfq : ICode := .keep [0, 1] (.seq (.region C.bhs) .ret)
def C.cfq_w := pC C.cfq.eq_1
def C.bhr_b : LO := [
 X.o 4 (.move (.cst (.nils)))]
def C.bhr : LO := C.bhr_b
def C.bhr_w := pO C.bhr.eq_1
def C.cfz : ICode := .seq (.region C.bhr) .ret
def C.cfz_w := pC C.cfz.eq_1
def C.cf0 : ICode := .keep [0, 1, 7] (.cond (X.s 7) C.cfz .skip)
def C.cf0_w := pC C.cf0.eq_1
def C.bhp_b : LO := [
 X.m 5 0,
 X.o 6 (.call F.q93 [X.s 5]),
 X.o 7 (.un .not (X.s 6))]
def C.bhp : LO := C.bhp_b
def C.bhp_w := pO C.bhp.eq_1
def C.cf1 : ICode := .keep [0, 1] (.seq (.seq (.region C.bhp) C.cf0) C.cfq)
def C.cf1_w := pC C.cf1.eq_1
def C.bhn_b : LO := [
 X.o 4 (.move (.cst (.nils)))]
def C.bhn : LO := C.bhn_b
def C.bhn_w := pO C.bhn.eq_1
def C.q82 : IFunc := ⟨2, [.slot 4], .seq (.region C.bhn) C.cf1⟩
def C.q82_W := aI (aI (aI @C.bhs_w @C.cfq_w) (aI @C.bhr_w @C.cfz_w)) (aI (aI @C.cf0_w @C.bhp_w) (aI @C.cf1_w @C.bhn_w))
def C.q82_B := aI (aI @C.bhs_b.eq_1 @C.bhr_b.eq_1) (aI @C.bhp_b.eq_1 @C.bhn_b.eq_1)

def C.bhx_b : LO := [
 X.m 10 0,
 X.o 11 (.nilchk (X.s 10)),
 X.o 12 (.fldAddr 0 (X.s 11)),
 X.o 13 (.load1 (X.s 12)),
 X.m 14 1,
 X.m 15 2,
 X.o 16 (.call F.q19 [X.s 13, X.s 14, X.s 15]),
 X.m 6 16]
def C.bhx : LO := C.bhx_b
def C.bhx_w := pO C.bhx.eq_1
def C.cf2 : ICode := .keep [0, 1, 2] (.seq (.region C.bhx) .ret)
def C.cf2_w := pC C.cf2.eq_1
def C.bhw_b : LO := [
 X.o 6 (.move (X.i 4))]
def C.bhw : LO := C.bhw_b
def C.bhw_w := pO C.bhw.eq_1
def C.cf3 : ICode := .seq (.region C.bhw) .ret
def C.cf3_w := pC C.cf3.eq_1
def C.cf4 : ICode := .keep [0, 1, 2, 9] (.cond (X.s 9) C.cf3 .skip)
def C.cf4_w := pC C.cf4.eq_1
def C.bhv_b : LO := [
 X.m 7 0,
 X.o 8 (.call F.q93 [X.s 7]),
 X.o 9 (.un .not (X.s 8))]
def C.bhv : LO := C.bhv_b
def C.bhv_w := pO C.bhv.eq_1
def C.cf5 : ICode := .keep [0, 1, 2] (.seq (.seq (.region C.bhv) C.cf4) C.cf2)
def C.cf5_w := pC C.cf5.eq_1
def C.bht_b : LO := [
 X.o 6 (.move (X.i 0))]
def C.bht : LO := C.bht_b
def C.bht_w := pO C.bht.eq_1
def C.q83 : IFunc := ⟨3, [.slot 6], .seq (.region C.bht) C.cf5⟩
def C.q83_W := aI (aI (aI @C.bhx_w @C.cf2_w) (aI @C.bhw_w @C.cf3_w)) (aI (aI @C.cf4_w @C.bhv_w) (aI @C.cf5_w @C.bht_w))
def C.q83_B := aI (aI @C.bhx_b.eq_1 @C.bhw_b.eq_1) (aI @C.bhv_b.eq_1 @C.bht_b.eq_1)

def C.bhm_b : LO := [
 X.m 17 0,
 X.o 18 (.nilchk (X.s 17)),
 X.o 19 (.fldAddr 0 (X.s 18)),
 X.o 20 (.load1 (X.s 19)),
 X.o 21 (.fldAddr 0 (X.s 5)),
 X.o 22 (.load1 (X.s 21)),
 X.o 23 (.call F.q20 [X.s 20, X.s 22]),
 X.m 24 23,
 X.t 24 25 (.move (X.s 0)),
 X.t 24 26 (.nilchk (X.s 25)),
 X.t 24 27 (.fldAddr 1 (X.s 26)),
 X.t 24 28 (.load1 (X.s 27)),
 X.t 24 29 (.fldAddr 1 (X.s 5)),
 X.t 24 30 (.load1 (X.s 29)),
 X.t 24 31 (.call F.q96 [X.s 28, X.s 30]),
 X.t 24 32 (.bin .eql (X.s 31) (.cst (.int .u8 49))),
 X.o 33 (.pick (X.s 24) (X.s 32) (.cst (.bool false))),
 X.m 34 33,
 X.t 34 35 (.move (X.s 0)),
 X.t 34 36 (.nilchk (X.s 35)),
 X.t 34 37 (.fldAddr 2 (X.s 36)),
 X.t 34 38 (.load1 (X.s 37)),
 X.t 34 39 (.fldAddr 2 (X.s 5)),
 X.t 34 40 (.load1 (X.s 39)),
 X.t 34 41 (.call F.q119 [X.s 38, X.s 40]),
 X.t 34 42 (.un .not (X.s 41)),
 X.o 43 (.pick (X.s 34) (X.s 42) (.cst (.bool false))),
 X.m 4 43]
def C.bhm : LO := C.bhm_b
def C.bhm_w := pO C.bhm.eq_1
def C.cfy : ICode := .keep [0, 5] (.seq (.region C.bhm) .ret)
def C.cfy_w := pC C.cfy.eq_1
def C.dh_b : LO := [
 X.m 10 0,
 X.o 11 (.nilchk (X.s 10)),
 X.o 12 (.fldAddr 4 (X.s 11)),
 X.o 13 (.load1 (X.s 12)),
 X.m 14 1,
 X.o 15 (.idxAddr 6 (X.s 13) (X.s 14)),
 X.o 16 (.loadN 6 (X.s 15)),
 X.o 5 (.alloc [.int .i64 0, .int .i64 0, .int .i64 0, .int .u32 0, .nilp, .nilp]),
 X.n (.storeN 6 (X.s 5) (X.s 16))]
def C.dh : LO := C.dh_b
def C.dh_w := pO C.dh.eq_1
def C.bw9 : ICode := .keep [0, 1] (.seq (.region C.dh) C.cfy)
def C.bw9_w := pC C.bw9.eq_1
def C.dg_b : LO := [
 X.o 4 (.move (.cst (.bool false)))]
def C.dg : LO := C.dg_b
def C.dg_w := pO C.dg.eq_1
def C.bxb : ICode := .seq (.region C.dg) .ret
def C.bxb_w := pC C.bxb.eq_1
def C.bxc : ICode := .keep [0, 1, 9] (.cond (X.s 9) C.bxb .skip)
def C.bxc_w := pC C.bxc.eq_1
def C.df_b : LO := [
 X.m 6 0,
 X.m 7 1,
 X.o 8 (.call F.q92 [X.s 6, X.s 7]),
 X.o 9 (.un .not (X.s 8))]
def C.df : LO := C.df_b
def C.df_w := pO C.df.eq_1
def C.bxd : ICode := .keep [0, 1] (.seq (.seq (.region C.df) C.bxc) C.bw9)
def C.bxd_w := pC C.bxd.eq_1
def C.dd_b : LO := [
 X.o 4 (.move (.cst (.bool false)))]
def C.dd : LO := C.dd_b
def C.dd_w := pO C.dd.eq_1
def C.q81 : IFunc := ⟨2, [.slot 4], .seq (.region C.dd) C.bxd⟩
def C.q81_W := aI (aI (aI @C.bhm_w @C.cfy_w) (aI @C.dh_w (aI @C.bw9_w @C.dg_w))) (aI (aI @C.bxb_w @C.bxc_w) (aI @C.df_w (aI @C.bxd_w @C.dd_w)))
def C.q81_B := aI (aI @C.bhm_b.eq_1 @C.dh_b.eq_1) (aI @C.dg_b.eq_1 (aI @C.df_b.eq_1 @C.dd_b.eq_1))

def C.w1_b : LO := [
 X.o 3 (.makeFunc F.q26 [X.s 1]),
 X.o 4 (.makeFunc F.q27 [X.s 1]),
 X.o 5 (.makeFunc F.q29 [X.s 1]),
 X.o 6 (.makeFunc F.q30 [X.s 1]),
 X.o 7 (.makeFunc F.q32 [X.s 1]),
 X.o 8 (.makeFunc F.q33 [X.s 1]),
 X.o 9 (.makeFunc F.q34 [X.s 1]),
 X.o 10 (.makeFunc F.q36 [X.s 1]),
 X.o 11 (.buildSlice 1 8 [.nilf] [(0, 1, X.s 3), (1, 1, X.s 4), (2, 1, X.s 5), (3, 1, X.s 6), (4, 1, X.s 7), (5, 1, X.s 8), (6, 1, X.s 9), (7, 1, X.s 10)]),
 X.o 12 (.call F.q61 [X.s 11]),
 X.m 2 12]
def C.w1 : LO := C.w1_b
def C.w1_w := pO C.w1.eq_1
def C.b5w : ICode := .keep [1] (.seq (.region C.w1) .ret)
def C.b5w_w := pC C.b5w.eq_1
def C.kj_b : LO := [
 X.o 1 (.boxN (X.s 0)),
 X.o 2 (.move (X.i 0))]
def C.kj : LO := C.kj_b
def C.kj_w := pO C.kj.eq_1
def C.q25 : IFunc := ⟨1, [.slot 2], .seq (.region C.kj) C.b5w⟩
def C.q25_W := aI @C.w1_w (aI @C.b5w_w @C.kj_w)
def C.q25_B := aI @C.w1_b.eq_1 @C.kj_b.eq_1

def C.bjf_b : LO := [
 X.m 8 0,
 X.o 9 (.nilchk (X.s 8)),
 X.o 10 (.fldAddr 2 (X.s 9)),
 X.o 11 (.load1 (X.s 10)),
 X.m 12 1,
 X.o 13 (.call F.q120 [X.s 11, X.s 12]),
 X.m 4 13]
def C.bjf : LO := C.bjf_b
def C.bjf_w := pO C.bjf.eq_1
def C.cgm : ICode := .keep [0, 1] (.seq (.region C.bjf) .ret)
def C.cgm_w := pC C.cgm.eq_1
def C.bjd_b : LO := [
 X.o 4 (.move (X.i 4))]
def C.bjd : LO := C.bjd_b
def C.bjd_w := pO C.bjd.eq_1
def C.cgn : ICode := .seq (.region C.bjd) .ret
def C.cgn_w := pC C.cgn.eq_1
def C.cgp : ICode := .keep [0, 1, 7] (.cond (X.s 7) C.cgn .skip)
def C.cgp_w := pC C.cgp.eq_1
def C.bjc_b : LO := [
 X.m 5 0,
 X.o 6 (.call F.q93 [X.s 5]),
 X.o 7 (.un .not (X.s 6))]
def C.bjc : LO := C.bjc_b
def C.bjc_w := pO C.bjc.eq_1
def C.cgr : ICode := .keep [0, 1] (.seq (.seq (.region C.bjc) C.cgp) C.cgm)
def C.cgr_w := pC C.cgr.eq_1
def C.bjb_b : LO := [
 X.o 4 (.move (X.i 0))]
def C.bjb : LO := C.bjb_b
def C.bjb_w := pO C.bjb.eq_1
def C.q87 : IFunc := ⟨2, [.slot 4], .seq (.region C.bjb) C.cgr⟩
def C.q87_W := aI (aI (aI @C.bjf_w @C.cgm_w) (aI @C.bjd_w @C.cgn_w)) (aI (aI @C.cgp_w @C.bjc_w) (aI @C.cgr_w @C.bjb_w))
def C.q87_B := aI (aI @C.bjf_b.eq_1 @C.bjd_b.eq_1) (aI @C.bjc_b.eq_1 @C.bjb_b.eq_1)

def C.bhq_b : LO := [
 X.m 5 0,
 X.o 6 (.call F.q93 [X.s 5]),
 X.o 7 (.un .not (X.s 6)),
 X.m 8 7,
 X.f 8 9 (.move (X.s 0)),
 X.f 8 10 (.nilchk (X.s 9)),
 X.f 8 11 (.fldAddr 2 (X.s 10)),
 X.f 8 12 (.load1 (X.s 11)),
 X.f 8 13 (.move (X.s 1)),
 X.f 8 14 (.call F.q119 [X.s 12, X.s 13]),
 X.o 15 (.pick (X.s 8) (.cst (.bool true)) (X.s 14)),
 X.m 4 15]
def C.bhq : LO := C.bhq_b
def C.bhq_w := pO C.bhq.eq_1
def C.cf6 : ICode := .keep [0, 1] (.seq (.region C.bhq) .ret)
def C.cf6_w := pC C.cf6.eq_1
def C.bhy_b : LO := [
 X.o 4 (.move (.cst (.bool false)))]
def C.bhy : LO := C.bhy_b
def C.bhy_w := pO C.bhy.eq_1
def C.q84 : IFunc := ⟨2, [.slot 4], .seq (.region C.bhy) C.cf6⟩
def C.q84_W := aI @C.bhq_w (aI @C.cf6_w @C.bhy_w)
def C.q84_B := aI @C.bhq_b.eq_1 @C.bhy_b.eq_1

def C.bh2_b : LO := [
 X.m 8 0,
 X.o 9 (.nilchk (X.s 8)),
 X.o 10 (.fldAddr 1 (X.s 9)),
 X.o 11 (.load1 (X.s 10)),
 X.m 12 1,
 X.o 13 (.call F.q96 [X.s 11, X.s 12]),
 X.m 4 13]
def C.bh2 : LO := C.bh2_b
def C.bh2_w := pO C.bh2.eq_1
def C.cf7 : ICode := .keep [0, 1] (.seq (.region C.bh2) .ret)
def C.cf7_w := pC C.cf7.eq_1
def C.bh1_b : LO := [
 X.o 4 (.move (.cst (.int .u8 0)))]
def C.bh1 : LO := C.bh1_b
def C.bh1_w := pO C.bh1.eq_1
def C.cf8 : ICode := .seq (.region C.bh1) .ret
def C.cf8_w := pC C.cf8.eq_1
def C.cf9 : ICode := .keep [0, 1, 7] (.cond (X.s 7) C.cf8 .skip)
def C.cf9_w := pC C.cf9.eq_1
def C.bh0_b : LO := [
 X.m 5 0,
 X.o 6 (.call F.q93 [X.s 5]),
 X.o 7 (.un .not (X.s 6))]
def C.bh0 : LO := C.bh0_b
def C.bh0_w := pO C.bh0.eq_1
def C.cgb : ICode := .keep [0, 1] (.seq (.seq (.region C.bh0) C.cf9) C.cf7)
def C.cgb_w := pC C.cgb.eq_1
def C.bhz_b : LO := [
 X.o 4 (.move (.cst (.int .u8 0)))]
def C.bhz : LO := C.bhz_b
def C.bhz_w := pO C.bhz.eq_1
def C.q85 : IFunc := ⟨2, [.slot 4], .seq (.region C.bhz) C.cgb⟩
def C.q85_W := aI (aI (aI @C.bh2_w @C.cf7_w) (aI @C.bh1_w @C.cf8_w)) (aI (aI @C.cf9_w @C.bh0_w) (aI @C.cgb_w @C.bhz_w))
def C.q85_B := aI (aI @C.bh2_b.eq_1 @C.bh1_b.eq_1) (aI @C.bh0_b.eq_1 @C.bhz_b.eq_1)

def C.bjs_b : LO := [
 X.m 8 0,
 X.o 9 (.nilchk (X.s 8)),
 X.o 10 (.fldAddr 1 (X.s 9)),
 X.o 11 (.load1 (X.s 10)),
 X.m 12 1,
 X.o 13 (.call F.q98 [X.s 11, X.s 12]),
 X.m 4 13]
def C.bjs : LO := C.bjs_b
def C.bjs_w := pO C.bjs.eq_1
def C.cgv : ICode := .keep [0, 1] (.seq (.region C.bjs) .ret)
def C.cgv_w := pC C.cgv.eq_1
def C.bjr_b : LO := [
 X.o 4 (.move (X.i 4))]
def C.bjr : LO := C.bjr_b
def C.bjr_w := pO C.bjr.eq_1
def C.cgw : ICode := .seq (.region C.bjr) .ret
def C.cgw_w := pC C.cgw.eq_1
def C.cgx : ICode := .keep [0, 1, 7] (.cond (X.s 7) C.cgw .skip)
def C.cgx_w := pC C.cgx.eq_1
def C.bjp_b : LO := [
 X.m 5 0,
 X.o 6 (.call F.q93 [X.s 5]),
 X.o 7 (.un .not (X.s 6))]
def C.bjp : LO := C.bjp_b
def C.bjp_w := pO C.bjp.eq_1
def C.cgy : ICode := .keep [0, 1] (.seq (.seq (.region C.bjp) C.cgx) C.cgv)
def C.cgy_w := pC C.cgy.eq_1
def C.bjn_b : LO := [
 X.o 4 (.move (X.i 0))]
def C.bjn : LO := C.bjn_b
def C.bjn_w := pO C.bjn.eq_1
def C.q90 : IFunc := ⟨2, [.slot 4], .seq (.region C.bjn) C.cgy⟩
def C.q90_W := aI (aI (aI @C.bjs_w @C.cgv_w) (aI @C.bjr_w @C.cgw_w)) (aI (aI @C.cgx_w @C.bjp_w) (aI @C.cgy_w @C.bjn_w))
def C.q90_B := aI (aI @C.bjs_b.eq_1 @C.bjr_b.eq_1) (aI @C.bjp_b.eq_1 @C.bjn_b.eq_1)

def C.bjh_b : LO := [
 X.m 5 0,
 X.o 6 (.call F.q93 [X.s 5]),
 X.m 7 6,
 X.t 7 8 (.move (X.s 0)),
 X.t 7 9 (.nilchk (X.s 8)),
 X.t 7 10 (.fldAddr 0 (X.s 9)),
 X.t 7 11 (.load1 (X.s 10)),
 X.t 7 12 (.move (X.s 1)),
 X.t 7 13 (.call F.q20 [X.s 11, X.s 12]),
 X.o 14 (.pick (X.s 7) (X.s 13) (.cst (.bool false))),
 X.m 4 14]
def C.bjh : LO := C.bjh_b
def C.bjh_w := pO C.bjh.eq_1
def C.cgs : ICode := .keep [0, 1] (.seq (.region C.bjh) .ret)
def C.cgs_w := pC C.cgs.eq_1
def C.bjg_b : LO := [
 X.o 4 (.move (.cst (.bool false)))]
def C.bjg : LO := C.bjg_b
def C.bjg_w := pO C.bjg.eq_1
def C.q88 : IFunc := ⟨2, [.slot 4], .seq (.region C.bjg) C.cgs⟩
def C.q88_W := aI @C.bjh_w (aI @C.cgs_w @C.bjg_w)
def C.q88_B := aI @C.bjh_b.eq_1 @C.bjg_b.eq_1

def C.jr_b : LO := [
 X.m 49 5,
 X.m 2 49,
 X.o 3 (.move (X.i 0))]
def C.jr : LO := C.jr_b
def C.jr_w := pO C.jr.eq_1
def C.btd : ICode := .keep [5] (.seq (.region C.jr) .ret)
def C.btd_w := pC C.btd.eq_1
def C.jp_b : LO := [
 X.o 48 (.bin .add (X.s 20) (X.i 1)),
 X.m 20 48]
def C.jp : LO := C.jp_b
def C.jp_w := pO C.jp.eq_1
def C.btl : ICode := .keep [5, 18, 19, 20] (.region C.jp)
def C.btl_w := pC C.btl.eq_1
def C.t8_b : LO := [
 X.m 38 5,
 X.m 39 5,
 X.o 40 (.nilchk (X.s 39)),
 X.o 41 (.fldAddr 0 (X.s 40)),
 X.o 42 (.load1 (X.s 41)),
 X.o 43 (.loadN 11 (X.s 8)),
 X.o 44 (.buildSlice 11 1 [.int .u8 0, .nils, .int .u64 0, .int .i64 0, .int .i64 0, .int .i64 0, .bool false, .int .i64 0, .int .i64 0, .int .i64 0, .int .i64 0] [(0, 11, X.s 43)]),
 X.o 45 (.append 11 104 (X.s 42) (X.s 44)),
 X.o 46 (.nilchk (X.s 38)),
 X.o 47 (.fldAddr 0 (X.s 46)),
 X.n (.store1 (X.s 47) (X.s 45))]
def C.t8 : LO := C.t8_b
def C.t8_w := pO C.t8.eq_1
def C.t7 : ICode := .keep [5, 8, 18, 19, 20] (.region C.t8)
def C.t7_w := pC C.t7.eq_1
def C.jl_b : LO := [
 X.o 30 (.fldAddr 5 (X.s 7)),
 X.o 31 (.load1 (X.s 30)),
 X.o 32 (.fldAddr 7 (X.s 8)),
 X.n (.store1 (X.s 32) (X.s 31))]
def C.jl : LO := C.jl_b
def C.jl_w := pO C.jl.eq_1
def C.jn_b : LO := [
 X.o 35 (.fldAddr 4 (X.s 7)),
 X.o 36 (.load1 (X.s 35)),
 X.o 37 (.fldAddr 10 (X.s 8)),
 X.n (.store1 (X.s 37) (X.s 36))]
def C.jn : LO := C.jn_b
def C.jn_w := pO C.jn.eq_1
def C.btr : ICode := .keep [5, 7, 8, 18, 19, 20, 33] (.cond (X.s 33) (.region C.jn) .skip)
def C.btr_w := pC C.btr.eq_1
def C.jm_b : LO := [
 X.o 34 (.bin .eql (X.s 27) (.cst (.int .u8 100))),
 X.m 33 34]
def C.jm : LO := C.jm_b
def C.jm_w := pO C.jm.eq_1
def C.bts : ICode := .seq (.region C.jm) C.btr
def C.bts_w := pC C.bts.eq_1
def C.btt : ICode := .keep [5, 7, 8, 18, 19, 20, 27, 28] (.cond (X.s 28) (.region C.jl) C.bts)
def C.btt_w := pC C.btt.eq_1
def C.jk_b : LO := [
 X.o 29 (.bin .eql (X.s 27) (.cst (.int .u8 112))),
 X.m 28 29]
def C.jk : LO := C.jk_b
def C.jk_w := pO C.jk.eq_1
def C.btc : ICode := .seq (.region C.jk) C.btt
def C.btc_w := pC C.btc.eq_1
def C.btv : ICode := .keep [5, 7, 8, 18, 19, 20, 27] (.block 2 C.btc)
def C.btv_w := pC C.btv.eq_1
def C.jq_b : LO := [
 X.o 26 (.fldAddr 0 (X.s 7)),
 X.o 27 (.load1 (X.s 26))]
def C.jq : LO := C.jq_b
def C.jq_w := pO C.jq.eq_1
def C.blp : ICode := .keep [5, 7, 8, 18, 19, 20] (.seq (.seq (.region C.jq) C.btv) C.t7)
def C.blp_w := pC C.blp.eq_1
def C.bw_b : LO := [
 X.o 24 (.loadN 6 (X.s 7)),
 X.o 25 (.build [.int .u8 0, .nils, .int .u64 0, .int .i64 0, .int .i64 0, .int .i64 0, .bool false, .int .i64 0, .int .i64 0, .int .i64 0, .int .i64 0] [(0, 6, X.s 24)]),
 X.o 8 (.alloc [.int .u8 0, .nils, .int .u64 0, .int .i64 0, .int .i64 0, .int .i64 0, .bool false, .int .i64 0, .int .i64 0, .int .i64 0, .int .i64 0]),
 X.n (.storeN 11 (X.s 8) (X.s 25))]
def C.bw : LO := C.bw_b
def C.bw_w := pO C.bw.eq_1
def C.blm : ICode := .keep [5, 7, 18, 19, 20] (.seq (.region C.bw) C.blp)
def C.blm_w := pC C.blm.eq_1
def C.jy_b : LO := [
 X.o 22 (.idxAddr 6 (X.s 18) (X.s 20)),
 X.o 23 (.loadN 6 (X.s 22)),
 X.o 7 (.alloc [.int .u8 0, .nils, .int .u64 0, .int .i64 0, .int .i64 0, .int .i64 0]),
 X.n (.storeN 6 (X.s 7) (X.s 23))]
def C.jy : LO := C.jy_b
def C.jy_w := pO C.jy.eq_1
def C.bs9 : ICode := .seq (.region C.jy) C.blm
def C.bs9_w := pC C.bs9.eq_1
def C.btf : ICode := .keep [5, 18, 19, 20] (.seq (.block 1 C.bs9) C.btl)
def C.btf_w := pC C.btf.eq_1
def C.btg : ICode := .keep [5, 18, 19, 20, 21] (.seq (.cond (X.s 21) .skip (.exit 0)) C.btf)
def C.btg_w := pC C.btg.eq_1
def C.jx_b : LO := [
 X.o 21 (.bin .lss (X.s 20) (X.s 19))]
def C.jx : LO := C.jx_b
def C.jx_w := pO C.jx.eq_1
def C.cjq : ICode := .keep [5, 18, 19, 20] (.seq (.region C.jx) C.btg)
def C.cjq_w := pC C.cjq.eq_1
def C.btb : ICode := .loop C.cjq
def C.btb_w := pC C.btb.eq_1
def C.bth : ICode := .keep [5, 18, 19, 20] (.block 0 C.btb)
def C.bth_w := pC C.bth.eq_1
def C.jw_b : LO := [
 X.o 16 (.loadN 4 (X.s 1)),
 X.o 17 (.call F.q38 [X.s 16]),
 X.o 18 (.field1 0 (X.s 17)),
 X.o 19 (.len (X.s 18)),
 X.o 20 (.move (X.i 0))]
def C.jw : LO := C.jw_b
def C.jw_w := pO C.jw.eq_1
def C.bln : ICode := .keep [1, 5] (.seq (.seq (.region C.jw) C.bth) C.btd)
def C.bln_w := pC C.bln.eq_1
def C.jv_b : LO := [
 X.o 14 (.build [.nils] []),
 X.o 15 (.boxN (X.s 14)),
 X.m 5 15]
def C.jv : LO := C.jv_b
def C.jv_w := pO C.jv.eq_1
def C.btj : ICode := .keep [1] (.seq (.region C.jv) C.bln)
def C.btj_w := pC C.btj.eq_1
def C.jt_b : LO := [
 X.m 13 4,
 X.o 2 (.move (.cst (.nilp))),
 X.m 3 13]
def C.jt : LO := C.jt_b
def C.jt_w := pO C.jt.eq_1
def C.btk : ICode := .seq (.region C.jt) .ret
def C.btk_w := pC C.btk.eq_1
def C.btm : ICode := .keep [1, 4, 12] (.cond (X.s 12) C.btk .skip)
def C.btm_w := pC C.btm.eq_1
def C.js_b : LO := [
 X.m 11 4,
 X.o 12 (.bin .neq (X.s 11) (X.i 0))]
def C.js : LO := C.js_b
def C.js_w := pO C.js.eq_1
def C.btn : ICode := .keep [1, 4] (.seq (.region C.js) C.btm)
def C.btn_w := pC C.btn.eq_1
def C.jj_b : LO := [
 X.o 9 (.loadN 4 (X.s 1)),
 X.o 10 (.call F.q25 [X.s 9]),
 X.m 4 10]
def C.jj : LO := C.jj_b
def C.jj_w := pO C.jj.eq_1
def C.btp : ICode := .keep [1] (.seq (.seq (.region C.jj) C.btn) C.btj)
def C.btp_w := pC C.btp.eq_1
def C.bc_b : LO := [
 X.o 1 (.boxN (X.s 0)),
 X.o 2 (.move (.cst (.nilp))),
 X.o 3 (.move (X.i 0))]
def C.bc : LO := C.bc_b
def C.bc_w := pO C.bc.eq_1
def C.q17 : IFunc := ⟨1, [.slot 2, .slot 3], .seq (.region C.bc) C.btp⟩
def C.q17_W := aI (aI (aI (aI (aI @C.jr_w @C.btd_w) (aI @C.jp_w @C.btl_w)) (aI (aI @C.t8_w @C.t7_w) (aI @C.jl_w (aI @C.jn_w @C.btr_w)))) (aI (aI (aI @C.jm_w @C.bts_w) (aI @C.btt_w (aI @C.jk_w @C.btc_w))) (aI (aI @C.btv_w @C.jq_w) (aI @C.blp_w (aI @C.bw_w @C.blm_w))))) (aI (aI (aI (aI @C.jy_w @C.bs9_w) (aI @C.btf_w @C.btg_w)) (aI (aI @C.jx_w @C.btb_w) (aI @C.bth_w (aI @C.jw_w @C.bln_w)))) (aI (aI (aI @C.jv_w @C.btj_w) (aI @C.jt_w (aI @C.btk_w @C.btm_w))) (aI (aI @C.js_w @C.btn_w) (aI @C.jj_w (aI @C.btp_w @C.bc_w)))))
def C.q17_B := aI (aI (aI (aI @C.jr_b.eq_1 @C.jp_b.eq_1) (aI @C.t8_b.eq_1 @C.jl_b.eq_1)) (aI (aI @C.jn_b.eq_1 @C.jm_b.eq_1) (aI @C.jk_b.eq_1 @C.jq_b.eq_1))) (aI (aI (aI @C.bw_b.eq_1 @C.jy_b.eq_1) (aI @C.jx_b.eq_1 @C.jw_b.eq_1)) (aI (aI @C.jv_b.eq_1 @C.jt_b.eq_1) (aI @C.js_b.eq_1 (aI @C.jj_b.eq_1 @C.bc_b.eq_1))))

def C.d0_b : LO := [
 X.m 34 5,
 X.m 2 34,
 X.o 3 (.move (X.i 0))]
def C.d0 : LO := C.d0_b
def C.d0_w := pO C.d0.eq_1
def C.bl3 : ICode := .keep [5] (.seq (.region C.d0) .ret)
def C.bl3_w := pC C.bl3.eq_1
def C.d7_b : LO := [
 X.o 33 (.bin .add (X.s 18) (X.i 1)),
 X.m 18 33]
def C.d7 : LO := C.d7_b
def C.d7_w := pO C.d7.eq_1
def C.bmb : ICode := .keep [5, 16, 17, 18] (.region C.d7)
def C.bmb_w := pC C.bmb.eq_1
def C.n0_b : LO := [
 X.m 22 5,
 X.m 23 5,
 X.o 24 (.nilchk (X.s 23)),
 X.o 25 (.fldAddr 0 (X.s 24)),
 X.o 26 (.load1 (X.s 25)),
 X.o 27 (.loadN 3 (X.s 7)),
 X.o 28 (.build [.int .i64 0, .int .i64 0, .bool false, .int .u8 0, .int .i64 0, .bool false, .bool false] [(0, 3, X.s 27), (3, 1, .cst (.int .u8 48))]),
 X.o 29 (.buildSlice 7 1 [.int .i64 0, .int .i64 0, .bool false, .int .u8 0, .int .i64 0, .bool false, .bool false] [(0, 7, X.s 28)]),
 X.o 30 (.append 7 48 (X.s 26) (X.s 29)),
 X.o 31 (.nilchk (X.s 22)),
 X.o 32 (.fldAddr 0 (X.s 31)),
 X.n (.store1 (X.s 32) (X.s 30))]
def C.n0 : LO := C.n0_b
def C.n0_w := pO C.n0.eq_1
def C.bzt : ICode := .keep [5, 7, 16, 17, 18] (.region C.n0)
def C.bzt_w := pC C.bzt.eq_1
def C.d6_b : LO := [
 X.o 20 (.idxAddr 3 (X.s 16) (X.s 18)),
 X.o 21 (.loadN 3 (X.s 20)),
 X.o 7 (.alloc [.int .i64 0, .int .i64 0, .bool false]),
 X.n (.storeN 3 (X.s 7) (X.s 21))]
def C.d6 : LO := C.d6_b
def C.d6_w := pO C.d6.eq_1
def C.bl1 : ICode := .seq (.region C.d6) C.bzt
def C.bl1_w := pC C.bl1.eq_1
def C.bmc : ICode := .keep [5, 16, 17, 18] (.seq (.block 1 C.bl1) C.bmb)
def C.bmc_w := pC C.bmc.eq_1
def C.bmd : ICode := .keep [5, 16, 17, 18, 19] (.seq (.cond (X.s 19) .skip (.exit 0)) C.bmc)
def C.bmd_w := pC C.bmd.eq_1
def C.d5_b : LO := [
 X.o 19 (.bin .lss (X.s 18) (X.s 17))]
def C.d5 : LO := C.d5_b
def C.d5_w := pO C.d5.eq_1
def C.cjg : ICode := .keep [5, 16, 17, 18] (.seq (.region C.d5) C.bmd)
def C.cjg_w := pC C.cjg.eq_1
def C.bl2 : ICode := .loop C.cjg
def C.bl2_w := pC C.bl2.eq_1
def C.bmf : ICode := .keep [5, 16, 17, 18] (.block 0 C.bl2)
def C.bmf_w := pC C.bmf.eq_1
def C.d4_b : LO := [
 X.o 15 (.fldAddr 1 (X.s 1)),
 X.o 16 (.load1 (X.s 15)),
 X.o 17 (.len (X.s 16)),
 X.o 18 (.move (X.i 0))]
def C.d4 : LO := C.d4_b
def C.d4_w := pO C.d4.eq_1
def C.bl4 : ICode := .keep [1, 5] (.seq (.seq (.region C.d4) C.bmf) C.bl3)
def C.bl4_w := pC C.bl4.eq_1
def C.d3_b : LO := [
 X.o 13 (.build [.nils] []),
 X.o 14 (.boxN (X.s 13)),
 X.m 5 14]
def C.d3 : LO := C.d3_b
def C.d3_w := pO C.d3.eq_1
def C.bl5 : ICode := .keep [1] (.seq (.region C.d3) C.bl4)
def C.bl5_w := pC C.bl5.eq_1
def C.d2_b : LO := [
 X.m 12 4,
 X.o 2 (.move (.cst (.nilp))),
 X.m 3 12]
def C.d2 : LO := C.d2_b
def C.d2_w := pO C.d2.eq_1
def C.bl6 : ICode := .seq (.region C.d2) .ret
def C.bl6_w := pC C.bl6.eq_1
def C.bl7 : ICode := .keep [1, 4, 11] (.cond (X.s 11) C.bl6 .skip)
def C.bl7_w := pC C.bl7.eq_1
def C.d1_b : LO := [
 X.m 10 4,
 X.o 11 (.bin .neq (X.s 10) (X.i 0))]
def C.d1 : LO := C.d1_b
def C.d1_w := pO C.d1.eq_1
def C.bl8 : ICode := .keep [1, 4] (.seq (.region C.d1) C.bl7)
def C.bl8_w := pC C.bl8.eq_1
def C.dz_b : LO := [
 X.o 8 (.loadN 4 (X.s 1)),
 X.o 9 (.call F.q25 [X.s 8]),
 X.m 4 9]
def C.dz : LO := C.dz_b
def C.dz_w := pO C.dz.eq_1
def C.bl9 : ICode := .keep [1] (.seq (.seq (.region C.dz) C.bl8) C.bl5)
def C.bl9_w := pC C.bl9.eq_1
def C.bl_b : LO := [
 X.o 1 (.boxN (X.s 0)),
 X.o 2 (.move (.cst (.nilp))),
 X.o 3 (.move (X.i 0))]
def C.bl : LO := C.bl_b
def C.bl_w := pO C.bl.eq_1
def C.q100 : IFunc := ⟨1, [.slot 2, .slot 3], .seq (.region C.bl) C.bl9⟩
def C.q100_W := aI (aI (aI (aI @C.d0_w (aI @C.bl3_w @C.d7_w)) (aI @C.bmb_w (aI @C.n0_w @C.bzt_w))) (aI (aI @C.d6_w (aI @C.bl1_w @C.bmc_w)) (aI @C.bmd_w (aI @C.d5_w @C.bl2_w)))) (aI (aI (aI @C.bmf_w (aI @C.d4_w @C.bl4_w)) (aI @C.d3_w (aI @C.bl5_w @C.d2_w))) (aI (aI @C.bl6_w (aI @C.bl7_w @C.d1_w)) (aI (aI @C.bl8_w @C.dz_w) (aI @C.bl9_w @C.bl_w))))
def C.q100_B := aI (aI (aI @C.d0_b.eq_1 @C.d7_b.eq_1) (aI @C.n0_b.eq_1 (aI @C.d6_b.eq_1 @C.d5_b.eq_1))) (aI (aI @C.d4_b.eq_1 (aI @C.d3_b.eq_1 @C.d2_b.eq_1)) (aI @C.d1_b.eq_1 (aI @C.dz_b.eq_1 @C.bl_b.eq_1)))

def C.fw_b : LO := [
 X.m 36 5,
 X.m 2 36,
 X.o 3 (.move (X.i 0))]
def C.fw : LO := C.fw_b
def C.fw_w := pO C.fw.eq_1
def C.bm8 : ICode := .keep [5] (.seq (.region C.fw) .ret)
def C.bm8_w := pC C.bm8.eq_1
def C.fz_b : LO := [
 X.o 35 (.bin .add (X.s 22) (X.i 1)),
 X.m 22 35]
def C.fz : LO := C.fz_b
def C.fz_w := pO C.fz.eq_1
def C.bnh : ICode := .keep [5, 20, 21, 22] (.region C.fz)
def C.bnh_w := pC C.bnh.eq_1
def C.tc_b : LO := [
 X.m 27 5,
 X.o 28 (.nilchk (X.s 27)),
 X.o 29 (.fldAddr 0 (X.s 28)),
 X.o 30 (.load1 (X.s 29)),
 X.m 31 6,
 X.o 32 (.fldAddr 0 (X.s 7)),
 X.o 33 (.load1 (X.s 32)),
 X.o 34 (.build [.int .i64 0, .int .i64 0, .bool false, .bool false] [(0, 1, X.s 33), (2, 1, .cst (.bool true))]),
 X.n (.mapSet (X.s 30) (X.s 31) (X.s 34))]
def C.tc : LO := C.tc_b
def C.tc_w := pO C.tc.eq_1
def C.b29 : ICode := .keep [5, 6, 7, 20, 21, 22] (.region C.tc)
def C.b29_w := pC C.b29.eq_1
def C.fq_b : LO := [
 X.m 24 22,
 X.o 25 (.idxAddr 1 (X.s 20) (X.s 22)),
 X.o 26 (.loadN 1 (X.s 25)),
 X.o 7 (.alloc [.int .i64 0]),
 X.m 6 24,
 X.n (.storeN 1 (X.s 7) (X.s 26))]
def C.fq : LO := C.fq_b
def C.fq_w := pO C.fq.eq_1
def C.bm6 : ICode := .seq (.region C.fq) C.b29
def C.bm6_w := pC C.bm6.eq_1
def C.bnj : ICode := .keep [5, 20, 21, 22] (.seq (.block 1 C.bm6) C.bnh)
def C.bnj_w := pC C.bnj.eq_1
def C.bnk : ICode := .keep [5, 20, 21, 22, 23] (.seq (.cond (X.s 23) .skip (.exit 0)) C.bnj)
def C.bnk_w := pC C.bnk.eq_1
def C.fy_b : LO := [
 X.o 23 (.bin .lss (X.s 22) (X.s 21))]
def C.fy : LO := C.fy_b
def C.fy_w := pO C.fy.eq_1
def C.cjj : ICode := .keep [5, 20, 21, 22] (.seq (.region C.fy) C.bnk)
def C.cjj_w := pC C.cjj.eq_1
def C.bm7 : ICode := .loop C.cjj
def C.bm7_w := pC C.bm7.eq_1
def C.bnl : ICode := .keep [5, 20, 21, 22] (.block 0 C.bm7)
def C.bnl_w := pC C.bnl.eq_1
def C.fx_b : LO := [
 X.o 19 (.fldAddr 2 (X.s 1)),
 X.o 20 (.load1 (X.s 19)),
 X.o 21 (.len (X.s 20)),
 X.o 22 (.move (X.i 0))]
def C.fx : LO := C.fx_b
def C.fx_w := pO C.fx.eq_1
def C.bm9 : ICode := .keep [1, 5] (.seq (.seq (.region C.fx) C.bnl) C.bm8)
def C.bm9_w := pC C.bm9.eq_1
def C.c7_b : LO := [
 X.o 13 (.fldAddr 2 (X.s 1)),
 X.o 14 (.load1 (X.s 13)),
 X.o 15 (.len (X.s 14)),
 X.o 16 (.makeMap (some (X.s 15))),
 X.o 17 (.build [.nilm] [(0, 1, X.s 16)]),
 X.o 18 (.boxN (X.s 17)),
 X.m 5 18]
def C.c7 : LO := C.c7_b
def C.c7_w := pO C.c7.eq_1
def C.bnb : ICode := .keep [1] (.seq (.region C.c7) C.bm9)
def C.bnb_w := pC C.bnb.eq_1
def C.c6_b : LO := [
 X.m 12 4,
 X.o 2 (.move (.cst (.nilp))),
 X.m 3 12]
def C.c6 : LO := C.c6_b
def C.c6_w := pO C.c6.eq_1
def C.bnc : ICode := .seq (.region C.c6) .ret
def C.bnc_w := pC C.bnc.eq_1
def C.bnd : ICode := .keep [1, 4, 11] (.cond (X.s 11) C.bnc .skip)
def C.bnd_w := pC C.bnd.eq_1
def C.c5_b : LO := [
 X.m 10 4,
 X.o 11 (.bin .neq (X.s 10) (X.i 0))]
def C.c5 : LO := C.c5_b
def C.c5_w := pO C.c5.eq_1
def C.bnf : ICode := .keep [1, 4] (.seq (.region C.c5) C.bnd)
def C.bnf_w := pC C.bnf.eq_1
def C.c4_b : LO := [
 X.o 8 (.loadN 4 (X.s 1)),
 X.o 9 (.call F.q25 [X.s 8]),
 X.m 4 9]
def C.c4 : LO := C.c4_b
def C.c4_w := pO C.c4.eq_1
def C.bng : ICode := .keep [1] (.seq (.seq (.region C.c4) C.bnf) C.bnb)
def C.bng_w := pC C.bng.eq_1
def C.bt_b : LO := [
 X.o 1 (.boxN (X.s 0)),
 X.o 2 (.move (.cst (.nilp))),
 X.o 3 (.move (X.i 0))]
def C.bt : LO := C.bt_b
def C.bt_w := pO C.bt.eq_1
def C.q123 : IFunc := ⟨1, [.slot 2, .slot 3], .seq (.region C.bt) C.bng⟩
def C.q123_W := aI (aI (aI (aI @C.fw_w (aI @C.bm8_w @C.fz_w)) (aI @C.bnh_w (aI @C.tc_w @C.b29_w))) (aI (aI @C.fq_w (aI @C.bm6_w @C.bnj_w)) (aI @C.bnk_w (aI @C.fy_w @C.bm7_w)))) (aI (aI (aI @C.bnl_w (aI @C.fx_w @C.bm9_w)) (aI @C.c7_w (aI @C.bnb_w @C.c6_w))) (aI (aI @C.bnc_w (aI @C.bnd_w @C.c5_w)) (aI (aI @C.bnf_w @C.c4_w) (aI @C.bng_w @C.bt_w))))
def C.q123_B := aI (aI (aI @C.fw_b.eq_1 @C.fz_b.eq_1) (aI @C.tc_b.eq_1 (aI @C.fq_b.eq_1 @C.fy_b.eq_1))) (aI (aI @C.fx_b.eq_1 (aI @C.c7_b.eq_1 @C.c6_b.eq_1)) (aI @C.c5_b.eq_1 (aI @C.c4_b.eq_1 @C.bt_b.eq_1)))

def C.sn_b : LO := [
 X.m 20 4,
 X.m 2 20,
 X.o 3 (.move (X.i 0))]
def C.sn : LO := C.sn_b
def C.sn_w := pO C.sn.eq_1
def C.b2f : ICode := .keep [4] (.seq (.region C.sn) .ret)
def C.b2f_w := pC C.b2f.eq_1
def C.sm_b : LO := [
 X.m 18 4,
 X.o 19 (.call F.q106 [X.s 18])]
def C.sm : LO := C.sm_b
def C.sm_w := pO C.sm.eq_1
def C.b2g : ICode := .keep [4] (.seq (.region C.sm) C.b2f)
def C.b2g_w := pC C.b2g.eq_1
def C.sl_b : LO := [
 X.m 8 0,
 X.m 10 0,
 X.o 11 (.len (X.s 10)),
 X.m 13 0,
 X.o 14 (.len (X.s 13)),
 ⟨some 9, .call F.q124 [X.s 8], none, [], [(X.s 11, X.s 11), (X.s 14, X.s 14)]⟩,
 ⟨some 12, .makeSlice 1 4 [.int .u32 0] (X.s 11) (X.s 11), none, [], [(X.s 14, X.s 14)]⟩,
 X.o 15 (.makeSlice 1 4 [.int .u32 0] (X.s 14) (X.s 14)),
 X.o 16 (.build [.nils, .nils, .nils, .bool false] [(0, 1, X.s 9), (1, 1, X.s 12), (2, 1, X.s 15)]),
 X.o 17 (.boxN (X.s 16)),
 X.m 4 17]
def C.sl : LO := C.sl_b
def C.sl_w := pO C.sl.eq_1
def C.b2h : ICode := .keep [0] (.seq (.region C.sl) C.b2g)
def C.b2h_w := pC C.b2h.eq_1
def C.sk_b : LO := [
 X.o 2 (.move (.cst (.nilp))),
 X.o 3 (.move (X.i 8))]
def C.sk : LO := C.sk_b
def C.sk_w := pO C.sk.eq_1
def C.b2j : ICode := .seq (.region C.sk) .ret
def C.b2j_w := pC C.b2j.eq_1
def C.b2k : ICode := .keep [0, 7] (.cond (X.s 7) C.b2j .skip)
def C.b2k_w := pC C.b2k.eq_1
def C.sj_b : LO := [
 X.m 5 0,
 X.o 6 (.len (X.s 5)),
 X.o 7 (.bin .gtr (X.s 6) (X.i 8))]
def C.sj : LO := C.sj_b
def C.sj_w := pO C.sj.eq_1
def C.b2l : ICode := .keep [0] (.seq (.seq (.region C.sj) C.b2k) C.b2h)
def C.b2l_w := pC C.b2l.eq_1
def C.sh_b : LO := [
 X.o 2 (.move (.cst (.nilp))),
 X.o 3 (.move (X.i 0))]
def C.sh : LO := C.sh_b
def C.sh_w := pO C.sh.eq_1
def C.q118 : IFunc := ⟨1, [.slot 2, .slot 3], .seq (.region C.sh) C.b2l⟩
def C.q118_W := aI (aI (aI @C.sn_w (aI @C.b2f_w @C.sm_w)) (aI @C.b2g_w (aI @C.sl_w @C.b2h_w))) (aI (aI @C.sk_w (aI @C.b2j_w @C.b2k_w)) (aI @C.sj_w (aI @C.b2l_w @C.sh_w)))
def C.q118_B := aI (aI @C.sn_b.eq_1 (aI @C.sm_b.eq_1 @C.sl_b.eq_1)) (aI @C.sk_b.eq_1 (aI @C.sj_b.eq_1 @C.sh_b.eq_1))

def C.rf_b : LO := [
 X.m 5 0,
 X.o 6 (.nilchk (X.s 5)),
 X.o 7 (.fldAddr 0 (X.s 6)),
 X.o 8 (.load1 (X.s 7)),
 X.o 9 (.len (X.s 8)),
 X.m 2 9]
def C.rf : LO := C.rf_b
def C.rf_w := pO C.rf.eq_1
def C.b09 : ICode := .keep [0] (.seq (.region C.rf) .ret)
def C.b09_w := pC C.b09.eq_1
def C.rd_b : LO := [
 X.o 2 (.move (X.i 0))]
def C.rd : LO := C.rd_b
def C.rd_w := pO C.rd.eq_1
def C.b1b : ICode := .seq (.region C.rd) .ret
def C.b1b_w := pC C.b1b.eq_1
def C.b1c : ICode := .keep [0, 4] (.cond (X.s 4) C.b1b .skip)
def C.b1c_w := pC C.b1c.eq_1
def C.rc_b : LO := [
 X.m 3 0,
 X.o 4 (.eqP 0 false (X.s 3) (.cst (.nilp)))]
def C.rc : LO := C.rc_b
def C.rc_w := pO C.rc.eq_1
def C.b1d : ICode := .keep [0] (.seq (.seq (.region C.rc) C.b1c) C.b09)
def C.b1d_w := pC C.b1d.eq_1
def C.rb_b : LO := [
 X.o 2 (.move (X.i 0))]
def C.rb : LO := C.rb_b
def C.rb_w := pO C.rb.eq_1
def C.q108 : IFunc := ⟨1, [.slot 2], .seq (.region C.rb) C.b1d⟩
def C.q108_W := aI (aI (aI @C.rf_w @C.b09_w) (aI @C.rd_w @C.b1b_w)) (aI (aI @C.b1c_w @C.rc_w) (aI @C.b1d_w @C.rb_w))
def C.q108_B := aI (aI @C.rf_b.eq_1 @C.rd_b.eq_1) (aI @C.rc_b.eq_1 @C.rb_b.eq_1)

def C.p4_b : LO := [
 X.o 1 (.build [.int .i64 0, .int .i64 0] []),
 X.o 2 (.boxN (X.s 1)),
 X.m 0 2]
def C.p4 : LO := C.p4_b
def C.p4_w := pO C.p4.eq_1
def C.b04 : ICode := .keep [] (.seq (.region C.p4) .ret)
def C.b04_w := pC C.b04.eq_1
def C.p3_b : LO := [
 X.o 0 (.move (.cst (.nilp)))]
def C.p3 : LO := C.p3_b
def C.p3_w := pO C.p3.eq_1
def C.q105 : IFunc := ⟨0, [.slot 0], .seq (.region C.p3) C.b04⟩
def C.q105_W := aI @C.p4_w (aI @C.b04_w @C.p3_w)
def C.q105_B := aI @C.p4_b.eq_1 @C.p3_b.eq_1

def C.bk5_b : LO := [
 X.m 39 4,
 X.m 2 39,
 X.o 3 (.move (X.i 0))]
def C.bk5 : LO := C.bk5_b
def C.bk5_w := pO C.bk5.eq_1
def C.cjf : ICode := .keep [4] (.seq (.region C.bk5) .ret)
def C.cjf_w := pC C.cjf.eq_1
def C.nh_b : LO := [
 X.o 38 (.bin .add (X.s 20) (X.i 1)),
 X.m 20 38]
def C.nh : LO := C.nh_b
def C.nh_w := pO C.nh.eq_1
def C.bzd : ICode := .keep [4, 18, 19, 20] (.region C.nh)
def C.bzd_w := pC C.bzd.eq_1
def C.np_b : LO := [
 X.m 31 4,
 X.o 32 (.nilchk (X.s 31)),
 X.o 33 (.fldAddr 0 (X.s 32)),
 X.o 34 (.load1 (X.s 33)),
 X.m 35 5,
 X.m 36 6,
 X.o 37 (.idxAddr 1 (X.s 34) (X.s 35)),
 X.n (.store1 (X.s 37) (X.s 36))]
def C.np : LO := C.np_b
def C.np_w := pO C.np.eq_1
def C.bzf : ICode := .keep [4, 5, 6, 18, 19, 20] (.region C.np)
def C.bzf_w := pC C.bzf.eq_1
def C.nn_b : LO := [
 X.o 2 (.move (.cst (.nilp))),
 X.o 3 (.move (X.i 1))]
def C.nn : LO := C.nn_b
def C.nn_w := pO C.nn.eq_1
def C.bzg : ICode := .seq (.region C.nn) .ret
def C.bzg_w := pC C.bzg.eq_1
def C.bzh : ICode := .keep [4, 5, 6, 18, 19, 20, 30] (.cond (X.s 30) C.bzg .skip)
def C.bzh_w := pC C.bzh.eq_1
def C.nm_b : LO := [
 X.m 25 6,
 X.o 26 (.bin .lss (X.s 25) (X.i 0)),
 X.m 27 26,
 X.f 27 28 (.move (X.s 6)),
 X.f 27 29 (.bin .gtr (X.s 28) (X.i 8)),
 X.o 30 (.pick (X.s 27) (.cst (.bool true)) (X.s 29))]
def C.nm : LO := C.nm_b
def C.nm_w := pO C.nm.eq_1
def C.bzj : ICode := .keep [4, 5, 6, 18, 19, 20] (.seq (.seq (.region C.nm) C.bzh) C.bzf)
def C.bzj_w := pC C.bzj.eq_1
def C.nl_b : LO := [
 X.m 22 20,
 X.o 23 (.idxAddr 1 (X.s 18) (X.s 20)),
 X.o 24 (.load1 (X.s 23)),
 X.m 5 22,
 X.m 6 24]
def C.nl : LO := C.nl_b
def C.nl_w := pO C.nl.eq_1
def C.bq5 : ICode := .seq (.region C.nl) C.bzj
def C.bq5_w := pC C.bq5.eq_1
def C.bzk : ICode := .keep [4, 18, 19, 20] (.seq (.block 1 C.bq5) C.bzd)
def C.bzk_w := pC C.bzk.eq_1
def C.bzl : ICode := .keep [4, 18, 19, 20, 21] (.seq (.cond (X.s 21) .skip (.exit 0)) C.bzk)
def C.bzl_w := pC C.bzl.eq_1
def C.nk_b : LO := [
 X.o 21 (.bin .lss (X.s 20) (X.s 19))]
def C.nk : LO := C.nk_b
def C.nk_w := pO C.nk.eq_1
def C.ckw : ICode := .keep [4, 18, 19, 20] (.seq (.region C.nk) C.bzl)
def C.ckw_w := pC C.ckw.eq_1
def C.bq4 : ICode := .loop C.ckw
def C.bq4_w := pC C.bq4.eq_1
def C.bq6 : ICode := .keep [4, 18, 19, 20] (.block 0 C.bq4)
def C.bq6_w := pC C.bq6.eq_1
def C.nj_b : LO := [
 X.m 18 0,
 X.o 19 (.len (X.s 18)),
 X.o 20 (.move (X.i 0))]
def C.nj : LO := C.nj_b
def C.nj_w := pO C.nj.eq_1
def C.bq7 : ICode := .keep [0, 4] (.seq (.seq (.region C.nj) C.bq6) C.cjf)
def C.bq7_w := pC C.bq7.eq_1
def C.dq_b : LO := [
 X.m 10 0,
 X.o 11 (.len (X.s 10)),
 X.m 13 0,
 X.o 14 (.len (X.s 13)),
 ⟨some 12, .makeSlice 1 8 [.int .i64 0] (X.s 11) (X.s 11), none, [], [(X.s 14, X.s 14)]⟩,
 X.o 15 (.makeSlice 1 24 [.nils] (X.s 14) (X.s 14)),
 X.o 16 (.build [.nils, .nils, .int .i64 0] [(0, 1, X.s 12), (1, 1, X.s 15)]),
 X.o 17 (.boxN (X.s 16)),
 X.m 4 17]
def C.dq : LO := C.dq_b
def C.dq_w := pO C.dq.eq_1
def C.bq8 : ICode := .keep [0] (.seq (.region C.dq) C.bq7)
def C.bq8_w := pC C.bq8.eq_1
def C.dy_b : LO := [
 X.o 2 (.move (.cst (.nilp))),
 X.o 3 (.move (X.i 1))]
def C.dy : LO := C.dy_b
def C.dy_w := pO C.dy.eq_1
def C.bq9 : ICode := .seq (.region C.dy) .ret
def C.bq9_w := pC C.bq9.eq_1
def C.bzb : ICode := .keep [0, 9] (.cond (X.s 9) C.bq9 .skip)
def C.bzb_w := pC C.bzb.eq_1
def C.dx_b : LO := [
 X.m 7 0,
 X.o 8 (.len (X.s 7)),
 X.o 9 (.bin .gtr (X.s 8) (X.i 6))]
def C.dx : LO := C.dx_b
def C.dx_w := pO C.dx.eq_1
def C.bzc : ICode := .keep [0] (.seq (.seq (.region C.dx) C.bzb) C.bq8)
def C.bzc_w := pC C.bzc.eq_1
def C.dw_b : LO := [
 X.o 2 (.move (.cst (.nilp))),
 X.o 3 (.move (X.i 0))]
def C.dw : LO := C.dw_b
def C.dw_w := pO C.dw.eq_1
def C.q9 : IFunc := ⟨1, [.slot 2, .slot 3], .seq (.region C.dw) C.bzc⟩
def C.q9_W := aI (aI (aI (aI @C.bk5_w (aI @C.cjf_w @C.nh_w)) (aI (aI @C.bzd_w @C.np_w) (aI @C.bzf_w @C.nn_w))) (aI (aI @C.bzg_w (aI @C.bzh_w @C.nm_w)) (aI (aI @C.bzj_w @C.nl_w) (aI @C.bq5_w @C.bzk_w)))) (aI (aI (aI @C.bzl_w (aI @C.nk_w @C.bq4_w)) (aI (aI @C.bq6_w @C.nj_w) (aI @C.bq7_w @C.dq_w))) (aI (aI @C.bq8_w (aI @C.dy_w @C.bq9_w)) (aI (aI @C.bzb_w @C.dx_w) (aI @C.bzc_w @C.dw_w))))
def C.q9_B := aI (aI (aI @C.bk5_b.eq_1 (aI @C.nh_b.eq_1 @C.np_b.eq_1)) (aI @C.nn_b.eq_1 (aI @C.nm_b.eq_1 @C.nl_b.eq_1))) (aI (aI @C.nk_b.eq_1 (aI @C.nj_b.eq_1 @C.dq_b.eq_1)) (aI @C.dy_b.eq_1 (aI @C.dx_b.eq_1 @C.dw_b.eq_1)))

def C.v3_b : LO := [
 X.m 25 0,
 X.m 26 10,
 X.m 27 1,
 X.m 30 3,
 X.m 31 1,
 X.o 32 (.bin .shl (X.s 30) (X.s 31)),
 X.o 28 (.callv (X.s 26) [X.s 27]),
 X.o 29 (.bin .andNot (X.s 25) (X.s 28)),
 X.o 33 (.bin .or (X.s 29) (X.s 32)),
 X.m 8 33,
 X.o 9 (.move (X.i 0))]
def C.v3 : LO := C.v3_b
def C.v3_w := pO C.v3.eq_1
def C.b4p : ICode := .keep [0, 1, 3, 10] (.seq (.region C.v3) .ret)
def C.b4p_w := pC C.b4p.eq_1
def C.v2_b : LO := [
 X.o 8 (.move (.cst (.int .u32 0))),
 X.o 9 (.move (X.i 1))]
def C.v2 : LO := C.v2_b
def C.v2_w := pO C.v2.eq_1
def C.b4r : ICode := .seq (.region C.v2) .ret
def C.b4r_w := pC C.b4r.eq_1
def C.b4s : ICode := .keep [0, 1, 3, 10, 24] (.cond (X.s 24) C.b4r .skip)
def C.b4s_w := pC C.b4s.eq_1
def C.v1_b : LO := [
 X.m 20 3,
 X.m 21 10,
 X.o 22 (.callv (X.s 21) [X.i 0]),
 X.o 23 (.bin .andNot (X.s 20) (X.s 22)),
 X.o 24 (.bin .neq (X.s 23) (.cst (.int .u32 0)))]
def C.v1 : LO := C.v1_b
def C.v1_w := pO C.v1.eq_1
def C.b4t : ICode := .keep [0, 1, 3, 10] (.seq (.seq (.region C.v1) C.b4s) C.b4p)
def C.b4t_w := pC C.b4t.eq_1
def C.v0_b : LO := [
 X.o 8 (.move (.cst (.int .u32 0))),
 X.o 9 (.move (X.i 3))]
def C.v0 : LO := C.v0_b
def C.v0_w := pO C.v0.eq_1
def C.b4v : ICode := .seq (.region C.v0) .ret
def C.b4v_w := pC C.b4v.eq_1
def C.b4w : ICode := .keep [0, 1, 3, 10, 19] (.cond (X.s 19) C.b4v .skip)
def C.b4w_w := pC C.b4w.eq_1
def C.vz_b : LO := [
 X.m 18 11,
 X.o 19 (.un .not (X.s 18))]
def C.vz : LO := C.vz_b
def C.vz_w := pO C.vz.eq_1
def C.b4x : ICode := .keep [0, 1, 3, 10, 11] (.seq (.seq (.region C.vz) C.b4w) C.b4t)
def C.b4x_w := pC C.b4x.eq_1
def C.vq_b : LO := [
 X.m 13 1,
 X.m 14 2,
 X.o 15 (.call F.q2 [X.s 13, X.s 14]),
 X.m 12 15,
 X.o 16 (.extract (X.s 12) 0),
 X.o 17 (.extract (X.s 12) 1),
 X.m 10 16,
 X.m 11 17]
def C.vq : LO := C.vq_b
def C.vq_w := pO C.vq.eq_1
def C.b4y : ICode := .keep [0, 1, 2, 3] (.seq (.region C.vq) C.b4x)
def C.b4y_w := pC C.b4y.eq_1
def C.vy_b : LO := [
 X.o 8 (.move (.cst (.int .u32 0))),
 X.o 9 (.move (X.i 0))]
def C.vy : LO := C.vy_b
def C.vy_w := pO C.vy.eq_1
def C.q1 : IFunc := ⟨4, [.slot 8, .slot 9], .seq (.region C.vy) C.b4y⟩
def C.q1_W := aI (aI (aI @C.v3_w (aI @C.b4p_w @C.v2_w)) (aI (aI @C.b4r_w @C.b4s_w) (aI @C.v1_w @C.b4t_w))) (aI (aI (aI @C.v0_w @C.b4v_w) (aI @C.b4w_w @C.vz_w)) (aI (aI @C.b4x_w @C.vq_w) (aI @C.b4y_w @C.vy_w)))
def C.q1_B := aI (aI @C.v3_b.eq_1 (aI @C.v2_b.eq_1 @C.v1_b.eq_1)) (aI (aI @C.v0_b.eq_1 @C.vz_b.eq_1) (aI @C.vq_b.eq_1 @C.vy_b.eq_1))

def C.rp_b : LO := [
 X.m 12 0,
 X.o 13 (.call F.q11 [X.s 12, X.i 16, X.i 8]),
 X.m 14 0,
 X.o 15 (.call F.q11 [X.s 14, X.i 2, X.i 14]),
 X.m 2 13,
 X.m 3 15]
def C.rp : LO := C.rp_b
def C.rp_w := pO C.rp.eq_1
def C.b1k : ICode := .keep [0] (.seq (.region C.rp) .ret)
def C.b1k_w := pC C.b1k.eq_1
def C.rn_b : LO := [
 X.o 2 (.move (X.i (-1))),
 X.o 3 (.move (X.i (-1)))]
def C.rn : LO := C.rn_b
def C.rn_w := pO C.rn.eq_1
def C.b1l : ICode := .seq (.region C.rn) .ret
def C.b1l_w := pC C.b1l.eq_1
def C.b1m : ICode := .keep [0, 11] (.cond (X.s 11) C.b1l .skip)
def C.b1m_w := pC C.b1m.eq_1
def C.rm_b : LO := [
 X.m 4 0,
 X.o 5 (.call F.q11 [X.s 4, X.i 0, X.i 2]),
 X.o 6 (.bin .neq (X.s 5) (X.i 0)),
 X.m 7 6,
 X.f 7 8 (.move (X.s 0)),
 X.f 7 9 (.call F.q11 [X.s 8, X.i 24, X.i 8]),
 X.f 7 10 (.bin .neq (X.s 9) (X.i 0)),
 X.o 11 (.pick (X.s 7) (.cst (.bool true)) (X.s 10))]
def C.rm : LO := C.rm_b
def C.rm_w := pO C.rm.eq_1
def C.b1n : ICode := .keep [0] (.seq (.seq (.region C.rm) C.b1m) C.b1k)
def C.b1n_w := pC C.b1n.eq_1
def C.rl_b : LO := [
 X.o 2 (.move (X.i 0)),
 X.o 3 (.move (X.i 0))]
def C.rl : LO := C.rl_b
def C.rl_w := pO C.rl.eq_1
def C.q10 : IFunc := ⟨1, [.slot 2, .slot 3], .seq (.region C.rl) C.b1n⟩
def C.q10_W := aI (aI (aI @C.rp_w @C.b1k_w) (aI @C.rn_w @C.b1l_w)) (aI (aI @C.b1m_w @C.rm_w) (aI @C.b1n_w @C.rl_w))
def C.q10_B := aI (aI @C.rp_b.eq_1 @C.rn_b.eq_1) (aI @C.rm_b.eq_1 @C.rl_b.eq_1)

def C.bjx_b : LO := [
 X.m 5 0,
 X.o 6 (.call F.q93 [X.s 5]),
 X.m 7 6,
 X.t 7 8 (.move (X.s 1)),
 X.t 7 9 (.bin .geq (X.s 8) (X.i 0)),
 X.o 10 (.pick (X.s 7) (X.s 9) (.cst (.bool false))),
 X.m 11 10,
 X.t 11 12 (.move (X.s 1)),
 X.t 11 13 (.move (X.s 0)),
 X.t 11 14 (.nilchk (X.s 13)),
 X.t 11 15 (.fldAddr 4 (X.s 14)),
 X.t 11 16 (.load1 (X.s 15)),
 X.t 11 17 (.len (X.s 16)),
 X.t 11 18 (.bin .lss (X.s 12) (X.s 17)),
 X.o 19 (.pick (X.s 11) (X.s 18) (.cst (.bool false))),
 X.m 4 19]
def C.bjx : LO := C.bjx_b
def C.bjx_w := pO C.bjx.eq_1
def C.cgq : ICode := .keep [0, 1] (.seq (.region C.bjx) .ret)
def C.cgq_w := pC C.cgq.eq_1
def C.bjw_b : LO := [
 X.o 4 (.move (.cst (.bool false)))]
def C.bjw : LO := C.bjw_b
def C.bjw_w := pO C.bjw.eq_1
def C.q92 : IFunc := ⟨2, [.slot 4], .seq (.region C.bjw) C.cgq⟩
def C.q92_W := aI @C.bjx_w (aI @C.cgq_w @C.bjw_w)
def C.q92_B := aI @C.bjx_b.eq_1 @C.bjw_b.eq_1

def C.pw_b : LO := [
 X.m 5 0,
 X.o 6 (.nilchk (X.s 5)),
 X.o 7 (.fldAddr 0 (X.s 6)),
 X.o 8 (.load1 (X.s 7)),
 X.o 9 (.arrAddr 1 4 (.cst (.iptr [.int .u8 114, .int .u8 97, .int .u8 115, .int .u8 100] 0)) (X.s 8)),
 X.o 10 (.load1 (X.s 9)),
 X.m 2 10]
def C.pw : LO := C.pw_b
def C.pw_w := pO C.pw.eq_1
def C.b0p : ICode := .keep [0] (.seq (.region C.pw) .ret)
def C.b0p_w := pC C.b0p.eq_1
def C.pv_b : LO := [
 X.o 2 (.move (.cst (.int .u8 0)))]
def C.pv : LO := C.pv_b
def C.pv_w := pO C.pv.eq_1
def C.b0r : ICode := .seq (.region C.pv) .ret
def C.b0r_w := pC C.b0r.eq_1
def C.b0s : ICode := .keep [0, 4] (.cond (X.s 4) C.b0r .skip)
def C.b0s_w := pC C.b0s.eq_1
def C.pt_b : LO := [
 X.m 3 0,
 X.o 4 (.eqP 0 false (X.s 3) (.cst (.nilp)))]
def C.pt : LO := C.pt_b
def C.pt_w := pO C.pt.eq_1
def C.b0t : ICode := .keep [0] (.seq (.seq (.region C.pt) C.b0s) C.b0p)
def C.b0t_w := pC C.b0t.eq_1
def C.ps_b : LO := [
 X.o 2 (.move (.cst (.int .u8 0)))]
def C.ps : LO := C.ps_b
def C.ps_w := pO C.ps.eq_1
def C.q103 : IFunc := ⟨1, [.slot 2], .seq (.region C.ps) C.b0t⟩
def C.q103_W := aI (aI (aI @C.pw_w @C.b0p_w) (aI @C.pv_w @C.b0r_w)) (aI (aI @C.b0s_w @C.pt_w) (aI @C.b0t_w @C.ps_w))
def C.q103_B := aI (aI @C.pw_b.eq_1 @C.pv_b.eq_1) (aI @C.pt_b.eq_1 @C.ps_b.eq_1)

def C.bcc_b : LO := [
 X.m 77 12,
 X.m 8 77,
 X.o 9 (.move (X.i 0))]
def C.bcc : LO := C.bcc_b
def C.bcc_w := pO C.bcc.eq_1
def C.b8h : ICode := .keep [12] (.seq (.region C.bcc) .ret)
def C.b8h_w := pC C.b8h.eq_1
def C.bcb_b : LO := [
 X.m 57 0,
 X.o 58 (.nilchk (X.s 57)),
 X.o 59 (.fldAddr 1 (X.s 58)),
 X.o 60 (.load1 (X.s 59)),
 X.m 61 10,
 X.m 62 0,
 X.o 63 (.nilchk (X.s 62)),
 X.o 64 (.fldAddr 1 (X.s 63)),
 X.o 65 (.load1 (X.s 64)),
 X.m 66 10,
 X.o 67 (.idxAddr 1 (X.s 65) (X.s 66)),
 X.o 68 (.load1 (X.s 67)),
 X.m 69 12,
 X.m 70 2,
 X.m 71 11,
 X.m 72 3,
 X.o 73 (.build [.int .i64 0, .bool false, .int .i64 0, .int .u32 0] [(0, 1, X.s 69), (1, 1, X.s 70), (2, 1, X.s 71), (3, 1, X.s 72)]),
 X.o 74 (.buildSlice 4 1 [.int .i64 0, .bool false, .int .i64 0, .int .u32 0] [(0, 4, X.s 73)]),
 ⟨some 75, .append 4 32 (X.s 68) (X.s 74), none, [⟨.load1 (X.s 59), 60, none⟩], []⟩,
 X.o 76 (.idxAddr 1 (X.s 60) (X.s 61)),
 X.n (.store1 (X.s 76) (X.s 75))]
def C.bcb : LO := C.bcb_b
def C.bcb_w := pO C.bcb.eq_1
def C.b8l : ICode := .keep [0, 2, 3, 10, 11, 12] (.seq (.region C.bcb) C.b8h)
def C.b8l_w := pC C.b8l.eq_1
def C.bb9_b : LO := [
 X.m 50 0,
 X.o 51 (.nilchk (X.s 50)),
 X.o 52 (.fldAddr 2 (X.s 51)),
 X.o 53 (.load1 (X.s 52)),
 X.o 54 (.bin .add (X.s 53) (X.i 1)),
 X.o 55 (.nilchk (X.s 50)),
 X.o 56 (.fldAddr 2 (X.s 55)),
 X.n (.store1 (X.s 56) (X.s 54))]
def C.bb9 : LO := C.bb9_b
def C.bb9_w := pO C.bb9.eq_1
def C.b8m : ICode := .keep [0, 2, 3, 10, 11, 12] (.seq (.region C.bb9) C.b8l)
def C.b8m_w := pC C.b8m.eq_1
def C.bb8_b : LO := [
 X.m 46 0,
 X.o 47 (.nilchk (X.s 46)),
 X.o 48 (.fldAddr 2 (X.s 47)),
 X.o 49 (.load1 (X.s 48)),
 X.m 12 49]
def C.bb8 : LO := C.bb8_b
def C.bb8_w := pO C.bb8.eq_1
def C.b8n : ICode := .keep [0, 2, 3, 10, 11] (.seq (.region C.bb8) C.b8m)
def C.b8n_w := pC C.b8n.eq_1
def C.bb7_b : LO := [
 X.o 8 (.move (X.i 0)),
 X.o 9 (.move (X.i 8))]
def C.bb7 : LO := C.bb7_b
def C.bb7_w := pO C.bb7.eq_1
def C.b8p : ICode := .seq (.region C.bb7) .ret
def C.b8p_w := pC C.b8p.eq_1
def C.b8r : ICode := .keep [0, 2, 3, 10, 11, 45] (.cond (X.s 45) C.b8p .skip)
def C.b8r_w := pC C.b8r.eq_1
def C.bb6_b : LO := [
 X.m 37 0,
 X.o 38 (.nilchk (X.s 37)),
 X.o 39 (.fldAddr 1 (X.s 38)),
 X.o 40 (.load1 (X.s 39)),
 X.m 41 10,
 X.o 42 (.idxAddr 1 (X.s 40) (X.s 41)),
 X.o 43 (.load1 (X.s 42)),
 X.o 44 (.len (X.s 43)),
 X.o 45 (.bin .geq (X.s 44) (X.i 4))]
def C.bb6 : LO := C.bb6_b
def C.bb6_w := pO C.bb6.eq_1
def C.b8s : ICode := .keep [0, 2, 3, 10, 11] (.seq (.seq (.region C.bb6) C.b8r) C.b8n)
def C.b8s_w := pC C.b8s.eq_1
def C.bb5_b : LO := [
 X.o 8 (.move (X.i 0)),
 X.o 9 (.move (X.i 4))]
def C.bb5 : LO := C.bb5_b
def C.bb5_w := pO C.bb5.eq_1
def C.b8t : ICode := .seq (.region C.bb5) .ret
def C.b8t_w := pC C.b8t.eq_1
def C.b8v : ICode := .keep [0, 2, 3, 10, 11, 36] (.cond (X.s 36) C.b8t .skip)
def C.b8v_w := pC C.b8v.eq_1
def C.bb4_b : LO := [
 X.m 18 0,
 X.m 19 10,
 X.o 20 (.call F.q8 [X.s 18, X.s 19]),
 X.o 21 (.un .not (X.s 20)),
 X.m 22 21,
 X.f 22 23 (.move (X.s 11)),
 X.f 22 24 (.bin .lss (X.s 23) (X.i 0)),
 X.o 25 (.pick (X.s 22) (.cst (.bool true)) (X.s 24)),
 X.m 26 25,
 X.f 26 27 (.move (X.s 11)),
 X.f 26 28 (.move (X.s 0)),
 X.f 26 29 (.nilchk (X.s 28)),
 X.f 26 30 (.fldAddr 0 (X.s 29)),
 X.f 26 31 (.load1 (X.s 30)),
 X.f 26 32 (.move (X.s 10)),
 X.f 26 33 (.idxAddr 1 (X.s 31) (X.s 32)),
 X.f 26 34 (.load1 (X.s 33)),
 X.f 26 35 (.bin .geq (X.s 27) (X.s 34)),
 X.o 36 (.pick (X.s 26) (.cst (.bool true)) (X.s 35))]
def C.bb4 : LO := C.bb4_b
def C.bb4_w := pO C.bb4.eq_1
def C.b8j : ICode := .keep [0, 2, 3, 10, 11] (.seq (.seq (.region C.bb4) C.b8v) C.b8s)
def C.b8j_w := pC C.b8j.eq_1
def C.bb3_b : LO := [
 X.m 14 1,
 X.o 15 (.call F.q10 [X.s 14]),
 X.m 13 15,
 X.o 16 (.extract (X.s 13) 0),
 X.o 17 (.extract (X.s 13) 1),
 X.m 10 16,
 X.m 11 17]
def C.bb3 : LO := C.bb3_b
def C.bb3_w := pO C.bb3.eq_1
def C.b8k : ICode := .keep [0, 1, 2, 3] (.seq (.region C.bb3) C.b8j)
def C.b8k_w := pC C.b8k.eq_1
def C.bb2_b : LO := [
 X.o 8 (.move (X.i 0)),
 X.o 9 (.move (X.i 0))]
def C.bb2 : LO := C.bb2_b
def C.bb2_w := pO C.bb2.eq_1
def C.q5 : IFunc := ⟨4, [.slot 8, .slot 9], .seq (.region C.bb2) C.b8k⟩
def C.q5_W := aI (aI (aI (aI @C.bcc_w @C.b8h_w) (aI @C.bcb_w (aI @C.b8l_w @C.bb9_w))) (aI (aI @C.b8m_w @C.bb8_w) (aI @C.b8n_w (aI @C.bb7_w @C.b8p_w)))) (aI (aI (aI @C.b8r_w @C.bb6_w) (aI @C.b8s_w (aI @C.bb5_w @C.b8t_w))) (aI (aI @C.b8v_w (aI @C.bb4_w @C.b8j_w)) (aI @C.bb3_w (aI @C.b8k_w @C.bb2_w))))
def C.q5_B := aI (aI (aI @C.bcc_b.eq_1 @C.bcb_b.eq_1) (aI @C.bb9_b.eq_1 (aI @C.bb8_b.eq_1 @C.bb7_b.eq_1))) (aI (aI @C.bb6_b.eq_1 @C.bb5_b.eq_1) (aI @C.bb4_b.eq_1 (aI @C.bb3_b.eq_1 @C.bb2_b.eq_1)))

def C.bjq_b : LO := [
 X.m 3 0,
 X.o 4 (.eqP 0 true (X.s 3) (.cst (.nilp))),
 X.m 5 4,
 X.t 5 6 (.move (X.s 0)),
 X.t 5 7 (.nilchk (X.s 6)),
 X.t 5 8 (.fldAddr 0 (X.s 7)),
 X.t 5 9 (.load1 (X.s 8)),
 X.t 5 10 (.eqP 0 true (X.s 9) (.cst (.nilp))),
 X.o 11 (.pick (X.s 5) (X.s 10) (.cst (.bool false))),
 X.m 12 11,
 X.t 12 13 (.move (X.s 0)),
 X.t 12 14 (.nilchk (X.s 13)),
 X.t 12 15 (.fldAddr 1 (X.s 14)),
 X.t 12 16 (.load1 (X.s 15)),
 X.t 12 17 (.eqP 0 true (X.s 16) (.cst (.nilp))),
 X.o 18 (.pick (X.s 12) (X.s 17) (.cst (.bool false))),
 X.m 19 18,
 X.t 19 20 (.move (X.s 0)),
 X.t 19 21 (.nilchk (X.s 20)),
 X.t 19 22 (.fldAddr 2 (X.s 21)),
 X.t 19 23 (.load1 (X.s 22)),
 X.t 19 24 (.eqP 0 true (X.s 23) (.cst (.nilp))),
 X.o 25 (.pick (X.s 19) (X.s 24) (.cst (.bool false))),
 X.m 26 25,
 X.t 26 27 (.move (X.s 0)),
 X.t 26 28 (.nilchk (X.s 27)),
 X.t 26 29 (.fldAddr 3 (X.s 28)),
 X.t 26 30 (.load1 (X.s 29)),
 X.t 26 31 (.eqP 0 true (X.s 30) (.cst (.nilp))),
 X.o 32 (.pick (X.s 26) (X.s 31) (.cst (.bool false))),
 X.m 2 32]
def C.bjq : LO := C.bjq_b
def C.bjq_w := pO C.bjq.eq_1
def C.cgz : ICode := .keep [0] (.seq (.region C.bjq) .ret)
def C.cgz_w := pC C.cgz.eq_1
def C.bjy_b : LO := [
 X.o 2 (.move (.cst (.bool false)))]
def C.bjy : LO := C.bjy_b
def C.bjy_w := pO C.bjy.eq_1
def C.q93 : IFunc := ⟨1, [.slot 2], .seq (.region C.bjy) C.cgz⟩
def C.q93_W := aI @C.bjq_w (aI @C.cgz_w @C.bjy_w)
def C.q93_B := aI @C.bjq_b.eq_1 @C.bjy_b.eq_1

def C.bjv_b : LO := [
 X.o 57 (.fldAddr 0 (X.s 6)),
 X.o 58 (.load1 (X.s 57)),
 X.m 59 1,
 X.m 60 9,
 X.o 61 (.build [.int .i64 0, .int .i64 0, .bool false, .int .u32 0] [(0, 1, X.s 58), (1, 1, X.s 59), (3, 1, X.s 60)]),
 X.n (.storeN 4 (X.s 4) (X.s 61)),
 X.o 5 (.move (.cst (.bool true)))]
def C.bjv : LO := C.bjv_b
def C.bjv_w := pO C.bjv.eq_1
def C.bjt : ICode := .keep [1, 4, 6, 9] (.seq (.region C.bjv) .ret)
def C.bjt_w := pC C.bjt.eq_1
def C.mt_b : LO := [
 X.o 50 (.fldAddr 4 (X.s 8)),
 X.o 51 (.load1 (X.s 50)),
 X.o 52 (.fldAddr 2 (X.s 6)),
 X.o 53 (.load1 (X.s 52)),
 X.o 54 (.fldAddr 3 (X.s 6)),
 X.o 55 (.load1 (X.s 54)),
 X.o 56 (.call F.q114 [X.s 51, X.s 53, X.s 55])]
def C.mt : LO := C.mt_b
def C.mt_w := pO C.mt.eq_1
def C.byt : ICode := .keep [1, 4, 6, 8, 9, 49] (.cond (X.s 49) (.region C.mt) .skip)
def C.byt_w := pC C.byt.eq_1
def C.ms_b : LO := [
 X.o 48 (.fldAddr 1 (X.s 6)),
 X.o 49 (.load1 (X.s 48))]
def C.ms : LO := C.ms_b
def C.ms_w := pO C.ms.eq_1
def C.byv : ICode := .keep [1, 4, 6, 8, 9] (.seq (.seq (.region C.ms) C.byt) C.bjt)
def C.byv_w := pC C.byv.eq_1
def C.mr_b : LO := [
 X.o 41 (.fldAddr 4 (X.s 8)),
 X.o 42 (.load1 (X.s 41)),
 X.o 43 (.fldAddr 2 (X.s 6)),
 X.o 44 (.load1 (X.s 43)),
 X.o 45 (.call F.q109 [X.s 42, X.s 44]),
 X.m 40 45,
 X.o 46 (.extract (X.s 40) 0),
 X.o 47 (.extract (X.s 40) 1),
 X.m 9 46,
 X.m 10 47]
def C.mr : LO := C.mr_b
def C.mr_w := pO C.mr.eq_1
def C.byw : ICode := .keep [1, 4, 6, 8] (.seq (.region C.mr) C.byv)
def C.byw_w := pC C.byw.eq_1
def C.mp_b : LO := [
 X.o 34 (.fldAddr 0 (X.s 6)),
 X.o 35 (.load1 (X.s 34)),
 X.m 36 1,
 X.o 37 (.fldAddr 3 (X.s 8)),
 X.o 38 (.load1 (X.s 37)),
 X.o 39 (.build [.int .i64 0, .int .i64 0, .bool false, .int .u32 0] [(0, 1, X.s 35), (1, 1, X.s 36), (2, 1, .cst (.bool true)), (3, 1, X.s 38)]),
 X.n (.storeN 4 (X.s 4) (X.s 39)),
 X.o 5 (.move (.cst (.bool true)))]
def C.mp : LO := C.mp_b
def C.mp_w := pO C.mp.eq_1
def C.byx : ICode := .seq (.region C.mp) .ret
def C.byx_w := pC C.byx.eq_1
def C.byy : ICode := .keep [1, 4, 6, 8, 33] (.cond (X.s 33) C.byx .skip)
def C.byy_w := pC C.byy.eq_1
def C.mn_b : LO := [
 X.m 30 0,
 X.m 31 1,
 X.o 32 (.call F.q81 [X.s 30, X.s 31]),
 X.o 33 (.un .not (X.s 32))]
def C.mn : LO := C.mn_b
def C.mn_w := pO C.mn.eq_1
def C.byq : ICode := .keep [0, 1, 4, 6, 8] (.seq (.seq (.region C.mn) C.byy) C.byw)
def C.byq_w := pC C.byq.eq_1
def C.mm_b : LO := [
 X.m 23 0,
 X.o 24 (.nilchk (X.s 23)),
 X.o 25 (.fldAddr 4 (X.s 24)),
 X.o 26 (.load1 (X.s 25)),
 X.m 27 1,
 X.o 28 (.idxAddr 6 (X.s 26) (X.s 27)),
 X.o 29 (.loadN 6 (X.s 28)),
 X.o 8 (.alloc [.int .i64 0, .int .i64 0, .int .i64 0, .int .u32 0, .nilp, .nilp]),
 X.n (.storeN 6 (X.s 8) (X.s 29))]
def C.mm : LO := C.mm_b
def C.mm_w := pO C.mm.eq_1
def C.byz : ICode := .keep [0, 1, 4, 6] (.seq (.region C.mm) C.byq)
def C.byz_w := pC C.byz.eq_1
def C.ml_b : LO := [
 X.o 22 (.build [.int .i64 0, .int .i64 0, .bool false, .int .u32 0] []),
 X.n (.storeN 4 (X.s 4) (X.s 22)),
 X.o 5 (.move (.cst (.bool false)))]
def C.ml : LO := C.ml_b
def C.ml_w := pO C.ml.eq_1
def C.by0 : ICode := .seq (.region C.ml) .ret
def C.by0_w := pC C.by0.eq_1
def C.byp : ICode := .keep [0, 1, 4, 6, 21] (.cond (X.s 21) C.by0 .skip)
def C.byp_w := pC C.byp.eq_1
def C.mk_b : LO := [
 X.m 20 7,
 X.o 21 (.un .not (X.s 20))]
def C.mk : LO := C.mk_b
def C.mk_w := pO C.mk.eq_1
def C.byr : ICode := .keep [0, 1, 4, 6, 7] (.seq (.seq (.region C.mk) C.byp) C.byz)
def C.byr_w := pC C.byr.eq_1
def C.bk_b : LO := [
 X.m 12 0,
 X.o 13 (.nilchk (X.s 12)),
 X.o 14 (.fldAddr 3 (X.s 13)),
 X.o 15 (.load1 (X.s 14)),
 X.m 16 1,
 X.o 17 (.call F.q6 [X.s 15, X.s 16]),
 X.m 11 17,
 X.o 18 (.extract (X.s 11) 0),
 X.o 19 (.extract (X.s 11) 1),
 X.o 6 (.alloc [.int .i64 0, .bool false, .int .i64 0, .int .u32 0]),
 X.n (.storeN 4 (X.s 6) (X.s 18)),
 X.m 7 19]
def C.bk : LO := C.bk_b
def C.bk_w := pO C.bk.eq_1
def C.bys : ICode := .keep [0, 1, 4] (.seq (.region C.bk) C.byr)
def C.bys_w := pC C.bys.eq_1
def C.bd_b : LO := [
 X.o 4 (.alloc [.int .i64 0, .int .i64 0, .bool false, .int .u32 0]),
 X.o 5 (.move (.cst (.bool false)))]
def C.bd : LO := C.bd_b
def C.bd_w := pO C.bd.eq_1
def C.q91 : IFunc := ⟨2, [.cellN 4 4, .slot 5], .seq (.region C.bd) C.bys⟩
def C.q91_W := aI (aI (aI (aI @C.bjv_w @C.bjt_w) (aI @C.mt_w (aI @C.byt_w @C.ms_w))) (aI (aI @C.byv_w (aI @C.mr_w @C.byw_w)) (aI @C.mp_w (aI @C.byx_w @C.byy_w)))) (aI (aI (aI @C.mn_w (aI @C.byq_w @C.mm_w)) (aI @C.byz_w (aI @C.ml_w @C.by0_w))) (aI (aI @C.byp_w (aI @C.mk_w @C.byr_w)) (aI @C.bk_w (aI @C.bys_w @C.bd_w))))
def C.q91_B := aI (aI (aI @C.bjv_b.eq_1 @C.mt_b.eq_1) (aI @C.ms_b.eq_1 (aI @C.mr_b.eq_1 @C.mp_b.eq_1))) (aI (aI @C.mn_b.eq_1 (aI @C.mm_b.eq_1 @C.ml_b.eq_1)) (aI @C.mk_b.eq_1 (aI @C.bk_b.eq_1 @C.bd_b.eq_1)))

def C.pz_b : LO := [
 X.m 20 0,
 X.o 21 (.nilchk (X.s 20)),
 X.o 22 (.fldAddr 1 (X.s 21)),
 X.o 23 (.load1 (X.s 22)),
 X.o 24 (.bin .add (X.s 23) (X.i 1)),
 X.o 25 (.nilchk (X.s 20)),
 X.o 26 (.fldAddr 1 (X.s 25)),
 X.n (.store1 (X.s 26) (X.s 24))]
def C.pz : LO := C.pz_b
def C.pz_w := pO C.pz.eq_1
def C.b0w : ICode := .keep [0] (.region C.pz)
def C.b0w_w := pC C.b0w.eq_1
def C.pq_b : LO := [
 X.m 17 0,
 X.o 18 (.nilchk (X.s 17)),
 X.o 19 (.fldAddr 0 (X.s 18)),
 X.n (.store1 (X.s 19) (X.i 3))]
def C.pq : LO := C.pq_b
def C.pq_w := pO C.pq.eq_1
def C.p2_b : LO := [
 X.m 33 0,
 X.o 34 (.nilchk (X.s 33)),
 X.o 35 (.fldAddr 1 (X.s 34)),
 X.n (.store1 (X.s 35) (X.i 0))]
def C.p2 : LO := C.p2_b
def C.p2_w := pO C.p2.eq_1
def C.b0y : ICode := .keep [0] (.region C.p2)
def C.b0y_w := pC C.b0y.eq_1
def C.p1_b : LO := [
 X.m 30 0,
 X.o 31 (.nilchk (X.s 30)),
 X.o 32 (.fldAddr 0 (X.s 31)),
 X.n (.store1 (X.s 32) (X.i 2))]
def C.p1 : LO := C.p1_b
def C.p1_w := pO C.p1.eq_1
def C.b0q : ICode := .seq (.region C.p1) C.b0y
def C.b0q_w := pC C.b0q.eq_1
def C.b0z : ICode := .keep [0, 27] (.cond (X.s 27) C.b0q .skip)
def C.b0z_w := pC C.b0z.eq_1
def C.p0_b : LO := [
 X.m 28 1,
 X.o 29 (.un .not (X.s 28)),
 X.m 27 29]
def C.p0 : LO := C.p0_b
def C.p0_w := pO C.p0.eq_1
def C.b00 : ICode := .seq (.region C.pq) C.b0w
def C.b00_w := pC C.b00.eq_1
def C.b01 : ICode := .seq (.region C.p0) C.b0z
def C.b01_w := pC C.b01.eq_1
def C.b02 : ICode := .keep [0, 1, 15] (.cond (X.s 15) C.b00 C.b01)
def C.b02_w := pC C.b02.eq_1
def C.py_b : LO := [
 X.m 16 2,
 X.m 15 16]
def C.py : LO := C.py_b
def C.py_w := pO C.py.eq_1
def C.b0v : ICode := .seq (.region C.py) C.b02
def C.b0v_w := pC C.b0v.eq_1
def C.b03 : ICode := .keep [0, 1, 2] (.block 0 C.b0v)
def C.b03_w := pC C.b03.eq_1
def C.b0x : ICode := .keep [0, 1, 2, 14] (.cond (X.s 14) .ret .skip)
def C.b0x_w := pC C.b0x.eq_1
def C.px_b : LO := [
 X.m 6 0,
 X.o 7 (.eqP 0 false (X.s 6) (.cst (.nilp))),
 X.m 8 7,
 X.f 8 9 (.move (X.s 0)),
 X.f 8 10 (.nilchk (X.s 9)),
 X.f 8 11 (.fldAddr 0 (X.s 10)),
 X.f 8 12 (.load1 (X.s 11)),
 X.f 8 13 (.bin .neq (X.s 12) (X.i 1)),
 X.o 14 (.pick (X.s 8) (.cst (.bool true)) (X.s 13))]
def C.px : LO := C.px_b
def C.px_w := pO C.px.eq_1
def C.q104 : IFunc := ⟨3, [], .seq (.seq (.region C.px) C.b0x) C.b03⟩
def C.q104_W := aI (aI (aI (aI @C.pz_w @C.b0w_w) (aI @C.pq_w @C.p2_w)) (aI (aI @C.b0y_w @C.p1_w) (aI @C.b0q_w @C.b0z_w))) (aI (aI (aI @C.p0_w @C.b00_w) (aI @C.b01_w @C.b02_w)) (aI (aI @C.py_w @C.b0v_w) (aI @C.b03_w (aI @C.b0x_w @C.px_w))))
def C.q104_B := aI (aI @C.pz_b.eq_1 (aI @C.pq_b.eq_1 @C.p2_b.eq_1)) (aI (aI @C.p1_b.eq_1 @C.p0_b.eq_1) (aI @C.py_b.eq_1 @C.px_b.eq_1))

def C.bg4_b : LO := [
 X.m 9 0,
 X.o 10 (.nilchk (X.s 9)),
 X.o 11 (.fldAddr 1 (X.s 10)),
 X.o 12 (.load1 (X.s 11)),
 X.m 13 1,
 X.o 14 (.idxAddr 1 (X.s 12) (X.s 13)),
 X.o 15 (.load1 (X.s 14)),
 X.o 16 (.len (X.s 15)),
 X.m 4 16]
def C.bg4 : LO := C.bg4_b
def C.bg4_w := pO C.bg4.eq_1
def C.cd3 : ICode := .keep [0, 1] (.seq (.region C.bg4) .ret)
def C.cd3_w := pC C.cd3.eq_1
def C.bg3_b : LO := [
 X.o 4 (.move (X.i 0))]
def C.bg3 : LO := C.bg3_b
def C.bg3_w := pO C.bg3.eq_1
def C.cd4 : ICode := .seq (.region C.bg3) .ret
def C.cd4_w := pC C.cd4.eq_1
def C.cd5 : ICode := .keep [0, 1, 8] (.cond (X.s 8) C.cd4 .skip)
def C.cd5_w := pC C.cd5.eq_1
def C.bg2_b : LO := [
 X.m 5 0,
 X.m 6 1,
 X.o 7 (.call F.q8 [X.s 5, X.s 6]),
 X.o 8 (.un .not (X.s 7))]
def C.bg2 : LO := C.bg2_b
def C.bg2_w := pO C.bg2.eq_1
def C.cd6 : ICode := .keep [0, 1] (.seq (.seq (.region C.bg2) C.cd5) C.cd3)
def C.cd6_w := pC C.cd6.eq_1
def C.bg1_b : LO := [
 X.o 4 (.move (X.i 0))]
def C.bg1 : LO := C.bg1_b
def C.bg1_w := pO C.bg1.eq_1
def C.q7 : IFunc := ⟨2, [.slot 4], .seq (.region C.bg1) C.cd6⟩
def C.q7_W := aI (aI (aI @C.bg4_w @C.cd3_w) (aI @C.bg3_w @C.cd4_w)) (aI (aI @C.cd5_w @C.bg2_w) (aI @C.cd6_w @C.bg1_w))
def C.q7_B := aI (aI @C.bg4_b.eq_1 @C.bg3_b.eq_1) (aI @C.bg2_b.eq_1 @C.bg1_b.eq_1)

def C.j7_b : LO := [
 X.o 158 (.bin .add (X.s 34) (X.i 1)),
 X.m 34 158]
def C.j7 : LO := C.j7_b
def C.j7_w := pO C.j7.eq_1
def C.wn : ICode := .keep [0, 2, 33, 34] (.region C.j7)
def C.wn_w := pC C.wn.eq_1
def C.j3_b : LO := [
 X.m 65 5,
 X.m 66 5,
 X.o 67 (.nilchk (X.s 66)),
 X.o 68 (.fldAddr 0 (X.s 67)),
 X.o 69 (.fldAddr 5 (X.s 68)),
 X.o 70 (.load1 (X.s 69)),
 X.o 71 (.nilchk (X.s 65)),
 X.o 72 (.fldAddr 7 (X.s 71)),
 X.n (.store1 (X.s 72) (X.s 70))]
def C.j3 : LO := C.j3_b
def C.j3_w := pO C.j3.eq_1
def C.j5_b : LO := [
 X.m 93 5,
 X.o 94 (.nilchk (X.s 93)),
 X.o 95 (.fldAddr 7 (X.s 94)),
 X.o 96 (.load1 (X.s 95)),
 X.o 97 (.bin .sub (X.s 96) (X.i 1)),
 X.o 98 (.nilchk (X.s 93)),
 X.o 99 (.fldAddr 7 (X.s 98)),
 X.n (.store1 (X.s 99) (X.s 97))]
def C.j5 : LO := C.j5_b
def C.j5_w := pO C.j5.eq_1
def C.wr_b : LO := [
 X.m 151 5,
 X.m 152 5,
 X.o 153 (.nilchk (X.s 152)),
 X.o 154 (.fldAddr 9 (X.s 153)),
 X.o 155 (.load1 (X.s 154)),
 X.o 156 (.nilchk (X.s 151)),
 X.o 157 (.fldAddr 8 (X.s 156)),
 X.n (.store1 (X.s 157) (X.s 155))]
def C.wr : LO := C.wr_b
def C.wr_w := pO C.wr.eq_1
def C.cm : ICode := .keep [0, 2, 5, 33, 34, 100] (.cond (X.s 100) (.region C.wr) .skip)
def C.cm_w := pC C.cm.eq_1
def C.j6_b : LO := [
 X.m 101 5,
 X.o 102 (.nilchk (X.s 101)),
 X.o 103 (.fldAddr 0 (X.s 102)),
 X.o 104 (.fldAddr 0 (X.s 103)),
 X.o 105 (.load1 (X.s 104)),
 X.o 106 (.bin .eql (X.s 105) (.cst (.int .u8 109))),
 X.m 107 106,
 X.t 107 108 (.move (X.s 5)),
 X.t 107 109 (.nilchk (X.s 108)),
 X.t 107 110 (.fldAddr 9 (X.s 109)),
 X.t 107 111 (.load1 (X.s 110)),
 X.t 107 112 (.move (X.s 5)),
 X.t 107 113 (.nilchk (X.s 112)),
 X.t 107 114 (.fldAddr 8 (X.s 113)),
 X.t 107 115 (.load1 (X.s 114)),
 X.t 107 116 (.bin .neq (X.s 111) (X.s 115)),
 X.o 117 (.pick (X.s 107) (X.s 116) (.cst (.bool false))),
 X.m 118 117,
 X.t 118 119 (.move (X.s 2)),
 X.t 118 120 (.move (X.s 5)),
 X.t 118 121 (.nilchk (X.s 120)),
 X.t 118 122 (.fldAddr 0 (X.s 121)),
 X.t 118 123 (.fldAddr 1 (X.s 122)),
 X.t 118 124 (.load1 (X.s 123)),
 X.t 118 125 (.move (X.s 5)),
 X.t 118 126 (.nilchk (X.s 125)),
 X.t 118 127 (.fldAddr 9 (X.s 126)),
 X.t 118 128 (.load1 (X.s 127)),
 X.t 118 129 (.idxAddr 1 (X.s 124) (X.s 128)),
 X.t 118 130 (.load1 (X.s 129)),
 X.t 118 131 (.idxAddr 1 (X.s 119) (X.s 130)),
 X.t 118 132 (.load1 (X.s 131)),
 X.t 118 133 (.move (X.s 132)),
 X.f 133 134 (.move (X.s 2)),
 X.f 133 135 (.move (X.s 5)),
 X.f 133 136 (.nilchk (X.s 135)),
 X.f 133 137 (.fldAddr 0 (X.s 136)),
 X.f 133 138 (.fldAddr 1 (X.s 137)),
 X.f 133 139 (.load1 (X.s 138)),
 X.f 133 140 (.move (X.s 5)),
 X.f 133 141 (.nilchk (X.s 140)),
 X.f 133 142 (.fldAddr 8 (X.s 141)),
 X.f 133 143 (.load1 (X.s 142)),
 X.f 133 144 (.idxAddr 1 (X.s 139) (X.s 143)),
 X.f 133 145 (.load1 (X.s 144)),
 X.f 133 146 (.idxAddr 1 (X.s 134) (X.s 145)),
 X.f 133 147 (.load1 (X.s 146)),
 X.f 133 148 (.un .not (X.s 147)),
 X.t 118 149 (.pick (X.s 133) (.cst (.bool true)) (X.s 148)),
 X.o 150 (.pick (X.s 118) (X.s 149) (.cst (.bool false))),
 X.m 100 150]
def C.j6 : LO := C.j6_b
def C.j6_w := pO C.j6.eq_1
def C.bvd : ICode := .seq (.region C.j6) C.cm
def C.bvd_w := pC C.bvd.eq_1
def C.bx : ICode := .keep [0, 2, 5, 33, 34, 73] (.cond (X.s 73) (.region C.j5) C.bvd)
def C.bx_w := pC C.bx.eq_1
def C.j4_b : LO := [
 X.m 74 5,
 X.o 75 (.nilchk (X.s 74)),
 X.o 76 (.fldAddr 0 (X.s 75)),
 X.o 77 (.fldAddr 0 (X.s 76)),
 X.o 78 (.load1 (X.s 77)),
 X.o 79 (.bin .eql (X.s 78) (.cst (.int .u8 112))),
 X.m 80 79,
 X.t 80 81 (.move (X.s 5)),
 X.t 80 82 (.nilchk (X.s 81)),
 X.t 80 83 (.fldAddr 6 (X.s 82)),
 X.t 80 84 (.load1 (X.s 83)),
 X.o 85 (.pick (X.s 80) (X.s 84) (.cst (.bool false))),
 X.m 86 85,
 X.t 86 87 (.move (X.s 5)),
 X.t 86 88 (.nilchk (X.s 87)),
 X.t 86 89 (.fldAddr 7 (X.s 88)),
 X.t 86 90 (.load1 (X.s 89)),
 X.t 86 91 (.bin .gtr (X.s 90) (X.i 0)),
 X.o 92 (.pick (X.s 86) (X.s 91) (.cst (.bool false))),
 X.m 73 92]
def C.j4 : LO := C.j4_b
def C.j4_w := pO C.j4.eq_1
def C.bvf : ICode := .seq (.region C.j4) C.bx
def C.bvf_w := pC C.bvf.eq_1
def C.br : ICode := .keep [0, 2, 5, 33, 34, 43] (.cond (X.s 43) (.region C.j3) C.bvf)
def C.br_w := pC C.br.eq_1
def C.j2_b : LO := [
 X.m 44 5,
 X.o 45 (.nilchk (X.s 44)),
 X.o 46 (.fldAddr 0 (X.s 45)),
 X.o 47 (.fldAddr 0 (X.s 46)),
 X.o 48 (.load1 (X.s 47)),
 X.o 49 (.bin .eql (X.s 48) (.cst (.int .u8 112))),
 X.m 50 49,
 X.t 50 51 (.move (X.s 5)),
 X.t 50 52 (.nilchk (X.s 51)),
 X.t 50 53 (.fldAddr 6 (X.s 52)),
 X.t 50 54 (.load1 (X.s 53)),
 X.o 55 (.pick (X.s 50) (X.s 54) (.cst (.bool false))),
 X.m 56 55,
 X.t 56 57 (.move (X.s 2)),
 X.t 56 58 (.move (X.s 0)),
 X.t 56 59 (.move (X.s 4)),
 X.t 56 60 (.call F.q24 [X.s 58, X.s 59]),
 X.t 56 61 (.idxAddr 1 (X.s 57) (X.s 60)),
 X.t 56 62 (.load1 (X.s 61)),
 X.t 56 63 (.un .not (X.s 62)),
 X.o 64 (.pick (X.s 56) (X.s 63) (.cst (.bool false))),
 X.m 43 64]
def C.j2 : LO := C.j2_b
def C.j2_w := pO C.j2.eq_1
def C.btz : ICode := .seq (.region C.j2) C.br
def C.btz_w := pC C.btz.eq_1
def C.bvg : ICode := .keep [0, 2, 4, 5, 33, 34] (.block 4 C.btz)
def C.bvg_w := pC C.bvg.eq_1
def C.j1_b : LO := [
 X.m 37 0,
 X.o 38 (.nilchk (X.s 37)),
 X.o 39 (.fldAddr 0 (X.s 38)),
 X.o 40 (.load1 (X.s 39)),
 X.m 41 4,
 X.o 42 (.idxAddr 11 (X.s 40) (X.s 41)),
 X.m 5 42]
def C.j1 : LO := C.j1_b
def C.j1_w := pO C.j1.eq_1
def C.wp : ICode := .keep [0, 2, 4, 33, 34] (.seq (.region C.j1) C.bvg)
def C.wp_w := pC C.wp.eq_1
def C.kh_b : LO := [
 X.m 36 34,
 X.m 4 36]
def C.kh : LO := C.kh_b
def C.kh_w := pO C.kh.eq_1
def C.btw : ICode := .seq (.region C.kh) C.wp
def C.btw_w := pC C.btw.eq_1
def C.bt0 : ICode := .keep [0, 2, 33, 34] (.seq (.block 3 C.btw) C.wn)
def C.bt0_w := pC C.bt0.eq_1
def C.bt1 : ICode := .keep [0, 2, 33, 34, 35] (.seq (.cond (X.s 35) .skip (.exit 2)) C.bt0)
def C.bt1_w := pC C.bt1.eq_1
def C.kg_b : LO := [
 X.o 35 (.bin .lss (X.s 34) (X.s 33))]
def C.kg : LO := C.kg_b
def C.kg_w := pO C.kg.eq_1
def C.cj0 : ICode := .keep [0, 2, 33, 34] (.seq (.region C.kg) C.bt1)
def C.cj0_w := pC C.cj0.eq_1
def C.btx : ICode := .loop C.cj0
def C.btx_w := pC C.btx.eq_1
def C.bt2 : ICode := .keep [0, 2, 33, 34] (.block 2 C.btx)
def C.bt2_w := pC C.bt2.eq_1
def C.kf_b : LO := [
 X.m 29 0,
 X.o 30 (.nilchk (X.s 29)),
 X.o 31 (.fldAddr 0 (X.s 30)),
 X.o 32 (.load1 (X.s 31)),
 X.o 33 (.len (X.s 32)),
 X.o 34 (.move (X.i 0))]
def C.kf : LO := C.kf_b
def C.kf_w := pO C.kf.eq_1
def C.bt3 : ICode := .keep [0, 2] (.seq (.region C.kf) C.bt2)
def C.bt3_w := pC C.bt3.eq_1
def C.kd_b : LO := [
 X.o 28 (.bin .add (X.s 19) (X.i 1)),
 X.m 19 28]
def C.kd : LO := C.kd_b
def C.kd_w := pO C.kd.eq_1
def C.bt4 : ICode := .keep [0, 2, 18, 19] (.region C.kd)
def C.bt4_w := pC C.bt4.eq_1
def C.kc_b : LO := [
 X.m 22 2,
 X.m 23 3,
 X.m 24 0,
 X.m 25 3,
 X.o 26 (.call F.q20 [X.s 24, X.s 25]),
 X.o 27 (.idxAddr 1 (X.s 22) (X.s 23)),
 X.n (.store1 (X.s 27) (X.s 26))]
def C.kc : LO := C.kc_b
def C.kc_w := pO C.kc.eq_1
def C.bt5 : ICode := .keep [0, 2, 3, 18, 19] (.region C.kc)
def C.bt5_w := pC C.bt5.eq_1
def C.kb_b : LO := [
 X.m 21 19,
 X.m 3 21]
def C.kb : LO := C.kb_b
def C.kb_w := pO C.kb.eq_1
def C.bty : ICode := .seq (.region C.kb) C.bt5
def C.bty_w := pC C.bty.eq_1
def C.bt6 : ICode := .keep [0, 2, 18, 19] (.seq (.block 1 C.bty) C.bt4)
def C.bt6_w := pC C.bt6.eq_1
def C.bt7 : ICode := .keep [0, 2, 18, 19, 20] (.seq (.cond (X.s 20) .skip (.exit 0)) C.bt6)
def C.bt7_w := pC C.bt7.eq_1
def C.j9_b : LO := [
 X.o 20 (.bin .lss (X.s 19) (X.s 18))]
def C.j9 : LO := C.j9_b
def C.j9_w := pO C.j9.eq_1
def C.cj1 : ICode := .keep [0, 2, 18, 19] (.seq (.region C.j9) C.bt7)
def C.cj1_w := pC C.cj1.eq_1
def C.btq : ICode := .loop C.cj1
def C.btq_w := pC C.btq.eq_1
def C.bt8 : ICode := .keep [0, 2, 18, 19] (.block 0 C.btq)
def C.bt8_w := pC C.bt8.eq_1
def C.j8_b : LO := [
 X.m 14 0,
 X.o 15 (.nilchk (X.s 14)),
 X.o 16 (.fldAddr 0 (X.s 15)),
 X.o 17 (.load1 (X.s 16)),
 X.o 18 (.len (X.s 17)),
 X.o 19 (.move (X.i 0))]
def C.j8 : LO := C.j8_b
def C.j8_w := pO C.j8.eq_1
def C.bt9 : ICode := .keep [0, 2] (.seq (.seq (.region C.j8) C.bt8) C.bt3)
def C.bt9_w := pC C.bt9.eq_1
def C.j0_b : LO := [
 X.m 8 0,
 X.o 9 (.nilchk (X.s 8)),
 X.o 10 (.fldAddr 0 (X.s 9)),
 X.o 11 (.load1 (X.s 10)),
 X.o 12 (.len (X.s 11)),
 X.o 13 (.makeSlice 1 1 [.bool false] (X.s 12) (X.s 12)),
 X.m 2 13]
def C.j0 : LO := C.j0_b
def C.j0_w := pO C.j0.eq_1
def C.bvb : ICode := .keep [0] (.seq (.region C.j0) C.bt9)
def C.bvb_w := pC C.bvb.eq_1
def C.bvc : ICode := .keep [0, 7] (.cond (X.s 7) .ret .skip)
def C.bvc_w := pC C.bvc.eq_1
def C.jz_b : LO := [
 X.m 6 0,
 X.o 7 (.eqP 0 false (X.s 6) (.cst (.nilp)))]
def C.jz : LO := C.jz_b
def C.jz_w := pO C.jz.eq_1
def C.q22 : IFunc := ⟨1, [], .seq (.seq (.region C.jz) C.bvc) C.bvb⟩
def C.q22_W := aI (aI (aI (aI (aI @C.j7_w @C.wn_w) (aI @C.j3_w (aI @C.j5_w @C.wr_w))) (aI (aI @C.cm_w @C.j6_w) (aI @C.bvd_w (aI @C.bx_w @C.j4_w)))) (aI (aI (aI @C.bvf_w @C.br_w) (aI @C.j2_w (aI @C.btz_w @C.bvg_w))) (aI (aI @C.j1_w (aI @C.wp_w @C.kh_w)) (aI @C.btw_w (aI @C.bt0_w @C.bt1_w))))) (aI (aI (aI (aI @C.kg_w @C.btx_w) (aI @C.bt2_w (aI @C.kf_w @C.bt3_w))) (aI (aI @C.kd_w (aI @C.bt4_w @C.kc_w)) (aI @C.bt5_w (aI @C.kb_w @C.bty_w)))) (aI (aI (aI @C.bt6_w @C.bt7_w) (aI @C.j9_w (aI @C.btq_w @C.bt8_w))) (aI (aI @C.j8_w (aI @C.bt9_w @C.j0_w)) (aI @C.bvb_w (aI @C.bvc_w @C.jz_w)))))
def C.q22_B := aI (aI (aI (aI @C.j7_b.eq_1 @C.j3_b.eq_1) (aI @C.j5_b.eq_1 @C.wr_b.eq_1)) (aI (aI @C.j6_b.eq_1 @C.j4_b.eq_1) (aI @C.j2_b.eq_1 (aI @C.j1_b.eq_1 @C.kh_b.eq_1)))) (aI (aI (aI @C.kg_b.eq_1 @C.kf_b.eq_1) (aI @C.kd_b.eq_1 @C.kc_b.eq_1)) (aI (aI @C.kb_b.eq_1 @C.j9_b.eq_1) (aI @C.j8_b.eq_1 (aI @C.j0_b.eq_1 @C.jz_b.eq_1))))

def C.bkp_b : LO := [
 X.m 32 3,
 X.m 2 32]
def C.bkp : LO := C.bkp_b
def C.bkp_w := pO C.bkp.eq_1
def C.chv : ICode := .keep [3] (.seq (.region C.bkp) .ret)
def C.chv_w := pC C.chv.eq_1
def C.bkn_b : LO := [
 X.o 31 (.bin .add (X.s 13) (X.i 1)),
 X.m 13 31]
def C.bkn : LO := C.bkn_b
def C.bkn_w := pO C.bkn.eq_1
def C.ch1 : ICode := .keep [0, 3, 12, 13] (.region C.bkn)
def C.ch1_w := pC C.ch1.eq_1
def C.bkq_b : LO := [
 X.m 25 3,
 X.m 26 5,
 X.m 27 4,
 X.o 28 (.build [.int .u8 0, .int .i64 0] [(0, 1, X.s 26), (1, 1, X.s 27)]),
 X.o 29 (.buildSlice 2 1 [.int .u8 0, .int .i64 0] [(0, 2, X.s 28)]),
 X.o 30 (.append 2 16 (X.s 25) (X.s 29)),
 X.m 3 30]
def C.bkq : LO := C.bkq_b
def C.bkq_w := pO C.bkq.eq_1
def C.ch2 : ICode := .keep [0, 3, 4, 5, 12, 13, 24] (.cond (X.s 24) (.region C.bkq) .skip)
def C.ch2_w := pC C.ch2.eq_1
def C.bky_b : LO := [
 X.m 23 5,
 X.o 24 (.bin .neq (X.s 23) (.cst (.int .u8 0)))]
def C.bky : LO := C.bky_b
def C.bky_w := pO C.bky.eq_1
def C.ch3 : ICode := .keep [0, 3, 4, 5, 12, 13] (.seq (.region C.bky) C.ch2)
def C.ch3_w := pC C.ch3.eq_1
def C.bkx_b : LO := [
 X.m 16 0,
 X.o 17 (.nilchk (X.s 16)),
 X.o 18 (.fldAddr 0 (X.s 17)),
 X.o 19 (.load1 (X.s 18)),
 X.m 20 4,
 X.o 21 (.idxAddr 7 (X.s 19) (X.s 20)),
 X.o 22 (.call F.q102 [X.s 21]),
 X.m 5 22]
def C.bkx : LO := C.bkx_b
def C.bkx_w := pO C.bkx.eq_1
def C.ch4 : ICode := .keep [0, 3, 4, 12, 13] (.seq (.region C.bkx) C.ch3)
def C.ch4_w := pC C.ch4.eq_1
def C.bkw_b : LO := [
 X.m 15 13,
 X.m 4 15]
def C.bkw : LO := C.bkw_b
def C.bkw_w := pO C.bkw.eq_1
def C.cht : ICode := .seq (.region C.bkw) C.ch4
def C.cht_w := pC C.cht.eq_1
def C.ch5 : ICode := .keep [0, 3, 12, 13] (.seq (.block 1 C.cht) C.ch1)
def C.ch5_w := pC C.ch5.eq_1
def C.ch6 : ICode := .keep [0, 3, 12, 13, 14] (.seq (.cond (X.s 14) .skip (.exit 0)) C.ch5)
def C.ch6_w := pC C.ch6.eq_1
def C.bkv_b : LO := [
 X.o 14 (.bin .lss (X.s 13) (X.s 12))]
def C.bkv : LO := C.bkv_b
def C.bkv_w := pO C.bkv.eq_1
def C.ckv : ICode := .keep [0, 3, 12, 13] (.seq (.region C.bkv) C.ch6)
def C.ckv_w := pC C.ckv.eq_1
def C.chs : ICode := .loop C.ckv
def C.chs_w := pC C.chs.eq_1
def C.chw : ICode := .keep [0, 3, 12, 13] (.block 0 C.chs)
def C.chw_w := pC C.chw.eq_1
def C.bkt_b : LO := [
 X.m 8 0,
 X.o 9 (.nilchk (X.s 8)),
 X.o 10 (.fldAddr 0 (X.s 9)),
 X.o 11 (.load1 (X.s 10)),
 X.o 12 (.len (X.s 11)),
 X.o 13 (.move (X.i 0))]
def C.bkt : LO := C.bkt_b
def C.bkt_w := pO C.bkt.eq_1
def C.chx : ICode := .keep [0, 3] (.seq (.seq (.region C.bkt) C.chw) C.chv)
def C.chx_w := pC C.chx.eq_1
def C.bks_b : LO := [
 X.o 3 (.move (.cst (.nils)))]
def C.bks : LO := C.bks_b
def C.bks_w := pO C.bks.eq_1
def C.chy : ICode := .keep [0] (.seq (.region C.bks) C.chx)
def C.chy_w := pC C.chy.eq_1
def C.bkr_b : LO := [
 X.o 2 (.move (.cst (.nils)))]
def C.bkr : LO := C.bkr_b
def C.bkr_w := pO C.bkr.eq_1
def C.chq : ICode := .seq (.region C.bkr) .ret
def C.chq_w := pC C.chq.eq_1
def C.chz : ICode := .keep [0, 7] (.cond (X.s 7) C.chq .skip)
def C.chz_w := pC C.chz.eq_1
def C.bkm_b : LO := [
 X.m 6 0,
 X.o 7 (.eqP 0 false (X.s 6) (.cst (.nilp)))]
def C.bkm : LO := C.bkm_b
def C.bkm_w := pO C.bkm.eq_1
def C.ch0 : ICode := .keep [0] (.seq (.seq (.region C.bkm) C.chz) C.chy)
def C.ch0_w := pC C.ch0.eq_1
def C.bkl_b : LO := [
 X.o 2 (.move (.cst (.nils)))]
def C.bkl : LO := C.bkl_b
def C.bkl_w := pO C.bkl.eq_1
def C.q97 : IFunc := ⟨1, [.slot 2], .seq (.region C.bkl) C.ch0⟩
def C.q97_W := aI (aI (aI (aI @C.bkp_w (aI @C.chv_w @C.bkn_w)) (aI @C.ch1_w (aI @C.bkq_w @C.ch2_w))) (aI (aI @C.bky_w (aI @C.ch3_w @C.bkx_w)) (aI (aI @C.ch4_w @C.bkw_w) (aI @C.cht_w @C.ch5_w)))) (aI (aI (aI @C.ch6_w (aI @C.bkv_w @C.chs_w)) (aI (aI @C.chw_w @C.bkt_w) (aI @C.chx_w @C.bks_w))) (aI (aI @C.chy_w (aI @C.bkr_w @C.chq_w)) (aI (aI @C.chz_w @C.bkm_w) (aI @C.ch0_w @C.bkl_w))))
def C.q97_B := aI (aI (aI @C.bkp_b.eq_1 (aI @C.bkn_b.eq_1 @C.bkq_b.eq_1)) (aI @C.bky_b.eq_1 (aI @C.bkx_b.eq_1 @C.bkw_b.eq_1))) (aI (aI @C.bkv_b.eq_1 (aI @C.bkt_b.eq_1 @C.bks_b.eq_1)) (aI @C.bkr_b.eq_1 (aI @C.bkm_b.eq_1 @C.bkl_b.eq_1)))

def C.bkd_b : LO := [
 X.o 2 (.move (.cst (.nilf)))]
def C.bkd : LO := C.bkd_b
def C.bkd_w := pO C.bkd.eq_1
def C.cg6 : ICode := .keep [] (.seq (.region C.bkd) .ret)
def C.cg6_w := pC C.cg6.eq_1
def C.bj6_b : LO := [
 X.o 2 (.move (.fnc F.q112))]
def C.bj6 : LO := C.bj6_b
def C.bj6_w := pO C.bj6.eq_1
def C.bj8_b : LO := [
 X.o 2 (.move (.fnc F.q110))]
def C.bj8 : LO := C.bj8_b
def C.bj8_w := pO C.bj8.eq_1
def C.bkc_b : LO := [
 X.o 2 (.move (.fnc F.q106))]
def C.bkc : LO := C.bkc_b
def C.bkc_w := pO C.bkc.eq_1
def C.chb : ICode := .seq (.region C.bkc) .ret
def C.chb_w := pC C.chb.eq_1
def C.chc : ICode := .keep [8] (.cond (X.s 8) C.chb .skip)
def C.chc_w := pC C.chc.eq_1
def C.bkb_b : LO := [
 X.o 10 (.bin .eql (X.s 3) (.cst (.int .u8 110))),
 X.m 8 10]
def C.bkb : LO := C.bkb_b
def C.bkb_w := pO C.bkb.eq_1
def C.chd : ICode := .keep [3, 8] (.cond (X.s 8) .skip (.region C.bkb))
def C.chd_w := pC C.chd.eq_1
def C.bj9_b : LO := [
 X.o 9 (.bin .eql (X.s 3) (.cst (.int .u8 108))),
 X.m 8 9]
def C.bj9 : LO := C.bj9_b
def C.bj9_w := pO C.bj9.eq_1
def C.chf : ICode := .seq (.region C.bj8) .ret
def C.chf_w := pC C.chf.eq_1
def C.chg : ICode := .seq (.seq (.region C.bj9) C.chd) C.chc
def C.chg_w := pC C.chg.eq_1
def C.chh : ICode := .keep [3, 6] (.cond (X.s 6) C.chf C.chg)
def C.chh_w := pC C.chh.eq_1
def C.bj7_b : LO := [
 X.o 7 (.bin .eql (X.s 3) (.cst (.int .u8 114))),
 X.m 6 7]
def C.bj7 : LO := C.bj7_b
def C.bj7_w := pO C.bj7.eq_1
def C.chj : ICode := .seq (.region C.bj6) .ret
def C.chj_w := pC C.chj.eq_1
def C.chk : ICode := .seq (.region C.bj7) C.chh
def C.chk_w := pC C.chk.eq_1
def C.cg7 : ICode := .keep [3, 4] (.cond (X.s 4) C.chj C.chk)
def C.cg7_w := pC C.cg7.eq_1
def C.bj5_b : LO := [
 X.o 5 (.bin .eql (X.s 3) (.cst (.int .u8 115))),
 X.m 4 5]
def C.bj5 : LO := C.bj5_b
def C.bj5_w := pO C.bj5.eq_1
def C.cg5 : ICode := .seq (.region C.bj5) C.cg7
def C.cg5_w := pC C.cg5.eq_1
def C.cg8 : ICode := .keep [3] (.block 0 C.cg5)
def C.cg8_w := pC C.cg8.eq_1
def C.bj4_b : LO := [
 X.m 3 0]
def C.bj4 : LO := C.bj4_b
def C.bj4_w := pO C.bj4.eq_1
def C.cg9 : ICode := .keep [0] (.seq (.seq (.region C.bj4) C.cg8) C.cg6)
def C.cg9_w := pC C.cg9.eq_1
def C.bj3_b : LO := [
 X.o 2 (.move (.cst (.nilf)))]
def C.bj3 : LO := C.bj3_b
def C.bj3_w := pO C.bj3.eq_1
def C.q95 : IFunc := ⟨1, [.slot 2], .seq (.region C.bj3) C.cg9⟩
def C.q95_W := aI (aI (aI (aI @C.bkd_w @C.cg6_w) (aI @C.bj6_w (aI @C.bj8_w @C.bkc_w))) (aI (aI @C.chb_w (aI @C.chc_w @C.bkb_w)) (aI @C.chd_w (aI @C.bj9_w @C.chf_w)))) (aI (aI (aI @C.chg_w (aI @C.chh_w @C.bj7_w)) (aI @C.chj_w (aI @C.chk_w @C.cg7_w))) (aI (aI @C.bj5_w (aI @C.cg5_w @C.cg8_w)) (aI @C.bj4_w (aI @C.cg9_w @C.bj3_w))))
def C.q95_B := aI (aI (aI @C.bkd_b.eq_1 @C.bj6_b.eq_1) (aI @C.bj8_b.eq_1 (aI @C.bkc_b.eq_1 @C.bkb_b.eq_1))) (aI (aI @C.bj9_b.eq_1 @C.bj7_b.eq_1) (aI @C.bj5_b.eq_1 (aI @C.bj4_b.eq_1 @C.bj3_b.eq_1)))

def C.s5_b : LO := [
 X.m 55 3,
 X.m 2 55]
def C.s5 : LO := C.s5_b
def C.s5_w := pO C.s5.eq_1
def C.b21 : ICode := .keep [3] (.seq (.region C.s5) .ret)
def C.b21_w := pC C.b21.eq_1
def C.fj_b : LO := [
 X.o 54 (.bin .add (X.s 14) (X.i 1)),
 X.m 14 54]
def C.fj : LO := C.fj_b
def C.fj_w := pO C.fj.eq_1
def C.bmw : ICode := .keep [0, 3, 13, 14] (.region C.fj)
def C.bmw_w := pC C.bmw.eq_1
def C.s4_b : LO := [
 X.m 48 0,
 X.o 49 (.nilchk (X.s 48)),
 X.o 50 (.fldAddr 0 (X.s 49)),
 X.o 51 (.load1 (X.s 50)),
 X.m 52 4,
 X.o 53 (.loadN 4 (X.s 5)),
 X.n (.mapSet (X.s 51) (X.s 52) (X.s 53))]
def C.s4 : LO := C.s4_b
def C.s4_w := pO C.s4.eq_1
def C.b28 : ICode := .keep [0, 3, 4, 5, 13, 14] (.region C.s4)
def C.b28_w := pC C.b28.eq_1
def C.fd_b : LO := [
 X.o 36 (.fldAddr 1 (X.s 5)),
 X.o 37 (.load1 (X.s 36)),
 X.o 38 (.bin .sub (X.s 37) (X.i 1)),
 X.o 39 (.fldAddr 1 (X.s 5)),
 X.n (.store1 (X.s 39) (X.s 38))]
def C.fd : LO := C.fd_b
def C.fd_w := pO C.fd.eq_1
def C.fh_b : LO := [
 X.m 44 3,
 X.m 45 4,
 X.o 46 (.buildSlice 1 1 [.int .i64 0] [(0, 1, X.s 45)]),
 X.o 47 (.append 1 8 (X.s 44) (X.s 46)),
 X.m 3 47]
def C.fh : LO := C.fh_b
def C.fh_w := pO C.fh.eq_1
def C.bmx : ICode := .keep [0, 3, 4, 5, 13, 14] (.region C.fh)
def C.bmx_w := pC C.bmx.eq_1
def C.fg_b : LO := [
 X.o 42 (.fldAddr 2 (X.s 5)),
 X.n (.store1 (X.s 42) (.cst (.bool false))),
 X.o 43 (.fldAddr 3 (X.s 5)),
 X.n (.store1 (X.s 43) (.cst (.bool false)))]
def C.fg : LO := C.fg_b
def C.fg_w := pO C.fg.eq_1
def C.bmy : ICode := .seq (.region C.fg) C.bmx
def C.bmy_w := pC C.bmy.eq_1
def C.bmq : ICode := .keep [0, 3, 4, 5, 13, 14, 41] (.cond (X.s 41) C.bmy .skip)
def C.bmq_w := pC C.bmq.eq_1
def C.ff_b : LO := [
 X.o 40 (.fldAddr 3 (X.s 5)),
 X.o 41 (.load1 (X.s 40))]
def C.ff : LO := C.ff_b
def C.ff_w := pO C.ff.eq_1
def C.bmz : ICode := .seq (.region C.ff) C.bmq
def C.bmz_w := pC C.bmz.eq_1
def C.bm0 : ICode := .keep [0, 3, 4, 5, 13, 14, 35] (.cond (X.s 35) (.region C.fd) C.bmz)
def C.bm0_w := pC C.bm0.eq_1
def C.fp_b : LO := [
 X.o 33 (.fldAddr 1 (X.s 5)),
 X.o 34 (.load1 (X.s 33)),
 X.o 35 (.bin .gtr (X.s 34) (X.i 0))]
def C.fp : LO := C.fp_b
def C.fp_w := pO C.fp.eq_1
def C.bm1 : ICode := .keep [0, 3, 4, 5, 13, 14] (.seq (.seq (.region C.fp) C.bm0) C.b28)
def C.bm1_w := pC C.bm1.eq_1
def C.bmp : ICode := .keep [0, 3, 4, 5, 13, 14, 32] (.cond (X.s 32) (.exit 1) .skip)
def C.bmp_w := pC C.bmp.eq_1
def C.fn_b : LO := [
 X.m 26 6,
 X.o 27 (.un .not (X.s 26)),
 X.m 28 27,
 X.f 28 29 (.fldAddr 2 (X.s 5)),
 X.f 28 30 (.load1 (X.s 29)),
 X.f 28 31 (.un .not (X.s 30)),
 X.o 32 (.pick (X.s 28) (.cst (.bool true)) (X.s 31))]
def C.fn : LO := C.fn_b
def C.fn_w := pO C.fn.eq_1
def C.bmr : ICode := .keep [0, 3, 4, 5, 6, 13, 14] (.seq (.seq (.region C.fn) C.bmp) C.bm1)
def C.bmr_w := pC C.bmr.eq_1
def C.fm_b : LO := [
 X.m 18 0,
 X.o 19 (.nilchk (X.s 18)),
 X.o 20 (.fldAddr 0 (X.s 19)),
 X.o 21 (.load1 (X.s 20)),
 X.m 22 4,
 X.o 23 (.lookup (.agg [.int .i64 0, .int .i64 0, .bool false, .bool false]) true (X.s 21) (X.s 22)),
 X.m 17 23,
 X.o 24 (.extract (X.s 17) 0),
 X.o 25 (.extract (X.s 17) 1),
 X.o 5 (.alloc [.int .i64 0, .int .i64 0, .bool false, .bool false]),
 X.n (.storeN 4 (X.s 5) (X.s 24)),
 X.m 6 25]
def C.fm : LO := C.fm_b
def C.fm_w := pO C.fm.eq_1
def C.bms : ICode := .keep [0, 3, 4, 13, 14] (.seq (.region C.fm) C.bmr)
def C.bms_w := pC C.bms.eq_1
def C.fl_b : LO := [
 X.m 16 14,
 X.m 4 16]
def C.fl : LO := C.fl_b
def C.fl_w := pO C.fl.eq_1
def C.bmn : ICode := .seq (.region C.fl) C.bms
def C.bmn_w := pC C.bmn.eq_1
def C.bmt : ICode := .keep [0, 3, 13, 14] (.seq (.block 1 C.bmn) C.bmw)
def C.bmt_w := pC C.bmt.eq_1
def C.bmv : ICode := .keep [0, 3, 13, 14, 15] (.seq (.cond (X.s 15) .skip (.exit 0)) C.bmt)
def C.bmv_w := pC C.bmv.eq_1
def C.fk_b : LO := [
 X.o 15 (.bin .lss (X.s 14) (X.s 13))]
def C.fk : LO := C.fk_b
def C.fk_w := pO C.fk.eq_1
def C.cjh : ICode := .keep [0, 3, 13, 14] (.seq (.region C.fk) C.bmv)
def C.cjh_w := pC C.cjh.eq_1
def C.b20 : ICode := .loop C.cjh
def C.b20_w := pC C.b20.eq_1
def C.b22 : ICode := .keep [0, 3, 13, 14] (.block 0 C.b20)
def C.b22_w := pC C.b22.eq_1
def C.s8_b : LO := [
 X.m 9 0,
 X.o 10 (.nilchk (X.s 9)),
 X.o 11 (.fldAddr 0 (X.s 10)),
 X.o 12 (.load1 (X.s 11)),
 X.o 13 (.mlen (X.s 12)),
 X.o 14 (.move (X.i 0))]
def C.s8 : LO := C.s8_b
def C.s8_w := pO C.s8.eq_1
def C.b23 : ICode := .keep [0, 3] (.seq (.seq (.region C.s8) C.b22) C.b21)
def C.b23_w := pC C.b23.eq_1
def C.s7_b : LO := [
 X.o 3 (.move (.cst (.nils)))]
def C.s7 : LO := C.s7_b
def C.s7_w := pO C.s7.eq_1
def C.b24 : ICode := .keep [0] (.seq (.region C.s7) C.b23)
def C.b24_w := pC C.b24.eq_1
def C.s6_b : LO := [
 X.o 2 (.move (.cst (.nils)))]
def C.s6 : LO := C.s6_b
def C.s6_w := pO C.s6.eq_1
def C.b25 : ICode := .seq (.region C.s6) .ret
def C.b25_w := pC C.b25.eq_1
def C.b26 : ICode := .keep [0, 8] (.cond (X.s 8) C.b25 .skip)
def C.b26_w := pC C.b26.eq_1
def C.s3_b : LO := [
 X.m 7 0,
 X.o 8 (.eqP 0 false (X.s 7) (.cst (.nilp)))]
def C.s3 : LO := C.s3_b
def C.s3_w := pO C.s3.eq_1
def C.b27 : ICode := .keep [0] (.seq (.seq (.region C.s3) C.b26) C.b24)
def C.b27_w := pC C.b27.eq_1
def C.s2_b : LO := [
 X.o 2 (.move (.cst (.nils)))]
def C.s2 : LO := C.s2_b
def C.s2_w := pO C.s2.eq_1
def C.q121 : IFunc := ⟨1, [.slot 2], .seq (.region C.s2) C.b27⟩
def C.q121_W := aI (aI (aI (aI (aI @C.s5_w @C.b21_w) (aI @C.fj_w @C.bmw_w)) (aI (aI @C.s4_w @C.b28_w) (aI @C.fd_w (aI @C.fh_w @C.bmx_w)))) (aI (aI (aI @C.fg_w @C.bmy_w) (aI @C.bmq_w (aI @C.ff_w @C.bmz_w))) (aI (aI @C.bm0_w @C.fp_w) (aI @C.bm1_w (aI @C.bmp_w @C.fn_w))))) (aI (aI (aI (aI @C.bmr_w @C.fm_w) (aI @C.bms_w (aI @C.fl_w @C.bmn_w))) (aI (aI @C.bmt_w @C.bmv_w) (aI @C.fk_w (aI @C.b20_w @C.b22_w)))) (aI (aI (aI @C.s8_w @C.b23_w) (aI @C.s7_w (aI @C.b24_w @C.s6_w))) (aI (aI @C.b25_w @C.b26_w) (aI @C.s3_w (aI @C.b27_w @C.s2_w)))))
def C.q121_B := aI (aI (aI (aI @C.s5_b.eq_1 @C.fj_b.eq_1) (aI @C.s4_b.eq_1 @C.fd_b.eq_1)) (aI (aI @C.fh_b.eq_1 @C.fg_b.eq_1) (aI @C.ff_b.eq_1 @C.fp_b.eq_1))) (aI (aI (aI @C.fn_b.eq_1 @C.fm_b.eq_1) (aI @C.fl_b.eq_1 @C.fk_b.eq_1)) (aI (aI @C.s8_b.eq_1 @C.s7_b.eq_1) (aI @C.s6_b.eq_1 (aI @C.s3_b.eq_1 @C.s2_b.eq_1))))

def C.vk_b : LO := [
 X.m 21 5,
 X.m 4 21]
def C.vk : LO := C.vk_b
def C.vk_w := pO C.vk.eq_1
def C.b30 : ICode := .keep [5] (.seq (.region C.vk) .ret)
def C.b30_w := pC C.b30.eq_1
def C.vj_b : LO := [
 X.m 19 5,
 X.o 20 (.call F.q125 [X.s 19])]
def C.vj : LO := C.vj_b
def C.vj_w := pO C.vj.eq_1
def C.b35 : ICode := .keep [5] (.seq (.region C.vj) C.b30)
def C.b35_w := pC C.b35.eq_1
def C.vg_b : LO := [
 X.m 12 0,
 X.m 13 1,
 X.o 14 (.call F.q24 [X.s 12, X.s 13]),
 X.m 1 14]
def C.vg : LO := C.vg_b
def C.vg_w := pO C.vg.eq_1
def C.b36 : ICode := .keep [0, 1, 5] (.region C.vg)
def C.b36_w := pC C.b36.eq_1
def C.vh_b : LO := [
 X.m 15 5,
 X.m 16 1,
 X.o 17 (.buildSlice 1 1 [.int .i64 0] [(0, 1, X.s 16)]),
 X.o 18 (.append 1 8 (X.s 15) (X.s 17)),
 X.m 5 18]
def C.vh : LO := C.vh_b
def C.vh_w := pO C.vh.eq_1
def C.b3q : ICode := .region C.vh
def C.b3q_w := pC C.b3q.eq_1
def C.b37 : ICode := .keep [0, 1, 5] (.seq (.block 1 C.b3q) C.b36)
def C.b37_w := pC C.b37.eq_1
def C.b38 : ICode := .keep [0, 1, 5, 11] (.cond (X.s 11) .skip (.exit 0))
def C.b38_w := pC C.b38.eq_1
def C.vf_b : LO := [
 X.m 10 1,
 X.o 11 (.bin .neq (X.s 10) (X.i (-1)))]
def C.vf : LO := C.vf_b
def C.vf_w := pO C.vf.eq_1
def C.cjz : ICode := .keep [0, 1, 5] (.seq (.seq (.region C.vf) C.b38) C.b37)
def C.cjz_w := pC C.cjz.eq_1
def C.b3z : ICode := .loop C.cjz
def C.b3z_w := pC C.b3z.eq_1
def C.b39 : ICode := .keep [0, 1, 5] (.seq (.block 0 C.b3z) C.b35)
def C.b39_w := pC C.b39.eq_1
def C.vd_b : LO := [
 X.o 5 (.move (.cst (.nils)))]
def C.vd : LO := C.vd_b
def C.vd_w := pO C.vd.eq_1
def C.b31 : ICode := .keep [0, 1] (.seq (.region C.vd) C.b39)
def C.b31_w := pC C.b31.eq_1
def C.vc_b : LO := [
 X.o 4 (.move (.cst (.nils)))]
def C.vc : LO := C.vc_b
def C.vc_w := pO C.vc.eq_1
def C.b32 : ICode := .seq (.region C.vc) .ret
def C.b32_w := pC C.b32.eq_1
def C.b33 : ICode := .keep [0, 1, 9] (.cond (X.s 9) C.b32 .skip)
def C.b33_w := pC C.b33.eq_1
def C.vb_b : LO := [
 X.m 6 0,
 X.m 7 1,
 X.o 8 (.call F.q23 [X.s 6, X.s 7]),
 X.o 9 (.eqP 0 false (X.s 8) (.cst (.nilp)))]
def C.vb : LO := C.vb_b
def C.vb_w := pO C.vb.eq_1
def C.b34 : ICode := .keep [0, 1] (.seq (.seq (.region C.vb) C.b33) C.b31)
def C.b34_w := pC C.b34.eq_1
def C.t9_b : LO := [
 X.o 4 (.move (.cst (.nils)))]
def C.t9 : LO := C.t9_b
def C.t9_w := pO C.t9.eq_1
def C.q18 : IFunc := ⟨2, [.slot 4], .seq (.region C.t9) C.b34⟩
def C.q18_W := aI (aI (aI (aI @C.vk_w @C.b30_w) (aI @C.vj_w (aI @C.b35_w @C.vg_w))) (aI (aI @C.b36_w @C.vh_w) (aI @C.b3q_w (aI @C.b37_w @C.b38_w)))) (aI (aI (aI @C.vf_w @C.b3z_w) (aI @C.b39_w (aI @C.vd_w @C.b31_w))) (aI (aI @C.vc_w (aI @C.b32_w @C.b33_w)) (aI @C.vb_w (aI @C.b34_w @C.t9_w))))
def C.q18_B := aI (aI (aI @C.vk_b.eq_1 @C.vj_b.eq_1) (aI @C.vg_b.eq_1 @C.vh_b.eq_1)) (aI (aI @C.vf_b.eq_1 @C.vd_b.eq_1) (aI @C.vc_b.eq_1 (aI @C.vb_b.eq_1 @C.t9_b.eq_1)))

def C.vx_b : LO := [
 X.o 6 (.move (X.i 0))]
def C.vx : LO := C.vx_b
def C.vx_w := pO C.vx.eq_1
def C.b4b : ICode := .keep [] (.seq (.region C.vx) .ret)
def C.b4b_w := pC C.b4b.eq_1
def C.vw_b : LO := [
 X.m 41 7,
 X.m 42 7,
 X.o 43 (.nilchk (X.s 42)),
 X.o 44 (.fldAddr 0 (X.s 43)),
 X.o 45 (.fldAddr 5 (X.s 44)),
 X.o 46 (.load1 (X.s 45)),
 X.o 47 (.nilchk (X.s 41)),
 X.o 48 (.fldAddr 7 (X.s 47)),
 X.n (.store1 (X.s 48) (X.s 46))]
def C.vw : LO := C.vw_b
def C.vw_w := pO C.vw.eq_1
def C.b4f : ICode := .keep [7, 40] (.cond (X.s 40) (.region C.vw) .skip)
def C.b4f_w := pC C.b4f.eq_1
def C.vv_b : LO := [
 X.m 31 7,
 X.o 32 (.nilchk (X.s 31)),
 X.o 33 (.fldAddr 0 (X.s 32)),
 X.o 34 (.fldAddr 0 (X.s 33)),
 X.o 35 (.load1 (X.s 34)),
 X.o 36 (.bin .eql (X.s 35) (.cst (.int .u8 112))),
 X.m 37 36,
 X.t 37 38 (.move (X.s 2)),
 X.t 37 39 (.un .not (X.s 38)),
 X.o 40 (.pick (X.s 37) (X.s 39) (.cst (.bool false)))]
def C.vv : LO := C.vv_b
def C.vv_w := pO C.vv.eq_1
def C.b4g : ICode := .keep [2, 7] (.seq (.seq (.region C.vv) C.b4f) C.b4b)
def C.b4g_w := pC C.b4g.eq_1
def C.vt_b : LO := [
 X.m 27 7,
 X.m 28 2,
 X.o 29 (.nilchk (X.s 27)),
 X.o 30 (.fldAddr 6 (X.s 29)),
 X.n (.store1 (X.s 30) (X.s 28))]
def C.vt : LO := C.vt_b
def C.vt_w := pO C.vt.eq_1
def C.b4h : ICode := .keep [2, 7] (.seq (.region C.vt) C.b4g)
def C.b4h_w := pC C.b4h.eq_1
def C.vs_b : LO := [
 X.o 6 (.move (X.i 1))]
def C.vs : LO := C.vs_b
def C.vs_w := pO C.vs.eq_1
def C.b4j : ICode := .seq (.region C.vs) .ret
def C.b4j_w := pC C.b4j.eq_1
def C.b4k : ICode := .keep [2, 7, 26] (.cond (X.s 26) C.b4j .skip)
def C.b4k_w := pC C.b4k.eq_1
def C.vr_b : LO := [
 X.m 13 7,
 X.o 14 (.nilchk (X.s 13)),
 X.o 15 (.fldAddr 0 (X.s 14)),
 X.o 16 (.fldAddr 0 (X.s 15)),
 X.o 17 (.load1 (X.s 16)),
 X.o 18 (.bin .neq (X.s 17) (.cst (.int .u8 112))),
 X.m 19 18,
 X.t 19 20 (.move (X.s 7)),
 X.t 19 21 (.nilchk (X.s 20)),
 X.t 19 22 (.fldAddr 0 (X.s 21)),
 X.t 19 23 (.fldAddr 0 (X.s 22)),
 X.t 19 24 (.load1 (X.s 23)),
 X.t 19 25 (.bin .neq (X.s 24) (.cst (.int .u8 103))),
 X.o 26 (.pick (X.s 19) (X.s 25) (.cst (.bool false)))]
def C.vr : LO := C.vr_b
def C.vr_w := pO C.vr.eq_1
def C.b4l : ICode := .keep [2, 7] (.seq (.seq (.region C.vr) C.b4k) C.b4h)
def C.b4l_w := pC C.b4l.eq_1
def C.vp_b : LO := [
 X.o 6 (.move (X.i 4))]
def C.vp : LO := C.vp_b
def C.vp_w := pO C.vp.eq_1
def C.b4m : ICode := .seq (.region C.vp) .ret
def C.b4m_w := pC C.b4m.eq_1
def C.b4n : ICode := .keep [2, 7, 12] (.cond (X.s 12) C.b4m .skip)
def C.b4n_w := pC C.b4n.eq_1
def C.vn_b : LO := [
 X.m 11 7,
 X.o 12 (.eqP 0 false (X.s 11) (.cst (.nilp)))]
def C.vn : LO := C.vn_b
def C.vn_w := pO C.vn.eq_1
def C.b4c : ICode := .keep [2, 7] (.seq (.seq (.region C.vn) C.b4n) C.b4l)
def C.b4c_w := pC C.b4c.eq_1
def C.vm_b : LO := [
 X.m 8 0,
 X.m 9 1,
 X.o 10 (.call F.q23 [X.s 8, X.s 9]),
 X.m 7 10]
def C.vm : LO := C.vm_b
def C.vm_w := pO C.vm.eq_1
def C.b4d : ICode := .keep [0, 1, 2] (.seq (.region C.vm) C.b4c)
def C.b4d_w := pC C.b4d.eq_1
def C.vl_b : LO := [
 X.o 6 (.move (X.i 0))]
def C.vl : LO := C.vl_b
def C.vl_w := pO C.vl.eq_1
def C.q19 : IFunc := ⟨3, [.slot 6], .seq (.region C.vl) C.b4d⟩
def C.q19_W := aI (aI (aI (aI @C.vx_w @C.b4b_w) (aI @C.vw_w (aI @C.b4f_w @C.vv_w))) (aI (aI @C.b4g_w @C.vt_w) (aI @C.b4h_w (aI @C.vs_w @C.b4j_w)))) (aI (aI (aI @C.b4k_w @C.vr_w) (aI @C.b4l_w (aI @C.vp_w @C.b4m_w))) (aI (aI @C.b4n_w (aI @C.vn_w @C.b4c_w)) (aI @C.vm_w (aI @C.b4d_w @C.vl_w))))
def C.q19_B := aI (aI (aI @C.vx_b.eq_1 @C.vw_b.eq_1) (aI @C.vv_b.eq_1 (aI @C.vt_b.eq_1 @C.vs_b.eq_1))) (aI (aI @C.vr_b.eq_1 @C.vp_b.eq_1) (aI @C.vn_b.eq_1 (aI @C.vm_b.eq_1 @C.vl_b.eq_1)))

def C.v9_b : LO := [
 X.o 11 (.load1 (X.s 5)),
 X.m 12 1,
 X.o 13 (.callv (X.s 11) [X.s 12]),
 X.m 4 13]
def C.v9 : LO := C.v9_b
def C.v9_w := pO C.v9.eq_1
def C.b4q : ICode := .keep [1, 5] (.seq (.region C.v9) .ret)
def C.b4q_w := pC C.b4q.eq_1
def C.v8_b : LO := [
 X.o 10 (.makeFunc F.q21 [X.s 2, X.s 5]),
 X.n (.store1 (X.s 5) (X.s 10))]
def C.v8 : LO := C.v8_b
def C.v8_w := pO C.v8.eq_1
def C.b4z : ICode := .keep [1, 2, 5] (.seq (.region C.v8) C.b4q)
def C.b4z_w := pC C.b4z.eq_1
def C.v7_b : LO := [
 X.o 5 (.alloc [.nilf])]
def C.v7 : LO := C.v7_b
def C.v7_w := pO C.v7.eq_1
def C.b40 : ICode := .keep [1, 2] (.seq (.region C.v7) C.b4z)
def C.b40_w := pC C.b40.eq_1
def C.v6_b : LO := [
 X.o 4 (.move (.cst (.bool false)))]
def C.v6 : LO := C.v6_b
def C.v6_w := pO C.v6.eq_1
def C.b41 : ICode := .seq (.region C.v6) .ret
def C.b41_w := pC C.b41.eq_1
def C.b42 : ICode := .keep [1, 2, 9] (.cond (X.s 9) C.b41 .skip)
def C.b42_w := pC C.b42.eq_1
def C.v5_b : LO := [
 X.o 6 (.load1 (X.s 2)),
 X.m 7 1,
 X.o 8 (.call F.q23 [X.s 6, X.s 7]),
 X.o 9 (.eqP 0 false (X.s 8) (.cst (.nilp)))]
def C.v5 : LO := C.v5_b
def C.v5_w := pO C.v5.eq_1
def C.b43 : ICode := .keep [1, 2] (.seq (.seq (.region C.v5) C.b42) C.b40)
def C.b43_w := pC C.b43.eq_1
def C.v4_b : LO := [
 X.o 2 (.box1 (X.s 0)),
 X.o 4 (.move (.cst (.bool false)))]
def C.v4 : LO := C.v4_b
def C.v4_w := pO C.v4.eq_1
def C.q20 : IFunc := ⟨2, [.slot 4], .seq (.region C.v4) C.b43⟩
def C.q20_W := aI (aI (aI @C.v9_w (aI @C.b4q_w @C.v8_w)) (aI @C.b4z_w (aI @C.v7_w @C.b40_w))) (aI (aI @C.v6_w (aI @C.b41_w @C.b42_w)) (aI @C.v5_w (aI @C.b43_w @C.v4_w)))
def C.q20_B := aI (aI @C.v9_b.eq_1 (aI @C.v8_b.eq_1 @C.v7_b.eq_1)) (aI @C.v6_b.eq_1 (aI @C.v5_b.eq_1 @C.v4_b.eq_1))

def C.bkk_b : LO := [
 X.m 11 5,
 X.o 12 (.nilchk (X.s 11)),
 X.o 13 (.fldAddr 3 (X.s 12)),
 X.o 14 (.load1 (X.s 13)),
 X.m 4 14]
def C.bkk : LO := C.bkk_b
def C.bkk_w := pO C.bkk.eq_1
def C.chl : ICode := .keep [5] (.seq (.region C.bkk) .ret)
def C.chl_w := pC C.chl.eq_1
def C.bkj_b : LO := [
 X.o 4 (.move (.cst (.int .u8 0)))]
def C.bkj : LO := C.bkj_b
def C.bkj_w := pO C.bkj.eq_1
def C.chm : ICode := .seq (.region C.bkj) .ret
def C.chm_w := pC C.chm.eq_1
def C.chn : ICode := .keep [5, 10] (.cond (X.s 10) C.chm .skip)
def C.chn_w := pC C.chn.eq_1
def C.bkh_b : LO := [
 X.m 9 5,
 X.o 10 (.eqP 0 false (X.s 9) (.cst (.nilp)))]
def C.bkh : LO := C.bkh_b
def C.bkh_w := pO C.bkh.eq_1
def C.chp : ICode := .keep [5] (.seq (.seq (.region C.bkh) C.chn) C.chl)
def C.chp_w := pC C.chp.eq_1
def C.bkg_b : LO := [
 X.m 6 0,
 X.m 7 1,
 X.o 8 (.call F.q99 [X.s 6, X.s 7]),
 X.m 5 8]
def C.bkg : LO := C.bkg_b
def C.bkg_w := pO C.bkg.eq_1
def C.chr : ICode := .keep [0, 1] (.seq (.region C.bkg) C.chp)
def C.chr_w := pC C.chr.eq_1
def C.bkf_b : LO := [
 X.o 4 (.move (.cst (.int .u8 0)))]
def C.bkf : LO := C.bkf_b
def C.bkf_w := pO C.bkf.eq_1
def C.q96 : IFunc := ⟨2, [.slot 4], .seq (.region C.bkf) C.chr⟩
def C.q96_W := aI (aI (aI @C.bkk_w @C.chl_w) (aI @C.bkj_w (aI @C.chm_w @C.chn_w))) (aI (aI @C.bkh_w @C.chp_w) (aI @C.bkg_w (aI @C.chr_w @C.bkf_w)))
def C.q96_B := aI (aI @C.bkk_b.eq_1 @C.bkj_b.eq_1) (aI @C.bkh_b.eq_1 (aI @C.bkg_b.eq_1 @C.bkf_b.eq_1))

def C.sp_b : LO := [
 X.m 13 6,
 X.o 14 (.un .not (X.s 13)),
 X.m 15 14,
 X.f 15 16 (.fldAddr 2 (X.s 5)),
 X.f 15 17 (.load1 (X.s 16)),
 X.o 18 (.pick (X.s 15) (.cst (.bool true)) (X.s 17)),
 X.m 4 18]
def C.sp : LO := C.sp_b
def C.sp_w := pO C.sp.eq_1
def C.b2m : ICode := .keep [5, 6] (.seq (.region C.sp) .ret)
def C.b2m_w := pC C.b2m.eq_1
def C.b6_b : LO := [
 X.m 8 0,
 X.m 9 1,
 X.o 10 (.call F.q122 [X.s 8, X.s 9]),
 X.m 7 10,
 X.o 11 (.extract (X.s 7) 0),
 X.o 12 (.extract (X.s 7) 1),
 X.o 5 (.alloc [.int .i64 0, .int .i64 0, .bool false, .bool false]),
 X.n (.storeN 4 (X.s 5) (X.s 11)),
 X.m 6 12]
def C.b6 : LO := C.b6_b
def C.b6_w := pO C.b6.eq_1
def C.bk6 : ICode := .keep [0, 1] (.seq (.region C.b6) C.b2m)
def C.bk6_w := pC C.bk6.eq_1
def C.b5_b : LO := [
 X.o 4 (.move (.cst (.bool false)))]
def C.b5 : LO := C.b5_b
def C.b5_w := pO C.b5.eq_1
def C.q119 : IFunc := ⟨2, [.slot 4], .seq (.region C.b5) C.bk6⟩
def C.q119_W := aI (aI @C.sp_w @C.b2m_w) (aI @C.b6_w (aI @C.bk6_w @C.b5_w))
def C.q119_B := aI @C.sp_b.eq_1 (aI @C.b6_b.eq_1 @C.b5_b.eq_1)

def C.bcq_b : LO := [
 X.o 2 (.move (X.i 0))]
def C.bcq : LO := C.bcq_b
def C.bcq_w := pO C.bcq.eq_1
def C.b89 : ICode := .keep [] (.seq (.region C.bcq) .ret)
def C.b89_w := pC C.b89.eq_1
def C.bcy_b : LO := [
 X.o 17 (.bin .add (X.s 8) (X.i 1)),
 X.m 8 17]
def C.bcy : LO := C.bcy_b
def C.bcy_w := pO C.bcy.eq_1
def C.b9d : ICode := .keep [6, 7, 8] (.region C.bcy)
def C.b9d_w := pC C.b9d.eq_1
def C.bcx_b : LO := [
 X.m 16 5,
 X.m 2 16]
def C.bcx : LO := C.bcx_b
def C.bcx_w := pO C.bcx.eq_1
def C.b9f : ICode := .seq (.region C.bcx) .ret
def C.b9f_w := pC C.b9f.eq_1
def C.b9g : ICode := .keep [5, 6, 7, 8, 15] (.cond (X.s 15) C.b9f .skip)
def C.b9g_w := pC C.b9g.eq_1
def C.bcw_b : LO := [
 X.m 14 5,
 X.o 15 (.bin .neq (X.s 14) (X.i 0))]
def C.bcw : LO := C.bcw_b
def C.bcw_w := pO C.bcw.eq_1
def C.b9h : ICode := .keep [5, 6, 7, 8] (.seq (.region C.bcw) C.b9g)
def C.b9h_w := pC C.b9h.eq_1
def C.bcv_b : LO := [
 X.m 12 4,
 X.o 13 (.callv (X.s 12) []),
 X.m 5 13]
def C.bcv : LO := C.bcv_b
def C.bcv_w := pO C.bcv.eq_1
def C.b9j : ICode := .keep [4, 6, 7, 8] (.seq (.region C.bcv) C.b9h)
def C.b9j_w := pC C.b9j.eq_1
def C.bct_b : LO := [
 X.o 10 (.idxAddr 1 (X.s 6) (X.s 8)),
 X.o 11 (.load1 (X.s 10)),
 X.m 4 11]
def C.bct : LO := C.bct_b
def C.bct_w := pO C.bct.eq_1
def C.b88 : ICode := .seq (.region C.bct) C.b9j
def C.b88_w := pC C.b88.eq_1
def C.b9k : ICode := .keep [6, 7, 8] (.seq (.block 1 C.b88) C.b9d)
def C.b9k_w := pC C.b9k.eq_1
def C.b9l : ICode := .keep [6, 7, 8, 9] (.seq (.cond (X.s 9) .skip (.exit 0)) C.b9k)
def C.b9l_w := pC C.b9l.eq_1
def C.bcs_b : LO := [
 X.o 9 (.bin .lss (X.s 8) (X.s 7))]
def C.bcs : LO := C.bcs_b
def C.bcs_w := pO C.bcs.eq_1
def C.ckd : ICode := .keep [6, 7, 8] (.seq (.region C.bcs) C.b9l)
def C.ckd_w := pC C.ckd.eq_1
def C.b87 : ICode := .loop C.ckd
def C.b87_w := pC C.b87.eq_1
def C.b9b : ICode := .keep [6, 7, 8] (.block 0 C.b87)
def C.b9b_w := pC C.b9b.eq_1
def C.bcr_b : LO := [
 X.m 6 0,
 X.o 7 (.len (X.s 6)),
 X.o 8 (.move (X.i 0))]
def C.bcr : LO := C.bcr_b
def C.bcr_w := pO C.bcr.eq_1
def C.b9c : ICode := .keep [0] (.seq (.seq (.region C.bcr) C.b9b) C.b89)
def C.b9c_w := pC C.b9c.eq_1
def C.bcp_b : LO := [
 X.o 2 (.move (X.i 0))]
def C.bcp : LO := C.bcp_b
def C.bcp_w := pO C.bcp.eq_1
def C.q61 : IFunc := ⟨1, [.slot 2], .seq (.region C.bcp) C.b9c⟩
def C.q61_W := aI (aI (aI (aI @C.bcq_w @C.b89_w) (aI @C.bcy_w (aI @C.b9d_w @C.bcx_w))) (aI (aI @C.b9f_w @C.b9g_w) (aI @C.bcw_w (aI @C.b9h_w @C.bcv_w)))) (aI (aI (aI @C.b9j_w @C.bct_w) (aI @C.b88_w (aI @C.b9k_w @C.b9l_w))) (aI (aI @C.bcs_w (aI @C.b87_w @C.b9b_w)) (aI @C.bcr_w (aI @C.b9c_w @C.bcp_w))))
def C.q61_B := aI (aI (aI @C.bcq_b.eq_1 @C.bcy_b.eq_1) (aI @C.bcx_b.eq_1 @C.bcw_b.eq_1)) (aI (aI @C.bcv_b.eq_1 @C.bct_b.eq_1) (aI @C.bcs_b.eq_1 (aI @C.bcr_b.eq_1 @C.bcp_b.eq_1)))

def C.w3_b : LO := [
 X.o 2 (.loadN 4 (X.s 0)),
 X.o 3 (.call F.q62 [X.s 2]),
 X.m 1 3]
def C.w3 : LO := C.w3_b
def C.w3_w := pO C.w3.eq_1
def C.b5x : ICode := .keep [0] (.seq (.region C.w3) .ret)
def C.b5x_w := pC C.b5x.eq_1
def C.w2_b : LO := [
 X.o 1 (.move (X.i 0))]
def C.w2 : LO := C.w2_b
def C.w2_w := pO C.w2.eq_1
def C.q26 : IFunc := ⟨1, [.slot 1], .seq (.region C.w2) C.b5x⟩
def C.q26_W := aI @C.w3_w (aI @C.b5x_w @C.w2_w)
def C.q26_B := aI @C.w3_b.eq_1 @C.w2_b.eq_1

def C.bc1_b : LO := [
 X.o 25 (.fldAddr 3 (X.s 1)),
 X.o 26 (.load1 (X.s 25)),
 X.o 27 (.call F.q57 [X.s 26, .fnc F.q63]),
 X.m 2 27]
def C.bc1 : LO := C.bc1_b
def C.bc1_w := pO C.bc1.eq_1
def C.b9m : ICode := .keep [1] (.seq (.region C.bc1) .ret)
def C.b9m_w := pC C.b9m.eq_1
def C.bc0_b : LO := [
 X.o 2 (.move (X.i 8))]
def C.bc0 : LO := C.bc0_b
def C.bc0_w := pO C.bc0.eq_1
def C.b9n : ICode := .seq (.region C.bc0) .ret
def C.b9n_w := pC C.b9n.eq_1
def C.b9p : ICode := .keep [1, 24] (.cond (X.s 24) C.b9n .skip)
def C.b9p_w := pC C.b9p.eq_1
def C.bcz_b : LO := [
 X.o 3 (.fldAddr 0 (X.s 1)),
 X.o 4 (.load1 (X.s 3)),
 X.o 5 (.len (X.s 4)),
 X.o 6 (.bin .gtr (X.s 5) (X.i 12)),
 X.m 7 6,
 X.f 7 8 (.fldAddr 1 (X.s 1)),
 X.f 7 9 (.load1 (X.s 8)),
 X.f 7 10 (.len (X.s 9)),
 X.f 7 11 (.bin .gtr (X.s 10) (X.i 6)),
 X.o 12 (.pick (X.s 7) (.cst (.bool true)) (X.s 11)),
 X.m 13 12,
 X.f 13 14 (.fldAddr 2 (X.s 1)),
 X.f 13 15 (.load1 (X.s 14)),
 X.f 13 16 (.len (X.s 15)),
 X.f 13 17 (.bin .gtr (X.s 16) (X.i 6)),
 X.o 18 (.pick (X.s 13) (.cst (.bool true)) (X.s 17)),
 X.m 19 18,
 X.f 19 20 (.fldAddr 3 (X.s 1)),
 X.f 19 21 (.load1 (X.s 20)),
 X.f 19 22 (.len (X.s 21)),
 X.f 19 23 (.bin .gtr (X.s 22) (X.i 6)),
 X.o 24 (.pick (X.s 19) (.cst (.bool true)) (X.s 23))]
def C.bcz : LO := C.bcz_b
def C.bcz_w := pO C.bcz.eq_1
def C.b9r : ICode := .keep [1] (.seq (.seq (.region C.bcz) C.b9p) C.b9m)
def C.b9r_w := pC C.b9r.eq_1
def C.ly_b : LO := [
 X.o 1 (.boxN (X.s 0)),
 X.o 2 (.move (X.i 0))]
def C.ly : LO := C.ly_b
def C.ly_w := pO C.ly.eq_1
def C.q62 : IFunc := ⟨1, [.slot 2], .seq (.region C.ly) C.b9r⟩
def C.q62_W := aI (aI (aI @C.bc1_w @C.b9m_w) (aI @C.bc0_w @C.b9n_w)) (aI (aI @C.b9p_w @C.bcz_w) (aI @C.b9r_w @C.ly_w))
def C.q62_B := aI (aI @C.bc1_b.eq_1 @C.bc0_b.eq_1) (aI @C.bcz_b.eq_1 @C.ly_b.eq_1)

def C.w5_b : LO := [
 X.o 2 (.fldAddr 0 (X.s 0)),
 X.o 3 (.load1 (X.s 2)),
 X.o 4 (.makeFunc F.q28 [X.s 0]),
 X.o 5 (.call F.q56 [X.s 3, X.s 4]),
 X.m 1 5]
def C.w5 : LO := C.w5_b
def C.w5_w := pO C.w5.eq_1
def C.b5y : ICode := .keep [0] (.seq (.region C.w5) .ret)
def C.b5y_w := pC C.b5y.eq_1
def C.w4_b : LO := [
 X.o 1 (.move (X.i 0))]
def C.w4 : LO := C.w4_b
def C.w4_w := pO C.w4.eq_1
def C.q27 : IFunc := ⟨1, [.slot 1], .seq (.region C.w4) C.b5y⟩
def C.q27_W := aI @C.w5_w (aI @C.b5y_w @C.w4_w)
def C.q27_B := aI @C.w5_b.eq_1 @C.w4_b.eq_1

def C.k9_b : LO := [
 X.o 4 (.move (X.i 0))]
def C.k9 : LO := C.k9_b
def C.k9_w := pO C.k9.eq_1
def C.bwb : ICode := .keep [] (.seq (.region C.k9) .ret)
def C.bwb_w := pC C.bwb.eq_1
def C.k8_b : LO := [
 X.o 20 (.bin .add (X.s 10) (X.i 1)),
 X.m 10 20]
def C.k8 : LO := C.k8_b
def C.k8_w := pO C.k8.eq_1
def C.bwf : ICode := .keep [1, 8, 9, 10] (.region C.k8)
def C.bwf_w := pC C.bwf.eq_1
def C.bbs_b : LO := [
 X.m 19 7,
 X.m 4 19]
def C.bbs : LO := C.bbs_b
def C.bbs_w := pO C.bbs.eq_1
def C.b7z : ICode := .seq (.region C.bbs) .ret
def C.b7z_w := pC C.b7z.eq_1
def C.b70 : ICode := .keep [1, 7, 8, 9, 10, 18] (.cond (X.s 18) C.b7z .skip)
def C.b70_w := pC C.b70.eq_1
def C.bbr_b : LO := [
 X.m 17 7,
 X.o 18 (.bin .neq (X.s 17) (X.i 0))]
def C.bbr : LO := C.bbr_b
def C.bbr_w := pO C.bbr.eq_1
def C.b71 : ICode := .keep [1, 7, 8, 9, 10] (.seq (.region C.bbr) C.b70)
def C.b71_w := pC C.b71.eq_1
def C.bbp_b : LO := [
 X.m 14 1,
 X.o 15 (.loadN 6 (X.s 6)),
 X.o 16 (.callv (X.s 14) [X.s 15]),
 X.m 7 16]
def C.bbp : LO := C.bbp_b
def C.bbp_w := pO C.bbp.eq_1
def C.b72 : ICode := .keep [1, 6, 8, 9, 10] (.seq (.region C.bbp) C.b71)
def C.b72_w := pC C.b72.eq_1
def C.k7_b : LO := [
 X.o 12 (.idxAddr 6 (X.s 8) (X.s 10)),
 X.o 13 (.loadN 6 (X.s 12)),
 X.o 6 (.alloc [.int .u8 0, .nils, .int .u64 0, .int .i64 0, .int .i64 0, .int .i64 0]),
 X.n (.storeN 6 (X.s 6) (X.s 13))]
def C.k7 : LO := C.k7_b
def C.k7_w := pO C.k7.eq_1
def C.bv9 : ICode := .seq (.region C.k7) C.b72
def C.bv9_w := pC C.bv9.eq_1
def C.bwg : ICode := .keep [1, 8, 9, 10] (.seq (.block 1 C.bv9) C.bwf)
def C.bwg_w := pC C.bwg.eq_1
def C.bwh : ICode := .keep [1, 8, 9, 10, 11] (.seq (.cond (X.s 11) .skip (.exit 0)) C.bwg)
def C.bwh_w := pC C.bwh.eq_1
def C.k6_b : LO := [
 X.o 11 (.bin .lss (X.s 10) (X.s 9))]
def C.k6 : LO := C.k6_b
def C.k6_w := pO C.k6.eq_1
def C.cj7 : ICode := .keep [1, 8, 9, 10] (.seq (.region C.k6) C.bwh)
def C.cj7_w := pC C.cj7.eq_1
def C.bv8 : ICode := .loop C.cj7
def C.bv8_w := pC C.bv8.eq_1
def C.bwc : ICode := .keep [1, 8, 9, 10] (.block 0 C.bv8)
def C.bwc_w := pC C.bwc.eq_1
def C.k5_b : LO := [
 X.m 8 0,
 X.o 9 (.len (X.s 8)),
 X.o 10 (.move (X.i 0))]
def C.k5 : LO := C.k5_b
def C.k5_w := pO C.k5.eq_1
def C.bwd : ICode := .keep [0, 1] (.seq (.seq (.region C.k5) C.bwc) C.bwb)
def C.bwd_w := pC C.bwd.eq_1
def C.k4_b : LO := [
 X.o 4 (.move (X.i 0))]
def C.k4 : LO := C.k4_b
def C.k4_w := pO C.k4.eq_1
def C.q56 : IFunc := ⟨2, [.slot 4], .seq (.region C.k4) C.bwd⟩
def C.q56_W := aI (aI (aI (aI @C.k9_w @C.bwb_w) (aI @C.k8_w (aI @C.bwf_w @C.bbs_w))) (aI (aI @C.b7z_w @C.b70_w) (aI @C.bbr_w (aI @C.b71_w @C.bbp_w)))) (aI (aI (aI @C.b72_w @C.k7_w) (aI @C.bv9_w (aI @C.bwg_w @C.bwh_w))) (aI (aI @C.k6_w (aI @C.bv8_w @C.bwc_w)) (aI @C.k5_w (aI @C.bwd_w @C.k4_w))))
def C.q56_B := aI (aI (aI @C.k9_b.eq_1 @C.k8_b.eq_1) (aI @C.bbs_b.eq_1 @C.bbr_b.eq_1)) (aI (aI @C.bbp_b.eq_1 @C.k7_b.eq_1) (aI @C.k6_b.eq_1 (aI @C.k5_b.eq_1 @C.k4_b.eq_1)))

def C.w6_b : LO := [
 X.o 4 (.loadN 4 (X.s 1)),
 X.o 5 (.loadN 6 (X.s 2)),
 X.o 6 (.call F.q41 [X.s 4, X.s 5]),
 X.m 3 6]
def C.w6 : LO := C.w6_b
def C.w6_w := pO C.w6.eq_1
def C.b5q : ICode := .keep [1, 2] (.seq (.region C.w6) .ret)
def C.b5q_w := pC C.b5q.eq_1
def C.kk_b : LO := [
 X.o 2 (.boxN (X.s 0)),
 X.o 3 (.move (X.i 0))]
def C.kk : LO := C.kk_b
def C.kk_w := pO C.kk.eq_1
def C.q28 : IFunc := ⟨2, [.slot 3], .seq (.region C.kk) C.b5q⟩
def C.q28_W := aI @C.w6_w (aI @C.b5q_w @C.kk_w)
def C.q28_B := aI @C.w6_b.eq_1 @C.kk_b.eq_1

def C.yf_b : LO := [
 X.o 5 (.makeFunc F.q42 [X.s 3]),
 X.o 6 (.makeFunc F.q43 [X.s 3, X.s 2]),
 X.o 7 (.makeFunc F.q45 [X.s 3]),
 X.o 8 (.buildSlice 1 3 [.nilf] [(0, 1, X.s 5), (1, 1, X.s 6), (2, 1, X.s 7)]),
 X.o 9 (.call F.q61 [X.s 8]),
 X.m 4 9]
def C.yf : LO := C.yf_b
def C.yf_w := pO C.yf.eq_1
def C.b63 : ICode := .keep [2, 3] (.seq (.region C.yf) .ret)
def C.b63_w := pC C.b63.eq_1
def C.yd_b : LO := [
 X.o 2 (.boxN (X.s 0)),
 X.o 3 (.boxN (X.s 1)),
 X.o 4 (.move (X.i 0))]
def C.yd : LO := C.yd_b
def C.yd_w := pO C.yd.eq_1
def C.q41 : IFunc := ⟨2, [.slot 4], .seq (.region C.yd) C.b63⟩
def C.q41_W := aI @C.yf_w (aI @C.b63_w @C.yd_w)
def C.q41_B := aI @C.yf_b.eq_1 @C.yd_b.eq_1

def C.w8_b : LO := [
 X.o 2 (.loadN 4 (X.s 0)),
 X.o 3 (.call F.q37 [X.s 2]),
 X.o 4 (.call F.q46 [X.s 3]),
 X.m 1 4]
def C.w8 : LO := C.w8_b
def C.w8_w := pO C.w8.eq_1
def C.b5z : ICode := .keep [0] (.seq (.region C.w8) .ret)
def C.b5z_w := pC C.b5z.eq_1
def C.w7_b : LO := [
 X.o 1 (.move (X.i 0))]
def C.w7 : LO := C.w7_b
def C.w7_w := pO C.w7.eq_1
def C.q29 : IFunc := ⟨1, [.slot 1], .seq (.region C.w7) C.b5z⟩
def C.q29_W := aI @C.w8_w (aI @C.b5z_w @C.w7_w)
def C.q29_B := aI @C.w8_b.eq_1 @C.w7_b.eq_1

def C.ys_b : LO := [
 X.m 3 0,
 X.o 4 (.call F.q75 [X.s 3]),
 X.o 5 (.bin .eql (X.s 4) (X.i 5)),
 X.o 6 (.call F.q73 [X.s 5, X.i 5]),
 X.m 2 6]
def C.ys : LO := C.ys_b
def C.ys_w := pO C.ys.eq_1
def C.b68 : ICode := .keep [0] (.seq (.region C.ys) .ret)
def C.b68_w := pC C.b68.eq_1
def C.yr_b : LO := [
 X.o 2 (.move (X.i 0))]
def C.yr : LO := C.yr_b
def C.yr_w := pO C.yr.eq_1
def C.q46 : IFunc := ⟨1, [.slot 2], .seq (.region C.yr) C.b68⟩
def C.q46_W := aI @C.ys_w (aI @C.b68_w @C.yr_w)
def C.q46_B := aI @C.ys_b.eq_1 @C.yr_b.eq_1

def C.kt_b : LO := [
 X.m 25 3,
 X.m 2 25]
def C.kt : LO := C.kt_b
def C.kt_w := pO C.kt.eq_1
def C.bvk : ICode := .keep [3] (.seq (.region C.kt) .ret)
def C.bvk_w := pC C.bvk.eq_1
def C.ks_b : LO := [
 X.o 24 (.bin .add (X.s 13) (X.i 1)),
 X.m 13 24]
def C.ks : LO := C.ks_b
def C.ks_w := pO C.ks.eq_1
def C.bvm : ICode := .keep [3, 11, 12, 13] (.region C.ks)
def C.bvm_w := pC C.bvm.eq_1
def C.xv_b : LO := [
 X.m 18 3,
 X.m 19 4,
 X.o 20 (.fldAddr 1 (X.s 5)),
 X.o 21 (.load1 (X.s 20)),
 X.o 22 (.call F.q70 [X.s 21]),
 X.o 23 (.idxAddr 1 (X.s 18) (X.s 19)),
 X.n (.store1 (X.s 23) (X.s 22))]
def C.xv : LO := C.xv_b
def C.xv_w := pO C.xv.eq_1
def C.b6c : ICode := .keep [3, 4, 5, 11, 12, 13] (.region C.xv)
def C.b6c_w := pC C.b6c.eq_1
def C.kr_b : LO := [
 X.m 15 13,
 X.o 16 (.idxAddr 6 (X.s 11) (X.s 13)),
 X.o 17 (.loadN 6 (X.s 16)),
 X.o 5 (.alloc [.int .u8 0, .nils, .int .u64 0, .int .i64 0, .int .i64 0, .int .i64 0]),
 X.m 4 15,
 X.n (.storeN 6 (X.s 5) (X.s 17))]
def C.kr : LO := C.kr_b
def C.kr_w := pO C.kr.eq_1
def C.bvh : ICode := .seq (.region C.kr) C.b6c
def C.bvh_w := pC C.bvh.eq_1
def C.bvn : ICode := .keep [3, 11, 12, 13] (.seq (.block 1 C.bvh) C.bvm)
def C.bvn_w := pC C.bvn.eq_1
def C.bvp : ICode := .keep [3, 11, 12, 13, 14] (.seq (.cond (X.s 14) .skip (.exit 0)) C.bvn)
def C.bvp_w := pC C.bvp.eq_1
def C.kp_b : LO := [
 X.o 14 (.bin .lss (X.s 13) (X.s 12))]
def C.kp : LO := C.kp_b
def C.kp_w := pO C.kp.eq_1
def C.cj2 : ICode := .keep [3, 11, 12, 13] (.seq (.region C.kp) C.bvp)
def C.cj2_w := pC C.cj2.eq_1
def C.bvj : ICode := .loop C.cj2
def C.bvj_w := pC C.bvj.eq_1
def C.bvr : ICode := .keep [3, 11, 12, 13] (.block 0 C.bvj)
def C.bvr_w := pC C.bvr.eq_1
def C.kn_b : LO := [
 X.o 10 (.fldAddr 0 (X.s 1)),
 X.o 11 (.load1 (X.s 10)),
 X.o 12 (.len (X.s 11)),
 X.o 13 (.move (X.i 0))]
def C.kn : LO := C.kn_b
def C.kn_w := pO C.kn.eq_1
def C.bvl : ICode := .keep [1, 3] (.seq (.seq (.region C.kn) C.bvr) C.bvk)
def C.bvl_w := pC C.bvl.eq_1
def C.cn_b : LO := [
 X.o 6 (.fldAddr 0 (X.s 1)),
 X.o 7 (.load1 (X.s 6)),
 X.o 8 (.len (X.s 7)),
 X.o 9 (.makeSlice 1 24 [.nils] (X.s 8) (X.s 8)),
 X.m 3 9]
def C.cn : LO := C.cn_b
def C.cn_w := pO C.cn.eq_1
def C.blr : ICode := .keep [1] (.seq (.region C.cn) C.bvl)
def C.blr_w := pC C.blr.eq_1
def C.by_b : LO := [
 X.o 1 (.boxN (X.s 0)),
 X.o 2 (.move (.cst (.nils)))]
def C.by : LO := C.by_b
def C.by_w := pO C.by.eq_1
def C.q37 : IFunc := ⟨1, [.slot 2], .seq (.region C.by) C.blr⟩
def C.q37_W := aI (aI (aI (aI @C.kt_w @C.bvk_w) (aI @C.ks_w @C.bvm_w)) (aI (aI @C.xv_w @C.b6c_w) (aI @C.kr_w (aI @C.bvh_w @C.bvn_w)))) (aI (aI (aI @C.bvp_w @C.kp_w) (aI @C.bvj_w @C.bvr_w)) (aI (aI @C.kn_w @C.bvl_w) (aI @C.cn_w (aI @C.blr_w @C.by_w))))
def C.q37_B := aI (aI (aI @C.kt_b.eq_1 @C.ks_b.eq_1) (aI @C.xv_b.eq_1 @C.kr_b.eq_1)) (aI (aI @C.kp_b.eq_1 @C.kn_b.eq_1) (aI @C.cn_b.eq_1 @C.by_b.eq_1))

def C.xg_b : LO := [
 X.o 2 (.fldAddr 1 (X.s 0)),
 X.o 3 (.load1 (X.s 2)),
 X.o 4 (.makeFunc F.q31 [X.s 0]),
 X.o 5 (.call F.q58 [X.s 3, X.s 4]),
 X.m 1 5]
def C.xg : LO := C.xg_b
def C.xg_w := pO C.xg.eq_1
def C.b54 : ICode := .keep [0] (.seq (.region C.xg) .ret)
def C.b54_w := pC C.b54.eq_1
def C.xf_b : LO := [
 X.o 1 (.move (X.i 0))]
def C.xf : LO := C.xf_b
def C.xf_w := pO C.xf.eq_1
def C.q30 : IFunc := ⟨1, [.slot 1], .seq (.region C.xf) C.b54⟩
def C.q30_W := aI @C.xg_w (aI @C.b54_w @C.xf_w)
def C.q30_B := aI @C.xg_b.eq_1 @C.xf_b.eq_1

def C.lp_b : LO := [
 X.o 4 (.move (X.i 0))]
def C.lp : LO := C.lp_b
def C.lp_w := pO C.lp.eq_1
def C.bww : ICode := .keep [] (.seq (.region C.lp) .ret)
def C.bww_w := pC C.bww.eq_1
def C.ln_b : LO := [
 X.o 20 (.bin .add (X.s 10) (X.i 1)),
 X.m 10 20]
def C.ln : LO := C.ln_b
def C.ln_w := pO C.ln.eq_1
def C.bwq : ICode := .keep [1, 8, 9, 10] (.region C.ln)
def C.bwq_w := pC C.bwq.eq_1
def C.bbq_b : LO := [
 X.m 19 7,
 X.m 4 19]
def C.bbq : LO := C.bbq_b
def C.bbq_w := pO C.bbq.eq_1
def C.b77 : ICode := .seq (.region C.bbq) .ret
def C.b77_w := pC C.b77.eq_1
def C.b78 : ICode := .keep [1, 7, 8, 9, 10, 18] (.cond (X.s 18) C.b77 .skip)
def C.b78_w := pC C.b78.eq_1
def C.bby_b : LO := [
 X.m 17 7,
 X.o 18 (.bin .neq (X.s 17) (X.i 0))]
def C.bby : LO := C.bby_b
def C.bby_w := pO C.bby.eq_1
def C.b79 : ICode := .keep [1, 7, 8, 9, 10] (.seq (.region C.bby) C.b78)
def C.b79_w := pC C.b79.eq_1
def C.bbx_b : LO := [
 X.m 14 1,
 X.o 15 (.loadN 3 (X.s 6)),
 X.o 16 (.callv (X.s 14) [X.s 15]),
 X.m 7 16]
def C.bbx : LO := C.bbx_b
def C.bbx_w := pO C.bbx.eq_1
def C.b8b : ICode := .keep [1, 6, 8, 9, 10] (.seq (.region C.bbx) C.b79)
def C.b8b_w := pC C.b8b.eq_1
def C.lm_b : LO := [
 X.o 12 (.idxAddr 3 (X.s 8) (X.s 10)),
 X.o 13 (.loadN 3 (X.s 12)),
 X.o 6 (.alloc [.int .i64 0, .int .i64 0, .bool false]),
 X.n (.storeN 3 (X.s 6) (X.s 13))]
def C.lm : LO := C.lm_b
def C.lm_w := pO C.lm.eq_1
def C.bwv : ICode := .seq (.region C.lm) C.b8b
def C.bwv_w := pC C.bwv.eq_1
def C.bwz : ICode := .keep [1, 8, 9, 10] (.seq (.block 1 C.bwv) C.bwq)
def C.bwz_w := pC C.bwz.eq_1
def C.bw0 : ICode := .keep [1, 8, 9, 10, 11] (.seq (.cond (X.s 11) .skip (.exit 0)) C.bwz)
def C.bw0_w := pC C.bw0.eq_1
def C.ll_b : LO := [
 X.o 11 (.bin .lss (X.s 10) (X.s 9))]
def C.ll : LO := C.ll_b
def C.ll_w := pO C.ll.eq_1
def C.cj9 : ICode := .keep [1, 8, 9, 10] (.seq (.region C.ll) C.bw0)
def C.cj9_w := pC C.cj9.eq_1
def C.bwt : ICode := .loop C.cj9
def C.bwt_w := pC C.bwt.eq_1
def C.bwx : ICode := .keep [1, 8, 9, 10] (.block 0 C.bwt)
def C.bwx_w := pC C.bwx.eq_1
def C.lk_b : LO := [
 X.m 8 0,
 X.o 9 (.len (X.s 8)),
 X.o 10 (.move (X.i 0))]
def C.lk : LO := C.lk_b
def C.lk_w := pO C.lk.eq_1
def C.bwy : ICode := .keep [0, 1] (.seq (.seq (.region C.lk) C.bwx) C.bww)
def C.bwy_w := pC C.bwy.eq_1
def C.lj_b : LO := [
 X.o 4 (.move (X.i 0))]
def C.lj : LO := C.lj_b
def C.lj_w := pO C.lj.eq_1
def C.q58 : IFunc := ⟨2, [.slot 4], .seq (.region C.lj) C.bwy⟩
def C.q58_W := aI (aI (aI (aI @C.lp_w @C.bww_w) (aI @C.ln_w (aI @C.bwq_w @C.bbq_w))) (aI (aI @C.b77_w @C.b78_w) (aI @C.bby_w (aI @C.b79_w @C.bbx_w)))) (aI (aI (aI @C.b8b_w @C.lm_w) (aI @C.bwv_w (aI @C.bwz_w @C.bw0_w))) (aI (aI @C.ll_w (aI @C.bwt_w @C.bwx_w)) (aI @C.lk_w (aI @C.bwy_w @C.lj_w))))
def C.q58_B := aI (aI (aI @C.lp_b.eq_1 @C.ln_b.eq_1) (aI @C.bbq_b.eq_1 @C.bby_b.eq_1)) (aI (aI @C.bbx_b.eq_1 @C.lm_b.eq_1) (aI @C.ll_b.eq_1 (aI @C.lk_b.eq_1 @C.lj_b.eq_1)))

end Go.Proofs.YtdmfgodajoojpaaGreatDoor.Cn
