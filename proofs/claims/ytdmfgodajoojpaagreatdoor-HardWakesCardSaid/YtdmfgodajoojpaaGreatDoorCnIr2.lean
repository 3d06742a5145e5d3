/- The intermediate code of the functions, printed by a program out of the loaded program; that it is theirs is checked in the text of links. -/
import Derived.Test.YtdmfgodajoojpaaGreatDoorCnIr1
set_option linter.defProp false
namespace Go.Proofs.YtdmfgodajoojpaaGreatDoor.Cn
open Go
variable {P : Program} {Q : IExit → AFr → ASt → Prop} {fr : AFr} {st : ASt}


def C.d4_b : LO := [
 X.m 110 5,
 X.m 4 110]
def C.d4 : LO := C.d4_b
def C.d4_w := pO C.d4.eq_1
def C.byp : ICode := .keep [5] (.seq (.region C.d4) .ret)
def C.byp_w := pC C.byp.eq_1
def C.d3_b : LO := [
 X.m 105 0,
 X.o 106 (.nilchk (X.s 105)),
 X.o 107 (.fldAddr 2 (X.s 106)),
 X.o 108 (.load1 (X.s 107)),
 X.o 109 (.call F.q122 [X.s 108])]
def C.d3 : LO := C.d3_b
def C.d3_w := pO C.d3.eq_1
def C.byy : ICode := .keep [0, 5] (.seq (.region C.d3) C.byp)
def C.byy_w := pC C.byy.eq_1
def C.b7_b : LO := [
 X.o 104 (.bin .add (X.s 76) (X.i 1)),
 X.m 76 104]
def C.b7 : LO := C.b7_b
def C.b7_w := pO C.b7.eq_1
def C.bj0 : ICode := .keep [0, 5, 74, 75, 76] (.region C.b7)
def C.bj0_w := pC C.bj0.eq_1
def C.ms_b : LO := [
 X.o 103 (.bin .add (X.s 90) (X.i 1)),
 X.m 90 103]
def C.ms : LO := C.ms_b
def C.ms_w := pO C.ms.eq_1
def C.by9 : ICode := .keep [0, 5, 12, 13, 74, 75, 76, 88, 89, 90] (.region C.ms)
def C.by9_w := pC C.by9.eq_1
def C.mr_b : LO := [
 X.m 99 13,
 X.o 100 (.fldAddr 4 (X.s 15)),
 X.o 101 (.load1 (X.s 100)),
 X.o 102 (.callv (X.s 99) [X.s 101])]
def C.mr : LO := C.mr_b
def C.mr_w := pO C.mr.eq_1
def C.bqk : ICode := .keep [0, 5, 12, 13, 15, 74, 75, 76, 88, 89, 90, 98] (.cond (X.s 98) (.region C.mr) .skip)
def C.bqk_w := pC C.bqk.eq_1
def C.mp_b : LO := [
 X.o 94 (.fldAddr 1 (X.s 15)),
 X.o 95 (.load1 (X.s 94)),
 X.o 96 (.fldAddr 1 (X.s 12)),
 X.o 97 (.load1 (X.s 96)),
 X.o 98 (.bin .eql (X.s 95) (X.s 97))]
def C.mp : LO := C.mp_b
def C.mp_w := pO C.mp.eq_1
def C.bql : ICode := .keep [0, 5, 12, 13, 15, 74, 75, 76, 88, 89, 90] (.seq (.region C.mp) C.bqk)
def C.bql_w := pC C.bql.eq_1
def C.mn_b : LO := [
 X.o 92 (.idxAddr 6 (X.s 88) (X.s 90)),
 X.o 93 (.loadN 6 (X.s 92)),
 X.o 15 (.alloc [.int .i64 0, .int .i64 0, .int .i64 0, .int .u32 0, .nilp, .nilp]),
 X.n (.storeN 6 (X.s 15) (X.s 93))]
def C.mn : LO := C.mn_b
def C.mn_w := pO C.mn.eq_1
def C.byn : ICode := .seq (.region C.mn) C.bql
def C.byn_w := pC C.byn.eq_1
def C.bqm : ICode := .keep [0, 5, 12, 13, 74, 75, 76, 88, 89, 90] (.seq (.block 7 C.byn) C.by9)
def C.bqm_w := pC C.bqm.eq_1
def C.bqn : ICode := .keep [0, 5, 12, 13, 74, 75, 76, 88, 89, 90, 91] (.seq (.cond (X.s 91) .skip (.exit 6)) C.bqm)
def C.bqn_w := pC C.bqn.eq_1
def C.mm_b : LO := [
 X.o 91 (.bin .lss (X.s 90) (X.s 89))]
def C.mm : LO := C.mm_b
def C.mm_w := pO C.mm.eq_1
def C.clv : ICode := .keep [0, 5, 12, 13, 74, 75, 76, 88, 89, 90] (.seq (.region C.mm) C.bqn)
def C.clv_w := pC C.clv.eq_1
def C.byf : ICode := .loop C.clv
def C.byf_w := pC C.byf.eq_1
def C.byr : ICode := .keep [0, 5, 12, 13, 74, 75, 76, 88, 89, 90] (.block 6 C.byf)
def C.byr_w := pC C.byr.eq_1
def C.ml_b : LO := [
 X.m 85 0,
 X.o 86 (.nilchk (X.s 85)),
 X.o 87 (.fldAddr 4 (X.s 86)),
 X.o 88 (.load1 (X.s 87)),
 X.o 89 (.len (X.s 88)),
 X.o 90 (.move (X.i 0))]
def C.ml : LO := C.ml_b
def C.ml_w := pO C.ml.eq_1
def C.bmf : ICode := .keep [0, 5, 12, 13, 74, 75, 76] (.seq (.region C.ml) C.byr)
def C.bmf_w := pC C.bmf.eq_1
def C.bys : ICode := .keep [0, 5, 12, 13, 74, 75, 76, 84] (.cond (X.s 84) (.exit 5) .skip)
def C.bys_w := pC C.bys.eq_1
def C.dc_b : LO := [
 X.m 83 13,
 X.o 84 (.eqP 3 false (X.s 83) (.cst (.nilf)))]
def C.dc : LO := C.dc_b
def C.dc_w := pO C.dc.eq_1
def C.byt : ICode := .keep [0, 5, 12, 13, 74, 75, 76] (.seq (.seq (.region C.dc) C.bys) C.bmf)
def C.byt_w := pC C.byt.eq_1
def C.db_b : LO := [
 X.o 80 (.fldAddr 0 (X.s 12)),
 X.o 81 (.load1 (X.s 80)),
 X.o 82 (.call F.q96 [X.s 81]),
 X.m 13 82]
def C.db : LO := C.db_b
def C.db_w := pO C.db.eq_1
def C.byv : ICode := .keep [0, 5, 12, 74, 75, 76] (.seq (.region C.db) C.byt)
def C.byv_w := pC C.byv.eq_1
def C.d2_b : LO := [
 X.o 78 (.idxAddr 2 (X.s 74) (X.s 76)),
 X.o 79 (.loadN 2 (X.s 78)),
 X.o 12 (.alloc [.int .u8 0, .int .i64 0]),
 X.n (.storeN 2 (X.s 12) (X.s 79))]
def C.d2 : LO := C.d2_b
def C.d2_w := pO C.d2.eq_1
def C.byg : ICode := .seq (.region C.d2) C.byv
def C.byg_w := pC C.byg.eq_1
def C.byw : ICode := .keep [0, 5, 74, 75, 76] (.seq (.block 5 C.byg) C.bj0)
def C.byw_w := pC C.byw.eq_1
def C.byx : ICode := .keep [0, 5, 74, 75, 76, 77] (.seq (.cond (X.s 77) .skip (.exit 4)) C.byw)
def C.byx_w := pC C.byx.eq_1
def C.d1_b : LO := [
 X.o 77 (.bin .lss (X.s 76) (X.s 75))]
def C.d1 : LO := C.d1_b
def C.d1_w := pO C.d1.eq_1
def C.clw : ICode := .keep [0, 5, 74, 75, 76] (.seq (.region C.d1) C.byx)
def C.clw_w := pC C.clw.eq_1
def C.byh : ICode := .loop C.clw
def C.byh_w := pC C.byh.eq_1
def C.byq : ICode := .keep [0, 5, 74, 75, 76] (.block 4 C.byh)
def C.byq_w := pC C.byq.eq_1
def C.d0_b : LO := [
 X.m 70 0,
 X.o 71 (.nilchk (X.s 70)),
 X.o 72 (.fldAddr 1 (X.s 71)),
 X.o 73 (.load1 (X.s 72)),
 X.o 74 (.call F.q98 [X.s 73]),
 X.o 75 (.len (X.s 74)),
 X.o 76 (.move (X.i 0))]
def C.d0 : LO := C.d0_b
def C.d0_w := pO C.d0.eq_1
def C.byz : ICode := .keep [0, 5] (.seq (.seq (.region C.d0) C.byq) C.byy)
def C.byz_w := pC C.byz.eq_1
def C.c9_b : LO := [
 X.m 65 0,
 X.o 66 (.nilchk (X.s 65)),
 X.o 67 (.fldAddr 0 (X.s 66)),
 X.o 68 (.load1 (X.s 67)),
 X.o 69 (.call F.q22 [X.s 68])]
def C.c9 : LO := C.c9_b
def C.c9_w := pO C.c9.eq_1
def C.l9 : ICode := .keep [0, 5] (.seq (.region C.c9) C.byz)
def C.l9_w := pC C.l9.eq_1
def C.mj_b : LO := [
 X.o 64 (.bin .add (X.s 44) (X.i 1)),
 X.m 44 64]
def C.mj : LO := C.mj_b
def C.mj_w := pO C.mj.eq_1
def C.by0 : ICode := .keep [0, 1, 5, 42, 43, 44] (.region C.mj)
def C.by0_w := pC C.by0.eq_1
def C.mh_b : LO := [
 X.o 49 (.fldAddr 5 (X.s 10)),
 X.o 50 (.load1 (X.s 49)),
 X.m 51 0,
 X.o 52 (.nilchk (X.s 51)),
 X.o 53 (.fldAddr 3 (X.s 52)),
 X.o 54 (.load1 (X.s 53)),
 X.m 55 9,
 X.m 58 1,
 X.m 59 9,
 X.o 60 (.bin .shr (X.s 58) (X.s 59)),
 X.o 61 (.bin .and (X.s 60) (.cst (.int .u32 1))),
 X.o 62 (.bin .eql (X.s 61) (.cst (.int .u32 1))),
 ⟨some 56, .call F.q7 [X.s 54, X.s 55], none, [⟨.load1 (X.s 49), 50, none⟩], []⟩,
 X.o 57 (.bin .gtr (X.s 56) (X.i 0)),
 X.o 63 (.call F.q105 [X.s 50, X.s 57, X.s 62])]
def C.mh : LO := C.mh_b
def C.mh_w := pO C.mh.eq_1
def C.by1 : ICode := .keep [0, 1, 5, 9, 10, 42, 43, 44] (.region C.mh)
def C.by1_w := pC C.by1.eq_1
def C.mg_b : LO := [
 X.m 46 44,
 X.o 47 (.idxAddr 6 (X.s 42) (X.s 44)),
 X.o 48 (.loadN 6 (X.s 47)),
 X.o 10 (.alloc [.int .i64 0, .int .i64 0, .int .i64 0, .int .u32 0, .nilp, .nilp]),
 X.m 9 46,
 X.n (.storeN 6 (X.s 10) (X.s 48))]
def C.mg : LO := C.mg_b
def C.mg_w := pO C.mg.eq_1
def C.byj : ICode := .seq (.region C.mg) C.by1
def C.byj_w := pC C.byj.eq_1
def C.by2 : ICode := .keep [0, 1, 5, 42, 43, 44] (.seq (.block 3 C.byj) C.by0)
def C.by2_w := pC C.by2.eq_1
def C.by3 : ICode := .keep [0, 1, 5, 42, 43, 44, 45] (.seq (.cond (X.s 45) .skip (.exit 2)) C.by2)
def C.by3_w := pC C.by3.eq_1
def C.mf_b : LO := [
 X.o 45 (.bin .lss (X.s 44) (X.s 43))]
def C.mf : LO := C.mf_b
def C.mf_w := pO C.mf.eq_1
def C.clx : ICode := .keep [0, 1, 5, 42, 43, 44] (.seq (.region C.mf) C.by3)
def C.clx_w := pC C.clx.eq_1
def C.byk : ICode := .loop C.clx
def C.byk_w := pC C.byk.eq_1
def C.by4 : ICode := .keep [0, 1, 5, 42, 43, 44] (.block 2 C.byk)
def C.by4_w := pC C.by4.eq_1
def C.md_b : LO := [
 X.m 39 0,
 X.o 40 (.nilchk (X.s 39)),
 X.o 41 (.fldAddr 4 (X.s 40)),
 X.o 42 (.load1 (X.s 41)),
 X.o 43 (.len (X.s 42)),
 X.o 44 (.move (X.i 0))]
def C.md : LO := C.md_b
def C.md_w := pO C.md.eq_1
def C.bj1 : ICode := .keep [0, 1, 5] (.seq (.seq (.region C.md) C.by4) C.l9)
def C.bj1_w := pC C.bj1.eq_1
def C.dz_b : LO := [
 X.o 38 (.bin .add (X.s 24) (X.i 1)),
 X.m 24 38]
def C.dz : LO := C.dz_b
def C.dz_w := pO C.dz.eq_1
def C.by5 : ICode := .keep [0, 1, 5, 23, 24] (.region C.dz)
def C.by5_w := pC C.by5.eq_1
def C.mx_b : LO := [
 X.m 34 5,
 X.o 35 (.loadN 4 (X.s 7)),
 X.o 36 (.buildSlice 4 1 [.int .i64 0, .int .i64 0, .bool false, .int .u32 0] [(0, 4, X.s 35)]),
 X.o 37 (.append 4 24 (X.s 34) (X.s 36)),
 X.m 5 37]
def C.mx : LO := C.mx_b
def C.mx_w := pO C.mx.eq_1
def C.by6 : ICode := .keep [0, 1, 5, 7, 23, 24, 33] (.cond (X.s 33) (.region C.mx) .skip)
def C.by6_w := pC C.by6.eq_1
def C.mw_b : LO := [
 X.m 33 8]
def C.mw : LO := C.mw_b
def C.mw_w := pO C.mw.eq_1
def C.by7 : ICode := .keep [0, 1, 5, 7, 8, 23, 24] (.seq (.region C.mw) C.by6)
def C.by7_w := pC C.by7.eq_1
def C.b2_b : LO := [
 X.m 28 0,
 X.m 29 6,
 X.o 30 (.call F.q92 [X.s 28, X.s 29]),
 X.m 27 30,
 X.o 31 (.extract (X.s 27) 0),
 X.o 32 (.extract (X.s 27) 1),
 X.o 7 (.alloc [.int .i64 0, .int .i64 0, .bool false, .int .u32 0]),
 X.n (.storeN 4 (X.s 7) (X.s 31)),
 X.m 8 32]
def C.b2 : LO := C.b2_b
def C.b2_w := pO C.b2.eq_1
def C.bmg : ICode := .keep [0, 1, 5, 6, 23, 24] (.seq (.region C.b2) C.by7)
def C.bmg_w := pC C.bmg.eq_1
def C.d6_b : LO := [
 X.m 26 24,
 X.m 6 26]
def C.d6 : LO := C.d6_b
def C.d6_w := pO C.d6.eq_1
def C.byl : ICode := .seq (.region C.d6) C.bmg
def C.byl_w := pC C.byl.eq_1
def C.by8 : ICode := .keep [0, 1, 5, 23, 24] (.seq (.block 1 C.byl) C.by5)
def C.by8_w := pC C.by8.eq_1
def C.bqb : ICode := .keep [0, 1, 5, 23, 24, 25] (.seq (.cond (X.s 25) .skip (.exit 0)) C.by8)
def C.bqb_w := pC C.bqb.eq_1
def C.d5_b : LO := [
 X.o 25 (.bin .lss (X.s 24) (X.s 23))]
def C.d5 : LO := C.d5_b
def C.d5_w := pO C.d5.eq_1
def C.cly : ICode := .keep [0, 1, 5, 23, 24] (.seq (.region C.d5) C.bqb)
def C.cly_w := pC C.cly.eq_1
def C.bym : ICode := .loop C.cly
def C.bym_w := pC C.bym.eq_1
def C.bqc : ICode := .keep [0, 1, 5, 23, 24] (.block 0 C.bym)
def C.bqc_w := pC C.bqc.eq_1
def C.mv_b : LO := [
 X.m 19 0,
 X.o 20 (.nilchk (X.s 19)),
 X.o 21 (.fldAddr 4 (X.s 20)),
 X.o 22 (.load1 (X.s 21)),
 X.o 23 (.len (X.s 22)),
 X.o 24 (.move (X.i 0))]
def C.mv : LO := C.mv_b
def C.mv_w := pO C.mv.eq_1
def C.bqd : ICode := .keep [0, 1, 5] (.seq (.seq (.region C.mv) C.bqc) C.bj1)
def C.bqd_w := pC C.bqd.eq_1
def C.mt_b : LO := [
 X.o 5 (.move (.cst (.nils)))]
def C.mt : LO := C.mt_b
def C.mt_w := pO C.mt.eq_1
def C.bqf : ICode := .keep [0, 1] (.seq (.region C.mt) C.bqd)
def C.bqf_w := pC C.bqf.eq_1
def C.mk_b : LO := [
 X.o 4 (.move (.cst (.nils)))]
def C.mk : LO := C.mk_b
def C.mk_w := pO C.mk.eq_1
def C.bqg : ICode := .seq (.region C.mk) .ret
def C.bqg_w := pC C.bqg.eq_1
def C.bqh : ICode := .keep [0, 1, 18] (.cond (X.s 18) C.bqg .skip)
def C.bqh_w := pC C.bqh.eq_1
def C.mc_b : LO := [
 X.m 16 0,
 X.o 17 (.call F.q94 [X.s 16]),
 X.o 18 (.un .not (X.s 17))]
def C.mc : LO := C.mc_b
def C.mc_w := pO C.mc.eq_1
def C.bqj : ICode := .keep [0, 1] (.seq (.seq (.region C.mc) C.bqh) C.bqf)
def C.bqj_w := pC C.bqj.eq_1
def C.mb_b : LO := [
 X.o 4 (.move (.cst (.nils)))]
def C.mb : LO := C.mb_b
def C.mb_w := pO C.mb.eq_1
def C.q89 : IFunc := ⟨2, [.slot 4], .seq (.region C.mb) C.bqj⟩
def C.q89_W := aI (aI (aI (aI (aI (aI @C.d4_w @C.byp_w) (aI @C.d3_w @C.byy_w)) (aI (aI @C.b7_w @C.bj0_w) (aI @C.ms_w (aI @C.by9_w @C.mr_w)))) (aI (aI (aI @C.bqk_w @C.mp_w) (aI @C.bql_w @C.mn_w)) (aI (aI @C.byn_w @C.bqm_w) (aI @C.bqn_w (aI @C.mm_w @C.byf_w))))) (aI (aI (aI (aI @C.byr_w @C.ml_w) (aI @C.bmf_w @C.bys_w)) (aI (aI @C.dc_w @C.byt_w) (aI @C.db_w (aI @C.byv_w @C.d2_w)))) (aI (aI (aI @C.byg_w @C.byw_w) (aI @C.byx_w (aI @C.d1_w @C.byh_w))) (aI (aI @C.byq_w @C.d0_w) (aI @C.byz_w (aI @C.c9_w @C.l9_w)))))) (aI (aI (aI (aI (aI @C.mj_w @C.by0_w) (aI @C.mh_w @C.by1_w)) (aI (aI @C.mg_w @C.byj_w) (aI @C.by2_w (aI @C.by3_w @C.mf_w)))) (aI (aI (aI @C.byk_w @C.by4_w) (aI @C.md_w (aI @C.bj1_w @C.dz_w))) (aI (aI @C.by5_w @C.mx_w) (aI @C.by6_w (aI @C.mw_w @C.by7_w))))) (aI (aI (aI (aI @C.b2_w @C.bmg_w) (aI @C.d6_w @C.byl_w)) (aI (aI @C.by8_w @C.bqb_w) (aI @C.d5_w (aI @C.bym_w @C.bqc_w)))) (aI (aI (aI @C.mv_w @C.bqd_w) (aI @C.mt_w (aI @C.bqf_w @C.mk_w))) (aI (aI @C.bqg_w @C.bqh_w) (aI @C.mc_w (aI @C.bqj_w @C.mb_w))))))
def C.q89_B := aI (aI (aI (aI @C.d4_b.eq_1 (aI @C.d3_b.eq_1 @C.b7_b.eq_1)) (aI (aI @C.ms_b.eq_1 @C.mr_b.eq_1) (aI @C.mp_b.eq_1 @C.mn_b.eq_1))) (aI (aI (aI @C.mm_b.eq_1 @C.ml_b.eq_1) (aI @C.dc_b.eq_1 @C.db_b.eq_1)) (aI (aI @C.d2_b.eq_1 @C.d1_b.eq_1) (aI @C.d0_b.eq_1 @C.c9_b.eq_1)))) (aI (aI (aI (aI @C.mj_b.eq_1 @C.mh_b.eq_1) (aI @C.mg_b.eq_1 @C.mf_b.eq_1)) (aI (aI @C.md_b.eq_1 @C.dz_b.eq_1) (aI @C.mx_b.eq_1 @C.mw_b.eq_1))) (aI (aI (aI @C.b2_b.eq_1 @C.d6_b.eq_1) (aI @C.d5_b.eq_1 @C.mv_b.eq_1)) (aI (aI @C.mt_b.eq_1 @C.mk_b.eq_1) (aI @C.mc_b.eq_1 @C.mb_b.eq_1))))

def C.bkc_b : LO := [
 X.m 9 0,
 X.o 10 (.nilchk (X.s 9)),
 X.o 11 (.fldAddr 3 (X.s 10)),
 X.o 12 (.load1 (X.s 11)),
 X.m 13 1,
 X.o 14 (.call F.q7 [X.s 12, X.s 13]),
 X.m 4 14]
def C.bkc : LO := C.bkc_b
def C.bkc_w := pO C.bkc.eq_1
def C.ch2 : ICode := .keep [0, 1] (.seq (.region C.bkc) .ret)
def C.ch2_w := pC C.ch2.eq_1
def C.bkb_b : LO := [
 X.o 4 (.move (X.i 0))]
def C.bkb : LO := C.bkb_b
def C.bkb_w := pO C.bkb.eq_1
def C.ch3 : ICode := .seq (.region C.bkb) .ret
def C.ch3_w := pC C.ch3.eq_1
def C.ch4 : ICode := .keep [0, 1, 8] (.cond (X.s 8) C.ch3 .skip)
def C.ch4_w := pC C.ch4.eq_1
def C.bj9_b : LO := [
 X.m 5 0,
 X.m 6 1,
 X.o 7 (.call F.q93 [X.s 5, X.s 6]),
 X.o 8 (.un .not (X.s 7))]
def C.bj9 : LO := C.bj9_b
def C.bj9_w := pO C.bj9.eq_1
def C.ch5 : ICode := .keep [0, 1] (.seq (.seq (.region C.bj9) C.ch4) C.ch2)
def C.ch5_w := pC C.ch5.eq_1
def C.bj8_b : LO := [
 X.o 4 (.move (X.i 0))]
def C.bj8 : LO := C.bj8_b
def C.bj8_w := pO C.bj8.eq_1
def C.q91 : IFunc := ⟨2, [.slot 4], .seq (.region C.bj8) C.ch5⟩
def C.q91_W := aI (aI (aI @C.bkc_w @C.ch2_w) (aI @C.bkb_w @C.ch3_w)) (aI (aI @C.ch4_w @C.bj9_w) (aI @C.ch5_w @C.bj8_w))
def C.q91_B := aI (aI @C.bkc_b.eq_1 @C.bkb_b.eq_1) (aI @C.bj9_b.eq_1 @C.bj8_b.eq_1)

def C.c0_b : LO := [
 X.m 135 0,
 X.m 136 2,
 X.o 137 (.call F.q81 [X.s 135, X.s 136]),
 X.m 6 137]
def C.c0 : LO := C.c0_b
def C.c0_w := pO C.c0.eq_1
def C.bl4 : ICode := .keep [0, 2] (.seq (.region C.c0) .ret)
def C.bl4_w := pC C.bl4.eq_1
def C.jp_b : LO := [
 X.m 131 16,
 X.o 132 (.bin .add (X.s 131) (X.i 1)),
 X.m 16 132]
def C.jp : LO := C.jp_b
def C.jp_w := pO C.jp.eq_1
def C.btj : ICode := .keep [0, 2, 16] (.region C.jp)
def C.btj_w := pC C.btj.eq_1
def C.jr_b : LO := [
 X.m 133 0,
 X.o 134 (.call F.q89 [X.s 133, .cst (.int .u32 0)])]
def C.jr : LO := C.jr_b
def C.jr_w := pO C.jr.eq_1
def C.bs5 : ICode := .region C.jr
def C.bs5_w := pC C.bs5.eq_1
def C.btq : ICode := .keep [0, 2, 16] (.seq (.block 9 C.bs5) C.btj)
def C.btq_w := pC C.btq.eq_1
def C.bt5 : ICode := .keep [0, 2, 16, 130] (.cond (X.s 130) .skip (.exit 8))
def C.bt5_w := pC C.bt5.eq_1
def C.bm_b : LO := [
 X.m 123 16,
 X.o 124 (.bin .lss (X.s 123) (X.i 300)),
 X.m 125 124,
 X.t 125 126 (.move (X.s 0)),
 X.t 125 127 (.move (X.s 2)),
 X.t 125 128 (.call F.q81 [X.s 126, X.s 127]),
 X.t 125 129 (.un .not (X.s 128)),
 X.o 130 (.pick (X.s 125) (X.s 129) (.cst (.bool false)))]
def C.bm : LO := C.bm_b
def C.bm_w := pO C.bm.eq_1
def C.ck2 : ICode := .keep [0, 2, 16] (.seq (.seq (.region C.bm) C.bt5) C.btq)
def C.ck2_w := pC C.ck2.eq_1
def C.btb : ICode := .loop C.ck2
def C.btb_w := pC C.btb.eq_1
def C.bt8 : ICode := .keep [0, 2, 16] (.block 8 C.btb)
def C.bt8_w := pC C.bt8.eq_1
def C.jn_b : LO := [
 X.o 16 (.move (X.i 0))]
def C.jn : LO := C.jn_b
def C.jn_w := pO C.jn.eq_1
def C.n4 : ICode := .keep [0, 2] (.seq (.seq (.region C.jn) C.bt8) C.bl4)
def C.n4_w := pC C.n4.eq_1
def C.jm_b : LO := [
 X.o 6 (.move (.cst (.bool false)))]
def C.jm : LO := C.jm_b
def C.jm_w := pO C.jm.eq_1
def C.btc : ICode := .seq (.region C.jm) .ret
def C.btc_w := pC C.btc.eq_1
def C.btd : ICode := .keep [0, 2, 122] (.cond (X.s 122) C.btc .skip)
def C.btd_w := pC C.btd.eq_1
def C.jl_b : LO := [
 X.m 112 0,
 X.o 113 (.fldAddr 2 (X.s 7)),
 X.o 114 (.load1 (X.s 113)),
 X.o 115 (.call F.q84 [X.s 112, X.s 114]),
 X.m 116 115,
 X.t 116 117 (.move (X.s 0)),
 X.t 116 118 (.fldAddr 2 (X.s 7)),
 X.t 116 119 (.load1 (X.s 118)),
 X.t 116 120 (.call F.q87 [X.s 117, X.s 119]),
 X.t 116 121 (.bin .neq (X.s 120) (X.i 0)),
 X.o 122 (.pick (X.s 116) (X.s 121) (.cst (.bool false)))]
def C.jl : LO := C.jl_b
def C.jl_w := pO C.jl.eq_1
def C.vl : ICode := .keep [0, 2, 7] (.seq (.seq (.region C.jl) C.btd) C.n4)
def C.vl_w := pC C.vl.eq_1
def C.bw_b : LO := [
 X.m 74 13,
 X.o 75 (.bin .add (X.s 74) (X.i 1)),
 X.m 13 75]
def C.bw : LO := C.bw_b
def C.bw_w := pO C.bw.eq_1
def C.n2 : ICode := .keep [0, 2, 7, 11, 13] (.region C.bw)
def C.n2_w := pC C.n2.eq_1
def C.jj_b : LO := [
 X.m 108 15,
 X.o 109 (.bin .add (X.s 108) (X.i 1)),
 X.m 15 109]
def C.jj : LO := C.jj_b
def C.jj_w := pO C.jj.eq_1
def C.btf : ICode := .keep [0, 2, 7, 11, 13, 15] (.region C.jj)
def C.btf_w := pC C.btf.eq_1
def C.jk_b : LO := [
 X.m 110 0,
 X.o 111 (.call F.q89 [X.s 110, .cst (.int .u32 0)])]
def C.jk : LO := C.jk_b
def C.jk_w := pO C.jk.eq_1
def C.bs1 : ICode := .region C.jk
def C.bs1_w := pC C.bs1.eq_1
def C.btg : ICode := .keep [0, 2, 7, 11, 13, 15] (.seq (.block 7 C.bs1) C.btf)
def C.btg_w := pC C.btg.eq_1
def C.bth : ICode := .keep [0, 2, 7, 11, 13, 15, 107] (.cond (X.s 107) .skip (.exit 6))
def C.bth_w := pC C.bth.eq_1
def C.jh_b : LO := [
 X.m 97 15,
 X.o 98 (.bin .lss (X.s 97) (X.i 40)),
 X.m 99 98,
 X.t 99 100 (.move (X.s 0)),
 X.t 99 101 (.move (X.s 11)),
 X.t 99 102 (.move (X.s 13)),
 X.t 99 103 (.idxAddr 1 (X.s 101) (X.s 102)),
 X.t 99 104 (.load1 (X.s 103)),
 X.t 99 105 (.call F.q85 [X.s 100, X.s 104]),
 X.t 99 106 (.bin .neq (X.s 105) (.cst (.int .u8 49))),
 X.o 107 (.pick (X.s 99) (X.s 106) (.cst (.bool false)))]
def C.jh : LO := C.jh_b
def C.jh_w := pO C.jh.eq_1
def C.ckq : ICode := .keep [0, 2, 7, 11, 13, 15] (.seq (.seq (.region C.jh) C.bth) C.btg)
def C.ckq_w := pC C.ckq.eq_1
def C.bs2 : ICode := .loop C.ckq
def C.bs2_w := pC C.bs2.eq_1
def C.btk : ICode := .keep [0, 2, 7, 11, 13, 15] (.block 6 C.bs2)
def C.btk_w := pC C.btk.eq_1
def C.cz_b : LO := [
 X.o 15 (.move (X.i 0))]
def C.cz : LO := C.cz_b
def C.cz_w := pO C.cz.eq_1
def C.vm : ICode := .keep [0, 2, 7, 11, 13] (.seq (.region C.cz) C.btk)
def C.vm_w := pC C.vm.eq_1
def C.jg_b : LO := [
 X.o 6 (.move (.cst (.bool false)))]
def C.jg : LO := C.jg_b
def C.jg_w := pO C.jg.eq_1
def C.btl : ICode := .seq (.region C.jg) .ret
def C.btl_w := pC C.btl.eq_1
def C.btm : ICode := .keep [0, 2, 7, 11, 13, 96] (.cond (X.s 96) C.btl .skip)
def C.btm_w := pC C.btm.eq_1
def C.jf_b : LO := [
 X.m 82 14,
 X.o 83 (.bin .eql (X.s 82) (.cst (.int .u8 48))),
 X.m 84 83,
 X.f 84 85 (.move (X.s 14)),
 X.f 84 86 (.bin .eql (X.s 85) (.cst (.int .u8 116))),
 X.o 87 (.pick (X.s 84) (.cst (.bool true)) (X.s 86)),
 X.m 88 87,
 X.t 88 89 (.move (X.s 0)),
 X.t 88 90 (.move (X.s 11)),
 X.t 88 91 (.move (X.s 13)),
 X.t 88 92 (.idxAddr 1 (X.s 90) (X.s 91)),
 X.t 88 93 (.load1 (X.s 92)),
 X.t 88 94 (.call F.q90 [X.s 89, X.s 93]),
 X.t 88 95 (.bin .neq (X.s 94) (X.i 0)),
 X.o 96 (.pick (X.s 88) (X.s 95) (.cst (.bool false)))]
def C.jf : LO := C.jf_b
def C.jf_w := pO C.jf.eq_1
def C.btn : ICode := .keep [0, 2, 7, 11, 13, 14] (.seq (.seq (.region C.jf) C.btm) C.vm)
def C.btn_w := pC C.btn.eq_1
def C.jd_b : LO := [
 X.m 76 0,
 X.m 77 11,
 X.m 78 13,
 X.o 79 (.idxAddr 1 (X.s 77) (X.s 78)),
 X.o 80 (.load1 (X.s 79)),
 X.o 81 (.call F.q85 [X.s 76, X.s 80]),
 X.m 14 81]
def C.jd : LO := C.jd_b
def C.jd_w := pO C.jd.eq_1
def C.bs3 : ICode := .seq (.region C.jd) C.btn
def C.bs3_w := pC C.bs3.eq_1
def C.btp : ICode := .keep [0, 2, 7, 11, 13] (.seq (.block 5 C.bs3) C.n2)
def C.btp_w := pC C.btp.eq_1
def C.btr : ICode := .keep [0, 2, 7, 11, 13, 73] (.cond (X.s 73) .skip (.exit 4))
def C.btr_w := pC C.btr.eq_1
def C.jc_b : LO := [
 X.m 70 13,
 X.m 71 11,
 X.o 72 (.len (X.s 71)),
 X.o 73 (.bin .lss (X.s 70) (X.s 72))]
def C.jc : LO := C.jc_b
def C.jc_w := pO C.jc.eq_1
def C.ckz : ICode := .keep [0, 2, 7, 11, 13] (.seq (.seq (.region C.jc) C.btr) C.btp)
def C.ckz_w := pC C.ckz.eq_1
def C.bs4 : ICode := .loop C.ckz
def C.bs4_w := pC C.bs4.eq_1
def C.bts : ICode := .keep [0, 2, 7, 11, 13] (.block 4 C.bs4)
def C.bts_w := pC C.bts.eq_1
def C.jb_b : LO := [
 X.o 13 (.move (X.i 0))]
def C.jb : LO := C.jb_b
def C.jb_w := pO C.jb.eq_1
def C.vn : ICode := .keep [0, 2, 7, 11] (.seq (.seq (.region C.jb) C.bts) C.vl)
def C.vn_w := pC C.vn.eq_1
def C.cy_b : LO := [
 X.o 60 (.fldAddr 1 (X.s 4)),
 X.o 61 (.load1 (X.s 60)),
 X.m 62 12,
 X.o 63 (.idxAddr 3 (X.s 61) (X.s 62)),
 X.o 64 (.fldAddr 0 (X.s 63)),
 X.o 65 (.load1 (X.s 64)),
 X.m 12 65]
def C.cy : LO := C.cy_b
def C.cy_w := pO C.cy.eq_1
def C.btt : ICode := .keep [0, 2, 4, 7, 11, 12] (.region C.cy)
def C.btt_w := pC C.btt.eq_1
def C.h9_b : LO := [
 X.m 66 12,
 X.o 67 (.buildSlice 1 1 [.int .i64 0] [(0, 1, X.s 66)]),
 X.m 68 11,
 X.o 69 (.append 1 8 (X.s 67) (X.s 68)),
 X.m 11 69]
def C.h9 : LO := C.h9_b
def C.h9_w := pO C.h9.eq_1
def C.bs6 : ICode := .region C.h9
def C.bs6_w := pC C.bs6.eq_1
def C.btv : ICode := .keep [0, 2, 4, 7, 11, 12] (.seq (.block 3 C.bs6) C.btt)
def C.btv_w := pC C.btv.eq_1
def C.btw : ICode := .keep [0, 2, 4, 7, 11, 12, 59] (.cond (X.s 59) .skip (.exit 2))
def C.btw_w := pC C.btw.eq_1
def C.h8_b : LO := [
 X.m 58 12,
 X.o 59 (.bin .geq (X.s 58) (X.i 0))]
def C.h8 : LO := C.h8_b
def C.h8_w := pO C.h8.eq_1
def C.ck0 : ICode := .keep [0, 2, 4, 7, 11, 12] (.seq (.seq (.region C.h8) C.btw) C.btv)
def C.ck0_w := pC C.ck0.eq_1
def C.bs7 : ICode := .loop C.ck0
def C.bs7_w := pC C.bs7.eq_1
def C.btx : ICode := .keep [0, 2, 4, 7, 11, 12] (.block 2 C.bs7)
def C.btx_w := pC C.btx.eq_1
def C.h7_b : LO := [
 X.o 56 (.fldAddr 1 (X.s 7)),
 X.o 57 (.load1 (X.s 56)),
 X.m 12 57]
def C.h7 : LO := C.h7_b
def C.h7_w := pO C.h7.eq_1
def C.bty : ICode := .keep [0, 2, 4, 7, 11] (.seq (.seq (.region C.h7) C.btx) C.vn)
def C.bty_w := pC C.bty.eq_1
def C.jw_b : LO := [
 X.o 11 (.move (.cst (.nils)))]
def C.jw : LO := C.jw_b
def C.jw_w := pO C.jw.eq_1
def C.vp : ICode := .keep [0, 2, 4, 7] (.seq (.region C.jw) C.bty)
def C.vp_w := pC C.vp.eq_1
def C.bp_b : LO := [
 X.m 30 9,
 X.o 31 (.bin .add (X.s 30) (X.i 1)),
 X.m 9 31]
def C.bp : LO := C.bp_b
def C.bp_w := pO C.bp.eq_1
def C.btz : ICode := .keep [0, 2, 4, 7, 8, 9] (.region C.bp)
def C.btz_w := pC C.btz.eq_1
def C.jv_b : LO := [
 X.o 6 (.move (.cst (.bool false)))]
def C.jv : LO := C.jv_b
def C.jv_w := pO C.jv.eq_1
def C.bt0 : ICode := .seq (.region C.jv) .ret
def C.bt0_w := pC C.bt0.eq_1
def C.bt1 : ICode := .keep [0, 2, 4, 7, 8, 9, 55] (.cond (X.s 55) C.bt0 .skip)
def C.bt1_w := pC C.bt1.eq_1
def C.jt_b : LO := [
 X.m 41 10,
 X.o 42 (.bin .eql (X.s 41) (.cst (.int .u8 112))),
 X.m 43 42,
 X.f 43 44 (.move (X.s 10)),
 X.f 43 45 (.bin .eql (X.s 44) (.cst (.int .u8 103))),
 X.o 46 (.pick (X.s 43) (.cst (.bool true)) (X.s 45)),
 X.m 47 46,
 X.t 47 48 (.move (X.s 0)),
 X.t 47 49 (.move (X.s 8)),
 X.t 47 50 (.move (X.s 9)),
 X.t 47 51 (.idxAddr 1 (X.s 49) (X.s 50)),
 X.t 47 52 (.load1 (X.s 51)),
 X.t 47 53 (.call F.q83 [X.s 48, X.s 52, .cst (.bool true)]),
 X.t 47 54 (.bin .neq (X.s 53) (X.i 0)),
 X.o 55 (.pick (X.s 47) (X.s 54) (.cst (.bool false)))]
def C.jt : LO := C.jt_b
def C.jt_w := pO C.jt.eq_1
def C.bt2 : ICode := .keep [0, 2, 4, 7, 8, 9, 10] (.seq (.region C.jt) C.bt1)
def C.bt2_w := pC C.bt2.eq_1
def C.c2_b : LO := [
 X.o 32 (.fldAddr 0 (X.s 4)),
 X.o 33 (.load1 (X.s 32)),
 X.m 34 8,
 X.m 35 9,
 X.o 36 (.idxAddr 1 (X.s 34) (X.s 35)),
 X.o 37 (.load1 (X.s 36)),
 X.o 38 (.idxAddr 6 (X.s 33) (X.s 37)),
 X.o 39 (.fldAddr 0 (X.s 38)),
 X.o 40 (.load1 (X.s 39)),
 X.m 10 40]
def C.c2 : LO := C.c2_b
def C.c2_w := pO C.c2.eq_1
def C.bs8 : ICode := .seq (.region C.c2) C.bt2
def C.bs8_w := pC C.bs8.eq_1
def C.bt3 : ICode := .keep [0, 2, 4, 7, 8, 9] (.seq (.block 1 C.bs8) C.btz)
def C.bt3_w := pC C.bt3.eq_1
def C.bt4 : ICode := .keep [0, 2, 4, 7, 8, 9, 29] (.cond (X.s 29) .skip (.exit 0))
def C.bt4_w := pC C.bt4.eq_1
def C.c1_b : LO := [
 X.m 26 9,
 X.m 27 8,
 X.o 28 (.len (X.s 27)),
 X.o 29 (.bin .lss (X.s 26) (X.s 28))]
def C.c1 : LO := C.c1_b
def C.c1_w := pO C.c1.eq_1
def C.ck1 : ICode := .keep [0, 2, 4, 7, 8, 9] (.seq (.seq (.region C.c1) C.bt4) C.bt3)
def C.ck1_w := pC C.ck1.eq_1
def C.bs9 : ICode := .loop C.ck1
def C.bs9_w := pC C.bs9.eq_1
def C.bt6 : ICode := .keep [0, 2, 4, 7, 8, 9] (.block 0 C.bs9)
def C.bt6_w := pC C.bt6.eq_1
def C.js_b : LO := [
 X.o 9 (.move (X.i 0))]
def C.js : LO := C.js_b
def C.js_w := pO C.js.eq_1
def C.bt7 : ICode := .keep [0, 2, 4, 7, 8] (.seq (.seq (.region C.js) C.bt6) C.vp)
def C.bt7_w := pC C.bt7.eq_1
def C.cq_b : LO := [
 X.m 22 0,
 X.o 23 (.fldAddr 0 (X.s 7)),
 X.o 24 (.load1 (X.s 23)),
 X.o 25 (.call F.q82 [X.s 22, X.s 24]),
 X.m 8 25]
def C.cq : LO := C.cq_b
def C.cq_w := pO C.cq.eq_1
def C.n3 : ICode := .keep [0, 2, 4, 7] (.seq (.region C.cq) C.bt7)
def C.n3_w := pC C.n3.eq_1
def C.cx_b : LO := [
 X.o 17 (.fldAddr 3 (X.s 4)),
 X.o 18 (.load1 (X.s 17)),
 X.m 19 2,
 X.o 20 (.idxAddr 6 (X.s 18) (X.s 19)),
 X.o 21 (.loadN 6 (X.s 20)),
 X.o 7 (.alloc [.int .i64 0, .int .i64 0, .int .i64 0, .int .u32 0, .nils, .nils]),
 X.n (.storeN 6 (X.s 7) (X.s 21))]
def C.cx : LO := C.cx_b
def C.cx_w := pO C.cx.eq_1
def C.bl5 : ICode := .keep [0, 2, 4] (.seq (.region C.cx) C.n3)
def C.bl5_w := pC C.bl5.eq_1
def C.h6_b : LO := [
 X.o 4 (.boxN (X.s 1)),
 X.o 6 (.move (.cst (.bool false)))]
def C.h6 : LO := C.h6_b
def C.h6_w := pO C.h6.eq_1
def C.q16 : IFunc := ⟨3, [.slot 6], .seq (.region C.h6) C.bl5⟩
def C.q16_W := aI (aI (aI (aI (aI (aI @C.c0_w @C.bl4_w) (aI @C.jp_w @C.btj_w)) (aI (aI @C.jr_w @C.bs5_w) (aI @C.btq_w (aI @C.bt5_w @C.bm_w)))) (aI (aI (aI @C.btb_w @C.bt8_w) (aI @C.jn_w (aI @C.n4_w @C.jm_w))) (aI (aI @C.btc_w @C.btd_w) (aI @C.jl_w (aI @C.vl_w @C.bw_w))))) (aI (aI (aI (aI @C.n2_w @C.jj_w) (aI @C.btf_w (aI @C.jk_w @C.bs1_w))) (aI (aI @C.btg_w @C.bth_w) (aI @C.jh_w (aI @C.bs2_w @C.btk_w)))) (aI (aI (aI @C.cz_w @C.vm_w) (aI @C.jg_w (aI @C.btl_w @C.btm_w))) (aI (aI @C.jf_w @C.btn_w) (aI @C.jd_w (aI @C.bs3_w @C.btp_w)))))) (aI (aI (aI (aI (aI @C.btr_w @C.jc_w) (aI @C.bs4_w (aI @C.bts_w @C.jb_w))) (aI (aI @C.vn_w @C.cy_w) (aI @C.btt_w (aI @C.h9_w @C.bs6_w)))) (aI (aI (aI @C.btv_w @C.btw_w) (aI @C.h8_w (aI @C.bs7_w @C.btx_w))) (aI (aI @C.h7_w @C.bty_w) (aI @C.jw_w (aI @C.vp_w @C.bp_w))))) (aI (aI (aI (aI @C.btz_w @C.jv_w) (aI @C.bt0_w (aI @C.bt1_w @C.jt_w))) (aI (aI @C.bt2_w @C.c2_w) (aI @C.bs8_w (aI @C.bt3_w @C.bt4_w)))) (aI (aI (aI @C.c1_w @C.bs9_w) (aI @C.bt6_w (aI @C.js_w @C.bt7_w))) (aI (aI @C.cq_w @C.n3_w) (aI @C.cx_w (aI @C.bl5_w @C.h6_w))))))
def C.q16_B := aI (aI (aI (aI @C.c0_b.eq_1 (aI @C.jp_b.eq_1 @C.jr_b.eq_1)) (aI (aI @C.bm_b.eq_1 @C.jn_b.eq_1) (aI @C.jm_b.eq_1 @C.jl_b.eq_1))) (aI (aI (aI @C.bw_b.eq_1 @C.jj_b.eq_1) (aI @C.jk_b.eq_1 @C.jh_b.eq_1)) (aI (aI @C.cz_b.eq_1 @C.jg_b.eq_1) (aI @C.jf_b.eq_1 @C.jd_b.eq_1)))) (aI (aI (aI (aI @C.jc_b.eq_1 @C.jb_b.eq_1) (aI @C.cy_b.eq_1 @C.h9_b.eq_1)) (aI (aI @C.h8_b.eq_1 @C.h7_b.eq_1) (aI @C.jw_b.eq_1 @C.bp_b.eq_1))) (aI (aI (aI @C.jv_b.eq_1 @C.jt_b.eq_1) (aI @C.c2_b.eq_1 @C.c1_b.eq_1)) (aI (aI @C.js_b.eq_1 @C.cq_b.eq_1) (aI @C.cx_b.eq_1 @C.h6_b.eq_1))))

def C.bh7_b : LO := [
 X.m 8 0,
 X.o 9 (.nilchk (X.s 8)),
 X.o 10 (.fldAddr 0 (X.s 9)),
 X.o 11 (.load1 (X.s 10)),
 X.m 12 1,
 X.o 13 (.call F.q18 [X.s 11, X.s 12]),
 X.m 4 13]
def C.bh7 : LO := C.bh7_b
def C.bh7_w := pO C.bh7.eq_1
def C.cg2 : ICode := .keep [0, 1] (.seq (.region C.bh7) .ret)
def C.cg2_w := pC C.cg2.eq_1
def C.bh6_b : LO := [
 X.o 4 (.move (.cst (.nils)))]
def C.bh6 : LO := C.bh6_b
def C.bh6_w := pO C.bh6.eq_1
def C.cg3 : ICode := .seq (.region C.bh6) .ret
def C.cg3_w := pC C.cg3.eq_1
def C.cg4 : ICode := .keep [0, 1, 7] (.cond (X.s 7) C.cg3 .skip)
def C.cg4_w := pC C.cg4.eq_1
def C.bh5_b : LO := [
 X.m 5 0,
 X.o 6 (.call F.q94 [X.s 5]),
 X.o 7 (.un .not (X.s 6))]
def C.bh5 : LO := C.bh5_b
def C.bh5_w := pO C.bh5.eq_1
def C.cg5 : ICode := .keep [0, 1] (.seq (.seq (.region C.bh5) C.cg4) C.cg2)
def C.cg5_w := pC C.cg5.eq_1
def C.bh4_b : LO := [
 X.o 4 (.move (.cst (.nils)))]
def C.bh4 : LO := C.bh4_b
def C.bh4_w := pO C.bh4.eq_1
def C.q82 : IFunc := ⟨2, [.slot 4], .seq (.region C.bh4) C.cg5⟩
def C.q82_W := aI (aI (aI @C.bh7_w @C.cg2_w) (aI @C.bh6_w @C.cg3_w)) (aI (aI @C.cg4_w @C.bh5_w) (aI @C.cg5_w @C.bh4_w))
def C.q82_B := aI (aI @C.bh7_b.eq_1 @C.bh6_b.eq_1) (aI @C.bh5_b.eq_1 @C.bh4_b.eq_1)

def C.bjc_b : LO := [
 X.m 10 0,
 X.o 11 (.nilchk (X.s 10)),
 X.o 12 (.fldAddr 0 (X.s 11)),
 X.o 13 (.load1 (X.s 12)),
 X.m 14 1,
 X.m 15 2,
 X.o 16 (.call F.q19 [X.s 13, X.s 14, X.s 15]),
 X.m 6 16]
def C.bjc : LO := C.bjc_b
def C.bjc_w := pO C.bjc.eq_1
def C.cg6 : ICode := .keep [0, 1, 2] (.seq (.region C.bjc) .ret)
def C.cg6_w := pC C.cg6.eq_1
def C.bjb_b : LO := [
 X.o 6 (.move (X.i 4))]
def C.bjb : LO := C.bjb_b
def C.bjb_w := pO C.bjb.eq_1
def C.cg7 : ICode := .seq (.region C.bjb) .ret
def C.cg7_w := pC C.cg7.eq_1
def C.cg8 : ICode := .keep [0, 1, 2, 9] (.cond (X.s 9) C.cg7 .skip)
def C.cg8_w := pC C.cg8.eq_1
def C.bh9_b : LO := [
 X.m 7 0,
 X.o 8 (.call F.q94 [X.s 7]),
 X.o 9 (.un .not (X.s 8))]
def C.bh9 : LO := C.bh9_b
def C.bh9_w := pO C.bh9.eq_1
def C.cg9 : ICode := .keep [0, 1, 2] (.seq (.seq (.region C.bh9) C.cg8) C.cg6)
def C.cg9_w := pC C.cg9.eq_1
def C.bh8_b : LO := [
 X.o 6 (.move (X.i 0))]
def C.bh8 : LO := C.bh8_b
def C.bh8_w := pO C.bh8.eq_1
def C.q83 : IFunc := ⟨3, [.slot 6], .seq (.region C.bh8) C.cg9⟩
def C.q83_W := aI (aI (aI @C.bjc_w @C.cg6_w) (aI @C.bjb_w @C.cg7_w)) (aI (aI @C.cg8_w @C.bh9_w) (aI @C.cg9_w @C.bh8_w))
def C.q83_B := aI (aI @C.bjc_b.eq_1 @C.bjb_b.eq_1) (aI @C.bh9_b.eq_1 @C.bh8_b.eq_1)

def C.bh3_b : LO := [
 X.m 17 0,
 X.o 18 (.nilchk (X.s 17)),
 X.o 19 (.fldAddr 0 (X.s 18)),
 X.o 20 (.load1 (X.s 19)),
 X.o 21 (.fldAddr 0 (X.s 5)),
 X.o 22 (.load1 (X.s 21)),
 X.o 23 (.call F.q20 [X.s 20, X.s 22]),
 X.m 24 23,
 X.t 24 25 (.move (X.s 0)),
 X.t 24 26 (.nilchk (X.s 25)),
 X.t 24 27 (.fldAddr 1 (X.s 26)),
 X.t 24 28 (.load1 (X.s 27)),
 X.t 24 29 (.fldAddr 1 (X.s 5)),
 X.t 24 30 (.load1 (X.s 29)),
 X.t 24 31 (.call F.q97 [X.s 28, X.s 30]),
 X.t 24 32 (.bin .eql (X.s 31) (.cst (.int .u8 49))),
 X.o 33 (.pick (X.s 24) (X.s 32) (.cst (.bool false))),
 X.m 34 33,
 X.t 34 35 (.move (X.s 0)),
 X.t 34 36 (.nilchk (X.s 35)),
 X.t 34 37 (.fldAddr 2 (X.s 36)),
 X.t 34 38 (.load1 (X.s 37)),
 X.t 34 39 (.fldAddr 2 (X.s 5)),
 X.t 34 40 (.load1 (X.s 39)),
 X.t 34 41 (.call F.q120 [X.s 38, X.s 40]),
 X.t 34 42 (.un .not (X.s 41)),
 X.o 43 (.pick (X.s 34) (X.s 42) (.cst (.bool false))),
 X.m 4 43]
def C.bh3 : LO := C.bh3_b
def C.bh3_w := pO C.bh3.eq_1
def C.cg1 : ICode := .keep [0, 5] (.seq (.region C.bh3) .ret)
def C.cg1_w := pC C.cg1.eq_1
def C.dq_b : LO := [
 X.m 10 0,
 X.o 11 (.nilchk (X.s 10)),
 X.o 12 (.fldAddr 4 (X.s 11)),
 X.o 13 (.load1 (X.s 12)),
 X.m 14 1,
 X.o 15 (.idxAddr 6 (X.s 13) (X.s 14)),
 X.o 16 (.loadN 6 (X.s 15)),
 X.o 5 (.alloc [.int .i64 0, .int .i64 0, .int .i64 0, .int .u32 0, .nilp, .nilp]),
 X.n (.storeN 6 (X.s 5) (X.s 16))]
def C.dq : LO := C.dq_b
def C.dq_w := pO C.dq.eq_1
def C.bx9 : ICode := .keep [0, 1] (.seq (.region C.dq) C.cg1)
def C.bx9_w := pC C.bx9.eq_1
def C.dy_b : LO := [
 X.o 4 (.move (.cst (.bool false)))]
def C.dy : LO := C.dy_b
def C.dy_w := pO C.dy.eq_1
def C.byb : ICode := .seq (.region C.dy) .ret
def C.byb_w := pC C.byb.eq_1
def C.byc : ICode := .keep [0, 1, 9] (.cond (X.s 9) C.byb .skip)
def C.byc_w := pC C.byc.eq_1
def C.dx_b : LO := [
 X.m 6 0,
 X.m 7 1,
 X.o 8 (.call F.q93 [X.s 6, X.s 7]),
 X.o 9 (.un .not (X.s 8))]
def C.dx : LO := C.dx_b
def C.dx_w := pO C.dx.eq_1
def C.byd : ICode := .keep [0, 1] (.seq (.seq (.region C.dx) C.byc) C.bx9)
def C.byd_w := pC C.byd.eq_1
def C.dw_b : LO := [
 X.o 4 (.move (.cst (.bool false)))]
def C.dw : LO := C.dw_b
def C.dw_w := pO C.dw.eq_1
def C.q81 : IFunc := ⟨2, [.slot 4], .seq (.region C.dw) C.byd⟩
def C.q81_W := aI (aI (aI @C.bh3_w @C.cg1_w) (aI @C.dq_w (aI @C.bx9_w @C.dy_w))) (aI (aI @C.byb_w @C.byc_w) (aI @C.dx_w (aI @C.byd_w @C.dw_w)))
def C.q81_B := aI (aI @C.bh3_b.eq_1 @C.dq_b.eq_1) (aI @C.dy_b.eq_1 (aI @C.dx_b.eq_1 @C.dw_b.eq_1))

def C.xj_b : LO := [
 X.o 3 (.makeFunc F.q26 [X.s 1]),
 X.o 4 (.makeFunc F.q27 [X.s 1]),
 X.o 5 (.makeFunc F.q29 [X.s 1]),
 X.o 6 (.makeFunc F.q30 [X.s 1]),
 X.o 7 (.makeFunc F.q32 [X.s 1]),
 X.o 8 (.makeFunc F.q33 [X.s 1]),
 X.o 9 (.makeFunc F.q34 [X.s 1]),
 X.o 10 (.makeFunc F.q36 [X.s 1]),
 X.o 11 (.buildSlice 1 8 [.nilf] [(0, 1, X.s 3), (1, 1, X.s 4), (2, 1, X.s 5), (3, 1, X.s 6), (4, 1, X.s 7), (5, 1, X.s 8), (6, 1, X.s 9), (7, 1, X.s 10)]),
 X.o 12 (.call F.q61 [X.s 11]),
 X.m 2 12]
def C.xj : LO := C.xj_b
def C.xj_w := pO C.xj.eq_1
def C.b6z : ICode := .keep [1] (.seq (.region C.xj) .ret)
def C.b6z_w := pC C.b6z.eq_1
def C.kx_b : LO := [
 X.o 1 (.boxN (X.s 0)),
 X.o 2 (.move (X.i 0))]
def C.kx : LO := C.kx_b
def C.kx_w := pO C.kx.eq_1
def C.q25 : IFunc := ⟨1, [.slot 2], .seq (.region C.kx) C.b6z⟩
def C.q25_W := aI @C.xj_w (aI @C.b6z_w @C.kx_w)
def C.q25_B := aI @C.xj_b.eq_1 @C.kx_b.eq_1

def C.bjy_b : LO := [
 X.m 8 0,
 X.o 9 (.nilchk (X.s 8)),
 X.o 10 (.fldAddr 2 (X.s 9)),
 X.o 11 (.load1 (X.s 10)),
 X.m 12 1,
 X.o 13 (.call F.q121 [X.s 11, X.s 12]),
 X.m 4 13]
def C.bjy : LO := C.bjy_b
def C.bjy_w := pO C.bjy.eq_1
def C.chs : ICode := .keep [0, 1] (.seq (.region C.bjy) .ret)
def C.chs_w := pC C.chs.eq_1
def C.bjx_b : LO := [
 X.o 4 (.move (X.i 4))]
def C.bjx : LO := C.bjx_b
def C.bjx_w := pO C.bjx.eq_1
def C.cht : ICode := .seq (.region C.bjx) .ret
def C.cht_w := pC C.cht.eq_1
def C.chv : ICode := .keep [0, 1, 7] (.cond (X.s 7) C.cht .skip)
def C.chv_w := pC C.chv.eq_1
def C.bjw_b : LO := [
 X.m 5 0,
 X.o 6 (.call F.q94 [X.s 5]),
 X.o 7 (.un .not (X.s 6))]
def C.bjw : LO := C.bjw_b
def C.bjw_w := pO C.bjw.eq_1
def C.chw : ICode := .keep [0, 1] (.seq (.seq (.region C.bjw) C.chv) C.chs)
def C.chw_w := pC C.chw.eq_1
def C.bjv_b : LO := [
 X.o 4 (.move (X.i 0))]
def C.bjv : LO := C.bjv_b
def C.bjv_w := pO C.bjv.eq_1
def C.q87 : IFunc := ⟨2, [.slot 4], .seq (.region C.bjv) C.chw⟩
def C.q87_W := aI (aI (aI @C.bjy_w @C.chs_w) (aI @C.bjx_w @C.cht_w)) (aI (aI @C.chv_w @C.bjw_w) (aI @C.chw_w @C.bjv_w))
def C.q87_B := aI (aI @C.bjy_b.eq_1 @C.bjx_b.eq_1) (aI @C.bjw_b.eq_1 @C.bjv_b.eq_1)

def C.bjf_b : LO := [
 X.m 5 0,
 X.o 6 (.call F.q94 [X.s 5]),
 X.o 7 (.un .not (X.s 6)),
 X.m 8 7,
 X.f 8 9 (.move (X.s 0)),
 X.f 8 10 (.nilchk (X.s 9)),
 X.f 8 11 (.fldAddr 2 (X.s 10)),
 X.f 8 12 (.load1 (X.s 11)),
 X.f 8 13 (.move (X.s 1)),
 X.f 8 14 (.call F.q120 [X.s 12, X.s 13]),
 X.o 15 (.pick (X.s 8) (.cst (.bool true)) (X.s 14)),
 X.m 4 15]
def C.bjf : LO := C.bjf_b
def C.bjf_w := pO C.bjf.eq_1
def C.chb : ICode := .keep [0, 1] (.seq (.region C.bjf) .ret)
def C.chb_w := pC C.chb.eq_1
def C.bjd_b : LO := [
 X.o 4 (.move (.cst (.bool false)))]
def C.bjd : LO := C.bjd_b
def C.bjd_w := pO C.bjd.eq_1
def C.q84 : IFunc := ⟨2, [.slot 4], .seq (.region C.bjd) C.chb⟩
def C.q84_W := aI @C.bjf_w (aI @C.chb_w @C.bjd_w)
def C.q84_B := aI @C.bjf_b.eq_1 @C.bjd_b.eq_1

def C.bjk_b : LO := [
 X.m 8 0,
 X.o 9 (.nilchk (X.s 8)),
 X.o 10 (.fldAddr 1 (X.s 9)),
 X.o 11 (.load1 (X.s 10)),
 X.m 12 1,
 X.o 13 (.call F.q97 [X.s 11, X.s 12]),
 X.m 4 13]
def C.bjk : LO := C.bjk_b
def C.bjk_w := pO C.bjk.eq_1
def C.chc : ICode := .keep [0, 1] (.seq (.region C.bjk) .ret)
def C.chc_w := pC C.chc.eq_1
def C.bjj_b : LO := [
 X.o 4 (.move (.cst (.int .u8 0)))]
def C.bjj : LO := C.bjj_b
def C.bjj_w := pO C.bjj.eq_1
def C.chd : ICode := .seq (.region C.bjj) .ret
def C.chd_w := pC C.chd.eq_1
def C.chf : ICode := .keep [0, 1, 7] (.cond (X.s 7) C.chd .skip)
def C.chf_w := pC C.chf.eq_1
def C.bjh_b : LO := [
 X.m 5 0,
 X.o 6 (.call F.q94 [X.s 5]),
 X.o 7 (.un .not (X.s 6))]
def C.bjh : LO := C.bjh_b
def C.bjh_w := pO C.bjh.eq_1
def C.chg : ICode := .keep [0, 1] (.seq (.seq (.region C.bjh) C.chf) C.chc)
def C.chg_w := pC C.chg.eq_1
def C.bjg_b : LO := [
 X.o 4 (.move (.cst (.int .u8 0)))]
def C.bjg : LO := C.bjg_b
def C.bjg_w := pO C.bjg.eq_1
def C.q85 : IFunc := ⟨2, [.slot 4], .seq (.region C.bjg) C.chg⟩
def C.q85_W := aI (aI (aI @C.bjk_w @C.chc_w) (aI @C.bjj_w @C.chd_w)) (aI (aI @C.chf_w @C.bjh_w) (aI @C.chg_w @C.bjg_w))
def C.q85_B := aI (aI @C.bjk_b.eq_1 @C.bjj_b.eq_1) (aI @C.bjh_b.eq_1 @C.bjg_b.eq_1)

def C.bj7_b : LO := [
 X.m 8 0,
 X.o 9 (.nilchk (X.s 8)),
 X.o 10 (.fldAddr 1 (X.s 9)),
 X.o 11 (.load1 (X.s 10)),
 X.m 12 1,
 X.o 13 (.call F.q99 [X.s 11, X.s 12]),
 X.m 4 13]
def C.bj7 : LO := C.bj7_b
def C.bj7_w := pO C.bj7.eq_1
def C.chq : ICode := .keep [0, 1] (.seq (.region C.bj7) .ret)
def C.chq_w := pC C.chq.eq_1
def C.bj6_b : LO := [
 X.o 4 (.move (X.i 4))]
def C.bj6 : LO := C.bj6_b
def C.bj6_w := pO C.bj6.eq_1
def C.chz : ICode := .seq (.region C.bj6) .ret
def C.chz_w := pC C.chz.eq_1
def C.ch0 : ICode := .keep [0, 1, 7] (.cond (X.s 7) C.chz .skip)
def C.ch0_w := pC C.ch0.eq_1
def C.bj5_b : LO := [
 X.m 5 0,
 X.o 6 (.call F.q94 [X.s 5]),
 X.o 7 (.un .not (X.s 6))]
def C.bj5 : LO := C.bj5_b
def C.bj5_w := pO C.bj5.eq_1
def C.ch1 : ICode := .keep [0, 1] (.seq (.seq (.region C.bj5) C.ch0) C.chq)
def C.ch1_w := pC C.ch1.eq_1
def C.bj4_b : LO := [
 X.o 4 (.move (X.i 0))]
def C.bj4 : LO := C.bj4_b
def C.bj4_w := pO C.bj4.eq_1
def C.q90 : IFunc := ⟨2, [.slot 4], .seq (.region C.bj4) C.ch1⟩
def C.q90_W := aI (aI (aI @C.bj7_w @C.chq_w) (aI @C.bj6_w @C.chz_w)) (aI (aI @C.ch0_w @C.bj5_w) (aI @C.ch1_w @C.bj4_w))
def C.q90_B := aI (aI @C.bj7_b.eq_1 @C.bj6_b.eq_1) (aI @C.bj5_b.eq_1 @C.bj4_b.eq_1)

def C.bjz_b : LO := [
 X.m 5 0,
 X.o 6 (.call F.q94 [X.s 5]),
 X.m 7 6,
 X.t 7 8 (.move (X.s 0)),
 X.t 7 9 (.nilchk (X.s 8)),
 X.t 7 10 (.fldAddr 0 (X.s 9)),
 X.t 7 11 (.load1 (X.s 10)),
 X.t 7 12 (.move (X.s 1)),
 X.t 7 13 (.call F.q20 [X.s 11, X.s 12]),
 X.o 14 (.pick (X.s 7) (X.s 13) (.cst (.bool false))),
 X.m 4 14]
def C.bjz : LO := C.bjz_b
def C.bjz_w := pO C.bjz.eq_1
def C.chx : ICode := .keep [0, 1] (.seq (.region C.bjz) .ret)
def C.chx_w := pC C.chx.eq_1
def C.bjq_b : LO := [
 X.o 4 (.move (.cst (.bool false)))]
def C.bjq : LO := C.bjq_b
def C.bjq_w := pO C.bjq.eq_1
def C.q88 : IFunc := ⟨2, [.slot 4], .seq (.region C.bjq) C.chx⟩
def C.q88_W := aI @C.bjz_w (aI @C.chx_w @C.bjq_w)
def C.q88_B := aI @C.bjz_b.eq_1 @C.bjq_b.eq_1

def C.j2_b : LO := [
 X.m 49 5,
 X.m 2 49,
 X.o 3 (.move (X.i 0))]
def C.j2 : LO := C.j2_b
def C.j2_w := pO C.j2.eq_1
def C.bvd : ICode := .keep [5] (.seq (.region C.j2) .ret)
def C.bvd_w := pC C.bvd.eq_1
def C.j1_b : LO := [
 X.o 48 (.bin .add (X.s 20) (X.i 1)),
 X.m 20 48]
def C.j1 : LO := C.j1_b
def C.j1_w := pO C.j1.eq_1
def C.bvl : ICode := .keep [5, 18, 19, 20] (.region C.j1)
def C.bvl_w := pC C.bvl.eq_1
def C.vs_b : LO := [
 X.m 38 5,
 X.m 39 5,
 X.o 40 (.nilchk (X.s 39)),
 X.o 41 (.fldAddr 0 (X.s 40)),
 X.o 42 (.load1 (X.s 41)),
 X.o 43 (.loadN 11 (X.s 8)),
 X.o 44 (.buildSlice 11 1 [.int .u8 0, .nils, .int .u64 0, .int .i64 0, .int .i64 0, .int .i64 0, .bool false, .int .i64 0, .int .i64 0, .int .i64 0, .int .i64 0] [(0, 11, X.s 43)]),
 X.o 45 (.append 11 104 (X.s 42) (X.s 44)),
 X.o 46 (.nilchk (X.s 38)),
 X.o 47 (.fldAddr 0 (X.s 46)),
 X.n (.store1 (X.s 47) (X.s 45))]
def C.vs : LO := C.vs_b
def C.vs_w := pO C.vs.eq_1
def C.vr : ICode := .keep [5, 8, 18, 19, 20] (.region C.vs)
def C.vr_w := pC C.vr.eq_1
def C.jq_b : LO := [
 X.o 30 (.fldAddr 5 (X.s 7)),
 X.o 31 (.load1 (X.s 30)),
 X.o 32 (.fldAddr 7 (X.s 8)),
 X.n (.store1 (X.s 32) (X.s 31))]
def C.jq : LO := C.jq_b
def C.jq_w := pO C.jq.eq_1
def C.j0_b : LO := [
 X.o 35 (.fldAddr 4 (X.s 7)),
 X.o 36 (.load1 (X.s 35)),
 X.o 37 (.fldAddr 10 (X.s 8)),
 X.n (.store1 (X.s 37) (X.s 36))]
def C.j0 : LO := C.j0_b
def C.j0_w := pO C.j0.eq_1
def C.bvr : ICode := .keep [5, 7, 8, 18, 19, 20, 33] (.cond (X.s 33) (.region C.j0) .skip)
def C.bvr_w := pC C.bvr.eq_1
def C.jz_b : LO := [
 X.o 34 (.bin .eql (X.s 27) (.cst (.int .u8 100))),
 X.m 33 34]
def C.jz : LO := C.jz_b
def C.jz_w := pO C.jz.eq_1
def C.bvs : ICode := .seq (.region C.jz) C.bvr
def C.bvs_w := pC C.bvs.eq_1
def C.bvt : ICode := .keep [5, 7, 8, 18, 19, 20, 27, 28] (.cond (X.s 28) (.region C.jq) C.bvs)
def C.bvt_w := pC C.bvt.eq_1
def C.jy_b : LO := [
 X.o 29 (.bin .eql (X.s 27) (.cst (.int .u8 112))),
 X.m 28 29]
def C.jy : LO := C.jy_b
def C.jy_w := pO C.jy.eq_1
def C.bvc : ICode := .seq (.region C.jy) C.bvt
def C.bvc_w := pC C.bvc.eq_1
def C.bvv : ICode := .keep [5, 7, 8, 18, 19, 20, 27] (.block 2 C.bvc)
def C.bvv_w := pC C.bvv.eq_1
def C.j9_b : LO := [
 X.o 26 (.fldAddr 0 (X.s 7)),
 X.o 27 (.load1 (X.s 26))]
def C.j9 : LO := C.j9_b
def C.j9_w := pO C.j9.eq_1
def C.bl8 : ICode := .keep [5, 7, 8, 18, 19, 20] (.seq (.seq (.region C.j9) C.bvv) C.vr)
def C.bl8_w := pC C.bl8.eq_1
def C.bx_b : LO := [
 X.o 24 (.loadN 6 (X.s 7)),
 X.o 25 (.build [.int .u8 0, .nils, .int .u64 0, .int .i64 0, .int .i64 0, .int .i64 0, .bool false, .int .i64 0, .int .i64 0, .int .i64 0, .int .i64 0] [(0, 6, X.s 24)]),
 X.o 8 (.alloc [.int .u8 0, .nils, .int .u64 0, .int .i64 0, .int .i64 0, .int .i64 0, .bool false, .int .i64 0, .int .i64 0, .int .i64 0, .int .i64 0]),
 X.n (.storeN 11 (X.s 8) (X.s 25))]
def C.bx : LO := C.bx_b
def C.bx_w := pO C.bx.eq_1
def C.bl6 : ICode := .keep [5, 7, 18, 19, 20] (.seq (.region C.bx) C.bl8)
def C.bl6_w := pC C.bl6.eq_1
def C.j8_b : LO := [
 X.o 22 (.idxAddr 6 (X.s 18) (X.s 20)),
 X.o 23 (.loadN 6 (X.s 22)),
 X.o 7 (.alloc [.int .u8 0, .nils, .int .u64 0, .int .i64 0, .int .i64 0, .int .i64 0]),
 X.n (.storeN 6 (X.s 7) (X.s 23))]
def C.j8 : LO := C.j8_b
def C.j8_w := pO C.j8.eq_1
def C.bt9 : ICode := .seq (.region C.j8) C.bl6
def C.bt9_w := pC C.bt9.eq_1
def C.bvf : ICode := .keep [5, 18, 19, 20] (.seq (.block 1 C.bt9) C.bvl)
def C.bvf_w := pC C.bvf.eq_1
def C.bvg : ICode := .keep [5, 18, 19, 20, 21] (.seq (.cond (X.s 21) .skip (.exit 0)) C.bvf)
def C.bvg_w := pC C.bvg.eq_1
def C.j7_b : LO := [
 X.o 21 (.bin .lss (X.s 20) (X.s 19))]
def C.j7 : LO := C.j7_b
def C.j7_w := pO C.j7.eq_1
def C.ck3 : ICode := .keep [5, 18, 19, 20] (.seq (.region C.j7) C.bvg)
def C.ck3_w := pC C.ck3.eq_1
def C.bvb : ICode := .loop C.ck3
def C.bvb_w := pC C.bvb.eq_1
def C.bvh : ICode := .keep [5, 18, 19, 20] (.block 0 C.bvb)
def C.bvh_w := pC C.bvh.eq_1
def C.j6_b : LO := [
 X.o 16 (.loadN 4 (X.s 1)),
 X.o 17 (.call F.q38 [X.s 16]),
 X.o 18 (.field1 0 (X.s 17)),
 X.o 19 (.len (X.s 18)),
 X.o 20 (.move (X.i 0))]
def C.j6 : LO := C.j6_b
def C.j6_w := pO C.j6.eq_1
def C.bl7 : ICode := .keep [1, 5] (.seq (.seq (.region C.j6) C.bvh) C.bvd)
def C.bl7_w := pC C.bl7.eq_1
def C.j5_b : LO := [
 X.o 14 (.build [.nils] []),
 X.o 15 (.boxN (X.s 14)),
 X.m 5 15]
def C.j5 : LO := C.j5_b
def C.j5_w := pO C.j5.eq_1
def C.bvj : ICode := .keep [1] (.seq (.region C.j5) C.bl7)
def C.bvj_w := pC C.bvj.eq_1
def C.j4_b : LO := [
 X.m 13 4,
 X.o 2 (.move (.cst (.nilp))),
 X.m 3 13]
def C.j4 : LO := C.j4_b
def C.j4_w := pO C.j4.eq_1
def C.bvk : ICode := .seq (.region C.j4) .ret
def C.bvk_w := pC C.bvk.eq_1
def C.bvm : ICode := .keep [1, 4, 12] (.cond (X.s 12) C.bvk .skip)
def C.bvm_w := pC C.bvm.eq_1
def C.j3_b : LO := [
 X.m 11 4,
 X.o 12 (.bin .neq (X.s 11) (X.i 0))]
def C.j3 : LO := C.j3_b
def C.j3_w := pO C.j3.eq_1
def C.bvn : ICode := .keep [1, 4] (.seq (.region C.j3) C.bvm)
def C.bvn_w := pC C.bvn.eq_1
def C.jx_b : LO := [
 X.o 9 (.loadN 4 (X.s 1)),
 X.o 10 (.call F.q25 [X.s 9]),
 X.m 4 10]
def C.jx : LO := C.jx_b
def C.jx_w := pO C.jx.eq_1
def C.bvp : ICode := .keep [1] (.seq (.seq (.region C.jx) C.bvn) C.bvj)
def C.bvp_w := pC C.bvp.eq_1
def C.bc_b : LO := [
 X.o 1 (.boxN (X.s 0)),
 X.o 2 (.move (.cst (.nilp))),
 X.o 3 (.move (X.i 0))]
def C.bc : LO := C.bc_b
def C.bc_w := pO C.bc.eq_1
def C.q17 : IFunc := ⟨1, [.slot 2, .slot 3], .seq (.region C.bc) C.bvp⟩
def C.q17_W := aI (aI (aI (aI (aI @C.j2_w @C.bvd_w) (aI @C.j1_w @C.bvl_w)) (aI (aI @C.vs_w @C.vr_w) (aI @C.jq_w (aI @C.j0_w @C.bvr_w)))) (aI (aI (aI @C.jz_w @C.bvs_w) (aI @C.bvt_w (aI @C.jy_w @C.bvc_w))) (aI (aI @C.bvv_w @C.j9_w) (aI @C.bl8_w (aI @C.bx_w @C.bl6_w))))) (aI (aI (aI (aI @C.j8_w @C.bt9_w) (aI @C.bvf_w @C.bvg_w)) (aI (aI @C.j7_w @C.bvb_w) (aI @C.bvh_w (aI @C.j6_w @C.bl7_w)))) (aI (aI (aI @C.j5_w @C.bvj_w) (aI @C.j4_w (aI @C.bvk_w @C.bvm_w))) (aI (aI @C.j3_w @C.bvn_w) (aI @C.jx_w (aI @C.bvp_w @C.bc_w)))))
def C.q17_B := aI (aI (aI (aI @C.j2_b.eq_1 @C.j1_b.eq_1) (aI @C.vs_b.eq_1 @C.jq_b.eq_1)) (aI (aI @C.j0_b.eq_1 @C.jz_b.eq_1) (aI @C.jy_b.eq_1 @C.j9_b.eq_1))) (aI (aI (aI @C.bx_b.eq_1 @C.j8_b.eq_1) (aI @C.j7_b.eq_1 @C.j6_b.eq_1)) (aI (aI @C.j5_b.eq_1 @C.j4_b.eq_1) (aI @C.j3_b.eq_1 (aI @C.jx_b.eq_1 @C.bc_b.eq_1))))

def C.fg_b : LO := [
 X.m 34 5,
 X.m 2 34,
 X.o 3 (.move (X.i 0))]
def C.fg : LO := C.fg_b
def C.fg_w := pO C.fg.eq_1
def C.bmp : ICode := .keep [5] (.seq (.region C.fg) .ret)
def C.bmp_w := pC C.bmp.eq_1
def C.fp_b : LO := [
 X.o 33 (.bin .add (X.s 18) (X.i 1)),
 X.m 18 33]
def C.fp : LO := C.fp_b
def C.fp_w := pO C.fp.eq_1
def C.bmy : ICode := .keep [5, 16, 17, 18] (.region C.fp)
def C.bmy_w := pC C.bmy.eq_1
def C.ph_b : LO := [
 X.m 22 5,
 X.m 23 5,
 X.o 24 (.nilchk (X.s 23)),
 X.o 25 (.fldAddr 0 (X.s 24)),
 X.o 26 (.load1 (X.s 25)),
 X.o 27 (.loadN 3 (X.s 7)),
 X.o 28 (.build [.int .i64 0, .int .i64 0, .bool false, .int .u8 0, .int .i64 0, .bool false, .bool false] [(0, 3, X.s 27), (3, 1, .cst (.int .u8 48))]),
 X.o 29 (.buildSlice 7 1 [.int .i64 0, .int .i64 0, .bool false, .int .u8 0, .int .i64 0, .bool false, .bool false] [(0, 7, X.s 28)]),
 X.o 30 (.append 7 48 (X.s 26) (X.s 29)),
 X.o 31 (.nilchk (X.s 22)),
 X.o 32 (.fldAddr 0 (X.s 31)),
 X.n (.store1 (X.s 32) (X.s 30))]
def C.ph : LO := C.ph_b
def C.ph_w := pO C.ph.eq_1
def C.b0y : ICode := .keep [5, 7, 16, 17, 18] (.region C.ph)
def C.b0y_w := pC C.b0y.eq_1
def C.fn_b : LO := [
 X.o 20 (.idxAddr 3 (X.s 16) (X.s 18)),
 X.o 21 (.loadN 3 (X.s 20)),
 X.o 7 (.alloc [.int .i64 0, .int .i64 0, .bool false]),
 X.n (.storeN 3 (X.s 7) (X.s 21))]
def C.fn : LO := C.fn_b
def C.fn_w := pO C.fn.eq_1
def C.bmm : ICode := .seq (.region C.fn) C.b0y
def C.bmm_w := pC C.bmm.eq_1
def C.bmq : ICode := .keep [5, 16, 17, 18] (.seq (.block 1 C.bmm) C.bmy)
def C.bmq_w := pC C.bmq.eq_1
def C.bmz : ICode := .keep [5, 16, 17, 18, 19] (.seq (.cond (X.s 19) .skip (.exit 0)) C.bmq)
def C.bmz_w := pC C.bmz.eq_1
def C.fm_b : LO := [
 X.o 19 (.bin .lss (X.s 18) (X.s 17))]
def C.fm : LO := C.fm_b
def C.fm_w := pO C.fm.eq_1
def C.ckl : ICode := .keep [5, 16, 17, 18] (.seq (.region C.fm) C.bmz)
def C.ckl_w := pC C.ckl.eq_1
def C.bmn : ICode := .loop C.ckl
def C.bmn_w := pC C.bmn.eq_1
def C.bm0 : ICode := .keep [5, 16, 17, 18] (.block 0 C.bmn)
def C.bm0_w := pC C.bm0.eq_1
def C.fl_b : LO := [
 X.o 15 (.fldAddr 1 (X.s 1)),
 X.o 16 (.load1 (X.s 15)),
 X.o 17 (.len (X.s 16)),
 X.o 18 (.move (X.i 0))]
def C.fl : LO := C.fl_b
def C.fl_w := pO C.fl.eq_1
def C.bmr : ICode := .keep [1, 5] (.seq (.seq (.region C.fl) C.bm0) C.bmp)
def C.bmr_w := pC C.bmr.eq_1
def C.fk_b : LO := [
 X.o 13 (.build [.nils] []),
 X.o 14 (.boxN (X.s 13)),
 X.m 5 14]
def C.fk : LO := C.fk_b
def C.fk_w := pO C.fk.eq_1
def C.bms : ICode := .keep [1] (.seq (.region C.fk) C.bmr)
def C.bms_w := pC C.bms.eq_1
def C.fj_b : LO := [
 X.m 12 4,
 X.o 2 (.move (.cst (.nilp))),
 X.m 3 12]
def C.fj : LO := C.fj_b
def C.fj_w := pO C.fj.eq_1
def C.bmt : ICode := .seq (.region C.fj) .ret
def C.bmt_w := pC C.bmt.eq_1
def C.bmv : ICode := .keep [1, 4, 11] (.cond (X.s 11) C.bmt .skip)
def C.bmv_w := pC C.bmv.eq_1
def C.fh_b : LO := [
 X.m 10 4,
 X.o 11 (.bin .neq (X.s 10) (X.i 0))]
def C.fh : LO := C.fh_b
def C.fh_w := pO C.fh.eq_1
def C.bmw : ICode := .keep [1, 4] (.seq (.region C.fh) C.bmv)
def C.bmw_w := pC C.bmw.eq_1
def C.ff_b : LO := [
 X.o 8 (.loadN 4 (X.s 1)),
 X.o 9 (.call F.q25 [X.s 8]),
 X.m 4 9]
def C.ff : LO := C.ff_b
def C.ff_w := pO C.ff.eq_1
def C.bmx : ICode := .keep [1] (.seq (.seq (.region C.ff) C.bmw) C.bms)
def C.bmx_w := pC C.bmx.eq_1
def C.bl_b : LO := [
 X.o 1 (.boxN (X.s 0)),
 X.o 2 (.move (.cst (.nilp))),
 X.o 3 (.move (X.i 0))]
def C.bl : LO := C.bl_b
def C.bl_w := pO C.bl.eq_1
def C.q101 : IFunc := ⟨1, [.slot 2, .slot 3], .seq (.region C.bl) C.bmx⟩
def C.q101_W := aI (aI (aI (aI @C.fg_w (aI @C.bmp_w @C.fp_w)) (aI @C.bmy_w (aI @C.ph_w @C.b0y_w))) (aI (aI @C.fn_w (aI @C.bmm_w @C.bmq_w)) (aI @C.bmz_w (aI @C.fm_w @C.bmn_w)))) (aI (aI (aI @C.bm0_w (aI @C.fl_w @C.bmr_w)) (aI @C.fk_w (aI @C.bms_w @C.fj_w))) (aI (aI @C.bmt_w (aI @C.bmv_w @C.fh_w)) (aI (aI @C.bmw_w @C.ff_w) (aI @C.bmx_w @C.bl_w))))
def C.q101_B := aI (aI (aI @C.fg_b.eq_1 @C.fp_b.eq_1) (aI @C.ph_b.eq_1 (aI @C.fn_b.eq_1 @C.fm_b.eq_1))) (aI (aI @C.fl_b.eq_1 (aI @C.fk_b.eq_1 @C.fj_b.eq_1)) (aI @C.fh_b.eq_1 (aI @C.ff_b.eq_1 @C.bl_b.eq_1)))

def C.f9_b : LO := [
 X.m 36 5,
 X.m 2 36,
 X.o 3 (.move (X.i 0))]
def C.f9 : LO := C.f9_b
def C.f9_w := pO C.f9.eq_1
def C.bnw : ICode := .keep [5] (.seq (.region C.f9) .ret)
def C.bnw_w := pC C.bnw.eq_1
def C.gf_b : LO := [
 X.o 35 (.bin .add (X.s 22) (X.i 1)),
 X.m 22 35]
def C.gf : LO := C.gf_b
def C.gf_w := pO C.gf.eq_1
def C.bn2 : ICode := .keep [5, 20, 21, 22] (.region C.gf)
def C.bn2_w := pC C.bn2.eq_1
def C.tw_b : LO := [
 X.m 27 5,
 X.o 28 (.nilchk (X.s 27)),
 X.o 29 (.fldAddr 0 (X.s 28)),
 X.o 30 (.load1 (X.s 29)),
 X.m 31 6,
 X.o 32 (.fldAddr 0 (X.s 7)),
 X.o 33 (.load1 (X.s 32)),
 X.o 34 (.build [.int .i64 0, .int .i64 0, .bool false, .bool false] [(0, 1, X.s 33), (2, 1, .cst (.bool true))]),
 X.n (.mapSet (X.s 30) (X.s 31) (X.s 34))]
def C.tw : LO := C.tw_b
def C.tw_w := pO C.tw.eq_1
def C.b4f : ICode := .keep [5, 6, 7, 20, 21, 22] (.region C.tw)
def C.b4f_w := pC C.b4f.eq_1
def C.gd_b : LO := [
 X.m 24 22,
 X.o 25 (.idxAddr 1 (X.s 20) (X.s 22)),
 X.o 26 (.loadN 1 (X.s 25)),
 X.o 7 (.alloc [.int .i64 0]),
 X.m 6 24,
 X.n (.storeN 1 (X.s 7) (X.s 26))]
def C.gd : LO := C.gd_b
def C.gd_w := pO C.gd.eq_1
def C.bnt : ICode := .seq (.region C.gd) C.b4f
def C.bnt_w := pC C.bnt.eq_1
def C.bn3 : ICode := .keep [5, 20, 21, 22] (.seq (.block 1 C.bnt) C.bn2)
def C.bn3_w := pC C.bn3.eq_1
def C.bn4 : ICode := .keep [5, 20, 21, 22, 23] (.seq (.cond (X.s 23) .skip (.exit 0)) C.bn3)
def C.bn4_w := pC C.bn4.eq_1
def C.gc_b : LO := [
 X.o 23 (.bin .lss (X.s 22) (X.s 21))]
def C.gc : LO := C.gc_b
def C.gc_w := pO C.gc.eq_1
def C.ckn : ICode := .keep [5, 20, 21, 22] (.seq (.region C.gc) C.bn4)
def C.ckn_w := pC C.ckn.eq_1
def C.bnv : ICode := .loop C.ckn
def C.bnv_w := pC C.bnv.eq_1
def C.bn5 : ICode := .keep [5, 20, 21, 22] (.block 0 C.bnv)
def C.bn5_w := pC C.bn5.eq_1
def C.gb_b : LO := [
 X.o 19 (.fldAddr 2 (X.s 1)),
 X.o 20 (.load1 (X.s 19)),
 X.o 21 (.len (X.s 20)),
 X.o 22 (.move (X.i 0))]
def C.gb : LO := C.gb_b
def C.gb_w := pO C.gb.eq_1
def C.bnx : ICode := .keep [1, 5] (.seq (.seq (.region C.gb) C.bn5) C.bnw)
def C.bnx_w := pC C.bnx.eq_1
def C.dr_b : LO := [
 X.o 13 (.fldAddr 2 (X.s 1)),
 X.o 14 (.load1 (X.s 13)),
 X.o 15 (.len (X.s 14)),
 X.o 16 (.makeMap (some (X.s 15))),
 X.o 17 (.build [.nilm] [(0, 1, X.s 16)]),
 X.o 18 (.boxN (X.s 17)),
 X.m 5 18]
def C.dr : LO := C.dr_b
def C.dr_w := pO C.dr.eq_1
def C.bny : ICode := .keep [1] (.seq (.region C.dr) C.bnx)
def C.bny_w := pC C.bny.eq_1
def C.dp_b : LO := [
 X.m 12 4,
 X.o 2 (.move (.cst (.nilp))),
 X.m 3 12]
def C.dp : LO := C.dp_b
def C.dp_w := pO C.dp.eq_1
def C.bnq : ICode := .seq (.region C.dp) .ret
def C.bnq_w := pC C.bnq.eq_1
def C.bnz : ICode := .keep [1, 4, 11] (.cond (X.s 11) C.bnq .skip)
def C.bnz_w := pC C.bnz.eq_1
def C.dn_b : LO := [
 X.m 10 4,
 X.o 11 (.bin .neq (X.s 10) (X.i 0))]
def C.dn : LO := C.dn_b
def C.dn_w := pO C.dn.eq_1
def C.bn0 : ICode := .keep [1, 4] (.seq (.region C.dn) C.bnz)
def C.bn0_w := pC C.bn0.eq_1
def C.dm_b : LO := [
 X.o 8 (.loadN 4 (X.s 1)),
 X.o 9 (.call F.q25 [X.s 8]),
 X.m 4 9]
def C.dm : LO := C.dm_b
def C.dm_w := pO C.dm.eq_1
def C.bn1 : ICode := .keep [1] (.seq (.seq (.region C.dm) C.bn0) C.bny)
def C.bn1_w := pC C.bn1.eq_1
def C.bt_b : LO := [
 X.o 1 (.boxN (X.s 0)),
 X.o 2 (.move (.cst (.nilp))),
 X.o 3 (.move (X.i 0))]
def C.bt : LO := C.bt_b
def C.bt_w := pO C.bt.eq_1
def C.q124 : IFunc := ⟨1, [.slot 2, .slot 3], .seq (.region C.bt) C.bn1⟩
def C.q124_W := aI (aI (aI (aI @C.f9_w (aI @C.bnw_w @C.gf_w)) (aI @C.bn2_w (aI @C.tw_w @C.b4f_w))) (aI (aI @C.gd_w (aI @C.bnt_w @C.bn3_w)) (aI @C.bn4_w (aI @C.gc_w @C.bnv_w)))) (aI (aI (aI @C.bn5_w (aI @C.gb_w @C.bnx_w)) (aI @C.dr_w (aI @C.bny_w @C.dp_w))) (aI (aI @C.bnq_w (aI @C.bnz_w @C.dn_w)) (aI (aI @C.bn0_w @C.dm_w) (aI @C.bn1_w @C.bt_w))))
def C.q124_B := aI (aI (aI @C.f9_b.eq_1 @C.gf_b.eq_1) (aI @C.tw_b.eq_1 (aI @C.gd_b.eq_1 @C.gc_b.eq_1))) (aI (aI @C.gb_b.eq_1 (aI @C.dr_b.eq_1 @C.dp_b.eq_1)) (aI @C.dn_b.eq_1 (aI @C.dm_b.eq_1 @C.bt_b.eq_1)))

def C.s5_b : LO := [
 X.m 20 4,
 X.m 2 20,
 X.o 3 (.move (X.i 0))]
def C.s5 : LO := C.s5_b
def C.s5_w := pO C.s5.eq_1
def C.b3k : ICode := .keep [4] (.seq (.region C.s5) .ret)
def C.b3k_w := pC C.b3k.eq_1
def C.s4_b : LO := [
 X.m 18 4,
 X.o 19 (.call F.q107 [X.s 18])]
def C.s4 : LO := C.s4_b
def C.s4_w := pO C.s4.eq_1
def C.b3l : ICode := .keep [4] (.seq (.region C.s4) C.b3k)
def C.b3l_w := pC C.b3l.eq_1
def C.s3_b : LO := [
 X.m 8 0,
 X.m 10 0,
 X.o 11 (.len (X.s 10)),
 X.m 13 0,
 X.o 14 (.len (X.s 13)),
 ⟨some 9, .call F.q125 [X.s 8], none, [], [(X.s 11, X.s 11), (X.s 14, X.s 14)]⟩,
 ⟨some 12, .makeSlice 1 4 [.int .u32 0] (X.s 11) (X.s 11), none, [], [(X.s 14, X.s 14)]⟩,
 X.o 15 (.makeSlice 1 4 [.int .u32 0] (X.s 14) (X.s 14)),
 X.o 16 (.build [.nils, .nils, .nils, .bool false] [(0, 1, X.s 9), (1, 1, X.s 12), (2, 1, X.s 15)]),
 X.o 17 (.boxN (X.s 16)),
 X.m 4 17]
def C.s3 : LO := C.s3_b
def C.s3_w := pO C.s3.eq_1
def C.b3m : ICode := .keep [0] (.seq (.region C.s3) C.b3l)
def C.b3m_w := pC C.b3m.eq_1
def C.s2_b : LO := [
 X.o 2 (.move (.cst (.nilp))),
 X.o 3 (.move (X.i 8))]
def C.s2 : LO := C.s2_b
def C.s2_w := pO C.s2.eq_1
def C.b3n : ICode := .seq (.region C.s2) .ret
def C.b3n_w := pC C.b3n.eq_1
def C.b3p : ICode := .keep [0, 7] (.cond (X.s 7) C.b3n .skip)
def C.b3p_w := pC C.b3p.eq_1
def C.s1_b : LO := [
 X.m 5 0,
 X.o 6 (.len (X.s 5)),
 X.o 7 (.bin .gtr (X.s 6) (X.i 8))]
def C.s1 : LO := C.s1_b
def C.s1_w := pO C.s1.eq_1
def C.b3r : ICode := .keep [0] (.seq (.seq (.region C.s1) C.b3p) C.b3m)
def C.b3r_w := pC C.b3r.eq_1
def C.s0_b : LO := [
 X.o 2 (.move (.cst (.nilp))),
 X.o 3 (.move (X.i 0))]
def C.s0 : LO := C.s0_b
def C.s0_w := pO C.s0.eq_1
def C.q119 : IFunc := ⟨1, [.slot 2, .slot 3], .seq (.region C.s0) C.b3r⟩
def C.q119_W := aI (aI (aI @C.s5_w (aI @C.b3k_w @C.s4_w)) (aI @C.b3l_w (aI @C.s3_w @C.b3m_w))) (aI (aI @C.s2_w (aI @C.b3n_w @C.b3p_w)) (aI @C.s1_w (aI @C.b3r_w @C.s0_w)))
def C.q119_B := aI (aI @C.s5_b.eq_1 (aI @C.s4_b.eq_1 @C.s3_b.eq_1)) (aI @C.s2_b.eq_1 (aI @C.s1_b.eq_1 @C.s0_b.eq_1))

def C.ry_b : LO := [
 X.m 5 0,
 X.o 6 (.nilchk (X.s 5)),
 X.o 7 (.fldAddr 0 (X.s 6)),
 X.o 8 (.load1 (X.s 7)),
 X.o 9 (.len (X.s 8)),
 X.m 2 9]
def C.ry : LO := C.ry_b
def C.ry_w := pO C.ry.eq_1
def C.b2f : ICode := .keep [0] (.seq (.region C.ry) .ret)
def C.b2f_w := pC C.b2f.eq_1
def C.rx_b : LO := [
 X.o 2 (.move (X.i 0))]
def C.rx : LO := C.rx_b
def C.rx_w := pO C.rx.eq_1
def C.b2g : ICode := .seq (.region C.rx) .ret
def C.b2g_w := pC C.b2g.eq_1
def C.b2h : ICode := .keep [0, 4] (.cond (X.s 4) C.b2g .skip)
def C.b2h_w := pC C.b2h.eq_1
def C.rw_b : LO := [
 X.m 3 0,
 X.o 4 (.eqP 0 false (X.s 3) (.cst (.nilp)))]
def C.rw : LO := C.rw_b
def C.rw_w := pO C.rw.eq_1
def C.b2j : ICode := .keep [0] (.seq (.seq (.region C.rw) C.b2h) C.b2f)
def C.b2j_w := pC C.b2j.eq_1
def C.rv_b : LO := [
 X.o 2 (.move (X.i 0))]
def C.rv : LO := C.rv_b
def C.rv_w := pO C.rv.eq_1
def C.q109 : IFunc := ⟨1, [.slot 2], .seq (.region C.rv) C.b2j⟩
def C.q109_W := aI (aI (aI @C.ry_w @C.b2f_w) (aI @C.rx_w @C.b2g_w)) (aI (aI @C.b2h_w @C.rw_w) (aI @C.b2j_w @C.rv_w))
def C.q109_B := aI (aI @C.ry_b.eq_1 @C.rx_b.eq_1) (aI @C.rw_b.eq_1 @C.rv_b.eq_1)

def C.rm_b : LO := [
 X.o 1 (.build [.int .i64 0, .int .i64 0] []),
 X.o 2 (.boxN (X.s 1)),
 X.m 0 2]
def C.rm : LO := C.rm_b
def C.rm_w := pO C.rm.eq_1
def C.b18 : ICode := .keep [] (.seq (.region C.rm) .ret)
def C.b18_w := pC C.b18.eq_1
def C.rl_b : LO := [
 X.o 0 (.move (.cst (.nilp)))]
def C.rl : LO := C.rl_b
def C.rl_w := pO C.rl.eq_1
def C.q106 : IFunc := ⟨0, [.slot 0], .seq (.region C.rl) C.b18⟩
def C.q106_W := aI @C.rm_w (aI @C.b18_w @C.rl_w)
def C.q106_B := aI @C.rm_b.eq_1 @C.rl_b.eq_1

def C.bln_b : LO := [
 X.m 39 4,
 X.m 2 39,
 X.o 3 (.move (X.i 0))]
def C.bln : LO := C.bln_b
def C.bln_w := pO C.bln.eq_1
def C.ckk : ICode := .keep [4] (.seq (.region C.bln) .ret)
def C.ckk_w := pC C.ckk.eq_1
def C.nw_b : LO := [
 X.o 38 (.bin .add (X.s 20) (X.i 1)),
 X.m 20 38]
def C.nw : LO := C.nw_b
def C.nw_w := pO C.nw.eq_1
def C.b0d : ICode := .keep [4, 18, 19, 20] (.region C.nw)
def C.b0d_w := pC C.b0d.eq_1
def C.n1_b : LO := [
 X.m 31 4,
 X.o 32 (.nilchk (X.s 31)),
 X.o 33 (.fldAddr 0 (X.s 32)),
 X.o 34 (.load1 (X.s 33)),
 X.m 35 5,
 X.m 36 6,
 X.o 37 (.idxAddr 1 (X.s 34) (X.s 35)),
 X.n (.store1 (X.s 37) (X.s 36))]
def C.n1 : LO := C.n1_b
def C.n1_w := pO C.n1.eq_1
def C.b0f : ICode := .keep [4, 5, 6, 18, 19, 20] (.region C.n1)
def C.b0f_w := pC C.b0f.eq_1
def C.n0_b : LO := [
 X.o 2 (.move (.cst (.nilp))),
 X.o 3 (.move (X.i 1))]
def C.n0 : LO := C.n0_b
def C.n0_w := pO C.n0.eq_1
def C.b0g : ICode := .seq (.region C.n0) .ret
def C.b0g_w := pC C.b0g.eq_1
def C.b0h : ICode := .keep [4, 5, 6, 18, 19, 20, 30] (.cond (X.s 30) C.b0g .skip)
def C.b0h_w := pC C.b0h.eq_1
def C.nz_b : LO := [
 X.m 25 6,
 X.o 26 (.bin .lss (X.s 25) (X.i 0)),
 X.m 27 26,
 X.f 27 28 (.move (X.s 6)),
 X.f 27 29 (.bin .gtr (X.s 28) (X.i 8)),
 X.o 30 (.pick (X.s 27) (.cst (.bool true)) (X.s 29))]
def C.nz : LO := C.nz_b
def C.nz_w := pO C.nz.eq_1
def C.b0j : ICode := .keep [4, 5, 6, 18, 19, 20] (.seq (.seq (.region C.nz) C.b0h) C.b0f)
def C.b0j_w := pC C.b0j.eq_1
def C.nq_b : LO := [
 X.m 22 20,
 X.o 23 (.idxAddr 1 (X.s 18) (X.s 20)),
 X.o 24 (.load1 (X.s 23)),
 X.m 5 22,
 X.m 6 24]
def C.nq : LO := C.nq_b
def C.nq_w := pO C.nq.eq_1
def C.bz5 : ICode := .seq (.region C.nq) C.b0j
def C.bz5_w := pC C.bz5.eq_1
def C.b0k : ICode := .keep [4, 18, 19, 20] (.seq (.block 1 C.bz5) C.b0d)
def C.b0k_w := pC C.b0k.eq_1
def C.b0l : ICode := .keep [4, 18, 19, 20, 21] (.seq (.cond (X.s 21) .skip (.exit 0)) C.b0k)
def C.b0l_w := pC C.b0l.eq_1
def C.ny_b : LO := [
 X.o 21 (.bin .lss (X.s 20) (X.s 19))]
def C.ny : LO := C.ny_b
def C.ny_w := pO C.ny.eq_1
def C.cl0 : ICode := .keep [4, 18, 19, 20] (.seq (.region C.ny) C.b0l)
def C.cl0_w := pC C.cl0.eq_1
def C.bz4 : ICode := .loop C.cl0
def C.bz4_w := pC C.bz4.eq_1
def C.bz6 : ICode := .keep [4, 18, 19, 20] (.block 0 C.bz4)
def C.bz6_w := pC C.bz6.eq_1
def C.nx_b : LO := [
 X.m 18 0,
 X.o 19 (.len (X.s 18)),
 X.o 20 (.move (X.i 0))]
def C.nx : LO := C.nx_b
def C.nx_w := pO C.nx.eq_1
def C.bz7 : ICode := .keep [0, 4] (.seq (.seq (.region C.nx) C.bz6) C.ckk)
def C.bz7_w := pC C.bz7.eq_1
def C.fd_b : LO := [
 X.m 10 0,
 X.o 11 (.len (X.s 10)),
 X.m 13 0,
 X.o 14 (.len (X.s 13)),
 ⟨some 12, .makeSlice 1 8 [.int .i64 0] (X.s 11) (X.s 11), none, [], [(X.s 14, X.s 14)]⟩,
 X.o 15 (.makeSlice 1 24 [.nils] (X.s 14) (X.s 14)),
 X.o 16 (.build [.nils, .nils, .int .i64 0] [(0, 1, X.s 12), (1, 1, X.s 15)]),
 X.o 17 (.boxN (X.s 16)),
 X.m 4 17]
def C.fd : LO := C.fd_b
def C.fd_w := pO C.fd.eq_1
def C.bz8 : ICode := .keep [0] (.seq (.region C.fd) C.bz7)
def C.bz8_w := pC C.bz8.eq_1
def C.fc_b : LO := [
 X.o 2 (.move (.cst (.nilp))),
 X.o 3 (.move (X.i 1))]
def C.fc : LO := C.fc_b
def C.fc_w := pO C.fc.eq_1
def C.bz9 : ICode := .seq (.region C.fc) .ret
def C.bz9_w := pC C.bz9.eq_1
def C.b0b : ICode := .keep [0, 9] (.cond (X.s 9) C.bz9 .skip)
def C.b0b_w := pC C.b0b.eq_1
def C.fb_b : LO := [
 X.m 7 0,
 X.o 8 (.len (X.s 7)),
 X.o 9 (.bin .gtr (X.s 8) (X.i 6))]
def C.fb : LO := C.fb_b
def C.fb_w := pO C.fb.eq_1
def C.b0c : ICode := .keep [0] (.seq (.seq (.region C.fb) C.b0b) C.bz8)
def C.b0c_w := pC C.b0c.eq_1
def C.d9_b : LO := [
 X.o 2 (.move (.cst (.nilp))),
 X.o 3 (.move (X.i 0))]
def C.d9 : LO := C.d9_b
def C.d9_w := pO C.d9.eq_1
def C.q9 : IFunc := ⟨1, [.slot 2, .slot 3], .seq (.region C.d9) C.b0c⟩
def C.q9_W := aI (aI (aI (aI @C.bln_w (aI @C.ckk_w @C.nw_w)) (aI (aI @C.b0d_w @C.n1_w) (aI @C.b0f_w @C.n0_w))) (aI (aI @C.b0g_w (aI @C.b0h_w @C.nz_w)) (aI (aI @C.b0j_w @C.nq_w) (aI @C.bz5_w @C.b0k_w)))) (aI (aI (aI @C.b0l_w (aI @C.ny_w @C.bz4_w)) (aI (aI @C.bz6_w @C.nx_w) (aI @C.bz7_w @C.fd_w))) (aI (aI @C.bz8_w (aI @C.fc_w @C.bz9_w)) (aI (aI @C.b0b_w @C.fb_w) (aI @C.b0c_w @C.d9_w))))
def C.q9_B := aI (aI (aI @C.bln_b.eq_1 (aI @C.nw_b.eq_1 @C.n1_b.eq_1)) (aI @C.n0_b.eq_1 (aI @C.nz_b.eq_1 @C.nq_b.eq_1))) (aI (aI @C.ny_b.eq_1 (aI @C.nx_b.eq_1 @C.fd_b.eq_1)) (aI @C.fc_b.eq_1 (aI @C.fb_b.eq_1 @C.d9_b.eq_1)))

def C.wl_b : LO := [
 X.m 25 0,
 X.m 26 10,
 X.m 27 1,
 X.m 30 3,
 X.m 31 1,
 X.o 32 (.bin .shl (X.s 30) (X.s 31)),
 X.o 28 (.callv (X.s 26) [X.s 27]),
 X.o 29 (.bin .andNot (X.s 25) (X.s 28)),
 X.o 33 (.bin .or (X.s 29) (X.s 32)),
 X.m 8 33,
 X.o 9 (.move (X.i 0))]
def C.wl : LO := C.wl_b
def C.wl_w := pO C.wl.eq_1
def C.b5v : ICode := .keep [0, 1, 3, 10] (.seq (.region C.wl) .ret)
def C.b5v_w := pC C.b5v.eq_1
def C.wk_b : LO := [
 X.o 8 (.move (.cst (.int .u32 0))),
 X.o 9 (.move (X.i 1))]
def C.wk : LO := C.wk_b
def C.wk_w := pO C.wk.eq_1
def C.b5w : ICode := .seq (.region C.wk) .ret
def C.b5w_w := pC C.b5w.eq_1
def C.b5x : ICode := .keep [0, 1, 3, 10, 24] (.cond (X.s 24) C.b5w .skip)
def C.b5x_w := pC C.b5x.eq_1
def C.wj_b : LO := [
 X.m 20 3,
 X.m 21 10,
 X.o 22 (.callv (X.s 21) [X.i 0]),
 X.o 23 (.bin .andNot (X.s 20) (X.s 22)),
 X.o 24 (.bin .neq (X.s 23) (.cst (.int .u32 0)))]
def C.wj : LO := C.wj_b
def C.wj_w := pO C.wj.eq_1
def C.b5y : ICode := .keep [0, 1, 3, 10] (.seq (.seq (.region C.wj) C.b5x) C.b5v)
def C.b5y_w := pC C.b5y.eq_1
def C.wh_b : LO := [
 X.o 8 (.move (.cst (.int .u32 0))),
 X.o 9 (.move (X.i 3))]
def C.wh : LO := C.wh_b
def C.wh_w := pO C.wh.eq_1
def C.b5q : ICode := .seq (.region C.wh) .ret
def C.b5q_w := pC C.b5q.eq_1
def C.b5z : ICode := .keep [0, 1, 3, 10, 19] (.cond (X.s 19) C.b5q .skip)
def C.b5z_w := pC C.b5z.eq_1
def C.wg_b : LO := [
 X.m 18 11,
 X.o 19 (.un .not (X.s 18))]
def C.wg : LO := C.wg_b
def C.wg_w := pO C.wg.eq_1
def C.b50 : ICode := .keep [0, 1, 3, 10, 11] (.seq (.seq (.region C.wg) C.b5z) C.b5y)
def C.b50_w := pC C.b50.eq_1
def C.wf_b : LO := [
 X.m 13 1,
 X.m 14 2,
 X.o 15 (.call F.q2 [X.s 13, X.s 14]),
 X.m 12 15,
 X.o 16 (.extract (X.s 12) 0),
 X.o 17 (.extract (X.s 12) 1),
 X.m 10 16,
 X.m 11 17]
def C.wf : LO := C.wf_b
def C.wf_w := pO C.wf.eq_1
def C.b51 : ICode := .keep [0, 1, 2, 3] (.seq (.region C.wf) C.b50)
def C.b51_w := pC C.b51.eq_1
def C.wd_b : LO := [
 X.o 8 (.move (.cst (.int .u32 0))),
 X.o 9 (.move (X.i 0))]
def C.wd : LO := C.wd_b
def C.wd_w := pO C.wd.eq_1
def C.q1 : IFunc := ⟨4, [.slot 8, .slot 9], .seq (.region C.wd) C.b51⟩
def C.q1_W := aI (aI (aI @C.wl_w (aI @C.b5v_w @C.wk_w)) (aI (aI @C.b5w_w @C.b5x_w) (aI @C.wj_w @C.b5y_w))) (aI (aI (aI @C.wh_w @C.b5q_w) (aI @C.b5z_w @C.wg_w)) (aI (aI @C.b50_w @C.wf_w) (aI @C.b51_w @C.wd_w)))
def C.q1_B := aI (aI @C.wl_b.eq_1 (aI @C.wk_b.eq_1 @C.wj_b.eq_1)) (aI (aI @C.wh_b.eq_1 @C.wg_b.eq_1) (aI @C.wf_b.eq_1 @C.wd_b.eq_1))

def C.r1_b : LO := [
 X.m 12 0,
 X.o 13 (.call F.q11 [X.s 12, X.i 16, X.i 8]),
 X.m 14 0,
 X.o 15 (.call F.q11 [X.s 14, X.i 2, X.i 14]),
 X.m 2 13,
 X.m 3 15]
def C.r1 : LO := C.r1_b
def C.r1_w := pO C.r1.eq_1
def C.b2k : ICode := .keep [0] (.seq (.region C.r1) .ret)
def C.b2k_w := pC C.b2k.eq_1
def C.r0_b : LO := [
 X.o 2 (.move (X.i (-1))),
 X.o 3 (.move (X.i (-1)))]
def C.r0 : LO := C.r0_b
def C.r0_w := pO C.r0.eq_1
def C.b2l : ICode := .seq (.region C.r0) .ret
def C.b2l_w := pC C.b2l.eq_1
def C.b2m : ICode := .keep [0, 11] (.cond (X.s 11) C.b2l .skip)
def C.b2m_w := pC C.b2m.eq_1
def C.rz_b : LO := [
 X.m 4 0,
 X.o 5 (.call F.q11 [X.s 4, X.i 0, X.i 2]),
 X.o 6 (.bin .neq (X.s 5) (X.i 0)),
 X.m 7 6,
 X.f 7 8 (.move (X.s 0)),
 X.f 7 9 (.call F.q11 [X.s 8, X.i 24, X.i 8]),
 X.f 7 10 (.bin .neq (X.s 9) (X.i 0)),
 X.o 11 (.pick (X.s 7) (.cst (.bool true)) (X.s 10))]
def C.rz : LO := C.rz_b
def C.rz_w := pO C.rz.eq_1
def C.b2n : ICode := .keep [0] (.seq (.seq (.region C.rz) C.b2m) C.b2k)
def C.b2n_w := pC C.b2n.eq_1
def C.rq_b : LO := [
 X.o 2 (.move (X.i 0)),
 X.o 3 (.move (X.i 0))]
def C.rq : LO := C.rq_b
def C.rq_w := pO C.rq.eq_1
def C.q10 : IFunc := ⟨1, [.slot 2, .slot 3], .seq (.region C.rq) C.b2n⟩
def C.q10_W := aI (aI (aI @C.r1_w @C.b2k_w) (aI @C.r0_w @C.b2l_w)) (aI (aI @C.b2m_w @C.rz_w) (aI @C.b2n_w @C.rq_w))
def C.q10_B := aI (aI @C.r1_b.eq_1 @C.r0_b.eq_1) (aI @C.rz_b.eq_1 @C.rq_b.eq_1)

def C.bkh_b : LO := [
 X.m 5 0,
 X.o 6 (.call F.q94 [X.s 5]),
 X.m 7 6,
 X.t 7 8 (.move (X.s 1)),
 X.t 7 9 (.bin .geq (X.s 8) (X.i 0)),
 X.o 10 (.pick (X.s 7) (X.s 9) (.cst (.bool false))),
 X.m 11 10,
 X.t 11 12 (.move (X.s 1)),
 X.t 11 13 (.move (X.s 0)),
 X.t 11 14 (.nilchk (X.s 13)),
 X.t 11 15 (.fldAddr 4 (X.s 14)),
 X.t 11 16 (.load1 (X.s 15)),
 X.t 11 17 (.len (X.s 16)),
 X.t 11 18 (.bin .lss (X.s 12) (X.s 17)),
 X.o 19 (.pick (X.s 11) (X.s 18) (.cst (.bool false))),
 X.m 4 19]
def C.bkh : LO := C.bkh_b
def C.bkh_w := pO C.bkh.eq_1
def C.ch6 : ICode := .keep [0, 1] (.seq (.region C.bkh) .ret)
def C.ch6_w := pC C.ch6.eq_1
def C.bkg_b : LO := [
 X.o 4 (.move (.cst (.bool false)))]
def C.bkg : LO := C.bkg_b
def C.bkg_w := pO C.bkg.eq_1
def C.q93 : IFunc := ⟨2, [.slot 4], .seq (.region C.bkg) C.ch6⟩
def C.q93_W := aI @C.bkh_w (aI @C.ch6_w @C.bkg_w)
def C.q93_B := aI @C.bkh_b.eq_1 @C.bkg_b.eq_1

def C.rb_b : LO := [
 X.m 5 0,
 X.o 6 (.nilchk (X.s 5)),
 X.o 7 (.fldAddr 0 (X.s 6)),
 X.o 8 (.load1 (X.s 7)),
 X.o 9 (.arrAddr 1 4 (.cst (.iptr [.int .u8 114, .int .u8 97, .int .u8 115, .int .u8 100] 0)) (X.s 8)),
 X.o 10 (.load1 (X.s 9)),
 X.m 2 10]
def C.rb : LO := C.rb_b
def C.rb_w := pO C.rb.eq_1
def C.b1v : ICode := .keep [0] (.seq (.region C.rb) .ret)
def C.b1v_w := pC C.b1v.eq_1
def C.p9_b : LO := [
 X.o 2 (.move (.cst (.int .u8 0)))]
def C.p9 : LO := C.p9_b
def C.p9_w := pO C.p9.eq_1
def C.b1w : ICode := .seq (.region C.p9) .ret
def C.b1w_w := pC C.b1w.eq_1
def C.b1x : ICode := .keep [0, 4] (.cond (X.s 4) C.b1w .skip)
def C.b1x_w := pC C.b1x.eq_1
def C.p8_b : LO := [
 X.m 3 0,
 X.o 4 (.eqP 0 false (X.s 3) (.cst (.nilp)))]
def C.p8 : LO := C.p8_b
def C.p8_w := pO C.p8.eq_1
def C.b1y : ICode := .keep [0] (.seq (.seq (.region C.p8) C.b1x) C.b1v)
def C.b1y_w := pC C.b1y.eq_1
def C.p7_b : LO := [
 X.o 2 (.move (.cst (.int .u8 0)))]
def C.p7 : LO := C.p7_b
def C.p7_w := pO C.p7.eq_1
def C.q104 : IFunc := ⟨1, [.slot 2], .seq (.region C.p7) C.b1y⟩
def C.q104_W := aI (aI (aI @C.rb_w @C.b1v_w) (aI @C.p9_w @C.b1w_w)) (aI (aI @C.b1x_w @C.p8_w) (aI @C.b1y_w @C.p7_w))
def C.q104_B := aI (aI @C.rb_b.eq_1 @C.p9_b.eq_1) (aI @C.p8_b.eq_1 @C.p7_b.eq_1)

def C.bcw_b : LO := [
 X.m 77 12,
 X.m 8 77,
 X.o 9 (.move (X.i 0))]
def C.bcw : LO := C.bcw_b
def C.bcw_w := pO C.bcw.eq_1
def C.b9m : ICode := .keep [12] (.seq (.region C.bcw) .ret)
def C.b9m_w := pC C.b9m.eq_1
def C.bcv_b : LO := [
 X.m 57 0,
 X.o 58 (.nilchk (X.s 57)),
 X.o 59 (.fldAddr 1 (X.s 58)),
 X.o 60 (.load1 (X.s 59)),
 X.m 61 10,
 X.m 62 0,
 X.o 63 (.nilchk (X.s 62)),
 X.o 64 (.fldAddr 1 (X.s 63)),
 X.o 65 (.load1 (X.s 64)),
 X.m 66 10,
 X.o 67 (.idxAddr 1 (X.s 65) (X.s 66)),
 X.o 68 (.load1 (X.s 67)),
 X.m 69 12,
 X.m 70 2,
 X.m 71 11,
 X.m 72 3,
 X.o 73 (.build [.int .i64 0, .bool false, .int .i64 0, .int .u32 0] [(0, 1, X.s 69), (1, 1, X.s 70), (2, 1, X.s 71), (3, 1, X.s 72)]),
 X.o 74 (.buildSlice 4 1 [.int .i64 0, .bool false, .int .i64 0, .int .u32 0] [(0, 4, X.s 73)]),
 ⟨some 75, .append 4 32 (X.s 68) (X.s 74), none, [⟨.load1 (X.s 59), 60, none⟩], []⟩,
 X.o 76 (.idxAddr 1 (X.s 60) (X.s 61)),
 X.n (.store1 (X.s 76) (X.s 75))]
def C.bcv : LO := C.bcv_b
def C.bcv_w := pO C.bcv.eq_1
def C.b9r : ICode := .keep [0, 2, 3, 10, 11, 12] (.seq (.region C.bcv) C.b9m)
def C.b9r_w := pC C.b9r.eq_1
def C.bct_b : LO := [
 X.m 50 0,
 X.o 51 (.nilchk (X.s 50)),
 X.o 52 (.fldAddr 2 (X.s 51)),
 X.o 53 (.load1 (X.s 52)),
 X.o 54 (.bin .add (X.s 53) (X.i 1)),
 X.o 55 (.nilchk (X.s 50)),
 X.o 56 (.fldAddr 2 (X.s 55)),
 X.n (.store1 (X.s 56) (X.s 54))]
def C.bct : LO := C.bct_b
def C.bct_w := pO C.bct.eq_1
def C.b9s : ICode := .keep [0, 2, 3, 10, 11, 12] (.seq (.region C.bct) C.b9r)
def C.b9s_w := pC C.b9s.eq_1
def C.bcs_b : LO := [
 X.m 46 0,
 X.o 47 (.nilchk (X.s 46)),
 X.o 48 (.fldAddr 2 (X.s 47)),
 X.o 49 (.load1 (X.s 48)),
 X.m 12 49]
def C.bcs : LO := C.bcs_b
def C.bcs_w := pO C.bcs.eq_1
def C.b9t : ICode := .keep [0, 2, 3, 10, 11] (.seq (.region C.bcs) C.b9s)
def C.b9t_w := pC C.b9t.eq_1
def C.bcr_b : LO := [
 X.o 8 (.move (X.i 0)),
 X.o 9 (.move (X.i 8))]
def C.bcr : LO := C.bcr_b
def C.bcr_w := pO C.bcr.eq_1
def C.b9v : ICode := .seq (.region C.bcr) .ret
def C.b9v_w := pC C.b9v.eq_1
def C.b9w : ICode := .keep [0, 2, 3, 10, 11, 45] (.cond (X.s 45) C.b9v .skip)
def C.b9w_w := pC C.b9w.eq_1
def C.bcp_b : LO := [
 X.m 37 0,
 X.o 38 (.nilchk (X.s 37)),
 X.o 39 (.fldAddr 1 (X.s 38)),
 X.o 40 (.load1 (X.s 39)),
 X.m 41 10,
 X.o 42 (.idxAddr 1 (X.s 40) (X.s 41)),
 X.o 43 (.load1 (X.s 42)),
 X.o 44 (.len (X.s 43)),
 X.o 45 (.bin .geq (X.s 44) (X.i 4))]
def C.bcp : LO := C.bcp_b
def C.bcp_w := pO C.bcp.eq_1
def C.b9x : ICode := .keep [0, 2, 3, 10, 11] (.seq (.seq (.region C.bcp) C.b9w) C.b9t)
def C.b9x_w := pC C.b9x.eq_1
def C.bcn_b : LO := [
 X.o 8 (.move (X.i 0)),
 X.o 9 (.move (X.i 4))]
def C.bcn : LO := C.bcn_b
def C.bcn_w := pO C.bcn.eq_1
def C.b9y : ICode := .seq (.region C.bcn) .ret
def C.b9y_w := pC C.b9y.eq_1
def C.b9q : ICode := .keep [0, 2, 3, 10, 11, 36] (.cond (X.s 36) C.b9y .skip)
def C.b9q_w := pC C.b9q.eq_1
def C.bcm_b : LO := [
 X.m 18 0,
 X.m 19 10,
 X.o 20 (.call F.q8 [X.s 18, X.s 19]),
 X.o 21 (.un .not (X.s 20)),
 X.m 22 21,
 X.f 22 23 (.move (X.s 11)),
 X.f 22 24 (.bin .lss (X.s 23) (X.i 0)),
 X.o 25 (.pick (X.s 22) (.cst (.bool true)) (X.s 24)),
 X.m 26 25,
 X.f 26 27 (.move (X.s 11)),
 X.f 26 28 (.move (X.s 0)),
 X.f 26 29 (.nilchk (X.s 28)),
 X.f 26 30 (.fldAddr 0 (X.s 29)),
 X.f 26 31 (.load1 (X.s 30)),
 X.f 26 32 (.move (X.s 10)),
 X.f 26 33 (.idxAddr 1 (X.s 31) (X.s 32)),
 X.f 26 34 (.load1 (X.s 33)),
 X.f 26 35 (.bin .geq (X.s 27) (X.s 34)),
 X.o 36 (.pick (X.s 26) (.cst (.bool true)) (X.s 35))]
def C.bcm : LO := C.bcm_b
def C.bcm_w := pO C.bcm.eq_1
def C.b9n : ICode := .keep [0, 2, 3, 10, 11] (.seq (.seq (.region C.bcm) C.b9q) C.b9x)
def C.b9n_w := pC C.b9n.eq_1
def C.bcl_b : LO := [
 X.m 14 1,
 X.o 15 (.call F.q10 [X.s 14]),
 X.m 13 15,
 X.o 16 (.extract (X.s 13) 0),
 X.o 17 (.extract (X.s 13) 1),
 X.m 10 16,
 X.m 11 17]
def C.bcl : LO := C.bcl_b
def C.bcl_w := pO C.bcl.eq_1
def C.b9p : ICode := .keep [0, 1, 2, 3] (.seq (.region C.bcl) C.b9n)
def C.b9p_w := pC C.b9p.eq_1
def C.bck_b : LO := [
 X.o 8 (.move (X.i 0)),
 X.o 9 (.move (X.i 0))]
def C.bck : LO := C.bck_b
def C.bck_w := pO C.bck.eq_1
def C.q5 : IFunc := ⟨4, [.slot 8, .slot 9], .seq (.region C.bck) C.b9p⟩
def C.q5_W := aI (aI (aI (aI @C.bcw_w @C.b9m_w) (aI @C.bcv_w (aI @C.b9r_w @C.bct_w))) (aI (aI @C.b9s_w @C.bcs_w) (aI @C.b9t_w (aI @C.bcr_w @C.b9v_w)))) (aI (aI (aI @C.b9w_w @C.bcp_w) (aI @C.b9x_w (aI @C.bcn_w @C.b9y_w))) (aI (aI @C.b9q_w (aI @C.bcm_w @C.b9n_w)) (aI @C.bcl_w (aI @C.b9p_w @C.bck_w))))
def C.q5_B := aI (aI (aI @C.bcw_b.eq_1 @C.bcv_b.eq_1) (aI @C.bct_b.eq_1 (aI @C.bcs_b.eq_1 @C.bcr_b.eq_1))) (aI (aI @C.bcp_b.eq_1 @C.bcn_b.eq_1) (aI @C.bcm_b.eq_1 (aI @C.bcl_b.eq_1 @C.bck_b.eq_1)))

def C.bkk_b : LO := [
 X.m 3 0,
 X.o 4 (.eqP 0 true (X.s 3) (.cst (.nilp))),
 X.m 5 4,
 X.t 5 6 (.move (X.s 0)),
 X.t 5 7 (.nilchk (X.s 6)),
 X.t 5 8 (.fldAddr 0 (X.s 7)),
 X.t 5 9 (.load1 (X.s 8)),
 X.t 5 10 (.eqP 0 true (X.s 9) (.cst (.nilp))),
 X.o 11 (.pick (X.s 5) (X.s 10) (.cst (.bool false))),
 X.m 12 11,
 X.t 12 13 (.move (X.s 0)),
 X.t 12 14 (.nilchk (X.s 13)),
 X.t 12 15 (.fldAddr 1 (X.s 14)),
 X.t 12 16 (.load1 (X.s 15)),
 X.t 12 17 (.eqP 0 true (X.s 16) (.cst (.nilp))),
 X.o 18 (.pick (X.s 12) (X.s 17) (.cst (.bool false))),
 X.m 19 18,
 X.t 19 20 (.move (X.s 0)),
 X.t 19 21 (.nilchk (X.s 20)),
 X.t 19 22 (.fldAddr 2 (X.s 21)),
 X.t 19 23 (.load1 (X.s 22)),
 X.t 19 24 (.eqP 0 true (X.s 23) (.cst (.nilp))),
 X.o 25 (.pick (X.s 19) (X.s 24) (.cst (.bool false))),
 X.m 26 25,
 X.t 26 27 (.move (X.s 0)),
 X.t 26 28 (.nilchk (X.s 27)),
 X.t 26 29 (.fldAddr 3 (X.s 28)),
 X.t 26 30 (.load1 (X.s 29)),
 X.t 26 31 (.eqP 0 true (X.s 30) (.cst (.nilp))),
 X.o 32 (.pick (X.s 26) (X.s 31) (.cst (.bool false))),
 X.m 2 32]
def C.bkk : LO := C.bkk_b
def C.bkk_w := pO C.bkk.eq_1
def C.ch7 : ICode := .keep [0] (.seq (.region C.bkk) .ret)
def C.ch7_w := pC C.ch7.eq_1
def C.bkj_b : LO := [
 X.o 2 (.move (.cst (.bool false)))]
def C.bkj : LO := C.bkj_b
def C.bkj_w := pO C.bkj.eq_1
def C.q94 : IFunc := ⟨1, [.slot 2], .seq (.region C.bkj) C.ch7⟩
def C.q94_W := aI @C.bkk_w (aI @C.ch7_w @C.bkj_w)
def C.q94_B := aI @C.bkk_b.eq_1 @C.bkj_b.eq_1

def C.bkf_b : LO := [
 X.o 57 (.fldAddr 0 (X.s 6)),
 X.o 58 (.load1 (X.s 57)),
 X.m 59 1,
 X.m 60 9,
 X.o 61 (.build [.int .i64 0, .int .i64 0, .bool false, .int .u32 0] [(0, 1, X.s 58), (1, 1, X.s 59), (3, 1, X.s 60)]),
 X.n (.storeN 4 (X.s 4) (X.s 61)),
 X.o 5 (.move (.cst (.bool true)))]
def C.bkf : LO := C.bkf_b
def C.bkf_w := pO C.bkf.eq_1
def C.bkd : ICode := .keep [1, 4, 6, 9] (.seq (.region C.bkf) .ret)
def C.bkd_w := pC C.bkd.eq_1
def C.m4_b : LO := [
 X.o 50 (.fldAddr 4 (X.s 8)),
 X.o 51 (.load1 (X.s 50)),
 X.o 52 (.fldAddr 2 (X.s 6)),
 X.o 53 (.load1 (X.s 52)),
 X.o 54 (.fldAddr 3 (X.s 6)),
 X.o 55 (.load1 (X.s 54)),
 X.o 56 (.call F.q115 [X.s 51, X.s 53, X.s 55])]
def C.m4 : LO := C.m4_b
def C.m4_w := pO C.m4.eq_1
def C.bqt : ICode := .keep [1, 4, 6, 8, 9, 49] (.cond (X.s 49) (.region C.m4) .skip)
def C.bqt_w := pC C.bqt.eq_1
def C.m3_b : LO := [
 X.o 48 (.fldAddr 1 (X.s 6)),
 X.o 49 (.load1 (X.s 48))]
def C.m3 : LO := C.m3_b
def C.m3_w := pO C.m3.eq_1
def C.bqv : ICode := .keep [1, 4, 6, 8, 9] (.seq (.seq (.region C.m3) C.bqt) C.bkd)
def C.bqv_w := pC C.bqv.eq_1
def C.m2_b : LO := [
 X.o 41 (.fldAddr 4 (X.s 8)),
 X.o 42 (.load1 (X.s 41)),
 X.o 43 (.fldAddr 2 (X.s 6)),
 X.o 44 (.load1 (X.s 43)),
 X.o 45 (.call F.q110 [X.s 42, X.s 44]),
 X.m 40 45,
 X.o 46 (.extract (X.s 40) 0),
 X.o 47 (.extract (X.s 40) 1),
 X.m 9 46,
 X.m 10 47]
def C.m2 : LO := C.m2_b
def C.m2_w := pO C.m2.eq_1
def C.bqw : ICode := .keep [1, 4, 6, 8] (.seq (.region C.m2) C.bqv)
def C.bqw_w := pC C.bqw.eq_1
def C.m1_b : LO := [
 X.o 34 (.fldAddr 0 (X.s 6)),
 X.o 35 (.load1 (X.s 34)),
 X.m 36 1,
 X.o 37 (.fldAddr 3 (X.s 8)),
 X.o 38 (.load1 (X.s 37)),
 X.o 39 (.build [.int .i64 0, .int .i64 0, .bool false, .int .u32 0] [(0, 1, X.s 35), (1, 1, X.s 36), (2, 1, .cst (.bool true)), (3, 1, X.s 38)]),
 X.n (.storeN 4 (X.s 4) (X.s 39)),
 X.o 5 (.move (.cst (.bool true)))]
def C.m1 : LO := C.m1_b
def C.m1_w := pO C.m1.eq_1
def C.bqx : ICode := .seq (.region C.m1) .ret
def C.bqx_w := pC C.bqx.eq_1
def C.bqy : ICode := .keep [1, 4, 6, 8, 33] (.cond (X.s 33) C.bqx .skip)
def C.bqy_w := pC C.bqy.eq_1
def C.m0_b : LO := [
 X.m 30 0,
 X.m 31 1,
 X.o 32 (.call F.q81 [X.s 30, X.s 31]),
 X.o 33 (.un .not (X.s 32))]
def C.m0 : LO := C.m0_b
def C.m0_w := pO C.m0.eq_1
def C.bqq : ICode := .keep [0, 1, 4, 6, 8] (.seq (.seq (.region C.m0) C.bqy) C.bqw)
def C.bqq_w := pC C.bqq.eq_1
def C.mz_b : LO := [
 X.m 23 0,
 X.o 24 (.nilchk (X.s 23)),
 X.o 25 (.fldAddr 4 (X.s 24)),
 X.o 26 (.load1 (X.s 25)),
 X.m 27 1,
 X.o 28 (.idxAddr 6 (X.s 26) (X.s 27)),
 X.o 29 (.loadN 6 (X.s 28)),
 X.o 8 (.alloc [.int .i64 0, .int .i64 0, .int .i64 0, .int .u32 0, .nilp, .nilp]),
 X.n (.storeN 6 (X.s 8) (X.s 29))]
def C.mz : LO := C.mz_b
def C.mz_w := pO C.mz.eq_1
def C.bqz : ICode := .keep [0, 1, 4, 6] (.seq (.region C.mz) C.bqq)
def C.bqz_w := pC C.bqz.eq_1
def C.mq_b : LO := [
 X.o 22 (.build [.int .i64 0, .int .i64 0, .bool false, .int .u32 0] []),
 X.n (.storeN 4 (X.s 4) (X.s 22)),
 X.o 5 (.move (.cst (.bool false)))]
def C.mq : LO := C.mq_b
def C.mq_w := pO C.mq.eq_1
def C.bq0 : ICode := .seq (.region C.mq) .ret
def C.bq0_w := pC C.bq0.eq_1
def C.bqp : ICode := .keep [0, 1, 4, 6, 21] (.cond (X.s 21) C.bq0 .skip)
def C.bqp_w := pC C.bqp.eq_1
def C.my_b : LO := [
 X.m 20 7,
 X.o 21 (.un .not (X.s 20))]
def C.my : LO := C.my_b
def C.my_w := pO C.my.eq_1
def C.bqr : ICode := .keep [0, 1, 4, 6, 7] (.seq (.seq (.region C.my) C.bqp) C.bqz)
def C.bqr_w := pC C.bqr.eq_1
def C.bk_b : LO := [
 X.m 12 0,
 X.o 13 (.nilchk (X.s 12)),
 X.o 14 (.fldAddr 3 (X.s 13)),
 X.o 15 (.load1 (X.s 14)),
 X.m 16 1,
 X.o 17 (.call F.q6 [X.s 15, X.s 16]),
 X.m 11 17,
 X.o 18 (.extract (X.s 11) 0),
 X.o 19 (.extract (X.s 11) 1),
 X.o 6 (.alloc [.int .i64 0, .bool false, .int .i64 0, .int .u32 0]),
 X.n (.storeN 4 (X.s 6) (X.s 18)),
 X.m 7 19]
def C.bk : LO := C.bk_b
def C.bk_w := pO C.bk.eq_1
def C.bqs : ICode := .keep [0, 1, 4] (.seq (.region C.bk) C.bqr)
def C.bqs_w := pC C.bqs.eq_1
def C.bd_b : LO := [
 X.o 4 (.alloc [.int .i64 0, .int .i64 0, .bool false, .int .u32 0]),
 X.o 5 (.move (.cst (.bool false)))]
def C.bd : LO := C.bd_b
def C.bd_w := pO C.bd.eq_1
def C.q92 : IFunc := ⟨2, [.cellN 4 4, .slot 5], .seq (.region C.bd) C.bqs⟩
def C.q92_W := aI (aI (aI (aI @C.bkf_w @C.bkd_w) (aI @C.m4_w (aI @C.bqt_w @C.m3_w))) (aI (aI @C.bqv_w (aI @C.m2_w @C.bqw_w)) (aI @C.m1_w (aI @C.bqx_w @C.bqy_w)))) (aI (aI (aI @C.m0_w (aI @C.bqq_w @C.mz_w)) (aI @C.bqz_w (aI @C.mq_w @C.bq0_w))) (aI (aI @C.bqp_w (aI @C.my_w @C.bqr_w)) (aI @C.bk_w (aI @C.bqs_w @C.bd_w))))
def C.q92_B := aI (aI (aI @C.bkf_b.eq_1 @C.m4_b.eq_1) (aI @C.m3_b.eq_1 (aI @C.m2_b.eq_1 @C.m1_b.eq_1))) (aI (aI @C.m0_b.eq_1 (aI @C.mz_b.eq_1 @C.mq_b.eq_1)) (aI @C.my_b.eq_1 (aI @C.bk_b.eq_1 @C.bd_b.eq_1)))

def C.rg_b : LO := [
 X.m 20 0,
 X.o 21 (.nilchk (X.s 20)),
 X.o 22 (.fldAddr 1 (X.s 21)),
 X.o 23 (.load1 (X.s 22)),
 X.o 24 (.bin .add (X.s 23) (X.i 1)),
 X.o 25 (.nilchk (X.s 20)),
 X.o 26 (.fldAddr 1 (X.s 25)),
 X.n (.store1 (X.s 26) (X.s 24))]
def C.rg : LO := C.rg_b
def C.rg_w := pO C.rg.eq_1
def C.b1z : ICode := .keep [0] (.region C.rg)
def C.b1z_w := pC C.b1z.eq_1
def C.rf_b : LO := [
 X.m 17 0,
 X.o 18 (.nilchk (X.s 17)),
 X.o 19 (.fldAddr 0 (X.s 18)),
 X.n (.store1 (X.s 19) (X.i 3))]
def C.rf : LO := C.rf_b
def C.rf_w := pO C.rf.eq_1
def C.rk_b : LO := [
 X.m 33 0,
 X.o 34 (.nilchk (X.s 33)),
 X.o 35 (.fldAddr 1 (X.s 34)),
 X.n (.store1 (X.s 35) (X.i 0))]
def C.rk : LO := C.rk_b
def C.rk_w := pO C.rk.eq_1
def C.b11 : ICode := .keep [0] (.region C.rk)
def C.b11_w := pC C.b11.eq_1
def C.rj_b : LO := [
 X.m 30 0,
 X.o 31 (.nilchk (X.s 30)),
 X.o 32 (.fldAddr 0 (X.s 31)),
 X.n (.store1 (X.s 32) (X.i 2))]
def C.rj : LO := C.rj_b
def C.rj_w := pO C.rj.eq_1
def C.b12 : ICode := .seq (.region C.rj) C.b11
def C.b12_w := pC C.b12.eq_1
def C.b13 : ICode := .keep [0, 27] (.cond (X.s 27) C.b12 .skip)
def C.b13_w := pC C.b13.eq_1
def C.rh_b : LO := [
 X.m 28 1,
 X.o 29 (.un .not (X.s 28)),
 X.m 27 29]
def C.rh : LO := C.rh_b
def C.rh_w := pO C.rh.eq_1
def C.b14 : ICode := .seq (.region C.rf) C.b1z
def C.b14_w := pC C.b14.eq_1
def C.b15 : ICode := .seq (.region C.rh) C.b13
def C.b15_w := pC C.b15.eq_1
def C.b16 : ICode := .keep [0, 1, 15] (.cond (X.s 15) C.b14 C.b15)
def C.b16_w := pC C.b16.eq_1
def C.rd_b : LO := [
 X.m 16 2,
 X.m 15 16]
def C.rd : LO := C.rd_b
def C.rd_w := pO C.rd.eq_1
def C.b1q : ICode := .seq (.region C.rd) C.b16
def C.b1q_w := pC C.b1q.eq_1
def C.b17 : ICode := .keep [0, 1, 2] (.block 0 C.b1q)
def C.b17_w := pC C.b17.eq_1
def C.b10 : ICode := .keep [0, 1, 2, 14] (.cond (X.s 14) .ret .skip)
def C.b10_w := pC C.b10.eq_1
def C.rc_b : LO := [
 X.m 6 0,
 X.o 7 (.eqP 0 false (X.s 6) (.cst (.nilp))),
 X.m 8 7,
 X.f 8 9 (.move (X.s 0)),
 X.f 8 10 (.nilchk (X.s 9)),
 X.f 8 11 (.fldAddr 0 (X.s 10)),
 X.f 8 12 (.load1 (X.s 11)),
 X.f 8 13 (.bin .neq (X.s 12) (X.i 1)),
 X.o 14 (.pick (X.s 8) (.cst (.bool true)) (X.s 13))]
def C.rc : LO := C.rc_b
def C.rc_w := pO C.rc.eq_1
def C.q105 : IFunc := ⟨3, [], .seq (.seq (.region C.rc) C.b10) C.b17⟩
def C.q105_W := aI (aI (aI (aI @C.rg_w @C.b1z_w) (aI @C.rf_w @C.rk_w)) (aI (aI @C.b11_w @C.rj_w) (aI @C.b12_w @C.b13_w))) (aI (aI (aI @C.rh_w @C.b14_w) (aI @C.b15_w @C.b16_w)) (aI (aI @C.rd_w @C.b1q_w) (aI @C.b17_w (aI @C.b10_w @C.rc_w))))
def C.q105_B := aI (aI @C.rg_b.eq_1 (aI @C.rf_b.eq_1 @C.rk_b.eq_1)) (aI (aI @C.rj_b.eq_1 @C.rh_b.eq_1) (aI @C.rd_b.eq_1 @C.rc_b.eq_1))

def C.bhm_b : LO := [
 X.m 9 0,
 X.o 10 (.nilchk (X.s 9)),
 X.o 11 (.fldAddr 1 (X.s 10)),
 X.o 12 (.load1 (X.s 11)),
 X.m 13 1,
 X.o 14 (.idxAddr 1 (X.s 12) (X.s 13)),
 X.o 15 (.load1 (X.s 14)),
 X.o 16 (.len (X.s 15)),
 X.m 4 16]
def C.bhm : LO := C.bhm_b
def C.bhm_w := pO C.bhm.eq_1
def C.cf7 : ICode := .keep [0, 1] (.seq (.region C.bhm) .ret)
def C.cf7_w := pC C.cf7.eq_1
def C.bhl_b : LO := [
 X.o 4 (.move (X.i 0))]
def C.bhl : LO := C.bhl_b
def C.bhl_w := pO C.bhl.eq_1
def C.cf8 : ICode := .seq (.region C.bhl) .ret
def C.cf8_w := pC C.cf8.eq_1
def C.cf9 : ICode := .keep [0, 1, 8] (.cond (X.s 8) C.cf8 .skip)
def C.cf9_w := pC C.cf9.eq_1
def C.bhk_b : LO := [
 X.m 5 0,
 X.m 6 1,
 X.o 7 (.call F.q8 [X.s 5, X.s 6]),
 X.o 8 (.un .not (X.s 7))]
def C.bhk : LO := C.bhk_b
def C.bhk_w := pO C.bhk.eq_1
def C.cgb : ICode := .keep [0, 1] (.seq (.seq (.region C.bhk) C.cf9) C.cf7)
def C.cgb_w := pC C.cgb.eq_1
def C.bhj_b : LO := [
 X.o 4 (.move (X.i 0))]
def C.bhj : LO := C.bhj_b
def C.bhj_w := pO C.bhj.eq_1
def C.q7 : IFunc := ⟨2, [.slot 4], .seq (.region C.bhj) C.cgb⟩
def C.q7_W := aI (aI (aI @C.bhm_w @C.cf7_w) (aI @C.bhl_w @C.cf8_w)) (aI (aI @C.cf9_w @C.bhk_w) (aI @C.cgb_w @C.bhj_w))
def C.q7_B := aI (aI @C.bhm_b.eq_1 @C.bhl_b.eq_1) (aI @C.bhk_b.eq_1 @C.bhj_b.eq_1)

def C.kl_b : LO := [
 X.o 158 (.bin .add (X.s 34) (X.i 1)),
 X.m 34 158]
def C.kl : LO := C.kl_b
def C.kl_w := pO C.kl.eq_1
def C.w4 : ICode := .keep [0, 2, 33, 34] (.region C.kl)
def C.w4_w := pC C.w4.eq_1
def C.kg_b : LO := [
 X.m 65 5,
 X.m 66 5,
 X.o 67 (.nilchk (X.s 66)),
 X.o 68 (.fldAddr 0 (X.s 67)),
 X.o 69 (.fldAddr 5 (X.s 68)),
 X.o 70 (.load1 (X.s 69)),
 X.o 71 (.nilchk (X.s 65)),
 X.o 72 (.fldAddr 7 (X.s 71)),
 X.n (.store1 (X.s 72) (X.s 70))]
def C.kg : LO := C.kg_b
def C.kg_w := pO C.kg.eq_1
def C.kj_b : LO := [
 X.m 93 5,
 X.o 94 (.nilchk (X.s 93)),
 X.o 95 (.fldAddr 7 (X.s 94)),
 X.o 96 (.load1 (X.s 95)),
 X.o 97 (.bin .sub (X.s 96) (X.i 1)),
 X.o 98 (.nilchk (X.s 93)),
 X.o 99 (.fldAddr 7 (X.s 98)),
 X.n (.store1 (X.s 99) (X.s 97))]
def C.kj : LO := C.kj_b
def C.kj_w := pO C.kj.eq_1
def C.w6_b : LO := [
 X.m 151 5,
 X.m 152 5,
 X.o 153 (.nilchk (X.s 152)),
 X.o 154 (.fldAddr 9 (X.s 153)),
 X.o 155 (.load1 (X.s 154)),
 X.o 156 (.nilchk (X.s 151)),
 X.o 157 (.fldAddr 8 (X.s 156)),
 X.n (.store1 (X.s 157) (X.s 155))]
def C.w6 : LO := C.w6_b
def C.w6_w := pO C.w6.eq_1
def C.c3 : ICode := .keep [0, 2, 5, 33, 34, 100] (.cond (X.s 100) (.region C.w6) .skip)
def C.c3_w := pC C.c3.eq_1
def C.kk_b : LO := [
 X.m 101 5,
 X.o 102 (.nilchk (X.s 101)),
 X.o 103 (.fldAddr 0 (X.s 102)),
 X.o 104 (.fldAddr 0 (X.s 103)),
 X.o 105 (.load1 (X.s 104)),
 X.o 106 (.bin .eql (X.s 105) (.cst (.int .u8 109))),
 X.m 107 106,
 X.t 107 108 (.move (X.s 5)),
 X.t 107 109 (.nilchk (X.s 108)),
 X.t 107 110 (.fldAddr 9 (X.s 109)),
 X.t 107 111 (.load1 (X.s 110)),
 X.t 107 112 (.move (X.s 5)),
 X.t 107 113 (.nilchk (X.s 112)),
 X.t 107 114 (.fldAddr 8 (X.s 113)),
 X.t 107 115 (.load1 (X.s 114)),
 X.t 107 116 (.bin .neq (X.s 111) (X.s 115)),
 X.o 117 (.pick (X.s 107) (X.s 116) (.cst (.bool false))),
 X.m 118 117,
 X.t 118 119 (.move (X.s 2)),
 X.t 118 120 (.move (X.s 5)),
 X.t 118 121 (.nilchk (X.s 120)),
 X.t 118 122 (.fldAddr 0 (X.s 121)),
 X.t 118 123 (.fldAddr 1 (X.s 122)),
 X.t 118 124 (.load1 (X.s 123)),
 X.t 118 125 (.move (X.s 5)),
 X.t 118 126 (.nilchk (X.s 125)),
 X.t 118 127 (.fldAddr 9 (X.s 126)),
 X.t 118 128 (.load1 (X.s 127)),
 X.t 118 129 (.idxAddr 1 (X.s 124) (X.s 128)),
 X.t 118 130 (.load1 (X.s 129)),
 X.t 118 131 (.idxAddr 1 (X.s 119) (X.s 130)),
 X.t 118 132 (.load1 (X.s 131)),
 X.t 118 133 (.move (X.s 132)),
 X.f 133 134 (.move (X.s 2)),
 X.f 133 135 (.move (X.s 5)),
 X.f 133 136 (.nilchk (X.s 135)),
 X.f 133 137 (.fldAddr 0 (X.s 136)),
 X.f 133 138 (.fldAddr 1 (X.s 137)),
 X.f 133 139 (.load1 (X.s 138)),
 X.f 133 140 (.move (X.s 5)),
 X.f 133 141 (.nilchk (X.s 140)),
 X.f 133 142 (.fldAddr 8 (X.s 141)),
 X.f 133 143 (.load1 (X.s 142)),
 X.f 133 144 (.idxAddr 1 (X.s 139) (X.s 143)),
 X.f 133 145 (.load1 (X.s 144)),
 X.f 133 146 (.idxAddr 1 (X.s 134) (X.s 145)),
 X.f 133 147 (.load1 (X.s 146)),
 X.f 133 148 (.un .not (X.s 147)),
 X.t 118 149 (.pick (X.s 133) (.cst (.bool true)) (X.s 148)),
 X.o 150 (.pick (X.s 118) (X.s 149) (.cst (.bool false))),
 X.m 100 150]
def C.kk : LO := C.kk_b
def C.kk_w := pO C.kk.eq_1
def C.bwd : ICode := .seq (.region C.kk) C.c3
def C.bwd_w := pC C.bwd.eq_1
def C.by : ICode := .keep [0, 2, 5, 33, 34, 73] (.cond (X.s 73) (.region C.kj) C.bwd)
def C.by_w := pC C.by.eq_1
def C.kh_b : LO := [
 X.m 74 5,
 X.o 75 (.nilchk (X.s 74)),
 X.o 76 (.fldAddr 0 (X.s 75)),
 X.o 77 (.fldAddr 0 (X.s 76)),
 X.o 78 (.load1 (X.s 77)),
 X.o 79 (.bin .eql (X.s 78) (.cst (.int .u8 112))),
 X.m 80 79,
 X.t 80 81 (.move (X.s 5)),
 X.t 80 82 (.nilchk (X.s 81)),
 X.t 80 83 (.fldAddr 6 (X.s 82)),
 X.t 80 84 (.load1 (X.s 83)),
 X.o 85 (.pick (X.s 80) (X.s 84) (.cst (.bool false))),
 X.m 86 85,
 X.t 86 87 (.move (X.s 5)),
 X.t 86 88 (.nilchk (X.s 87)),
 X.t 86 89 (.fldAddr 7 (X.s 88)),
 X.t 86 90 (.load1 (X.s 89)),
 X.t 86 91 (.bin .gtr (X.s 90) (X.i 0)),
 X.o 92 (.pick (X.s 86) (X.s 91) (.cst (.bool false))),
 X.m 73 92]
def C.kh : LO := C.kh_b
def C.kh_w := pO C.kh.eq_1
def C.bwf : ICode := .seq (.region C.kh) C.by
def C.bwf_w := pC C.bwf.eq_1
def C.br : ICode := .keep [0, 2, 5, 33, 34, 43] (.cond (X.s 43) (.region C.kg) C.bwf)
def C.br_w := pC C.br.eq_1
def C.kf_b : LO := [
 X.m 44 5,
 X.o 45 (.nilchk (X.s 44)),
 X.o 46 (.fldAddr 0 (X.s 45)),
 X.o 47 (.fldAddr 0 (X.s 46)),
 X.o 48 (.load1 (X.s 47)),
 X.o 49 (.bin .eql (X.s 48) (.cst (.int .u8 112))),
 X.m 50 49,
 X.t 50 51 (.move (X.s 5)),
 X.t 50 52 (.nilchk (X.s 51)),
 X.t 50 53 (.fldAddr 6 (X.s 52)),
 X.t 50 54 (.load1 (X.s 53)),
 X.o 55 (.pick (X.s 50) (X.s 54) (.cst (.bool false))),
 X.m 56 55,
 X.t 56 57 (.move (X.s 2)),
 X.t 56 58 (.move (X.s 0)),
 X.t 56 59 (.move (X.s 4)),
 X.t 56 60 (.call F.q24 [X.s 58, X.s 59]),
 X.t 56 61 (.idxAddr 1 (X.s 57) (X.s 60)),
 X.t 56 62 (.load1 (X.s 61)),
 X.t 56 63 (.un .not (X.s 62)),
 X.o 64 (.pick (X.s 56) (X.s 63) (.cst (.bool false))),
 X.m 43 64]
def C.kf : LO := C.kf_b
def C.kf_w := pO C.kf.eq_1
def C.bvz : ICode := .seq (.region C.kf) C.br
def C.bvz_w := pC C.bvz.eq_1
def C.bwg : ICode := .keep [0, 2, 4, 5, 33, 34] (.block 4 C.bvz)
def C.bwg_w := pC C.bwg.eq_1
def C.kd_b : LO := [
 X.m 37 0,
 X.o 38 (.nilchk (X.s 37)),
 X.o 39 (.fldAddr 0 (X.s 38)),
 X.o 40 (.load1 (X.s 39)),
 X.m 41 4,
 X.o 42 (.idxAddr 11 (X.s 40) (X.s 41)),
 X.m 5 42]
def C.kd : LO := C.kd_b
def C.kd_w := pO C.kd.eq_1
def C.w5 : ICode := .keep [0, 2, 4, 33, 34] (.seq (.region C.kd) C.bwg)
def C.w5_w := pC C.w5.eq_1
def C.kw_b : LO := [
 X.m 36 34,
 X.m 4 36]
def C.kw : LO := C.kw_b
def C.kw_w := pO C.kw.eq_1
def C.bvw : ICode := .seq (.region C.kw) C.w5
def C.bvw_w := pC C.bvw.eq_1
def C.bv0 : ICode := .keep [0, 2, 33, 34] (.seq (.block 3 C.bvw) C.w4)
def C.bv0_w := pC C.bv0.eq_1
def C.bv1 : ICode := .keep [0, 2, 33, 34, 35] (.seq (.cond (X.s 35) .skip (.exit 2)) C.bv0)
def C.bv1_w := pC C.bv1.eq_1
def C.kv_b : LO := [
 X.o 35 (.bin .lss (X.s 34) (X.s 33))]
def C.kv : LO := C.kv_b
def C.kv_w := pO C.kv.eq_1
def C.ck5 : ICode := .keep [0, 2, 33, 34] (.seq (.region C.kv) C.bv1)
def C.ck5_w := pC C.ck5.eq_1
def C.bvx : ICode := .loop C.ck5
def C.bvx_w := pC C.bvx.eq_1
def C.bv2 : ICode := .keep [0, 2, 33, 34] (.block 2 C.bvx)
def C.bv2_w := pC C.bv2.eq_1
def C.kt_b : LO := [
 X.m 29 0,
 X.o 30 (.nilchk (X.s 29)),
 X.o 31 (.fldAddr 0 (X.s 30)),
 X.o 32 (.load1 (X.s 31)),
 X.o 33 (.len (X.s 32)),
 X.o 34 (.move (X.i 0))]
def C.kt : LO := C.kt_b
def C.kt_w := pO C.kt.eq_1
def C.bv3 : ICode := .keep [0, 2] (.seq (.region C.kt) C.bv2)
def C.bv3_w := pC C.bv3.eq_1
def C.ks_b : LO := [
 X.o 28 (.bin .add (X.s 19) (X.i 1)),
 X.m 19 28]
def C.ks : LO := C.ks_b
def C.ks_w := pO C.ks.eq_1
def C.bv4 : ICode := .keep [0, 2, 18, 19] (.region C.ks)
def C.bv4_w := pC C.bv4.eq_1
def C.kr_b : LO := [
 X.m 22 2,
 X.m 23 3,
 X.m 24 0,
 X.m 25 3,
 X.o 26 (.call F.q20 [X.s 24, X.s 25]),
 X.o 27 (.idxAddr 1 (X.s 22) (X.s 23)),
 X.n (.store1 (X.s 27) (X.s 26))]
def C.kr : LO := C.kr_b
def C.kr_w := pO C.kr.eq_1
def C.bv5 : ICode := .keep [0, 2, 3, 18, 19] (.region C.kr)
def C.bv5_w := pC C.bv5.eq_1
def C.kp_b : LO := [
 X.m 21 19,
 X.m 3 21]
def C.kp : LO := C.kp_b
def C.kp_w := pO C.kp.eq_1
def C.bvy : ICode := .seq (.region C.kp) C.bv5
def C.bvy_w := pC C.bvy.eq_1
def C.bv6 : ICode := .keep [0, 2, 18, 19] (.seq (.block 1 C.bvy) C.bv4)
def C.bv6_w := pC C.bv6.eq_1
def C.bv7 : ICode := .keep [0, 2, 18, 19, 20] (.seq (.cond (X.s 20) .skip (.exit 0)) C.bv6)
def C.bv7_w := pC C.bv7.eq_1
def C.kn_b : LO := [
 X.o 20 (.bin .lss (X.s 19) (X.s 18))]
def C.kn : LO := C.kn_b
def C.kn_w := pO C.kn.eq_1
def C.ck6 : ICode := .keep [0, 2, 18, 19] (.seq (.region C.kn) C.bv7)
def C.ck6_w := pC C.ck6.eq_1
def C.bvq : ICode := .loop C.ck6
def C.bvq_w := pC C.bvq.eq_1
def C.bv8 : ICode := .keep [0, 2, 18, 19] (.block 0 C.bvq)
def C.bv8_w := pC C.bv8.eq_1
def C.km_b : LO := [
 X.m 14 0,
 X.o 15 (.nilchk (X.s 14)),
 X.o 16 (.fldAddr 0 (X.s 15)),
 X.o 17 (.load1 (X.s 16)),
 X.o 18 (.len (X.s 17)),
 X.o 19 (.move (X.i 0))]
def C.km : LO := C.km_b
def C.km_w := pO C.km.eq_1
def C.bv9 : ICode := .keep [0, 2] (.seq (.seq (.region C.km) C.bv8) C.bv3)
def C.bv9_w := pC C.bv9.eq_1
def C.kc_b : LO := [
 X.m 8 0,
 X.o 9 (.nilchk (X.s 8)),
 X.o 10 (.fldAddr 0 (X.s 9)),
 X.o 11 (.load1 (X.s 10)),
 X.o 12 (.len (X.s 11)),
 X.o 13 (.makeSlice 1 1 [.bool false] (X.s 12) (X.s 12)),
 X.m 2 13]
def C.kc : LO := C.kc_b
def C.kc_w := pO C.kc.eq_1
def C.bwb : ICode := .keep [0] (.seq (.region C.kc) C.bv9)
def C.bwb_w := pC C.bwb.eq_1
def C.bwc : ICode := .keep [0, 7] (.cond (X.s 7) .ret .skip)
def C.bwc_w := pC C.bwc.eq_1
def C.kb_b : LO := [
 X.m 6 0,
 X.o 7 (.eqP 0 false (X.s 6) (.cst (.nilp)))]
def C.kb : LO := C.kb_b
def C.kb_w := pO C.kb.eq_1
def C.q22 : IFunc := ⟨1, [], .seq (.seq (.region C.kb) C.bwc) C.bwb⟩
def C.q22_W := aI (aI (aI (aI (aI @C.kl_w @C.w4_w) (aI @C.kg_w (aI @C.kj_w @C.w6_w))) (aI (aI @C.c3_w @C.kk_w) (aI @C.bwd_w (aI @C.by_w @C.kh_w)))) (aI (aI (aI @C.bwf_w @C.br_w) (aI @C.kf_w (aI @C.bvz_w @C.bwg_w))) (aI (aI @C.kd_w (aI @C.w5_w @C.kw_w)) (aI @C.bvw_w (aI @C.bv0_w @C.bv1_w))))) (aI (aI (aI (aI @C.kv_w @C.bvx_w) (aI @C.bv2_w (aI @C.kt_w @C.bv3_w))) (aI (aI @C.ks_w (aI @C.bv4_w @C.kr_w)) (aI @C.bv5_w (aI @C.kp_w @C.bvy_w)))) (aI (aI (aI @C.bv6_w @C.bv7_w) (aI @C.kn_w (aI @C.bvq_w @C.bv8_w))) (aI (aI @C.km_w (aI @C.bv9_w @C.kc_w)) (aI @C.bwb_w (aI @C.bwc_w @C.kb_w)))))
def C.q22_B := aI (aI (aI (aI @C.kl_b.eq_1 @C.kg_b.eq_1) (aI @C.kj_b.eq_1 @C.w6_b.eq_1)) (aI (aI @C.kk_b.eq_1 @C.kh_b.eq_1) (aI @C.kf_b.eq_1 (aI @C.kd_b.eq_1 @C.kw_b.eq_1)))) (aI (aI (aI @C.kv_b.eq_1 @C.kt_b.eq_1) (aI @C.ks_b.eq_1 @C.kr_b.eq_1)) (aI (aI @C.kp_b.eq_1 @C.kn_b.eq_1) (aI @C.km_b.eq_1 (aI @C.kc_b.eq_1 @C.kb_b.eq_1))))

def C.bk9_b : LO := [
 X.m 32 3,
 X.m 2 32]
def C.bk9 : LO := C.bk9_b
def C.bk9_w := pO C.bk9.eq_1
def C.cj2 : ICode := .keep [3] (.seq (.region C.bk9) .ret)
def C.cj2_w := pC C.cj2.eq_1
def C.bk8_b : LO := [
 X.o 31 (.bin .add (X.s 13) (X.i 1)),
 X.m 13 31]
def C.bk8 : LO := C.bk8_b
def C.bk8_w := pO C.bk8.eq_1
def C.cj9 : ICode := .keep [0, 3, 12, 13] (.region C.bk8)
def C.cj9_w := pC C.cj9.eq_1
def C.blk_b : LO := [
 X.m 25 3,
 X.m 26 5,
 X.m 27 4,
 X.o 28 (.build [.int .u8 0, .int .i64 0] [(0, 1, X.s 26), (1, 1, X.s 27)]),
 X.o 29 (.buildSlice 2 1 [.int .u8 0, .int .i64 0] [(0, 2, X.s 28)]),
 X.o 30 (.append 2 16 (X.s 25) (X.s 29)),
 X.m 3 30]
def C.blk : LO := C.blk_b
def C.blk_w := pO C.blk.eq_1
def C.ckb : ICode := .keep [0, 3, 4, 5, 12, 13, 24] (.cond (X.s 24) (.region C.blk) .skip)
def C.ckb_w := pC C.ckb.eq_1
def C.blj_b : LO := [
 X.m 23 5,
 X.o 24 (.bin .neq (X.s 23) (.cst (.int .u8 0)))]
def C.blj : LO := C.blj_b
def C.blj_w := pO C.blj.eq_1
def C.ckc : ICode := .keep [0, 3, 4, 5, 12, 13] (.seq (.region C.blj) C.ckb)
def C.ckc_w := pC C.ckc.eq_1
def C.blh_b : LO := [
 X.m 16 0,
 X.o 17 (.nilchk (X.s 16)),
 X.o 18 (.fldAddr 0 (X.s 17)),
 X.o 19 (.load1 (X.s 18)),
 X.m 20 4,
 X.o 21 (.idxAddr 7 (X.s 19) (X.s 20)),
 X.o 22 (.call F.q103 [X.s 21]),
 X.m 5 22]
def C.blh : LO := C.blh_b
def C.blh_w := pO C.blh.eq_1
def C.ckd : ICode := .keep [0, 3, 4, 12, 13] (.seq (.region C.blh) C.ckc)
def C.ckd_w := pC C.ckd.eq_1
def C.blg_b : LO := [
 X.m 15 13,
 X.m 4 15]
def C.blg : LO := C.blg_b
def C.blg_w := pO C.blg.eq_1
def C.cj1 : ICode := .seq (.region C.blg) C.ckd
def C.cj1_w := pC C.cj1.eq_1
def C.ckf : ICode := .keep [0, 3, 12, 13] (.seq (.block 1 C.cj1) C.cj9)
def C.ckf_w := pC C.ckf.eq_1
def C.ckg : ICode := .keep [0, 3, 12, 13, 14] (.seq (.cond (X.s 14) .skip (.exit 0)) C.ckf)
def C.ckg_w := pC C.ckg.eq_1
def C.blf_b : LO := [
 X.o 14 (.bin .lss (X.s 13) (X.s 12))]
def C.blf : LO := C.blf_b
def C.blf_w := pO C.blf.eq_1
def C.clz : ICode := .keep [0, 3, 12, 13] (.seq (.region C.blf) C.ckg)
def C.clz_w := pC C.clz.eq_1
def C.cj0 : ICode := .loop C.clz
def C.cj0_w := pC C.cj0.eq_1
def C.cj3 : ICode := .keep [0, 3, 12, 13] (.block 0 C.cj0)
def C.cj3_w := pC C.cj3.eq_1
def C.bld_b : LO := [
 X.m 8 0,
 X.o 9 (.nilchk (X.s 8)),
 X.o 10 (.fldAddr 0 (X.s 9)),
 X.o 11 (.load1 (X.s 10)),
 X.o 12 (.len (X.s 11)),
 X.o 13 (.move (X.i 0))]
def C.bld : LO := C.bld_b
def C.bld_w := pO C.bld.eq_1
def C.cj4 : ICode := .keep [0, 3] (.seq (.seq (.region C.bld) C.cj3) C.cj2)
def C.cj4_w := pC C.cj4.eq_1
def C.blc_b : LO := [
 X.o 3 (.move (.cst (.nils)))]
def C.blc : LO := C.blc_b
def C.blc_w := pO C.blc.eq_1
def C.cj5 : ICode := .keep [0] (.seq (.region C.blc) C.cj4)
def C.cj5_w := pC C.cj5.eq_1
def C.blb_b : LO := [
 X.o 2 (.move (.cst (.nils)))]
def C.blb : LO := C.blb_b
def C.blb_w := pO C.blb.eq_1
def C.cj6 : ICode := .seq (.region C.blb) .ret
def C.cj6_w := pC C.cj6.eq_1
def C.cj7 : ICode := .keep [0, 7] (.cond (X.s 7) C.cj6 .skip)
def C.cj7_w := pC C.cj7.eq_1
def C.bk7_b : LO := [
 X.m 6 0,
 X.o 7 (.eqP 0 false (X.s 6) (.cst (.nilp)))]
def C.bk7 : LO := C.bk7_b
def C.bk7_w := pO C.bk7.eq_1
def C.cj8 : ICode := .keep [0] (.seq (.seq (.region C.bk7) C.cj7) C.cj5)
def C.cj8_w := pC C.cj8.eq_1
def C.bk6_b : LO := [
 X.o 2 (.move (.cst (.nils)))]
def C.bk6 : LO := C.bk6_b
def C.bk6_w := pO C.bk6.eq_1
def C.q98 : IFunc := ⟨1, [.slot 2], .seq (.region C.bk6) C.cj8⟩
def C.q98_W := aI (aI (aI (aI @C.bk9_w (aI @C.cj2_w @C.bk8_w)) (aI @C.cj9_w (aI @C.blk_w @C.ckb_w))) (aI (aI @C.blj_w (aI @C.ckc_w @C.blh_w)) (aI (aI @C.ckd_w @C.blg_w) (aI @C.cj1_w @C.ckf_w)))) (aI (aI (aI @C.ckg_w (aI @C.blf_w @C.cj0_w)) (aI (aI @C.cj3_w @C.bld_w) (aI @C.cj4_w @C.blc_w))) (aI (aI @C.cj5_w (aI @C.blb_w @C.cj6_w)) (aI (aI @C.cj7_w @C.bk7_w) (aI @C.cj8_w @C.bk6_w))))
def C.q98_B := aI (aI (aI @C.bk9_b.eq_1 (aI @C.bk8_b.eq_1 @C.blk_b.eq_1)) (aI @C.blj_b.eq_1 (aI @C.blh_b.eq_1 @C.blg_b.eq_1))) (aI (aI @C.blf_b.eq_1 (aI @C.bld_b.eq_1 @C.blc_b.eq_1)) (aI @C.blb_b.eq_1 (aI @C.bk7_b.eq_1 @C.bk6_b.eq_1)))

def C.bk0_b : LO := [
 X.o 2 (.move (.cst (.nilf)))]
def C.bk0 : LO := C.bk0_b
def C.bk0_w := pO C.bk0.eq_1
def C.cjg : ICode := .keep [] (.seq (.region C.bk0) .ret)
def C.cjg_w := pC C.cjg.eq_1
def C.bkv_b : LO := [
 X.o 2 (.move (.fnc F.q113))]
def C.bkv : LO := C.bkv_b
def C.bkv_w := pO C.bkv.eq_1
def C.bkx_b : LO := [
 X.o 2 (.move (.fnc F.q111))]
def C.bkx : LO := C.bkx_b
def C.bkx_w := pO C.bkx.eq_1
def C.bkz_b : LO := [
 X.o 2 (.move (.fnc F.q107))]
def C.bkz : LO := C.bkz_b
def C.bkz_w := pO C.bkz.eq_1
def C.cjl : ICode := .seq (.region C.bkz) .ret
def C.cjl_w := pC C.cjl.eq_1
def C.cjm : ICode := .keep [8] (.cond (X.s 8) C.cjl .skip)
def C.cjm_w := pC C.cjm.eq_1
def C.bkq_b : LO := [
 X.o 10 (.bin .eql (X.s 3) (.cst (.int .u8 110))),
 X.m 8 10]
def C.bkq : LO := C.bkq_b
def C.bkq_w := pO C.bkq.eq_1
def C.cjn : ICode := .keep [3, 8] (.cond (X.s 8) .skip (.region C.bkq))
def C.cjn_w := pC C.cjn.eq_1
def C.bky_b : LO := [
 X.o 9 (.bin .eql (X.s 3) (.cst (.int .u8 108))),
 X.m 8 9]
def C.bky : LO := C.bky_b
def C.bky_w := pO C.bky.eq_1
def C.cjp : ICode := .seq (.region C.bkx) .ret
def C.cjp_w := pC C.cjp.eq_1
def C.cjr : ICode := .seq (.seq (.region C.bky) C.cjn) C.cjm
def C.cjr_w := pC C.cjr.eq_1
def C.cjs : ICode := .keep [3, 6] (.cond (X.s 6) C.cjp C.cjr)
def C.cjs_w := pC C.cjs.eq_1
def C.bkw_b : LO := [
 X.o 7 (.bin .eql (X.s 3) (.cst (.int .u8 114))),
 X.m 6 7]
def C.bkw : LO := C.bkw_b
def C.bkw_w := pO C.bkw.eq_1
def C.cjt : ICode := .seq (.region C.bkv) .ret
def C.cjt_w := pC C.cjt.eq_1
def C.cjv : ICode := .seq (.region C.bkw) C.cjs
def C.cjv_w := pC C.cjv.eq_1
def C.cjh : ICode := .keep [3, 4] (.cond (X.s 4) C.cjt C.cjv)
def C.cjh_w := pC C.cjh.eq_1
def C.bkt_b : LO := [
 X.o 5 (.bin .eql (X.s 3) (.cst (.int .u8 115))),
 X.m 4 5]
def C.bkt : LO := C.bkt_b
def C.bkt_w := pO C.bkt.eq_1
def C.cjf : ICode := .seq (.region C.bkt) C.cjh
def C.cjf_w := pC C.cjf.eq_1
def C.cjj : ICode := .keep [3] (.block 0 C.cjf)
def C.cjj_w := pC C.cjj.eq_1
def C.bks_b : LO := [
 X.m 3 0]
def C.bks : LO := C.bks_b
def C.bks_w := pO C.bks.eq_1
def C.cjk : ICode := .keep [0] (.seq (.seq (.region C.bks) C.cjj) C.cjg)
def C.cjk_w := pC C.cjk.eq_1
def C.bkr_b : LO := [
 X.o 2 (.move (.cst (.nilf)))]
def C.bkr : LO := C.bkr_b
def C.bkr_w := pO C.bkr.eq_1
def C.q96 : IFunc := ⟨1, [.slot 2], .seq (.region C.bkr) C.cjk⟩
def C.q96_W := aI (aI (aI (aI @C.bk0_w @C.cjg_w) (aI @C.bkv_w (aI @C.bkx_w @C.bkz_w))) (aI (aI @C.cjl_w (aI @C.cjm_w @C.bkq_w)) (aI @C.cjn_w (aI @C.bky_w @C.cjp_w)))) (aI (aI (aI @C.cjr_w (aI @C.cjs_w @C.bkw_w)) (aI @C.cjt_w (aI @C.cjv_w @C.cjh_w))) (aI (aI @C.bkt_w (aI @C.cjf_w @C.cjj_w)) (aI @C.bks_w (aI @C.cjk_w @C.bkr_w))))
def C.q96_B := aI (aI (aI @C.bk0_b.eq_1 @C.bkv_b.eq_1) (aI @C.bkx_b.eq_1 (aI @C.bkz_b.eq_1 @C.bkq_b.eq_1))) (aI (aI @C.bky_b.eq_1 @C.bkw_b.eq_1) (aI @C.bkt_b.eq_1 (aI @C.bks_b.eq_1 @C.bkr_b.eq_1)))

def C.tn_b : LO := [
 X.m 55 3,
 X.m 2 55]
def C.tn : LO := C.tn_b
def C.tn_w := pO C.tn.eq_1
def C.b35 : ICode := .keep [3] (.seq (.region C.tn) .ret)
def C.b35_w := pC C.b35.eq_1
def C.f0_b : LO := [
 X.o 54 (.bin .add (X.s 14) (X.i 1)),
 X.m 14 54]
def C.f0 : LO := C.f0_b
def C.f0_w := pO C.f0.eq_1
def C.bnf : ICode := .keep [0, 3, 13, 14] (.region C.f0)
def C.bnf_w := pC C.bnf.eq_1
def C.tm_b : LO := [
 X.m 48 0,
 X.o 49 (.nilchk (X.s 48)),
 X.o 50 (.fldAddr 0 (X.s 49)),
 X.o 51 (.load1 (X.s 50)),
 X.m 52 4,
 X.o 53 (.loadN 4 (X.s 5)),
 X.n (.mapSet (X.s 51) (X.s 52) (X.s 53))]
def C.tm : LO := C.tm_b
def C.tm_w := pO C.tm.eq_1
def C.b4d : ICode := .keep [0, 3, 4, 5, 13, 14] (.region C.tm)
def C.b4d_w := pC C.b4d.eq_1
def C.fx_b : LO := [
 X.o 36 (.fldAddr 1 (X.s 5)),
 X.o 37 (.load1 (X.s 36)),
 X.o 38 (.bin .sub (X.s 37) (X.i 1)),
 X.o 39 (.fldAddr 1 (X.s 5)),
 X.n (.store1 (X.s 39) (X.s 38))]
def C.fx : LO := C.fx_b
def C.fx_w := pO C.fx.eq_1
def C.fz_b : LO := [
 X.m 44 3,
 X.m 45 4,
 X.o 46 (.buildSlice 1 1 [.int .i64 0] [(0, 1, X.s 45)]),
 X.o 47 (.append 1 8 (X.s 44) (X.s 46)),
 X.m 3 47]
def C.fz : LO := C.fz_b
def C.fz_w := pO C.fz.eq_1
def C.bng : ICode := .keep [0, 3, 4, 5, 13, 14] (.region C.fz)
def C.bng_w := pC C.bng.eq_1
def C.fq_b : LO := [
 X.o 42 (.fldAddr 2 (X.s 5)),
 X.n (.store1 (X.s 42) (.cst (.bool false))),
 X.o 43 (.fldAddr 3 (X.s 5)),
 X.n (.store1 (X.s 43) (.cst (.bool false)))]
def C.fq : LO := C.fq_b
def C.fq_w := pO C.fq.eq_1
def C.bnh : ICode := .seq (.region C.fq) C.bng
def C.bnh_w := pC C.bnh.eq_1
def C.bnj : ICode := .keep [0, 3, 4, 5, 13, 14, 41] (.cond (X.s 41) C.bnh .skip)
def C.bnj_w := pC C.bnj.eq_1
def C.fy_b : LO := [
 X.o 40 (.fldAddr 3 (X.s 5)),
 X.o 41 (.load1 (X.s 40))]
def C.fy : LO := C.fy_b
def C.fy_w := pO C.fy.eq_1
def C.bnk : ICode := .seq (.region C.fy) C.bnj
def C.bnk_w := pC C.bnk.eq_1
def C.bnl : ICode := .keep [0, 3, 4, 5, 13, 14, 35] (.cond (X.s 35) (.region C.fx) C.bnk)
def C.bnl_w := pC C.bnl.eq_1
def C.f5_b : LO := [
 X.o 33 (.fldAddr 1 (X.s 5)),
 X.o 34 (.load1 (X.s 33)),
 X.o 35 (.bin .gtr (X.s 34) (X.i 0))]
def C.f5 : LO := C.f5_b
def C.f5_w := pO C.f5.eq_1
def C.bnm : ICode := .keep [0, 3, 4, 5, 13, 14] (.seq (.seq (.region C.f5) C.bnl) C.b4d)
def C.bnm_w := pC C.bnm.eq_1
def C.bm8 : ICode := .keep [0, 3, 4, 5, 13, 14, 32] (.cond (X.s 32) (.exit 1) .skip)
def C.bm8_w := pC C.bm8.eq_1
def C.f4_b : LO := [
 X.m 26 6,
 X.o 27 (.un .not (X.s 26)),
 X.m 28 27,
 X.f 28 29 (.fldAddr 2 (X.s 5)),
 X.f 28 30 (.load1 (X.s 29)),
 X.f 28 31 (.un .not (X.s 30)),
 X.o 32 (.pick (X.s 28) (.cst (.bool true)) (X.s 31))]
def C.f4 : LO := C.f4_b
def C.f4_w := pO C.f4.eq_1
def C.bm9 : ICode := .keep [0, 3, 4, 5, 6, 13, 14] (.seq (.seq (.region C.f4) C.bm8) C.bnm)
def C.bm9_w := pC C.bm9.eq_1
def C.f3_b : LO := [
 X.m 18 0,
 X.o 19 (.nilchk (X.s 18)),
 X.o 20 (.fldAddr 0 (X.s 19)),
 X.o 21 (.load1 (X.s 20)),
 X.m 22 4,
 X.o 23 (.lookup (.agg [.int .i64 0, .int .i64 0, .bool false, .bool false]) true (X.s 21) (X.s 22)),
 X.m 17 23,
 X.o 24 (.extract (X.s 17) 0),
 X.o 25 (.extract (X.s 17) 1),
 X.o 5 (.alloc [.int .i64 0, .int .i64 0, .bool false, .bool false]),
 X.n (.storeN 4 (X.s 5) (X.s 24)),
 X.m 6 25]
def C.f3 : LO := C.f3_b
def C.f3_w := pO C.f3.eq_1
def C.bnb : ICode := .keep [0, 3, 4, 13, 14] (.seq (.region C.f3) C.bm9)
def C.bnb_w := pC C.bnb.eq_1
def C.f2_b : LO := [
 X.m 16 14,
 X.m 4 16]
def C.f2 : LO := C.f2_b
def C.f2_w := pO C.f2.eq_1
def C.bm7 : ICode := .seq (.region C.f2) C.bnb
def C.bm7_w := pC C.bm7.eq_1
def C.bnc : ICode := .keep [0, 3, 13, 14] (.seq (.block 1 C.bm7) C.bnf)
def C.bnc_w := pC C.bnc.eq_1
def C.bnd : ICode := .keep [0, 3, 13, 14, 15] (.seq (.cond (X.s 15) .skip (.exit 0)) C.bnc)
def C.bnd_w := pC C.bnd.eq_1
def C.f1_b : LO := [
 X.o 15 (.bin .lss (X.s 14) (X.s 13))]
def C.f1 : LO := C.f1_b
def C.f1_w := pO C.f1.eq_1
def C.ckm : ICode := .keep [0, 3, 13, 14] (.seq (.region C.f1) C.bnd)
def C.ckm_w := pC C.ckm.eq_1
def C.b34 : ICode := .loop C.ckm
def C.b34_w := pC C.b34.eq_1
def C.b36 : ICode := .keep [0, 3, 13, 14] (.block 0 C.b34)
def C.b36_w := pC C.b36.eq_1
def C.ts_b : LO := [
 X.m 9 0,
 X.o 10 (.nilchk (X.s 9)),
 X.o 11 (.fldAddr 0 (X.s 10)),
 X.o 12 (.load1 (X.s 11)),
 X.o 13 (.mlen (X.s 12)),
 X.o 14 (.move (X.i 0))]
def C.ts : LO := C.ts_b
def C.ts_w := pO C.ts.eq_1
def C.b37 : ICode := .keep [0, 3] (.seq (.seq (.region C.ts) C.b36) C.b35)
def C.b37_w := pC C.b37.eq_1
def C.tr_b : LO := [
 X.o 3 (.move (.cst (.nils)))]
def C.tr : LO := C.tr_b
def C.tr_w := pO C.tr.eq_1
def C.b38 : ICode := .keep [0] (.seq (.region C.tr) C.b37)
def C.b38_w := pC C.b38.eq_1
def C.tp_b : LO := [
 X.o 2 (.move (.cst (.nils)))]
def C.tp : LO := C.tp_b
def C.tp_w := pO C.tp.eq_1
def C.b39 : ICode := .seq (.region C.tp) .ret
def C.b39_w := pC C.b39.eq_1
def C.b4b : ICode := .keep [0, 8] (.cond (X.s 8) C.b39 .skip)
def C.b4b_w := pC C.b4b.eq_1
def C.tl_b : LO := [
 X.m 7 0,
 X.o 8 (.eqP 0 false (X.s 7) (.cst (.nilp)))]
def C.tl : LO := C.tl_b
def C.tl_w := pO C.tl.eq_1
def C.b4c : ICode := .keep [0] (.seq (.seq (.region C.tl) C.b4b) C.b38)
def C.b4c_w := pC C.b4c.eq_1
def C.tk_b : LO := [
 X.o 2 (.move (.cst (.nils)))]
def C.tk : LO := C.tk_b
def C.tk_w := pO C.tk.eq_1
def C.q122 : IFunc := ⟨1, [.slot 2], .seq (.region C.tk) C.b4c⟩
def C.q122_W := aI (aI (aI (aI (aI @C.tn_w @C.b35_w) (aI @C.f0_w @C.bnf_w)) (aI (aI @C.tm_w @C.b4d_w) (aI @C.fx_w (aI @C.fz_w @C.bng_w)))) (aI (aI (aI @C.fq_w @C.bnh_w) (aI @C.bnj_w (aI @C.fy_w @C.bnk_w))) (aI (aI @C.bnl_w @C.f5_w) (aI @C.bnm_w (aI @C.bm8_w @C.f4_w))))) (aI (aI (aI (aI @C.bm9_w @C.f3_w) (aI @C.bnb_w (aI @C.f2_w @C.bm7_w))) (aI (aI @C.bnc_w @C.bnd_w) (aI @C.f1_w (aI @C.b34_w @C.b36_w)))) (aI (aI (aI @C.ts_w @C.b37_w) (aI @C.tr_w (aI @C.b38_w @C.tp_w))) (aI (aI @C.b39_w @C.b4b_w) (aI @C.tl_w (aI @C.b4c_w @C.tk_w)))))
def C.q122_B := aI (aI (aI (aI @C.tn_b.eq_1 @C.f0_b.eq_1) (aI @C.tm_b.eq_1 @C.fx_b.eq_1)) (aI (aI @C.fz_b.eq_1 @C.fq_b.eq_1) (aI @C.fy_b.eq_1 @C.f5_b.eq_1))) (aI (aI (aI @C.f4_b.eq_1 @C.f3_b.eq_1) (aI @C.f2_b.eq_1 @C.f1_b.eq_1)) (aI (aI @C.ts_b.eq_1 @C.tr_b.eq_1) (aI @C.tp_b.eq_1 (aI @C.tl_b.eq_1 @C.tk_b.eq_1))))

def C.v1_b : LO := [
 X.m 21 5,
 X.m 4 21]
def C.v1 : LO := C.v1_b
def C.v1_w := pO C.v1.eq_1
def C.b44 : ICode := .keep [5] (.seq (.region C.v1) .ret)
def C.b44_w := pC C.b44.eq_1
def C.v0_b : LO := [
 X.m 19 5,
 X.o 20 (.call F.q126 [X.s 19])]
def C.v0 : LO := C.v0_b
def C.v0_w := pO C.v0.eq_1
def C.b49 : ICode := .keep [5] (.seq (.region C.v0) C.b44)
def C.b49_w := pC C.b49.eq_1
def C.vq_b : LO := [
 X.m 12 0,
 X.m 13 1,
 X.o 14 (.call F.q24 [X.s 12, X.s 13]),
 X.m 1 14]
def C.vq : LO := C.vq_b
def C.vq_w := pO C.vq.eq_1
def C.b5b : ICode := .keep [0, 1, 5] (.region C.vq)
def C.b5b_w := pC C.b5b.eq_1
def C.vz_b : LO := [
 X.m 15 5,
 X.m 16 1,
 X.o 17 (.buildSlice 1 1 [.int .i64 0] [(0, 1, X.s 16)]),
 X.o 18 (.append 1 8 (X.s 15) (X.s 17)),
 X.m 5 18]
def C.vz : LO := C.vz_b
def C.vz_w := pO C.vz.eq_1
def C.b42 : ICode := .region C.vz
def C.b42_w := pC C.b42.eq_1
def C.b5c : ICode := .keep [0, 1, 5] (.seq (.block 1 C.b42) C.b5b)
def C.b5c_w := pC C.b5c.eq_1
def C.b5d : ICode := .keep [0, 1, 5, 11] (.cond (X.s 11) .skip (.exit 0))
def C.b5d_w := pC C.b5d.eq_1
def C.vy_b : LO := [
 X.m 10 1,
 X.o 11 (.bin .neq (X.s 10) (X.i (-1)))]
def C.vy : LO := C.vy_b
def C.vy_w := pO C.vy.eq_1
def C.ck4 : ICode := .keep [0, 1, 5] (.seq (.seq (.region C.vy) C.b5d) C.b5c)
def C.ck4_w := pC C.ck4.eq_1
def C.b43 : ICode := .loop C.ck4
def C.b43_w := pC C.b43.eq_1
def C.b5f : ICode := .keep [0, 1, 5] (.seq (.block 0 C.b43) C.b49)
def C.b5f_w := pC C.b5f.eq_1
def C.vx_b : LO := [
 X.o 5 (.move (.cst (.nils)))]
def C.vx : LO := C.vx_b
def C.vx_w := pO C.vx.eq_1
def C.b45 : ICode := .keep [0, 1] (.seq (.region C.vx) C.b5f)
def C.b45_w := pC C.b45.eq_1
def C.vw_b : LO := [
 X.o 4 (.move (.cst (.nils)))]
def C.vw : LO := C.vw_b
def C.vw_w := pO C.vw.eq_1
def C.b46 : ICode := .seq (.region C.vw) .ret
def C.b46_w := pC C.b46.eq_1
def C.b47 : ICode := .keep [0, 1, 9] (.cond (X.s 9) C.b46 .skip)
def C.b47_w := pC C.b47.eq_1
def C.vv_b : LO := [
 X.m 6 0,
 X.m 7 1,
 X.o 8 (.call F.q23 [X.s 6, X.s 7]),
 X.o 9 (.eqP 0 false (X.s 8) (.cst (.nilp)))]
def C.vv : LO := C.vv_b
def C.vv_w := pO C.vv.eq_1
def C.b48 : ICode := .keep [0, 1] (.seq (.seq (.region C.vv) C.b47) C.b45)
def C.b48_w := pC C.b48.eq_1
def C.vt_b : LO := [
 X.o 4 (.move (.cst (.nils)))]
def C.vt : LO := C.vt_b
def C.vt_w := pO C.vt.eq_1
def C.q18 : IFunc := ⟨2, [.slot 4], .seq (.region C.vt) C.b48⟩
def C.q18_W := aI (aI (aI (aI @C.v1_w @C.b44_w) (aI @C.v0_w (aI @C.b49_w @C.vq_w))) (aI (aI @C.b5b_w @C.vz_w) (aI @C.b42_w (aI @C.b5c_w @C.b5d_w)))) (aI (aI (aI @C.vy_w @C.b43_w) (aI @C.b5f_w (aI @C.vx_w @C.b45_w))) (aI (aI @C.vw_w (aI @C.b46_w @C.b47_w)) (aI @C.vv_w (aI @C.b48_w @C.vt_w))))
def C.q18_B := aI (aI (aI @C.v1_b.eq_1 @C.v0_b.eq_1) (aI @C.vq_b.eq_1 @C.vz_b.eq_1)) (aI (aI @C.vy_b.eq_1 @C.vx_b.eq_1) (aI @C.vw_b.eq_1 (aI @C.vv_b.eq_1 @C.vt_b.eq_1)))

def C.wc_b : LO := [
 X.o 6 (.move (X.i 0))]
def C.wc : LO := C.wc_b
def C.wc_w := pO C.wc.eq_1
def C.b5g : ICode := .keep [] (.seq (.region C.wc) .ret)
def C.b5g_w := pC C.b5g.eq_1
def C.wb_b : LO := [
 X.m 41 7,
 X.m 42 7,
 X.o 43 (.nilchk (X.s 42)),
 X.o 44 (.fldAddr 0 (X.s 43)),
 X.o 45 (.fldAddr 5 (X.s 44)),
 X.o 46 (.load1 (X.s 45)),
 X.o 47 (.nilchk (X.s 41)),
 X.o 48 (.fldAddr 7 (X.s 47)),
 X.n (.store1 (X.s 48) (X.s 46))]
def C.wb : LO := C.wb_b
def C.wb_w := pO C.wb.eq_1
def C.b5k : ICode := .keep [7, 40] (.cond (X.s 40) (.region C.wb) .skip)
def C.b5k_w := pC C.b5k.eq_1
def C.v9_b : LO := [
 X.m 31 7,
 X.o 32 (.nilchk (X.s 31)),
 X.o 33 (.fldAddr 0 (X.s 32)),
 X.o 34 (.fldAddr 0 (X.s 33)),
 X.o 35 (.load1 (X.s 34)),
 X.o 36 (.bin .eql (X.s 35) (.cst (.int .u8 112))),
 X.m 37 36,
 X.t 37 38 (.move (X.s 2)),
 X.t 37 39 (.un .not (X.s 38)),
 X.o 40 (.pick (X.s 37) (X.s 39) (.cst (.bool false)))]
def C.v9 : LO := C.v9_b
def C.v9_w := pO C.v9.eq_1
def C.b5l : ICode := .keep [2, 7] (.seq (.seq (.region C.v9) C.b5k) C.b5g)
def C.b5l_w := pC C.b5l.eq_1
def C.v8_b : LO := [
 X.m 27 7,
 X.m 28 2,
 X.o 29 (.nilchk (X.s 27)),
 X.o 30 (.fldAddr 6 (X.s 29)),
 X.n (.store1 (X.s 30) (X.s 28))]
def C.v8 : LO := C.v8_b
def C.v8_w := pO C.v8.eq_1
def C.b5m : ICode := .keep [2, 7] (.seq (.region C.v8) C.b5l)
def C.b5m_w := pC C.b5m.eq_1
def C.v7_b : LO := [
 X.o 6 (.move (X.i 1))]
def C.v7 : LO := C.v7_b
def C.v7_w := pO C.v7.eq_1
def C.b5n : ICode := .seq (.region C.v7) .ret
def C.b5n_w := pC C.b5n.eq_1
def C.b5p : ICode := .keep [2, 7, 26] (.cond (X.s 26) C.b5n .skip)
def C.b5p_w := pC C.b5p.eq_1
def C.v6_b : LO := [
 X.m 13 7,
 X.o 14 (.nilchk (X.s 13)),
 X.o 15 (.fldAddr 0 (X.s 14)),
 X.o 16 (.fldAddr 0 (X.s 15)),
 X.o 17 (.load1 (X.s 16)),
 X.o 18 (.bin .neq (X.s 17) (.cst (.int .u8 112))),
 X.m 19 18,
 X.t 19 20 (.move (X.s 7)),
 X.t 19 21 (.nilchk (X.s 20)),
 X.t 19 22 (.fldAddr 0 (X.s 21)),
 X.t 19 23 (.fldAddr 0 (X.s 22)),
 X.t 19 24 (.load1 (X.s 23)),
 X.t 19 25 (.bin .neq (X.s 24) (.cst (.int .u8 103))),
 X.o 26 (.pick (X.s 19) (X.s 25) (.cst (.bool false)))]
def C.v6 : LO := C.v6_b
def C.v6_w := pO C.v6.eq_1
def C.b5r : ICode := .keep [2, 7] (.seq (.seq (.region C.v6) C.b5p) C.b5m)
def C.b5r_w := pC C.b5r.eq_1
def C.v5_b : LO := [
 X.o 6 (.move (X.i 4))]
def C.v5 : LO := C.v5_b
def C.v5_w := pO C.v5.eq_1
def C.b5s : ICode := .seq (.region C.v5) .ret
def C.b5s_w := pC C.b5s.eq_1
def C.b5t : ICode := .keep [2, 7, 12] (.cond (X.s 12) C.b5s .skip)
def C.b5t_w := pC C.b5t.eq_1
def C.v4_b : LO := [
 X.m 11 7,
 X.o 12 (.eqP 0 false (X.s 11) (.cst (.nilp)))]
def C.v4 : LO := C.v4_b
def C.v4_w := pO C.v4.eq_1
def C.b5h : ICode := .keep [2, 7] (.seq (.seq (.region C.v4) C.b5t) C.b5r)
def C.b5h_w := pC C.b5h.eq_1
def C.v3_b : LO := [
 X.m 8 0,
 X.m 9 1,
 X.o 10 (.call F.q23 [X.s 8, X.s 9]),
 X.m 7 10]
def C.v3 : LO := C.v3_b
def C.v3_w := pO C.v3.eq_1
def C.b5j : ICode := .keep [0, 1, 2] (.seq (.region C.v3) C.b5h)
def C.b5j_w := pC C.b5j.eq_1
def C.v2_b : LO := [
 X.o 6 (.move (X.i 0))]
def C.v2 : LO := C.v2_b
def C.v2_w := pO C.v2.eq_1
def C.q19 : IFunc := ⟨3, [.slot 6], .seq (.region C.v2) C.b5j⟩
def C.q19_W := aI (aI (aI (aI @C.wc_w @C.b5g_w) (aI @C.wb_w (aI @C.b5k_w @C.v9_w))) (aI (aI @C.b5l_w @C.v8_w) (aI @C.b5m_w (aI @C.v7_w @C.b5n_w)))) (aI (aI (aI @C.b5p_w @C.v6_w) (aI @C.b5r_w (aI @C.v5_w @C.b5s_w))) (aI (aI @C.b5t_w (aI @C.v4_w @C.b5h_w)) (aI @C.v3_w (aI @C.b5j_w @C.v2_w))))
def C.q19_B := aI (aI (aI @C.wc_b.eq_1 @C.wb_b.eq_1) (aI @C.v9_b.eq_1 (aI @C.v8_b.eq_1 @C.v7_b.eq_1))) (aI (aI @C.v6_b.eq_1 @C.v5_b.eq_1) (aI @C.v4_b.eq_1 (aI @C.v3_b.eq_1 @C.v2_b.eq_1)))

def C.wt_b : LO := [
 X.o 11 (.load1 (X.s 5)),
 X.m 12 1,
 X.o 13 (.callv (X.s 11) [X.s 12]),
 X.m 4 13]
def C.wt : LO := C.wt_b
def C.wt_w := pO C.wt.eq_1
def C.b52 : ICode := .keep [1, 5] (.seq (.region C.wt) .ret)
def C.b52_w := pC C.b52.eq_1
def C.ws_b : LO := [
 X.o 10 (.makeFunc F.q21 [X.s 2, X.s 5]),
 X.n (.store1 (X.s 5) (X.s 10))]
def C.ws : LO := C.ws_b
def C.ws_w := pO C.ws.eq_1
def C.b53 : ICode := .keep [1, 2, 5] (.seq (.region C.ws) C.b52)
def C.b53_w := pC C.b53.eq_1
def C.wr_b : LO := [
 X.o 5 (.alloc [.nilf])]
def C.wr : LO := C.wr_b
def C.wr_w := pO C.wr.eq_1
def C.b54 : ICode := .keep [1, 2] (.seq (.region C.wr) C.b53)
def C.b54_w := pC C.b54.eq_1
def C.wp_b : LO := [
 X.o 4 (.move (.cst (.bool false)))]
def C.wp : LO := C.wp_b
def C.wp_w := pO C.wp.eq_1
def C.b55 : ICode := .seq (.region C.wp) .ret
def C.b55_w := pC C.b55.eq_1
def C.b56 : ICode := .keep [1, 2, 9] (.cond (X.s 9) C.b55 .skip)
def C.b56_w := pC C.b56.eq_1
def C.wn_b : LO := [
 X.o 6 (.load1 (X.s 2)),
 X.m 7 1,
 X.o 8 (.call F.q23 [X.s 6, X.s 7]),
 X.o 9 (.eqP 0 false (X.s 8) (.cst (.nilp)))]
def C.wn : LO := C.wn_b
def C.wn_w := pO C.wn.eq_1
def C.b57 : ICode := .keep [1, 2] (.seq (.seq (.region C.wn) C.b56) C.b54)
def C.b57_w := pC C.b57.eq_1
def C.wm_b : LO := [
 X.o 2 (.box1 (X.s 0)),
 X.o 4 (.move (.cst (.bool false)))]
def C.wm : LO := C.wm_b
def C.wm_w := pO C.wm.eq_1
def C.q20 : IFunc := ⟨2, [.slot 4], .seq (.region C.wm) C.b57⟩
def C.q20_W := aI (aI (aI @C.wt_w (aI @C.b52_w @C.ws_w)) (aI @C.b53_w (aI @C.wr_w @C.b54_w))) (aI (aI @C.wp_w (aI @C.b55_w @C.b56_w)) (aI @C.wn_w (aI @C.b57_w @C.wm_w)))
def C.q20_B := aI (aI @C.wt_b.eq_1 (aI @C.ws_b.eq_1 @C.wr_b.eq_1)) (aI @C.wp_b.eq_1 (aI @C.wn_b.eq_1 @C.wm_b.eq_1))

def C.bk5_b : LO := [
 X.m 11 5,
 X.o 12 (.nilchk (X.s 11)),
 X.o 13 (.fldAddr 3 (X.s 12)),
 X.o 14 (.load1 (X.s 13)),
 X.m 4 14]
def C.bk5 : LO := C.bk5_b
def C.bk5_w := pO C.bk5.eq_1
def C.cjw : ICode := .keep [5] (.seq (.region C.bk5) .ret)
def C.cjw_w := pC C.cjw.eq_1
def C.bk4_b : LO := [
 X.o 4 (.move (.cst (.int .u8 0)))]
def C.bk4 : LO := C.bk4_b
def C.bk4_w := pO C.bk4.eq_1
def C.cjx : ICode := .seq (.region C.bk4) .ret
def C.cjx_w := pC C.cjx.eq_1
def C.cjy : ICode := .keep [5, 10] (.cond (X.s 10) C.cjx .skip)
def C.cjy_w := pC C.cjy.eq_1
def C.bk3_b : LO := [
 X.m 9 5,
 X.o 10 (.eqP 0 false (X.s 9) (.cst (.nilp)))]
def C.bk3 : LO := C.bk3_b
def C.bk3_w := pO C.bk3.eq_1
def C.cjq : ICode := .keep [5] (.seq (.seq (.region C.bk3) C.cjy) C.cjw)
def C.cjq_w := pC C.cjq.eq_1
def C.bk2_b : LO := [
 X.m 6 0,
 X.m 7 1,
 X.o 8 (.call F.q100 [X.s 6, X.s 7]),
 X.m 5 8]
def C.bk2 : LO := C.bk2_b
def C.bk2_w := pO C.bk2.eq_1
def C.cjz : ICode := .keep [0, 1] (.seq (.region C.bk2) C.cjq)
def C.cjz_w := pC C.cjz.eq_1
def C.bk1_b : LO := [
 X.o 4 (.move (.cst (.int .u8 0)))]
def C.bk1 : LO := C.bk1_b
def C.bk1_w := pO C.bk1.eq_1
def C.q97 : IFunc := ⟨2, [.slot 4], .seq (.region C.bk1) C.cjz⟩
def C.q97_W := aI (aI (aI @C.bk5_w @C.cjw_w) (aI @C.bk4_w (aI @C.cjx_w @C.cjy_w))) (aI (aI @C.bk3_w @C.cjq_w) (aI @C.bk2_w (aI @C.cjz_w @C.bk1_w)))
def C.q97_B := aI (aI @C.bk5_b.eq_1 @C.bk4_b.eq_1) (aI @C.bk3_b.eq_1 (aI @C.bk2_b.eq_1 @C.bk1_b.eq_1))

def C.s9_b : LO := [
 X.m 13 6,
 X.o 14 (.un .not (X.s 13)),
 X.m 15 14,
 X.f 15 16 (.fldAddr 2 (X.s 5)),
 X.f 15 17 (.load1 (X.s 16)),
 X.o 18 (.pick (X.s 15) (.cst (.bool true)) (X.s 17)),
 X.m 4 18]
def C.s9 : LO := C.s9_b
def C.s9_w := pO C.s9.eq_1
def C.b3v : ICode := .keep [5, 6] (.seq (.region C.s9) .ret)
def C.b3v_w := pC C.b3v.eq_1
def C.cc_b : LO := [
 X.m 8 0,
 X.m 9 1,
 X.o 10 (.call F.q123 [X.s 8, X.s 9]),
 X.m 7 10,
 X.o 11 (.extract (X.s 7) 0),
 X.o 12 (.extract (X.s 7) 1),
 X.o 5 (.alloc [.int .i64 0, .int .i64 0, .bool false, .bool false]),
 X.n (.storeN 4 (X.s 5) (X.s 11)),
 X.m 6 12]
def C.cc : LO := C.cc_b
def C.cc_w := pO C.cc.eq_1
def C.blp : ICode := .keep [0, 1] (.seq (.region C.cc) C.b3v)
def C.blp_w := pC C.blp.eq_1
def C.cb_b : LO := [
 X.o 4 (.move (.cst (.bool false)))]
def C.cb : LO := C.cb_b
def C.cb_w := pO C.cb.eq_1
def C.q120 : IFunc := ⟨2, [.slot 4], .seq (.region C.cb) C.blp⟩
def C.q120_W := aI (aI @C.s9_w @C.b3v_w) (aI @C.cc_w (aI @C.blp_w @C.cb_w))
def C.q120_B := aI @C.s9_b.eq_1 (aI @C.cc_b.eq_1 @C.cb_b.eq_1)

def C.bdf_b : LO := [
 X.o 2 (.move (X.i 0))]
def C.bdf : LO := C.bdf_b
def C.bdf_w := pO C.bdf.eq_1
def C.cbf : ICode := .keep [] (.seq (.region C.bdf) .ret)
def C.cbf_w := pC C.cbf.eq_1
def C.bdd_b : LO := [
 X.o 17 (.bin .add (X.s 8) (X.i 1)),
 X.m 8 17]
def C.bdd : LO := C.bdd_b
def C.bdd_w := pO C.bdd.eq_1
def C.cbj : ICode := .keep [6, 7, 8] (.region C.bdd)
def C.cbj_w := pC C.cbj.eq_1
def C.bdc_b : LO := [
 X.m 16 5,
 X.m 2 16]
def C.bdc : LO := C.bdc_b
def C.bdc_w := pO C.bdc.eq_1
def C.cbk : ICode := .seq (.region C.bdc) .ret
def C.cbk_w := pC C.cbk.eq_1
def C.cbl : ICode := .keep [5, 6, 7, 8, 15] (.cond (X.s 15) C.cbk .skip)
def C.cbl_w := pC C.cbl.eq_1
def C.bdb_b : LO := [
 X.m 14 5,
 X.o 15 (.bin .neq (X.s 14) (X.i 0))]
def C.bdb : LO := C.bdb_b
def C.bdb_w := pO C.bdb.eq_1
def C.cbm : ICode := .keep [5, 6, 7, 8] (.seq (.region C.bdb) C.cbl)
def C.cbm_w := pC C.cbm.eq_1
def C.bc9_b : LO := [
 X.m 12 4,
 X.o 13 (.callv (X.s 12) []),
 X.m 5 13]
def C.bc9 : LO := C.bc9_b
def C.bc9_w := pO C.bc9.eq_1
def C.cbn : ICode := .keep [4, 6, 7, 8] (.seq (.region C.bc9) C.cbm)
def C.cbn_w := pC C.cbn.eq_1
def C.bc8_b : LO := [
 X.o 10 (.idxAddr 1 (X.s 6) (X.s 8)),
 X.o 11 (.load1 (X.s 10)),
 X.m 4 11]
def C.bc8 : LO := C.bc8_b
def C.bc8_w := pO C.bc8.eq_1
def C.cbd : ICode := .seq (.region C.bc8) C.cbn
def C.cbd_w := pC C.cbd.eq_1
def C.cbp : ICode := .keep [6, 7, 8] (.seq (.block 1 C.cbd) C.cbj)
def C.cbp_w := pC C.cbp.eq_1
def C.cbr : ICode := .keep [6, 7, 8, 9] (.seq (.cond (X.s 9) .skip (.exit 0)) C.cbp)
def C.cbr_w := pC C.cbr.eq_1
def C.bc7_b : LO := [
 X.o 9 (.bin .lss (X.s 8) (X.s 7))]
def C.bc7 : LO := C.bc7_b
def C.bc7_w := pO C.bc7.eq_1
def C.clk : ICode := .keep [6, 7, 8] (.seq (.region C.bc7) C.cbr)
def C.clk_w := pC C.clk.eq_1
def C.cbc : ICode := .loop C.clk
def C.cbc_w := pC C.cbc.eq_1
def C.cbg : ICode := .keep [6, 7, 8] (.block 0 C.cbc)
def C.cbg_w := pC C.cbg.eq_1
def C.bc6_b : LO := [
 X.m 6 0,
 X.o 7 (.len (X.s 6)),
 X.o 8 (.move (X.i 0))]
def C.bc6 : LO := C.bc6_b
def C.bc6_w := pO C.bc6.eq_1
def C.cbh : ICode := .keep [0] (.seq (.seq (.region C.bc6) C.cbg) C.cbf)
def C.cbh_w := pC C.cbh.eq_1
def C.bc5_b : LO := [
 X.o 2 (.move (X.i 0))]
def C.bc5 : LO := C.bc5_b
def C.bc5_w := pO C.bc5.eq_1
def C.q61 : IFunc := ⟨1, [.slot 2], .seq (.region C.bc5) C.cbh⟩
def C.q61_W := aI (aI (aI (aI @C.bdf_w @C.cbf_w) (aI @C.bdd_w (aI @C.cbj_w @C.bdc_w))) (aI (aI @C.cbk_w @C.cbl_w) (aI @C.bdb_w (aI @C.cbm_w @C.bc9_w)))) (aI (aI (aI @C.cbn_w @C.bc8_w) (aI @C.cbd_w (aI @C.cbp_w @C.cbr_w))) (aI (aI @C.bc7_w (aI @C.cbc_w @C.cbg_w)) (aI @C.bc6_w (aI @C.cbh_w @C.bc5_w))))
def C.q61_B := aI (aI (aI @C.bdf_b.eq_1 @C.bdd_b.eq_1) (aI @C.bdc_b.eq_1 @C.bdb_b.eq_1)) (aI (aI @C.bc9_b.eq_1 @C.bc8_b.eq_1) (aI @C.bc7_b.eq_1 (aI @C.bc6_b.eq_1 @C.bc5_b.eq_1)))

def C.xl_b : LO := [
 X.o 2 (.loadN 4 (X.s 0)),
 X.o 3 (.call F.q62 [X.s 2]),
 X.m 1 3]
def C.xl : LO := C.xl_b
def C.xl_w := pO C.xl.eq_1
def C.b60 : ICode := .keep [0] (.seq (.region C.xl) .ret)
def C.b60_w := pC C.b60.eq_1
def C.xk_b : LO := [
 X.o 1 (.move (X.i 0))]
def C.xk : LO := C.xk_b
def C.xk_w := pO C.xk.eq_1
def C.q26 : IFunc := ⟨1, [.slot 1], .seq (.region C.xk) C.b60⟩
def C.q26_W := aI @C.xl_w (aI @C.b60_w @C.xk_w)
def C.q26_B := aI @C.xl_b.eq_1 @C.xk_b.eq_1

def C.bdj_b : LO := [
 X.o 25 (.fldAddr 3 (X.s 1)),
 X.o 26 (.load1 (X.s 25)),
 X.o 27 (.call F.q57 [X.s 26, .fnc F.q63]),
 X.m 2 27]
def C.bdj : LO := C.bdj_b
def C.bdj_w := pO C.bdj.eq_1
def C.cbs : ICode := .keep [1] (.seq (.region C.bdj) .ret)
def C.cbs_w := pC C.cbs.eq_1
def C.bdh_b : LO := [
 X.o 2 (.move (X.i 8))]
def C.bdh : LO := C.bdh_b
def C.bdh_w := pO C.bdh.eq_1
def C.cbt : ICode := .seq (.region C.bdh) .ret
def C.cbt_w := pC C.cbt.eq_1
def C.cbv : ICode := .keep [1, 24] (.cond (X.s 24) C.cbt .skip)
def C.cbv_w := pC C.cbv.eq_1
def C.bdg_b : LO := [
 X.o 3 (.fldAddr 0 (X.s 1)),
 X.o 4 (.load1 (X.s 3)),
 X.o 5 (.len (X.s 4)),
 X.o 6 (.bin .gtr (X.s 5) (X.i 12)),
 X.m 7 6,
 X.f 7 8 (.fldAddr 1 (X.s 1)),
 X.f 7 9 (.load1 (X.s 8)),
 X.f 7 10 (.len (X.s 9)),
 X.f 7 11 (.bin .gtr (X.s 10) (X.i 6)),
 X.o 12 (.pick (X.s 7) (.cst (.bool true)) (X.s 11)),
 X.m 13 12,
 X.f 13 14 (.fldAddr 2 (X.s 1)),
 X.f 13 15 (.load1 (X.s 14)),
 X.f 13 16 (.len (X.s 15)),
 X.f 13 17 (.bin .gtr (X.s 16) (X.i 6)),
 X.o 18 (.pick (X.s 13) (.cst (.bool true)) (X.s 17)),
 X.m 19 18,
 X.f 19 20 (.fldAddr 3 (X.s 1)),
 X.f 19 21 (.load1 (X.s 20)),
 X.f 19 22 (.len (X.s 21)),
 X.f 19 23 (.bin .gtr (X.s 22) (X.i 6)),
 X.o 24 (.pick (X.s 19) (.cst (.bool true)) (X.s 23))]
def C.bdg : LO := C.bdg_b
def C.bdg_w := pO C.bdg.eq_1
def C.cbw : ICode := .keep [1] (.seq (.seq (.region C.bdg) C.cbv) C.cbs)
def C.cbw_w := pC C.cbw.eq_1
def C.l8_b : LO := [
 X.o 1 (.boxN (X.s 0)),
 X.o 2 (.move (X.i 0))]
def C.l8 : LO := C.l8_b
def C.l8_w := pO C.l8.eq_1
def C.q62 : IFunc := ⟨1, [.slot 2], .seq (.region C.l8) C.cbw⟩
def C.q62_W := aI (aI (aI @C.bdj_w @C.cbs_w) (aI @C.bdh_w @C.cbt_w)) (aI (aI @C.cbv_w @C.bdg_w) (aI @C.cbw_w @C.l8_w))
def C.q62_B := aI (aI @C.bdj_b.eq_1 @C.bdh_b.eq_1) (aI @C.bdg_b.eq_1 @C.l8_b.eq_1)

def C.xn_b : LO := [
 X.o 2 (.fldAddr 0 (X.s 0)),
 X.o 3 (.load1 (X.s 2)),
 X.o 4 (.makeFunc F.q28 [X.s 0]),
 X.o 5 (.call F.q56 [X.s 3, X.s 4]),
 X.m 1 5]
def C.xn : LO := C.xn_b
def C.xn_w := pO C.xn.eq_1
def C.b61 : ICode := .keep [0] (.seq (.region C.xn) .ret)
def C.b61_w := pC C.b61.eq_1
def C.xm_b : LO := [
 X.o 1 (.move (X.i 0))]
def C.xm : LO := C.xm_b
def C.xm_w := pO C.xm.eq_1
def C.q27 : IFunc := ⟨1, [.slot 1], .seq (.region C.xm) C.b61⟩
def C.q27_W := aI @C.xn_w (aI @C.b61_w @C.xm_w)
def C.q27_B := aI @C.xn_b.eq_1 @C.xm_b.eq_1

def C.ln_b : LO := [
 X.o 4 (.move (X.i 0))]
def C.ln : LO := C.ln_b
def C.ln_w := pO C.ln.eq_1
def C.bxb : ICode := .keep [] (.seq (.region C.ln) .ret)
def C.bxb_w := pC C.bxb.eq_1
def C.lm_b : LO := [
 X.o 20 (.bin .add (X.s 10) (X.i 1)),
 X.m 10 20]
def C.lm : LO := C.lm_b
def C.lm_w := pO C.lm.eq_1
def C.bxf : ICode := .keep [1, 8, 9, 10] (.region C.lm)
def C.bxf_w := pC C.bxf.eq_1
def C.bb7_b : LO := [
 X.m 19 7,
 X.m 4 19]
def C.bb7 : LO := C.bb7_b
def C.bb7_w := pO C.bb7.eq_1
def C.b83 : ICode := .seq (.region C.bb7) .ret
def C.b83_w := pC C.b83.eq_1
def C.b84 : ICode := .keep [1, 7, 8, 9, 10, 18] (.cond (X.s 18) C.b83 .skip)
def C.b84_w := pC C.b84.eq_1
def C.bb6_b : LO := [
 X.m 17 7,
 X.o 18 (.bin .neq (X.s 17) (X.i 0))]
def C.bb6 : LO := C.bb6_b
def C.bb6_w := pO C.bb6.eq_1
def C.b85 : ICode := .keep [1, 7, 8, 9, 10] (.seq (.region C.bb6) C.b84)
def C.b85_w := pC C.b85.eq_1
def C.bb5_b : LO := [
 X.m 14 1,
 X.o 15 (.loadN 6 (X.s 6)),
 X.o 16 (.callv (X.s 14) [X.s 15]),
 X.m 7 16]
def C.bb5 : LO := C.bb5_b
def C.bb5_w := pO C.bb5.eq_1
def C.b86 : ICode := .keep [1, 6, 8, 9, 10] (.seq (.region C.bb5) C.b85)
def C.b86_w := pC C.b86.eq_1
def C.ll_b : LO := [
 X.o 12 (.idxAddr 6 (X.s 8) (X.s 10)),
 X.o 13 (.loadN 6 (X.s 12)),
 X.o 6 (.alloc [.int .u8 0, .nils, .int .u64 0, .int .i64 0, .int .i64 0, .int .i64 0]),
 X.n (.storeN 6 (X.s 6) (X.s 13))]
def C.ll : LO := C.ll_b
def C.ll_w := pO C.ll.eq_1
def C.bw9 : ICode := .seq (.region C.ll) C.b86
def C.bw9_w := pC C.bw9.eq_1
def C.bxg : ICode := .keep [1, 8, 9, 10] (.seq (.block 1 C.bw9) C.bxf)
def C.bxg_w := pC C.bxg.eq_1
def C.bxh : ICode := .keep [1, 8, 9, 10, 11] (.seq (.cond (X.s 11) .skip (.exit 0)) C.bxg)
def C.bxh_w := pC C.bxh.eq_1
def C.lk_b : LO := [
 X.o 11 (.bin .lss (X.s 10) (X.s 9))]
def C.lk : LO := C.lk_b
def C.lk_w := pO C.lk.eq_1
def C.cld : ICode := .keep [1, 8, 9, 10] (.seq (.region C.lk) C.bxh)
def C.cld_w := pC C.cld.eq_1
def C.bw8 : ICode := .loop C.cld
def C.bw8_w := pC C.bw8.eq_1
def C.bxc : ICode := .keep [1, 8, 9, 10] (.block 0 C.bw8)
def C.bxc_w := pC C.bxc.eq_1
def C.lj_b : LO := [
 X.m 8 0,
 X.o 9 (.len (X.s 8)),
 X.o 10 (.move (X.i 0))]
def C.lj : LO := C.lj_b
def C.lj_w := pO C.lj.eq_1
def C.bxd : ICode := .keep [0, 1] (.seq (.seq (.region C.lj) C.bxc) C.bxb)
def C.bxd_w := pC C.bxd.eq_1
def C.lh_b : LO := [
 X.o 4 (.move (X.i 0))]
def C.lh : LO := C.lh_b
def C.lh_w := pO C.lh.eq_1
def C.q56 : IFunc := ⟨2, [.slot 4], .seq (.region C.lh) C.bxd⟩
def C.q56_W := aI (aI (aI (aI @C.ln_w @C.bxb_w) (aI @C.lm_w (aI @C.bxf_w @C.bb7_w))) (aI (aI @C.b83_w @C.b84_w) (aI @C.bb6_w (aI @C.b85_w @C.bb5_w)))) (aI (aI (aI @C.b86_w @C.ll_w) (aI @C.bw9_w (aI @C.bxg_w @C.bxh_w))) (aI (aI @C.lk_w (aI @C.bw8_w @C.bxc_w)) (aI @C.lj_w (aI @C.bxd_w @C.lh_w))))
def C.q56_B := aI (aI (aI @C.ln_b.eq_1 @C.lm_b.eq_1) (aI @C.bb7_b.eq_1 @C.bb6_b.eq_1)) (aI (aI @C.bb5_b.eq_1 @C.ll_b.eq_1) (aI @C.lk_b.eq_1 (aI @C.lj_b.eq_1 @C.lh_b.eq_1)))

def C.xp_b : LO := [
 X.o 4 (.loadN 4 (X.s 1)),
 X.o 5 (.loadN 6 (X.s 2)),
 X.o 6 (.call F.q41 [X.s 4, X.s 5]),
 X.m 3 6]
def C.xp : LO := C.xp_b
def C.xp_w := pO C.xp.eq_1
def C.b62 : ICode := .keep [1, 2] (.seq (.region C.xp) .ret)
def C.b62_w := pC C.b62.eq_1
def C.ky_b : LO := [
 X.o 2 (.boxN (X.s 0)),
 X.o 3 (.move (X.i 0))]
def C.ky : LO := C.ky_b
def C.ky_w := pO C.ky.eq_1
def C.q28 : IFunc := ⟨2, [.slot 3], .seq (.region C.ky) C.b62⟩
def C.q28_W := aI @C.xp_w (aI @C.b62_w @C.ky_w)
def C.q28_B := aI @C.xp_b.eq_1 @C.ky_b.eq_1

def C.yy_b : LO := [
 X.o 5 (.makeFunc F.q42 [X.s 3]),
 X.o 6 (.makeFunc F.q43 [X.s 3, X.s 2]),
 X.o 7 (.makeFunc F.q45 [X.s 3]),
 X.o 8 (.buildSlice 1 3 [.nilf] [(0, 1, X.s 5), (1, 1, X.s 6), (2, 1, X.s 7)]),
 X.o 9 (.call F.q61 [X.s 8]),
 X.m 4 9]
def C.yy : LO := C.yy_b
def C.yy_w := pO C.yy.eq_1
def C.b77 : ICode := .keep [2, 3] (.seq (.region C.yy) .ret)
def C.b77_w := pC C.b77.eq_1
def C.yx_b : LO := [
 X.o 2 (.boxN (X.s 0)),
 X.o 3 (.boxN (X.s 1)),
 X.o 4 (.move (X.i 0))]
def C.yx : LO := C.yx_b
def C.yx_w := pO C.yx.eq_1
def C.q41 : IFunc := ⟨2, [.slot 4], .seq (.region C.yx) C.b77⟩
def C.q41_W := aI @C.yy_w (aI @C.b77_w @C.yx_w)
def C.q41_B := aI @C.yy_b.eq_1 @C.yx_b.eq_1

def C.xs_b : LO := [
 X.o 2 (.loadN 4 (X.s 0)),
 X.o 3 (.call F.q37 [X.s 2]),
 X.o 4 (.call F.q46 [X.s 3]),
 X.m 1 4]
def C.xs : LO := C.xs_b
def C.xs_w := pO C.xs.eq_1
def C.b63 : ICode := .keep [0] (.seq (.region C.xs) .ret)
def C.b63_w := pC C.b63.eq_1
def C.xr_b : LO := [
 X.o 1 (.move (X.i 0))]
def C.xr : LO := C.xr_b
def C.xr_w := pO C.xr.eq_1
def C.q29 : IFunc := ⟨1, [.slot 1], .seq (.region C.xr) C.b63⟩
def C.q29_W := aI @C.xs_w (aI @C.b63_w @C.xr_w)
def C.q29_B := aI @C.xs_b.eq_1 @C.xr_b.eq_1

def C.y7_b : LO := [
 X.m 3 0,
 X.o 4 (.call F.q75 [X.s 3]),
 X.o 5 (.bin .eql (X.s 4) (X.i 5)),
 X.o 6 (.call F.q73 [X.s 5, X.i 5]),
 X.m 2 6]
def C.y7 : LO := C.y7_b
def C.y7_w := pO C.y7.eq_1
def C.b8d : ICode := .keep [0] (.seq (.region C.y7) .ret)
def C.b8d_w := pC C.b8d.eq_1
def C.y6_b : LO := [
 X.o 2 (.move (X.i 0))]
def C.y6 : LO := C.y6_b
def C.y6_w := pO C.y6.eq_1
def C.q46 : IFunc := ⟨1, [.slot 2], .seq (.region C.y6) C.b8d⟩
def C.q46_W := aI @C.y7_w (aI @C.b8d_w @C.y6_w)
def C.q46_B := aI @C.y7_b.eq_1 @C.y6_b.eq_1

def C.k4_b : LO := [
 X.m 25 3,
 X.m 2 25]
def C.k4 : LO := C.k4_b
def C.k4_w := pO C.k4.eq_1
def C.bwk : ICode := .keep [3] (.seq (.region C.k4) .ret)
def C.bwk_w := pC C.bwk.eq_1
def C.k3_b : LO := [
 X.o 24 (.bin .add (X.s 13) (X.i 1)),
 X.m 13 24]
def C.k3 : LO := C.k3_b
def C.k3_w := pO C.k3.eq_1
def C.bwm : ICode := .keep [3, 11, 12, 13] (.region C.k3)
def C.bwm_w := pC C.bwm.eq_1
def C.x9_b : LO := [
 X.m 18 3,
 X.m 19 4,
 X.o 20 (.fldAddr 1 (X.s 5)),
 X.o 21 (.load1 (X.s 20)),
 X.o 22 (.call F.q70 [X.s 21]),
 X.o 23 (.idxAddr 1 (X.s 18) (X.s 19)),
 X.n (.store1 (X.s 23) (X.s 22))]
def C.x9 : LO := C.x9_b
def C.x9_w := pO C.x9.eq_1
def C.b7h : ICode := .keep [3, 4, 5, 11, 12, 13] (.region C.x9)
def C.b7h_w := pC C.b7h.eq_1
def C.k2_b : LO := [
 X.m 15 13,
 X.o 16 (.idxAddr 6 (X.s 11) (X.s 13)),
 X.o 17 (.loadN 6 (X.s 16)),
 X.o 5 (.alloc [.int .u8 0, .nils, .int .u64 0, .int .i64 0, .int .i64 0, .int .i64 0]),
 X.m 4 15,
 X.n (.storeN 6 (X.s 5) (X.s 17))]
def C.k2 : LO := C.k2_b
def C.k2_w := pO C.k2.eq_1
def C.bwh : ICode := .seq (.region C.k2) C.b7h
def C.bwh_w := pC C.bwh.eq_1
def C.bwn : ICode := .keep [3, 11, 12, 13] (.seq (.block 1 C.bwh) C.bwm)
def C.bwn_w := pC C.bwn.eq_1
def C.bwp : ICode := .keep [3, 11, 12, 13, 14] (.seq (.cond (X.s 14) .skip (.exit 0)) C.bwn)
def C.bwp_w := pC C.bwp.eq_1
def C.k1_b : LO := [
 X.o 14 (.bin .lss (X.s 13) (X.s 12))]
def C.k1 : LO := C.k1_b
def C.k1_w := pO C.k1.eq_1
def C.ck7 : ICode := .keep [3, 11, 12, 13] (.seq (.region C.k1) C.bwp)
def C.ck7_w := pC C.ck7.eq_1
def C.bwj : ICode := .loop C.ck7
def C.bwj_w := pC C.bwj.eq_1
def C.bwr : ICode := .keep [3, 11, 12, 13] (.block 0 C.bwj)
def C.bwr_w := pC C.bwr.eq_1
def C.k0_b : LO := [
 X.o 10 (.fldAddr 0 (X.s 1)),
 X.o 11 (.load1 (X.s 10)),
 X.o 12 (.len (X.s 11)),
 X.o 13 (.move (X.i 0))]
def C.k0 : LO := C.k0_b
def C.k0_w := pO C.k0.eq_1
def C.bwl : ICode := .keep [1, 3] (.seq (.seq (.region C.k0) C.bwr) C.bwk)
def C.bwl_w := pC C.bwl.eq_1
def C.c4_b : LO := [
 X.o 6 (.fldAddr 0 (X.s 1)),
 X.o 7 (.load1 (X.s 6)),
 X.o 8 (.len (X.s 7)),
 X.o 9 (.makeSlice 1 24 [.nils] (X.s 8) (X.s 8)),
 X.m 3 9]
def C.c4 : LO := C.c4_b
def C.c4_w := pO C.c4.eq_1
def C.bl9 : ICode := .keep [1] (.seq (.region C.c4) C.bwl)
def C.bl9_w := pC C.bl9.eq_1
def C.bq_b : LO := [
 X.o 1 (.boxN (X.s 0)),
 X.o 2 (.move (.cst (.nils)))]
def C.bq : LO := C.bq_b
def C.bq_w := pO C.bq.eq_1
def C.q37 : IFunc := ⟨1, [.slot 2], .seq (.region C.bq) C.bl9⟩
def C.q37_W := aI (aI (aI (aI @C.k4_w @C.bwk_w) (aI @C.k3_w @C.bwm_w)) (aI (aI @C.x9_w @C.b7h_w) (aI @C.k2_w (aI @C.bwh_w @C.bwn_w)))) (aI (aI (aI @C.bwp_w @C.k1_w) (aI @C.bwj_w @C.bwr_w)) (aI (aI @C.k0_w @C.bwl_w) (aI @C.c4_w (aI @C.bl9_w @C.bq_w))))
def C.q37_B := aI (aI (aI @C.k4_b.eq_1 @C.k3_b.eq_1) (aI @C.x9_b.eq_1 @C.k2_b.eq_1)) (aI (aI @C.k1_b.eq_1 @C.k0_b.eq_1) (aI @C.c4_b.eq_1 @C.bq_b.eq_1))

def C.xq_b : LO := [
 X.o 2 (.fldAddr 1 (X.s 0)),
 X.o 3 (.load1 (X.s 2)),
 X.o 4 (.makeFunc F.q31 [X.s 0]),
 X.o 5 (.call F.q58 [X.s 3, X.s 4]),
 X.m 1 5]
def C.xq : LO := C.xq_b
def C.xq_w := pO C.xq.eq_1
def C.b68 : ICode := .keep [0] (.seq (.region C.xq) .ret)
def C.b68_w := pC C.b68.eq_1
def C.xy_b : LO := [
 X.o 1 (.move (X.i 0))]
def C.xy : LO := C.xy_b
def C.xy_w := pO C.xy.eq_1
def C.q30 : IFunc := ⟨1, [.slot 1], .seq (.region C.xy) C.b68⟩
def C.q30_W := aI @C.xq_w (aI @C.b68_w @C.xy_w)
def C.q30_B := aI @C.xq_b.eq_1 @C.xy_b.eq_1

def C.l1_b : LO := [
 X.o 4 (.move (X.i 0))]
def C.l1 : LO := C.l1_b
def C.l1_w := pO C.l1.eq_1
def C.bxw : ICode := .keep [] (.seq (.region C.l1) .ret)
def C.bxw_w := pC C.bxw.eq_1
def C.l0_b : LO := [
 X.o 20 (.bin .add (X.s 10) (X.i 1)),
 X.m 10 20]
def C.l0 : LO := C.l0_b
def C.l0_w := pO C.l0.eq_1
def C.bxq : ICode := .keep [1, 8, 9, 10] (.region C.l0)
def C.bxq_w := pC C.bxq.eq_1
def C.bcf_b : LO := [
 X.m 19 7,
 X.m 4 19]
def C.bcf : LO := C.bcf_b
def C.bcf_w := pO C.bcf.eq_1
def C.b9c : ICode := .seq (.region C.bcf) .ret
def C.b9c_w := pC C.b9c.eq_1
def C.b9d : ICode := .keep [1, 7, 8, 9, 10, 18] (.cond (X.s 18) C.b9c .skip)
def C.b9d_w := pC C.b9d.eq_1
def C.bcd_b : LO := [
 X.m 17 7,
 X.o 18 (.bin .neq (X.s 17) (X.i 0))]
def C.bcd : LO := C.bcd_b
def C.bcd_w := pO C.bcd.eq_1
def C.b9f : ICode := .keep [1, 7, 8, 9, 10] (.seq (.region C.bcd) C.b9d)
def C.b9f_w := pC C.b9f.eq_1
def C.bcc_b : LO := [
 X.m 14 1,
 X.o 15 (.loadN 3 (X.s 6)),
 X.o 16 (.callv (X.s 14) [X.s 15]),
 X.m 7 16]
def C.bcc : LO := C.bcc_b
def C.bcc_w := pO C.bcc.eq_1
def C.b9g : ICode := .keep [1, 6, 8, 9, 10] (.seq (.region C.bcc) C.b9f)
def C.b9g_w := pC C.b9g.eq_1
def C.lz_b : LO := [
 X.o 12 (.idxAddr 3 (X.s 8) (X.s 10)),
 X.o 13 (.loadN 3 (X.s 12)),
 X.o 6 (.alloc [.int .i64 0, .int .i64 0, .bool false]),
 X.n (.storeN 3 (X.s 6) (X.s 13))]
def C.lz : LO := C.lz_b
def C.lz_w := pO C.lz.eq_1
def C.bxv : ICode := .seq (.region C.lz) C.b9g
def C.bxv_w := pC C.bxv.eq_1
def C.bxz : ICode := .keep [1, 8, 9, 10] (.seq (.block 1 C.bxv) C.bxq)
def C.bxz_w := pC C.bxz.eq_1
def C.bx0 : ICode := .keep [1, 8, 9, 10, 11] (.seq (.cond (X.s 11) .skip (.exit 0)) C.bxz)
def C.bx0_w := pC C.bx0.eq_1
def C.lq_b : LO := [
 X.o 11 (.bin .lss (X.s 10) (X.s 9))]
def C.lq : LO := C.lq_b
def C.lq_w := pO C.lq.eq_1
def C.clg : ICode := .keep [1, 8, 9, 10] (.seq (.region C.lq) C.bx0)
def C.clg_w := pC C.clg.eq_1
def C.bxt : ICode := .loop C.clg
def C.bxt_w := pC C.bxt.eq_1
def C.bxx : ICode := .keep [1, 8, 9, 10] (.block 0 C.bxt)
def C.bxx_w := pC C.bxx.eq_1
def C.ly_b : LO := [
 X.m 8 0,
 X.o 9 (.len (X.s 8)),
 X.o 10 (.move (X.i 0))]
def C.ly : LO := C.ly_b
def C.ly_w := pO C.ly.eq_1
def C.bxy : ICode := .keep [0, 1] (.seq (.seq (.region C.ly) C.bxx) C.bxw)
def C.bxy_w := pC C.bxy.eq_1
def C.lx_b : LO := [
 X.o 4 (.move (X.i 0))]
def C.lx : LO := C.lx_b
def C.lx_w := pO C.lx.eq_1
def C.q58 : IFunc := ⟨2, [.slot 4], .seq (.region C.lx) C.bxy⟩
def C.q58_W := aI (aI (aI (aI @C.l1_w @C.bxw_w) (aI @C.l0_w (aI @C.bxq_w @C.bcf_w))) (aI (aI @C.b9c_w @C.b9d_w) (aI @C.bcd_w (aI @C.b9f_w @C.bcc_w)))) (aI (aI (aI @C.b9g_w @C.lz_w) (aI @C.bxv_w (aI @C.bxz_w @C.bx0_w))) (aI (aI @C.lq_w (aI @C.bxt_w @C.bxx_w)) (aI @C.ly_w (aI @C.bxy_w @C.lx_w))))
def C.q58_B := aI (aI (aI @C.l1_b.eq_1 @C.l0_b.eq_1) (aI @C.bcf_b.eq_1 @C.bcd_b.eq_1)) (aI (aI @C.bcc_b.eq_1 @C.lz_b.eq_1) (aI @C.lq_b.eq_1 (aI @C.ly_b.eq_1 @C.lx_b.eq_1)))

end Go.Proofs.YtdmfgodajoojpaaGreatDoor.Cn
