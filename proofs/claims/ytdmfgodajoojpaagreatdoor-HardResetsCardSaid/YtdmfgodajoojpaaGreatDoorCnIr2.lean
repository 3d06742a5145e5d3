/- The intermediate code of the functions, printed by a program out of the loaded program; that it is theirs is checked in the text of links. -/
import Derived.Test.YtdmfgodajoojpaaGreatDoorCnIr1
set_option linter.defProp false
namespace Go.Proofs.YtdmfgodajoojpaaGreatDoor.Cn
open Go
variable {P : Program} {Q : IExit → AFr → ASt → Prop} {fr : AFr} {st : ASt}


def C.d0_b : LO := [
 X.m 110 5,
 X.m 4 110]
def C.d0 : LO := C.d0_b
def C.d0_w := pO C.d0.eq_1
def C.bz5 : ICode := .keep [5] (.seq (.region C.d0) .ret)
def C.bz5_w := pC C.bz5.eq_1
def C.dz_b : LO := [
 X.m 105 0,
 X.o 106 (.nilchk (X.s 105)),
 X.o 107 (.fldAddr 2 (X.s 106)),
 X.o 108 (.load1 (X.s 107)),
 X.o 109 (.call F.q123 [X.s 108])]
def C.dz : LO := C.dz_b
def C.dz_w := pO C.dz.eq_1
def C.b0d : ICode := .keep [0, 5] (.seq (.region C.dz) C.bz5)
def C.b0d_w := pC C.b0d.eq_1
def C.cc_b : LO := [
 X.o 104 (.bin .add (X.s 76) (X.i 1)),
 X.m 76 104]
def C.cc : LO := C.cc_b
def C.cc_w := pO C.cc.eq_1
def C.bk9 : ICode := .keep [0, 5, 74, 75, 76] (.region C.cc)
def C.bk9_w := pC C.bk9.eq_1
def C.nr_b : LO := [
 X.o 103 (.bin .add (X.s 90) (X.i 1)),
 X.m 90 103]
def C.nr : LO := C.nr_b
def C.nr_w := pO C.nr.eq_1
def C.b0t : ICode := .keep [0, 5, 12, 13, 74, 75, 76, 88, 89, 90] (.region C.nr)
def C.b0t_w := pC C.b0t.eq_1
def C.np_b : LO := [
 X.m 99 13,
 X.o 100 (.fldAddr 4 (X.s 15)),
 X.o 101 (.load1 (X.s 100)),
 X.o 102 (.callv (X.s 99) [X.s 101])]
def C.np : LO := C.np_b
def C.np_w := pO C.np.eq_1
def C.b01 : ICode := .keep [0, 5, 12, 13, 15, 74, 75, 76, 88, 89, 90, 98] (.cond (X.s 98) (.region C.np) .skip)
def C.b01_w := pC C.b01.eq_1
def C.nn_b : LO := [
 X.o 94 (.fldAddr 1 (X.s 15)),
 X.o 95 (.load1 (X.s 94)),
 X.o 96 (.fldAddr 1 (X.s 12)),
 X.o 97 (.load1 (X.s 96)),
 X.o 98 (.bin .eql (X.s 95) (X.s 97))]
def C.nn : LO := C.nn_b
def C.nn_w := pO C.nn.eq_1
def C.b02 : ICode := .keep [0, 5, 12, 13, 15, 74, 75, 76, 88, 89, 90] (.seq (.region C.nn) C.b01)
def C.b02_w := pC C.b02.eq_1
def C.nm_b : LO := [
 X.o 92 (.idxAddr 6 (X.s 88) (X.s 90)),
 X.o 93 (.loadN 6 (X.s 92)),
 X.o 15 (.alloc [.int .i64 0, .int .i64 0, .int .i64 0, .int .u32 0, .nilp, .nilp]),
 X.n (.storeN 6 (X.s 15) (X.s 93))]
def C.nm : LO := C.nm_b
def C.nm_w := pO C.nm.eq_1
def C.bz4 : ICode := .seq (.region C.nm) C.b02
def C.bz4_w := pC C.bz4.eq_1
def C.b03 : ICode := .keep [0, 5, 12, 13, 74, 75, 76, 88, 89, 90] (.seq (.block 7 C.bz4) C.b0t)
def C.b03_w := pC C.b03.eq_1
def C.b04 : ICode := .keep [0, 5, 12, 13, 74, 75, 76, 88, 89, 90, 91] (.seq (.cond (X.s 91) .skip (.exit 6)) C.b03)
def C.b04_w := pC C.b04.eq_1
def C.nl_b : LO := [
 X.o 91 (.bin .lss (X.s 90) (X.s 89))]
def C.nl : LO := C.nl_b
def C.nl_w := pO C.nl.eq_1
def C.cph : ICode := .keep [0, 5, 12, 13, 74, 75, 76, 88, 89, 90] (.seq (.region C.nl) C.b04)
def C.cph_w := pC C.cph.eq_1
def C.bzy : ICode := .loop C.cph
def C.bzy_w := pC C.bzy.eq_1
def C.bz6 : ICode := .keep [0, 5, 12, 13, 74, 75, 76, 88, 89, 90] (.block 6 C.bzy)
def C.bz6_w := pC C.bz6.eq_1
def C.nk_b : LO := [
 X.m 85 0,
 X.o 86 (.nilchk (X.s 85)),
 X.o 87 (.fldAddr 4 (X.s 86)),
 X.o 88 (.load1 (X.s 87)),
 X.o 89 (.len (X.s 88)),
 X.o 90 (.move (X.i 0))]
def C.nk : LO := C.nk_b
def C.nk_w := pO C.nk.eq_1
def C.bnf : ICode := .keep [0, 5, 12, 13, 74, 75, 76] (.seq (.region C.nk) C.bz6)
def C.bnf_w := pC C.bnf.eq_1
def C.bz7 : ICode := .keep [0, 5, 12, 13, 74, 75, 76, 84] (.cond (X.s 84) (.exit 5) .skip)
def C.bz7_w := pC C.bz7.eq_1
def C.c8_b : LO := [
 X.m 83 13,
 X.o 84 (.eqP 3 false (X.s 83) (.cst (.nilf)))]
def C.c8 : LO := C.c8_b
def C.c8_w := pO C.c8.eq_1
def C.bz8 : ICode := .keep [0, 5, 12, 13, 74, 75, 76] (.seq (.seq (.region C.c8) C.bz7) C.bnf)
def C.bz8_w := pC C.bz8.eq_1
def C.c7_b : LO := [
 X.o 80 (.fldAddr 0 (X.s 12)),
 X.o 81 (.load1 (X.s 80)),
 X.o 82 (.call F.q96 [X.s 81]),
 X.m 13 82]
def C.c7 : LO := C.c7_b
def C.c7_w := pO C.c7.eq_1
def C.bz9 : ICode := .keep [0, 5, 12, 74, 75, 76] (.seq (.region C.c7) C.bz8)
def C.bz9_w := pC C.bz9.eq_1
def C.dq_b : LO := [
 X.o 78 (.idxAddr 2 (X.s 74) (X.s 76)),
 X.o 79 (.loadN 2 (X.s 78)),
 X.o 12 (.alloc [.int .u8 0, .int .i64 0]),
 X.n (.storeN 2 (X.s 12) (X.s 79))]
def C.dq : LO := C.dq_b
def C.dq_w := pO C.dq.eq_1
def C.bzq : ICode := .seq (.region C.dq) C.bz9
def C.bzq_w := pC C.bzq.eq_1
def C.b0b : ICode := .keep [0, 5, 74, 75, 76] (.seq (.block 5 C.bzq) C.bk9)
def C.b0b_w := pC C.b0b.eq_1
def C.b0c : ICode := .keep [0, 5, 74, 75, 76, 77] (.seq (.cond (X.s 77) .skip (.exit 4)) C.b0b)
def C.b0c_w := pC C.b0c.eq_1
def C.dy_b : LO := [
 X.o 77 (.bin .lss (X.s 76) (X.s 75))]
def C.dy : LO := C.dy_b
def C.dy_w := pO C.dy.eq_1
def C.cpj : ICode := .keep [0, 5, 74, 75, 76] (.seq (.region C.dy) C.b0c)
def C.cpj_w := pC C.cpj.eq_1
def C.bzz : ICode := .loop C.cpj
def C.bzz_w := pC C.bzz.eq_1
def C.b0f : ICode := .keep [0, 5, 74, 75, 76] (.block 4 C.bzz)
def C.b0f_w := pC C.b0f.eq_1
def C.dx_b : LO := [
 X.m 70 0,
 X.o 71 (.nilchk (X.s 70)),
 X.o 72 (.fldAddr 1 (X.s 71)),
 X.o 73 (.load1 (X.s 72)),
 X.o 74 (.call F.q98 [X.s 73]),
 X.o 75 (.len (X.s 74)),
 X.o 76 (.move (X.i 0))]
def C.dx : LO := C.dx_b
def C.dx_w := pO C.dx.eq_1
def C.b0g : ICode := .keep [0, 5] (.seq (.seq (.region C.dx) C.b0f) C.b0d)
def C.b0g_w := pC C.b0g.eq_1
def C.c6_b : LO := [
 X.m 65 0,
 X.o 66 (.nilchk (X.s 65)),
 X.o 67 (.fldAddr 0 (X.s 66)),
 X.o 68 (.load1 (X.s 67)),
 X.o 69 (.call F.q22 [X.s 68])]
def C.c6 : LO := C.c6_b
def C.c6_w := pO C.c6.eq_1
def C.m8 : ICode := .keep [0, 5] (.seq (.region C.c6) C.b0g)
def C.m8_w := pC C.m8.eq_1
def C.nh_b : LO := [
 X.o 64 (.bin .add (X.s 44) (X.i 1)),
 X.m 44 64]
def C.nh : LO := C.nh_b
def C.nh_w := pO C.nh.eq_1
def C.b0h : ICode := .keep [0, 1, 5, 42, 43, 44] (.region C.nh)
def C.b0h_w := pC C.b0h.eq_1
def C.ng_b : LO := [
 X.o 49 (.fldAddr 5 (X.s 10)),
 X.o 50 (.load1 (X.s 49)),
 X.m 51 0,
 X.o 52 (.nilchk (X.s 51)),
 X.o 53 (.fldAddr 3 (X.s 52)),
 X.o 54 (.load1 (X.s 53)),
 X.m 55 9,
 X.m 58 1,
 X.m 59 9,
 X.o 60 (.bin .shr (X.s 58) (X.s 59)),
 X.o 61 (.bin .and (X.s 60) (.cst (.int .u32 1))),
 X.o 62 (.bin .eql (X.s 61) (.cst (.int .u32 1))),
 ⟨some 56, .call F.q7 [X.s 54, X.s 55], none, [⟨.load1 (X.s 49), 50, none⟩], []⟩,
 X.o 57 (.bin .gtr (X.s 56) (X.i 0)),
 X.o 63 (.call F.q105 [X.s 50, X.s 57, X.s 62])]
def C.ng : LO := C.ng_b
def C.ng_w := pO C.ng.eq_1
def C.b0j : ICode := .keep [0, 1, 5, 9, 10, 42, 43, 44] (.region C.ng)
def C.b0j_w := pC C.b0j.eq_1
def C.nf_b : LO := [
 X.m 46 44,
 X.o 47 (.idxAddr 6 (X.s 42) (X.s 44)),
 X.o 48 (.loadN 6 (X.s 47)),
 X.o 10 (.alloc [.int .i64 0, .int .i64 0, .int .i64 0, .int .u32 0, .nilp, .nilp]),
 X.m 9 46,
 X.n (.storeN 6 (X.s 10) (X.s 48))]
def C.nf : LO := C.nf_b
def C.nf_w := pO C.nf.eq_1
def C.bz0 : ICode := .seq (.region C.nf) C.b0j
def C.bz0_w := pC C.bz0.eq_1
def C.b0k : ICode := .keep [0, 1, 5, 42, 43, 44] (.seq (.block 3 C.bz0) C.b0h)
def C.b0k_w := pC C.b0k.eq_1
def C.b0l : ICode := .keep [0, 1, 5, 42, 43, 44, 45] (.seq (.cond (X.s 45) .skip (.exit 2)) C.b0k)
def C.b0l_w := pC C.b0l.eq_1
def C.nd_b : LO := [
 X.o 45 (.bin .lss (X.s 44) (X.s 43))]
def C.nd : LO := C.nd_b
def C.nd_w := pO C.nd.eq_1
def C.cpk : ICode := .keep [0, 1, 5, 42, 43, 44] (.seq (.region C.nd) C.b0l)
def C.cpk_w := pC C.cpk.eq_1
def C.bz1 : ICode := .loop C.cpk
def C.bz1_w := pC C.bz1.eq_1
def C.b0m : ICode := .keep [0, 1, 5, 42, 43, 44] (.block 2 C.bz1)
def C.b0m_w := pC C.b0m.eq_1
def C.nc_b : LO := [
 X.m 39 0,
 X.o 40 (.nilchk (X.s 39)),
 X.o 41 (.fldAddr 4 (X.s 40)),
 X.o 42 (.load1 (X.s 41)),
 X.o 43 (.len (X.s 42)),
 X.o 44 (.move (X.i 0))]
def C.nc : LO := C.nc_b
def C.nc_w := pO C.nc.eq_1
def C.blb : ICode := .keep [0, 1, 5] (.seq (.seq (.region C.nc) C.b0m) C.m8)
def C.blb_w := pC C.blb.eq_1
def C.dw_b : LO := [
 X.o 38 (.bin .add (X.s 24) (X.i 1)),
 X.m 24 38]
def C.dw : LO := C.dw_b
def C.dw_w := pO C.dw.eq_1
def C.b0n : ICode := .keep [0, 1, 5, 23, 24] (.region C.dw)
def C.b0n_w := pC C.b0n.eq_1
def C.nw_b : LO := [
 X.m 34 5,
 X.o 35 (.loadN 4 (X.s 7)),
 X.o 36 (.buildSlice 4 1 [.int .i64 0, .int .i64 0, .bool false, .int .u32 0] [(0, 4, X.s 35)]),
 X.o 37 (.append 4 24 (X.s 34) (X.s 36)),
 X.m 5 37]
def C.nw : LO := C.nw_b
def C.nw_w := pO C.nw.eq_1
def C.b0p : ICode := .keep [0, 1, 5, 7, 23, 24, 33] (.cond (X.s 33) (.region C.nw) .skip)
def C.b0p_w := pC C.b0p.eq_1
def C.nv_b : LO := [
 X.m 33 8]
def C.nv : LO := C.nv_b
def C.nv_w := pO C.nv.eq_1
def C.b0r : ICode := .keep [0, 1, 5, 7, 8, 23, 24] (.seq (.region C.nv) C.b0p)
def C.b0r_w := pC C.b0r.eq_1
def C.b4_b : LO := [
 X.m 28 0,
 X.m 29 6,
 X.o 30 (.call F.q92 [X.s 28, X.s 29]),
 X.m 27 30,
 X.o 31 (.extract (X.s 27) 0),
 X.o 32 (.extract (X.s 27) 1),
 X.o 7 (.alloc [.int .i64 0, .int .i64 0, .bool false, .int .u32 0]),
 X.n (.storeN 4 (X.s 7) (X.s 31)),
 X.m 8 32]
def C.b4 : LO := C.b4_b
def C.b4_w := pO C.b4.eq_1
def C.bng : ICode := .keep [0, 1, 5, 6, 23, 24] (.seq (.region C.b4) C.b0r)
def C.bng_w := pC C.bng.eq_1
def C.d2_b : LO := [
 X.m 26 24,
 X.m 6 26]
def C.d2 : LO := C.d2_b
def C.d2_w := pO C.d2.eq_1
def C.bz2 : ICode := .seq (.region C.d2) C.bng
def C.bz2_w := pC C.bz2.eq_1
def C.b0s : ICode := .keep [0, 1, 5, 23, 24] (.seq (.block 1 C.bz2) C.b0n)
def C.b0s_w := pC C.b0s.eq_1
def C.b0v : ICode := .keep [0, 1, 5, 23, 24, 25] (.seq (.cond (X.s 25) .skip (.exit 0)) C.b0s)
def C.b0v_w := pC C.b0v.eq_1
def C.d1_b : LO := [
 X.o 25 (.bin .lss (X.s 24) (X.s 23))]
def C.d1 : LO := C.d1_b
def C.d1_w := pO C.d1.eq_1
def C.cpl : ICode := .keep [0, 1, 5, 23, 24] (.seq (.region C.d1) C.b0v)
def C.cpl_w := pC C.cpl.eq_1
def C.bz3 : ICode := .loop C.cpl
def C.bz3_w := pC C.bz3.eq_1
def C.b0w : ICode := .keep [0, 1, 5, 23, 24] (.block 0 C.bz3)
def C.b0w_w := pC C.b0w.eq_1
def C.nt_b : LO := [
 X.m 19 0,
 X.o 20 (.nilchk (X.s 19)),
 X.o 21 (.fldAddr 4 (X.s 20)),
 X.o 22 (.load1 (X.s 21)),
 X.o 23 (.len (X.s 22)),
 X.o 24 (.move (X.i 0))]
def C.nt : LO := C.nt_b
def C.nt_w := pO C.nt.eq_1
def C.b0x : ICode := .keep [0, 1, 5] (.seq (.seq (.region C.nt) C.b0w) C.blb)
def C.b0x_w := pC C.b0x.eq_1
def C.ns_b : LO := [
 X.o 5 (.move (.cst (.nils)))]
def C.ns : LO := C.ns_b
def C.ns_w := pO C.ns.eq_1
def C.b0y : ICode := .keep [0, 1] (.seq (.region C.ns) C.b0x)
def C.b0y_w := pC C.b0y.eq_1
def C.nj_b : LO := [
 X.o 4 (.move (.cst (.nils)))]
def C.nj : LO := C.nj_b
def C.nj_w := pO C.nj.eq_1
def C.b0q : ICode := .seq (.region C.nj) .ret
def C.b0q_w := pC C.b0q.eq_1
def C.b0z : ICode := .keep [0, 1, 18] (.cond (X.s 18) C.b0q .skip)
def C.b0z_w := pC C.b0z.eq_1
def C.nb_b : LO := [
 X.m 16 0,
 X.o 17 (.call F.q94 [X.s 16]),
 X.o 18 (.un .not (X.s 17))]
def C.nb : LO := C.nb_b
def C.nb_w := pO C.nb.eq_1
def C.b00 : ICode := .keep [0, 1] (.seq (.seq (.region C.nb) C.b0z) C.b0y)
def C.b00_w := pC C.b00.eq_1
def C.m9_b : LO := [
 X.o 4 (.move (.cst (.nils)))]
def C.m9 : LO := C.m9_b
def C.m9_w := pO C.m9.eq_1
def C.q90 : IFunc := ⟨2, [.slot 4], .seq (.region C.m9) C.b00⟩
def C.q90_W := aI (aI (aI (aI (aI (aI @C.d0_w @C.bz5_w) (aI @C.dz_w @C.b0d_w)) (aI (aI @C.cc_w @C.bk9_w) (aI @C.nr_w (aI @C.b0t_w @C.np_w)))) (aI (aI (aI @C.b01_w @C.nn_w) (aI @C.b02_w @C.nm_w)) (aI (aI @C.bz4_w @C.b03_w) (aI @C.b04_w (aI @C.nl_w @C.bzy_w))))) (aI (aI (aI (aI @C.bz6_w @C.nk_w) (aI @C.bnf_w @C.bz7_w)) (aI (aI @C.c8_w @C.bz8_w) (aI @C.c7_w (aI @C.bz9_w @C.dq_w)))) (aI (aI (aI @C.bzq_w @C.b0b_w) (aI @C.b0c_w (aI @C.dy_w @C.bzz_w))) (aI (aI @C.b0f_w @C.dx_w) (aI @C.b0g_w (aI @C.c6_w @C.m8_w)))))) (aI (aI (aI (aI (aI @C.nh_w @C.b0h_w) (aI @C.ng_w @C.b0j_w)) (aI (aI @C.nf_w @C.bz0_w) (aI @C.b0k_w (aI @C.b0l_w @C.nd_w)))) (aI (aI (aI @C.bz1_w @C.b0m_w) (aI @C.nc_w (aI @C.blb_w @C.dw_w))) (aI (aI @C.b0n_w @C.nw_w) (aI @C.b0p_w (aI @C.nv_w @C.b0r_w))))) (aI (aI (aI (aI @C.b4_w @C.bng_w) (aI @C.d2_w @C.bz2_w)) (aI (aI @C.b0s_w @C.b0v_w) (aI @C.d1_w (aI @C.bz3_w @C.b0w_w)))) (aI (aI (aI @C.nt_w @C.b0x_w) (aI @C.ns_w (aI @C.b0y_w @C.nj_w))) (aI (aI @C.b0q_w @C.b0z_w) (aI @C.nb_w (aI @C.b00_w @C.m9_w))))))
def C.q90_B := aI (aI (aI (aI @C.d0_b.eq_1 (aI @C.dz_b.eq_1 @C.cc_b.eq_1)) (aI (aI @C.nr_b.eq_1 @C.np_b.eq_1) (aI @C.nn_b.eq_1 @C.nm_b.eq_1))) (aI (aI (aI @C.nl_b.eq_1 @C.nk_b.eq_1) (aI @C.c8_b.eq_1 @C.c7_b.eq_1)) (aI (aI @C.dq_b.eq_1 @C.dy_b.eq_1) (aI @C.dx_b.eq_1 @C.c6_b.eq_1)))) (aI (aI (aI (aI @C.nh_b.eq_1 @C.ng_b.eq_1) (aI @C.nf_b.eq_1 @C.nd_b.eq_1)) (aI (aI @C.nc_b.eq_1 @C.dw_b.eq_1) (aI @C.nw_b.eq_1 @C.nv_b.eq_1))) (aI (aI (aI @C.b4_b.eq_1 @C.d2_b.eq_1) (aI @C.d1_b.eq_1 @C.nt_b.eq_1)) (aI (aI @C.ns_b.eq_1 @C.nj_b.eq_1) (aI @C.nb_b.eq_1 @C.m9_b.eq_1))))

def C.cy_b : LO := [
 X.m 135 0,
 X.m 136 2,
 X.o 137 (.call F.q81 [X.s 135, X.s 136]),
 X.m 6 137]
def C.cy : LO := C.cy_b
def C.cy_w := pO C.cy.eq_1
def C.bm4 : ICode := .keep [0, 2] (.seq (.region C.cy) .ret)
def C.bm4_w := pC C.bm4.eq_1
def C.j7_b : LO := [
 X.m 131 16,
 X.o 132 (.bin .add (X.s 131) (X.i 1)),
 X.m 16 132]
def C.j7 : LO := C.j7_b
def C.j7_w := pO C.j7.eq_1
def C.bwg : ICode := .keep [0, 2, 16] (.region C.j7)
def C.bwg_w := pC C.bwg.eq_1
def C.j8_b : LO := [
 X.m 133 0,
 X.o 134 (.call F.q90 [X.s 133, .cst (.int .u32 0)])]
def C.j8 : LO := C.j8_b
def C.j8_w := pO C.j8.eq_1
def C.bv3 : ICode := .region C.j8
def C.bv3_w := pC C.bv3.eq_1
def C.bwx : ICode := .keep [0, 2, 16] (.seq (.block 9 C.bv3) C.bwg)
def C.bwx_w := pC C.bwx.eq_1
def C.bw3 : ICode := .keep [0, 2, 16, 130] (.cond (X.s 130) .skip (.exit 8))
def C.bw3_w := pC C.bw3.eq_1
def C.bm_b : LO := [
 X.m 123 16,
 X.o 124 (.bin .lss (X.s 123) (X.i 300)),
 X.m 125 124,
 X.t 125 126 (.move (X.s 0)),
 X.t 125 127 (.move (X.s 2)),
 X.t 125 128 (.call F.q81 [X.s 126, X.s 127]),
 X.t 125 129 (.un .not (X.s 128)),
 X.o 130 (.pick (X.s 125) (X.s 129) (.cst (.bool false)))]
def C.bm : LO := C.bm_b
def C.bm_w := pO C.bm.eq_1
def C.cnr : ICode := .keep [0, 2, 16] (.seq (.seq (.region C.bm) C.bw3) C.bwx)
def C.cnr_w := pC C.cnr.eq_1
def C.bv8 : ICode := .loop C.cnr
def C.bv8_w := pC C.bv8.eq_1
def C.bw6 : ICode := .keep [0, 2, 16] (.block 8 C.bv8)
def C.bw6_w := pC C.bw6.eq_1
def C.j6_b : LO := [
 X.o 16 (.move (X.i 0))]
def C.j6 : LO := C.j6_b
def C.j6_w := pO C.j6.eq_1
def C.p3 : ICode := .keep [0, 2] (.seq (.seq (.region C.j6) C.bw6) C.bm4)
def C.p3_w := pC C.p3.eq_1
def C.j5_b : LO := [
 X.o 6 (.move (.cst (.bool false)))]
def C.j5 : LO := C.j5_b
def C.j5_w := pO C.j5.eq_1
def C.bv9 : ICode := .seq (.region C.j5) .ret
def C.bv9_w := pC C.bv9.eq_1
def C.bwb : ICode := .keep [0, 2, 122] (.cond (X.s 122) C.bv9 .skip)
def C.bwb_w := pC C.bwb.eq_1
def C.j4_b : LO := [
 X.m 112 0,
 X.o 113 (.fldAddr 2 (X.s 7)),
 X.o 114 (.load1 (X.s 113)),
 X.o 115 (.call F.q85 [X.s 112, X.s 114]),
 X.m 116 115,
 X.t 116 117 (.move (X.s 0)),
 X.t 116 118 (.fldAddr 2 (X.s 7)),
 X.t 116 119 (.load1 (X.s 118)),
 X.t 116 120 (.call F.q88 [X.s 117, X.s 119]),
 X.t 116 121 (.bin .neq (X.s 120) (X.i 0)),
 X.o 122 (.pick (X.s 116) (X.s 121) (.cst (.bool false)))]
def C.j4 : LO := C.j4_b
def C.j4_w := pO C.j4.eq_1
def C.wv : ICode := .keep [0, 2, 7] (.seq (.seq (.region C.j4) C.bwb) C.p3)
def C.wv_w := pC C.wv.eq_1
def C.by_b : LO := [
 X.m 74 13,
 X.o 75 (.bin .add (X.s 74) (X.i 1)),
 X.m 13 75]
def C.by : LO := C.by_b
def C.by_w := pO C.by.eq_1
def C.p1 : ICode := .keep [0, 2, 7, 11, 13] (.region C.by)
def C.p1_w := pC C.p1.eq_1
def C.j2_b : LO := [
 X.m 108 15,
 X.o 109 (.bin .add (X.s 108) (X.i 1)),
 X.m 15 109]
def C.j2 : LO := C.j2_b
def C.j2_w := pO C.j2.eq_1
def C.bwc : ICode := .keep [0, 2, 7, 11, 13, 15] (.region C.j2)
def C.bwc_w := pC C.bwc.eq_1
def C.j3_b : LO := [
 X.m 110 0,
 X.o 111 (.call F.q90 [X.s 110, .cst (.int .u32 0)])]
def C.j3 : LO := C.j3_b
def C.j3_w := pO C.j3.eq_1
def C.bvz : ICode := .region C.j3
def C.bvz_w := pC C.bvz.eq_1
def C.bwd : ICode := .keep [0, 2, 7, 11, 13, 15] (.seq (.block 7 C.bvz) C.bwc)
def C.bwd_w := pC C.bwd.eq_1
def C.bwf : ICode := .keep [0, 2, 7, 11, 13, 15, 107] (.cond (X.s 107) .skip (.exit 6))
def C.bwf_w := pC C.bwf.eq_1
def C.j1_b : LO := [
 X.m 97 15,
 X.o 98 (.bin .lss (X.s 97) (X.i 40)),
 X.m 99 98,
 X.t 99 100 (.move (X.s 0)),
 X.t 99 101 (.move (X.s 11)),
 X.t 99 102 (.move (X.s 13)),
 X.t 99 103 (.idxAddr 1 (X.s 101) (X.s 102)),
 X.t 99 104 (.load1 (X.s 103)),
 X.t 99 105 (.call F.q86 [X.s 100, X.s 104]),
 X.t 99 106 (.bin .neq (X.s 105) (.cst (.int .u8 49))),
 X.o 107 (.pick (X.s 99) (X.s 106) (.cst (.bool false)))]
def C.j1 : LO := C.j1_b
def C.j1_w := pO C.j1.eq_1
def C.cnl : ICode := .keep [0, 2, 7, 11, 13, 15] (.seq (.seq (.region C.j1) C.bwf) C.bwd)
def C.cnl_w := pC C.cnl.eq_1
def C.bv0 : ICode := .loop C.cnl
def C.bv0_w := pC C.bv0.eq_1
def C.bwh : ICode := .keep [0, 2, 7, 11, 13, 15] (.block 6 C.bv0)
def C.bwh_w := pC C.bwh.eq_1
def C.cx_b : LO := [
 X.o 15 (.move (X.i 0))]
def C.cx : LO := C.cx_b
def C.cx_w := pO C.cx.eq_1
def C.ww : ICode := .keep [0, 2, 7, 11, 13] (.seq (.region C.cx) C.bwh)
def C.ww_w := pC C.ww.eq_1
def C.j0_b : LO := [
 X.o 6 (.move (.cst (.bool false)))]
def C.j0 : LO := C.j0_b
def C.j0_w := pO C.j0.eq_1
def C.bwj : ICode := .seq (.region C.j0) .ret
def C.bwj_w := pC C.bwj.eq_1
def C.bwk : ICode := .keep [0, 2, 7, 11, 13, 96] (.cond (X.s 96) C.bwj .skip)
def C.bwk_w := pC C.bwk.eq_1
def C.jz_b : LO := [
 X.m 82 14,
 X.o 83 (.bin .eql (X.s 82) (.cst (.int .u8 48))),
 X.m 84 83,
 X.f 84 85 (.move (X.s 14)),
 X.f 84 86 (.bin .eql (X.s 85) (.cst (.int .u8 116))),
 X.o 87 (.pick (X.s 84) (.cst (.bool true)) (X.s 86)),
 X.m 88 87,
 X.t 88 89 (.move (X.s 0)),
 X.t 88 90 (.move (X.s 11)),
 X.t 88 91 (.move (X.s 13)),
 X.t 88 92 (.idxAddr 1 (X.s 90) (X.s 91)),
 X.t 88 93 (.load1 (X.s 92)),
 X.t 88 94 (.call F.q91 [X.s 89, X.s 93]),
 X.t 88 95 (.bin .neq (X.s 94) (X.i 0)),
 X.o 96 (.pick (X.s 88) (X.s 95) (.cst (.bool false)))]
def C.jz : LO := C.jz_b
def C.jz_w := pO C.jz.eq_1
def C.bwl : ICode := .keep [0, 2, 7, 11, 13, 14] (.seq (.seq (.region C.jz) C.bwk) C.ww)
def C.bwl_w := pC C.bwl.eq_1
def C.jq_b : LO := [
 X.m 76 0,
 X.m 77 11,
 X.m 78 13,
 X.o 79 (.idxAddr 1 (X.s 77) (X.s 78)),
 X.o 80 (.load1 (X.s 79)),
 X.o 81 (.call F.q86 [X.s 76, X.s 80]),
 X.m 14 81]
def C.jq : LO := C.jq_b
def C.jq_w := pO C.jq.eq_1
def C.bv1 : ICode := .seq (.region C.jq) C.bwl
def C.bv1_w := pC C.bv1.eq_1
def C.bwm : ICode := .keep [0, 2, 7, 11, 13] (.seq (.block 5 C.bv1) C.p1)
def C.bwm_w := pC C.bwm.eq_1
def C.bwn : ICode := .keep [0, 2, 7, 11, 13, 73] (.cond (X.s 73) .skip (.exit 4))
def C.bwn_w := pC C.bwn.eq_1
def C.jy_b : LO := [
 X.m 70 13,
 X.m 71 11,
 X.o 72 (.len (X.s 71)),
 X.o 73 (.bin .lss (X.s 70) (X.s 72))]
def C.jy : LO := C.jy_b
def C.jy_w := pO C.jy.eq_1
def C.cnm : ICode := .keep [0, 2, 7, 11, 13] (.seq (.seq (.region C.jy) C.bwn) C.bwm)
def C.cnm_w := pC C.cnm.eq_1
def C.bv2 : ICode := .loop C.cnm
def C.bv2_w := pC C.bv2.eq_1
def C.bwp : ICode := .keep [0, 2, 7, 11, 13] (.block 4 C.bv2)
def C.bwp_w := pC C.bwp.eq_1
def C.jx_b : LO := [
 X.o 13 (.move (X.i 0))]
def C.jx : LO := C.jx_b
def C.jx_w := pO C.jx.eq_1
def C.wx : ICode := .keep [0, 2, 7, 11] (.seq (.seq (.region C.jx) C.bwp) C.wv)
def C.wx_w := pC C.wx.eq_1
def C.cv_b : LO := [
 X.o 60 (.fldAddr 1 (X.s 4)),
 X.o 61 (.load1 (X.s 60)),
 X.m 62 12,
 X.o 63 (.idxAddr 3 (X.s 61) (X.s 62)),
 X.o 64 (.fldAddr 0 (X.s 63)),
 X.o 65 (.load1 (X.s 64)),
 X.m 12 65]
def C.cv : LO := C.cv_b
def C.cv_w := pO C.cv.eq_1
def C.bwr : ICode := .keep [0, 2, 4, 7, 11, 12] (.region C.cv)
def C.bwr_w := pC C.bwr.eq_1
def C.jw_b : LO := [
 X.m 66 12,
 X.o 67 (.buildSlice 1 1 [.int .i64 0] [(0, 1, X.s 66)]),
 X.m 68 11,
 X.o 69 (.append 1 8 (X.s 67) (X.s 68)),
 X.m 11 69]
def C.jw : LO := C.jw_b
def C.jw_w := pO C.jw.eq_1
def C.bv4 : ICode := .region C.jw
def C.bv4_w := pC C.bv4.eq_1
def C.bws : ICode := .keep [0, 2, 4, 7, 11, 12] (.seq (.block 3 C.bv4) C.bwr)
def C.bws_w := pC C.bws.eq_1
def C.bwt : ICode := .keep [0, 2, 4, 7, 11, 12, 59] (.cond (X.s 59) .skip (.exit 2))
def C.bwt_w := pC C.bwt.eq_1
def C.jv_b : LO := [
 X.m 58 12,
 X.o 59 (.bin .geq (X.s 58) (X.i 0))]
def C.jv : LO := C.jv_b
def C.jv_w := pO C.jv.eq_1
def C.cnn : ICode := .keep [0, 2, 4, 7, 11, 12] (.seq (.seq (.region C.jv) C.bwt) C.bws)
def C.cnn_w := pC C.cnn.eq_1
def C.bv5 : ICode := .loop C.cnn
def C.bv5_w := pC C.bv5.eq_1
def C.bwv : ICode := .keep [0, 2, 4, 7, 11, 12] (.block 2 C.bv5)
def C.bwv_w := pC C.bwv.eq_1
def C.jt_b : LO := [
 X.o 56 (.fldAddr 1 (X.s 7)),
 X.o 57 (.load1 (X.s 56)),
 X.m 12 57]
def C.jt : LO := C.jt_b
def C.jt_w := pO C.jt.eq_1
def C.bww : ICode := .keep [0, 2, 4, 7, 11] (.seq (.seq (.region C.jt) C.bwv) C.wx)
def C.bww_w := pC C.bww.eq_1
def C.kd_b : LO := [
 X.o 11 (.move (.cst (.nils)))]
def C.kd : LO := C.kd_b
def C.kd_w := pO C.kd.eq_1
def C.wy : ICode := .keep [0, 2, 4, 7] (.seq (.region C.kd) C.bww)
def C.wy_w := pC C.wy.eq_1
def C.bp_b : LO := [
 X.m 30 9,
 X.o 31 (.bin .add (X.s 30) (X.i 1)),
 X.m 9 31]
def C.bp : LO := C.bp_b
def C.bp_w := pO C.bp.eq_1
def C.bwy : ICode := .keep [0, 2, 4, 7, 8, 9] (.region C.bp)
def C.bwy_w := pC C.bwy.eq_1
def C.kc_b : LO := [
 X.o 6 (.move (.cst (.bool false)))]
def C.kc : LO := C.kc_b
def C.kc_w := pO C.kc.eq_1
def C.bwq : ICode := .seq (.region C.kc) .ret
def C.bwq_w := pC C.bwq.eq_1
def C.bwz : ICode := .keep [0, 2, 4, 7, 8, 9, 55] (.cond (X.s 55) C.bwq .skip)
def C.bwz_w := pC C.bwz.eq_1
def C.kb_b : LO := [
 X.m 41 10,
 X.o 42 (.bin .eql (X.s 41) (.cst (.int .u8 112))),
 X.m 43 42,
 X.f 43 44 (.move (X.s 10)),
 X.f 43 45 (.bin .eql (X.s 44) (.cst (.int .u8 103))),
 X.o 46 (.pick (X.s 43) (.cst (.bool true)) (X.s 45)),
 X.m 47 46,
 X.t 47 48 (.move (X.s 0)),
 X.t 47 49 (.move (X.s 8)),
 X.t 47 50 (.move (X.s 9)),
 X.t 47 51 (.idxAddr 1 (X.s 49) (X.s 50)),
 X.t 47 52 (.load1 (X.s 51)),
 X.t 47 53 (.call F.q84 [X.s 48, X.s 52, .cst (.bool true)]),
 X.t 47 54 (.bin .neq (X.s 53) (X.i 0)),
 X.o 55 (.pick (X.s 47) (X.s 54) (.cst (.bool false)))]
def C.kb : LO := C.kb_b
def C.kb_w := pO C.kb.eq_1
def C.bw0 : ICode := .keep [0, 2, 4, 7, 8, 9, 10] (.seq (.region C.kb) C.bwz)
def C.bw0_w := pC C.bw0.eq_1
def C.cz_b : LO := [
 X.o 32 (.fldAddr 0 (X.s 4)),
 X.o 33 (.load1 (X.s 32)),
 X.m 34 8,
 X.m 35 9,
 X.o 36 (.idxAddr 1 (X.s 34) (X.s 35)),
 X.o 37 (.load1 (X.s 36)),
 X.o 38 (.idxAddr 6 (X.s 33) (X.s 37)),
 X.o 39 (.fldAddr 0 (X.s 38)),
 X.o 40 (.load1 (X.s 39)),
 X.m 10 40]
def C.cz : LO := C.cz_b
def C.cz_w := pO C.cz.eq_1
def C.bv6 : ICode := .seq (.region C.cz) C.bw0
def C.bv6_w := pC C.bv6.eq_1
def C.bw1 : ICode := .keep [0, 2, 4, 7, 8, 9] (.seq (.block 1 C.bv6) C.bwy)
def C.bw1_w := pC C.bw1.eq_1
def C.bw2 : ICode := .keep [0, 2, 4, 7, 8, 9, 29] (.cond (X.s 29) .skip (.exit 0))
def C.bw2_w := pC C.bw2.eq_1
def C.cq_b : LO := [
 X.m 26 9,
 X.m 27 8,
 X.o 28 (.len (X.s 27)),
 X.o 29 (.bin .lss (X.s 26) (X.s 28))]
def C.cq : LO := C.cq_b
def C.cq_w := pO C.cq.eq_1
def C.cnp : ICode := .keep [0, 2, 4, 7, 8, 9] (.seq (.seq (.region C.cq) C.bw2) C.bw1)
def C.cnp_w := pC C.cnp.eq_1
def C.bv7 : ICode := .loop C.cnp
def C.bv7_w := pC C.bv7.eq_1
def C.bw4 : ICode := .keep [0, 2, 4, 7, 8, 9] (.block 0 C.bv7)
def C.bw4_w := pC C.bw4.eq_1
def C.j9_b : LO := [
 X.o 9 (.move (X.i 0))]
def C.j9 : LO := C.j9_b
def C.j9_w := pO C.j9.eq_1
def C.bw5 : ICode := .keep [0, 2, 4, 7, 8] (.seq (.seq (.region C.j9) C.bw4) C.wy)
def C.bw5_w := pC C.bw5.eq_1
def C.cw_b : LO := [
 X.m 22 0,
 X.o 23 (.fldAddr 0 (X.s 7)),
 X.o 24 (.load1 (X.s 23)),
 X.o 25 (.call F.q83 [X.s 22, X.s 24]),
 X.m 8 25]
def C.cw : LO := C.cw_b
def C.cw_w := pO C.cw.eq_1
def C.p2 : ICode := .keep [0, 2, 4, 7] (.seq (.region C.cw) C.bw5)
def C.p2_w := pC C.p2.eq_1
def C.ct_b : LO := [
 X.o 17 (.fldAddr 3 (X.s 4)),
 X.o 18 (.load1 (X.s 17)),
 X.m 19 2,
 X.o 20 (.idxAddr 6 (X.s 18) (X.s 19)),
 X.o 21 (.loadN 6 (X.s 20)),
 X.o 7 (.alloc [.int .i64 0, .int .i64 0, .int .i64 0, .int .u32 0, .nils, .nils]),
 X.n (.storeN 6 (X.s 7) (X.s 21))]
def C.ct : LO := C.ct_b
def C.ct_w := pO C.ct.eq_1
def C.bm5 : ICode := .keep [0, 2, 4] (.seq (.region C.ct) C.p2)
def C.bm5_w := pC C.bm5.eq_1
def C.js_b : LO := [
 X.o 4 (.boxN (X.s 1)),
 X.o 6 (.move (.cst (.bool false)))]
def C.js : LO := C.js_b
def C.js_w := pO C.js.eq_1
def C.q16 : IFunc := ⟨3, [.slot 6], .seq (.region C.js) C.bm5⟩
def C.q16_W := aI (aI (aI (aI (aI (aI @C.cy_w @C.bm4_w) (aI @C.j7_w @C.bwg_w)) (aI (aI @C.j8_w @C.bv3_w) (aI @C.bwx_w (aI @C.bw3_w @C.bm_w)))) (aI (aI (aI @C.bv8_w @C.bw6_w) (aI @C.j6_w (aI @C.p3_w @C.j5_w))) (aI (aI @C.bv9_w @C.bwb_w) (aI @C.j4_w (aI @C.wv_w @C.by_w))))) (aI (aI (aI (aI @C.p1_w @C.j2_w) (aI @C.bwc_w (aI @C.j3_w @C.bvz_w))) (aI (aI @C.bwd_w @C.bwf_w) (aI @C.j1_w (aI @C.bv0_w @C.bwh_w)))) (aI (aI (aI @C.cx_w @C.ww_w) (aI @C.j0_w (aI @C.bwj_w @C.bwk_w))) (aI (aI @C.jz_w @C.bwl_w) (aI @C.jq_w (aI @C.bv1_w @C.bwm_w)))))) (aI (aI (aI (aI (aI @C.bwn_w @C.jy_w) (aI @C.bv2_w (aI @C.bwp_w @C.jx_w))) (aI (aI @C.wx_w @C.cv_w) (aI @C.bwr_w (aI @C.jw_w @C.bv4_w)))) (aI (aI (aI @C.bws_w @C.bwt_w) (aI @C.jv_w (aI @C.bv5_w @C.bwv_w))) (aI (aI @C.jt_w @C.bww_w) (aI @C.kd_w (aI @C.wy_w @C.bp_w))))) (aI (aI (aI (aI @C.bwy_w @C.kc_w) (aI @C.bwq_w (aI @C.bwz_w @C.kb_w))) (aI (aI @C.bw0_w @C.cz_w) (aI @C.bv6_w (aI @C.bw1_w @C.bw2_w)))) (aI (aI (aI @C.cq_w @C.bv7_w) (aI @C.bw4_w (aI @C.j9_w @C.bw5_w))) (aI (aI @C.cw_w @C.p2_w) (aI @C.ct_w (aI @C.bm5_w @C.js_w))))))
def C.q16_B := aI (aI (aI (aI @C.cy_b.eq_1 (aI @C.j7_b.eq_1 @C.j8_b.eq_1)) (aI (aI @C.bm_b.eq_1 @C.j6_b.eq_1) (aI @C.j5_b.eq_1 @C.j4_b.eq_1))) (aI (aI (aI @C.by_b.eq_1 @C.j2_b.eq_1) (aI @C.j3_b.eq_1 @C.j1_b.eq_1)) (aI (aI @C.cx_b.eq_1 @C.j0_b.eq_1) (aI @C.jz_b.eq_1 @C.jq_b.eq_1)))) (aI (aI (aI (aI @C.jy_b.eq_1 @C.jx_b.eq_1) (aI @C.cv_b.eq_1 @C.jw_b.eq_1)) (aI (aI @C.jv_b.eq_1 @C.jt_b.eq_1) (aI @C.kd_b.eq_1 @C.bp_b.eq_1))) (aI (aI (aI @C.kc_b.eq_1 @C.kb_b.eq_1) (aI @C.cz_b.eq_1 @C.cq_b.eq_1)) (aI (aI @C.j9_b.eq_1 @C.cw_b.eq_1) (aI @C.ct_b.eq_1 @C.js_b.eq_1))))

def C.bkg_b : LO := [
 X.m 8 0,
 X.o 9 (.nilchk (X.s 8)),
 X.o 10 (.fldAddr 0 (X.s 9)),
 X.o 11 (.load1 (X.s 10)),
 X.m 12 1,
 X.o 13 (.call F.q18 [X.s 11, X.s 12]),
 X.m 4 13]
def C.bkg : LO := C.bkg_b
def C.bkg_w := pO C.bkg.eq_1
def C.cks : ICode := .keep [0, 1] (.seq (.region C.bkg) .ret)
def C.cks_w := pC C.cks.eq_1
def C.bkf_b : LO := [
 X.o 4 (.move (.cst (.nils)))]
def C.bkf : LO := C.bkf_b
def C.bkf_w := pO C.bkf.eq_1
def C.ckt : ICode := .seq (.region C.bkf) .ret
def C.ckt_w := pC C.ckt.eq_1
def C.ckv : ICode := .keep [0, 1, 7] (.cond (X.s 7) C.ckt .skip)
def C.ckv_w := pC C.ckv.eq_1
def C.bkd_b : LO := [
 X.m 5 0,
 X.o 6 (.call F.q94 [X.s 5]),
 X.o 7 (.un .not (X.s 6))]
def C.bkd : LO := C.bkd_b
def C.bkd_w := pO C.bkd.eq_1
def C.ckw : ICode := .keep [0, 1] (.seq (.seq (.region C.bkd) C.ckv) C.cks)
def C.ckw_w := pC C.ckw.eq_1
def C.bkc_b : LO := [
 X.o 4 (.move (.cst (.nils)))]
def C.bkc : LO := C.bkc_b
def C.bkc_w := pO C.bkc.eq_1
def C.q83 : IFunc := ⟨2, [.slot 4], .seq (.region C.bkc) C.ckw⟩
def C.q83_W := aI (aI (aI @C.bkg_w @C.cks_w) (aI @C.bkf_w @C.ckt_w)) (aI (aI @C.ckv_w @C.bkd_w) (aI @C.ckw_w @C.bkc_w))
def C.q83_B := aI (aI @C.bkg_b.eq_1 @C.bkf_b.eq_1) (aI @C.bkd_b.eq_1 @C.bkc_b.eq_1)

def C.bkl_b : LO := [
 X.m 10 0,
 X.o 11 (.nilchk (X.s 10)),
 X.o 12 (.fldAddr 0 (X.s 11)),
 X.o 13 (.load1 (X.s 12)),
 X.m 14 1,
 X.m 15 2,
 X.o 16 (.call F.q19 [X.s 13, X.s 14, X.s 15]),
 X.m 6 16]
def C.bkl : LO := C.bkl_b
def C.bkl_w := pO C.bkl.eq_1
def C.ckx : ICode := .keep [0, 1, 2] (.seq (.region C.bkl) .ret)
def C.ckx_w := pC C.ckx.eq_1
def C.bkk_b : LO := [
 X.o 6 (.move (X.i 4))]
def C.bkk : LO := C.bkk_b
def C.bkk_w := pO C.bkk.eq_1
def C.cky : ICode := .seq (.region C.bkk) .ret
def C.cky_w := pC C.cky.eq_1
def C.ckq : ICode := .keep [0, 1, 2, 9] (.cond (X.s 9) C.cky .skip)
def C.ckq_w := pC C.ckq.eq_1
def C.bkj_b : LO := [
 X.m 7 0,
 X.o 8 (.call F.q94 [X.s 7]),
 X.o 9 (.un .not (X.s 8))]
def C.bkj : LO := C.bkj_b
def C.bkj_w := pO C.bkj.eq_1
def C.ckz : ICode := .keep [0, 1, 2] (.seq (.seq (.region C.bkj) C.ckq) C.ckx)
def C.ckz_w := pC C.ckz.eq_1
def C.bkh_b : LO := [
 X.o 6 (.move (X.i 0))]
def C.bkh : LO := C.bkh_b
def C.bkh_w := pO C.bkh.eq_1
def C.q84 : IFunc := ⟨3, [.slot 6], .seq (.region C.bkh) C.ckz⟩
def C.q84_W := aI (aI (aI @C.bkl_w @C.ckx_w) (aI @C.bkk_w @C.cky_w)) (aI (aI @C.ckq_w @C.bkj_w) (aI @C.ckz_w @C.bkh_w))
def C.q84_B := aI (aI @C.bkl_b.eq_1 @C.bkk_b.eq_1) (aI @C.bkj_b.eq_1 @C.bkh_b.eq_1)

def C.bkb_b : LO := [
 X.m 17 0,
 X.o 18 (.nilchk (X.s 17)),
 X.o 19 (.fldAddr 0 (X.s 18)),
 X.o 20 (.load1 (X.s 19)),
 X.o 21 (.fldAddr 0 (X.s 5)),
 X.o 22 (.load1 (X.s 21)),
 X.o 23 (.call F.q20 [X.s 20, X.s 22]),
 X.m 24 23,
 X.t 24 25 (.move (X.s 0)),
 X.t 24 26 (.nilchk (X.s 25)),
 X.t 24 27 (.fldAddr 1 (X.s 26)),
 X.t 24 28 (.load1 (X.s 27)),
 X.t 24 29 (.fldAddr 1 (X.s 5)),
 X.t 24 30 (.load1 (X.s 29)),
 X.t 24 31 (.call F.q97 [X.s 28, X.s 30]),
 X.t 24 32 (.bin .eql (X.s 31) (.cst (.int .u8 49))),
 X.o 33 (.pick (X.s 24) (X.s 32) (.cst (.bool false))),
 X.m 34 33,
 X.t 34 35 (.move (X.s 0)),
 X.t 34 36 (.nilchk (X.s 35)),
 X.t 34 37 (.fldAddr 2 (X.s 36)),
 X.t 34 38 (.load1 (X.s 37)),
 X.t 34 39 (.fldAddr 2 (X.s 5)),
 X.t 34 40 (.load1 (X.s 39)),
 X.t 34 41 (.call F.q121 [X.s 38, X.s 40]),
 X.t 34 42 (.un .not (X.s 41)),
 X.o 43 (.pick (X.s 34) (X.s 42) (.cst (.bool false))),
 X.m 4 43]
def C.bkb : LO := C.bkb_b
def C.bkb_w := pO C.bkb.eq_1
def C.ckr : ICode := .keep [0, 5] (.seq (.region C.bkb) .ret)
def C.ckr_w := pC C.ckr.eq_1
def C.dv_b : LO := [
 X.m 10 0,
 X.o 11 (.nilchk (X.s 10)),
 X.o 12 (.fldAddr 4 (X.s 11)),
 X.o 13 (.load1 (X.s 12)),
 X.m 14 1,
 X.o 15 (.idxAddr 6 (X.s 13) (X.s 14)),
 X.o 16 (.loadN 6 (X.s 15)),
 X.o 5 (.alloc [.int .i64 0, .int .i64 0, .int .i64 0, .int .u32 0, .nilp, .nilp]),
 X.n (.storeN 6 (X.s 5) (X.s 16))]
def C.dv : LO := C.dv_b
def C.dv_w := pO C.dv.eq_1
def C.bq7 : ICode := .keep [0, 1] (.seq (.region C.dv) C.ckr)
def C.bq7_w := pC C.bq7.eq_1
def C.dt_b : LO := [
 X.o 4 (.move (.cst (.bool false)))]
def C.dt : LO := C.dt_b
def C.dt_w := pO C.dt.eq_1
def C.bq8 : ICode := .seq (.region C.dt) .ret
def C.bq8_w := pC C.bq8.eq_1
def C.bq9 : ICode := .keep [0, 1, 9] (.cond (X.s 9) C.bq8 .skip)
def C.bq9_w := pC C.bq9.eq_1
def C.ds_b : LO := [
 X.m 6 0,
 X.m 7 1,
 X.o 8 (.call F.q93 [X.s 6, X.s 7]),
 X.o 9 (.un .not (X.s 8))]
def C.ds : LO := C.ds_b
def C.ds_w := pO C.ds.eq_1
def C.bzb : ICode := .keep [0, 1] (.seq (.seq (.region C.ds) C.bq9) C.bq7)
def C.bzb_w := pC C.bzb.eq_1
def C.dr_b : LO := [
 X.o 4 (.move (.cst (.bool false)))]
def C.dr : LO := C.dr_b
def C.dr_w := pO C.dr.eq_1
def C.q81 : IFunc := ⟨2, [.slot 4], .seq (.region C.dr) C.bzb⟩
def C.q81_W := aI (aI (aI @C.bkb_w @C.ckr_w) (aI @C.dv_w (aI @C.bq7_w @C.dt_w))) (aI (aI @C.bq8_w @C.bq9_w) (aI @C.ds_w (aI @C.bzb_w @C.dr_w)))
def C.q81_B := aI (aI @C.bkb_b.eq_1 @C.dv_b.eq_1) (aI @C.dt_b.eq_1 (aI @C.ds_b.eq_1 @C.dr_b.eq_1))

def C.ys_b : LO := [
 X.o 3 (.makeFunc F.q26 [X.s 1]),
 X.o 4 (.makeFunc F.q27 [X.s 1]),
 X.o 5 (.makeFunc F.q29 [X.s 1]),
 X.o 6 (.makeFunc F.q30 [X.s 1]),
 X.o 7 (.makeFunc F.q32 [X.s 1]),
 X.o 8 (.makeFunc F.q33 [X.s 1]),
 X.o 9 (.makeFunc F.q34 [X.s 1]),
 X.o 10 (.makeFunc F.q36 [X.s 1]),
 X.o 11 (.buildSlice 1 8 [.nilf] [(0, 1, X.s 3), (1, 1, X.s 4), (2, 1, X.s 5), (3, 1, X.s 6), (4, 1, X.s 7), (5, 1, X.s 8), (6, 1, X.s 9), (7, 1, X.s 10)]),
 X.o 12 (.call F.q61 [X.s 11]),
 X.m 2 12]
def C.ys : LO := C.ys_b
def C.ys_w := pO C.ys.eq_1
def C.b9n : ICode := .keep [1] (.seq (.region C.ys) .ret)
def C.b9n_w := pC C.b9n.eq_1
def C.lf_b : LO := [
 X.o 1 (.boxN (X.s 0)),
 X.o 2 (.move (X.i 0))]
def C.lf : LO := C.lf_b
def C.lf_w := pO C.lf.eq_1
def C.q25 : IFunc := ⟨1, [.slot 2], .seq (.region C.lf) C.b9n⟩
def C.q25_W := aI @C.ys_w (aI @C.b9n_w @C.lf_w)
def C.q25_B := aI @C.ys_b.eq_1 @C.lf_b.eq_1

def C.mz_b : LO := [
 X.o 4 (.move (X.i 0))]
def C.mz : LO := C.mz_b
def C.mz_w := pO C.mz.eq_1
def C.bzf : ICode := .keep [] (.seq (.region C.mz) .ret)
def C.bzf_w := pC C.bzf.eq_1
def C.mq_b : LO := [
 X.o 36 (.bin .add (X.s 25) (X.i 1)),
 X.m 25 36]
def C.mq : LO := C.mq_b
def C.mq_w := pO C.mq.eq_1
def C.bzs : ICode := .keep [1, 23, 24, 25] (.region C.mq)
def C.bzs_w := pC C.bzs.eq_1
def C.my_b : LO := [
 X.o 33 (.fldAddr 4 (X.s 7)),
 X.o 34 (.load1 (X.s 33)),
 X.o 35 (.call F.q107 [X.s 34])]
def C.my : LO := C.my_b
def C.my_w := pO C.my.eq_1
def C.bzt : ICode := .keep [1, 7, 23, 24, 25, 32] (.cond (X.s 32) (.region C.my) .skip)
def C.bzt_w := pC C.bzt.eq_1
def C.m7_b : LO := [
 X.o 29 (.fldAddr 2 (X.s 7)),
 X.o 30 (.load1 (X.s 29)),
 X.m 31 1,
 X.o 32 (.bin .eql (X.s 30) (X.s 31))]
def C.m7 : LO := C.m7_b
def C.m7_w := pO C.m7.eq_1
def C.bzv : ICode := .keep [1, 7, 23, 24, 25] (.seq (.region C.m7) C.bzt)
def C.bzv_w := pC C.bzv.eq_1
def C.m6_b : LO := [
 X.o 27 (.idxAddr 6 (X.s 23) (X.s 25)),
 X.o 28 (.loadN 6 (X.s 27)),
 X.o 7 (.alloc [.int .i64 0, .int .i64 0, .int .i64 0, .int .u32 0, .nilp, .nilp]),
 X.n (.storeN 6 (X.s 7) (X.s 28))]
def C.m6 : LO := C.m6_b
def C.m6_w := pO C.m6.eq_1
def C.bzc : ICode := .seq (.region C.m6) C.bzv
def C.bzc_w := pC C.bzc.eq_1
def C.bzw : ICode := .keep [1, 23, 24, 25] (.seq (.block 1 C.bzc) C.bzs)
def C.bzw_w := pC C.bzw.eq_1
def C.bzx : ICode := .keep [1, 23, 24, 25, 26] (.seq (.cond (X.s 26) .skip (.exit 0)) C.bzw)
def C.bzx_w := pC C.bzx.eq_1
def C.m5_b : LO := [
 X.o 26 (.bin .lss (X.s 25) (X.s 24))]
def C.m5 : LO := C.m5_b
def C.m5_w := pO C.m5.eq_1
def C.cpg : ICode := .keep [1, 23, 24, 25] (.seq (.region C.m5) C.bzx)
def C.cpg_w := pC C.cpg.eq_1
def C.bzd : ICode := .loop C.cpg
def C.bzd_w := pC C.bzd.eq_1
def C.bzg : ICode := .keep [1, 23, 24, 25] (.block 0 C.bzd)
def C.bzg_w := pC C.bzg.eq_1
def C.m4_b : LO := [
 X.m 20 0,
 X.o 21 (.nilchk (X.s 20)),
 X.o 22 (.fldAddr 4 (X.s 21)),
 X.o 23 (.load1 (X.s 22)),
 X.o 24 (.len (X.s 23)),
 X.o 25 (.move (X.i 0))]
def C.m4 : LO := C.m4_b
def C.m4_w := pO C.m4.eq_1
def C.bzh : ICode := .keep [0, 1] (.seq (.seq (.region C.m4) C.bzg) C.bzf)
def C.bzh_w := pC C.bzh.eq_1
def C.m3_b : LO := [
 X.m 19 5,
 X.m 4 19]
def C.m3 : LO := C.m3_b
def C.m3_w := pO C.m3.eq_1
def C.bzj : ICode := .seq (.region C.m3) .ret
def C.bzj_w := pC C.bzj.eq_1
def C.bzk : ICode := .keep [0, 1, 5, 18] (.cond (X.s 18) C.bzj .skip)
def C.bzk_w := pC C.bzk.eq_1
def C.m2_b : LO := [
 X.m 17 5,
 X.o 18 (.bin .neq (X.s 17) (X.i 0))]
def C.m2 : LO := C.m2_b
def C.m2_w := pO C.m2.eq_1
def C.bzl : ICode := .keep [0, 1, 5] (.seq (.region C.m2) C.bzk)
def C.bzl_w := pC C.bzl.eq_1
def C.m1_b : LO := [
 X.m 11 0,
 X.o 12 (.nilchk (X.s 11)),
 X.o 13 (.fldAddr 2 (X.s 12)),
 X.o 14 (.load1 (X.s 13)),
 X.m 15 1,
 X.o 16 (.call F.q120 [X.s 14, X.s 15]),
 X.m 5 16]
def C.m1 : LO := C.m1_b
def C.m1_w := pO C.m1.eq_1
def C.bzm : ICode := .keep [0, 1] (.seq (.seq (.region C.m1) C.bzl) C.bzh)
def C.bzm_w := pC C.bzm.eq_1
def C.m0_b : LO := [
 X.o 4 (.move (X.i 4))]
def C.m0 : LO := C.m0_b
def C.m0_w := pO C.m0.eq_1
def C.bzn : ICode := .seq (.region C.m0) .ret
def C.bzn_w := pC C.bzn.eq_1
def C.bzp : ICode := .keep [0, 1, 10] (.cond (X.s 10) C.bzn .skip)
def C.bzp_w := pC C.bzp.eq_1
def C.mx_b : LO := [
 X.m 8 0,
 X.o 9 (.call F.q94 [X.s 8]),
 X.o 10 (.un .not (X.s 9))]
def C.mx : LO := C.mx_b
def C.mx_w := pO C.mx.eq_1
def C.bzr : ICode := .keep [0, 1] (.seq (.seq (.region C.mx) C.bzp) C.bzm)
def C.bzr_w := pC C.bzr.eq_1
def C.mw_b : LO := [
 X.o 4 (.move (X.i 0))]
def C.mw : LO := C.mw_b
def C.mw_w := pO C.mw.eq_1
def C.q82 : IFunc := ⟨2, [.slot 4], .seq (.region C.mw) C.bzr⟩
def C.q82_W := aI (aI (aI (aI @C.mz_w (aI @C.bzf_w @C.mq_w)) (aI (aI @C.bzs_w @C.my_w) (aI @C.bzt_w @C.m7_w))) (aI (aI (aI @C.bzv_w @C.m6_w) (aI @C.bzc_w @C.bzw_w)) (aI (aI @C.bzx_w @C.m5_w) (aI @C.bzd_w @C.bzg_w)))) (aI (aI (aI @C.m4_w (aI @C.bzh_w @C.m3_w)) (aI (aI @C.bzj_w @C.bzk_w) (aI @C.m2_w @C.bzl_w))) (aI (aI (aI @C.m1_w @C.bzm_w) (aI @C.m0_w @C.bzn_w)) (aI (aI @C.bzp_w @C.mx_w) (aI @C.bzr_w @C.mw_w))))
def C.q82_B := aI (aI (aI @C.mz_b.eq_1 (aI @C.mq_b.eq_1 @C.my_b.eq_1)) (aI @C.m7_b.eq_1 (aI @C.m6_b.eq_1 @C.m5_b.eq_1))) (aI (aI @C.m4_b.eq_1 (aI @C.m3_b.eq_1 @C.m2_b.eq_1)) (aI (aI @C.m1_b.eq_1 @C.m0_b.eq_1) (aI @C.mx_b.eq_1 @C.mw_b.eq_1)))

def C.bk4_b : LO := [
 X.m 8 0,
 X.o 9 (.nilchk (X.s 8)),
 X.o 10 (.fldAddr 2 (X.s 9)),
 X.o 11 (.load1 (X.s 10)),
 X.m 12 1,
 X.o 13 (.call F.q122 [X.s 11, X.s 12]),
 X.m 4 13]
def C.bk4 : LO := C.bk4_b
def C.bk4_w := pO C.bk4.eq_1
def C.clf : ICode := .keep [0, 1] (.seq (.region C.bk4) .ret)
def C.clf_w := pC C.clf.eq_1
def C.bk3_b : LO := [
 X.o 4 (.move (X.i 4))]
def C.bk3 : LO := C.bk3_b
def C.bk3_w := pO C.bk3.eq_1
def C.clg : ICode := .seq (.region C.bk3) .ret
def C.clg_w := pC C.clg.eq_1
def C.clh : ICode := .keep [0, 1, 7] (.cond (X.s 7) C.clg .skip)
def C.clh_w := pC C.clh.eq_1
def C.bk2_b : LO := [
 X.m 5 0,
 X.o 6 (.call F.q94 [X.s 5]),
 X.o 7 (.un .not (X.s 6))]
def C.bk2 : LO := C.bk2_b
def C.bk2_w := pO C.bk2.eq_1
def C.clj : ICode := .keep [0, 1] (.seq (.seq (.region C.bk2) C.clh) C.clf)
def C.clj_w := pC C.clj.eq_1
def C.bk1_b : LO := [
 X.o 4 (.move (X.i 0))]
def C.bk1 : LO := C.bk1_b
def C.bk1_w := pO C.bk1.eq_1
def C.q88 : IFunc := ⟨2, [.slot 4], .seq (.region C.bk1) C.clj⟩
def C.q88_W := aI (aI (aI @C.bk4_w @C.clf_w) (aI @C.bk3_w @C.clg_w)) (aI (aI @C.clh_w @C.bk2_w) (aI @C.clj_w @C.bk1_w))
def C.q88_B := aI (aI @C.bk4_b.eq_1 @C.bk3_b.eq_1) (aI @C.bk2_b.eq_1 @C.bk1_b.eq_1)

def C.bkn_b : LO := [
 X.m 5 0,
 X.o 6 (.call F.q94 [X.s 5]),
 X.o 7 (.un .not (X.s 6)),
 X.m 8 7,
 X.f 8 9 (.move (X.s 0)),
 X.f 8 10 (.nilchk (X.s 9)),
 X.f 8 11 (.fldAddr 2 (X.s 10)),
 X.f 8 12 (.load1 (X.s 11)),
 X.f 8 13 (.move (X.s 1)),
 X.f 8 14 (.call F.q121 [X.s 12, X.s 13]),
 X.o 15 (.pick (X.s 8) (.cst (.bool true)) (X.s 14)),
 X.m 4 15]
def C.bkn : LO := C.bkn_b
def C.bkn_w := pO C.bkn.eq_1
def C.ck0 : ICode := .keep [0, 1] (.seq (.region C.bkn) .ret)
def C.ck0_w := pC C.ck0.eq_1
def C.bkm_b : LO := [
 X.o 4 (.move (.cst (.bool false)))]
def C.bkm : LO := C.bkm_b
def C.bkm_w := pO C.bkm.eq_1
def C.q85 : IFunc := ⟨2, [.slot 4], .seq (.region C.bkm) C.ck0⟩
def C.q85_W := aI @C.bkn_w (aI @C.ck0_w @C.bkm_w)
def C.q85_B := aI @C.bkn_b.eq_1 @C.bkm_b.eq_1

def C.bkt_b : LO := [
 X.m 8 0,
 X.o 9 (.nilchk (X.s 8)),
 X.o 10 (.fldAddr 1 (X.s 9)),
 X.o 11 (.load1 (X.s 10)),
 X.m 12 1,
 X.o 13 (.call F.q97 [X.s 11, X.s 12]),
 X.m 4 13]
def C.bkt : LO := C.bkt_b
def C.bkt_w := pO C.bkt.eq_1
def C.ck1 : ICode := .keep [0, 1] (.seq (.region C.bkt) .ret)
def C.ck1_w := pC C.ck1.eq_1
def C.bks_b : LO := [
 X.o 4 (.move (.cst (.int .u8 0)))]
def C.bks : LO := C.bks_b
def C.bks_w := pO C.bks.eq_1
def C.ck2 : ICode := .seq (.region C.bks) .ret
def C.ck2_w := pC C.ck2.eq_1
def C.ck3 : ICode := .keep [0, 1, 7] (.cond (X.s 7) C.ck2 .skip)
def C.ck3_w := pC C.ck3.eq_1
def C.bkr_b : LO := [
 X.m 5 0,
 X.o 6 (.call F.q94 [X.s 5]),
 X.o 7 (.un .not (X.s 6))]
def C.bkr : LO := C.bkr_b
def C.bkr_w := pO C.bkr.eq_1
def C.ck4 : ICode := .keep [0, 1] (.seq (.seq (.region C.bkr) C.ck3) C.ck1)
def C.ck4_w := pC C.ck4.eq_1
def C.bkp_b : LO := [
 X.o 4 (.move (.cst (.int .u8 0)))]
def C.bkp : LO := C.bkp_b
def C.bkp_w := pO C.bkp.eq_1
def C.q86 : IFunc := ⟨2, [.slot 4], .seq (.region C.bkp) C.ck4⟩
def C.q86_W := aI (aI (aI @C.bkt_w @C.ck1_w) (aI @C.bks_w @C.ck2_w)) (aI (aI @C.ck3_w @C.bkr_w) (aI @C.ck4_w @C.bkp_w))
def C.q86_B := aI (aI @C.bkt_b.eq_1 @C.bks_b.eq_1) (aI @C.bkr_b.eq_1 @C.bkp_b.eq_1)

def C.blg_b : LO := [
 X.m 8 0,
 X.o 9 (.nilchk (X.s 8)),
 X.o 10 (.fldAddr 1 (X.s 9)),
 X.o 11 (.load1 (X.s 10)),
 X.m 12 1,
 X.o 13 (.call F.q99 [X.s 11, X.s 12]),
 X.m 4 13]
def C.blg : LO := C.blg_b
def C.blg_w := pO C.blg.eq_1
def C.clm : ICode := .keep [0, 1] (.seq (.region C.blg) .ret)
def C.clm_w := pC C.clm.eq_1
def C.blf_b : LO := [
 X.o 4 (.move (X.i 4))]
def C.blf : LO := C.blf_b
def C.blf_w := pO C.blf.eq_1
def C.cln : ICode := .seq (.region C.blf) .ret
def C.cln_w := pC C.cln.eq_1
def C.clp : ICode := .keep [0, 1, 7] (.cond (X.s 7) C.cln .skip)
def C.clp_w := pC C.clp.eq_1
def C.bld_b : LO := [
 X.m 5 0,
 X.o 6 (.call F.q94 [X.s 5]),
 X.o 7 (.un .not (X.s 6))]
def C.bld : LO := C.bld_b
def C.bld_w := pO C.bld.eq_1
def C.clr : ICode := .keep [0, 1] (.seq (.seq (.region C.bld) C.clp) C.clm)
def C.clr_w := pC C.clr.eq_1
def C.blc_b : LO := [
 X.o 4 (.move (X.i 0))]
def C.blc : LO := C.blc_b
def C.blc_w := pO C.blc.eq_1
def C.q91 : IFunc := ⟨2, [.slot 4], .seq (.region C.blc) C.clr⟩
def C.q91_W := aI (aI (aI @C.blg_w @C.clm_w) (aI @C.blf_w @C.cln_w)) (aI (aI @C.clp_w @C.bld_w) (aI @C.clr_w @C.blc_w))
def C.q91_B := aI (aI @C.blg_b.eq_1 @C.blf_b.eq_1) (aI @C.bld_b.eq_1 @C.blc_b.eq_1)

def C.bk6_b : LO := [
 X.m 5 0,
 X.o 6 (.call F.q94 [X.s 5]),
 X.m 7 6,
 X.t 7 8 (.move (X.s 0)),
 X.t 7 9 (.nilchk (X.s 8)),
 X.t 7 10 (.fldAddr 0 (X.s 9)),
 X.t 7 11 (.load1 (X.s 10)),
 X.t 7 12 (.move (X.s 1)),
 X.t 7 13 (.call F.q20 [X.s 11, X.s 12]),
 X.o 14 (.pick (X.s 7) (X.s 13) (.cst (.bool false))),
 X.m 4 14]
def C.bk6 : LO := C.bk6_b
def C.bk6_w := pO C.bk6.eq_1
def C.clk : ICode := .keep [0, 1] (.seq (.region C.bk6) .ret)
def C.clk_w := pC C.clk.eq_1
def C.bk5_b : LO := [
 X.o 4 (.move (.cst (.bool false)))]
def C.bk5 : LO := C.bk5_b
def C.bk5_w := pO C.bk5.eq_1
def C.q89 : IFunc := ⟨2, [.slot 4], .seq (.region C.bk5) C.clk⟩
def C.q89_W := aI @C.bk6_w (aI @C.clk_w @C.bk5_w)
def C.q89_B := aI @C.bk6_b.eq_1 @C.bk5_b.eq_1

def C.km_b : LO := [
 X.m 49 5,
 X.m 2 49,
 X.o 3 (.move (X.i 0))]
def C.km : LO := C.km_b
def C.km_w := pO C.km.eq_1
def C.bxb : ICode := .keep [5] (.seq (.region C.km) .ret)
def C.bxb_w := pC C.bxb.eq_1
def C.kl_b : LO := [
 X.o 48 (.bin .add (X.s 20) (X.i 1)),
 X.m 20 48]
def C.kl : LO := C.kl_b
def C.kl_w := pO C.kl.eq_1
def C.bxj : ICode := .keep [5, 18, 19, 20] (.region C.kl)
def C.bxj_w := pC C.bxj.eq_1
def C.wz_b : LO := [
 X.m 38 5,
 X.m 39 5,
 X.o 40 (.nilchk (X.s 39)),
 X.o 41 (.fldAddr 0 (X.s 40)),
 X.o 42 (.load1 (X.s 41)),
 X.o 43 (.loadN 11 (X.s 8)),
 X.o 44 (.buildSlice 11 1 [.int .u8 0, .nils, .int .u64 0, .int .i64 0, .int .i64 0, .int .i64 0, .bool false, .int .i64 0, .int .i64 0, .int .i64 0, .int .i64 0] [(0, 11, X.s 43)]),
 X.o 45 (.append 11 104 (X.s 42) (X.s 44)),
 X.o 46 (.nilchk (X.s 38)),
 X.o 47 (.fldAddr 0 (X.s 46)),
 X.n (.store1 (X.s 47) (X.s 45))]
def C.wz : LO := C.wz_b
def C.wz_w := pO C.wz.eq_1
def C.wq : ICode := .keep [5, 8, 18, 19, 20] (.region C.wz)
def C.wq_w := pC C.wq.eq_1
def C.kh_b : LO := [
 X.o 30 (.fldAddr 5 (X.s 7)),
 X.o 31 (.load1 (X.s 30)),
 X.o 32 (.fldAddr 7 (X.s 8)),
 X.n (.store1 (X.s 32) (X.s 31))]
def C.kh : LO := C.kh_b
def C.kh_w := pO C.kh.eq_1
def C.kk_b : LO := [
 X.o 35 (.fldAddr 4 (X.s 7)),
 X.o 36 (.load1 (X.s 35)),
 X.o 37 (.fldAddr 10 (X.s 8)),
 X.n (.store1 (X.s 37) (X.s 36))]
def C.kk : LO := C.kk_b
def C.kk_w := pO C.kk.eq_1
def C.bxn : ICode := .keep [5, 7, 8, 18, 19, 20, 33] (.cond (X.s 33) (.region C.kk) .skip)
def C.bxn_w := pC C.bxn.eq_1
def C.kj_b : LO := [
 X.o 34 (.bin .eql (X.s 27) (.cst (.int .u8 100))),
 X.m 33 34]
def C.kj : LO := C.kj_b
def C.kj_w := pO C.kj.eq_1
def C.bxp : ICode := .seq (.region C.kj) C.bxn
def C.bxp_w := pC C.bxp.eq_1
def C.bxr : ICode := .keep [5, 7, 8, 18, 19, 20, 27, 28] (.cond (X.s 28) (.region C.kh) C.bxp)
def C.bxr_w := pC C.bxr.eq_1
def C.kg_b : LO := [
 X.o 29 (.bin .eql (X.s 27) (.cst (.int .u8 112))),
 X.m 28 29]
def C.kg : LO := C.kg_b
def C.kg_w := pO C.kg.eq_1
def C.bw9 : ICode := .seq (.region C.kg) C.bxr
def C.bw9_w := pC C.bw9.eq_1
def C.bxs : ICode := .keep [5, 7, 8, 18, 19, 20, 27] (.block 2 C.bw9)
def C.bxs_w := pC C.bxs.eq_1
def C.kw_b : LO := [
 X.o 26 (.fldAddr 0 (X.s 7)),
 X.o 27 (.load1 (X.s 26))]
def C.kw : LO := C.kw_b
def C.kw_w := pO C.kw.eq_1
def C.bm8 : ICode := .keep [5, 7, 8, 18, 19, 20] (.seq (.seq (.region C.kw) C.bxs) C.wq)
def C.bm8_w := pC C.bm8.eq_1
def C.bq_b : LO := [
 X.o 24 (.loadN 6 (X.s 7)),
 X.o 25 (.build [.int .u8 0, .nils, .int .u64 0, .int .i64 0, .int .i64 0, .int .i64 0, .bool false, .int .i64 0, .int .i64 0, .int .i64 0, .int .i64 0] [(0, 6, X.s 24)]),
 X.o 8 (.alloc [.int .u8 0, .nils, .int .u64 0, .int .i64 0, .int .i64 0, .int .i64 0, .bool false, .int .i64 0, .int .i64 0, .int .i64 0, .int .i64 0]),
 X.n (.storeN 11 (X.s 8) (X.s 25))]
def C.bq : LO := C.bq_b
def C.bq_w := pO C.bq.eq_1
def C.bm6 : ICode := .keep [5, 7, 18, 19, 20] (.seq (.region C.bq) C.bm8)
def C.bm6_w := pC C.bm6.eq_1
def C.kv_b : LO := [
 X.o 22 (.idxAddr 6 (X.s 18) (X.s 20)),
 X.o 23 (.loadN 6 (X.s 22)),
 X.o 7 (.alloc [.int .u8 0, .nils, .int .u64 0, .int .i64 0, .int .i64 0, .int .i64 0]),
 X.n (.storeN 6 (X.s 7) (X.s 23))]
def C.kv : LO := C.kv_b
def C.kv_w := pO C.kv.eq_1
def C.bw7 : ICode := .seq (.region C.kv) C.bm6
def C.bw7_w := pC C.bw7.eq_1
def C.bxc : ICode := .keep [5, 18, 19, 20] (.seq (.block 1 C.bw7) C.bxj)
def C.bxc_w := pC C.bxc.eq_1
def C.bxd : ICode := .keep [5, 18, 19, 20, 21] (.seq (.cond (X.s 21) .skip (.exit 0)) C.bxc)
def C.bxd_w := pC C.bxd.eq_1
def C.kt_b : LO := [
 X.o 21 (.bin .lss (X.s 20) (X.s 19))]
def C.kt : LO := C.kt_b
def C.kt_w := pO C.kt.eq_1
def C.cns : ICode := .keep [5, 18, 19, 20] (.seq (.region C.kt) C.bxd)
def C.cns_w := pC C.cns.eq_1
def C.bw8 : ICode := .loop C.cns
def C.bw8_w := pC C.bw8.eq_1
def C.bxf : ICode := .keep [5, 18, 19, 20] (.block 0 C.bw8)
def C.bxf_w := pC C.bxf.eq_1
def C.ks_b : LO := [
 X.o 16 (.loadN 4 (X.s 1)),
 X.o 17 (.call F.q38 [X.s 16]),
 X.o 18 (.field1 0 (X.s 17)),
 X.o 19 (.len (X.s 18)),
 X.o 20 (.move (X.i 0))]
def C.ks : LO := C.ks_b
def C.ks_w := pO C.ks.eq_1
def C.bm7 : ICode := .keep [1, 5] (.seq (.seq (.region C.ks) C.bxf) C.bxb)
def C.bm7_w := pC C.bm7.eq_1
def C.kr_b : LO := [
 X.o 14 (.build [.nils] []),
 X.o 15 (.boxN (X.s 14)),
 X.m 5 15]
def C.kr : LO := C.kr_b
def C.kr_w := pO C.kr.eq_1
def C.bxg : ICode := .keep [1] (.seq (.region C.kr) C.bm7)
def C.bxg_w := pC C.bxg.eq_1
def C.kp_b : LO := [
 X.m 13 4,
 X.o 2 (.move (.cst (.nilp))),
 X.m 3 13]
def C.kp : LO := C.kp_b
def C.kp_w := pO C.kp.eq_1
def C.bxh : ICode := .seq (.region C.kp) .ret
def C.bxh_w := pC C.bxh.eq_1
def C.bxk : ICode := .keep [1, 4, 12] (.cond (X.s 12) C.bxh .skip)
def C.bxk_w := pC C.bxk.eq_1
def C.kn_b : LO := [
 X.m 11 4,
 X.o 12 (.bin .neq (X.s 11) (X.i 0))]
def C.kn : LO := C.kn_b
def C.kn_w := pO C.kn.eq_1
def C.bxl : ICode := .keep [1, 4] (.seq (.region C.kn) C.bxk)
def C.bxl_w := pC C.bxl.eq_1
def C.kf_b : LO := [
 X.o 9 (.loadN 4 (X.s 1)),
 X.o 10 (.call F.q25 [X.s 9]),
 X.m 4 10]
def C.kf : LO := C.kf_b
def C.kf_w := pO C.kf.eq_1
def C.bxm : ICode := .keep [1] (.seq (.seq (.region C.kf) C.bxl) C.bxg)
def C.bxm_w := pC C.bxm.eq_1
def C.bc_b : LO := [
 X.o 1 (.boxN (X.s 0)),
 X.o 2 (.move (.cst (.nilp))),
 X.o 3 (.move (X.i 0))]
def C.bc : LO := C.bc_b
def C.bc_w := pO C.bc.eq_1
def C.q17 : IFunc := ⟨1, [.slot 2, .slot 3], .seq (.region C.bc) C.bxm⟩
def C.q17_W := aI (aI (aI (aI (aI @C.km_w @C.bxb_w) (aI @C.kl_w @C.bxj_w)) (aI (aI @C.wz_w @C.wq_w) (aI @C.kh_w (aI @C.kk_w @C.bxn_w)))) (aI (aI (aI @C.kj_w @C.bxp_w) (aI @C.bxr_w (aI @C.kg_w @C.bw9_w))) (aI (aI @C.bxs_w @C.kw_w) (aI @C.bm8_w (aI @C.bq_w @C.bm6_w))))) (aI (aI (aI (aI @C.kv_w @C.bw7_w) (aI @C.bxc_w @C.bxd_w)) (aI (aI @C.kt_w @C.bw8_w) (aI @C.bxf_w (aI @C.ks_w @C.bm7_w)))) (aI (aI (aI @C.kr_w @C.bxg_w) (aI @C.kp_w (aI @C.bxh_w @C.bxk_w))) (aI (aI @C.kn_w @C.bxl_w) (aI @C.kf_w (aI @C.bxm_w @C.bc_w)))))
def C.q17_B := aI (aI (aI (aI @C.km_b.eq_1 @C.kl_b.eq_1) (aI @C.wz_b.eq_1 @C.kh_b.eq_1)) (aI (aI @C.kk_b.eq_1 @C.kj_b.eq_1) (aI @C.kg_b.eq_1 @C.kw_b.eq_1))) (aI (aI (aI @C.bq_b.eq_1 @C.kv_b.eq_1) (aI @C.kt_b.eq_1 @C.ks_b.eq_1)) (aI (aI @C.kr_b.eq_1 @C.kp_b.eq_1) (aI @C.kn_b.eq_1 (aI @C.kf_b.eq_1 @C.bc_b.eq_1))))

def C.fb_b : LO := [
 X.m 34 5,
 X.m 2 34,
 X.o 3 (.move (X.i 0))]
def C.fb : LO := C.fb_b
def C.fb_w := pO C.fb.eq_1
def C.bnp : ICode := .keep [5] (.seq (.region C.fb) .ret)
def C.bnp_w := pC C.bnp.eq_1
def C.fk_b : LO := [
 X.o 33 (.bin .add (X.s 18) (X.i 1)),
 X.m 18 33]
def C.fk : LO := C.fk_b
def C.fk_w := pO C.fk.eq_1
def C.bny : ICode := .keep [5, 16, 17, 18] (.region C.fk)
def C.bny_w := pC C.bny.eq_1
def C.rg_b : LO := [
 X.m 22 5,
 X.m 23 5,
 X.o 24 (.nilchk (X.s 23)),
 X.o 25 (.fldAddr 0 (X.s 24)),
 X.o 26 (.load1 (X.s 25)),
 X.o 27 (.loadN 3 (X.s 7)),
 X.o 28 (.build [.int .i64 0, .int .i64 0, .bool false, .int .u8 0, .int .i64 0, .bool false, .bool false] [(0, 3, X.s 27), (3, 1, .cst (.int .u8 48))]),
 X.o 29 (.buildSlice 7 1 [.int .i64 0, .int .i64 0, .bool false, .int .u8 0, .int .i64 0, .bool false, .bool false] [(0, 7, X.s 28)]),
 X.o 30 (.append 7 48 (X.s 26) (X.s 29)),
 X.o 31 (.nilchk (X.s 22)),
 X.o 32 (.fldAddr 0 (X.s 31)),
 X.n (.store1 (X.s 32) (X.s 30))]
def C.rg : LO := C.rg_b
def C.rg_w := pO C.rg.eq_1
def C.b3d : ICode := .keep [5, 7, 16, 17, 18] (.region C.rg)
def C.b3d_w := pC C.b3d.eq_1
def C.fj_b : LO := [
 X.o 20 (.idxAddr 3 (X.s 16) (X.s 18)),
 X.o 21 (.loadN 3 (X.s 20)),
 X.o 7 (.alloc [.int .i64 0, .int .i64 0, .bool false]),
 X.n (.storeN 3 (X.s 7) (X.s 21))]
def C.fj : LO := C.fj_b
def C.fj_w := pO C.fj.eq_1
def C.bnm : ICode := .seq (.region C.fj) C.b3d
def C.bnm_w := pC C.bnm.eq_1
def C.bnq : ICode := .keep [5, 16, 17, 18] (.seq (.block 1 C.bnm) C.bny)
def C.bnq_w := pC C.bnq.eq_1
def C.bnz : ICode := .keep [5, 16, 17, 18, 19] (.seq (.cond (X.s 19) .skip (.exit 0)) C.bnq)
def C.bnz_w := pC C.bnz.eq_1
def C.fh_b : LO := [
 X.o 19 (.bin .lss (X.s 18) (X.s 17))]
def C.fh : LO := C.fh_b
def C.fh_w := pO C.fh.eq_1
def C.cm4 : ICode := .keep [5, 16, 17, 18] (.seq (.region C.fh) C.bnz)
def C.cm4_w := pC C.cm4.eq_1
def C.bnn : ICode := .loop C.cm4
def C.bnn_w := pC C.bnn.eq_1
def C.bn0 : ICode := .keep [5, 16, 17, 18] (.block 0 C.bnn)
def C.bn0_w := pC C.bn0.eq_1
def C.fg_b : LO := [
 X.o 15 (.fldAddr 1 (X.s 1)),
 X.o 16 (.load1 (X.s 15)),
 X.o 17 (.len (X.s 16)),
 X.o 18 (.move (X.i 0))]
def C.fg : LO := C.fg_b
def C.fg_w := pO C.fg.eq_1
def C.bnr : ICode := .keep [1, 5] (.seq (.seq (.region C.fg) C.bn0) C.bnp)
def C.bnr_w := pC C.bnr.eq_1
def C.ff_b : LO := [
 X.o 13 (.build [.nils] []),
 X.o 14 (.boxN (X.s 13)),
 X.m 5 14]
def C.ff : LO := C.ff_b
def C.ff_w := pO C.ff.eq_1
def C.bns : ICode := .keep [1] (.seq (.region C.ff) C.bnr)
def C.bns_w := pC C.bns.eq_1
def C.fd_b : LO := [
 X.m 12 4,
 X.o 2 (.move (.cst (.nilp))),
 X.m 3 12]
def C.fd : LO := C.fd_b
def C.fd_w := pO C.fd.eq_1
def C.bnt : ICode := .seq (.region C.fd) .ret
def C.bnt_w := pC C.bnt.eq_1
def C.bnv : ICode := .keep [1, 4, 11] (.cond (X.s 11) C.bnt .skip)
def C.bnv_w := pC C.bnv.eq_1
def C.fc_b : LO := [
 X.m 10 4,
 X.o 11 (.bin .neq (X.s 10) (X.i 0))]
def C.fc : LO := C.fc_b
def C.fc_w := pO C.fc.eq_1
def C.bnw : ICode := .keep [1, 4] (.seq (.region C.fc) C.bnv)
def C.bnw_w := pC C.bnw.eq_1
def C.d9_b : LO := [
 X.o 8 (.loadN 4 (X.s 1)),
 X.o 9 (.call F.q25 [X.s 8]),
 X.m 4 9]
def C.d9 : LO := C.d9_b
def C.d9_w := pO C.d9.eq_1
def C.bnx : ICode := .keep [1] (.seq (.seq (.region C.d9) C.bnw) C.bns)
def C.bnx_w := pC C.bnx.eq_1
def C.bl_b : LO := [
 X.o 1 (.boxN (X.s 0)),
 X.o 2 (.move (.cst (.nilp))),
 X.o 3 (.move (X.i 0))]
def C.bl : LO := C.bl_b
def C.bl_w := pO C.bl.eq_1
def C.q101 : IFunc := ⟨1, [.slot 2, .slot 3], .seq (.region C.bl) C.bnx⟩
def C.q101_W := aI (aI (aI (aI @C.fb_w (aI @C.bnp_w @C.fk_w)) (aI @C.bny_w (aI @C.rg_w @C.b3d_w))) (aI (aI @C.fj_w (aI @C.bnm_w @C.bnq_w)) (aI @C.bnz_w (aI @C.fh_w @C.bnn_w)))) (aI (aI (aI @C.bn0_w (aI @C.fg_w @C.bnr_w)) (aI @C.ff_w (aI @C.bns_w @C.fd_w))) (aI (aI @C.bnt_w (aI @C.bnv_w @C.fc_w)) (aI (aI @C.bnw_w @C.d9_w) (aI @C.bnx_w @C.bl_w))))
def C.q101_B := aI (aI (aI @C.fb_b.eq_1 @C.fk_b.eq_1) (aI @C.rg_b.eq_1 (aI @C.fj_b.eq_1 @C.fh_b.eq_1))) (aI (aI @C.fg_b.eq_1 (aI @C.ff_b.eq_1 @C.fd_b.eq_1)) (aI @C.fc_b.eq_1 (aI @C.d9_b.eq_1 @C.bl_b.eq_1)))

def C.f5_b : LO := [
 X.m 36 5,
 X.m 2 36,
 X.o 3 (.move (X.i 0))]
def C.f5 : LO := C.f5_b
def C.f5_w := pO C.f5.eq_1
def C.bpw : ICode := .keep [5] (.seq (.region C.f5) .ret)
def C.bpw_w := pC C.bpw.eq_1
def C.f9_b : LO := [
 X.o 35 (.bin .add (X.s 22) (X.i 1)),
 X.m 22 35]
def C.f9 : LO := C.f9_b
def C.f9_w := pO C.f9.eq_1
def C.bp2 : ICode := .keep [5, 20, 21, 22] (.region C.f9)
def C.bp2_w := pC C.bp2.eq_1
def C.vz_b : LO := [
 X.m 27 5,
 X.o 28 (.nilchk (X.s 27)),
 X.o 29 (.fldAddr 0 (X.s 28)),
 X.o 30 (.load1 (X.s 29)),
 X.m 31 6,
 X.o 32 (.fldAddr 0 (X.s 7)),
 X.o 33 (.load1 (X.s 32)),
 X.o 34 (.build [.int .i64 0, .int .i64 0, .bool false, .bool false] [(0, 1, X.s 33), (2, 1, .cst (.bool true))]),
 X.n (.mapSet (X.s 30) (X.s 31) (X.s 34))]
def C.vz : LO := C.vz_b
def C.vz_w := pO C.vz.eq_1
def C.b63 : ICode := .keep [5, 6, 7, 20, 21, 22] (.region C.vz)
def C.b63_w := pC C.b63.eq_1
def C.f8_b : LO := [
 X.m 24 22,
 X.o 25 (.idxAddr 1 (X.s 20) (X.s 22)),
 X.o 26 (.loadN 1 (X.s 25)),
 X.o 7 (.alloc [.int .i64 0]),
 X.m 6 24,
 X.n (.storeN 1 (X.s 7) (X.s 26))]
def C.f8 : LO := C.f8_b
def C.f8_w := pO C.f8.eq_1
def C.bpt : ICode := .seq (.region C.f8) C.b63
def C.bpt_w := pC C.bpt.eq_1
def C.bp3 : ICode := .keep [5, 20, 21, 22] (.seq (.block 1 C.bpt) C.bp2)
def C.bp3_w := pC C.bp3.eq_1
def C.bp4 : ICode := .keep [5, 20, 21, 22, 23] (.seq (.cond (X.s 23) .skip (.exit 0)) C.bp3)
def C.bp4_w := pC C.bp4.eq_1
def C.f7_b : LO := [
 X.o 23 (.bin .lss (X.s 22) (X.s 21))]
def C.f7 : LO := C.f7_b
def C.f7_w := pO C.f7.eq_1
def C.cm6 : ICode := .keep [5, 20, 21, 22] (.seq (.region C.f7) C.bp4)
def C.cm6_w := pC C.cm6.eq_1
def C.bpv : ICode := .loop C.cm6
def C.bpv_w := pC C.bpv.eq_1
def C.bp5 : ICode := .keep [5, 20, 21, 22] (.block 0 C.bpv)
def C.bp5_w := pC C.bp5.eq_1
def C.f6_b : LO := [
 X.o 19 (.fldAddr 2 (X.s 1)),
 X.o 20 (.load1 (X.s 19)),
 X.o 21 (.len (X.s 20)),
 X.o 22 (.move (X.i 0))]
def C.f6 : LO := C.f6_b
def C.f6_w := pO C.f6.eq_1
def C.bpx : ICode := .keep [1, 5] (.seq (.seq (.region C.f6) C.bp5) C.bpw)
def C.bpx_w := pC C.bpx.eq_1
def C.dm_b : LO := [
 X.o 13 (.fldAddr 2 (X.s 1)),
 X.o 14 (.load1 (X.s 13)),
 X.o 15 (.len (X.s 14)),
 X.o 16 (.makeMap (some (X.s 15))),
 X.o 17 (.build [.nilm] [(0, 1, X.s 16)]),
 X.o 18 (.boxN (X.s 17)),
 X.m 5 18]
def C.dm : LO := C.dm_b
def C.dm_w := pO C.dm.eq_1
def C.bpy : ICode := .keep [1] (.seq (.region C.dm) C.bpx)
def C.bpy_w := pC C.bpy.eq_1
def C.dl_b : LO := [
 X.m 12 4,
 X.o 2 (.move (.cst (.nilp))),
 X.m 3 12]
def C.dl : LO := C.dl_b
def C.dl_w := pO C.dl.eq_1
def C.bpq : ICode := .seq (.region C.dl) .ret
def C.bpq_w := pC C.bpq.eq_1
def C.bpz : ICode := .keep [1, 4, 11] (.cond (X.s 11) C.bpq .skip)
def C.bpz_w := pC C.bpz.eq_1
def C.dk_b : LO := [
 X.m 10 4,
 X.o 11 (.bin .neq (X.s 10) (X.i 0))]
def C.dk : LO := C.dk_b
def C.dk_w := pO C.dk.eq_1
def C.bp0 : ICode := .keep [1, 4] (.seq (.region C.dk) C.bpz)
def C.bp0_w := pC C.bp0.eq_1
def C.dj_b : LO := [
 X.o 8 (.loadN 4 (X.s 1)),
 X.o 9 (.call F.q25 [X.s 8]),
 X.m 4 9]
def C.dj : LO := C.dj_b
def C.dj_w := pO C.dj.eq_1
def C.bp1 : ICode := .keep [1] (.seq (.seq (.region C.dj) C.bp0) C.bpy)
def C.bp1_w := pC C.bp1.eq_1
def C.bt_b : LO := [
 X.o 1 (.boxN (X.s 0)),
 X.o 2 (.move (.cst (.nilp))),
 X.o 3 (.move (X.i 0))]
def C.bt : LO := C.bt_b
def C.bt_w := pO C.bt.eq_1
def C.q125 : IFunc := ⟨1, [.slot 2, .slot 3], .seq (.region C.bt) C.bp1⟩
def C.q125_W := aI (aI (aI (aI @C.f5_w (aI @C.bpw_w @C.f9_w)) (aI @C.bp2_w (aI @C.vz_w @C.b63_w))) (aI (aI @C.f8_w (aI @C.bpt_w @C.bp3_w)) (aI @C.bp4_w (aI @C.f7_w @C.bpv_w)))) (aI (aI (aI @C.bp5_w (aI @C.f6_w @C.bpx_w)) (aI @C.dm_w (aI @C.bpy_w @C.dl_w))) (aI (aI @C.bpq_w (aI @C.bpz_w @C.dk_w)) (aI (aI @C.bp0_w @C.dj_w) (aI @C.bp1_w @C.bt_w))))
def C.q125_B := aI (aI (aI @C.f5_b.eq_1 @C.f9_b.eq_1) (aI @C.vz_b.eq_1 (aI @C.f8_b.eq_1 @C.f7_b.eq_1))) (aI (aI @C.f6_b.eq_1 (aI @C.dm_b.eq_1 @C.dl_b.eq_1)) (aI @C.dk_b.eq_1 (aI @C.dj_b.eq_1 @C.bt_b.eq_1)))

def C.t4_b : LO := [
 X.m 20 4,
 X.m 2 20,
 X.o 3 (.move (X.i 0))]
def C.t4 : LO := C.t4_b
def C.t4_w := pO C.t4.eq_1
def C.b51 : ICode := .keep [4] (.seq (.region C.t4) .ret)
def C.b51_w := pC C.b51.eq_1
def C.t3_b : LO := [
 X.m 18 4,
 X.o 19 (.call F.q107 [X.s 18])]
def C.t3 : LO := C.t3_b
def C.t3_w := pO C.t3.eq_1
def C.b52 : ICode := .keep [4] (.seq (.region C.t3) C.b51)
def C.b52_w := pC C.b52.eq_1
def C.t2_b : LO := [
 X.m 8 0,
 X.m 10 0,
 X.o 11 (.len (X.s 10)),
 X.m 13 0,
 X.o 14 (.len (X.s 13)),
 ⟨some 9, .call F.q126 [X.s 8], none, [], [(X.s 11, X.s 11), (X.s 14, X.s 14)]⟩,
 ⟨some 12, .makeSlice 1 4 [.int .u32 0] (X.s 11) (X.s 11), none, [], [(X.s 14, X.s 14)]⟩,
 X.o 15 (.makeSlice 1 4 [.int .u32 0] (X.s 14) (X.s 14)),
 X.o 16 (.build [.nils, .nils, .nils, .bool false] [(0, 1, X.s 9), (1, 1, X.s 12), (2, 1, X.s 15)]),
 X.o 17 (.boxN (X.s 16)),
 X.m 4 17]
def C.t2 : LO := C.t2_b
def C.t2_w := pO C.t2.eq_1
def C.b53 : ICode := .keep [0] (.seq (.region C.t2) C.b52)
def C.b53_w := pC C.b53.eq_1
def C.t1_b : LO := [
 X.o 2 (.move (.cst (.nilp))),
 X.o 3 (.move (X.i 8))]
def C.t1 : LO := C.t1_b
def C.t1_w := pO C.t1.eq_1
def C.b54 : ICode := .seq (.region C.t1) .ret
def C.b54_w := pC C.b54.eq_1
def C.b55 : ICode := .keep [0, 7] (.cond (X.s 7) C.b54 .skip)
def C.b55_w := pC C.b55.eq_1
def C.t0_b : LO := [
 X.m 5 0,
 X.o 6 (.len (X.s 5)),
 X.o 7 (.bin .gtr (X.s 6) (X.i 8))]
def C.t0 : LO := C.t0_b
def C.t0_w := pO C.t0.eq_1
def C.b56 : ICode := .keep [0] (.seq (.seq (.region C.t0) C.b55) C.b53)
def C.b56_w := pC C.b56.eq_1
def C.tz_b : LO := [
 X.o 2 (.move (.cst (.nilp))),
 X.o 3 (.move (X.i 0))]
def C.tz : LO := C.tz_b
def C.tz_w := pO C.tz.eq_1
def C.q119 : IFunc := ⟨1, [.slot 2, .slot 3], .seq (.region C.tz) C.b56⟩
def C.q119_W := aI (aI (aI @C.t4_w (aI @C.b51_w @C.t3_w)) (aI @C.b52_w (aI @C.t2_w @C.b53_w))) (aI (aI @C.t1_w (aI @C.b54_w @C.b55_w)) (aI @C.t0_w (aI @C.b56_w @C.tz_w)))
def C.q119_B := aI (aI @C.t4_b.eq_1 (aI @C.t3_b.eq_1 @C.t2_b.eq_1)) (aI @C.t1_b.eq_1 (aI @C.t0_b.eq_1 @C.tz_b.eq_1))

def C.sy_b : LO := [
 X.m 5 0,
 X.o 6 (.nilchk (X.s 5)),
 X.o 7 (.fldAddr 0 (X.s 6)),
 X.o 8 (.load1 (X.s 7)),
 X.o 9 (.len (X.s 8)),
 X.m 2 9]
def C.sy : LO := C.sy_b
def C.sy_w := pO C.sy.eq_1
def C.b4y : ICode := .keep [0] (.seq (.region C.sy) .ret)
def C.b4y_w := pC C.b4y.eq_1
def C.sx_b : LO := [
 X.o 2 (.move (X.i 0))]
def C.sx : LO := C.sx_b
def C.sx_w := pO C.sx.eq_1
def C.b4q : ICode := .seq (.region C.sx) .ret
def C.b4q_w := pC C.b4q.eq_1
def C.b4z : ICode := .keep [0, 4] (.cond (X.s 4) C.b4q .skip)
def C.b4z_w := pC C.b4z.eq_1
def C.sw_b : LO := [
 X.m 3 0,
 X.o 4 (.eqP 0 false (X.s 3) (.cst (.nilp)))]
def C.sw : LO := C.sw_b
def C.sw_w := pO C.sw.eq_1
def C.b40 : ICode := .keep [0] (.seq (.seq (.region C.sw) C.b4z) C.b4y)
def C.b40_w := pC C.b40.eq_1
def C.sv_b : LO := [
 X.o 2 (.move (X.i 0))]
def C.sv : LO := C.sv_b
def C.sv_w := pO C.sv.eq_1
def C.q109 : IFunc := ⟨1, [.slot 2], .seq (.region C.sv) C.b40⟩
def C.q109_W := aI (aI (aI @C.sy_w @C.b4y_w) (aI @C.sx_w @C.b4q_w)) (aI (aI @C.b4z_w @C.sw_w) (aI @C.b40_w @C.sv_w))
def C.q109_B := aI (aI @C.sy_b.eq_1 @C.sx_b.eq_1) (aI @C.sw_b.eq_1 @C.sv_b.eq_1)

def C.sl_b : LO := [
 X.o 1 (.build [.int .i64 0, .int .i64 0] []),
 X.o 2 (.boxN (X.s 1)),
 X.m 0 2]
def C.sl : LO := C.sl_b
def C.sl_w := pO C.sl.eq_1
def C.b4s : ICode := .keep [] (.seq (.region C.sl) .ret)
def C.b4s_w := pC C.b4s.eq_1
def C.sk_b : LO := [
 X.o 0 (.move (.cst (.nilp)))]
def C.sk : LO := C.sk_b
def C.sk_w := pO C.sk.eq_1
def C.q106 : IFunc := ⟨0, [.slot 0], .seq (.region C.sk) C.b4s⟩
def C.q106_W := aI @C.sl_w (aI @C.b4s_w @C.sk_w)
def C.q106_B := aI @C.sl_b.eq_1 @C.sk_b.eq_1

def C.bms_b : LO := [
 X.m 39 4,
 X.m 2 39,
 X.o 3 (.move (X.i 0))]
def C.bms : LO := C.bms_b
def C.bms_w := pO C.bms.eq_1
def C.cm3 : ICode := .keep [4] (.seq (.region C.bms) .ret)
def C.cm3_w := pC C.cm3.eq_1
def C.pv_b : LO := [
 X.o 38 (.bin .add (X.s 20) (X.i 1)),
 X.m 20 38]
def C.pv : LO := C.pv_b
def C.pv_w := pO C.pv.eq_1
def C.b2x : ICode := .keep [4, 18, 19, 20] (.region C.pv)
def C.b2x_w := pC C.b2x.eq_1
def C.p0_b : LO := [
 X.m 31 4,
 X.o 32 (.nilchk (X.s 31)),
 X.o 33 (.fldAddr 0 (X.s 32)),
 X.o 34 (.load1 (X.s 33)),
 X.m 35 5,
 X.m 36 6,
 X.o 37 (.idxAddr 1 (X.s 34) (X.s 35)),
 X.n (.store1 (X.s 37) (X.s 36))]
def C.p0 : LO := C.p0_b
def C.p0_w := pO C.p0.eq_1
def C.b2y : ICode := .keep [4, 5, 6, 18, 19, 20] (.region C.p0)
def C.b2y_w := pC C.b2y.eq_1
def C.pz_b : LO := [
 X.o 2 (.move (.cst (.nilp))),
 X.o 3 (.move (X.i 1))]
def C.pz : LO := C.pz_b
def C.pz_w := pO C.pz.eq_1
def C.b2q : ICode := .seq (.region C.pz) .ret
def C.b2q_w := pC C.b2q.eq_1
def C.b2z : ICode := .keep [4, 5, 6, 18, 19, 20, 30] (.cond (X.s 30) C.b2q .skip)
def C.b2z_w := pC C.b2z.eq_1
def C.pq_b : LO := [
 X.m 25 6,
 X.o 26 (.bin .lss (X.s 25) (X.i 0)),
 X.m 27 26,
 X.f 27 28 (.move (X.s 6)),
 X.f 27 29 (.bin .gtr (X.s 28) (X.i 8)),
 X.o 30 (.pick (X.s 27) (.cst (.bool true)) (X.s 29))]
def C.pq : LO := C.pq_b
def C.pq_w := pO C.pq.eq_1
def C.b20 : ICode := .keep [4, 5, 6, 18, 19, 20] (.seq (.seq (.region C.pq) C.b2z) C.b2y)
def C.b20_w := pC C.b20.eq_1
def C.py_b : LO := [
 X.m 22 20,
 X.o 23 (.idxAddr 1 (X.s 18) (X.s 20)),
 X.o 24 (.load1 (X.s 23)),
 X.m 5 22,
 X.m 6 24]
def C.py : LO := C.py_b
def C.py_w := pO C.py.eq_1
def C.b2n : ICode := .seq (.region C.py) C.b20
def C.b2n_w := pC C.b2n.eq_1
def C.b21 : ICode := .keep [4, 18, 19, 20] (.seq (.block 1 C.b2n) C.b2x)
def C.b21_w := pC C.b21.eq_1
def C.b22 : ICode := .keep [4, 18, 19, 20, 21] (.seq (.cond (X.s 21) .skip (.exit 0)) C.b21)
def C.b22_w := pC C.b22.eq_1
def C.px_b : LO := [
 X.o 21 (.bin .lss (X.s 20) (X.s 19))]
def C.px : LO := C.px_b
def C.px_w := pO C.px.eq_1
def C.cpp : ICode := .keep [4, 18, 19, 20] (.seq (.region C.px) C.b22)
def C.cpp_w := pC C.cpp.eq_1
def C.b2m : ICode := .loop C.cpp
def C.b2m_w := pC C.b2m.eq_1
def C.b2p : ICode := .keep [4, 18, 19, 20] (.block 0 C.b2m)
def C.b2p_w := pC C.b2p.eq_1
def C.pw_b : LO := [
 X.m 18 0,
 X.o 19 (.len (X.s 18)),
 X.o 20 (.move (X.i 0))]
def C.pw : LO := C.pw_b
def C.pw_w := pO C.pw.eq_1
def C.b2r : ICode := .keep [0, 4] (.seq (.seq (.region C.pw) C.b2p) C.cm3)
def C.b2r_w := pC C.b2r.eq_1
def C.d8_b : LO := [
 X.m 10 0,
 X.o 11 (.len (X.s 10)),
 X.m 13 0,
 X.o 14 (.len (X.s 13)),
 ⟨some 12, .makeSlice 1 8 [.int .i64 0] (X.s 11) (X.s 11), none, [], [(X.s 14, X.s 14)]⟩,
 X.o 15 (.makeSlice 1 24 [.nils] (X.s 14) (X.s 14)),
 X.o 16 (.build [.nils, .nils, .int .i64 0] [(0, 1, X.s 12), (1, 1, X.s 15)]),
 X.o 17 (.boxN (X.s 16)),
 X.m 4 17]
def C.d8 : LO := C.d8_b
def C.d8_w := pO C.d8.eq_1
def C.b2s : ICode := .keep [0] (.seq (.region C.d8) C.b2r)
def C.b2s_w := pC C.b2s.eq_1
def C.d7_b : LO := [
 X.o 2 (.move (.cst (.nilp))),
 X.o 3 (.move (X.i 1))]
def C.d7 : LO := C.d7_b
def C.d7_w := pO C.d7.eq_1
def C.b2t : ICode := .seq (.region C.d7) .ret
def C.b2t_w := pC C.b2t.eq_1
def C.b2v : ICode := .keep [0, 9] (.cond (X.s 9) C.b2t .skip)
def C.b2v_w := pC C.b2v.eq_1
def C.d6_b : LO := [
 X.m 7 0,
 X.o 8 (.len (X.s 7)),
 X.o 9 (.bin .gtr (X.s 8) (X.i 6))]
def C.d6 : LO := C.d6_b
def C.d6_w := pO C.d6.eq_1
def C.b2w : ICode := .keep [0] (.seq (.seq (.region C.d6) C.b2v) C.b2s)
def C.b2w_w := pC C.b2w.eq_1
def C.d5_b : LO := [
 X.o 2 (.move (.cst (.nilp))),
 X.o 3 (.move (X.i 0))]
def C.d5 : LO := C.d5_b
def C.d5_w := pO C.d5.eq_1
def C.q9 : IFunc := ⟨1, [.slot 2, .slot 3], .seq (.region C.d5) C.b2w⟩
def C.q9_W := aI (aI (aI (aI @C.bms_w (aI @C.cm3_w @C.pv_w)) (aI (aI @C.b2x_w @C.p0_w) (aI @C.b2y_w @C.pz_w))) (aI (aI @C.b2q_w (aI @C.b2z_w @C.pq_w)) (aI (aI @C.b20_w @C.py_w) (aI @C.b2n_w @C.b21_w)))) (aI (aI (aI @C.b22_w (aI @C.px_w @C.b2m_w)) (aI (aI @C.b2p_w @C.pw_w) (aI @C.b2r_w @C.d8_w))) (aI (aI @C.b2s_w (aI @C.d7_w @C.b2t_w)) (aI (aI @C.b2v_w @C.d6_w) (aI @C.b2w_w @C.d5_w))))
def C.q9_B := aI (aI (aI @C.bms_b.eq_1 (aI @C.pv_b.eq_1 @C.p0_b.eq_1)) (aI @C.pz_b.eq_1 (aI @C.pq_b.eq_1 @C.py_b.eq_1))) (aI (aI @C.px_b.eq_1 (aI @C.pw_b.eq_1 @C.d8_b.eq_1)) (aI @C.d7_b.eq_1 (aI @C.d6_b.eq_1 @C.d5_b.eq_1)))

def C.xv_b : LO := [
 X.m 25 0,
 X.m 26 10,
 X.m 27 1,
 X.m 30 3,
 X.m 31 1,
 X.o 32 (.bin .shl (X.s 30) (X.s 31)),
 X.o 28 (.callv (X.s 26) [X.s 27]),
 X.o 29 (.bin .andNot (X.s 25) (X.s 28)),
 X.o 33 (.bin .or (X.s 29) (X.s 32)),
 X.m 8 33,
 X.o 9 (.move (X.i 0))]
def C.xv : LO := C.xv_b
def C.xv_w := pO C.xv.eq_1
def C.b8h : ICode := .keep [0, 1, 3, 10] (.seq (.region C.xv) .ret)
def C.b8h_w := pC C.b8h.eq_1
def C.xt_b : LO := [
 X.o 8 (.move (.cst (.int .u32 0))),
 X.o 9 (.move (X.i 1))]
def C.xt : LO := C.xt_b
def C.xt_w := pO C.xt.eq_1
def C.b8j : ICode := .seq (.region C.xt) .ret
def C.b8j_w := pC C.b8j.eq_1
def C.b8k : ICode := .keep [0, 1, 3, 10, 24] (.cond (X.s 24) C.b8j .skip)
def C.b8k_w := pC C.b8k.eq_1
def C.xs_b : LO := [
 X.m 20 3,
 X.m 21 10,
 X.o 22 (.callv (X.s 21) [X.i 0]),
 X.o 23 (.bin .andNot (X.s 20) (X.s 22)),
 X.o 24 (.bin .neq (X.s 23) (.cst (.int .u32 0)))]
def C.xs : LO := C.xs_b
def C.xs_w := pO C.xs.eq_1
def C.b8l : ICode := .keep [0, 1, 3, 10] (.seq (.seq (.region C.xs) C.b8k) C.b8h)
def C.b8l_w := pC C.b8l.eq_1
def C.xr_b : LO := [
 X.o 8 (.move (.cst (.int .u32 0))),
 X.o 9 (.move (X.i 3))]
def C.xr : LO := C.xr_b
def C.xr_w := pO C.xr.eq_1
def C.b8m : ICode := .seq (.region C.xr) .ret
def C.b8m_w := pC C.b8m.eq_1
def C.b8n : ICode := .keep [0, 1, 3, 10, 19] (.cond (X.s 19) C.b8m .skip)
def C.b8n_w := pC C.b8n.eq_1
def C.xp_b : LO := [
 X.m 18 11,
 X.o 19 (.un .not (X.s 18))]
def C.xp : LO := C.xp_b
def C.xp_w := pO C.xp.eq_1
def C.b8p : ICode := .keep [0, 1, 3, 10, 11] (.seq (.seq (.region C.xp) C.b8n) C.b8l)
def C.b8p_w := pC C.b8p.eq_1
def C.xn_b : LO := [
 X.m 13 1,
 X.m 14 2,
 X.o 15 (.call F.q2 [X.s 13, X.s 14]),
 X.m 12 15,
 X.o 16 (.extract (X.s 12) 0),
 X.o 17 (.extract (X.s 12) 1),
 X.m 10 16,
 X.m 11 17]
def C.xn : LO := C.xn_b
def C.xn_w := pO C.xn.eq_1
def C.b8r : ICode := .keep [0, 1, 2, 3] (.seq (.region C.xn) C.b8p)
def C.b8r_w := pC C.b8r.eq_1
def C.xm_b : LO := [
 X.o 8 (.move (.cst (.int .u32 0))),
 X.o 9 (.move (X.i 0))]
def C.xm : LO := C.xm_b
def C.xm_w := pO C.xm.eq_1
def C.q1 : IFunc := ⟨4, [.slot 8, .slot 9], .seq (.region C.xm) C.b8r⟩
def C.q1_W := aI (aI (aI @C.xv_w (aI @C.b8h_w @C.xt_w)) (aI (aI @C.b8j_w @C.b8k_w) (aI @C.xs_w @C.b8l_w))) (aI (aI (aI @C.xr_w @C.b8m_w) (aI @C.b8n_w @C.xp_w)) (aI (aI @C.b8p_w @C.xn_w) (aI @C.b8r_w @C.xm_w)))
def C.q1_B := aI (aI @C.xv_b.eq_1 (aI @C.xt_b.eq_1 @C.xs_b.eq_1)) (aI (aI @C.xr_b.eq_1 @C.xp_b.eq_1) (aI @C.xn_b.eq_1 @C.xm_b.eq_1))

def C.s1_b : LO := [
 X.m 12 0,
 X.o 13 (.call F.q11 [X.s 12, X.i 16, X.i 8]),
 X.m 14 0,
 X.o 15 (.call F.q11 [X.s 14, X.i 2, X.i 14]),
 X.m 2 13,
 X.m 3 15]
def C.s1 : LO := C.s1_b
def C.s1_w := pO C.s1.eq_1
def C.b41 : ICode := .keep [0] (.seq (.region C.s1) .ret)
def C.b41_w := pC C.b41.eq_1
def C.s0_b : LO := [
 X.o 2 (.move (X.i (-1))),
 X.o 3 (.move (X.i (-1)))]
def C.s0 : LO := C.s0_b
def C.s0_w := pO C.s0.eq_1
def C.b42 : ICode := .seq (.region C.s0) .ret
def C.b42_w := pC C.b42.eq_1
def C.b43 : ICode := .keep [0, 11] (.cond (X.s 11) C.b42 .skip)
def C.b43_w := pC C.b43.eq_1
def C.sz_b : LO := [
 X.m 4 0,
 X.o 5 (.call F.q11 [X.s 4, X.i 0, X.i 2]),
 X.o 6 (.bin .neq (X.s 5) (X.i 0)),
 X.m 7 6,
 X.f 7 8 (.move (X.s 0)),
 X.f 7 9 (.call F.q11 [X.s 8, X.i 24, X.i 8]),
 X.f 7 10 (.bin .neq (X.s 9) (X.i 0)),
 X.o 11 (.pick (X.s 7) (.cst (.bool true)) (X.s 10))]
def C.sz : LO := C.sz_b
def C.sz_w := pO C.sz.eq_1
def C.b44 : ICode := .keep [0] (.seq (.seq (.region C.sz) C.b43) C.b41)
def C.b44_w := pC C.b44.eq_1
def C.sq_b : LO := [
 X.o 2 (.move (X.i 0)),
 X.o 3 (.move (X.i 0))]
def C.sq : LO := C.sq_b
def C.sq_w := pO C.sq.eq_1
def C.q10 : IFunc := ⟨1, [.slot 2, .slot 3], .seq (.region C.sq) C.b44⟩
def C.q10_W := aI (aI (aI @C.s1_w @C.b41_w) (aI @C.s0_w @C.b42_w)) (aI (aI @C.b43_w @C.sz_w) (aI @C.b44_w @C.sq_w))
def C.q10_B := aI (aI @C.s1_b.eq_1 @C.s0_b.eq_1) (aI @C.sz_b.eq_1 @C.sq_b.eq_1)

def C.bll_b : LO := [
 X.m 5 0,
 X.o 6 (.call F.q94 [X.s 5]),
 X.m 7 6,
 X.t 7 8 (.move (X.s 1)),
 X.t 7 9 (.bin .geq (X.s 8) (X.i 0)),
 X.o 10 (.pick (X.s 7) (X.s 9) (.cst (.bool false))),
 X.m 11 10,
 X.t 11 12 (.move (X.s 1)),
 X.t 11 13 (.move (X.s 0)),
 X.t 11 14 (.nilchk (X.s 13)),
 X.t 11 15 (.fldAddr 4 (X.s 14)),
 X.t 11 16 (.load1 (X.s 15)),
 X.t 11 17 (.len (X.s 16)),
 X.t 11 18 (.bin .lss (X.s 12) (X.s 17)),
 X.o 19 (.pick (X.s 11) (X.s 18) (.cst (.bool false))),
 X.m 4 19]
def C.bll : LO := C.bll_b
def C.bll_w := pO C.bll.eq_1
def C.cls : ICode := .keep [0, 1] (.seq (.region C.bll) .ret)
def C.cls_w := pC C.cls.eq_1
def C.blk_b : LO := [
 X.o 4 (.move (.cst (.bool false)))]
def C.blk : LO := C.blk_b
def C.blk_w := pO C.blk.eq_1
def C.q93 : IFunc := ⟨2, [.slot 4], .seq (.region C.blk) C.cls⟩
def C.q93_W := aI @C.bll_w (aI @C.cls_w @C.blk_w)
def C.q93_B := aI @C.bll_b.eq_1 @C.blk_b.eq_1

def C.r9_b : LO := [
 X.m 5 0,
 X.o 6 (.nilchk (X.s 5)),
 X.o 7 (.fldAddr 0 (X.s 6)),
 X.o 8 (.load1 (X.s 7)),
 X.o 9 (.arrAddr 1 4 (.cst (.iptr [.int .u8 114, .int .u8 97, .int .u8 115, .int .u8 100] 0)) (X.s 8)),
 X.o 10 (.load1 (X.s 9)),
 X.m 2 10]
def C.r9 : LO := C.r9_b
def C.r9_w := pO C.r9.eq_1
def C.b39 : ICode := .keep [0] (.seq (.region C.r9) .ret)
def C.b39_w := pC C.b39.eq_1
def C.r8_b : LO := [
 X.o 2 (.move (.cst (.int .u8 0)))]
def C.r8 : LO := C.r8_b
def C.r8_w := pO C.r8.eq_1
def C.b4b : ICode := .seq (.region C.r8) .ret
def C.b4b_w := pC C.b4b.eq_1
def C.b4c : ICode := .keep [0, 4] (.cond (X.s 4) C.b4b .skip)
def C.b4c_w := pC C.b4c.eq_1
def C.r7_b : LO := [
 X.m 3 0,
 X.o 4 (.eqP 0 false (X.s 3) (.cst (.nilp)))]
def C.r7 : LO := C.r7_b
def C.r7_w := pO C.r7.eq_1
def C.b4d : ICode := .keep [0] (.seq (.seq (.region C.r7) C.b4c) C.b39)
def C.b4d_w := pC C.b4d.eq_1
def C.r6_b : LO := [
 X.o 2 (.move (.cst (.int .u8 0)))]
def C.r6 : LO := C.r6_b
def C.r6_w := pO C.r6.eq_1
def C.q104 : IFunc := ⟨1, [.slot 2], .seq (.region C.r6) C.b4d⟩
def C.q104_W := aI (aI (aI @C.r9_w @C.b39_w) (aI @C.r8_w @C.b4b_w)) (aI (aI @C.b4c_w @C.r7_w) (aI @C.b4d_w @C.r6_w))
def C.q104_B := aI (aI @C.r9_b.eq_1 @C.r8_b.eq_1) (aI @C.r7_b.eq_1 @C.r6_b.eq_1)

def C.bd2_b : LO := [
 X.m 77 12,
 X.m 8 77,
 X.o 9 (.move (X.i 0))]
def C.bd2 : LO := C.bd2_b
def C.bd2_w := pO C.bd2.eq_1
def C.cc9 : ICode := .keep [12] (.seq (.region C.bd2) .ret)
def C.cc9_w := pC C.cc9.eq_1
def C.bd1_b : LO := [
 X.m 57 0,
 X.o 58 (.nilchk (X.s 57)),
 X.o 59 (.fldAddr 1 (X.s 58)),
 X.o 60 (.load1 (X.s 59)),
 X.m 61 10,
 X.m 62 0,
 X.o 63 (.nilchk (X.s 62)),
 X.o 64 (.fldAddr 1 (X.s 63)),
 X.o 65 (.load1 (X.s 64)),
 X.m 66 10,
 X.o 67 (.idxAddr 1 (X.s 65) (X.s 66)),
 X.o 68 (.load1 (X.s 67)),
 X.m 69 12,
 X.m 70 2,
 X.m 71 11,
 X.m 72 3,
 X.o 73 (.build [.int .i64 0, .bool false, .int .i64 0, .int .u32 0] [(0, 1, X.s 69), (1, 1, X.s 70), (2, 1, X.s 71), (3, 1, X.s 72)]),
 X.o 74 (.buildSlice 4 1 [.int .i64 0, .bool false, .int .i64 0, .int .u32 0] [(0, 4, X.s 73)]),
 ⟨some 75, .append 4 32 (X.s 68) (X.s 74), none, [⟨.load1 (X.s 59), 60, none⟩], []⟩,
 X.o 76 (.idxAddr 1 (X.s 60) (X.s 61)),
 X.n (.store1 (X.s 76) (X.s 75))]
def C.bd1 : LO := C.bd1_b
def C.bd1_w := pO C.bd1.eq_1
def C.cdd : ICode := .keep [0, 2, 3, 10, 11, 12] (.seq (.region C.bd1) C.cc9)
def C.cdd_w := pC C.cdd.eq_1
def C.bd0_b : LO := [
 X.m 50 0,
 X.o 51 (.nilchk (X.s 50)),
 X.o 52 (.fldAddr 2 (X.s 51)),
 X.o 53 (.load1 (X.s 52)),
 X.o 54 (.bin .add (X.s 53) (X.i 1)),
 X.o 55 (.nilchk (X.s 50)),
 X.o 56 (.fldAddr 2 (X.s 55)),
 X.n (.store1 (X.s 56) (X.s 54))]
def C.bd0 : LO := C.bd0_b
def C.bd0_w := pO C.bd0.eq_1
def C.cdf : ICode := .keep [0, 2, 3, 10, 11, 12] (.seq (.region C.bd0) C.cdd)
def C.cdf_w := pC C.cdf.eq_1
def C.bdz_b : LO := [
 X.m 46 0,
 X.o 47 (.nilchk (X.s 46)),
 X.o 48 (.fldAddr 2 (X.s 47)),
 X.o 49 (.load1 (X.s 48)),
 X.m 12 49]
def C.bdz : LO := C.bdz_b
def C.bdz_w := pO C.bdz.eq_1
def C.cdg : ICode := .keep [0, 2, 3, 10, 11] (.seq (.region C.bdz) C.cdf)
def C.cdg_w := pC C.cdg.eq_1
def C.bdq_b : LO := [
 X.o 8 (.move (X.i 0)),
 X.o 9 (.move (X.i 8))]
def C.bdq : LO := C.bdq_b
def C.bdq_w := pO C.bdq.eq_1
def C.cdh : ICode := .seq (.region C.bdq) .ret
def C.cdh_w := pC C.cdh.eq_1
def C.cdj : ICode := .keep [0, 2, 3, 10, 11, 45] (.cond (X.s 45) C.cdh .skip)
def C.cdj_w := pC C.cdj.eq_1
def C.bdy_b : LO := [
 X.m 37 0,
 X.o 38 (.nilchk (X.s 37)),
 X.o 39 (.fldAddr 1 (X.s 38)),
 X.o 40 (.load1 (X.s 39)),
 X.m 41 10,
 X.o 42 (.idxAddr 1 (X.s 40) (X.s 41)),
 X.o 43 (.load1 (X.s 42)),
 X.o 44 (.len (X.s 43)),
 X.o 45 (.bin .geq (X.s 44) (X.i 4))]
def C.bdy : LO := C.bdy_b
def C.bdy_w := pO C.bdy.eq_1
def C.cdk : ICode := .keep [0, 2, 3, 10, 11] (.seq (.seq (.region C.bdy) C.cdj) C.cdg)
def C.cdk_w := pC C.cdk.eq_1
def C.bdx_b : LO := [
 X.o 8 (.move (X.i 0)),
 X.o 9 (.move (X.i 4))]
def C.bdx : LO := C.bdx_b
def C.bdx_w := pO C.bdx.eq_1
def C.cdl : ICode := .seq (.region C.bdx) .ret
def C.cdl_w := pC C.cdl.eq_1
def C.cdm : ICode := .keep [0, 2, 3, 10, 11, 36] (.cond (X.s 36) C.cdl .skip)
def C.cdm_w := pC C.cdm.eq_1
def C.bdw_b : LO := [
 X.m 18 0,
 X.m 19 10,
 X.o 20 (.call F.q8 [X.s 18, X.s 19]),
 X.o 21 (.un .not (X.s 20)),
 X.m 22 21,
 X.f 22 23 (.move (X.s 11)),
 X.f 22 24 (.bin .lss (X.s 23) (X.i 0)),
 X.o 25 (.pick (X.s 22) (.cst (.bool true)) (X.s 24)),
 X.m 26 25,
 X.f 26 27 (.move (X.s 11)),
 X.f 26 28 (.move (X.s 0)),
 X.f 26 29 (.nilchk (X.s 28)),
 X.f 26 30 (.fldAddr 0 (X.s 29)),
 X.f 26 31 (.load1 (X.s 30)),
 X.f 26 32 (.move (X.s 10)),
 X.f 26 33 (.idxAddr 1 (X.s 31) (X.s 32)),
 X.f 26 34 (.load1 (X.s 33)),
 X.f 26 35 (.bin .geq (X.s 27) (X.s 34)),
 X.o 36 (.pick (X.s 26) (.cst (.bool true)) (X.s 35))]
def C.bdw : LO := C.bdw_b
def C.bdw_w := pO C.bdw.eq_1
def C.cdb : ICode := .keep [0, 2, 3, 10, 11] (.seq (.seq (.region C.bdw) C.cdm) C.cdk)
def C.cdb_w := pC C.cdb.eq_1
def C.bdv_b : LO := [
 X.m 14 1,
 X.o 15 (.call F.q10 [X.s 14]),
 X.m 13 15,
 X.o 16 (.extract (X.s 13) 0),
 X.o 17 (.extract (X.s 13) 1),
 X.m 10 16,
 X.m 11 17]
def C.bdv : LO := C.bdv_b
def C.bdv_w := pO C.bdv.eq_1
def C.cdc : ICode := .keep [0, 1, 2, 3] (.seq (.region C.bdv) C.cdb)
def C.cdc_w := pC C.cdc.eq_1
def C.bdt_b : LO := [
 X.o 8 (.move (X.i 0)),
 X.o 9 (.move (X.i 0))]
def C.bdt : LO := C.bdt_b
def C.bdt_w := pO C.bdt.eq_1
def C.q5 : IFunc := ⟨4, [.slot 8, .slot 9], .seq (.region C.bdt) C.cdc⟩
def C.q5_W := aI (aI (aI (aI @C.bd2_w @C.cc9_w) (aI @C.bd1_w (aI @C.cdd_w @C.bd0_w))) (aI (aI @C.cdf_w @C.bdz_w) (aI @C.cdg_w (aI @C.bdq_w @C.cdh_w)))) (aI (aI (aI @C.cdj_w @C.bdy_w) (aI @C.cdk_w (aI @C.bdx_w @C.cdl_w))) (aI (aI @C.cdm_w (aI @C.bdw_w @C.cdb_w)) (aI @C.bdv_w (aI @C.cdc_w @C.bdt_w))))
def C.q5_B := aI (aI (aI @C.bd2_b.eq_1 @C.bd1_b.eq_1) (aI @C.bd0_b.eq_1 (aI @C.bdz_b.eq_1 @C.bdq_b.eq_1))) (aI (aI @C.bdy_b.eq_1 @C.bdx_b.eq_1) (aI @C.bdw_b.eq_1 (aI @C.bdv_b.eq_1 @C.bdt_b.eq_1)))

def C.bln_b : LO := [
 X.m 3 0,
 X.o 4 (.eqP 0 true (X.s 3) (.cst (.nilp))),
 X.m 5 4,
 X.t 5 6 (.move (X.s 0)),
 X.t 5 7 (.nilchk (X.s 6)),
 X.t 5 8 (.fldAddr 0 (X.s 7)),
 X.t 5 9 (.load1 (X.s 8)),
 X.t 5 10 (.eqP 0 true (X.s 9) (.cst (.nilp))),
 X.o 11 (.pick (X.s 5) (X.s 10) (.cst (.bool false))),
 X.m 12 11,
 X.t 12 13 (.move (X.s 0)),
 X.t 12 14 (.nilchk (X.s 13)),
 X.t 12 15 (.fldAddr 1 (X.s 14)),
 X.t 12 16 (.load1 (X.s 15)),
 X.t 12 17 (.eqP 0 true (X.s 16) (.cst (.nilp))),
 X.o 18 (.pick (X.s 12) (X.s 17) (.cst (.bool false))),
 X.m 19 18,
 X.t 19 20 (.move (X.s 0)),
 X.t 19 21 (.nilchk (X.s 20)),
 X.t 19 22 (.fldAddr 2 (X.s 21)),
 X.t 19 23 (.load1 (X.s 22)),
 X.t 19 24 (.eqP 0 true (X.s 23) (.cst (.nilp))),
 X.o 25 (.pick (X.s 19) (X.s 24) (.cst (.bool false))),
 X.m 26 25,
 X.t 26 27 (.move (X.s 0)),
 X.t 26 28 (.nilchk (X.s 27)),
 X.t 26 29 (.fldAddr 3 (X.s 28)),
 X.t 26 30 (.load1 (X.s 29)),
 X.t 26 31 (.eqP 0 true (X.s 30) (.cst (.nilp))),
 X.o 32 (.pick (X.s 26) (X.s 31) (.cst (.bool false))),
 X.m 2 32]
def C.bln : LO := C.bln_b
def C.bln_w := pO C.bln.eq_1
def C.clt : ICode := .keep [0] (.seq (.region C.bln) .ret)
def C.clt_w := pC C.clt.eq_1
def C.blm_b : LO := [
 X.o 2 (.move (.cst (.bool false)))]
def C.blm : LO := C.blm_b
def C.blm_w := pO C.blm.eq_1
def C.q94 : IFunc := ⟨1, [.slot 2], .seq (.region C.blm) C.clt⟩
def C.q94_W := aI @C.bln_w (aI @C.clt_w @C.blm_w)
def C.q94_B := aI @C.bln_b.eq_1 @C.blm_b.eq_1

def C.blj_b : LO := [
 X.o 57 (.fldAddr 0 (X.s 6)),
 X.o 58 (.load1 (X.s 57)),
 X.m 59 1,
 X.m 60 9,
 X.o 61 (.build [.int .i64 0, .int .i64 0, .bool false, .int .u32 0] [(0, 1, X.s 58), (1, 1, X.s 59), (3, 1, X.s 60)]),
 X.n (.storeN 4 (X.s 4) (X.s 61)),
 X.o 5 (.move (.cst (.bool true)))]
def C.blj : LO := C.blj_b
def C.blj_w := pO C.blj.eq_1
def C.blh : ICode := .keep [1, 4, 6, 9] (.seq (.region C.blj) .ret)
def C.blh_w := pC C.blh.eq_1
def C.n3_b : LO := [
 X.o 50 (.fldAddr 4 (X.s 8)),
 X.o 51 (.load1 (X.s 50)),
 X.o 52 (.fldAddr 2 (X.s 6)),
 X.o 53 (.load1 (X.s 52)),
 X.o 54 (.fldAddr 3 (X.s 6)),
 X.o 55 (.load1 (X.s 54)),
 X.o 56 (.call F.q115 [X.s 51, X.s 53, X.s 55])]
def C.n3 : LO := C.n3_b
def C.n3_w := pO C.n3.eq_1
def C.b08 : ICode := .keep [1, 4, 6, 8, 9, 49] (.cond (X.s 49) (.region C.n3) .skip)
def C.b08_w := pC C.b08.eq_1
def C.n2_b : LO := [
 X.o 48 (.fldAddr 1 (X.s 6)),
 X.o 49 (.load1 (X.s 48))]
def C.n2 : LO := C.n2_b
def C.n2_w := pO C.n2.eq_1
def C.b09 : ICode := .keep [1, 4, 6, 8, 9] (.seq (.seq (.region C.n2) C.b08) C.blh)
def C.b09_w := pC C.b09.eq_1
def C.n1_b : LO := [
 X.o 41 (.fldAddr 4 (X.s 8)),
 X.o 42 (.load1 (X.s 41)),
 X.o 43 (.fldAddr 2 (X.s 6)),
 X.o 44 (.load1 (X.s 43)),
 X.o 45 (.call F.q110 [X.s 42, X.s 44]),
 X.m 40 45,
 X.o 46 (.extract (X.s 40) 0),
 X.o 47 (.extract (X.s 40) 1),
 X.m 9 46,
 X.m 10 47]
def C.n1 : LO := C.n1_b
def C.n1_w := pO C.n1.eq_1
def C.b1b : ICode := .keep [1, 4, 6, 8] (.seq (.region C.n1) C.b09)
def C.b1b_w := pC C.b1b.eq_1
def C.n0_b : LO := [
 X.o 34 (.fldAddr 0 (X.s 6)),
 X.o 35 (.load1 (X.s 34)),
 X.m 36 1,
 X.o 37 (.fldAddr 3 (X.s 8)),
 X.o 38 (.load1 (X.s 37)),
 X.o 39 (.build [.int .i64 0, .int .i64 0, .bool false, .int .u32 0] [(0, 1, X.s 35), (1, 1, X.s 36), (2, 1, .cst (.bool true)), (3, 1, X.s 38)]),
 X.n (.storeN 4 (X.s 4) (X.s 39)),
 X.o 5 (.move (.cst (.bool true)))]
def C.n0 : LO := C.n0_b
def C.n0_w := pO C.n0.eq_1
def C.b1c : ICode := .seq (.region C.n0) .ret
def C.b1c_w := pC C.b1c.eq_1
def C.b1d : ICode := .keep [1, 4, 6, 8, 33] (.cond (X.s 33) C.b1c .skip)
def C.b1d_w := pC C.b1d.eq_1
def C.nz_b : LO := [
 X.m 30 0,
 X.m 31 1,
 X.o 32 (.call F.q81 [X.s 30, X.s 31]),
 X.o 33 (.un .not (X.s 32))]
def C.nz : LO := C.nz_b
def C.nz_w := pO C.nz.eq_1
def C.b1f : ICode := .keep [0, 1, 4, 6, 8] (.seq (.seq (.region C.nz) C.b1d) C.b1b)
def C.b1f_w := pC C.b1f.eq_1
def C.nq_b : LO := [
 X.m 23 0,
 X.o 24 (.nilchk (X.s 23)),
 X.o 25 (.fldAddr 4 (X.s 24)),
 X.o 26 (.load1 (X.s 25)),
 X.m 27 1,
 X.o 28 (.idxAddr 6 (X.s 26) (X.s 27)),
 X.o 29 (.loadN 6 (X.s 28)),
 X.o 8 (.alloc [.int .i64 0, .int .i64 0, .int .i64 0, .int .u32 0, .nilp, .nilp]),
 X.n (.storeN 6 (X.s 8) (X.s 29))]
def C.nq : LO := C.nq_b
def C.nq_w := pO C.nq.eq_1
def C.b1g : ICode := .keep [0, 1, 4, 6] (.seq (.region C.nq) C.b1f)
def C.b1g_w := pC C.b1g.eq_1
def C.ny_b : LO := [
 X.o 22 (.build [.int .i64 0, .int .i64 0, .bool false, .int .u32 0] []),
 X.n (.storeN 4 (X.s 4) (X.s 22)),
 X.o 5 (.move (.cst (.bool false)))]
def C.ny : LO := C.ny_b
def C.ny_w := pO C.ny.eq_1
def C.b1h : ICode := .seq (.region C.ny) .ret
def C.b1h_w := pC C.b1h.eq_1
def C.b05 : ICode := .keep [0, 1, 4, 6, 21] (.cond (X.s 21) C.b1h .skip)
def C.b05_w := pC C.b05.eq_1
def C.nx_b : LO := [
 X.m 20 7,
 X.o 21 (.un .not (X.s 20))]
def C.nx : LO := C.nx_b
def C.nx_w := pO C.nx.eq_1
def C.b06 : ICode := .keep [0, 1, 4, 6, 7] (.seq (.seq (.region C.nx) C.b05) C.b1g)
def C.b06_w := pC C.b06.eq_1
def C.bk_b : LO := [
 X.m 12 0,
 X.o 13 (.nilchk (X.s 12)),
 X.o 14 (.fldAddr 3 (X.s 13)),
 X.o 15 (.load1 (X.s 14)),
 X.m 16 1,
 X.o 17 (.call F.q6 [X.s 15, X.s 16]),
 X.m 11 17,
 X.o 18 (.extract (X.s 11) 0),
 X.o 19 (.extract (X.s 11) 1),
 X.o 6 (.alloc [.int .i64 0, .bool false, .int .i64 0, .int .u32 0]),
 X.n (.storeN 4 (X.s 6) (X.s 18)),
 X.m 7 19]
def C.bk : LO := C.bk_b
def C.bk_w := pO C.bk.eq_1
def C.b07 : ICode := .keep [0, 1, 4] (.seq (.region C.bk) C.b06)
def C.b07_w := pC C.b07.eq_1
def C.bd_b : LO := [
 X.o 4 (.alloc [.int .i64 0, .int .i64 0, .bool false, .int .u32 0]),
 X.o 5 (.move (.cst (.bool false)))]
def C.bd : LO := C.bd_b
def C.bd_w := pO C.bd.eq_1
def C.q92 : IFunc := ⟨2, [.cellN 4 4, .slot 5], .seq (.region C.bd) C.b07⟩
def C.q92_W := aI (aI (aI (aI @C.blj_w @C.blh_w) (aI @C.n3_w (aI @C.b08_w @C.n2_w))) (aI (aI @C.b09_w (aI @C.n1_w @C.b1b_w)) (aI @C.n0_w (aI @C.b1c_w @C.b1d_w)))) (aI (aI (aI @C.nz_w (aI @C.b1f_w @C.nq_w)) (aI @C.b1g_w (aI @C.ny_w @C.b1h_w))) (aI (aI @C.b05_w (aI @C.nx_w @C.b06_w)) (aI @C.bk_w (aI @C.b07_w @C.bd_w))))
def C.q92_B := aI (aI (aI @C.blj_b.eq_1 @C.n3_b.eq_1) (aI @C.n2_b.eq_1 (aI @C.n1_b.eq_1 @C.n0_b.eq_1))) (aI (aI @C.nz_b.eq_1 (aI @C.nq_b.eq_1 @C.ny_b.eq_1)) (aI @C.nx_b.eq_1 (aI @C.bk_b.eq_1 @C.bd_b.eq_1)))

def C.sf_b : LO := [
 X.m 20 0,
 X.o 21 (.nilchk (X.s 20)),
 X.o 22 (.fldAddr 1 (X.s 21)),
 X.o 23 (.load1 (X.s 22)),
 X.o 24 (.bin .add (X.s 23) (X.i 1)),
 X.o 25 (.nilchk (X.s 20)),
 X.o 26 (.fldAddr 1 (X.s 25)),
 X.n (.store1 (X.s 26) (X.s 24))]
def C.sf : LO := C.sf_b
def C.sf_w := pO C.sf.eq_1
def C.b4g : ICode := .keep [0] (.region C.sf)
def C.b4g_w := pC C.b4g.eq_1
def C.sd_b : LO := [
 X.m 17 0,
 X.o 18 (.nilchk (X.s 17)),
 X.o 19 (.fldAddr 0 (X.s 18)),
 X.n (.store1 (X.s 19) (X.i 3))]
def C.sd : LO := C.sd_b
def C.sd_w := pO C.sd.eq_1
def C.sj_b : LO := [
 X.m 33 0,
 X.o 34 (.nilchk (X.s 33)),
 X.o 35 (.fldAddr 1 (X.s 34)),
 X.n (.store1 (X.s 35) (X.i 0))]
def C.sj : LO := C.sj_b
def C.sj_w := pO C.sj.eq_1
def C.b4j : ICode := .keep [0] (.region C.sj)
def C.b4j_w := pC C.b4j.eq_1
def C.sh_b : LO := [
 X.m 30 0,
 X.o 31 (.nilchk (X.s 30)),
 X.o 32 (.fldAddr 0 (X.s 31)),
 X.n (.store1 (X.s 32) (X.i 2))]
def C.sh : LO := C.sh_b
def C.sh_w := pO C.sh.eq_1
def C.b4k : ICode := .seq (.region C.sh) C.b4j
def C.b4k_w := pC C.b4k.eq_1
def C.b4l : ICode := .keep [0, 27] (.cond (X.s 27) C.b4k .skip)
def C.b4l_w := pC C.b4l.eq_1
def C.sg_b : LO := [
 X.m 28 1,
 X.o 29 (.un .not (X.s 28)),
 X.m 27 29]
def C.sg : LO := C.sg_b
def C.sg_w := pO C.sg.eq_1
def C.b4m : ICode := .seq (.region C.sd) C.b4g
def C.b4m_w := pC C.b4m.eq_1
def C.b4n : ICode := .seq (.region C.sg) C.b4l
def C.b4n_w := pC C.b4n.eq_1
def C.b4p : ICode := .keep [0, 1, 15] (.cond (X.s 15) C.b4m C.b4n)
def C.b4p_w := pC C.b4p.eq_1
def C.sc_b : LO := [
 X.m 16 2,
 X.m 15 16]
def C.sc : LO := C.sc_b
def C.sc_w := pO C.sc.eq_1
def C.b4f : ICode := .seq (.region C.sc) C.b4p
def C.b4f_w := pC C.b4f.eq_1
def C.b4r : ICode := .keep [0, 1, 2] (.block 0 C.b4f)
def C.b4r_w := pC C.b4r.eq_1
def C.b4h : ICode := .keep [0, 1, 2, 14] (.cond (X.s 14) .ret .skip)
def C.b4h_w := pC C.b4h.eq_1
def C.sb_b : LO := [
 X.m 6 0,
 X.o 7 (.eqP 0 false (X.s 6) (.cst (.nilp))),
 X.m 8 7,
 X.f 8 9 (.move (X.s 0)),
 X.f 8 10 (.nilchk (X.s 9)),
 X.f 8 11 (.fldAddr 0 (X.s 10)),
 X.f 8 12 (.load1 (X.s 11)),
 X.f 8 13 (.bin .neq (X.s 12) (X.i 1)),
 X.o 14 (.pick (X.s 8) (.cst (.bool true)) (X.s 13))]
def C.sb : LO := C.sb_b
def C.sb_w := pO C.sb.eq_1
def C.q105 : IFunc := ⟨3, [], .seq (.seq (.region C.sb) C.b4h) C.b4r⟩
def C.q105_W := aI (aI (aI (aI @C.sf_w @C.b4g_w) (aI @C.sd_w @C.sj_w)) (aI (aI @C.b4j_w @C.sh_w) (aI @C.b4k_w @C.b4l_w))) (aI (aI (aI @C.sg_w @C.b4m_w) (aI @C.b4n_w @C.b4p_w)) (aI (aI @C.sc_w @C.b4f_w) (aI @C.b4r_w (aI @C.b4h_w @C.sb_w))))
def C.q105_B := aI (aI @C.sf_b.eq_1 (aI @C.sd_b.eq_1 @C.sj_b.eq_1)) (aI (aI @C.sh_b.eq_1 @C.sg_b.eq_1) (aI @C.sc_b.eq_1 @C.sb_b.eq_1))

def C.bjw_b : LO := [
 X.m 9 0,
 X.o 10 (.nilchk (X.s 9)),
 X.o 11 (.fldAddr 1 (X.s 10)),
 X.o 12 (.load1 (X.s 11)),
 X.m 13 1,
 X.o 14 (.idxAddr 1 (X.s 12) (X.s 13)),
 X.o 15 (.load1 (X.s 14)),
 X.o 16 (.len (X.s 15)),
 X.m 4 16]
def C.bjw : LO := C.bjw_b
def C.bjw_w := pO C.bjw.eq_1
def C.cjy : ICode := .keep [0, 1] (.seq (.region C.bjw) .ret)
def C.cjy_w := pC C.cjy.eq_1
def C.bjv_b : LO := [
 X.o 4 (.move (X.i 0))]
def C.bjv : LO := C.bjv_b
def C.bjv_w := pO C.bjv.eq_1
def C.cjq : ICode := .seq (.region C.bjv) .ret
def C.cjq_w := pC C.cjq.eq_1
def C.cjz : ICode := .keep [0, 1, 8] (.cond (X.s 8) C.cjq .skip)
def C.cjz_w := pC C.cjz.eq_1
def C.bjt_b : LO := [
 X.m 5 0,
 X.m 6 1,
 X.o 7 (.call F.q8 [X.s 5, X.s 6]),
 X.o 8 (.un .not (X.s 7))]
def C.bjt : LO := C.bjt_b
def C.bjt_w := pO C.bjt.eq_1
def C.cj0 : ICode := .keep [0, 1] (.seq (.seq (.region C.bjt) C.cjz) C.cjy)
def C.cj0_w := pC C.cj0.eq_1
def C.bjs_b : LO := [
 X.o 4 (.move (X.i 0))]
def C.bjs : LO := C.bjs_b
def C.bjs_w := pO C.bjs.eq_1
def C.q7 : IFunc := ⟨2, [.slot 4], .seq (.region C.bjs) C.cj0⟩
def C.q7_W := aI (aI (aI @C.bjw_w @C.cjy_w) (aI @C.bjv_w @C.cjq_w)) (aI (aI @C.cjz_w @C.bjt_w) (aI @C.cj0_w @C.bjs_w))
def C.q7_B := aI (aI @C.bjw_b.eq_1 @C.bjv_b.eq_1) (aI @C.bjt_b.eq_1 @C.bjs_b.eq_1)

def C.k4_b : LO := [
 X.o 158 (.bin .add (X.s 34) (X.i 1)),
 X.m 34 158]
def C.k4 : LO := C.k4_b
def C.k4_w := pO C.k4.eq_1
def C.yc : ICode := .keep [0, 2, 33, 34] (.region C.k4)
def C.yc_w := pC C.yc.eq_1
def C.k0_b : LO := [
 X.m 65 5,
 X.m 66 5,
 X.o 67 (.nilchk (X.s 66)),
 X.o 68 (.fldAddr 0 (X.s 67)),
 X.o 69 (.fldAddr 5 (X.s 68)),
 X.o 70 (.load1 (X.s 69)),
 X.o 71 (.nilchk (X.s 65)),
 X.o 72 (.fldAddr 7 (X.s 71)),
 X.n (.store1 (X.s 72) (X.s 70))]
def C.k0 : LO := C.k0_b
def C.k0_w := pO C.k0.eq_1
def C.k2_b : LO := [
 X.m 93 5,
 X.o 94 (.nilchk (X.s 93)),
 X.o 95 (.fldAddr 7 (X.s 94)),
 X.o 96 (.load1 (X.s 95)),
 X.o 97 (.bin .sub (X.s 96) (X.i 1)),
 X.o 98 (.nilchk (X.s 93)),
 X.o 99 (.fldAddr 7 (X.s 98)),
 X.n (.store1 (X.s 99) (X.s 97))]
def C.k2 : LO := C.k2_b
def C.k2_w := pO C.k2.eq_1
def C.yf_b : LO := [
 X.m 151 5,
 X.m 152 5,
 X.o 153 (.nilchk (X.s 152)),
 X.o 154 (.fldAddr 9 (X.s 153)),
 X.o 155 (.load1 (X.s 154)),
 X.o 156 (.nilchk (X.s 151)),
 X.o 157 (.fldAddr 8 (X.s 156)),
 X.n (.store1 (X.s 157) (X.s 155))]
def C.yf : LO := C.yf_b
def C.yf_w := pO C.yf.eq_1
def C.c0 : ICode := .keep [0, 2, 5, 33, 34, 100] (.cond (X.s 100) (.region C.yf) .skip)
def C.c0_w := pC C.c0.eq_1
def C.k3_b : LO := [
 X.m 101 5,
 X.o 102 (.nilchk (X.s 101)),
 X.o 103 (.fldAddr 0 (X.s 102)),
 X.o 104 (.fldAddr 0 (X.s 103)),
 X.o 105 (.load1 (X.s 104)),
 X.o 106 (.bin .eql (X.s 105) (.cst (.int .u8 109))),
 X.m 107 106,
 X.t 107 108 (.move (X.s 5)),
 X.t 107 109 (.nilchk (X.s 108)),
 X.t 107 110 (.fldAddr 9 (X.s 109)),
 X.t 107 111 (.load1 (X.s 110)),
 X.t 107 112 (.move (X.s 5)),
 X.t 107 113 (.nilchk (X.s 112)),
 X.t 107 114 (.fldAddr 8 (X.s 113)),
 X.t 107 115 (.load1 (X.s 114)),
 X.t 107 116 (.bin .neq (X.s 111) (X.s 115)),
 X.o 117 (.pick (X.s 107) (X.s 116) (.cst (.bool false))),
 X.m 118 117,
 X.t 118 119 (.move (X.s 2)),
 X.t 118 120 (.move (X.s 5)),
 X.t 118 121 (.nilchk (X.s 120)),
 X.t 118 122 (.fldAddr 0 (X.s 121)),
 X.t 118 123 (.fldAddr 1 (X.s 122)),
 X.t 118 124 (.load1 (X.s 123)),
 X.t 118 125 (.move (X.s 5)),
 X.t 118 126 (.nilchk (X.s 125)),
 X.t 118 127 (.fldAddr 9 (X.s 126)),
 X.t 118 128 (.load1 (X.s 127)),
 X.t 118 129 (.idxAddr 1 (X.s 124) (X.s 128)),
 X.t 118 130 (.load1 (X.s 129)),
 X.t 118 131 (.idxAddr 1 (X.s 119) (X.s 130)),
 X.t 118 132 (.load1 (X.s 131)),
 X.t 118 133 (.move (X.s 132)),
 X.f 133 134 (.move (X.s 2)),
 X.f 133 135 (.move (X.s 5)),
 X.f 133 136 (.nilchk (X.s 135)),
 X.f 133 137 (.fldAddr 0 (X.s 136)),
 X.f 133 138 (.fldAddr 1 (X.s 137)),
 X.f 133 139 (.load1 (X.s 138)),
 X.f 133 140 (.move (X.s 5)),
 X.f 133 141 (.nilchk (X.s 140)),
 X.f 133 142 (.fldAddr 8 (X.s 141)),
 X.f 133 143 (.load1 (X.s 142)),
 X.f 133 144 (.idxAddr 1 (X.s 139) (X.s 143)),
 X.f 133 145 (.load1 (X.s 144)),
 X.f 133 146 (.idxAddr 1 (X.s 134) (X.s 145)),
 X.f 133 147 (.load1 (X.s 146)),
 X.f 133 148 (.un .not (X.s 147)),
 X.t 118 149 (.pick (X.s 133) (.cst (.bool true)) (X.s 148)),
 X.o 150 (.pick (X.s 118) (X.s 149) (.cst (.bool false))),
 X.m 100 150]
def C.k3 : LO := C.k3_b
def C.k3_w := pO C.k3.eq_1
def C.byb : ICode := .seq (.region C.k3) C.c0
def C.byb_w := pC C.byb.eq_1
def C.bz : ICode := .keep [0, 2, 5, 33, 34, 73] (.cond (X.s 73) (.region C.k2) C.byb)
def C.bz_w := pC C.bz.eq_1
def C.k1_b : LO := [
 X.m 74 5,
 X.o 75 (.nilchk (X.s 74)),
 X.o 76 (.fldAddr 0 (X.s 75)),
 X.o 77 (.fldAddr 0 (X.s 76)),
 X.o 78 (.load1 (X.s 77)),
 X.o 79 (.bin .eql (X.s 78) (.cst (.int .u8 112))),
 X.m 80 79,
 X.t 80 81 (.move (X.s 5)),
 X.t 80 82 (.nilchk (X.s 81)),
 X.t 80 83 (.fldAddr 6 (X.s 82)),
 X.t 80 84 (.load1 (X.s 83)),
 X.o 85 (.pick (X.s 80) (X.s 84) (.cst (.bool false))),
 X.m 86 85,
 X.t 86 87 (.move (X.s 5)),
 X.t 86 88 (.nilchk (X.s 87)),
 X.t 86 89 (.fldAddr 7 (X.s 88)),
 X.t 86 90 (.load1 (X.s 89)),
 X.t 86 91 (.bin .gtr (X.s 90) (X.i 0)),
 X.o 92 (.pick (X.s 86) (X.s 91) (.cst (.bool false))),
 X.m 73 92]
def C.k1 : LO := C.k1_b
def C.k1_w := pO C.k1.eq_1
def C.byc : ICode := .seq (.region C.k1) C.bz
def C.byc_w := pC C.byc.eq_1
def C.br : ICode := .keep [0, 2, 5, 33, 34, 43] (.cond (X.s 43) (.region C.k0) C.byc)
def C.br_w := pC C.br.eq_1
def C.kz_b : LO := [
 X.m 44 5,
 X.o 45 (.nilchk (X.s 44)),
 X.o 46 (.fldAddr 0 (X.s 45)),
 X.o 47 (.fldAddr 0 (X.s 46)),
 X.o 48 (.load1 (X.s 47)),
 X.o 49 (.bin .eql (X.s 48) (.cst (.int .u8 112))),
 X.m 50 49,
 X.t 50 51 (.move (X.s 5)),
 X.t 50 52 (.nilchk (X.s 51)),
 X.t 50 53 (.fldAddr 6 (X.s 52)),
 X.t 50 54 (.load1 (X.s 53)),
 X.o 55 (.pick (X.s 50) (X.s 54) (.cst (.bool false))),
 X.m 56 55,
 X.t 56 57 (.move (X.s 2)),
 X.t 56 58 (.move (X.s 0)),
 X.t 56 59 (.move (X.s 4)),
 X.t 56 60 (.call F.q24 [X.s 58, X.s 59]),
 X.t 56 61 (.idxAddr 1 (X.s 57) (X.s 60)),
 X.t 56 62 (.load1 (X.s 61)),
 X.t 56 63 (.un .not (X.s 62)),
 X.o 64 (.pick (X.s 56) (X.s 63) (.cst (.bool false))),
 X.m 43 64]
def C.kz : LO := C.kz_b
def C.kz_w := pO C.kz.eq_1
def C.bxy : ICode := .seq (.region C.kz) C.br
def C.bxy_w := pC C.bxy.eq_1
def C.byd : ICode := .keep [0, 2, 4, 5, 33, 34] (.block 4 C.bxy)
def C.byd_w := pC C.byd.eq_1
def C.kq_b : LO := [
 X.m 37 0,
 X.o 38 (.nilchk (X.s 37)),
 X.o 39 (.fldAddr 0 (X.s 38)),
 X.o 40 (.load1 (X.s 39)),
 X.m 41 4,
 X.o 42 (.idxAddr 11 (X.s 40) (X.s 41)),
 X.m 5 42]
def C.kq : LO := C.kq_b
def C.kq_w := pO C.kq.eq_1
def C.yd : ICode := .keep [0, 2, 4, 33, 34] (.seq (.region C.kq) C.byd)
def C.yd_w := pC C.yd.eq_1
def C.ld_b : LO := [
 X.m 36 34,
 X.m 4 36]
def C.ld : LO := C.ld_b
def C.ld_w := pO C.ld.eq_1
def C.bxt : ICode := .seq (.region C.ld) C.yd
def C.bxt_w := pC C.bxt.eq_1
def C.bxq : ICode := .keep [0, 2, 33, 34] (.seq (.block 3 C.bxt) C.yc)
def C.bxq_w := pC C.bxq.eq_1
def C.bxz : ICode := .keep [0, 2, 33, 34, 35] (.seq (.cond (X.s 35) .skip (.exit 2)) C.bxq)
def C.bxz_w := pC C.bxz.eq_1
def C.lc_b : LO := [
 X.o 35 (.bin .lss (X.s 34) (X.s 33))]
def C.lc : LO := C.lc_b
def C.lc_w := pO C.lc.eq_1
def C.cnv : ICode := .keep [0, 2, 33, 34] (.seq (.region C.lc) C.bxz)
def C.cnv_w := pC C.cnv.eq_1
def C.bxv : ICode := .loop C.cnv
def C.bxv_w := pC C.bxv.eq_1
def C.bx0 : ICode := .keep [0, 2, 33, 34] (.block 2 C.bxv)
def C.bx0_w := pC C.bx0.eq_1
def C.lb_b : LO := [
 X.m 29 0,
 X.o 30 (.nilchk (X.s 29)),
 X.o 31 (.fldAddr 0 (X.s 30)),
 X.o 32 (.load1 (X.s 31)),
 X.o 33 (.len (X.s 32)),
 X.o 34 (.move (X.i 0))]
def C.lb : LO := C.lb_b
def C.lb_w := pO C.lb.eq_1
def C.bx1 : ICode := .keep [0, 2] (.seq (.region C.lb) C.bx0)
def C.bx1_w := pC C.bx1.eq_1
def C.k9_b : LO := [
 X.o 28 (.bin .add (X.s 19) (X.i 1)),
 X.m 19 28]
def C.k9 : LO := C.k9_b
def C.k9_w := pO C.k9.eq_1
def C.bx2 : ICode := .keep [0, 2, 18, 19] (.region C.k9)
def C.bx2_w := pC C.bx2.eq_1
def C.k8_b : LO := [
 X.m 22 2,
 X.m 23 3,
 X.m 24 0,
 X.m 25 3,
 X.o 26 (.call F.q20 [X.s 24, X.s 25]),
 X.o 27 (.idxAddr 1 (X.s 22) (X.s 23)),
 X.n (.store1 (X.s 27) (X.s 26))]
def C.k8 : LO := C.k8_b
def C.k8_w := pO C.k8.eq_1
def C.bx3 : ICode := .keep [0, 2, 3, 18, 19] (.region C.k8)
def C.bx3_w := pC C.bx3.eq_1
def C.k7_b : LO := [
 X.m 21 19,
 X.m 3 21]
def C.k7 : LO := C.k7_b
def C.k7_w := pO C.k7.eq_1
def C.bxw : ICode := .seq (.region C.k7) C.bx3
def C.bxw_w := pC C.bxw.eq_1
def C.bx4 : ICode := .keep [0, 2, 18, 19] (.seq (.block 1 C.bxw) C.bx2)
def C.bx4_w := pC C.bx4.eq_1
def C.bx5 : ICode := .keep [0, 2, 18, 19, 20] (.seq (.cond (X.s 20) .skip (.exit 0)) C.bx4)
def C.bx5_w := pC C.bx5.eq_1
def C.k6_b : LO := [
 X.o 20 (.bin .lss (X.s 19) (X.s 18))]
def C.k6 : LO := C.k6_b
def C.k6_w := pO C.k6.eq_1
def C.cnw : ICode := .keep [0, 2, 18, 19] (.seq (.region C.k6) C.bx5)
def C.cnw_w := pC C.cnw.eq_1
def C.bxx : ICode := .loop C.cnw
def C.bxx_w := pC C.bxx.eq_1
def C.bx6 : ICode := .keep [0, 2, 18, 19] (.block 0 C.bxx)
def C.bx6_w := pC C.bx6.eq_1
def C.k5_b : LO := [
 X.m 14 0,
 X.o 15 (.nilchk (X.s 14)),
 X.o 16 (.fldAddr 0 (X.s 15)),
 X.o 17 (.load1 (X.s 16)),
 X.o 18 (.len (X.s 17)),
 X.o 19 (.move (X.i 0))]
def C.k5 : LO := C.k5_b
def C.k5_w := pO C.k5.eq_1
def C.bx7 : ICode := .keep [0, 2] (.seq (.seq (.region C.k5) C.bx6) C.bx1)
def C.bx7_w := pC C.bx7.eq_1
def C.ky_b : LO := [
 X.m 8 0,
 X.o 9 (.nilchk (X.s 8)),
 X.o 10 (.fldAddr 0 (X.s 9)),
 X.o 11 (.load1 (X.s 10)),
 X.o 12 (.len (X.s 11)),
 X.o 13 (.makeSlice 1 1 [.bool false] (X.s 12) (X.s 12)),
 X.m 2 13]
def C.ky : LO := C.ky_b
def C.ky_w := pO C.ky.eq_1
def C.bx8 : ICode := .keep [0] (.seq (.region C.ky) C.bx7)
def C.bx8_w := pC C.bx8.eq_1
def C.bx9 : ICode := .keep [0, 7] (.cond (X.s 7) .ret .skip)
def C.bx9_w := pC C.bx9.eq_1
def C.kx_b : LO := [
 X.m 6 0,
 X.o 7 (.eqP 0 false (X.s 6) (.cst (.nilp)))]
def C.kx : LO := C.kx_b
def C.kx_w := pO C.kx.eq_1
def C.q22 : IFunc := ⟨1, [], .seq (.seq (.region C.kx) C.bx9) C.bx8⟩
def C.q22_W := aI (aI (aI (aI (aI @C.k4_w @C.yc_w) (aI @C.k0_w (aI @C.k2_w @C.yf_w))) (aI (aI @C.c0_w @C.k3_w) (aI @C.byb_w (aI @C.bz_w @C.k1_w)))) (aI (aI (aI @C.byc_w @C.br_w) (aI @C.kz_w (aI @C.bxy_w @C.byd_w))) (aI (aI @C.kq_w (aI @C.yd_w @C.ld_w)) (aI @C.bxt_w (aI @C.bxq_w @C.bxz_w))))) (aI (aI (aI (aI @C.lc_w @C.bxv_w) (aI @C.bx0_w (aI @C.lb_w @C.bx1_w))) (aI (aI @C.k9_w (aI @C.bx2_w @C.k8_w)) (aI @C.bx3_w (aI @C.k7_w @C.bxw_w)))) (aI (aI (aI @C.bx4_w @C.bx5_w) (aI @C.k6_w (aI @C.bxx_w @C.bx6_w))) (aI (aI @C.k5_w (aI @C.bx7_w @C.ky_w)) (aI @C.bx8_w (aI @C.bx9_w @C.kx_w)))))
def C.q22_B := aI (aI (aI (aI @C.k4_b.eq_1 @C.k0_b.eq_1) (aI @C.k2_b.eq_1 @C.yf_b.eq_1)) (aI (aI @C.k3_b.eq_1 @C.k1_b.eq_1) (aI @C.kz_b.eq_1 (aI @C.kq_b.eq_1 @C.ld_b.eq_1)))) (aI (aI (aI @C.lc_b.eq_1 @C.lb_b.eq_1) (aI @C.k9_b.eq_1 @C.k8_b.eq_1)) (aI (aI @C.k7_b.eq_1 @C.k6_b.eq_1) (aI @C.k5_b.eq_1 (aI @C.ky_b.eq_1 @C.kx_b.eq_1))))

def C.bmd_b : LO := [
 X.m 32 3,
 X.m 2 32]
def C.bmd : LO := C.bmd_b
def C.bmd_w := pO C.bmd.eq_1
def C.cmm : ICode := .keep [3] (.seq (.region C.bmd) .ret)
def C.cmm_w := pC C.cmm.eq_1
def C.bmc_b : LO := [
 X.o 31 (.bin .add (X.s 13) (X.i 1)),
 X.m 13 31]
def C.bmc : LO := C.bmc_b
def C.bmc_w := pO C.bmc.eq_1
def C.cmw : ICode := .keep [0, 3, 12, 13] (.region C.bmc)
def C.cmw_w := pC C.cmw.eq_1
def C.bmn_b : LO := [
 X.m 25 3,
 X.m 26 5,
 X.m 27 4,
 X.o 28 (.build [.int .u8 0, .int .i64 0] [(0, 1, X.s 26), (1, 1, X.s 27)]),
 X.o 29 (.buildSlice 2 1 [.int .u8 0, .int .i64 0] [(0, 2, X.s 28)]),
 X.o 30 (.append 2 16 (X.s 25) (X.s 29)),
 X.m 3 30]
def C.bmn : LO := C.bmn_b
def C.bmn_w := pO C.bmn.eq_1
def C.cmx : ICode := .keep [0, 3, 4, 5, 12, 13, 24] (.cond (X.s 24) (.region C.bmn) .skip)
def C.cmx_w := pC C.cmx.eq_1
def C.bmm_b : LO := [
 X.m 23 5,
 X.o 24 (.bin .neq (X.s 23) (.cst (.int .u8 0)))]
def C.bmm : LO := C.bmm_b
def C.bmm_w := pO C.bmm.eq_1
def C.cmy : ICode := .keep [0, 3, 4, 5, 12, 13] (.seq (.region C.bmm) C.cmx)
def C.cmy_w := pC C.cmy.eq_1
def C.bml_b : LO := [
 X.m 16 0,
 X.o 17 (.nilchk (X.s 16)),
 X.o 18 (.fldAddr 0 (X.s 17)),
 X.o 19 (.load1 (X.s 18)),
 X.m 20 4,
 X.o 21 (.idxAddr 7 (X.s 19) (X.s 20)),
 X.o 22 (.call F.q103 [X.s 21]),
 X.m 5 22]
def C.bml : LO := C.bml_b
def C.bml_w := pO C.bml.eq_1
def C.cmq : ICode := .keep [0, 3, 4, 12, 13] (.seq (.region C.bml) C.cmy)
def C.cmq_w := pC C.cmq.eq_1
def C.bmk_b : LO := [
 X.m 15 13,
 X.m 4 15]
def C.bmk : LO := C.bmk_b
def C.bmk_w := pO C.bmk.eq_1
def C.cml : ICode := .seq (.region C.bmk) C.cmq
def C.cml_w := pC C.cml.eq_1
def C.cmz : ICode := .keep [0, 3, 12, 13] (.seq (.block 1 C.cml) C.cmw)
def C.cmz_w := pC C.cmz.eq_1
def C.cm0 : ICode := .keep [0, 3, 12, 13, 14] (.seq (.cond (X.s 14) .skip (.exit 0)) C.cmz)
def C.cm0_w := pC C.cm0.eq_1
def C.bmj_b : LO := [
 X.o 14 (.bin .lss (X.s 13) (X.s 12))]
def C.bmj : LO := C.bmj_b
def C.bmj_w := pO C.bmj.eq_1
def C.cpn : ICode := .keep [0, 3, 12, 13] (.seq (.region C.bmj) C.cm0)
def C.cpn_w := pC C.cpn.eq_1
def C.cmk : ICode := .loop C.cpn
def C.cmk_w := pC C.cmk.eq_1
def C.cmn : ICode := .keep [0, 3, 12, 13] (.block 0 C.cmk)
def C.cmn_w := pC C.cmn.eq_1
def C.bmh_b : LO := [
 X.m 8 0,
 X.o 9 (.nilchk (X.s 8)),
 X.o 10 (.fldAddr 0 (X.s 9)),
 X.o 11 (.load1 (X.s 10)),
 X.o 12 (.len (X.s 11)),
 X.o 13 (.move (X.i 0))]
def C.bmh : LO := C.bmh_b
def C.bmh_w := pO C.bmh.eq_1
def C.cmp : ICode := .keep [0, 3] (.seq (.seq (.region C.bmh) C.cmn) C.cmm)
def C.cmp_w := pC C.cmp.eq_1
def C.bmg_b : LO := [
 X.o 3 (.move (.cst (.nils)))]
def C.bmg : LO := C.bmg_b
def C.bmg_w := pO C.bmg.eq_1
def C.cmr : ICode := .keep [0] (.seq (.region C.bmg) C.cmp)
def C.cmr_w := pC C.cmr.eq_1
def C.bmf_b : LO := [
 X.o 2 (.move (.cst (.nils)))]
def C.bmf : LO := C.bmf_b
def C.bmf_w := pO C.bmf.eq_1
def C.cms : ICode := .seq (.region C.bmf) .ret
def C.cms_w := pC C.cms.eq_1
def C.cmt : ICode := .keep [0, 7] (.cond (X.s 7) C.cms .skip)
def C.cmt_w := pC C.cmt.eq_1
def C.bmb_b : LO := [
 X.m 6 0,
 X.o 7 (.eqP 0 false (X.s 6) (.cst (.nilp)))]
def C.bmb : LO := C.bmb_b
def C.bmb_w := pO C.bmb.eq_1
def C.cmv : ICode := .keep [0] (.seq (.seq (.region C.bmb) C.cmt) C.cmr)
def C.cmv_w := pC C.cmv.eq_1
def C.bl9_b : LO := [
 X.o 2 (.move (.cst (.nils)))]
def C.bl9 : LO := C.bl9_b
def C.bl9_w := pO C.bl9.eq_1
def C.q98 : IFunc := ⟨1, [.slot 2], .seq (.region C.bl9) C.cmv⟩
def C.q98_W := aI (aI (aI (aI @C.bmd_w (aI @C.cmm_w @C.bmc_w)) (aI @C.cmw_w (aI @C.bmn_w @C.cmx_w))) (aI (aI @C.bmm_w (aI @C.cmy_w @C.bml_w)) (aI (aI @C.cmq_w @C.bmk_w) (aI @C.cml_w @C.cmz_w)))) (aI (aI (aI @C.cm0_w (aI @C.bmj_w @C.cmk_w)) (aI (aI @C.cmn_w @C.bmh_w) (aI @C.cmp_w @C.bmg_w))) (aI (aI @C.cmr_w (aI @C.bmf_w @C.cms_w)) (aI (aI @C.cmt_w @C.bmb_w) (aI @C.cmv_w @C.bl9_w))))
def C.q98_B := aI (aI (aI @C.bmd_b.eq_1 (aI @C.bmc_b.eq_1 @C.bmn_b.eq_1)) (aI @C.bmm_b.eq_1 (aI @C.bml_b.eq_1 @C.bmk_b.eq_1))) (aI (aI @C.bmj_b.eq_1 (aI @C.bmh_b.eq_1 @C.bmg_b.eq_1)) (aI @C.bmf_b.eq_1 (aI @C.bmb_b.eq_1 @C.bl9_b.eq_1)))

def C.bl3_b : LO := [
 X.o 2 (.move (.cst (.nilf)))]
def C.bl3 : LO := C.bl3_b
def C.bl3_w := pO C.bl3.eq_1
def C.cl0 : ICode := .keep [] (.seq (.region C.bl3) .ret)
def C.cl0_w := pC C.cl0.eq_1
def C.bly_b : LO := [
 X.o 2 (.move (.fnc F.q113))]
def C.bly : LO := C.bly_b
def C.bly_w := pO C.bly.eq_1
def C.blz_b : LO := [
 X.o 2 (.move (.fnc F.q111))]
def C.blz : LO := C.blz_b
def C.blz_w := pO C.blz.eq_1
def C.bl2_b : LO := [
 X.o 2 (.move (.fnc F.q107))]
def C.bl2 : LO := C.bl2_b
def C.bl2_w := pO C.bl2.eq_1
def C.cl4 : ICode := .seq (.region C.bl2) .ret
def C.cl4_w := pC C.cl4.eq_1
def C.cl5 : ICode := .keep [8] (.cond (X.s 8) C.cl4 .skip)
def C.cl5_w := pC C.cl5.eq_1
def C.bl1_b : LO := [
 X.o 10 (.bin .eql (X.s 3) (.cst (.int .u8 110))),
 X.m 8 10]
def C.bl1 : LO := C.bl1_b
def C.bl1_w := pO C.bl1.eq_1
def C.cl6 : ICode := .keep [3, 8] (.cond (X.s 8) .skip (.region C.bl1))
def C.cl6_w := pC C.cl6.eq_1
def C.bl0_b : LO := [
 X.o 9 (.bin .eql (X.s 3) (.cst (.int .u8 108))),
 X.m 8 9]
def C.bl0 : LO := C.bl0_b
def C.bl0_w := pO C.bl0.eq_1
def C.cl7 : ICode := .seq (.region C.blz) .ret
def C.cl7_w := pC C.cl7.eq_1
def C.cl8 : ICode := .seq (.seq (.region C.bl0) C.cl6) C.cl5
def C.cl8_w := pC C.cl8.eq_1
def C.cl9 : ICode := .keep [3, 6] (.cond (X.s 6) C.cl7 C.cl8)
def C.cl9_w := pC C.cl9.eq_1
def C.blq_b : LO := [
 X.o 7 (.bin .eql (X.s 3) (.cst (.int .u8 114))),
 X.m 6 7]
def C.blq : LO := C.blq_b
def C.blq_w := pO C.blq.eq_1
def C.cmb : ICode := .seq (.region C.bly) .ret
def C.cmb_w := pC C.cmb.eq_1
def C.cmc : ICode := .seq (.region C.blq) C.cl9
def C.cmc_w := pC C.cmc.eq_1
def C.cl1 : ICode := .keep [3, 4] (.cond (X.s 4) C.cmb C.cmc)
def C.cl1_w := pC C.cl1.eq_1
def C.blx_b : LO := [
 X.o 5 (.bin .eql (X.s 3) (.cst (.int .u8 115))),
 X.m 4 5]
def C.blx : LO := C.blx_b
def C.blx_w := pO C.blx.eq_1
def C.clz : ICode := .seq (.region C.blx) C.cl1
def C.clz_w := pC C.clz.eq_1
def C.cl2 : ICode := .keep [3] (.block 0 C.clz)
def C.cl2_w := pC C.cl2.eq_1
def C.blw_b : LO := [
 X.m 3 0]
def C.blw : LO := C.blw_b
def C.blw_w := pO C.blw.eq_1
def C.cl3 : ICode := .keep [0] (.seq (.seq (.region C.blw) C.cl2) C.cl0)
def C.cl3_w := pC C.cl3.eq_1
def C.blv_b : LO := [
 X.o 2 (.move (.cst (.nilf)))]
def C.blv : LO := C.blv_b
def C.blv_w := pO C.blv.eq_1
def C.q96 : IFunc := ⟨1, [.slot 2], .seq (.region C.blv) C.cl3⟩
def C.q96_W := aI (aI (aI (aI @C.bl3_w @C.cl0_w) (aI @C.bly_w (aI @C.blz_w @C.bl2_w))) (aI (aI @C.cl4_w (aI @C.cl5_w @C.bl1_w)) (aI @C.cl6_w (aI @C.bl0_w @C.cl7_w)))) (aI (aI (aI @C.cl8_w (aI @C.cl9_w @C.blq_w)) (aI @C.cmb_w (aI @C.cmc_w @C.cl1_w))) (aI (aI @C.blx_w (aI @C.clz_w @C.cl2_w)) (aI @C.blw_w (aI @C.cl3_w @C.blv_w))))
def C.q96_B := aI (aI (aI @C.bl3_b.eq_1 @C.bly_b.eq_1) (aI @C.blz_b.eq_1 (aI @C.bl2_b.eq_1 @C.bl1_b.eq_1))) (aI (aI @C.bl0_b.eq_1 @C.blq_b.eq_1) (aI @C.blx_b.eq_1 (aI @C.blw_b.eq_1 @C.blv_b.eq_1)))

def C.vt_b : LO := [
 X.m 55 3,
 X.m 2 55]
def C.vt : LO := C.vt_b
def C.vt_w := pO C.vt.eq_1
def C.b6w : ICode := .keep [3] (.seq (.region C.vt) .ret)
def C.b6w_w := pC C.b6w.eq_1
def C.fx_b : LO := [
 X.o 54 (.bin .add (X.s 14) (X.i 1)),
 X.m 14 54]
def C.fx : LO := C.fx_b
def C.fx_w := pO C.fx.eq_1
def C.bpf : ICode := .keep [0, 3, 13, 14] (.region C.fx)
def C.bpf_w := pC C.bpf.eq_1
def C.vs_b : LO := [
 X.m 48 0,
 X.o 49 (.nilchk (X.s 48)),
 X.o 50 (.fldAddr 0 (X.s 49)),
 X.o 51 (.load1 (X.s 50)),
 X.m 52 4,
 X.o 53 (.loadN 4 (X.s 5)),
 X.n (.mapSet (X.s 51) (X.s 52) (X.s 53))]
def C.vs : LO := C.vs_b
def C.vs_w := pO C.vs.eq_1
def C.b62 : ICode := .keep [0, 3, 4, 5, 13, 14] (.region C.vs)
def C.b62_w := pC C.b62.eq_1
def C.fs_b : LO := [
 X.o 36 (.fldAddr 1 (X.s 5)),
 X.o 37 (.load1 (X.s 36)),
 X.o 38 (.bin .sub (X.s 37) (X.i 1)),
 X.o 39 (.fldAddr 1 (X.s 5)),
 X.n (.store1 (X.s 39) (X.s 38))]
def C.fs : LO := C.fs_b
def C.fs_w := pO C.fs.eq_1
def C.fw_b : LO := [
 X.m 44 3,
 X.m 45 4,
 X.o 46 (.buildSlice 1 1 [.int .i64 0] [(0, 1, X.s 45)]),
 X.o 47 (.append 1 8 (X.s 44) (X.s 46)),
 X.m 3 47]
def C.fw : LO := C.fw_b
def C.fw_w := pO C.fw.eq_1
def C.bpg : ICode := .keep [0, 3, 4, 5, 13, 14] (.region C.fw)
def C.bpg_w := pC C.bpg.eq_1
def C.fv_b : LO := [
 X.o 42 (.fldAddr 2 (X.s 5)),
 X.n (.store1 (X.s 42) (.cst (.bool false))),
 X.o 43 (.fldAddr 3 (X.s 5)),
 X.n (.store1 (X.s 43) (.cst (.bool false)))]
def C.fv : LO := C.fv_b
def C.fv_w := pO C.fv.eq_1
def C.bph : ICode := .seq (.region C.fv) C.bpg
def C.bph_w := pC C.bph.eq_1
def C.bpj : ICode := .keep [0, 3, 4, 5, 13, 14, 41] (.cond (X.s 41) C.bph .skip)
def C.bpj_w := pC C.bpj.eq_1
def C.ft_b : LO := [
 X.o 40 (.fldAddr 3 (X.s 5)),
 X.o 41 (.load1 (X.s 40))]
def C.ft : LO := C.ft_b
def C.ft_w := pO C.ft.eq_1
def C.bpk : ICode := .seq (.region C.ft) C.bpj
def C.bpk_w := pC C.bpk.eq_1
def C.bpl : ICode := .keep [0, 3, 4, 5, 13, 14, 35] (.cond (X.s 35) (.region C.fs) C.bpk)
def C.bpl_w := pC C.bpl.eq_1
def C.f1_b : LO := [
 X.o 33 (.fldAddr 1 (X.s 5)),
 X.o 34 (.load1 (X.s 33)),
 X.o 35 (.bin .gtr (X.s 34) (X.i 0))]
def C.f1 : LO := C.f1_b
def C.f1_w := pO C.f1.eq_1
def C.bpm : ICode := .keep [0, 3, 4, 5, 13, 14] (.seq (.seq (.region C.f1) C.bpl) C.b62)
def C.bpm_w := pC C.bpm.eq_1
def C.bn8 : ICode := .keep [0, 3, 4, 5, 13, 14, 32] (.cond (X.s 32) (.exit 1) .skip)
def C.bn8_w := pC C.bn8.eq_1
def C.f0_b : LO := [
 X.m 26 6,
 X.o 27 (.un .not (X.s 26)),
 X.m 28 27,
 X.f 28 29 (.fldAddr 2 (X.s 5)),
 X.f 28 30 (.load1 (X.s 29)),
 X.f 28 31 (.un .not (X.s 30)),
 X.o 32 (.pick (X.s 28) (.cst (.bool true)) (X.s 31))]
def C.f0 : LO := C.f0_b
def C.f0_w := pO C.f0.eq_1
def C.bn9 : ICode := .keep [0, 3, 4, 5, 6, 13, 14] (.seq (.seq (.region C.f0) C.bn8) C.bpm)
def C.bn9_w := pC C.bn9.eq_1
def C.fz_b : LO := [
 X.m 18 0,
 X.o 19 (.nilchk (X.s 18)),
 X.o 20 (.fldAddr 0 (X.s 19)),
 X.o 21 (.load1 (X.s 20)),
 X.m 22 4,
 X.o 23 (.lookup (.agg [.int .i64 0, .int .i64 0, .bool false, .bool false]) true (X.s 21) (X.s 22)),
 X.m 17 23,
 X.o 24 (.extract (X.s 17) 0),
 X.o 25 (.extract (X.s 17) 1),
 X.o 5 (.alloc [.int .i64 0, .int .i64 0, .bool false, .bool false]),
 X.n (.storeN 4 (X.s 5) (X.s 24)),
 X.m 6 25]
def C.fz : LO := C.fz_b
def C.fz_w := pO C.fz.eq_1
def C.bpb : ICode := .keep [0, 3, 4, 13, 14] (.seq (.region C.fz) C.bn9)
def C.bpb_w := pC C.bpb.eq_1
def C.fq_b : LO := [
 X.m 16 14,
 X.m 4 16]
def C.fq : LO := C.fq_b
def C.fq_w := pO C.fq.eq_1
def C.bn7 : ICode := .seq (.region C.fq) C.bpb
def C.bn7_w := pC C.bn7.eq_1
def C.bpc : ICode := .keep [0, 3, 13, 14] (.seq (.block 1 C.bn7) C.bpf)
def C.bpc_w := pC C.bpc.eq_1
def C.bpd : ICode := .keep [0, 3, 13, 14, 15] (.seq (.cond (X.s 15) .skip (.exit 0)) C.bpc)
def C.bpd_w := pC C.bpd.eq_1
def C.fy_b : LO := [
 X.o 15 (.bin .lss (X.s 14) (X.s 13))]
def C.fy : LO := C.fy_b
def C.fy_w := pO C.fy.eq_1
def C.cm5 : ICode := .keep [0, 3, 13, 14] (.seq (.region C.fy) C.bpd)
def C.cm5_w := pC C.cm5.eq_1
def C.b6v : ICode := .loop C.cm5
def C.b6v_w := pC C.b6v.eq_1
def C.b6x : ICode := .keep [0, 3, 13, 14] (.block 0 C.b6v)
def C.b6x_w := pC C.b6x.eq_1
def C.vx_b : LO := [
 X.m 9 0,
 X.o 10 (.nilchk (X.s 9)),
 X.o 11 (.fldAddr 0 (X.s 10)),
 X.o 12 (.load1 (X.s 11)),
 X.o 13 (.mlen (X.s 12)),
 X.o 14 (.move (X.i 0))]
def C.vx : LO := C.vx_b
def C.vx_w := pO C.vx.eq_1
def C.b6y : ICode := .keep [0, 3] (.seq (.seq (.region C.vx) C.b6x) C.b6w)
def C.b6y_w := pC C.b6y.eq_1
def C.vw_b : LO := [
 X.o 3 (.move (.cst (.nils)))]
def C.vw : LO := C.vw_b
def C.vw_w := pO C.vw.eq_1
def C.b6q : ICode := .keep [0] (.seq (.region C.vw) C.b6y)
def C.b6q_w := pC C.b6q.eq_1
def C.vv_b : LO := [
 X.o 2 (.move (.cst (.nils)))]
def C.vv : LO := C.vv_b
def C.vv_w := pO C.vv.eq_1
def C.b6z : ICode := .seq (.region C.vv) .ret
def C.b6z_w := pC C.b6z.eq_1
def C.b60 : ICode := .keep [0, 8] (.cond (X.s 8) C.b6z .skip)
def C.b60_w := pC C.b60.eq_1
def C.vr_b : LO := [
 X.m 7 0,
 X.o 8 (.eqP 0 false (X.s 7) (.cst (.nilp)))]
def C.vr : LO := C.vr_b
def C.vr_w := pO C.vr.eq_1
def C.b61 : ICode := .keep [0] (.seq (.seq (.region C.vr) C.b60) C.b6q)
def C.b61_w := pC C.b61.eq_1
def C.vp_b : LO := [
 X.o 2 (.move (.cst (.nils)))]
def C.vp : LO := C.vp_b
def C.vp_w := pO C.vp.eq_1
def C.q123 : IFunc := ⟨1, [.slot 2], .seq (.region C.vp) C.b61⟩
def C.q123_W := aI (aI (aI (aI (aI @C.vt_w @C.b6w_w) (aI @C.fx_w @C.bpf_w)) (aI (aI @C.vs_w @C.b62_w) (aI @C.fs_w (aI @C.fw_w @C.bpg_w)))) (aI (aI (aI @C.fv_w @C.bph_w) (aI @C.bpj_w (aI @C.ft_w @C.bpk_w))) (aI (aI @C.bpl_w @C.f1_w) (aI @C.bpm_w (aI @C.bn8_w @C.f0_w))))) (aI (aI (aI (aI @C.bn9_w @C.fz_w) (aI @C.bpb_w (aI @C.fq_w @C.bn7_w))) (aI (aI @C.bpc_w @C.bpd_w) (aI @C.fy_w (aI @C.b6v_w @C.b6x_w)))) (aI (aI (aI @C.vx_w @C.b6y_w) (aI @C.vw_w (aI @C.b6q_w @C.vv_w))) (aI (aI @C.b6z_w @C.b60_w) (aI @C.vr_w (aI @C.b61_w @C.vp_w)))))
def C.q123_B := aI (aI (aI (aI @C.vt_b.eq_1 @C.fx_b.eq_1) (aI @C.vs_b.eq_1 @C.fs_b.eq_1)) (aI (aI @C.fw_b.eq_1 @C.fv_b.eq_1) (aI @C.ft_b.eq_1 @C.f1_b.eq_1))) (aI (aI (aI @C.f0_b.eq_1 @C.fz_b.eq_1) (aI @C.fq_b.eq_1 @C.fy_b.eq_1)) (aI (aI @C.vx_b.eq_1 @C.vw_b.eq_1) (aI @C.vv_b.eq_1 (aI @C.vr_b.eq_1 @C.vp_b.eq_1))))

def C.w8_b : LO := [
 X.m 21 5,
 X.m 4 21]
def C.w8 : LO := C.w8_b
def C.w8_w := pO C.w8.eq_1
def C.b7v : ICode := .keep [5] (.seq (.region C.w8) .ret)
def C.b7v_w := pC C.b7v.eq_1
def C.w7_b : LO := [
 X.m 19 5,
 X.o 20 (.call F.q127 [X.s 19])]
def C.w7 : LO := C.w7_b
def C.w7_w := pO C.w7.eq_1
def C.b7z : ICode := .keep [5] (.seq (.region C.w7) C.b7v)
def C.b7z_w := pC C.b7z.eq_1
def C.w5_b : LO := [
 X.m 12 0,
 X.m 13 1,
 X.o 14 (.call F.q24 [X.s 12, X.s 13]),
 X.m 1 14]
def C.w5 : LO := C.w5_b
def C.w5_w := pO C.w5.eq_1
def C.b70 : ICode := .keep [0, 1, 5] (.region C.w5)
def C.b70_w := pC C.b70.eq_1
def C.w6_b : LO := [
 X.m 15 5,
 X.m 16 1,
 X.o 17 (.buildSlice 1 1 [.int .i64 0] [(0, 1, X.s 16)]),
 X.o 18 (.append 1 8 (X.s 15) (X.s 17)),
 X.m 5 18]
def C.w6 : LO := C.w6_b
def C.w6_w := pO C.w6.eq_1
def C.b7s : ICode := .region C.w6
def C.b7s_w := pC C.b7s.eq_1
def C.b71 : ICode := .keep [0, 1, 5] (.seq (.block 1 C.b7s) C.b70)
def C.b71_w := pC C.b71.eq_1
def C.b72 : ICode := .keep [0, 1, 5, 11] (.cond (X.s 11) .skip (.exit 0))
def C.b72_w := pC C.b72.eq_1
def C.w4_b : LO := [
 X.m 10 1,
 X.o 11 (.bin .neq (X.s 10) (X.i (-1)))]
def C.w4 : LO := C.w4_b
def C.w4_w := pO C.w4.eq_1
def C.cnt : ICode := .keep [0, 1, 5] (.seq (.seq (.region C.w4) C.b72) C.b71)
def C.cnt_w := pC C.cnt.eq_1
def C.b7t : ICode := .loop C.cnt
def C.b7t_w := pC C.b7t.eq_1
def C.b73 : ICode := .keep [0, 1, 5] (.seq (.block 0 C.b7t) C.b7z)
def C.b73_w := pC C.b73.eq_1
def C.w3_b : LO := [
 X.o 5 (.move (.cst (.nils)))]
def C.w3 : LO := C.w3_b
def C.w3_w := pO C.w3.eq_1
def C.b7w : ICode := .keep [0, 1] (.seq (.region C.w3) C.b73)
def C.b7w_w := pC C.b7w.eq_1
def C.w2_b : LO := [
 X.o 4 (.move (.cst (.nils)))]
def C.w2 : LO := C.w2_b
def C.w2_w := pO C.w2.eq_1
def C.b7x : ICode := .seq (.region C.w2) .ret
def C.b7x_w := pC C.b7x.eq_1
def C.b7y : ICode := .keep [0, 1, 9] (.cond (X.s 9) C.b7x .skip)
def C.b7y_w := pC C.b7y.eq_1
def C.w1_b : LO := [
 X.m 6 0,
 X.m 7 1,
 X.o 8 (.call F.q23 [X.s 6, X.s 7]),
 X.o 9 (.eqP 0 false (X.s 8) (.cst (.nilp)))]
def C.w1 : LO := C.w1_b
def C.w1_w := pO C.w1.eq_1
def C.b7q : ICode := .keep [0, 1] (.seq (.seq (.region C.w1) C.b7y) C.b7w)
def C.b7q_w := pC C.b7q.eq_1
def C.w0_b : LO := [
 X.o 4 (.move (.cst (.nils)))]
def C.w0 : LO := C.w0_b
def C.w0_w := pO C.w0.eq_1
def C.q18 : IFunc := ⟨2, [.slot 4], .seq (.region C.w0) C.b7q⟩
def C.q18_W := aI (aI (aI (aI @C.w8_w @C.b7v_w) (aI @C.w7_w (aI @C.b7z_w @C.w5_w))) (aI (aI @C.b70_w @C.w6_w) (aI @C.b7s_w (aI @C.b71_w @C.b72_w)))) (aI (aI (aI @C.w4_w @C.b7t_w) (aI @C.b73_w (aI @C.w3_w @C.b7w_w))) (aI (aI @C.w2_w (aI @C.b7x_w @C.b7y_w)) (aI @C.w1_w (aI @C.b7q_w @C.w0_w))))
def C.q18_B := aI (aI (aI @C.w8_b.eq_1 @C.w7_b.eq_1) (aI @C.w5_b.eq_1 @C.w6_b.eq_1)) (aI (aI @C.w4_b.eq_1 @C.w3_b.eq_1) (aI @C.w2_b.eq_1 (aI @C.w1_b.eq_1 @C.w0_b.eq_1)))

def C.xl_b : LO := [
 X.o 6 (.move (X.i 0))]
def C.xl : LO := C.xl_b
def C.xl_w := pO C.xl.eq_1
def C.b74 : ICode := .keep [] (.seq (.region C.xl) .ret)
def C.b74_w := pC C.b74.eq_1
def C.xk_b : LO := [
 X.m 41 7,
 X.m 42 7,
 X.o 43 (.nilchk (X.s 42)),
 X.o 44 (.fldAddr 0 (X.s 43)),
 X.o 45 (.fldAddr 5 (X.s 44)),
 X.o 46 (.load1 (X.s 45)),
 X.o 47 (.nilchk (X.s 41)),
 X.o 48 (.fldAddr 7 (X.s 47)),
 X.n (.store1 (X.s 48) (X.s 46))]
def C.xk : LO := C.xk_b
def C.xk_w := pO C.xk.eq_1
def C.b77 : ICode := .keep [7, 40] (.cond (X.s 40) (.region C.xk) .skip)
def C.b77_w := pC C.b77.eq_1
def C.xj_b : LO := [
 X.m 31 7,
 X.o 32 (.nilchk (X.s 31)),
 X.o 33 (.fldAddr 0 (X.s 32)),
 X.o 34 (.fldAddr 0 (X.s 33)),
 X.o 35 (.load1 (X.s 34)),
 X.o 36 (.bin .eql (X.s 35) (.cst (.int .u8 112))),
 X.m 37 36,
 X.t 37 38 (.move (X.s 2)),
 X.t 37 39 (.un .not (X.s 38)),
 X.o 40 (.pick (X.s 37) (X.s 39) (.cst (.bool false)))]
def C.xj : LO := C.xj_b
def C.xj_w := pO C.xj.eq_1
def C.b78 : ICode := .keep [2, 7] (.seq (.seq (.region C.xj) C.b77) C.b74)
def C.b78_w := pC C.b78.eq_1
def C.xh_b : LO := [
 X.m 27 7,
 X.m 28 2,
 X.o 29 (.nilchk (X.s 27)),
 X.o 30 (.fldAddr 6 (X.s 29)),
 X.n (.store1 (X.s 30) (X.s 28))]
def C.xh : LO := C.xh_b
def C.xh_w := pO C.xh.eq_1
def C.b79 : ICode := .keep [2, 7] (.seq (.region C.xh) C.b78)
def C.b79_w := pC C.b79.eq_1
def C.xg_b : LO := [
 X.o 6 (.move (X.i 1))]
def C.xg : LO := C.xg_b
def C.xg_w := pO C.xg.eq_1
def C.b8b : ICode := .seq (.region C.xg) .ret
def C.b8b_w := pC C.b8b.eq_1
def C.b8c : ICode := .keep [2, 7, 26] (.cond (X.s 26) C.b8b .skip)
def C.b8c_w := pC C.b8c.eq_1
def C.xf_b : LO := [
 X.m 13 7,
 X.o 14 (.nilchk (X.s 13)),
 X.o 15 (.fldAddr 0 (X.s 14)),
 X.o 16 (.fldAddr 0 (X.s 15)),
 X.o 17 (.load1 (X.s 16)),
 X.o 18 (.bin .neq (X.s 17) (.cst (.int .u8 112))),
 X.m 19 18,
 X.t 19 20 (.move (X.s 7)),
 X.t 19 21 (.nilchk (X.s 20)),
 X.t 19 22 (.fldAddr 0 (X.s 21)),
 X.t 19 23 (.fldAddr 0 (X.s 22)),
 X.t 19 24 (.load1 (X.s 23)),
 X.t 19 25 (.bin .neq (X.s 24) (.cst (.int .u8 103))),
 X.o 26 (.pick (X.s 19) (X.s 25) (.cst (.bool false)))]
def C.xf : LO := C.xf_b
def C.xf_w := pO C.xf.eq_1
def C.b8d : ICode := .keep [2, 7] (.seq (.seq (.region C.xf) C.b8c) C.b79)
def C.b8d_w := pC C.b8d.eq_1
def C.xd_b : LO := [
 X.o 6 (.move (X.i 4))]
def C.xd : LO := C.xd_b
def C.xd_w := pO C.xd.eq_1
def C.b8f : ICode := .seq (.region C.xd) .ret
def C.b8f_w := pC C.b8f.eq_1
def C.b8g : ICode := .keep [2, 7, 12] (.cond (X.s 12) C.b8f .skip)
def C.b8g_w := pC C.b8g.eq_1
def C.xc_b : LO := [
 X.m 11 7,
 X.o 12 (.eqP 0 false (X.s 11) (.cst (.nilp)))]
def C.xc : LO := C.xc_b
def C.xc_w := pO C.xc.eq_1
def C.b75 : ICode := .keep [2, 7] (.seq (.seq (.region C.xc) C.b8g) C.b8d)
def C.b75_w := pC C.b75.eq_1
def C.xb_b : LO := [
 X.m 8 0,
 X.m 9 1,
 X.o 10 (.call F.q23 [X.s 8, X.s 9]),
 X.m 7 10]
def C.xb : LO := C.xb_b
def C.xb_w := pO C.xb.eq_1
def C.b76 : ICode := .keep [0, 1, 2] (.seq (.region C.xb) C.b75)
def C.b76_w := pC C.b76.eq_1
def C.w9_b : LO := [
 X.o 6 (.move (X.i 0))]
def C.w9 : LO := C.w9_b
def C.w9_w := pO C.w9.eq_1
def C.q19 : IFunc := ⟨3, [.slot 6], .seq (.region C.w9) C.b76⟩
def C.q19_W := aI (aI (aI (aI @C.xl_w @C.b74_w) (aI @C.xk_w (aI @C.b77_w @C.xj_w))) (aI (aI @C.b78_w @C.xh_w) (aI @C.b79_w (aI @C.xg_w @C.b8b_w)))) (aI (aI (aI @C.b8c_w @C.xf_w) (aI @C.b8d_w (aI @C.xd_w @C.b8f_w))) (aI (aI @C.b8g_w (aI @C.xc_w @C.b75_w)) (aI @C.xb_w (aI @C.b76_w @C.w9_w))))
def C.q19_B := aI (aI (aI @C.xl_b.eq_1 @C.xk_b.eq_1) (aI @C.xj_b.eq_1 (aI @C.xh_b.eq_1 @C.xg_b.eq_1))) (aI (aI @C.xf_b.eq_1 @C.xd_b.eq_1) (aI @C.xc_b.eq_1 (aI @C.xb_b.eq_1 @C.w9_b.eq_1)))

def C.x0_b : LO := [
 X.o 11 (.load1 (X.s 5)),
 X.m 12 1,
 X.o 13 (.callv (X.s 11) [X.s 12]),
 X.m 4 13]
def C.x0 : LO := C.x0_b
def C.x0_w := pO C.x0.eq_1
def C.b8s : ICode := .keep [1, 5] (.seq (.region C.x0) .ret)
def C.b8s_w := pC C.b8s.eq_1
def C.xz_b : LO := [
 X.o 10 (.makeFunc F.q21 [X.s 2, X.s 5]),
 X.n (.store1 (X.s 5) (X.s 10))]
def C.xz : LO := C.xz_b
def C.xz_w := pO C.xz.eq_1
def C.b8t : ICode := .keep [1, 2, 5] (.seq (.region C.xz) C.b8s)
def C.b8t_w := pC C.b8t.eq_1
def C.xq_b : LO := [
 X.o 5 (.alloc [.nilf])]
def C.xq : LO := C.xq_b
def C.xq_w := pO C.xq.eq_1
def C.b8v : ICode := .keep [1, 2] (.seq (.region C.xq) C.b8t)
def C.b8v_w := pC C.b8v.eq_1
def C.xy_b : LO := [
 X.o 4 (.move (.cst (.bool false)))]
def C.xy : LO := C.xy_b
def C.xy_w := pO C.xy.eq_1
def C.b8w : ICode := .seq (.region C.xy) .ret
def C.b8w_w := pC C.b8w.eq_1
def C.b8x : ICode := .keep [1, 2, 9] (.cond (X.s 9) C.b8w .skip)
def C.b8x_w := pC C.b8x.eq_1
def C.xx_b : LO := [
 X.o 6 (.load1 (X.s 2)),
 X.m 7 1,
 X.o 8 (.call F.q23 [X.s 6, X.s 7]),
 X.o 9 (.eqP 0 false (X.s 8) (.cst (.nilp)))]
def C.xx : LO := C.xx_b
def C.xx_w := pO C.xx.eq_1
def C.b8y : ICode := .keep [1, 2] (.seq (.seq (.region C.xx) C.b8x) C.b8v)
def C.b8y_w := pC C.b8y.eq_1
def C.xw_b : LO := [
 X.o 2 (.box1 (X.s 0)),
 X.o 4 (.move (.cst (.bool false)))]
def C.xw : LO := C.xw_b
def C.xw_w := pO C.xw.eq_1
def C.q20 : IFunc := ⟨2, [.slot 4], .seq (.region C.xw) C.b8y⟩
def C.q20_W := aI (aI (aI @C.x0_w (aI @C.b8s_w @C.xz_w)) (aI @C.b8t_w (aI @C.xq_w @C.b8v_w))) (aI (aI @C.xy_w (aI @C.b8w_w @C.b8x_w)) (aI @C.xx_w (aI @C.b8y_w @C.xw_w)))
def C.q20_B := aI (aI @C.x0_b.eq_1 (aI @C.xz_b.eq_1 @C.xq_b.eq_1)) (aI @C.xy_b.eq_1 (aI @C.xx_b.eq_1 @C.xw_b.eq_1))

def C.bl8_b : LO := [
 X.m 11 5,
 X.o 12 (.nilchk (X.s 11)),
 X.o 13 (.fldAddr 3 (X.s 12)),
 X.o 14 (.load1 (X.s 13)),
 X.m 4 14]
def C.bl8 : LO := C.bl8_b
def C.bl8_w := pO C.bl8.eq_1
def C.cmd : ICode := .keep [5] (.seq (.region C.bl8) .ret)
def C.cmd_w := pC C.cmd.eq_1
def C.bl7_b : LO := [
 X.o 4 (.move (.cst (.int .u8 0)))]
def C.bl7 : LO := C.bl7_b
def C.bl7_w := pO C.bl7.eq_1
def C.cmf : ICode := .seq (.region C.bl7) .ret
def C.cmf_w := pC C.cmf.eq_1
def C.cmg : ICode := .keep [5, 10] (.cond (X.s 10) C.cmf .skip)
def C.cmg_w := pC C.cmg.eq_1
def C.bl6_b : LO := [
 X.m 9 5,
 X.o 10 (.eqP 0 false (X.s 9) (.cst (.nilp)))]
def C.bl6 : LO := C.bl6_b
def C.bl6_w := pO C.bl6.eq_1
def C.cmh : ICode := .keep [5] (.seq (.seq (.region C.bl6) C.cmg) C.cmd)
def C.cmh_w := pC C.cmh.eq_1
def C.bl5_b : LO := [
 X.m 6 0,
 X.m 7 1,
 X.o 8 (.call F.q100 [X.s 6, X.s 7]),
 X.m 5 8]
def C.bl5 : LO := C.bl5_b
def C.bl5_w := pO C.bl5.eq_1
def C.cmj : ICode := .keep [0, 1] (.seq (.region C.bl5) C.cmh)
def C.cmj_w := pC C.cmj.eq_1
def C.bl4_b : LO := [
 X.o 4 (.move (.cst (.int .u8 0)))]
def C.bl4 : LO := C.bl4_b
def C.bl4_w := pO C.bl4.eq_1
def C.q97 : IFunc := ⟨2, [.slot 4], .seq (.region C.bl4) C.cmj⟩
def C.q97_W := aI (aI (aI @C.bl8_w @C.cmd_w) (aI @C.bl7_w (aI @C.cmf_w @C.cmg_w))) (aI (aI @C.bl6_w @C.cmh_w) (aI @C.bl5_w (aI @C.cmj_w @C.bl4_w)))
def C.q97_B := aI (aI @C.bl8_b.eq_1 @C.bl7_b.eq_1) (aI @C.bl6_b.eq_1 (aI @C.bl5_b.eq_1 @C.bl4_b.eq_1))

def C.vf_b : LO := [
 X.m 13 6,
 X.o 14 (.un .not (X.s 13)),
 X.m 15 14,
 X.f 15 16 (.fldAddr 2 (X.s 5)),
 X.f 15 17 (.load1 (X.s 16)),
 X.o 18 (.pick (X.s 15) (.cst (.bool true)) (X.s 17)),
 X.m 4 18]
def C.vf : LO := C.vf_b
def C.vf_w := pO C.vf.eq_1
def C.b6h : ICode := .keep [5, 6] (.seq (.region C.vf) .ret)
def C.b6h_w := pC C.b6h.eq_1
def C.ck_b : LO := [
 X.m 8 0,
 X.m 9 1,
 X.o 10 (.call F.q124 [X.s 8, X.s 9]),
 X.m 7 10,
 X.o 11 (.extract (X.s 7) 0),
 X.o 12 (.extract (X.s 7) 1),
 X.o 5 (.alloc [.int .i64 0, .int .i64 0, .bool false, .bool false]),
 X.n (.storeN 4 (X.s 5) (X.s 11)),
 X.m 6 12]
def C.ck : LO := C.ck_b
def C.ck_w := pO C.ck.eq_1
def C.bmv : ICode := .keep [0, 1] (.seq (.region C.ck) C.b6h)
def C.bmv_w := pC C.bmv.eq_1
def C.cj_b : LO := [
 X.o 4 (.move (.cst (.bool false)))]
def C.cj : LO := C.cj_b
def C.cj_w := pO C.cj.eq_1
def C.q121 : IFunc := ⟨2, [.slot 4], .seq (.region C.cj) C.bmv⟩
def C.q121_W := aI (aI @C.vf_w @C.b6h_w) (aI @C.ck_w (aI @C.bmv_w @C.cj_w))
def C.q121_B := aI @C.vf_b.eq_1 (aI @C.ck_b.eq_1 @C.cj_b.eq_1)

def C.bfn_b : LO := [
 X.o 2 (.move (X.i 0))]
def C.bfn : LO := C.bfn_b
def C.bfn_w := pO C.bfn.eq_1
def C.cd3 : ICode := .keep [] (.seq (.region C.bfn) .ret)
def C.cd3_w := pC C.cd3.eq_1
def C.bfm_b : LO := [
 X.o 17 (.bin .add (X.s 8) (X.i 1)),
 X.m 8 17]
def C.bfm : LO := C.bfm_b
def C.bfm_w := pO C.bfm.eq_1
def C.cd6 : ICode := .keep [6, 7, 8] (.region C.bfm)
def C.cd6_w := pC C.cd6.eq_1
def C.bfl_b : LO := [
 X.m 16 5,
 X.m 2 16]
def C.bfl : LO := C.bfl_b
def C.bfl_w := pO C.bfl.eq_1
def C.cd7 : ICode := .seq (.region C.bfl) .ret
def C.cd7_w := pC C.cd7.eq_1
def C.cd8 : ICode := .keep [5, 6, 7, 8, 15] (.cond (X.s 15) C.cd7 .skip)
def C.cd8_w := pC C.cd8.eq_1
def C.bfk_b : LO := [
 X.m 14 5,
 X.o 15 (.bin .neq (X.s 14) (X.i 0))]
def C.bfk : LO := C.bfk_b
def C.bfk_w := pO C.bfk.eq_1
def C.cd9 : ICode := .keep [5, 6, 7, 8] (.seq (.region C.bfk) C.cd8)
def C.cd9_w := pC C.cd9.eq_1
def C.bfj_b : LO := [
 X.m 12 4,
 X.o 13 (.callv (X.s 12) []),
 X.m 5 13]
def C.bfj : LO := C.bfj_b
def C.bfj_w := pO C.bfj.eq_1
def C.cfb : ICode := .keep [4, 6, 7, 8] (.seq (.region C.bfj) C.cd9)
def C.cfb_w := pC C.cfb.eq_1
def C.bfh_b : LO := [
 X.o 10 (.idxAddr 1 (X.s 6) (X.s 8)),
 X.o 11 (.load1 (X.s 10)),
 X.m 4 11]
def C.bfh : LO := C.bfh_b
def C.bfh_w := pO C.bfh.eq_1
def C.cd2 : ICode := .seq (.region C.bfh) C.cfb
def C.cd2_w := pC C.cd2.eq_1
def C.cfc : ICode := .keep [6, 7, 8] (.seq (.block 1 C.cd2) C.cd6)
def C.cfc_w := pC C.cfc.eq_1
def C.cfd : ICode := .keep [6, 7, 8, 9] (.seq (.cond (X.s 9) .skip (.exit 0)) C.cfc)
def C.cfd_w := pC C.cfd.eq_1
def C.bfg_b : LO := [
 X.o 9 (.bin .lss (X.s 8) (X.s 7))]
def C.bfg : LO := C.bfg_b
def C.bfg_w := pO C.bfg.eq_1
def C.cn6 : ICode := .keep [6, 7, 8] (.seq (.region C.bfg) C.cfd)
def C.cn6_w := pC C.cn6.eq_1
def C.cd1 : ICode := .loop C.cn6
def C.cd1_w := pC C.cd1.eq_1
def C.cd4 : ICode := .keep [6, 7, 8] (.block 0 C.cd1)
def C.cd4_w := pC C.cd4.eq_1
def C.bff_b : LO := [
 X.m 6 0,
 X.o 7 (.len (X.s 6)),
 X.o 8 (.move (X.i 0))]
def C.bff : LO := C.bff_b
def C.bff_w := pO C.bff.eq_1
def C.cd5 : ICode := .keep [0] (.seq (.seq (.region C.bff) C.cd4) C.cd3)
def C.cd5_w := pC C.cd5.eq_1
def C.bfd_b : LO := [
 X.o 2 (.move (X.i 0))]
def C.bfd : LO := C.bfd_b
def C.bfd_w := pO C.bfd.eq_1
def C.q61 : IFunc := ⟨1, [.slot 2], .seq (.region C.bfd) C.cd5⟩
def C.q61_W := aI (aI (aI (aI @C.bfn_w @C.cd3_w) (aI @C.bfm_w (aI @C.cd6_w @C.bfl_w))) (aI (aI @C.cd7_w @C.cd8_w) (aI @C.bfk_w (aI @C.cd9_w @C.bfj_w)))) (aI (aI (aI @C.cfb_w @C.bfh_w) (aI @C.cd2_w (aI @C.cfc_w @C.cfd_w))) (aI (aI @C.bfg_w (aI @C.cd1_w @C.cd4_w)) (aI @C.bff_w (aI @C.cd5_w @C.bfd_w))))
def C.q61_B := aI (aI (aI @C.bfn_b.eq_1 @C.bfm_b.eq_1) (aI @C.bfl_b.eq_1 @C.bfk_b.eq_1)) (aI (aI @C.bfj_b.eq_1 @C.bfh_b.eq_1) (aI @C.bfg_b.eq_1 (aI @C.bff_b.eq_1 @C.bfd_b.eq_1)))

def C.yv_b : LO := [
 X.o 2 (.loadN 4 (X.s 0)),
 X.o 3 (.call F.q62 [X.s 2]),
 X.m 1 3]
def C.yv : LO := C.yv_b
def C.yv_w := pO C.yv.eq_1
def C.b9p : ICode := .keep [0] (.seq (.region C.yv) .ret)
def C.b9p_w := pC C.b9p.eq_1
def C.yt_b : LO := [
 X.o 1 (.move (X.i 0))]
def C.yt : LO := C.yt_b
def C.yt_w := pO C.yt.eq_1
def C.q26 : IFunc := ⟨1, [.slot 1], .seq (.region C.yt) C.b9p⟩
def C.q26_W := aI @C.yv_w (aI @C.b9p_w @C.yt_w)
def C.q26_B := aI @C.yv_b.eq_1 @C.yt_b.eq_1

def C.bfs_b : LO := [
 X.o 25 (.fldAddr 3 (X.s 1)),
 X.o 26 (.load1 (X.s 25)),
 X.o 27 (.call F.q57 [X.s 26, .fnc F.q63]),
 X.m 2 27]
def C.bfs : LO := C.bfs_b
def C.bfs_w := pO C.bfs.eq_1
def C.cff : ICode := .keep [1] (.seq (.region C.bfs) .ret)
def C.cff_w := pC C.cff.eq_1
def C.bfr_b : LO := [
 X.o 2 (.move (X.i 8))]
def C.bfr : LO := C.bfr_b
def C.bfr_w := pO C.bfr.eq_1
def C.cfg : ICode := .seq (.region C.bfr) .ret
def C.cfg_w := pC C.cfg.eq_1
def C.cfh : ICode := .keep [1, 24] (.cond (X.s 24) C.cfg .skip)
def C.cfh_w := pC C.cfh.eq_1
def C.bfp_b : LO := [
 X.o 3 (.fldAddr 0 (X.s 1)),
 X.o 4 (.load1 (X.s 3)),
 X.o 5 (.len (X.s 4)),
 X.o 6 (.bin .gtr (X.s 5) (X.i 12)),
 X.m 7 6,
 X.f 7 8 (.fldAddr 1 (X.s 1)),
 X.f 7 9 (.load1 (X.s 8)),
 X.f 7 10 (.len (X.s 9)),
 X.f 7 11 (.bin .gtr (X.s 10) (X.i 6)),
 X.o 12 (.pick (X.s 7) (.cst (.bool true)) (X.s 11)),
 X.m 13 12,
 X.f 13 14 (.fldAddr 2 (X.s 1)),
 X.f 13 15 (.load1 (X.s 14)),
 X.f 13 16 (.len (X.s 15)),
 X.f 13 17 (.bin .gtr (X.s 16) (X.i 6)),
 X.o 18 (.pick (X.s 13) (.cst (.bool true)) (X.s 17)),
 X.m 19 18,
 X.f 19 20 (.fldAddr 3 (X.s 1)),
 X.f 19 21 (.load1 (X.s 20)),
 X.f 19 22 (.len (X.s 21)),
 X.f 19 23 (.bin .gtr (X.s 22) (X.i 6)),
 X.o 24 (.pick (X.s 19) (.cst (.bool true)) (X.s 23))]
def C.bfp : LO := C.bfp_b
def C.bfp_w := pO C.bfp.eq_1
def C.cfj : ICode := .keep [1] (.seq (.seq (.region C.bfp) C.cfh) C.cff)
def C.cfj_w := pC C.cfj.eq_1
def C.mv_b : LO := [
 X.o 1 (.boxN (X.s 0)),
 X.o 2 (.move (X.i 0))]
def C.mv : LO := C.mv_b
def C.mv_w := pO C.mv.eq_1
def C.q62 : IFunc := ⟨1, [.slot 2], .seq (.region C.mv) C.cfj⟩
def C.q62_W := aI (aI (aI @C.bfs_w @C.cff_w) (aI @C.bfr_w @C.cfg_w)) (aI (aI @C.cfh_w @C.bfp_w) (aI @C.cfj_w @C.mv_w))
def C.q62_B := aI (aI @C.bfs_b.eq_1 @C.bfr_b.eq_1) (aI @C.bfp_b.eq_1 @C.mv_b.eq_1)

def C.yx_b : LO := [
 X.o 2 (.fldAddr 0 (X.s 0)),
 X.o 3 (.load1 (X.s 2)),
 X.o 4 (.makeFunc F.q28 [X.s 0]),
 X.o 5 (.call F.q56 [X.s 3, X.s 4]),
 X.m 1 5]
def C.yx : LO := C.yx_b
def C.yx_w := pO C.yx.eq_1
def C.b9r : ICode := .keep [0] (.seq (.region C.yx) .ret)
def C.b9r_w := pC C.b9r.eq_1
def C.yw_b : LO := [
 X.o 1 (.move (X.i 0))]
def C.yw : LO := C.yw_b
def C.yw_w := pO C.yw.eq_1
def C.q27 : IFunc := ⟨1, [.slot 1], .seq (.region C.yw) C.b9r⟩
def C.q27_W := aI @C.yx_w (aI @C.b9r_w @C.yw_w)
def C.q27_B := aI @C.yx_b.eq_1 @C.yw_b.eq_1

def C.l6_b : LO := [
 X.o 4 (.move (X.i 0))]
def C.l6 : LO := C.l6_b
def C.l6_w := pO C.l6.eq_1
def C.by8 : ICode := .keep [] (.seq (.region C.l6) .ret)
def C.by8_w := pC C.by8.eq_1
def C.l5_b : LO := [
 X.o 20 (.bin .add (X.s 10) (X.i 1)),
 X.m 10 20]
def C.l5 : LO := C.l5_b
def C.l5_w := pO C.l5.eq_1
def C.bqc : ICode := .keep [1, 8, 9, 10] (.region C.l5)
def C.bqc_w := pC C.bqc.eq_1
def C.bdg_b : LO := [
 X.m 19 7,
 X.m 4 19]
def C.bdg : LO := C.bdg_b
def C.bdg_w := pO C.bdg.eq_1
def C.cct : ICode := .seq (.region C.bdg) .ret
def C.cct_w := pC C.cct.eq_1
def C.ccv : ICode := .keep [1, 7, 8, 9, 10, 18] (.cond (X.s 18) C.cct .skip)
def C.ccv_w := pC C.ccv.eq_1
def C.bdf_b : LO := [
 X.m 17 7,
 X.o 18 (.bin .neq (X.s 17) (X.i 0))]
def C.bdf : LO := C.bdf_b
def C.bdf_w := pO C.bdf.eq_1
def C.ccw : ICode := .keep [1, 7, 8, 9, 10] (.seq (.region C.bdf) C.ccv)
def C.ccw_w := pC C.ccw.eq_1
def C.bdd_b : LO := [
 X.m 14 1,
 X.o 15 (.loadN 6 (X.s 6)),
 X.o 16 (.callv (X.s 14) [X.s 15]),
 X.m 7 16]
def C.bdd : LO := C.bdd_b
def C.bdd_w := pO C.bdd.eq_1
def C.ccx : ICode := .keep [1, 6, 8, 9, 10] (.seq (.region C.bdd) C.ccw)
def C.ccx_w := pC C.ccx.eq_1
def C.l4_b : LO := [
 X.o 12 (.idxAddr 6 (X.s 8) (X.s 10)),
 X.o 13 (.loadN 6 (X.s 12)),
 X.o 6 (.alloc [.int .u8 0, .nils, .int .u64 0, .int .i64 0, .int .i64 0, .int .i64 0]),
 X.n (.storeN 6 (X.s 6) (X.s 13))]
def C.l4 : LO := C.l4_b
def C.l4_w := pO C.l4.eq_1
def C.by7 : ICode := .seq (.region C.l4) C.ccx
def C.by7_w := pC C.by7.eq_1
def C.bqd : ICode := .keep [1, 8, 9, 10] (.seq (.block 1 C.by7) C.bqc)
def C.bqd_w := pC C.bqd.eq_1
def C.bqf : ICode := .keep [1, 8, 9, 10, 11] (.seq (.cond (X.s 11) .skip (.exit 0)) C.bqd)
def C.bqf_w := pC C.bqf.eq_1
def C.l3_b : LO := [
 X.o 11 (.bin .lss (X.s 10) (X.s 9))]
def C.l3 : LO := C.l3_b
def C.l3_w := pO C.l3.eq_1
def C.cn1 : ICode := .keep [1, 8, 9, 10] (.seq (.region C.l3) C.bqf)
def C.cn1_w := pC C.cn1.eq_1
def C.by6 : ICode := .loop C.cn1
def C.by6_w := pC C.by6.eq_1
def C.by9 : ICode := .keep [1, 8, 9, 10] (.block 0 C.by6)
def C.by9_w := pC C.by9.eq_1
def C.l2_b : LO := [
 X.m 8 0,
 X.o 9 (.len (X.s 8)),
 X.o 10 (.move (X.i 0))]
def C.l2 : LO := C.l2_b
def C.l2_w := pO C.l2.eq_1
def C.bqb : ICode := .keep [0, 1] (.seq (.seq (.region C.l2) C.by9) C.by8)
def C.bqb_w := pC C.bqb.eq_1
def C.l1_b : LO := [
 X.o 4 (.move (X.i 0))]
def C.l1 : LO := C.l1_b
def C.l1_w := pO C.l1.eq_1
def C.q56 : IFunc := ⟨2, [.slot 4], .seq (.region C.l1) C.bqb⟩
def C.q56_W := aI (aI (aI (aI @C.l6_w @C.by8_w) (aI @C.l5_w (aI @C.bqc_w @C.bdg_w))) (aI (aI @C.cct_w @C.ccv_w) (aI @C.bdf_w (aI @C.ccw_w @C.bdd_w)))) (aI (aI (aI @C.ccx_w @C.l4_w) (aI @C.by7_w (aI @C.bqd_w @C.bqf_w))) (aI (aI @C.l3_w (aI @C.by6_w @C.by9_w)) (aI @C.l2_w (aI @C.bqb_w @C.l1_w))))
def C.q56_B := aI (aI (aI @C.l6_b.eq_1 @C.l5_b.eq_1) (aI @C.bdg_b.eq_1 @C.bdf_b.eq_1)) (aI (aI @C.bdd_b.eq_1 @C.l4_b.eq_1) (aI @C.l3_b.eq_1 (aI @C.l2_b.eq_1 @C.l1_b.eq_1)))

def C.yy_b : LO := [
 X.o 4 (.loadN 4 (X.s 1)),
 X.o 5 (.loadN 6 (X.s 2)),
 X.o 6 (.call F.q41 [X.s 4, X.s 5]),
 X.m 3 6]
def C.yy : LO := C.yy_b
def C.yy_w := pO C.yy.eq_1
def C.b9s : ICode := .keep [1, 2] (.seq (.region C.yy) .ret)
def C.b9s_w := pC C.b9s.eq_1
def C.lg_b : LO := [
 X.o 2 (.boxN (X.s 0)),
 X.o 3 (.move (X.i 0))]
def C.lg : LO := C.lg_b
def C.lg_w := pO C.lg.eq_1
def C.q28 : IFunc := ⟨2, [.slot 3], .seq (.region C.lg) C.b9s⟩
def C.q28_W := aI @C.yy_w (aI @C.b9s_w @C.lg_w)
def C.q28_B := aI @C.yy_b.eq_1 @C.lg_b.eq_1

def C.bb4_b : LO := [
 X.o 5 (.makeFunc F.q42 [X.s 3]),
 X.o 6 (.makeFunc F.q43 [X.s 3, X.s 2]),
 X.o 7 (.makeFunc F.q45 [X.s 3]),
 X.o 8 (.buildSlice 1 3 [.nilf] [(0, 1, X.s 5), (1, 1, X.s 6), (2, 1, X.s 7)]),
 X.o 9 (.call F.q61 [X.s 8]),
 X.m 4 9]
def C.bb4 : LO := C.bb4_b
def C.bb4_w := pO C.bb4.eq_1
def C.cby : ICode := .keep [2, 3] (.seq (.region C.bb4) .ret)
def C.cby_w := pC C.cby.eq_1
def C.bb3_b : LO := [
 X.o 2 (.boxN (X.s 0)),
 X.o 3 (.boxN (X.s 1)),
 X.o 4 (.move (X.i 0))]
def C.bb3 : LO := C.bb3_b
def C.bb3_w := pO C.bb3.eq_1
def C.q41 : IFunc := ⟨2, [.slot 4], .seq (.region C.bb3) C.cby⟩
def C.q41_W := aI @C.bb4_w (aI @C.cby_w @C.bb3_w)
def C.q41_B := aI @C.bb4_b.eq_1 @C.bb3_b.eq_1

def C.yz_b : LO := [
 X.o 2 (.loadN 4 (X.s 0)),
 X.o 3 (.call F.q37 [X.s 2]),
 X.o 4 (.call F.q46 [X.s 3]),
 X.m 1 4]
def C.yz : LO := C.yz_b
def C.yz_w := pO C.yz.eq_1
def C.b9t : ICode := .keep [0] (.seq (.region C.yz) .ret)
def C.b9t_w := pC C.b9t.eq_1
def C.yq_b : LO := [
 X.o 1 (.move (X.i 0))]
def C.yq : LO := C.yq_b
def C.yq_w := pO C.yq.eq_1
def C.q29 : IFunc := ⟨1, [.slot 1], .seq (.region C.yq) C.b9t⟩
def C.q29_W := aI @C.yz_w (aI @C.b9t_w @C.yq_w)
def C.q29_B := aI @C.yz_b.eq_1 @C.yq_b.eq_1

def C.bcg_b : LO := [
 X.m 3 0,
 X.o 4 (.call F.q75 [X.s 3]),
 X.o 5 (.bin .eql (X.s 4) (X.i 5)),
 X.o 6 (.call F.q73 [X.s 5, X.i 5]),
 X.m 2 6]
def C.bcg : LO := C.bcg_b
def C.bcg_w := pO C.bcg.eq_1
def C.cb2 : ICode := .keep [0] (.seq (.region C.bcg) .ret)
def C.cb2_w := pC C.cb2.eq_1
def C.bcf_b : LO := [
 X.o 2 (.move (X.i 0))]
def C.bcf : LO := C.bcf_b
def C.bcf_w := pO C.bcf.eq_1
def C.q46 : IFunc := ⟨1, [.slot 2], .seq (.region C.bcf) C.cb2⟩
def C.q46_W := aI @C.bcg_w (aI @C.cb2_w @C.bcf_w)
def C.q46_B := aI @C.bcg_b.eq_1 @C.bcf_b.eq_1

def C.lp_b : LO := [
 X.m 25 3,
 X.m 2 25]
def C.lp : LO := C.lp_b
def C.lp_w := pO C.lp.eq_1
def C.byh : ICode := .keep [3] (.seq (.region C.lp) .ret)
def C.byh_w := pC C.byh.eq_1
def C.ln_b : LO := [
 X.o 24 (.bin .add (X.s 13) (X.i 1)),
 X.m 13 24]
def C.ln : LO := C.ln_b
def C.ln_w := pO C.ln.eq_1
def C.byk : ICode := .keep [3, 11, 12, 13] (.region C.ln)
def C.byk_w := pC C.byk.eq_1
def C.bbj_b : LO := [
 X.m 18 3,
 X.m 19 4,
 X.o 20 (.fldAddr 1 (X.s 5)),
 X.o 21 (.load1 (X.s 20)),
 X.o 22 (.call F.q70 [X.s 21]),
 X.o 23 (.idxAddr 1 (X.s 18) (X.s 19)),
 X.n (.store1 (X.s 23) (X.s 22))]
def C.bbj : LO := C.bbj_b
def C.bbj_w := pO C.bbj.eq_1
def C.b95 : ICode := .keep [3, 4, 5, 11, 12, 13] (.region C.bbj)
def C.b95_w := pC C.b95.eq_1
def C.lm_b : LO := [
 X.m 15 13,
 X.o 16 (.idxAddr 6 (X.s 11) (X.s 13)),
 X.o 17 (.loadN 6 (X.s 16)),
 X.o 5 (.alloc [.int .u8 0, .nils, .int .u64 0, .int .i64 0, .int .i64 0, .int .i64 0]),
 X.m 4 15,
 X.n (.storeN 6 (X.s 5) (X.s 17))]
def C.lm : LO := C.lm_b
def C.lm_w := pO C.lm.eq_1
def C.byf : ICode := .seq (.region C.lm) C.b95
def C.byf_w := pC C.byf.eq_1
def C.byl : ICode := .keep [3, 11, 12, 13] (.seq (.block 1 C.byf) C.byk)
def C.byl_w := pC C.byl.eq_1
def C.bym : ICode := .keep [3, 11, 12, 13, 14] (.seq (.cond (X.s 14) .skip (.exit 0)) C.byl)
def C.bym_w := pC C.bym.eq_1
def C.ll_b : LO := [
 X.o 14 (.bin .lss (X.s 13) (X.s 12))]
def C.ll : LO := C.ll_b
def C.ll_w := pO C.ll.eq_1
def C.cnx : ICode := .keep [3, 11, 12, 13] (.seq (.region C.ll) C.bym)
def C.cnx_w := pC C.cnx.eq_1
def C.byg : ICode := .loop C.cnx
def C.byg_w := pC C.byg.eq_1
def C.byn : ICode := .keep [3, 11, 12, 13] (.block 0 C.byg)
def C.byn_w := pC C.byn.eq_1
def C.lk_b : LO := [
 X.o 10 (.fldAddr 0 (X.s 1)),
 X.o 11 (.load1 (X.s 10)),
 X.o 12 (.len (X.s 11)),
 X.o 13 (.move (X.i 0))]
def C.lk : LO := C.lk_b
def C.lk_w := pO C.lk.eq_1
def C.byj : ICode := .keep [1, 3] (.seq (.seq (.region C.lk) C.byn) C.byh)
def C.byj_w := pC C.byj.eq_1
def C.c1_b : LO := [
 X.o 6 (.fldAddr 0 (X.s 1)),
 X.o 7 (.load1 (X.s 6)),
 X.o 8 (.len (X.s 7)),
 X.o 9 (.makeSlice 1 24 [.nils] (X.s 8) (X.s 8)),
 X.m 3 9]
def C.c1 : LO := C.c1_b
def C.c1_w := pO C.c1.eq_1
def C.bm9 : ICode := .keep [1] (.seq (.region C.c1) C.byj)
def C.bm9_w := pC C.bm9.eq_1
def C.b0_b : LO := [
 X.o 1 (.boxN (X.s 0)),
 X.o 2 (.move (.cst (.nils)))]
def C.b0 : LO := C.b0_b
def C.b0_w := pO C.b0.eq_1
def C.q37 : IFunc := ⟨1, [.slot 2], .seq (.region C.b0) C.bm9⟩
def C.q37_W := aI (aI (aI (aI @C.lp_w @C.byh_w) (aI @C.ln_w @C.byk_w)) (aI (aI @C.bbj_w @C.b95_w) (aI @C.lm_w (aI @C.byf_w @C.byl_w)))) (aI (aI (aI @C.bym_w @C.ll_w) (aI @C.byg_w @C.byn_w)) (aI (aI @C.lk_w @C.byj_w) (aI @C.c1_w (aI @C.bm9_w @C.b0_w))))
def C.q37_B := aI (aI (aI @C.lp_b.eq_1 @C.ln_b.eq_1) (aI @C.bbj_b.eq_1 @C.lm_b.eq_1)) (aI (aI @C.ll_b.eq_1 @C.lk_b.eq_1) (aI @C.c1_b.eq_1 @C.b0_b.eq_1))

def C.y5_b : LO := [
 X.o 2 (.fldAddr 1 (X.s 0)),
 X.o 3 (.load1 (X.s 2)),
 X.o 4 (.makeFunc F.q31 [X.s 0]),
 X.o 5 (.call F.q58 [X.s 3, X.s 4]),
 X.m 1 5]
def C.y5 : LO := C.y5_b
def C.y5_w := pO C.y5.eq_1
def C.b9q : ICode := .keep [0] (.seq (.region C.y5) .ret)
def C.b9q_w := pC C.b9q.eq_1
def C.y4_b : LO := [
 X.o 1 (.move (X.i 0))]
def C.y4 : LO := C.y4_b
def C.y4_w := pO C.y4.eq_1
def C.q30 : IFunc := ⟨1, [.slot 1], .seq (.region C.y4) C.b9q⟩
def C.q30_W := aI @C.y5_w (aI @C.b9q_w @C.y4_w)
def C.q30_B := aI @C.y5_b.eq_1 @C.y4_b.eq_1

def C.ml_b : LO := [
 X.o 4 (.move (X.i 0))]
def C.ml : LO := C.ml_b
def C.ml_w := pO C.ml.eq_1
def C.bqt : ICode := .keep [] (.seq (.region C.ml) .ret)
def C.bqt_w := pC C.bqt.eq_1
def C.mk_b : LO := [
 X.o 20 (.bin .add (X.s 10) (X.i 1)),
 X.m 10 20]
def C.mk : LO := C.mk_b
def C.mk_w := pO C.mk.eq_1
def C.bqx : ICode := .keep [1, 8, 9, 10] (.region C.mk)
def C.bqx_w := pC C.bqx.eq_1
def C.bdn_b : LO := [
 X.m 19 7,
 X.m 4 19]
def C.bdn : LO := C.bdn_b
def C.bdn_w := pO C.bdn.eq_1
def C.cc1 : ICode := .seq (.region C.bdn) .ret
def C.cc1_w := pC C.cc1.eq_1
def C.cc2 : ICode := .keep [1, 7, 8, 9, 10, 18] (.cond (X.s 18) C.cc1 .skip)
def C.cc2_w := pC C.cc2.eq_1
def C.bdm_b : LO := [
 X.m 17 7,
 X.o 18 (.bin .neq (X.s 17) (X.i 0))]
def C.bdm : LO := C.bdm_b
def C.bdm_w := pO C.bdm.eq_1
def C.cc3 : ICode := .keep [1, 7, 8, 9, 10] (.seq (.region C.bdm) C.cc2)
def C.cc3_w := pC C.cc3.eq_1
def C.bdl_b : LO := [
 X.m 14 1,
 X.o 15 (.loadN 3 (X.s 6)),
 X.o 16 (.callv (X.s 14) [X.s 15]),
 X.m 7 16]
def C.bdl : LO := C.bdl_b
def C.bdl_w := pO C.bdl.eq_1
def C.cc4 : ICode := .keep [1, 6, 8, 9, 10] (.seq (.region C.bdl) C.cc3)
def C.cc4_w := pC C.cc4.eq_1
def C.mj_b : LO := [
 X.o 12 (.idxAddr 3 (X.s 8) (X.s 10)),
 X.o 13 (.loadN 3 (X.s 12)),
 X.o 6 (.alloc [.int .i64 0, .int .i64 0, .bool false]),
 X.n (.storeN 3 (X.s 6) (X.s 13))]
def C.mj : LO := C.mj_b
def C.mj_w := pO C.mj.eq_1
def C.bqs : ICode := .seq (.region C.mj) C.cc4
def C.bqs_w := pC C.bqs.eq_1
def C.bqy : ICode := .keep [1, 8, 9, 10] (.seq (.block 1 C.bqs) C.bqx)
def C.bqy_w := pC C.bqy.eq_1
def C.bqq : ICode := .keep [1, 8, 9, 10, 11] (.seq (.cond (X.s 11) .skip (.exit 0)) C.bqy)
def C.bqq_w := pC C.bqq.eq_1
def C.mh_b : LO := [
 X.o 11 (.bin .lss (X.s 10) (X.s 9))]
def C.mh : LO := C.mh_b
def C.mh_w := pO C.mh.eq_1
def C.cn3 : ICode := .keep [1, 8, 9, 10] (.seq (.region C.mh) C.bqq)
def C.cn3_w := pC C.cn3.eq_1
def C.bqr : ICode := .loop C.cn3
def C.bqr_w := pC C.bqr.eq_1
def C.bqv : ICode := .keep [1, 8, 9, 10] (.block 0 C.bqr)
def C.bqv_w := pC C.bqv.eq_1
def C.mg_b : LO := [
 X.m 8 0,
 X.o 9 (.len (X.s 8)),
 X.o 10 (.move (X.i 0))]
def C.mg : LO := C.mg_b
def C.mg_w := pO C.mg.eq_1
def C.bqw : ICode := .keep [0, 1] (.seq (.seq (.region C.mg) C.bqv) C.bqt)
def C.bqw_w := pC C.bqw.eq_1
def C.mf_b : LO := [
 X.o 4 (.move (X.i 0))]
def C.mf : LO := C.mf_b
def C.mf_w := pO C.mf.eq_1
def C.q58 : IFunc := ⟨2, [.slot 4], .seq (.region C.mf) C.bqw⟩
def C.q58_W := aI (aI (aI (aI @C.ml_w @C.bqt_w) (aI @C.mk_w (aI @C.bqx_w @C.bdn_w))) (aI (aI @C.cc1_w @C.cc2_w) (aI @C.bdm_w (aI @C.cc3_w @C.bdl_w)))) (aI (aI (aI @C.cc4_w @C.mj_w) (aI @C.bqs_w (aI @C.bqy_w @C.bqq_w))) (aI (aI @C.mh_w (aI @C.bqr_w @C.bqv_w)) (aI @C.mg_w (aI @C.bqw_w @C.mf_w))))
def C.q58_B := aI (aI (aI @C.ml_b.eq_1 @C.mk_b.eq_1) (aI @C.bdn_b.eq_1 @C.bdm_b.eq_1)) (aI (aI @C.bdl_b.eq_1 @C.mj_b.eq_1) (aI @C.mh_b.eq_1 (aI @C.mg_b.eq_1 @C.mf_b.eq_1)))

end Go.Proofs.YtdmfgodajoojpaaGreatDoor.Cn
