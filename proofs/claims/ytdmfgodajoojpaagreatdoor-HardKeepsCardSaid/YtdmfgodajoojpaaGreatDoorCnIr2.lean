/- The intermediate code of the functions, printed by a program out of the loaded program; that it is theirs is checked in the text of links. -/
import Derived.Test.YtdmfgodajoojpaaGreatDoorCnIr1
set_option linter.defProp false
namespace Go.Proofs.YtdmfgodajoojpaaGreatDoor.Cn
open Go
variable {P : Program} {Q : IExit → AFr → ASt → Prop} {fr : AFr} {st : ASt}


def C.fc_b : LO := [
 X.m 110 5,
 X.m 4 110]
def C.fc : LO := C.fc_b
def C.fc_w := pO C.fc.eq_1
def C.b0n : ICode := .keep [5] (.seq (.region C.fc) .ret)
def C.b0n_w := pC C.b0n.eq_1
def C.fb_b : LO := [
 X.m 105 0,
 X.o 106 (.nilchk (X.s 105)),
 X.o 107 (.fldAddr 2 (X.s 106)),
 X.o 108 (.load1 (X.s 107)),
 X.o 109 (.call F.q125 [X.s 108])]
def C.fb : LO := C.fb_b
def C.fb_w := pO C.fb.eq_1
def C.b0x : ICode := .keep [0, 5] (.seq (.region C.fb) C.b0n)
def C.b0x_w := pC C.b0x.eq_1
def C.cc_b : LO := [
 X.o 104 (.bin .add (X.s 76) (X.i 1)),
 X.m 76 104]
def C.cc : LO := C.cc_b
def C.cc_w := pO C.cc.eq_1
def C.bmc : ICode := .keep [0, 5, 74, 75, 76] (.region C.cc)
def C.bmc_w := pC C.bmc.eq_1
def C.nx_b : LO := [
 X.o 103 (.bin .add (X.s 90) (X.i 1)),
 X.m 90 103]
def C.nx : LO := C.nx_b
def C.nx_w := pO C.nx.eq_1
def C.b08 : ICode := .keep [0, 5, 12, 13, 74, 75, 76, 88, 89, 90] (.region C.nx)
def C.b08_w := pC C.b08.eq_1
def C.nw_b : LO := [
 X.m 99 13,
 X.o 100 (.fldAddr 4 (X.s 15)),
 X.o 101 (.load1 (X.s 100)),
 X.o 102 (.callv (X.s 99) [X.s 101])]
def C.nw : LO := C.nw_b
def C.nw_w := pO C.nw.eq_1
def C.b1j : ICode := .keep [0, 5, 12, 13, 15, 74, 75, 76, 88, 89, 90, 98] (.cond (X.s 98) (.region C.nw) .skip)
def C.b1j_w := pC C.b1j.eq_1
def C.nv_b : LO := [
 X.o 94 (.fldAddr 1 (X.s 15)),
 X.o 95 (.load1 (X.s 94)),
 X.o 96 (.fldAddr 1 (X.s 12)),
 X.o 97 (.load1 (X.s 96)),
 X.o 98 (.bin .eql (X.s 95) (X.s 97))]
def C.nv : LO := C.nv_b
def C.nv_w := pO C.nv.eq_1
def C.b1k : ICode := .keep [0, 5, 12, 13, 15, 74, 75, 76, 88, 89, 90] (.seq (.region C.nv) C.b1j)
def C.b1k_w := pC C.b1k.eq_1
def C.nt_b : LO := [
 X.o 92 (.idxAddr 6 (X.s 88) (X.s 90)),
 X.o 93 (.loadN 6 (X.s 92)),
 X.o 15 (.alloc [.int .i64 0, .int .i64 0, .int .i64 0, .int .u32 0, .nilp, .nilp]),
 X.n (.storeN 6 (X.s 15) (X.s 93))]
def C.nt : LO := C.nt_b
def C.nt_w := pO C.nt.eq_1
def C.b0m : ICode := .seq (.region C.nt) C.b1k
def C.b0m_w := pC C.b0m.eq_1
def C.b1l : ICode := .keep [0, 5, 12, 13, 74, 75, 76, 88, 89, 90] (.seq (.block 7 C.b0m) C.b08)
def C.b1l_w := pC C.b1l.eq_1
def C.b1m : ICode := .keep [0, 5, 12, 13, 74, 75, 76, 88, 89, 90, 91] (.seq (.cond (X.s 91) .skip (.exit 6)) C.b1l)
def C.b1m_w := pC C.b1m.eq_1
def C.ns_b : LO := [
 X.o 91 (.bin .lss (X.s 90) (X.s 89))]
def C.ns : LO := C.ns_b
def C.ns_w := pO C.ns.eq_1
def C.crj : ICode := .keep [0, 5, 12, 13, 74, 75, 76, 88, 89, 90] (.seq (.region C.ns) C.b1m)
def C.crj_w := pC C.crj.eq_1
def C.b0d : ICode := .loop C.crj
def C.b0d_w := pC C.b0d.eq_1
def C.b0p : ICode := .keep [0, 5, 12, 13, 74, 75, 76, 88, 89, 90] (.block 6 C.b0d)
def C.b0p_w := pC C.b0p.eq_1
def C.nr_b : LO := [
 X.m 85 0,
 X.o 86 (.nilchk (X.s 85)),
 X.o 87 (.fldAddr 4 (X.s 86)),
 X.o 88 (.load1 (X.s 87)),
 X.o 89 (.len (X.s 88)),
 X.o 90 (.move (X.i 0))]
def C.nr : LO := C.nr_b
def C.nr_w := pO C.nr.eq_1
def C.bn3 : ICode := .keep [0, 5, 12, 13, 74, 75, 76] (.seq (.region C.nr) C.b0p)
def C.bn3_w := pC C.bn3.eq_1
def C.b0r : ICode := .keep [0, 5, 12, 13, 74, 75, 76, 84] (.cond (X.s 84) (.exit 5) .skip)
def C.b0r_w := pC C.b0r.eq_1
def C.dg_b : LO := [
 X.m 83 13,
 X.o 84 (.eqP 3 false (X.s 83) (.cst (.nilf)))]
def C.dg : LO := C.dg_b
def C.dg_w := pO C.dg.eq_1
def C.b0s : ICode := .keep [0, 5, 12, 13, 74, 75, 76] (.seq (.seq (.region C.dg) C.b0r) C.bn3)
def C.b0s_w := pC C.b0s.eq_1
def C.df_b : LO := [
 X.o 80 (.fldAddr 0 (X.s 12)),
 X.o 81 (.load1 (X.s 80)),
 X.o 82 (.call F.q97 [X.s 81]),
 X.m 13 82]
def C.df : LO := C.df_b
def C.df_w := pO C.df.eq_1
def C.b0t : ICode := .keep [0, 5, 12, 74, 75, 76] (.seq (.region C.df) C.b0s)
def C.b0t_w := pC C.b0t.eq_1
def C.d9_b : LO := [
 X.o 78 (.idxAddr 2 (X.s 74) (X.s 76)),
 X.o 79 (.loadN 2 (X.s 78)),
 X.o 12 (.alloc [.int .u8 0, .int .i64 0]),
 X.n (.storeN 2 (X.s 12) (X.s 79))]
def C.d9 : LO := C.d9_b
def C.d9_w := pO C.d9.eq_1
def C.b0f : ICode := .seq (.region C.d9) C.b0t
def C.b0f_w := pC C.b0f.eq_1
def C.b0v : ICode := .keep [0, 5, 74, 75, 76] (.seq (.block 5 C.b0f) C.bmc)
def C.b0v_w := pC C.b0v.eq_1
def C.b0w : ICode := .keep [0, 5, 74, 75, 76, 77] (.seq (.cond (X.s 77) .skip (.exit 4)) C.b0v)
def C.b0w_w := pC C.b0w.eq_1
def C.d8_b : LO := [
 X.o 77 (.bin .lss (X.s 76) (X.s 75))]
def C.d8 : LO := C.d8_b
def C.d8_w := pO C.d8.eq_1
def C.crk : ICode := .keep [0, 5, 74, 75, 76] (.seq (.region C.d8) C.b0w)
def C.crk_w := pC C.crk.eq_1
def C.b0g : ICode := .loop C.crk
def C.b0g_w := pC C.b0g.eq_1
def C.b0y : ICode := .keep [0, 5, 74, 75, 76] (.block 4 C.b0g)
def C.b0y_w := pC C.b0y.eq_1
def C.d7_b : LO := [
 X.m 70 0,
 X.o 71 (.nilchk (X.s 70)),
 X.o 72 (.fldAddr 1 (X.s 71)),
 X.o 73 (.load1 (X.s 72)),
 X.o 74 (.call F.q100 [X.s 73]),
 X.o 75 (.len (X.s 74)),
 X.o 76 (.move (X.i 0))]
def C.d7 : LO := C.d7_b
def C.d7_w := pO C.d7.eq_1
def C.b0q : ICode := .keep [0, 5] (.seq (.seq (.region C.d7) C.b0y) C.b0x)
def C.b0q_w := pC C.b0q.eq_1
def C.dd_b : LO := [
 X.m 65 0,
 X.o 66 (.nilchk (X.s 65)),
 X.o 67 (.fldAddr 0 (X.s 66)),
 X.o 68 (.load1 (X.s 67)),
 X.o 69 (.call F.q22 [X.s 68])]
def C.dd : LO := C.dd_b
def C.dd_w := pO C.dd.eq_1
def C.nf : ICode := .keep [0, 5] (.seq (.region C.dd) C.b0q)
def C.nf_w := pC C.nf.eq_1
def C.nn_b : LO := [
 X.o 64 (.bin .add (X.s 44) (X.i 1)),
 X.m 44 64]
def C.nn : LO := C.nn_b
def C.nn_w := pO C.nn.eq_1
def C.b0z : ICode := .keep [0, 1, 5, 42, 43, 44] (.region C.nn)
def C.b0z_w := pC C.b0z.eq_1
def C.nm_b : LO := [
 X.o 49 (.fldAddr 5 (X.s 10)),
 X.o 50 (.load1 (X.s 49)),
 X.m 51 0,
 X.o 52 (.nilchk (X.s 51)),
 X.o 53 (.fldAddr 3 (X.s 52)),
 X.o 54 (.load1 (X.s 53)),
 X.m 55 9,
 X.m 58 1,
 X.m 59 9,
 X.o 60 (.bin .shr (X.s 58) (X.s 59)),
 X.o 61 (.bin .and (X.s 60) (.cst (.int .u32 1))),
 X.o 62 (.bin .eql (X.s 61) (.cst (.int .u32 1))),
 ⟨some 56, .call F.q7 [X.s 54, X.s 55], none, [⟨.load1 (X.s 49), 50, none⟩], []⟩,
 X.o 57 (.bin .gtr (X.s 56) (X.i 0)),
 X.o 63 (.call F.q107 [X.s 50, X.s 57, X.s 62])]
def C.nm : LO := C.nm_b
def C.nm_w := pO C.nm.eq_1
def C.b00 : ICode := .keep [0, 1, 5, 9, 10, 42, 43, 44] (.region C.nm)
def C.b00_w := pC C.b00.eq_1
def C.nl_b : LO := [
 X.m 46 44,
 X.o 47 (.idxAddr 6 (X.s 42) (X.s 44)),
 X.o 48 (.loadN 6 (X.s 47)),
 X.o 10 (.alloc [.int .i64 0, .int .i64 0, .int .i64 0, .int .u32 0, .nilp, .nilp]),
 X.m 9 46,
 X.n (.storeN 6 (X.s 10) (X.s 48))]
def C.nl : LO := C.nl_b
def C.nl_w := pO C.nl.eq_1
def C.b0h : ICode := .seq (.region C.nl) C.b00
def C.b0h_w := pC C.b0h.eq_1
def C.b01 : ICode := .keep [0, 1, 5, 42, 43, 44] (.seq (.block 3 C.b0h) C.b0z)
def C.b01_w := pC C.b01.eq_1
def C.b02 : ICode := .keep [0, 1, 5, 42, 43, 44, 45] (.seq (.cond (X.s 45) .skip (.exit 2)) C.b01)
def C.b02_w := pC C.b02.eq_1
def C.nk_b : LO := [
 X.o 45 (.bin .lss (X.s 44) (X.s 43))]
def C.nk : LO := C.nk_b
def C.nk_w := pO C.nk.eq_1
def C.crl : ICode := .keep [0, 1, 5, 42, 43, 44] (.seq (.region C.nk) C.b02)
def C.crl_w := pC C.crl.eq_1
def C.b0j : ICode := .loop C.crl
def C.b0j_w := pC C.b0j.eq_1
def C.b03 : ICode := .keep [0, 1, 5, 42, 43, 44] (.block 2 C.b0j)
def C.b03_w := pC C.b03.eq_1
def C.nj_b : LO := [
 X.m 39 0,
 X.o 40 (.nilchk (X.s 39)),
 X.o 41 (.fldAddr 4 (X.s 40)),
 X.o 42 (.load1 (X.s 41)),
 X.o 43 (.len (X.s 42)),
 X.o 44 (.move (X.i 0))]
def C.nj : LO := C.nj_b
def C.nj_w := pO C.nj.eq_1
def C.bmd : ICode := .keep [0, 1, 5] (.seq (.seq (.region C.nj) C.b03) C.nf)
def C.bmd_w := pC C.bmd.eq_1
def C.d6_b : LO := [
 X.o 38 (.bin .add (X.s 24) (X.i 1)),
 X.m 24 38]
def C.d6 : LO := C.d6_b
def C.d6_w := pO C.d6.eq_1
def C.b04 : ICode := .keep [0, 1, 5, 23, 24] (.region C.d6)
def C.b04_w := pC C.b04.eq_1
def C.n0_b : LO := [
 X.m 34 5,
 X.o 35 (.loadN 4 (X.s 7)),
 X.o 36 (.buildSlice 4 1 [.int .i64 0, .int .i64 0, .bool false, .int .u32 0] [(0, 4, X.s 35)]),
 X.o 37 (.append 4 24 (X.s 34) (X.s 36)),
 X.m 5 37]
def C.n0 : LO := C.n0_b
def C.n0_w := pO C.n0.eq_1
def C.b05 : ICode := .keep [0, 1, 5, 7, 23, 24, 33] (.cond (X.s 33) (.region C.n0) .skip)
def C.b05_w := pC C.b05.eq_1
def C.nz_b : LO := [
 X.m 33 8]
def C.nz : LO := C.nz_b
def C.nz_w := pO C.nz.eq_1
def C.b06 : ICode := .keep [0, 1, 5, 7, 8, 23, 24] (.seq (.region C.nz) C.b05)
def C.b06_w := pC C.b06.eq_1
def C.b5_b : LO := [
 X.m 28 0,
 X.m 29 6,
 X.o 30 (.call F.q93 [X.s 28, X.s 29]),
 X.m 27 30,
 X.o 31 (.extract (X.s 27) 0),
 X.o 32 (.extract (X.s 27) 1),
 X.o 7 (.alloc [.int .i64 0, .int .i64 0, .bool false, .int .u32 0]),
 X.n (.storeN 4 (X.s 7) (X.s 31)),
 X.m 8 32]
def C.b5 : LO := C.b5_b
def C.b5_w := pO C.b5.eq_1
def C.bn4 : ICode := .keep [0, 1, 5, 6, 23, 24] (.seq (.region C.b5) C.b06)
def C.bn4_w := pC C.bn4.eq_1
def C.ff_b : LO := [
 X.m 26 24,
 X.m 6 26]
def C.ff : LO := C.ff_b
def C.ff_w := pO C.ff.eq_1
def C.b0k : ICode := .seq (.region C.ff) C.bn4
def C.b0k_w := pC C.b0k.eq_1
def C.b07 : ICode := .keep [0, 1, 5, 23, 24] (.seq (.block 1 C.b0k) C.b04)
def C.b07_w := pC C.b07.eq_1
def C.b09 : ICode := .keep [0, 1, 5, 23, 24, 25] (.seq (.cond (X.s 25) .skip (.exit 0)) C.b07)
def C.b09_w := pC C.b09.eq_1
def C.fd_b : LO := [
 X.o 25 (.bin .lss (X.s 24) (X.s 23))]
def C.fd : LO := C.fd_b
def C.fd_w := pO C.fd.eq_1
def C.crm : ICode := .keep [0, 1, 5, 23, 24] (.seq (.region C.fd) C.b09)
def C.crm_w := pC C.crm.eq_1
def C.b0l : ICode := .loop C.crm
def C.b0l_w := pC C.b0l.eq_1
def C.b1b : ICode := .keep [0, 1, 5, 23, 24] (.block 0 C.b0l)
def C.b1b_w := pC C.b1b.eq_1
def C.nq_b : LO := [
 X.m 19 0,
 X.o 20 (.nilchk (X.s 19)),
 X.o 21 (.fldAddr 4 (X.s 20)),
 X.o 22 (.load1 (X.s 21)),
 X.o 23 (.len (X.s 22)),
 X.o 24 (.move (X.i 0))]
def C.nq : LO := C.nq_b
def C.nq_w := pO C.nq.eq_1
def C.b1c : ICode := .keep [0, 1, 5] (.seq (.seq (.region C.nq) C.b1b) C.bmd)
def C.b1c_w := pC C.b1c.eq_1
def C.ny_b : LO := [
 X.o 5 (.move (.cst (.nils)))]
def C.ny : LO := C.ny_b
def C.ny_w := pO C.ny.eq_1
def C.b1d : ICode := .keep [0, 1] (.seq (.region C.ny) C.b1c)
def C.b1d_w := pC C.b1d.eq_1
def C.np_b : LO := [
 X.o 4 (.move (.cst (.nils)))]
def C.np : LO := C.np_b
def C.np_w := pO C.np.eq_1
def C.b1f : ICode := .seq (.region C.np) .ret
def C.b1f_w := pC C.b1f.eq_1
def C.b1g : ICode := .keep [0, 1, 18] (.cond (X.s 18) C.b1f .skip)
def C.b1g_w := pC C.b1g.eq_1
def C.nh_b : LO := [
 X.m 16 0,
 X.o 17 (.call F.q95 [X.s 16]),
 X.o 18 (.un .not (X.s 17))]
def C.nh : LO := C.nh_b
def C.nh_w := pO C.nh.eq_1
def C.b1h : ICode := .keep [0, 1] (.seq (.seq (.region C.nh) C.b1g) C.b1d)
def C.b1h_w := pC C.b1h.eq_1
def C.ng_b : LO := [
 X.o 4 (.move (.cst (.nils)))]
def C.ng : LO := C.ng_b
def C.ng_w := pO C.ng.eq_1
def C.q91 : IFunc := ⟨2, [.slot 4], .seq (.region C.ng) C.b1h⟩
def C.q91_W := aI (aI (aI (aI (aI (aI @C.fc_w @C.b0n_w) (aI @C.fb_w @C.b0x_w)) (aI (aI @C.cc_w @C.bmc_w) (aI @C.nx_w (aI @C.b08_w @C.nw_w)))) (aI (aI (aI @C.b1j_w @C.nv_w) (aI @C.b1k_w @C.nt_w)) (aI (aI @C.b0m_w @C.b1l_w) (aI @C.b1m_w (aI @C.ns_w @C.b0d_w))))) (aI (aI (aI (aI @C.b0p_w @C.nr_w) (aI @C.bn3_w @C.b0r_w)) (aI (aI @C.dg_w @C.b0s_w) (aI @C.df_w (aI @C.b0t_w @C.d9_w)))) (aI (aI (aI @C.b0f_w @C.b0v_w) (aI @C.b0w_w (aI @C.d8_w @C.b0g_w))) (aI (aI @C.b0y_w @C.d7_w) (aI @C.b0q_w (aI @C.dd_w @C.nf_w)))))) (aI (aI (aI (aI (aI @C.nn_w @C.b0z_w) (aI @C.nm_w @C.b00_w)) (aI (aI @C.nl_w @C.b0h_w) (aI @C.b01_w (aI @C.b02_w @C.nk_w)))) (aI (aI (aI @C.b0j_w @C.b03_w) (aI @C.nj_w (aI @C.bmd_w @C.d6_w))) (aI (aI @C.b04_w @C.n0_w) (aI @C.b05_w (aI @C.nz_w @C.b06_w))))) (aI (aI (aI (aI @C.b5_w @C.bn4_w) (aI @C.ff_w @C.b0k_w)) (aI (aI @C.b07_w @C.b09_w) (aI @C.fd_w (aI @C.b0l_w @C.b1b_w)))) (aI (aI (aI @C.nq_w @C.b1c_w) (aI @C.ny_w (aI @C.b1d_w @C.np_w))) (aI (aI @C.b1f_w @C.b1g_w) (aI @C.nh_w (aI @C.b1h_w @C.ng_w))))))
def C.q91_B := aI (aI (aI (aI @C.fc_b.eq_1 (aI @C.fb_b.eq_1 @C.cc_b.eq_1)) (aI (aI @C.nx_b.eq_1 @C.nw_b.eq_1) (aI @C.nv_b.eq_1 @C.nt_b.eq_1))) (aI (aI (aI @C.ns_b.eq_1 @C.nr_b.eq_1) (aI @C.dg_b.eq_1 @C.df_b.eq_1)) (aI (aI @C.d9_b.eq_1 @C.d8_b.eq_1) (aI @C.d7_b.eq_1 @C.dd_b.eq_1)))) (aI (aI (aI (aI @C.nn_b.eq_1 @C.nm_b.eq_1) (aI @C.nl_b.eq_1 @C.nk_b.eq_1)) (aI (aI @C.nj_b.eq_1 @C.d6_b.eq_1) (aI @C.n0_b.eq_1 @C.nz_b.eq_1))) (aI (aI (aI @C.b5_b.eq_1 @C.ff_b.eq_1) (aI @C.fd_b.eq_1 @C.nq_b.eq_1)) (aI (aI @C.ny_b.eq_1 @C.np_b.eq_1) (aI @C.nh_b.eq_1 @C.ng_b.eq_1))))

def C.c3_b : LO := [
 X.m 135 0,
 X.m 136 2,
 X.o 137 (.call F.q81 [X.s 135, X.s 136]),
 X.m 6 137]
def C.c3 : LO := C.c3_b
def C.c3_w := pO C.c3.eq_1
def C.bnv : ICode := .keep [0, 2] (.seq (.region C.c3) .ret)
def C.bnv_w := pC C.bnv.eq_1
def C.kd_b : LO := [
 X.m 131 16,
 X.o 132 (.bin .add (X.s 131) (X.i 1)),
 X.m 16 132]
def C.kd : LO := C.kd_b
def C.kd_w := pO C.kd.eq_1
def C.bwq : ICode := .keep [0, 2, 16] (.region C.kd)
def C.bwq_w := pC C.bwq.eq_1
def C.kf_b : LO := [
 X.m 133 0,
 X.o 134 (.call F.q91 [X.s 133, .cst (.int .u32 0)])]
def C.kf : LO := C.kf_b
def C.kf_w := pO C.kf.eq_1
def C.bwl : ICode := .region C.kf
def C.bwl_w := pC C.bwl.eq_1
def C.bxc : ICode := .keep [0, 2, 16] (.seq (.block 9 C.bwl) C.bwq)
def C.bxc_w := pC C.bxc.eq_1
def C.bxl : ICode := .keep [0, 2, 16, 130] (.cond (X.s 130) .skip (.exit 8))
def C.bxl_w := pC C.bxl.eq_1
def C.bn_b : LO := [
 X.m 123 16,
 X.o 124 (.bin .lss (X.s 123) (X.i 300)),
 X.m 125 124,
 X.t 125 126 (.move (X.s 0)),
 X.t 125 127 (.move (X.s 2)),
 X.t 125 128 (.call F.q81 [X.s 126, X.s 127]),
 X.t 125 129 (.un .not (X.s 128)),
 X.o 130 (.pick (X.s 125) (X.s 129) (.cst (.bool false)))]
def C.bn : LO := C.bn_b
def C.bn_w := pO C.bn.eq_1
def C.cps : ICode := .keep [0, 2, 16] (.seq (.seq (.region C.bn) C.bxl) C.bxc)
def C.cps_w := pC C.cps.eq_1
def C.bws : ICode := .loop C.cps
def C.bws_w := pC C.bws.eq_1
def C.bxp : ICode := .keep [0, 2, 16] (.block 8 C.bws)
def C.bxp_w := pC C.bxp.eq_1
def C.kc_b : LO := [
 X.o 16 (.move (X.i 0))]
def C.kc : LO := C.kc_b
def C.kc_w := pO C.kc.eq_1
def C.rp : ICode := .keep [0, 2] (.seq (.seq (.region C.kc) C.bxp) C.bnv)
def C.rp_w := pC C.rp.eq_1
def C.kb_b : LO := [
 X.o 6 (.move (.cst (.bool false)))]
def C.kb : LO := C.kb_b
def C.kb_w := pO C.kb.eq_1
def C.bwt : ICode := .seq (.region C.kb) .ret
def C.bwt_w := pC C.bwt.eq_1
def C.bwv : ICode := .keep [0, 2, 122] (.cond (X.s 122) C.bwt .skip)
def C.bwv_w := pC C.bwv.eq_1
def C.j9_b : LO := [
 X.m 112 0,
 X.o 113 (.fldAddr 2 (X.s 7)),
 X.o 114 (.load1 (X.s 113)),
 X.o 115 (.call F.q86 [X.s 112, X.s 114]),
 X.m 116 115,
 X.t 116 117 (.move (X.s 0)),
 X.t 116 118 (.fldAddr 2 (X.s 7)),
 X.t 116 119 (.load1 (X.s 118)),
 X.t 116 120 (.call F.q89 [X.s 117, X.s 119]),
 X.t 116 121 (.bin .neq (X.s 120) (X.i 0)),
 X.o 122 (.pick (X.s 116) (X.s 121) (.cst (.bool false)))]
def C.j9 : LO := C.j9_b
def C.j9_w := pO C.j9.eq_1
def C.xs : ICode := .keep [0, 2, 7] (.seq (.seq (.region C.j9) C.bwv) C.rp)
def C.xs_w := pC C.xs.eq_1
def C.bq_b : LO := [
 X.m 74 13,
 X.o 75 (.bin .add (X.s 74) (X.i 1)),
 X.m 13 75]
def C.bq : LO := C.bq_b
def C.bq_w := pO C.bq.eq_1
def C.rm : ICode := .keep [0, 2, 7, 11, 13] (.region C.bq)
def C.rm_w := pC C.rm.eq_1
def C.j7_b : LO := [
 X.m 108 15,
 X.o 109 (.bin .add (X.s 108) (X.i 1)),
 X.m 15 109]
def C.j7 : LO := C.j7_b
def C.j7_w := pO C.j7.eq_1
def C.bww : ICode := .keep [0, 2, 7, 11, 13, 15] (.region C.j7)
def C.bww_w := pC C.bww.eq_1
def C.j8_b : LO := [
 X.m 110 0,
 X.o 111 (.call F.q91 [X.s 110, .cst (.int .u32 0)])]
def C.j8 : LO := C.j8_b
def C.j8_w := pO C.j8.eq_1
def C.bwg : ICode := .region C.j8
def C.bwg_w := pC C.bwg.eq_1
def C.bwx : ICode := .keep [0, 2, 7, 11, 13, 15] (.seq (.block 7 C.bwg) C.bww)
def C.bwx_w := pC C.bwx.eq_1
def C.bwy : ICode := .keep [0, 2, 7, 11, 13, 15, 107] (.cond (X.s 107) .skip (.exit 6))
def C.bwy_w := pC C.bwy.eq_1
def C.j6_b : LO := [
 X.m 97 15,
 X.o 98 (.bin .lss (X.s 97) (X.i 40)),
 X.m 99 98,
 X.t 99 100 (.move (X.s 0)),
 X.t 99 101 (.move (X.s 11)),
 X.t 99 102 (.move (X.s 13)),
 X.t 99 103 (.idxAddr 1 (X.s 101) (X.s 102)),
 X.t 99 104 (.load1 (X.s 103)),
 X.t 99 105 (.call F.q87 [X.s 100, X.s 104]),
 X.t 99 106 (.bin .neq (X.s 105) (.cst (.int .u8 49))),
 X.o 107 (.pick (X.s 99) (X.s 106) (.cst (.bool false)))]
def C.j6 : LO := C.j6_b
def C.j6_w := pO C.j6.eq_1
def C.cpm : ICode := .keep [0, 2, 7, 11, 13, 15] (.seq (.seq (.region C.j6) C.bwy) C.bwx)
def C.cpm_w := pC C.cpm.eq_1
def C.bwh : ICode := .loop C.cpm
def C.bwh_w := pC C.bwh.eq_1
def C.bwz : ICode := .keep [0, 2, 7, 11, 13, 15] (.block 6 C.bwh)
def C.bwz_w := pC C.bwz.eq_1
def C.c2_b : LO := [
 X.o 15 (.move (X.i 0))]
def C.c2 : LO := C.c2_b
def C.c2_w := pO C.c2.eq_1
def C.xt : ICode := .keep [0, 2, 7, 11, 13] (.seq (.region C.c2) C.bwz)
def C.xt_w := pC C.xt.eq_1
def C.j5_b : LO := [
 X.o 6 (.move (.cst (.bool false)))]
def C.j5 : LO := C.j5_b
def C.j5_w := pO C.j5.eq_1
def C.bw0 : ICode := .seq (.region C.j5) .ret
def C.bw0_w := pC C.bw0.eq_1
def C.bw1 : ICode := .keep [0, 2, 7, 11, 13, 96] (.cond (X.s 96) C.bw0 .skip)
def C.bw1_w := pC C.bw1.eq_1
def C.j4_b : LO := [
 X.m 82 14,
 X.o 83 (.bin .eql (X.s 82) (.cst (.int .u8 48))),
 X.m 84 83,
 X.f 84 85 (.move (X.s 14)),
 X.f 84 86 (.bin .eql (X.s 85) (.cst (.int .u8 116))),
 X.o 87 (.pick (X.s 84) (.cst (.bool true)) (X.s 86)),
 X.m 88 87,
 X.t 88 89 (.move (X.s 0)),
 X.t 88 90 (.move (X.s 11)),
 X.t 88 91 (.move (X.s 13)),
 X.t 88 92 (.idxAddr 1 (X.s 90) (X.s 91)),
 X.t 88 93 (.load1 (X.s 92)),
 X.t 88 94 (.call F.q92 [X.s 89, X.s 93]),
 X.t 88 95 (.bin .neq (X.s 94) (X.i 0)),
 X.o 96 (.pick (X.s 88) (X.s 95) (.cst (.bool false)))]
def C.j4 : LO := C.j4_b
def C.j4_w := pO C.j4.eq_1
def C.bw2 : ICode := .keep [0, 2, 7, 11, 13, 14] (.seq (.seq (.region C.j4) C.bw1) C.xt)
def C.bw2_w := pC C.bw2.eq_1
def C.j3_b : LO := [
 X.m 76 0,
 X.m 77 11,
 X.m 78 13,
 X.o 79 (.idxAddr 1 (X.s 77) (X.s 78)),
 X.o 80 (.load1 (X.s 79)),
 X.o 81 (.call F.q87 [X.s 76, X.s 80]),
 X.m 14 81]
def C.j3 : LO := C.j3_b
def C.j3_w := pO C.j3.eq_1
def C.bwj : ICode := .seq (.region C.j3) C.bw2
def C.bwj_w := pC C.bwj.eq_1
def C.bw3 : ICode := .keep [0, 2, 7, 11, 13] (.seq (.block 5 C.bwj) C.rm)
def C.bw3_w := pC C.bw3.eq_1
def C.bw4 : ICode := .keep [0, 2, 7, 11, 13, 73] (.cond (X.s 73) .skip (.exit 4))
def C.bw4_w := pC C.bw4.eq_1
def C.j2_b : LO := [
 X.m 70 13,
 X.m 71 11,
 X.o 72 (.len (X.s 71)),
 X.o 73 (.bin .lss (X.s 70) (X.s 72))]
def C.j2 : LO := C.j2_b
def C.j2_w := pO C.j2.eq_1
def C.cpn : ICode := .keep [0, 2, 7, 11, 13] (.seq (.seq (.region C.j2) C.bw4) C.bw3)
def C.cpn_w := pC C.cpn.eq_1
def C.bwk : ICode := .loop C.cpn
def C.bwk_w := pC C.bwk.eq_1
def C.bw5 : ICode := .keep [0, 2, 7, 11, 13] (.block 4 C.bwk)
def C.bw5_w := pC C.bw5.eq_1
def C.j1_b : LO := [
 X.o 13 (.move (X.i 0))]
def C.j1 : LO := C.j1_b
def C.j1_w := pO C.j1.eq_1
def C.xv : ICode := .keep [0, 2, 7, 11] (.seq (.seq (.region C.j1) C.bw5) C.xs)
def C.xv_w := pC C.xv.eq_1
def C.c0_b : LO := [
 X.o 60 (.fldAddr 1 (X.s 4)),
 X.o 61 (.load1 (X.s 60)),
 X.m 62 12,
 X.o 63 (.idxAddr 3 (X.s 61) (X.s 62)),
 X.o 64 (.fldAddr 0 (X.s 63)),
 X.o 65 (.load1 (X.s 64)),
 X.m 12 65]
def C.c0 : LO := C.c0_b
def C.c0_w := pO C.c0.eq_1
def C.bw6 : ICode := .keep [0, 2, 4, 7, 11, 12] (.region C.c0)
def C.bw6_w := pC C.bw6.eq_1
def C.j0_b : LO := [
 X.m 66 12,
 X.o 67 (.buildSlice 1 1 [.int .i64 0] [(0, 1, X.s 66)]),
 X.m 68 11,
 X.o 69 (.append 1 8 (X.s 67) (X.s 68)),
 X.m 11 69]
def C.j0 : LO := C.j0_b
def C.j0_w := pO C.j0.eq_1
def C.bwm : ICode := .region C.j0
def C.bwm_w := pC C.bwm.eq_1
def C.bw7 : ICode := .keep [0, 2, 4, 7, 11, 12] (.seq (.block 3 C.bwm) C.bw6)
def C.bw7_w := pC C.bw7.eq_1
def C.bw8 : ICode := .keep [0, 2, 4, 7, 11, 12, 59] (.cond (X.s 59) .skip (.exit 2))
def C.bw8_w := pC C.bw8.eq_1
def C.jz_b : LO := [
 X.m 58 12,
 X.o 59 (.bin .geq (X.s 58) (X.i 0))]
def C.jz : LO := C.jz_b
def C.jz_w := pO C.jz.eq_1
def C.cpp : ICode := .keep [0, 2, 4, 7, 11, 12] (.seq (.seq (.region C.jz) C.bw8) C.bw7)
def C.cpp_w := pC C.cpp.eq_1
def C.bwn : ICode := .loop C.cpp
def C.bwn_w := pC C.bwn.eq_1
def C.bw9 : ICode := .keep [0, 2, 4, 7, 11, 12] (.block 2 C.bwn)
def C.bw9_w := pC C.bw9.eq_1
def C.jq_b : LO := [
 X.o 56 (.fldAddr 1 (X.s 7)),
 X.o 57 (.load1 (X.s 56)),
 X.m 12 57]
def C.jq : LO := C.jq_b
def C.jq_w := pO C.jq.eq_1
def C.bxb : ICode := .keep [0, 2, 4, 7, 11] (.seq (.seq (.region C.jq) C.bw9) C.xv)
def C.bxb_w := pC C.bxb.eq_1
def C.kk_b : LO := [
 X.o 11 (.move (.cst (.nils)))]
def C.kk : LO := C.kk_b
def C.kk_w := pO C.kk.eq_1
def C.xw : ICode := .keep [0, 2, 4, 7] (.seq (.region C.kk) C.bxb)
def C.xw_w := pC C.xw.eq_1
def C.bt_b : LO := [
 X.m 30 9,
 X.o 31 (.bin .add (X.s 30) (X.i 1)),
 X.m 9 31]
def C.bt : LO := C.bt_b
def C.bt_w := pO C.bt.eq_1
def C.bxd : ICode := .keep [0, 2, 4, 7, 8, 9] (.region C.bt)
def C.bxd_w := pC C.bxd.eq_1
def C.kj_b : LO := [
 X.o 6 (.move (.cst (.bool false)))]
def C.kj : LO := C.kj_b
def C.kj_w := pO C.kj.eq_1
def C.bxf : ICode := .seq (.region C.kj) .ret
def C.bxf_w := pC C.bxf.eq_1
def C.bxg : ICode := .keep [0, 2, 4, 7, 8, 9, 55] (.cond (X.s 55) C.bxf .skip)
def C.bxg_w := pC C.bxg.eq_1
def C.kh_b : LO := [
 X.m 41 10,
 X.o 42 (.bin .eql (X.s 41) (.cst (.int .u8 112))),
 X.m 43 42,
 X.f 43 44 (.move (X.s 10)),
 X.f 43 45 (.bin .eql (X.s 44) (.cst (.int .u8 103))),
 X.o 46 (.pick (X.s 43) (.cst (.bool true)) (X.s 45)),
 X.m 47 46,
 X.t 47 48 (.move (X.s 0)),
 X.t 47 49 (.move (X.s 8)),
 X.t 47 50 (.move (X.s 9)),
 X.t 47 51 (.idxAddr 1 (X.s 49) (X.s 50)),
 X.t 47 52 (.load1 (X.s 51)),
 X.t 47 53 (.call F.q85 [X.s 48, X.s 52, .cst (.bool true)]),
 X.t 47 54 (.bin .neq (X.s 53) (X.i 0)),
 X.o 55 (.pick (X.s 47) (X.s 54) (.cst (.bool false)))]
def C.kh : LO := C.kh_b
def C.kh_w := pO C.kh.eq_1
def C.bxh : ICode := .keep [0, 2, 4, 7, 8, 9, 10] (.seq (.region C.kh) C.bxg)
def C.bxh_w := pC C.bxh.eq_1
def C.c5_b : LO := [
 X.o 32 (.fldAddr 0 (X.s 4)),
 X.o 33 (.load1 (X.s 32)),
 X.m 34 8,
 X.m 35 9,
 X.o 36 (.idxAddr 1 (X.s 34) (X.s 35)),
 X.o 37 (.load1 (X.s 36)),
 X.o 38 (.idxAddr 6 (X.s 33) (X.s 37)),
 X.o 39 (.fldAddr 0 (X.s 38)),
 X.o 40 (.load1 (X.s 39)),
 X.m 10 40]
def C.c5 : LO := C.c5_b
def C.c5_w := pO C.c5.eq_1
def C.bwp : ICode := .seq (.region C.c5) C.bxh
def C.bwp_w := pC C.bwp.eq_1
def C.bxj : ICode := .keep [0, 2, 4, 7, 8, 9] (.seq (.block 1 C.bwp) C.bxd)
def C.bxj_w := pC C.bxj.eq_1
def C.bxk : ICode := .keep [0, 2, 4, 7, 8, 9, 29] (.cond (X.s 29) .skip (.exit 0))
def C.bxk_w := pC C.bxk.eq_1
def C.c4_b : LO := [
 X.m 26 9,
 X.m 27 8,
 X.o 28 (.len (X.s 27)),
 X.o 29 (.bin .lss (X.s 26) (X.s 28))]
def C.c4 : LO := C.c4_b
def C.c4_w := pO C.c4.eq_1
def C.cpr : ICode := .keep [0, 2, 4, 7, 8, 9] (.seq (.seq (.region C.c4) C.bxk) C.bxj)
def C.cpr_w := pC C.cpr.eq_1
def C.bwr : ICode := .loop C.cpr
def C.bwr_w := pC C.bwr.eq_1
def C.bxm : ICode := .keep [0, 2, 4, 7, 8, 9] (.block 0 C.bwr)
def C.bxm_w := pC C.bxm.eq_1
def C.kg_b : LO := [
 X.o 9 (.move (X.i 0))]
def C.kg : LO := C.kg_b
def C.kg_w := pO C.kg.eq_1
def C.bxn : ICode := .keep [0, 2, 4, 7, 8] (.seq (.seq (.region C.kg) C.bxm) C.xw)
def C.bxn_w := pC C.bxn.eq_1
def C.c1_b : LO := [
 X.m 22 0,
 X.o 23 (.fldAddr 0 (X.s 7)),
 X.o 24 (.load1 (X.s 23)),
 X.o 25 (.call F.q83 [X.s 22, X.s 24]),
 X.m 8 25]
def C.c1 : LO := C.c1_b
def C.c1_w := pO C.c1.eq_1
def C.rn : ICode := .keep [0, 2, 4, 7] (.seq (.region C.c1) C.bxn)
def C.rn_w := pC C.rn.eq_1
def C.cz_b : LO := [
 X.o 17 (.fldAddr 3 (X.s 4)),
 X.o 18 (.load1 (X.s 17)),
 X.m 19 2,
 X.o 20 (.idxAddr 6 (X.s 18) (X.s 19)),
 X.o 21 (.loadN 6 (X.s 20)),
 X.o 7 (.alloc [.int .i64 0, .int .i64 0, .int .i64 0, .int .u32 0, .nils, .nils]),
 X.n (.storeN 6 (X.s 7) (X.s 21))]
def C.cz : LO := C.cz_b
def C.cz_w := pO C.cz.eq_1
def C.bnw : ICode := .keep [0, 2, 4] (.seq (.region C.cz) C.rn)
def C.bnw_w := pC C.bnw.eq_1
def C.jy_b : LO := [
 X.o 4 (.boxN (X.s 1)),
 X.o 6 (.move (.cst (.bool false)))]
def C.jy : LO := C.jy_b
def C.jy_w := pO C.jy.eq_1
def C.q16 : IFunc := ⟨3, [.slot 6], .seq (.region C.jy) C.bnw⟩
def C.q16_W := aI (aI (aI (aI (aI (aI @C.c3_w @C.bnv_w) (aI @C.kd_w @C.bwq_w)) (aI (aI @C.kf_w @C.bwl_w) (aI @C.bxc_w (aI @C.bxl_w @C.bn_w)))) (aI (aI (aI @C.bws_w @C.bxp_w) (aI @C.kc_w (aI @C.rp_w @C.kb_w))) (aI (aI @C.bwt_w @C.bwv_w) (aI @C.j9_w (aI @C.xs_w @C.bq_w))))) (aI (aI (aI (aI @C.rm_w @C.j7_w) (aI @C.bww_w (aI @C.j8_w @C.bwg_w))) (aI (aI @C.bwx_w @C.bwy_w) (aI @C.j6_w (aI @C.bwh_w @C.bwz_w)))) (aI (aI (aI @C.c2_w @C.xt_w) (aI @C.j5_w (aI @C.bw0_w @C.bw1_w))) (aI (aI @C.j4_w @C.bw2_w) (aI @C.j3_w (aI @C.bwj_w @C.bw3_w)))))) (aI (aI (aI (aI (aI @C.bw4_w @C.j2_w) (aI @C.bwk_w (aI @C.bw5_w @C.j1_w))) (aI (aI @C.xv_w @C.c0_w) (aI @C.bw6_w (aI @C.j0_w @C.bwm_w)))) (aI (aI (aI @C.bw7_w @C.bw8_w) (aI @C.jz_w (aI @C.bwn_w @C.bw9_w))) (aI (aI @C.jq_w @C.bxb_w) (aI @C.kk_w (aI @C.xw_w @C.bt_w))))) (aI (aI (aI (aI @C.bxd_w @C.kj_w) (aI @C.bxf_w (aI @C.bxg_w @C.kh_w))) (aI (aI @C.bxh_w @C.c5_w) (aI @C.bwp_w (aI @C.bxj_w @C.bxk_w)))) (aI (aI (aI @C.c4_w @C.bwr_w) (aI @C.bxm_w (aI @C.kg_w @C.bxn_w))) (aI (aI @C.c1_w @C.rn_w) (aI @C.cz_w (aI @C.bnw_w @C.jy_w))))))
def C.q16_B := aI (aI (aI (aI @C.c3_b.eq_1 (aI @C.kd_b.eq_1 @C.kf_b.eq_1)) (aI (aI @C.bn_b.eq_1 @C.kc_b.eq_1) (aI @C.kb_b.eq_1 @C.j9_b.eq_1))) (aI (aI (aI @C.bq_b.eq_1 @C.j7_b.eq_1) (aI @C.j8_b.eq_1 @C.j6_b.eq_1)) (aI (aI @C.c2_b.eq_1 @C.j5_b.eq_1) (aI @C.j4_b.eq_1 @C.j3_b.eq_1)))) (aI (aI (aI (aI @C.j2_b.eq_1 @C.j1_b.eq_1) (aI @C.c0_b.eq_1 @C.j0_b.eq_1)) (aI (aI @C.jz_b.eq_1 @C.jq_b.eq_1) (aI @C.kk_b.eq_1 @C.bt_b.eq_1))) (aI (aI (aI @C.kj_b.eq_1 @C.kh_b.eq_1) (aI @C.c5_b.eq_1 @C.c4_b.eq_1)) (aI (aI @C.kg_b.eq_1 @C.c1_b.eq_1) (aI @C.cz_b.eq_1 @C.jy_b.eq_1))))

def C.bld_b : LO := [
 X.m 8 0,
 X.o 9 (.nilchk (X.s 8)),
 X.o 10 (.fldAddr 0 (X.s 9)),
 X.o 11 (.load1 (X.s 10)),
 X.m 12 1,
 X.o 13 (.call F.q18 [X.s 11, X.s 12]),
 X.m 4 13]
def C.bld : LO := C.bld_b
def C.bld_w := pO C.bld.eq_1
def C.cl5 : ICode := .keep [0, 1] (.seq (.region C.bld) .ret)
def C.cl5_w := pC C.cl5.eq_1
def C.blc_b : LO := [
 X.o 4 (.move (.cst (.nils)))]
def C.blc : LO := C.blc_b
def C.blc_w := pO C.blc.eq_1
def C.cl6 : ICode := .seq (.region C.blc) .ret
def C.cl6_w := pC C.cl6.eq_1
def C.cl7 : ICode := .keep [0, 1, 7] (.cond (X.s 7) C.cl6 .skip)
def C.cl7_w := pC C.cl7.eq_1
def C.blb_b : LO := [
 X.m 5 0,
 X.o 6 (.call F.q95 [X.s 5]),
 X.o 7 (.un .not (X.s 6))]
def C.blb : LO := C.blb_b
def C.blb_w := pO C.blb.eq_1
def C.cl8 : ICode := .keep [0, 1] (.seq (.seq (.region C.blb) C.cl7) C.cl5)
def C.cl8_w := pC C.cl8.eq_1
def C.bk9_b : LO := [
 X.o 4 (.move (.cst (.nils)))]
def C.bk9 : LO := C.bk9_b
def C.bk9_w := pO C.bk9.eq_1
def C.q83 : IFunc := ⟨2, [.slot 4], .seq (.region C.bk9) C.cl8⟩
def C.q83_W := aI (aI (aI @C.bld_w @C.cl5_w) (aI @C.blc_w @C.cl6_w)) (aI (aI @C.cl7_w @C.blb_w) (aI @C.cl8_w @C.bk9_w))
def C.q83_B := aI (aI @C.bld_b.eq_1 @C.blc_b.eq_1) (aI @C.blb_b.eq_1 @C.bk9_b.eq_1)

def C.bln_b : LO := [
 X.m 10 0,
 X.o 11 (.nilchk (X.s 10)),
 X.o 12 (.fldAddr 0 (X.s 11)),
 X.o 13 (.load1 (X.s 12)),
 X.m 14 1,
 X.m 15 2,
 X.o 16 (.call F.q19 [X.s 13, X.s 14, X.s 15]),
 X.m 6 16]
def C.bln : LO := C.bln_b
def C.bln_w := pO C.bln.eq_1
def C.cmf : ICode := .keep [0, 1, 2] (.seq (.region C.bln) .ret)
def C.cmf_w := pC C.cmf.eq_1
def C.blm_b : LO := [
 X.o 6 (.move (X.i 4))]
def C.blm : LO := C.blm_b
def C.blm_w := pO C.blm.eq_1
def C.cmg : ICode := .seq (.region C.blm) .ret
def C.cmg_w := pC C.cmg.eq_1
def C.cmh : ICode := .keep [0, 1, 2, 9] (.cond (X.s 9) C.cmg .skip)
def C.cmh_w := pC C.cmh.eq_1
def C.bll_b : LO := [
 X.m 7 0,
 X.o 8 (.call F.q95 [X.s 7]),
 X.o 9 (.un .not (X.s 8))]
def C.bll : LO := C.bll_b
def C.bll_w := pO C.bll.eq_1
def C.cmj : ICode := .keep [0, 1, 2] (.seq (.seq (.region C.bll) C.cmh) C.cmf)
def C.cmj_w := pC C.cmj.eq_1
def C.blk_b : LO := [
 X.o 6 (.move (X.i 0))]
def C.blk : LO := C.blk_b
def C.blk_w := pO C.blk.eq_1
def C.q85 : IFunc := ⟨3, [.slot 6], .seq (.region C.blk) C.cmj⟩
def C.q85_W := aI (aI (aI @C.bln_w @C.cmf_w) (aI @C.blm_w @C.cmg_w)) (aI (aI @C.cmh_w @C.bll_w) (aI @C.cmj_w @C.blk_w))
def C.q85_B := aI (aI @C.bln_b.eq_1 @C.blm_b.eq_1) (aI @C.bll_b.eq_1 @C.blk_b.eq_1)

def C.bk8_b : LO := [
 X.m 17 0,
 X.o 18 (.nilchk (X.s 17)),
 X.o 19 (.fldAddr 0 (X.s 18)),
 X.o 20 (.load1 (X.s 19)),
 X.o 21 (.fldAddr 0 (X.s 5)),
 X.o 22 (.load1 (X.s 21)),
 X.o 23 (.call F.q20 [X.s 20, X.s 22]),
 X.m 24 23,
 X.t 24 25 (.move (X.s 0)),
 X.t 24 26 (.nilchk (X.s 25)),
 X.t 24 27 (.fldAddr 1 (X.s 26)),
 X.t 24 28 (.load1 (X.s 27)),
 X.t 24 29 (.fldAddr 1 (X.s 5)),
 X.t 24 30 (.load1 (X.s 29)),
 X.t 24 31 (.call F.q99 [X.s 28, X.s 30]),
 X.t 24 32 (.bin .eql (X.s 31) (.cst (.int .u8 49))),
 X.o 33 (.pick (X.s 24) (X.s 32) (.cst (.bool false))),
 X.m 34 33,
 X.t 34 35 (.move (X.s 0)),
 X.t 34 36 (.nilchk (X.s 35)),
 X.t 34 37 (.fldAddr 2 (X.s 36)),
 X.t 34 38 (.load1 (X.s 37)),
 X.t 34 39 (.fldAddr 2 (X.s 5)),
 X.t 34 40 (.load1 (X.s 39)),
 X.t 34 41 (.call F.q123 [X.s 38, X.s 40]),
 X.t 34 42 (.un .not (X.s 41)),
 X.o 43 (.pick (X.s 34) (X.s 42) (.cst (.bool false))),
 X.m 4 43]
def C.bk8 : LO := C.bk8_b
def C.bk8_w := pO C.bk8.eq_1
def C.cl4 : ICode := .keep [0, 5] (.seq (.region C.bk8) .ret)
def C.cl4_w := pC C.cl4.eq_1
def C.d5_b : LO := [
 X.m 10 0,
 X.o 11 (.nilchk (X.s 10)),
 X.o 12 (.fldAddr 4 (X.s 11)),
 X.o 13 (.load1 (X.s 12)),
 X.m 14 1,
 X.o 15 (.idxAddr 6 (X.s 13) (X.s 14)),
 X.o 16 (.loadN 6 (X.s 15)),
 X.o 5 (.alloc [.int .i64 0, .int .i64 0, .int .i64 0, .int .u32 0, .nilp, .nilp]),
 X.n (.storeN 6 (X.s 5) (X.s 16))]
def C.d5 : LO := C.d5_b
def C.d5_w := pO C.d5.eq_1
def C.bzr : ICode := .keep [0, 1] (.seq (.region C.d5) C.cl4)
def C.bzr_w := pC C.bzr.eq_1
def C.d4_b : LO := [
 X.o 4 (.move (.cst (.bool false)))]
def C.d4 : LO := C.d4_b
def C.d4_w := pO C.d4.eq_1
def C.bzs : ICode := .seq (.region C.d4) .ret
def C.bzs_w := pC C.bzs.eq_1
def C.bzt : ICode := .keep [0, 1, 9] (.cond (X.s 9) C.bzs .skip)
def C.bzt_w := pC C.bzt.eq_1
def C.d3_b : LO := [
 X.m 6 0,
 X.m 7 1,
 X.o 8 (.call F.q94 [X.s 6, X.s 7]),
 X.o 9 (.un .not (X.s 8))]
def C.d3 : LO := C.d3_b
def C.d3_w := pO C.d3.eq_1
def C.bzv : ICode := .keep [0, 1] (.seq (.seq (.region C.d3) C.bzt) C.bzr)
def C.bzv_w := pC C.bzv.eq_1
def C.d2_b : LO := [
 X.o 4 (.move (.cst (.bool false)))]
def C.d2 : LO := C.d2_b
def C.d2_w := pO C.d2.eq_1
def C.q81 : IFunc := ⟨2, [.slot 4], .seq (.region C.d2) C.bzv⟩
def C.q81_W := aI (aI (aI @C.bk8_w @C.cl4_w) (aI @C.d5_w (aI @C.bzr_w @C.d4_w))) (aI (aI @C.bzs_w @C.bzt_w) (aI @C.d3_w (aI @C.bzv_w @C.d2_w)))
def C.q81_B := aI (aI @C.bk8_b.eq_1 @C.d5_b.eq_1) (aI @C.d4_b.eq_1 (aI @C.d3_b.eq_1 @C.d2_b.eq_1))

def C.bbp_b : LO := [
 X.o 3 (.makeFunc F.q26 [X.s 1]),
 X.o 4 (.makeFunc F.q27 [X.s 1]),
 X.o 5 (.makeFunc F.q29 [X.s 1]),
 X.o 6 (.makeFunc F.q30 [X.s 1]),
 X.o 7 (.makeFunc F.q32 [X.s 1]),
 X.o 8 (.makeFunc F.q33 [X.s 1]),
 X.o 9 (.makeFunc F.q34 [X.s 1]),
 X.o 10 (.makeFunc F.q36 [X.s 1]),
 X.o 11 (.buildSlice 1 8 [.nilf] [(0, 1, X.s 3), (1, 1, X.s 4), (2, 1, X.s 5), (3, 1, X.s 6), (4, 1, X.s 7), (5, 1, X.s 8), (6, 1, X.s 9), (7, 1, X.s 10)]),
 X.o 12 (.call F.q61 [X.s 11]),
 X.m 2 12]
def C.bbp : LO := C.bbp_b
def C.bbp_w := pO C.bbp.eq_1
def C.cb2 : ICode := .keep [1] (.seq (.region C.bbp) .ret)
def C.cb2_w := pC C.cb2.eq_1
def C.ll_b : LO := [
 X.o 1 (.boxN (X.s 0)),
 X.o 2 (.move (X.i 0))]
def C.ll : LO := C.ll_b
def C.ll_w := pO C.ll.eq_1
def C.q25 : IFunc := ⟨1, [.slot 2], .seq (.region C.ll) C.cb2⟩
def C.q25_W := aI @C.bbp_w (aI @C.cb2_w @C.ll_w)
def C.q25_B := aI @C.bbp_b.eq_1 @C.ll_b.eq_1

def C.m4_b : LO := [
 X.o 4 (.move (X.i 0))]
def C.m4 : LO := C.m4_b
def C.m4_w := pO C.m4.eq_1
def C.bzy : ICode := .keep [] (.seq (.region C.m4) .ret)
def C.bzy_w := pC C.bzy.eq_1
def C.m3_b : LO := [
 X.o 36 (.bin .add (X.s 25) (X.i 1)),
 X.m 25 36]
def C.m3 : LO := C.m3_b
def C.m3_w := pO C.m3.eq_1
def C.bz7 : ICode := .keep [1, 23, 24, 25] (.region C.m3)
def C.bz7_w := pC C.bz7.eq_1
def C.m2_b : LO := [
 X.o 33 (.fldAddr 4 (X.s 7)),
 X.o 34 (.load1 (X.s 33)),
 X.o 35 (.call F.q109 [X.s 34])]
def C.m2 : LO := C.m2_b
def C.m2_w := pO C.m2.eq_1
def C.bz8 : ICode := .keep [1, 7, 23, 24, 25, 32] (.cond (X.s 32) (.region C.m2) .skip)
def C.bz8_w := pC C.bz8.eq_1
def C.nd_b : LO := [
 X.o 29 (.fldAddr 2 (X.s 7)),
 X.o 30 (.load1 (X.s 29)),
 X.m 31 1,
 X.o 32 (.bin .eql (X.s 30) (X.s 31))]
def C.nd : LO := C.nd_b
def C.nd_w := pO C.nd.eq_1
def C.bz9 : ICode := .keep [1, 7, 23, 24, 25] (.seq (.region C.nd) C.bz8)
def C.bz9_w := pC C.bz9.eq_1
def C.nc_b : LO := [
 X.o 27 (.idxAddr 6 (X.s 23) (X.s 25)),
 X.o 28 (.loadN 6 (X.s 27)),
 X.o 7 (.alloc [.int .i64 0, .int .i64 0, .int .i64 0, .int .u32 0, .nilp, .nilp]),
 X.n (.storeN 6 (X.s 7) (X.s 28))]
def C.nc : LO := C.nc_b
def C.nc_w := pO C.nc.eq_1
def C.bzw : ICode := .seq (.region C.nc) C.bz9
def C.bzw_w := pC C.bzw.eq_1
def C.b0b : ICode := .keep [1, 23, 24, 25] (.seq (.block 1 C.bzw) C.bz7)
def C.b0b_w := pC C.b0b.eq_1
def C.b0c : ICode := .keep [1, 23, 24, 25, 26] (.seq (.cond (X.s 26) .skip (.exit 0)) C.b0b)
def C.b0c_w := pC C.b0c.eq_1
def C.nb_b : LO := [
 X.o 26 (.bin .lss (X.s 25) (X.s 24))]
def C.nb : LO := C.nb_b
def C.nb_w := pO C.nb.eq_1
def C.crh : ICode := .keep [1, 23, 24, 25] (.seq (.region C.nb) C.b0c)
def C.crh_w := pC C.crh.eq_1
def C.bzx : ICode := .loop C.crh
def C.bzx_w := pC C.bzx.eq_1
def C.bzq : ICode := .keep [1, 23, 24, 25] (.block 0 C.bzx)
def C.bzq_w := pC C.bzq.eq_1
def C.m9_b : LO := [
 X.m 20 0,
 X.o 21 (.nilchk (X.s 20)),
 X.o 22 (.fldAddr 4 (X.s 21)),
 X.o 23 (.load1 (X.s 22)),
 X.o 24 (.len (X.s 23)),
 X.o 25 (.move (X.i 0))]
def C.m9 : LO := C.m9_b
def C.m9_w := pO C.m9.eq_1
def C.bzz : ICode := .keep [0, 1] (.seq (.seq (.region C.m9) C.bzq) C.bzy)
def C.bzz_w := pC C.bzz.eq_1
def C.m8_b : LO := [
 X.m 19 5,
 X.m 4 19]
def C.m8 : LO := C.m8_b
def C.m8_w := pO C.m8.eq_1
def C.bz0 : ICode := .seq (.region C.m8) .ret
def C.bz0_w := pC C.bz0.eq_1
def C.bz1 : ICode := .keep [0, 1, 5, 18] (.cond (X.s 18) C.bz0 .skip)
def C.bz1_w := pC C.bz1.eq_1
def C.m7_b : LO := [
 X.m 17 5,
 X.o 18 (.bin .neq (X.s 17) (X.i 0))]
def C.m7 : LO := C.m7_b
def C.m7_w := pO C.m7.eq_1
def C.bz2 : ICode := .keep [0, 1, 5] (.seq (.region C.m7) C.bz1)
def C.bz2_w := pC C.bz2.eq_1
def C.m6_b : LO := [
 X.m 11 0,
 X.o 12 (.nilchk (X.s 11)),
 X.o 13 (.fldAddr 2 (X.s 12)),
 X.o 14 (.load1 (X.s 13)),
 X.m 15 1,
 X.o 16 (.call F.q122 [X.s 14, X.s 15]),
 X.m 5 16]
def C.m6 : LO := C.m6_b
def C.m6_w := pO C.m6.eq_1
def C.bz3 : ICode := .keep [0, 1] (.seq (.seq (.region C.m6) C.bz2) C.bzz)
def C.bz3_w := pC C.bz3.eq_1
def C.m5_b : LO := [
 X.o 4 (.move (X.i 4))]
def C.m5 : LO := C.m5_b
def C.m5_w := pO C.m5.eq_1
def C.bz4 : ICode := .seq (.region C.m5) .ret
def C.bz4_w := pC C.bz4.eq_1
def C.bz5 : ICode := .keep [0, 1, 10] (.cond (X.s 10) C.bz4 .skip)
def C.bz5_w := pC C.bz5.eq_1
def C.m1_b : LO := [
 X.m 8 0,
 X.o 9 (.call F.q95 [X.s 8]),
 X.o 10 (.un .not (X.s 9))]
def C.m1 : LO := C.m1_b
def C.m1_w := pO C.m1.eq_1
def C.bz6 : ICode := .keep [0, 1] (.seq (.seq (.region C.m1) C.bz5) C.bz3)
def C.bz6_w := pC C.bz6.eq_1
def C.m0_b : LO := [
 X.o 4 (.move (X.i 0))]
def C.m0 : LO := C.m0_b
def C.m0_w := pO C.m0.eq_1
def C.q82 : IFunc := ⟨2, [.slot 4], .seq (.region C.m0) C.bz6⟩
def C.q82_W := aI (aI (aI (aI @C.m4_w (aI @C.bzy_w @C.m3_w)) (aI (aI @C.bz7_w @C.m2_w) (aI @C.bz8_w @C.nd_w))) (aI (aI (aI @C.bz9_w @C.nc_w) (aI @C.bzw_w @C.b0b_w)) (aI (aI @C.b0c_w @C.nb_w) (aI @C.bzx_w @C.bzq_w)))) (aI (aI (aI @C.m9_w (aI @C.bzz_w @C.m8_w)) (aI (aI @C.bz0_w @C.bz1_w) (aI @C.m7_w @C.bz2_w))) (aI (aI (aI @C.m6_w @C.bz3_w) (aI @C.m5_w @C.bz4_w)) (aI (aI @C.bz5_w @C.m1_w) (aI @C.bz6_w @C.m0_w))))
def C.q82_B := aI (aI (aI @C.m4_b.eq_1 (aI @C.m3_b.eq_1 @C.m2_b.eq_1)) (aI @C.nd_b.eq_1 (aI @C.nc_b.eq_1 @C.nb_b.eq_1))) (aI (aI @C.m9_b.eq_1 (aI @C.m8_b.eq_1 @C.m7_b.eq_1)) (aI (aI @C.m6_b.eq_1 @C.m5_b.eq_1) (aI @C.m1_b.eq_1 @C.m0_b.eq_1)))

def C.bl6_b : LO := [
 X.m 8 0,
 X.o 9 (.nilchk (X.s 8)),
 X.o 10 (.fldAddr 2 (X.s 9)),
 X.o 11 (.load1 (X.s 10)),
 X.m 12 1,
 X.o 13 (.call F.q124 [X.s 11, X.s 12]),
 X.m 4 13]
def C.bl6 : LO := C.bl6_b
def C.bl6_w := pO C.bl6.eq_1
def C.cmz : ICode := .keep [0, 1] (.seq (.region C.bl6) .ret)
def C.cmz_w := pC C.cmz.eq_1
def C.bl5_b : LO := [
 X.o 4 (.move (X.i 4))]
def C.bl5 : LO := C.bl5_b
def C.bl5_w := pO C.bl5.eq_1
def C.cm0 : ICode := .seq (.region C.bl5) .ret
def C.cm0_w := pC C.cm0.eq_1
def C.cm1 : ICode := .keep [0, 1, 7] (.cond (X.s 7) C.cm0 .skip)
def C.cm1_w := pC C.cm1.eq_1
def C.bl4_b : LO := [
 X.m 5 0,
 X.o 6 (.call F.q95 [X.s 5]),
 X.o 7 (.un .not (X.s 6))]
def C.bl4 : LO := C.bl4_b
def C.bl4_w := pO C.bl4.eq_1
def C.cm2 : ICode := .keep [0, 1] (.seq (.seq (.region C.bl4) C.cm1) C.cmz)
def C.cm2_w := pC C.cm2.eq_1
def C.bl3_b : LO := [
 X.o 4 (.move (X.i 0))]
def C.bl3 : LO := C.bl3_b
def C.bl3_w := pO C.bl3.eq_1
def C.q89 : IFunc := ⟨2, [.slot 4], .seq (.region C.bl3) C.cm2⟩
def C.q89_W := aI (aI (aI @C.bl6_w @C.cmz_w) (aI @C.bl5_w @C.cm0_w)) (aI (aI @C.cm1_w @C.bl4_w) (aI @C.cm2_w @C.bl3_w))
def C.q89_B := aI (aI @C.bl6_b.eq_1 @C.bl5_b.eq_1) (aI @C.bl4_b.eq_1 @C.bl3_b.eq_1)

def C.blr_b : LO := [
 X.m 5 0,
 X.o 6 (.call F.q95 [X.s 5]),
 X.o 7 (.un .not (X.s 6)),
 X.m 8 7,
 X.f 8 9 (.move (X.s 0)),
 X.f 8 10 (.nilchk (X.s 9)),
 X.f 8 11 (.fldAddr 2 (X.s 10)),
 X.f 8 12 (.load1 (X.s 11)),
 X.f 8 13 (.move (X.s 1)),
 X.f 8 14 (.call F.q123 [X.s 12, X.s 13]),
 X.o 15 (.pick (X.s 8) (.cst (.bool true)) (X.s 14)),
 X.m 4 15]
def C.blr : LO := C.blr_b
def C.blr_w := pO C.blr.eq_1
def C.cmk : ICode := .keep [0, 1] (.seq (.region C.blr) .ret)
def C.cmk_w := pC C.cmk.eq_1
def C.blp_b : LO := [
 X.o 4 (.move (.cst (.bool false)))]
def C.blp : LO := C.blp_b
def C.blp_w := pO C.blp.eq_1
def C.q86 : IFunc := ⟨2, [.slot 4], .seq (.region C.blp) C.cmk⟩
def C.q86_W := aI @C.blr_w (aI @C.cmk_w @C.blp_w)
def C.q86_B := aI @C.blr_b.eq_1 @C.blp_b.eq_1

def C.blj_b : LO := [
 X.m 10 0,
 X.o 11 (.nilchk (X.s 10)),
 X.o 12 (.fldAddr 1 (X.s 11)),
 X.o 13 (.load1 (X.s 12)),
 X.m 14 1,
 X.m 15 2,
 X.o 16 (.call F.q98 [X.s 13, X.s 14, X.s 15]),
 X.m 6 16]
def C.blj : LO := C.blj_b
def C.blj_w := pO C.blj.eq_1
def C.cl9 : ICode := .keep [0, 1, 2] (.seq (.region C.blj) .ret)
def C.cl9_w := pC C.cl9.eq_1
def C.blh_b : LO := [
 X.o 6 (.move (X.i 4))]
def C.blh : LO := C.blh_b
def C.blh_w := pO C.blh.eq_1
def C.cmb : ICode := .seq (.region C.blh) .ret
def C.cmb_w := pC C.cmb.eq_1
def C.cmc : ICode := .keep [0, 1, 2, 9] (.cond (X.s 9) C.cmb .skip)
def C.cmc_w := pC C.cmc.eq_1
def C.blg_b : LO := [
 X.m 7 0,
 X.o 8 (.call F.q95 [X.s 7]),
 X.o 9 (.un .not (X.s 8))]
def C.blg : LO := C.blg_b
def C.blg_w := pO C.blg.eq_1
def C.cmd : ICode := .keep [0, 1, 2] (.seq (.seq (.region C.blg) C.cmc) C.cl9)
def C.cmd_w := pC C.cmd.eq_1
def C.blf_b : LO := [
 X.o 6 (.move (X.i 0))]
def C.blf : LO := C.blf_b
def C.blf_w := pO C.blf.eq_1
def C.q84 : IFunc := ⟨3, [.slot 6], .seq (.region C.blf) C.cmd⟩
def C.q84_W := aI (aI (aI @C.blj_w @C.cl9_w) (aI @C.blh_w @C.cmb_w)) (aI (aI @C.cmc_w @C.blg_w) (aI @C.cmd_w @C.blf_w))
def C.q84_B := aI (aI @C.blj_b.eq_1 @C.blh_b.eq_1) (aI @C.blg_b.eq_1 @C.blf_b.eq_1)

def C.blw_b : LO := [
 X.m 8 0,
 X.o 9 (.nilchk (X.s 8)),
 X.o 10 (.fldAddr 1 (X.s 9)),
 X.o 11 (.load1 (X.s 10)),
 X.m 12 1,
 X.o 13 (.call F.q99 [X.s 11, X.s 12]),
 X.m 4 13]
def C.blw : LO := C.blw_b
def C.blw_w := pO C.blw.eq_1
def C.cml : ICode := .keep [0, 1] (.seq (.region C.blw) .ret)
def C.cml_w := pC C.cml.eq_1
def C.blv_b : LO := [
 X.o 4 (.move (.cst (.int .u8 0)))]
def C.blv : LO := C.blv_b
def C.blv_w := pO C.blv.eq_1
def C.cmm : ICode := .seq (.region C.blv) .ret
def C.cmm_w := pC C.cmm.eq_1
def C.cmn : ICode := .keep [0, 1, 7] (.cond (X.s 7) C.cmm .skip)
def C.cmn_w := pC C.cmn.eq_1
def C.blt_b : LO := [
 X.m 5 0,
 X.o 6 (.call F.q95 [X.s 5]),
 X.o 7 (.un .not (X.s 6))]
def C.blt : LO := C.blt_b
def C.blt_w := pO C.blt.eq_1
def C.cmp : ICode := .keep [0, 1] (.seq (.seq (.region C.blt) C.cmn) C.cml)
def C.cmp_w := pC C.cmp.eq_1
def C.bls_b : LO := [
 X.o 4 (.move (.cst (.int .u8 0)))]
def C.bls : LO := C.bls_b
def C.bls_w := pO C.bls.eq_1
def C.q87 : IFunc := ⟨2, [.slot 4], .seq (.region C.bls) C.cmp⟩
def C.q87_W := aI (aI (aI @C.blw_w @C.cml_w) (aI @C.blv_w @C.cmm_w)) (aI (aI @C.cmn_w @C.blt_w) (aI @C.cmp_w @C.bls_w))
def C.q87_B := aI (aI @C.blw_b.eq_1 @C.blv_b.eq_1) (aI @C.blt_b.eq_1 @C.bls_b.eq_1)

def C.bmj_b : LO := [
 X.m 8 0,
 X.o 9 (.nilchk (X.s 8)),
 X.o 10 (.fldAddr 1 (X.s 9)),
 X.o 11 (.load1 (X.s 10)),
 X.m 12 1,
 X.o 13 (.call F.q101 [X.s 11, X.s 12]),
 X.m 4 13]
def C.bmj : LO := C.bmj_b
def C.bmj_w := pO C.bmj.eq_1
def C.cm5 : ICode := .keep [0, 1] (.seq (.region C.bmj) .ret)
def C.cm5_w := pC C.cm5.eq_1
def C.bmh_b : LO := [
 X.o 4 (.move (X.i 4))]
def C.bmh : LO := C.bmh_b
def C.bmh_w := pO C.bmh.eq_1
def C.cm6 : ICode := .seq (.region C.bmh) .ret
def C.cm6_w := pC C.cm6.eq_1
def C.cm7 : ICode := .keep [0, 1, 7] (.cond (X.s 7) C.cm6 .skip)
def C.cm7_w := pC C.cm7.eq_1
def C.bmg_b : LO := [
 X.m 5 0,
 X.o 6 (.call F.q95 [X.s 5]),
 X.o 7 (.un .not (X.s 6))]
def C.bmg : LO := C.bmg_b
def C.bmg_w := pO C.bmg.eq_1
def C.cm8 : ICode := .keep [0, 1] (.seq (.seq (.region C.bmg) C.cm7) C.cm5)
def C.cm8_w := pC C.cm8.eq_1
def C.bmf_b : LO := [
 X.o 4 (.move (X.i 0))]
def C.bmf : LO := C.bmf_b
def C.bmf_w := pO C.bmf.eq_1
def C.q92 : IFunc := ⟨2, [.slot 4], .seq (.region C.bmf) C.cm8⟩
def C.q92_W := aI (aI (aI @C.bmj_w @C.cm5_w) (aI @C.bmh_w @C.cm6_w)) (aI (aI @C.cm7_w @C.bmg_w) (aI @C.cm8_w @C.bmf_w))
def C.q92_B := aI (aI @C.bmj_b.eq_1 @C.bmh_b.eq_1) (aI @C.bmg_b.eq_1 @C.bmf_b.eq_1)

def C.bmb_b : LO := [
 X.m 5 0,
 X.o 6 (.call F.q95 [X.s 5]),
 X.m 7 6,
 X.t 7 8 (.move (X.s 0)),
 X.t 7 9 (.nilchk (X.s 8)),
 X.t 7 10 (.fldAddr 0 (X.s 9)),
 X.t 7 11 (.load1 (X.s 10)),
 X.t 7 12 (.move (X.s 1)),
 X.t 7 13 (.call F.q20 [X.s 11, X.s 12]),
 X.o 14 (.pick (X.s 7) (X.s 13) (.cst (.bool false))),
 X.m 4 14]
def C.bmb : LO := C.bmb_b
def C.bmb_w := pO C.bmb.eq_1
def C.cm4 : ICode := .keep [0, 1] (.seq (.region C.bmb) .ret)
def C.cm4_w := pC C.cm4.eq_1
def C.bl9_b : LO := [
 X.o 4 (.move (.cst (.bool false)))]
def C.bl9 : LO := C.bl9_b
def C.bl9_w := pO C.bl9.eq_1
def C.q90 : IFunc := ⟨2, [.slot 4], .seq (.region C.bl9) C.cm4⟩
def C.q90_W := aI @C.bmb_w (aI @C.cm4_w @C.bl9_w)
def C.q90_B := aI @C.bmb_b.eq_1 @C.bl9_b.eq_1

def C.kt_b : LO := [
 X.m 49 5,
 X.m 2 49,
 X.o 3 (.move (X.i 0))]
def C.kt : LO := C.kt_b
def C.kt_w := pO C.kt.eq_1
def C.bxv : ICode := .keep [5] (.seq (.region C.kt) .ret)
def C.bxv_w := pC C.bxv.eq_1
def C.ks_b : LO := [
 X.o 48 (.bin .add (X.s 20) (X.i 1)),
 X.m 20 48]
def C.ks : LO := C.ks_b
def C.ks_w := pO C.ks.eq_1
def C.bx0 : ICode := .keep [5, 18, 19, 20] (.region C.ks)
def C.bx0_w := pC C.bx0.eq_1
def C.xy_b : LO := [
 X.m 38 5,
 X.m 39 5,
 X.o 40 (.nilchk (X.s 39)),
 X.o 41 (.fldAddr 0 (X.s 40)),
 X.o 42 (.load1 (X.s 41)),
 X.o 43 (.loadN 11 (X.s 8)),
 X.o 44 (.buildSlice 11 1 [.int .u8 0, .nils, .int .u64 0, .int .i64 0, .int .i64 0, .int .i64 0, .bool false, .int .i64 0, .int .i64 0, .int .i64 0, .int .i64 0] [(0, 11, X.s 43)]),
 X.o 45 (.append 11 104 (X.s 42) (X.s 44)),
 X.o 46 (.nilchk (X.s 38)),
 X.o 47 (.fldAddr 0 (X.s 46)),
 X.n (.store1 (X.s 47) (X.s 45))]
def C.xy : LO := C.xy_b
def C.xy_w := pO C.xy.eq_1
def C.xx : ICode := .keep [5, 8, 18, 19, 20] (.region C.xy)
def C.xx_w := pC C.xx.eq_1
def C.kn_b : LO := [
 X.o 30 (.fldAddr 5 (X.s 7)),
 X.o 31 (.load1 (X.s 30)),
 X.o 32 (.fldAddr 7 (X.s 8)),
 X.n (.store1 (X.s 32) (X.s 31))]
def C.kn : LO := C.kn_b
def C.kn_w := pO C.kn.eq_1
def C.kr_b : LO := [
 X.o 35 (.fldAddr 4 (X.s 7)),
 X.o 36 (.load1 (X.s 35)),
 X.o 37 (.fldAddr 10 (X.s 8)),
 X.n (.store1 (X.s 37) (X.s 36))]
def C.kr : LO := C.kr_b
def C.kr_w := pO C.kr.eq_1
def C.bx4 : ICode := .keep [5, 7, 8, 18, 19, 20, 33] (.cond (X.s 33) (.region C.kr) .skip)
def C.bx4_w := pC C.bx4.eq_1
def C.kp_b : LO := [
 X.o 34 (.bin .eql (X.s 27) (.cst (.int .u8 100))),
 X.m 33 34]
def C.kp : LO := C.kp_b
def C.kp_w := pO C.kp.eq_1
def C.bx5 : ICode := .seq (.region C.kp) C.bx4
def C.bx5_w := pC C.bx5.eq_1
def C.bx6 : ICode := .keep [5, 7, 8, 18, 19, 20, 27, 28] (.cond (X.s 28) (.region C.kn) C.bx5)
def C.bx6_w := pC C.bx6.eq_1
def C.km_b : LO := [
 X.o 29 (.bin .eql (X.s 27) (.cst (.int .u8 112))),
 X.m 28 29]
def C.km : LO := C.km_b
def C.km_w := pO C.km.eq_1
def C.bxt : ICode := .seq (.region C.km) C.bx6
def C.bxt_w := pC C.bxt.eq_1
def C.bx7 : ICode := .keep [5, 7, 8, 18, 19, 20, 27] (.block 2 C.bxt)
def C.bx7_w := pC C.bx7.eq_1
def C.k0_b : LO := [
 X.o 26 (.fldAddr 0 (X.s 7)),
 X.o 27 (.load1 (X.s 26))]
def C.k0 : LO := C.k0_b
def C.k0_w := pO C.k0.eq_1
def C.bnq : ICode := .keep [5, 7, 8, 18, 19, 20] (.seq (.seq (.region C.k0) C.bx7) C.xx)
def C.bnq_w := pC C.bnq.eq_1
def C.bz_b : LO := [
 X.o 24 (.loadN 6 (X.s 7)),
 X.o 25 (.build [.int .u8 0, .nils, .int .u64 0, .int .i64 0, .int .i64 0, .int .i64 0, .bool false, .int .i64 0, .int .i64 0, .int .i64 0, .int .i64 0] [(0, 6, X.s 24)]),
 X.o 8 (.alloc [.int .u8 0, .nils, .int .u64 0, .int .i64 0, .int .i64 0, .int .i64 0, .bool false, .int .i64 0, .int .i64 0, .int .i64 0, .int .i64 0]),
 X.n (.storeN 11 (X.s 8) (X.s 25))]
def C.bz : LO := C.bz_b
def C.bz_w := pO C.bz.eq_1
def C.bnx : ICode := .keep [5, 7, 18, 19, 20] (.seq (.region C.bz) C.bnq)
def C.bnx_w := pC C.bnx.eq_1
def C.kz_b : LO := [
 X.o 22 (.idxAddr 6 (X.s 18) (X.s 20)),
 X.o 23 (.loadN 6 (X.s 22)),
 X.o 7 (.alloc [.int .u8 0, .nils, .int .u64 0, .int .i64 0, .int .i64 0, .int .i64 0]),
 X.n (.storeN 6 (X.s 7) (X.s 23))]
def C.kz : LO := C.kz_b
def C.kz_w := pO C.kz.eq_1
def C.bxr : ICode := .seq (.region C.kz) C.bnx
def C.bxr_w := pC C.bxr.eq_1
def C.bxw : ICode := .keep [5, 18, 19, 20] (.seq (.block 1 C.bxr) C.bx0)
def C.bxw_w := pC C.bxw.eq_1
def C.bxx : ICode := .keep [5, 18, 19, 20, 21] (.seq (.cond (X.s 21) .skip (.exit 0)) C.bxw)
def C.bxx_w := pC C.bxx.eq_1
def C.kq_b : LO := [
 X.o 21 (.bin .lss (X.s 20) (X.s 19))]
def C.kq : LO := C.kq_b
def C.kq_w := pO C.kq.eq_1
def C.cpt : ICode := .keep [5, 18, 19, 20] (.seq (.region C.kq) C.bxx)
def C.cpt_w := pC C.cpt.eq_1
def C.bxs : ICode := .loop C.cpt
def C.bxs_w := pC C.bxs.eq_1
def C.bxy : ICode := .keep [5, 18, 19, 20] (.block 0 C.bxs)
def C.bxy_w := pC C.bxy.eq_1
def C.ky_b : LO := [
 X.o 16 (.loadN 4 (X.s 1)),
 X.o 17 (.call F.q38 [X.s 16]),
 X.o 18 (.field1 0 (X.s 17)),
 X.o 19 (.len (X.s 18)),
 X.o 20 (.move (X.i 0))]
def C.ky : LO := C.ky_b
def C.ky_w := pO C.ky.eq_1
def C.bny : ICode := .keep [1, 5] (.seq (.seq (.region C.ky) C.bxy) C.bxv)
def C.bny_w := pC C.bny.eq_1
def C.kx_b : LO := [
 X.o 14 (.build [.nils] []),
 X.o 15 (.boxN (X.s 14)),
 X.m 5 15]
def C.kx : LO := C.kx_b
def C.kx_w := pO C.kx.eq_1
def C.bxq : ICode := .keep [1] (.seq (.region C.kx) C.bny)
def C.bxq_w := pC C.bxq.eq_1
def C.kw_b : LO := [
 X.m 13 4,
 X.o 2 (.move (.cst (.nilp))),
 X.m 3 13]
def C.kw : LO := C.kw_b
def C.kw_w := pO C.kw.eq_1
def C.bxz : ICode := .seq (.region C.kw) .ret
def C.bxz_w := pC C.bxz.eq_1
def C.bx1 : ICode := .keep [1, 4, 12] (.cond (X.s 12) C.bxz .skip)
def C.bx1_w := pC C.bx1.eq_1
def C.kv_b : LO := [
 X.m 11 4,
 X.o 12 (.bin .neq (X.s 11) (X.i 0))]
def C.kv : LO := C.kv_b
def C.kv_w := pO C.kv.eq_1
def C.bx2 : ICode := .keep [1, 4] (.seq (.region C.kv) C.bx1)
def C.bx2_w := pC C.bx2.eq_1
def C.kl_b : LO := [
 X.o 9 (.loadN 4 (X.s 1)),
 X.o 10 (.call F.q25 [X.s 9]),
 X.m 4 10]
def C.kl : LO := C.kl_b
def C.kl_w := pO C.kl.eq_1
def C.bx3 : ICode := .keep [1] (.seq (.seq (.region C.kl) C.bx2) C.bxq)
def C.bx3_w := pC C.bx3.eq_1
def C.bc_b : LO := [
 X.o 1 (.boxN (X.s 0)),
 X.o 2 (.move (.cst (.nilp))),
 X.o 3 (.move (X.i 0))]
def C.bc : LO := C.bc_b
def C.bc_w := pO C.bc.eq_1
def C.q17 : IFunc := ⟨1, [.slot 2, .slot 3], .seq (.region C.bc) C.bx3⟩
def C.q17_W := aI (aI (aI (aI (aI @C.kt_w @C.bxv_w) (aI @C.ks_w @C.bx0_w)) (aI (aI @C.xy_w @C.xx_w) (aI @C.kn_w (aI @C.kr_w @C.bx4_w)))) (aI (aI (aI @C.kp_w @C.bx5_w) (aI @C.bx6_w (aI @C.km_w @C.bxt_w))) (aI (aI @C.bx7_w @C.k0_w) (aI @C.bnq_w (aI @C.bz_w @C.bnx_w))))) (aI (aI (aI (aI @C.kz_w @C.bxr_w) (aI @C.bxw_w @C.bxx_w)) (aI (aI @C.kq_w @C.bxs_w) (aI @C.bxy_w (aI @C.ky_w @C.bny_w)))) (aI (aI (aI @C.kx_w @C.bxq_w) (aI @C.kw_w (aI @C.bxz_w @C.bx1_w))) (aI (aI @C.kv_w @C.bx2_w) (aI @C.kl_w (aI @C.bx3_w @C.bc_w)))))
def C.q17_B := aI (aI (aI (aI @C.kt_b.eq_1 @C.ks_b.eq_1) (aI @C.xy_b.eq_1 @C.kn_b.eq_1)) (aI (aI @C.kr_b.eq_1 @C.kp_b.eq_1) (aI @C.km_b.eq_1 @C.k0_b.eq_1))) (aI (aI (aI @C.bz_b.eq_1 @C.kz_b.eq_1) (aI @C.kq_b.eq_1 @C.ky_b.eq_1)) (aI (aI @C.kx_b.eq_1 @C.kw_b.eq_1) (aI @C.kv_b.eq_1 (aI @C.kl_b.eq_1 @C.bc_b.eq_1))))

def C.fq_b : LO := [
 X.m 34 5,
 X.m 2 34,
 X.o 3 (.move (X.i 0))]
def C.fq : LO := C.fq_b
def C.fq_w := pO C.fq.eq_1
def C.bpl : ICode := .keep [5] (.seq (.region C.fq) .ret)
def C.bpl_w := pC C.bpl.eq_1
def C.f5_b : LO := [
 X.o 33 (.bin .add (X.s 18) (X.i 1)),
 X.m 18 33]
def C.f5 : LO := C.f5_b
def C.f5_w := pO C.f5.eq_1
def C.bpv : ICode := .keep [5, 16, 17, 18] (.region C.f5)
def C.bpv_w := pC C.bpv.eq_1
def C.sh_b : LO := [
 X.m 22 5,
 X.m 23 5,
 X.o 24 (.nilchk (X.s 23)),
 X.o 25 (.fldAddr 0 (X.s 24)),
 X.o 26 (.load1 (X.s 25)),
 X.o 27 (.loadN 3 (X.s 7)),
 X.o 28 (.build [.int .i64 0, .int .i64 0, .bool false, .int .u8 0, .int .i64 0, .bool false, .bool false] [(0, 3, X.s 27), (3, 1, .cst (.int .u8 48))]),
 X.o 29 (.buildSlice 7 1 [.int .i64 0, .int .i64 0, .bool false, .int .u8 0, .int .i64 0, .bool false, .bool false] [(0, 7, X.s 28)]),
 X.o 30 (.append 7 48 (X.s 26) (X.s 29)),
 X.o 31 (.nilchk (X.s 22)),
 X.o 32 (.fldAddr 0 (X.s 31)),
 X.n (.store1 (X.s 32) (X.s 30))]
def C.sh : LO := C.sh_b
def C.sh_w := pO C.sh.eq_1
def C.b4v : ICode := .keep [5, 7, 16, 17, 18] (.region C.sh)
def C.b4v_w := pC C.b4v.eq_1
def C.f4_b : LO := [
 X.o 20 (.idxAddr 3 (X.s 16) (X.s 18)),
 X.o 21 (.loadN 3 (X.s 20)),
 X.o 7 (.alloc [.int .i64 0, .int .i64 0, .bool false]),
 X.n (.storeN 3 (X.s 7) (X.s 21))]
def C.f4 : LO := C.f4_b
def C.f4_w := pO C.f4.eq_1
def C.bpj : ICode := .seq (.region C.f4) C.b4v
def C.bpj_w := pC C.bpj.eq_1
def C.bpw : ICode := .keep [5, 16, 17, 18] (.seq (.block 1 C.bpj) C.bpv)
def C.bpw_w := pC C.bpw.eq_1
def C.bpx : ICode := .keep [5, 16, 17, 18, 19] (.seq (.cond (X.s 19) .skip (.exit 0)) C.bpw)
def C.bpx_w := pC C.bpx.eq_1
def C.f3_b : LO := [
 X.o 19 (.bin .lss (X.s 18) (X.s 17))]
def C.f3 : LO := C.f3_b
def C.f3_w := pO C.f3.eq_1
def C.cn7 : ICode := .keep [5, 16, 17, 18] (.seq (.region C.f3) C.bpx)
def C.cn7_w := pC C.cn7.eq_1
def C.bpk : ICode := .loop C.cn7
def C.bpk_w := pC C.bpk.eq_1
def C.bpy : ICode := .keep [5, 16, 17, 18] (.block 0 C.bpk)
def C.bpy_w := pC C.bpy.eq_1
def C.f2_b : LO := [
 X.o 15 (.fldAddr 1 (X.s 1)),
 X.o 16 (.load1 (X.s 15)),
 X.o 17 (.len (X.s 16)),
 X.o 18 (.move (X.i 0))]
def C.f2 : LO := C.f2_b
def C.f2_w := pO C.f2.eq_1
def C.bpm : ICode := .keep [1, 5] (.seq (.seq (.region C.f2) C.bpy) C.bpl)
def C.bpm_w := pC C.bpm.eq_1
def C.f1_b : LO := [
 X.o 13 (.build [.nils] []),
 X.o 14 (.boxN (X.s 13)),
 X.m 5 14]
def C.f1 : LO := C.f1_b
def C.f1_w := pO C.f1.eq_1
def C.bpn : ICode := .keep [1] (.seq (.region C.f1) C.bpm)
def C.bpn_w := pC C.bpn.eq_1
def C.f0_b : LO := [
 X.m 12 4,
 X.o 2 (.move (.cst (.nilp))),
 X.m 3 12]
def C.f0 : LO := C.f0_b
def C.f0_w := pO C.f0.eq_1
def C.bpp : ICode := .seq (.region C.f0) .ret
def C.bpp_w := pC C.bpp.eq_1
def C.bpr : ICode := .keep [1, 4, 11] (.cond (X.s 11) C.bpp .skip)
def C.bpr_w := pC C.bpr.eq_1
def C.fz_b : LO := [
 X.m 10 4,
 X.o 11 (.bin .neq (X.s 10) (X.i 0))]
def C.fz : LO := C.fz_b
def C.fz_w := pO C.fz.eq_1
def C.bps : ICode := .keep [1, 4] (.seq (.region C.fz) C.bpr)
def C.bps_w := pC C.bps.eq_1
def C.fy_b : LO := [
 X.o 8 (.loadN 4 (X.s 1)),
 X.o 9 (.call F.q25 [X.s 8]),
 X.m 4 9]
def C.fy : LO := C.fy_b
def C.fy_w := pO C.fy.eq_1
def C.bpt : ICode := .keep [1] (.seq (.seq (.region C.fy) C.bps) C.bpn)
def C.bpt_w := pC C.bpt.eq_1
def C.bl_b : LO := [
 X.o 1 (.boxN (X.s 0)),
 X.o 2 (.move (.cst (.nilp))),
 X.o 3 (.move (X.i 0))]
def C.bl : LO := C.bl_b
def C.bl_w := pO C.bl.eq_1
def C.q103 : IFunc := ⟨1, [.slot 2, .slot 3], .seq (.region C.bl) C.bpt⟩
def C.q103_W := aI (aI (aI (aI @C.fq_w (aI @C.bpl_w @C.f5_w)) (aI @C.bpv_w (aI @C.sh_w @C.b4v_w))) (aI (aI @C.f4_w (aI @C.bpj_w @C.bpw_w)) (aI @C.bpx_w (aI @C.f3_w @C.bpk_w)))) (aI (aI (aI @C.bpy_w (aI @C.f2_w @C.bpm_w)) (aI @C.f1_w (aI @C.bpn_w @C.f0_w))) (aI (aI @C.bpp_w (aI @C.bpr_w @C.fz_w)) (aI (aI @C.bps_w @C.fy_w) (aI @C.bpt_w @C.bl_w))))
def C.q103_B := aI (aI (aI @C.fq_b.eq_1 @C.f5_b.eq_1) (aI @C.sh_b.eq_1 (aI @C.f4_b.eq_1 @C.f3_b.eq_1))) (aI (aI @C.f2_b.eq_1 (aI @C.f1_b.eq_1 @C.f0_b.eq_1)) (aI @C.fz_b.eq_1 (aI @C.fy_b.eq_1 @C.bl_b.eq_1)))

def C.gs_b : LO := [
 X.m 36 5,
 X.m 2 36,
 X.o 3 (.move (X.i 0))]
def C.gs : LO := C.gs_b
def C.gs_w := pO C.gs.eq_1
def C.brs : ICode := .keep [5] (.seq (.region C.gs) .ret)
def C.brs_w := pC C.brs.eq_1
def C.gx_b : LO := [
 X.o 35 (.bin .add (X.s 22) (X.i 1)),
 X.m 22 35]
def C.gx : LO := C.gx_b
def C.gx_w := pO C.gx.eq_1
def C.brz : ICode := .keep [5, 20, 21, 22] (.region C.gx)
def C.brz_w := pC C.brz.eq_1
def C.w0_b : LO := [
 X.m 27 5,
 X.o 28 (.nilchk (X.s 27)),
 X.o 29 (.fldAddr 0 (X.s 28)),
 X.o 30 (.load1 (X.s 29)),
 X.m 31 6,
 X.o 32 (.fldAddr 0 (X.s 7)),
 X.o 33 (.load1 (X.s 32)),
 X.o 34 (.build [.int .i64 0, .int .i64 0, .bool false, .bool false] [(0, 1, X.s 33), (2, 1, .cst (.bool true))]),
 X.n (.mapSet (X.s 30) (X.s 31) (X.s 34))]
def C.w0 : LO := C.w0_b
def C.w0_w := pO C.w0.eq_1
def C.b8j : ICode := .keep [5, 6, 7, 20, 21, 22] (.region C.w0)
def C.b8j_w := pC C.b8j.eq_1
def C.gw_b : LO := [
 X.m 24 22,
 X.o 25 (.idxAddr 1 (X.s 20) (X.s 22)),
 X.o 26 (.loadN 1 (X.s 25)),
 X.o 7 (.alloc [.int .i64 0]),
 X.m 6 24,
 X.n (.storeN 1 (X.s 7) (X.s 26))]
def C.gw : LO := C.gw_b
def C.gw_w := pO C.gw.eq_1
def C.brp : ICode := .seq (.region C.gw) C.b8j
def C.brp_w := pC C.brp.eq_1
def C.br0 : ICode := .keep [5, 20, 21, 22] (.seq (.block 1 C.brp) C.brz)
def C.br0_w := pC C.br0.eq_1
def C.br1 : ICode := .keep [5, 20, 21, 22, 23] (.seq (.cond (X.s 23) .skip (.exit 0)) C.br0)
def C.br1_w := pC C.br1.eq_1
def C.gv_b : LO := [
 X.o 23 (.bin .lss (X.s 22) (X.s 21))]
def C.gv : LO := C.gv_b
def C.gv_w := pO C.gv.eq_1
def C.cn9 : ICode := .keep [5, 20, 21, 22] (.seq (.region C.gv) C.br1)
def C.cn9_w := pC C.cn9.eq_1
def C.brr : ICode := .loop C.cn9
def C.brr_w := pC C.brr.eq_1
def C.br2 : ICode := .keep [5, 20, 21, 22] (.block 0 C.brr)
def C.br2_w := pC C.br2.eq_1
def C.gt_b : LO := [
 X.o 19 (.fldAddr 2 (X.s 1)),
 X.o 20 (.load1 (X.s 19)),
 X.o 21 (.len (X.s 20)),
 X.o 22 (.move (X.i 0))]
def C.gt : LO := C.gt_b
def C.gt_w := pO C.gt.eq_1
def C.brt : ICode := .keep [1, 5] (.seq (.seq (.region C.gt) C.br2) C.brs)
def C.brt_w := pC C.brt.eq_1
def C.dv_b : LO := [
 X.o 13 (.fldAddr 2 (X.s 1)),
 X.o 14 (.load1 (X.s 13)),
 X.o 15 (.len (X.s 14)),
 X.o 16 (.makeMap (some (X.s 15))),
 X.o 17 (.build [.nilm] [(0, 1, X.s 16)]),
 X.o 18 (.boxN (X.s 17)),
 X.m 5 18]
def C.dv : LO := C.dv_b
def C.dv_w := pO C.dv.eq_1
def C.brv : ICode := .keep [1] (.seq (.region C.dv) C.brt)
def C.brv_w := pC C.brv.eq_1
def C.dt_b : LO := [
 X.m 12 4,
 X.o 2 (.move (.cst (.nilp))),
 X.m 3 12]
def C.dt : LO := C.dt_b
def C.dt_w := pO C.dt.eq_1
def C.brw : ICode := .seq (.region C.dt) .ret
def C.brw_w := pC C.brw.eq_1
def C.brx : ICode := .keep [1, 4, 11] (.cond (X.s 11) C.brw .skip)
def C.brx_w := pC C.brx.eq_1
def C.ds_b : LO := [
 X.m 10 4,
 X.o 11 (.bin .neq (X.s 10) (X.i 0))]
def C.ds : LO := C.ds_b
def C.ds_w := pO C.ds.eq_1
def C.bry : ICode := .keep [1, 4] (.seq (.region C.ds) C.brx)
def C.bry_w := pC C.bry.eq_1
def C.dr_b : LO := [
 X.o 8 (.loadN 4 (X.s 1)),
 X.o 9 (.call F.q25 [X.s 8]),
 X.m 4 9]
def C.dr : LO := C.dr_b
def C.dr_w := pO C.dr.eq_1
def C.brq : ICode := .keep [1] (.seq (.seq (.region C.dr) C.bry) C.brv)
def C.brq_w := pC C.brq.eq_1
def C.bw_b : LO := [
 X.o 1 (.boxN (X.s 0)),
 X.o 2 (.move (.cst (.nilp))),
 X.o 3 (.move (X.i 0))]
def C.bw : LO := C.bw_b
def C.bw_w := pO C.bw.eq_1
def C.q127 : IFunc := ⟨1, [.slot 2, .slot 3], .seq (.region C.bw) C.brq⟩
def C.q127_W := aI (aI (aI (aI @C.gs_w (aI @C.brs_w @C.gx_w)) (aI @C.brz_w (aI @C.w0_w @C.b8j_w))) (aI (aI @C.gw_w (aI @C.brp_w @C.br0_w)) (aI @C.br1_w (aI @C.gv_w @C.brr_w)))) (aI (aI (aI @C.br2_w (aI @C.gt_w @C.brt_w)) (aI @C.dv_w (aI @C.brv_w @C.dt_w))) (aI (aI @C.brw_w (aI @C.brx_w @C.ds_w)) (aI (aI @C.bry_w @C.dr_w) (aI @C.brq_w @C.bw_w))))
def C.q127_B := aI (aI (aI @C.gs_b.eq_1 @C.gx_b.eq_1) (aI @C.w0_b.eq_1 (aI @C.gw_b.eq_1 @C.gv_b.eq_1))) (aI (aI @C.gt_b.eq_1 (aI @C.dv_b.eq_1 @C.dt_b.eq_1)) (aI @C.ds_b.eq_1 (aI @C.dr_b.eq_1 @C.bw_b.eq_1)))

def C.v8_b : LO := [
 X.m 20 4,
 X.m 2 20,
 X.o 3 (.move (X.i 0))]
def C.v8 : LO := C.v8_b
def C.v8_w := pO C.v8.eq_1
def C.b7j : ICode := .keep [4] (.seq (.region C.v8) .ret)
def C.b7j_w := pC C.b7j.eq_1
def C.v7_b : LO := [
 X.m 18 4,
 X.o 19 (.call F.q109 [X.s 18])]
def C.v7 : LO := C.v7_b
def C.v7_w := pO C.v7.eq_1
def C.b7k : ICode := .keep [4] (.seq (.region C.v7) C.b7j)
def C.b7k_w := pC C.b7k.eq_1
def C.v6_b : LO := [
 X.m 8 0,
 X.m 10 0,
 X.o 11 (.len (X.s 10)),
 X.m 13 0,
 X.o 14 (.len (X.s 13)),
 ⟨some 9, .call F.q128 [X.s 8], none, [], [(X.s 11, X.s 11), (X.s 14, X.s 14)]⟩,
 ⟨some 12, .makeSlice 1 4 [.int .u32 0] (X.s 11) (X.s 11), none, [], [(X.s 14, X.s 14)]⟩,
 X.o 15 (.makeSlice 1 4 [.int .u32 0] (X.s 14) (X.s 14)),
 X.o 16 (.build [.nils, .nils, .nils, .bool false] [(0, 1, X.s 9), (1, 1, X.s 12), (2, 1, X.s 15)]),
 X.o 17 (.boxN (X.s 16)),
 X.m 4 17]
def C.v6 : LO := C.v6_b
def C.v6_w := pO C.v6.eq_1
def C.b7l : ICode := .keep [0] (.seq (.region C.v6) C.b7k)
def C.b7l_w := pC C.b7l.eq_1
def C.v5_b : LO := [
 X.o 2 (.move (.cst (.nilp))),
 X.o 3 (.move (X.i 8))]
def C.v5 : LO := C.v5_b
def C.v5_w := pO C.v5.eq_1
def C.b7m : ICode := .seq (.region C.v5) .ret
def C.b7m_w := pC C.b7m.eq_1
def C.b7n : ICode := .keep [0, 7] (.cond (X.s 7) C.b7m .skip)
def C.b7n_w := pC C.b7n.eq_1
def C.v4_b : LO := [
 X.m 5 0,
 X.o 6 (.len (X.s 5)),
 X.o 7 (.bin .gtr (X.s 6) (X.i 8))]
def C.v4 : LO := C.v4_b
def C.v4_w := pO C.v4.eq_1
def C.b7p : ICode := .keep [0] (.seq (.seq (.region C.v4) C.b7n) C.b7l)
def C.b7p_w := pC C.b7p.eq_1
def C.v3_b : LO := [
 X.o 2 (.move (.cst (.nilp))),
 X.o 3 (.move (X.i 0))]
def C.v3 : LO := C.v3_b
def C.v3_w := pO C.v3.eq_1
def C.q121 : IFunc := ⟨1, [.slot 2, .slot 3], .seq (.region C.v3) C.b7p⟩
def C.q121_W := aI (aI (aI @C.v8_w (aI @C.b7j_w @C.v7_w)) (aI @C.b7k_w (aI @C.v6_w @C.b7l_w))) (aI (aI @C.v5_w (aI @C.b7m_w @C.b7n_w)) (aI @C.v4_w (aI @C.b7p_w @C.v3_w)))
def C.q121_B := aI (aI @C.v8_b.eq_1 (aI @C.v7_b.eq_1 @C.v6_b.eq_1)) (aI @C.v5_b.eq_1 (aI @C.v4_b.eq_1 @C.v3_b.eq_1))

def C.t2_b : LO := [
 X.m 5 0,
 X.o 6 (.nilchk (X.s 5)),
 X.o 7 (.fldAddr 0 (X.s 6)),
 X.o 8 (.load1 (X.s 7)),
 X.o 9 (.len (X.s 8)),
 X.m 2 9]
def C.t2 : LO := C.t2_b
def C.t2_w := pO C.t2.eq_1
def C.b6g : ICode := .keep [0] (.seq (.region C.t2) .ret)
def C.b6g_w := pC C.b6g.eq_1
def C.t1_b : LO := [
 X.o 2 (.move (X.i 0))]
def C.t1 : LO := C.t1_b
def C.t1_w := pO C.t1.eq_1
def C.b6h : ICode := .seq (.region C.t1) .ret
def C.b6h_w := pC C.b6h.eq_1
def C.b6j : ICode := .keep [0, 4] (.cond (X.s 4) C.b6h .skip)
def C.b6j_w := pC C.b6j.eq_1
def C.t0_b : LO := [
 X.m 3 0,
 X.o 4 (.eqP 0 false (X.s 3) (.cst (.nilp)))]
def C.t0 : LO := C.t0_b
def C.t0_w := pO C.t0.eq_1
def C.b6k : ICode := .keep [0] (.seq (.seq (.region C.t0) C.b6j) C.b6g)
def C.b6k_w := pC C.b6k.eq_1
def C.tz_b : LO := [
 X.o 2 (.move (X.i 0))]
def C.tz : LO := C.tz_b
def C.tz_w := pO C.tz.eq_1
def C.q111 : IFunc := ⟨1, [.slot 2], .seq (.region C.tz) C.b6k⟩
def C.q111_W := aI (aI (aI @C.t2_w @C.b6g_w) (aI @C.t1_w @C.b6h_w)) (aI (aI @C.b6j_w @C.t0_w) (aI @C.b6k_w @C.tz_w))
def C.q111_B := aI (aI @C.t2_b.eq_1 @C.t1_b.eq_1) (aI @C.t0_b.eq_1 @C.tz_b.eq_1)

def C.tn_b : LO := [
 X.o 1 (.build [.int .i64 0, .int .i64 0] []),
 X.o 2 (.boxN (X.s 1)),
 X.m 0 2]
def C.tn : LO := C.tn_b
def C.tn_w := pO C.tn.eq_1
def C.b55 : ICode := .keep [] (.seq (.region C.tn) .ret)
def C.b55_w := pC C.b55.eq_1
def C.tm_b : LO := [
 X.o 0 (.move (.cst (.nilp)))]
def C.tm : LO := C.tm_b
def C.tm_w := pO C.tm.eq_1
def C.q108 : IFunc := ⟨0, [.slot 0], .seq (.region C.tm) C.b55⟩
def C.q108_W := aI @C.tn_w (aI @C.b55_w @C.tm_w)
def C.q108_B := aI @C.tn_b.eq_1 @C.tm_b.eq_1

def C.bnd_b : LO := [
 X.m 39 4,
 X.m 2 39,
 X.o 3 (.move (X.i 0))]
def C.bnd : LO := C.bnd_b
def C.bnd_w := pO C.bnd.eq_1
def C.cn5 : ICode := .keep [4] (.seq (.region C.bnd) .ret)
def C.cn5_w := pC C.cn5.eq_1
def C.p7_b : LO := [
 X.o 38 (.bin .add (X.s 20) (X.i 1)),
 X.m 20 38]
def C.p7 : LO := C.p7_b
def C.p7_w := pO C.p7.eq_1
def C.b3s : ICode := .keep [4, 18, 19, 20] (.region C.p7)
def C.b3s_w := pC C.b3s.eq_1
def C.rf_b : LO := [
 X.m 31 4,
 X.o 32 (.nilchk (X.s 31)),
 X.o 33 (.fldAddr 0 (X.s 32)),
 X.o 34 (.load1 (X.s 33)),
 X.m 35 5,
 X.m 36 6,
 X.o 37 (.idxAddr 1 (X.s 34) (X.s 35)),
 X.n (.store1 (X.s 37) (X.s 36))]
def C.rf : LO := C.rf_b
def C.rf_w := pO C.rf.eq_1
def C.b3t : ICode := .keep [4, 5, 6, 18, 19, 20] (.region C.rf)
def C.b3t_w := pC C.b3t.eq_1
def C.rd_b : LO := [
 X.o 2 (.move (.cst (.nilp))),
 X.o 3 (.move (X.i 1))]
def C.rd : LO := C.rd_b
def C.rd_w := pO C.rd.eq_1
def C.b3v : ICode := .seq (.region C.rd) .ret
def C.b3v_w := pC C.b3v.eq_1
def C.b3w : ICode := .keep [4, 5, 6, 18, 19, 20, 30] (.cond (X.s 30) C.b3v .skip)
def C.b3w_w := pC C.b3w.eq_1
def C.rc_b : LO := [
 X.m 25 6,
 X.o 26 (.bin .lss (X.s 25) (X.i 0)),
 X.m 27 26,
 X.f 27 28 (.move (X.s 6)),
 X.f 27 29 (.bin .gtr (X.s 28) (X.i 8)),
 X.o 30 (.pick (X.s 27) (.cst (.bool true)) (X.s 29))]
def C.rc : LO := C.rc_b
def C.rc_w := pO C.rc.eq_1
def C.b3x : ICode := .keep [4, 5, 6, 18, 19, 20] (.seq (.seq (.region C.rc) C.b3w) C.b3t)
def C.b3x_w := pC C.b3x.eq_1
def C.rb_b : LO := [
 X.m 22 20,
 X.o 23 (.idxAddr 1 (X.s 18) (X.s 20)),
 X.o 24 (.load1 (X.s 23)),
 X.m 5 22,
 X.m 6 24]
def C.rb : LO := C.rb_b
def C.rb_w := pO C.rb.eq_1
def C.b3j : ICode := .seq (.region C.rb) C.b3x
def C.b3j_w := pC C.b3j.eq_1
def C.b3y : ICode := .keep [4, 18, 19, 20] (.seq (.block 1 C.b3j) C.b3s)
def C.b3y_w := pC C.b3y.eq_1
def C.b3q : ICode := .keep [4, 18, 19, 20, 21] (.seq (.cond (X.s 21) .skip (.exit 0)) C.b3y)
def C.b3q_w := pC C.b3q.eq_1
def C.p9_b : LO := [
 X.o 21 (.bin .lss (X.s 20) (X.s 19))]
def C.p9 : LO := C.p9_b
def C.p9_w := pO C.p9.eq_1
def C.crr : ICode := .keep [4, 18, 19, 20] (.seq (.region C.p9) C.b3q)
def C.crr_w := pC C.crr.eq_1
def C.b3h : ICode := .loop C.crr
def C.b3h_w := pC C.b3h.eq_1
def C.b3k : ICode := .keep [4, 18, 19, 20] (.block 0 C.b3h)
def C.b3k_w := pC C.b3k.eq_1
def C.p8_b : LO := [
 X.m 18 0,
 X.o 19 (.len (X.s 18)),
 X.o 20 (.move (X.i 0))]
def C.p8 : LO := C.p8_b
def C.p8_w := pO C.p8.eq_1
def C.b3l : ICode := .keep [0, 4] (.seq (.seq (.region C.p8) C.b3k) C.cn5)
def C.b3l_w := pC C.b3l.eq_1
def C.fm_b : LO := [
 X.m 10 0,
 X.o 11 (.len (X.s 10)),
 X.m 13 0,
 X.o 14 (.len (X.s 13)),
 ⟨some 12, .makeSlice 1 8 [.int .i64 0] (X.s 11) (X.s 11), none, [], [(X.s 14, X.s 14)]⟩,
 X.o 15 (.makeSlice 1 24 [.nils] (X.s 14) (X.s 14)),
 X.o 16 (.build [.nils, .nils, .int .i64 0] [(0, 1, X.s 12), (1, 1, X.s 15)]),
 X.o 17 (.boxN (X.s 16)),
 X.m 4 17]
def C.fm : LO := C.fm_b
def C.fm_w := pO C.fm.eq_1
def C.b3m : ICode := .keep [0] (.seq (.region C.fm) C.b3l)
def C.b3m_w := pC C.b3m.eq_1
def C.fl_b : LO := [
 X.o 2 (.move (.cst (.nilp))),
 X.o 3 (.move (X.i 1))]
def C.fl : LO := C.fl_b
def C.fl_w := pO C.fl.eq_1
def C.b3n : ICode := .seq (.region C.fl) .ret
def C.b3n_w := pC C.b3n.eq_1
def C.b3p : ICode := .keep [0, 9] (.cond (X.s 9) C.b3n .skip)
def C.b3p_w := pC C.b3p.eq_1
def C.fk_b : LO := [
 X.m 7 0,
 X.o 8 (.len (X.s 7)),
 X.o 9 (.bin .gtr (X.s 8) (X.i 6))]
def C.fk : LO := C.fk_b
def C.fk_w := pO C.fk.eq_1
def C.b3r : ICode := .keep [0] (.seq (.seq (.region C.fk) C.b3p) C.b3m)
def C.b3r_w := pC C.b3r.eq_1
def C.fj_b : LO := [
 X.o 2 (.move (.cst (.nilp))),
 X.o 3 (.move (X.i 0))]
def C.fj : LO := C.fj_b
def C.fj_w := pO C.fj.eq_1
def C.q9 : IFunc := ⟨1, [.slot 2, .slot 3], .seq (.region C.fj) C.b3r⟩
def C.q9_W := aI (aI (aI (aI @C.bnd_w (aI @C.cn5_w @C.p7_w)) (aI (aI @C.b3s_w @C.rf_w) (aI @C.b3t_w @C.rd_w))) (aI (aI @C.b3v_w (aI @C.b3w_w @C.rc_w)) (aI (aI @C.b3x_w @C.rb_w) (aI @C.b3j_w @C.b3y_w)))) (aI (aI (aI @C.b3q_w (aI @C.p9_w @C.b3h_w)) (aI (aI @C.b3k_w @C.p8_w) (aI @C.b3l_w @C.fm_w))) (aI (aI @C.b3m_w (aI @C.fl_w @C.b3n_w)) (aI (aI @C.b3p_w @C.fk_w) (aI @C.b3r_w @C.fj_w))))
def C.q9_B := aI (aI (aI @C.bnd_b.eq_1 (aI @C.p7_b.eq_1 @C.rf_b.eq_1)) (aI @C.rd_b.eq_1 (aI @C.rc_b.eq_1 @C.rb_b.eq_1))) (aI (aI @C.p9_b.eq_1 (aI @C.p8_b.eq_1 @C.fm_b.eq_1)) (aI @C.fl_b.eq_1 (aI @C.fk_b.eq_1 @C.fj_b.eq_1)))

def C.ys_b : LO := [
 X.m 25 0,
 X.m 26 10,
 X.m 27 1,
 X.m 30 3,
 X.m 31 1,
 X.o 32 (.bin .shl (X.s 30) (X.s 31)),
 X.o 28 (.callv (X.s 26) [X.s 27]),
 X.o 29 (.bin .andNot (X.s 25) (X.s 28)),
 X.o 33 (.bin .or (X.s 29) (X.s 32)),
 X.m 8 33,
 X.o 9 (.move (X.i 0))]
def C.ys : LO := C.ys_b
def C.ys_w := pO C.ys.eq_1
def C.b9y : ICode := .keep [0, 1, 3, 10] (.seq (.region C.ys) .ret)
def C.b9y_w := pC C.b9y.eq_1
def C.yr_b : LO := [
 X.o 8 (.move (.cst (.int .u32 0))),
 X.o 9 (.move (X.i 1))]
def C.yr : LO := C.yr_b
def C.yr_w := pO C.yr.eq_1
def C.b9q : ICode := .seq (.region C.yr) .ret
def C.b9q_w := pC C.b9q.eq_1
def C.b9z : ICode := .keep [0, 1, 3, 10, 24] (.cond (X.s 24) C.b9q .skip)
def C.b9z_w := pC C.b9z.eq_1
def C.yp_b : LO := [
 X.m 20 3,
 X.m 21 10,
 X.o 22 (.callv (X.s 21) [X.i 0]),
 X.o 23 (.bin .andNot (X.s 20) (X.s 22)),
 X.o 24 (.bin .neq (X.s 23) (.cst (.int .u32 0)))]
def C.yp : LO := C.yp_b
def C.yp_w := pO C.yp.eq_1
def C.b90 : ICode := .keep [0, 1, 3, 10] (.seq (.seq (.region C.yp) C.b9z) C.b9y)
def C.b90_w := pC C.b90.eq_1
def C.yn_b : LO := [
 X.o 8 (.move (.cst (.int .u32 0))),
 X.o 9 (.move (X.i 3))]
def C.yn : LO := C.yn_b
def C.yn_w := pO C.yn.eq_1
def C.b91 : ICode := .seq (.region C.yn) .ret
def C.b91_w := pC C.b91.eq_1
def C.b92 : ICode := .keep [0, 1, 3, 10, 19] (.cond (X.s 19) C.b91 .skip)
def C.b92_w := pC C.b92.eq_1
def C.ym_b : LO := [
 X.m 18 11,
 X.o 19 (.un .not (X.s 18))]
def C.ym : LO := C.ym_b
def C.ym_w := pO C.ym.eq_1
def C.b93 : ICode := .keep [0, 1, 3, 10, 11] (.seq (.seq (.region C.ym) C.b92) C.b90)
def C.b93_w := pC C.b93.eq_1
def C.yl_b : LO := [
 X.m 13 1,
 X.m 14 2,
 X.o 15 (.call F.q2 [X.s 13, X.s 14]),
 X.m 12 15,
 X.o 16 (.extract (X.s 12) 0),
 X.o 17 (.extract (X.s 12) 1),
 X.m 10 16,
 X.m 11 17]
def C.yl : LO := C.yl_b
def C.yl_w := pO C.yl.eq_1
def C.b94 : ICode := .keep [0, 1, 2, 3] (.seq (.region C.yl) C.b93)
def C.b94_w := pC C.b94.eq_1
def C.yk_b : LO := [
 X.o 8 (.move (.cst (.int .u32 0))),
 X.o 9 (.move (X.i 0))]
def C.yk : LO := C.yk_b
def C.yk_w := pO C.yk.eq_1
def C.q1 : IFunc := ⟨4, [.slot 8, .slot 9], .seq (.region C.yk) C.b94⟩
def C.q1_W := aI (aI (aI @C.ys_w (aI @C.b9y_w @C.yr_w)) (aI (aI @C.b9q_w @C.b9z_w) (aI @C.yp_w @C.b90_w))) (aI (aI (aI @C.yn_w @C.b91_w) (aI @C.b92_w @C.ym_w)) (aI (aI @C.b93_w @C.yl_w) (aI @C.b94_w @C.yk_w)))
def C.q1_B := aI (aI @C.ys_b.eq_1 (aI @C.yr_b.eq_1 @C.yp_b.eq_1)) (aI (aI @C.yn_b.eq_1 @C.ym_b.eq_1) (aI @C.yl_b.eq_1 @C.yk_b.eq_1))

def C.tx_b : LO := [
 X.m 12 0,
 X.o 13 (.call F.q11 [X.s 12, X.i 16, X.i 8]),
 X.m 14 0,
 X.o 15 (.call F.q11 [X.s 14, X.i 2, X.i 14]),
 X.m 2 13,
 X.m 3 15]
def C.tx : LO := C.tx_b
def C.tx_w := pO C.tx.eq_1
def C.b59 : ICode := .keep [0] (.seq (.region C.tx) .ret)
def C.b59_w := pC C.b59.eq_1
def C.tw_b : LO := [
 X.o 2 (.move (X.i (-1))),
 X.o 3 (.move (X.i (-1)))]
def C.tw : LO := C.tw_b
def C.tw_w := pO C.tw.eq_1
def C.b6b : ICode := .seq (.region C.tw) .ret
def C.b6b_w := pC C.b6b.eq_1
def C.b6c : ICode := .keep [0, 11] (.cond (X.s 11) C.b6b .skip)
def C.b6c_w := pC C.b6c.eq_1
def C.tv_b : LO := [
 X.m 4 0,
 X.o 5 (.call F.q11 [X.s 4, X.i 0, X.i 2]),
 X.o 6 (.bin .neq (X.s 5) (X.i 0)),
 X.m 7 6,
 X.f 7 8 (.move (X.s 0)),
 X.f 7 9 (.call F.q11 [X.s 8, X.i 24, X.i 8]),
 X.f 7 10 (.bin .neq (X.s 9) (X.i 0)),
 X.o 11 (.pick (X.s 7) (.cst (.bool true)) (X.s 10))]
def C.tv : LO := C.tv_b
def C.tv_w := pO C.tv.eq_1
def C.b6d : ICode := .keep [0] (.seq (.seq (.region C.tv) C.b6c) C.b59)
def C.b6d_w := pC C.b6d.eq_1
def C.tt_b : LO := [
 X.o 2 (.move (X.i 0)),
 X.o 3 (.move (X.i 0))]
def C.tt : LO := C.tt_b
def C.tt_w := pO C.tt.eq_1
def C.q10 : IFunc := ⟨1, [.slot 2, .slot 3], .seq (.region C.tt) C.b6d⟩
def C.q10_W := aI (aI (aI @C.tx_w @C.b59_w) (aI @C.tw_w @C.b6b_w)) (aI (aI @C.b6c_w @C.tv_w) (aI @C.b6d_w @C.tt_w))
def C.q10_B := aI (aI @C.tx_b.eq_1 @C.tw_b.eq_1) (aI @C.tv_b.eq_1 @C.tt_b.eq_1)

def C.bmn_b : LO := [
 X.m 5 0,
 X.o 6 (.call F.q95 [X.s 5]),
 X.m 7 6,
 X.t 7 8 (.move (X.s 1)),
 X.t 7 9 (.bin .geq (X.s 8) (X.i 0)),
 X.o 10 (.pick (X.s 7) (X.s 9) (.cst (.bool false))),
 X.m 11 10,
 X.t 11 12 (.move (X.s 1)),
 X.t 11 13 (.move (X.s 0)),
 X.t 11 14 (.nilchk (X.s 13)),
 X.t 11 15 (.fldAddr 4 (X.s 14)),
 X.t 11 16 (.load1 (X.s 15)),
 X.t 11 17 (.len (X.s 16)),
 X.t 11 18 (.bin .lss (X.s 12) (X.s 17)),
 X.o 19 (.pick (X.s 11) (X.s 18) (.cst (.bool false))),
 X.m 4 19]
def C.bmn : LO := C.bmn_b
def C.bmn_w := pO C.bmn.eq_1
def C.cm9 : ICode := .keep [0, 1] (.seq (.region C.bmn) .ret)
def C.cm9_w := pC C.cm9.eq_1
def C.bmm_b : LO := [
 X.o 4 (.move (.cst (.bool false)))]
def C.bmm : LO := C.bmm_b
def C.bmm_w := pO C.bmm.eq_1
def C.q94 : IFunc := ⟨2, [.slot 4], .seq (.region C.bmm) C.cm9⟩
def C.q94_W := aI @C.bmn_w (aI @C.cm9_w @C.bmm_w)
def C.q94_B := aI @C.bmn_b.eq_1 @C.bmm_b.eq_1

def C.tc_b : LO := [
 X.m 5 0,
 X.o 6 (.nilchk (X.s 5)),
 X.o 7 (.fldAddr 0 (X.s 6)),
 X.o 8 (.load1 (X.s 7)),
 X.o 9 (.arrAddr 1 4 (.cst (.iptr [.int .u8 114, .int .u8 97, .int .u8 115, .int .u8 100] 0)) (X.s 8)),
 X.o 10 (.load1 (X.s 9)),
 X.m 2 10]
def C.tc : LO := C.tc_b
def C.tc_w := pO C.tc.eq_1
def C.b5r : ICode := .keep [0] (.seq (.region C.tc) .ret)
def C.b5r_w := pC C.b5r.eq_1
def C.tb_b : LO := [
 X.o 2 (.move (.cst (.int .u8 0)))]
def C.tb : LO := C.tb_b
def C.tb_w := pO C.tb.eq_1
def C.b5s : ICode := .seq (.region C.tb) .ret
def C.b5s_w := pC C.b5s.eq_1
def C.b5t : ICode := .keep [0, 4] (.cond (X.s 4) C.b5s .skip)
def C.b5t_w := pC C.b5t.eq_1
def C.s9_b : LO := [
 X.m 3 0,
 X.o 4 (.eqP 0 false (X.s 3) (.cst (.nilp)))]
def C.s9 : LO := C.s9_b
def C.s9_w := pO C.s9.eq_1
def C.b5v : ICode := .keep [0] (.seq (.seq (.region C.s9) C.b5t) C.b5r)
def C.b5v_w := pC C.b5v.eq_1
def C.s8_b : LO := [
 X.o 2 (.move (.cst (.int .u8 0)))]
def C.s8 : LO := C.s8_b
def C.s8_w := pO C.s8.eq_1
def C.q106 : IFunc := ⟨1, [.slot 2], .seq (.region C.s8) C.b5v⟩
def C.q106_W := aI (aI (aI @C.tc_w @C.b5r_w) (aI @C.tb_w @C.b5s_w)) (aI (aI @C.b5t_w @C.s9_w) (aI @C.b5v_w @C.s8_w))
def C.q106_B := aI (aI @C.tc_b.eq_1 @C.tb_b.eq_1) (aI @C.s9_b.eq_1 @C.s8_b.eq_1)

def C.bf0_b : LO := [
 X.m 77 12,
 X.m 8 77,
 X.o 9 (.move (X.i 0))]
def C.bf0 : LO := C.bf0_b
def C.bf0_w := pO C.bf0.eq_1
def C.cfr : ICode := .keep [12] (.seq (.region C.bf0) .ret)
def C.cfr_w := pC C.cfr.eq_1
def C.bfz_b : LO := [
 X.m 57 0,
 X.o 58 (.nilchk (X.s 57)),
 X.o 59 (.fldAddr 1 (X.s 58)),
 X.o 60 (.load1 (X.s 59)),
 X.m 61 10,
 X.m 62 0,
 X.o 63 (.nilchk (X.s 62)),
 X.o 64 (.fldAddr 1 (X.s 63)),
 X.o 65 (.load1 (X.s 64)),
 X.m 66 10,
 X.o 67 (.idxAddr 1 (X.s 65) (X.s 66)),
 X.o 68 (.load1 (X.s 67)),
 X.m 69 12,
 X.m 70 2,
 X.m 71 11,
 X.m 72 3,
 X.o 73 (.build [.int .i64 0, .bool false, .int .i64 0, .int .u32 0] [(0, 1, X.s 69), (1, 1, X.s 70), (2, 1, X.s 71), (3, 1, X.s 72)]),
 X.o 74 (.buildSlice 4 1 [.int .i64 0, .bool false, .int .i64 0, .int .u32 0] [(0, 4, X.s 73)]),
 ⟨some 75, .append 4 32 (X.s 68) (X.s 74), none, [⟨.load1 (X.s 59), 60, none⟩], []⟩,
 X.o 76 (.idxAddr 1 (X.s 60) (X.s 61)),
 X.n (.store1 (X.s 76) (X.s 75))]
def C.bfz : LO := C.bfz_b
def C.bfz_w := pO C.bfz.eq_1
def C.cfv : ICode := .keep [0, 2, 3, 10, 11, 12] (.seq (.region C.bfz) C.cfr)
def C.cfv_w := pC C.cfv.eq_1
def C.bfq_b : LO := [
 X.m 50 0,
 X.o 51 (.nilchk (X.s 50)),
 X.o 52 (.fldAddr 2 (X.s 51)),
 X.o 53 (.load1 (X.s 52)),
 X.o 54 (.bin .add (X.s 53) (X.i 1)),
 X.o 55 (.nilchk (X.s 50)),
 X.o 56 (.fldAddr 2 (X.s 55)),
 X.n (.store1 (X.s 56) (X.s 54))]
def C.bfq : LO := C.bfq_b
def C.bfq_w := pO C.bfq.eq_1
def C.cfw : ICode := .keep [0, 2, 3, 10, 11, 12] (.seq (.region C.bfq) C.cfv)
def C.cfw_w := pC C.cfw.eq_1
def C.bfy_b : LO := [
 X.m 46 0,
 X.o 47 (.nilchk (X.s 46)),
 X.o 48 (.fldAddr 2 (X.s 47)),
 X.o 49 (.load1 (X.s 48)),
 X.m 12 49]
def C.bfy : LO := C.bfy_b
def C.bfy_w := pO C.bfy.eq_1
def C.cfx : ICode := .keep [0, 2, 3, 10, 11] (.seq (.region C.bfy) C.cfw)
def C.cfx_w := pC C.cfx.eq_1
def C.bfx_b : LO := [
 X.o 8 (.move (X.i 0)),
 X.o 9 (.move (X.i 8))]
def C.bfx : LO := C.bfx_b
def C.bfx_w := pO C.bfx.eq_1
def C.cfy : ICode := .seq (.region C.bfx) .ret
def C.cfy_w := pC C.cfy.eq_1
def C.cfq : ICode := .keep [0, 2, 3, 10, 11, 45] (.cond (X.s 45) C.cfy .skip)
def C.cfq_w := pC C.cfq.eq_1
def C.bfw_b : LO := [
 X.m 37 0,
 X.o 38 (.nilchk (X.s 37)),
 X.o 39 (.fldAddr 1 (X.s 38)),
 X.o 40 (.load1 (X.s 39)),
 X.m 41 10,
 X.o 42 (.idxAddr 1 (X.s 40) (X.s 41)),
 X.o 43 (.load1 (X.s 42)),
 X.o 44 (.len (X.s 43)),
 X.o 45 (.bin .geq (X.s 44) (X.i 4))]
def C.bfw : LO := C.bfw_b
def C.bfw_w := pO C.bfw.eq_1
def C.cfz : ICode := .keep [0, 2, 3, 10, 11] (.seq (.seq (.region C.bfw) C.cfq) C.cfx)
def C.cfz_w := pC C.cfz.eq_1
def C.bfv_b : LO := [
 X.o 8 (.move (X.i 0)),
 X.o 9 (.move (X.i 4))]
def C.bfv : LO := C.bfv_b
def C.bfv_w := pO C.bfv.eq_1
def C.cf0 : ICode := .seq (.region C.bfv) .ret
def C.cf0_w := pC C.cf0.eq_1
def C.cf1 : ICode := .keep [0, 2, 3, 10, 11, 36] (.cond (X.s 36) C.cf0 .skip)
def C.cf1_w := pC C.cf1.eq_1
def C.bft_b : LO := [
 X.m 18 0,
 X.m 19 10,
 X.o 20 (.call F.q8 [X.s 18, X.s 19]),
 X.o 21 (.un .not (X.s 20)),
 X.m 22 21,
 X.f 22 23 (.move (X.s 11)),
 X.f 22 24 (.bin .lss (X.s 23) (X.i 0)),
 X.o 25 (.pick (X.s 22) (.cst (.bool true)) (X.s 24)),
 X.m 26 25,
 X.f 26 27 (.move (X.s 11)),
 X.f 26 28 (.move (X.s 0)),
 X.f 26 29 (.nilchk (X.s 28)),
 X.f 26 30 (.fldAddr 0 (X.s 29)),
 X.f 26 31 (.load1 (X.s 30)),
 X.f 26 32 (.move (X.s 10)),
 X.f 26 33 (.idxAddr 1 (X.s 31) (X.s 32)),
 X.f 26 34 (.load1 (X.s 33)),
 X.f 26 35 (.bin .geq (X.s 27) (X.s 34)),
 X.o 36 (.pick (X.s 26) (.cst (.bool true)) (X.s 35))]
def C.bft : LO := C.bft_b
def C.bft_w := pO C.bft.eq_1
def C.cfs : ICode := .keep [0, 2, 3, 10, 11] (.seq (.seq (.region C.bft) C.cf1) C.cfz)
def C.cfs_w := pC C.cfs.eq_1
def C.bfs_b : LO := [
 X.m 14 1,
 X.o 15 (.call F.q10 [X.s 14]),
 X.m 13 15,
 X.o 16 (.extract (X.s 13) 0),
 X.o 17 (.extract (X.s 13) 1),
 X.m 10 16,
 X.m 11 17]
def C.bfs : LO := C.bfs_b
def C.bfs_w := pO C.bfs.eq_1
def C.cft : ICode := .keep [0, 1, 2, 3] (.seq (.region C.bfs) C.cfs)
def C.cft_w := pC C.cft.eq_1
def C.bfr_b : LO := [
 X.o 8 (.move (X.i 0)),
 X.o 9 (.move (X.i 0))]
def C.bfr : LO := C.bfr_b
def C.bfr_w := pO C.bfr.eq_1
def C.q5 : IFunc := ⟨4, [.slot 8, .slot 9], .seq (.region C.bfr) C.cft⟩
def C.q5_W := aI (aI (aI (aI @C.bf0_w @C.cfr_w) (aI @C.bfz_w (aI @C.cfv_w @C.bfq_w))) (aI (aI @C.cfw_w @C.bfy_w) (aI @C.cfx_w (aI @C.bfx_w @C.cfy_w)))) (aI (aI (aI @C.cfq_w @C.bfw_w) (aI @C.cfz_w (aI @C.bfv_w @C.cf0_w))) (aI (aI @C.cf1_w (aI @C.bft_w @C.cfs_w)) (aI @C.bfs_w (aI @C.cft_w @C.bfr_w))))
def C.q5_B := aI (aI (aI @C.bf0_b.eq_1 @C.bfz_b.eq_1) (aI @C.bfq_b.eq_1 (aI @C.bfy_b.eq_1 @C.bfx_b.eq_1))) (aI (aI @C.bfw_b.eq_1 @C.bfv_b.eq_1) (aI @C.bft_b.eq_1 (aI @C.bfs_b.eq_1 @C.bfr_b.eq_1)))

def C.bmr_b : LO := [
 X.m 3 0,
 X.o 4 (.eqP 0 true (X.s 3) (.cst (.nilp))),
 X.m 5 4,
 X.t 5 6 (.move (X.s 0)),
 X.t 5 7 (.nilchk (X.s 6)),
 X.t 5 8 (.fldAddr 0 (X.s 7)),
 X.t 5 9 (.load1 (X.s 8)),
 X.t 5 10 (.eqP 0 true (X.s 9) (.cst (.nilp))),
 X.o 11 (.pick (X.s 5) (X.s 10) (.cst (.bool false))),
 X.m 12 11,
 X.t 12 13 (.move (X.s 0)),
 X.t 12 14 (.nilchk (X.s 13)),
 X.t 12 15 (.fldAddr 1 (X.s 14)),
 X.t 12 16 (.load1 (X.s 15)),
 X.t 12 17 (.eqP 0 true (X.s 16) (.cst (.nilp))),
 X.o 18 (.pick (X.s 12) (X.s 17) (.cst (.bool false))),
 X.m 19 18,
 X.t 19 20 (.move (X.s 0)),
 X.t 19 21 (.nilchk (X.s 20)),
 X.t 19 22 (.fldAddr 2 (X.s 21)),
 X.t 19 23 (.load1 (X.s 22)),
 X.t 19 24 (.eqP 0 true (X.s 23) (.cst (.nilp))),
 X.o 25 (.pick (X.s 19) (X.s 24) (.cst (.bool false))),
 X.m 26 25,
 X.t 26 27 (.move (X.s 0)),
 X.t 26 28 (.nilchk (X.s 27)),
 X.t 26 29 (.fldAddr 3 (X.s 28)),
 X.t 26 30 (.load1 (X.s 29)),
 X.t 26 31 (.eqP 0 true (X.s 30) (.cst (.nilp))),
 X.o 32 (.pick (X.s 26) (X.s 31) (.cst (.bool false))),
 X.m 2 32]
def C.bmr : LO := C.bmr_b
def C.bmr_w := pO C.bmr.eq_1
def C.cnb : ICode := .keep [0] (.seq (.region C.bmr) .ret)
def C.cnb_w := pC C.cnb.eq_1
def C.bmp_b : LO := [
 X.o 2 (.move (.cst (.bool false)))]
def C.bmp : LO := C.bmp_b
def C.bmp_w := pO C.bmp.eq_1
def C.q95 : IFunc := ⟨1, [.slot 2], .seq (.region C.bmp) C.cnb⟩
def C.q95_W := aI @C.bmr_w (aI @C.cnb_w @C.bmp_w)
def C.q95_B := aI @C.bmr_b.eq_1 @C.bmp_b.eq_1

def C.bml_b : LO := [
 X.o 57 (.fldAddr 0 (X.s 6)),
 X.o 58 (.load1 (X.s 57)),
 X.m 59 1,
 X.m 60 9,
 X.o 61 (.build [.int .i64 0, .int .i64 0, .bool false, .int .u32 0] [(0, 1, X.s 58), (1, 1, X.s 59), (3, 1, X.s 60)]),
 X.n (.storeN 4 (X.s 4) (X.s 61)),
 X.o 5 (.move (.cst (.bool true)))]
def C.bml : LO := C.bml_b
def C.bml_w := pO C.bml.eq_1
def C.bmk : ICode := .keep [1, 4, 6, 9] (.seq (.region C.bml) .ret)
def C.bmk_w := pC C.bmk.eq_1
def C.n8_b : LO := [
 X.o 50 (.fldAddr 4 (X.s 8)),
 X.o 51 (.load1 (X.s 50)),
 X.o 52 (.fldAddr 2 (X.s 6)),
 X.o 53 (.load1 (X.s 52)),
 X.o 54 (.fldAddr 3 (X.s 6)),
 X.o 55 (.load1 (X.s 54)),
 X.o 56 (.call F.q117 [X.s 51, X.s 53, X.s 55])]
def C.n8 : LO := C.n8_b
def C.n8_w := pO C.n8.eq_1
def C.b1s : ICode := .keep [1, 4, 6, 8, 9, 49] (.cond (X.s 49) (.region C.n8) .skip)
def C.b1s_w := pC C.b1s.eq_1
def C.n7_b : LO := [
 X.o 48 (.fldAddr 1 (X.s 6)),
 X.o 49 (.load1 (X.s 48))]
def C.n7 : LO := C.n7_b
def C.n7_w := pO C.n7.eq_1
def C.b1t : ICode := .keep [1, 4, 6, 8, 9] (.seq (.seq (.region C.n7) C.b1s) C.bmk)
def C.b1t_w := pC C.b1t.eq_1
def C.n6_b : LO := [
 X.o 41 (.fldAddr 4 (X.s 8)),
 X.o 42 (.load1 (X.s 41)),
 X.o 43 (.fldAddr 2 (X.s 6)),
 X.o 44 (.load1 (X.s 43)),
 X.o 45 (.call F.q112 [X.s 42, X.s 44]),
 X.m 40 45,
 X.o 46 (.extract (X.s 40) 0),
 X.o 47 (.extract (X.s 40) 1),
 X.m 9 46,
 X.m 10 47]
def C.n6 : LO := C.n6_b
def C.n6_w := pO C.n6.eq_1
def C.b1v : ICode := .keep [1, 4, 6, 8] (.seq (.region C.n6) C.b1t)
def C.b1v_w := pC C.b1v.eq_1
def C.n5_b : LO := [
 X.o 34 (.fldAddr 0 (X.s 6)),
 X.o 35 (.load1 (X.s 34)),
 X.m 36 1,
 X.o 37 (.fldAddr 3 (X.s 8)),
 X.o 38 (.load1 (X.s 37)),
 X.o 39 (.build [.int .i64 0, .int .i64 0, .bool false, .int .u32 0] [(0, 1, X.s 35), (1, 1, X.s 36), (2, 1, .cst (.bool true)), (3, 1, X.s 38)]),
 X.n (.storeN 4 (X.s 4) (X.s 39)),
 X.o 5 (.move (.cst (.bool true)))]
def C.n5 : LO := C.n5_b
def C.n5_w := pO C.n5.eq_1
def C.b1w : ICode := .seq (.region C.n5) .ret
def C.b1w_w := pC C.b1w.eq_1
def C.b1x : ICode := .keep [1, 4, 6, 8, 33] (.cond (X.s 33) C.b1w .skip)
def C.b1x_w := pC C.b1x.eq_1
def C.n4_b : LO := [
 X.m 30 0,
 X.m 31 1,
 X.o 32 (.call F.q81 [X.s 30, X.s 31]),
 X.o 33 (.un .not (X.s 32))]
def C.n4 : LO := C.n4_b
def C.n4_w := pO C.n4.eq_1
def C.b1y : ICode := .keep [0, 1, 4, 6, 8] (.seq (.seq (.region C.n4) C.b1x) C.b1v)
def C.b1y_w := pC C.b1y.eq_1
def C.n3_b : LO := [
 X.m 23 0,
 X.o 24 (.nilchk (X.s 23)),
 X.o 25 (.fldAddr 4 (X.s 24)),
 X.o 26 (.load1 (X.s 25)),
 X.m 27 1,
 X.o 28 (.idxAddr 6 (X.s 26) (X.s 27)),
 X.o 29 (.loadN 6 (X.s 28)),
 X.o 8 (.alloc [.int .i64 0, .int .i64 0, .int .i64 0, .int .u32 0, .nilp, .nilp]),
 X.n (.storeN 6 (X.s 8) (X.s 29))]
def C.n3 : LO := C.n3_b
def C.n3_w := pO C.n3.eq_1
def C.b1q : ICode := .keep [0, 1, 4, 6] (.seq (.region C.n3) C.b1y)
def C.b1q_w := pC C.b1q.eq_1
def C.n2_b : LO := [
 X.o 22 (.build [.int .i64 0, .int .i64 0, .bool false, .int .u32 0] []),
 X.n (.storeN 4 (X.s 4) (X.s 22)),
 X.o 5 (.move (.cst (.bool false)))]
def C.n2 : LO := C.n2_b
def C.n2_w := pO C.n2.eq_1
def C.b1z : ICode := .seq (.region C.n2) .ret
def C.b1z_w := pC C.b1z.eq_1
def C.b1n : ICode := .keep [0, 1, 4, 6, 21] (.cond (X.s 21) C.b1z .skip)
def C.b1n_w := pC C.b1n.eq_1
def C.n1_b : LO := [
 X.m 20 7,
 X.o 21 (.un .not (X.s 20))]
def C.n1 : LO := C.n1_b
def C.n1_w := pO C.n1.eq_1
def C.b1p : ICode := .keep [0, 1, 4, 6, 7] (.seq (.seq (.region C.n1) C.b1n) C.b1q)
def C.b1p_w := pC C.b1p.eq_1
def C.bk_b : LO := [
 X.m 12 0,
 X.o 13 (.nilchk (X.s 12)),
 X.o 14 (.fldAddr 3 (X.s 13)),
 X.o 15 (.load1 (X.s 14)),
 X.m 16 1,
 X.o 17 (.call F.q6 [X.s 15, X.s 16]),
 X.m 11 17,
 X.o 18 (.extract (X.s 11) 0),
 X.o 19 (.extract (X.s 11) 1),
 X.o 6 (.alloc [.int .i64 0, .bool false, .int .i64 0, .int .u32 0]),
 X.n (.storeN 4 (X.s 6) (X.s 18)),
 X.m 7 19]
def C.bk : LO := C.bk_b
def C.bk_w := pO C.bk.eq_1
def C.b1r : ICode := .keep [0, 1, 4] (.seq (.region C.bk) C.b1p)
def C.b1r_w := pC C.b1r.eq_1
def C.bd_b : LO := [
 X.o 4 (.alloc [.int .i64 0, .int .i64 0, .bool false, .int .u32 0]),
 X.o 5 (.move (.cst (.bool false)))]
def C.bd : LO := C.bd_b
def C.bd_w := pO C.bd.eq_1
def C.q93 : IFunc := ⟨2, [.cellN 4 4, .slot 5], .seq (.region C.bd) C.b1r⟩
def C.q93_W := aI (aI (aI (aI @C.bml_w @C.bmk_w) (aI @C.n8_w (aI @C.b1s_w @C.n7_w))) (aI (aI @C.b1t_w (aI @C.n6_w @C.b1v_w)) (aI @C.n5_w (aI @C.b1w_w @C.b1x_w)))) (aI (aI (aI @C.n4_w (aI @C.b1y_w @C.n3_w)) (aI @C.b1q_w (aI @C.n2_w @C.b1z_w))) (aI (aI @C.b1n_w (aI @C.n1_w @C.b1p_w)) (aI @C.bk_w (aI @C.b1r_w @C.bd_w))))
def C.q93_B := aI (aI (aI @C.bml_b.eq_1 @C.n8_b.eq_1) (aI @C.n7_b.eq_1 (aI @C.n6_b.eq_1 @C.n5_b.eq_1))) (aI (aI @C.n4_b.eq_1 (aI @C.n3_b.eq_1 @C.n2_b.eq_1)) (aI @C.n1_b.eq_1 (aI @C.bk_b.eq_1 @C.bd_b.eq_1)))

def C.th_b : LO := [
 X.m 20 0,
 X.o 21 (.nilchk (X.s 20)),
 X.o 22 (.fldAddr 1 (X.s 21)),
 X.o 23 (.load1 (X.s 22)),
 X.o 24 (.bin .add (X.s 23) (X.i 1)),
 X.o 25 (.nilchk (X.s 20)),
 X.o 26 (.fldAddr 1 (X.s 25)),
 X.n (.store1 (X.s 26) (X.s 24))]
def C.th : LO := C.th_b
def C.th_w := pO C.th.eq_1
def C.b5x : ICode := .keep [0] (.region C.th)
def C.b5x_w := pC C.b5x.eq_1
def C.tg_b : LO := [
 X.m 17 0,
 X.o 18 (.nilchk (X.s 17)),
 X.o 19 (.fldAddr 0 (X.s 18)),
 X.n (.store1 (X.s 19) (X.i 3))]
def C.tg : LO := C.tg_b
def C.tg_w := pO C.tg.eq_1
def C.tl_b : LO := [
 X.m 33 0,
 X.o 34 (.nilchk (X.s 33)),
 X.o 35 (.fldAddr 1 (X.s 34)),
 X.n (.store1 (X.s 35) (X.i 0))]
def C.tl : LO := C.tl_b
def C.tl_w := pO C.tl.eq_1
def C.b5q : ICode := .keep [0] (.region C.tl)
def C.b5q_w := pC C.b5q.eq_1
def C.tk_b : LO := [
 X.m 30 0,
 X.o 31 (.nilchk (X.s 30)),
 X.o 32 (.fldAddr 0 (X.s 31)),
 X.n (.store1 (X.s 32) (X.i 2))]
def C.tk : LO := C.tk_b
def C.tk_w := pO C.tk.eq_1
def C.b5z : ICode := .seq (.region C.tk) C.b5q
def C.b5z_w := pC C.b5z.eq_1
def C.b50 : ICode := .keep [0, 27] (.cond (X.s 27) C.b5z .skip)
def C.b50_w := pC C.b50.eq_1
def C.tj_b : LO := [
 X.m 28 1,
 X.o 29 (.un .not (X.s 28)),
 X.m 27 29]
def C.tj : LO := C.tj_b
def C.tj_w := pO C.tj.eq_1
def C.b51 : ICode := .seq (.region C.tg) C.b5x
def C.b51_w := pC C.b51.eq_1
def C.b52 : ICode := .seq (.region C.tj) C.b50
def C.b52_w := pC C.b52.eq_1
def C.b53 : ICode := .keep [0, 1, 15] (.cond (X.s 15) C.b51 C.b52)
def C.b53_w := pC C.b53.eq_1
def C.tf_b : LO := [
 X.m 16 2,
 X.m 15 16]
def C.tf : LO := C.tf_b
def C.tf_w := pO C.tf.eq_1
def C.b5w : ICode := .seq (.region C.tf) C.b53
def C.b5w_w := pC C.b5w.eq_1
def C.b54 : ICode := .keep [0, 1, 2] (.block 0 C.b5w)
def C.b54_w := pC C.b54.eq_1
def C.b5y : ICode := .keep [0, 1, 2, 14] (.cond (X.s 14) .ret .skip)
def C.b5y_w := pC C.b5y.eq_1
def C.td_b : LO := [
 X.m 6 0,
 X.o 7 (.eqP 0 false (X.s 6) (.cst (.nilp))),
 X.m 8 7,
 X.f 8 9 (.move (X.s 0)),
 X.f 8 10 (.nilchk (X.s 9)),
 X.f 8 11 (.fldAddr 0 (X.s 10)),
 X.f 8 12 (.load1 (X.s 11)),
 X.f 8 13 (.bin .neq (X.s 12) (X.i 1)),
 X.o 14 (.pick (X.s 8) (.cst (.bool true)) (X.s 13))]
def C.td : LO := C.td_b
def C.td_w := pO C.td.eq_1
def C.q107 : IFunc := ⟨3, [], .seq (.seq (.region C.td) C.b5y) C.b54⟩
def C.q107_W := aI (aI (aI (aI @C.th_w @C.b5x_w) (aI @C.tg_w @C.tl_w)) (aI (aI @C.b5q_w @C.tk_w) (aI @C.b5z_w @C.b50_w))) (aI (aI (aI @C.tj_w @C.b51_w) (aI @C.b52_w @C.b53_w)) (aI (aI @C.tf_w @C.b5w_w) (aI @C.b54_w (aI @C.b5y_w @C.td_w))))
def C.q107_B := aI (aI @C.th_b.eq_1 (aI @C.tg_b.eq_1 @C.tl_b.eq_1)) (aI (aI @C.tk_b.eq_1 @C.tj_b.eq_1) (aI @C.tf_b.eq_1 @C.td_b.eq_1))

def C.bkt_b : LO := [
 X.m 9 0,
 X.o 10 (.nilchk (X.s 9)),
 X.o 11 (.fldAddr 1 (X.s 10)),
 X.o 12 (.load1 (X.s 11)),
 X.m 13 1,
 X.o 14 (.idxAddr 1 (X.s 12) (X.s 13)),
 X.o 15 (.load1 (X.s 14)),
 X.o 16 (.len (X.s 15)),
 X.m 4 16]
def C.bkt : LO := C.bkt_b
def C.bkt_w := pO C.bkt.eq_1
def C.clb : ICode := .keep [0, 1] (.seq (.region C.bkt) .ret)
def C.clb_w := pC C.clb.eq_1
def C.bks_b : LO := [
 X.o 4 (.move (X.i 0))]
def C.bks : LO := C.bks_b
def C.bks_w := pO C.bks.eq_1
def C.clc : ICode := .seq (.region C.bks) .ret
def C.clc_w := pC C.clc.eq_1
def C.cld : ICode := .keep [0, 1, 8] (.cond (X.s 8) C.clc .skip)
def C.cld_w := pC C.cld.eq_1
def C.bkr_b : LO := [
 X.m 5 0,
 X.m 6 1,
 X.o 7 (.call F.q8 [X.s 5, X.s 6]),
 X.o 8 (.un .not (X.s 7))]
def C.bkr : LO := C.bkr_b
def C.bkr_w := pO C.bkr.eq_1
def C.clf : ICode := .keep [0, 1] (.seq (.seq (.region C.bkr) C.cld) C.clb)
def C.clf_w := pC C.clf.eq_1
def C.bkp_b : LO := [
 X.o 4 (.move (X.i 0))]
def C.bkp : LO := C.bkp_b
def C.bkp_w := pO C.bkp.eq_1
def C.q7 : IFunc := ⟨2, [.slot 4], .seq (.region C.bkp) C.clf⟩
def C.q7_W := aI (aI (aI @C.bkt_w @C.clb_w) (aI @C.bks_w @C.clc_w)) (aI (aI @C.cld_w @C.bkr_w) (aI @C.clf_w @C.bkp_w))
def C.q7_B := aI (aI @C.bkt_b.eq_1 @C.bks_b.eq_1) (aI @C.bkr_b.eq_1 @C.bkp_b.eq_1)

def C.k9_b : LO := [
 X.o 158 (.bin .add (X.s 34) (X.i 1)),
 X.m 34 158]
def C.k9 : LO := C.k9_b
def C.k9_w := pO C.k9.eq_1
def C.y9 : ICode := .keep [0, 2, 33, 34] (.region C.k9)
def C.y9_w := pC C.y9.eq_1
def C.k5_b : LO := [
 X.m 65 5,
 X.m 66 5,
 X.o 67 (.nilchk (X.s 66)),
 X.o 68 (.fldAddr 0 (X.s 67)),
 X.o 69 (.fldAddr 5 (X.s 68)),
 X.o 70 (.load1 (X.s 69)),
 X.o 71 (.nilchk (X.s 65)),
 X.o 72 (.fldAddr 7 (X.s 71)),
 X.n (.store1 (X.s 72) (X.s 70))]
def C.k5 : LO := C.k5_b
def C.k5_w := pO C.k5.eq_1
def C.k7_b : LO := [
 X.m 93 5,
 X.o 94 (.nilchk (X.s 93)),
 X.o 95 (.fldAddr 7 (X.s 94)),
 X.o 96 (.load1 (X.s 95)),
 X.o 97 (.bin .sub (X.s 96) (X.i 1)),
 X.o 98 (.nilchk (X.s 93)),
 X.o 99 (.fldAddr 7 (X.s 98)),
 X.n (.store1 (X.s 99) (X.s 97))]
def C.k7 : LO := C.k7_b
def C.k7_w := pO C.k7.eq_1
def C.bbc_b : LO := [
 X.m 151 5,
 X.m 152 5,
 X.o 153 (.nilchk (X.s 152)),
 X.o 154 (.fldAddr 9 (X.s 153)),
 X.o 155 (.load1 (X.s 154)),
 X.o 156 (.nilchk (X.s 151)),
 X.o 157 (.fldAddr 8 (X.s 156)),
 X.n (.store1 (X.s 157) (X.s 155))]
def C.bbc : LO := C.bbc_b
def C.bbc_w := pO C.bbc.eq_1
def C.c6 : ICode := .keep [0, 2, 5, 33, 34, 100] (.cond (X.s 100) (.region C.bbc) .skip)
def C.c6_w := pC C.c6.eq_1
def C.k8_b : LO := [
 X.m 101 5,
 X.o 102 (.nilchk (X.s 101)),
 X.o 103 (.fldAddr 0 (X.s 102)),
 X.o 104 (.fldAddr 0 (X.s 103)),
 X.o 105 (.load1 (X.s 104)),
 X.o 106 (.bin .eql (X.s 105) (.cst (.int .u8 109))),
 X.m 107 106,
 X.t 107 108 (.move (X.s 5)),
 X.t 107 109 (.nilchk (X.s 108)),
 X.t 107 110 (.fldAddr 9 (X.s 109)),
 X.t 107 111 (.load1 (X.s 110)),
 X.t 107 112 (.move (X.s 5)),
 X.t 107 113 (.nilchk (X.s 112)),
 X.t 107 114 (.fldAddr 8 (X.s 113)),
 X.t 107 115 (.load1 (X.s 114)),
 X.t 107 116 (.bin .neq (X.s 111) (X.s 115)),
 X.o 117 (.pick (X.s 107) (X.s 116) (.cst (.bool false))),
 X.m 118 117,
 X.t 118 119 (.move (X.s 2)),
 X.t 118 120 (.move (X.s 5)),
 X.t 118 121 (.nilchk (X.s 120)),
 X.t 118 122 (.fldAddr 0 (X.s 121)),
 X.t 118 123 (.fldAddr 1 (X.s 122)),
 X.t 118 124 (.load1 (X.s 123)),
 X.t 118 125 (.move (X.s 5)),
 X.t 118 126 (.nilchk (X.s 125)),
 X.t 118 127 (.fldAddr 9 (X.s 126)),
 X.t 118 128 (.load1 (X.s 127)),
 X.t 118 129 (.idxAddr 1 (X.s 124) (X.s 128)),
 X.t 118 130 (.load1 (X.s 129)),
 X.t 118 131 (.idxAddr 1 (X.s 119) (X.s 130)),
 X.t 118 132 (.load1 (X.s 131)),
 X.t 118 133 (.move (X.s 132)),
 X.f 133 134 (.move (X.s 2)),
 X.f 133 135 (.move (X.s 5)),
 X.f 133 136 (.nilchk (X.s 135)),
 X.f 133 137 (.fldAddr 0 (X.s 136)),
 X.f 133 138 (.fldAddr 1 (X.s 137)),
 X.f 133 139 (.load1 (X.s 138)),
 X.f 133 140 (.move (X.s 5)),
 X.f 133 141 (.nilchk (X.s 140)),
 X.f 133 142 (.fldAddr 8 (X.s 141)),
 X.f 133 143 (.load1 (X.s 142)),
 X.f 133 144 (.idxAddr 1 (X.s 139) (X.s 143)),
 X.f 133 145 (.load1 (X.s 144)),
 X.f 133 146 (.idxAddr 1 (X.s 134) (X.s 145)),
 X.f 133 147 (.load1 (X.s 146)),
 X.f 133 148 (.un .not (X.s 147)),
 X.t 118 149 (.pick (X.s 133) (.cst (.bool true)) (X.s 148)),
 X.o 150 (.pick (X.s 118) (X.s 149) (.cst (.bool false))),
 X.m 100 150]
def C.k8 : LO := C.k8_b
def C.k8_w := pO C.k8.eq_1
def C.byv : ICode := .seq (.region C.k8) C.c6
def C.byv_w := pC C.byv.eq_1
def C.b0 : ICode := .keep [0, 2, 5, 33, 34, 73] (.cond (X.s 73) (.region C.k7) C.byv)
def C.b0_w := pC C.b0.eq_1
def C.k6_b : LO := [
 X.m 74 5,
 X.o 75 (.nilchk (X.s 74)),
 X.o 76 (.fldAddr 0 (X.s 75)),
 X.o 77 (.fldAddr 0 (X.s 76)),
 X.o 78 (.load1 (X.s 77)),
 X.o 79 (.bin .eql (X.s 78) (.cst (.int .u8 112))),
 X.m 80 79,
 X.t 80 81 (.move (X.s 5)),
 X.t 80 82 (.nilchk (X.s 81)),
 X.t 80 83 (.fldAddr 6 (X.s 82)),
 X.t 80 84 (.load1 (X.s 83)),
 X.o 85 (.pick (X.s 80) (X.s 84) (.cst (.bool false))),
 X.m 86 85,
 X.t 86 87 (.move (X.s 5)),
 X.t 86 88 (.nilchk (X.s 87)),
 X.t 86 89 (.fldAddr 7 (X.s 88)),
 X.t 86 90 (.load1 (X.s 89)),
 X.t 86 91 (.bin .gtr (X.s 90) (X.i 0)),
 X.o 92 (.pick (X.s 86) (X.s 91) (.cst (.bool false))),
 X.m 73 92]
def C.k6 : LO := C.k6_b
def C.k6_w := pO C.k6.eq_1
def C.byw : ICode := .seq (.region C.k6) C.b0
def C.byw_w := pC C.byw.eq_1
def C.bv : ICode := .keep [0, 2, 5, 33, 34, 43] (.cond (X.s 43) (.region C.k5) C.byw)
def C.bv_w := pC C.bv.eq_1
def C.k4_b : LO := [
 X.m 44 5,
 X.o 45 (.nilchk (X.s 44)),
 X.o 46 (.fldAddr 0 (X.s 45)),
 X.o 47 (.fldAddr 0 (X.s 46)),
 X.o 48 (.load1 (X.s 47)),
 X.o 49 (.bin .eql (X.s 48) (.cst (.int .u8 112))),
 X.m 50 49,
 X.t 50 51 (.move (X.s 5)),
 X.t 50 52 (.nilchk (X.s 51)),
 X.t 50 53 (.fldAddr 6 (X.s 52)),
 X.t 50 54 (.load1 (X.s 53)),
 X.o 55 (.pick (X.s 50) (X.s 54) (.cst (.bool false))),
 X.m 56 55,
 X.t 56 57 (.move (X.s 2)),
 X.t 56 58 (.move (X.s 0)),
 X.t 56 59 (.move (X.s 4)),
 X.t 56 60 (.call F.q24 [X.s 58, X.s 59]),
 X.t 56 61 (.idxAddr 1 (X.s 57) (X.s 60)),
 X.t 56 62 (.load1 (X.s 61)),
 X.t 56 63 (.un .not (X.s 62)),
 X.o 64 (.pick (X.s 56) (X.s 63) (.cst (.bool false))),
 X.m 43 64]
def C.k4 : LO := C.k4_b
def C.k4_w := pO C.k4.eq_1
def C.byd : ICode := .seq (.region C.k4) C.bv
def C.byd_w := pC C.byd.eq_1
def C.byx : ICode := .keep [0, 2, 4, 5, 33, 34] (.block 4 C.byd)
def C.byx_w := pC C.byx.eq_1
def C.k3_b : LO := [
 X.m 37 0,
 X.o 38 (.nilchk (X.s 37)),
 X.o 39 (.fldAddr 0 (X.s 38)),
 X.o 40 (.load1 (X.s 39)),
 X.m 41 4,
 X.o 42 (.idxAddr 11 (X.s 40) (X.s 41)),
 X.m 5 42]
def C.k3 : LO := C.k3_b
def C.k3_w := pO C.k3.eq_1
def C.bbb : ICode := .keep [0, 2, 4, 33, 34] (.seq (.region C.k3) C.byx)
def C.bbb_w := pC C.bbb.eq_1
def C.lk_b : LO := [
 X.m 36 34,
 X.m 4 36]
def C.lk : LO := C.lk_b
def C.lk_w := pO C.lk.eq_1
def C.bx8 : ICode := .seq (.region C.lk) C.bbb
def C.bx8_w := pC C.bx8.eq_1
def C.byf : ICode := .keep [0, 2, 33, 34] (.seq (.block 3 C.bx8) C.y9)
def C.byf_w := pC C.byf.eq_1
def C.byg : ICode := .keep [0, 2, 33, 34, 35] (.seq (.cond (X.s 35) .skip (.exit 2)) C.byf)
def C.byg_w := pC C.byg.eq_1
def C.lj_b : LO := [
 X.o 35 (.bin .lss (X.s 34) (X.s 33))]
def C.lj : LO := C.lj_b
def C.lj_w := pO C.lj.eq_1
def C.cpw : ICode := .keep [0, 2, 33, 34] (.seq (.region C.lj) C.byg)
def C.cpw_w := pC C.cpw.eq_1
def C.bx9 : ICode := .loop C.cpw
def C.bx9_w := pC C.bx9.eq_1
def C.byh : ICode := .keep [0, 2, 33, 34] (.block 2 C.bx9)
def C.byh_w := pC C.byh.eq_1
def C.lh_b : LO := [
 X.m 29 0,
 X.o 30 (.nilchk (X.s 29)),
 X.o 31 (.fldAddr 0 (X.s 30)),
 X.o 32 (.load1 (X.s 31)),
 X.o 33 (.len (X.s 32)),
 X.o 34 (.move (X.i 0))]
def C.lh : LO := C.lh_b
def C.lh_w := pO C.lh.eq_1
def C.byj : ICode := .keep [0, 2] (.seq (.region C.lh) C.byh)
def C.byj_w := pC C.byj.eq_1
def C.lg_b : LO := [
 X.o 28 (.bin .add (X.s 19) (X.i 1)),
 X.m 19 28]
def C.lg : LO := C.lg_b
def C.lg_w := pO C.lg.eq_1
def C.byk : ICode := .keep [0, 2, 18, 19] (.region C.lg)
def C.byk_w := pC C.byk.eq_1
def C.lf_b : LO := [
 X.m 22 2,
 X.m 23 3,
 X.m 24 0,
 X.m 25 3,
 X.o 26 (.call F.q20 [X.s 24, X.s 25]),
 X.o 27 (.idxAddr 1 (X.s 22) (X.s 23)),
 X.n (.store1 (X.s 27) (X.s 26))]
def C.lf : LO := C.lf_b
def C.lf_w := pO C.lf.eq_1
def C.byl : ICode := .keep [0, 2, 3, 18, 19] (.region C.lf)
def C.byl_w := pC C.byl.eq_1
def C.ld_b : LO := [
 X.m 21 19,
 X.m 3 21]
def C.ld : LO := C.ld_b
def C.ld_w := pO C.ld.eq_1
def C.byb : ICode := .seq (.region C.ld) C.byl
def C.byb_w := pC C.byb.eq_1
def C.bym : ICode := .keep [0, 2, 18, 19] (.seq (.block 1 C.byb) C.byk)
def C.bym_w := pC C.bym.eq_1
def C.byn : ICode := .keep [0, 2, 18, 19, 20] (.seq (.cond (X.s 20) .skip (.exit 0)) C.bym)
def C.byn_w := pC C.byn.eq_1
def C.lc_b : LO := [
 X.o 20 (.bin .lss (X.s 19) (X.s 18))]
def C.lc : LO := C.lc_b
def C.lc_w := pO C.lc.eq_1
def C.cpx : ICode := .keep [0, 2, 18, 19] (.seq (.region C.lc) C.byn)
def C.cpx_w := pC C.cpx.eq_1
def C.byc : ICode := .loop C.cpx
def C.byc_w := pC C.byc.eq_1
def C.byp : ICode := .keep [0, 2, 18, 19] (.block 0 C.byc)
def C.byp_w := pC C.byp.eq_1
def C.lb_b : LO := [
 X.m 14 0,
 X.o 15 (.nilchk (X.s 14)),
 X.o 16 (.fldAddr 0 (X.s 15)),
 X.o 17 (.load1 (X.s 16)),
 X.o 18 (.len (X.s 17)),
 X.o 19 (.move (X.i 0))]
def C.lb : LO := C.lb_b
def C.lb_w := pO C.lb.eq_1
def C.byr : ICode := .keep [0, 2] (.seq (.seq (.region C.lb) C.byp) C.byj)
def C.byr_w := pC C.byr.eq_1
def C.k2_b : LO := [
 X.m 8 0,
 X.o 9 (.nilchk (X.s 8)),
 X.o 10 (.fldAddr 0 (X.s 9)),
 X.o 11 (.load1 (X.s 10)),
 X.o 12 (.len (X.s 11)),
 X.o 13 (.makeSlice 1 1 [.bool false] (X.s 12) (X.s 12)),
 X.m 2 13]
def C.k2 : LO := C.k2_b
def C.k2_w := pO C.k2.eq_1
def C.bys : ICode := .keep [0] (.seq (.region C.k2) C.byr)
def C.bys_w := pC C.bys.eq_1
def C.byt : ICode := .keep [0, 7] (.cond (X.s 7) .ret .skip)
def C.byt_w := pC C.byt.eq_1
def C.k1_b : LO := [
 X.m 6 0,
 X.o 7 (.eqP 0 false (X.s 6) (.cst (.nilp)))]
def C.k1 : LO := C.k1_b
def C.k1_w := pO C.k1.eq_1
def C.q22 : IFunc := ⟨1, [], .seq (.seq (.region C.k1) C.byt) C.bys⟩
def C.q22_W := aI (aI (aI (aI (aI @C.k9_w @C.y9_w) (aI @C.k5_w (aI @C.k7_w @C.bbc_w))) (aI (aI @C.c6_w @C.k8_w) (aI @C.byv_w (aI @C.b0_w @C.k6_w)))) (aI (aI (aI @C.byw_w @C.bv_w) (aI @C.k4_w (aI @C.byd_w @C.byx_w))) (aI (aI @C.k3_w (aI @C.bbb_w @C.lk_w)) (aI @C.bx8_w (aI @C.byf_w @C.byg_w))))) (aI (aI (aI (aI @C.lj_w @C.bx9_w) (aI @C.byh_w (aI @C.lh_w @C.byj_w))) (aI (aI @C.lg_w (aI @C.byk_w @C.lf_w)) (aI @C.byl_w (aI @C.ld_w @C.byb_w)))) (aI (aI (aI @C.bym_w @C.byn_w) (aI @C.lc_w (aI @C.byc_w @C.byp_w))) (aI (aI @C.lb_w (aI @C.byr_w @C.k2_w)) (aI @C.bys_w (aI @C.byt_w @C.k1_w)))))
def C.q22_B := aI (aI (aI (aI @C.k9_b.eq_1 @C.k5_b.eq_1) (aI @C.k7_b.eq_1 @C.bbc_b.eq_1)) (aI (aI @C.k8_b.eq_1 @C.k6_b.eq_1) (aI @C.k4_b.eq_1 (aI @C.k3_b.eq_1 @C.lk_b.eq_1)))) (aI (aI (aI @C.lj_b.eq_1 @C.lh_b.eq_1) (aI @C.lg_b.eq_1 @C.lf_b.eq_1)) (aI (aI @C.ld_b.eq_1 @C.lc_b.eq_1) (aI @C.lb_b.eq_1 (aI @C.k2_b.eq_1 @C.k1_b.eq_1))))

def C.r0_b : LO := [
 X.m 32 3,
 X.m 2 32]
def C.r0 : LO := C.r0_b
def C.r0_w := pO C.r0.eq_1
def C.b36 : ICode := .keep [3] (.seq (.region C.r0) .ret)
def C.b36_w := pC C.b36.eq_1
def C.rz_b : LO := [
 X.o 31 (.bin .add (X.s 13) (X.i 1)),
 X.m 13 31]
def C.rz : LO := C.rz_b
def C.rz_w := pO C.rz.eq_1
def C.b4f : ICode := .keep [0, 3, 12, 13] (.region C.rz)
def C.b4f_w := pC C.b4f.eq_1
def C.r8_b : LO := [
 X.m 25 3,
 X.m 26 5,
 X.m 27 4,
 X.o 28 (.build [.int .u8 0, .int .i64 0] [(0, 1, X.s 26), (1, 1, X.s 27)]),
 X.o 29 (.buildSlice 2 1 [.int .u8 0, .int .i64 0] [(0, 2, X.s 28)]),
 X.o 30 (.append 2 16 (X.s 25) (X.s 29)),
 X.m 3 30]
def C.r8 : LO := C.r8_b
def C.r8_w := pO C.r8.eq_1
def C.b4g : ICode := .keep [0, 3, 4, 5, 12, 13, 24] (.cond (X.s 24) (.region C.r8) .skip)
def C.b4g_w := pC C.b4g.eq_1
def C.r7_b : LO := [
 X.m 23 5,
 X.o 24 (.bin .neq (X.s 23) (.cst (.int .u8 0)))]
def C.r7 : LO := C.r7_b
def C.r7_w := pO C.r7.eq_1
def C.b4h : ICode := .keep [0, 3, 4, 5, 12, 13] (.seq (.region C.r7) C.b4g)
def C.b4h_w := pC C.b4h.eq_1
def C.r6_b : LO := [
 X.m 16 0,
 X.o 17 (.nilchk (X.s 16)),
 X.o 18 (.fldAddr 0 (X.s 17)),
 X.o 19 (.load1 (X.s 18)),
 X.m 20 4,
 X.o 21 (.idxAddr 7 (X.s 19) (X.s 20)),
 X.o 22 (.call F.q105 [X.s 21]),
 X.m 5 22]
def C.r6 : LO := C.r6_b
def C.r6_w := pO C.r6.eq_1
def C.b4j : ICode := .keep [0, 3, 4, 12, 13] (.seq (.region C.r6) C.b4h)
def C.b4j_w := pC C.b4j.eq_1
def C.r5_b : LO := [
 X.m 15 13,
 X.m 4 15]
def C.r5 : LO := C.r5_b
def C.r5_w := pO C.r5.eq_1
def C.b35 : ICode := .seq (.region C.r5) C.b4j
def C.b35_w := pC C.b35.eq_1
def C.b4k : ICode := .keep [0, 3, 12, 13] (.seq (.block 1 C.b35) C.b4f)
def C.b4k_w := pC C.b4k.eq_1
def C.b4l : ICode := .keep [0, 3, 12, 13, 14] (.seq (.cond (X.s 14) .skip (.exit 0)) C.b4k)
def C.b4l_w := pC C.b4l.eq_1
def C.r4_b : LO := [
 X.o 14 (.bin .lss (X.s 13) (X.s 12))]
def C.r4 : LO := C.r4_b
def C.r4_w := pO C.r4.eq_1
def C.cn6 : ICode := .keep [0, 3, 12, 13] (.seq (.region C.r4) C.b4l)
def C.cn6_w := pC C.cn6.eq_1
def C.b34 : ICode := .loop C.cn6
def C.b34_w := pC C.b34.eq_1
def C.b37 : ICode := .keep [0, 3, 12, 13] (.block 0 C.b34)
def C.b37_w := pC C.b37.eq_1
def C.r3_b : LO := [
 X.m 8 0,
 X.o 9 (.nilchk (X.s 8)),
 X.o 10 (.fldAddr 0 (X.s 9)),
 X.o 11 (.load1 (X.s 10)),
 X.o 12 (.len (X.s 11)),
 X.o 13 (.move (X.i 0))]
def C.r3 : LO := C.r3_b
def C.r3_w := pO C.r3.eq_1
def C.b38 : ICode := .keep [0, 3] (.seq (.seq (.region C.r3) C.b37) C.b36)
def C.b38_w := pC C.b38.eq_1
def C.r2_b : LO := [
 X.o 3 (.move (.cst (.nils)))]
def C.r2 : LO := C.r2_b
def C.r2_w := pO C.r2.eq_1
def C.b39 : ICode := .keep [0] (.seq (.region C.r2) C.b38)
def C.b39_w := pC C.b39.eq_1
def C.r1_b : LO := [
 X.o 2 (.move (.cst (.nils)))]
def C.r1 : LO := C.r1_b
def C.r1_w := pO C.r1.eq_1
def C.b4b : ICode := .seq (.region C.r1) .ret
def C.b4b_w := pC C.b4b.eq_1
def C.b4c : ICode := .keep [0, 7] (.cond (X.s 7) C.b4b .skip)
def C.b4c_w := pC C.b4c.eq_1
def C.rq_b : LO := [
 X.m 6 0,
 X.o 7 (.eqP 0 false (X.s 6) (.cst (.nilp)))]
def C.rq : LO := C.rq_b
def C.rq_w := pO C.rq.eq_1
def C.b4d : ICode := .keep [0] (.seq (.seq (.region C.rq) C.b4c) C.b39)
def C.b4d_w := pC C.b4d.eq_1
def C.ry_b : LO := [
 X.o 2 (.move (.cst (.nils)))]
def C.ry : LO := C.ry_b
def C.ry_w := pO C.ry.eq_1
def C.q100 : IFunc := ⟨1, [.slot 2], .seq (.region C.ry) C.b4d⟩
def C.q100_W := aI (aI (aI (aI @C.r0_w (aI @C.b36_w @C.rz_w)) (aI @C.b4f_w (aI @C.r8_w @C.b4g_w))) (aI (aI @C.r7_w (aI @C.b4h_w @C.r6_w)) (aI (aI @C.b4j_w @C.r5_w) (aI @C.b35_w @C.b4k_w)))) (aI (aI (aI @C.b4l_w (aI @C.r4_w @C.b34_w)) (aI (aI @C.b37_w @C.r3_w) (aI @C.b38_w @C.r2_w))) (aI (aI @C.b39_w (aI @C.r1_w @C.b4b_w)) (aI (aI @C.b4c_w @C.rq_w) (aI @C.b4d_w @C.ry_w))))
def C.q100_B := aI (aI (aI @C.r0_b.eq_1 (aI @C.rz_b.eq_1 @C.r8_b.eq_1)) (aI @C.r7_b.eq_1 (aI @C.r6_b.eq_1 @C.r5_b.eq_1))) (aI (aI @C.r4_b.eq_1 (aI @C.r3_b.eq_1 @C.r2_b.eq_1)) (aI @C.r1_b.eq_1 (aI @C.rq_b.eq_1 @C.ry_b.eq_1)))

def C.bm5_b : LO := [
 X.o 2 (.move (.cst (.nilf)))]
def C.bm5 : LO := C.bm5_b
def C.bm5_w := pO C.bm5.eq_1
def C.cnk : ICode := .keep [] (.seq (.region C.bm5) .ret)
def C.cnk_w := pC C.cnk.eq_1
def C.bmz_b : LO := [
 X.o 2 (.move (.fnc F.q115))]
def C.bmz : LO := C.bmz_b
def C.bmz_w := pO C.bmz.eq_1
def C.bm1_b : LO := [
 X.o 2 (.move (.fnc F.q113))]
def C.bm1 : LO := C.bm1_b
def C.bm1_w := pO C.bm1.eq_1
def C.bm4_b : LO := [
 X.o 2 (.move (.fnc F.q109))]
def C.bm4 : LO := C.bm4_b
def C.bm4_w := pO C.bm4.eq_1
def C.cnp : ICode := .seq (.region C.bm4) .ret
def C.cnp_w := pC C.cnp.eq_1
def C.cnr : ICode := .keep [8] (.cond (X.s 8) C.cnp .skip)
def C.cnr_w := pC C.cnr.eq_1
def C.bm3_b : LO := [
 X.o 10 (.bin .eql (X.s 3) (.cst (.int .u8 110))),
 X.m 8 10]
def C.bm3 : LO := C.bm3_b
def C.bm3_w := pO C.bm3.eq_1
def C.cns : ICode := .keep [3, 8] (.cond (X.s 8) .skip (.region C.bm3))
def C.cns_w := pC C.cns.eq_1
def C.bm2_b : LO := [
 X.o 9 (.bin .eql (X.s 3) (.cst (.int .u8 108))),
 X.m 8 9]
def C.bm2 : LO := C.bm2_b
def C.bm2_w := pO C.bm2.eq_1
def C.cnt : ICode := .seq (.region C.bm1) .ret
def C.cnt_w := pC C.cnt.eq_1
def C.cnv : ICode := .seq (.seq (.region C.bm2) C.cns) C.cnr
def C.cnv_w := pC C.cnv.eq_1
def C.cnw : ICode := .keep [3, 6] (.cond (X.s 6) C.cnt C.cnv)
def C.cnw_w := pC C.cnw.eq_1
def C.bm0_b : LO := [
 X.o 7 (.bin .eql (X.s 3) (.cst (.int .u8 114))),
 X.m 6 7]
def C.bm0 : LO := C.bm0_b
def C.bm0_w := pO C.bm0.eq_1
def C.cnx : ICode := .seq (.region C.bmz) .ret
def C.cnx_w := pC C.cnx.eq_1
def C.cny : ICode := .seq (.region C.bm0) C.cnw
def C.cny_w := pC C.cny.eq_1
def C.cnl : ICode := .keep [3, 4] (.cond (X.s 4) C.cnx C.cny)
def C.cnl_w := pC C.cnl.eq_1
def C.bmq_b : LO := [
 X.o 5 (.bin .eql (X.s 3) (.cst (.int .u8 115))),
 X.m 4 5]
def C.bmq : LO := C.bmq_b
def C.bmq_w := pO C.bmq.eq_1
def C.cnj : ICode := .seq (.region C.bmq) C.cnl
def C.cnj_w := pC C.cnj.eq_1
def C.cnm : ICode := .keep [3] (.block 0 C.cnj)
def C.cnm_w := pC C.cnm.eq_1
def C.bmy_b : LO := [
 X.m 3 0]
def C.bmy : LO := C.bmy_b
def C.bmy_w := pO C.bmy.eq_1
def C.cnn : ICode := .keep [0] (.seq (.seq (.region C.bmy) C.cnm) C.cnk)
def C.cnn_w := pC C.cnn.eq_1
def C.bmx_b : LO := [
 X.o 2 (.move (.cst (.nilf)))]
def C.bmx : LO := C.bmx_b
def C.bmx_w := pO C.bmx.eq_1
def C.q97 : IFunc := ⟨1, [.slot 2], .seq (.region C.bmx) C.cnn⟩
def C.q97_W := aI (aI (aI (aI @C.bm5_w @C.cnk_w) (aI @C.bmz_w (aI @C.bm1_w @C.bm4_w))) (aI (aI @C.cnp_w (aI @C.cnr_w @C.bm3_w)) (aI @C.cns_w (aI @C.bm2_w @C.cnt_w)))) (aI (aI (aI @C.cnv_w (aI @C.cnw_w @C.bm0_w)) (aI @C.cnx_w (aI @C.cny_w @C.cnl_w))) (aI (aI @C.bmq_w (aI @C.cnj_w @C.cnm_w)) (aI @C.bmy_w (aI @C.cnn_w @C.bmx_w))))
def C.q97_B := aI (aI (aI @C.bm5_b.eq_1 @C.bmz_b.eq_1) (aI @C.bm1_b.eq_1 (aI @C.bm4_b.eq_1 @C.bm3_b.eq_1))) (aI (aI @C.bm2_b.eq_1 @C.bm0_b.eq_1) (aI @C.bmq_b.eq_1 (aI @C.bmy_b.eq_1 @C.bmx_b.eq_1)))

def C.wv_b : LO := [
 X.m 55 3,
 X.m 2 55]
def C.wv : LO := C.wv_b
def C.wv_w := pO C.wv.eq_1
def C.b78 : ICode := .keep [3] (.seq (.region C.wv) .ret)
def C.b78_w := pC C.b78.eq_1
def C.gg_b : LO := [
 X.o 54 (.bin .add (X.s 14) (X.i 1)),
 X.m 14 54]
def C.gg : LO := C.gg_b
def C.gg_w := pO C.gg.eq_1
def C.brb : ICode := .keep [0, 3, 13, 14] (.region C.gg)
def C.brb_w := pC C.brb.eq_1
def C.wt_b : LO := [
 X.m 48 0,
 X.o 49 (.nilchk (X.s 48)),
 X.o 50 (.fldAddr 0 (X.s 49)),
 X.o 51 (.load1 (X.s 50)),
 X.m 52 4,
 X.o 53 (.loadN 4 (X.s 5)),
 X.n (.mapSet (X.s 51) (X.s 52) (X.s 53))]
def C.wt : LO := C.wt_b
def C.wt_w := pO C.wt.eq_1
def C.b8h : ICode := .keep [0, 3, 4, 5, 13, 14] (.region C.wt)
def C.b8h_w := pC C.b8h.eq_1
def C.gb_b : LO := [
 X.o 36 (.fldAddr 1 (X.s 5)),
 X.o 37 (.load1 (X.s 36)),
 X.o 38 (.bin .sub (X.s 37) (X.i 1)),
 X.o 39 (.fldAddr 1 (X.s 5)),
 X.n (.store1 (X.s 39) (X.s 38))]
def C.gb : LO := C.gb_b
def C.gb_w := pO C.gb.eq_1
def C.gf_b : LO := [
 X.m 44 3,
 X.m 45 4,
 X.o 46 (.buildSlice 1 1 [.int .i64 0] [(0, 1, X.s 45)]),
 X.o 47 (.append 1 8 (X.s 44) (X.s 46)),
 X.m 3 47]
def C.gf : LO := C.gf_b
def C.gf_w := pO C.gf.eq_1
def C.brc : ICode := .keep [0, 3, 4, 5, 13, 14] (.region C.gf)
def C.brc_w := pC C.brc.eq_1
def C.gd_b : LO := [
 X.o 42 (.fldAddr 2 (X.s 5)),
 X.n (.store1 (X.s 42) (.cst (.bool false))),
 X.o 43 (.fldAddr 3 (X.s 5)),
 X.n (.store1 (X.s 43) (.cst (.bool false)))]
def C.gd : LO := C.gd_b
def C.gd_w := pO C.gd.eq_1
def C.brd : ICode := .seq (.region C.gd) C.brc
def C.brd_w := pC C.brd.eq_1
def C.brf : ICode := .keep [0, 3, 4, 5, 13, 14, 41] (.cond (X.s 41) C.brd .skip)
def C.brf_w := pC C.brf.eq_1
def C.gc_b : LO := [
 X.o 40 (.fldAddr 3 (X.s 5)),
 X.o 41 (.load1 (X.s 40))]
def C.gc : LO := C.gc_b
def C.gc_w := pO C.gc.eq_1
def C.brg : ICode := .seq (.region C.gc) C.brf
def C.brg_w := pC C.brg.eq_1
def C.brh : ICode := .keep [0, 3, 4, 5, 13, 14, 35] (.cond (X.s 35) (.region C.gb) C.brg)
def C.brh_w := pC C.brh.eq_1
def C.gm_b : LO := [
 X.o 33 (.fldAddr 1 (X.s 5)),
 X.o 34 (.load1 (X.s 33)),
 X.o 35 (.bin .gtr (X.s 34) (X.i 0))]
def C.gm : LO := C.gm_b
def C.gm_w := pO C.gm.eq_1
def C.brj : ICode := .keep [0, 3, 4, 5, 13, 14] (.seq (.seq (.region C.gm) C.brh) C.b8h)
def C.brj_w := pC C.brj.eq_1
def C.bp5 : ICode := .keep [0, 3, 4, 5, 13, 14, 32] (.cond (X.s 32) (.exit 1) .skip)
def C.bp5_w := pC C.bp5.eq_1
def C.gl_b : LO := [
 X.m 26 6,
 X.o 27 (.un .not (X.s 26)),
 X.m 28 27,
 X.f 28 29 (.fldAddr 2 (X.s 5)),
 X.f 28 30 (.load1 (X.s 29)),
 X.f 28 31 (.un .not (X.s 30)),
 X.o 32 (.pick (X.s 28) (.cst (.bool true)) (X.s 31))]
def C.gl : LO := C.gl_b
def C.gl_w := pO C.gl.eq_1
def C.bp6 : ICode := .keep [0, 3, 4, 5, 6, 13, 14] (.seq (.seq (.region C.gl) C.bp5) C.brj)
def C.bp6_w := pC C.bp6.eq_1
def C.gk_b : LO := [
 X.m 18 0,
 X.o 19 (.nilchk (X.s 18)),
 X.o 20 (.fldAddr 0 (X.s 19)),
 X.o 21 (.load1 (X.s 20)),
 X.m 22 4,
 X.o 23 (.lookup (.agg [.int .i64 0, .int .i64 0, .bool false, .bool false]) true (X.s 21) (X.s 22)),
 X.m 17 23,
 X.o 24 (.extract (X.s 17) 0),
 X.o 25 (.extract (X.s 17) 1),
 X.o 5 (.alloc [.int .i64 0, .int .i64 0, .bool false, .bool false]),
 X.n (.storeN 4 (X.s 5) (X.s 24)),
 X.m 6 25]
def C.gk : LO := C.gk_b
def C.gk_w := pO C.gk.eq_1
def C.bp7 : ICode := .keep [0, 3, 4, 13, 14] (.seq (.region C.gk) C.bp6)
def C.bp7_w := pC C.bp7.eq_1
def C.gj_b : LO := [
 X.m 16 14,
 X.m 4 16]
def C.gj : LO := C.gj_b
def C.gj_w := pO C.gj.eq_1
def C.bp4 : ICode := .seq (.region C.gj) C.bp7
def C.bp4_w := pC C.bp4.eq_1
def C.bp8 : ICode := .keep [0, 3, 13, 14] (.seq (.block 1 C.bp4) C.brb)
def C.bp8_w := pC C.bp8.eq_1
def C.bp9 : ICode := .keep [0, 3, 13, 14, 15] (.seq (.cond (X.s 15) .skip (.exit 0)) C.bp8)
def C.bp9_w := pC C.bp9.eq_1
def C.gh_b : LO := [
 X.o 15 (.bin .lss (X.s 14) (X.s 13))]
def C.gh : LO := C.gh_b
def C.gh_w := pO C.gh.eq_1
def C.cn8 : ICode := .keep [0, 3, 13, 14] (.seq (.region C.gh) C.bp9)
def C.cn8_w := pC C.cn8.eq_1
def C.b77 : ICode := .loop C.cn8
def C.b77_w := pC C.b77.eq_1
def C.b79 : ICode := .keep [0, 3, 13, 14] (.block 0 C.b77)
def C.b79_w := pC C.b79.eq_1
def C.wy_b : LO := [
 X.m 9 0,
 X.o 10 (.nilchk (X.s 9)),
 X.o 11 (.fldAddr 0 (X.s 10)),
 X.o 12 (.load1 (X.s 11)),
 X.o 13 (.mlen (X.s 12)),
 X.o 14 (.move (X.i 0))]
def C.wy : LO := C.wy_b
def C.wy_w := pO C.wy.eq_1
def C.b8b : ICode := .keep [0, 3] (.seq (.seq (.region C.wy) C.b79) C.b78)
def C.b8b_w := pC C.b8b.eq_1
def C.wx_b : LO := [
 X.o 3 (.move (.cst (.nils)))]
def C.wx : LO := C.wx_b
def C.wx_w := pO C.wx.eq_1
def C.b8c : ICode := .keep [0] (.seq (.region C.wx) C.b8b)
def C.b8c_w := pC C.b8c.eq_1
def C.ww_b : LO := [
 X.o 2 (.move (.cst (.nils)))]
def C.ww : LO := C.ww_b
def C.ww_w := pO C.ww.eq_1
def C.b8d : ICode := .seq (.region C.ww) .ret
def C.b8d_w := pC C.b8d.eq_1
def C.b8f : ICode := .keep [0, 8] (.cond (X.s 8) C.b8d .skip)
def C.b8f_w := pC C.b8f.eq_1
def C.ws_b : LO := [
 X.m 7 0,
 X.o 8 (.eqP 0 false (X.s 7) (.cst (.nilp)))]
def C.ws : LO := C.ws_b
def C.ws_w := pO C.ws.eq_1
def C.b8g : ICode := .keep [0] (.seq (.seq (.region C.ws) C.b8f) C.b8c)
def C.b8g_w := pC C.b8g.eq_1
def C.wr_b : LO := [
 X.o 2 (.move (.cst (.nils)))]
def C.wr : LO := C.wr_b
def C.wr_w := pO C.wr.eq_1
def C.q125 : IFunc := ⟨1, [.slot 2], .seq (.region C.wr) C.b8g⟩
def C.q125_W := aI (aI (aI (aI (aI @C.wv_w @C.b78_w) (aI @C.gg_w @C.brb_w)) (aI (aI @C.wt_w @C.b8h_w) (aI @C.gb_w (aI @C.gf_w @C.brc_w)))) (aI (aI (aI @C.gd_w @C.brd_w) (aI @C.brf_w (aI @C.gc_w @C.brg_w))) (aI (aI @C.brh_w @C.gm_w) (aI @C.brj_w (aI @C.bp5_w @C.gl_w))))) (aI (aI (aI (aI @C.bp6_w @C.gk_w) (aI @C.bp7_w (aI @C.gj_w @C.bp4_w))) (aI (aI @C.bp8_w @C.bp9_w) (aI @C.gh_w (aI @C.b77_w @C.b79_w)))) (aI (aI (aI @C.wy_w @C.b8b_w) (aI @C.wx_w (aI @C.b8c_w @C.ww_w))) (aI (aI @C.b8d_w @C.b8f_w) (aI @C.ws_w (aI @C.b8g_w @C.wr_w)))))
def C.q125_B := aI (aI (aI (aI @C.wv_b.eq_1 @C.gg_b.eq_1) (aI @C.wt_b.eq_1 @C.gb_b.eq_1)) (aI (aI @C.gf_b.eq_1 @C.gd_b.eq_1) (aI @C.gc_b.eq_1 @C.gm_b.eq_1))) (aI (aI (aI @C.gl_b.eq_1 @C.gk_b.eq_1) (aI @C.gj_b.eq_1 @C.gh_b.eq_1)) (aI (aI @C.wy_b.eq_1 @C.wx_b.eq_1) (aI @C.ww_b.eq_1 (aI @C.ws_b.eq_1 @C.wr_b.eq_1))))

def C.x6_b : LO := [
 X.m 21 5,
 X.m 4 21]
def C.x6 : LO := C.x6_b
def C.x6_w := pO C.x6.eq_1
def C.b87 : ICode := .keep [5] (.seq (.region C.x6) .ret)
def C.b87_w := pC C.b87.eq_1
def C.x5_b : LO := [
 X.m 19 5,
 X.o 20 (.call F.q129 [X.s 19])]
def C.x5 : LO := C.x5_b
def C.x5_w := pO C.x5.eq_1
def C.b9d : ICode := .keep [5] (.seq (.region C.x5) C.b87)
def C.b9d_w := pC C.b9d.eq_1
def C.x3_b : LO := [
 X.m 12 0,
 X.m 13 1,
 X.o 14 (.call F.q24 [X.s 12, X.s 13]),
 X.m 1 14]
def C.x3 : LO := C.x3_b
def C.x3_w := pO C.x3.eq_1
def C.b9f : ICode := .keep [0, 1, 5] (.region C.x3)
def C.b9f_w := pC C.b9f.eq_1
def C.x4_b : LO := [
 X.m 15 5,
 X.m 16 1,
 X.o 17 (.buildSlice 1 1 [.int .i64 0] [(0, 1, X.s 16)]),
 X.o 18 (.append 1 8 (X.s 15) (X.s 17)),
 X.m 5 18]
def C.x4 : LO := C.x4_b
def C.x4_w := pO C.x4.eq_1
def C.b85 : ICode := .region C.x4
def C.b85_w := pC C.b85.eq_1
def C.b9g : ICode := .keep [0, 1, 5] (.seq (.block 1 C.b85) C.b9f)
def C.b9g_w := pC C.b9g.eq_1
def C.b9h : ICode := .keep [0, 1, 5, 11] (.cond (X.s 11) .skip (.exit 0))
def C.b9h_w := pC C.b9h.eq_1
def C.x2_b : LO := [
 X.m 10 1,
 X.o 11 (.bin .neq (X.s 10) (X.i (-1)))]
def C.x2 : LO := C.x2_b
def C.x2_w := pO C.x2.eq_1
def C.cpv : ICode := .keep [0, 1, 5] (.seq (.seq (.region C.x2) C.b9h) C.b9g)
def C.cpv_w := pC C.cpv.eq_1
def C.b86 : ICode := .loop C.cpv
def C.b86_w := pC C.b86.eq_1
def C.b9j : ICode := .keep [0, 1, 5] (.seq (.block 0 C.b86) C.b9d)
def C.b9j_w := pC C.b9j.eq_1
def C.x1_b : LO := [
 X.o 5 (.move (.cst (.nils)))]
def C.x1 : LO := C.x1_b
def C.x1_w := pO C.x1.eq_1
def C.b88 : ICode := .keep [0, 1] (.seq (.region C.x1) C.b9j)
def C.b88_w := pC C.b88.eq_1
def C.x0_b : LO := [
 X.o 4 (.move (.cst (.nils)))]
def C.x0 : LO := C.x0_b
def C.x0_w := pO C.x0.eq_1
def C.b89 : ICode := .seq (.region C.x0) .ret
def C.b89_w := pC C.b89.eq_1
def C.b9b : ICode := .keep [0, 1, 9] (.cond (X.s 9) C.b89 .skip)
def C.b9b_w := pC C.b9b.eq_1
def C.xz_b : LO := [
 X.m 6 0,
 X.m 7 1,
 X.o 8 (.call F.q23 [X.s 6, X.s 7]),
 X.o 9 (.eqP 0 false (X.s 8) (.cst (.nilp)))]
def C.xz : LO := C.xz_b
def C.xz_w := pO C.xz.eq_1
def C.b9c : ICode := .keep [0, 1] (.seq (.seq (.region C.xz) C.b9b) C.b88)
def C.b9c_w := pC C.b9c.eq_1
def C.xq_b : LO := [
 X.o 4 (.move (.cst (.nils)))]
def C.xq : LO := C.xq_b
def C.xq_w := pO C.xq.eq_1
def C.q18 : IFunc := ⟨2, [.slot 4], .seq (.region C.xq) C.b9c⟩
def C.q18_W := aI (aI (aI (aI @C.x6_w @C.b87_w) (aI @C.x5_w (aI @C.b9d_w @C.x3_w))) (aI (aI @C.b9f_w @C.x4_w) (aI @C.b85_w (aI @C.b9g_w @C.b9h_w)))) (aI (aI (aI @C.x2_w @C.b86_w) (aI @C.b9j_w (aI @C.x1_w @C.b88_w))) (aI (aI @C.x0_w (aI @C.b89_w @C.b9b_w)) (aI @C.xz_w (aI @C.b9c_w @C.xq_w))))
def C.q18_B := aI (aI (aI @C.x6_b.eq_1 @C.x5_b.eq_1) (aI @C.x3_b.eq_1 @C.x4_b.eq_1)) (aI (aI @C.x2_b.eq_1 @C.x1_b.eq_1) (aI @C.x0_b.eq_1 (aI @C.xz_b.eq_1 @C.xq_b.eq_1)))

def C.yj_b : LO := [
 X.o 6 (.move (X.i 0))]
def C.yj : LO := C.yj_b
def C.yj_w := pO C.yj.eq_1
def C.b9k : ICode := .keep [] (.seq (.region C.yj) .ret)
def C.b9k_w := pC C.b9k.eq_1
def C.yh_b : LO := [
 X.m 41 7,
 X.m 42 7,
 X.o 43 (.nilchk (X.s 42)),
 X.o 44 (.fldAddr 0 (X.s 43)),
 X.o 45 (.fldAddr 5 (X.s 44)),
 X.o 46 (.load1 (X.s 45)),
 X.o 47 (.nilchk (X.s 41)),
 X.o 48 (.fldAddr 7 (X.s 47)),
 X.n (.store1 (X.s 48) (X.s 46))]
def C.yh : LO := C.yh_b
def C.yh_w := pO C.yh.eq_1
def C.b9n : ICode := .keep [7, 40] (.cond (X.s 40) (.region C.yh) .skip)
def C.b9n_w := pC C.b9n.eq_1
def C.yg_b : LO := [
 X.m 31 7,
 X.o 32 (.nilchk (X.s 31)),
 X.o 33 (.fldAddr 0 (X.s 32)),
 X.o 34 (.fldAddr 0 (X.s 33)),
 X.o 35 (.load1 (X.s 34)),
 X.o 36 (.bin .eql (X.s 35) (.cst (.int .u8 112))),
 X.m 37 36,
 X.t 37 38 (.move (X.s 2)),
 X.t 37 39 (.un .not (X.s 38)),
 X.o 40 (.pick (X.s 37) (X.s 39) (.cst (.bool false)))]
def C.yg : LO := C.yg_b
def C.yg_w := pO C.yg.eq_1
def C.b9p : ICode := .keep [2, 7] (.seq (.seq (.region C.yg) C.b9n) C.b9k)
def C.b9p_w := pC C.b9p.eq_1
def C.yf_b : LO := [
 X.m 27 7,
 X.m 28 2,
 X.o 29 (.nilchk (X.s 27)),
 X.o 30 (.fldAddr 6 (X.s 29)),
 X.n (.store1 (X.s 30) (X.s 28))]
def C.yf : LO := C.yf_b
def C.yf_w := pO C.yf.eq_1
def C.b9r : ICode := .keep [2, 7] (.seq (.region C.yf) C.b9p)
def C.b9r_w := pC C.b9r.eq_1
def C.yd_b : LO := [
 X.o 6 (.move (X.i 1))]
def C.yd : LO := C.yd_b
def C.yd_w := pO C.yd.eq_1
def C.b9s : ICode := .seq (.region C.yd) .ret
def C.b9s_w := pC C.b9s.eq_1
def C.b9t : ICode := .keep [2, 7, 26] (.cond (X.s 26) C.b9s .skip)
def C.b9t_w := pC C.b9t.eq_1
def C.yc_b : LO := [
 X.m 13 7,
 X.o 14 (.nilchk (X.s 13)),
 X.o 15 (.fldAddr 0 (X.s 14)),
 X.o 16 (.fldAddr 0 (X.s 15)),
 X.o 17 (.load1 (X.s 16)),
 X.o 18 (.bin .neq (X.s 17) (.cst (.int .u8 112))),
 X.m 19 18,
 X.t 19 20 (.move (X.s 7)),
 X.t 19 21 (.nilchk (X.s 20)),
 X.t 19 22 (.fldAddr 0 (X.s 21)),
 X.t 19 23 (.fldAddr 0 (X.s 22)),
 X.t 19 24 (.load1 (X.s 23)),
 X.t 19 25 (.bin .neq (X.s 24) (.cst (.int .u8 103))),
 X.o 26 (.pick (X.s 19) (X.s 25) (.cst (.bool false)))]
def C.yc : LO := C.yc_b
def C.yc_w := pO C.yc.eq_1
def C.b9v : ICode := .keep [2, 7] (.seq (.seq (.region C.yc) C.b9t) C.b9r)
def C.b9v_w := pC C.b9v.eq_1
def C.yb_b : LO := [
 X.o 6 (.move (X.i 4))]
def C.yb : LO := C.yb_b
def C.yb_w := pO C.yb.eq_1
def C.b9w : ICode := .seq (.region C.yb) .ret
def C.b9w_w := pC C.b9w.eq_1
def C.b9x : ICode := .keep [2, 7, 12] (.cond (X.s 12) C.b9w .skip)
def C.b9x_w := pC C.b9x.eq_1
def C.x9_b : LO := [
 X.m 11 7,
 X.o 12 (.eqP 0 false (X.s 11) (.cst (.nilp)))]
def C.x9 : LO := C.x9_b
def C.x9_w := pO C.x9.eq_1
def C.b9l : ICode := .keep [2, 7] (.seq (.seq (.region C.x9) C.b9x) C.b9v)
def C.b9l_w := pC C.b9l.eq_1
def C.x8_b : LO := [
 X.m 8 0,
 X.m 9 1,
 X.o 10 (.call F.q23 [X.s 8, X.s 9]),
 X.m 7 10]
def C.x8 : LO := C.x8_b
def C.x8_w := pO C.x8.eq_1
def C.b9m : ICode := .keep [0, 1, 2] (.seq (.region C.x8) C.b9l)
def C.b9m_w := pC C.b9m.eq_1
def C.x7_b : LO := [
 X.o 6 (.move (X.i 0))]
def C.x7 : LO := C.x7_b
def C.x7_w := pO C.x7.eq_1
def C.q19 : IFunc := ⟨3, [.slot 6], .seq (.region C.x7) C.b9m⟩
def C.q19_W := aI (aI (aI (aI @C.yj_w @C.b9k_w) (aI @C.yh_w (aI @C.b9n_w @C.yg_w))) (aI (aI @C.b9p_w @C.yf_w) (aI @C.b9r_w (aI @C.yd_w @C.b9s_w)))) (aI (aI (aI @C.b9t_w @C.yc_w) (aI @C.b9v_w (aI @C.yb_w @C.b9w_w))) (aI (aI @C.b9x_w (aI @C.x9_w @C.b9l_w)) (aI @C.x8_w (aI @C.b9m_w @C.x7_w))))
def C.q19_B := aI (aI (aI @C.yj_b.eq_1 @C.yh_b.eq_1) (aI @C.yg_b.eq_1 (aI @C.yf_b.eq_1 @C.yd_b.eq_1))) (aI (aI @C.yc_b.eq_1 @C.yb_b.eq_1) (aI @C.x9_b.eq_1 (aI @C.x8_b.eq_1 @C.x7_b.eq_1)))

def C.yq_b : LO := [
 X.o 11 (.load1 (X.s 5)),
 X.m 12 1,
 X.o 13 (.callv (X.s 11) [X.s 12]),
 X.m 4 13]
def C.yq : LO := C.yq_b
def C.yq_w := pO C.yq.eq_1
def C.b95 : ICode := .keep [1, 5] (.seq (.region C.yq) .ret)
def C.b95_w := pC C.b95.eq_1
def C.yy_b : LO := [
 X.o 10 (.makeFunc F.q21 [X.s 2, X.s 5]),
 X.n (.store1 (X.s 5) (X.s 10))]
def C.yy : LO := C.yy_b
def C.yy_w := pO C.yy.eq_1
def C.b96 : ICode := .keep [1, 2, 5] (.seq (.region C.yy) C.b95)
def C.b96_w := pC C.b96.eq_1
def C.yx_b : LO := [
 X.o 5 (.alloc [.nilf])]
def C.yx : LO := C.yx_b
def C.yx_w := pO C.yx.eq_1
def C.b97 : ICode := .keep [1, 2] (.seq (.region C.yx) C.b96)
def C.b97_w := pC C.b97.eq_1
def C.yw_b : LO := [
 X.o 4 (.move (.cst (.bool false)))]
def C.yw : LO := C.yw_b
def C.yw_w := pO C.yw.eq_1
def C.b98 : ICode := .seq (.region C.yw) .ret
def C.b98_w := pC C.b98.eq_1
def C.b99 : ICode := .keep [1, 2, 9] (.cond (X.s 9) C.b98 .skip)
def C.b99_w := pC C.b99.eq_1
def C.yv_b : LO := [
 X.o 6 (.load1 (X.s 2)),
 X.m 7 1,
 X.o 8 (.call F.q23 [X.s 6, X.s 7]),
 X.o 9 (.eqP 0 false (X.s 8) (.cst (.nilp)))]
def C.yv : LO := C.yv_b
def C.yv_w := pO C.yv.eq_1
def C.cbb : ICode := .keep [1, 2] (.seq (.seq (.region C.yv) C.b99) C.b97)
def C.cbb_w := pC C.cbb.eq_1
def C.yt_b : LO := [
 X.o 2 (.box1 (X.s 0)),
 X.o 4 (.move (.cst (.bool false)))]
def C.yt : LO := C.yt_b
def C.yt_w := pO C.yt.eq_1
def C.q20 : IFunc := ⟨2, [.slot 4], .seq (.region C.yt) C.cbb⟩
def C.q20_W := aI (aI (aI @C.yq_w (aI @C.b95_w @C.yy_w)) (aI @C.b96_w (aI @C.yx_w @C.b97_w))) (aI (aI @C.yw_w (aI @C.b98_w @C.b99_w)) (aI @C.yv_w (aI @C.cbb_w @C.yt_w)))
def C.q20_B := aI (aI @C.yq_b.eq_1 (aI @C.yy_b.eq_1 @C.yx_b.eq_1)) (aI @C.yw_b.eq_1 (aI @C.yv_b.eq_1 @C.yt_b.eq_1))

def C.bnc_b : LO := [
 X.m 11 5,
 X.o 12 (.nilchk (X.s 11)),
 X.o 13 (.fldAddr 3 (X.s 12)),
 X.o 14 (.load1 (X.s 13)),
 X.m 4 14]
def C.bnc : LO := C.bnc_b
def C.bnc_w := pO C.bnc.eq_1
def C.cn0 : ICode := .keep [5] (.seq (.region C.bnc) .ret)
def C.cn0_w := pC C.cn0.eq_1
def C.bnb_b : LO := [
 X.o 4 (.move (.cst (.int .u8 0)))]
def C.bnb : LO := C.bnb_b
def C.bnb_w := pO C.bnb.eq_1
def C.cn1 : ICode := .seq (.region C.bnb) .ret
def C.cn1_w := pC C.cn1.eq_1
def C.cn2 : ICode := .keep [5, 10] (.cond (X.s 10) C.cn1 .skip)
def C.cn2_w := pC C.cn2.eq_1
def C.bm9_b : LO := [
 X.m 9 5,
 X.o 10 (.eqP 0 false (X.s 9) (.cst (.nilp)))]
def C.bm9 : LO := C.bm9_b
def C.bm9_w := pO C.bm9.eq_1
def C.cn3 : ICode := .keep [5] (.seq (.seq (.region C.bm9) C.cn2) C.cn0)
def C.cn3_w := pC C.cn3.eq_1
def C.bm8_b : LO := [
 X.m 6 0,
 X.m 7 1,
 X.o 8 (.call F.q102 [X.s 6, X.s 7]),
 X.m 5 8]
def C.bm8 : LO := C.bm8_b
def C.bm8_w := pO C.bm8.eq_1
def C.cn4 : ICode := .keep [0, 1] (.seq (.region C.bm8) C.cn3)
def C.cn4_w := pC C.cn4.eq_1
def C.bm7_b : LO := [
 X.o 4 (.move (.cst (.int .u8 0)))]
def C.bm7 : LO := C.bm7_b
def C.bm7_w := pO C.bm7.eq_1
def C.q99 : IFunc := ⟨2, [.slot 4], .seq (.region C.bm7) C.cn4⟩
def C.q99_W := aI (aI (aI @C.bnc_w @C.cn0_w) (aI @C.bnb_w (aI @C.cn1_w @C.cn2_w))) (aI (aI @C.bm9_w @C.cn3_w) (aI @C.bm8_w (aI @C.cn4_w @C.bm7_w)))
def C.q99_B := aI (aI @C.bnc_b.eq_1 @C.bnb_b.eq_1) (aI @C.bm9_b.eq_1 (aI @C.bm8_b.eq_1 @C.bm7_b.eq_1))

def C.wg_b : LO := [
 X.m 13 6,
 X.o 14 (.un .not (X.s 13)),
 X.m 15 14,
 X.f 15 16 (.fldAddr 2 (X.s 5)),
 X.f 15 17 (.load1 (X.s 16)),
 X.o 18 (.pick (X.s 15) (.cst (.bool true)) (X.s 17)),
 X.m 4 18]
def C.wg : LO := C.wg_b
def C.wg_w := pO C.wg.eq_1
def C.b7y : ICode := .keep [5, 6] (.seq (.region C.wg) .ret)
def C.b7y_w := pC C.b7y.eq_1
def C.ck_b : LO := [
 X.m 8 0,
 X.m 9 1,
 X.o 10 (.call F.q126 [X.s 8, X.s 9]),
 X.m 7 10,
 X.o 11 (.extract (X.s 7) 0),
 X.o 12 (.extract (X.s 7) 1),
 X.o 5 (.alloc [.int .i64 0, .int .i64 0, .bool false, .bool false]),
 X.n (.storeN 4 (X.s 5) (X.s 11)),
 X.m 6 12]
def C.ck : LO := C.ck_b
def C.ck_w := pO C.ck.eq_1
def C.bng : ICode := .keep [0, 1] (.seq (.region C.ck) C.b7y)
def C.bng_w := pC C.bng.eq_1
def C.cj_b : LO := [
 X.o 4 (.move (.cst (.bool false)))]
def C.cj : LO := C.cj_b
def C.cj_w := pO C.cj.eq_1
def C.q123 : IFunc := ⟨2, [.slot 4], .seq (.region C.cj) C.bng⟩
def C.q123_W := aI (aI @C.wg_w @C.b7y_w) (aI @C.ck_w (aI @C.bng_w @C.cj_w))
def C.q123_B := aI @C.wg_b.eq_1 (aI @C.ck_b.eq_1 @C.cj_b.eq_1)

def C.bgl_b : LO := [
 X.o 2 (.move (X.i 0))]
def C.bgl : LO := C.bgl_b
def C.bgl_w := pO C.bgl.eq_1
def C.cgj : ICode := .keep [] (.seq (.region C.bgl) .ret)
def C.cgj_w := pC C.cgj.eq_1
def C.bgk_b : LO := [
 X.o 17 (.bin .add (X.s 8) (X.i 1)),
 X.m 8 17]
def C.bgk : LO := C.bgk_b
def C.bgk_w := pO C.bgk.eq_1
def C.cgm : ICode := .keep [6, 7, 8] (.region C.bgk)
def C.cgm_w := pC C.cgm.eq_1
def C.bgj_b : LO := [
 X.m 16 5,
 X.m 2 16]
def C.bgj : LO := C.bgj_b
def C.bgj_w := pO C.bgj.eq_1
def C.cgn : ICode := .seq (.region C.bgj) .ret
def C.cgn_w := pC C.cgn.eq_1
def C.cgp : ICode := .keep [5, 6, 7, 8, 15] (.cond (X.s 15) C.cgn .skip)
def C.cgp_w := pC C.cgp.eq_1
def C.bgh_b : LO := [
 X.m 14 5,
 X.o 15 (.bin .neq (X.s 14) (X.i 0))]
def C.bgh : LO := C.bgh_b
def C.bgh_w := pO C.bgh.eq_1
def C.cgr : ICode := .keep [5, 6, 7, 8] (.seq (.region C.bgh) C.cgp)
def C.cgr_w := pC C.cgr.eq_1
def C.bgg_b : LO := [
 X.m 12 4,
 X.o 13 (.callv (X.s 12) []),
 X.m 5 13]
def C.bgg : LO := C.bgg_b
def C.bgg_w := pO C.bgg.eq_1
def C.cgs : ICode := .keep [4, 6, 7, 8] (.seq (.region C.bgg) C.cgr)
def C.cgs_w := pC C.cgs.eq_1
def C.bgf_b : LO := [
 X.o 10 (.idxAddr 1 (X.s 6) (X.s 8)),
 X.o 11 (.load1 (X.s 10)),
 X.m 4 11]
def C.bgf : LO := C.bgf_b
def C.bgf_w := pO C.bgf.eq_1
def C.cgh : ICode := .seq (.region C.bgf) C.cgs
def C.cgh_w := pC C.cgh.eq_1
def C.cgt : ICode := .keep [6, 7, 8] (.seq (.block 1 C.cgh) C.cgm)
def C.cgt_w := pC C.cgt.eq_1
def C.cgv : ICode := .keep [6, 7, 8, 9] (.seq (.cond (X.s 9) .skip (.exit 0)) C.cgt)
def C.cgv_w := pC C.cgv.eq_1
def C.bgd_b : LO := [
 X.o 9 (.bin .lss (X.s 8) (X.s 7))]
def C.bgd : LO := C.bgd_b
def C.bgd_w := pO C.bgd.eq_1
def C.cp7 : ICode := .keep [6, 7, 8] (.seq (.region C.bgd) C.cgv)
def C.cp7_w := pC C.cp7.eq_1
def C.cgg : ICode := .loop C.cp7
def C.cgg_w := pC C.cgg.eq_1
def C.cgk : ICode := .keep [6, 7, 8] (.block 0 C.cgg)
def C.cgk_w := pC C.cgk.eq_1
def C.bgc_b : LO := [
 X.m 6 0,
 X.o 7 (.len (X.s 6)),
 X.o 8 (.move (X.i 0))]
def C.bgc : LO := C.bgc_b
def C.bgc_w := pO C.bgc.eq_1
def C.cgl : ICode := .keep [0] (.seq (.seq (.region C.bgc) C.cgk) C.cgj)
def C.cgl_w := pC C.cgl.eq_1
def C.bgb_b : LO := [
 X.o 2 (.move (X.i 0))]
def C.bgb : LO := C.bgb_b
def C.bgb_w := pO C.bgb.eq_1
def C.q61 : IFunc := ⟨1, [.slot 2], .seq (.region C.bgb) C.cgl⟩
def C.q61_W := aI (aI (aI (aI @C.bgl_w @C.cgj_w) (aI @C.bgk_w (aI @C.cgm_w @C.bgj_w))) (aI (aI @C.cgn_w @C.cgp_w) (aI @C.bgh_w (aI @C.cgr_w @C.bgg_w)))) (aI (aI (aI @C.cgs_w @C.bgf_w) (aI @C.cgh_w (aI @C.cgt_w @C.cgv_w))) (aI (aI @C.bgd_w (aI @C.cgg_w @C.cgk_w)) (aI @C.bgc_w (aI @C.cgl_w @C.bgb_w))))
def C.q61_B := aI (aI (aI @C.bgl_b.eq_1 @C.bgk_b.eq_1) (aI @C.bgj_b.eq_1 @C.bgh_b.eq_1)) (aI (aI @C.bgg_b.eq_1 @C.bgf_b.eq_1) (aI @C.bgd_b.eq_1 (aI @C.bgc_b.eq_1 @C.bgb_b.eq_1)))

def C.bbs_b : LO := [
 X.o 2 (.loadN 4 (X.s 0)),
 X.o 3 (.call F.q62 [X.s 2]),
 X.m 1 3]
def C.bbs : LO := C.bbs_b
def C.bbs_w := pO C.bbs.eq_1
def C.cb3 : ICode := .keep [0] (.seq (.region C.bbs) .ret)
def C.cb3_w := pC C.cb3.eq_1
def C.bbr_b : LO := [
 X.o 1 (.move (X.i 0))]
def C.bbr : LO := C.bbr_b
def C.bbr_w := pO C.bbr.eq_1
def C.q26 : IFunc := ⟨1, [.slot 1], .seq (.region C.bbr) C.cb3⟩
def C.q26_W := aI @C.bbs_w (aI @C.cb3_w @C.bbr_w)
def C.q26_B := aI @C.bbs_b.eq_1 @C.bbr_b.eq_1

def C.bgp_b : LO := [
 X.o 25 (.fldAddr 3 (X.s 1)),
 X.o 26 (.load1 (X.s 25)),
 X.o 27 (.call F.q57 [X.s 26, .fnc F.q63]),
 X.m 2 27]
def C.bgp : LO := C.bgp_b
def C.bgp_w := pO C.bgp.eq_1
def C.cgw : ICode := .keep [1] (.seq (.region C.bgp) .ret)
def C.cgw_w := pC C.cgw.eq_1
def C.bgn_b : LO := [
 X.o 2 (.move (X.i 8))]
def C.bgn : LO := C.bgn_b
def C.bgn_w := pO C.bgn.eq_1
def C.cgx : ICode := .seq (.region C.bgn) .ret
def C.cgx_w := pC C.cgx.eq_1
def C.cgy : ICode := .keep [1, 24] (.cond (X.s 24) C.cgx .skip)
def C.cgy_w := pC C.cgy.eq_1
def C.bgm_b : LO := [
 X.o 3 (.fldAddr 0 (X.s 1)),
 X.o 4 (.load1 (X.s 3)),
 X.o 5 (.len (X.s 4)),
 X.o 6 (.bin .gtr (X.s 5) (X.i 12)),
 X.m 7 6,
 X.f 7 8 (.fldAddr 1 (X.s 1)),
 X.f 7 9 (.load1 (X.s 8)),
 X.f 7 10 (.len (X.s 9)),
 X.f 7 11 (.bin .gtr (X.s 10) (X.i 6)),
 X.o 12 (.pick (X.s 7) (.cst (.bool true)) (X.s 11)),
 X.m 13 12,
 X.f 13 14 (.fldAddr 2 (X.s 1)),
 X.f 13 15 (.load1 (X.s 14)),
 X.f 13 16 (.len (X.s 15)),
 X.f 13 17 (.bin .gtr (X.s 16) (X.i 6)),
 X.o 18 (.pick (X.s 13) (.cst (.bool true)) (X.s 17)),
 X.m 19 18,
 X.f 19 20 (.fldAddr 3 (X.s 1)),
 X.f 19 21 (.load1 (X.s 20)),
 X.f 19 22 (.len (X.s 21)),
 X.f 19 23 (.bin .gtr (X.s 22) (X.i 6)),
 X.o 24 (.pick (X.s 19) (.cst (.bool true)) (X.s 23))]
def C.bgm : LO := C.bgm_b
def C.bgm_w := pO C.bgm.eq_1
def C.cgq : ICode := .keep [1] (.seq (.seq (.region C.bgm) C.cgy) C.cgw)
def C.cgq_w := pC C.cgq.eq_1
def C.mz_b : LO := [
 X.o 1 (.boxN (X.s 0)),
 X.o 2 (.move (X.i 0))]
def C.mz : LO := C.mz_b
def C.mz_w := pO C.mz.eq_1
def C.q62 : IFunc := ⟨1, [.slot 2], .seq (.region C.mz) C.cgq⟩
def C.q62_W := aI (aI (aI @C.bgp_w @C.cgw_w) (aI @C.bgn_w @C.cgx_w)) (aI (aI @C.cgy_w @C.bgm_w) (aI @C.cgq_w @C.mz_w))
def C.q62_B := aI (aI @C.bgp_b.eq_1 @C.bgn_b.eq_1) (aI @C.bgm_b.eq_1 @C.mz_b.eq_1)

def C.bbv_b : LO := [
 X.o 2 (.fldAddr 0 (X.s 0)),
 X.o 3 (.load1 (X.s 2)),
 X.o 4 (.makeFunc F.q28 [X.s 0]),
 X.o 5 (.call F.q56 [X.s 3, X.s 4]),
 X.m 1 5]
def C.bbv : LO := C.bbv_b
def C.bbv_w := pO C.bbv.eq_1
def C.cb4 : ICode := .keep [0] (.seq (.region C.bbv) .ret)
def C.cb4_w := pC C.cb4.eq_1
def C.bbt_b : LO := [
 X.o 1 (.move (X.i 0))]
def C.bbt : LO := C.bbt_b
def C.bbt_w := pO C.bbt.eq_1
def C.q27 : IFunc := ⟨1, [.slot 1], .seq (.region C.bbt) C.cb4⟩
def C.q27_W := aI @C.bbv_w (aI @C.cb4_w @C.bbt_w)
def C.q27_B := aI @C.bbv_b.eq_1 @C.bbt_b.eq_1

def C.mc_b : LO := [
 X.o 4 (.move (X.i 0))]
def C.mc : LO := C.mc_b
def C.mc_w := pO C.mc.eq_1
def C.bqs : ICode := .keep [] (.seq (.region C.mc) .ret)
def C.bqs_w := pC C.bqs.eq_1
def C.mb_b : LO := [
 X.o 20 (.bin .add (X.s 10) (X.i 1)),
 X.m 10 20]
def C.mb : LO := C.mb_b
def C.mb_w := pO C.mb.eq_1
def C.bqw : ICode := .keep [1, 8, 9, 10] (.region C.mb)
def C.bqw_w := pC C.bqw.eq_1
def C.bfd_b : LO := [
 X.m 19 7,
 X.m 4 19]
def C.bfd : LO := C.bfd_b
def C.bfd_w := pO C.bfd.eq_1
def C.cd6 : ICode := .seq (.region C.bfd) .ret
def C.cd6_w := pC C.cd6.eq_1
def C.cd7 : ICode := .keep [1, 7, 8, 9, 10, 18] (.cond (X.s 18) C.cd6 .skip)
def C.cd7_w := pC C.cd7.eq_1
def C.bfc_b : LO := [
 X.m 17 7,
 X.o 18 (.bin .neq (X.s 17) (X.i 0))]
def C.bfc : LO := C.bfc_b
def C.bfc_w := pO C.bfc.eq_1
def C.cd8 : ICode := .keep [1, 7, 8, 9, 10] (.seq (.region C.bfc) C.cd7)
def C.cd8_w := pC C.cd8.eq_1
def C.bfb_b : LO := [
 X.m 14 1,
 X.o 15 (.loadN 6 (X.s 6)),
 X.o 16 (.callv (X.s 14) [X.s 15]),
 X.m 7 16]
def C.bfb : LO := C.bfb_b
def C.bfb_w := pO C.bfb.eq_1
def C.cd9 : ICode := .keep [1, 6, 8, 9, 10] (.seq (.region C.bfb) C.cd8)
def C.cd9_w := pC C.cd9.eq_1
def C.l9_b : LO := [
 X.o 12 (.idxAddr 6 (X.s 8) (X.s 10)),
 X.o 13 (.loadN 6 (X.s 12)),
 X.o 6 (.alloc [.int .u8 0, .nils, .int .u64 0, .int .i64 0, .int .i64 0, .int .i64 0]),
 X.n (.storeN 6 (X.s 6) (X.s 13))]
def C.l9 : LO := C.l9_b
def C.l9_w := pO C.l9.eq_1
def C.bqr : ICode := .seq (.region C.l9) C.cd9
def C.bqr_w := pC C.bqr.eq_1
def C.bqx : ICode := .keep [1, 8, 9, 10] (.seq (.block 1 C.bqr) C.bqw)
def C.bqx_w := pC C.bqx.eq_1
def C.bqy : ICode := .keep [1, 8, 9, 10, 11] (.seq (.cond (X.s 11) .skip (.exit 0)) C.bqx)
def C.bqy_w := pC C.bqy.eq_1
def C.l8_b : LO := [
 X.o 11 (.bin .lss (X.s 10) (X.s 9))]
def C.l8 : LO := C.l8_b
def C.l8_w := pO C.l8.eq_1
def C.cp2 : ICode := .keep [1, 8, 9, 10] (.seq (.region C.l8) C.bqy)
def C.cp2_w := pC C.cp2.eq_1
def C.bqp : ICode := .loop C.cp2
def C.bqp_w := pC C.bqp.eq_1
def C.bqt : ICode := .keep [1, 8, 9, 10] (.block 0 C.bqp)
def C.bqt_w := pC C.bqt.eq_1
def C.l7_b : LO := [
 X.m 8 0,
 X.o 9 (.len (X.s 8)),
 X.o 10 (.move (X.i 0))]
def C.l7 : LO := C.l7_b
def C.l7_w := pO C.l7.eq_1
def C.bqv : ICode := .keep [0, 1] (.seq (.seq (.region C.l7) C.bqt) C.bqs)
def C.bqv_w := pC C.bqv.eq_1
def C.l6_b : LO := [
 X.o 4 (.move (X.i 0))]
def C.l6 : LO := C.l6_b
def C.l6_w := pO C.l6.eq_1
def C.q56 : IFunc := ⟨2, [.slot 4], .seq (.region C.l6) C.bqv⟩
def C.q56_W := aI (aI (aI (aI @C.mc_w @C.bqs_w) (aI @C.mb_w (aI @C.bqw_w @C.bfd_w))) (aI (aI @C.cd6_w @C.cd7_w) (aI @C.bfc_w (aI @C.cd8_w @C.bfb_w)))) (aI (aI (aI @C.cd9_w @C.l9_w) (aI @C.bqr_w (aI @C.bqx_w @C.bqy_w))) (aI (aI @C.l8_w (aI @C.bqp_w @C.bqt_w)) (aI @C.l7_w (aI @C.bqv_w @C.l6_w))))
def C.q56_B := aI (aI (aI @C.mc_b.eq_1 @C.mb_b.eq_1) (aI @C.bfd_b.eq_1 @C.bfc_b.eq_1)) (aI (aI @C.bfb_b.eq_1 @C.l9_b.eq_1) (aI @C.l8_b.eq_1 (aI @C.l7_b.eq_1 @C.l6_b.eq_1)))

def C.bbw_b : LO := [
 X.o 4 (.loadN 4 (X.s 1)),
 X.o 5 (.loadN 6 (X.s 2)),
 X.o 6 (.call F.q41 [X.s 4, X.s 5]),
 X.m 3 6]
def C.bbw : LO := C.bbw_b
def C.bbw_w := pO C.bbw.eq_1
def C.cb5 : ICode := .keep [1, 2] (.seq (.region C.bbw) .ret)
def C.cb5_w := pC C.cb5.eq_1
def C.lm_b : LO := [
 X.o 2 (.boxN (X.s 0)),
 X.o 3 (.move (X.i 0))]
def C.lm : LO := C.lm_b
def C.lm_w := pO C.lm.eq_1
def C.q28 : IFunc := ⟨2, [.slot 3], .seq (.region C.lm) C.cb5⟩
def C.q28_W := aI @C.bbw_w (aI @C.cb5_w @C.lm_w)
def C.q28_B := aI @C.bbw_b.eq_1 @C.lm_b.eq_1

def C.bc2_b : LO := [
 X.o 5 (.makeFunc F.q42 [X.s 3]),
 X.o 6 (.makeFunc F.q43 [X.s 3, X.s 2]),
 X.o 7 (.makeFunc F.q45 [X.s 3]),
 X.o 8 (.buildSlice 1 3 [.nilf] [(0, 1, X.s 5), (1, 1, X.s 6), (2, 1, X.s 7)]),
 X.o 9 (.call F.q61 [X.s 8]),
 X.m 4 9]
def C.bc2 : LO := C.bc2_b
def C.bc2_w := pO C.bc2.eq_1
def C.cdb : ICode := .keep [2, 3] (.seq (.region C.bc2) .ret)
def C.cdb_w := pC C.cdb.eq_1
def C.bc1_b : LO := [
 X.o 2 (.boxN (X.s 0)),
 X.o 3 (.boxN (X.s 1)),
 X.o 4 (.move (X.i 0))]
def C.bc1 : LO := C.bc1_b
def C.bc1_w := pO C.bc1.eq_1
def C.q41 : IFunc := ⟨2, [.slot 4], .seq (.region C.bc1) C.cdb⟩
def C.q41_W := aI @C.bc2_w (aI @C.cdb_w @C.bc1_w)
def C.q41_B := aI @C.bc2_b.eq_1 @C.bc1_b.eq_1

def C.bby_b : LO := [
 X.o 2 (.loadN 4 (X.s 0)),
 X.o 3 (.call F.q37 [X.s 2]),
 X.o 4 (.call F.q46 [X.s 3]),
 X.m 1 4]
def C.bby : LO := C.bby_b
def C.bby_w := pO C.bby.eq_1
def C.cb6 : ICode := .keep [0] (.seq (.region C.bby) .ret)
def C.cb6_w := pC C.cb6.eq_1
def C.bbx_b : LO := [
 X.o 1 (.move (X.i 0))]
def C.bbx : LO := C.bbx_b
def C.bbx_w := pO C.bbx.eq_1
def C.q29 : IFunc := ⟨1, [.slot 1], .seq (.region C.bbx) C.cb6⟩
def C.q29_W := aI @C.bby_w (aI @C.cb6_w @C.bbx_w)
def C.q29_B := aI @C.bby_b.eq_1 @C.bbx_b.eq_1

def C.bdd_b : LO := [
 X.m 3 0,
 X.o 4 (.call F.q75 [X.s 3]),
 X.o 5 (.bin .eql (X.s 4) (X.i 5)),
 X.o 6 (.call F.q73 [X.s 5, X.i 5]),
 X.m 2 6]
def C.bdd : LO := C.bdd_b
def C.bdd_w := pO C.bdd.eq_1
def C.cdh : ICode := .keep [0] (.seq (.region C.bdd) .ret)
def C.cdh_w := pC C.cdh.eq_1
def C.bdc_b : LO := [
 X.o 2 (.move (X.i 0))]
def C.bdc : LO := C.bdc_b
def C.bdc_w := pO C.bdc.eq_1
def C.q46 : IFunc := ⟨1, [.slot 2], .seq (.region C.bdc) C.cdh⟩
def C.q46_W := aI @C.bdd_w (aI @C.cdh_w @C.bdc_w)
def C.q46_B := aI @C.bdd_b.eq_1 @C.bdc_b.eq_1

def C.lw_b : LO := [
 X.m 25 3,
 X.m 2 25]
def C.lw : LO := C.lw_b
def C.lw_w := pO C.lw.eq_1
def C.byz : ICode := .keep [3] (.seq (.region C.lw) .ret)
def C.byz_w := pC C.byz.eq_1
def C.lv_b : LO := [
 X.o 24 (.bin .add (X.s 13) (X.i 1)),
 X.m 13 24]
def C.lv : LO := C.lv_b
def C.lv_w := pO C.lv.eq_1
def C.by1 : ICode := .keep [3, 11, 12, 13] (.region C.lv)
def C.by1_w := pC C.by1.eq_1
def C.bcg_b : LO := [
 X.m 18 3,
 X.m 19 4,
 X.o 20 (.fldAddr 1 (X.s 5)),
 X.o 21 (.load1 (X.s 20)),
 X.o 22 (.call F.q70 [X.s 21]),
 X.o 23 (.idxAddr 1 (X.s 18) (X.s 19)),
 X.n (.store1 (X.s 23) (X.s 22))]
def C.bcg : LO := C.bcg_b
def C.bcg_w := pO C.bcg.eq_1
def C.ccl : ICode := .keep [3, 4, 5, 11, 12, 13] (.region C.bcg)
def C.ccl_w := pC C.ccl.eq_1
def C.lt_b : LO := [
 X.m 15 13,
 X.o 16 (.idxAddr 6 (X.s 11) (X.s 13)),
 X.o 17 (.loadN 6 (X.s 16)),
 X.o 5 (.alloc [.int .u8 0, .nils, .int .u64 0, .int .i64 0, .int .i64 0, .int .i64 0]),
 X.m 4 15,
 X.n (.storeN 6 (X.s 5) (X.s 17))]
def C.lt : LO := C.lt_b
def C.lt_w := pO C.lt.eq_1
def C.byy : ICode := .seq (.region C.lt) C.ccl
def C.byy_w := pC C.byy.eq_1
def C.by2 : ICode := .keep [3, 11, 12, 13] (.seq (.block 1 C.byy) C.by1)
def C.by2_w := pC C.by2.eq_1
def C.by3 : ICode := .keep [3, 11, 12, 13, 14] (.seq (.cond (X.s 14) .skip (.exit 0)) C.by2)
def C.by3_w := pC C.by3.eq_1
def C.ls_b : LO := [
 X.o 14 (.bin .lss (X.s 13) (X.s 12))]
def C.ls : LO := C.ls_b
def C.ls_w := pO C.ls.eq_1
def C.cpy : ICode := .keep [3, 11, 12, 13] (.seq (.region C.ls) C.by3)
def C.cpy_w := pC C.cpy.eq_1
def C.byq : ICode := .loop C.cpy
def C.byq_w := pC C.byq.eq_1
def C.by4 : ICode := .keep [3, 11, 12, 13] (.block 0 C.byq)
def C.by4_w := pC C.by4.eq_1
def C.lr_b : LO := [
 X.o 10 (.fldAddr 0 (X.s 1)),
 X.o 11 (.load1 (X.s 10)),
 X.o 12 (.len (X.s 11)),
 X.o 13 (.move (X.i 0))]
def C.lr : LO := C.lr_b
def C.lr_w := pO C.lr.eq_1
def C.by0 : ICode := .keep [1, 3] (.seq (.seq (.region C.lr) C.by4) C.byz)
def C.by0_w := pC C.by0.eq_1
def C.c7_b : LO := [
 X.o 6 (.fldAddr 0 (X.s 1)),
 X.o 7 (.load1 (X.s 6)),
 X.o 8 (.len (X.s 7)),
 X.o 9 (.makeSlice 1 24 [.nils] (X.s 8) (X.s 8)),
 X.m 3 9]
def C.c7 : LO := C.c7_b
def C.c7_w := pO C.c7.eq_1
def C.bnz : ICode := .keep [1] (.seq (.region C.c7) C.by0)
def C.bnz_w := pC C.bnz.eq_1
def C.b1_b : LO := [
 X.o 1 (.boxN (X.s 0)),
 X.o 2 (.move (.cst (.nils)))]
def C.b1 : LO := C.b1_b
def C.b1_w := pO C.b1.eq_1
def C.q37 : IFunc := ⟨1, [.slot 2], .seq (.region C.b1) C.bnz⟩
def C.q37_W := aI (aI (aI (aI @C.lw_w @C.byz_w) (aI @C.lv_w @C.by1_w)) (aI (aI @C.bcg_w @C.ccl_w) (aI @C.lt_w (aI @C.byy_w @C.by2_w)))) (aI (aI (aI @C.by3_w @C.ls_w) (aI @C.byq_w @C.by4_w)) (aI (aI @C.lr_w @C.by0_w) (aI @C.c7_w (aI @C.bnz_w @C.b1_w))))
def C.q37_B := aI (aI (aI @C.lw_b.eq_1 @C.lv_b.eq_1) (aI @C.bcg_b.eq_1 @C.lt_b.eq_1)) (aI (aI @C.ls_b.eq_1 @C.lr_b.eq_1) (aI @C.c7_b.eq_1 @C.b1_b.eq_1))

def C.bb3_b : LO := [
 X.o 2 (.fldAddr 1 (X.s 0)),
 X.o 3 (.load1 (X.s 2)),
 X.o 4 (.makeFunc F.q31 [X.s 0]),
 X.o 5 (.call F.q58 [X.s 3, X.s 4]),
 X.m 1 5]
def C.bb3 : LO := C.bb3_b
def C.bb3_w := pO C.bb3.eq_1
def C.ccc : ICode := .keep [0] (.seq (.region C.bb3) .ret)
def C.ccc_w := pC C.ccc.eq_1
def C.bb2_b : LO := [
 X.o 1 (.move (X.i 0))]
def C.bb2 : LO := C.bb2_b
def C.bb2_w := pO C.bb2.eq_1
def C.q30 : IFunc := ⟨1, [.slot 1], .seq (.region C.bb2) C.ccc⟩
def C.q30_W := aI @C.bb3_w (aI @C.ccc_w @C.bb2_w)
def C.q30_B := aI @C.bb3_b.eq_1 @C.bb2_b.eq_1

def C.ms_b : LO := [
 X.o 4 (.move (X.i 0))]
def C.ms : LO := C.ms_b
def C.ms_w := pO C.ms.eq_1
def C.bq8 : ICode := .keep [] (.seq (.region C.ms) .ret)
def C.bq8_w := pC C.bq8.eq_1
def C.mr_b : LO := [
 X.o 20 (.bin .add (X.s 10) (X.i 1)),
 X.m 10 20]
def C.mr : LO := C.mr_b
def C.mr_w := pO C.mr.eq_1
def C.bzc : ICode := .keep [1, 8, 9, 10] (.region C.mr)
def C.bzc_w := pC C.bzc.eq_1
def C.bfl_b : LO := [
 X.m 19 7,
 X.m 4 19]
def C.bfl : LO := C.bfl_b
def C.bfl_w := pO C.bfl.eq_1
def C.cfg : ICode := .seq (.region C.bfl) .ret
def C.cfg_w := pC C.cfg.eq_1
def C.cfh : ICode := .keep [1, 7, 8, 9, 10, 18] (.cond (X.s 18) C.cfg .skip)
def C.cfh_w := pC C.cfh.eq_1
def C.bfk_b : LO := [
 X.m 17 7,
 X.o 18 (.bin .neq (X.s 17) (X.i 0))]
def C.bfk : LO := C.bfk_b
def C.bfk_w := pO C.bfk.eq_1
def C.cfj : ICode := .keep [1, 7, 8, 9, 10] (.seq (.region C.bfk) C.cfh)
def C.cfj_w := pC C.cfj.eq_1
def C.bfj_b : LO := [
 X.m 14 1,
 X.o 15 (.loadN 3 (X.s 6)),
 X.o 16 (.callv (X.s 14) [X.s 15]),
 X.m 7 16]
def C.bfj : LO := C.bfj_b
def C.bfj_w := pO C.bfj.eq_1
def C.cfk : ICode := .keep [1, 6, 8, 9, 10] (.seq (.region C.bfj) C.cfj)
def C.cfk_w := pC C.cfk.eq_1
def C.mp_b : LO := [
 X.o 12 (.idxAddr 3 (X.s 8) (X.s 10)),
 X.o 13 (.loadN 3 (X.s 12)),
 X.o 6 (.alloc [.int .i64 0, .int .i64 0, .bool false]),
 X.n (.storeN 3 (X.s 6) (X.s 13))]
def C.mp : LO := C.mp_b
def C.mp_w := pO C.mp.eq_1
def C.bq7 : ICode := .seq (.region C.mp) C.cfk
def C.bq7_w := pC C.bq7.eq_1
def C.bzd : ICode := .keep [1, 8, 9, 10] (.seq (.block 1 C.bq7) C.bzc)
def C.bzd_w := pC C.bzd.eq_1
def C.bzf : ICode := .keep [1, 8, 9, 10, 11] (.seq (.cond (X.s 11) .skip (.exit 0)) C.bzd)
def C.bzf_w := pC C.bzf.eq_1
def C.mn_b : LO := [
 X.o 11 (.bin .lss (X.s 10) (X.s 9))]
def C.mn : LO := C.mn_b
def C.mn_w := pO C.mn.eq_1
def C.cp4 : ICode := .keep [1, 8, 9, 10] (.seq (.region C.mn) C.bzf)
def C.cp4_w := pC C.cp4.eq_1
def C.bq6 : ICode := .loop C.cp4
def C.bq6_w := pC C.bq6.eq_1
def C.bq9 : ICode := .keep [1, 8, 9, 10] (.block 0 C.bq6)
def C.bq9_w := pC C.bq9.eq_1
def C.mm_b : LO := [
 X.m 8 0,
 X.o 9 (.len (X.s 8)),
 X.o 10 (.move (X.i 0))]
def C.mm : LO := C.mm_b
def C.mm_w := pO C.mm.eq_1
def C.bzb : ICode := .keep [0, 1] (.seq (.seq (.region C.mm) C.bq9) C.bq8)
def C.bzb_w := pC C.bzb.eq_1
def C.ml_b : LO := [
 X.o 4 (.move (X.i 0))]
def C.ml : LO := C.ml_b
def C.ml_w := pO C.ml.eq_1
def C.q58 : IFunc := ⟨2, [.slot 4], .seq (.region C.ml) C.bzb⟩
def C.q58_W := aI (aI (aI (aI @C.ms_w @C.bq8_w) (aI @C.mr_w (aI @C.bzc_w @C.bfl_w))) (aI (aI @C.cfg_w @C.cfh_w) (aI @C.bfk_w (aI @C.cfj_w @C.bfj_w)))) (aI (aI (aI @C.cfk_w @C.mp_w) (aI @C.bq7_w (aI @C.bzd_w @C.bzf_w))) (aI (aI @C.mn_w (aI @C.bq6_w @C.bq9_w)) (aI @C.mm_w (aI @C.bzb_w @C.ml_w))))
def C.q58_B := aI (aI (aI @C.ms_b.eq_1 @C.mr_b.eq_1) (aI @C.bfl_b.eq_1 @C.bfk_b.eq_1)) (aI (aI @C.bfj_b.eq_1 @C.mp_b.eq_1) (aI @C.mn_b.eq_1 (aI @C.mm_b.eq_1 @C.ml_b.eq_1)))

end Go.Proofs.YtdmfgodajoojpaaGreatDoor.Cn
