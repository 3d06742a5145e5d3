/- The intermediate code of the functions, printed by a program out of the loaded program; that it is theirs is checked in the text of links. -/
import Derived.Test.YtdmfgodajoojpaaGreatDoorCnL2
set_option linter.defProp false
namespace Go.Proofs.YtdmfgodajoojpaaGreatDoor.Cn
open Go
theorem aI {a b : Prop} (x : a) (y : b) : a ∧ b := ⟨x, y⟩
theorem pC {c d : ICode} (h : c = d) ⦃P : Program⦄ ⦃Q : IExit → AFr → ASt → Prop⦄ ⦃fr : AFr⦄ ⦃st : ASt⦄ : awp P c Q fr st = awp P d Q fr st := by rw [h]
theorem pO {c d : List IOper} (h : c = d) ⦃P : Program⦄ ⦃k : AFr → ASt → Prop⦄ ⦃fr : AFr⦄ ⦃st : ASt⦄ : aops P c k fr st = aops P d k fr st := by rw [h]
abbrev LO := List IOper
variable {P : Program} {Q : IExit → AFr → ASt → Prop} {fr : AFr} {st : ASt}

abbrev F.main_main : Nat := 0
abbrev F.gosem_cut : Nat := 1
abbrev F.gosem_cut_init : Nat := 2
abbrev F.q12 : Nat := 3
abbrev F.catnaplaw12_HardDead : Nat := 4
abbrev F.catnaplaw12_HardGates : Nat := 5
abbrev F.catnaplaw12_HardWakes : Nat := 6
abbrev F.catnaplaw12_HardResets : Nat := 7
abbrev F.catnaplaw12_HardKeeps : Nat := 8
abbrev F.q15 : Nat := 9
abbrev F.q13 : Nat := 10
abbrev F.q91 : Nat := 11
abbrev F.q14 : Nat := 12
abbrev F.q4 : Nat := 13
abbrev F.q82 : Nat := 14
abbrev F.q79 : Nat := 15
abbrev F.q85 : Nat := 16
abbrev F.q84 : Nat := 17
abbrev F.q81 : Nat := 18
abbrev F.q87 : Nat := 19
abbrev F.catnaplaw12_wakes : Nat := 20
abbrev F.hard_Hard_Chain : Nat := 21
abbrev F.hard_Hard_Gate : Nat := 22
abbrev F.q78 : Nat := 23
abbrev F.q22 : Nat := 24
abbrev F.hard_Hard_Assert : Nat := 25
abbrev F.hard_Hard_Release : Nat := 26
abbrev F.q80 : Nat := 27
abbrev F.hard_Hard_Down : Nat := 28
abbrev F.hard_Hard_Phase : Nat := 29
abbrev F.q86 : Nat := 30
abbrev F.q83 : Nat := 31
abbrev F.q16 : Nat := 32
abbrev F.q97 : Nat := 33
abbrev F.q121 : Nat := 34
abbrev F.q117 : Nat := 35
abbrev F.q107 : Nat := 36
abbrev F.q104 : Nat := 37
abbrev F.q9 : Nat := 38
abbrev F.q1 : Nat := 39
abbrev F.q10 : Nat := 40
abbrev F.q89 : Nat := 41
abbrev F.q102 : Nat := 42
abbrev F.q5 : Nat := 43
abbrev F.q100 : Nat := 44
abbrev F.q90 : Nat := 45
abbrev F.q88 : Nat := 46
abbrev F.q103 : Nat := 47
abbrev F.q7 : Nat := 48
abbrev F.q19 : Nat := 49
abbrev F.q94 : Nat := 50
abbrev F.q92 : Nat := 51
abbrev F.q119 : Nat := 52
abbrev F.q101 : Nat := 53
abbrev F.clock_Tree_Chain : Nat := 54
abbrev F.clock_Tree_On : Nat := 55
abbrev F.q17 : Nat := 56
abbrev F.q93 : Nat := 57
abbrev F.q118 : Nat := 58
abbrev F.q58 : Nat := 59
abbrev F.q23 : Nat := 60
abbrev F.q59 : Nat := 61
abbrev F.q24 : Nat := 62
abbrev F.q53 : Nat := 63
abbrev F.q25 : Nat := 64
abbrev F.q38 : Nat := 65
abbrev F.q26 : Nat := 66
abbrev F.q43 : Nat := 67
abbrev F.q34 : Nat := 68
abbrev F.q27 : Nat := 69
abbrev F.q55 : Nat := 70
abbrev F.q28 : Nat := 71
abbrev F.q50 : Nat := 72
abbrev F.q29 : Nat := 73
abbrev F.q36 : Nat := 74
abbrev F.q30 : Nat := 75
abbrev F.q56 : Nat := 76
abbrev F.q68 : Nat := 77
abbrev F.q31 : Nat := 78
abbrev F.q54 : Nat := 79
abbrev F.q32 : Nat := 80
abbrev F.q44 : Nat := 81
abbrev F.q33 : Nat := 82
abbrev F.q37 : Nat := 83
abbrev F.reset_Lines_Assert : Nat := 84
abbrev F.q105 : Nat := 85
abbrev F.reset_Lines_Release : Nat := 86
abbrev F.power_Grid_Down : Nat := 87
abbrev F.q95 : Nat := 88
abbrev F.q35 : Nat := 89
abbrev F.q122 : Nat := 90
abbrev F.q2 : Nat := 91
abbrev F.q11 : Nat := 92
abbrev F.q8 : Nat := 93
abbrev F.q6 : Nat := 94
abbrev F.q108 : Nat := 95
abbrev F.q113 : Nat := 96
abbrev F.q21 : Nat := 97
abbrev F.q99 : Nat := 98
abbrev F.q111 : Nat := 99
abbrev F.q109 : Nat := 100
abbrev F.q20 : Nat := 101
abbrev F.slices_Reverse_int_int : Nat := 102
abbrev F.q18 : Nat := 103
abbrev F.q96 : Nat := 104
abbrev F.q120 : Nat := 105
abbrev F.q60 : Nat := 106
abbrev F.q70 : Nat := 107
abbrev F.q39 : Nat := 108
abbrev F.q69 : Nat := 109
abbrev F.q40 : Nat := 110
abbrev F.q57 : Nat := 111
abbrev F.q41 : Nat := 112
abbrev F.q71 : Nat := 113
abbrev F.q42 : Nat := 114
abbrev F.q61 : Nat := 115
abbrev F.q72 : Nat := 116
abbrev F.q67 : Nat := 117
abbrev F.q51 : Nat := 118
abbrev F.q52 : Nat := 119
abbrev F.q45 : Nat := 120
abbrev F.q46 : Nat := 121
abbrev F.q47 : Nat := 122
abbrev F.q48 : Nat := 123
abbrev F.q49 : Nat := 124
abbrev F.q114 : Nat := 125
abbrev F.q106 : Nat := 126
abbrev F.q98 : Nat := 127
abbrev F.q62 : Nat := 128
abbrev F.q64 : Nat := 129
abbrev F.q66 : Nat := 130
abbrev F.q63 : Nat := 131
abbrev F.q65 : Nat := 132
abbrev F.q3 : Nat := 133
abbrev F.q0 : Nat := 134
abbrev F.q116 : Nat := 135
abbrev F.q112 : Nat := 136
abbrev F.q110 : Nat := 137
abbrev F.q73 : Nat := 138
abbrev F.q115 : Nat := 139
abbrev F.q77 : Nat := 140
abbrev F.q74 : Nat := 141
abbrev F.q76 : Nat := 142
abbrev F.q75 : Nat := 143
abbrev F.runtime_boundsError_Error : Nat := 144
abbrev F.runtime_boundsError_RuntimeError : Nat := 145
abbrev F.runtime_errorString_Error : Nat := 146
abbrev F.runtime_errorString_RuntimeError : Nat := 147
abbrev F.runtime_plainError_Error : Nat := 148
abbrev F.runtime_plainError_RuntimeError : Nat := 149
abbrev F.runtime_errorAddressString_Error : Nat := 150
abbrev F.runtime_errorAddressString_RuntimeError : Nat := 151
abbrev F.runtime_TypeAssertionError_Error : Nat := 152
abbrev F.runtime_TypeAssertionError_RuntimeError : Nat := 153
abbrev F.runtime_PanicNilError_Error : Nat := 154
abbrev F.runtime_PanicNilError_RuntimeError : Nat := 155
abbrev F.internal_abi_Type_Align : Nat := 156
abbrev F.internal_runtime_maps_unhashableTypeError_Error : Nat := 157
abbrev F.internal_runtime_maps_unhashableTypeError_RuntimeError : Nat := 158
abbrev F.api_Errno_Error : Nat := 159
abbrev F.power_Grid_Left : Nat := 160
abbrev F.quiet_Chan_Denied : Nat := 161
abbrev F.internal_abi_Kind_String : Nat := 162
abbrev F.var_s_door_quiet_letters_is_laid_by_its_own_initialiser_plain_data_look_11 : Nat := 163
abbrev F.var_s_door_gosem_cut_vars_holds_initialisers_alone_see_the_manifest_s_row_cutvarsword_look_11_test_files_too : Nat := 164
abbrev F.var_s_door_the_look_of_gosem_cut_vars_went_over_the_folder_that_the_caller_named_as_the_repository_s_root_look_11 : Nat := 165
abbrev F.gosem_cut_vars : Nat := 166

def C.bw_b : LO := [
 X.m 162 11,
 X.m 163 13,
 X.o 164 (.call F.q84 [X.s 162, X.s 163]),
 X.o 165 (.bin .eql (X.s 164) (.cst (.int .u8 115))),
 X.m 166 165,
 X.t 166 167 (.move (X.s 11)),
 X.t 166 168 (.move (X.s 13)),
 X.t 166 169 (.call F.q81 [X.s 167, X.s 168]),
 X.t 166 170 (.bin .eql (X.s 169) (X.i 0)),
 X.o 171 (.pick (X.s 166) (X.s 170) (.cst (.bool false))),
 X.m 172 171,
 X.t 172 173 (.move (X.s 11)),
 X.t 172 174 (.move (X.s 13)),
 X.t 172 175 (.call F.q84 [X.s 173, X.s 174]),
 X.t 172 176 (.bin .eql (X.s 175) (.cst (.int .u8 114))),
 X.o 177 (.pick (X.s 172) (X.s 176) (.cst (.bool false))),
 X.m 178 177,
 X.t 178 179 (.move (X.s 11)),
 X.t 178 180 (.fldAddr 3 (X.s 10)),
 X.t 178 181 (.load1 (X.s 180)),
 X.t 178 182 (.len (X.s 181)),
 X.t 178 183 (.call F.q81 [X.s 179, X.s 182]),
 X.t 178 184 (.bin .eql (X.s 183) (X.i 4)),
 X.o 185 (.pick (X.s 178) (X.s 184) (.cst (.bool false))),
 X.m 8 185]
def C.bw : LO := C.bw_b
def C.bw_w := pO C.bw.eq_1
def C.bl5 : ICode := .keep [10, 11, 13] (.seq (.region C.bw) .ret)
def C.bl5_w := pC C.bl5.eq_1
def C.bv_b : LO := [
 X.o 8 (.move (.cst (.bool false)))]
def C.bv : LO := C.bv_b
def C.bv_w := pO C.bv.eq_1
def C.bmb : ICode := .seq (.region C.bv) .ret
def C.bmb_w := pC C.bmb.eq_1
def C.bmn : ICode := .keep [10, 11, 13, 14, 15, 161] (.cond (X.s 161) C.bmb .skip)
def C.bmn_w := pC C.bmn.eq_1
def C.bh_b : LO := [
 X.m 143 11,
 X.m 144 13,
 X.o 145 (.call F.q84 [X.s 143, X.s 144]),
 X.o 146 (.bin .eql (X.s 145) (.cst (.int .u8 115))),
 X.m 147 14,
 X.o 148 (.bin .leq (X.s 147) (X.i 0)),
 X.o 149 (.eqB true (X.s 146) (X.s 148)),
 X.m 150 149,
 X.f 150 151 (.move (X.s 14)),
 X.f 150 152 (.bin .lss (X.s 151) (X.i (-1))),
 X.o 153 (.pick (X.s 150) (.cst (.bool true)) (X.s 152)),
 X.m 154 153,
 X.f 154 155 (.move (X.s 11)),
 X.f 154 156 (.move (X.s 13)),
 X.f 154 157 (.call F.q87 [X.s 155, X.s 156]),
 X.f 154 158 (.move (X.s 14)),
 X.f 154 159 (.minmax true (X.s 158) (X.i 0)),
 X.f 154 160 (.bin .neq (X.s 157) (X.s 159)),
 X.o 161 (.pick (X.s 154) (.cst (.bool true)) (X.s 160))]
def C.bh : LO := C.bh_b
def C.bh_w := pO C.bh.eq_1
def C.bmy : ICode := .keep [10, 11, 13, 14, 15] (.seq (.region C.bh) C.bmn)
def C.bmy_w := pC C.bmy.eq_1
def C.cd_b : LO := [
 X.m 141 14,
 X.o 142 (.bin .sub (X.s 141) (X.i 1)),
 X.m 14 142]
def C.cd : LO := C.cd_b
def C.cd_w := pO C.cd.eq_1
def C.bm2 : ICode := .keep [10, 11, 13, 14, 15] (.seq (.region C.cd) C.bmy)
def C.bm2_w := pC C.bm2.eq_1
def C.cc_b : LO := [
 X.m 136 11,
 X.m 137 13,
 X.o 138 (.bin .shl (.cst (.int .u32 1)) (X.s 137)),
 X.o 139 (.un .xor (X.s 138)),
 X.o 140 (.call F.q85 [X.s 136, X.s 139])]
def C.cc : LO := C.cc_b
def C.cc_w := pO C.cc.eq_1
def C.bm9 : ICode := .keep [10, 11, 13, 14, 15] (.seq (.region C.cc) C.bm2)
def C.bm9_w := pC C.bm9.eq_1
def C.f4_b : LO := [
 X.o 8 (.move (.cst (.bool false)))]
def C.f4 : LO := C.f4_b
def C.f4_w := pO C.f4.eq_1
def C.bnb : ICode := .seq (.region C.f4) .ret
def C.bnb_w := pC C.bnb.eq_1
def C.bnc : ICode := .keep [10, 11, 13, 14, 15, 135] (.cond (X.s 135) C.bnb .skip)
def C.bnc_w := pC C.bnc.eq_1
def C.f3_b : LO := [
 X.m 120 23,
 X.o 121 (.bin .neq (X.s 120) (X.i 6)),
 X.m 122 121,
 X.t 122 123 (.fldAddr 3 (X.s 10)),
 X.t 122 124 (.load1 (X.s 123)),
 X.t 122 125 (.move (X.s 13)),
 X.t 122 126 (.idxAddr 6 (X.s 124) (X.s 125)),
 X.t 122 127 (.fldAddr 4 (X.s 126)),
 X.t 122 128 (.load1 (X.s 127)),
 X.t 122 129 (.len (X.s 128)),
 X.t 122 130 (.bin .gtr (X.s 129) (X.i 0)),
 X.t 122 131 (.move (X.s 130)),
 X.f 131 132 (.move (X.s 23)),
 X.f 131 133 (.bin .neq (X.s 132) (X.i 4)),
 X.t 122 134 (.pick (X.s 131) (.cst (.bool true)) (X.s 133)),
 X.o 135 (.pick (X.s 122) (X.s 134) (.cst (.bool false)))]
def C.f3 : LO := C.f3_b
def C.f3_w := pO C.f3.eq_1
def C.bnd : ICode := .keep [10, 11, 13, 14, 15, 23] (.seq (.seq (.region C.f3) C.bnc) C.bm9)
def C.bnd_w := pC C.bnd.eq_1
def C.b0_b : LO := [
 X.m 115 11,
 X.m 116 15,
 X.o 117 (.call F.q82 [X.s 115, X.s 116, .cst (.bool false), .cst (.int .u32 0)]),
 X.m 114 117,
 X.o 118 (.extract (X.s 114) 0),
 X.o 119 (.extract (X.s 114) 1),
 X.m 22 118,
 X.m 23 119]
def C.b0 : LO := C.b0_b
def C.b0_w := pO C.b0.eq_1
def C.bl0 : ICode := .seq (.region C.b0) C.bnd
def C.bl0_w := pC C.bl0.eq_1
def C.sf : ICode := .keep [10, 11, 13, 14, 15] (.block 5 C.bl0)
def C.sf_w := pC C.sf.eq_1
def C.bl6 : ICode := .keep [10, 11, 13, 14, 15, 113] (.cond (X.s 113) .skip (.exit 4))
def C.bl6_w := pC C.bl6.eq_1
def C.bt_b : LO := [
 X.m 110 11,
 X.m 111 13,
 X.o 112 (.call F.q84 [X.s 110, X.s 111]),
 X.o 113 (.bin .eql (X.s 112) (.cst (.int .u8 97)))]
def C.bt : LO := C.bt_b
def C.bt_w := pO C.bt.eq_1
def C.cf1 : ICode := .keep [10, 11, 13, 14, 15] (.seq (.seq (.region C.bt) C.bl6) C.sf)
def C.cf1_w := pC C.cf1.eq_1
def C.bj2 : ICode := .loop C.cf1
def C.bj2_w := pC C.bj2.eq_1
def C.m9 : ICode := .keep [10, 11, 13, 14, 15] (.seq (.block 4 C.bj2) C.bl5)
def C.m9_w := pC C.m9.eq_1
def C.f1_b : LO := [
 X.o 8 (.move (.cst (.bool false)))]
def C.f1 : LO := C.f1_b
def C.f1_w := pO C.f1.eq_1
def C.bl7 : ICode := .seq (.region C.f1) .ret
def C.bl7_w := pC C.bl7.eq_1
def C.bl8 : ICode := .keep [10, 11, 13, 14, 15, 109] (.cond (X.s 109) C.bl7 .skip)
def C.bl8_w := pC C.bl8.eq_1
def C.cr_b : LO := [
 X.m 106 11,
 X.m 107 13,
 X.o 108 (.call F.q79 [X.s 106, X.s 107]),
 X.o 109 (.bin .neq (X.s 108) (X.i 0))]
def C.cr : LO := C.cr_b
def C.cr_w := pO C.cr.eq_1
def C.bj3 : ICode := .keep [10, 11, 13, 14, 15] (.seq (.seq (.region C.cr) C.bl8) C.m9)
def C.bj3_w := pC C.bj3.eq_1
def C.b8_b : LO := [
 X.m 83 21,
 X.o 84 (.bin .add (X.s 83) (X.i 1)),
 X.m 21 84]
def C.b8 : LO := C.b8_b
def C.b8_w := pO C.b8.eq_1
def C.bl9 : ICode := .keep [10, 11, 13, 14, 15, 20, 21] (.region C.b8)
def C.bl9_w := pC C.bl9.eq_1
def C.f0_b : LO := [
 X.m 103 14,
 X.o 104 (.bin .sub (X.s 103) (X.i 1)),
 X.o 105 (.minmax true (X.s 104) (X.i 0)),
 X.m 14 105]
def C.f0 : LO := C.f0_b
def C.f0_w := pO C.f0.eq_1
def C.bmc : ICode := .keep [10, 11, 13, 14, 15, 20, 21] (.region C.f0)
def C.bmc_w := pC C.bmc.eq_1
def C.cb_b : LO := [
 X.o 8 (.move (.cst (.bool false)))]
def C.cb : LO := C.cb_b
def C.cb_w := pO C.cb.eq_1
def C.bmd : ICode := .seq (.region C.cb) .ret
def C.bmd_w := pC C.bmd.eq_1
def C.bmf : ICode := .keep [10, 11, 13, 14, 15, 20, 21, 102] (.cond (X.s 102) C.bmd .skip)
def C.bmf_w := pC C.bmf.eq_1
def C.fz_b : LO := [
 X.m 93 11,
 X.m 94 13,
 X.o 95 (.call F.q84 [X.s 93, X.s 94]),
 X.o 96 (.bin .neq (X.s 95) (.cst (.int .u8 100))),
 X.m 97 96,
 X.f 97 98 (.move (X.s 11)),
 X.f 97 99 (.move (X.s 13)),
 X.f 97 100 (.call F.q81 [X.s 98, X.s 99]),
 X.f 97 101 (.bin .neq (X.s 100) (X.i 0)),
 X.o 102 (.pick (X.s 97) (.cst (.bool true)) (X.s 101))]
def C.fz : LO := C.fz_b
def C.fz_w := pO C.fz.eq_1
def C.bmg : ICode := .keep [10, 11, 13, 14, 15, 20, 21] (.seq (.seq (.region C.fz) C.bmf) C.bmc)
def C.bmg_w := pC C.bmg.eq_1
def C.bz_b : LO := [
 X.m 89 11,
 X.m 90 13,
 X.o 91 (.bin .shl (.cst (.int .u32 1)) (X.s 90)),
 X.o 92 (.call F.q85 [X.s 89, X.s 91])]
def C.bz : LO := C.bz_b
def C.bz_w := pO C.bz.eq_1
def C.bmh : ICode := .keep [10, 11, 13, 14, 15, 20, 21] (.seq (.region C.bz) C.bmg)
def C.bmh_w := pC C.bmh.eq_1
def C.cp_b : LO := [
 X.o 8 (.move (.cst (.bool false)))]
def C.cp : LO := C.cp_b
def C.cp_w := pO C.cp.eq_1
def C.bmj : ICode := .seq (.region C.cp) .ret
def C.bmj_w := pC C.bmj.eq_1
def C.bmk : ICode := .keep [10, 11, 13, 14, 15, 20, 21, 88] (.cond (X.s 88) C.bmj .skip)
def C.bmk_w := pC C.bmk.eq_1
def C.b9_b : LO := [
 X.m 85 11,
 X.m 86 13,
 X.o 87 (.call F.q79 [X.s 85, X.s 86]),
 X.o 88 (.bin .neq (X.s 87) (X.i 0))]
def C.b9 : LO := C.b9_b
def C.b9_w := pO C.b9.eq_1
def C.bl1 : ICode := .seq (.seq (.region C.b9) C.bmk) C.bmh
def C.bl1_w := pC C.bl1.eq_1
def C.bml : ICode := .keep [10, 11, 13, 14, 15, 20, 21] (.seq (.block 3 C.bl1) C.bl9)
def C.bml_w := pC C.bml.eq_1
def C.bmm : ICode := .keep [10, 11, 13, 14, 15, 20, 21, 82] (.cond (X.s 82) .skip (.exit 2))
def C.bmm_w := pC C.bmm.eq_1
def C.cm_b : LO := [
 X.m 80 21,
 X.m 81 20,
 X.o 82 (.bin .lss (X.s 80) (X.s 81))]
def C.cm : LO := C.cm_b
def C.cm_w := pO C.cm.eq_1
def C.cf2 : ICode := .keep [10, 11, 13, 14, 15, 20, 21] (.seq (.seq (.region C.cm) C.bmm) C.bml)
def C.cf2_w := pC C.cf2.eq_1
def C.bl2 : ICode := .loop C.cf2
def C.bl2_w := pC C.bl2.eq_1
def C.bmp : ICode := .keep [10, 11, 13, 14, 15, 20, 21] (.block 2 C.bl2)
def C.bmp_w := pC C.bmp.eq_1
def C.fq_b : LO := [
 X.o 21 (.move (X.i 0))]
def C.fq : LO := C.fq_b
def C.fq_w := pO C.fq.eq_1
def C.bmr : ICode := .keep [10, 11, 13, 14, 15, 20] (.seq (.seq (.region C.fq) C.bmp) C.bj3)
def C.bmr_w := pC C.bmr.eq_1
def C.cl_b : LO := [
 X.m 78 3,
 X.o 79 (.call F.q14 [X.s 78, X.i 4]),
 X.m 20 79]
def C.cl : LO := C.cl_b
def C.cl_w := pO C.cl.eq_1
def C.nb : ICode := .keep [3, 10, 11, 13, 14, 15] (.seq (.region C.cl) C.bmr)
def C.nb_w := pC C.nb.eq_1
def C.bp_b : LO := [
 X.m 66 17,
 X.o 67 (.bin .add (X.s 66) (X.i 1)),
 X.m 17 67]
def C.bp : LO := C.bp_b
def C.bp_w := pO C.bp.eq_1
def C.bms : ICode := .keep [2, 3, 10, 11, 13, 14, 15, 17] (.region C.bp)
def C.bms_w := pC C.bms.eq_1
def C.fy_b : LO := [
 X.m 76 14,
 X.o 77 (.bin .add (X.s 76) (X.i 1)),
 X.m 14 77]
def C.fy : LO := C.fy_b
def C.fy_w := pO C.fy.eq_1
def C.bmt : ICode := .keep [2, 3, 10, 11, 13, 14, 15, 17] (.region C.fy)
def C.bmt_w := pC C.bmt.eq_1
def C.fx_b : LO := [
 X.o 8 (.move (.cst (.bool false)))]
def C.fx : LO := C.fx_b
def C.fx_w := pO C.fx.eq_1
def C.bmv : ICode := .seq (.region C.fx) .ret
def C.bmv_w := pC C.bmv.eq_1
def C.bmw : ICode := .keep [2, 3, 10, 11, 13, 14, 15, 17, 75] (.cond (X.s 75) C.bmv .skip)
def C.bmw_w := pC C.bmw.eq_1
def C.fw_b : LO := [
 X.m 74 19,
 X.o 75 (.bin .neq (X.s 74) (X.i 0))]
def C.fw : LO := C.fw_b
def C.fw_w := pO C.fw.eq_1
def C.bmx : ICode := .keep [2, 3, 10, 11, 13, 14, 15, 17, 19] (.seq (.seq (.region C.fw) C.bmw) C.bmt)
def C.bmx_w := pC C.bmx.eq_1
def C.br_b : LO := [
 X.m 69 11,
 X.m 70 15,
 X.o 71 (.call F.q82 [X.s 69, X.s 70, .cst (.bool false), .cst (.int .u32 0)]),
 X.m 68 71,
 X.o 72 (.extract (X.s 68) 0),
 X.o 73 (.extract (X.s 68) 1),
 X.m 18 72,
 X.m 19 73]
def C.br : LO := C.br_b
def C.br_w := pO C.br.eq_1
def C.bl3 : ICode := .seq (.region C.br) C.bmx
def C.bl3_w := pC C.bl3.eq_1
def C.bmq : ICode := .keep [2, 3, 10, 11, 13, 14, 15, 17] (.seq (.block 1 C.bl3) C.bms)
def C.bmq_w := pC C.bmq.eq_1
def C.nc : ICode := .keep [2, 3, 10, 11, 13, 14, 15, 17, 65] (.cond (X.s 65) .skip (.exit 0))
def C.nc_w := pC C.nc.eq_1
def C.bq_b : LO := [
 X.m 52 17,
 X.m 53 2,
 X.o 54 (.call F.q14 [X.s 53, X.i 5]),
 X.o 55 (.bin .lss (X.s 52) (X.s 54)),
 X.m 56 55,
 X.t 56 57 (.fldAddr 3 (X.s 10)),
 X.t 56 58 (.load1 (X.s 57)),
 X.t 56 59 (.move (X.s 13)),
 X.t 56 60 (.idxAddr 6 (X.s 58) (X.s 59)),
 X.t 56 61 (.fldAddr 4 (X.s 60)),
 X.t 56 62 (.load1 (X.s 61)),
 X.t 56 63 (.len (X.s 62)),
 X.t 56 64 (.bin .gtr (X.s 63) (X.i 0)),
 X.o 65 (.pick (X.s 56) (X.s 64) (.cst (.bool false)))]
def C.bq : LO := C.bq_b
def C.bq_w := pO C.bq.eq_1
def C.cf3 : ICode := .keep [2, 3, 10, 11, 13, 14, 15, 17] (.seq (.seq (.region C.bq) C.nc) C.bmq)
def C.cf3_w := pC C.cf3.eq_1
def C.bl4 : ICode := .loop C.cf3
def C.bl4_w := pC C.bl4.eq_1
def C.bmz : ICode := .keep [2, 3, 10, 11, 13, 14, 15, 17] (.block 0 C.bl4)
def C.bmz_w := pC C.bmz.eq_1
def C.f8_b : LO := [
 X.o 17 (.move (X.i 0))]
def C.f8 : LO := C.f8_b
def C.f8_w := pO C.f8.eq_1
def C.bm0 : ICode := .keep [2, 3, 10, 11, 13, 14, 15] (.seq (.seq (.region C.f8) C.bmz) C.nb)
def C.bm0_w := pC C.bm0.eq_1
def C.ct_b : LO := [
 X.m 48 13,
 X.o 49 (.call F.q4 [X.s 48, X.i 0]),
 X.m 47 49,
 X.o 50 (.extract (X.s 47) 0),
 X.o 51 (.extract (X.s 47) 1),
 X.m 15 50,
 X.m 16 51]
def C.ct : LO := C.ct_b
def C.ct_w := pO C.ct.eq_1
def C.bj4 : ICode := .keep [2, 3, 10, 11, 13, 14] (.seq (.region C.ct) C.bm0)
def C.bj4_w := pC C.bj4.eq_1
def C.f7_b : LO := [
 X.o 14 (.move (X.i 0))]
def C.f7 : LO := C.f7_b
def C.f7_w := pO C.f7.eq_1
def C.bm1 : ICode := .keep [2, 3, 10, 11, 13] (.seq (.region C.f7) C.bj4)
def C.bm1_w := pC C.bm1.eq_1
def C.cs_b : LO := [
 X.m 42 1,
 X.o 43 (.fldAddr 3 (X.s 10)),
 X.o 44 (.load1 (X.s 43)),
 X.o 45 (.len (X.s 44)),
 X.o 46 (.call F.q14 [X.s 42, X.s 45]),
 X.m 13 46]
def C.cs : LO := C.cs_b
def C.cs_w := pO C.cs.eq_1
def C.bj5 : ICode := .keep [1, 2, 3, 10, 11] (.seq (.region C.cs) C.bm1)
def C.bj5_w := pC C.bj5.eq_1
def C.f6_b : LO := [
 X.o 8 (.move (.cst (.bool false)))]
def C.f6 : LO := C.f6_b
def C.f6_w := pO C.f6.eq_1
def C.bm3 : ICode := .seq (.region C.f6) .ret
def C.bm3_w := pC C.bm3.eq_1
def C.bm4 : ICode := .keep [1, 2, 3, 10, 11, 41] (.cond (X.s 41) C.bm3 .skip)
def C.bm4_w := pC C.bm4.eq_1
def C.f5_b : LO := [
 X.m 32 9,
 X.o 33 (.un .not (X.s 32)),
 X.m 34 33,
 X.f 34 35 (.move (X.s 11)),
 X.f 34 36 (.eqP 0 false (X.s 35) (.cst (.nilp))),
 X.o 37 (.pick (X.s 34) (.cst (.bool true)) (X.s 36)),
 X.m 38 37,
 X.f 38 39 (.move (X.s 12)),
 X.f 38 40 (.bin .neq (X.s 39) (X.i 0)),
 X.o 41 (.pick (X.s 38) (.cst (.bool true)) (X.s 40))]
def C.f5 : LO := C.f5_b
def C.f5_w := pO C.f5.eq_1
def C.bm5 : ICode := .keep [1, 2, 3, 9, 10, 11, 12] (.seq (.seq (.region C.f5) C.bm4) C.bj5)
def C.bm5_w := pC C.bm5.eq_1
def C.f2_b : LO := [
 X.o 28 (.loadN 4 (X.s 10)),
 X.o 29 (.call F.q91 [X.s 28]),
 X.m 27 29,
 X.o 30 (.extract (X.s 27) 0),
 X.o 31 (.extract (X.s 27) 1),
 X.m 11 30,
 X.m 12 31]
def C.f2 : LO := C.f2_b
def C.f2_w := pO C.f2.eq_1
def C.bm6 : ICode := .keep [1, 2, 3, 9, 10] (.seq (.region C.f2) C.bm5)
def C.bm6_w := pC C.bm6.eq_1
def C.cn_b : LO := [
 X.m 25 0,
 X.o 26 (.call F.q13 [X.s 25]),
 X.o 10 (.alloc [.nils, .nils, .nils, .nils]),
 X.n (.storeN 4 (X.s 10) (X.s 26))]
def C.cn : LO := C.cn_b
def C.cn_w := pO C.cn.eq_1
def C.bm7 : ICode := .keep [0, 1, 2, 3, 9] (.seq (.region C.cn) C.bm6)
def C.bm7_w := pC C.bm7.eq_1
def C.fv_b : LO := [
 X.o 24 (.call F.q15 []),
 X.m 9 24]
def C.fv : LO := C.fv_b
def C.fv_w := pO C.fv.eq_1
def C.bm8 : ICode := .keep [0, 1, 2, 3] (.seq (.region C.fv) C.bm7)
def C.bm8_w := pC C.bm8.eq_1
def C.ft_b : LO := [
 X.o 8 (.move (.cst (.bool false)))]
def C.ft : LO := C.ft_b
def C.ft_w := pO C.ft.eq_1
def C.q12 : IFunc := ⟨4, [.slot 8], .seq (.region C.ft) C.bm8⟩
def C.q12_W := aI (aI (aI (aI (aI (aI @C.bw_w @C.bl5_w) (aI @C.bv_w (aI @C.bmb_w @C.bmn_w))) (aI (aI @C.bh_w (aI @C.bmy_w @C.cd_w)) (aI @C.bm2_w (aI @C.cc_w @C.bm9_w)))) (aI (aI (aI @C.f4_w @C.bnb_w) (aI @C.bnc_w (aI @C.f3_w @C.bnd_w))) (aI (aI @C.b0_w (aI @C.bl0_w @C.sf_w)) (aI @C.bl6_w (aI @C.bt_w @C.bj2_w))))) (aI (aI (aI (aI @C.m9_w @C.f1_w) (aI @C.bl7_w (aI @C.bl8_w @C.cr_w))) (aI (aI @C.bj3_w (aI @C.b8_w @C.bl9_w)) (aI @C.f0_w (aI @C.bmc_w @C.cb_w)))) (aI (aI (aI @C.bmd_w @C.bmf_w) (aI @C.fz_w (aI @C.bmg_w @C.bz_w))) (aI (aI @C.bmh_w (aI @C.cp_w @C.bmj_w)) (aI @C.bmk_w (aI @C.b9_w @C.bl1_w)))))) (aI (aI (aI (aI (aI @C.bml_w @C.bmm_w) (aI @C.cm_w (aI @C.bl2_w @C.bmp_w))) (aI (aI @C.fq_w (aI @C.bmr_w @C.cl_w)) (aI @C.nb_w (aI @C.bp_w @C.bms_w)))) (aI (aI (aI @C.fy_w @C.bmt_w) (aI @C.fx_w (aI @C.bmv_w @C.bmw_w))) (aI (aI @C.fw_w (aI @C.bmx_w @C.br_w)) (aI @C.bl3_w (aI @C.bmq_w @C.nc_w))))) (aI (aI (aI (aI @C.bq_w @C.bl4_w) (aI @C.bmz_w (aI @C.f8_w @C.bm0_w))) (aI (aI @C.ct_w (aI @C.bj4_w @C.f7_w)) (aI @C.bm1_w (aI @C.cs_w @C.bj5_w)))) (aI (aI (aI @C.f6_w (aI @C.bm3_w @C.bm4_w)) (aI @C.f5_w (aI @C.bm5_w @C.f2_w))) (aI (aI @C.bm6_w (aI @C.cn_w @C.bm7_w)) (aI @C.fv_w (aI @C.bm8_w @C.ft_w))))))
def C.q12_B := aI (aI (aI (aI (aI @C.bw_b.eq_1 @C.bv_b.eq_1) (aI @C.bh_b.eq_1 @C.cd_b.eq_1)) (aI (aI @C.cc_b.eq_1 @C.f4_b.eq_1) (aI @C.f3_b.eq_1 (aI @C.b0_b.eq_1 @C.bt_b.eq_1)))) (aI (aI (aI @C.f1_b.eq_1 @C.cr_b.eq_1) (aI @C.b8_b.eq_1 @C.f0_b.eq_1)) (aI (aI @C.cb_b.eq_1 @C.fz_b.eq_1) (aI @C.bz_b.eq_1 (aI @C.cp_b.eq_1 @C.b9_b.eq_1))))) (aI (aI (aI (aI @C.cm_b.eq_1 @C.fq_b.eq_1) (aI @C.cl_b.eq_1 @C.bp_b.eq_1)) (aI (aI @C.fy_b.eq_1 @C.fx_b.eq_1) (aI @C.fw_b.eq_1 (aI @C.br_b.eq_1 @C.bq_b.eq_1)))) (aI (aI (aI @C.f8_b.eq_1 @C.ct_b.eq_1) (aI @C.f7_b.eq_1 (aI @C.cs_b.eq_1 @C.f6_b.eq_1))) (aI (aI @C.f5_b.eq_1 @C.f2_b.eq_1) (aI @C.cn_b.eq_1 (aI @C.fv_b.eq_1 @C.ft_b.eq_1)))))

def C.sy_b : LO := [
 X.m 28 2,
 X.o 29 (.call F.q78 [X.s 28, X.i 0]),
 X.o 30 (.un .not (X.s 29)),
 X.m 31 30,
 X.t 31 32 (.move (X.s 2)),
 X.t 31 33 (.call F.q86 [X.s 32, X.i 0]),
 X.t 31 34 (.bin .eql (X.s 33) (X.i 0)),
 X.o 35 (.pick (X.s 31) (X.s 34) (.cst (.bool false))),
 X.m 36 35,
 X.t 36 37 (.move (X.s 2)),
 X.t 36 38 (.call F.q83 [X.s 37, X.i 0]),
 X.o 39 (.pick (X.s 36) (X.s 38) (.cst (.bool false))),
 X.m 0 39]
def C.sy : LO := C.sy_b
def C.sy_w := pO C.sy.eq_1
def C.b03 : ICode := .keep [2] (.seq (.region C.sy) .ret)
def C.b03_w := pC C.b03.eq_1
def C.sx_b : LO := [
 X.m 26 2,
 X.o 27 (.call F.q85 [X.s 26, .cst (.int .u32 0)])]
def C.sx : LO := C.sx_b
def C.sx_w := pO C.sx.eq_1
def C.b04 : ICode := .keep [2] (.seq (.region C.sx) C.b03)
def C.b04_w := pC C.b04.eq_1
def C.sw_b : LO := [
 X.o 0 (.move (.cst (.bool false)))]
def C.sw : LO := C.sw_b
def C.sw_w := pO C.sw.eq_1
def C.b05 : ICode := .seq (.region C.sw) .ret
def C.b05_w := pC C.b05.eq_1
def C.b06 : ICode := .keep [2, 25] (.cond (X.s 25) C.b05 .skip)
def C.b06_w := pC C.b06.eq_1
def C.sv_b : LO := [
 X.m 20 2,
 X.o 21 (.eqP 0 false (X.s 20) (.cst (.nilp))),
 X.m 22 21,
 X.f 22 23 (.move (X.s 3)),
 X.f 22 24 (.bin .neq (X.s 23) (X.i 0)),
 X.o 25 (.pick (X.s 22) (.cst (.bool true)) (X.s 24))]
def C.sv : LO := C.sv_b
def C.sv_w := pO C.sv.eq_1
def C.b07 : ICode := .keep [2, 3] (.seq (.seq (.region C.sv) C.b06) C.b04)
def C.b07_w := pC C.b07.eq_1
def C.ss_b : LO := [
 X.o 16 (.loadN 4 (X.s 1)),
 X.o 17 (.call F.q91 [X.s 16]),
 X.m 15 17,
 X.o 18 (.extract (X.s 15) 0),
 X.o 19 (.extract (X.s 15) 1),
 X.m 2 18,
 X.m 3 19]
def C.ss : LO := C.ss_b
def C.ss_w := pO C.ss.eq_1
def C.b08 : ICode := .keep [1] (.seq (.region C.ss) C.b07)
def C.b08_w := pC C.b08.eq_1
def C.cw_b : LO := [
 X.o 4 (.build [.int .u8 0, .nils, .int .u64 0, .int .i64 0, .int .i64 0, .int .i64 0] [(0, 1, .cst (.int .u8 111)), (2, 1, .cst (.int .u64 1))]),
 X.o 5 (.buildSlice 6 1 [.int .u8 0, .nils, .int .u64 0, .int .i64 0, .int .i64 0, .int .i64 0] [(0, 6, X.s 4)]),
 X.o 6 (.build [.int .i64 0, .int .i64 0, .bool false] [(0, 1, X.i (-1))]),
 X.o 7 (.buildSlice 3 1 [.int .i64 0, .int .i64 0, .bool false] [(0, 3, X.s 6)]),
 X.o 8 (.build [.int .i64 0] []),
 X.o 9 (.buildSlice 1 1 [.int .i64 0] [(0, 1, X.s 8)]),
 X.o 10 (.build [.int .u32 0, .bool false] [(0, 1, .cst (.int .u32 5))]),
 X.o 11 (.buildSlice 2 1 [.int .u32 0, .bool false] [(0, 2, X.s 10)]),
 X.o 12 (.build [.int .i64 0, .int .i64 0, .int .i64 0, .int .u32 0, .nils, .nils] [(4, 1, X.s 11)]),
 X.o 13 (.buildSlice 6 1 [.int .i64 0, .int .i64 0, .int .i64 0, .int .u32 0, .nils, .nils] [(0, 6, X.s 12)]),
 X.o 14 (.build [.nils, .nils, .nils, .nils] [(0, 1, X.s 5), (1, 1, X.s 7), (2, 1, X.s 9), (3, 1, X.s 13)]),
 X.o 1 (.alloc [.nils, .nils, .nils, .nils]),
 X.n (.storeN 4 (X.s 1) (X.s 14))]
def C.cw : LO := C.cw_b
def C.cw_w := pO C.cw.eq_1
def C.bkf : ICode := .keep [] (.seq (.region C.cw) C.b08)
def C.bkf_w := pC C.bkf.eq_1
def C.cv_b : LO := [
 X.o 0 (.move (.cst (.bool false)))]
def C.cv : LO := C.cv_b
def C.cv_w := pO C.cv.eq_1
def C.q15 : IFunc := ⟨0, [.slot 0], .seq (.region C.cv) C.bkf⟩
def C.q15_W := aI (aI (aI @C.sy_w (aI @C.b03_w @C.sx_w)) (aI (aI @C.b04_w @C.sw_w) (aI @C.b05_w @C.b06_w))) (aI (aI @C.sv_w (aI @C.b07_w @C.ss_w)) (aI (aI @C.b08_w @C.cw_w) (aI @C.bkf_w @C.cv_w)))
def C.q15_B := aI (aI @C.sy_b.eq_1 (aI @C.sx_b.eq_1 @C.sw_b.eq_1)) (aI (aI @C.sv_b.eq_1 @C.ss_b.eq_1) (aI @C.cw_b.eq_1 @C.cv_b.eq_1))

def C.bg_b : LO := [
 X.o 351 (.loadN 4 (X.s 6)),
 X.n (.storeN 4 (X.s 2) (X.s 351))]
def C.bg : LO := C.bg_b
def C.bg_w := pO C.bg.eq_1
def C.bj6 : ICode := .keep [2, 6] (.seq (.region C.bg) .ret)
def C.bj6_w := pC C.bj6.eq_1
def C.g8_b : LO := [
 X.m 224 14,
 X.o 225 (.bin .add (X.s 224) (X.i 1)),
 X.m 14 225]
def C.g8 : LO := C.g8_b
def C.g8_w := pO C.g8.eq_1
def C.bn1 : ICode := .keep [2, 4, 6, 14] (.region C.g8)
def C.bn1_w := pC C.bn1.eq_1
def C.hm_b : LO := [
 X.o 345 (.fldAddr 3 (X.s 6)),
 X.o 346 (.load1 (X.s 345)),
 X.o 347 (.loadN 6 (X.s 16)),
 X.o 348 (.buildSlice 6 1 [.int .i64 0, .int .i64 0, .int .i64 0, .int .u32 0, .nils, .nils] [(0, 6, X.s 347)]),
 X.o 349 (.append 6 80 (X.s 346) (X.s 348)),
 X.o 350 (.fldAddr 3 (X.s 6)),
 X.n (.store1 (X.s 350) (X.s 349))]
def C.hm : LO := C.hm_b
def C.hm_w := pO C.hm.eq_1
def C.bn5 : ICode := .keep [2, 4, 6, 14, 16] (.region C.hm)
def C.bn5_w := pC C.bn5.eq_1
def C.hl_b : LO := [
 X.o 332 (.fldAddr 5 (X.s 16)),
 X.o 333 (.load1 (X.s 332)),
 X.m 334 4,
 X.m 335 15,
 X.o 336 (.bin .add (X.s 335) (X.i 11)),
 X.o 337 (.idxAddr 1 (X.s 334) (X.s 336)),
 X.o 338 (.load1 (X.s 337)),
 X.o 339 (.bin .quo (X.s 338) (X.i 3)),
 X.m 340 14,
 X.o 341 (.bin .rem (X.s 339) (X.s 340)),
 X.o 342 (.buildSlice 1 1 [.int .i64 0] [(0, 1, X.s 341)]),
 X.o 343 (.append 1 8 (X.s 333) (X.s 342)),
 X.o 344 (.fldAddr 5 (X.s 16)),
 X.n (.store1 (X.s 344) (X.s 343))]
def C.hl : LO := C.hl_b
def C.hl_w := pO C.hl.eq_1
def C.bpc : ICode := .keep [2, 4, 6, 14, 15, 16, 331] (.cond (X.s 331) (.region C.hl) .skip)
def C.bpc_w := pC C.bpc.eq_1
def C.hk_b : LO := [
 X.m 321 14,
 X.o 322 (.bin .gtr (X.s 321) (X.i 1)),
 X.m 323 322,
 X.t 323 324 (.move (X.s 4)),
 X.t 323 325 (.move (X.s 15)),
 X.t 323 326 (.bin .add (X.s 325) (X.i 11)),
 X.t 323 327 (.idxAddr 1 (X.s 324) (X.s 326)),
 X.t 323 328 (.load1 (X.s 327)),
 X.t 323 329 (.bin .rem (X.s 328) (X.i 3)),
 X.t 323 330 (.bin .eql (X.s 329) (X.i 1)),
 X.o 331 (.pick (X.s 323) (X.s 330) (.cst (.bool false)))]
def C.hk : LO := C.hk_b
def C.hk_w := pO C.hk.eq_1
def C.bpn : ICode := .keep [2, 4, 6, 14, 15, 16] (.seq (.seq (.region C.hk) C.bpc) C.bn5)
def C.bpn_w := pC C.bpn.eq_1
def C.hj_b : LO := [
 X.o 309 (.fldAddr 5 (X.s 16)),
 X.o 310 (.load1 (X.s 309)),
 X.m 311 4,
 X.m 312 15,
 X.o 313 (.bin .add (X.s 312) (X.i 10)),
 X.o 314 (.idxAddr 1 (X.s 311) (X.s 313)),
 X.o 315 (.load1 (X.s 314)),
 X.m 316 14,
 X.o 317 (.bin .rem (X.s 315) (X.s 316)),
 X.o 318 (.buildSlice 1 1 [.int .i64 0] [(0, 1, X.s 317)]),
 X.o 319 (.append 1 8 (X.s 310) (X.s 318)),
 X.o 320 (.fldAddr 5 (X.s 16)),
 X.n (.store1 (X.s 320) (X.s 319))]
def C.hj : LO := C.hj_b
def C.hj_w := pO C.hj.eq_1
def C.bpx : ICode := .keep [2, 4, 6, 14, 15, 16, 308] (.cond (X.s 308) (.region C.hj) .skip)
def C.bpx_w := pC C.bpx.eq_1
def C.hh_b : LO := [
 X.m 298 14,
 X.o 299 (.bin .gtr (X.s 298) (X.i 0)),
 X.m 300 299,
 X.t 300 301 (.move (X.s 4)),
 X.t 300 302 (.move (X.s 15)),
 X.t 300 303 (.bin .add (X.s 302) (X.i 9)),
 X.t 300 304 (.idxAddr 1 (X.s 301) (X.s 303)),
 X.t 300 305 (.load1 (X.s 304)),
 X.t 300 306 (.bin .rem (X.s 305) (X.i 2)),
 X.t 300 307 (.bin .eql (X.s 306) (X.i 1)),
 X.o 308 (.pick (X.s 300) (X.s 307) (.cst (.bool false)))]
def C.hh : LO := C.hh_b
def C.hh_w := pO C.hh.eq_1
def C.bp2 : ICode := .keep [2, 4, 6, 14, 15, 16] (.seq (.seq (.region C.hh) C.bpx) C.bpn)
def C.bp2_w := pC C.bp2.eq_1
def C.hf_b : LO := [
 X.m 271 17,
 X.o 272 (.bin .add (X.s 271) (X.i 1)),
 X.m 17 272]
def C.hf : LO := C.hf_b
def C.hf_w := pO C.hf.eq_1
def C.bp8 : ICode := .keep [2, 4, 6, 14, 15, 16, 17] (.region C.hf)
def C.bp8_w := pC C.bp8.eq_1
def C.hg_b : LO := [
 X.o 273 (.fldAddr 4 (X.s 16)),
 X.o 274 (.load1 (X.s 273)),
 X.m 275 4,
 X.m 276 15,
 X.o 277 (.bin .add (X.s 276) (X.i 5)),
 X.m 278 17,
 X.o 279 (.bin .add (X.s 277) (X.s 278)),
 X.o 280 (.idxAddr 1 (X.s 275) (X.s 279)),
 X.o 281 (.load1 (X.s 280)),
 X.o 282 (.bin .rem (X.s 281) (X.i 7)),
 X.o 283 (.conv .u32 (X.s 282)),
 X.m 284 4,
 X.m 285 15,
 X.o 286 (.bin .add (X.s 285) (X.i 5)),
 X.m 287 17,
 X.o 288 (.bin .add (X.s 286) (X.s 287)),
 X.o 289 (.idxAddr 1 (X.s 284) (X.s 288)),
 X.o 290 (.load1 (X.s 289)),
 X.o 291 (.bin .quo (X.s 290) (X.i 7)),
 X.o 292 (.bin .rem (X.s 291) (X.i 2)),
 X.o 293 (.bin .eql (X.s 292) (X.i 0)),
 X.o 294 (.build [.int .u32 0, .bool false] [(0, 1, X.s 283), (1, 1, X.s 293)]),
 X.o 295 (.buildSlice 2 1 [.int .u32 0, .bool false] [(0, 2, X.s 294)]),
 X.o 296 (.append 2 8 (X.s 274) (X.s 295)),
 X.o 297 (.fldAddr 4 (X.s 16)),
 X.n (.store1 (X.s 297) (X.s 296))]
def C.hg : LO := C.hg_b
def C.hg_w := pO C.hg.eq_1
def C.bnv : ICode := .region C.hg
def C.bnv_w := pC C.bnv.eq_1
def C.bnw : ICode := .keep [2, 4, 6, 14, 15, 16, 17] (.seq (.block 12 C.bnv) C.bp8)
def C.bnw_w := pC C.bnw.eq_1
def C.bnx : ICode := .keep [2, 4, 6, 14, 15, 16, 17, 270] (.cond (X.s 270) .skip (.exit 11))
def C.bnx_w := pC C.bnx.eq_1
def C.hd_b : LO := [
 X.m 263 17,
 X.m 264 4,
 X.m 265 15,
 X.o 266 (.bin .add (X.s 265) (X.i 4)),
 X.o 267 (.idxAddr 1 (X.s 264) (X.s 266)),
 X.o 268 (.load1 (X.s 267)),
 X.o 269 (.bin .rem (X.s 268) (X.i 5)),
 X.o 270 (.bin .lss (X.s 263) (X.s 269))]
def C.hd : LO := C.hd_b
def C.hd_w := pO C.hd.eq_1
def C.cf4 : ICode := .keep [2, 4, 6, 14, 15, 16, 17] (.seq (.seq (.region C.hd) C.bnx) C.bnw)
def C.cf4_w := pC C.cf4.eq_1
def C.bnf : ICode := .loop C.cf4
def C.bnf_w := pC C.bnf.eq_1
def C.bny : ICode := .keep [2, 4, 6, 14, 15, 16, 17] (.block 11 C.bnf)
def C.bny_w := pC C.bny.eq_1
def C.hc_b : LO := [
 X.o 17 (.move (X.i 0))]
def C.hc : LO := C.hc_b
def C.hc_w := pO C.hc.eq_1
def C.bnq : ICode := .keep [2, 4, 6, 14, 15, 16] (.seq (.seq (.region C.hc) C.bny) C.bp2)
def C.bnq_w := pC C.bnq.eq_1
def C.bj_b : LO := [
 X.m 229 4,
 X.m 230 15,
 X.o 231 (.idxAddr 1 (X.s 229) (X.s 230)),
 X.o 232 (.load1 (X.s 231)),
 X.o 233 (.fldAddr 0 (X.s 6)),
 X.o 234 (.load1 (X.s 233)),
 X.o 235 (.len (X.s 234)),
 X.o 236 (.bin .rem (X.s 232) (X.s 235)),
 X.m 237 4,
 X.m 238 15,
 X.o 239 (.bin .add (X.s 238) (X.i 1)),
 X.o 240 (.idxAddr 1 (X.s 237) (X.s 239)),
 X.o 241 (.load1 (X.s 240)),
 X.o 242 (.fldAddr 1 (X.s 6)),
 X.o 243 (.load1 (X.s 242)),
 X.o 244 (.len (X.s 243)),
 X.o 245 (.bin .rem (X.s 241) (X.s 244)),
 X.m 246 4,
 X.m 247 15,
 X.o 248 (.bin .add (X.s 247) (X.i 2)),
 X.o 249 (.idxAddr 1 (X.s 246) (X.s 248)),
 X.o 250 (.load1 (X.s 249)),
 X.o 251 (.fldAddr 2 (X.s 6)),
 X.o 252 (.load1 (X.s 251)),
 X.o 253 (.len (X.s 252)),
 X.o 254 (.bin .rem (X.s 250) (X.s 253)),
 X.m 255 4,
 X.m 256 15,
 X.o 257 (.bin .add (X.s 256) (X.i 3)),
 X.o 258 (.idxAddr 1 (X.s 255) (X.s 257)),
 X.o 259 (.load1 (X.s 258)),
 X.o 260 (.bin .rem (X.s 259) (X.i 3)),
 X.o 261 (.conv .u32 (X.s 260)),
 X.o 262 (.build [.int .i64 0, .int .i64 0, .int .i64 0, .int .u32 0, .nils, .nils] [(0, 1, X.s 236), (1, 1, X.s 245), (2, 1, X.s 254), (3, 1, X.s 261)]),
 X.o 16 (.alloc [.int .i64 0, .int .i64 0, .int .i64 0, .int .u32 0, .nils, .nils]),
 X.n (.storeN 6 (X.s 16) (X.s 262))]
def C.bj : LO := C.bj_b
def C.bj_w := pO C.bj.eq_1
def C.bnz : ICode := .keep [2, 4, 6, 14, 15] (.seq (.region C.bj) C.bnq)
def C.bnz_w := pC C.bnz.eq_1
def C.g9_b : LO := [
 X.m 226 14,
 X.o 227 (.bin .mul (X.i 12) (X.s 226)),
 X.o 228 (.bin .add (X.i 60) (X.s 227)),
 X.m 15 228]
def C.g9 : LO := C.g9_b
def C.g9_w := pO C.g9.eq_1
def C.bng : ICode := .seq (.region C.g9) C.bnz
def C.bng_w := pC C.bng.eq_1
def C.sg : ICode := .keep [2, 4, 6, 14] (.seq (.block 10 C.bng) C.bn1)
def C.sg_w := pC C.sg.eq_1
def C.bn0 : ICode := .keep [2, 4, 6, 14, 223] (.cond (X.s 223) .skip (.exit 9))
def C.bn0_w := pC C.bn0.eq_1
def C.g7_b : LO := [
 X.m 217 14,
 X.m 218 4,
 X.o 219 (.idxAddr 1 (X.s 218) (X.i 4)),
 X.o 220 (.load1 (X.s 219)),
 X.o 221 (.bin .rem (X.s 220) (X.i 4)),
 X.o 222 (.bin .add (X.i 1) (X.s 221)),
 X.o 223 (.bin .lss (X.s 217) (X.s 222))]
def C.g7 : LO := C.g7_b
def C.g7_w := pO C.g7.eq_1
def C.cf5 : ICode := .keep [2, 4, 6, 14] (.seq (.seq (.region C.g7) C.bn0) C.sg)
def C.cf5_w := pC C.cf5.eq_1
def C.bnh : ICode := .loop C.cf5
def C.bnh_w := pC C.bnh.eq_1
def C.bn2 : ICode := .keep [2, 4, 6, 14] (.block 9 C.bnh)
def C.bn2_w := pC C.bn2.eq_1
def C.g6_b : LO := [
 X.o 14 (.move (X.i 0))]
def C.g6 : LO := C.g6_b
def C.g6_w := pO C.g6.eq_1
def C.bj7 : ICode := .keep [2, 4, 6] (.seq (.seq (.region C.g6) C.bn2) C.bj6)
def C.bj7_w := pC C.bj7.eq_1
def C.g4_b : LO := [
 X.m 203 13,
 X.o 204 (.bin .add (X.s 203) (X.i 1)),
 X.m 13 204]
def C.g4 : LO := C.g4_b
def C.g4_w := pO C.g4.eq_1
def C.bn3 : ICode := .keep [2, 4, 6, 13] (.region C.g4)
def C.bn3_w := pC C.bn3.eq_1
def C.g5_b : LO := [
 X.o 205 (.fldAddr 2 (X.s 6)),
 X.o 206 (.load1 (X.s 205)),
 X.m 207 4,
 X.m 208 13,
 X.o 209 (.bin .add (X.i 50) (X.s 208)),
 X.o 210 (.idxAddr 1 (X.s 207) (X.s 209)),
 X.o 211 (.load1 (X.s 210)),
 X.o 212 (.bin .rem (X.s 211) (X.i 4)),
 X.o 213 (.build [.int .i64 0] [(0, 1, X.s 212)]),
 X.o 214 (.buildSlice 1 1 [.int .i64 0] [(0, 1, X.s 213)]),
 X.o 215 (.append 1 8 (X.s 206) (X.s 214)),
 X.o 216 (.fldAddr 2 (X.s 6)),
 X.n (.store1 (X.s 216) (X.s 215))]
def C.g5 : LO := C.g5_b
def C.g5_w := pO C.g5.eq_1
def C.bnj : ICode := .region C.g5
def C.bnj_w := pC C.bnj.eq_1
def C.sh : ICode := .keep [2, 4, 6, 13] (.seq (.block 8 C.bnj) C.bn3)
def C.sh_w := pC C.sh.eq_1
def C.bn4 : ICode := .keep [2, 4, 6, 13, 202] (.cond (X.s 202) .skip (.exit 7))
def C.bn4_w := pC C.bn4.eq_1
def C.g3_b : LO := [
 X.m 196 13,
 X.m 197 4,
 X.o 198 (.idxAddr 1 (X.s 197) (X.i 3)),
 X.o 199 (.load1 (X.s 198)),
 X.o 200 (.bin .rem (X.s 199) (X.i 3)),
 X.o 201 (.bin .add (X.i 1) (X.s 200)),
 X.o 202 (.bin .lss (X.s 196) (X.s 201))]
def C.g3 : LO := C.g3_b
def C.g3_w := pO C.g3.eq_1
def C.cf6 : ICode := .keep [2, 4, 6, 13] (.seq (.seq (.region C.g3) C.bn4) C.sh)
def C.cf6_w := pC C.cf6.eq_1
def C.bnk : ICode := .loop C.cf6
def C.bnk_w := pC C.bnk.eq_1
def C.bn6 : ICode := .keep [2, 4, 6, 13] (.block 7 C.bnk)
def C.bn6_w := pC C.bn6.eq_1
def C.g2_b : LO := [
 X.o 13 (.move (X.i 0))]
def C.g2 : LO := C.g2_b
def C.g2_w := pO C.g2.eq_1
def C.bj8 : ICode := .keep [2, 4, 6] (.seq (.seq (.region C.g2) C.bn6) C.bj7)
def C.bj8_w := pC C.bj8.eq_1
def C.gx_b : LO := [
 X.m 153 11,
 X.o 154 (.bin .add (X.s 153) (X.i 1)),
 X.m 11 154]
def C.gx : LO := C.gx_b
def C.gx_w := pO C.gx.eq_1
def C.bn7 : ICode := .keep [2, 4, 6, 11] (.region C.gx)
def C.bn7_w := pC C.bn7.eq_1
def C.g1_b : LO := [
 X.o 190 (.fldAddr 1 (X.s 6)),
 X.o 191 (.load1 (X.s 190)),
 X.o 192 (.loadN 3 (X.s 12)),
 X.o 193 (.buildSlice 3 1 [.int .i64 0, .int .i64 0, .bool false] [(0, 3, X.s 192)]),
 X.o 194 (.append 3 24 (X.s 191) (X.s 193)),
 X.o 195 (.fldAddr 1 (X.s 6)),
 X.n (.store1 (X.s 195) (X.s 194))]
def C.g1 : LO := C.g1_b
def C.g1_w := pO C.g1.eq_1
def C.bn8 : ICode := .keep [2, 4, 6, 11, 12] (.region C.g1)
def C.bn8_w := pC C.bn8.eq_1
def C.g0_b : LO := [
 X.m 181 4,
 X.m 182 11,
 X.o 183 (.bin .add (X.i 44) (X.s 182)),
 X.o 184 (.idxAddr 1 (X.s 181) (X.s 183)),
 X.o 185 (.load1 (X.s 184)),
 X.o 186 (.bin .quo (X.s 185) (X.i 3)),
 X.m 187 11,
 X.o 188 (.bin .rem (X.s 186) (X.s 187)),
 X.o 189 (.fldAddr 0 (X.s 12)),
 X.n (.store1 (X.s 189) (X.s 188))]
def C.g0 : LO := C.g0_b
def C.g0_w := pO C.g0.eq_1
def C.bn9 : ICode := .keep [2, 4, 6, 11, 12, 180] (.cond (X.s 180) (.region C.g0) .skip)
def C.bn9_w := pC C.bn9.eq_1
def C.gq_b : LO := [
 X.m 170 11,
 X.o 171 (.bin .gtr (X.s 170) (X.i 0)),
 X.m 172 171,
 X.t 172 173 (.move (X.s 4)),
 X.t 172 174 (.move (X.s 11)),
 X.t 172 175 (.bin .add (X.i 44) (X.s 174)),
 X.t 172 176 (.idxAddr 1 (X.s 173) (X.s 175)),
 X.t 172 177 (.load1 (X.s 176)),
 X.t 172 178 (.bin .rem (X.s 177) (X.i 3)),
 X.t 172 179 (.bin .gtr (X.s 178) (X.i 0)),
 X.o 180 (.pick (X.s 172) (X.s 179) (.cst (.bool false)))]
def C.gq : LO := C.gq_b
def C.gq_w := pO C.gq.eq_1
def C.bj9 : ICode := .keep [2, 4, 6, 11, 12] (.seq (.seq (.region C.gq) C.bn9) C.bn8)
def C.bj9_w := pC C.bj9.eq_1
def C.gy_b : LO := [
 X.m 155 4,
 X.m 156 11,
 X.o 157 (.bin .add (X.i 40) (X.s 156)),
 X.o 158 (.idxAddr 1 (X.s 155) (X.s 157)),
 X.o 159 (.load1 (X.s 158)),
 X.o 160 (.bin .rem (X.s 159) (X.i 4)),
 X.m 161 4,
 X.m 162 11,
 X.o 163 (.bin .add (X.i 40) (X.s 162)),
 X.o 164 (.idxAddr 1 (X.s 161) (X.s 163)),
 X.o 165 (.load1 (X.s 164)),
 X.o 166 (.bin .quo (X.s 165) (X.i 4)),
 X.o 167 (.bin .rem (X.s 166) (X.i 2)),
 X.o 168 (.bin .eql (X.s 167) (X.i 1)),
 X.o 169 (.build [.int .i64 0, .int .i64 0, .bool false] [(0, 1, X.i (-1)), (1, 1, X.s 160), (2, 1, X.s 168)]),
 X.o 12 (.alloc [.int .i64 0, .int .i64 0, .bool false]),
 X.n (.storeN 3 (X.s 12) (X.s 169))]
def C.gy : LO := C.gy_b
def C.gy_w := pO C.gy.eq_1
def C.bnl : ICode := .seq (.region C.gy) C.bj9
def C.bnl_w := pC C.bnl.eq_1
def C.sj : ICode := .keep [2, 4, 6, 11] (.seq (.block 6 C.bnl) C.bn7)
def C.sj_w := pC C.sj.eq_1
def C.bpb : ICode := .keep [2, 4, 6, 11, 152] (.cond (X.s 152) .skip (.exit 5))
def C.bpb_w := pC C.bpb.eq_1
def C.gw_b : LO := [
 X.m 146 11,
 X.m 147 4,
 X.o 148 (.idxAddr 1 (X.s 147) (X.i 2)),
 X.o 149 (.load1 (X.s 148)),
 X.o 150 (.bin .rem (X.s 149) (X.i 4)),
 X.o 151 (.bin .add (X.i 1) (X.s 150)),
 X.o 152 (.bin .lss (X.s 146) (X.s 151))]
def C.gw : LO := C.gw_b
def C.gw_w := pO C.gw.eq_1
def C.cf7 : ICode := .keep [2, 4, 6, 11] (.seq (.seq (.region C.gw) C.bpb) C.sj)
def C.cf7_w := pC C.cf7.eq_1
def C.bnm : ICode := .loop C.cf7
def C.bnm_w := pC C.bnm.eq_1
def C.bpd : ICode := .keep [2, 4, 6, 11] (.block 5 C.bnm)
def C.bpd_w := pC C.bpd.eq_1
def C.gv_b : LO := [
 X.o 11 (.move (X.i 0))]
def C.gv : LO := C.gv_b
def C.gv_w := pO C.gv.eq_1
def C.bkb : ICode := .keep [2, 4, 6] (.seq (.seq (.region C.gv) C.bpd) C.bj8)
def C.bkb_w := pC C.bkb.eq_1
def C.gd_b : LO := [
 X.m 62 8,
 X.o 63 (.bin .add (X.s 62) (X.i 1)),
 X.m 8 63]
def C.gd : LO := C.gd_b
def C.gd_w := pO C.gd.eq_1
def C.bpf : ICode := .keep [2, 3, 4, 6, 7, 8] (.region C.gd)
def C.bpf_w := pC C.bpf.eq_1
def C.gt_b : LO := [
 X.o 140 (.fldAddr 0 (X.s 6)),
 X.o 141 (.load1 (X.s 140)),
 X.o 142 (.loadN 6 (X.s 10)),
 X.o 143 (.buildSlice 6 1 [.int .u8 0, .nils, .int .u64 0, .int .i64 0, .int .i64 0, .int .i64 0] [(0, 6, X.s 142)]),
 X.o 144 (.append 6 64 (X.s 141) (X.s 143)),
 X.o 145 (.fldAddr 0 (X.s 6)),
 X.n (.store1 (X.s 145) (X.s 144))]
def C.gt : LO := C.gt_b
def C.gt_w := pO C.gt.eq_1
def C.bpg : ICode := .keep [2, 3, 4, 6, 7, 8, 10] (.region C.gt)
def C.bpg_w := pC C.bpg.eq_1
def C.gl_b : LO := [
 X.m 106 4,
 X.m 107 9,
 X.o 108 (.bin .add (X.s 107) (X.i 2)),
 X.o 109 (.idxAddr 1 (X.s 106) (X.s 108)),
 X.o 110 (.load1 (X.s 109)),
 X.o 111 (.bin .quo (X.s 110) (X.i 32)),
 X.o 112 (.bin .rem (X.s 111) (X.i 4)),
 X.o 113 (.fldAddr 5 (X.s 10)),
 X.n (.store1 (X.s 113) (X.s 112))]
def C.gl : LO := C.gl_b
def C.gl_w := pO C.gl.eq_1
def C.bph : ICode := .keep [2, 3, 4, 6, 7, 8, 9, 10] (.region C.gl)
def C.bph_w := pC C.bph.eq_1
def C.gk_b : LO := [
 X.m 97 4,
 X.m 98 9,
 X.o 99 (.bin .add (X.s 98) (X.i 2)),
 X.o 100 (.idxAddr 1 (X.s 97) (X.s 99)),
 X.o 101 (.load1 (X.s 100)),
 X.o 102 (.bin .quo (X.s 101) (X.i 8)),
 X.o 103 (.bin .rem (X.s 102) (X.i 4)),
 X.o 104 (.bin .add (X.i 1) (X.s 103)),
 X.o 105 (.fldAddr 4 (X.s 10)),
 X.n (.store1 (X.s 105) (X.s 104))]
def C.gk : LO := C.gk_b
def C.gk_w := pO C.gk.eq_1
def C.bpj : ICode := .keep [2, 3, 4, 6, 7, 8, 9, 10] (.seq (.region C.gk) C.bph)
def C.bpj_w := pC C.bpj.eq_1
def C.gj_b : LO := [
 X.m 89 4,
 X.m 90 9,
 X.o 91 (.bin .add (X.s 90) (X.i 2)),
 X.o 92 (.idxAddr 1 (X.s 89) (X.s 91)),
 X.o 93 (.load1 (X.s 92)),
 X.o 94 (.bin .rem (X.s 93) (X.i 8)),
 X.o 95 (.bin .add (X.i 1) (X.s 94)),
 X.o 96 (.fldAddr 3 (X.s 10)),
 X.n (.store1 (X.s 96) (X.s 95))]
def C.gj : LO := C.gj_b
def C.gj_w := pO C.gj.eq_1
def C.gp_b : LO := [
 X.m 116 4,
 X.m 117 9,
 X.o 118 (.bin .add (X.s 117) (X.i 2)),
 X.o 119 (.idxAddr 1 (X.s 116) (X.s 118)),
 X.o 120 (.load1 (X.s 119)),
 X.o 121 (.bin .rem (X.s 120) (X.i 8)),
 X.o 122 (.bin .add (X.i 1) (X.s 121)),
 X.o 123 (.fldAddr 4 (X.s 10)),
 X.n (.store1 (X.s 123) (X.s 122))]
def C.gp : LO := C.gp_b
def C.gp_w := pO C.gp.eq_1
def C.gs_b : LO := [
 X.o 126 (.fldAddr 1 (X.s 10)),
 X.o 127 (.load1 (X.s 126)),
 X.m 128 4,
 X.m 129 9,
 X.o 130 (.bin .add (X.s 129) (X.i 2)),
 X.o 131 (.idxAddr 1 (X.s 128) (X.s 130)),
 X.o 132 (.load1 (X.s 131)),
 X.o 133 (.fldAddr 0 (X.s 6)),
 X.o 134 (.load1 (X.s 133)),
 X.o 135 (.len (X.s 134)),
 X.o 136 (.bin .rem (X.s 132) (X.s 135)),
 X.o 137 (.buildSlice 1 1 [.int .i64 0] [(0, 1, X.s 136)]),
 X.o 138 (.append 1 8 (X.s 127) (X.s 137)),
 X.o 139 (.fldAddr 1 (X.s 10)),
 X.n (.store1 (X.s 139) (X.s 138))]
def C.gs : LO := C.gs_b
def C.gs_w := pO C.gs.eq_1
def C.bpk : ICode := .keep [2, 3, 4, 6, 7, 8, 9, 10, 124] (.cond (X.s 124) (.region C.gs) .skip)
def C.bpk_w := pC C.bpk.eq_1
def C.gr_b : LO := [
 X.o 125 (.bin .eql (X.s 86) (.cst (.int .u8 109))),
 X.m 124 125]
def C.gr : LO := C.gr_b
def C.gr_w := pO C.gr.eq_1
def C.bpl : ICode := .seq (.region C.gr) C.bpk
def C.bpl_w := pC C.bpl.eq_1
def C.bpm : ICode := .keep [2, 3, 4, 6, 7, 8, 9, 10, 86, 114] (.cond (X.s 114) (.region C.gp) C.bpl)
def C.bpm_w := pC C.bpm.eq_1
def C.gn_b : LO := [
 X.o 115 (.bin .eql (X.s 86) (.cst (.int .u8 100))),
 X.m 114 115]
def C.gn : LO := C.gn_b
def C.gn_w := pO C.gn.eq_1
def C.bpp : ICode := .seq (.region C.gj) C.bpj
def C.bpp_w := pC C.bpp.eq_1
def C.bpr : ICode := .seq (.region C.gn) C.bpm
def C.bpr_w := pC C.bpr.eq_1
def C.bps : ICode := .keep [2, 3, 4, 6, 7, 8, 9, 10, 86, 87] (.cond (X.s 87) C.bpp C.bpr)
def C.bps_w := pC C.bps.eq_1
def C.gh_b : LO := [
 X.o 88 (.bin .eql (X.s 86) (.cst (.int .u8 112))),
 X.m 87 88]
def C.gh : LO := C.gh_b
def C.gh_w := pO C.gh.eq_1
def C.bnn : ICode := .seq (.region C.gh) C.bps
def C.bnn_w := pC C.bnn.eq_1
def C.bpt : ICode := .keep [2, 3, 4, 6, 7, 8, 9, 10, 86] (.block 4 C.bnn)
def C.bpt_w := pC C.bpt.eq_1
def C.gg_b : LO := [
 X.o 85 (.fldAddr 0 (X.s 10)),
 X.o 86 (.load1 (X.s 85))]
def C.gg : LO := C.gg_b
def C.gg_w := pO C.gg.eq_1
def C.bkc : ICode := .keep [2, 3, 4, 6, 7, 8, 9, 10] (.seq (.seq (.region C.gg) C.bpt) C.bpg)
def C.bkc_w := pC C.bkc.eq_1
def C.bf_b : LO := [
 X.m 67 7,
 X.m 68 4,
 X.m 69 9,
 X.o 70 (.idxAddr 1 (X.s 68) (X.s 69)),
 X.o 71 (.load1 (X.s 70)),
 X.o 72 (.bin .rem (X.s 71) (X.i 5)),
 X.o 73 (.strIdx (X.s 67) (X.s 72)),
 X.m 74 4,
 X.m 75 9,
 X.o 76 (.bin .add (X.s 75) (X.i 1)),
 X.o 77 (.idxAddr 1 (X.s 74) (X.s 76)),
 X.o 78 (.load1 (X.s 77)),
 X.o 79 (.fldAddr 0 (X.s 6)),
 X.o 80 (.load1 (X.s 79)),
 X.o 81 (.len (X.s 80)),
 X.o 82 (.bin .rem (X.s 78) (X.s 81)),
 X.o 83 (.buildSlice 1 1 [.int .i64 0] [(0, 1, X.s 82)]),
 X.o 84 (.build [.int .u8 0, .nils, .int .u64 0, .int .i64 0, .int .i64 0, .int .i64 0] [(0, 1, X.s 73), (1, 1, X.s 83)]),
 X.o 10 (.alloc [.int .u8 0, .nils, .int .u64 0, .int .i64 0, .int .i64 0, .int .i64 0]),
 X.n (.storeN 6 (X.s 10) (X.s 84))]
def C.bf : LO := C.bf_b
def C.bf_w := pO C.bf.eq_1
def C.bpv : ICode := .keep [2, 3, 4, 6, 7, 8, 9] (.seq (.region C.bf) C.bkc)
def C.bpv_w := pC C.bpv.eq_1
def C.gf_b : LO := [
 X.m 64 8,
 X.o 65 (.bin .mul (X.i 3) (X.s 64)),
 X.o 66 (.bin .add (X.i 10) (X.s 65)),
 X.m 9 66]
def C.gf : LO := C.gf_b
def C.gf_w := pO C.gf.eq_1
def C.bnp : ICode := .seq (.region C.gf) C.bpv
def C.bnp_w := pC C.bnp.eq_1
def C.sk : ICode := .keep [2, 3, 4, 6, 7, 8] (.seq (.block 3 C.bnp) C.bpf)
def C.sk_w := pC C.sk.eq_1
def C.bpw : ICode := .keep [2, 3, 4, 6, 7, 8, 61] (.cond (X.s 61) .skip (.exit 2))
def C.bpw_w := pC C.bpw.eq_1
def C.gc_b : LO := [
 X.m 55 8,
 X.m 56 4,
 X.m 57 3,
 X.o 58 (.idxAddr 1 (X.s 56) (X.s 57)),
 X.o 59 (.load1 (X.s 58)),
 X.o 60 (.bin .rem (X.s 59) (X.i 9)),
 X.o 61 (.bin .lss (X.s 55) (X.s 60))]
def C.gc : LO := C.gc_b
def C.gc_w := pO C.gc.eq_1
def C.cf8 : ICode := .keep [2, 3, 4, 6, 7, 8] (.seq (.seq (.region C.gc) C.bpw) C.sk)
def C.cf8_w := pC C.cf8.eq_1
def C.bnr : ICode := .loop C.cf8
def C.bnr_w := pC C.bnr.eq_1
def C.bpy : ICode := .keep [2, 3, 4, 6, 7, 8] (.block 2 C.bnr)
def C.bpy_w := pC C.bpy.eq_1
def C.gb_b : LO := [
 X.o 8 (.move (X.i 0))]
def C.gb : LO := C.gb_b
def C.gb_w := pO C.gb.eq_1
def C.bpq : ICode := .keep [2, 3, 4, 6, 7] (.seq (.seq (.region C.gb) C.bpy) C.bkb)
def C.bpq_w := pC C.bpq.eq_1
def C.ht_b : LO := [
 X.o 7 (.move (.cst (.str [112, 100, 103, 109, 103])))]
def C.ht : LO := C.ht_b
def C.ht_w := pO C.ht.eq_1
def C.bpz : ICode := .keep [2, 3, 4, 6] (.seq (.region C.ht) C.bpq)
def C.bpz_w := pC C.bpz.eq_1
def C.hs_b : LO := [
 X.o 3 (.move (X.i 1))]
def C.hs : LO := C.hs_b
def C.hs_w := pO C.hs.eq_1
def C.sl : ICode := .keep [2, 4, 6] (.seq (.region C.hs) C.bpz)
def C.sl_w := pC C.sl.eq_1
def C.hr_b : LO := [
 X.m 47 4,
 X.o 48 (.idxAddr 1 (X.s 47) (X.i 0)),
 X.o 49 (.load1 (X.s 48)),
 X.o 50 (.bin .add (X.i 1) (X.s 49)),
 X.o 51 (.conv .u64 (X.s 50)),
 X.o 52 (.build [.int .u8 0, .nils, .int .u64 0, .int .i64 0, .int .i64 0, .int .i64 0] [(0, 1, .cst (.int .u8 111)), (2, 1, X.s 51)]),
 X.o 53 (.buildSlice 6 1 [.int .u8 0, .nils, .int .u64 0, .int .i64 0, .int .i64 0, .int .i64 0] [(0, 6, X.s 52)]),
 X.o 54 (.build [.nils, .nils, .nils, .nils] [(0, 1, X.s 53)]),
 X.o 6 (.alloc [.nils, .nils, .nils, .nils]),
 X.n (.storeN 4 (X.s 6) (X.s 54))]
def C.hr : LO := C.hr_b
def C.hr_w := pO C.hr.eq_1
def C.bkd : ICode := .keep [2, 4] (.seq (.region C.hr) C.sl)
def C.bkd_w := pC C.bkd.eq_1
def C.hn_b : LO := [
 X.m 28 5,
 X.o 29 (.bin .add (X.s 28) (X.i 1)),
 X.m 5 29]
def C.hn : LO := C.hn_b
def C.hn_w := pO C.hn.eq_1
def C.bp0 : ICode := .keep [0, 2, 4, 5] (.region C.hn)
def C.bp0_w := pC C.bp0.eq_1
def C.hp_b : LO := [
 X.m 30 4,
 X.m 31 5,
 X.m 32 0,
 X.m 33 5,
 X.m 34 0,
 X.o 35 (.len (X.s 34)),
 X.o 36 (.bin .rem (X.s 33) (X.s 35)),
 X.o 37 (.idxAddr 1 (X.s 32) (X.s 36)),
 X.o 38 (.load1 (X.s 37)),
 X.m 39 5,
 X.m 40 0,
 X.o 41 (.len (X.s 40)),
 X.o 42 (.bin .quo (X.s 39) (X.s 41)),
 X.o 43 (.bin .add (X.i 1) (X.s 42)),
 X.o 44 (.bin .quo (X.s 38) (X.s 43)),
 X.o 45 (.call F.q14 [X.s 44, X.i 1000000]),
 X.o 46 (.idxAddr 1 (X.s 30) (X.s 31)),
 X.n (.store1 (X.s 46) (X.s 45))]
def C.hp : LO := C.hp_b
def C.hp_w := pO C.hp.eq_1
def C.bns : ICode := .region C.hp
def C.bns_w := pC C.bns.eq_1
def C.bp1 : ICode := .keep [0, 2, 4, 5] (.seq (.block 1 C.bns) C.bp0)
def C.bp1_w := pC C.bp1.eq_1
def C.bp3 : ICode := .keep [0, 2, 4, 5, 27] (.cond (X.s 27) .skip (.exit 0))
def C.bp3_w := pC C.bp3.eq_1
def C.hb_b : LO := [
 X.m 19 5,
 X.m 20 4,
 X.o 21 (.len (X.s 20)),
 X.o 22 (.bin .lss (X.s 19) (X.s 21)),
 X.m 23 22,
 X.t 23 24 (.move (X.s 0)),
 X.t 23 25 (.len (X.s 24)),
 X.t 23 26 (.bin .gtr (X.s 25) (X.i 0)),
 X.o 27 (.pick (X.s 23) (X.s 26) (.cst (.bool false)))]
def C.hb : LO := C.hb_b
def C.hb_w := pO C.hb.eq_1
def C.cf9 : ICode := .keep [0, 2, 4, 5] (.seq (.seq (.region C.hb) C.bp3) C.bp1)
def C.cf9_w := pC C.cf9.eq_1
def C.bnt : ICode := .loop C.cf9
def C.bnt_w := pC C.bnt.eq_1
def C.bp4 : ICode := .keep [0, 2, 4, 5] (.block 0 C.bnt)
def C.bp4_w := pC C.bp4.eq_1
def C.gz_b : LO := [
 X.o 5 (.move (X.i 0))]
def C.gz : LO := C.gz_b
def C.gz_w := pO C.gz.eq_1
def C.bp5 : ICode := .keep [0, 2, 4] (.seq (.seq (.region C.gz) C.bp4) C.bkd)
def C.bp5_w := pC C.bp5.eq_1
def C.gm_b : LO := [
 X.o 18 (.makeSlice 1 8 [.int .i64 0] (X.i 120) (X.i 120)),
 X.m 4 18]
def C.gm : LO := C.gm_b
def C.gm_w := pO C.gm.eq_1
def C.bp6 : ICode := .keep [0, 2] (.seq (.region C.gm) C.bp5)
def C.bp6_w := pC C.bp6.eq_1
def C.f9_b : LO := [
 X.o 3 (.move (X.i 0))]
def C.f9 : LO := C.f9_b
def C.f9_w := pO C.f9.eq_1
def C.bp7 : ICode := .keep [0, 2] (.seq (.region C.f9) C.bp6)
def C.bp7_w := pC C.bp7.eq_1
def C.bb_b : LO := [
 X.o 2 (.alloc [.nils, .nils, .nils, .nils])]
def C.bb : LO := C.bb_b
def C.bb_w := pO C.bb.eq_1
def C.q13 : IFunc := ⟨1, [.cellN 2 4], .seq (.region C.bb) C.bp7⟩
def C.q13_W := aI (aI (aI (aI (aI (aI @C.bg_w (aI @C.bj6_w @C.g8_w)) (aI (aI @C.bn1_w @C.hm_w) (aI @C.bn5_w @C.hl_w))) (aI (aI (aI @C.bpc_w @C.hk_w) (aI @C.bpn_w @C.hj_w)) (aI (aI @C.bpx_w @C.hh_w) (aI @C.bp2_w @C.hf_w)))) (aI (aI (aI @C.bp8_w (aI @C.hg_w @C.bnv_w)) (aI (aI @C.bnw_w @C.bnx_w) (aI @C.hd_w @C.bnf_w))) (aI (aI (aI @C.bny_w @C.hc_w) (aI @C.bnq_w @C.bj_w)) (aI (aI @C.bnz_w @C.g9_w) (aI @C.bng_w @C.sg_w))))) (aI (aI (aI (aI @C.bn0_w (aI @C.g7_w @C.bnh_w)) (aI (aI @C.bn2_w @C.g6_w) (aI @C.bj7_w @C.g4_w))) (aI (aI (aI @C.bn3_w @C.g5_w) (aI @C.bnj_w @C.sh_w)) (aI (aI @C.bn4_w @C.g3_w) (aI @C.bnk_w @C.bn6_w)))) (aI (aI (aI @C.g2_w (aI @C.bj8_w @C.gx_w)) (aI (aI @C.bn7_w @C.g1_w) (aI @C.bn8_w @C.g0_w))) (aI (aI (aI @C.bn9_w @C.gq_w) (aI @C.bj9_w @C.gy_w)) (aI (aI @C.bnl_w @C.sj_w) (aI @C.bpb_w @C.gw_w)))))) (aI (aI (aI (aI (aI @C.bnm_w (aI @C.bpd_w @C.gv_w)) (aI (aI @C.bkb_w @C.gd_w) (aI @C.bpf_w @C.gt_w))) (aI (aI (aI @C.bpg_w @C.gl_w) (aI @C.bph_w @C.gk_w)) (aI (aI @C.bpj_w @C.gj_w) (aI @C.gp_w @C.gs_w)))) (aI (aI (aI @C.bpk_w (aI @C.gr_w @C.bpl_w)) (aI (aI @C.bpm_w @C.gn_w) (aI @C.bpp_w @C.bpr_w))) (aI (aI (aI @C.bps_w @C.gh_w) (aI @C.bnn_w @C.bpt_w)) (aI (aI @C.gg_w @C.bkc_w) (aI @C.bf_w @C.bpv_w))))) (aI (aI (aI (aI @C.gf_w (aI @C.bnp_w @C.sk_w)) (aI (aI @C.bpw_w @C.gc_w) (aI @C.bnr_w @C.bpy_w))) (aI (aI (aI @C.gb_w @C.bpq_w) (aI @C.ht_w @C.bpz_w)) (aI (aI @C.hs_w @C.sl_w) (aI @C.hr_w @C.bkd_w)))) (aI (aI (aI (aI @C.hn_w @C.bp0_w) (aI @C.hp_w @C.bns_w)) (aI (aI @C.bp1_w @C.bp3_w) (aI @C.hb_w @C.bnt_w))) (aI (aI (aI @C.bp4_w @C.gz_w) (aI @C.bp5_w @C.gm_w)) (aI (aI @C.bp6_w @C.f9_w) (aI @C.bp7_w @C.bb_w))))))
def C.q13_B := aI (aI (aI (aI (aI @C.bg_b.eq_1 (aI @C.g8_b.eq_1 @C.hm_b.eq_1)) (aI @C.hl_b.eq_1 (aI @C.hk_b.eq_1 @C.hj_b.eq_1))) (aI (aI @C.hh_b.eq_1 (aI @C.hf_b.eq_1 @C.hg_b.eq_1)) (aI @C.hd_b.eq_1 (aI @C.hc_b.eq_1 @C.bj_b.eq_1)))) (aI (aI (aI @C.g9_b.eq_1 (aI @C.g7_b.eq_1 @C.g6_b.eq_1)) (aI @C.g4_b.eq_1 (aI @C.g5_b.eq_1 @C.g3_b.eq_1))) (aI (aI @C.g2_b.eq_1 (aI @C.gx_b.eq_1 @C.g1_b.eq_1)) (aI (aI @C.g0_b.eq_1 @C.gq_b.eq_1) (aI @C.gy_b.eq_1 @C.gw_b.eq_1))))) (aI (aI (aI (aI @C.gv_b.eq_1 (aI @C.gd_b.eq_1 @C.gt_b.eq_1)) (aI @C.gl_b.eq_1 (aI @C.gk_b.eq_1 @C.gj_b.eq_1))) (aI (aI @C.gp_b.eq_1 (aI @C.gs_b.eq_1 @C.gr_b.eq_1)) (aI (aI @C.gn_b.eq_1 @C.gh_b.eq_1) (aI @C.gg_b.eq_1 @C.bf_b.eq_1)))) (aI (aI (aI @C.gf_b.eq_1 (aI @C.gc_b.eq_1 @C.gb_b.eq_1)) (aI @C.ht_b.eq_1 (aI @C.hs_b.eq_1 @C.hr_b.eq_1))) (aI (aI @C.hn_b.eq_1 (aI @C.hp_b.eq_1 @C.hb_b.eq_1)) (aI (aI @C.gz_b.eq_1 @C.gm_b.eq_1) (aI @C.f9_b.eq_1 @C.bb_b.eq_1)))))

def C.bg5_b : LO := [
 X.m 107 9,
 X.m 2 107,
 X.o 3 (.move (X.i 0))]
def C.bg5 : LO := C.bg5_b
def C.bg5_w := pO C.bg5.eq_1
def C.ccm : ICode := .keep [9] (.seq (.region C.bg5) .ret)
def C.ccm_w := pC C.ccm.eq_1
def C.bg4_b : LO := [
 X.m 106 6,
 X.o 2 (.move (.cst (.nilp))),
 X.m 3 106]
def C.bg4 : LO := C.bg4_b
def C.bg4_w := pO C.bg4.eq_1
def C.ccn : ICode := .seq (.region C.bg4) .ret
def C.ccn_w := pC C.ccn.eq_1
def C.ccp : ICode := .keep [6, 9, 105] (.cond (X.s 105) C.ccn .skip)
def C.ccp_w := pC C.ccp.eq_1
def C.bg3_b : LO := [
 X.m 104 6,
 X.o 105 (.bin .neq (X.s 104) (X.i 0))]
def C.bg3 : LO := C.bg3_b
def C.bg3_w := pO C.bg3.eq_1
def C.ccr : ICode := .keep [6, 9] (.seq (.region C.bg3) C.ccp)
def C.ccr_w := pC C.ccr.eq_1
def C.bg2_b : LO := [
 X.m 97 9,
 X.m 98 10,
 X.o 99 (.call F.q9 [X.s 98]),
 X.m 96 99,
 X.o 100 (.extract (X.s 96) 0),
 X.o 101 (.extract (X.s 96) 1),
 X.o 102 (.nilchk (X.s 97)),
 X.o 103 (.fldAddr 3 (X.s 102)),
 X.n (.store1 (X.s 103) (X.s 100)),
 X.m 6 101]
def C.bg2 : LO := C.bg2_b
def C.bg2_w := pO C.bg2.eq_1
def C.ccs : ICode := .keep [9, 10] (.seq (.seq (.region C.bg2) C.ccr) C.ccm)
def C.ccs_w := pC C.ccs.eq_1
def C.ch_b : LO := [
 X.o 95 (.bin .add (X.s 56) (X.i 1)),
 X.m 56 95]
def C.ch : LO := C.ch_b
def C.ch_w := pO C.ch.eq_1
def C.bkt : ICode := .keep [9, 10, 54, 55, 56] (.region C.ch)
def C.bkt_w := pC C.bkt.eq_1
def C.cg_b : LO := [
 X.m 75 9,
 X.m 76 9,
 X.o 77 (.nilchk (X.s 76)),
 X.o 78 (.fldAddr 4 (X.s 77)),
 X.o 79 (.load1 (X.s 78)),
 X.o 80 (.fldAddr 0 (X.s 12)),
 X.o 81 (.load1 (X.s 80)),
 X.o 82 (.fldAddr 1 (X.s 12)),
 X.o 83 (.load1 (X.s 82)),
 X.o 84 (.fldAddr 2 (X.s 12)),
 X.o 85 (.load1 (X.s 84)),
 X.o 86 (.fldAddr 3 (X.s 12)),
 X.o 87 (.load1 (X.s 86)),
 X.m 88 13,
 ⟨some 89, .call F.q104 [], none, [⟨.load1 (X.s 78), 79, none⟩, ⟨.load1 (X.s 80), 81, none⟩, ⟨.load1 (X.s 82), 83, none⟩, ⟨.load1 (X.s 84), 85, none⟩, ⟨.load1 (X.s 86), 87, none⟩], []⟩,
 X.o 90 (.build [.int .i64 0, .int .i64 0, .int .i64 0, .int .u32 0, .nilp, .nilp] [(0, 1, X.s 81), (1, 1, X.s 83), (2, 1, X.s 85), (3, 1, X.s 87), (4, 1, X.s 88), (5, 1, X.s 89)]),
 X.o 91 (.buildSlice 6 1 [.int .i64 0, .int .i64 0, .int .i64 0, .int .u32 0, .nilp, .nilp] [(0, 6, X.s 90)]),
 X.o 92 (.append 6 48 (X.s 79) (X.s 91)),
 X.o 93 (.nilchk (X.s 75)),
 X.o 94 (.fldAddr 4 (X.s 93)),
 X.n (.store1 (X.s 94) (X.s 92))]
def C.cg : LO := C.cg_b
def C.cg_w := pO C.cg.eq_1
def C.bkv : ICode := .keep [9, 10, 12, 13, 54, 55, 56] (.region C.cg)
def C.bkv_w := pC C.bkv.eq_1
def C.c9_b : LO := [
 X.m 70 10,
 X.m 71 11,
 X.m 72 13,
 X.o 73 (.call F.q107 [X.s 72]),
 X.o 74 (.idxAddr 1 (X.s 70) (X.s 71)),
 X.n (.store1 (X.s 74) (X.s 73))]
def C.c9 : LO := C.c9_b
def C.c9_w := pO C.c9.eq_1
def C.bkw : ICode := .keep [9, 10, 11, 12, 13, 54, 55, 56] (.seq (.region C.c9) C.bkv)
def C.bkw_w := pC C.bkw.eq_1
def C.dx_b : LO := [
 X.m 69 14,
 X.o 2 (.move (.cst (.nilp))),
 X.m 3 69]
def C.dx : LO := C.dx_b
def C.dx_w := pO C.dx.eq_1
def C.bxx : ICode := .seq (.region C.dx) .ret
def C.bxx_w := pC C.bxx.eq_1
def C.bw3 : ICode := .keep [9, 10, 11, 12, 13, 14, 54, 55, 56, 68] (.cond (X.s 68) C.bxx .skip)
def C.bw3_w := pC C.bw3.eq_1
def C.dw_b : LO := [
 X.m 67 14,
 X.o 68 (.bin .neq (X.s 67) (X.i 0))]
def C.dw : LO := C.dw_b
def C.dw_w := pO C.dw.eq_1
def C.bw4 : ICode := .keep [9, 10, 11, 12, 13, 14, 54, 55, 56] (.seq (.seq (.region C.dw) C.bw3) C.bkw)
def C.bw4_w := pC C.bw4.eq_1
def C.c8_b : LO := [
 X.o 62 (.fldAddr 4 (X.s 12)),
 X.o 63 (.load1 (X.s 62)),
 X.o 64 (.call F.q117 [X.s 63]),
 X.m 61 64,
 X.o 65 (.extract (X.s 61) 0),
 X.o 66 (.extract (X.s 61) 1),
 X.m 13 65,
 X.m 14 66]
def C.c8 : LO := C.c8_b
def C.c8_w := pO C.c8.eq_1
def C.bw5 : ICode := .keep [9, 10, 11, 12, 54, 55, 56] (.seq (.region C.c8) C.bw4)
def C.bw5_w := pC C.bw5.eq_1
def C.c7_b : LO := [
 X.m 58 56,
 X.o 59 (.idxAddr 6 (X.s 54) (X.s 56)),
 X.o 60 (.loadN 6 (X.s 59)),
 X.o 12 (.alloc [.int .i64 0, .int .i64 0, .int .i64 0, .int .u32 0, .nils, .nils]),
 X.m 11 58,
 X.n (.storeN 6 (X.s 12) (X.s 60))]
def C.c7 : LO := C.c7_b
def C.c7_w := pO C.c7.eq_1
def C.bw1 : ICode := .seq (.region C.c7) C.bw5
def C.bw1_w := pC C.bw1.eq_1
def C.bw6 : ICode := .keep [9, 10, 54, 55, 56] (.seq (.block 1 C.bw1) C.bkt)
def C.bw6_w := pC C.bw6.eq_1
def C.bw7 : ICode := .keep [9, 10, 54, 55, 56, 57] (.seq (.cond (X.s 57) .skip (.exit 0)) C.bw6)
def C.bw7_w := pC C.bw7.eq_1
def C.c6_b : LO := [
 X.o 57 (.bin .lss (X.s 56) (X.s 55))]
def C.c6 : LO := C.c6_b
def C.c6_w := pO C.c6.eq_1
def C.cg4 : ICode := .keep [9, 10, 54, 55, 56] (.seq (.region C.c6) C.bw7)
def C.cg4_w := pC C.cg4.eq_1
def C.bw2 : ICode := .loop C.cg4
def C.bw2_w := pC C.bw2.eq_1
def C.bw8 : ICode := .keep [9, 10, 54, 55, 56] (.block 0 C.bw2)
def C.bw8_w := pC C.bw8.eq_1
def C.l8_b : LO := [
 X.o 53 (.fldAddr 3 (X.s 1)),
 X.o 54 (.load1 (X.s 53)),
 X.o 55 (.len (X.s 54)),
 X.o 56 (.move (X.i 0))]
def C.l8 : LO := C.l8_b
def C.l8_w := pO C.l8.eq_1
def C.bw9 : ICode := .keep [1, 9, 10] (.seq (.seq (.region C.l8) C.bw8) C.ccs)
def C.bw9_w := pC C.bw9.eq_1
def C.c5_b : LO := [
 X.o 49 (.fldAddr 3 (X.s 1)),
 X.o 50 (.load1 (X.s 49)),
 X.o 51 (.len (X.s 50)),
 X.o 52 (.makeSlice 1 8 [.int .i64 0] (X.s 51) (X.s 51)),
 X.m 10 52]
def C.c5 : LO := C.c5_b
def C.c5_w := pO C.c5.eq_1
def C.bks : ICode := .keep [1, 9] (.seq (.region C.c5) C.bw9)
def C.bks_w := pC C.bks.eq_1
def C.l7_b : LO := [
 X.m 44 5,
 X.m 45 7,
 X.m 46 8,
 X.o 47 (.build [.nilp, .nilp, .nilp, .nilp, .nils] [(0, 1, X.s 44), (1, 1, X.s 45), (2, 1, X.s 46)]),
 X.o 48 (.boxN (X.s 47)),
 X.m 9 48]
def C.l7 : LO := C.l7_b
def C.l7_w := pO C.l7.eq_1
def C.bxb : ICode := .keep [1, 5, 7, 8] (.seq (.region C.l7) C.bks)
def C.bxb_w := pC C.bxb.eq_1
def C.l6_b : LO := [
 X.m 43 6,
 X.o 2 (.move (.cst (.nilp))),
 X.m 3 43]
def C.l6 : LO := C.l6_b
def C.l6_w := pO C.l6.eq_1
def C.bxc : ICode := .seq (.region C.l6) .ret
def C.bxc_w := pC C.bxc.eq_1
def C.bxd : ICode := .keep [1, 5, 6, 7, 8, 42] (.cond (X.s 42) C.bxc .skip)
def C.bxd_w := pC C.bxd.eq_1
def C.l5_b : LO := [
 X.m 41 6,
 X.o 42 (.bin .neq (X.s 41) (X.i 0))]
def C.l5 : LO := C.l5_b
def C.l5_w := pO C.l5.eq_1
def C.bxf : ICode := .keep [1, 5, 6, 7, 8] (.seq (.seq (.region C.l5) C.bxd) C.bxb)
def C.bxf_w := pC C.bxf.eq_1
def C.l4_b : LO := [
 X.o 37 (.loadN 4 (X.s 1)),
 X.o 38 (.call F.q121 [X.s 37]),
 X.m 36 38,
 X.o 39 (.extract (X.s 36) 0),
 X.o 40 (.extract (X.s 36) 1),
 X.m 8 39,
 X.m 6 40]
def C.l4 : LO := C.l4_b
def C.l4_w := pO C.l4.eq_1
def C.bxg : ICode := .keep [1, 5, 7] (.seq (.region C.l4) C.bxf)
def C.bxg_w := pC C.bxg.eq_1
def C.mj_b : LO := [
 X.m 35 6,
 X.o 2 (.move (.cst (.nilp))),
 X.m 3 35]
def C.mj : LO := C.mj_b
def C.mj_w := pO C.mj.eq_1
def C.bxh : ICode := .seq (.region C.mj) .ret
def C.bxh_w := pC C.bxh.eq_1
def C.bxj : ICode := .keep [1, 5, 6, 7, 34] (.cond (X.s 34) C.bxh .skip)
def C.bxj_w := pC C.bxj.eq_1
def C.mh_b : LO := [
 X.m 33 6,
 X.o 34 (.bin .neq (X.s 33) (X.i 0))]
def C.mh : LO := C.mh_b
def C.mh_w := pO C.mh.eq_1
def C.bxk : ICode := .keep [1, 5, 6, 7] (.seq (.seq (.region C.mh) C.bxj) C.bxg)
def C.bxk_w := pC C.bxk.eq_1
def C.mg_b : LO := [
 X.o 29 (.loadN 4 (X.s 1)),
 X.o 30 (.call F.q97 [X.s 29]),
 X.m 28 30,
 X.o 31 (.extract (X.s 28) 0),
 X.o 32 (.extract (X.s 28) 1),
 X.m 7 31,
 X.m 6 32]
def C.mg : LO := C.mg_b
def C.mg_w := pO C.mg.eq_1
def C.bxl : ICode := .keep [1, 5] (.seq (.region C.mg) C.bxk)
def C.bxl_w := pC C.bxl.eq_1
def C.mf_b : LO := [
 X.m 27 6,
 X.o 2 (.move (.cst (.nilp))),
 X.m 3 27]
def C.mf : LO := C.mf_b
def C.mf_w := pO C.mf.eq_1
def C.bxm : ICode := .seq (.region C.mf) .ret
def C.bxm_w := pC C.bxm.eq_1
def C.bxn : ICode := .keep [1, 5, 6, 26] (.cond (X.s 26) C.bxm .skip)
def C.bxn_w := pC C.bxn.eq_1
def C.md_b : LO := [
 X.m 25 6,
 X.o 26 (.bin .neq (X.s 25) (X.i 0))]
def C.md : LO := C.md_b
def C.md_w := pO C.md.eq_1
def C.bxp : ICode := .keep [1, 5, 6] (.seq (.seq (.region C.md) C.bxn) C.bxl)
def C.bxp_w := pC C.bxp.eq_1
def C.mc_b : LO := [
 X.o 21 (.loadN 4 (X.s 1)),
 X.o 22 (.call F.q16 [X.s 21]),
 X.m 20 22,
 X.o 23 (.extract (X.s 20) 0),
 X.o 24 (.extract (X.s 20) 1),
 X.m 5 23,
 X.m 6 24]
def C.mc : LO := C.mc_b
def C.mc_w := pO C.mc.eq_1
def C.bxr : ICode := .keep [1] (.seq (.region C.mc) C.bxp)
def C.bxr_w := pC C.bxr.eq_1
def C.mb_b : LO := [
 X.m 19 4,
 X.o 2 (.move (.cst (.nilp))),
 X.m 3 19]
def C.mb : LO := C.mb_b
def C.mb_w := pO C.mb.eq_1
def C.bxs : ICode := .seq (.region C.mb) .ret
def C.bxs_w := pC C.bxs.eq_1
def C.bxt : ICode := .keep [1, 4, 18] (.cond (X.s 18) C.bxs .skip)
def C.bxt_w := pC C.bxt.eq_1
def C.l9_b : LO := [
 X.m 17 4,
 X.o 18 (.bin .neq (X.s 17) (X.i 0))]
def C.l9 : LO := C.l9_b
def C.l9_w := pO C.l9.eq_1
def C.bxv : ICode := .keep [1, 4] (.seq (.region C.l9) C.bxt)
def C.bxv_w := pC C.bxv.eq_1
def C.l3_b : LO := [
 X.o 15 (.loadN 4 (X.s 1)),
 X.o 16 (.call F.q22 [X.s 15]),
 X.m 4 16]
def C.l3 : LO := C.l3_b
def C.l3_w := pO C.l3.eq_1
def C.bxw : ICode := .keep [1] (.seq (.seq (.region C.l3) C.bxv) C.bxr)
def C.bxw_w := pC C.bxw.eq_1
def C.bm_b : LO := [
 X.o 1 (.boxN (X.s 0)),
 X.o 2 (.move (.cst (.nilp))),
 X.o 3 (.move (X.i 0))]
def C.bm : LO := C.bm_b
def C.bm_w := pO C.bm.eq_1
def C.q91 : IFunc := ⟨1, [.slot 2, .slot 3], .seq (.region C.bm) C.bxw⟩
def C.q91_W := aI (aI (aI (aI (aI (aI @C.bg5_w @C.ccm_w) (aI @C.bg4_w @C.ccn_w)) (aI (aI @C.ccp_w @C.bg3_w) (aI @C.ccr_w @C.bg2_w))) (aI (aI (aI @C.ccs_w @C.ch_w) (aI @C.bkt_w @C.cg_w)) (aI (aI @C.bkv_w @C.c9_w) (aI @C.bkw_w @C.dx_w)))) (aI (aI (aI (aI @C.bxx_w @C.bw3_w) (aI @C.dw_w @C.bw4_w)) (aI (aI @C.c8_w @C.bw5_w) (aI @C.c7_w @C.bw1_w))) (aI (aI (aI @C.bw6_w @C.bw7_w) (aI @C.c6_w @C.bw2_w)) (aI (aI @C.bw8_w @C.l8_w) (aI @C.bw9_w @C.c5_w))))) (aI (aI (aI (aI (aI @C.bks_w @C.l7_w) (aI @C.bxb_w @C.l6_w)) (aI (aI @C.bxc_w @C.bxd_w) (aI @C.l5_w @C.bxf_w))) (aI (aI (aI @C.l4_w @C.bxg_w) (aI @C.mj_w @C.bxh_w)) (aI (aI @C.bxj_w @C.mh_w) (aI @C.bxk_w @C.mg_w)))) (aI (aI (aI (aI @C.bxl_w @C.mf_w) (aI @C.bxm_w @C.bxn_w)) (aI (aI @C.md_w @C.bxp_w) (aI @C.mc_w @C.bxr_w))) (aI (aI (aI @C.mb_w @C.bxs_w) (aI @C.bxt_w @C.l9_w)) (aI (aI @C.bxv_w @C.l3_w) (aI @C.bxw_w @C.bm_w)))))
def C.q91_B := aI (aI (aI (aI @C.bg5_b.eq_1 (aI @C.bg4_b.eq_1 @C.bg3_b.eq_1)) (aI (aI @C.bg2_b.eq_1 @C.ch_b.eq_1) (aI @C.cg_b.eq_1 @C.c9_b.eq_1))) (aI (aI @C.dx_b.eq_1 (aI @C.dw_b.eq_1 @C.c8_b.eq_1)) (aI (aI @C.c7_b.eq_1 @C.c6_b.eq_1) (aI @C.l8_b.eq_1 @C.c5_b.eq_1)))) (aI (aI (aI @C.l7_b.eq_1 (aI @C.l6_b.eq_1 @C.l5_b.eq_1)) (aI (aI @C.l4_b.eq_1 @C.mj_b.eq_1) (aI @C.mh_b.eq_1 @C.mg_b.eq_1))) (aI (aI @C.mf_b.eq_1 (aI @C.md_b.eq_1 @C.mc_b.eq_1)) (aI (aI @C.mb_b.eq_1 @C.l9_b.eq_1) (aI @C.l3_b.eq_1 @C.bm_b.eq_1))))

def C.sr_b : LO := [
 X.m 10 0,
 X.m 11 1,
 X.o 12 (.bin .rem (X.s 10) (X.s 11)),
 X.m 4 12]
def C.sr : LO := C.sr_b
def C.sr_w := pO C.sr.eq_1
def C.b00 : ICode := .keep [0, 1] (.seq (.region C.sr) .ret)
def C.b00_w := pC C.b00.eq_1
def C.sp_b : LO := [
 X.m 7 0,
 X.o 8 (.bin .add (X.s 7) (X.i 1)),
 X.o 9 (.un .neg (X.s 8)),
 X.m 0 9]
def C.sp : LO := C.sp_b
def C.sp_w := pO C.sp.eq_1
def C.b01 : ICode := .keep [0, 1, 6] (.cond (X.s 6) (.region C.sp) .skip)
def C.b01_w := pC C.b01.eq_1
def C.sn_b : LO := [
 X.m 5 0,
 X.o 6 (.bin .lss (X.s 5) (X.i 0))]
def C.sn : LO := C.sn_b
def C.sn_w := pO C.sn.eq_1
def C.b02 : ICode := .keep [0, 1] (.seq (.seq (.region C.sn) C.b01) C.b00)
def C.b02_w := pC C.b02.eq_1
def C.sm_b : LO := [
 X.o 4 (.move (X.i 0))]
def C.sm : LO := C.sm_b
def C.sm_w := pO C.sm.eq_1
def C.q14 : IFunc := ⟨2, [.slot 4], .seq (.region C.sm) C.b02⟩
def C.q14_W := aI (aI @C.sr_w (aI @C.b00_w @C.sp_w)) (aI (aI @C.b01_w @C.sn_w) (aI @C.b02_w @C.sm_w))
def C.q14_B := aI (aI @C.sr_b.eq_1 @C.sp_b.eq_1) (aI @C.sn_b.eq_1 @C.sm_b.eq_1)

def C.xk_b : LO := [
 X.m 39 6,
 X.m 4 39,
 X.o 5 (.move (X.i 0))]
def C.xk : LO := C.xk_b
def C.xk_w := pO C.xk.eq_1
def C.b33 : ICode := .keep [6] (.seq (.region C.xk) .ret)
def C.b33_w := pC C.b33.eq_1
def C.xj_b : LO := [
 X.o 4 (.move (.cst (.int .u32 0))),
 X.o 5 (.move (X.i 1))]
def C.xj : LO := C.xj_b
def C.xj_w := pO C.xj.eq_1
def C.b37 : ICode := .seq (.region C.xj) .ret
def C.b37_w := pC C.b37.eq_1
def C.b38 : ICode := .keep [6, 38] (.cond (X.s 38) C.b37 .skip)
def C.b38_w := pC C.b38.eq_1
def C.xh_b : LO := [
 X.m 37 7,
 X.o 38 (.bin .neq (X.s 37) (X.i 0))]
def C.xh : LO := C.xh_b
def C.xh_w := pO C.xh.eq_1
def C.b39 : ICode := .keep [6, 7] (.seq (.seq (.region C.xh) C.b38) C.b33)
def C.b39_w := pC C.b39.eq_1
def C.xg_b : LO := [
 X.m 31 6,
 X.m 32 1,
 X.o 33 (.conv .u32 (X.s 32)),
 X.o 34 (.call F.q1 [X.s 31, X.i 2, X.i 14, X.s 33]),
 X.m 30 34,
 X.o 35 (.extract (X.s 30) 0),
 X.o 36 (.extract (X.s 30) 1),
 X.m 6 35,
 X.m 7 36]
def C.xg : LO := C.xg_b
def C.xg_w := pO C.xg.eq_1
def C.b4b : ICode := .keep [1, 6] (.seq (.region C.xg) C.b39)
def C.b4b_w := pC C.b4b.eq_1
def C.xf_b : LO := [
 X.o 4 (.move (.cst (.int .u32 0))),
 X.o 5 (.move (X.i 1))]
def C.xf : LO := C.xf_b
def C.xf_w := pO C.xf.eq_1
def C.b4c : ICode := .seq (.region C.xf) .ret
def C.b4c_w := pC C.b4c.eq_1
def C.b4d : ICode := .keep [1, 6, 29] (.cond (X.s 29) C.b4c .skip)
def C.b4d_w := pC C.b4d.eq_1
def C.xd_b : LO := [
 X.m 28 7,
 X.o 29 (.bin .neq (X.s 28) (X.i 0))]
def C.xd : LO := C.xd_b
def C.xd_w := pO C.xd.eq_1
def C.b4f : ICode := .keep [1, 6, 7] (.seq (.seq (.region C.xd) C.b4d) C.b4b)
def C.b4f_w := pC C.b4f.eq_1
def C.xc_b : LO := [
 X.m 23 0,
 X.o 24 (.conv .u32 (X.s 23)),
 X.o 25 (.call F.q1 [.cst (.int .u32 0), X.i 16, X.i 8, X.s 24]),
 X.m 22 25,
 X.o 26 (.extract (X.s 22) 0),
 X.o 27 (.extract (X.s 22) 1),
 X.m 6 26,
 X.m 7 27]
def C.xc : LO := C.xc_b
def C.xc_w := pO C.xc.eq_1
def C.b4g : ICode := .keep [0, 1] (.seq (.region C.xc) C.b4f)
def C.b4g_w := pC C.b4g.eq_1
def C.xb_b : LO := [
 X.o 4 (.move (.cst (.int .u32 0))),
 X.o 5 (.move (X.i 1))]
def C.xb : LO := C.xb_b
def C.xb_w := pO C.xb.eq_1
def C.b34 : ICode := .seq (.region C.xb) .ret
def C.b34_w := pC C.b34.eq_1
def C.b35 : ICode := .keep [0, 1, 21] (.cond (X.s 21) C.b34 .skip)
def C.b35_w := pC C.b35.eq_1
def C.w9_b : LO := [
 X.m 8 0,
 X.o 9 (.bin .lss (X.s 8) (X.i 0)),
 X.m 10 9,
 X.f 10 11 (.move (X.s 0)),
 X.f 10 12 (.bin .geq (X.s 11) (X.i 256)),
 X.o 13 (.pick (X.s 10) (.cst (.bool true)) (X.s 12)),
 X.m 14 13,
 X.f 14 15 (.move (X.s 1)),
 X.f 14 16 (.bin .lss (X.s 15) (X.i 0)),
 X.o 17 (.pick (X.s 14) (.cst (.bool true)) (X.s 16)),
 X.m 18 17,
 X.f 18 19 (.move (X.s 1)),
 X.f 18 20 (.bin .geq (X.s 19) (X.i 16384)),
 X.o 21 (.pick (X.s 18) (.cst (.bool true)) (X.s 20))]
def C.w9 : LO := C.w9_b
def C.w9_w := pO C.w9.eq_1
def C.b36 : ICode := .keep [0, 1] (.seq (.seq (.region C.w9) C.b35) C.b4g)
def C.b36_w := pC C.b36.eq_1
def C.w8_b : LO := [
 X.o 4 (.move (.cst (.int .u32 0))),
 X.o 5 (.move (X.i 0))]
def C.w8 : LO := C.w8_b
def C.w8_w := pO C.w8.eq_1
def C.q4 : IFunc := ⟨2, [.slot 4, .slot 5], .seq (.region C.w8) C.b36⟩
def C.q4_W := aI (aI (aI (aI @C.xk_w @C.b33_w) (aI @C.xj_w (aI @C.b37_w @C.b38_w))) (aI (aI @C.xh_w (aI @C.b39_w @C.xg_w)) (aI @C.b4b_w (aI @C.xf_w @C.b4c_w)))) (aI (aI (aI @C.b4d_w @C.xd_w) (aI @C.b4f_w (aI @C.xc_w @C.b4g_w))) (aI (aI @C.xb_w (aI @C.b34_w @C.b35_w)) (aI @C.w9_w (aI @C.b36_w @C.w8_w))))
def C.q4_B := aI (aI (aI @C.xk_b.eq_1 @C.xj_b.eq_1) (aI @C.xh_b.eq_1 (aI @C.xg_b.eq_1 @C.xf_b.eq_1))) (aI (aI @C.xd_b.eq_1 @C.xc_b.eq_1) (aI @C.xb_b.eq_1 (aI @C.w9_b.eq_1 @C.w8_b.eq_1)))

def C.bf8_b : LO := [
 X.m 48 0,
 X.o 49 (.nilchk (X.s 48)),
 X.o 50 (.fldAddr 3 (X.s 49)),
 X.o 51 (.load1 (X.s 50)),
 X.m 52 1,
 X.m 53 2,
 X.m 54 3,
 X.o 55 (.call F.q5 [X.s 51, X.s 52, X.s 53, X.s 54]),
 X.o 56 (.extract (X.s 55) 0),
 X.o 57 (.extract (X.s 55) 1),
 X.m 8 56,
 X.m 9 57]
def C.bf8 : LO := C.bf8_b
def C.bf8_w := pO C.bf8.eq_1
def C.cbw : ICode := .keep [0, 1, 2, 3] (.seq (.region C.bf8) .ret)
def C.cbw_w := pC C.cbw.eq_1
def C.bf7_b : LO := [
 X.o 8 (.move (X.i 0)),
 X.o 9 (.move (X.i 6))]
def C.bf7 : LO := C.bf7_b
def C.bf7_w := pO C.bf7.eq_1
def C.cbx : ICode := .seq (.region C.bf7) .ret
def C.cbx_w := pC C.cbx.eq_1
def C.cby : ICode := .keep [0, 1, 2, 3, 47] (.cond (X.s 47) C.cbx .skip)
def C.cby_w := pC C.cby.eq_1
def C.bf6_b : LO := [
 X.m 38 0,
 X.o 39 (.nilchk (X.s 38)),
 X.o 40 (.fldAddr 4 (X.s 39)),
 X.o 41 (.load1 (X.s 40)),
 X.m 42 10,
 X.o 43 (.idxAddr 6 (X.s 41) (X.s 42)),
 X.o 44 (.fldAddr 5 (X.s 43)),
 X.o 45 (.load1 (X.s 44)),
 X.o 46 (.call F.q102 [X.s 45]),
 X.o 47 (.bin .neq (X.s 46) (.cst (.int .u8 114)))]
def C.bf6 : LO := C.bf6_b
def C.bf6_w := pO C.bf6.eq_1
def C.cbq : ICode := .keep [0, 1, 2, 3, 10] (.seq (.seq (.region C.bf6) C.cby) C.cbw)
def C.cbq_w := pC C.cbq.eq_1
def C.bf5_b : LO := [
 X.o 8 (.move (X.i 0)),
 X.o 9 (.move (X.i 4))]
def C.bf5 : LO := C.bf5_b
def C.bf5_w := pO C.bf5.eq_1
def C.cbz : ICode := .seq (.region C.bf5) .ret
def C.cbz_w := pC C.cbz.eq_1
def C.cb0 : ICode := .keep [0, 1, 2, 3, 10, 37] (.cond (X.s 37) C.cbz .skip)
def C.cb0_w := pC C.cb0.eq_1
def C.bf4_b : LO := [
 X.m 17 0,
 X.m 18 10,
 X.o 19 (.call F.q89 [X.s 17, X.s 18]),
 X.o 20 (.un .not (X.s 19)),
 X.m 21 20,
 X.f 21 22 (.move (X.s 11)),
 X.f 21 23 (.bin .lss (X.s 22) (X.i 0)),
 X.o 24 (.pick (X.s 21) (.cst (.bool true)) (X.s 23)),
 X.m 25 24,
 X.f 25 26 (.move (X.s 11)),
 X.f 25 27 (.move (X.s 0)),
 X.f 25 28 (.nilchk (X.s 27)),
 X.f 25 29 (.fldAddr 4 (X.s 28)),
 X.f 25 30 (.load1 (X.s 29)),
 X.f 25 31 (.move (X.s 10)),
 X.f 25 32 (.idxAddr 6 (X.s 30) (X.s 31)),
 X.f 25 33 (.fldAddr 4 (X.s 32)),
 X.f 25 34 (.load1 (X.s 33)),
 X.f 25 35 (.call F.q107 [X.s 34]),
 X.f 25 36 (.bin .geq (X.s 26) (X.s 35)),
 X.o 37 (.pick (X.s 25) (.cst (.bool true)) (X.s 36))]
def C.bf4 : LO := C.bf4_b
def C.bf4_w := pO C.bf4.eq_1
def C.cb1 : ICode := .keep [0, 1, 2, 3, 10, 11] (.seq (.seq (.region C.bf4) C.cb0) C.cbq)
def C.cb1_w := pC C.cb1.eq_1
def C.bf3_b : LO := [
 X.m 13 1,
 X.o 14 (.call F.q10 [X.s 13]),
 X.m 12 14,
 X.o 15 (.extract (X.s 12) 0),
 X.o 16 (.extract (X.s 12) 1),
 X.m 10 15,
 X.m 11 16]
def C.bf3 : LO := C.bf3_b
def C.bf3_w := pO C.bf3.eq_1
def C.cb2 : ICode := .keep [0, 1, 2, 3] (.seq (.region C.bf3) C.cb1)
def C.cb2_w := pC C.cb2.eq_1
def C.bf2_b : LO := [
 X.o 8 (.move (X.i 0)),
 X.o 9 (.move (X.i 0))]
def C.bf2 : LO := C.bf2_b
def C.bf2_w := pO C.bf2.eq_1
def C.q82 : IFunc := ⟨4, [.slot 8, .slot 9], .seq (.region C.bf2) C.cb2⟩
def C.q82_W := aI (aI (aI @C.bf8_w (aI @C.cbw_w @C.bf7_w)) (aI (aI @C.cbx_w @C.cby_w) (aI @C.bf6_w @C.cbq_w))) (aI (aI (aI @C.bf5_w @C.cbz_w) (aI @C.cb0_w @C.bf4_w)) (aI (aI @C.cb1_w @C.bf3_w) (aI @C.cb2_w @C.bf2_w)))
def C.q82_B := aI (aI @C.bf8_b.eq_1 (aI @C.bf7_b.eq_1 @C.bf6_b.eq_1)) (aI (aI @C.bf5_b.eq_1 @C.bf4_b.eq_1) (aI @C.bf3_b.eq_1 @C.bf2_b.eq_1))

def C.bfr_b : LO := [
 X.m 9 0,
 X.o 10 (.nilchk (X.s 9)),
 X.o 11 (.fldAddr 4 (X.s 10)),
 X.o 12 (.load1 (X.s 11)),
 X.m 13 1,
 X.o 14 (.idxAddr 6 (X.s 12) (X.s 13)),
 X.o 15 (.fldAddr 5 (X.s 14)),
 X.o 16 (.load1 (X.s 15)),
 X.o 17 (.call F.q100 [X.s 16]),
 X.m 4 17]
def C.bfr : LO := C.bfr_b
def C.bfr_w := pO C.bfr.eq_1
def C.cbf : ICode := .keep [0, 1] (.seq (.region C.bfr) .ret)
def C.cbf_w := pC C.cbf.eq_1
def C.bfp_b : LO := [
 X.o 4 (.move (X.i 4))]
def C.bfp : LO := C.bfp_b
def C.bfp_w := pO C.bfp.eq_1
def C.cbg : ICode := .seq (.region C.bfp) .ret
def C.cbg_w := pC C.cbg.eq_1
def C.cbh : ICode := .keep [0, 1, 8] (.cond (X.s 8) C.cbg .skip)
def C.cbh_w := pC C.cbh.eq_1
def C.bfn_b : LO := [
 X.m 5 0,
 X.m 6 1,
 X.o 7 (.call F.q89 [X.s 5, X.s 6]),
 X.o 8 (.un .not (X.s 7))]
def C.bfn : LO := C.bfn_b
def C.bfn_w := pO C.bfn.eq_1
def C.cbj : ICode := .keep [0, 1] (.seq (.seq (.region C.bfn) C.cbh) C.cbf)
def C.cbj_w := pC C.cbj.eq_1
def C.bfm_b : LO := [
 X.o 4 (.move (X.i 0))]
def C.bfm : LO := C.bfm_b
def C.bfm_w := pO C.bfm.eq_1
def C.q79 : IFunc := ⟨2, [.slot 4], .seq (.region C.bfm) C.cbj⟩
def C.q79_W := aI (aI (aI @C.bfr_w @C.cbf_w) (aI @C.bfp_w @C.cbg_w)) (aI (aI @C.cbh_w @C.bfn_w) (aI @C.cbj_w @C.bfm_w))
def C.q79_B := aI (aI @C.bfr_b.eq_1 @C.bfp_b.eq_1) (aI @C.bfn_b.eq_1 @C.bfm_b.eq_1)

end Go.Proofs.YtdmfgodajoojpaaGreatDoor.Cn
