/- The intermediate code of the functions, printed by a program out of the loaded program; that it is theirs is checked in the text of links. -/
import Derived.Test.YtdmfgodajoojpaaGreatDoorCnL2
set_option linter.defProp false
namespace Go.Proofs.YtdmfgodajoojpaaGreatDoor.Cn
open Go
theorem aI {a b : Prop} (x : a) (y : b) : a ∧ b := ⟨x, y⟩
theorem pC {c d : ICode} (h : c = d) ⦃P : Program⦄ ⦃Q : IExit → AFr → ASt → Prop⦄ ⦃fr : AFr⦄ ⦃st : ASt⦄ : awp P c Q fr st = awp P d Q fr st := by rw [h]
theorem pO {c d : List IOper} (h : c = d) ⦃P : Program⦄ ⦃k : AFr → ASt → Prop⦄ ⦃fr : AFr⦄ ⦃st : ASt⦄ : aops P c k fr st = aops P d k fr st := by rw [h]
abbrev LO := List IOper
variable {P : Program} {Q : IExit → AFr → ASt → Prop} {fr : AFr} {st : ASt}

abbrev F.main_main : Nat := 0
abbrev F.gosem_cut : Nat := 1
abbrev F.gosem_cut_init : Nat := 2
abbrev F.catnaplaw12_HardQuiet : Nat := 3
abbrev F.catnaplaw12_HardDead : Nat := 4
abbrev F.catnaplaw12_HardGates : Nat := 5
abbrev F.catnaplaw12_HardWakes : Nat := 6
abbrev F.catnaplaw12_HardResets : Nat := 7
abbrev F.q12 : Nat := 8
abbrev F.q15 : Nat := 9
abbrev F.q13 : Nat := 10
abbrev F.q96 : Nat := 11
abbrev F.q14 : Nat := 12
abbrev F.q4 : Nat := 13
abbrev F.q88 : Nat := 14
abbrev F.hard_Hard_Ask : Nat := 15
abbrev F.q91 : Nat := 16
abbrev F.hard_Hard_State : Nat := 17
abbrev F.hard_Hard_Leave : Nat := 18
abbrev F.hard_Hard_Waiting : Nat := 19
abbrev F.q16 : Nat := 20
abbrev F.q83 : Nat := 21
abbrev F.q85 : Nat := 22
abbrev F.q81 : Nat := 23
abbrev F.q25 : Nat := 24
abbrev F.q82 : Nat := 25
abbrev F.q89 : Nat := 26
abbrev F.q86 : Nat := 27
abbrev F.q84 : Nat := 28
abbrev F.q87 : Nat := 29
abbrev F.q92 : Nat := 30
abbrev F.q90 : Nat := 31
abbrev F.q17 : Nat := 32
abbrev F.q103 : Nat := 33
abbrev F.q127 : Nat := 34
abbrev F.q121 : Nat := 35
abbrev F.q111 : Nat := 36
abbrev F.q108 : Nat := 37
abbrev F.q9 : Nat := 38
abbrev F.q1 : Nat := 39
abbrev F.q10 : Nat := 40
abbrev F.q94 : Nat := 41
abbrev F.q106 : Nat := 42
abbrev F.q5 : Nat := 43
abbrev F.quiet_Chan_Ask : Nat := 44
abbrev F.q95 : Nat := 45
abbrev F.q93 : Nat := 46
abbrev F.q107 : Nat := 47
abbrev F.q7 : Nat := 48
abbrev F.q22 : Nat := 49
abbrev F.q100 : Nat := 50
abbrev F.q97 : Nat := 51
abbrev F.q125 : Nat := 52
abbrev F.quiet_Chan_Leave : Nat := 53
abbrev F.q18 : Nat := 54
abbrev F.q19 : Nat := 55
abbrev F.q20 : Nat := 56
abbrev F.q99 : Nat := 57
abbrev F.q123 : Nat := 58
abbrev F.q61 : Nat := 59
abbrev F.q26 : Nat := 60
abbrev F.q62 : Nat := 61
abbrev F.q27 : Nat := 62
abbrev F.q56 : Nat := 63
abbrev F.q28 : Nat := 64
abbrev F.q41 : Nat := 65
abbrev F.q29 : Nat := 66
abbrev F.q46 : Nat := 67
abbrev F.q37 : Nat := 68
abbrev F.q30 : Nat := 69
abbrev F.q58 : Nat := 70
abbrev F.q31 : Nat := 71
abbrev F.q53 : Nat := 72
abbrev F.q32 : Nat := 73
abbrev F.q39 : Nat := 74
abbrev F.q33 : Nat := 75
abbrev F.q59 : Nat := 76
abbrev F.q71 : Nat := 77
abbrev F.q34 : Nat := 78
abbrev F.q57 : Nat := 79
abbrev F.q35 : Nat := 80
abbrev F.q47 : Nat := 81
abbrev F.q36 : Nat := 82
abbrev F.q40 : Nat := 83
abbrev F.q122 : Nat := 84
abbrev F.q109 : Nat := 85
abbrev F.q124 : Nat := 86
abbrev F.q98 : Nat := 87
abbrev F.q101 : Nat := 88
abbrev F.q38 : Nat := 89
abbrev F.q128 : Nat := 90
abbrev F.q2 : Nat := 91
abbrev F.q11 : Nat := 92
abbrev F.q8 : Nat := 93
abbrev F.q6 : Nat := 94
abbrev F.q112 : Nat := 95
abbrev F.q117 : Nat := 96
abbrev F.q24 : Nat := 97
abbrev F.q105 : Nat := 98
abbrev F.q115 : Nat := 99
abbrev F.q113 : Nat := 100
abbrev F.q23 : Nat := 101
abbrev F.q129 : Nat := 102
abbrev F.q21 : Nat := 103
abbrev F.q102 : Nat := 104
abbrev F.q126 : Nat := 105
abbrev F.q63 : Nat := 106
abbrev F.q73 : Nat := 107
abbrev F.q42 : Nat := 108
abbrev F.q72 : Nat := 109
abbrev F.q43 : Nat := 110
abbrev F.q60 : Nat := 111
abbrev F.q44 : Nat := 112
abbrev F.q74 : Nat := 113
abbrev F.q45 : Nat := 114
abbrev F.q64 : Nat := 115
abbrev F.q75 : Nat := 116
abbrev F.q70 : Nat := 117
abbrev F.q54 : Nat := 118
abbrev F.q55 : Nat := 119
abbrev F.q48 : Nat := 120
abbrev F.q49 : Nat := 121
abbrev F.q50 : Nat := 122
abbrev F.q51 : Nat := 123
abbrev F.q52 : Nat := 124
abbrev F.q118 : Nat := 125
abbrev F.q110 : Nat := 126
abbrev F.q104 : Nat := 127
abbrev F.q65 : Nat := 128
abbrev F.q67 : Nat := 129
abbrev F.q69 : Nat := 130
abbrev F.q66 : Nat := 131
abbrev F.q68 : Nat := 132
abbrev F.q3 : Nat := 133
abbrev F.q0 : Nat := 134
abbrev F.q120 : Nat := 135
abbrev F.q116 : Nat := 136
abbrev F.q114 : Nat := 137
abbrev F.q76 : Nat := 138
abbrev F.q119 : Nat := 139
abbrev F.q80 : Nat := 140
abbrev F.q77 : Nat := 141
abbrev F.q79 : Nat := 142
abbrev F.q78 : Nat := 143
abbrev F.runtime_boundsError_Error : Nat := 144
abbrev F.runtime_boundsError_RuntimeError : Nat := 145
abbrev F.runtime_errorString_Error : Nat := 146
abbrev F.runtime_errorString_RuntimeError : Nat := 147
abbrev F.runtime_plainError_Error : Nat := 148
abbrev F.runtime_plainError_RuntimeError : Nat := 149
abbrev F.runtime_errorAddressString_Error : Nat := 150
abbrev F.runtime_errorAddressString_RuntimeError : Nat := 151
abbrev F.runtime_TypeAssertionError_Error : Nat := 152
abbrev F.runtime_TypeAssertionError_RuntimeError : Nat := 153
abbrev F.runtime_PanicNilError_Error : Nat := 154
abbrev F.runtime_PanicNilError_RuntimeError : Nat := 155
abbrev F.internal_abi_Type_Align : Nat := 156
abbrev F.internal_runtime_maps_unhashableTypeError_Error : Nat := 157
abbrev F.internal_runtime_maps_unhashableTypeError_RuntimeError : Nat := 158
abbrev F.api_Errno_Error : Nat := 159
abbrev F.power_Grid_Left : Nat := 160
abbrev F.quiet_Chan_Denied : Nat := 161
abbrev F.internal_abi_Kind_String : Nat := 162
abbrev F.var_s_door_quiet_letters_is_laid_by_its_own_initialiser_plain_data_look_11 : Nat := 163
abbrev F.var_s_door_gosem_cut_vars_holds_initialisers_alone_see_the_manifest_s_row_cutvarsword_look_11_test_files_too : Nat := 164
abbrev F.var_s_door_the_look_of_gosem_cut_vars_went_over_the_folder_that_the_caller_named_as_the_repository_s_root_look_11 : Nat := 165
abbrev F.gosem_cut_vars : Nat := 166

def C.hc_b : LO := [
 X.o 8 (.move (.cst (.bool true)))]
def C.hc : LO := C.hc_b
def C.hc_w := pO C.hc.eq_1
def C.br7 : ICode := .keep [] (.seq (.region C.hc) .ret)
def C.br7_w := pC C.br7.eq_1
def C.cs_b : LO := [
 X.m 159 21,
 X.o 160 (.bin .add (X.s 159) (X.i 1)),
 X.m 21 160]
def C.cs : LO := C.cs_b
def C.cs_w := pO C.cs.eq_1
def C.rh : ICode := .keep [2, 11, 13, 14, 18, 20, 21] (.region C.cs)
def C.rh_w := pC C.rh.eq_1
def C.cv_b : LO := [
 X.o 8 (.move (.cst (.bool false)))]
def C.cv : LO := C.cv_b
def C.cv_w := pO C.cv.eq_1
def C.bss : ICode := .seq (.region C.cv) .ret
def C.bss_w := pC C.bss.eq_1
def C.bs1 : ICode := .keep [2, 11, 13, 14, 18, 20, 21, 217] (.cond (X.s 217) C.bss .skip)
def C.bs1_w := pC C.bs1.eq_1
def C.ct_b : LO := [
 X.m 201 25,
 X.o 202 (.len (X.s 201)),
 X.o 203 (.bin .neq (X.s 202) (X.i 1)),
 X.m 204 203,
 X.f 204 205 (.move (X.s 25)),
 X.f 204 206 (.idxAddr 4 (X.s 205) (X.i 0)),
 X.f 204 207 (.fldAddr 2 (X.s 206)),
 X.f 204 208 (.load1 (X.s 207)),
 X.o 209 (.pick (X.s 204) (.cst (.bool true)) (X.s 208)),
 X.m 210 209,
 X.f 210 211 (.move (X.s 25)),
 X.f 210 212 (.idxAddr 4 (X.s 211) (X.i 0)),
 X.f 210 213 (.fldAddr 3 (X.s 212)),
 X.f 210 214 (.load1 (X.s 213)),
 X.f 210 215 (.move (X.s 22)),
 X.f 210 216 (.bin .neq (X.s 214) (X.s 215)),
 X.o 217 (.pick (X.s 210) (.cst (.bool true)) (X.s 216))]
def C.ct : LO := C.ct_b
def C.ct_w := pO C.ct.eq_1
def C.bs8 : ICode := .keep [2, 11, 13, 14, 18, 20, 21, 22, 25] (.seq (.region C.ct) C.bs1)
def C.bs8_w := pC C.bs8.eq_1
def C.cb_b : LO := [
 X.m 199 11,
 X.o 200 (.call F.q91 [X.s 199, .cst (.int .u32 0)]),
 X.m 25 200]
def C.cb : LO := C.cb_b
def C.cb_w := pO C.cb.eq_1
def C.bth : ICode := .keep [2, 11, 13, 14, 18, 20, 21, 22] (.seq (.region C.cb) C.bs8)
def C.bth_w := pC C.bth.eq_1
def C.b9_b : LO := [
 X.m 196 11,
 X.m 197 23,
 X.o 198 (.call F.q88 [X.s 196, X.s 197, .cst (.bool false), .cst (.int .u32 0)])]
def C.b9 : LO := C.b9_b
def C.b9_w := pO C.b9.eq_1
def C.btj : ICode := .keep [2, 11, 13, 14, 18, 20, 21, 22, 23] (.seq (.region C.b9) C.bth)
def C.btj_w := pC C.btj.eq_1
def C.b8_b : LO := [
 X.m 191 13,
 X.m 192 21,
 X.o 193 (.call F.q4 [X.s 191, X.s 192]),
 X.m 190 193,
 X.o 194 (.extract (X.s 190) 0),
 X.o 195 (.extract (X.s 190) 1),
 X.m 23 194,
 X.m 24 195]
def C.b8 : LO := C.b8_b
def C.b8_w := pO C.b8.eq_1
def C.rl : ICode := .keep [2, 11, 13, 14, 18, 20, 21, 22] (.seq (.region C.b8) C.btj)
def C.rl_w := pC C.rl.eq_1
def C.hb_b : LO := [
 X.m 186 2,
 X.m 187 21,
 X.o 188 (.idxAddr 1 (X.s 186) (X.s 187)),
 X.o 189 (.load1 (X.s 188)),
 X.m 22 189]
def C.hb : LO := C.hb_b
def C.hb_w := pO C.hb.eq_1
def C.btk : ICode := .region C.hb
def C.btk_w := pC C.btk.eq_1
def C.br8 : ICode := .keep [2, 11, 13, 14, 18, 20, 21, 22, 185] (.cond (X.s 185) C.btk .skip)
def C.br8_w := pC C.br8.eq_1
def C.g9_b : LO := [
 X.m 167 18,
 X.m 168 167,
 X.t 168 169 (.move (X.s 20)),
 X.t 168 170 (.un .not (X.s 169)),
 X.o 171 (.pick (X.s 168) (X.s 170) (.cst (.bool false))),
 X.m 172 171,
 X.t 172 173 (.fldAddr 4 (X.s 14)),
 X.t 172 174 (.load1 (X.s 173)),
 X.t 172 175 (.move (X.s 21)),
 X.t 172 176 (.idxAddr 2 (X.s 174) (X.s 175)),
 X.t 172 177 (.fldAddr 1 (X.s 176)),
 X.t 172 178 (.load1 (X.s 177)),
 X.o 179 (.pick (X.s 172) (X.s 178) (.cst (.bool false))),
 X.m 180 179,
 X.t 180 181 (.move (X.s 21)),
 X.t 180 182 (.move (X.s 2)),
 X.t 180 183 (.len (X.s 182)),
 X.t 180 184 (.bin .lss (X.s 181) (X.s 183)),
 X.o 185 (.pick (X.s 180) (X.s 184) (.cst (.bool false)))]
def C.g9 : LO := C.g9_b
def C.g9_w := pO C.g9.eq_1
def C.br9 : ICode := .keep [2, 11, 13, 14, 18, 20, 21, 22] (.seq (.seq (.region C.g9) C.br8) C.rl)
def C.br9_w := pC C.br9.eq_1
def C.g8_b : LO := [
 X.o 161 (.fldAddr 4 (X.s 14)),
 X.o 162 (.load1 (X.s 161)),
 X.m 163 21,
 X.o 164 (.idxAddr 2 (X.s 162) (X.s 163)),
 X.o 165 (.fldAddr 0 (X.s 164)),
 X.o 166 (.load1 (X.s 165)),
 X.m 22 166]
def C.g8 : LO := C.g8_b
def C.g8_w := pO C.g8.eq_1
def C.br3 : ICode := .seq (.region C.g8) C.br9
def C.br3_w := pC C.br3.eq_1
def C.bsb : ICode := .keep [2, 11, 13, 14, 18, 20, 21] (.seq (.block 3 C.br3) C.rh)
def C.bsb_w := pC C.bsb.eq_1
def C.bsc : ICode := .keep [2, 11, 13, 14, 18, 20, 21, 158] (.cond (X.s 158) .skip (.exit 2))
def C.bsc_w := pC C.bsc.eq_1
def C.g6_b : LO := [
 X.m 154 21,
 X.o 155 (.fldAddr 4 (X.s 14)),
 X.o 156 (.load1 (X.s 155)),
 X.o 157 (.len (X.s 156)),
 X.o 158 (.bin .lss (X.s 154) (X.s 157))]
def C.g6 : LO := C.g6_b
def C.g6_w := pO C.g6.eq_1
def C.cpc : ICode := .keep [2, 11, 13, 14, 18, 20, 21] (.seq (.seq (.region C.g6) C.bsc) C.bsb)
def C.cpc_w := pC C.cpc.eq_1
def C.br4 : ICode := .loop C.cpc
def C.br4_w := pC C.br4.eq_1
def C.bsd : ICode := .keep [2, 11, 13, 14, 18, 20, 21] (.block 2 C.br4)
def C.bsd_w := pC C.bsd.eq_1
def C.g5_b : LO := [
 X.o 21 (.move (X.i 0))]
def C.g5 : LO := C.g5_b
def C.g5_w := pO C.g5.eq_1
def C.bsf : ICode := .keep [2, 11, 13, 14, 18, 20] (.seq (.seq (.region C.g5) C.bsd) C.br7)
def C.bsf_w := pC C.bsf.eq_1
def C.dy_b : LO := [
 X.o 8 (.move (.cst (.bool false)))]
def C.dy : LO := C.dy_b
def C.dy_w := pO C.dy.eq_1
def C.bsg : ICode := .seq (.region C.dy) .ret
def C.bsg_w := pC C.bsg.eq_1
def C.bsh : ICode := .keep [2, 11, 13, 14, 18, 20, 153] (.cond (X.s 153) C.bsg .skip)
def C.bsh_w := pC C.bsh.eq_1
def C.dx_b : LO := [
 X.m 149 11,
 X.o 150 (.loadN 4 (X.s 10)),
 X.m 151 13,
 X.o 152 (.call F.q16 [X.s 149, X.s 150, X.s 151]),
 X.o 153 (.un .not (X.s 152))]
def C.dx : LO := C.dx_b
def C.dx_w := pO C.dx.eq_1
def C.rj : ICode := .keep [2, 10, 11, 13, 14, 18, 20] (.seq (.seq (.region C.dx) C.bsh) C.bsf)
def C.rj_w := pC C.rj.eq_1
def C.cr_b : LO := [
 X.o 8 (.move (.cst (.bool false)))]
def C.cr : LO := C.cr_b
def C.cr_w := pO C.cr.eq_1
def C.bsj : ICode := .seq (.region C.cr) .ret
def C.bsj_w := pC C.bsj.eq_1
def C.bsk : ICode := .keep [2, 10, 11, 13, 14, 18, 20, 148] (.cond (X.s 148) C.bsj .skip)
def C.bsk_w := pC C.bsk.eq_1
def C.cp_b : LO := [
 X.m 141 20,
 X.m 142 141,
 X.t 142 143 (.move (X.s 11)),
 X.t 142 144 (.fldAddr 2 (X.s 14)),
 X.t 142 145 (.load1 (X.s 144)),
 X.t 142 146 (.call F.q82 [X.s 143, X.s 145]),
 X.t 142 147 (.bin .neq (X.s 146) (X.i 0)),
 X.o 148 (.pick (X.s 142) (X.s 147) (.cst (.bool false)))]
def C.cp : LO := C.cp_b
def C.cp_w := pO C.cp.eq_1
def C.bsl : ICode := .keep [2, 10, 11, 13, 14, 18, 20] (.seq (.seq (.region C.cp) C.bsk) C.rj)
def C.bsl_w := pC C.bsl.eq_1
def C.cn_b : LO := [
 X.m 138 3,
 X.o 139 (.call F.q14 [X.s 138, X.i 3]),
 X.o 140 (.bin .eql (X.s 139) (X.i 2)),
 X.m 20 140]
def C.cn : LO := C.cn_b
def C.cn_w := pO C.cn.eq_1
def C.rk : ICode := .keep [2, 3, 10, 11, 13, 14, 18] (.seq (.region C.cn) C.bsl)
def C.rk_w := pC C.rk.eq_1
def C.g4_b : LO := [
 X.o 8 (.move (.cst (.bool false)))]
def C.g4 : LO := C.g4_b
def C.g4_w := pO C.g4.eq_1
def C.bsm : ICode := .seq (.region C.g4) .ret
def C.bsm_w := pC C.bsm.eq_1
def C.bsn : ICode := .keep [2, 3, 10, 11, 13, 14, 18, 137] (.cond (X.s 137) C.bsm .skip)
def C.bsn_w := pC C.bsn.eq_1
def C.g3_b : LO := [
 X.m 122 19,
 X.o 123 (.bin .neq (X.s 122) (X.i 0)),
 X.m 124 123,
 X.f 124 125 (.move (X.s 11)),
 X.f 124 126 (.move (X.s 13)),
 X.f 124 127 (.call F.q81 [X.s 125, X.s 126]),
 X.o 128 (.pick (X.s 124) (.cst (.bool true)) (X.s 127)),
 X.m 129 128,
 X.f 129 130 (.move (X.s 18)),
 X.f 129 131 (.move (X.s 11)),
 X.f 129 132 (.fldAddr 1 (X.s 14)),
 X.f 129 133 (.load1 (X.s 132)),
 X.f 129 134 (.call F.q87 [X.s 131, X.s 133]),
 X.f 129 135 (.bin .eql (X.s 134) (.cst (.int .u8 116))),
 X.f 129 136 (.eqB true (X.s 130) (X.s 135)),
 X.o 137 (.pick (X.s 129) (.cst (.bool true)) (X.s 136))]
def C.g3 : LO := C.g3_b
def C.g3_w := pO C.g3.eq_1
def C.bsp : ICode := .keep [2, 3, 10, 11, 13, 14, 18, 19] (.seq (.seq (.region C.g3) C.bsn) C.rk)
def C.bsp_w := pC C.bsp.eq_1
def C.g2_b : LO := [
 X.m 120 11,
 X.o 121 (.call F.q91 [X.s 120, .cst (.int .u32 0)])]
def C.g2 : LO := C.g2_b
def C.g2_w := pO C.g2.eq_1
def C.bsr : ICode := .keep [2, 3, 10, 11, 13, 14, 18, 19] (.seq (.region C.g2) C.bsp)
def C.bsr_w := pC C.bsr.eq_1
def C.g1_b : LO := [
 X.o 8 (.move (.cst (.bool false)))]
def C.g1 : LO := C.g1_b
def C.g1_w := pO C.g1.eq_1
def C.bst : ICode := .seq (.region C.g1) .ret
def C.bst_w := pC C.bst.eq_1
def C.bsv : ICode := .keep [2, 3, 10, 11, 13, 14, 18, 19, 119] (.cond (X.s 119) C.bst .skip)
def C.bsv_w := pC C.bsv.eq_1
def C.g0_b : LO := [
 X.m 118 19,
 X.o 119 (.bin .eql (X.s 118) (X.i 7))]
def C.g0 : LO := C.g0_b
def C.g0_w := pO C.g0.eq_1
def C.bsw : ICode := .keep [2, 3, 10, 11, 13, 14, 18, 19] (.seq (.seq (.region C.g0) C.bsv) C.bsr)
def C.bsw_w := pC C.bsw.eq_1
def C.cl_b : LO := [
 X.m 113 11,
 X.o 114 (.fldAddr 1 (X.s 14)),
 X.o 115 (.load1 (X.s 114)),
 X.m 116 18,
 X.o 117 (.call F.q84 [X.s 113, X.s 115, X.s 116]),
 X.m 19 117]
def C.cl : LO := C.cl_b
def C.cl_w := pO C.cl.eq_1
def C.dw : ICode := .keep [2, 3, 10, 11, 13, 14, 18] (.seq (.region C.cl) C.bsw)
def C.dw_w := pC C.dw.eq_1
def C.b7_b : LO := [
 X.o 101 (.fldAddr 1 (X.s 10)),
 X.o 102 (.load1 (X.s 101)),
 X.o 103 (.fldAddr 1 (X.s 14)),
 X.o 104 (.load1 (X.s 103)),
 X.o 105 (.idxAddr 3 (X.s 102) (X.s 104)),
 X.o 106 (.fldAddr 2 (X.s 105)),
 X.o 107 (.load1 (X.s 106)),
 X.m 108 107,
 X.t 108 109 (.move (X.s 3)),
 X.t 108 110 (.call F.q14 [X.s 109, X.i 3]),
 X.t 108 111 (.bin .gtr (X.s 110) (X.i 0)),
 X.o 112 (.pick (X.s 108) (X.s 111) (.cst (.bool false))),
 X.m 18 112]
def C.b7 : LO := C.b7_b
def C.b7_w := pO C.b7.eq_1
def C.bsx : ICode := .keep [2, 3, 10, 11, 13, 14] (.seq (.region C.b7) C.dw)
def C.bsx_w := pC C.bsx.eq_1
def C.bx_b : LO := [
 X.m 84 15,
 X.o 85 (.bin .add (X.s 84) (X.i 1)),
 X.m 15 85]
def C.bx : LO := C.bx_b
def C.bx_w := pO C.bx.eq_1
def C.bsy : ICode := .keep [2, 3, 10, 11, 13, 14, 15] (.region C.bx)
def C.bsy_w := pC C.bsy.eq_1
def C.by_b : LO := [
 X.m 99 11,
 X.o 100 (.call F.q91 [X.s 99, .cst (.int .u32 0)])]
def C.by : LO := C.by_b
def C.by_w := pO C.by.eq_1
def C.bsq : ICode := .keep [2, 3, 10, 11, 13, 14, 15] (.region C.by)
def C.bsq_w := pC C.bsq.eq_1
def C.br_b : LO := [
 X.m 92 11,
 X.m 93 16,
 X.m 94 2,
 X.m 95 15,
 X.o 96 (.idxAddr 1 (X.s 94) (X.s 95)),
 X.o 97 (.load1 (X.s 96)),
 X.o 98 (.call F.q88 [X.s 92, X.s 93, .cst (.bool true), X.s 97])]
def C.br : LO := C.br_b
def C.br_w := pO C.br.eq_1
def C.bsz : ICode := .keep [2, 3, 10, 11, 13, 14, 15, 16] (.seq (.region C.br) C.bsq)
def C.bsz_w := pC C.bsz.eq_1
def C.bm_b : LO := [
 X.m 87 13,
 X.m 88 15,
 X.o 89 (.call F.q4 [X.s 87, X.s 88]),
 X.m 86 89,
 X.o 90 (.extract (X.s 86) 0),
 X.o 91 (.extract (X.s 86) 1),
 X.m 16 90,
 X.m 17 91]
def C.bm : LO := C.bm_b
def C.bm_w := pO C.bm.eq_1
def C.br5 : ICode := .seq (.region C.bm) C.bsz
def C.br5_w := pC C.br5.eq_1
def C.bs0 : ICode := .keep [2, 3, 10, 11, 13, 14, 15] (.seq (.block 1 C.br5) C.bsy)
def C.bs0_w := pC C.bs0.eq_1
def C.bs2 : ICode := .keep [2, 3, 10, 11, 13, 14, 15, 83] (.cond (X.s 83) .skip (.exit 0))
def C.bs2_w := pC C.bs2.eq_1
def C.b6_b : LO := [
 X.m 73 15,
 X.o 74 (.fldAddr 4 (X.s 14)),
 X.o 75 (.load1 (X.s 74)),
 X.o 76 (.len (X.s 75)),
 X.o 77 (.bin .lss (X.s 73) (X.s 76)),
 X.m 78 77,
 X.t 78 79 (.move (X.s 15)),
 X.t 78 80 (.move (X.s 2)),
 X.t 78 81 (.len (X.s 80)),
 X.t 78 82 (.bin .lss (X.s 79) (X.s 81)),
 X.o 83 (.pick (X.s 78) (X.s 82) (.cst (.bool false)))]
def C.b6 : LO := C.b6_b
def C.b6_w := pO C.b6.eq_1
def C.cpd : ICode := .keep [2, 3, 10, 11, 13, 14, 15] (.seq (.seq (.region C.b6) C.bs2) C.bs0)
def C.cpd_w := pC C.cpd.eq_1
def C.br6 : ICode := .loop C.cpd
def C.br6_w := pC C.br6.eq_1
def C.bs3 : ICode := .keep [2, 3, 10, 11, 13, 14, 15] (.block 0 C.br6)
def C.bs3_w := pC C.bs3.eq_1
def C.gz_b : LO := [
 X.o 15 (.move (X.i 0))]
def C.gz : LO := C.gz_b
def C.gz_w := pO C.gz.eq_1
def C.bs4 : ICode := .keep [2, 3, 10, 11, 13, 14] (.seq (.seq (.region C.gz) C.bs3) C.bsx)
def C.bs4_w := pC C.bs4.eq_1
def C.d1_b : LO := [
 X.o 8 (.move (.cst (.bool false)))]
def C.d1 : LO := C.d1_b
def C.d1_w := pO C.d1.eq_1
def C.bs5 : ICode := .seq (.region C.d1) .ret
def C.bs5_w := pC C.bs5.eq_1
def C.bs6 : ICode := .keep [2, 3, 10, 11, 13, 14, 72] (.cond (X.s 72) C.bs5 .skip)
def C.bs6_w := pC C.bs6.eq_1
def C.d0_b : LO := [
 X.m 68 11,
 X.o 69 (.loadN 4 (X.s 10)),
 X.m 70 13,
 X.o 71 (.call F.q16 [X.s 68, X.s 69, X.s 70]),
 X.o 72 (.un .not (X.s 71))]
def C.d0 : LO := C.d0_b
def C.d0_w := pO C.d0.eq_1
def C.bs7 : ICode := .keep [2, 3, 10, 11, 13, 14] (.seq (.seq (.region C.d0) C.bs6) C.bs4)
def C.bs7_w := pC C.bs7.eq_1
def C.cx_b : LO := [
 X.o 63 (.fldAddr 3 (X.s 10)),
 X.o 64 (.load1 (X.s 63)),
 X.m 65 13,
 X.o 66 (.idxAddr 6 (X.s 64) (X.s 65)),
 X.o 67 (.loadN 6 (X.s 66)),
 X.o 14 (.alloc [.int .i64 0, .int .i64 0, .int .i64 0, .int .u32 0, .nils, .nils]),
 X.n (.storeN 6 (X.s 14) (X.s 67))]
def C.cx : LO := C.cx_b
def C.cx_w := pO C.cx.eq_1
def C.bnh : ICode := .keep [2, 3, 10, 11, 13] (.seq (.region C.cx) C.bs7)
def C.bnh_w := pC C.bnh.eq_1
def C.cw_b : LO := [
 X.m 58 1,
 X.o 59 (.fldAddr 3 (X.s 10)),
 X.o 60 (.load1 (X.s 59)),
 X.o 61 (.len (X.s 60)),
 X.o 62 (.call F.q14 [X.s 58, X.s 61]),
 X.m 13 62]
def C.cw : LO := C.cw_b
def C.cw_w := pO C.cw.eq_1
def C.bnj : ICode := .keep [1, 2, 3, 10, 11] (.seq (.region C.cw) C.bnh)
def C.bnj_w := pC C.bnj.eq_1
def C.dz_b : LO := [
 X.m 49 9,
 X.m 50 49,
 X.t 50 51 (.move (X.s 11)),
 X.t 50 52 (.eqP 0 true (X.s 51) (.cst (.nilp))),
 X.o 53 (.pick (X.s 50) (X.s 52) (.cst (.bool false))),
 X.m 54 53,
 X.t 54 55 (.move (X.s 12)),
 X.t 54 56 (.bin .eql (X.s 55) (X.i 0)),
 X.o 57 (.pick (X.s 54) (X.s 56) (.cst (.bool false))),
 X.m 8 57]
def C.dz : LO := C.dz_b
def C.dz_w := pO C.dz.eq_1
def C.bs9 : ICode := .seq (.region C.dz) .ret
def C.bs9_w := pC C.bs9.eq_1
def C.btb : ICode := .keep [1, 2, 3, 9, 10, 11, 12, 48] (.cond (X.s 48) C.bs9 .skip)
def C.btb_w := pC C.btb.eq_1
def C.dq_b : LO := [
 X.m 34 9,
 X.o 35 (.un .not (X.s 34)),
 X.m 36 35,
 X.f 36 37 (.move (X.s 11)),
 X.f 36 38 (.eqP 0 false (X.s 37) (.cst (.nilp))),
 X.o 39 (.pick (X.s 36) (.cst (.bool true)) (X.s 38)),
 X.m 40 39,
 X.f 40 41 (.move (X.s 12)),
 X.f 40 42 (.bin .neq (X.s 41) (X.i 0)),
 X.o 43 (.pick (X.s 40) (.cst (.bool true)) (X.s 42)),
 X.m 44 43,
 X.f 44 45 (.move (X.s 2)),
 X.f 44 46 (.len (X.s 45)),
 X.f 44 47 (.bin .gtr (X.s 46) (X.i 20)),
 X.o 48 (.pick (X.s 44) (.cst (.bool true)) (X.s 47))]
def C.dq : LO := C.dq_b
def C.dq_w := pO C.dq.eq_1
def C.btc : ICode := .keep [1, 2, 3, 9, 10, 11, 12] (.seq (.seq (.region C.dq) C.btb) C.bnj)
def C.btc_w := pC C.btc.eq_1
def C.g7_b : LO := [
 X.o 30 (.loadN 4 (X.s 10)),
 X.o 31 (.call F.q96 [X.s 30]),
 X.m 29 31,
 X.o 32 (.extract (X.s 29) 0),
 X.o 33 (.extract (X.s 29) 1),
 X.m 11 32,
 X.m 12 33]
def C.g7 : LO := C.g7_b
def C.g7_w := pO C.g7.eq_1
def C.btd : ICode := .keep [1, 2, 3, 9, 10] (.seq (.region C.g7) C.btc)
def C.btd_w := pC C.btd.eq_1
def C.cm_b : LO := [
 X.m 27 0,
 X.o 28 (.call F.q13 [X.s 27]),
 X.o 10 (.alloc [.nils, .nils, .nils, .nils]),
 X.n (.storeN 4 (X.s 10) (X.s 28))]
def C.cm : LO := C.cm_b
def C.cm_w := pO C.cm.eq_1
def C.btf : ICode := .keep [0, 1, 2, 3, 9] (.seq (.region C.cm) C.btd)
def C.btf_w := pC C.btf.eq_1
def C.gq_b : LO := [
 X.o 26 (.call F.q15 []),
 X.m 9 26]
def C.gq : LO := C.gq_b
def C.gq_w := pO C.gq.eq_1
def C.btg : ICode := .keep [0, 1, 2, 3] (.seq (.region C.gq) C.btf)
def C.btg_w := pC C.btg.eq_1
def C.gy_b : LO := [
 X.o 8 (.move (.cst (.bool false)))]
def C.gy : LO := C.gy_b
def C.gy_w := pO C.gy.eq_1
def C.q12 : IFunc := ⟨4, [.slot 8], .seq (.region C.gy) C.btg⟩
def C.q12_W := aI (aI (aI (aI (aI (aI @C.hc_w @C.br7_w) (aI @C.cs_w (aI @C.rh_w @C.cv_w))) (aI (aI @C.bss_w (aI @C.bs1_w @C.ct_w)) (aI @C.bs8_w (aI @C.cb_w @C.bth_w)))) (aI (aI (aI @C.b9_w (aI @C.btj_w @C.b8_w)) (aI @C.rl_w (aI @C.hb_w @C.btk_w))) (aI (aI @C.br8_w (aI @C.g9_w @C.br9_w)) (aI @C.g8_w (aI @C.br3_w @C.bsb_w))))) (aI (aI (aI (aI @C.bsc_w @C.g6_w) (aI @C.br4_w (aI @C.bsd_w @C.g5_w))) (aI (aI @C.bsf_w (aI @C.dy_w @C.bsg_w)) (aI @C.bsh_w (aI @C.dx_w @C.rj_w)))) (aI (aI (aI @C.cr_w (aI @C.bsj_w @C.bsk_w)) (aI @C.cp_w (aI @C.bsl_w @C.cn_w))) (aI (aI @C.rk_w (aI @C.g4_w @C.bsm_w)) (aI @C.bsn_w (aI @C.g3_w @C.bsp_w)))))) (aI (aI (aI (aI (aI @C.g2_w @C.bsr_w) (aI @C.g1_w (aI @C.bst_w @C.bsv_w))) (aI (aI @C.g0_w (aI @C.bsw_w @C.cl_w)) (aI @C.dw_w (aI @C.b7_w @C.bsx_w)))) (aI (aI (aI @C.bx_w (aI @C.bsy_w @C.by_w)) (aI @C.bsq_w (aI @C.br_w @C.bsz_w))) (aI (aI @C.bm_w (aI @C.br5_w @C.bs0_w)) (aI @C.bs2_w (aI @C.b6_w @C.br6_w))))) (aI (aI (aI (aI @C.bs3_w (aI @C.gz_w @C.bs4_w)) (aI @C.d1_w (aI @C.bs5_w @C.bs6_w))) (aI (aI @C.d0_w (aI @C.bs7_w @C.cx_w)) (aI @C.bnh_w (aI @C.cw_w @C.bnj_w)))) (aI (aI (aI @C.dz_w (aI @C.bs9_w @C.btb_w)) (aI @C.dq_w (aI @C.btc_w @C.g7_w))) (aI (aI @C.btd_w (aI @C.cm_w @C.btf_w)) (aI @C.gq_w (aI @C.btg_w @C.gy_w))))))
def C.q12_B := aI (aI (aI (aI (aI @C.hc_b.eq_1 @C.cs_b.eq_1) (aI @C.cv_b.eq_1 (aI @C.ct_b.eq_1 @C.cb_b.eq_1))) (aI (aI @C.b9_b.eq_1 @C.b8_b.eq_1) (aI @C.hb_b.eq_1 (aI @C.g9_b.eq_1 @C.g8_b.eq_1)))) (aI (aI (aI @C.g6_b.eq_1 @C.g5_b.eq_1) (aI @C.dy_b.eq_1 (aI @C.dx_b.eq_1 @C.cr_b.eq_1))) (aI (aI @C.cp_b.eq_1 @C.cn_b.eq_1) (aI @C.g4_b.eq_1 (aI @C.g3_b.eq_1 @C.g2_b.eq_1))))) (aI (aI (aI (aI @C.g1_b.eq_1 @C.g0_b.eq_1) (aI @C.cl_b.eq_1 (aI @C.b7_b.eq_1 @C.bx_b.eq_1))) (aI (aI @C.by_b.eq_1 @C.br_b.eq_1) (aI @C.bm_b.eq_1 (aI @C.b6_b.eq_1 @C.gz_b.eq_1)))) (aI (aI (aI @C.d1_b.eq_1 @C.d0_b.eq_1) (aI @C.cx_b.eq_1 (aI @C.cw_b.eq_1 @C.dz_b.eq_1))) (aI (aI @C.dq_b.eq_1 @C.g7_b.eq_1) (aI @C.cm_b.eq_1 (aI @C.gq_b.eq_1 @C.gy_b.eq_1)))))

def C.xr_b : LO := [
 X.m 28 2,
 X.o 29 (.call F.q81 [X.s 28, X.i 0]),
 X.o 30 (.un .not (X.s 29)),
 X.m 31 30,
 X.t 31 32 (.move (X.s 2)),
 X.t 31 33 (.call F.q92 [X.s 32, X.i 0]),
 X.t 31 34 (.bin .eql (X.s 33) (X.i 0)),
 X.o 35 (.pick (X.s 31) (X.s 34) (.cst (.bool false))),
 X.m 36 35,
 X.t 36 37 (.move (X.s 2)),
 X.t 36 38 (.call F.q90 [X.s 37, X.i 0]),
 X.o 39 (.pick (X.s 36) (X.s 38) (.cst (.bool false))),
 X.m 0 39]
def C.xr : LO := C.xr_b
def C.xr_w := pO C.xr.eq_1
def C.b8z : ICode := .keep [2] (.seq (.region C.xr) .ret)
def C.b8z_w := pC C.b8z.eq_1
def C.xp_b : LO := [
 X.m 26 2,
 X.o 27 (.call F.q91 [X.s 26, .cst (.int .u32 0)])]
def C.xp : LO := C.xp_b
def C.xp_w := pO C.xp.eq_1
def C.b80 : ICode := .keep [2] (.seq (.region C.xp) C.b8z)
def C.b80_w := pC C.b80.eq_1
def C.xn_b : LO := [
 X.o 0 (.move (.cst (.bool false)))]
def C.xn : LO := C.xn_b
def C.xn_w := pO C.xn.eq_1
def C.b81 : ICode := .seq (.region C.xn) .ret
def C.b81_w := pC C.b81.eq_1
def C.b82 : ICode := .keep [2, 25] (.cond (X.s 25) C.b81 .skip)
def C.b82_w := pC C.b82.eq_1
def C.xm_b : LO := [
 X.m 20 2,
 X.o 21 (.eqP 0 false (X.s 20) (.cst (.nilp))),
 X.m 22 21,
 X.f 22 23 (.move (X.s 3)),
 X.f 22 24 (.bin .neq (X.s 23) (X.i 0)),
 X.o 25 (.pick (X.s 22) (.cst (.bool true)) (X.s 24))]
def C.xm : LO := C.xm_b
def C.xm_w := pO C.xm.eq_1
def C.b83 : ICode := .keep [2, 3] (.seq (.seq (.region C.xm) C.b82) C.b80)
def C.b83_w := pC C.b83.eq_1
def C.xl_b : LO := [
 X.o 16 (.loadN 4 (X.s 1)),
 X.o 17 (.call F.q96 [X.s 16]),
 X.m 15 17,
 X.o 18 (.extract (X.s 15) 0),
 X.o 19 (.extract (X.s 15) 1),
 X.m 2 18,
 X.m 3 19]
def C.xl : LO := C.xl_b
def C.xl_w := pO C.xl.eq_1
def C.b84 : ICode := .keep [1] (.seq (.region C.xl) C.b83)
def C.b84_w := pC C.b84.eq_1
def C.cq_b : LO := [
 X.o 4 (.build [.int .u8 0, .nils, .int .u64 0, .int .i64 0, .int .i64 0, .int .i64 0] [(0, 1, .cst (.int .u8 111)), (2, 1, .cst (.int .u64 1))]),
 X.o 5 (.buildSlice 6 1 [.int .u8 0, .nils, .int .u64 0, .int .i64 0, .int .i64 0, .int .i64 0] [(0, 6, X.s 4)]),
 X.o 6 (.build [.int .i64 0, .int .i64 0, .bool false] [(0, 1, X.i (-1))]),
 X.o 7 (.buildSlice 3 1 [.int .i64 0, .int .i64 0, .bool false] [(0, 3, X.s 6)]),
 X.o 8 (.build [.int .i64 0] []),
 X.o 9 (.buildSlice 1 1 [.int .i64 0] [(0, 1, X.s 8)]),
 X.o 10 (.build [.int .u32 0, .bool false] [(0, 1, .cst (.int .u32 5))]),
 X.o 11 (.buildSlice 2 1 [.int .u32 0, .bool false] [(0, 2, X.s 10)]),
 X.o 12 (.build [.int .i64 0, .int .i64 0, .int .i64 0, .int .u32 0, .nils, .nils] [(4, 1, X.s 11)]),
 X.o 13 (.buildSlice 6 1 [.int .i64 0, .int .i64 0, .int .i64 0, .int .u32 0, .nils, .nils] [(0, 6, X.s 12)]),
 X.o 14 (.build [.nils, .nils, .nils, .nils] [(0, 1, X.s 5), (1, 1, X.s 7), (2, 1, X.s 9), (3, 1, X.s 13)]),
 X.o 1 (.alloc [.nils, .nils, .nils, .nils]),
 X.n (.storeN 4 (X.s 1) (X.s 14))]
def C.cq : LO := C.cq_b
def C.cq_w := pO C.cq.eq_1
def C.bnt : ICode := .keep [] (.seq (.region C.cq) C.b84)
def C.bnt_w := pC C.bnt.eq_1
def C.cy_b : LO := [
 X.o 0 (.move (.cst (.bool false)))]
def C.cy : LO := C.cy_b
def C.cy_w := pO C.cy.eq_1
def C.q15 : IFunc := ⟨0, [.slot 0], .seq (.region C.cy) C.bnt⟩
def C.q15_W := aI (aI (aI @C.xr_w (aI @C.b8z_w @C.xp_w)) (aI (aI @C.b80_w @C.xn_w) (aI @C.b81_w @C.b82_w))) (aI (aI @C.xm_w (aI @C.b83_w @C.xl_w)) (aI (aI @C.b84_w @C.cq_w) (aI @C.bnt_w @C.cy_w)))
def C.q15_B := aI (aI @C.xr_b.eq_1 (aI @C.xp_b.eq_1 @C.xn_b.eq_1)) (aI (aI @C.xm_b.eq_1 @C.xl_b.eq_1) (aI @C.cq_b.eq_1 @C.cy_b.eq_1))

def C.bg_b : LO := [
 X.o 351 (.loadN 4 (X.s 6)),
 X.n (.storeN 4 (X.s 2) (X.s 351))]
def C.bg : LO := C.bg_b
def C.bg_w := pO C.bg.eq_1
def C.bnk : ICode := .keep [2, 6] (.seq (.region C.bg) .ret)
def C.bnk_w := pC C.bnk.eq_1
def C.jc_b : LO := [
 X.m 224 14,
 X.o 225 (.bin .add (X.s 224) (X.i 1)),
 X.m 14 225]
def C.jc : LO := C.jc_b
def C.jc_w := pO C.jc.eq_1
def C.bt6 : ICode := .keep [2, 4, 6, 14] (.region C.jc)
def C.bt6_w := pC C.bt6.eq_1
def C.jr_b : LO := [
 X.o 345 (.fldAddr 3 (X.s 6)),
 X.o 346 (.load1 (X.s 345)),
 X.o 347 (.loadN 6 (X.s 16)),
 X.o 348 (.buildSlice 6 1 [.int .i64 0, .int .i64 0, .int .i64 0, .int .u32 0, .nils, .nils] [(0, 6, X.s 347)]),
 X.o 349 (.append 6 80 (X.s 346) (X.s 348)),
 X.o 350 (.fldAddr 3 (X.s 6)),
 X.n (.store1 (X.s 350) (X.s 349))]
def C.jr : LO := C.jr_b
def C.jr_w := pO C.jr.eq_1
def C.bvb : ICode := .keep [2, 4, 6, 14, 16] (.region C.jr)
def C.bvb_w := pC C.bvb.eq_1
def C.jp_b : LO := [
 X.o 332 (.fldAddr 5 (X.s 16)),
 X.o 333 (.load1 (X.s 332)),
 X.m 334 4,
 X.m 335 15,
 X.o 336 (.bin .add (X.s 335) (X.i 11)),
 X.o 337 (.idxAddr 1 (X.s 334) (X.s 336)),
 X.o 338 (.load1 (X.s 337)),
 X.o 339 (.bin .quo (X.s 338) (X.i 3)),
 X.m 340 14,
 X.o 341 (.bin .rem (X.s 339) (X.s 340)),
 X.o 342 (.buildSlice 1 1 [.int .i64 0] [(0, 1, X.s 341)]),
 X.o 343 (.append 1 8 (X.s 333) (X.s 342)),
 X.o 344 (.fldAddr 5 (X.s 16)),
 X.n (.store1 (X.s 344) (X.s 343))]
def C.jp : LO := C.jp_b
def C.jp_w := pO C.jp.eq_1
def C.bvj : ICode := .keep [2, 4, 6, 14, 15, 16, 331] (.cond (X.s 331) (.region C.jp) .skip)
def C.bvj_w := pC C.bvj.eq_1
def C.jn_b : LO := [
 X.m 321 14,
 X.o 322 (.bin .gtr (X.s 321) (X.i 1)),
 X.m 323 322,
 X.t 323 324 (.move (X.s 4)),
 X.t 323 325 (.move (X.s 15)),
 X.t 323 326 (.bin .add (X.s 325) (X.i 11)),
 X.t 323 327 (.idxAddr 1 (X.s 324) (X.s 326)),
 X.t 323 328 (.load1 (X.s 327)),
 X.t 323 329 (.bin .rem (X.s 328) (X.i 3)),
 X.t 323 330 (.bin .eql (X.s 329) (X.i 1)),
 X.o 331 (.pick (X.s 323) (X.s 330) (.cst (.bool false)))]
def C.jn : LO := C.jn_b
def C.jn_w := pO C.jn.eq_1
def C.bvv : ICode := .keep [2, 4, 6, 14, 15, 16] (.seq (.seq (.region C.jn) C.bvj) C.bvb)
def C.bvv_w := pC C.bvv.eq_1
def C.jm_b : LO := [
 X.o 309 (.fldAddr 5 (X.s 16)),
 X.o 310 (.load1 (X.s 309)),
 X.m 311 4,
 X.m 312 15,
 X.o 313 (.bin .add (X.s 312) (X.i 10)),
 X.o 314 (.idxAddr 1 (X.s 311) (X.s 313)),
 X.o 315 (.load1 (X.s 314)),
 X.m 316 14,
 X.o 317 (.bin .rem (X.s 315) (X.s 316)),
 X.o 318 (.buildSlice 1 1 [.int .i64 0] [(0, 1, X.s 317)]),
 X.o 319 (.append 1 8 (X.s 310) (X.s 318)),
 X.o 320 (.fldAddr 5 (X.s 16)),
 X.n (.store1 (X.s 320) (X.s 319))]
def C.jm : LO := C.jm_b
def C.jm_w := pO C.jm.eq_1
def C.bv1 : ICode := .keep [2, 4, 6, 14, 15, 16, 308] (.cond (X.s 308) (.region C.jm) .skip)
def C.bv1_w := pC C.bv1.eq_1
def C.jl_b : LO := [
 X.m 298 14,
 X.o 299 (.bin .gtr (X.s 298) (X.i 0)),
 X.m 300 299,
 X.t 300 301 (.move (X.s 4)),
 X.t 300 302 (.move (X.s 15)),
 X.t 300 303 (.bin .add (X.s 302) (X.i 9)),
 X.t 300 304 (.idxAddr 1 (X.s 301) (X.s 303)),
 X.t 300 305 (.load1 (X.s 304)),
 X.t 300 306 (.bin .rem (X.s 305) (X.i 2)),
 X.t 300 307 (.bin .eql (X.s 306) (X.i 1)),
 X.o 308 (.pick (X.s 300) (X.s 307) (.cst (.bool false)))]
def C.jl : LO := C.jl_b
def C.jl_w := pO C.jl.eq_1
def C.bv7 : ICode := .keep [2, 4, 6, 14, 15, 16] (.seq (.seq (.region C.jl) C.bv1) C.bvv)
def C.bv7_w := pC C.bv7.eq_1
def C.jj_b : LO := [
 X.m 271 17,
 X.o 272 (.bin .add (X.s 271) (X.i 1)),
 X.m 17 272]
def C.jj : LO := C.jj_b
def C.jj_w := pO C.jj.eq_1
def C.bwf : ICode := .keep [2, 4, 6, 14, 15, 16, 17] (.region C.jj)
def C.bwf_w := pC C.bwf.eq_1
def C.jk_b : LO := [
 X.o 273 (.fldAddr 4 (X.s 16)),
 X.o 274 (.load1 (X.s 273)),
 X.m 275 4,
 X.m 276 15,
 X.o 277 (.bin .add (X.s 276) (X.i 5)),
 X.m 278 17,
 X.o 279 (.bin .add (X.s 277) (X.s 278)),
 X.o 280 (.idxAddr 1 (X.s 275) (X.s 279)),
 X.o 281 (.load1 (X.s 280)),
 X.o 282 (.bin .rem (X.s 281) (X.i 7)),
 X.o 283 (.conv .u32 (X.s 282)),
 X.m 284 4,
 X.m 285 15,
 X.o 286 (.bin .add (X.s 285) (X.i 5)),
 X.m 287 17,
 X.o 288 (.bin .add (X.s 286) (X.s 287)),
 X.o 289 (.idxAddr 1 (X.s 284) (X.s 288)),
 X.o 290 (.load1 (X.s 289)),
 X.o 291 (.bin .quo (X.s 290) (X.i 7)),
 X.o 292 (.bin .rem (X.s 291) (X.i 2)),
 X.o 293 (.bin .eql (X.s 292) (X.i 0)),
 X.o 294 (.build [.int .u32 0, .bool false] [(0, 1, X.s 283), (1, 1, X.s 293)]),
 X.o 295 (.buildSlice 2 1 [.int .u32 0, .bool false] [(0, 2, X.s 294)]),
 X.o 296 (.append 2 8 (X.s 274) (X.s 295)),
 X.o 297 (.fldAddr 4 (X.s 16)),
 X.n (.store1 (X.s 297) (X.s 296))]
def C.jk : LO := C.jk_b
def C.jk_w := pO C.jk.eq_1
def C.btz : ICode := .region C.jk
def C.btz_w := pC C.btz.eq_1
def C.bt0 : ICode := .keep [2, 4, 6, 14, 15, 16, 17] (.seq (.block 12 C.btz) C.bwf)
def C.bt0_w := pC C.bt0.eq_1
def C.bt1 : ICode := .keep [2, 4, 6, 14, 15, 16, 17, 270] (.cond (X.s 270) .skip (.exit 11))
def C.bt1_w := pC C.bt1.eq_1
def C.jh_b : LO := [
 X.m 263 17,
 X.m 264 4,
 X.m 265 15,
 X.o 266 (.bin .add (X.s 265) (X.i 4)),
 X.o 267 (.idxAddr 1 (X.s 264) (X.s 266)),
 X.o 268 (.load1 (X.s 267)),
 X.o 269 (.bin .rem (X.s 268) (X.i 5)),
 X.o 270 (.bin .lss (X.s 263) (X.s 269))]
def C.jh : LO := C.jh_b
def C.jh_w := pO C.jh.eq_1
def C.cpf : ICode := .keep [2, 4, 6, 14, 15, 16, 17] (.seq (.seq (.region C.jh) C.bt1) C.bt0)
def C.cpf_w := pC C.cpf.eq_1
def C.btl : ICode := .loop C.cpf
def C.btl_w := pC C.btl.eq_1
def C.bt2 : ICode := .keep [2, 4, 6, 14, 15, 16, 17] (.block 11 C.btl)
def C.bt2_w := pC C.bt2.eq_1
def C.jg_b : LO := [
 X.o 17 (.move (X.i 0))]
def C.jg : LO := C.jg_b
def C.jg_w := pO C.jg.eq_1
def C.bt3 : ICode := .keep [2, 4, 6, 14, 15, 16] (.seq (.seq (.region C.jg) C.bt2) C.bv7)
def C.bt3_w := pC C.bt3.eq_1
def C.bh_b : LO := [
 X.m 229 4,
 X.m 230 15,
 X.o 231 (.idxAddr 1 (X.s 229) (X.s 230)),
 X.o 232 (.load1 (X.s 231)),
 X.o 233 (.fldAddr 0 (X.s 6)),
 X.o 234 (.load1 (X.s 233)),
 X.o 235 (.len (X.s 234)),
 X.o 236 (.bin .rem (X.s 232) (X.s 235)),
 X.m 237 4,
 X.m 238 15,
 X.o 239 (.bin .add (X.s 238) (X.i 1)),
 X.o 240 (.idxAddr 1 (X.s 237) (X.s 239)),
 X.o 241 (.load1 (X.s 240)),
 X.o 242 (.fldAddr 1 (X.s 6)),
 X.o 243 (.load1 (X.s 242)),
 X.o 244 (.len (X.s 243)),
 X.o 245 (.bin .rem (X.s 241) (X.s 244)),
 X.m 246 4,
 X.m 247 15,
 X.o 248 (.bin .add (X.s 247) (X.i 2)),
 X.o 249 (.idxAddr 1 (X.s 246) (X.s 248)),
 X.o 250 (.load1 (X.s 249)),
 X.o 251 (.fldAddr 2 (X.s 6)),
 X.o 252 (.load1 (X.s 251)),
 X.o 253 (.len (X.s 252)),
 X.o 254 (.bin .rem (X.s 250) (X.s 253)),
 X.m 255 4,
 X.m 256 15,
 X.o 257 (.bin .add (X.s 256) (X.i 3)),
 X.o 258 (.idxAddr 1 (X.s 255) (X.s 257)),
 X.o 259 (.load1 (X.s 258)),
 X.o 260 (.bin .rem (X.s 259) (X.i 3)),
 X.o 261 (.conv .u32 (X.s 260)),
 X.o 262 (.build [.int .i64 0, .int .i64 0, .int .i64 0, .int .u32 0, .nils, .nils] [(0, 1, X.s 236), (1, 1, X.s 245), (2, 1, X.s 254), (3, 1, X.s 261)]),
 X.o 16 (.alloc [.int .i64 0, .int .i64 0, .int .i64 0, .int .u32 0, .nils, .nils]),
 X.n (.storeN 6 (X.s 16) (X.s 262))]
def C.bh : LO := C.bh_b
def C.bh_w := pO C.bh.eq_1
def C.bt4 : ICode := .keep [2, 4, 6, 14, 15] (.seq (.region C.bh) C.bt3)
def C.bt4_w := pC C.bt4.eq_1
def C.jd_b : LO := [
 X.m 226 14,
 X.o 227 (.bin .mul (X.i 12) (X.s 226)),
 X.o 228 (.bin .add (X.i 60) (X.s 227)),
 X.m 15 228]
def C.jd : LO := C.jd_b
def C.jd_w := pO C.jd.eq_1
def C.btm : ICode := .seq (.region C.jd) C.bt4
def C.btm_w := pC C.btm.eq_1
def C.w9 : ICode := .keep [2, 4, 6, 14] (.seq (.block 10 C.btm) C.bt6)
def C.w9_w := pC C.w9.eq_1
def C.bt5 : ICode := .keep [2, 4, 6, 14, 223] (.cond (X.s 223) .skip (.exit 9))
def C.bt5_w := pC C.bt5.eq_1
def C.jb_b : LO := [
 X.m 217 14,
 X.m 218 4,
 X.o 219 (.idxAddr 1 (X.s 218) (X.i 4)),
 X.o 220 (.load1 (X.s 219)),
 X.o 221 (.bin .rem (X.s 220) (X.i 4)),
 X.o 222 (.bin .add (X.i 1) (X.s 221)),
 X.o 223 (.bin .lss (X.s 217) (X.s 222))]
def C.jb : LO := C.jb_b
def C.jb_w := pO C.jb.eq_1
def C.cpg : ICode := .keep [2, 4, 6, 14] (.seq (.seq (.region C.jb) C.bt5) C.w9)
def C.cpg_w := pC C.cpg.eq_1
def C.btn : ICode := .loop C.cpg
def C.btn_w := pC C.btn.eq_1
def C.bt7 : ICode := .keep [2, 4, 6, 14] (.block 9 C.btn)
def C.bt7_w := pC C.bt7.eq_1
def C.h9_b : LO := [
 X.o 14 (.move (X.i 0))]
def C.h9 : LO := C.h9_b
def C.h9_w := pO C.h9.eq_1
def C.bnl : ICode := .keep [2, 4, 6] (.seq (.seq (.region C.h9) C.bt7) C.bnk)
def C.bnl_w := pC C.bnl.eq_1
def C.h7_b : LO := [
 X.m 203 13,
 X.o 204 (.bin .add (X.s 203) (X.i 1)),
 X.m 13 204]
def C.h7 : LO := C.h7_b
def C.h7_w := pO C.h7.eq_1
def C.bt8 : ICode := .keep [2, 4, 6, 13] (.region C.h7)
def C.bt8_w := pC C.bt8.eq_1
def C.h8_b : LO := [
 X.o 205 (.fldAddr 2 (X.s 6)),
 X.o 206 (.load1 (X.s 205)),
 X.m 207 4,
 X.m 208 13,
 X.o 209 (.bin .add (X.i 50) (X.s 208)),
 X.o 210 (.idxAddr 1 (X.s 207) (X.s 209)),
 X.o 211 (.load1 (X.s 210)),
 X.o 212 (.bin .rem (X.s 211) (X.i 4)),
 X.o 213 (.build [.int .i64 0] [(0, 1, X.s 212)]),
 X.o 214 (.buildSlice 1 1 [.int .i64 0] [(0, 1, X.s 213)]),
 X.o 215 (.append 1 8 (X.s 206) (X.s 214)),
 X.o 216 (.fldAddr 2 (X.s 6)),
 X.n (.store1 (X.s 216) (X.s 215))]
def C.h8 : LO := C.h8_b
def C.h8_w := pO C.h8.eq_1
def C.btp : ICode := .region C.h8
def C.btp_w := pC C.btp.eq_1
def C.xb : ICode := .keep [2, 4, 6, 13] (.seq (.block 8 C.btp) C.bt8)
def C.xb_w := pC C.xb.eq_1
def C.bt9 : ICode := .keep [2, 4, 6, 13, 202] (.cond (X.s 202) .skip (.exit 7))
def C.bt9_w := pC C.bt9.eq_1
def C.h6_b : LO := [
 X.m 196 13,
 X.m 197 4,
 X.o 198 (.idxAddr 1 (X.s 197) (X.i 3)),
 X.o 199 (.load1 (X.s 198)),
 X.o 200 (.bin .rem (X.s 199) (X.i 3)),
 X.o 201 (.bin .add (X.i 1) (X.s 200)),
 X.o 202 (.bin .lss (X.s 196) (X.s 201))]
def C.h6 : LO := C.h6_b
def C.h6_w := pO C.h6.eq_1
def C.cph : ICode := .keep [2, 4, 6, 13] (.seq (.seq (.region C.h6) C.bt9) C.xb)
def C.cph_w := pC C.cph.eq_1
def C.btr : ICode := .loop C.cph
def C.btr_w := pC C.btr.eq_1
def C.bvc : ICode := .keep [2, 4, 6, 13] (.block 7 C.btr)
def C.bvc_w := pC C.bvc.eq_1
def C.h5_b : LO := [
 X.o 13 (.move (X.i 0))]
def C.h5 : LO := C.h5_b
def C.h5_w := pO C.h5.eq_1
def C.bnm : ICode := .keep [2, 4, 6] (.seq (.seq (.region C.h5) C.bvc) C.bnl)
def C.bnm_w := pC C.bnm.eq_1
def C.hz_b : LO := [
 X.m 153 11,
 X.o 154 (.bin .add (X.s 153) (X.i 1)),
 X.m 11 154]
def C.hz : LO := C.hz_b
def C.hz_w := pO C.hz.eq_1
def C.bvd : ICode := .keep [2, 4, 6, 11] (.region C.hz)
def C.bvd_w := pC C.bvd.eq_1
def C.h4_b : LO := [
 X.o 190 (.fldAddr 1 (X.s 6)),
 X.o 191 (.load1 (X.s 190)),
 X.o 192 (.loadN 3 (X.s 12)),
 X.o 193 (.buildSlice 3 1 [.int .i64 0, .int .i64 0, .bool false] [(0, 3, X.s 192)]),
 X.o 194 (.append 3 24 (X.s 191) (X.s 193)),
 X.o 195 (.fldAddr 1 (X.s 6)),
 X.n (.store1 (X.s 195) (X.s 194))]
def C.h4 : LO := C.h4_b
def C.h4_w := pO C.h4.eq_1
def C.bvf : ICode := .keep [2, 4, 6, 11, 12] (.region C.h4)
def C.bvf_w := pC C.bvf.eq_1
def C.h3_b : LO := [
 X.m 181 4,
 X.m 182 11,
 X.o 183 (.bin .add (X.i 44) (X.s 182)),
 X.o 184 (.idxAddr 1 (X.s 181) (X.s 183)),
 X.o 185 (.load1 (X.s 184)),
 X.o 186 (.bin .quo (X.s 185) (X.i 3)),
 X.m 187 11,
 X.o 188 (.bin .rem (X.s 186) (X.s 187)),
 X.o 189 (.fldAddr 0 (X.s 12)),
 X.n (.store1 (X.s 189) (X.s 188))]
def C.h3 : LO := C.h3_b
def C.h3_w := pO C.h3.eq_1
def C.bvg : ICode := .keep [2, 4, 6, 11, 12, 180] (.cond (X.s 180) (.region C.h3) .skip)
def C.bvg_w := pC C.bvg.eq_1
def C.h1_b : LO := [
 X.m 170 11,
 X.o 171 (.bin .gtr (X.s 170) (X.i 0)),
 X.m 172 171,
 X.t 172 173 (.move (X.s 4)),
 X.t 172 174 (.move (X.s 11)),
 X.t 172 175 (.bin .add (X.i 44) (X.s 174)),
 X.t 172 176 (.idxAddr 1 (X.s 173) (X.s 175)),
 X.t 172 177 (.load1 (X.s 176)),
 X.t 172 178 (.bin .rem (X.s 177) (X.i 3)),
 X.t 172 179 (.bin .gtr (X.s 178) (X.i 0)),
 X.o 180 (.pick (X.s 172) (X.s 179) (.cst (.bool false)))]
def C.h1 : LO := C.h1_b
def C.h1_w := pO C.h1.eq_1
def C.bnn : ICode := .keep [2, 4, 6, 11, 12] (.seq (.seq (.region C.h1) C.bvg) C.bvf)
def C.bnn_w := pC C.bnn.eq_1
def C.h0_b : LO := [
 X.m 155 4,
 X.m 156 11,
 X.o 157 (.bin .add (X.i 40) (X.s 156)),
 X.o 158 (.idxAddr 1 (X.s 155) (X.s 157)),
 X.o 159 (.load1 (X.s 158)),
 X.o 160 (.bin .rem (X.s 159) (X.i 4)),
 X.m 161 4,
 X.m 162 11,
 X.o 163 (.bin .add (X.i 40) (X.s 162)),
 X.o 164 (.idxAddr 1 (X.s 161) (X.s 163)),
 X.o 165 (.load1 (X.s 164)),
 X.o 166 (.bin .quo (X.s 165) (X.i 4)),
 X.o 167 (.bin .rem (X.s 166) (X.i 2)),
 X.o 168 (.bin .eql (X.s 167) (X.i 1)),
 X.o 169 (.build [.int .i64 0, .int .i64 0, .bool false] [(0, 1, X.i (-1)), (1, 1, X.s 160), (2, 1, X.s 168)]),
 X.o 12 (.alloc [.int .i64 0, .int .i64 0, .bool false]),
 X.n (.storeN 3 (X.s 12) (X.s 169))]
def C.h0 : LO := C.h0_b
def C.h0_w := pO C.h0.eq_1
def C.bts : ICode := .seq (.region C.h0) C.bnn
def C.bts_w := pC C.bts.eq_1
def C.xc : ICode := .keep [2, 4, 6, 11] (.seq (.block 6 C.bts) C.bvd)
def C.xc_w := pC C.xc.eq_1
def C.bvh : ICode := .keep [2, 4, 6, 11, 152] (.cond (X.s 152) .skip (.exit 5))
def C.bvh_w := pC C.bvh.eq_1
def C.hq_b : LO := [
 X.m 146 11,
 X.m 147 4,
 X.o 148 (.idxAddr 1 (X.s 147) (X.i 2)),
 X.o 149 (.load1 (X.s 148)),
 X.o 150 (.bin .rem (X.s 149) (X.i 4)),
 X.o 151 (.bin .add (X.i 1) (X.s 150)),
 X.o 152 (.bin .lss (X.s 146) (X.s 151))]
def C.hq : LO := C.hq_b
def C.hq_w := pO C.hq.eq_1
def C.cpj : ICode := .keep [2, 4, 6, 11] (.seq (.seq (.region C.hq) C.bvh) C.xc)
def C.cpj_w := pC C.cpj.eq_1
def C.btt : ICode := .loop C.cpj
def C.btt_w := pC C.btt.eq_1
def C.bvk : ICode := .keep [2, 4, 6, 11] (.block 5 C.btt)
def C.bvk_w := pC C.bvk.eq_1
def C.hy_b : LO := [
 X.o 11 (.move (X.i 0))]
def C.hy : LO := C.hy_b
def C.hy_w := pO C.hy.eq_1
def C.bnp : ICode := .keep [2, 4, 6] (.seq (.seq (.region C.hy) C.bvk) C.bnm)
def C.bnp_w := pC C.bnp.eq_1
def C.hh_b : LO := [
 X.m 62 8,
 X.o 63 (.bin .add (X.s 62) (X.i 1)),
 X.m 8 63]
def C.hh : LO := C.hh_b
def C.hh_w := pO C.hh.eq_1
def C.bvl : ICode := .keep [2, 3, 4, 6, 7, 8] (.region C.hh)
def C.bvl_w := pC C.bvl.eq_1
def C.hx_b : LO := [
 X.o 140 (.fldAddr 0 (X.s 6)),
 X.o 141 (.load1 (X.s 140)),
 X.o 142 (.loadN 6 (X.s 10)),
 X.o 143 (.buildSlice 6 1 [.int .u8 0, .nils, .int .u64 0, .int .i64 0, .int .i64 0, .int .i64 0] [(0, 6, X.s 142)]),
 X.o 144 (.append 6 64 (X.s 141) (X.s 143)),
 X.o 145 (.fldAddr 0 (X.s 6)),
 X.n (.store1 (X.s 145) (X.s 144))]
def C.hx : LO := C.hx_b
def C.hx_w := pO C.hx.eq_1
def C.bvm : ICode := .keep [2, 3, 4, 6, 7, 8, 10] (.region C.hx)
def C.bvm_w := pC C.bvm.eq_1
def C.hp_b : LO := [
 X.m 106 4,
 X.m 107 9,
 X.o 108 (.bin .add (X.s 107) (X.i 2)),
 X.o 109 (.idxAddr 1 (X.s 106) (X.s 108)),
 X.o 110 (.load1 (X.s 109)),
 X.o 111 (.bin .quo (X.s 110) (X.i 32)),
 X.o 112 (.bin .rem (X.s 111) (X.i 4)),
 X.o 113 (.fldAddr 5 (X.s 10)),
 X.n (.store1 (X.s 113) (X.s 112))]
def C.hp : LO := C.hp_b
def C.hp_w := pO C.hp.eq_1
def C.bvn : ICode := .keep [2, 3, 4, 6, 7, 8, 9, 10] (.region C.hp)
def C.bvn_w := pC C.bvn.eq_1
def C.hn_b : LO := [
 X.m 97 4,
 X.m 98 9,
 X.o 99 (.bin .add (X.s 98) (X.i 2)),
 X.o 100 (.idxAddr 1 (X.s 97) (X.s 99)),
 X.o 101 (.load1 (X.s 100)),
 X.o 102 (.bin .quo (X.s 101) (X.i 8)),
 X.o 103 (.bin .rem (X.s 102) (X.i 4)),
 X.o 104 (.bin .add (X.i 1) (X.s 103)),
 X.o 105 (.fldAddr 4 (X.s 10)),
 X.n (.store1 (X.s 105) (X.s 104))]
def C.hn : LO := C.hn_b
def C.hn_w := pO C.hn.eq_1
def C.bvp : ICode := .keep [2, 3, 4, 6, 7, 8, 9, 10] (.seq (.region C.hn) C.bvn)
def C.bvp_w := pC C.bvp.eq_1
def C.hm_b : LO := [
 X.m 89 4,
 X.m 90 9,
 X.o 91 (.bin .add (X.s 90) (X.i 2)),
 X.o 92 (.idxAddr 1 (X.s 89) (X.s 91)),
 X.o 93 (.load1 (X.s 92)),
 X.o 94 (.bin .rem (X.s 93) (X.i 8)),
 X.o 95 (.bin .add (X.i 1) (X.s 94)),
 X.o 96 (.fldAddr 3 (X.s 10)),
 X.n (.store1 (X.s 96) (X.s 95))]
def C.hm : LO := C.hm_b
def C.hm_w := pO C.hm.eq_1
def C.ht_b : LO := [
 X.m 116 4,
 X.m 117 9,
 X.o 118 (.bin .add (X.s 117) (X.i 2)),
 X.o 119 (.idxAddr 1 (X.s 116) (X.s 118)),
 X.o 120 (.load1 (X.s 119)),
 X.o 121 (.bin .rem (X.s 120) (X.i 8)),
 X.o 122 (.bin .add (X.i 1) (X.s 121)),
 X.o 123 (.fldAddr 4 (X.s 10)),
 X.n (.store1 (X.s 123) (X.s 122))]
def C.ht : LO := C.ht_b
def C.ht_w := pO C.ht.eq_1
def C.hw_b : LO := [
 X.o 126 (.fldAddr 1 (X.s 10)),
 X.o 127 (.load1 (X.s 126)),
 X.m 128 4,
 X.m 129 9,
 X.o 130 (.bin .add (X.s 129) (X.i 2)),
 X.o 131 (.idxAddr 1 (X.s 128) (X.s 130)),
 X.o 132 (.load1 (X.s 131)),
 X.o 133 (.fldAddr 0 (X.s 6)),
 X.o 134 (.load1 (X.s 133)),
 X.o 135 (.len (X.s 134)),
 X.o 136 (.bin .rem (X.s 132) (X.s 135)),
 X.o 137 (.buildSlice 1 1 [.int .i64 0] [(0, 1, X.s 136)]),
 X.o 138 (.append 1 8 (X.s 127) (X.s 137)),
 X.o 139 (.fldAddr 1 (X.s 10)),
 X.n (.store1 (X.s 139) (X.s 138))]
def C.hw : LO := C.hw_b
def C.hw_w := pO C.hw.eq_1
def C.bvr : ICode := .keep [2, 3, 4, 6, 7, 8, 9, 10, 124] (.cond (X.s 124) (.region C.hw) .skip)
def C.bvr_w := pC C.bvr.eq_1
def C.hv_b : LO := [
 X.o 125 (.bin .eql (X.s 86) (.cst (.int .u8 109))),
 X.m 124 125]
def C.hv : LO := C.hv_b
def C.hv_w := pO C.hv.eq_1
def C.bvs : ICode := .seq (.region C.hv) C.bvr
def C.bvs_w := pC C.bvs.eq_1
def C.bvt : ICode := .keep [2, 3, 4, 6, 7, 8, 9, 10, 86, 114] (.cond (X.s 114) (.region C.ht) C.bvs)
def C.bvt_w := pC C.bvt.eq_1
def C.hs_b : LO := [
 X.o 115 (.bin .eql (X.s 86) (.cst (.int .u8 100))),
 X.m 114 115]
def C.hs : LO := C.hs_b
def C.hs_w := pO C.hs.eq_1
def C.bvw : ICode := .seq (.region C.hm) C.bvp
def C.bvw_w := pC C.bvw.eq_1
def C.bvx : ICode := .seq (.region C.hs) C.bvt
def C.bvx_w := pC C.bvx.eq_1
def C.bvy : ICode := .keep [2, 3, 4, 6, 7, 8, 9, 10, 86, 87] (.cond (X.s 87) C.bvw C.bvx)
def C.bvy_w := pC C.bvy.eq_1
def C.hl_b : LO := [
 X.o 88 (.bin .eql (X.s 86) (.cst (.int .u8 112))),
 X.m 87 88]
def C.hl : LO := C.hl_b
def C.hl_w := pO C.hl.eq_1
def C.btv : ICode := .seq (.region C.hl) C.bvy
def C.btv_w := pC C.btv.eq_1
def C.bvq : ICode := .keep [2, 3, 4, 6, 7, 8, 9, 10, 86] (.block 4 C.btv)
def C.bvq_w := pC C.bvq.eq_1
def C.hk_b : LO := [
 X.o 85 (.fldAddr 0 (X.s 10)),
 X.o 86 (.load1 (X.s 85))]
def C.hk : LO := C.hk_b
def C.hk_w := pO C.hk.eq_1
def C.bnr : ICode := .keep [2, 3, 4, 6, 7, 8, 9, 10] (.seq (.seq (.region C.hk) C.bvq) C.bvm)
def C.bnr_w := pC C.bnr.eq_1
def C.bf_b : LO := [
 X.m 67 7,
 X.m 68 4,
 X.m 69 9,
 X.o 70 (.idxAddr 1 (X.s 68) (X.s 69)),
 X.o 71 (.load1 (X.s 70)),
 X.o 72 (.bin .rem (X.s 71) (X.i 5)),
 X.o 73 (.strIdx (X.s 67) (X.s 72)),
 X.m 74 4,
 X.m 75 9,
 X.o 76 (.bin .add (X.s 75) (X.i 1)),
 X.o 77 (.idxAddr 1 (X.s 74) (X.s 76)),
 X.o 78 (.load1 (X.s 77)),
 X.o 79 (.fldAddr 0 (X.s 6)),
 X.o 80 (.load1 (X.s 79)),
 X.o 81 (.len (X.s 80)),
 X.o 82 (.bin .rem (X.s 78) (X.s 81)),
 X.o 83 (.buildSlice 1 1 [.int .i64 0] [(0, 1, X.s 82)]),
 X.o 84 (.build [.int .u8 0, .nils, .int .u64 0, .int .i64 0, .int .i64 0, .int .i64 0] [(0, 1, X.s 73), (1, 1, X.s 83)]),
 X.o 10 (.alloc [.int .u8 0, .nils, .int .u64 0, .int .i64 0, .int .i64 0, .int .i64 0]),
 X.n (.storeN 6 (X.s 10) (X.s 84))]
def C.bf : LO := C.bf_b
def C.bf_w := pO C.bf.eq_1
def C.bvz : ICode := .keep [2, 3, 4, 6, 7, 8, 9] (.seq (.region C.bf) C.bnr)
def C.bvz_w := pC C.bvz.eq_1
def C.hj_b : LO := [
 X.m 64 8,
 X.o 65 (.bin .mul (X.i 3) (X.s 64)),
 X.o 66 (.bin .add (X.i 10) (X.s 65)),
 X.m 9 66]
def C.hj : LO := C.hj_b
def C.hj_w := pO C.hj.eq_1
def C.btw : ICode := .seq (.region C.hj) C.bvz
def C.btw_w := pC C.btw.eq_1
def C.xd : ICode := .keep [2, 3, 4, 6, 7, 8] (.seq (.block 3 C.btw) C.bvl)
def C.xd_w := pC C.xd.eq_1
def C.bv0 : ICode := .keep [2, 3, 4, 6, 7, 8, 61] (.cond (X.s 61) .skip (.exit 2))
def C.bv0_w := pC C.bv0.eq_1
def C.hg_b : LO := [
 X.m 55 8,
 X.m 56 4,
 X.m 57 3,
 X.o 58 (.idxAddr 1 (X.s 56) (X.s 57)),
 X.o 59 (.load1 (X.s 58)),
 X.o 60 (.bin .rem (X.s 59) (X.i 9)),
 X.o 61 (.bin .lss (X.s 55) (X.s 60))]
def C.hg : LO := C.hg_b
def C.hg_w := pO C.hg.eq_1
def C.cpk : ICode := .keep [2, 3, 4, 6, 7, 8] (.seq (.seq (.region C.hg) C.bv0) C.xd)
def C.cpk_w := pC C.cpk.eq_1
def C.btx : ICode := .loop C.cpk
def C.btx_w := pC C.btx.eq_1
def C.bv2 : ICode := .keep [2, 3, 4, 6, 7, 8] (.block 2 C.btx)
def C.bv2_w := pC C.bv2.eq_1
def C.hf_b : LO := [
 X.o 8 (.move (X.i 0))]
def C.hf : LO := C.hf_b
def C.hf_w := pO C.hf.eq_1
def C.bv3 : ICode := .keep [2, 3, 4, 6, 7] (.seq (.seq (.region C.hf) C.bv2) C.bnp)
def C.bv3_w := pC C.bv3.eq_1
def C.jx_b : LO := [
 X.o 7 (.move (.cst (.str [112, 100, 103, 109, 103])))]
def C.jx : LO := C.jx_b
def C.jx_w := pO C.jx.eq_1
def C.bv4 : ICode := .keep [2, 3, 4, 6] (.seq (.region C.jx) C.bv3)
def C.bv4_w := pC C.bv4.eq_1
def C.jw_b : LO := [
 X.o 3 (.move (X.i 1))]
def C.jw : LO := C.jw_b
def C.jw_w := pO C.jw.eq_1
def C.xf : ICode := .keep [2, 4, 6] (.seq (.region C.jw) C.bv4)
def C.xf_w := pC C.xf.eq_1
def C.jv_b : LO := [
 X.m 47 4,
 X.o 48 (.idxAddr 1 (X.s 47) (X.i 0)),
 X.o 49 (.load1 (X.s 48)),
 X.o 50 (.bin .add (X.i 1) (X.s 49)),
 X.o 51 (.conv .u64 (X.s 50)),
 X.o 52 (.build [.int .u8 0, .nils, .int .u64 0, .int .i64 0, .int .i64 0, .int .i64 0] [(0, 1, .cst (.int .u8 111)), (2, 1, X.s 51)]),
 X.o 53 (.buildSlice 6 1 [.int .u8 0, .nils, .int .u64 0, .int .i64 0, .int .i64 0, .int .i64 0] [(0, 6, X.s 52)]),
 X.o 54 (.build [.nils, .nils, .nils, .nils] [(0, 1, X.s 53)]),
 X.o 6 (.alloc [.nils, .nils, .nils, .nils]),
 X.n (.storeN 4 (X.s 6) (X.s 54))]
def C.jv : LO := C.jv_b
def C.jv_w := pO C.jv.eq_1
def C.bns : ICode := .keep [2, 4] (.seq (.region C.jv) C.xf)
def C.bns_w := pC C.bns.eq_1
def C.js_b : LO := [
 X.m 28 5,
 X.o 29 (.bin .add (X.s 28) (X.i 1)),
 X.m 5 29]
def C.js : LO := C.js_b
def C.js_w := pO C.js.eq_1
def C.bv5 : ICode := .keep [0, 2, 4, 5] (.region C.js)
def C.bv5_w := pC C.bv5.eq_1
def C.jt_b : LO := [
 X.m 30 4,
 X.m 31 5,
 X.m 32 0,
 X.m 33 5,
 X.m 34 0,
 X.o 35 (.len (X.s 34)),
 X.o 36 (.bin .rem (X.s 33) (X.s 35)),
 X.o 37 (.idxAddr 1 (X.s 32) (X.s 36)),
 X.o 38 (.load1 (X.s 37)),
 X.m 39 5,
 X.m 40 0,
 X.o 41 (.len (X.s 40)),
 X.o 42 (.bin .quo (X.s 39) (X.s 41)),
 X.o 43 (.bin .add (X.i 1) (X.s 42)),
 X.o 44 (.bin .quo (X.s 38) (X.s 43)),
 X.o 45 (.call F.q14 [X.s 44, X.i 1000000]),
 X.o 46 (.idxAddr 1 (X.s 30) (X.s 31)),
 X.n (.store1 (X.s 46) (X.s 45))]
def C.jt : LO := C.jt_b
def C.jt_w := pO C.jt.eq_1
def C.bty : ICode := .region C.jt
def C.bty_w := pC C.bty.eq_1
def C.bv6 : ICode := .keep [0, 2, 4, 5] (.seq (.block 1 C.bty) C.bv5)
def C.bv6_w := pC C.bv6.eq_1
def C.bv8 : ICode := .keep [0, 2, 4, 5, 27] (.cond (X.s 27) .skip (.exit 0))
def C.bv8_w := pC C.bv8.eq_1
def C.jf_b : LO := [
 X.m 19 5,
 X.m 20 4,
 X.o 21 (.len (X.s 20)),
 X.o 22 (.bin .lss (X.s 19) (X.s 21)),
 X.m 23 22,
 X.t 23 24 (.move (X.s 0)),
 X.t 23 25 (.len (X.s 24)),
 X.t 23 26 (.bin .gtr (X.s 25) (X.i 0)),
 X.o 27 (.pick (X.s 23) (X.s 26) (.cst (.bool false)))]
def C.jf : LO := C.jf_b
def C.jf_w := pO C.jf.eq_1
def C.cpl : ICode := .keep [0, 2, 4, 5] (.seq (.seq (.region C.jf) C.bv8) C.bv6)
def C.cpl_w := pC C.cpl.eq_1
def C.btq : ICode := .loop C.cpl
def C.btq_w := pC C.btq.eq_1
def C.bv9 : ICode := .keep [0, 2, 4, 5] (.block 0 C.btq)
def C.bv9_w := pC C.bv9.eq_1
def C.h2_b : LO := [
 X.o 5 (.move (X.i 0))]
def C.h2 : LO := C.h2_b
def C.h2_w := pO C.h2.eq_1
def C.bwb : ICode := .keep [0, 2, 4] (.seq (.seq (.region C.h2) C.bv9) C.bns)
def C.bwb_w := pC C.bwb.eq_1
def C.hr_b : LO := [
 X.o 18 (.makeSlice 1 8 [.int .i64 0] (X.i 120) (X.i 120)),
 X.m 4 18]
def C.hr : LO := C.hr_b
def C.hr_w := pO C.hr.eq_1
def C.bwc : ICode := .keep [0, 2] (.seq (.region C.hr) C.bwb)
def C.bwc_w := pC C.bwc.eq_1
def C.hd_b : LO := [
 X.o 3 (.move (X.i 0))]
def C.hd : LO := C.hd_b
def C.hd_w := pO C.hd.eq_1
def C.bwd : ICode := .keep [0, 2] (.seq (.region C.hd) C.bwc)
def C.bwd_w := pC C.bwd.eq_1
def C.bb_b : LO := [
 X.o 2 (.alloc [.nils, .nils, .nils, .nils])]
def C.bb : LO := C.bb_b
def C.bb_w := pO C.bb.eq_1
def C.q13 : IFunc := ⟨1, [.cellN 2 4], .seq (.region C.bb) C.bwd⟩
def C.q13_W := aI (aI (aI (aI (aI (aI @C.bg_w (aI @C.bnk_w @C.jc_w)) (aI (aI @C.bt6_w @C.jr_w) (aI @C.bvb_w @C.jp_w))) (aI (aI (aI @C.bvj_w @C.jn_w) (aI @C.bvv_w @C.jm_w)) (aI (aI @C.bv1_w @C.jl_w) (aI @C.bv7_w @C.jj_w)))) (aI (aI (aI @C.bwf_w (aI @C.jk_w @C.btz_w)) (aI (aI @C.bt0_w @C.bt1_w) (aI @C.jh_w @C.btl_w))) (aI (aI (aI @C.bt2_w @C.jg_w) (aI @C.bt3_w @C.bh_w)) (aI (aI @C.bt4_w @C.jd_w) (aI @C.btm_w @C.w9_w))))) (aI (aI (aI (aI @C.bt5_w (aI @C.jb_w @C.btn_w)) (aI (aI @C.bt7_w @C.h9_w) (aI @C.bnl_w @C.h7_w))) (aI (aI (aI @C.bt8_w @C.h8_w) (aI @C.btp_w @C.xb_w)) (aI (aI @C.bt9_w @C.h6_w) (aI @C.btr_w @C.bvc_w)))) (aI (aI (aI @C.h5_w (aI @C.bnm_w @C.hz_w)) (aI (aI @C.bvd_w @C.h4_w) (aI @C.bvf_w @C.h3_w))) (aI (aI (aI @C.bvg_w @C.h1_w) (aI @C.bnn_w @C.h0_w)) (aI (aI @C.bts_w @C.xc_w) (aI @C.bvh_w @C.hq_w)))))) (aI (aI (aI (aI (aI @C.btt_w (aI @C.bvk_w @C.hy_w)) (aI (aI @C.bnp_w @C.hh_w) (aI @C.bvl_w @C.hx_w))) (aI (aI (aI @C.bvm_w @C.hp_w) (aI @C.bvn_w @C.hn_w)) (aI (aI @C.bvp_w @C.hm_w) (aI @C.ht_w @C.hw_w)))) (aI (aI (aI @C.bvr_w (aI @C.hv_w @C.bvs_w)) (aI (aI @C.bvt_w @C.hs_w) (aI @C.bvw_w @C.bvx_w))) (aI (aI (aI @C.bvy_w @C.hl_w) (aI @C.btv_w @C.bvq_w)) (aI (aI @C.hk_w @C.bnr_w) (aI @C.bf_w @C.bvz_w))))) (aI (aI (aI (aI @C.hj_w (aI @C.btw_w @C.xd_w)) (aI (aI @C.bv0_w @C.hg_w) (aI @C.btx_w @C.bv2_w))) (aI (aI (aI @C.hf_w @C.bv3_w) (aI @C.jx_w @C.bv4_w)) (aI (aI @C.jw_w @C.xf_w) (aI @C.jv_w @C.bns_w)))) (aI (aI (aI (aI @C.js_w @C.bv5_w) (aI @C.jt_w @C.bty_w)) (aI (aI @C.bv6_w @C.bv8_w) (aI @C.jf_w @C.btq_w))) (aI (aI (aI @C.bv9_w @C.h2_w) (aI @C.bwb_w @C.hr_w)) (aI (aI @C.bwc_w @C.hd_w) (aI @C.bwd_w @C.bb_w))))))
def C.q13_B := aI (aI (aI (aI (aI @C.bg_b.eq_1 (aI @C.jc_b.eq_1 @C.jr_b.eq_1)) (aI @C.jp_b.eq_1 (aI @C.jn_b.eq_1 @C.jm_b.eq_1))) (aI (aI @C.jl_b.eq_1 (aI @C.jj_b.eq_1 @C.jk_b.eq_1)) (aI @C.jh_b.eq_1 (aI @C.jg_b.eq_1 @C.bh_b.eq_1)))) (aI (aI (aI @C.jd_b.eq_1 (aI @C.jb_b.eq_1 @C.h9_b.eq_1)) (aI @C.h7_b.eq_1 (aI @C.h8_b.eq_1 @C.h6_b.eq_1))) (aI (aI @C.h5_b.eq_1 (aI @C.hz_b.eq_1 @C.h4_b.eq_1)) (aI (aI @C.h3_b.eq_1 @C.h1_b.eq_1) (aI @C.h0_b.eq_1 @C.hq_b.eq_1))))) (aI (aI (aI (aI @C.hy_b.eq_1 (aI @C.hh_b.eq_1 @C.hx_b.eq_1)) (aI @C.hp_b.eq_1 (aI @C.hn_b.eq_1 @C.hm_b.eq_1))) (aI (aI @C.ht_b.eq_1 (aI @C.hw_b.eq_1 @C.hv_b.eq_1)) (aI (aI @C.hs_b.eq_1 @C.hl_b.eq_1) (aI @C.hk_b.eq_1 @C.bf_b.eq_1)))) (aI (aI (aI @C.hj_b.eq_1 (aI @C.hg_b.eq_1 @C.hf_b.eq_1)) (aI @C.jx_b.eq_1 (aI @C.jw_b.eq_1 @C.jv_b.eq_1))) (aI (aI @C.js_b.eq_1 (aI @C.jt_b.eq_1 @C.jf_b.eq_1)) (aI (aI @C.h2_b.eq_1 @C.hr_b.eq_1) (aI @C.hd_b.eq_1 @C.bb_b.eq_1)))))

def C.bmw_b : LO := [
 X.m 107 9,
 X.m 2 107,
 X.o 3 (.move (X.i 0))]
def C.bmw : LO := C.bmw_b
def C.bmw_w := pO C.bmw.eq_1
def C.cnc : ICode := .keep [9] (.seq (.region C.bmw) .ret)
def C.cnc_w := pC C.cnc.eq_1
def C.bmv_b : LO := [
 X.m 106 6,
 X.o 2 (.move (.cst (.nilp))),
 X.m 3 106]
def C.bmv : LO := C.bmv_b
def C.bmv_w := pO C.bmv.eq_1
def C.cnd : ICode := .seq (.region C.bmv) .ret
def C.cnd_w := pC C.cnd.eq_1
def C.cnf : ICode := .keep [6, 9, 105] (.cond (X.s 105) C.cnd .skip)
def C.cnf_w := pC C.cnf.eq_1
def C.bmt_b : LO := [
 X.m 104 6,
 X.o 105 (.bin .neq (X.s 104) (X.i 0))]
def C.bmt : LO := C.bmt_b
def C.bmt_w := pO C.bmt.eq_1
def C.cng : ICode := .keep [6, 9] (.seq (.region C.bmt) C.cnf)
def C.cng_w := pC C.cng.eq_1
def C.bms_b : LO := [
 X.m 97 9,
 X.m 98 10,
 X.o 99 (.call F.q9 [X.s 98]),
 X.m 96 99,
 X.o 100 (.extract (X.s 96) 0),
 X.o 101 (.extract (X.s 96) 1),
 X.o 102 (.nilchk (X.s 97)),
 X.o 103 (.fldAddr 3 (X.s 102)),
 X.n (.store1 (X.s 103) (X.s 100)),
 X.m 6 101]
def C.bms : LO := C.bms_b
def C.bms_w := pO C.bms.eq_1
def C.cnh : ICode := .keep [9, 10] (.seq (.seq (.region C.bms) C.cng) C.cnc)
def C.cnh_w := pC C.cnh.eq_1
def C.cf_b : LO := [
 X.o 95 (.bin .add (X.s 56) (X.i 1)),
 X.m 56 95]
def C.cf : LO := C.cf_b
def C.cf_w := pO C.cf.eq_1
def C.bn6 : ICode := .keep [9, 10, 54, 55, 56] (.region C.cf)
def C.bn6_w := pC C.bn6.eq_1
def C.cd_b : LO := [
 X.m 75 9,
 X.m 76 9,
 X.o 77 (.nilchk (X.s 76)),
 X.o 78 (.fldAddr 4 (X.s 77)),
 X.o 79 (.load1 (X.s 78)),
 X.o 80 (.fldAddr 0 (X.s 12)),
 X.o 81 (.load1 (X.s 80)),
 X.o 82 (.fldAddr 1 (X.s 12)),
 X.o 83 (.load1 (X.s 82)),
 X.o 84 (.fldAddr 2 (X.s 12)),
 X.o 85 (.load1 (X.s 84)),
 X.o 86 (.fldAddr 3 (X.s 12)),
 X.o 87 (.load1 (X.s 86)),
 X.m 88 13,
 ⟨some 89, .call F.q108 [], none, [⟨.load1 (X.s 78), 79, none⟩, ⟨.load1 (X.s 80), 81, none⟩, ⟨.load1 (X.s 82), 83, none⟩, ⟨.load1 (X.s 84), 85, none⟩, ⟨.load1 (X.s 86), 87, none⟩], []⟩,
 X.o 90 (.build [.int .i64 0, .int .i64 0, .int .i64 0, .int .u32 0, .nilp, .nilp] [(0, 1, X.s 81), (1, 1, X.s 83), (2, 1, X.s 85), (3, 1, X.s 87), (4, 1, X.s 88), (5, 1, X.s 89)]),
 X.o 91 (.buildSlice 6 1 [.int .i64 0, .int .i64 0, .int .i64 0, .int .u32 0, .nilp, .nilp] [(0, 6, X.s 90)]),
 X.o 92 (.append 6 48 (X.s 79) (X.s 91)),
 X.o 93 (.nilchk (X.s 75)),
 X.o 94 (.fldAddr 4 (X.s 93)),
 X.n (.store1 (X.s 94) (X.s 92))]
def C.cd : LO := C.cd_b
def C.cd_w := pO C.cd.eq_1
def C.bn7 : ICode := .keep [9, 10, 12, 13, 54, 55, 56] (.region C.cd)
def C.bn7_w := pC C.bn7.eq_1
def C.dm_b : LO := [
 X.m 70 10,
 X.m 71 11,
 X.m 72 13,
 X.o 73 (.call F.q111 [X.s 72]),
 X.o 74 (.idxAddr 1 (X.s 70) (X.s 71)),
 X.n (.store1 (X.s 74) (X.s 73))]
def C.dm : LO := C.dm_b
def C.dm_w := pO C.dm.eq_1
def C.bn8 : ICode := .keep [9, 10, 11, 12, 13, 54, 55, 56] (.seq (.region C.dm) C.bn7)
def C.bn8_w := pC C.bn8.eq_1
def C.fh_b : LO := [
 X.m 69 14,
 X.o 2 (.move (.cst (.nilp))),
 X.m 3 69]
def C.fh : LO := C.fh_b
def C.fh_w := pO C.fh.eq_1
def C.b2w : ICode := .seq (.region C.fh) .ret
def C.b2w_w := pC C.b2w.eq_1
def C.b12 : ICode := .keep [9, 10, 11, 12, 13, 14, 54, 55, 56, 68] (.cond (X.s 68) C.b2w .skip)
def C.b12_w := pC C.b12.eq_1
def C.fg_b : LO := [
 X.m 67 14,
 X.o 68 (.bin .neq (X.s 67) (X.i 0))]
def C.fg : LO := C.fg_b
def C.fg_w := pO C.fg.eq_1
def C.b13 : ICode := .keep [9, 10, 11, 12, 13, 14, 54, 55, 56] (.seq (.seq (.region C.fg) C.b12) C.bn8)
def C.b13_w := pC C.b13.eq_1
def C.dl_b : LO := [
 X.o 62 (.fldAddr 4 (X.s 12)),
 X.o 63 (.load1 (X.s 62)),
 X.o 64 (.call F.q121 [X.s 63]),
 X.m 61 64,
 X.o 65 (.extract (X.s 61) 0),
 X.o 66 (.extract (X.s 61) 1),
 X.m 13 65,
 X.m 14 66]
def C.dl : LO := C.dl_b
def C.dl_w := pO C.dl.eq_1
def C.b14 : ICode := .keep [9, 10, 11, 12, 54, 55, 56] (.seq (.region C.dl) C.b13)
def C.b14_w := pC C.b14.eq_1
def C.dk_b : LO := [
 X.m 58 56,
 X.o 59 (.idxAddr 6 (X.s 54) (X.s 56)),
 X.o 60 (.loadN 6 (X.s 59)),
 X.o 12 (.alloc [.int .i64 0, .int .i64 0, .int .i64 0, .int .u32 0, .nils, .nils]),
 X.m 11 58,
 X.n (.storeN 6 (X.s 12) (X.s 60))]
def C.dk : LO := C.dk_b
def C.dk_w := pO C.dk.eq_1
def C.b10 : ICode := .seq (.region C.dk) C.b14
def C.b10_w := pC C.b10.eq_1
def C.b15 : ICode := .keep [9, 10, 54, 55, 56] (.seq (.block 1 C.b10) C.bn6)
def C.b15_w := pC C.b15.eq_1
def C.b16 : ICode := .keep [9, 10, 54, 55, 56, 57] (.seq (.cond (X.s 57) .skip (.exit 0)) C.b15)
def C.b16_w := pC C.b16.eq_1
def C.dj_b : LO := [
 X.o 57 (.bin .lss (X.s 56) (X.s 55))]
def C.dj : LO := C.dj_b
def C.dj_w := pO C.dj.eq_1
def C.crn : ICode := .keep [9, 10, 54, 55, 56] (.seq (.region C.dj) C.b16)
def C.crn_w := pC C.crn.eq_1
def C.b11 : ICode := .loop C.crn
def C.b11_w := pC C.b11.eq_1
def C.b17 : ICode := .keep [9, 10, 54, 55, 56] (.block 0 C.b11)
def C.b17_w := pC C.b17.eq_1
def C.pg_b : LO := [
 X.o 53 (.fldAddr 3 (X.s 1)),
 X.o 54 (.load1 (X.s 53)),
 X.o 55 (.len (X.s 54)),
 X.o 56 (.move (X.i 0))]
def C.pg : LO := C.pg_b
def C.pg_w := pO C.pg.eq_1
def C.b18 : ICode := .keep [1, 9, 10] (.seq (.seq (.region C.pg) C.b17) C.cnh)
def C.b18_w := pC C.b18.eq_1
def C.dh_b : LO := [
 X.o 49 (.fldAddr 3 (X.s 1)),
 X.o 50 (.load1 (X.s 49)),
 X.o 51 (.len (X.s 50)),
 X.o 52 (.makeSlice 1 8 [.int .i64 0] (X.s 51) (X.s 51)),
 X.m 10 52]
def C.dh : LO := C.dh_b
def C.dh_w := pO C.dh.eq_1
def C.bn5 : ICode := .keep [1, 9] (.seq (.region C.dh) C.b18)
def C.bn5_w := pC C.bn5.eq_1
def C.pf_b : LO := [
 X.m 44 5,
 X.m 45 7,
 X.m 46 8,
 X.o 47 (.build [.nilp, .nilp, .nilp, .nilp, .nils] [(0, 1, X.s 44), (1, 1, X.s 45), (2, 1, X.s 46)]),
 X.o 48 (.boxN (X.s 47)),
 X.m 9 48]
def C.pf : LO := C.pf_b
def C.pf_w := pO C.pf.eq_1
def C.b19 : ICode := .keep [1, 5, 7, 8] (.seq (.region C.pf) C.bn5)
def C.b19_w := pC C.b19.eq_1
def C.pd_b : LO := [
 X.m 43 6,
 X.o 2 (.move (.cst (.nilp))),
 X.m 3 43]
def C.pd : LO := C.pd_b
def C.pd_w := pO C.pd.eq_1
def C.b2b : ICode := .seq (.region C.pd) .ret
def C.b2b_w := pC C.b2b.eq_1
def C.b2c : ICode := .keep [1, 5, 6, 7, 8, 42] (.cond (X.s 42) C.b2b .skip)
def C.b2c_w := pC C.b2c.eq_1
def C.pc_b : LO := [
 X.m 41 6,
 X.o 42 (.bin .neq (X.s 41) (X.i 0))]
def C.pc : LO := C.pc_b
def C.pc_w := pO C.pc.eq_1
def C.b2d : ICode := .keep [1, 5, 6, 7, 8] (.seq (.seq (.region C.pc) C.b2c) C.b19)
def C.b2d_w := pC C.b2d.eq_1
def C.pb_b : LO := [
 X.o 37 (.loadN 4 (X.s 1)),
 X.o 38 (.call F.q127 [X.s 37]),
 X.m 36 38,
 X.o 39 (.extract (X.s 36) 0),
 X.o 40 (.extract (X.s 36) 1),
 X.m 8 39,
 X.m 6 40]
def C.pb : LO := C.pb_b
def C.pb_w := pO C.pb.eq_1
def C.b2f : ICode := .keep [1, 5, 7] (.seq (.region C.pb) C.b2d)
def C.b2f_w := pC C.b2f.eq_1
def C.pr_b : LO := [
 X.m 35 6,
 X.o 2 (.move (.cst (.nilp))),
 X.m 3 35]
def C.pr : LO := C.pr_b
def C.pr_w := pO C.pr.eq_1
def C.b2g : ICode := .seq (.region C.pr) .ret
def C.b2g_w := pC C.b2g.eq_1
def C.b2h : ICode := .keep [1, 5, 6, 7, 34] (.cond (X.s 34) C.b2g .skip)
def C.b2h_w := pC C.b2h.eq_1
def C.pp_b : LO := [
 X.m 33 6,
 X.o 34 (.bin .neq (X.s 33) (X.i 0))]
def C.pp : LO := C.pp_b
def C.pp_w := pO C.pp.eq_1
def C.b2j : ICode := .keep [1, 5, 6, 7] (.seq (.seq (.region C.pp) C.b2h) C.b2f)
def C.b2j_w := pC C.b2j.eq_1
def C.pn_b : LO := [
 X.o 29 (.loadN 4 (X.s 1)),
 X.o 30 (.call F.q103 [X.s 29]),
 X.m 28 30,
 X.o 31 (.extract (X.s 28) 0),
 X.o 32 (.extract (X.s 28) 1),
 X.m 7 31,
 X.m 6 32]
def C.pn : LO := C.pn_b
def C.pn_w := pO C.pn.eq_1
def C.b2k : ICode := .keep [1, 5] (.seq (.region C.pn) C.b2j)
def C.b2k_w := pC C.b2k.eq_1
def C.pm_b : LO := [
 X.m 27 6,
 X.o 2 (.move (.cst (.nilp))),
 X.m 3 27]
def C.pm : LO := C.pm_b
def C.pm_w := pO C.pm.eq_1
def C.b2l : ICode := .seq (.region C.pm) .ret
def C.b2l_w := pC C.b2l.eq_1
def C.b2m : ICode := .keep [1, 5, 6, 26] (.cond (X.s 26) C.b2l .skip)
def C.b2m_w := pC C.b2m.eq_1
def C.pl_b : LO := [
 X.m 25 6,
 X.o 26 (.bin .neq (X.s 25) (X.i 0))]
def C.pl : LO := C.pl_b
def C.pl_w := pO C.pl.eq_1
def C.b2n : ICode := .keep [1, 5, 6] (.seq (.seq (.region C.pl) C.b2m) C.b2k)
def C.b2n_w := pC C.b2n.eq_1
def C.pk_b : LO := [
 X.o 21 (.loadN 4 (X.s 1)),
 X.o 22 (.call F.q17 [X.s 21]),
 X.m 20 22,
 X.o 23 (.extract (X.s 20) 0),
 X.o 24 (.extract (X.s 20) 1),
 X.m 5 23,
 X.m 6 24]
def C.pk : LO := C.pk_b
def C.pk_w := pO C.pk.eq_1
def C.b2p : ICode := .keep [1] (.seq (.region C.pk) C.b2n)
def C.b2p_w := pC C.b2p.eq_1
def C.pj_b : LO := [
 X.m 19 4,
 X.o 2 (.move (.cst (.nilp))),
 X.m 3 19]
def C.pj : LO := C.pj_b
def C.pj_w := pO C.pj.eq_1
def C.b2r : ICode := .seq (.region C.pj) .ret
def C.b2r_w := pC C.b2r.eq_1
def C.b2s : ICode := .keep [1, 4, 18] (.cond (X.s 18) C.b2r .skip)
def C.b2s_w := pC C.b2s.eq_1
def C.ph_b : LO := [
 X.m 17 4,
 X.o 18 (.bin .neq (X.s 17) (X.i 0))]
def C.ph : LO := C.ph_b
def C.ph_w := pO C.ph.eq_1
def C.b2t : ICode := .keep [1, 4] (.seq (.region C.ph) C.b2s)
def C.b2t_w := pC C.b2t.eq_1
def C.n9_b : LO := [
 X.o 15 (.loadN 4 (X.s 1)),
 X.o 16 (.call F.q25 [X.s 15]),
 X.m 4 16]
def C.n9 : LO := C.n9_b
def C.n9_w := pO C.n9.eq_1
def C.b2v : ICode := .keep [1] (.seq (.seq (.region C.n9) C.b2t) C.b2p)
def C.b2v_w := pC C.b2v.eq_1
def C.bp_b : LO := [
 X.o 1 (.boxN (X.s 0)),
 X.o 2 (.move (.cst (.nilp))),
 X.o 3 (.move (X.i 0))]
def C.bp : LO := C.bp_b
def C.bp_w := pO C.bp.eq_1
def C.q96 : IFunc := ⟨1, [.slot 2, .slot 3], .seq (.region C.bp) C.b2v⟩
def C.q96_W := aI (aI (aI (aI (aI (aI @C.bmw_w @C.cnc_w) (aI @C.bmv_w @C.cnd_w)) (aI (aI @C.cnf_w @C.bmt_w) (aI @C.cng_w @C.bms_w))) (aI (aI (aI @C.cnh_w @C.cf_w) (aI @C.bn6_w @C.cd_w)) (aI (aI @C.bn7_w @C.dm_w) (aI @C.bn8_w @C.fh_w)))) (aI (aI (aI (aI @C.b2w_w @C.b12_w) (aI @C.fg_w @C.b13_w)) (aI (aI @C.dl_w @C.b14_w) (aI @C.dk_w @C.b10_w))) (aI (aI (aI @C.b15_w @C.b16_w) (aI @C.dj_w @C.b11_w)) (aI (aI @C.b17_w @C.pg_w) (aI @C.b18_w @C.dh_w))))) (aI (aI (aI (aI (aI @C.bn5_w @C.pf_w) (aI @C.b19_w @C.pd_w)) (aI (aI @C.b2b_w @C.b2c_w) (aI @C.pc_w @C.b2d_w))) (aI (aI (aI @C.pb_w @C.b2f_w) (aI @C.pr_w @C.b2g_w)) (aI (aI @C.b2h_w @C.pp_w) (aI @C.b2j_w @C.pn_w)))) (aI (aI (aI (aI @C.b2k_w @C.pm_w) (aI @C.b2l_w @C.b2m_w)) (aI (aI @C.pl_w @C.b2n_w) (aI @C.pk_w @C.b2p_w))) (aI (aI (aI @C.pj_w @C.b2r_w) (aI @C.b2s_w @C.ph_w)) (aI (aI @C.b2t_w @C.n9_w) (aI @C.b2v_w @C.bp_w)))))
def C.q96_B := aI (aI (aI (aI @C.bmw_b.eq_1 (aI @C.bmv_b.eq_1 @C.bmt_b.eq_1)) (aI (aI @C.bms_b.eq_1 @C.cf_b.eq_1) (aI @C.cd_b.eq_1 @C.dm_b.eq_1))) (aI (aI @C.fh_b.eq_1 (aI @C.fg_b.eq_1 @C.dl_b.eq_1)) (aI (aI @C.dk_b.eq_1 @C.dj_b.eq_1) (aI @C.pg_b.eq_1 @C.dh_b.eq_1)))) (aI (aI (aI @C.pf_b.eq_1 (aI @C.pd_b.eq_1 @C.pc_b.eq_1)) (aI (aI @C.pb_b.eq_1 @C.pr_b.eq_1) (aI @C.pp_b.eq_1 @C.pn_b.eq_1))) (aI (aI @C.pm_b.eq_1 (aI @C.pl_b.eq_1 @C.pk_b.eq_1)) (aI (aI @C.pj_b.eq_1 @C.ph_b.eq_1) (aI @C.n9_b.eq_1 @C.bp_b.eq_1))))

def C.xk_b : LO := [
 X.m 10 0,
 X.m 11 1,
 X.o 12 (.bin .rem (X.s 10) (X.s 11)),
 X.m 4 12]
def C.xk : LO := C.xk_b
def C.xk_w := pO C.xk.eq_1
def C.b8x : ICode := .keep [0, 1] (.seq (.region C.xk) .ret)
def C.b8x_w := pC C.b8x.eq_1
def C.xj_b : LO := [
 X.m 7 0,
 X.o 8 (.bin .add (X.s 7) (X.i 1)),
 X.o 9 (.un .neg (X.s 8)),
 X.m 0 9]
def C.xj : LO := C.xj_b
def C.xj_w := pO C.xj.eq_1
def C.b8y : ICode := .keep [0, 1, 6] (.cond (X.s 6) (.region C.xj) .skip)
def C.b8y_w := pC C.b8y.eq_1
def C.xh_b : LO := [
 X.m 5 0,
 X.o 6 (.bin .lss (X.s 5) (X.i 0))]
def C.xh : LO := C.xh_b
def C.xh_w := pO C.xh.eq_1
def C.b8q : ICode := .keep [0, 1] (.seq (.seq (.region C.xh) C.b8y) C.b8x)
def C.b8q_w := pC C.b8q.eq_1
def C.xg_b : LO := [
 X.o 4 (.move (X.i 0))]
def C.xg : LO := C.xg_b
def C.xg_w := pO C.xg.eq_1
def C.q14 : IFunc := ⟨2, [.slot 4], .seq (.region C.xg) C.b8q⟩
def C.q14_W := aI (aI @C.xk_w (aI @C.b8x_w @C.xj_w)) (aI (aI @C.b8y_w @C.xh_w) (aI @C.b8q_w @C.xg_w))
def C.q14_B := aI (aI @C.xk_b.eq_1 @C.xj_b.eq_1) (aI @C.xh_b.eq_1 @C.xg_b.eq_1)

def C.bdy_b : LO := [
 X.m 39 6,
 X.m 4 39,
 X.o 5 (.move (X.i 0))]
def C.bdy : LO := C.bdy_b
def C.bdy_w := pO C.bdy.eq_1
def C.cdm : ICode := .keep [6] (.seq (.region C.bdy) .ret)
def C.cdm_w := pC C.cdm.eq_1
def C.bdx_b : LO := [
 X.o 4 (.move (.cst (.int .u32 0))),
 X.o 5 (.move (X.i 1))]
def C.bdx : LO := C.bdx_b
def C.bdx_w := pO C.bdx.eq_1
def C.cds : ICode := .seq (.region C.bdx) .ret
def C.cds_w := pC C.cds.eq_1
def C.cdt : ICode := .keep [6, 38] (.cond (X.s 38) C.cds .skip)
def C.cdt_w := pC C.cdt.eq_1
def C.bdw_b : LO := [
 X.m 37 7,
 X.o 38 (.bin .neq (X.s 37) (X.i 0))]
def C.bdw : LO := C.bdw_b
def C.bdw_w := pO C.bdw.eq_1
def C.cdv : ICode := .keep [6, 7] (.seq (.seq (.region C.bdw) C.cdt) C.cdm)
def C.cdv_w := pC C.cdv.eq_1
def C.bdv_b : LO := [
 X.m 31 6,
 X.m 32 1,
 X.o 33 (.conv .u32 (X.s 32)),
 X.o 34 (.call F.q1 [X.s 31, X.i 2, X.i 14, X.s 33]),
 X.m 30 34,
 X.o 35 (.extract (X.s 30) 0),
 X.o 36 (.extract (X.s 30) 1),
 X.m 6 35,
 X.m 7 36]
def C.bdv : LO := C.bdv_b
def C.bdv_w := pO C.bdv.eq_1
def C.cdw : ICode := .keep [1, 6] (.seq (.region C.bdv) C.cdv)
def C.cdw_w := pC C.cdw.eq_1
def C.bdt_b : LO := [
 X.o 4 (.move (.cst (.int .u32 0))),
 X.o 5 (.move (X.i 1))]
def C.bdt : LO := C.bdt_b
def C.bdt_w := pO C.bdt.eq_1
def C.cdx : ICode := .seq (.region C.bdt) .ret
def C.cdx_w := pC C.cdx.eq_1
def C.cdy : ICode := .keep [1, 6, 29] (.cond (X.s 29) C.cdx .skip)
def C.cdy_w := pC C.cdy.eq_1
def C.bds_b : LO := [
 X.m 28 7,
 X.o 29 (.bin .neq (X.s 28) (X.i 0))]
def C.bds : LO := C.bds_b
def C.bds_w := pO C.bds.eq_1
def C.cdq : ICode := .keep [1, 6, 7] (.seq (.seq (.region C.bds) C.cdy) C.cdw)
def C.cdq_w := pC C.cdq.eq_1
def C.bdr_b : LO := [
 X.m 23 0,
 X.o 24 (.conv .u32 (X.s 23)),
 X.o 25 (.call F.q1 [.cst (.int .u32 0), X.i 16, X.i 8, X.s 24]),
 X.m 22 25,
 X.o 26 (.extract (X.s 22) 0),
 X.o 27 (.extract (X.s 22) 1),
 X.m 6 26,
 X.m 7 27]
def C.bdr : LO := C.bdr_b
def C.bdr_w := pO C.bdr.eq_1
def C.cdz : ICode := .keep [0, 1] (.seq (.region C.bdr) C.cdq)
def C.cdz_w := pC C.cdz.eq_1
def C.bdp_b : LO := [
 X.o 4 (.move (.cst (.int .u32 0))),
 X.o 5 (.move (X.i 1))]
def C.bdp : LO := C.bdp_b
def C.bdp_w := pO C.bdp.eq_1
def C.cdn : ICode := .seq (.region C.bdp) .ret
def C.cdn_w := pC C.cdn.eq_1
def C.cdp : ICode := .keep [0, 1, 21] (.cond (X.s 21) C.cdn .skip)
def C.cdp_w := pC C.cdp.eq_1
def C.bdn_b : LO := [
 X.m 8 0,
 X.o 9 (.bin .lss (X.s 8) (X.i 0)),
 X.m 10 9,
 X.f 10 11 (.move (X.s 0)),
 X.f 10 12 (.bin .geq (X.s 11) (X.i 256)),
 X.o 13 (.pick (X.s 10) (.cst (.bool true)) (X.s 12)),
 X.m 14 13,
 X.f 14 15 (.move (X.s 1)),
 X.f 14 16 (.bin .lss (X.s 15) (X.i 0)),
 X.o 17 (.pick (X.s 14) (.cst (.bool true)) (X.s 16)),
 X.m 18 17,
 X.f 18 19 (.move (X.s 1)),
 X.f 18 20 (.bin .geq (X.s 19) (X.i 16384)),
 X.o 21 (.pick (X.s 18) (.cst (.bool true)) (X.s 20))]
def C.bdn : LO := C.bdn_b
def C.bdn_w := pO C.bdn.eq_1
def C.cdr : ICode := .keep [0, 1] (.seq (.seq (.region C.bdn) C.cdp) C.cdz)
def C.cdr_w := pC C.cdr.eq_1
def C.bdm_b : LO := [
 X.o 4 (.move (.cst (.int .u32 0))),
 X.o 5 (.move (X.i 0))]
def C.bdm : LO := C.bdm_b
def C.bdm_w := pO C.bdm.eq_1
def C.q4 : IFunc := ⟨2, [.slot 4, .slot 5], .seq (.region C.bdm) C.cdr⟩
def C.q4_W := aI (aI (aI (aI @C.bdy_w @C.cdm_w) (aI @C.bdx_w (aI @C.cds_w @C.cdt_w))) (aI (aI @C.bdw_w (aI @C.cdv_w @C.bdv_w)) (aI @C.cdw_w (aI @C.bdt_w @C.cdx_w)))) (aI (aI (aI @C.cdy_w @C.bds_w) (aI @C.cdq_w (aI @C.bdr_w @C.cdz_w))) (aI (aI @C.bdp_w (aI @C.cdn_w @C.cdp_w)) (aI @C.bdn_w (aI @C.cdr_w @C.bdm_w))))
def C.q4_B := aI (aI (aI @C.bdy_b.eq_1 @C.bdx_b.eq_1) (aI @C.bdw_b.eq_1 (aI @C.bdv_b.eq_1 @C.bdt_b.eq_1))) (aI (aI @C.bds_b.eq_1 @C.bdr_b.eq_1) (aI @C.bdp_b.eq_1 (aI @C.bdn_b.eq_1 @C.bdm_b.eq_1)))

def C.bl2_b : LO := [
 X.m 48 0,
 X.o 49 (.nilchk (X.s 48)),
 X.o 50 (.fldAddr 3 (X.s 49)),
 X.o 51 (.load1 (X.s 50)),
 X.m 52 1,
 X.m 53 2,
 X.m 54 3,
 X.o 55 (.call F.q5 [X.s 51, X.s 52, X.s 53, X.s 54]),
 X.o 56 (.extract (X.s 55) 0),
 X.o 57 (.extract (X.s 55) 1),
 X.m 8 56,
 X.m 9 57]
def C.bl2 : LO := C.bl2_b
def C.bl2_w := pO C.bl2.eq_1
def C.cmr : ICode := .keep [0, 1, 2, 3] (.seq (.region C.bl2) .ret)
def C.cmr_w := pC C.cmr.eq_1
def C.bl1_b : LO := [
 X.o 8 (.move (X.i 0)),
 X.o 9 (.move (X.i 6))]
def C.bl1 : LO := C.bl1_b
def C.bl1_w := pO C.bl1.eq_1
def C.cms : ICode := .seq (.region C.bl1) .ret
def C.cms_w := pC C.cms.eq_1
def C.cmt : ICode := .keep [0, 1, 2, 3, 47] (.cond (X.s 47) C.cms .skip)
def C.cmt_w := pC C.cmt.eq_1
def C.bl0_b : LO := [
 X.m 38 0,
 X.o 39 (.nilchk (X.s 38)),
 X.o 40 (.fldAddr 4 (X.s 39)),
 X.o 41 (.load1 (X.s 40)),
 X.m 42 10,
 X.o 43 (.idxAddr 6 (X.s 41) (X.s 42)),
 X.o 44 (.fldAddr 5 (X.s 43)),
 X.o 45 (.load1 (X.s 44)),
 X.o 46 (.call F.q106 [X.s 45]),
 X.o 47 (.bin .neq (X.s 46) (.cst (.int .u8 114)))]
def C.bl0 : LO := C.bl0_b
def C.bl0_w := pO C.bl0.eq_1
def C.cmv : ICode := .keep [0, 1, 2, 3, 10] (.seq (.seq (.region C.bl0) C.cmt) C.cmr)
def C.cmv_w := pC C.cmv.eq_1
def C.blz_b : LO := [
 X.o 8 (.move (X.i 0)),
 X.o 9 (.move (X.i 4))]
def C.blz : LO := C.blz_b
def C.blz_w := pO C.blz.eq_1
def C.cmw : ICode := .seq (.region C.blz) .ret
def C.cmw_w := pC C.cmw.eq_1
def C.cmx : ICode := .keep [0, 1, 2, 3, 10, 37] (.cond (X.s 37) C.cmw .skip)
def C.cmx_w := pC C.cmx.eq_1
def C.blq_b : LO := [
 X.m 17 0,
 X.m 18 10,
 X.o 19 (.call F.q94 [X.s 17, X.s 18]),
 X.o 20 (.un .not (X.s 19)),
 X.m 21 20,
 X.f 21 22 (.move (X.s 11)),
 X.f 21 23 (.bin .lss (X.s 22) (X.i 0)),
 X.o 24 (.pick (X.s 21) (.cst (.bool true)) (X.s 23)),
 X.m 25 24,
 X.f 25 26 (.move (X.s 11)),
 X.f 25 27 (.move (X.s 0)),
 X.f 25 28 (.nilchk (X.s 27)),
 X.f 25 29 (.fldAddr 4 (X.s 28)),
 X.f 25 30 (.load1 (X.s 29)),
 X.f 25 31 (.move (X.s 10)),
 X.f 25 32 (.idxAddr 6 (X.s 30) (X.s 31)),
 X.f 25 33 (.fldAddr 4 (X.s 32)),
 X.f 25 34 (.load1 (X.s 33)),
 X.f 25 35 (.call F.q111 [X.s 34]),
 X.f 25 36 (.bin .geq (X.s 26) (X.s 35)),
 X.o 37 (.pick (X.s 25) (.cst (.bool true)) (X.s 36))]
def C.blq : LO := C.blq_b
def C.blq_w := pO C.blq.eq_1
def C.cmy : ICode := .keep [0, 1, 2, 3, 10, 11] (.seq (.seq (.region C.blq) C.cmx) C.cmv)
def C.cmy_w := pC C.cmy.eq_1
def C.bly_b : LO := [
 X.m 13 1,
 X.o 14 (.call F.q10 [X.s 13]),
 X.m 12 14,
 X.o 15 (.extract (X.s 12) 0),
 X.o 16 (.extract (X.s 12) 1),
 X.m 10 15,
 X.m 11 16]
def C.bly : LO := C.bly_b
def C.bly_w := pO C.bly.eq_1
def C.cmq : ICode := .keep [0, 1, 2, 3] (.seq (.region C.bly) C.cmy)
def C.cmq_w := pC C.cmq.eq_1
def C.blx_b : LO := [
 X.o 8 (.move (X.i 0)),
 X.o 9 (.move (X.i 0))]
def C.blx : LO := C.blx_b
def C.blx_w := pO C.blx.eq_1
def C.q88 : IFunc := ⟨4, [.slot 8, .slot 9], .seq (.region C.blx) C.cmq⟩
def C.q88_W := aI (aI (aI @C.bl2_w (aI @C.cmr_w @C.bl1_w)) (aI (aI @C.cms_w @C.cmt_w) (aI @C.bl0_w @C.cmv_w))) (aI (aI (aI @C.blz_w @C.cmw_w) (aI @C.cmx_w @C.blq_w)) (aI (aI @C.cmy_w @C.bly_w) (aI @C.cmq_w @C.blx_w)))
def C.q88_B := aI (aI @C.bl2_b.eq_1 (aI @C.bl1_b.eq_1 @C.bl0_b.eq_1)) (aI (aI @C.blz_b.eq_1 @C.blq_b.eq_1) (aI @C.bly_b.eq_1 @C.blx_b.eq_1))

end Go.Proofs.YtdmfgodajoojpaaGreatDoor.Cn
