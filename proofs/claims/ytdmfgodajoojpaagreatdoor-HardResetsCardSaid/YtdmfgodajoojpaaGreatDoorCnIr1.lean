/- The intermediate code of the functions, printed by a program out of the loaded program; that it is theirs is checked in the text of links. -/
import Derived.Test.YtdmfgodajoojpaaGreatDoorCnL2
set_option linter.defProp false
namespace Go.Proofs.YtdmfgodajoojpaaGreatDoor.Cn
open Go
theorem aI {a b : Prop} (x : a) (y : b) : a ∧ b := ⟨x, y⟩
theorem pC {c d : ICode} (h : c = d) ⦃P : Program⦄ ⦃Q : IExit → AFr → ASt → Prop⦄ ⦃fr : AFr⦄ ⦃st : ASt⦄ : awp P c Q fr st = awp P d Q fr st := by rw [h]
theorem pO {c d : List IOper} (h : c = d) ⦃P : Program⦄ ⦃k : AFr → ASt → Prop⦄ ⦃fr : AFr⦄ ⦃st : ASt⦄ : aops P c k fr st = aops P d k fr st := by rw [h]
abbrev LO := List IOper
variable {P : Program} {Q : IExit → AFr → ASt → Prop} {fr : AFr} {st : ASt}

abbrev F.main_main : Nat := 0
abbrev F.gosem_cut : Nat := 1
abbrev F.gosem_cut_init : Nat := 2
abbrev F.catnaplaw12_HardQuiet : Nat := 3
abbrev F.catnaplaw12_HardDead : Nat := 4
abbrev F.catnaplaw12_HardGates : Nat := 5
abbrev F.catnaplaw12_HardWakes : Nat := 6
abbrev F.q12 : Nat := 7
abbrev F.catnaplaw12_HardKeeps : Nat := 8
abbrev F.q15 : Nat := 9
abbrev F.q13 : Nat := 10
abbrev F.q95 : Nat := 11
abbrev F.q14 : Nat := 12
abbrev F.q4 : Nat := 13
abbrev F.q87 : Nat := 14
abbrev F.hard_Hard_Ask : Nat := 15
abbrev F.q90 : Nat := 16
abbrev F.hard_Hard_State : Nat := 17
abbrev F.hard_Hard_Leave : Nat := 18
abbrev F.hard_Hard_Waiting : Nat := 19
abbrev F.q16 : Nat := 20
abbrev F.q83 : Nat := 21
abbrev F.q84 : Nat := 22
abbrev F.q81 : Nat := 23
abbrev F.q25 : Nat := 24
abbrev F.q82 : Nat := 25
abbrev F.q88 : Nat := 26
abbrev F.q85 : Nat := 27
abbrev F.hard_Hard_Down : Nat := 28
abbrev F.q86 : Nat := 29
abbrev F.q91 : Nat := 30
abbrev F.q89 : Nat := 31
abbrev F.q17 : Nat := 32
abbrev F.q101 : Nat := 33
abbrev F.q125 : Nat := 34
abbrev F.q119 : Nat := 35
abbrev F.q109 : Nat := 36
abbrev F.q106 : Nat := 37
abbrev F.q9 : Nat := 38
abbrev F.q1 : Nat := 39
abbrev F.q10 : Nat := 40
abbrev F.q93 : Nat := 41
abbrev F.q104 : Nat := 42
abbrev F.q5 : Nat := 43
abbrev F.quiet_Chan_Ask : Nat := 44
abbrev F.q94 : Nat := 45
abbrev F.q92 : Nat := 46
abbrev F.q105 : Nat := 47
abbrev F.q7 : Nat := 48
abbrev F.q22 : Nat := 49
abbrev F.q98 : Nat := 50
abbrev F.q96 : Nat := 51
abbrev F.q123 : Nat := 52
abbrev F.quiet_Chan_Leave : Nat := 53
abbrev F.q18 : Nat := 54
abbrev F.q19 : Nat := 55
abbrev F.q20 : Nat := 56
abbrev F.q97 : Nat := 57
abbrev F.q121 : Nat := 58
abbrev F.q61 : Nat := 59
abbrev F.q26 : Nat := 60
abbrev F.q62 : Nat := 61
abbrev F.q27 : Nat := 62
abbrev F.q56 : Nat := 63
abbrev F.q28 : Nat := 64
abbrev F.q41 : Nat := 65
abbrev F.q29 : Nat := 66
abbrev F.q46 : Nat := 67
abbrev F.q37 : Nat := 68
abbrev F.q30 : Nat := 69
abbrev F.q58 : Nat := 70
abbrev F.q31 : Nat := 71
abbrev F.q53 : Nat := 72
abbrev F.q32 : Nat := 73
abbrev F.q39 : Nat := 74
abbrev F.q33 : Nat := 75
abbrev F.q59 : Nat := 76
abbrev F.q71 : Nat := 77
abbrev F.q34 : Nat := 78
abbrev F.q57 : Nat := 79
abbrev F.q35 : Nat := 80
abbrev F.q47 : Nat := 81
abbrev F.q36 : Nat := 82
abbrev F.q40 : Nat := 83
abbrev F.q120 : Nat := 84
abbrev F.q107 : Nat := 85
abbrev F.q122 : Nat := 86
abbrev F.power_Grid_Down : Nat := 87
abbrev F.q99 : Nat := 88
abbrev F.q38 : Nat := 89
abbrev F.q126 : Nat := 90
abbrev F.q2 : Nat := 91
abbrev F.q11 : Nat := 92
abbrev F.q8 : Nat := 93
abbrev F.q6 : Nat := 94
abbrev F.q110 : Nat := 95
abbrev F.q115 : Nat := 96
abbrev F.q24 : Nat := 97
abbrev F.q103 : Nat := 98
abbrev F.q113 : Nat := 99
abbrev F.q111 : Nat := 100
abbrev F.q23 : Nat := 101
abbrev F.q127 : Nat := 102
abbrev F.q21 : Nat := 103
abbrev F.q100 : Nat := 104
abbrev F.q124 : Nat := 105
abbrev F.q63 : Nat := 106
abbrev F.q73 : Nat := 107
abbrev F.q42 : Nat := 108
abbrev F.q72 : Nat := 109
abbrev F.q43 : Nat := 110
abbrev F.q60 : Nat := 111
abbrev F.q44 : Nat := 112
abbrev F.q74 : Nat := 113
abbrev F.q45 : Nat := 114
abbrev F.q64 : Nat := 115
abbrev F.q75 : Nat := 116
abbrev F.q70 : Nat := 117
abbrev F.q54 : Nat := 118
abbrev F.q55 : Nat := 119
abbrev F.q48 : Nat := 120
abbrev F.q49 : Nat := 121
abbrev F.q50 : Nat := 122
abbrev F.q51 : Nat := 123
abbrev F.q52 : Nat := 124
abbrev F.q116 : Nat := 125
abbrev F.q108 : Nat := 126
abbrev F.q102 : Nat := 127
abbrev F.q65 : Nat := 128
abbrev F.q67 : Nat := 129
abbrev F.q69 : Nat := 130
abbrev F.q66 : Nat := 131
abbrev F.q68 : Nat := 132
abbrev F.q3 : Nat := 133
abbrev F.q0 : Nat := 134
abbrev F.q118 : Nat := 135
abbrev F.q114 : Nat := 136
abbrev F.q112 : Nat := 137
abbrev F.q76 : Nat := 138
abbrev F.q117 : Nat := 139
abbrev F.q80 : Nat := 140
abbrev F.q77 : Nat := 141
abbrev F.q79 : Nat := 142
abbrev F.q78 : Nat := 143
abbrev F.runtime_boundsError_Error : Nat := 144
abbrev F.runtime_boundsError_RuntimeError : Nat := 145
abbrev F.runtime_errorString_Error : Nat := 146
abbrev F.runtime_errorString_RuntimeError : Nat := 147
abbrev F.runtime_plainError_Error : Nat := 148
abbrev F.runtime_plainError_RuntimeError : Nat := 149
abbrev F.runtime_errorAddressString_Error : Nat := 150
abbrev F.runtime_errorAddressString_RuntimeError : Nat := 151
abbrev F.runtime_TypeAssertionError_Error : Nat := 152
abbrev F.runtime_TypeAssertionError_RuntimeError : Nat := 153
abbrev F.runtime_PanicNilError_Error : Nat := 154
abbrev F.runtime_PanicNilError_RuntimeError : Nat := 155
abbrev F.internal_abi_Type_Align : Nat := 156
abbrev F.internal_runtime_maps_unhashableTypeError_Error : Nat := 157
abbrev F.internal_runtime_maps_unhashableTypeError_RuntimeError : Nat := 158
abbrev F.api_Errno_Error : Nat := 159
abbrev F.power_Grid_Left : Nat := 160
abbrev F.quiet_Chan_Denied : Nat := 161
abbrev F.internal_abi_Kind_String : Nat := 162
abbrev F.var_s_door_quiet_letters_is_laid_by_its_own_initialiser_plain_data_look_11 : Nat := 163
abbrev F.var_s_door_gosem_cut_vars_holds_initialisers_alone_see_the_manifest_s_row_cutvarsword_look_11_test_files_too : Nat := 164
abbrev F.var_s_door_the_look_of_gosem_cut_vars_went_over_the_folder_that_the_caller_named_as_the_repository_s_root_look_11 : Nat := 165
abbrev F.gosem_cut_vars : Nat := 166

def C.g3_b : LO := [
 X.o 6 (.move (.cst (.bool true)))]
def C.g3 : LO := C.g3_b
def C.g3_w := pO C.g3.eq_1
def C.brg : ICode := .keep [] (.seq (.region C.g3) .ret)
def C.brg_w := pC C.brg.eq_1
def C.bw_b : LO := [
 X.m 135 18,
 X.o 136 (.bin .add (X.s 135) (X.i 1)),
 X.m 18 136]
def C.bw : LO := C.bw_b
def C.bw_w := pO C.bw.eq_1
def C.brr : ICode := .keep [2, 8, 9, 16, 18] (.region C.bw)
def C.brr_w := pC C.brr.eq_1
def C.g2_b : LO := [
 X.o 6 (.move (.cst (.bool false)))]
def C.g2 : LO := C.g2_b
def C.g2_w := pO C.g2.eq_1
def C.br0 : ICode := .seq (.region C.g2) .ret
def C.br0_w := pC C.br0.eq_1
def C.br8 : ICode := .keep [2, 8, 9, 16, 18, 189] (.cond (X.s 189) C.br0 .skip)
def C.br8_w := pC C.br8.eq_1
def C.g1_b : LO := [
 X.m 173 21,
 X.o 174 (.len (X.s 173)),
 X.o 175 (.bin .neq (X.s 174) (X.i 1)),
 X.m 176 175,
 X.f 176 177 (.move (X.s 21)),
 X.f 176 178 (.idxAddr 4 (X.s 177) (X.i 0)),
 X.f 176 179 (.fldAddr 2 (X.s 178)),
 X.f 176 180 (.load1 (X.s 179)),
 X.o 181 (.pick (X.s 176) (.cst (.bool true)) (X.s 180)),
 X.m 182 181,
 X.f 182 183 (.move (X.s 21)),
 X.f 182 184 (.idxAddr 4 (X.s 183) (X.i 0)),
 X.f 182 185 (.fldAddr 3 (X.s 184)),
 X.f 182 186 (.load1 (X.s 185)),
 X.f 182 187 (.move (X.s 22)),
 X.f 182 188 (.bin .neq (X.s 186) (X.s 187)),
 X.o 189 (.pick (X.s 182) (.cst (.bool true)) (X.s 188))]
def C.g1 : LO := C.g1_b
def C.g1_w := pO C.g1.eq_1
def C.bsj : ICode := .keep [2, 8, 9, 16, 18, 21, 22] (.seq (.region C.g1) C.br8)
def C.bsj_w := pC C.bsj.eq_1
def C.gz_b : LO := [
 X.o 164 (.fldAddr 3 (X.s 8)),
 X.o 165 (.load1 (X.s 164)),
 X.m 166 18,
 X.o 167 (.idxAddr 6 (X.s 165) (X.s 166)),
 X.o 168 (.fldAddr 4 (X.s 167)),
 X.o 169 (.load1 (X.s 168)),
 X.o 170 (.idxAddr 2 (X.s 169) (X.i 0)),
 X.o 171 (.fldAddr 0 (X.s 170)),
 X.o 172 (.load1 (X.s 171)),
 X.m 22 172]
def C.gz : LO := C.gz_b
def C.gz_w := pO C.gz.eq_1
def C.bss : ICode := .region C.gz
def C.bss_w := pC C.bss.eq_1
def C.bs0 : ICode := .keep [2, 8, 9, 16, 18, 21, 22, 163] (.cond (X.s 163) C.bss .skip)
def C.bs0_w := pC C.bs0.eq_1
def C.gq_b : LO := [
 X.o 156 (.fldAddr 3 (X.s 8)),
 X.o 157 (.load1 (X.s 156)),
 X.m 158 18,
 X.o 159 (.idxAddr 6 (X.s 157) (X.s 158)),
 X.o 160 (.fldAddr 2 (X.s 159)),
 X.o 161 (.load1 (X.s 160)),
 X.m 162 16,
 X.o 163 (.bin .eql (X.s 161) (X.s 162))]
def C.gq : LO := C.gq_b
def C.gq_w := pO C.gq.eq_1
def C.bs1 : ICode := .keep [2, 8, 9, 16, 18, 21, 22] (.seq (.seq (.region C.gq) C.bs0) C.bsj)
def C.bs1_w := pC C.bs1.eq_1
def C.gy_b : LO := [
 X.m 155 2,
 X.m 22 155]
def C.gy : LO := C.gy_b
def C.gy_w := pO C.gy.eq_1
def C.bs2 : ICode := .keep [2, 8, 9, 16, 18, 21] (.seq (.region C.gy) C.bs1)
def C.bs2_w := pC C.bs2.eq_1
def C.bx_b : LO := [
 X.m 153 9,
 X.o 154 (.call F.q90 [X.s 153, .cst (.int .u32 0)]),
 X.m 21 154]
def C.bx : LO := C.bx_b
def C.bx_w := pO C.bx.eq_1
def C.brh : ICode := .keep [2, 8, 9, 16, 18] (.seq (.region C.bx) C.bs2)
def C.brh_w := pC C.brh.eq_1
def C.cb_b : LO := [
 X.m 150 9,
 X.m 151 19,
 X.o 152 (.call F.q87 [X.s 150, X.s 151, .cst (.bool false), .cst (.int .u32 0)])]
def C.cb : LO := C.cb_b
def C.cb_w := pO C.cb.eq_1
def C.brj : ICode := .keep [2, 8, 9, 16, 18, 19] (.seq (.region C.cb) C.brh)
def C.brj_w := pC C.brj.eq_1
def C.b9_b : LO := [
 X.m 146 18,
 X.o 147 (.call F.q4 [X.s 146, X.i 0]),
 X.m 145 147,
 X.o 148 (.extract (X.s 145) 0),
 X.o 149 (.extract (X.s 145) 1),
 X.m 19 148,
 X.m 20 149]
def C.b9 : LO := C.b9_b
def C.b9_w := pO C.b9.eq_1
def C.brk : ICode := .keep [2, 8, 9, 16, 18] (.seq (.region C.b9) C.brj)
def C.brk_w := pC C.brk.eq_1
def C.brl : ICode := .keep [2, 8, 9, 16, 18, 144] (.cond (X.s 144) (.exit 7) .skip)
def C.brl_w := pC C.brl.eq_1
def C.gx_b : LO := [
 X.o 137 (.fldAddr 3 (X.s 8)),
 X.o 138 (.load1 (X.s 137)),
 X.m 139 18,
 X.o 140 (.idxAddr 6 (X.s 138) (X.s 139)),
 X.o 141 (.fldAddr 4 (X.s 140)),
 X.o 142 (.load1 (X.s 141)),
 X.o 143 (.len (X.s 142)),
 X.o 144 (.bin .eql (X.s 143) (X.i 0))]
def C.gx : LO := C.gx_b
def C.gx_w := pO C.gx.eq_1
def C.bp6 : ICode := .seq (.seq (.region C.gx) C.brl) C.brk
def C.bp6_w := pC C.bp6.eq_1
def C.brm : ICode := .keep [2, 8, 9, 16, 18] (.seq (.block 7 C.bp6) C.brr)
def C.brm_w := pC C.brm.eq_1
def C.brn : ICode := .keep [2, 8, 9, 16, 18, 134] (.cond (X.s 134) .skip (.exit 6))
def C.brn_w := pC C.brn.eq_1
def C.gw_b : LO := [
 X.m 130 18,
 X.o 131 (.fldAddr 3 (X.s 8)),
 X.o 132 (.load1 (X.s 131)),
 X.o 133 (.len (X.s 132)),
 X.o 134 (.bin .lss (X.s 130) (X.s 133))]
def C.gw : LO := C.gw_b
def C.gw_w := pO C.gw.eq_1
def C.cm8 : ICode := .keep [2, 8, 9, 16, 18] (.seq (.seq (.region C.gw) C.brn) C.brm)
def C.cm8_w := pC C.cm8.eq_1
def C.bp7 : ICode := .loop C.cm8
def C.bp7_w := pC C.bp7.eq_1
def C.brp : ICode := .keep [2, 8, 9, 16, 18] (.block 6 C.bp7)
def C.brp_w := pC C.brp.eq_1
def C.gv_b : LO := [
 X.o 18 (.move (X.i 0))]
def C.gv : LO := C.gv_b
def C.gv_w := pO C.gv.eq_1
def C.brs : ICode := .keep [2, 8, 9, 16] (.seq (.seq (.region C.gv) C.brp) C.brg)
def C.brs_w := pC C.brs.eq_1
def C.dp_b : LO := [
 X.o 6 (.move (.cst (.bool false)))]
def C.dp : LO := C.dp_b
def C.dp_w := pO C.dp.eq_1
def C.brt : ICode := .seq (.region C.dp) .ret
def C.brt_w := pC C.brt.eq_1
def C.brv : ICode := .keep [2, 8, 9, 16, 129] (.cond (X.s 129) C.brt .skip)
def C.brv_w := pC C.brv.eq_1
def C.dn_b : LO := [
 X.m 126 9,
 X.m 127 11,
 X.o 128 (.call F.q81 [X.s 126, X.s 127]),
 X.o 129 (.un .not (X.s 128))]
def C.dn : LO := C.dn_b
def C.dn_w := pO C.dn.eq_1
def C.v8 : ICode := .keep [2, 8, 9, 11, 16] (.seq (.seq (.region C.dn) C.brv) C.brs)
def C.v8_w := pC C.v8.eq_1
def C.b8_b : LO := [
 X.m 113 17,
 X.o 114 (.bin .add (X.s 113) (X.i 1)),
 X.m 17 114]
def C.b8 : LO := C.b8_b
def C.b8_w := pO C.b8.eq_1
def C.brw : ICode := .keep [2, 8, 9, 11, 16, 17] (.region C.b8)
def C.brw_w := pC C.brw.eq_1
def C.gs_b : LO := [
 X.m 124 9,
 X.o 125 (.call F.q90 [X.s 124, .cst (.int .u32 0)])]
def C.gs : LO := C.gs_b
def C.gs_w := pO C.gs.eq_1
def C.brx : ICode := .keep [2, 8, 9, 11, 16, 17] (.region C.gs)
def C.brx_w := pC C.brx.eq_1
def C.gr_b : LO := [
 X.o 6 (.move (.cst (.bool false)))]
def C.gr : LO := C.gr_b
def C.gr_w := pO C.gr.eq_1
def C.bry : ICode := .seq (.region C.gr) .ret
def C.bry_w := pC C.bry.eq_1
def C.brq : ICode := .keep [2, 8, 9, 11, 16, 17, 123] (.cond (X.s 123) C.bry .skip)
def C.brq_w := pC C.brq.eq_1
def C.gp_b : LO := [
 X.m 115 9,
 X.m 116 11,
 X.o 117 (.call F.q81 [X.s 115, X.s 116]),
 X.m 118 117,
 X.f 118 119 (.move (X.s 9)),
 X.f 118 120 (.move (X.s 16)),
 X.f 118 121 (.call F.q85 [X.s 119, X.s 120]),
 X.f 118 122 (.un .not (X.s 121)),
 X.o 123 (.pick (X.s 118) (.cst (.bool true)) (X.s 122))]
def C.gp : LO := C.gp_b
def C.gp_w := pO C.gp.eq_1
def C.bp8 : ICode := .seq (.seq (.region C.gp) C.brq) C.brx
def C.bp8_w := pC C.bp8.eq_1
def C.brz : ICode := .keep [2, 8, 9, 11, 16, 17] (.seq (.block 5 C.bp8) C.brw)
def C.brz_w := pC C.brz.eq_1
def C.br1 : ICode := .keep [2, 8, 9, 11, 16, 17, 112] (.cond (X.s 112) .skip (.exit 4))
def C.br1_w := pC C.br1.eq_1
def C.cm_b : LO := [
 X.m 105 17,
 X.o 106 (.fldAddr 2 (X.s 8)),
 X.o 107 (.load1 (X.s 106)),
 X.m 108 16,
 X.o 109 (.idxAddr 1 (X.s 107) (X.s 108)),
 X.o 110 (.fldAddr 0 (X.s 109)),
 X.o 111 (.load1 (X.s 110)),
 X.o 112 (.bin .leq (X.s 105) (X.s 111))]
def C.cm : LO := C.cm_b
def C.cm_w := pO C.cm.eq_1
def C.cm9 : ICode := .keep [2, 8, 9, 11, 16, 17] (.seq (.seq (.region C.cm) C.br1) C.brz)
def C.cm9_w := pC C.cm9.eq_1
def C.bp9 : ICode := .loop C.cm9
def C.bp9_w := pC C.bp9.eq_1
def C.br2 : ICode := .keep [2, 8, 9, 11, 16, 17] (.block 4 C.bp9)
def C.br2_w := pC C.br2.eq_1
def C.gn_b : LO := [
 X.o 17 (.move (X.i 0))]
def C.gn : LO := C.gn_b
def C.gn_w := pO C.gn.eq_1
def C.br3 : ICode := .keep [2, 8, 9, 11, 16] (.seq (.seq (.region C.gn) C.br2) C.v8)
def C.br3_w := pC C.br3.eq_1
def C.gm_b : LO := [
 X.o 6 (.move (.cst (.bool false)))]
def C.gm : LO := C.gm_b
def C.gm_w := pO C.gm.eq_1
def C.br4 : ICode := .seq (.region C.gm) .ret
def C.br4_w := pC C.br4.eq_1
def C.br5 : ICode := .keep [2, 8, 9, 11, 16, 104] (.cond (X.s 104) C.br4 .skip)
def C.br5_w := pC C.br5.eq_1
def C.gl_b : LO := [
 X.m 90 9,
 X.m 91 16,
 X.o 92 (.call F.q82 [X.s 90, X.s 91]),
 X.o 93 (.bin .neq (X.s 92) (X.i 0)),
 X.m 94 93,
 X.f 94 95 (.move (X.s 9)),
 X.f 94 96 (.move (X.s 11)),
 X.f 94 97 (.call F.q81 [X.s 95, X.s 96]),
 X.o 98 (.pick (X.s 94) (.cst (.bool true)) (X.s 97)),
 X.m 99 98,
 X.f 99 100 (.move (X.s 9)),
 X.f 99 101 (.move (X.s 16)),
 X.f 99 102 (.call F.q88 [X.s 100, X.s 101]),
 X.f 99 103 (.bin .neq (X.s 102) (X.i 0)),
 X.o 104 (.pick (X.s 99) (.cst (.bool true)) (X.s 103))]
def C.gl : LO := C.gl_b
def C.gl_w := pO C.gl.eq_1
def C.br6 : ICode := .keep [2, 8, 9, 11, 16] (.seq (.seq (.region C.gl) C.br5) C.br3)
def C.br6_w := pC C.br6.eq_1
def C.gk_b : LO := [
 X.o 84 (.fldAddr 3 (X.s 8)),
 X.o 85 (.load1 (X.s 84)),
 X.m 86 11,
 X.o 87 (.idxAddr 6 (X.s 85) (X.s 86)),
 X.o 88 (.fldAddr 2 (X.s 87)),
 X.o 89 (.load1 (X.s 88)),
 X.m 16 89]
def C.gk : LO := C.gk_b
def C.gk_w := pO C.gk.eq_1
def C.v9 : ICode := .keep [2, 8, 9, 11] (.seq (.region C.gk) C.br6)
def C.v9_w := pC C.v9.eq_1
def C.b5_b : LO := [
 X.m 63 13,
 X.o 64 (.bin .add (X.s 63) (X.i 1)),
 X.m 13 64]
def C.b5 : LO := C.b5_b
def C.b5_w := pO C.b5.eq_1
def C.br7 : ICode := .keep [2, 8, 9, 11, 13] (.region C.b5)
def C.br7_w := pC C.br7.eq_1
def C.b7_b : LO := [
 X.m 82 9,
 X.o 83 (.call F.q90 [X.s 82, .cst (.int .u32 0)])]
def C.b7 : LO := C.b7_b
def C.b7_w := pO C.b7.eq_1
def C.br9 : ICode := .keep [2, 8, 9, 11, 13] (.region C.b7)
def C.br9_w := pC C.br9.eq_1
def C.bv_b : LO := [
 X.m 78 9,
 X.m 79 14,
 X.m 80 2,
 X.o 81 (.call F.q87 [X.s 78, X.s 79, .cst (.bool true), X.s 80])]
def C.bv : LO := C.bv_b
def C.bv_w := pO C.bv.eq_1
def C.bsb : ICode := .keep [2, 8, 9, 11, 13, 14] (.seq (.region C.bv) C.br9)
def C.bsb_w := pC C.bsb.eq_1
def C.b6_b : LO := [
 X.m 74 13,
 X.o 75 (.call F.q4 [X.s 74, X.i 0]),
 X.m 73 75,
 X.o 76 (.extract (X.s 73) 0),
 X.o 77 (.extract (X.s 73) 1),
 X.m 14 76,
 X.m 15 77]
def C.b6 : LO := C.b6_b
def C.b6_w := pO C.b6.eq_1
def C.bsc : ICode := .keep [2, 8, 9, 11, 13] (.seq (.region C.b6) C.bsb)
def C.bsc_w := pC C.bsc.eq_1
def C.bsd : ICode := .keep [2, 8, 9, 11, 13, 72] (.cond (X.s 72) (.exit 3) .skip)
def C.bsd_w := pC C.bsd.eq_1
def C.gj_b : LO := [
 X.o 65 (.fldAddr 3 (X.s 8)),
 X.o 66 (.load1 (X.s 65)),
 X.m 67 13,
 X.o 68 (.idxAddr 6 (X.s 66) (X.s 67)),
 X.o 69 (.fldAddr 4 (X.s 68)),
 X.o 70 (.load1 (X.s 69)),
 X.o 71 (.len (X.s 70)),
 X.o 72 (.bin .eql (X.s 71) (X.i 0))]
def C.gj : LO := C.gj_b
def C.gj_w := pO C.gj.eq_1
def C.brb : ICode := .seq (.seq (.region C.gj) C.bsd) C.bsc
def C.brb_w := pC C.brb.eq_1
def C.bsf : ICode := .keep [2, 8, 9, 11, 13] (.seq (.block 3 C.brb) C.br7)
def C.bsf_w := pC C.bsf.eq_1
def C.bsg : ICode := .keep [2, 8, 9, 11, 13, 62] (.cond (X.s 62) .skip (.exit 2))
def C.bsg_w := pC C.bsg.eq_1
def C.gh_b : LO := [
 X.m 58 13,
 X.o 59 (.fldAddr 3 (X.s 8)),
 X.o 60 (.load1 (X.s 59)),
 X.o 61 (.len (X.s 60)),
 X.o 62 (.bin .lss (X.s 58) (X.s 61))]
def C.gh : LO := C.gh_b
def C.gh_w := pO C.gh.eq_1
def C.cnb : ICode := .keep [2, 8, 9, 11, 13] (.seq (.seq (.region C.gh) C.bsg) C.bsf)
def C.cnb_w := pC C.cnb.eq_1
def C.brc : ICode := .loop C.cnb
def C.brc_w := pC C.brc.eq_1
def C.bsh : ICode := .keep [2, 8, 9, 11, 13] (.block 2 C.brc)
def C.bsh_w := pC C.bsh.eq_1
def C.gg_b : LO := [
 X.o 13 (.move (X.i 0))]
def C.gg : LO := C.gg_b
def C.gg_w := pO C.gg.eq_1
def C.wb : ICode := .keep [2, 8, 9, 11] (.seq (.seq (.region C.gg) C.bsh) C.v9)
def C.wb_w := pC C.wb.eq_1
def C.cp_b : LO := [
 X.m 51 12,
 X.o 52 (.bin .add (X.s 51) (X.i 1)),
 X.m 12 52]
def C.cp : LO := C.cp_b
def C.cp_w := pO C.cp.eq_1
def C.bsk : ICode := .keep [2, 8, 9, 11, 12] (.region C.cp)
def C.bsk_w := pC C.bsk.eq_1
def C.gf_b : LO := [
 X.o 6 (.move (.cst (.bool false)))]
def C.gf : LO := C.gf_b
def C.gf_w := pO C.gf.eq_1
def C.bsl : ICode := .seq (.region C.gf) .ret
def C.bsl_w := pC C.bsl.eq_1
def C.bsm : ICode := .keep [2, 8, 9, 11, 12, 57] (.cond (X.s 57) C.bsl .skip)
def C.bsm_w := pC C.bsm.eq_1
def C.gd_b : LO := [
 X.m 53 9,
 X.o 54 (.loadN 4 (X.s 8)),
 X.m 55 12,
 X.o 56 (.call F.q16 [X.s 53, X.s 54, X.s 55]),
 X.o 57 (.un .not (X.s 56))]
def C.gd : LO := C.gd_b
def C.gd_w := pO C.gd.eq_1
def C.brd : ICode := .seq (.region C.gd) C.bsm
def C.brd_w := pC C.brd.eq_1
def C.bsn : ICode := .keep [2, 8, 9, 11, 12] (.seq (.block 1 C.brd) C.bsk)
def C.bsn_w := pC C.bsn.eq_1
def C.bsp : ICode := .keep [2, 8, 9, 11, 12, 50] (.cond (X.s 50) .skip (.exit 0))
def C.bsp_w := pC C.bsp.eq_1
def C.g6_b : LO := [
 X.m 46 12,
 X.o 47 (.fldAddr 3 (X.s 8)),
 X.o 48 (.load1 (X.s 47)),
 X.o 49 (.len (X.s 48)),
 X.o 50 (.bin .lss (X.s 46) (X.s 49))]
def C.g6 : LO := C.g6_b
def C.g6_w := pO C.g6.eq_1
def C.cnc : ICode := .keep [2, 8, 9, 11, 12] (.seq (.seq (.region C.g6) C.bsp) C.bsn)
def C.cnc_w := pC C.cnc.eq_1
def C.brf : ICode := .loop C.cnc
def C.brf_w := pC C.brf.eq_1
def C.bsr : ICode := .keep [2, 8, 9, 11, 12] (.block 0 C.brf)
def C.bsr_w := pC C.bsr.eq_1
def C.g5_b : LO := [
 X.o 12 (.move (X.i 0))]
def C.g5 : LO := C.g5_b
def C.g5_w := pO C.g5.eq_1
def C.bst : ICode := .keep [2, 8, 9, 11] (.seq (.seq (.region C.g5) C.bsr) C.wb)
def C.bst_w := pC C.bst.eq_1
def C.cn_b : LO := [
 X.m 41 1,
 X.o 42 (.fldAddr 3 (X.s 8)),
 X.o 43 (.load1 (X.s 42)),
 X.o 44 (.len (X.s 43)),
 X.o 45 (.call F.q14 [X.s 41, X.s 44]),
 X.m 11 45]
def C.cn : LO := C.cn_b
def C.cn_w := pO C.cn.eq_1
def C.bmw : ICode := .keep [1, 2, 8, 9] (.seq (.region C.cn) C.bst)
def C.bmw_w := pC C.bmw.eq_1
def C.g4_b : LO := [
 X.o 6 (.move (.cst (.bool false)))]
def C.g4 : LO := C.g4_b
def C.g4_w := pO C.g4.eq_1
def C.bsv : ICode := .seq (.region C.g4) .ret
def C.bsv_w := pC C.bsv.eq_1
def C.bsw : ICode := .keep [1, 2, 8, 9, 40] (.cond (X.s 40) C.bsv .skip)
def C.bsw_w := pC C.bsw.eq_1
def C.g0_b : LO := [
 X.m 31 7,
 X.o 32 (.un .not (X.s 31)),
 X.m 33 32,
 X.f 33 34 (.move (X.s 9)),
 X.f 33 35 (.eqP 0 false (X.s 34) (.cst (.nilp))),
 X.o 36 (.pick (X.s 33) (.cst (.bool true)) (X.s 35)),
 X.m 37 36,
 X.f 37 38 (.move (X.s 10)),
 X.f 37 39 (.bin .neq (X.s 38) (X.i 0)),
 X.o 40 (.pick (X.s 37) (.cst (.bool true)) (X.s 39))]
def C.g0 : LO := C.g0_b
def C.g0_w := pO C.g0.eq_1
def C.bsx : ICode := .keep [1, 2, 7, 8, 9, 10] (.seq (.seq (.region C.g0) C.bsw) C.bmw)
def C.bsx_w := pC C.bsx.eq_1
def C.gt_b : LO := [
 X.o 27 (.loadN 4 (X.s 8)),
 X.o 28 (.call F.q95 [X.s 27]),
 X.m 26 28,
 X.o 29 (.extract (X.s 26) 0),
 X.o 30 (.extract (X.s 26) 1),
 X.m 9 29,
 X.m 10 30]
def C.gt : LO := C.gt_b
def C.gt_w := pO C.gt.eq_1
def C.bsy : ICode := .keep [1, 2, 7, 8] (.seq (.region C.gt) C.bsx)
def C.bsy_w := pC C.bsy.eq_1
def C.cl_b : LO := [
 X.m 24 0,
 X.o 25 (.call F.q13 [X.s 24]),
 X.o 8 (.alloc [.nils, .nils, .nils, .nils]),
 X.n (.storeN 4 (X.s 8) (X.s 25))]
def C.cl : LO := C.cl_b
def C.cl_w := pO C.cl.eq_1
def C.bsq : ICode := .keep [0, 1, 2, 7] (.seq (.region C.cl) C.bsy)
def C.bsq_w := pC C.bsq.eq_1
def C.gc_b : LO := [
 X.o 23 (.call F.q15 []),
 X.m 7 23]
def C.gc : LO := C.gc_b
def C.gc_w := pO C.gc.eq_1
def C.bsz : ICode := .keep [0, 1, 2] (.seq (.region C.gc) C.bsq)
def C.bsz_w := pC C.bsz.eq_1
def C.gb_b : LO := [
 X.o 6 (.move (.cst (.bool false)))]
def C.gb : LO := C.gb_b
def C.gb_w := pO C.gb.eq_1
def C.q12 : IFunc := ⟨3, [.slot 6], .seq (.region C.gb) C.bsz⟩
def C.q12_W := aI (aI (aI (aI (aI (aI @C.g3_w (aI @C.brg_w @C.bw_w)) (aI @C.brr_w (aI @C.g2_w @C.br0_w))) (aI (aI @C.br8_w (aI @C.g1_w @C.bsj_w)) (aI (aI @C.gz_w @C.bss_w) (aI @C.bs0_w @C.gq_w)))) (aI (aI (aI @C.bs1_w (aI @C.gy_w @C.bs2_w)) (aI @C.bx_w (aI @C.brh_w @C.cb_w))) (aI (aI @C.brj_w (aI @C.b9_w @C.brk_w)) (aI (aI @C.brl_w @C.gx_w) (aI @C.bp6_w @C.brm_w))))) (aI (aI (aI (aI @C.brn_w (aI @C.gw_w @C.bp7_w)) (aI @C.brp_w (aI @C.gv_w @C.brs_w))) (aI (aI @C.dp_w (aI @C.brt_w @C.brv_w)) (aI (aI @C.dn_w @C.v8_w) (aI @C.b8_w @C.brw_w)))) (aI (aI (aI @C.gs_w (aI @C.brx_w @C.gr_w)) (aI (aI @C.bry_w @C.brq_w) (aI @C.gp_w @C.bp8_w))) (aI (aI @C.brz_w (aI @C.br1_w @C.cm_w)) (aI (aI @C.bp9_w @C.br2_w) (aI @C.gn_w @C.br3_w)))))) (aI (aI (aI (aI (aI @C.gm_w (aI @C.br4_w @C.br5_w)) (aI @C.gl_w (aI @C.br6_w @C.gk_w))) (aI (aI @C.v9_w (aI @C.b5_w @C.br7_w)) (aI (aI @C.b7_w @C.br9_w) (aI @C.bv_w @C.bsb_w)))) (aI (aI (aI @C.b6_w (aI @C.bsc_w @C.bsd_w)) (aI @C.gj_w (aI @C.brb_w @C.bsf_w))) (aI (aI @C.bsg_w (aI @C.gh_w @C.brc_w)) (aI (aI @C.bsh_w @C.gg_w) (aI @C.wb_w @C.cp_w))))) (aI (aI (aI (aI @C.bsk_w (aI @C.gf_w @C.bsl_w)) (aI @C.bsm_w (aI @C.gd_w @C.brd_w))) (aI (aI @C.bsn_w (aI @C.bsp_w @C.g6_w)) (aI (aI @C.brf_w @C.bsr_w) (aI @C.g5_w @C.bst_w)))) (aI (aI (aI @C.cn_w (aI @C.bmw_w @C.g4_w)) (aI (aI @C.bsv_w @C.bsw_w) (aI @C.g0_w @C.bsx_w))) (aI (aI @C.gt_w (aI @C.bsy_w @C.cl_w)) (aI (aI @C.bsq_w @C.gc_w) (aI @C.bsz_w @C.gb_w))))))
def C.q12_B := aI (aI (aI (aI (aI @C.g3_b.eq_1 @C.bw_b.eq_1) (aI @C.g2_b.eq_1 (aI @C.g1_b.eq_1 @C.gz_b.eq_1))) (aI (aI @C.gq_b.eq_1 @C.gy_b.eq_1) (aI @C.bx_b.eq_1 (aI @C.cb_b.eq_1 @C.b9_b.eq_1)))) (aI (aI (aI @C.gx_b.eq_1 @C.gw_b.eq_1) (aI @C.gv_b.eq_1 (aI @C.dp_b.eq_1 @C.dn_b.eq_1))) (aI (aI @C.b8_b.eq_1 (aI @C.gs_b.eq_1 @C.gr_b.eq_1)) (aI @C.gp_b.eq_1 (aI @C.cm_b.eq_1 @C.gn_b.eq_1))))) (aI (aI (aI (aI @C.gm_b.eq_1 @C.gl_b.eq_1) (aI @C.gk_b.eq_1 (aI @C.b5_b.eq_1 @C.b7_b.eq_1))) (aI (aI @C.bv_b.eq_1 (aI @C.b6_b.eq_1 @C.gj_b.eq_1)) (aI @C.gh_b.eq_1 (aI @C.gg_b.eq_1 @C.cp_b.eq_1)))) (aI (aI (aI @C.gf_b.eq_1 @C.gd_b.eq_1) (aI @C.g6_b.eq_1 (aI @C.g5_b.eq_1 @C.cn_b.eq_1))) (aI (aI @C.g4_b.eq_1 (aI @C.g0_b.eq_1 @C.gt_b.eq_1)) (aI @C.cl_b.eq_1 (aI @C.gc_b.eq_1 @C.gb_b.eq_1)))))

def C.wt_b : LO := [
 X.m 28 2,
 X.o 29 (.call F.q81 [X.s 28, X.i 0]),
 X.o 30 (.un .not (X.s 29)),
 X.m 31 30,
 X.t 31 32 (.move (X.s 2)),
 X.t 31 33 (.call F.q91 [X.s 32, X.i 0]),
 X.t 31 34 (.bin .eql (X.s 33) (X.i 0)),
 X.o 35 (.pick (X.s 31) (X.s 34) (.cst (.bool false))),
 X.m 36 35,
 X.t 36 37 (.move (X.s 2)),
 X.t 36 38 (.call F.q89 [X.s 37, X.i 0]),
 X.o 39 (.pick (X.s 36) (X.s 38) (.cst (.bool false))),
 X.m 0 39]
def C.wt : LO := C.wt_b
def C.wt_w := pO C.wt.eq_1
def C.b7k : ICode := .keep [2] (.seq (.region C.wt) .ret)
def C.b7k_w := pC C.b7k.eq_1
def C.ws_b : LO := [
 X.m 26 2,
 X.o 27 (.call F.q90 [X.s 26, .cst (.int .u32 0)])]
def C.ws : LO := C.ws_b
def C.ws_w := pO C.ws.eq_1
def C.b7l : ICode := .keep [2] (.seq (.region C.ws) C.b7k)
def C.b7l_w := pC C.b7l.eq_1
def C.wr_b : LO := [
 X.o 0 (.move (.cst (.bool false)))]
def C.wr : LO := C.wr_b
def C.wr_w := pO C.wr.eq_1
def C.b7m : ICode := .seq (.region C.wr) .ret
def C.b7m_w := pC C.b7m.eq_1
def C.b7n : ICode := .keep [2, 25] (.cond (X.s 25) C.b7m .skip)
def C.b7n_w := pC C.b7n.eq_1
def C.wp_b : LO := [
 X.m 20 2,
 X.o 21 (.eqP 0 false (X.s 20) (.cst (.nilp))),
 X.m 22 21,
 X.f 22 23 (.move (X.s 3)),
 X.f 22 24 (.bin .neq (X.s 23) (X.i 0)),
 X.o 25 (.pick (X.s 22) (.cst (.bool true)) (X.s 24))]
def C.wp : LO := C.wp_b
def C.wp_w := pO C.wp.eq_1
def C.b7p : ICode := .keep [2, 3] (.seq (.seq (.region C.wp) C.b7n) C.b7l)
def C.b7p_w := pC C.b7p.eq_1
def C.wn_b : LO := [
 X.o 16 (.loadN 4 (X.s 1)),
 X.o 17 (.call F.q95 [X.s 16]),
 X.m 15 17,
 X.o 18 (.extract (X.s 15) 0),
 X.o 19 (.extract (X.s 15) 1),
 X.m 2 18,
 X.m 3 19]
def C.wn : LO := C.wn_b
def C.wn_w := pO C.wn.eq_1
def C.b7r : ICode := .keep [1] (.seq (.region C.wn) C.b7p)
def C.b7r_w := pC C.b7r.eq_1
def C.cs_b : LO := [
 X.o 4 (.build [.int .u8 0, .nils, .int .u64 0, .int .i64 0, .int .i64 0, .int .i64 0] [(0, 1, .cst (.int .u8 111)), (2, 1, .cst (.int .u64 1))]),
 X.o 5 (.buildSlice 6 1 [.int .u8 0, .nils, .int .u64 0, .int .i64 0, .int .i64 0, .int .i64 0] [(0, 6, X.s 4)]),
 X.o 6 (.build [.int .i64 0, .int .i64 0, .bool false] [(0, 1, X.i (-1))]),
 X.o 7 (.buildSlice 3 1 [.int .i64 0, .int .i64 0, .bool false] [(0, 3, X.s 6)]),
 X.o 8 (.build [.int .i64 0] []),
 X.o 9 (.buildSlice 1 1 [.int .i64 0] [(0, 1, X.s 8)]),
 X.o 10 (.build [.int .u32 0, .bool false] [(0, 1, .cst (.int .u32 5))]),
 X.o 11 (.buildSlice 2 1 [.int .u32 0, .bool false] [(0, 2, X.s 10)]),
 X.o 12 (.build [.int .i64 0, .int .i64 0, .int .i64 0, .int .u32 0, .nils, .nils] [(4, 1, X.s 11)]),
 X.o 13 (.buildSlice 6 1 [.int .i64 0, .int .i64 0, .int .i64 0, .int .u32 0, .nils, .nils] [(0, 6, X.s 12)]),
 X.o 14 (.build [.nils, .nils, .nils, .nils] [(0, 1, X.s 5), (1, 1, X.s 7), (2, 1, X.s 9), (3, 1, X.s 13)]),
 X.o 1 (.alloc [.nils, .nils, .nils, .nils]),
 X.n (.storeN 4 (X.s 1) (X.s 14))]
def C.cs : LO := C.cs_b
def C.cs_w := pO C.cs.eq_1
def C.bm3 : ICode := .keep [] (.seq (.region C.cs) C.b7r)
def C.bm3_w := pC C.bm3.eq_1
def C.cr_b : LO := [
 X.o 0 (.move (.cst (.bool false)))]
def C.cr : LO := C.cr_b
def C.cr_w := pO C.cr.eq_1
def C.q15 : IFunc := ⟨0, [.slot 0], .seq (.region C.cr) C.bm3⟩
def C.q15_W := aI (aI (aI @C.wt_w (aI @C.b7k_w @C.ws_w)) (aI (aI @C.b7l_w @C.wr_w) (aI @C.b7m_w @C.b7n_w))) (aI (aI @C.wp_w (aI @C.b7p_w @C.wn_w)) (aI (aI @C.b7r_w @C.cs_w) (aI @C.bm3_w @C.cr_w)))
def C.q15_B := aI (aI @C.wt_b.eq_1 (aI @C.ws_b.eq_1 @C.wr_b.eq_1)) (aI (aI @C.wp_b.eq_1 @C.wn_b.eq_1) (aI @C.cs_b.eq_1 @C.cr_b.eq_1))

def C.bg_b : LO := [
 X.o 351 (.loadN 4 (X.s 6)),
 X.n (.storeN 4 (X.s 2) (X.s 351))]
def C.bg : LO := C.bg_b
def C.bg_w := pO C.bg.eq_1
def C.bmx : ICode := .keep [2, 6] (.seq (.region C.bg) .ret)
def C.bmx_w := pC C.bmx.eq_1
def C.h6_b : LO := [
 X.m 224 14,
 X.o 225 (.bin .add (X.s 224) (X.i 1)),
 X.m 14 225]
def C.h6 : LO := C.h6_b
def C.h6_w := pO C.h6.eq_1
def C.btr : ICode := .keep [2, 4, 6, 14] (.region C.h6)
def C.btr_w := pC C.btr.eq_1
def C.jk_b : LO := [
 X.o 345 (.fldAddr 3 (X.s 6)),
 X.o 346 (.load1 (X.s 345)),
 X.o 347 (.loadN 6 (X.s 16)),
 X.o 348 (.buildSlice 6 1 [.int .i64 0, .int .i64 0, .int .i64 0, .int .u32 0, .nils, .nils] [(0, 6, X.s 347)]),
 X.o 349 (.append 6 80 (X.s 346) (X.s 348)),
 X.o 350 (.fldAddr 3 (X.s 6)),
 X.n (.store1 (X.s 350) (X.s 349))]
def C.jk : LO := C.jk_b
def C.jk_w := pO C.jk.eq_1
def C.btw : ICode := .keep [2, 4, 6, 14, 16] (.region C.jk)
def C.btw_w := pC C.btw.eq_1
def C.jj_b : LO := [
 X.o 332 (.fldAddr 5 (X.s 16)),
 X.o 333 (.load1 (X.s 332)),
 X.m 334 4,
 X.m 335 15,
 X.o 336 (.bin .add (X.s 335) (X.i 11)),
 X.o 337 (.idxAddr 1 (X.s 334) (X.s 336)),
 X.o 338 (.load1 (X.s 337)),
 X.o 339 (.bin .quo (X.s 338) (X.i 3)),
 X.m 340 14,
 X.o 341 (.bin .rem (X.s 339) (X.s 340)),
 X.o 342 (.buildSlice 1 1 [.int .i64 0] [(0, 1, X.s 341)]),
 X.o 343 (.append 1 8 (X.s 333) (X.s 342)),
 X.o 344 (.fldAddr 5 (X.s 16)),
 X.n (.store1 (X.s 344) (X.s 343))]
def C.jj : LO := C.jj_b
def C.jj_w := pO C.jj.eq_1
def C.bt1 : ICode := .keep [2, 4, 6, 14, 15, 16, 331] (.cond (X.s 331) (.region C.jj) .skip)
def C.bt1_w := pC C.bt1.eq_1
def C.jh_b : LO := [
 X.m 321 14,
 X.o 322 (.bin .gtr (X.s 321) (X.i 1)),
 X.m 323 322,
 X.t 323 324 (.move (X.s 4)),
 X.t 323 325 (.move (X.s 15)),
 X.t 323 326 (.bin .add (X.s 325) (X.i 11)),
 X.t 323 327 (.idxAddr 1 (X.s 324) (X.s 326)),
 X.t 323 328 (.load1 (X.s 327)),
 X.t 323 329 (.bin .rem (X.s 328) (X.i 3)),
 X.t 323 330 (.bin .eql (X.s 329) (X.i 1)),
 X.o 331 (.pick (X.s 323) (X.s 330) (.cst (.bool false)))]
def C.jh : LO := C.jh_b
def C.jh_w := pO C.jh.eq_1
def C.bvb : ICode := .keep [2, 4, 6, 14, 15, 16] (.seq (.seq (.region C.jh) C.bt1) C.btw)
def C.bvb_w := pC C.bvb.eq_1
def C.jg_b : LO := [
 X.o 309 (.fldAddr 5 (X.s 16)),
 X.o 310 (.load1 (X.s 309)),
 X.m 311 4,
 X.m 312 15,
 X.o 313 (.bin .add (X.s 312) (X.i 10)),
 X.o 314 (.idxAddr 1 (X.s 311) (X.s 313)),
 X.o 315 (.load1 (X.s 314)),
 X.m 316 14,
 X.o 317 (.bin .rem (X.s 315) (X.s 316)),
 X.o 318 (.buildSlice 1 1 [.int .i64 0] [(0, 1, X.s 317)]),
 X.o 319 (.append 1 8 (X.s 310) (X.s 318)),
 X.o 320 (.fldAddr 5 (X.s 16)),
 X.n (.store1 (X.s 320) (X.s 319))]
def C.jg : LO := C.jg_b
def C.jg_w := pO C.jg.eq_1
def C.bvk : ICode := .keep [2, 4, 6, 14, 15, 16, 308] (.cond (X.s 308) (.region C.jg) .skip)
def C.bvk_w := pC C.bvk.eq_1
def C.jf_b : LO := [
 X.m 298 14,
 X.o 299 (.bin .gtr (X.s 298) (X.i 0)),
 X.m 300 299,
 X.t 300 301 (.move (X.s 4)),
 X.t 300 302 (.move (X.s 15)),
 X.t 300 303 (.bin .add (X.s 302) (X.i 9)),
 X.t 300 304 (.idxAddr 1 (X.s 301) (X.s 303)),
 X.t 300 305 (.load1 (X.s 304)),
 X.t 300 306 (.bin .rem (X.s 305) (X.i 2)),
 X.t 300 307 (.bin .eql (X.s 306) (X.i 1)),
 X.o 308 (.pick (X.s 300) (X.s 307) (.cst (.bool false)))]
def C.jf : LO := C.jf_b
def C.jf_w := pO C.jf.eq_1
def C.bvs : ICode := .keep [2, 4, 6, 14, 15, 16] (.seq (.seq (.region C.jf) C.bvk) C.bvb)
def C.bvs_w := pC C.bvs.eq_1
def C.jc_b : LO := [
 X.m 271 17,
 X.o 272 (.bin .add (X.s 271) (X.i 1)),
 X.m 17 272]
def C.jc : LO := C.jc_b
def C.jc_w := pO C.jc.eq_1
def C.bvq : ICode := .keep [2, 4, 6, 14, 15, 16, 17] (.region C.jc)
def C.bvq_w := pC C.bvq.eq_1
def C.jd_b : LO := [
 X.o 273 (.fldAddr 4 (X.s 16)),
 X.o 274 (.load1 (X.s 273)),
 X.m 275 4,
 X.m 276 15,
 X.o 277 (.bin .add (X.s 276) (X.i 5)),
 X.m 278 17,
 X.o 279 (.bin .add (X.s 277) (X.s 278)),
 X.o 280 (.idxAddr 1 (X.s 275) (X.s 279)),
 X.o 281 (.load1 (X.s 280)),
 X.o 282 (.bin .rem (X.s 281) (X.i 7)),
 X.o 283 (.conv .u32 (X.s 282)),
 X.m 284 4,
 X.m 285 15,
 X.o 286 (.bin .add (X.s 285) (X.i 5)),
 X.m 287 17,
 X.o 288 (.bin .add (X.s 286) (X.s 287)),
 X.o 289 (.idxAddr 1 (X.s 284) (X.s 288)),
 X.o 290 (.load1 (X.s 289)),
 X.o 291 (.bin .quo (X.s 290) (X.i 7)),
 X.o 292 (.bin .rem (X.s 291) (X.i 2)),
 X.o 293 (.bin .eql (X.s 292) (X.i 0)),
 X.o 294 (.build [.int .u32 0, .bool false] [(0, 1, X.s 283), (1, 1, X.s 293)]),
 X.o 295 (.buildSlice 2 1 [.int .u32 0, .bool false] [(0, 2, X.s 294)]),
 X.o 296 (.append 2 8 (X.s 274) (X.s 295)),
 X.o 297 (.fldAddr 4 (X.s 16)),
 X.n (.store1 (X.s 297) (X.s 296))]
def C.jd : LO := C.jd_b
def C.jd_w := pO C.jd.eq_1
def C.bth : ICode := .region C.jd
def C.bth_w := pC C.bth.eq_1
def C.btj : ICode := .keep [2, 4, 6, 14, 15, 16, 17] (.seq (.block 12 C.bth) C.bvq)
def C.btj_w := pC C.btj.eq_1
def C.btk : ICode := .keep [2, 4, 6, 14, 15, 16, 17, 270] (.cond (X.s 270) .skip (.exit 11))
def C.btk_w := pC C.btk.eq_1
def C.jb_b : LO := [
 X.m 263 17,
 X.m 264 4,
 X.m 265 15,
 X.o 266 (.bin .add (X.s 265) (X.i 4)),
 X.o 267 (.idxAddr 1 (X.s 264) (X.s 266)),
 X.o 268 (.load1 (X.s 267)),
 X.o 269 (.bin .rem (X.s 268) (X.i 5)),
 X.o 270 (.bin .lss (X.s 263) (X.s 269))]
def C.jb : LO := C.jb_b
def C.jb_w := pO C.jb.eq_1
def C.cnd : ICode := .keep [2, 4, 6, 14, 15, 16, 17] (.seq (.seq (.region C.jb) C.btk) C.btj)
def C.cnd_w := pC C.cnd.eq_1
def C.bs3 : ICode := .loop C.cnd
def C.bs3_w := pC C.bs3.eq_1
def C.btl : ICode := .keep [2, 4, 6, 14, 15, 16, 17] (.block 11 C.bs3)
def C.btl_w := pC C.btl.eq_1
def C.h9_b : LO := [
 X.o 17 (.move (X.i 0))]
def C.h9 : LO := C.h9_b
def C.h9_w := pO C.h9.eq_1
def C.btm : ICode := .keep [2, 4, 6, 14, 15, 16] (.seq (.seq (.region C.h9) C.btl) C.bvs)
def C.btm_w := pC C.btm.eq_1
def C.bh_b : LO := [
 X.m 229 4,
 X.m 230 15,
 X.o 231 (.idxAddr 1 (X.s 229) (X.s 230)),
 X.o 232 (.load1 (X.s 231)),
 X.o 233 (.fldAddr 0 (X.s 6)),
 X.o 234 (.load1 (X.s 233)),
 X.o 235 (.len (X.s 234)),
 X.o 236 (.bin .rem (X.s 232) (X.s 235)),
 X.m 237 4,
 X.m 238 15,
 X.o 239 (.bin .add (X.s 238) (X.i 1)),
 X.o 240 (.idxAddr 1 (X.s 237) (X.s 239)),
 X.o 241 (.load1 (X.s 240)),
 X.o 242 (.fldAddr 1 (X.s 6)),
 X.o 243 (.load1 (X.s 242)),
 X.o 244 (.len (X.s 243)),
 X.o 245 (.bin .rem (X.s 241) (X.s 244)),
 X.m 246 4,
 X.m 247 15,
 X.o 248 (.bin .add (X.s 247) (X.i 2)),
 X.o 249 (.idxAddr 1 (X.s 246) (X.s 248)),
 X.o 250 (.load1 (X.s 249)),
 X.o 251 (.fldAddr 2 (X.s 6)),
 X.o 252 (.load1 (X.s 251)),
 X.o 253 (.len (X.s 252)),
 X.o 254 (.bin .rem (X.s 250) (X.s 253)),
 X.m 255 4,
 X.m 256 15,
 X.o 257 (.bin .add (X.s 256) (X.i 3)),
 X.o 258 (.idxAddr 1 (X.s 255) (X.s 257)),
 X.o 259 (.load1 (X.s 258)),
 X.o 260 (.bin .rem (X.s 259) (X.i 3)),
 X.o 261 (.conv .u32 (X.s 260)),
 X.o 262 (.build [.int .i64 0, .int .i64 0, .int .i64 0, .int .u32 0, .nils, .nils] [(0, 1, X.s 236), (1, 1, X.s 245), (2, 1, X.s 254), (3, 1, X.s 261)]),
 X.o 16 (.alloc [.int .i64 0, .int .i64 0, .int .i64 0, .int .u32 0, .nils, .nils]),
 X.n (.storeN 6 (X.s 16) (X.s 262))]
def C.bh : LO := C.bh_b
def C.bh_w := pO C.bh.eq_1
def C.btn : ICode := .keep [2, 4, 6, 14, 15] (.seq (.region C.bh) C.btm)
def C.btn_w := pC C.btn.eq_1
def C.h7_b : LO := [
 X.m 226 14,
 X.o 227 (.bin .mul (X.i 12) (X.s 226)),
 X.o 228 (.bin .add (X.i 60) (X.s 227)),
 X.m 15 228]
def C.h7 : LO := C.h7_b
def C.h7_w := pO C.h7.eq_1
def C.bs4 : ICode := .seq (.region C.h7) C.btn
def C.bs4_w := pC C.bs4.eq_1
def C.wc : ICode := .keep [2, 4, 6, 14] (.seq (.block 10 C.bs4) C.btr)
def C.wc_w := pC C.wc.eq_1
def C.btp : ICode := .keep [2, 4, 6, 14, 223] (.cond (X.s 223) .skip (.exit 9))
def C.btp_w := pC C.btp.eq_1
def C.h5_b : LO := [
 X.m 217 14,
 X.m 218 4,
 X.o 219 (.idxAddr 1 (X.s 218) (X.i 4)),
 X.o 220 (.load1 (X.s 219)),
 X.o 221 (.bin .rem (X.s 220) (X.i 4)),
 X.o 222 (.bin .add (X.i 1) (X.s 221)),
 X.o 223 (.bin .lss (X.s 217) (X.s 222))]
def C.h5 : LO := C.h5_b
def C.h5_w := pO C.h5.eq_1
def C.cnf : ICode := .keep [2, 4, 6, 14] (.seq (.seq (.region C.h5) C.btp) C.wc)
def C.cnf_w := pC C.cnf.eq_1
def C.bs5 : ICode := .loop C.cnf
def C.bs5_w := pC C.bs5.eq_1
def C.bts : ICode := .keep [2, 4, 6, 14] (.block 9 C.bs5)
def C.bts_w := pC C.bts.eq_1
def C.h4_b : LO := [
 X.o 14 (.move (X.i 0))]
def C.h4 : LO := C.h4_b
def C.h4_w := pO C.h4.eq_1
def C.bmy : ICode := .keep [2, 4, 6] (.seq (.seq (.region C.h4) C.bts) C.bmx)
def C.bmy_w := pC C.bmy.eq_1
def C.h2_b : LO := [
 X.m 203 13,
 X.o 204 (.bin .add (X.s 203) (X.i 1)),
 X.m 13 204]
def C.h2 : LO := C.h2_b
def C.h2_w := pO C.h2.eq_1
def C.btt : ICode := .keep [2, 4, 6, 13] (.region C.h2)
def C.btt_w := pC C.btt.eq_1
def C.h3_b : LO := [
 X.o 205 (.fldAddr 2 (X.s 6)),
 X.o 206 (.load1 (X.s 205)),
 X.m 207 4,
 X.m 208 13,
 X.o 209 (.bin .add (X.i 50) (X.s 208)),
 X.o 210 (.idxAddr 1 (X.s 207) (X.s 209)),
 X.o 211 (.load1 (X.s 210)),
 X.o 212 (.bin .rem (X.s 211) (X.i 4)),
 X.o 213 (.build [.int .i64 0] [(0, 1, X.s 212)]),
 X.o 214 (.buildSlice 1 1 [.int .i64 0] [(0, 1, X.s 213)]),
 X.o 215 (.append 1 8 (X.s 206) (X.s 214)),
 X.o 216 (.fldAddr 2 (X.s 6)),
 X.n (.store1 (X.s 216) (X.s 215))]
def C.h3 : LO := C.h3_b
def C.h3_w := pO C.h3.eq_1
def C.bs6 : ICode := .region C.h3
def C.bs6_w := pC C.bs6.eq_1
def C.wd : ICode := .keep [2, 4, 6, 13] (.seq (.block 8 C.bs6) C.btt)
def C.wd_w := pC C.wd.eq_1
def C.btv : ICode := .keep [2, 4, 6, 13, 202] (.cond (X.s 202) .skip (.exit 7))
def C.btv_w := pC C.btv.eq_1
def C.h1_b : LO := [
 X.m 196 13,
 X.m 197 4,
 X.o 198 (.idxAddr 1 (X.s 197) (X.i 3)),
 X.o 199 (.load1 (X.s 198)),
 X.o 200 (.bin .rem (X.s 199) (X.i 3)),
 X.o 201 (.bin .add (X.i 1) (X.s 200)),
 X.o 202 (.bin .lss (X.s 196) (X.s 201))]
def C.h1 : LO := C.h1_b
def C.h1_w := pO C.h1.eq_1
def C.cng : ICode := .keep [2, 4, 6, 13] (.seq (.seq (.region C.h1) C.btv) C.wd)
def C.cng_w := pC C.cng.eq_1
def C.bs7 : ICode := .loop C.cng
def C.bs7_w := pC C.bs7.eq_1
def C.btx : ICode := .keep [2, 4, 6, 13] (.block 7 C.bs7)
def C.btx_w := pC C.btx.eq_1
def C.h0_b : LO := [
 X.o 13 (.move (X.i 0))]
def C.h0 : LO := C.h0_b
def C.h0_w := pO C.h0.eq_1
def C.bmq : ICode := .keep [2, 4, 6] (.seq (.seq (.region C.h0) C.btx) C.bmy)
def C.bmq_w := pC C.bmq.eq_1
def C.hv_b : LO := [
 X.m 153 11,
 X.o 154 (.bin .add (X.s 153) (X.i 1)),
 X.m 11 154]
def C.hv : LO := C.hv_b
def C.hv_w := pO C.hv.eq_1
def C.bty : ICode := .keep [2, 4, 6, 11] (.region C.hv)
def C.bty_w := pC C.bty.eq_1
def C.hz_b : LO := [
 X.o 190 (.fldAddr 1 (X.s 6)),
 X.o 191 (.load1 (X.s 190)),
 X.o 192 (.loadN 3 (X.s 12)),
 X.o 193 (.buildSlice 3 1 [.int .i64 0, .int .i64 0, .bool false] [(0, 3, X.s 192)]),
 X.o 194 (.append 3 24 (X.s 191) (X.s 193)),
 X.o 195 (.fldAddr 1 (X.s 6)),
 X.n (.store1 (X.s 195) (X.s 194))]
def C.hz : LO := C.hz_b
def C.hz_w := pO C.hz.eq_1
def C.btq : ICode := .keep [2, 4, 6, 11, 12] (.region C.hz)
def C.btq_w := pC C.btq.eq_1
def C.hq_b : LO := [
 X.m 181 4,
 X.m 182 11,
 X.o 183 (.bin .add (X.i 44) (X.s 182)),
 X.o 184 (.idxAddr 1 (X.s 181) (X.s 183)),
 X.o 185 (.load1 (X.s 184)),
 X.o 186 (.bin .quo (X.s 185) (X.i 3)),
 X.m 187 11,
 X.o 188 (.bin .rem (X.s 186) (X.s 187)),
 X.o 189 (.fldAddr 0 (X.s 12)),
 X.n (.store1 (X.s 189) (X.s 188))]
def C.hq : LO := C.hq_b
def C.hq_w := pO C.hq.eq_1
def C.btz : ICode := .keep [2, 4, 6, 11, 12, 180] (.cond (X.s 180) (.region C.hq) .skip)
def C.btz_w := pC C.btz.eq_1
def C.hx_b : LO := [
 X.m 170 11,
 X.o 171 (.bin .gtr (X.s 170) (X.i 0)),
 X.m 172 171,
 X.t 172 173 (.move (X.s 4)),
 X.t 172 174 (.move (X.s 11)),
 X.t 172 175 (.bin .add (X.i 44) (X.s 174)),
 X.t 172 176 (.idxAddr 1 (X.s 173) (X.s 175)),
 X.t 172 177 (.load1 (X.s 176)),
 X.t 172 178 (.bin .rem (X.s 177) (X.i 3)),
 X.t 172 179 (.bin .gtr (X.s 178) (X.i 0)),
 X.o 180 (.pick (X.s 172) (X.s 179) (.cst (.bool false)))]
def C.hx : LO := C.hx_b
def C.hx_w := pO C.hx.eq_1
def C.bmz : ICode := .keep [2, 4, 6, 11, 12] (.seq (.seq (.region C.hx) C.btz) C.btq)
def C.bmz_w := pC C.bmz.eq_1
def C.hw_b : LO := [
 X.m 155 4,
 X.m 156 11,
 X.o 157 (.bin .add (X.i 40) (X.s 156)),
 X.o 158 (.idxAddr 1 (X.s 155) (X.s 157)),
 X.o 159 (.load1 (X.s 158)),
 X.o 160 (.bin .rem (X.s 159) (X.i 4)),
 X.m 161 4,
 X.m 162 11,
 X.o 163 (.bin .add (X.i 40) (X.s 162)),
 X.o 164 (.idxAddr 1 (X.s 161) (X.s 163)),
 X.o 165 (.load1 (X.s 164)),
 X.o 166 (.bin .quo (X.s 165) (X.i 4)),
 X.o 167 (.bin .rem (X.s 166) (X.i 2)),
 X.o 168 (.bin .eql (X.s 167) (X.i 1)),
 X.o 169 (.build [.int .i64 0, .int .i64 0, .bool false] [(0, 1, X.i (-1)), (1, 1, X.s 160), (2, 1, X.s 168)]),
 X.o 12 (.alloc [.int .i64 0, .int .i64 0, .bool false]),
 X.n (.storeN 3 (X.s 12) (X.s 169))]
def C.hw : LO := C.hw_b
def C.hw_w := pO C.hw.eq_1
def C.bs8 : ICode := .seq (.region C.hw) C.bmz
def C.bs8_w := pC C.bs8.eq_1
def C.wf : ICode := .keep [2, 4, 6, 11] (.seq (.block 6 C.bs8) C.bty)
def C.wf_w := pC C.wf.eq_1
def C.bt0 : ICode := .keep [2, 4, 6, 11, 152] (.cond (X.s 152) .skip (.exit 5))
def C.bt0_w := pC C.bt0.eq_1
def C.ht_b : LO := [
 X.m 146 11,
 X.m 147 4,
 X.o 148 (.idxAddr 1 (X.s 147) (X.i 2)),
 X.o 149 (.load1 (X.s 148)),
 X.o 150 (.bin .rem (X.s 149) (X.i 4)),
 X.o 151 (.bin .add (X.i 1) (X.s 150)),
 X.o 152 (.bin .lss (X.s 146) (X.s 151))]
def C.ht : LO := C.ht_b
def C.ht_w := pO C.ht.eq_1
def C.cnh : ICode := .keep [2, 4, 6, 11] (.seq (.seq (.region C.ht) C.bt0) C.wf)
def C.cnh_w := pC C.cnh.eq_1
def C.bs9 : ICode := .loop C.cnh
def C.bs9_w := pC C.bs9.eq_1
def C.bt2 : ICode := .keep [2, 4, 6, 11] (.block 5 C.bs9)
def C.bt2_w := pC C.bt2.eq_1
def C.hs_b : LO := [
 X.o 11 (.move (X.i 0))]
def C.hs : LO := C.hs_b
def C.hs_w := pO C.hs.eq_1
def C.bm0 : ICode := .keep [2, 4, 6] (.seq (.seq (.region C.hs) C.bt2) C.bmq)
def C.bm0_w := pC C.bm0.eq_1
def C.hb_b : LO := [
 X.m 62 8,
 X.o 63 (.bin .add (X.s 62) (X.i 1)),
 X.m 8 63]
def C.hb : LO := C.hb_b
def C.hb_w := pO C.hb.eq_1
def C.bt3 : ICode := .keep [2, 3, 4, 6, 7, 8] (.region C.hb)
def C.bt3_w := pC C.bt3.eq_1
def C.hr_b : LO := [
 X.o 140 (.fldAddr 0 (X.s 6)),
 X.o 141 (.load1 (X.s 140)),
 X.o 142 (.loadN 6 (X.s 10)),
 X.o 143 (.buildSlice 6 1 [.int .u8 0, .nils, .int .u64 0, .int .i64 0, .int .i64 0, .int .i64 0] [(0, 6, X.s 142)]),
 X.o 144 (.append 6 64 (X.s 141) (X.s 143)),
 X.o 145 (.fldAddr 0 (X.s 6)),
 X.n (.store1 (X.s 145) (X.s 144))]
def C.hr : LO := C.hr_b
def C.hr_w := pO C.hr.eq_1
def C.bt4 : ICode := .keep [2, 3, 4, 6, 7, 8, 10] (.region C.hr)
def C.bt4_w := pC C.bt4.eq_1
def C.hj_b : LO := [
 X.m 106 4,
 X.m 107 9,
 X.o 108 (.bin .add (X.s 107) (X.i 2)),
 X.o 109 (.idxAddr 1 (X.s 106) (X.s 108)),
 X.o 110 (.load1 (X.s 109)),
 X.o 111 (.bin .quo (X.s 110) (X.i 32)),
 X.o 112 (.bin .rem (X.s 111) (X.i 4)),
 X.o 113 (.fldAddr 5 (X.s 10)),
 X.n (.store1 (X.s 113) (X.s 112))]
def C.hj : LO := C.hj_b
def C.hj_w := pO C.hj.eq_1
def C.bt5 : ICode := .keep [2, 3, 4, 6, 7, 8, 9, 10] (.region C.hj)
def C.bt5_w := pC C.bt5.eq_1
def C.hh_b : LO := [
 X.m 97 4,
 X.m 98 9,
 X.o 99 (.bin .add (X.s 98) (X.i 2)),
 X.o 100 (.idxAddr 1 (X.s 97) (X.s 99)),
 X.o 101 (.load1 (X.s 100)),
 X.o 102 (.bin .quo (X.s 101) (X.i 8)),
 X.o 103 (.bin .rem (X.s 102) (X.i 4)),
 X.o 104 (.bin .add (X.i 1) (X.s 103)),
 X.o 105 (.fldAddr 4 (X.s 10)),
 X.n (.store1 (X.s 105) (X.s 104))]
def C.hh : LO := C.hh_b
def C.hh_w := pO C.hh.eq_1
def C.bt6 : ICode := .keep [2, 3, 4, 6, 7, 8, 9, 10] (.seq (.region C.hh) C.bt5)
def C.bt6_w := pC C.bt6.eq_1
def C.hg_b : LO := [
 X.m 89 4,
 X.m 90 9,
 X.o 91 (.bin .add (X.s 90) (X.i 2)),
 X.o 92 (.idxAddr 1 (X.s 89) (X.s 91)),
 X.o 93 (.load1 (X.s 92)),
 X.o 94 (.bin .rem (X.s 93) (X.i 8)),
 X.o 95 (.bin .add (X.i 1) (X.s 94)),
 X.o 96 (.fldAddr 3 (X.s 10)),
 X.n (.store1 (X.s 96) (X.s 95))]
def C.hg : LO := C.hg_b
def C.hg_w := pO C.hg.eq_1
def C.hm_b : LO := [
 X.m 116 4,
 X.m 117 9,
 X.o 118 (.bin .add (X.s 117) (X.i 2)),
 X.o 119 (.idxAddr 1 (X.s 116) (X.s 118)),
 X.o 120 (.load1 (X.s 119)),
 X.o 121 (.bin .rem (X.s 120) (X.i 8)),
 X.o 122 (.bin .add (X.i 1) (X.s 121)),
 X.o 123 (.fldAddr 4 (X.s 10)),
 X.n (.store1 (X.s 123) (X.s 122))]
def C.hm : LO := C.hm_b
def C.hm_w := pO C.hm.eq_1
def C.hp_b : LO := [
 X.o 126 (.fldAddr 1 (X.s 10)),
 X.o 127 (.load1 (X.s 126)),
 X.m 128 4,
 X.m 129 9,
 X.o 130 (.bin .add (X.s 129) (X.i 2)),
 X.o 131 (.idxAddr 1 (X.s 128) (X.s 130)),
 X.o 132 (.load1 (X.s 131)),
 X.o 133 (.fldAddr 0 (X.s 6)),
 X.o 134 (.load1 (X.s 133)),
 X.o 135 (.len (X.s 134)),
 X.o 136 (.bin .rem (X.s 132) (X.s 135)),
 X.o 137 (.buildSlice 1 1 [.int .i64 0] [(0, 1, X.s 136)]),
 X.o 138 (.append 1 8 (X.s 127) (X.s 137)),
 X.o 139 (.fldAddr 1 (X.s 10)),
 X.n (.store1 (X.s 139) (X.s 138))]
def C.hp : LO := C.hp_b
def C.hp_w := pO C.hp.eq_1
def C.bt7 : ICode := .keep [2, 3, 4, 6, 7, 8, 9, 10, 124] (.cond (X.s 124) (.region C.hp) .skip)
def C.bt7_w := pC C.bt7.eq_1
def C.hn_b : LO := [
 X.o 125 (.bin .eql (X.s 86) (.cst (.int .u8 109))),
 X.m 124 125]
def C.hn : LO := C.hn_b
def C.hn_w := pO C.hn.eq_1
def C.bt8 : ICode := .seq (.region C.hn) C.bt7
def C.bt8_w := pC C.bt8.eq_1
def C.bt9 : ICode := .keep [2, 3, 4, 6, 7, 8, 9, 10, 86, 114] (.cond (X.s 114) (.region C.hm) C.bt8)
def C.bt9_w := pC C.bt9.eq_1
def C.hl_b : LO := [
 X.o 115 (.bin .eql (X.s 86) (.cst (.int .u8 100))),
 X.m 114 115]
def C.hl : LO := C.hl_b
def C.hl_w := pO C.hl.eq_1
def C.bvc : ICode := .seq (.region C.hg) C.bt6
def C.bvc_w := pC C.bvc.eq_1
def C.bvd : ICode := .seq (.region C.hl) C.bt9
def C.bvd_w := pC C.bvd.eq_1
def C.bvf : ICode := .keep [2, 3, 4, 6, 7, 8, 9, 10, 86, 87] (.cond (X.s 87) C.bvc C.bvd)
def C.bvf_w := pC C.bvf.eq_1
def C.hf_b : LO := [
 X.o 88 (.bin .eql (X.s 86) (.cst (.int .u8 112))),
 X.m 87 88]
def C.hf : LO := C.hf_b
def C.hf_w := pO C.hf.eq_1
def C.btb : ICode := .seq (.region C.hf) C.bvf
def C.btb_w := pC C.btb.eq_1
def C.bvg : ICode := .keep [2, 3, 4, 6, 7, 8, 9, 10, 86] (.block 4 C.btb)
def C.bvg_w := pC C.bvg.eq_1
def C.hd_b : LO := [
 X.o 85 (.fldAddr 0 (X.s 10)),
 X.o 86 (.load1 (X.s 85))]
def C.hd : LO := C.hd_b
def C.hd_w := pO C.hd.eq_1
def C.bm1 : ICode := .keep [2, 3, 4, 6, 7, 8, 9, 10] (.seq (.seq (.region C.hd) C.bvg) C.bt4)
def C.bm1_w := pC C.bm1.eq_1
def C.bf_b : LO := [
 X.m 67 7,
 X.m 68 4,
 X.m 69 9,
 X.o 70 (.idxAddr 1 (X.s 68) (X.s 69)),
 X.o 71 (.load1 (X.s 70)),
 X.o 72 (.bin .rem (X.s 71) (X.i 5)),
 X.o 73 (.strIdx (X.s 67) (X.s 72)),
 X.m 74 4,
 X.m 75 9,
 X.o 76 (.bin .add (X.s 75) (X.i 1)),
 X.o 77 (.idxAddr 1 (X.s 74) (X.s 76)),
 X.o 78 (.load1 (X.s 77)),
 X.o 79 (.fldAddr 0 (X.s 6)),
 X.o 80 (.load1 (X.s 79)),
 X.o 81 (.len (X.s 80)),
 X.o 82 (.bin .rem (X.s 78) (X.s 81)),
 X.o 83 (.buildSlice 1 1 [.int .i64 0] [(0, 1, X.s 82)]),
 X.o 84 (.build [.int .u8 0, .nils, .int .u64 0, .int .i64 0, .int .i64 0, .int .i64 0] [(0, 1, X.s 73), (1, 1, X.s 83)]),
 X.o 10 (.alloc [.int .u8 0, .nils, .int .u64 0, .int .i64 0, .int .i64 0, .int .i64 0]),
 X.n (.storeN 6 (X.s 10) (X.s 84))]
def C.bf : LO := C.bf_b
def C.bf_w := pO C.bf.eq_1
def C.bvh : ICode := .keep [2, 3, 4, 6, 7, 8, 9] (.seq (.region C.bf) C.bm1)
def C.bvh_w := pC C.bvh.eq_1
def C.hc_b : LO := [
 X.m 64 8,
 X.o 65 (.bin .mul (X.i 3) (X.s 64)),
 X.o 66 (.bin .add (X.i 10) (X.s 65)),
 X.m 9 66]
def C.hc : LO := C.hc_b
def C.hc_w := pO C.hc.eq_1
def C.btc : ICode := .seq (.region C.hc) C.bvh
def C.btc_w := pC C.btc.eq_1
def C.wg : ICode := .keep [2, 3, 4, 6, 7, 8] (.seq (.block 3 C.btc) C.bt3)
def C.wg_w := pC C.wg.eq_1
def C.bvj : ICode := .keep [2, 3, 4, 6, 7, 8, 61] (.cond (X.s 61) .skip (.exit 2))
def C.bvj_w := pC C.bvj.eq_1
def C.g9_b : LO := [
 X.m 55 8,
 X.m 56 4,
 X.m 57 3,
 X.o 58 (.idxAddr 1 (X.s 56) (X.s 57)),
 X.o 59 (.load1 (X.s 58)),
 X.o 60 (.bin .rem (X.s 59) (X.i 9)),
 X.o 61 (.bin .lss (X.s 55) (X.s 60))]
def C.g9 : LO := C.g9_b
def C.g9_w := pO C.g9.eq_1
def C.cnj : ICode := .keep [2, 3, 4, 6, 7, 8] (.seq (.seq (.region C.g9) C.bvj) C.wg)
def C.cnj_w := pC C.cnj.eq_1
def C.btd : ICode := .loop C.cnj
def C.btd_w := pC C.btd.eq_1
def C.bvl : ICode := .keep [2, 3, 4, 6, 7, 8] (.block 2 C.btd)
def C.bvl_w := pC C.bvl.eq_1
def C.g8_b : LO := [
 X.o 8 (.move (X.i 0))]
def C.g8 : LO := C.g8_b
def C.g8_w := pO C.g8.eq_1
def C.bvm : ICode := .keep [2, 3, 4, 6, 7] (.seq (.seq (.region C.g8) C.bvl) C.bm0)
def C.bvm_w := pC C.bvm.eq_1
def C.jr_b : LO := [
 X.o 7 (.move (.cst (.str [112, 100, 103, 109, 103])))]
def C.jr : LO := C.jr_b
def C.jr_w := pO C.jr.eq_1
def C.bvn : ICode := .keep [2, 3, 4, 6] (.seq (.region C.jr) C.bvm)
def C.bvn_w := pC C.bvn.eq_1
def C.jp_b : LO := [
 X.o 3 (.move (X.i 1))]
def C.jp : LO := C.jp_b
def C.jp_w := pO C.jp.eq_1
def C.wh : ICode := .keep [2, 4, 6] (.seq (.region C.jp) C.bvn)
def C.wh_w := pC C.wh.eq_1
def C.jn_b : LO := [
 X.m 47 4,
 X.o 48 (.idxAddr 1 (X.s 47) (X.i 0)),
 X.o 49 (.load1 (X.s 48)),
 X.o 50 (.bin .add (X.i 1) (X.s 49)),
 X.o 51 (.conv .u64 (X.s 50)),
 X.o 52 (.build [.int .u8 0, .nils, .int .u64 0, .int .i64 0, .int .i64 0, .int .i64 0] [(0, 1, .cst (.int .u8 111)), (2, 1, X.s 51)]),
 X.o 53 (.buildSlice 6 1 [.int .u8 0, .nils, .int .u64 0, .int .i64 0, .int .i64 0, .int .i64 0] [(0, 6, X.s 52)]),
 X.o 54 (.build [.nils, .nils, .nils, .nils] [(0, 1, X.s 53)]),
 X.o 6 (.alloc [.nils, .nils, .nils, .nils]),
 X.n (.storeN 4 (X.s 6) (X.s 54))]
def C.jn : LO := C.jn_b
def C.jn_w := pO C.jn.eq_1
def C.bm2 : ICode := .keep [2, 4] (.seq (.region C.jn) C.wh)
def C.bm2_w := pC C.bm2.eq_1
def C.jl_b : LO := [
 X.m 28 5,
 X.o 29 (.bin .add (X.s 28) (X.i 1)),
 X.m 5 29]
def C.jl : LO := C.jl_b
def C.jl_w := pO C.jl.eq_1
def C.bvp : ICode := .keep [0, 2, 4, 5] (.region C.jl)
def C.bvp_w := pC C.bvp.eq_1
def C.jm_b : LO := [
 X.m 30 4,
 X.m 31 5,
 X.m 32 0,
 X.m 33 5,
 X.m 34 0,
 X.o 35 (.len (X.s 34)),
 X.o 36 (.bin .rem (X.s 33) (X.s 35)),
 X.o 37 (.idxAddr 1 (X.s 32) (X.s 36)),
 X.o 38 (.load1 (X.s 37)),
 X.m 39 5,
 X.m 40 0,
 X.o 41 (.len (X.s 40)),
 X.o 42 (.bin .quo (X.s 39) (X.s 41)),
 X.o 43 (.bin .add (X.i 1) (X.s 42)),
 X.o 44 (.bin .quo (X.s 38) (X.s 43)),
 X.o 45 (.call F.q14 [X.s 44, X.i 1000000]),
 X.o 46 (.idxAddr 1 (X.s 30) (X.s 31)),
 X.n (.store1 (X.s 46) (X.s 45))]
def C.jm : LO := C.jm_b
def C.jm_w := pO C.jm.eq_1
def C.btf : ICode := .region C.jm
def C.btf_w := pC C.btf.eq_1
def C.bvr : ICode := .keep [0, 2, 4, 5] (.seq (.block 1 C.btf) C.bvp)
def C.bvr_w := pC C.bvr.eq_1
def C.bvt : ICode := .keep [0, 2, 4, 5, 27] (.cond (X.s 27) .skip (.exit 0))
def C.bvt_w := pC C.bvt.eq_1
def C.h8_b : LO := [
 X.m 19 5,
 X.m 20 4,
 X.o 21 (.len (X.s 20)),
 X.o 22 (.bin .lss (X.s 19) (X.s 21)),
 X.m 23 22,
 X.t 23 24 (.move (X.s 0)),
 X.t 23 25 (.len (X.s 24)),
 X.t 23 26 (.bin .gtr (X.s 25) (X.i 0)),
 X.o 27 (.pick (X.s 23) (X.s 26) (.cst (.bool false)))]
def C.h8 : LO := C.h8_b
def C.h8_w := pO C.h8.eq_1
def C.cnk : ICode := .keep [0, 2, 4, 5] (.seq (.seq (.region C.h8) C.bvt) C.bvr)
def C.cnk_w := pC C.cnk.eq_1
def C.btg : ICode := .loop C.cnk
def C.btg_w := pC C.btg.eq_1
def C.bvv : ICode := .keep [0, 2, 4, 5] (.block 0 C.btg)
def C.bvv_w := pC C.bvv.eq_1
def C.hy_b : LO := [
 X.o 5 (.move (X.i 0))]
def C.hy : LO := C.hy_b
def C.hy_w := pO C.hy.eq_1
def C.bvw : ICode := .keep [0, 2, 4] (.seq (.seq (.region C.hy) C.bvv) C.bm2)
def C.bvw_w := pC C.bvw.eq_1
def C.hk_b : LO := [
 X.o 18 (.makeSlice 1 8 [.int .i64 0] (X.i 120) (X.i 120)),
 X.m 4 18]
def C.hk : LO := C.hk_b
def C.hk_w := pO C.hk.eq_1
def C.bvx : ICode := .keep [0, 2] (.seq (.region C.hk) C.bvw)
def C.bvx_w := pC C.bvx.eq_1
def C.g7_b : LO := [
 X.o 3 (.move (X.i 0))]
def C.g7 : LO := C.g7_b
def C.g7_w := pO C.g7.eq_1
def C.bvy : ICode := .keep [0, 2] (.seq (.region C.g7) C.bvx)
def C.bvy_w := pC C.bvy.eq_1
def C.bb_b : LO := [
 X.o 2 (.alloc [.nils, .nils, .nils, .nils])]
def C.bb : LO := C.bb_b
def C.bb_w := pO C.bb.eq_1
def C.q13 : IFunc := ⟨1, [.cellN 2 4], .seq (.region C.bb) C.bvy⟩
def C.q13_W := aI (aI (aI (aI (aI (aI @C.bg_w (aI @C.bmx_w @C.h6_w)) (aI (aI @C.btr_w @C.jk_w) (aI @C.btw_w @C.jj_w))) (aI (aI (aI @C.bt1_w @C.jh_w) (aI @C.bvb_w @C.jg_w)) (aI (aI @C.bvk_w @C.jf_w) (aI @C.bvs_w @C.jc_w)))) (aI (aI (aI @C.bvq_w (aI @C.jd_w @C.bth_w)) (aI (aI @C.btj_w @C.btk_w) (aI @C.jb_w @C.bs3_w))) (aI (aI (aI @C.btl_w @C.h9_w) (aI @C.btm_w @C.bh_w)) (aI (aI @C.btn_w @C.h7_w) (aI @C.bs4_w @C.wc_w))))) (aI (aI (aI (aI @C.btp_w (aI @C.h5_w @C.bs5_w)) (aI (aI @C.bts_w @C.h4_w) (aI @C.bmy_w @C.h2_w))) (aI (aI (aI @C.btt_w @C.h3_w) (aI @C.bs6_w @C.wd_w)) (aI (aI @C.btv_w @C.h1_w) (aI @C.bs7_w @C.btx_w)))) (aI (aI (aI @C.h0_w (aI @C.bmq_w @C.hv_w)) (aI (aI @C.bty_w @C.hz_w) (aI @C.btq_w @C.hq_w))) (aI (aI (aI @C.btz_w @C.hx_w) (aI @C.bmz_w @C.hw_w)) (aI (aI @C.bs8_w @C.wf_w) (aI @C.bt0_w @C.ht_w)))))) (aI (aI (aI (aI (aI @C.bs9_w (aI @C.bt2_w @C.hs_w)) (aI (aI @C.bm0_w @C.hb_w) (aI @C.bt3_w @C.hr_w))) (aI (aI (aI @C.bt4_w @C.hj_w) (aI @C.bt5_w @C.hh_w)) (aI (aI @C.bt6_w @C.hg_w) (aI @C.hm_w @C.hp_w)))) (aI (aI (aI @C.bt7_w (aI @C.hn_w @C.bt8_w)) (aI (aI @C.bt9_w @C.hl_w) (aI @C.bvc_w @C.bvd_w))) (aI (aI (aI @C.bvf_w @C.hf_w) (aI @C.btb_w @C.bvg_w)) (aI (aI @C.hd_w @C.bm1_w) (aI @C.bf_w @C.bvh_w))))) (aI (aI (aI (aI @C.hc_w (aI @C.btc_w @C.wg_w)) (aI (aI @C.bvj_w @C.g9_w) (aI @C.btd_w @C.bvl_w))) (aI (aI (aI @C.g8_w @C.bvm_w) (aI @C.jr_w @C.bvn_w)) (aI (aI @C.jp_w @C.wh_w) (aI @C.jn_w @C.bm2_w)))) (aI (aI (aI (aI @C.jl_w @C.bvp_w) (aI @C.jm_w @C.btf_w)) (aI (aI @C.bvr_w @C.bvt_w) (aI @C.h8_w @C.btg_w))) (aI (aI (aI @C.bvv_w @C.hy_w) (aI @C.bvw_w @C.hk_w)) (aI (aI @C.bvx_w @C.g7_w) (aI @C.bvy_w @C.bb_w))))))
def C.q13_B := aI (aI (aI (aI (aI @C.bg_b.eq_1 (aI @C.h6_b.eq_1 @C.jk_b.eq_1)) (aI @C.jj_b.eq_1 (aI @C.jh_b.eq_1 @C.jg_b.eq_1))) (aI (aI @C.jf_b.eq_1 (aI @C.jc_b.eq_1 @C.jd_b.eq_1)) (aI @C.jb_b.eq_1 (aI @C.h9_b.eq_1 @C.bh_b.eq_1)))) (aI (aI (aI @C.h7_b.eq_1 (aI @C.h5_b.eq_1 @C.h4_b.eq_1)) (aI @C.h2_b.eq_1 (aI @C.h3_b.eq_1 @C.h1_b.eq_1))) (aI (aI @C.h0_b.eq_1 (aI @C.hv_b.eq_1 @C.hz_b.eq_1)) (aI (aI @C.hq_b.eq_1 @C.hx_b.eq_1) (aI @C.hw_b.eq_1 @C.ht_b.eq_1))))) (aI (aI (aI (aI @C.hs_b.eq_1 (aI @C.hb_b.eq_1 @C.hr_b.eq_1)) (aI @C.hj_b.eq_1 (aI @C.hh_b.eq_1 @C.hg_b.eq_1))) (aI (aI @C.hm_b.eq_1 (aI @C.hp_b.eq_1 @C.hn_b.eq_1)) (aI (aI @C.hl_b.eq_1 @C.hf_b.eq_1) (aI @C.hd_b.eq_1 @C.bf_b.eq_1)))) (aI (aI (aI @C.hc_b.eq_1 (aI @C.g9_b.eq_1 @C.g8_b.eq_1)) (aI @C.jr_b.eq_1 (aI @C.jp_b.eq_1 @C.jn_b.eq_1))) (aI (aI @C.jl_b.eq_1 (aI @C.jm_b.eq_1 @C.h8_b.eq_1)) (aI (aI @C.hy_b.eq_1 @C.hk_b.eq_1) (aI @C.g7_b.eq_1 @C.bb_b.eq_1)))))

def C.blt_b : LO := [
 X.m 107 9,
 X.m 2 107,
 X.o 3 (.move (X.i 0))]
def C.blt : LO := C.blt_b
def C.blt_w := pO C.blt.eq_1
def C.clv : ICode := .keep [9] (.seq (.region C.blt) .ret)
def C.clv_w := pC C.clv.eq_1
def C.bls_b : LO := [
 X.m 106 6,
 X.o 2 (.move (.cst (.nilp))),
 X.m 3 106]
def C.bls : LO := C.bls_b
def C.bls_w := pO C.bls.eq_1
def C.clw : ICode := .seq (.region C.bls) .ret
def C.clw_w := pC C.clw.eq_1
def C.clx : ICode := .keep [6, 9, 105] (.cond (X.s 105) C.clw .skip)
def C.clx_w := pC C.clx.eq_1
def C.blr_b : LO := [
 X.m 104 6,
 X.o 105 (.bin .neq (X.s 104) (X.i 0))]
def C.blr : LO := C.blr_b
def C.blr_w := pO C.blr.eq_1
def C.cly : ICode := .keep [6, 9] (.seq (.region C.blr) C.clx)
def C.cly_w := pC C.cly.eq_1
def C.blp_b : LO := [
 X.m 97 9,
 X.m 98 10,
 X.o 99 (.call F.q9 [X.s 98]),
 X.m 96 99,
 X.o 100 (.extract (X.s 96) 0),
 X.o 101 (.extract (X.s 96) 1),
 X.o 102 (.nilchk (X.s 97)),
 X.o 103 (.fldAddr 3 (X.s 102)),
 X.n (.store1 (X.s 103) (X.s 100)),
 X.m 6 101]
def C.blp : LO := C.blp_b
def C.blp_w := pO C.blp.eq_1
def C.clq : ICode := .keep [9, 10] (.seq (.seq (.region C.blp) C.cly) C.clv)
def C.clq_w := pC C.clq.eq_1
def C.cf_b : LO := [
 X.o 95 (.bin .add (X.s 56) (X.i 1)),
 X.m 56 95]
def C.cf : LO := C.cf_b
def C.cf_w := pO C.cf.eq_1
def C.bnj : ICode := .keep [9, 10, 54, 55, 56] (.region C.cf)
def C.bnj_w := pC C.bnj.eq_1
def C.cd_b : LO := [
 X.m 75 9,
 X.m 76 9,
 X.o 77 (.nilchk (X.s 76)),
 X.o 78 (.fldAddr 4 (X.s 77)),
 X.o 79 (.load1 (X.s 78)),
 X.o 80 (.fldAddr 0 (X.s 12)),
 X.o 81 (.load1 (X.s 80)),
 X.o 82 (.fldAddr 1 (X.s 12)),
 X.o 83 (.load1 (X.s 82)),
 X.o 84 (.fldAddr 2 (X.s 12)),
 X.o 85 (.load1 (X.s 84)),
 X.o 86 (.fldAddr 3 (X.s 12)),
 X.o 87 (.load1 (X.s 86)),
 X.m 88 13,
 ⟨some 89, .call F.q106 [], none, [⟨.load1 (X.s 78), 79, none⟩, ⟨.load1 (X.s 80), 81, none⟩, ⟨.load1 (X.s 82), 83, none⟩, ⟨.load1 (X.s 84), 85, none⟩, ⟨.load1 (X.s 86), 87, none⟩], []⟩,
 X.o 90 (.build [.int .i64 0, .int .i64 0, .int .i64 0, .int .u32 0, .nilp, .nilp] [(0, 1, X.s 81), (1, 1, X.s 83), (2, 1, X.s 85), (3, 1, X.s 87), (4, 1, X.s 88), (5, 1, X.s 89)]),
 X.o 91 (.buildSlice 6 1 [.int .i64 0, .int .i64 0, .int .i64 0, .int .u32 0, .nilp, .nilp] [(0, 6, X.s 90)]),
 X.o 92 (.append 6 48 (X.s 79) (X.s 91)),
 X.o 93 (.nilchk (X.s 75)),
 X.o 94 (.fldAddr 4 (X.s 93)),
 X.n (.store1 (X.s 94) (X.s 92))]
def C.cd : LO := C.cd_b
def C.cd_w := pO C.cd.eq_1
def C.bnk : ICode := .keep [9, 10, 12, 13, 54, 55, 56] (.region C.cd)
def C.bnk_w := pC C.bnk.eq_1
def C.df_b : LO := [
 X.m 70 10,
 X.m 71 11,
 X.m 72 13,
 X.o 73 (.call F.q109 [X.s 72]),
 X.o 74 (.idxAddr 1 (X.s 70) (X.s 71)),
 X.n (.store1 (X.s 74) (X.s 73))]
def C.df : LO := C.df_b
def C.df_w := pO C.df.eq_1
def C.bnl : ICode := .keep [9, 10, 11, 12, 13, 54, 55, 56] (.seq (.region C.df) C.bnk)
def C.bnl_w := pC C.bnl.eq_1
def C.d4_b : LO := [
 X.m 69 14,
 X.o 2 (.move (.cst (.nilp))),
 X.m 3 69]
def C.d4 : LO := C.d4_b
def C.d4_w := pO C.d4.eq_1
def C.b2c : ICode := .seq (.region C.d4) .ret
def C.b2c_w := pC C.b2c.eq_1
def C.b1l : ICode := .keep [9, 10, 11, 12, 13, 14, 54, 55, 56, 68] (.cond (X.s 68) C.b2c .skip)
def C.b1l_w := pC C.b1l.eq_1
def C.d3_b : LO := [
 X.m 67 14,
 X.o 68 (.bin .neq (X.s 67) (X.i 0))]
def C.d3 : LO := C.d3_b
def C.d3_w := pO C.d3.eq_1
def C.b1m : ICode := .keep [9, 10, 11, 12, 13, 14, 54, 55, 56] (.seq (.seq (.region C.d3) C.b1l) C.bnl)
def C.b1m_w := pC C.b1m.eq_1
def C.dd_b : LO := [
 X.o 62 (.fldAddr 4 (X.s 12)),
 X.o 63 (.load1 (X.s 62)),
 X.o 64 (.call F.q119 [X.s 63]),
 X.m 61 64,
 X.o 65 (.extract (X.s 61) 0),
 X.o 66 (.extract (X.s 61) 1),
 X.m 13 65,
 X.m 14 66]
def C.dd : LO := C.dd_b
def C.dd_w := pO C.dd.eq_1
def C.b1n : ICode := .keep [9, 10, 11, 12, 54, 55, 56] (.seq (.region C.dd) C.b1m)
def C.b1n_w := pC C.b1n.eq_1
def C.dc_b : LO := [
 X.m 58 56,
 X.o 59 (.idxAddr 6 (X.s 54) (X.s 56)),
 X.o 60 (.loadN 6 (X.s 59)),
 X.o 12 (.alloc [.int .i64 0, .int .i64 0, .int .i64 0, .int .u32 0, .nils, .nils]),
 X.m 11 58,
 X.n (.storeN 6 (X.s 12) (X.s 60))]
def C.dc : LO := C.dc_b
def C.dc_w := pO C.dc.eq_1
def C.b1j : ICode := .seq (.region C.dc) C.b1n
def C.b1j_w := pC C.b1j.eq_1
def C.b1p : ICode := .keep [9, 10, 54, 55, 56] (.seq (.block 1 C.b1j) C.bnj)
def C.b1p_w := pC C.b1p.eq_1
def C.b1r : ICode := .keep [9, 10, 54, 55, 56, 57] (.seq (.cond (X.s 57) .skip (.exit 0)) C.b1p)
def C.b1r_w := pC C.b1r.eq_1
def C.db_b : LO := [
 X.o 57 (.bin .lss (X.s 56) (X.s 55))]
def C.db : LO := C.db_b
def C.db_w := pO C.db.eq_1
def C.cpm : ICode := .keep [9, 10, 54, 55, 56] (.seq (.region C.db) C.b1r)
def C.cpm_w := pC C.cpm.eq_1
def C.b1k : ICode := .loop C.cpm
def C.b1k_w := pC C.b1k.eq_1
def C.b1s : ICode := .keep [9, 10, 54, 55, 56] (.block 0 C.b1k)
def C.b1s_w := pC C.b1s.eq_1
def C.n9_b : LO := [
 X.o 53 (.fldAddr 3 (X.s 1)),
 X.o 54 (.load1 (X.s 53)),
 X.o 55 (.len (X.s 54)),
 X.o 56 (.move (X.i 0))]
def C.n9 : LO := C.n9_b
def C.n9_w := pO C.n9.eq_1
def C.b1t : ICode := .keep [1, 9, 10] (.seq (.seq (.region C.n9) C.b1s) C.clq)
def C.b1t_w := pC C.b1t.eq_1
def C.c9_b : LO := [
 X.o 49 (.fldAddr 3 (X.s 1)),
 X.o 50 (.load1 (X.s 49)),
 X.o 51 (.len (X.s 50)),
 X.o 52 (.makeSlice 1 8 [.int .i64 0] (X.s 51) (X.s 51)),
 X.m 10 52]
def C.c9 : LO := C.c9_b
def C.c9_w := pO C.c9.eq_1
def C.bnh : ICode := .keep [1, 9] (.seq (.region C.c9) C.b1t)
def C.bnh_w := pC C.bnh.eq_1
def C.n8_b : LO := [
 X.m 44 5,
 X.m 45 7,
 X.m 46 8,
 X.o 47 (.build [.nilp, .nilp, .nilp, .nilp, .nils] [(0, 1, X.s 44), (1, 1, X.s 45), (2, 1, X.s 46)]),
 X.o 48 (.boxN (X.s 47)),
 X.m 9 48]
def C.n8 : LO := C.n8_b
def C.n8_w := pO C.n8.eq_1
def C.b1v : ICode := .keep [1, 5, 7, 8] (.seq (.region C.n8) C.bnh)
def C.b1v_w := pC C.b1v.eq_1
def C.n7_b : LO := [
 X.m 43 6,
 X.o 2 (.move (.cst (.nilp))),
 X.m 3 43]
def C.n7 : LO := C.n7_b
def C.n7_w := pO C.n7.eq_1
def C.b1w : ICode := .seq (.region C.n7) .ret
def C.b1w_w := pC C.b1w.eq_1
def C.b1x : ICode := .keep [1, 5, 6, 7, 8, 42] (.cond (X.s 42) C.b1w .skip)
def C.b1x_w := pC C.b1x.eq_1
def C.n6_b : LO := [
 X.m 41 6,
 X.o 42 (.bin .neq (X.s 41) (X.i 0))]
def C.n6 : LO := C.n6_b
def C.n6_w := pO C.n6.eq_1
def C.b1y : ICode := .keep [1, 5, 6, 7, 8] (.seq (.seq (.region C.n6) C.b1x) C.b1v)
def C.b1y_w := pC C.b1y.eq_1
def C.n5_b : LO := [
 X.o 37 (.loadN 4 (X.s 1)),
 X.o 38 (.call F.q125 [X.s 37]),
 X.m 36 38,
 X.o 39 (.extract (X.s 36) 0),
 X.o 40 (.extract (X.s 36) 1),
 X.m 8 39,
 X.m 6 40]
def C.n5 : LO := C.n5_b
def C.n5_w := pO C.n5.eq_1
def C.b1q : ICode := .keep [1, 5, 7] (.seq (.region C.n5) C.b1y)
def C.b1q_w := pC C.b1q.eq_1
def C.pk_b : LO := [
 X.m 35 6,
 X.o 2 (.move (.cst (.nilp))),
 X.m 3 35]
def C.pk : LO := C.pk_b
def C.pk_w := pO C.pk.eq_1
def C.b1z : ICode := .seq (.region C.pk) .ret
def C.b1z_w := pC C.b1z.eq_1
def C.b10 : ICode := .keep [1, 5, 6, 7, 34] (.cond (X.s 34) C.b1z .skip)
def C.b10_w := pC C.b10.eq_1
def C.pj_b : LO := [
 X.m 33 6,
 X.o 34 (.bin .neq (X.s 33) (X.i 0))]
def C.pj : LO := C.pj_b
def C.pj_w := pO C.pj.eq_1
def C.b11 : ICode := .keep [1, 5, 6, 7] (.seq (.seq (.region C.pj) C.b10) C.b1q)
def C.b11_w := pC C.b11.eq_1
def C.ph_b : LO := [
 X.o 29 (.loadN 4 (X.s 1)),
 X.o 30 (.call F.q101 [X.s 29]),
 X.m 28 30,
 X.o 31 (.extract (X.s 28) 0),
 X.o 32 (.extract (X.s 28) 1),
 X.m 7 31,
 X.m 6 32]
def C.ph : LO := C.ph_b
def C.ph_w := pO C.ph.eq_1
def C.b12 : ICode := .keep [1, 5] (.seq (.region C.ph) C.b11)
def C.b12_w := pC C.b12.eq_1
def C.pg_b : LO := [
 X.m 27 6,
 X.o 2 (.move (.cst (.nilp))),
 X.m 3 27]
def C.pg : LO := C.pg_b
def C.pg_w := pO C.pg.eq_1
def C.b13 : ICode := .seq (.region C.pg) .ret
def C.b13_w := pC C.b13.eq_1
def C.b14 : ICode := .keep [1, 5, 6, 26] (.cond (X.s 26) C.b13 .skip)
def C.b14_w := pC C.b14.eq_1
def C.pf_b : LO := [
 X.m 25 6,
 X.o 26 (.bin .neq (X.s 25) (X.i 0))]
def C.pf : LO := C.pf_b
def C.pf_w := pO C.pf.eq_1
def C.b15 : ICode := .keep [1, 5, 6] (.seq (.seq (.region C.pf) C.b14) C.b12)
def C.b15_w := pC C.b15.eq_1
def C.pd_b : LO := [
 X.o 21 (.loadN 4 (X.s 1)),
 X.o 22 (.call F.q17 [X.s 21]),
 X.m 20 22,
 X.o 23 (.extract (X.s 20) 0),
 X.o 24 (.extract (X.s 20) 1),
 X.m 5 23,
 X.m 6 24]
def C.pd : LO := C.pd_b
def C.pd_w := pO C.pd.eq_1
def C.b16 : ICode := .keep [1] (.seq (.region C.pd) C.b15)
def C.b16_w := pC C.b16.eq_1
def C.pc_b : LO := [
 X.m 19 4,
 X.o 2 (.move (.cst (.nilp))),
 X.m 3 19]
def C.pc : LO := C.pc_b
def C.pc_w := pO C.pc.eq_1
def C.b17 : ICode := .seq (.region C.pc) .ret
def C.b17_w := pC C.b17.eq_1
def C.b18 : ICode := .keep [1, 4, 18] (.cond (X.s 18) C.b17 .skip)
def C.b18_w := pC C.b18.eq_1
def C.pb_b : LO := [
 X.m 17 4,
 X.o 18 (.bin .neq (X.s 17) (X.i 0))]
def C.pb : LO := C.pb_b
def C.pb_w := pO C.pb.eq_1
def C.b19 : ICode := .keep [1, 4] (.seq (.region C.pb) C.b18)
def C.b19_w := pC C.b19.eq_1
def C.n4_b : LO := [
 X.o 15 (.loadN 4 (X.s 1)),
 X.o 16 (.call F.q25 [X.s 15]),
 X.m 4 16]
def C.n4 : LO := C.n4_b
def C.n4_w := pO C.n4.eq_1
def C.b2b : ICode := .keep [1] (.seq (.seq (.region C.n4) C.b19) C.b16)
def C.b2b_w := pC C.b2b.eq_1
def C.bn_b : LO := [
 X.o 1 (.boxN (X.s 0)),
 X.o 2 (.move (.cst (.nilp))),
 X.o 3 (.move (X.i 0))]
def C.bn : LO := C.bn_b
def C.bn_w := pO C.bn.eq_1
def C.q95 : IFunc := ⟨1, [.slot 2, .slot 3], .seq (.region C.bn) C.b2b⟩
def C.q95_W := aI (aI (aI (aI (aI (aI @C.blt_w @C.clv_w) (aI @C.bls_w @C.clw_w)) (aI (aI @C.clx_w @C.blr_w) (aI @C.cly_w @C.blp_w))) (aI (aI (aI @C.clq_w @C.cf_w) (aI @C.bnj_w @C.cd_w)) (aI (aI @C.bnk_w @C.df_w) (aI @C.bnl_w @C.d4_w)))) (aI (aI (aI (aI @C.b2c_w @C.b1l_w) (aI @C.d3_w @C.b1m_w)) (aI (aI @C.dd_w @C.b1n_w) (aI @C.dc_w @C.b1j_w))) (aI (aI (aI @C.b1p_w @C.b1r_w) (aI @C.db_w @C.b1k_w)) (aI (aI @C.b1s_w @C.n9_w) (aI @C.b1t_w @C.c9_w))))) (aI (aI (aI (aI (aI @C.bnh_w @C.n8_w) (aI @C.b1v_w @C.n7_w)) (aI (aI @C.b1w_w @C.b1x_w) (aI @C.n6_w @C.b1y_w))) (aI (aI (aI @C.n5_w @C.b1q_w) (aI @C.pk_w @C.b1z_w)) (aI (aI @C.b10_w @C.pj_w) (aI @C.b11_w @C.ph_w)))) (aI (aI (aI (aI @C.b12_w @C.pg_w) (aI @C.b13_w @C.b14_w)) (aI (aI @C.pf_w @C.b15_w) (aI @C.pd_w @C.b16_w))) (aI (aI (aI @C.pc_w @C.b17_w) (aI @C.b18_w @C.pb_w)) (aI (aI @C.b19_w @C.n4_w) (aI @C.b2b_w @C.bn_w)))))
def C.q95_B := aI (aI (aI (aI @C.blt_b.eq_1 (aI @C.bls_b.eq_1 @C.blr_b.eq_1)) (aI (aI @C.blp_b.eq_1 @C.cf_b.eq_1) (aI @C.cd_b.eq_1 @C.df_b.eq_1))) (aI (aI @C.d4_b.eq_1 (aI @C.d3_b.eq_1 @C.dd_b.eq_1)) (aI (aI @C.dc_b.eq_1 @C.db_b.eq_1) (aI @C.n9_b.eq_1 @C.c9_b.eq_1)))) (aI (aI (aI @C.n8_b.eq_1 (aI @C.n7_b.eq_1 @C.n6_b.eq_1)) (aI (aI @C.n5_b.eq_1 @C.pk_b.eq_1) (aI @C.pj_b.eq_1 @C.ph_b.eq_1))) (aI (aI @C.pg_b.eq_1 (aI @C.pf_b.eq_1 @C.pd_b.eq_1)) (aI (aI @C.pc_b.eq_1 @C.pb_b.eq_1) (aI @C.n4_b.eq_1 @C.bn_b.eq_1))))

def C.wm_b : LO := [
 X.m 10 0,
 X.m 11 1,
 X.o 12 (.bin .rem (X.s 10) (X.s 11)),
 X.m 4 12]
def C.wm : LO := C.wm_b
def C.wm_w := pO C.wm.eq_1
def C.b7g : ICode := .keep [0, 1] (.seq (.region C.wm) .ret)
def C.b7g_w := pC C.b7g.eq_1
def C.wl_b : LO := [
 X.m 7 0,
 X.o 8 (.bin .add (X.s 7) (X.i 1)),
 X.o 9 (.un .neg (X.s 8)),
 X.m 0 9]
def C.wl : LO := C.wl_b
def C.wl_w := pO C.wl.eq_1
def C.b7h : ICode := .keep [0, 1, 6] (.cond (X.s 6) (.region C.wl) .skip)
def C.b7h_w := pC C.b7h.eq_1
def C.wk_b : LO := [
 X.m 5 0,
 X.o 6 (.bin .lss (X.s 5) (X.i 0))]
def C.wk : LO := C.wk_b
def C.wk_w := pO C.wk.eq_1
def C.b7j : ICode := .keep [0, 1] (.seq (.seq (.region C.wk) C.b7h) C.b7g)
def C.b7j_w := pC C.b7j.eq_1
def C.wj_b : LO := [
 X.o 4 (.move (X.i 0))]
def C.wj : LO := C.wj_b
def C.wj_w := pO C.wj.eq_1
def C.q14 : IFunc := ⟨2, [.slot 4], .seq (.region C.wj) C.b7j⟩
def C.q14_W := aI (aI @C.wm_w (aI @C.b7g_w @C.wl_w)) (aI (aI @C.b7h_w @C.wk_w) (aI @C.b7j_w @C.wj_w))
def C.q14_B := aI (aI @C.wm_b.eq_1 @C.wl_b.eq_1) (aI @C.wk_b.eq_1 @C.wj_b.eq_1)

def C.bcz_b : LO := [
 X.m 39 6,
 X.m 4 39,
 X.o 5 (.move (X.i 0))]
def C.bcz : LO := C.bcz_b
def C.bcz_w := pO C.bcz.eq_1
def C.cb6 : ICode := .keep [6] (.seq (.region C.bcz) .ret)
def C.cb6_w := pC C.cb6.eq_1
def C.bcq_b : LO := [
 X.o 4 (.move (.cst (.int .u32 0))),
 X.o 5 (.move (X.i 1))]
def C.bcq : LO := C.bcq_b
def C.bcq_w := pO C.bcq.eq_1
def C.ccb : ICode := .seq (.region C.bcq) .ret
def C.ccb_w := pC C.ccb.eq_1
def C.ccc : ICode := .keep [6, 38] (.cond (X.s 38) C.ccb .skip)
def C.ccc_w := pC C.ccc.eq_1
def C.bcy_b : LO := [
 X.m 37 7,
 X.o 38 (.bin .neq (X.s 37) (X.i 0))]
def C.bcy : LO := C.bcy_b
def C.bcy_w := pO C.bcy.eq_1
def C.ccd : ICode := .keep [6, 7] (.seq (.seq (.region C.bcy) C.ccc) C.cb6)
def C.ccd_w := pC C.ccd.eq_1
def C.bcx_b : LO := [
 X.m 31 6,
 X.m 32 1,
 X.o 33 (.conv .u32 (X.s 32)),
 X.o 34 (.call F.q1 [X.s 31, X.i 2, X.i 14, X.s 33]),
 X.m 30 34,
 X.o 35 (.extract (X.s 30) 0),
 X.o 36 (.extract (X.s 30) 1),
 X.m 6 35,
 X.m 7 36]
def C.bcx : LO := C.bcx_b
def C.bcx_w := pO C.bcx.eq_1
def C.ccf : ICode := .keep [1, 6] (.seq (.region C.bcx) C.ccd)
def C.ccf_w := pC C.ccf.eq_1
def C.bcw_b : LO := [
 X.o 4 (.move (.cst (.int .u32 0))),
 X.o 5 (.move (X.i 1))]
def C.bcw : LO := C.bcw_b
def C.bcw_w := pO C.bcw.eq_1
def C.ccg : ICode := .seq (.region C.bcw) .ret
def C.ccg_w := pC C.ccg.eq_1
def C.cch : ICode := .keep [1, 6, 29] (.cond (X.s 29) C.ccg .skip)
def C.cch_w := pC C.cch.eq_1
def C.bcv_b : LO := [
 X.m 28 7,
 X.o 29 (.bin .neq (X.s 28) (X.i 0))]
def C.bcv : LO := C.bcv_b
def C.bcv_w := pO C.bcv.eq_1
def C.ccj : ICode := .keep [1, 6, 7] (.seq (.seq (.region C.bcv) C.cch) C.ccf)
def C.ccj_w := pC C.ccj.eq_1
def C.bct_b : LO := [
 X.m 23 0,
 X.o 24 (.conv .u32 (X.s 23)),
 X.o 25 (.call F.q1 [.cst (.int .u32 0), X.i 16, X.i 8, X.s 24]),
 X.m 22 25,
 X.o 26 (.extract (X.s 22) 0),
 X.o 27 (.extract (X.s 22) 1),
 X.m 6 26,
 X.m 7 27]
def C.bct : LO := C.bct_b
def C.bct_w := pO C.bct.eq_1
def C.cck : ICode := .keep [0, 1] (.seq (.region C.bct) C.ccj)
def C.cck_w := pC C.cck.eq_1
def C.bcs_b : LO := [
 X.o 4 (.move (.cst (.int .u32 0))),
 X.o 5 (.move (X.i 1))]
def C.bcs : LO := C.bcs_b
def C.bcs_w := pO C.bcs.eq_1
def C.cb7 : ICode := .seq (.region C.bcs) .ret
def C.cb7_w := pC C.cb7.eq_1
def C.cb8 : ICode := .keep [0, 1, 21] (.cond (X.s 21) C.cb7 .skip)
def C.cb8_w := pC C.cb8.eq_1
def C.bcr_b : LO := [
 X.m 8 0,
 X.o 9 (.bin .lss (X.s 8) (X.i 0)),
 X.m 10 9,
 X.f 10 11 (.move (X.s 0)),
 X.f 10 12 (.bin .geq (X.s 11) (X.i 256)),
 X.o 13 (.pick (X.s 10) (.cst (.bool true)) (X.s 12)),
 X.m 14 13,
 X.f 14 15 (.move (X.s 1)),
 X.f 14 16 (.bin .lss (X.s 15) (X.i 0)),
 X.o 17 (.pick (X.s 14) (.cst (.bool true)) (X.s 16)),
 X.m 18 17,
 X.f 18 19 (.move (X.s 1)),
 X.f 18 20 (.bin .geq (X.s 19) (X.i 16384)),
 X.o 21 (.pick (X.s 18) (.cst (.bool true)) (X.s 20))]
def C.bcr : LO := C.bcr_b
def C.bcr_w := pO C.bcr.eq_1
def C.cb9 : ICode := .keep [0, 1] (.seq (.seq (.region C.bcr) C.cb8) C.cck)
def C.cb9_w := pC C.cb9.eq_1
def C.bcp_b : LO := [
 X.o 4 (.move (.cst (.int .u32 0))),
 X.o 5 (.move (X.i 0))]
def C.bcp : LO := C.bcp_b
def C.bcp_w := pO C.bcp.eq_1
def C.q4 : IFunc := ⟨2, [.slot 4, .slot 5], .seq (.region C.bcp) C.cb9⟩
def C.q4_W := aI (aI (aI (aI @C.bcz_w @C.cb6_w) (aI @C.bcq_w (aI @C.ccb_w @C.ccc_w))) (aI (aI @C.bcy_w (aI @C.ccd_w @C.bcx_w)) (aI @C.ccf_w (aI @C.bcw_w @C.ccg_w)))) (aI (aI (aI @C.cch_w @C.bcv_w) (aI @C.ccj_w (aI @C.bct_w @C.cck_w))) (aI (aI @C.bcs_w (aI @C.cb7_w @C.cb8_w)) (aI @C.bcr_w (aI @C.cb9_w @C.bcp_w))))
def C.q4_B := aI (aI (aI @C.bcz_b.eq_1 @C.bcq_b.eq_1) (aI @C.bcy_b.eq_1 (aI @C.bcx_b.eq_1 @C.bcw_b.eq_1))) (aI (aI @C.bcv_b.eq_1 @C.bct_b.eq_1) (aI @C.bcs_b.eq_1 (aI @C.bcr_b.eq_1 @C.bcp_b.eq_1)))

def C.bk0_b : LO := [
 X.m 48 0,
 X.o 49 (.nilchk (X.s 48)),
 X.o 50 (.fldAddr 3 (X.s 49)),
 X.o 51 (.load1 (X.s 50)),
 X.m 52 1,
 X.m 53 2,
 X.m 54 3,
 X.o 55 (.call F.q5 [X.s 51, X.s 52, X.s 53, X.s 54]),
 X.o 56 (.extract (X.s 55) 0),
 X.o 57 (.extract (X.s 55) 1),
 X.m 8 56,
 X.m 9 57]
def C.bk0 : LO := C.bk0_b
def C.bk0_w := pO C.bk0.eq_1
def C.ck5 : ICode := .keep [0, 1, 2, 3] (.seq (.region C.bk0) .ret)
def C.ck5_w := pC C.ck5.eq_1
def C.bkz_b : LO := [
 X.o 8 (.move (X.i 0)),
 X.o 9 (.move (X.i 6))]
def C.bkz : LO := C.bkz_b
def C.bkz_w := pO C.bkz.eq_1
def C.ck6 : ICode := .seq (.region C.bkz) .ret
def C.ck6_w := pC C.ck6.eq_1
def C.ck7 : ICode := .keep [0, 1, 2, 3, 47] (.cond (X.s 47) C.ck6 .skip)
def C.ck7_w := pC C.ck7.eq_1
def C.bkq_b : LO := [
 X.m 38 0,
 X.o 39 (.nilchk (X.s 38)),
 X.o 40 (.fldAddr 4 (X.s 39)),
 X.o 41 (.load1 (X.s 40)),
 X.m 42 10,
 X.o 43 (.idxAddr 6 (X.s 41) (X.s 42)),
 X.o 44 (.fldAddr 5 (X.s 43)),
 X.o 45 (.load1 (X.s 44)),
 X.o 46 (.call F.q104 [X.s 45]),
 X.o 47 (.bin .neq (X.s 46) (.cst (.int .u8 114)))]
def C.bkq : LO := C.bkq_b
def C.bkq_w := pO C.bkq.eq_1
def C.ck8 : ICode := .keep [0, 1, 2, 3, 10] (.seq (.seq (.region C.bkq) C.ck7) C.ck5)
def C.ck8_w := pC C.ck8.eq_1
def C.bky_b : LO := [
 X.o 8 (.move (X.i 0)),
 X.o 9 (.move (X.i 4))]
def C.bky : LO := C.bky_b
def C.bky_w := pO C.bky.eq_1
def C.ck9 : ICode := .seq (.region C.bky) .ret
def C.ck9_w := pC C.ck9.eq_1
def C.clb : ICode := .keep [0, 1, 2, 3, 10, 37] (.cond (X.s 37) C.ck9 .skip)
def C.clb_w := pC C.clb.eq_1
def C.bkx_b : LO := [
 X.m 17 0,
 X.m 18 10,
 X.o 19 (.call F.q93 [X.s 17, X.s 18]),
 X.o 20 (.un .not (X.s 19)),
 X.m 21 20,
 X.f 21 22 (.move (X.s 11)),
 X.f 21 23 (.bin .lss (X.s 22) (X.i 0)),
 X.o 24 (.pick (X.s 21) (.cst (.bool true)) (X.s 23)),
 X.m 25 24,
 X.f 25 26 (.move (X.s 11)),
 X.f 25 27 (.move (X.s 0)),
 X.f 25 28 (.nilchk (X.s 27)),
 X.f 25 29 (.fldAddr 4 (X.s 28)),
 X.f 25 30 (.load1 (X.s 29)),
 X.f 25 31 (.move (X.s 10)),
 X.f 25 32 (.idxAddr 6 (X.s 30) (X.s 31)),
 X.f 25 33 (.fldAddr 4 (X.s 32)),
 X.f 25 34 (.load1 (X.s 33)),
 X.f 25 35 (.call F.q109 [X.s 34]),
 X.f 25 36 (.bin .geq (X.s 26) (X.s 35)),
 X.o 37 (.pick (X.s 25) (.cst (.bool true)) (X.s 36))]
def C.bkx : LO := C.bkx_b
def C.bkx_w := pO C.bkx.eq_1
def C.clc : ICode := .keep [0, 1, 2, 3, 10, 11] (.seq (.seq (.region C.bkx) C.clb) C.ck8)
def C.clc_w := pC C.clc.eq_1
def C.bkw_b : LO := [
 X.m 13 1,
 X.o 14 (.call F.q10 [X.s 13]),
 X.m 12 14,
 X.o 15 (.extract (X.s 12) 0),
 X.o 16 (.extract (X.s 12) 1),
 X.m 10 15,
 X.m 11 16]
def C.bkw : LO := C.bkw_b
def C.bkw_w := pO C.bkw.eq_1
def C.cld : ICode := .keep [0, 1, 2, 3] (.seq (.region C.bkw) C.clc)
def C.cld_w := pC C.cld.eq_1
def C.bkv_b : LO := [
 X.o 8 (.move (X.i 0)),
 X.o 9 (.move (X.i 0))]
def C.bkv : LO := C.bkv_b
def C.bkv_w := pO C.bkv.eq_1
def C.q87 : IFunc := ⟨4, [.slot 8, .slot 9], .seq (.region C.bkv) C.cld⟩
def C.q87_W := aI (aI (aI @C.bk0_w (aI @C.ck5_w @C.bkz_w)) (aI (aI @C.ck6_w @C.ck7_w) (aI @C.bkq_w @C.ck8_w))) (aI (aI (aI @C.bky_w @C.ck9_w) (aI @C.clb_w @C.bkx_w)) (aI (aI @C.clc_w @C.bkw_w) (aI @C.cld_w @C.bkv_w)))
def C.q87_B := aI (aI @C.bk0_b.eq_1 (aI @C.bkz_b.eq_1 @C.bkq_b.eq_1)) (aI (aI @C.bky_b.eq_1 @C.bkx_b.eq_1) (aI @C.bkw_b.eq_1 @C.bkv_b.eq_1))

end Go.Proofs.YtdmfgodajoojpaaGreatDoor.Cn
