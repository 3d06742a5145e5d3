/- The intermediate code of the functions, printed by a program out of the loaded program; that it is theirs is checked in the text of links. -/
import Derived.Test.YtdmfgodajoojpaaGreatDoorCnL2
set_option linter.defProp false
namespace Go.Proofs.YtdmfgodajoojpaaGreatDoor.Cn
open Go
theorem aI {a b : Prop} (x : a) (y : b) : a ∧ b := ⟨x, y⟩
theorem pC {c d : ICode} (h : c = d) ⦃P : Program⦄ ⦃Q : IExit → AFr → ASt → Prop⦄ ⦃fr : AFr⦄ ⦃st : ASt⦄ : awp P c Q fr st = awp P d Q fr st := by rw [h]
theorem pO {c d : List IOper} (h : c = d) ⦃P : Program⦄ ⦃k : AFr → ASt → Prop⦄ ⦃fr : AFr⦄ ⦃st : ASt⦄ : aops P c k fr st = aops P d k fr st := by rw [h]
abbrev LO := List IOper
variable {P : Program} {Q : IExit → AFr → ASt → Prop} {fr : AFr} {st : ASt}

abbrev F.main_main : Nat := 0
abbrev F.gosem_cut : Nat := 1
abbrev F.gosem_cut_init : Nat := 2
abbrev F.catnaplaw12_HardQuiet : Nat := 3
abbrev F.catnaplaw12_HardDead : Nat := 4
abbrev F.catnaplaw12_HardGates : Nat := 5
abbrev F.q12 : Nat := 6
abbrev F.catnaplaw12_HardResets : Nat := 7
abbrev F.catnaplaw12_HardKeeps : Nat := 8
abbrev F.q15 : Nat := 9
abbrev F.q13 : Nat := 10
abbrev F.q95 : Nat := 11
abbrev F.q14 : Nat := 12
abbrev F.q4 : Nat := 13
abbrev F.q86 : Nat := 14
abbrev F.hard_Hard_Ask : Nat := 15
abbrev F.q89 : Nat := 16
abbrev F.hard_Hard_State : Nat := 17
abbrev F.hard_Hard_Leave : Nat := 18
abbrev F.q91 : Nat := 19
abbrev F.q16 : Nat := 20
abbrev F.q82 : Nat := 21
abbrev F.q83 : Nat := 22
abbrev F.q81 : Nat := 23
abbrev F.q25 : Nat := 24
abbrev F.hard_Hard_Assert : Nat := 25
abbrev F.q87 : Nat := 26
abbrev F.q84 : Nat := 27
abbrev F.hard_Hard_Down : Nat := 28
abbrev F.q85 : Nat := 29
abbrev F.q90 : Nat := 30
abbrev F.q88 : Nat := 31
abbrev F.q17 : Nat := 32
abbrev F.q101 : Nat := 33
abbrev F.q124 : Nat := 34
abbrev F.q119 : Nat := 35
abbrev F.q109 : Nat := 36
abbrev F.q106 : Nat := 37
abbrev F.q9 : Nat := 38
abbrev F.q1 : Nat := 39
abbrev F.q10 : Nat := 40
abbrev F.q93 : Nat := 41
abbrev F.q104 : Nat := 42
abbrev F.q5 : Nat := 43
abbrev F.quiet_Chan_Ask : Nat := 44
abbrev F.q94 : Nat := 45
abbrev F.q92 : Nat := 46
abbrev F.q105 : Nat := 47
abbrev F.q7 : Nat := 48
abbrev F.q22 : Nat := 49
abbrev F.q98 : Nat := 50
abbrev F.q96 : Nat := 51
abbrev F.q122 : Nat := 52
abbrev F.quiet_Chan_Leave : Nat := 53
abbrev F.q18 : Nat := 54
abbrev F.q19 : Nat := 55
abbrev F.q20 : Nat := 56
abbrev F.q97 : Nat := 57
abbrev F.q120 : Nat := 58
abbrev F.q61 : Nat := 59
abbrev F.q26 : Nat := 60
abbrev F.q62 : Nat := 61
abbrev F.q27 : Nat := 62
abbrev F.q56 : Nat := 63
abbrev F.q28 : Nat := 64
abbrev F.q41 : Nat := 65
abbrev F.q29 : Nat := 66
abbrev F.q46 : Nat := 67
abbrev F.q37 : Nat := 68
abbrev F.q30 : Nat := 69
abbrev F.q58 : Nat := 70
abbrev F.q31 : Nat := 71
abbrev F.q53 : Nat := 72
abbrev F.q32 : Nat := 73
abbrev F.q39 : Nat := 74
abbrev F.q33 : Nat := 75
abbrev F.q59 : Nat := 76
abbrev F.q71 : Nat := 77
abbrev F.q34 : Nat := 78
abbrev F.q57 : Nat := 79
abbrev F.q35 : Nat := 80
abbrev F.q47 : Nat := 81
abbrev F.q36 : Nat := 82
abbrev F.q40 : Nat := 83
abbrev F.reset_Lines_Assert : Nat := 84
abbrev F.q107 : Nat := 85
abbrev F.q121 : Nat := 86
abbrev F.power_Grid_Down : Nat := 87
abbrev F.q99 : Nat := 88
abbrev F.q38 : Nat := 89
abbrev F.q125 : Nat := 90
abbrev F.q2 : Nat := 91
abbrev F.q11 : Nat := 92
abbrev F.q8 : Nat := 93
abbrev F.q6 : Nat := 94
abbrev F.q110 : Nat := 95
abbrev F.q115 : Nat := 96
abbrev F.q24 : Nat := 97
abbrev F.q103 : Nat := 98
abbrev F.q113 : Nat := 99
abbrev F.q111 : Nat := 100
abbrev F.q23 : Nat := 101
abbrev F.q126 : Nat := 102
abbrev F.q21 : Nat := 103
abbrev F.q100 : Nat := 104
abbrev F.q123 : Nat := 105
abbrev F.q63 : Nat := 106
abbrev F.q73 : Nat := 107
abbrev F.q42 : Nat := 108
abbrev F.q72 : Nat := 109
abbrev F.q43 : Nat := 110
abbrev F.q60 : Nat := 111
abbrev F.q44 : Nat := 112
abbrev F.q74 : Nat := 113
abbrev F.q45 : Nat := 114
abbrev F.q64 : Nat := 115
abbrev F.q75 : Nat := 116
abbrev F.q70 : Nat := 117
abbrev F.q54 : Nat := 118
abbrev F.q55 : Nat := 119
abbrev F.q48 : Nat := 120
abbrev F.q49 : Nat := 121
abbrev F.q50 : Nat := 122
abbrev F.q51 : Nat := 123
abbrev F.q52 : Nat := 124
abbrev F.q116 : Nat := 125
abbrev F.q108 : Nat := 126
abbrev F.q102 : Nat := 127
abbrev F.q65 : Nat := 128
abbrev F.q67 : Nat := 129
abbrev F.q69 : Nat := 130
abbrev F.q66 : Nat := 131
abbrev F.q68 : Nat := 132
abbrev F.q3 : Nat := 133
abbrev F.q0 : Nat := 134
abbrev F.q118 : Nat := 135
abbrev F.q114 : Nat := 136
abbrev F.q112 : Nat := 137
abbrev F.q76 : Nat := 138
abbrev F.q117 : Nat := 139
abbrev F.q80 : Nat := 140
abbrev F.q77 : Nat := 141
abbrev F.q79 : Nat := 142
abbrev F.q78 : Nat := 143
abbrev F.runtime_boundsError_Error : Nat := 144
abbrev F.runtime_boundsError_RuntimeError : Nat := 145
abbrev F.runtime_errorString_Error : Nat := 146
abbrev F.runtime_errorString_RuntimeError : Nat := 147
abbrev F.runtime_plainError_Error : Nat := 148
abbrev F.runtime_plainError_RuntimeError : Nat := 149
abbrev F.runtime_errorAddressString_Error : Nat := 150
abbrev F.runtime_errorAddressString_RuntimeError : Nat := 151
abbrev F.runtime_TypeAssertionError_Error : Nat := 152
abbrev F.runtime_TypeAssertionError_RuntimeError : Nat := 153
abbrev F.runtime_PanicNilError_Error : Nat := 154
abbrev F.runtime_PanicNilError_RuntimeError : Nat := 155
abbrev F.internal_abi_Type_Align : Nat := 156
abbrev F.internal_runtime_maps_unhashableTypeError_Error : Nat := 157
abbrev F.internal_runtime_maps_unhashableTypeError_RuntimeError : Nat := 158
abbrev F.api_Errno_Error : Nat := 159
abbrev F.power_Grid_Left : Nat := 160
abbrev F.quiet_Chan_Denied : Nat := 161
abbrev F.internal_abi_Kind_String : Nat := 162
abbrev F.var_s_door_quiet_letters_is_laid_by_its_own_initialiser_plain_data_look_11 : Nat := 163
abbrev F.var_s_door_gosem_cut_vars_holds_initialisers_alone_see_the_manifest_s_row_cutvarsword_look_11_test_files_too : Nat := 164
abbrev F.var_s_door_the_look_of_gosem_cut_vars_went_over_the_folder_that_the_caller_named_as_the_repository_s_root_look_11 : Nat := 165
abbrev F.gosem_cut_vars : Nat := 166

def C.b5_b : LO := [
 X.m 210 11,
 X.o 211 (.call F.q89 [X.s 210, .cst (.int .u32 0)]),
 X.o 212 (.len (X.s 211)),
 X.o 213 (.bin .eql (X.s 212) (X.i 0)),
 X.m 214 213,
 X.t 214 215 (.move (X.s 11)),
 X.t 214 216 (.move (X.s 13)),
 X.t 214 217 (.call F.q91 [X.s 215, X.s 216]),
 X.t 214 218 (.bin .eql (X.s 217) (X.i 0)),
 X.o 219 (.pick (X.s 214) (X.s 218) (.cst (.bool false))),
 X.m 8 219]
def C.b5 : LO := C.b5_b
def C.b5_w := pO C.b5.eq_1
def C.bn8 : ICode := .keep [11, 13] (.seq (.region C.b5) .ret)
def C.bn8_w := pC C.bn8.eq_1
def C.bv_b : LO := [
 X.m 170 28,
 X.o 171 (.bin .add (X.s 170) (X.i 1)),
 X.m 28 171]
def C.bv : LO := C.bv_b
def C.bv_w := pO C.bv.eq_1
def C.bpj : ICode := .keep [11, 13, 27, 28] (.region C.bv)
def C.bpj_w := pC C.bpj.eq_1
def C.gm_b : LO := [
 X.o 8 (.move (.cst (.bool false)))]
def C.gm : LO := C.gm_b
def C.gm_w := pO C.gm.eq_1
def C.bpt : ICode := .seq (.region C.gm) .ret
def C.bpt_w := pC C.bpt.eq_1
def C.bp1 : ICode := .keep [11, 13, 27, 28, 209] (.cond (X.s 209) C.bpt .skip)
def C.bp1_w := pC C.bp1.eq_1
def C.gl_b : LO := [
 X.m 174 29,
 X.o 175 (.len (X.s 174)),
 X.o 176 (.bin .neq (X.s 175) (X.i 1)),
 X.m 177 176,
 X.f 177 178 (.move (X.s 29)),
 X.f 177 179 (.idxAddr 4 (X.s 178) (X.i 0)),
 X.f 177 180 (.fldAddr 0 (X.s 179)),
 X.f 177 181 (.load1 (X.s 180)),
 X.f 177 182 (.move (X.s 28)),
 X.f 177 183 (.bin .neq (X.s 181) (X.s 182)),
 X.o 184 (.pick (X.s 177) (.cst (.bool true)) (X.s 183)),
 X.m 185 184,
 X.f 185 186 (.move (X.s 29)),
 X.f 185 187 (.idxAddr 4 (X.s 186) (X.i 0)),
 X.f 185 188 (.fldAddr 1 (X.s 187)),
 X.f 185 189 (.load1 (X.s 188)),
 X.f 185 190 (.move (X.s 13)),
 X.f 185 191 (.bin .neq (X.s 189) (X.s 190)),
 X.o 192 (.pick (X.s 185) (.cst (.bool true)) (X.s 191)),
 X.m 193 192,
 X.f 193 194 (.move (X.s 29)),
 X.f 193 195 (.idxAddr 4 (X.s 194) (X.i 0)),
 X.f 193 196 (.fldAddr 2 (X.s 195)),
 X.f 193 197 (.load1 (X.s 196)),
 X.o 198 (.pick (X.s 193) (.cst (.bool true)) (X.s 197)),
 X.m 199 198,
 X.f 199 200 (.move (X.s 29)),
 X.f 199 201 (.idxAddr 4 (X.s 200) (X.i 0)),
 X.f 199 202 (.fldAddr 3 (X.s 201)),
 X.f 199 203 (.load1 (X.s 202)),
 X.f 199 204 (.move (X.s 27)),
 X.f 199 205 (.move (X.s 28)),
 X.f 199 206 (.idxAddr 1 (X.s 204) (X.s 205)),
 X.f 199 207 (.load1 (X.s 206)),
 X.f 199 208 (.bin .neq (X.s 203) (X.s 207)),
 X.o 209 (.pick (X.s 199) (.cst (.bool true)) (X.s 208))]
def C.gl : LO := C.gl_b
def C.gl_w := pO C.gl.eq_1
def C.bp2 : ICode := .keep [11, 13, 27, 28, 29] (.seq (.region C.gl) C.bp1)
def C.bp2_w := pC C.bp2.eq_1
def C.gk_b : LO := [
 X.m 172 11,
 X.o 173 (.call F.q89 [X.s 172, .cst (.int .u32 0)]),
 X.m 29 173]
def C.gk : LO := C.gk_b
def C.gk_w := pO C.gk.eq_1
def C.bn7 : ICode := .seq (.region C.gk) C.bp2
def C.bn7_w := pC C.bn7.eq_1
def C.bp3 : ICode := .keep [11, 13, 27, 28] (.seq (.block 1 C.bn7) C.bpj)
def C.bp3_w := pC C.bp3.eq_1
def C.bp4 : ICode := .keep [11, 13, 27, 28, 169] (.cond (X.s 169) .skip (.exit 0))
def C.bp4_w := pC C.bp4.eq_1
def C.gj_b : LO := [
 X.m 168 28,
 X.o 169 (.bin .lss (X.s 168) (X.i 3))]
def C.gj : LO := C.gj_b
def C.gj_w := pO C.gj.eq_1
def C.ckr : ICode := .keep [11, 13, 27, 28] (.seq (.seq (.region C.gj) C.bp4) C.bp3)
def C.ckr_w := pC C.ckr.eq_1
def C.bn6 : ICode := .loop C.ckr
def C.bn6_w := pC C.bn6.eq_1
def C.bn9 : ICode := .keep [11, 13, 27, 28] (.block 0 C.bn6)
def C.bn9_w := pC C.bn9.eq_1
def C.ds_b : LO := [
 X.o 28 (.move (X.i 0))]
def C.ds : LO := C.ds_b
def C.ds_w := pO C.ds.eq_1
def C.blr : ICode := .keep [11, 13, 27] (.seq (.seq (.region C.ds) C.bn9) C.bn8)
def C.blr_w := pC C.blr.eq_1
def C.cp_b : LO := [
 X.o 146 (.fldAddr 3 (X.s 10)),
 X.o 147 (.load1 (X.s 146)),
 X.m 148 13,
 X.o 149 (.idxAddr 6 (X.s 147) (X.s 148)),
 X.o 150 (.fldAddr 4 (X.s 149)),
 X.o 151 (.load1 (X.s 150)),
 X.m 152 18,
 X.o 153 (.idxAddr 2 (X.s 151) (X.s 152)),
 X.o 154 (.fldAddr 0 (X.s 153)),
 X.o 155 (.load1 (X.s 154)),
 X.o 156 (.fldAddr 3 (X.s 10)),
 X.o 157 (.load1 (X.s 156)),
 X.m 158 13,
 X.o 159 (.idxAddr 6 (X.s 157) (X.s 158)),
 X.o 160 (.fldAddr 4 (X.s 159)),
 X.o 161 (.load1 (X.s 160)),
 X.m 162 18,
 X.o 163 (.idxAddr 2 (X.s 161) (X.s 162)),
 X.o 164 (.fldAddr 0 (X.s 163)),
 X.o 165 (.load1 (X.s 164)),
 X.m 166 3,
 X.o 167 (.buildSlice 1 3 [.int .u32 0] [(0, 1, X.s 155), (1, 1, X.s 165), (2, 1, X.s 166)]),
 X.m 27 167]
def C.cp : LO := C.cp_b
def C.cp_w := pO C.cp.eq_1
def C.bls : ICode := .keep [3, 10, 11, 13, 18] (.seq (.region C.cp) C.blr)
def C.bls_w := pC C.bls.eq_1
def C.cm_b : LO := [
 X.o 8 (.move (.cst (.bool false)))]
def C.cm : LO := C.cm_b
def C.cm_w := pO C.cm.eq_1
def C.bpb : ICode := .seq (.region C.cm) .ret
def C.bpb_w := pC C.bpb.eq_1
def C.bpc : ICode := .keep [3, 10, 11, 13, 18, 145] (.cond (X.s 145) C.bpb .skip)
def C.bpc_w := pC C.bpc.eq_1
def C.cl_b : LO := [
 X.m 118 22,
 X.o 119 (.bin .neq (X.s 118) (X.i 0)),
 X.m 120 119,
 X.f 120 121 (.move (X.s 24)),
 X.f 120 122 (.bin .neq (X.s 121) (X.i 0)),
 X.o 123 (.pick (X.s 120) (.cst (.bool true)) (X.s 122)),
 X.m 124 123,
 X.f 124 125 (.move (X.s 26)),
 X.f 124 126 (.bin .neq (X.s 125) (X.i 0)),
 X.o 127 (.pick (X.s 124) (.cst (.bool true)) (X.s 126)),
 X.m 128 127,
 X.f 128 129 (.move (X.s 21)),
 X.f 128 130 (.bin .neq (X.s 129) (X.i 0)),
 X.o 131 (.pick (X.s 128) (.cst (.bool true)) (X.s 130)),
 X.m 132 131,
 X.f 132 133 (.move (X.s 23)),
 X.f 132 134 (.bin .neq (X.s 133) (X.i 1)),
 X.o 135 (.pick (X.s 132) (.cst (.bool true)) (X.s 134)),
 X.m 136 135,
 X.f 136 137 (.move (X.s 25)),
 X.f 136 138 (.bin .neq (X.s 137) (X.i 2)),
 X.o 139 (.pick (X.s 136) (.cst (.bool true)) (X.s 138)),
 X.m 140 139,
 X.f 140 141 (.move (X.s 11)),
 X.f 140 142 (.move (X.s 13)),
 X.f 140 143 (.call F.q91 [X.s 141, X.s 142]),
 X.f 140 144 (.bin .neq (X.s 143) (X.i 3)),
 X.o 145 (.pick (X.s 140) (.cst (.bool true)) (X.s 144))]
def C.cl : LO := C.cl_b
def C.cl_w := pO C.cl.eq_1
def C.bpd : ICode := .keep [3, 10, 11, 13, 18, 21, 22, 23, 24, 25, 26] (.seq (.seq (.region C.cl) C.bpc) C.bls)
def C.bpd_w := pC C.bpd.eq_1
def C.b4_b : LO := [
 X.m 113 11,
 X.m 114 19,
 X.o 115 (.call F.q86 [X.s 113, X.s 114, .cst (.bool false), .cst (.int .u32 0)]),
 X.m 112 115,
 X.o 116 (.extract (X.s 112) 0),
 X.o 117 (.extract (X.s 112) 1),
 X.m 25 116,
 X.m 26 117]
def C.b4 : LO := C.b4_b
def C.b4_w := pO C.b4.eq_1
def C.bpf : ICode := .keep [3, 10, 11, 13, 18, 19, 21, 22, 23, 24] (.seq (.region C.b4) C.bpd)
def C.bpf_w := pC C.bpf.eq_1
def C.ck_b : LO := [
 X.m 106 11,
 X.m 107 19,
 X.m 108 3,
 X.o 109 (.call F.q86 [X.s 106, X.s 107, .cst (.bool true), X.s 108]),
 X.m 105 109,
 X.o 110 (.extract (X.s 105) 0),
 X.o 111 (.extract (X.s 105) 1),
 X.m 23 110,
 X.m 24 111]
def C.ck : LO := C.ck_b
def C.ck_w := pO C.ck.eq_1
def C.bpg : ICode := .keep [3, 10, 11, 13, 18, 19, 21, 22] (.seq (.region C.ck) C.bpf)
def C.bpg_w := pC C.bpg.eq_1
def C.cj_b : LO := [
 X.m 100 11,
 X.m 101 19,
 X.o 102 (.call F.q86 [X.s 100, X.s 101, .cst (.bool false), .cst (.int .u32 0)]),
 X.m 99 102,
 X.o 103 (.extract (X.s 99) 0),
 X.o 104 (.extract (X.s 99) 1),
 X.m 21 103,
 X.m 22 104]
def C.cj : LO := C.cj_b
def C.cj_w := pO C.cj.eq_1
def C.bph : ICode := .keep [3, 10, 11, 13, 18, 19] (.seq (.region C.cj) C.bpg)
def C.bph_w := pC C.bph.eq_1
def C.ch_b : LO := [
 X.m 94 13,
 X.m 95 18,
 X.o 96 (.call F.q4 [X.s 94, X.s 95]),
 X.m 93 96,
 X.o 97 (.extract (X.s 93) 0),
 X.o 98 (.extract (X.s 93) 1),
 X.m 19 97,
 X.m 20 98]
def C.ch : LO := C.ch_b
def C.ch_w := pO C.ch.eq_1
def C.bpk : ICode := .keep [3, 10, 11, 13, 18] (.seq (.region C.ch) C.bph)
def C.bpk_w := pC C.bpk.eq_1
def C.cg_b : LO := [
 X.m 84 2,
 X.o 85 (.fldAddr 3 (X.s 10)),
 X.o 86 (.load1 (X.s 85)),
 X.m 87 13,
 X.o 88 (.idxAddr 6 (X.s 86) (X.s 87)),
 X.o 89 (.fldAddr 4 (X.s 88)),
 X.o 90 (.load1 (X.s 89)),
 X.o 91 (.len (X.s 90)),
 X.o 92 (.call F.q14 [X.s 84, X.s 91]),
 X.m 18 92]
def C.cg : LO := C.cg_b
def C.cg_w := pO C.cg.eq_1
def C.bpl : ICode := .keep [2, 3, 10, 11, 13] (.seq (.region C.cg) C.bpk)
def C.bpl_w := pC C.bpl.eq_1
def C.cf_b : LO := [
 X.m 82 17,
 X.o 83 (.bin .eql (X.s 82) (X.i 4)),
 X.m 8 83]
def C.cf : LO := C.cf_b
def C.cf_w := pO C.cf.eq_1
def C.blt : ICode := .keep [17] (.seq (.region C.cf) .ret)
def C.blt_w := pC C.blt.eq_1
def C.cd_b : LO := [
 X.m 77 11,
 X.m 78 14,
 X.o 79 (.call F.q86 [X.s 77, X.s 78, .cst (.bool false), .cst (.int .u32 0)]),
 X.m 76 79,
 X.o 80 (.extract (X.s 76) 0),
 X.o 81 (.extract (X.s 76) 1),
 X.m 16 80,
 X.m 17 81]
def C.cd : LO := C.cd_b
def C.cd_w := pO C.cd.eq_1
def C.bpm : ICode := .keep [11, 14] (.seq (.region C.cd) C.blt)
def C.bpm_w := pC C.bpm.eq_1
def C.b3_b : LO := [
 X.m 72 13,
 X.o 73 (.call F.q4 [X.s 72, X.i 0]),
 X.m 71 73,
 X.o 74 (.extract (X.s 71) 0),
 X.o 75 (.extract (X.s 71) 1),
 X.m 14 74,
 X.m 15 75]
def C.b3 : LO := C.b3_b
def C.b3_w := pO C.b3.eq_1
def C.bpn : ICode := .seq (.region C.b3) C.bpm
def C.bpn_w := pC C.bpn.eq_1
def C.blv : ICode := .keep [2, 3, 10, 11, 13, 70] (.cond (X.s 70) C.bpn .skip)
def C.blv_w := pC C.blv.eq_1
def C.ct_b : LO := [
 X.o 63 (.fldAddr 3 (X.s 10)),
 X.o 64 (.load1 (X.s 63)),
 X.m 65 13,
 X.o 66 (.idxAddr 6 (X.s 64) (X.s 65)),
 X.o 67 (.fldAddr 4 (X.s 66)),
 X.o 68 (.load1 (X.s 67)),
 X.o 69 (.len (X.s 68)),
 X.o 70 (.bin .eql (X.s 69) (X.i 0))]
def C.ct : LO := C.ct_b
def C.ct_w := pO C.ct.eq_1
def C.blw : ICode := .keep [2, 3, 10, 11, 13] (.seq (.seq (.region C.ct) C.blv) C.bpl)
def C.blw_w := pC C.blw.eq_1
def C.cs_b : LO := [
 X.o 8 (.move (.cst (.bool false)))]
def C.cs : LO := C.cs_b
def C.cs_w := pO C.cs.eq_1
def C.bpp : ICode := .seq (.region C.cs) .ret
def C.bpp_w := pC C.bpp.eq_1
def C.bpr : ICode := .keep [2, 3, 10, 11, 13, 62] (.cond (X.s 62) C.bpp .skip)
def C.bpr_w := pC C.bpr.eq_1
def C.cr_b : LO := [
 X.m 58 11,
 X.o 59 (.loadN 4 (X.s 10)),
 X.m 60 13,
 X.o 61 (.call F.q16 [X.s 58, X.s 59, X.s 60]),
 X.o 62 (.un .not (X.s 61))]
def C.cr : LO := C.cr_b
def C.cr_w := pO C.cr.eq_1
def C.bps : ICode := .keep [2, 3, 10, 11, 13] (.seq (.seq (.region C.cr) C.bpr) C.blw)
def C.bps_w := pC C.bps.eq_1
def C.b6_b : LO := [
 X.m 53 1,
 X.o 54 (.fldAddr 3 (X.s 10)),
 X.o 55 (.load1 (X.s 54)),
 X.o 56 (.len (X.s 55)),
 X.o 57 (.call F.q14 [X.s 53, X.s 56]),
 X.m 13 57]
def C.b6 : LO := C.b6_b
def C.b6_w := pO C.b6.eq_1
def C.bpv : ICode := .keep [1, 2, 3, 10, 11] (.seq (.region C.b6) C.bps)
def C.bpv_w := pC C.bpv.eq_1
def C.dv_b : LO := [
 X.o 8 (.move (.cst (.bool false)))]
def C.dv : LO := C.dv_b
def C.dv_w := pO C.dv.eq_1
def C.bpw : ICode := .seq (.region C.dv) .ret
def C.bpw_w := pC C.bpw.eq_1
def C.bpx : ICode := .keep [1, 2, 3, 10, 11, 52] (.cond (X.s 52) C.bpw .skip)
def C.bpx_w := pC C.bpx.eq_1
def C.dt_b : LO := [
 X.m 38 9,
 X.o 39 (.un .not (X.s 38)),
 X.m 40 39,
 X.f 40 41 (.move (X.s 11)),
 X.f 40 42 (.eqP 0 false (X.s 41) (.cst (.nilp))),
 X.o 43 (.pick (X.s 40) (.cst (.bool true)) (X.s 42)),
 X.m 44 43,
 X.f 44 45 (.move (X.s 12)),
 X.f 44 46 (.bin .neq (X.s 45) (X.i 0)),
 X.o 47 (.pick (X.s 44) (.cst (.bool true)) (X.s 46)),
 X.m 48 47,
 X.f 48 49 (.loadN 4 (X.s 10)),
 X.f 48 50 (.call F.q25 [X.s 49]),
 X.f 48 51 (.bin .neq (X.s 50) (X.i 0)),
 X.o 52 (.pick (X.s 48) (.cst (.bool true)) (X.s 51))]
def C.dt : LO := C.dt_b
def C.dt_w := pO C.dt.eq_1
def C.bpy : ICode := .keep [1, 2, 3, 9, 10, 11, 12] (.seq (.seq (.region C.dt) C.bpx) C.bpv)
def C.bpy_w := pC C.bpy.eq_1
def C.gn_b : LO := [
 X.o 34 (.loadN 4 (X.s 10)),
 X.o 35 (.call F.q95 [X.s 34]),
 X.m 33 35,
 X.o 36 (.extract (X.s 33) 0),
 X.o 37 (.extract (X.s 33) 1),
 X.m 11 36,
 X.m 12 37]
def C.gn : LO := C.gn_b
def C.gn_w := pO C.gn.eq_1
def C.bpq : ICode := .keep [1, 2, 3, 9, 10] (.seq (.region C.gn) C.bpy)
def C.bpq_w := pC C.bpq.eq_1
def C.cn_b : LO := [
 X.m 31 0,
 X.o 32 (.call F.q13 [X.s 31]),
 X.o 10 (.alloc [.nils, .nils, .nils, .nils]),
 X.n (.storeN 4 (X.s 10) (X.s 32))]
def C.cn : LO := C.cn_b
def C.cn_w := pO C.cn.eq_1
def C.bpz : ICode := .keep [0, 1, 2, 3, 9] (.seq (.region C.cn) C.bpq)
def C.bpz_w := pC C.bpz.eq_1
def C.gh_b : LO := [
 X.o 30 (.call F.q15 []),
 X.m 9 30]
def C.gh : LO := C.gh_b
def C.gh_w := pO C.gh.eq_1
def C.bp0 : ICode := .keep [0, 1, 2, 3] (.seq (.region C.gh) C.bpz)
def C.bp0_w := pC C.bp0.eq_1
def C.gg_b : LO := [
 X.o 8 (.move (.cst (.bool false)))]
def C.gg : LO := C.gg_b
def C.gg_w := pO C.gg.eq_1
def C.q12 : IFunc := ⟨4, [.slot 8], .seq (.region C.gg) C.bp0⟩
def C.q12_W := aI (aI (aI (aI (aI @C.b5_w (aI @C.bn8_w @C.bv_w)) (aI (aI @C.bpj_w @C.gm_w) (aI @C.bpt_w @C.bp1_w))) (aI (aI (aI @C.gl_w @C.bp2_w) (aI @C.gk_w @C.bn7_w)) (aI (aI @C.bp3_w @C.bp4_w) (aI @C.gj_w @C.bn6_w)))) (aI (aI (aI (aI @C.bn9_w @C.ds_w) (aI @C.blr_w @C.cp_w)) (aI (aI @C.bls_w @C.cm_w) (aI @C.bpb_w @C.bpc_w))) (aI (aI (aI @C.cl_w @C.bpd_w) (aI @C.b4_w @C.bpf_w)) (aI (aI @C.ck_w @C.bpg_w) (aI @C.cj_w @C.bph_w))))) (aI (aI (aI (aI (aI @C.ch_w @C.bpk_w) (aI @C.cg_w @C.bpl_w)) (aI (aI @C.cf_w @C.blt_w) (aI @C.cd_w @C.bpm_w))) (aI (aI (aI @C.b3_w @C.bpn_w) (aI @C.blv_w @C.ct_w)) (aI (aI @C.blw_w @C.cs_w) (aI @C.bpp_w @C.bpr_w)))) (aI (aI (aI (aI @C.cr_w @C.bps_w) (aI @C.b6_w @C.bpv_w)) (aI (aI @C.dv_w @C.bpw_w) (aI @C.bpx_w @C.dt_w))) (aI (aI (aI @C.bpy_w @C.gn_w) (aI @C.bpq_w @C.cn_w)) (aI (aI @C.bpz_w @C.gh_w) (aI @C.bp0_w @C.gg_w)))))
def C.q12_B := aI (aI (aI (aI @C.b5_b.eq_1 (aI @C.bv_b.eq_1 @C.gm_b.eq_1)) (aI (aI @C.gl_b.eq_1 @C.gk_b.eq_1) (aI @C.gj_b.eq_1 @C.ds_b.eq_1))) (aI (aI @C.cp_b.eq_1 (aI @C.cm_b.eq_1 @C.cl_b.eq_1)) (aI (aI @C.b4_b.eq_1 @C.ck_b.eq_1) (aI @C.cj_b.eq_1 @C.ch_b.eq_1)))) (aI (aI (aI @C.cg_b.eq_1 (aI @C.cf_b.eq_1 @C.cd_b.eq_1)) (aI (aI @C.b3_b.eq_1 @C.ct_b.eq_1) (aI @C.cs_b.eq_1 @C.cr_b.eq_1))) (aI (aI @C.b6_b.eq_1 (aI @C.dv_b.eq_1 @C.dt_b.eq_1)) (aI (aI @C.gn_b.eq_1 @C.cn_b.eq_1) (aI @C.gh_b.eq_1 @C.gg_b.eq_1))))

def C.vk_b : LO := [
 X.m 28 2,
 X.o 29 (.call F.q81 [X.s 28, X.i 0]),
 X.o 30 (.un .not (X.s 29)),
 X.m 31 30,
 X.t 31 32 (.move (X.s 2)),
 X.t 31 33 (.call F.q90 [X.s 32, X.i 0]),
 X.t 31 34 (.bin .eql (X.s 33) (X.i 0)),
 X.o 35 (.pick (X.s 31) (X.s 34) (.cst (.bool false))),
 X.m 36 35,
 X.t 36 37 (.move (X.s 2)),
 X.t 36 38 (.call F.q88 [X.s 37, X.i 0]),
 X.o 39 (.pick (X.s 36) (X.s 38) (.cst (.bool false))),
 X.m 0 39]
def C.vk : LO := C.vk_b
def C.vk_w := pO C.vk.eq_1
def C.b4x : ICode := .keep [2] (.seq (.region C.vk) .ret)
def C.b4x_w := pC C.b4x.eq_1
def C.vj_b : LO := [
 X.m 26 2,
 X.o 27 (.call F.q89 [X.s 26, .cst (.int .u32 0)])]
def C.vj : LO := C.vj_b
def C.vj_w := pO C.vj.eq_1
def C.b4y : ICode := .keep [2] (.seq (.region C.vj) C.b4x)
def C.b4y_w := pC C.b4y.eq_1
def C.vh_b : LO := [
 X.o 0 (.move (.cst (.bool false)))]
def C.vh : LO := C.vh_b
def C.vh_w := pO C.vh.eq_1
def C.b4q : ICode := .seq (.region C.vh) .ret
def C.b4q_w := pC C.b4q.eq_1
def C.b4z : ICode := .keep [2, 25] (.cond (X.s 25) C.b4q .skip)
def C.b4z_w := pC C.b4z.eq_1
def C.vg_b : LO := [
 X.m 20 2,
 X.o 21 (.eqP 0 false (X.s 20) (.cst (.nilp))),
 X.m 22 21,
 X.f 22 23 (.move (X.s 3)),
 X.f 22 24 (.bin .neq (X.s 23) (X.i 0)),
 X.o 25 (.pick (X.s 22) (.cst (.bool true)) (X.s 24))]
def C.vg : LO := C.vg_b
def C.vg_w := pO C.vg.eq_1
def C.b40 : ICode := .keep [2, 3] (.seq (.seq (.region C.vg) C.b4z) C.b4y)
def C.b40_w := pC C.b40.eq_1
def C.vf_b : LO := [
 X.o 16 (.loadN 4 (X.s 1)),
 X.o 17 (.call F.q95 [X.s 16]),
 X.m 15 17,
 X.o 18 (.extract (X.s 15) 0),
 X.o 19 (.extract (X.s 15) 1),
 X.m 2 18,
 X.m 3 19]
def C.vf : LO := C.vf_b
def C.vf_w := pO C.vf.eq_1
def C.b41 : ICode := .keep [1] (.seq (.region C.vf) C.b40)
def C.b41_w := pC C.b41.eq_1
def C.cw_b : LO := [
 X.o 4 (.build [.int .u8 0, .nils, .int .u64 0, .int .i64 0, .int .i64 0, .int .i64 0] [(0, 1, .cst (.int .u8 111)), (2, 1, .cst (.int .u64 1))]),
 X.o 5 (.buildSlice 6 1 [.int .u8 0, .nils, .int .u64 0, .int .i64 0, .int .i64 0, .int .i64 0] [(0, 6, X.s 4)]),
 X.o 6 (.build [.int .i64 0, .int .i64 0, .bool false] [(0, 1, X.i (-1))]),
 X.o 7 (.buildSlice 3 1 [.int .i64 0, .int .i64 0, .bool false] [(0, 3, X.s 6)]),
 X.o 8 (.build [.int .i64 0] []),
 X.o 9 (.buildSlice 1 1 [.int .i64 0] [(0, 1, X.s 8)]),
 X.o 10 (.build [.int .u32 0, .bool false] [(0, 1, .cst (.int .u32 5))]),
 X.o 11 (.buildSlice 2 1 [.int .u32 0, .bool false] [(0, 2, X.s 10)]),
 X.o 12 (.build [.int .i64 0, .int .i64 0, .int .i64 0, .int .u32 0, .nils, .nils] [(4, 1, X.s 11)]),
 X.o 13 (.buildSlice 6 1 [.int .i64 0, .int .i64 0, .int .i64 0, .int .u32 0, .nils, .nils] [(0, 6, X.s 12)]),
 X.o 14 (.build [.nils, .nils, .nils, .nils] [(0, 1, X.s 5), (1, 1, X.s 7), (2, 1, X.s 9), (3, 1, X.s 13)]),
 X.o 1 (.alloc [.nils, .nils, .nils, .nils]),
 X.n (.storeN 4 (X.s 1) (X.s 14))]
def C.cw : LO := C.cw_b
def C.cw_w := pO C.cw.eq_1
def C.bl3 : ICode := .keep [] (.seq (.region C.cw) C.b41)
def C.bl3_w := pC C.bl3.eq_1
def C.cv_b : LO := [
 X.o 0 (.move (.cst (.bool false)))]
def C.cv : LO := C.cv_b
def C.cv_w := pO C.cv.eq_1
def C.q15 : IFunc := ⟨0, [.slot 0], .seq (.region C.cv) C.bl3⟩
def C.q15_W := aI (aI (aI @C.vk_w (aI @C.b4x_w @C.vj_w)) (aI (aI @C.b4y_w @C.vh_w) (aI @C.b4q_w @C.b4z_w))) (aI (aI @C.vg_w (aI @C.b40_w @C.vf_w)) (aI (aI @C.b41_w @C.cw_w) (aI @C.bl3_w @C.cv_w)))
def C.q15_B := aI (aI @C.vk_b.eq_1 (aI @C.vj_b.eq_1 @C.vh_b.eq_1)) (aI (aI @C.vg_b.eq_1 @C.vf_b.eq_1) (aI @C.cw_b.eq_1 @C.cv_b.eq_1))

def C.bg_b : LO := [
 X.o 351 (.loadN 4 (X.s 6)),
 X.n (.storeN 4 (X.s 2) (X.s 351))]
def C.bg : LO := C.bg_b
def C.bg_w := pO C.bg.eq_1
def C.blx : ICode := .keep [2, 6] (.seq (.region C.bg) .ret)
def C.blx_w := pC C.blx.eq_1
def C.hn_b : LO := [
 X.m 224 14,
 X.o 225 (.bin .add (X.s 224) (X.i 1)),
 X.m 14 225]
def C.hn : LO := C.hn_b
def C.hn_w := pO C.hn.eq_1
def C.brt : ICode := .keep [2, 4, 6, 14] (.region C.hn)
def C.brt_w := pC C.brt.eq_1
def C.h0_b : LO := [
 X.o 345 (.fldAddr 3 (X.s 6)),
 X.o 346 (.load1 (X.s 345)),
 X.o 347 (.loadN 6 (X.s 16)),
 X.o 348 (.buildSlice 6 1 [.int .i64 0, .int .i64 0, .int .i64 0, .int .u32 0, .nils, .nils] [(0, 6, X.s 347)]),
 X.o 349 (.append 6 80 (X.s 346) (X.s 348)),
 X.o 350 (.fldAddr 3 (X.s 6)),
 X.n (.store1 (X.s 350) (X.s 349))]
def C.h0 : LO := C.h0_b
def C.h0_w := pO C.h0.eq_1
def C.bry : ICode := .keep [2, 4, 6, 14, 16] (.region C.h0)
def C.bry_w := pC C.bry.eq_1
def C.hz_b : LO := [
 X.o 332 (.fldAddr 5 (X.s 16)),
 X.o 333 (.load1 (X.s 332)),
 X.m 334 4,
 X.m 335 15,
 X.o 336 (.bin .add (X.s 335) (X.i 11)),
 X.o 337 (.idxAddr 1 (X.s 334) (X.s 336)),
 X.o 338 (.load1 (X.s 337)),
 X.o 339 (.bin .quo (X.s 338) (X.i 3)),
 X.m 340 14,
 X.o 341 (.bin .rem (X.s 339) (X.s 340)),
 X.o 342 (.buildSlice 1 1 [.int .i64 0] [(0, 1, X.s 341)]),
 X.o 343 (.append 1 8 (X.s 333) (X.s 342)),
 X.o 344 (.fldAddr 5 (X.s 16)),
 X.n (.store1 (X.s 344) (X.s 343))]
def C.hz : LO := C.hz_b
def C.hz_w := pO C.hz.eq_1
def C.br3 : ICode := .keep [2, 4, 6, 14, 15, 16, 331] (.cond (X.s 331) (.region C.hz) .skip)
def C.br3_w := pC C.br3.eq_1
def C.hq_b : LO := [
 X.m 321 14,
 X.o 322 (.bin .gtr (X.s 321) (X.i 1)),
 X.m 323 322,
 X.t 323 324 (.move (X.s 4)),
 X.t 323 325 (.move (X.s 15)),
 X.t 323 326 (.bin .add (X.s 325) (X.i 11)),
 X.t 323 327 (.idxAddr 1 (X.s 324) (X.s 326)),
 X.t 323 328 (.load1 (X.s 327)),
 X.t 323 329 (.bin .rem (X.s 328) (X.i 3)),
 X.t 323 330 (.bin .eql (X.s 329) (X.i 1)),
 X.o 331 (.pick (X.s 323) (X.s 330) (.cst (.bool false)))]
def C.hq : LO := C.hq_b
def C.hq_w := pO C.hq.eq_1
def C.bsd : ICode := .keep [2, 4, 6, 14, 15, 16] (.seq (.seq (.region C.hq) C.br3) C.bry)
def C.bsd_w := pC C.bsd.eq_1
def C.hy_b : LO := [
 X.o 309 (.fldAddr 5 (X.s 16)),
 X.o 310 (.load1 (X.s 309)),
 X.m 311 4,
 X.m 312 15,
 X.o 313 (.bin .add (X.s 312) (X.i 10)),
 X.o 314 (.idxAddr 1 (X.s 311) (X.s 313)),
 X.o 315 (.load1 (X.s 314)),
 X.m 316 14,
 X.o 317 (.bin .rem (X.s 315) (X.s 316)),
 X.o 318 (.buildSlice 1 1 [.int .i64 0] [(0, 1, X.s 317)]),
 X.o 319 (.append 1 8 (X.s 310) (X.s 318)),
 X.o 320 (.fldAddr 5 (X.s 16)),
 X.n (.store1 (X.s 320) (X.s 319))]
def C.hy : LO := C.hy_b
def C.hy_w := pO C.hy.eq_1
def C.bsm : ICode := .keep [2, 4, 6, 14, 15, 16, 308] (.cond (X.s 308) (.region C.hy) .skip)
def C.bsm_w := pC C.bsm.eq_1
def C.hx_b : LO := [
 X.m 298 14,
 X.o 299 (.bin .gtr (X.s 298) (X.i 0)),
 X.m 300 299,
 X.t 300 301 (.move (X.s 4)),
 X.t 300 302 (.move (X.s 15)),
 X.t 300 303 (.bin .add (X.s 302) (X.i 9)),
 X.t 300 304 (.idxAddr 1 (X.s 301) (X.s 303)),
 X.t 300 305 (.load1 (X.s 304)),
 X.t 300 306 (.bin .rem (X.s 305) (X.i 2)),
 X.t 300 307 (.bin .eql (X.s 306) (X.i 1)),
 X.o 308 (.pick (X.s 300) (X.s 307) (.cst (.bool false)))]
def C.hx : LO := C.hx_b
def C.hx_w := pO C.hx.eq_1
def C.bsv : ICode := .keep [2, 4, 6, 14, 15, 16] (.seq (.seq (.region C.hx) C.bsm) C.bsd)
def C.bsv_w := pC C.bsv.eq_1
def C.hv_b : LO := [
 X.m 271 17,
 X.o 272 (.bin .add (X.s 271) (X.i 1)),
 X.m 17 272]
def C.hv : LO := C.hv_b
def C.hv_w := pO C.hv.eq_1
def C.bs0 : ICode := .keep [2, 4, 6, 14, 15, 16, 17] (.region C.hv)
def C.bs0_w := pC C.bs0.eq_1
def C.hw_b : LO := [
 X.o 273 (.fldAddr 4 (X.s 16)),
 X.o 274 (.load1 (X.s 273)),
 X.m 275 4,
 X.m 276 15,
 X.o 277 (.bin .add (X.s 276) (X.i 5)),
 X.m 278 17,
 X.o 279 (.bin .add (X.s 277) (X.s 278)),
 X.o 280 (.idxAddr 1 (X.s 275) (X.s 279)),
 X.o 281 (.load1 (X.s 280)),
 X.o 282 (.bin .rem (X.s 281) (X.i 7)),
 X.o 283 (.conv .u32 (X.s 282)),
 X.m 284 4,
 X.m 285 15,
 X.o 286 (.bin .add (X.s 285) (X.i 5)),
 X.m 287 17,
 X.o 288 (.bin .add (X.s 286) (X.s 287)),
 X.o 289 (.idxAddr 1 (X.s 284) (X.s 288)),
 X.o 290 (.load1 (X.s 289)),
 X.o 291 (.bin .quo (X.s 290) (X.i 7)),
 X.o 292 (.bin .rem (X.s 291) (X.i 2)),
 X.o 293 (.bin .eql (X.s 292) (X.i 0)),
 X.o 294 (.build [.int .u32 0, .bool false] [(0, 1, X.s 283), (1, 1, X.s 293)]),
 X.o 295 (.buildSlice 2 1 [.int .u32 0, .bool false] [(0, 2, X.s 294)]),
 X.o 296 (.append 2 8 (X.s 274) (X.s 295)),
 X.o 297 (.fldAddr 4 (X.s 16)),
 X.n (.store1 (X.s 297) (X.s 296))]
def C.hw : LO := C.hw_b
def C.hw_w := pO C.hw.eq_1
def C.brk : ICode := .region C.hw
def C.brk_w := pC C.brk.eq_1
def C.brl : ICode := .keep [2, 4, 6, 14, 15, 16, 17] (.seq (.block 12 C.brk) C.bs0)
def C.brl_w := pC C.brl.eq_1
def C.brm : ICode := .keep [2, 4, 6, 14, 15, 16, 17, 270] (.cond (X.s 270) .skip (.exit 11))
def C.brm_w := pC C.brm.eq_1
def C.ht_b : LO := [
 X.m 263 17,
 X.m 264 4,
 X.m 265 15,
 X.o 266 (.bin .add (X.s 265) (X.i 4)),
 X.o 267 (.idxAddr 1 (X.s 264) (X.s 266)),
 X.o 268 (.load1 (X.s 267)),
 X.o 269 (.bin .rem (X.s 268) (X.i 5)),
 X.o 270 (.bin .lss (X.s 263) (X.s 269))]
def C.ht : LO := C.ht_b
def C.ht_w := pO C.ht.eq_1
def C.cks : ICode := .keep [2, 4, 6, 14, 15, 16, 17] (.seq (.seq (.region C.ht) C.brm) C.brl)
def C.cks_w := pC C.cks.eq_1
def C.bp5 : ICode := .loop C.cks
def C.bp5_w := pC C.bp5.eq_1
def C.brn : ICode := .keep [2, 4, 6, 14, 15, 16, 17] (.block 11 C.bp5)
def C.brn_w := pC C.brn.eq_1
def C.hs_b : LO := [
 X.o 17 (.move (X.i 0))]
def C.hs : LO := C.hs_b
def C.hs_w := pO C.hs.eq_1
def C.brp : ICode := .keep [2, 4, 6, 14, 15, 16] (.seq (.seq (.region C.hs) C.brn) C.bsv)
def C.brp_w := pC C.brp.eq_1
def C.bh_b : LO := [
 X.m 229 4,
 X.m 230 15,
 X.o 231 (.idxAddr 1 (X.s 229) (X.s 230)),
 X.o 232 (.load1 (X.s 231)),
 X.o 233 (.fldAddr 0 (X.s 6)),
 X.o 234 (.load1 (X.s 233)),
 X.o 235 (.len (X.s 234)),
 X.o 236 (.bin .rem (X.s 232) (X.s 235)),
 X.m 237 4,
 X.m 238 15,
 X.o 239 (.bin .add (X.s 238) (X.i 1)),
 X.o 240 (.idxAddr 1 (X.s 237) (X.s 239)),
 X.o 241 (.load1 (X.s 240)),
 X.o 242 (.fldAddr 1 (X.s 6)),
 X.o 243 (.load1 (X.s 242)),
 X.o 244 (.len (X.s 243)),
 X.o 245 (.bin .rem (X.s 241) (X.s 244)),
 X.m 246 4,
 X.m 247 15,
 X.o 248 (.bin .add (X.s 247) (X.i 2)),
 X.o 249 (.idxAddr 1 (X.s 246) (X.s 248)),
 X.o 250 (.load1 (X.s 249)),
 X.o 251 (.fldAddr 2 (X.s 6)),
 X.o 252 (.load1 (X.s 251)),
 X.o 253 (.len (X.s 252)),
 X.o 254 (.bin .rem (X.s 250) (X.s 253)),
 X.m 255 4,
 X.m 256 15,
 X.o 257 (.bin .add (X.s 256) (X.i 3)),
 X.o 258 (.idxAddr 1 (X.s 255) (X.s 257)),
 X.o 259 (.load1 (X.s 258)),
 X.o 260 (.bin .rem (X.s 259) (X.i 3)),
 X.o 261 (.conv .u32 (X.s 260)),
 X.o 262 (.build [.int .i64 0, .int .i64 0, .int .i64 0, .int .u32 0, .nils, .nils] [(0, 1, X.s 236), (1, 1, X.s 245), (2, 1, X.s 254), (3, 1, X.s 261)]),
 X.o 16 (.alloc [.int .i64 0, .int .i64 0, .int .i64 0, .int .u32 0, .nils, .nils]),
 X.n (.storeN 6 (X.s 16) (X.s 262))]
def C.bh : LO := C.bh_b
def C.bh_w := pO C.bh.eq_1
def C.brr : ICode := .keep [2, 4, 6, 14, 15] (.seq (.region C.bh) C.brp)
def C.brr_w := pC C.brr.eq_1
def C.hp_b : LO := [
 X.m 226 14,
 X.o 227 (.bin .mul (X.i 12) (X.s 226)),
 X.o 228 (.bin .add (X.i 60) (X.s 227)),
 X.m 15 228]
def C.hp : LO := C.hp_b
def C.hp_w := pO C.hp.eq_1
def C.bp6 : ICode := .seq (.region C.hp) C.brr
def C.bp6_w := pC C.bp6.eq_1
def C.t4 : ICode := .keep [2, 4, 6, 14] (.seq (.block 10 C.bp6) C.brt)
def C.t4_w := pC C.t4.eq_1
def C.brs : ICode := .keep [2, 4, 6, 14, 223] (.cond (X.s 223) .skip (.exit 9))
def C.brs_w := pC C.brs.eq_1
def C.hm_b : LO := [
 X.m 217 14,
 X.m 218 4,
 X.o 219 (.idxAddr 1 (X.s 218) (X.i 4)),
 X.o 220 (.load1 (X.s 219)),
 X.o 221 (.bin .rem (X.s 220) (X.i 4)),
 X.o 222 (.bin .add (X.i 1) (X.s 221)),
 X.o 223 (.bin .lss (X.s 217) (X.s 222))]
def C.hm : LO := C.hm_b
def C.hm_w := pO C.hm.eq_1
def C.ckt : ICode := .keep [2, 4, 6, 14] (.seq (.seq (.region C.hm) C.brs) C.t4)
def C.ckt_w := pC C.ckt.eq_1
def C.bp7 : ICode := .loop C.ckt
def C.bp7_w := pC C.bp7.eq_1
def C.brv : ICode := .keep [2, 4, 6, 14] (.block 9 C.bp7)
def C.brv_w := pC C.brv.eq_1
def C.hl_b : LO := [
 X.o 14 (.move (X.i 0))]
def C.hl : LO := C.hl_b
def C.hl_w := pO C.hl.eq_1
def C.bly : ICode := .keep [2, 4, 6] (.seq (.seq (.region C.hl) C.brv) C.blx)
def C.bly_w := pC C.bly.eq_1
def C.hj_b : LO := [
 X.m 203 13,
 X.o 204 (.bin .add (X.s 203) (X.i 1)),
 X.m 13 204]
def C.hj : LO := C.hj_b
def C.hj_w := pO C.hj.eq_1
def C.brw : ICode := .keep [2, 4, 6, 13] (.region C.hj)
def C.brw_w := pC C.brw.eq_1
def C.hk_b : LO := [
 X.o 205 (.fldAddr 2 (X.s 6)),
 X.o 206 (.load1 (X.s 205)),
 X.m 207 4,
 X.m 208 13,
 X.o 209 (.bin .add (X.i 50) (X.s 208)),
 X.o 210 (.idxAddr 1 (X.s 207) (X.s 209)),
 X.o 211 (.load1 (X.s 210)),
 X.o 212 (.bin .rem (X.s 211) (X.i 4)),
 X.o 213 (.build [.int .i64 0] [(0, 1, X.s 212)]),
 X.o 214 (.buildSlice 1 1 [.int .i64 0] [(0, 1, X.s 213)]),
 X.o 215 (.append 1 8 (X.s 206) (X.s 214)),
 X.o 216 (.fldAddr 2 (X.s 6)),
 X.n (.store1 (X.s 216) (X.s 215))]
def C.hk : LO := C.hk_b
def C.hk_w := pO C.hk.eq_1
def C.bp8 : ICode := .region C.hk
def C.bp8_w := pC C.bp8.eq_1
def C.t5 : ICode := .keep [2, 4, 6, 13] (.seq (.block 8 C.bp8) C.brw)
def C.t5_w := pC C.t5.eq_1
def C.brx : ICode := .keep [2, 4, 6, 13, 202] (.cond (X.s 202) .skip (.exit 7))
def C.brx_w := pC C.brx.eq_1
def C.hh_b : LO := [
 X.m 196 13,
 X.m 197 4,
 X.o 198 (.idxAddr 1 (X.s 197) (X.i 3)),
 X.o 199 (.load1 (X.s 198)),
 X.o 200 (.bin .rem (X.s 199) (X.i 3)),
 X.o 201 (.bin .add (X.i 1) (X.s 200)),
 X.o 202 (.bin .lss (X.s 196) (X.s 201))]
def C.hh : LO := C.hh_b
def C.hh_w := pO C.hh.eq_1
def C.ckv : ICode := .keep [2, 4, 6, 13] (.seq (.seq (.region C.hh) C.brx) C.t5)
def C.ckv_w := pC C.ckv.eq_1
def C.bp9 : ICode := .loop C.ckv
def C.bp9_w := pC C.bp9.eq_1
def C.brq : ICode := .keep [2, 4, 6, 13] (.block 7 C.bp9)
def C.brq_w := pC C.brq.eq_1
def C.hg_b : LO := [
 X.o 13 (.move (X.i 0))]
def C.hg : LO := C.hg_b
def C.hg_w := pO C.hg.eq_1
def C.blq : ICode := .keep [2, 4, 6] (.seq (.seq (.region C.hg) C.brq) C.bly)
def C.blq_w := pC C.blq.eq_1
def C.g8_b : LO := [
 X.m 153 11,
 X.o 154 (.bin .add (X.s 153) (X.i 1)),
 X.m 11 154]
def C.g8 : LO := C.g8_b
def C.g8_w := pO C.g8.eq_1
def C.brz : ICode := .keep [2, 4, 6, 11] (.region C.g8)
def C.brz_w := pC C.brz.eq_1
def C.hf_b : LO := [
 X.o 190 (.fldAddr 1 (X.s 6)),
 X.o 191 (.load1 (X.s 190)),
 X.o 192 (.loadN 3 (X.s 12)),
 X.o 193 (.buildSlice 3 1 [.int .i64 0, .int .i64 0, .bool false] [(0, 3, X.s 192)]),
 X.o 194 (.append 3 24 (X.s 191) (X.s 193)),
 X.o 195 (.fldAddr 1 (X.s 6)),
 X.n (.store1 (X.s 195) (X.s 194))]
def C.hf : LO := C.hf_b
def C.hf_w := pO C.hf.eq_1
def C.br0 : ICode := .keep [2, 4, 6, 11, 12] (.region C.hf)
def C.br0_w := pC C.br0.eq_1
def C.hd_b : LO := [
 X.m 181 4,
 X.m 182 11,
 X.o 183 (.bin .add (X.i 44) (X.s 182)),
 X.o 184 (.idxAddr 1 (X.s 181) (X.s 183)),
 X.o 185 (.load1 (X.s 184)),
 X.o 186 (.bin .quo (X.s 185) (X.i 3)),
 X.m 187 11,
 X.o 188 (.bin .rem (X.s 186) (X.s 187)),
 X.o 189 (.fldAddr 0 (X.s 12)),
 X.n (.store1 (X.s 189) (X.s 188))]
def C.hd : LO := C.hd_b
def C.hd_w := pO C.hd.eq_1
def C.br1 : ICode := .keep [2, 4, 6, 11, 12, 180] (.cond (X.s 180) (.region C.hd) .skip)
def C.br1_w := pC C.br1.eq_1
def C.hb_b : LO := [
 X.m 170 11,
 X.o 171 (.bin .gtr (X.s 170) (X.i 0)),
 X.m 172 171,
 X.t 172 173 (.move (X.s 4)),
 X.t 172 174 (.move (X.s 11)),
 X.t 172 175 (.bin .add (X.i 44) (X.s 174)),
 X.t 172 176 (.idxAddr 1 (X.s 173) (X.s 175)),
 X.t 172 177 (.load1 (X.s 176)),
 X.t 172 178 (.bin .rem (X.s 177) (X.i 3)),
 X.t 172 179 (.bin .gtr (X.s 178) (X.i 0)),
 X.o 180 (.pick (X.s 172) (X.s 179) (.cst (.bool false)))]
def C.hb : LO := C.hb_b
def C.hb_w := pO C.hb.eq_1
def C.blz : ICode := .keep [2, 4, 6, 11, 12] (.seq (.seq (.region C.hb) C.br1) C.br0)
def C.blz_w := pC C.blz.eq_1
def C.g9_b : LO := [
 X.m 155 4,
 X.m 156 11,
 X.o 157 (.bin .add (X.i 40) (X.s 156)),
 X.o 158 (.idxAddr 1 (X.s 155) (X.s 157)),
 X.o 159 (.load1 (X.s 158)),
 X.o 160 (.bin .rem (X.s 159) (X.i 4)),
 X.m 161 4,
 X.m 162 11,
 X.o 163 (.bin .add (X.i 40) (X.s 162)),
 X.o 164 (.idxAddr 1 (X.s 161) (X.s 163)),
 X.o 165 (.load1 (X.s 164)),
 X.o 166 (.bin .quo (X.s 165) (X.i 4)),
 X.o 167 (.bin .rem (X.s 166) (X.i 2)),
 X.o 168 (.bin .eql (X.s 167) (X.i 1)),
 X.o 169 (.build [.int .i64 0, .int .i64 0, .bool false] [(0, 1, X.i (-1)), (1, 1, X.s 160), (2, 1, X.s 168)]),
 X.o 12 (.alloc [.int .i64 0, .int .i64 0, .bool false]),
 X.n (.storeN 3 (X.s 12) (X.s 169))]
def C.g9 : LO := C.g9_b
def C.g9_w := pO C.g9.eq_1
def C.brb : ICode := .seq (.region C.g9) C.blz
def C.brb_w := pC C.brb.eq_1
def C.t6 : ICode := .keep [2, 4, 6, 11] (.seq (.block 6 C.brb) C.brz)
def C.t6_w := pC C.t6.eq_1
def C.br2 : ICode := .keep [2, 4, 6, 11, 152] (.cond (X.s 152) .skip (.exit 5))
def C.br2_w := pC C.br2.eq_1
def C.g7_b : LO := [
 X.m 146 11,
 X.m 147 4,
 X.o 148 (.idxAddr 1 (X.s 147) (X.i 2)),
 X.o 149 (.load1 (X.s 148)),
 X.o 150 (.bin .rem (X.s 149) (X.i 4)),
 X.o 151 (.bin .add (X.i 1) (X.s 150)),
 X.o 152 (.bin .lss (X.s 146) (X.s 151))]
def C.g7 : LO := C.g7_b
def C.g7_w := pO C.g7.eq_1
def C.ckw : ICode := .keep [2, 4, 6, 11] (.seq (.seq (.region C.g7) C.br2) C.t6)
def C.ckw_w := pC C.ckw.eq_1
def C.brc : ICode := .loop C.ckw
def C.brc_w := pC C.brc.eq_1
def C.br4 : ICode := .keep [2, 4, 6, 11] (.block 5 C.brc)
def C.br4_w := pC C.br4.eq_1
def C.g6_b : LO := [
 X.o 11 (.move (X.i 0))]
def C.g6 : LO := C.g6_b
def C.g6_w := pO C.g6.eq_1
def C.bl0 : ICode := .keep [2, 4, 6] (.seq (.seq (.region C.g6) C.br4) C.blq)
def C.bl0_w := pC C.bl0.eq_1
def C.gt_b : LO := [
 X.m 62 8,
 X.o 63 (.bin .add (X.s 62) (X.i 1)),
 X.m 8 63]
def C.gt : LO := C.gt_b
def C.gt_w := pO C.gt.eq_1
def C.br5 : ICode := .keep [2, 3, 4, 6, 7, 8] (.region C.gt)
def C.br5_w := pC C.br5.eq_1
def C.g5_b : LO := [
 X.o 140 (.fldAddr 0 (X.s 6)),
 X.o 141 (.load1 (X.s 140)),
 X.o 142 (.loadN 6 (X.s 10)),
 X.o 143 (.buildSlice 6 1 [.int .u8 0, .nils, .int .u64 0, .int .i64 0, .int .i64 0, .int .i64 0] [(0, 6, X.s 142)]),
 X.o 144 (.append 6 64 (X.s 141) (X.s 143)),
 X.o 145 (.fldAddr 0 (X.s 6)),
 X.n (.store1 (X.s 145) (X.s 144))]
def C.g5 : LO := C.g5_b
def C.g5_w := pO C.g5.eq_1
def C.br6 : ICode := .keep [2, 3, 4, 6, 7, 8, 10] (.region C.g5)
def C.br6_w := pC C.br6.eq_1
def C.gz_b : LO := [
 X.m 106 4,
 X.m 107 9,
 X.o 108 (.bin .add (X.s 107) (X.i 2)),
 X.o 109 (.idxAddr 1 (X.s 106) (X.s 108)),
 X.o 110 (.load1 (X.s 109)),
 X.o 111 (.bin .quo (X.s 110) (X.i 32)),
 X.o 112 (.bin .rem (X.s 111) (X.i 4)),
 X.o 113 (.fldAddr 5 (X.s 10)),
 X.n (.store1 (X.s 113) (X.s 112))]
def C.gz : LO := C.gz_b
def C.gz_w := pO C.gz.eq_1
def C.br7 : ICode := .keep [2, 3, 4, 6, 7, 8, 9, 10] (.region C.gz)
def C.br7_w := pC C.br7.eq_1
def C.gq_b : LO := [
 X.m 97 4,
 X.m 98 9,
 X.o 99 (.bin .add (X.s 98) (X.i 2)),
 X.o 100 (.idxAddr 1 (X.s 97) (X.s 99)),
 X.o 101 (.load1 (X.s 100)),
 X.o 102 (.bin .quo (X.s 101) (X.i 8)),
 X.o 103 (.bin .rem (X.s 102) (X.i 4)),
 X.o 104 (.bin .add (X.i 1) (X.s 103)),
 X.o 105 (.fldAddr 4 (X.s 10)),
 X.n (.store1 (X.s 105) (X.s 104))]
def C.gq : LO := C.gq_b
def C.gq_w := pO C.gq.eq_1
def C.br8 : ICode := .keep [2, 3, 4, 6, 7, 8, 9, 10] (.seq (.region C.gq) C.br7)
def C.br8_w := pC C.br8.eq_1
def C.gy_b : LO := [
 X.m 89 4,
 X.m 90 9,
 X.o 91 (.bin .add (X.s 90) (X.i 2)),
 X.o 92 (.idxAddr 1 (X.s 89) (X.s 91)),
 X.o 93 (.load1 (X.s 92)),
 X.o 94 (.bin .rem (X.s 93) (X.i 8)),
 X.o 95 (.bin .add (X.i 1) (X.s 94)),
 X.o 96 (.fldAddr 3 (X.s 10)),
 X.n (.store1 (X.s 96) (X.s 95))]
def C.gy : LO := C.gy_b
def C.gy_w := pO C.gy.eq_1
def C.g2_b : LO := [
 X.m 116 4,
 X.m 117 9,
 X.o 118 (.bin .add (X.s 117) (X.i 2)),
 X.o 119 (.idxAddr 1 (X.s 116) (X.s 118)),
 X.o 120 (.load1 (X.s 119)),
 X.o 121 (.bin .rem (X.s 120) (X.i 8)),
 X.o 122 (.bin .add (X.i 1) (X.s 121)),
 X.o 123 (.fldAddr 4 (X.s 10)),
 X.n (.store1 (X.s 123) (X.s 122))]
def C.g2 : LO := C.g2_b
def C.g2_w := pO C.g2.eq_1
def C.g4_b : LO := [
 X.o 126 (.fldAddr 1 (X.s 10)),
 X.o 127 (.load1 (X.s 126)),
 X.m 128 4,
 X.m 129 9,
 X.o 130 (.bin .add (X.s 129) (X.i 2)),
 X.o 131 (.idxAddr 1 (X.s 128) (X.s 130)),
 X.o 132 (.load1 (X.s 131)),
 X.o 133 (.fldAddr 0 (X.s 6)),
 X.o 134 (.load1 (X.s 133)),
 X.o 135 (.len (X.s 134)),
 X.o 136 (.bin .rem (X.s 132) (X.s 135)),
 X.o 137 (.buildSlice 1 1 [.int .i64 0] [(0, 1, X.s 136)]),
 X.o 138 (.append 1 8 (X.s 127) (X.s 137)),
 X.o 139 (.fldAddr 1 (X.s 10)),
 X.n (.store1 (X.s 139) (X.s 138))]
def C.g4 : LO := C.g4_b
def C.g4_w := pO C.g4.eq_1
def C.br9 : ICode := .keep [2, 3, 4, 6, 7, 8, 9, 10, 124] (.cond (X.s 124) (.region C.g4) .skip)
def C.br9_w := pC C.br9.eq_1
def C.g3_b : LO := [
 X.o 125 (.bin .eql (X.s 86) (.cst (.int .u8 109))),
 X.m 124 125]
def C.g3 : LO := C.g3_b
def C.g3_w := pO C.g3.eq_1
def C.bsb : ICode := .seq (.region C.g3) C.br9
def C.bsb_w := pC C.bsb.eq_1
def C.bsc : ICode := .keep [2, 3, 4, 6, 7, 8, 9, 10, 86, 114] (.cond (X.s 114) (.region C.g2) C.bsb)
def C.bsc_w := pC C.bsc.eq_1
def C.g1_b : LO := [
 X.o 115 (.bin .eql (X.s 86) (.cst (.int .u8 100))),
 X.m 114 115]
def C.g1 : LO := C.g1_b
def C.g1_w := pO C.g1.eq_1
def C.bsf : ICode := .seq (.region C.gy) C.br8
def C.bsf_w := pC C.bsf.eq_1
def C.bsg : ICode := .seq (.region C.g1) C.bsc
def C.bsg_w := pC C.bsg.eq_1
def C.bsh : ICode := .keep [2, 3, 4, 6, 7, 8, 9, 10, 86, 87] (.cond (X.s 87) C.bsf C.bsg)
def C.bsh_w := pC C.bsh.eq_1
def C.gx_b : LO := [
 X.o 88 (.bin .eql (X.s 86) (.cst (.int .u8 112))),
 X.m 87 88]
def C.gx : LO := C.gx_b
def C.gx_w := pO C.gx.eq_1
def C.brd : ICode := .seq (.region C.gx) C.bsh
def C.brd_w := pC C.brd.eq_1
def C.bsj : ICode := .keep [2, 3, 4, 6, 7, 8, 9, 10, 86] (.block 4 C.brd)
def C.bsj_w := pC C.bsj.eq_1
def C.gw_b : LO := [
 X.o 85 (.fldAddr 0 (X.s 10)),
 X.o 86 (.load1 (X.s 85))]
def C.gw : LO := C.gw_b
def C.gw_w := pO C.gw.eq_1
def C.bl1 : ICode := .keep [2, 3, 4, 6, 7, 8, 9, 10] (.seq (.seq (.region C.gw) C.bsj) C.br6)
def C.bl1_w := pC C.bl1.eq_1
def C.bf_b : LO := [
 X.m 67 7,
 X.m 68 4,
 X.m 69 9,
 X.o 70 (.idxAddr 1 (X.s 68) (X.s 69)),
 X.o 71 (.load1 (X.s 70)),
 X.o 72 (.bin .rem (X.s 71) (X.i 5)),
 X.o 73 (.strIdx (X.s 67) (X.s 72)),
 X.m 74 4,
 X.m 75 9,
 X.o 76 (.bin .add (X.s 75) (X.i 1)),
 X.o 77 (.idxAddr 1 (X.s 74) (X.s 76)),
 X.o 78 (.load1 (X.s 77)),
 X.o 79 (.fldAddr 0 (X.s 6)),
 X.o 80 (.load1 (X.s 79)),
 X.o 81 (.len (X.s 80)),
 X.o 82 (.bin .rem (X.s 78) (X.s 81)),
 X.o 83 (.buildSlice 1 1 [.int .i64 0] [(0, 1, X.s 82)]),
 X.o 84 (.build [.int .u8 0, .nils, .int .u64 0, .int .i64 0, .int .i64 0, .int .i64 0] [(0, 1, X.s 73), (1, 1, X.s 83)]),
 X.o 10 (.alloc [.int .u8 0, .nils, .int .u64 0, .int .i64 0, .int .i64 0, .int .i64 0]),
 X.n (.storeN 6 (X.s 10) (X.s 84))]
def C.bf : LO := C.bf_b
def C.bf_w := pO C.bf.eq_1
def C.bsk : ICode := .keep [2, 3, 4, 6, 7, 8, 9] (.seq (.region C.bf) C.bl1)
def C.bsk_w := pC C.bsk.eq_1
def C.gv_b : LO := [
 X.m 64 8,
 X.o 65 (.bin .mul (X.i 3) (X.s 64)),
 X.o 66 (.bin .add (X.i 10) (X.s 65)),
 X.m 9 66]
def C.gv : LO := C.gv_b
def C.gv_w := pO C.gv.eq_1
def C.brf : ICode := .seq (.region C.gv) C.bsk
def C.brf_w := pC C.brf.eq_1
def C.t7 : ICode := .keep [2, 3, 4, 6, 7, 8] (.seq (.block 3 C.brf) C.br5)
def C.t7_w := pC C.t7.eq_1
def C.bsl : ICode := .keep [2, 3, 4, 6, 7, 8, 61] (.cond (X.s 61) .skip (.exit 2))
def C.bsl_w := pC C.bsl.eq_1
def C.gs_b : LO := [
 X.m 55 8,
 X.m 56 4,
 X.m 57 3,
 X.o 58 (.idxAddr 1 (X.s 56) (X.s 57)),
 X.o 59 (.load1 (X.s 58)),
 X.o 60 (.bin .rem (X.s 59) (X.i 9)),
 X.o 61 (.bin .lss (X.s 55) (X.s 60))]
def C.gs : LO := C.gs_b
def C.gs_w := pO C.gs.eq_1
def C.ckx : ICode := .keep [2, 3, 4, 6, 7, 8] (.seq (.seq (.region C.gs) C.bsl) C.t7)
def C.ckx_w := pC C.ckx.eq_1
def C.brg : ICode := .loop C.ckx
def C.brg_w := pC C.brg.eq_1
def C.bsn : ICode := .keep [2, 3, 4, 6, 7, 8] (.block 2 C.brg)
def C.bsn_w := pC C.bsn.eq_1
def C.gr_b : LO := [
 X.o 8 (.move (X.i 0))]
def C.gr : LO := C.gr_b
def C.gr_w := pO C.gr.eq_1
def C.bsp : ICode := .keep [2, 3, 4, 6, 7] (.seq (.seq (.region C.gr) C.bsn) C.bl0)
def C.bsp_w := pC C.bsp.eq_1
def C.h5_b : LO := [
 X.o 7 (.move (.cst (.str [112, 100, 103, 109, 103])))]
def C.h5 : LO := C.h5_b
def C.h5_w := pO C.h5.eq_1
def C.bsr : ICode := .keep [2, 3, 4, 6] (.seq (.region C.h5) C.bsp)
def C.bsr_w := pC C.bsr.eq_1
def C.h4_b : LO := [
 X.o 3 (.move (X.i 1))]
def C.h4 : LO := C.h4_b
def C.h4_w := pO C.h4.eq_1
def C.t8 : ICode := .keep [2, 4, 6] (.seq (.region C.h4) C.bsr)
def C.t8_w := pC C.t8.eq_1
def C.h3_b : LO := [
 X.m 47 4,
 X.o 48 (.idxAddr 1 (X.s 47) (X.i 0)),
 X.o 49 (.load1 (X.s 48)),
 X.o 50 (.bin .add (X.i 1) (X.s 49)),
 X.o 51 (.conv .u64 (X.s 50)),
 X.o 52 (.build [.int .u8 0, .nils, .int .u64 0, .int .i64 0, .int .i64 0, .int .i64 0] [(0, 1, .cst (.int .u8 111)), (2, 1, X.s 51)]),
 X.o 53 (.buildSlice 6 1 [.int .u8 0, .nils, .int .u64 0, .int .i64 0, .int .i64 0, .int .i64 0] [(0, 6, X.s 52)]),
 X.o 54 (.build [.nils, .nils, .nils, .nils] [(0, 1, X.s 53)]),
 X.o 6 (.alloc [.nils, .nils, .nils, .nils]),
 X.n (.storeN 4 (X.s 6) (X.s 54))]
def C.h3 : LO := C.h3_b
def C.h3_w := pO C.h3.eq_1
def C.bl2 : ICode := .keep [2, 4] (.seq (.region C.h3) C.t8)
def C.bl2_w := pC C.bl2.eq_1
def C.h1_b : LO := [
 X.m 28 5,
 X.o 29 (.bin .add (X.s 28) (X.i 1)),
 X.m 5 29]
def C.h1 : LO := C.h1_b
def C.h1_w := pO C.h1.eq_1
def C.bss : ICode := .keep [0, 2, 4, 5] (.region C.h1)
def C.bss_w := pC C.bss.eq_1
def C.h2_b : LO := [
 X.m 30 4,
 X.m 31 5,
 X.m 32 0,
 X.m 33 5,
 X.m 34 0,
 X.o 35 (.len (X.s 34)),
 X.o 36 (.bin .rem (X.s 33) (X.s 35)),
 X.o 37 (.idxAddr 1 (X.s 32) (X.s 36)),
 X.o 38 (.load1 (X.s 37)),
 X.m 39 5,
 X.m 40 0,
 X.o 41 (.len (X.s 40)),
 X.o 42 (.bin .quo (X.s 39) (X.s 41)),
 X.o 43 (.bin .add (X.i 1) (X.s 42)),
 X.o 44 (.bin .quo (X.s 38) (X.s 43)),
 X.o 45 (.call F.q14 [X.s 44, X.i 1000000]),
 X.o 46 (.idxAddr 1 (X.s 30) (X.s 31)),
 X.n (.store1 (X.s 46) (X.s 45))]
def C.h2 : LO := C.h2_b
def C.h2_w := pO C.h2.eq_1
def C.brh : ICode := .region C.h2
def C.brh_w := pC C.brh.eq_1
def C.bst : ICode := .keep [0, 2, 4, 5] (.seq (.block 1 C.brh) C.bss)
def C.bst_w := pC C.bst.eq_1
def C.bsw : ICode := .keep [0, 2, 4, 5, 27] (.cond (X.s 27) .skip (.exit 0))
def C.bsw_w := pC C.bsw.eq_1
def C.hr_b : LO := [
 X.m 19 5,
 X.m 20 4,
 X.o 21 (.len (X.s 20)),
 X.o 22 (.bin .lss (X.s 19) (X.s 21)),
 X.m 23 22,
 X.t 23 24 (.move (X.s 0)),
 X.t 23 25 (.len (X.s 24)),
 X.t 23 26 (.bin .gtr (X.s 25) (X.i 0)),
 X.o 27 (.pick (X.s 23) (X.s 26) (.cst (.bool false)))]
def C.hr : LO := C.hr_b
def C.hr_w := pO C.hr.eq_1
def C.cky : ICode := .keep [0, 2, 4, 5] (.seq (.seq (.region C.hr) C.bsw) C.bst)
def C.cky_w := pC C.cky.eq_1
def C.brj : ICode := .loop C.cky
def C.brj_w := pC C.brj.eq_1
def C.bsx : ICode := .keep [0, 2, 4, 5] (.block 0 C.brj)
def C.bsx_w := pC C.bsx.eq_1
def C.hc_b : LO := [
 X.o 5 (.move (X.i 0))]
def C.hc : LO := C.hc_b
def C.hc_w := pO C.hc.eq_1
def C.bsy : ICode := .keep [0, 2, 4] (.seq (.seq (.region C.hc) C.bsx) C.bl2)
def C.bsy_w := pC C.bsy.eq_1
def C.g0_b : LO := [
 X.o 18 (.makeSlice 1 8 [.int .i64 0] (X.i 120) (X.i 120)),
 X.m 4 18]
def C.g0 : LO := C.g0_b
def C.g0_w := pO C.g0.eq_1
def C.bsq : ICode := .keep [0, 2] (.seq (.region C.g0) C.bsy)
def C.bsq_w := pC C.bsq.eq_1
def C.gp_b : LO := [
 X.o 3 (.move (X.i 0))]
def C.gp : LO := C.gp_b
def C.gp_w := pO C.gp.eq_1
def C.bsz : ICode := .keep [0, 2] (.seq (.region C.gp) C.bsq)
def C.bsz_w := pC C.bsz.eq_1
def C.bb_b : LO := [
 X.o 2 (.alloc [.nils, .nils, .nils, .nils])]
def C.bb : LO := C.bb_b
def C.bb_w := pO C.bb.eq_1
def C.q13 : IFunc := ⟨1, [.cellN 2 4], .seq (.region C.bb) C.bsz⟩
def C.q13_W := aI (aI (aI (aI (aI (aI @C.bg_w (aI @C.blx_w @C.hn_w)) (aI (aI @C.brt_w @C.h0_w) (aI @C.bry_w @C.hz_w))) (aI (aI (aI @C.br3_w @C.hq_w) (aI @C.bsd_w @C.hy_w)) (aI (aI @C.bsm_w @C.hx_w) (aI @C.bsv_w @C.hv_w)))) (aI (aI (aI @C.bs0_w (aI @C.hw_w @C.brk_w)) (aI (aI @C.brl_w @C.brm_w) (aI @C.ht_w @C.bp5_w))) (aI (aI (aI @C.brn_w @C.hs_w) (aI @C.brp_w @C.bh_w)) (aI (aI @C.brr_w @C.hp_w) (aI @C.bp6_w @C.t4_w))))) (aI (aI (aI (aI @C.brs_w (aI @C.hm_w @C.bp7_w)) (aI (aI @C.brv_w @C.hl_w) (aI @C.bly_w @C.hj_w))) (aI (aI (aI @C.brw_w @C.hk_w) (aI @C.bp8_w @C.t5_w)) (aI (aI @C.brx_w @C.hh_w) (aI @C.bp9_w @C.brq_w)))) (aI (aI (aI @C.hg_w (aI @C.blq_w @C.g8_w)) (aI (aI @C.brz_w @C.hf_w) (aI @C.br0_w @C.hd_w))) (aI (aI (aI @C.br1_w @C.hb_w) (aI @C.blz_w @C.g9_w)) (aI (aI @C.brb_w @C.t6_w) (aI @C.br2_w @C.g7_w)))))) (aI (aI (aI (aI (aI @C.brc_w (aI @C.br4_w @C.g6_w)) (aI (aI @C.bl0_w @C.gt_w) (aI @C.br5_w @C.g5_w))) (aI (aI (aI @C.br6_w @C.gz_w) (aI @C.br7_w @C.gq_w)) (aI (aI @C.br8_w @C.gy_w) (aI @C.g2_w @C.g4_w)))) (aI (aI (aI @C.br9_w (aI @C.g3_w @C.bsb_w)) (aI (aI @C.bsc_w @C.g1_w) (aI @C.bsf_w @C.bsg_w))) (aI (aI (aI @C.bsh_w @C.gx_w) (aI @C.brd_w @C.bsj_w)) (aI (aI @C.gw_w @C.bl1_w) (aI @C.bf_w @C.bsk_w))))) (aI (aI (aI (aI @C.gv_w (aI @C.brf_w @C.t7_w)) (aI (aI @C.bsl_w @C.gs_w) (aI @C.brg_w @C.bsn_w))) (aI (aI (aI @C.gr_w @C.bsp_w) (aI @C.h5_w @C.bsr_w)) (aI (aI @C.h4_w @C.t8_w) (aI @C.h3_w @C.bl2_w)))) (aI (aI (aI (aI @C.h1_w @C.bss_w) (aI @C.h2_w @C.brh_w)) (aI (aI @C.bst_w @C.bsw_w) (aI @C.hr_w @C.brj_w))) (aI (aI (aI @C.bsx_w @C.hc_w) (aI @C.bsy_w @C.g0_w)) (aI (aI @C.bsq_w @C.gp_w) (aI @C.bsz_w @C.bb_w))))))
def C.q13_B := aI (aI (aI (aI (aI @C.bg_b.eq_1 (aI @C.hn_b.eq_1 @C.h0_b.eq_1)) (aI @C.hz_b.eq_1 (aI @C.hq_b.eq_1 @C.hy_b.eq_1))) (aI (aI @C.hx_b.eq_1 (aI @C.hv_b.eq_1 @C.hw_b.eq_1)) (aI @C.ht_b.eq_1 (aI @C.hs_b.eq_1 @C.bh_b.eq_1)))) (aI (aI (aI @C.hp_b.eq_1 (aI @C.hm_b.eq_1 @C.hl_b.eq_1)) (aI @C.hj_b.eq_1 (aI @C.hk_b.eq_1 @C.hh_b.eq_1))) (aI (aI @C.hg_b.eq_1 (aI @C.g8_b.eq_1 @C.hf_b.eq_1)) (aI (aI @C.hd_b.eq_1 @C.hb_b.eq_1) (aI @C.g9_b.eq_1 @C.g7_b.eq_1))))) (aI (aI (aI (aI @C.g6_b.eq_1 (aI @C.gt_b.eq_1 @C.g5_b.eq_1)) (aI @C.gz_b.eq_1 (aI @C.gq_b.eq_1 @C.gy_b.eq_1))) (aI (aI @C.g2_b.eq_1 (aI @C.g4_b.eq_1 @C.g3_b.eq_1)) (aI (aI @C.g1_b.eq_1 @C.gx_b.eq_1) (aI @C.gw_b.eq_1 @C.bf_b.eq_1)))) (aI (aI (aI @C.gv_b.eq_1 (aI @C.gs_b.eq_1 @C.gr_b.eq_1)) (aI @C.h5_b.eq_1 (aI @C.h4_b.eq_1 @C.h3_b.eq_1))) (aI (aI @C.h1_b.eq_1 (aI @C.h2_b.eq_1 @C.hr_b.eq_1)) (aI (aI @C.hc_b.eq_1 @C.g0_b.eq_1) (aI @C.gp_b.eq_1 @C.bb_b.eq_1)))))

def C.bkp_b : LO := [
 X.m 107 9,
 X.m 2 107,
 X.o 3 (.move (X.i 0))]
def C.bkp : LO := C.bkp_b
def C.bkp_w := pO C.bkp.eq_1
def C.ch8 : ICode := .keep [9] (.seq (.region C.bkp) .ret)
def C.ch8_w := pC C.ch8.eq_1
def C.bkn_b : LO := [
 X.m 106 6,
 X.o 2 (.move (.cst (.nilp))),
 X.m 3 106]
def C.bkn : LO := C.bkn_b
def C.bkn_w := pO C.bkn.eq_1
def C.ch9 : ICode := .seq (.region C.bkn) .ret
def C.ch9_w := pC C.ch9.eq_1
def C.cjb : ICode := .keep [6, 9, 105] (.cond (X.s 105) C.ch9 .skip)
def C.cjb_w := pC C.cjb.eq_1
def C.bkm_b : LO := [
 X.m 104 6,
 X.o 105 (.bin .neq (X.s 104) (X.i 0))]
def C.bkm : LO := C.bkm_b
def C.bkm_w := pO C.bkm.eq_1
def C.cjc : ICode := .keep [6, 9] (.seq (.region C.bkm) C.cjb)
def C.cjc_w := pC C.cjc.eq_1
def C.bkl_b : LO := [
 X.m 97 9,
 X.m 98 10,
 X.o 99 (.call F.q9 [X.s 98]),
 X.m 96 99,
 X.o 100 (.extract (X.s 96) 0),
 X.o 101 (.extract (X.s 96) 1),
 X.o 102 (.nilchk (X.s 97)),
 X.o 103 (.fldAddr 3 (X.s 102)),
 X.n (.store1 (X.s 103) (X.s 100)),
 X.m 6 101]
def C.bkl : LO := C.bkl_b
def C.bkl_w := pO C.bkl.eq_1
def C.cjd : ICode := .keep [9, 10] (.seq (.seq (.region C.bkl) C.cjc) C.ch8)
def C.cjd_w := pC C.cjd.eq_1
def C.b9_b : LO := [
 X.o 95 (.bin .add (X.s 56) (X.i 1)),
 X.m 56 95]
def C.b9 : LO := C.b9_b
def C.b9_w := pO C.b9.eq_1
def C.bmj : ICode := .keep [9, 10, 54, 55, 56] (.region C.b9)
def C.bmj_w := pC C.bmj.eq_1
def C.b8_b : LO := [
 X.m 75 9,
 X.m 76 9,
 X.o 77 (.nilchk (X.s 76)),
 X.o 78 (.fldAddr 4 (X.s 77)),
 X.o 79 (.load1 (X.s 78)),
 X.o 80 (.fldAddr 0 (X.s 12)),
 X.o 81 (.load1 (X.s 80)),
 X.o 82 (.fldAddr 1 (X.s 12)),
 X.o 83 (.load1 (X.s 82)),
 X.o 84 (.fldAddr 2 (X.s 12)),
 X.o 85 (.load1 (X.s 84)),
 X.o 86 (.fldAddr 3 (X.s 12)),
 X.o 87 (.load1 (X.s 86)),
 X.m 88 13,
 ⟨some 89, .call F.q106 [], none, [⟨.load1 (X.s 78), 79, none⟩, ⟨.load1 (X.s 80), 81, none⟩, ⟨.load1 (X.s 82), 83, none⟩, ⟨.load1 (X.s 84), 85, none⟩, ⟨.load1 (X.s 86), 87, none⟩], []⟩,
 X.o 90 (.build [.int .i64 0, .int .i64 0, .int .i64 0, .int .u32 0, .nilp, .nilp] [(0, 1, X.s 81), (1, 1, X.s 83), (2, 1, X.s 85), (3, 1, X.s 87), (4, 1, X.s 88), (5, 1, X.s 89)]),
 X.o 91 (.buildSlice 6 1 [.int .i64 0, .int .i64 0, .int .i64 0, .int .u32 0, .nilp, .nilp] [(0, 6, X.s 90)]),
 X.o 92 (.append 6 48 (X.s 79) (X.s 91)),
 X.o 93 (.nilchk (X.s 75)),
 X.o 94 (.fldAddr 4 (X.s 93)),
 X.n (.store1 (X.s 94) (X.s 92))]
def C.b8 : LO := C.b8_b
def C.b8_w := pO C.b8.eq_1
def C.bmk : ICode := .keep [9, 10, 12, 13, 54, 55, 56] (.region C.b8)
def C.bmk_w := pC C.bmk.eq_1
def C.dj_b : LO := [
 X.m 70 10,
 X.m 71 11,
 X.m 72 13,
 X.o 73 (.call F.q109 [X.s 72]),
 X.o 74 (.idxAddr 1 (X.s 70) (X.s 71)),
 X.n (.store1 (X.s 74) (X.s 73))]
def C.dj : LO := C.dj_b
def C.dj_w := pO C.dj.eq_1
def C.bml : ICode := .keep [9, 10, 11, 12, 13, 54, 55, 56] (.seq (.region C.dj) C.bmk)
def C.bml_w := pC C.bml.eq_1
def C.d8_b : LO := [
 X.m 69 14,
 X.o 2 (.move (.cst (.nilp))),
 X.m 3 69]
def C.d8 : LO := C.d8_b
def C.d8_w := pO C.d8.eq_1
def C.bzx : ICode := .seq (.region C.d8) .ret
def C.bzx_w := pC C.bzx.eq_1
def C.bq3 : ICode := .keep [9, 10, 11, 12, 13, 14, 54, 55, 56, 68] (.cond (X.s 68) C.bzx .skip)
def C.bq3_w := pC C.bq3.eq_1
def C.d7_b : LO := [
 X.m 67 14,
 X.o 68 (.bin .neq (X.s 67) (X.i 0))]
def C.d7 : LO := C.d7_b
def C.d7_w := pO C.d7.eq_1
def C.bq4 : ICode := .keep [9, 10, 11, 12, 13, 14, 54, 55, 56] (.seq (.seq (.region C.d7) C.bq3) C.bml)
def C.bq4_w := pC C.bq4.eq_1
def C.dh_b : LO := [
 X.o 62 (.fldAddr 4 (X.s 12)),
 X.o 63 (.load1 (X.s 62)),
 X.o 64 (.call F.q119 [X.s 63]),
 X.m 61 64,
 X.o 65 (.extract (X.s 61) 0),
 X.o 66 (.extract (X.s 61) 1),
 X.m 13 65,
 X.m 14 66]
def C.dh : LO := C.dh_b
def C.dh_w := pO C.dh.eq_1
def C.bq5 : ICode := .keep [9, 10, 11, 12, 54, 55, 56] (.seq (.region C.dh) C.bq4)
def C.bq5_w := pC C.bq5.eq_1
def C.dg_b : LO := [
 X.m 58 56,
 X.o 59 (.idxAddr 6 (X.s 54) (X.s 56)),
 X.o 60 (.loadN 6 (X.s 59)),
 X.o 12 (.alloc [.int .i64 0, .int .i64 0, .int .i64 0, .int .u32 0, .nils, .nils]),
 X.m 11 58,
 X.n (.storeN 6 (X.s 12) (X.s 60))]
def C.dg : LO := C.dg_b
def C.dg_w := pO C.dg.eq_1
def C.bq1 : ICode := .seq (.region C.dg) C.bq5
def C.bq1_w := pC C.bq1.eq_1
def C.bq6 : ICode := .keep [9, 10, 54, 55, 56] (.seq (.block 1 C.bq1) C.bmj)
def C.bq6_w := pC C.bq6.eq_1
def C.bq7 : ICode := .keep [9, 10, 54, 55, 56, 57] (.seq (.cond (X.s 57) .skip (.exit 0)) C.bq6)
def C.bq7_w := pC C.bq7.eq_1
def C.df_b : LO := [
 X.o 57 (.bin .lss (X.s 56) (X.s 55))]
def C.df : LO := C.df_b
def C.df_w := pO C.df.eq_1
def C.clq : ICode := .keep [9, 10, 54, 55, 56] (.seq (.region C.df) C.bq7)
def C.clq_w := pC C.clq.eq_1
def C.bq2 : ICode := .loop C.clq
def C.bq2_w := pC C.bq2.eq_1
def C.bq8 : ICode := .keep [9, 10, 54, 55, 56] (.block 0 C.bq2)
def C.bq8_w := pC C.bq8.eq_1
def C.nb_b : LO := [
 X.o 53 (.fldAddr 3 (X.s 1)),
 X.o 54 (.load1 (X.s 53)),
 X.o 55 (.len (X.s 54)),
 X.o 56 (.move (X.i 0))]
def C.nb : LO := C.nb_b
def C.nb_w := pO C.nb.eq_1
def C.bq9 : ICode := .keep [1, 9, 10] (.seq (.seq (.region C.nb) C.bq8) C.cjd)
def C.bq9_w := pC C.bq9.eq_1
def C.dd_b : LO := [
 X.o 49 (.fldAddr 3 (X.s 1)),
 X.o 50 (.load1 (X.s 49)),
 X.o 51 (.len (X.s 50)),
 X.o 52 (.makeSlice 1 8 [.int .i64 0] (X.s 51) (X.s 51)),
 X.m 10 52]
def C.dd : LO := C.dd_b
def C.dd_w := pO C.dd.eq_1
def C.bmh : ICode := .keep [1, 9] (.seq (.region C.dd) C.bq9)
def C.bmh_w := pC C.bmh.eq_1
def C.m9_b : LO := [
 X.m 44 5,
 X.m 45 7,
 X.m 46 8,
 X.o 47 (.build [.nilp, .nilp, .nilp, .nilp, .nils] [(0, 1, X.s 44), (1, 1, X.s 45), (2, 1, X.s 46)]),
 X.o 48 (.boxN (X.s 47)),
 X.m 9 48]
def C.m9 : LO := C.m9_b
def C.m9_w := pO C.m9.eq_1
def C.bzb : ICode := .keep [1, 5, 7, 8] (.seq (.region C.m9) C.bmh)
def C.bzb_w := pC C.bzb.eq_1
def C.m8_b : LO := [
 X.m 43 6,
 X.o 2 (.move (.cst (.nilp))),
 X.m 3 43]
def C.m8 : LO := C.m8_b
def C.m8_w := pO C.m8.eq_1
def C.bzc : ICode := .seq (.region C.m8) .ret
def C.bzc_w := pC C.bzc.eq_1
def C.bzd : ICode := .keep [1, 5, 6, 7, 8, 42] (.cond (X.s 42) C.bzc .skip)
def C.bzd_w := pC C.bzd.eq_1
def C.m7_b : LO := [
 X.m 41 6,
 X.o 42 (.bin .neq (X.s 41) (X.i 0))]
def C.m7 : LO := C.m7_b
def C.m7_w := pO C.m7.eq_1
def C.bzf : ICode := .keep [1, 5, 6, 7, 8] (.seq (.seq (.region C.m7) C.bzd) C.bzb)
def C.bzf_w := pC C.bzf.eq_1
def C.m6_b : LO := [
 X.o 37 (.loadN 4 (X.s 1)),
 X.o 38 (.call F.q124 [X.s 37]),
 X.m 36 38,
 X.o 39 (.extract (X.s 36) 0),
 X.o 40 (.extract (X.s 36) 1),
 X.m 8 39,
 X.m 6 40]
def C.m6 : LO := C.m6_b
def C.m6_w := pO C.m6.eq_1
def C.bzg : ICode := .keep [1, 5, 7] (.seq (.region C.m6) C.bzf)
def C.bzg_w := pC C.bzg.eq_1
def C.nl_b : LO := [
 X.m 35 6,
 X.o 2 (.move (.cst (.nilp))),
 X.m 3 35]
def C.nl : LO := C.nl_b
def C.nl_w := pO C.nl.eq_1
def C.bzh : ICode := .seq (.region C.nl) .ret
def C.bzh_w := pC C.bzh.eq_1
def C.bzj : ICode := .keep [1, 5, 6, 7, 34] (.cond (X.s 34) C.bzh .skip)
def C.bzj_w := pC C.bzj.eq_1
def C.nk_b : LO := [
 X.m 33 6,
 X.o 34 (.bin .neq (X.s 33) (X.i 0))]
def C.nk : LO := C.nk_b
def C.nk_w := pO C.nk.eq_1
def C.bzk : ICode := .keep [1, 5, 6, 7] (.seq (.seq (.region C.nk) C.bzj) C.bzg)
def C.bzk_w := pC C.bzk.eq_1
def C.nj_b : LO := [
 X.o 29 (.loadN 4 (X.s 1)),
 X.o 30 (.call F.q101 [X.s 29]),
 X.m 28 30,
 X.o 31 (.extract (X.s 28) 0),
 X.o 32 (.extract (X.s 28) 1),
 X.m 7 31,
 X.m 6 32]
def C.nj : LO := C.nj_b
def C.nj_w := pO C.nj.eq_1
def C.bzl : ICode := .keep [1, 5] (.seq (.region C.nj) C.bzk)
def C.bzl_w := pC C.bzl.eq_1
def C.nh_b : LO := [
 X.m 27 6,
 X.o 2 (.move (.cst (.nilp))),
 X.m 3 27]
def C.nh : LO := C.nh_b
def C.nh_w := pO C.nh.eq_1
def C.bzm : ICode := .seq (.region C.nh) .ret
def C.bzm_w := pC C.bzm.eq_1
def C.bzn : ICode := .keep [1, 5, 6, 26] (.cond (X.s 26) C.bzm .skip)
def C.bzn_w := pC C.bzn.eq_1
def C.ng_b : LO := [
 X.m 25 6,
 X.o 26 (.bin .neq (X.s 25) (X.i 0))]
def C.ng : LO := C.ng_b
def C.ng_w := pO C.ng.eq_1
def C.bzp : ICode := .keep [1, 5, 6] (.seq (.seq (.region C.ng) C.bzn) C.bzl)
def C.bzp_w := pC C.bzp.eq_1
def C.nf_b : LO := [
 X.o 21 (.loadN 4 (X.s 1)),
 X.o 22 (.call F.q17 [X.s 21]),
 X.m 20 22,
 X.o 23 (.extract (X.s 20) 0),
 X.o 24 (.extract (X.s 20) 1),
 X.m 5 23,
 X.m 6 24]
def C.nf : LO := C.nf_b
def C.nf_w := pO C.nf.eq_1
def C.bzr : ICode := .keep [1] (.seq (.region C.nf) C.bzp)
def C.bzr_w := pC C.bzr.eq_1
def C.nd_b : LO := [
 X.m 19 4,
 X.o 2 (.move (.cst (.nilp))),
 X.m 3 19]
def C.nd : LO := C.nd_b
def C.nd_w := pO C.nd.eq_1
def C.bzs : ICode := .seq (.region C.nd) .ret
def C.bzs_w := pC C.bzs.eq_1
def C.bzt : ICode := .keep [1, 4, 18] (.cond (X.s 18) C.bzs .skip)
def C.bzt_w := pC C.bzt.eq_1
def C.nc_b : LO := [
 X.m 17 4,
 X.o 18 (.bin .neq (X.s 17) (X.i 0))]
def C.nc : LO := C.nc_b
def C.nc_w := pO C.nc.eq_1
def C.bzv : ICode := .keep [1, 4] (.seq (.region C.nc) C.bzt)
def C.bzv_w := pC C.bzv.eq_1
def C.m5_b : LO := [
 X.o 15 (.loadN 4 (X.s 1)),
 X.o 16 (.call F.q25 [X.s 15]),
 X.m 4 16]
def C.m5 : LO := C.m5_b
def C.m5_w := pO C.m5.eq_1
def C.bzw : ICode := .keep [1] (.seq (.seq (.region C.m5) C.bzv) C.bzr)
def C.bzw_w := pC C.bzw.eq_1
def C.bn_b : LO := [
 X.o 1 (.boxN (X.s 0)),
 X.o 2 (.move (.cst (.nilp))),
 X.o 3 (.move (X.i 0))]
def C.bn : LO := C.bn_b
def C.bn_w := pO C.bn.eq_1
def C.q95 : IFunc := ⟨1, [.slot 2, .slot 3], .seq (.region C.bn) C.bzw⟩
def C.q95_W := aI (aI (aI (aI (aI (aI @C.bkp_w @C.ch8_w) (aI @C.bkn_w @C.ch9_w)) (aI (aI @C.cjb_w @C.bkm_w) (aI @C.cjc_w @C.bkl_w))) (aI (aI (aI @C.cjd_w @C.b9_w) (aI @C.bmj_w @C.b8_w)) (aI (aI @C.bmk_w @C.dj_w) (aI @C.bml_w @C.d8_w)))) (aI (aI (aI (aI @C.bzx_w @C.bq3_w) (aI @C.d7_w @C.bq4_w)) (aI (aI @C.dh_w @C.bq5_w) (aI @C.dg_w @C.bq1_w))) (aI (aI (aI @C.bq6_w @C.bq7_w) (aI @C.df_w @C.bq2_w)) (aI (aI @C.bq8_w @C.nb_w) (aI @C.bq9_w @C.dd_w))))) (aI (aI (aI (aI (aI @C.bmh_w @C.m9_w) (aI @C.bzb_w @C.m8_w)) (aI (aI @C.bzc_w @C.bzd_w) (aI @C.m7_w @C.bzf_w))) (aI (aI (aI @C.m6_w @C.bzg_w) (aI @C.nl_w @C.bzh_w)) (aI (aI @C.bzj_w @C.nk_w) (aI @C.bzk_w @C.nj_w)))) (aI (aI (aI (aI @C.bzl_w @C.nh_w) (aI @C.bzm_w @C.bzn_w)) (aI (aI @C.ng_w @C.bzp_w) (aI @C.nf_w @C.bzr_w))) (aI (aI (aI @C.nd_w @C.bzs_w) (aI @C.bzt_w @C.nc_w)) (aI (aI @C.bzv_w @C.m5_w) (aI @C.bzw_w @C.bn_w)))))
def C.q95_B := aI (aI (aI (aI @C.bkp_b.eq_1 (aI @C.bkn_b.eq_1 @C.bkm_b.eq_1)) (aI (aI @C.bkl_b.eq_1 @C.b9_b.eq_1) (aI @C.b8_b.eq_1 @C.dj_b.eq_1))) (aI (aI @C.d8_b.eq_1 (aI @C.d7_b.eq_1 @C.dh_b.eq_1)) (aI (aI @C.dg_b.eq_1 @C.df_b.eq_1) (aI @C.nb_b.eq_1 @C.dd_b.eq_1)))) (aI (aI (aI @C.m9_b.eq_1 (aI @C.m8_b.eq_1 @C.m7_b.eq_1)) (aI (aI @C.m6_b.eq_1 @C.nl_b.eq_1) (aI @C.nk_b.eq_1 @C.nj_b.eq_1))) (aI (aI @C.nh_b.eq_1 (aI @C.ng_b.eq_1 @C.nf_b.eq_1)) (aI (aI @C.nd_b.eq_1 @C.nc_b.eq_1) (aI @C.m5_b.eq_1 @C.bn_b.eq_1))))

def C.vd_b : LO := [
 X.m 10 0,
 X.m 11 1,
 X.o 12 (.bin .rem (X.s 10) (X.s 11)),
 X.m 4 12]
def C.vd : LO := C.vd_b
def C.vd_w := pO C.vd.eq_1
def C.b4t : ICode := .keep [0, 1] (.seq (.region C.vd) .ret)
def C.b4t_w := pC C.b4t.eq_1
def C.vc_b : LO := [
 X.m 7 0,
 X.o 8 (.bin .add (X.s 7) (X.i 1)),
 X.o 9 (.un .neg (X.s 8)),
 X.m 0 9]
def C.vc : LO := C.vc_b
def C.vc_w := pO C.vc.eq_1
def C.b4v : ICode := .keep [0, 1, 6] (.cond (X.s 6) (.region C.vc) .skip)
def C.b4v_w := pC C.b4v.eq_1
def C.vb_b : LO := [
 X.m 5 0,
 X.o 6 (.bin .lss (X.s 5) (X.i 0))]
def C.vb : LO := C.vb_b
def C.vb_w := pO C.vb.eq_1
def C.b4w : ICode := .keep [0, 1] (.seq (.seq (.region C.vb) C.b4v) C.b4t)
def C.b4w_w := pC C.b4w.eq_1
def C.t9_b : LO := [
 X.o 4 (.move (X.i 0))]
def C.t9 : LO := C.t9_b
def C.t9_w := pO C.t9.eq_1
def C.q14 : IFunc := ⟨2, [.slot 4], .seq (.region C.t9) C.b4w⟩
def C.q14_W := aI (aI @C.vd_w (aI @C.b4t_w @C.vc_w)) (aI (aI @C.b4v_w @C.vb_w) (aI @C.b4w_w @C.t9_w))
def C.q14_B := aI (aI @C.vd_b.eq_1 @C.vc_b.eq_1) (aI @C.vb_b.eq_1 @C.t9_b.eq_1)

def C.bbs_b : LO := [
 X.m 39 6,
 X.m 4 39,
 X.o 5 (.move (X.i 0))]
def C.bbs : LO := C.bbs_b
def C.bbs_w := pO C.bbs.eq_1
def C.b8j : ICode := .keep [6] (.seq (.region C.bbs) .ret)
def C.b8j_w := pC C.b8j.eq_1
def C.bbr_b : LO := [
 X.o 4 (.move (.cst (.int .u32 0))),
 X.o 5 (.move (X.i 1))]
def C.bbr : LO := C.bbr_b
def C.bbr_w := pO C.bbr.eq_1
def C.b8n : ICode := .seq (.region C.bbr) .ret
def C.b8n_w := pC C.b8n.eq_1
def C.b8p : ICode := .keep [6, 38] (.cond (X.s 38) C.b8n .skip)
def C.b8p_w := pC C.b8p.eq_1
def C.bbp_b : LO := [
 X.m 37 7,
 X.o 38 (.bin .neq (X.s 37) (X.i 0))]
def C.bbp : LO := C.bbp_b
def C.bbp_w := pO C.bbp.eq_1
def C.b8r : ICode := .keep [6, 7] (.seq (.seq (.region C.bbp) C.b8p) C.b8j)
def C.b8r_w := pC C.b8r.eq_1
def C.bbn_b : LO := [
 X.m 31 6,
 X.m 32 1,
 X.o 33 (.conv .u32 (X.s 32)),
 X.o 34 (.call F.q1 [X.s 31, X.i 2, X.i 14, X.s 33]),
 X.m 30 34,
 X.o 35 (.extract (X.s 30) 0),
 X.o 36 (.extract (X.s 30) 1),
 X.m 6 35,
 X.m 7 36]
def C.bbn : LO := C.bbn_b
def C.bbn_w := pO C.bbn.eq_1
def C.b8s : ICode := .keep [1, 6] (.seq (.region C.bbn) C.b8r)
def C.b8s_w := pC C.b8s.eq_1
def C.bbm_b : LO := [
 X.o 4 (.move (.cst (.int .u32 0))),
 X.o 5 (.move (X.i 1))]
def C.bbm : LO := C.bbm_b
def C.bbm_w := pO C.bbm.eq_1
def C.b8t : ICode := .seq (.region C.bbm) .ret
def C.b8t_w := pC C.b8t.eq_1
def C.b8v : ICode := .keep [1, 6, 29] (.cond (X.s 29) C.b8t .skip)
def C.b8v_w := pC C.b8v.eq_1
def C.bbl_b : LO := [
 X.m 28 7,
 X.o 29 (.bin .neq (X.s 28) (X.i 0))]
def C.bbl : LO := C.bbl_b
def C.bbl_w := pO C.bbl.eq_1
def C.b8w : ICode := .keep [1, 6, 7] (.seq (.seq (.region C.bbl) C.b8v) C.b8s)
def C.b8w_w := pC C.b8w.eq_1
def C.bbk_b : LO := [
 X.m 23 0,
 X.o 24 (.conv .u32 (X.s 23)),
 X.o 25 (.call F.q1 [.cst (.int .u32 0), X.i 16, X.i 8, X.s 24]),
 X.m 22 25,
 X.o 26 (.extract (X.s 22) 0),
 X.o 27 (.extract (X.s 22) 1),
 X.m 6 26,
 X.m 7 27]
def C.bbk : LO := C.bbk_b
def C.bbk_w := pO C.bbk.eq_1
def C.b8x : ICode := .keep [0, 1] (.seq (.region C.bbk) C.b8w)
def C.b8x_w := pC C.b8x.eq_1
def C.bbj_b : LO := [
 X.o 4 (.move (.cst (.int .u32 0))),
 X.o 5 (.move (X.i 1))]
def C.bbj : LO := C.bbj_b
def C.bbj_w := pO C.bbj.eq_1
def C.b8k : ICode := .seq (.region C.bbj) .ret
def C.b8k_w := pC C.b8k.eq_1
def C.b8l : ICode := .keep [0, 1, 21] (.cond (X.s 21) C.b8k .skip)
def C.b8l_w := pC C.b8l.eq_1
def C.bbh_b : LO := [
 X.m 8 0,
 X.o 9 (.bin .lss (X.s 8) (X.i 0)),
 X.m 10 9,
 X.f 10 11 (.move (X.s 0)),
 X.f 10 12 (.bin .geq (X.s 11) (X.i 256)),
 X.o 13 (.pick (X.s 10) (.cst (.bool true)) (X.s 12)),
 X.m 14 13,
 X.f 14 15 (.move (X.s 1)),
 X.f 14 16 (.bin .lss (X.s 15) (X.i 0)),
 X.o 17 (.pick (X.s 14) (.cst (.bool true)) (X.s 16)),
 X.m 18 17,
 X.f 18 19 (.move (X.s 1)),
 X.f 18 20 (.bin .geq (X.s 19) (X.i 16384)),
 X.o 21 (.pick (X.s 18) (.cst (.bool true)) (X.s 20))]
def C.bbh : LO := C.bbh_b
def C.bbh_w := pO C.bbh.eq_1
def C.b8m : ICode := .keep [0, 1] (.seq (.seq (.region C.bbh) C.b8l) C.b8x)
def C.b8m_w := pC C.b8m.eq_1
def C.bbg_b : LO := [
 X.o 4 (.move (.cst (.int .u32 0))),
 X.o 5 (.move (X.i 0))]
def C.bbg : LO := C.bbg_b
def C.bbg_w := pO C.bbg.eq_1
def C.q4 : IFunc := ⟨2, [.slot 4, .slot 5], .seq (.region C.bbg) C.b8m⟩
def C.q4_W := aI (aI (aI (aI @C.bbs_w @C.b8j_w) (aI @C.bbr_w (aI @C.b8n_w @C.b8p_w))) (aI (aI @C.bbp_w (aI @C.b8r_w @C.bbn_w)) (aI @C.b8s_w (aI @C.bbm_w @C.b8t_w)))) (aI (aI (aI @C.b8v_w @C.bbl_w) (aI @C.b8w_w (aI @C.bbk_w @C.b8x_w))) (aI (aI @C.bbj_w (aI @C.b8k_w @C.b8l_w)) (aI @C.bbh_w (aI @C.b8m_w @C.bbg_w))))
def C.q4_B := aI (aI (aI @C.bbs_b.eq_1 @C.bbr_b.eq_1) (aI @C.bbp_b.eq_1 (aI @C.bbn_b.eq_1 @C.bbm_b.eq_1))) (aI (aI @C.bbl_b.eq_1 @C.bbk_b.eq_1) (aI @C.bbj_b.eq_1 (aI @C.bbh_b.eq_1 @C.bbg_b.eq_1)))

def C.bjt_b : LO := [
 X.m 48 0,
 X.o 49 (.nilchk (X.s 48)),
 X.o 50 (.fldAddr 3 (X.s 49)),
 X.o 51 (.load1 (X.s 50)),
 X.m 52 1,
 X.m 53 2,
 X.m 54 3,
 X.o 55 (.call F.q5 [X.s 51, X.s 52, X.s 53, X.s 54]),
 X.o 56 (.extract (X.s 55) 0),
 X.o 57 (.extract (X.s 55) 1),
 X.m 8 56,
 X.m 9 57]
def C.bjt : LO := C.bjt_b
def C.bjt_w := pO C.bjt.eq_1
def C.chh : ICode := .keep [0, 1, 2, 3] (.seq (.region C.bjt) .ret)
def C.chh_w := pC C.chh.eq_1
def C.bjs_b : LO := [
 X.o 8 (.move (X.i 0)),
 X.o 9 (.move (X.i 6))]
def C.bjs : LO := C.bjs_b
def C.bjs_w := pO C.bjs.eq_1
def C.chj : ICode := .seq (.region C.bjs) .ret
def C.chj_w := pC C.chj.eq_1
def C.chk : ICode := .keep [0, 1, 2, 3, 47] (.cond (X.s 47) C.chj .skip)
def C.chk_w := pC C.chk.eq_1
def C.bjr_b : LO := [
 X.m 38 0,
 X.o 39 (.nilchk (X.s 38)),
 X.o 40 (.fldAddr 4 (X.s 39)),
 X.o 41 (.load1 (X.s 40)),
 X.m 42 10,
 X.o 43 (.idxAddr 6 (X.s 41) (X.s 42)),
 X.o 44 (.fldAddr 5 (X.s 43)),
 X.o 45 (.load1 (X.s 44)),
 X.o 46 (.call F.q104 [X.s 45]),
 X.o 47 (.bin .neq (X.s 46) (.cst (.int .u8 114)))]
def C.bjr : LO := C.bjr_b
def C.bjr_w := pO C.bjr.eq_1
def C.chl : ICode := .keep [0, 1, 2, 3, 10] (.seq (.seq (.region C.bjr) C.chk) C.chh)
def C.chl_w := pC C.chl.eq_1
def C.bjp_b : LO := [
 X.o 8 (.move (X.i 0)),
 X.o 9 (.move (X.i 4))]
def C.bjp : LO := C.bjp_b
def C.bjp_w := pO C.bjp.eq_1
def C.chm : ICode := .seq (.region C.bjp) .ret
def C.chm_w := pC C.chm.eq_1
def C.chn : ICode := .keep [0, 1, 2, 3, 10, 37] (.cond (X.s 37) C.chm .skip)
def C.chn_w := pC C.chn.eq_1
def C.bjn_b : LO := [
 X.m 17 0,
 X.m 18 10,
 X.o 19 (.call F.q93 [X.s 17, X.s 18]),
 X.o 20 (.un .not (X.s 19)),
 X.m 21 20,
 X.f 21 22 (.move (X.s 11)),
 X.f 21 23 (.bin .lss (X.s 22) (X.i 0)),
 X.o 24 (.pick (X.s 21) (.cst (.bool true)) (X.s 23)),
 X.m 25 24,
 X.f 25 26 (.move (X.s 11)),
 X.f 25 27 (.move (X.s 0)),
 X.f 25 28 (.nilchk (X.s 27)),
 X.f 25 29 (.fldAddr 4 (X.s 28)),
 X.f 25 30 (.load1 (X.s 29)),
 X.f 25 31 (.move (X.s 10)),
 X.f 25 32 (.idxAddr 6 (X.s 30) (X.s 31)),
 X.f 25 33 (.fldAddr 4 (X.s 32)),
 X.f 25 34 (.load1 (X.s 33)),
 X.f 25 35 (.call F.q109 [X.s 34]),
 X.f 25 36 (.bin .geq (X.s 26) (X.s 35)),
 X.o 37 (.pick (X.s 25) (.cst (.bool true)) (X.s 36))]
def C.bjn : LO := C.bjn_b
def C.bjn_w := pO C.bjn.eq_1
def C.chp : ICode := .keep [0, 1, 2, 3, 10, 11] (.seq (.seq (.region C.bjn) C.chn) C.chl)
def C.chp_w := pC C.chp.eq_1
def C.bjm_b : LO := [
 X.m 13 1,
 X.o 14 (.call F.q10 [X.s 13]),
 X.m 12 14,
 X.o 15 (.extract (X.s 12) 0),
 X.o 16 (.extract (X.s 12) 1),
 X.m 10 15,
 X.m 11 16]
def C.bjm : LO := C.bjm_b
def C.bjm_w := pO C.bjm.eq_1
def C.chr : ICode := .keep [0, 1, 2, 3] (.seq (.region C.bjm) C.chp)
def C.chr_w := pC C.chr.eq_1
def C.bjl_b : LO := [
 X.o 8 (.move (X.i 0)),
 X.o 9 (.move (X.i 0))]
def C.bjl : LO := C.bjl_b
def C.bjl_w := pO C.bjl.eq_1
def C.q86 : IFunc := ⟨4, [.slot 8, .slot 9], .seq (.region C.bjl) C.chr⟩
def C.q86_W := aI (aI (aI @C.bjt_w (aI @C.chh_w @C.bjs_w)) (aI (aI @C.chj_w @C.chk_w) (aI @C.bjr_w @C.chl_w))) (aI (aI (aI @C.bjp_w @C.chm_w) (aI @C.chn_w @C.bjn_w)) (aI (aI @C.chp_w @C.bjm_w) (aI @C.chr_w @C.bjl_w)))
def C.q86_B := aI (aI @C.bjt_b.eq_1 (aI @C.bjs_b.eq_1 @C.bjr_b.eq_1)) (aI (aI @C.bjp_b.eq_1 @C.bjn_b.eq_1) (aI @C.bjm_b.eq_1 @C.bjl_b.eq_1))

end Go.Proofs.YtdmfgodajoojpaaGreatDoor.Cn
