/- The intermediate code of the functions, printed by a program out of the loaded program; that it is theirs is checked in the text of links. -/
import Derived.Test.YtdmfgodajoojpaaGreatDoorCnL2
set_option linter.defProp false
namespace Go.Proofs.YtdmfgodajoojpaaGreatDoor.Cn
open Go
theorem aI {a b : Prop} (x : a) (y : b) : a ∧ b := ⟨x, y⟩
theorem pC {c d : ICode} (h : c = d) ⦃P : Program⦄ ⦃Q : IExit → AFr → ASt → Prop⦄ ⦃fr : AFr⦄ ⦃st : ASt⦄ : awp P c Q fr st = awp P d Q fr st := by rw [h]
theorem pO {c d : List IOper} (h : c = d) ⦃P : Program⦄ ⦃k : AFr → ASt → Prop⦄ ⦃fr : AFr⦄ ⦃st : ASt⦄ : aops P c k fr st = aops P d k fr st := by rw [h]
abbrev LO := List IOper
variable {P : Program} {Q : IExit → AFr → ASt → Prop} {fr : AFr} {st : ASt}

abbrev F.main_main : Nat := 0
abbrev F.gosem_cut : Nat := 1
abbrev F.gosem_cut_init : Nat := 2
abbrev F.catnaplaw12_HardQuiet : Nat := 3
abbrev F.catnaplaw12_HardDead : Nat := 4
abbrev F.q12 : Nat := 5
abbrev F.catnaplaw12_HardWakes : Nat := 6
abbrev F.catnaplaw12_HardResets : Nat := 7
abbrev F.catnaplaw12_HardKeeps : Nat := 8
abbrev F.q15 : Nat := 9
abbrev F.q13 : Nat := 10
abbrev F.q94 : Nat := 11
abbrev F.q14 : Nat := 12
abbrev F.q4 : Nat := 13
abbrev F.q86 : Nat := 14
abbrev F.hard_Hard_Ask : Nat := 15
abbrev F.q89 : Nat := 16
abbrev F.hard_Hard_State : Nat := 17
abbrev F.hard_Hard_Leave : Nat := 18
abbrev F.hard_Hard_Waiting : Nat := 19
abbrev F.q16 : Nat := 20
abbrev F.q82 : Nat := 21
abbrev F.q83 : Nat := 22
abbrev F.q81 : Nat := 23
abbrev F.q25 : Nat := 24
abbrev F.hard_Hard_Assert : Nat := 25
abbrev F.q87 : Nat := 26
abbrev F.q84 : Nat := 27
abbrev F.hard_Hard_Down : Nat := 28
abbrev F.q85 : Nat := 29
abbrev F.q90 : Nat := 30
abbrev F.q88 : Nat := 31
abbrev F.q17 : Nat := 32
abbrev F.q100 : Nat := 33
abbrev F.q123 : Nat := 34
abbrev F.q118 : Nat := 35
abbrev F.q108 : Nat := 36
abbrev F.q105 : Nat := 37
abbrev F.q9 : Nat := 38
abbrev F.q1 : Nat := 39
abbrev F.q10 : Nat := 40
abbrev F.q92 : Nat := 41
abbrev F.q103 : Nat := 42
abbrev F.q5 : Nat := 43
abbrev F.quiet_Chan_Ask : Nat := 44
abbrev F.q93 : Nat := 45
abbrev F.q91 : Nat := 46
abbrev F.q104 : Nat := 47
abbrev F.q7 : Nat := 48
abbrev F.q22 : Nat := 49
abbrev F.q97 : Nat := 50
abbrev F.q95 : Nat := 51
abbrev F.q121 : Nat := 52
abbrev F.quiet_Chan_Leave : Nat := 53
abbrev F.q18 : Nat := 54
abbrev F.q19 : Nat := 55
abbrev F.q20 : Nat := 56
abbrev F.q96 : Nat := 57
abbrev F.q119 : Nat := 58
abbrev F.q61 : Nat := 59
abbrev F.q26 : Nat := 60
abbrev F.q62 : Nat := 61
abbrev F.q27 : Nat := 62
abbrev F.q56 : Nat := 63
abbrev F.q28 : Nat := 64
abbrev F.q41 : Nat := 65
abbrev F.q29 : Nat := 66
abbrev F.q46 : Nat := 67
abbrev F.q37 : Nat := 68
abbrev F.q30 : Nat := 69
abbrev F.q58 : Nat := 70
abbrev F.q31 : Nat := 71
abbrev F.q53 : Nat := 72
abbrev F.q32 : Nat := 73
abbrev F.q39 : Nat := 74
abbrev F.q33 : Nat := 75
abbrev F.q59 : Nat := 76
abbrev F.q71 : Nat := 77
abbrev F.q34 : Nat := 78
abbrev F.q57 : Nat := 79
abbrev F.q35 : Nat := 80
abbrev F.q47 : Nat := 81
abbrev F.q36 : Nat := 82
abbrev F.q40 : Nat := 83
abbrev F.reset_Lines_Assert : Nat := 84
abbrev F.q106 : Nat := 85
abbrev F.q120 : Nat := 86
abbrev F.power_Grid_Down : Nat := 87
abbrev F.q98 : Nat := 88
abbrev F.q38 : Nat := 89
abbrev F.q124 : Nat := 90
abbrev F.q2 : Nat := 91
abbrev F.q11 : Nat := 92
abbrev F.q8 : Nat := 93
abbrev F.q6 : Nat := 94
abbrev F.q109 : Nat := 95
abbrev F.q114 : Nat := 96
abbrev F.q24 : Nat := 97
abbrev F.q102 : Nat := 98
abbrev F.q112 : Nat := 99
abbrev F.q110 : Nat := 100
abbrev F.q23 : Nat := 101
abbrev F.q125 : Nat := 102
abbrev F.q21 : Nat := 103
abbrev F.q99 : Nat := 104
abbrev F.q122 : Nat := 105
abbrev F.q63 : Nat := 106
abbrev F.q73 : Nat := 107
abbrev F.q42 : Nat := 108
abbrev F.q72 : Nat := 109
abbrev F.q43 : Nat := 110
abbrev F.q60 : Nat := 111
abbrev F.q44 : Nat := 112
abbrev F.q74 : Nat := 113
abbrev F.q45 : Nat := 114
abbrev F.q64 : Nat := 115
abbrev F.q75 : Nat := 116
abbrev F.q70 : Nat := 117
abbrev F.q54 : Nat := 118
abbrev F.q55 : Nat := 119
abbrev F.q48 : Nat := 120
abbrev F.q49 : Nat := 121
abbrev F.q50 : Nat := 122
abbrev F.q51 : Nat := 123
abbrev F.q52 : Nat := 124
abbrev F.q115 : Nat := 125
abbrev F.q107 : Nat := 126
abbrev F.q101 : Nat := 127
abbrev F.q65 : Nat := 128
abbrev F.q67 : Nat := 129
abbrev F.q69 : Nat := 130
abbrev F.q66 : Nat := 131
abbrev F.q68 : Nat := 132
abbrev F.q3 : Nat := 133
abbrev F.q0 : Nat := 134
abbrev F.q117 : Nat := 135
abbrev F.q113 : Nat := 136
abbrev F.q111 : Nat := 137
abbrev F.q76 : Nat := 138
abbrev F.q116 : Nat := 139
abbrev F.q80 : Nat := 140
abbrev F.q77 : Nat := 141
abbrev F.q79 : Nat := 142
abbrev F.q78 : Nat := 143
abbrev F.runtime_boundsError_Error : Nat := 144
abbrev F.runtime_boundsError_RuntimeError : Nat := 145
abbrev F.runtime_errorString_Error : Nat := 146
abbrev F.runtime_errorString_RuntimeError : Nat := 147
abbrev F.runtime_plainError_Error : Nat := 148
abbrev F.runtime_plainError_RuntimeError : Nat := 149
abbrev F.runtime_errorAddressString_Error : Nat := 150
abbrev F.runtime_errorAddressString_RuntimeError : Nat := 151
abbrev F.runtime_TypeAssertionError_Error : Nat := 152
abbrev F.runtime_TypeAssertionError_RuntimeError : Nat := 153
abbrev F.runtime_PanicNilError_Error : Nat := 154
abbrev F.runtime_PanicNilError_RuntimeError : Nat := 155
abbrev F.internal_abi_Type_Align : Nat := 156
abbrev F.internal_runtime_maps_unhashableTypeError_Error : Nat := 157
abbrev F.internal_runtime_maps_unhashableTypeError_RuntimeError : Nat := 158
abbrev F.api_Errno_Error : Nat := 159
abbrev F.power_Grid_Left : Nat := 160
abbrev F.quiet_Chan_Denied : Nat := 161
abbrev F.internal_abi_Kind_String : Nat := 162
abbrev F.var_s_door_quiet_letters_is_laid_by_its_own_initialiser_plain_data_look_11 : Nat := 163
abbrev F.var_s_door_gosem_cut_vars_holds_initialisers_alone_see_the_manifest_s_row_cutvarsword_look_11_test_files_too : Nat := 164
abbrev F.var_s_door_the_look_of_gosem_cut_vars_went_over_the_folder_that_the_caller_named_as_the_repository_s_root_look_11 : Nat := 165
abbrev F.gosem_cut_vars : Nat := 166

def C.cn_b : LO := [
 X.m 161 18,
 X.o 162 (.len (X.s 161)),
 X.o 163 (.bin .eql (X.s 162) (X.i 1)),
 X.m 164 163,
 X.t 164 165 (.move (X.s 18)),
 X.t 164 166 (.idxAddr 4 (X.s 165) (X.i 0)),
 X.t 164 167 (.fldAddr 2 (X.s 166)),
 X.t 164 168 (.load1 (X.s 167)),
 X.t 164 169 (.un .not (X.s 168)),
 X.o 170 (.pick (X.s 164) (X.s 169) (.cst (.bool false))),
 X.m 171 170,
 X.t 171 172 (.move (X.s 18)),
 X.t 171 173 (.idxAddr 4 (X.s 172) (X.i 0)),
 X.t 171 174 (.fldAddr 3 (X.s 173)),
 X.t 171 175 (.load1 (X.s 174)),
 X.t 171 176 (.move (X.s 2)),
 X.t 171 177 (.bin .eql (X.s 175) (X.s 176)),
 X.o 178 (.pick (X.s 171) (X.s 177) (.cst (.bool false))),
 X.m 6 178]
def C.cn : LO := C.cn_b
def C.cn_w := pO C.cn.eq_1
def C.bln : ICode := .keep [2, 18] (.seq (.region C.cn) .ret)
def C.bln_w := pC C.bln.eq_1
def C.cm_b : LO := [
 X.m 159 9,
 X.o 160 (.call F.q89 [X.s 159, .cst (.int .u32 0)]),
 X.m 18 160]
def C.cm : LO := C.cm_b
def C.cm_w := pO C.cm.eq_1
def C.blp : ICode := .keep [2, 9] (.seq (.region C.cm) C.bln)
def C.blp_w := pC C.blp.eq_1
def C.cl_b : LO := [
 X.m 156 9,
 X.m 157 15,
 X.o 158 (.call F.q86 [X.s 156, X.s 157, .cst (.bool false), .cst (.int .u32 0)])]
def C.cl : LO := C.cl_b
def C.cl_w := pO C.cl.eq_1
def C.bpp : ICode := .keep [2, 9, 15] (.seq (.region C.cl) C.blp)
def C.bpp_w := pC C.bpp.eq_1
def C.ck_b : LO := [
 X.o 6 (.move (.cst (.bool false)))]
def C.ck : LO := C.ck_b
def C.ck_w := pO C.ck.eq_1
def C.bp1 : ICode := .seq (.region C.ck) .ret
def C.bp1_w := pC C.bp1.eq_1
def C.bp2 : ICode := .keep [2, 9, 15, 155] (.cond (X.s 155) C.bp1 .skip)
def C.bp2_w := pC C.bp2.eq_1
def C.cj_b : LO := [
 X.m 126 17,
 X.o 127 (.len (X.s 126)),
 X.o 128 (.bin .neq (X.s 127) (X.i 1)),
 X.m 129 128,
 X.f 129 130 (.move (X.s 17)),
 X.f 129 131 (.idxAddr 4 (X.s 130) (X.i 0)),
 X.f 129 132 (.fldAddr 2 (X.s 131)),
 X.f 129 133 (.load1 (X.s 132)),
 X.f 129 134 (.un .not (X.s 133)),
 X.o 135 (.pick (X.s 129) (.cst (.bool true)) (X.s 134)),
 X.m 136 135,
 X.f 136 137 (.move (X.s 17)),
 X.f 136 138 (.idxAddr 4 (X.s 137) (X.i 0)),
 X.f 136 139 (.fldAddr 3 (X.s 138)),
 X.f 136 140 (.load1 (X.s 139)),
 X.f 136 141 (.fldAddr 3 (X.s 8)),
 X.f 136 142 (.load1 (X.s 141)),
 X.f 136 143 (.move (X.s 11)),
 X.f 136 144 (.idxAddr 6 (X.s 142) (X.s 143)),
 X.f 136 145 (.fldAddr 3 (X.s 144)),
 X.f 136 146 (.load1 (X.s 145)),
 X.f 136 147 (.bin .neq (X.s 140) (X.s 146)),
 X.o 148 (.pick (X.s 136) (.cst (.bool true)) (X.s 147)),
 X.m 149 148,
 X.f 149 150 (.move (X.s 9)),
 X.f 149 151 (.loadN 4 (X.s 8)),
 X.f 149 152 (.move (X.s 11)),
 X.f 149 153 (.call F.q16 [X.s 150, X.s 151, X.s 152]),
 X.f 149 154 (.un .not (X.s 153)),
 X.o 155 (.pick (X.s 149) (.cst (.bool true)) (X.s 154))]
def C.cj : LO := C.cj_b
def C.cj_w := pO C.cj.eq_1
def C.bp3 : ICode := .keep [2, 8, 9, 11, 15, 17] (.seq (.seq (.region C.cj) C.bp2) C.bpp)
def C.bp3_w := pC C.bp3.eq_1
def C.ch_b : LO := [
 X.m 124 9,
 X.o 125 (.call F.q89 [X.s 124, .cst (.int .u32 0)]),
 X.m 17 125]
def C.ch : LO := C.ch_b
def C.ch_w := pO C.ch.eq_1
def C.bls : ICode := .keep [2, 8, 9, 11, 15] (.seq (.region C.ch) C.bp3)
def C.bls_w := pC C.bls.eq_1
def C.cg_b : LO := [
 X.m 119 9,
 X.m 120 15,
 X.m 121 2,
 X.o 122 (.bin .add (X.s 121) (.cst (.int .u32 1))),
 X.o 123 (.call F.q86 [X.s 119, X.s 120, .cst (.bool true), X.s 122])]
def C.cg : LO := C.cg_b
def C.cg_w := pO C.cg.eq_1
def C.bp4 : ICode := .keep [2, 8, 9, 11, 15] (.seq (.region C.cg) C.bls)
def C.bp4_w := pC C.bp4.eq_1
def C.gl_b : LO := [
 X.o 6 (.move (.cst (.bool false)))]
def C.gl : LO := C.gl_b
def C.gl_w := pO C.gl.eq_1
def C.bp5 : ICode := .seq (.region C.gl) .ret
def C.bp5_w := pC C.bp5.eq_1
def C.bn5 : ICode := .keep [2, 8, 9, 11, 15, 118] (.cond (X.s 118) C.bp5 .skip)
def C.bn5_w := pC C.bn5.eq_1
def C.gk_b : LO := [
 X.m 110 9,
 X.m 111 13,
 X.o 112 (.call F.q83 [X.s 110, X.s 111, .cst (.bool false)]),
 X.o 113 (.bin .neq (X.s 112) (X.i 0)),
 X.m 114 113,
 X.f 114 115 (.move (X.s 9)),
 X.f 114 116 (.move (X.s 11)),
 X.f 114 117 (.call F.q81 [X.s 115, X.s 116]),
 X.o 118 (.pick (X.s 114) (.cst (.bool true)) (X.s 117))]
def C.gk : LO := C.gk_b
def C.gk_w := pO C.gk.eq_1
def C.bn6 : ICode := .keep [2, 8, 9, 11, 13, 15] (.seq (.seq (.region C.gk) C.bn5) C.bp4)
def C.bn6_w := pC C.bn6.eq_1
def C.cf_b : LO := [
 X.m 108 9,
 X.o 109 (.call F.q89 [X.s 108, .cst (.int .u32 0)])]
def C.cf : LO := C.cf_b
def C.cf_w := pO C.cf.eq_1
def C.bn7 : ICode := .keep [2, 8, 9, 11, 13, 15] (.seq (.region C.cf) C.bn6)
def C.bn7_w := pC C.bn7.eq_1
def C.cc_b : LO := [
 X.m 104 9,
 X.m 105 15,
 X.m 106 2,
 X.o 107 (.call F.q86 [X.s 104, X.s 105, .cst (.bool true), X.s 106])]
def C.cc : LO := C.cc_b
def C.cc_w := pO C.cc.eq_1
def C.bn8 : ICode := .keep [2, 8, 9, 11, 13, 15] (.seq (.region C.cc) C.bn7)
def C.bn8_w := pC C.bn8.eq_1
def C.cb_b : LO := [
 X.m 100 11,
 X.o 101 (.call F.q4 [X.s 100, X.i 0]),
 X.m 99 101,
 X.o 102 (.extract (X.s 99) 0),
 X.o 103 (.extract (X.s 99) 1),
 X.m 15 102,
 X.m 16 103]
def C.cb : LO := C.cb_b
def C.cb_w := pO C.cb.eq_1
def C.bn9 : ICode := .keep [2, 8, 9, 11, 13] (.seq (.region C.cb) C.bn8)
def C.bn9_w := pC C.bn9.eq_1
def C.b9_b : LO := [
 X.o 6 (.move (.cst (.bool true)))]
def C.b9 : LO := C.b9_b
def C.b9_w := pO C.b9.eq_1
def C.bpb : ICode := .seq (.region C.b9) .ret
def C.bpb_w := pC C.bpb.eq_1
def C.bpc : ICode := .keep [2, 8, 9, 11, 13, 98] (.cond (X.s 98) C.bpb .skip)
def C.bpc_w := pC C.bpc.eq_1
def C.b8_b : LO := [
 X.m 87 13,
 X.o 88 (.bin .lss (X.s 87) (X.i 0)),
 X.m 89 88,
 X.f 89 90 (.fldAddr 3 (X.s 8)),
 X.f 89 91 (.load1 (X.s 90)),
 X.f 89 92 (.move (X.s 11)),
 X.f 89 93 (.idxAddr 6 (X.s 91) (X.s 92)),
 X.f 89 94 (.fldAddr 4 (X.s 93)),
 X.f 89 95 (.load1 (X.s 94)),
 X.f 89 96 (.len (X.s 95)),
 X.f 89 97 (.bin .eql (X.s 96) (X.i 0)),
 X.o 98 (.pick (X.s 89) (.cst (.bool true)) (X.s 97))]
def C.b8 : LO := C.b8_b
def C.b8_w := pO C.b8.eq_1
def C.bpd : ICode := .keep [2, 8, 9, 11, 13] (.seq (.seq (.region C.b8) C.bpc) C.bn9)
def C.bpd_w := pC C.bpd.eq_1
def C.bk_b : LO := [
 X.m 59 14,
 X.o 60 (.bin .add (X.s 59) (X.i 1)),
 X.m 14 60]
def C.bk : LO := C.bk_b
def C.bk_w := pO C.bk.eq_1
def C.bpf : ICode := .keep [2, 8, 9, 11, 12, 13, 14] (.region C.bk)
def C.bpf_w := pC C.bpf.eq_1
def C.gj_b : LO := [
 X.m 83 12,
 X.m 84 14,
 X.o 85 (.idxAddr 1 (X.s 83) (X.s 84)),
 X.o 86 (.load1 (X.s 85)),
 X.m 13 86]
def C.gj : LO := C.gj_b
def C.gj_w := pO C.gj.eq_1
def C.bpg : ICode := .region C.gj
def C.bpg_w := pC C.bpg.eq_1
def C.bph : ICode := .keep [2, 8, 9, 11, 12, 13, 14, 82] (.cond (X.s 82) C.bpg .skip)
def C.bph_w := pC C.bph.eq_1
def C.gh_b : LO := [
 X.o 61 (.fldAddr 0 (X.s 8)),
 X.o 62 (.load1 (X.s 61)),
 X.m 63 12,
 X.m 64 14,
 X.o 65 (.idxAddr 1 (X.s 63) (X.s 64)),
 X.o 66 (.load1 (X.s 65)),
 X.o 67 (.idxAddr 6 (X.s 62) (X.s 66)),
 X.o 68 (.fldAddr 0 (X.s 67)),
 X.o 69 (.load1 (X.s 68)),
 X.o 70 (.bin .eql (X.s 69) (.cst (.int .u8 103))),
 X.m 71 70,
 X.f 71 72 (.fldAddr 0 (X.s 8)),
 X.f 71 73 (.load1 (X.s 72)),
 X.f 71 74 (.move (X.s 12)),
 X.f 71 75 (.move (X.s 14)),
 X.f 71 76 (.idxAddr 1 (X.s 74) (X.s 75)),
 X.f 71 77 (.load1 (X.s 76)),
 X.f 71 78 (.idxAddr 6 (X.s 73) (X.s 77)),
 X.f 71 79 (.fldAddr 0 (X.s 78)),
 X.f 71 80 (.load1 (X.s 79)),
 X.f 71 81 (.bin .eql (X.s 80) (.cst (.int .u8 112))),
 X.o 82 (.pick (X.s 71) (.cst (.bool true)) (X.s 81))]
def C.gh : LO := C.gh_b
def C.gh_w := pO C.gh.eq_1
def C.bn3 : ICode := .seq (.region C.gh) C.bph
def C.bn3_w := pC C.bn3.eq_1
def C.bpj : ICode := .keep [2, 8, 9, 11, 12, 13, 14] (.seq (.block 1 C.bn3) C.bpf)
def C.bpj_w := pC C.bpj.eq_1
def C.bpk : ICode := .keep [2, 8, 9, 11, 12, 13, 14, 58] (.cond (X.s 58) .skip (.exit 0))
def C.bpk_w := pC C.bpk.eq_1
def C.gg_b : LO := [
 X.m 55 14,
 X.m 56 12,
 X.o 57 (.len (X.s 56)),
 X.o 58 (.bin .lss (X.s 55) (X.s 57))]
def C.gg : LO := C.gg_b
def C.gg_w := pO C.gg.eq_1
def C.ckm : ICode := .keep [2, 8, 9, 11, 12, 13, 14] (.seq (.seq (.region C.gg) C.bpk) C.bpj)
def C.ckm_w := pC C.ckm.eq_1
def C.bn4 : ICode := .loop C.ckm
def C.bn4_w := pC C.bn4.eq_1
def C.bpl : ICode := .keep [2, 8, 9, 11, 12, 13, 14] (.block 0 C.bn4)
def C.bpl_w := pC C.bpl.eq_1
def C.gf_b : LO := [
 X.o 14 (.move (X.i 0))]
def C.gf : LO := C.gf_b
def C.gf_w := pO C.gf.eq_1
def C.bpm : ICode := .keep [2, 8, 9, 11, 12, 13] (.seq (.seq (.region C.gf) C.bpl) C.bpd)
def C.bpm_w := pC C.bpm.eq_1
def C.gd_b : LO := [
 X.o 13 (.move (X.i (-1)))]
def C.gd : LO := C.gd_b
def C.gd_w := pO C.gd.eq_1
def C.bpn : ICode := .keep [2, 8, 9, 11, 12] (.seq (.region C.gd) C.bpm)
def C.bpn_w := pC C.bpn.eq_1
def C.cp_b : LO := [
 X.m 47 9,
 X.o 48 (.fldAddr 3 (X.s 8)),
 X.o 49 (.load1 (X.s 48)),
 X.m 50 11,
 X.o 51 (.idxAddr 6 (X.s 49) (X.s 50)),
 X.o 52 (.fldAddr 0 (X.s 51)),
 X.o 53 (.load1 (X.s 52)),
 X.o 54 (.call F.q82 [X.s 47, X.s 53]),
 X.m 12 54]
def C.cp : LO := C.cp_b
def C.cp_w := pO C.cp.eq_1
def C.blr : ICode := .keep [2, 8, 9, 11] (.seq (.region C.cp) C.bpn)
def C.blr_w := pC C.blr.eq_1
def C.dp_b : LO := [
 X.o 6 (.move (.cst (.bool false)))]
def C.dp : LO := C.dp_b
def C.dp_w := pO C.dp.eq_1
def C.bpr : ICode := .seq (.region C.dp) .ret
def C.bpr_w := pC C.bpr.eq_1
def C.bps : ICode := .keep [2, 8, 9, 11, 46] (.cond (X.s 46) C.bpr .skip)
def C.bps_w := pC C.bps.eq_1
def C.dn_b : LO := [
 X.m 42 9,
 X.o 43 (.loadN 4 (X.s 8)),
 X.m 44 11,
 X.o 45 (.call F.q16 [X.s 42, X.s 43, X.s 44]),
 X.o 46 (.un .not (X.s 45))]
def C.dn : LO := C.dn_b
def C.dn_w := pO C.dn.eq_1
def C.bpt : ICode := .keep [2, 8, 9, 11] (.seq (.seq (.region C.dn) C.bps) C.blr)
def C.bpt_w := pC C.bpt.eq_1
def C.gr_b : LO := [
 X.m 37 1,
 X.o 38 (.fldAddr 3 (X.s 8)),
 X.o 39 (.load1 (X.s 38)),
 X.o 40 (.len (X.s 39)),
 X.o 41 (.call F.q14 [X.s 37, X.s 40]),
 X.m 11 41]
def C.gr : LO := C.gr_b
def C.gr_w := pO C.gr.eq_1
def C.bpv : ICode := .keep [1, 2, 8, 9] (.seq (.region C.gr) C.bpt)
def C.bpv_w := pC C.bpv.eq_1
def C.gp_b : LO := [
 X.o 6 (.move (.cst (.bool false)))]
def C.gp : LO := C.gp_b
def C.gp_w := pO C.gp.eq_1
def C.bpw : ICode := .seq (.region C.gp) .ret
def C.bpw_w := pC C.bpw.eq_1
def C.bpx : ICode := .keep [1, 2, 8, 9, 36] (.cond (X.s 36) C.bpw .skip)
def C.bpx_w := pC C.bpx.eq_1
def C.gn_b : LO := [
 X.m 27 7,
 X.o 28 (.un .not (X.s 27)),
 X.m 29 28,
 X.f 29 30 (.move (X.s 9)),
 X.f 29 31 (.eqP 0 false (X.s 30) (.cst (.nilp))),
 X.o 32 (.pick (X.s 29) (.cst (.bool true)) (X.s 31)),
 X.m 33 32,
 X.f 33 34 (.move (X.s 10)),
 X.f 33 35 (.bin .neq (X.s 34) (X.i 0)),
 X.o 36 (.pick (X.s 33) (.cst (.bool true)) (X.s 35))]
def C.gn : LO := C.gn_b
def C.gn_w := pO C.gn.eq_1
def C.bpy : ICode := .keep [1, 2, 7, 8, 9, 10] (.seq (.seq (.region C.gn) C.bpx) C.bpv)
def C.bpy_w := pC C.bpy.eq_1
def C.gm_b : LO := [
 X.o 23 (.loadN 4 (X.s 8)),
 X.o 24 (.call F.q94 [X.s 23]),
 X.m 22 24,
 X.o 25 (.extract (X.s 22) 0),
 X.o 26 (.extract (X.s 22) 1),
 X.m 9 25,
 X.m 10 26]
def C.gm : LO := C.gm_b
def C.gm_w := pO C.gm.eq_1
def C.bpq : ICode := .keep [1, 2, 7, 8] (.seq (.region C.gm) C.bpy)
def C.bpq_w := pC C.bpq.eq_1
def C.cd_b : LO := [
 X.m 20 0,
 X.o 21 (.call F.q13 [X.s 20]),
 X.o 8 (.alloc [.nils, .nils, .nils, .nils]),
 X.n (.storeN 4 (X.s 8) (X.s 21))]
def C.cd : LO := C.cd_b
def C.cd_w := pO C.cd.eq_1
def C.bpz : ICode := .keep [0, 1, 2, 7] (.seq (.region C.cd) C.bpq)
def C.bpz_w := pC C.bpz.eq_1
def C.gc_b : LO := [
 X.o 19 (.call F.q15 []),
 X.m 7 19]
def C.gc : LO := C.gc_b
def C.gc_w := pO C.gc.eq_1
def C.bp0 : ICode := .keep [0, 1, 2] (.seq (.region C.gc) C.bpz)
def C.bp0_w := pC C.bp0.eq_1
def C.gb_b : LO := [
 X.o 6 (.move (.cst (.bool false)))]
def C.gb : LO := C.gb_b
def C.gb_w := pO C.gb.eq_1
def C.q12 : IFunc := ⟨3, [.slot 6], .seq (.region C.gb) C.bp0⟩
def C.q12_W := aI (aI (aI (aI (aI (aI @C.cn_w @C.bln_w) (aI @C.cm_w @C.blp_w)) (aI (aI @C.cl_w @C.bpp_w) (aI @C.ck_w @C.bp1_w))) (aI (aI (aI @C.bp2_w @C.cj_w) (aI @C.bp3_w @C.ch_w)) (aI (aI @C.bls_w @C.cg_w) (aI @C.bp4_w (aI @C.gl_w @C.bp5_w))))) (aI (aI (aI (aI @C.bn5_w @C.gk_w) (aI @C.bn6_w @C.cf_w)) (aI (aI @C.bn7_w @C.cc_w) (aI @C.bn8_w @C.cb_w))) (aI (aI (aI @C.bn9_w @C.b9_w) (aI @C.bpb_w @C.bpc_w)) (aI (aI @C.b8_w @C.bpd_w) (aI @C.bk_w (aI @C.bpf_w @C.gj_w)))))) (aI (aI (aI (aI (aI @C.bpg_w @C.bph_w) (aI @C.gh_w @C.bn3_w)) (aI (aI @C.bpj_w @C.bpk_w) (aI @C.gg_w @C.bn4_w))) (aI (aI (aI @C.bpl_w @C.gf_w) (aI @C.bpm_w @C.gd_w)) (aI (aI @C.bpn_w @C.cp_w) (aI @C.blr_w (aI @C.dp_w @C.bpr_w))))) (aI (aI (aI (aI @C.bps_w @C.dn_w) (aI @C.bpt_w @C.gr_w)) (aI (aI @C.bpv_w @C.gp_w) (aI @C.bpw_w @C.bpx_w))) (aI (aI (aI @C.gn_w @C.bpy_w) (aI @C.gm_w @C.bpq_w)) (aI (aI @C.cd_w @C.bpz_w) (aI @C.gc_w (aI @C.bp0_w @C.gb_w))))))
def C.q12_B := aI (aI (aI (aI @C.cn_b.eq_1 (aI @C.cm_b.eq_1 @C.cl_b.eq_1)) (aI (aI @C.ck_b.eq_1 @C.cj_b.eq_1) (aI @C.ch_b.eq_1 @C.cg_b.eq_1))) (aI (aI (aI @C.gl_b.eq_1 @C.gk_b.eq_1) (aI @C.cf_b.eq_1 @C.cc_b.eq_1)) (aI (aI @C.cb_b.eq_1 @C.b9_b.eq_1) (aI @C.b8_b.eq_1 @C.bk_b.eq_1)))) (aI (aI (aI @C.gj_b.eq_1 (aI @C.gh_b.eq_1 @C.gg_b.eq_1)) (aI (aI @C.gf_b.eq_1 @C.gd_b.eq_1) (aI @C.cp_b.eq_1 @C.dp_b.eq_1))) (aI (aI (aI @C.dn_b.eq_1 @C.gr_b.eq_1) (aI @C.gp_b.eq_1 @C.gn_b.eq_1)) (aI (aI @C.gm_b.eq_1 @C.cd_b.eq_1) (aI @C.gc_b.eq_1 @C.gb_b.eq_1))))

def C.vh_b : LO := [
 X.m 28 2,
 X.o 29 (.call F.q81 [X.s 28, X.i 0]),
 X.o 30 (.un .not (X.s 29)),
 X.m 31 30,
 X.t 31 32 (.move (X.s 2)),
 X.t 31 33 (.call F.q90 [X.s 32, X.i 0]),
 X.t 31 34 (.bin .eql (X.s 33) (X.i 0)),
 X.o 35 (.pick (X.s 31) (X.s 34) (.cst (.bool false))),
 X.m 36 35,
 X.t 36 37 (.move (X.s 2)),
 X.t 36 38 (.call F.q88 [X.s 37, X.i 0]),
 X.o 39 (.pick (X.s 36) (X.s 38) (.cst (.bool false))),
 X.m 0 39]
def C.vh : LO := C.vh_b
def C.vh_w := pO C.vh.eq_1
def C.b4t : ICode := .keep [2] (.seq (.region C.vh) .ret)
def C.b4t_w := pC C.b4t.eq_1
def C.vg_b : LO := [
 X.m 26 2,
 X.o 27 (.call F.q89 [X.s 26, .cst (.int .u32 0)])]
def C.vg : LO := C.vg_b
def C.vg_w := pO C.vg.eq_1
def C.b4v : ICode := .keep [2] (.seq (.region C.vg) C.b4t)
def C.b4v_w := pC C.b4v.eq_1
def C.vf_b : LO := [
 X.o 0 (.move (.cst (.bool false)))]
def C.vf : LO := C.vf_b
def C.vf_w := pO C.vf.eq_1
def C.b4w : ICode := .seq (.region C.vf) .ret
def C.b4w_w := pC C.b4w.eq_1
def C.b4x : ICode := .keep [2, 25] (.cond (X.s 25) C.b4w .skip)
def C.b4x_w := pC C.b4x.eq_1
def C.vd_b : LO := [
 X.m 20 2,
 X.o 21 (.eqP 0 false (X.s 20) (.cst (.nilp))),
 X.m 22 21,
 X.f 22 23 (.move (X.s 3)),
 X.f 22 24 (.bin .neq (X.s 23) (X.i 0)),
 X.o 25 (.pick (X.s 22) (.cst (.bool true)) (X.s 24))]
def C.vd : LO := C.vd_b
def C.vd_w := pO C.vd.eq_1
def C.b4y : ICode := .keep [2, 3] (.seq (.seq (.region C.vd) C.b4x) C.b4v)
def C.b4y_w := pC C.b4y.eq_1
def C.vc_b : LO := [
 X.o 16 (.loadN 4 (X.s 1)),
 X.o 17 (.call F.q94 [X.s 16]),
 X.m 15 17,
 X.o 18 (.extract (X.s 15) 0),
 X.o 19 (.extract (X.s 15) 1),
 X.m 2 18,
 X.m 3 19]
def C.vc : LO := C.vc_b
def C.vc_w := pO C.vc.eq_1
def C.b4q : ICode := .keep [1] (.seq (.region C.vc) C.b4y)
def C.b4q_w := pC C.b4q.eq_1
def C.cs_b : LO := [
 X.o 4 (.build [.int .u8 0, .nils, .int .u64 0, .int .i64 0, .int .i64 0, .int .i64 0] [(0, 1, .cst (.int .u8 111)), (2, 1, .cst (.int .u64 1))]),
 X.o 5 (.buildSlice 6 1 [.int .u8 0, .nils, .int .u64 0, .int .i64 0, .int .i64 0, .int .i64 0] [(0, 6, X.s 4)]),
 X.o 6 (.build [.int .i64 0, .int .i64 0, .bool false] [(0, 1, X.i (-1))]),
 X.o 7 (.buildSlice 3 1 [.int .i64 0, .int .i64 0, .bool false] [(0, 3, X.s 6)]),
 X.o 8 (.build [.int .i64 0] []),
 X.o 9 (.buildSlice 1 1 [.int .i64 0] [(0, 1, X.s 8)]),
 X.o 10 (.build [.int .u32 0, .bool false] [(0, 1, .cst (.int .u32 5))]),
 X.o 11 (.buildSlice 2 1 [.int .u32 0, .bool false] [(0, 2, X.s 10)]),
 X.o 12 (.build [.int .i64 0, .int .i64 0, .int .i64 0, .int .u32 0, .nils, .nils] [(4, 1, X.s 11)]),
 X.o 13 (.buildSlice 6 1 [.int .i64 0, .int .i64 0, .int .i64 0, .int .u32 0, .nils, .nils] [(0, 6, X.s 12)]),
 X.o 14 (.build [.nils, .nils, .nils, .nils] [(0, 1, X.s 5), (1, 1, X.s 7), (2, 1, X.s 9), (3, 1, X.s 13)]),
 X.o 1 (.alloc [.nils, .nils, .nils, .nils]),
 X.n (.storeN 4 (X.s 1) (X.s 14))]
def C.cs : LO := C.cs_b
def C.cs_w := pO C.cs.eq_1
def C.bl0 : ICode := .keep [] (.seq (.region C.cs) C.b4q)
def C.bl0_w := pC C.bl0.eq_1
def C.cr_b : LO := [
 X.o 0 (.move (.cst (.bool false)))]
def C.cr : LO := C.cr_b
def C.cr_w := pO C.cr.eq_1
def C.q15 : IFunc := ⟨0, [.slot 0], .seq (.region C.cr) C.bl0⟩
def C.q15_W := aI (aI (aI @C.vh_w (aI @C.b4t_w @C.vg_w)) (aI (aI @C.b4v_w @C.vf_w) (aI @C.b4w_w @C.b4x_w))) (aI (aI @C.vd_w (aI @C.b4y_w @C.vc_w)) (aI (aI @C.b4q_w @C.cs_w) (aI @C.bl0_w @C.cr_w)))
def C.q15_B := aI (aI @C.vh_b.eq_1 (aI @C.vg_b.eq_1 @C.vf_b.eq_1)) (aI (aI @C.vd_b.eq_1 @C.vc_b.eq_1) (aI @C.cs_b.eq_1 @C.cr_b.eq_1))

def C.bg_b : LO := [
 X.o 351 (.loadN 4 (X.s 6)),
 X.n (.storeN 4 (X.s 2) (X.s 351))]
def C.bg : LO := C.bg_b
def C.bg_w := pO C.bg.eq_1
def C.blt : ICode := .keep [2, 6] (.seq (.region C.bg) .ret)
def C.blt_w := pC C.blt.eq_1
def C.hr_b : LO := [
 X.m 224 14,
 X.o 225 (.bin .add (X.s 224) (X.i 1)),
 X.m 14 225]
def C.hr : LO := C.hr_b
def C.hr_w := pO C.hr.eq_1
def C.brv : ICode := .keep [2, 4, 6, 14] (.region C.hr)
def C.brv_w := pC C.brv.eq_1
def C.h2_b : LO := [
 X.o 345 (.fldAddr 3 (X.s 6)),
 X.o 346 (.load1 (X.s 345)),
 X.o 347 (.loadN 6 (X.s 16)),
 X.o 348 (.buildSlice 6 1 [.int .i64 0, .int .i64 0, .int .i64 0, .int .u32 0, .nils, .nils] [(0, 6, X.s 347)]),
 X.o 349 (.append 6 80 (X.s 346) (X.s 348)),
 X.o 350 (.fldAddr 3 (X.s 6)),
 X.n (.store1 (X.s 350) (X.s 349))]
def C.h2 : LO := C.h2_b
def C.h2_w := pO C.h2.eq_1
def C.brq : ICode := .keep [2, 4, 6, 14, 16] (.region C.h2)
def C.brq_w := pC C.brq.eq_1
def C.h1_b : LO := [
 X.o 332 (.fldAddr 5 (X.s 16)),
 X.o 333 (.load1 (X.s 332)),
 X.m 334 4,
 X.m 335 15,
 X.o 336 (.bin .add (X.s 335) (X.i 11)),
 X.o 337 (.idxAddr 1 (X.s 334) (X.s 336)),
 X.o 338 (.load1 (X.s 337)),
 X.o 339 (.bin .quo (X.s 338) (X.i 3)),
 X.m 340 14,
 X.o 341 (.bin .rem (X.s 339) (X.s 340)),
 X.o 342 (.buildSlice 1 1 [.int .i64 0] [(0, 1, X.s 341)]),
 X.o 343 (.append 1 8 (X.s 333) (X.s 342)),
 X.o 344 (.fldAddr 5 (X.s 16)),
 X.n (.store1 (X.s 344) (X.s 343))]
def C.h1 : LO := C.h1_b
def C.h1_w := pO C.h1.eq_1
def C.br4 : ICode := .keep [2, 4, 6, 14, 15, 16, 331] (.cond (X.s 331) (.region C.h1) .skip)
def C.br4_w := pC C.br4.eq_1
def C.h0_b : LO := [
 X.m 321 14,
 X.o 322 (.bin .gtr (X.s 321) (X.i 1)),
 X.m 323 322,
 X.t 323 324 (.move (X.s 4)),
 X.t 323 325 (.move (X.s 15)),
 X.t 323 326 (.bin .add (X.s 325) (X.i 11)),
 X.t 323 327 (.idxAddr 1 (X.s 324) (X.s 326)),
 X.t 323 328 (.load1 (X.s 327)),
 X.t 323 329 (.bin .rem (X.s 328) (X.i 3)),
 X.t 323 330 (.bin .eql (X.s 329) (X.i 1)),
 X.o 331 (.pick (X.s 323) (X.s 330) (.cst (.bool false)))]
def C.h0 : LO := C.h0_b
def C.h0_w := pO C.h0.eq_1
def C.bsf : ICode := .keep [2, 4, 6, 14, 15, 16] (.seq (.seq (.region C.h0) C.br4) C.brq)
def C.bsf_w := pC C.bsf.eq_1
def C.hz_b : LO := [
 X.o 309 (.fldAddr 5 (X.s 16)),
 X.o 310 (.load1 (X.s 309)),
 X.m 311 4,
 X.m 312 15,
 X.o 313 (.bin .add (X.s 312) (X.i 10)),
 X.o 314 (.idxAddr 1 (X.s 311) (X.s 313)),
 X.o 315 (.load1 (X.s 314)),
 X.m 316 14,
 X.o 317 (.bin .rem (X.s 315) (X.s 316)),
 X.o 318 (.buildSlice 1 1 [.int .i64 0] [(0, 1, X.s 317)]),
 X.o 319 (.append 1 8 (X.s 310) (X.s 318)),
 X.o 320 (.fldAddr 5 (X.s 16)),
 X.n (.store1 (X.s 320) (X.s 319))]
def C.hz : LO := C.hz_b
def C.hz_w := pO C.hz.eq_1
def C.bsn : ICode := .keep [2, 4, 6, 14, 15, 16, 308] (.cond (X.s 308) (.region C.hz) .skip)
def C.bsn_w := pC C.bsn.eq_1
def C.hq_b : LO := [
 X.m 298 14,
 X.o 299 (.bin .gtr (X.s 298) (X.i 0)),
 X.m 300 299,
 X.t 300 301 (.move (X.s 4)),
 X.t 300 302 (.move (X.s 15)),
 X.t 300 303 (.bin .add (X.s 302) (X.i 9)),
 X.t 300 304 (.idxAddr 1 (X.s 301) (X.s 303)),
 X.t 300 305 (.load1 (X.s 304)),
 X.t 300 306 (.bin .rem (X.s 305) (X.i 2)),
 X.t 300 307 (.bin .eql (X.s 306) (X.i 1)),
 X.o 308 (.pick (X.s 300) (X.s 307) (.cst (.bool false)))]
def C.hq : LO := C.hq_b
def C.hq_w := pO C.hq.eq_1
def C.bsw : ICode := .keep [2, 4, 6, 14, 15, 16] (.seq (.seq (.region C.hq) C.bsn) C.bsf)
def C.bsw_w := pC C.bsw.eq_1
def C.hx_b : LO := [
 X.m 271 17,
 X.o 272 (.bin .add (X.s 271) (X.i 1)),
 X.m 17 272]
def C.hx : LO := C.hx_b
def C.hx_w := pO C.hx.eq_1
def C.bs1 : ICode := .keep [2, 4, 6, 14, 15, 16, 17] (.region C.hx)
def C.bs1_w := pC C.bs1.eq_1
def C.hy_b : LO := [
 X.o 273 (.fldAddr 4 (X.s 16)),
 X.o 274 (.load1 (X.s 273)),
 X.m 275 4,
 X.m 276 15,
 X.o 277 (.bin .add (X.s 276) (X.i 5)),
 X.m 278 17,
 X.o 279 (.bin .add (X.s 277) (X.s 278)),
 X.o 280 (.idxAddr 1 (X.s 275) (X.s 279)),
 X.o 281 (.load1 (X.s 280)),
 X.o 282 (.bin .rem (X.s 281) (X.i 7)),
 X.o 283 (.conv .u32 (X.s 282)),
 X.m 284 4,
 X.m 285 15,
 X.o 286 (.bin .add (X.s 285) (X.i 5)),
 X.m 287 17,
 X.o 288 (.bin .add (X.s 286) (X.s 287)),
 X.o 289 (.idxAddr 1 (X.s 284) (X.s 288)),
 X.o 290 (.load1 (X.s 289)),
 X.o 291 (.bin .quo (X.s 290) (X.i 7)),
 X.o 292 (.bin .rem (X.s 291) (X.i 2)),
 X.o 293 (.bin .eql (X.s 292) (X.i 0)),
 X.o 294 (.build [.int .u32 0, .bool false] [(0, 1, X.s 283), (1, 1, X.s 293)]),
 X.o 295 (.buildSlice 2 1 [.int .u32 0, .bool false] [(0, 2, X.s 294)]),
 X.o 296 (.append 2 8 (X.s 274) (X.s 295)),
 X.o 297 (.fldAddr 4 (X.s 16)),
 X.n (.store1 (X.s 297) (X.s 296))]
def C.hy : LO := C.hy_b
def C.hy_w := pO C.hy.eq_1
def C.brl : ICode := .region C.hy
def C.brl_w := pC C.brl.eq_1
def C.brm : ICode := .keep [2, 4, 6, 14, 15, 16, 17] (.seq (.block 12 C.brl) C.bs1)
def C.brm_w := pC C.brm.eq_1
def C.brn : ICode := .keep [2, 4, 6, 14, 15, 16, 17, 270] (.cond (X.s 270) .skip (.exit 11))
def C.brn_w := pC C.brn.eq_1
def C.hw_b : LO := [
 X.m 263 17,
 X.m 264 4,
 X.m 265 15,
 X.o 266 (.bin .add (X.s 265) (X.i 4)),
 X.o 267 (.idxAddr 1 (X.s 264) (X.s 266)),
 X.o 268 (.load1 (X.s 267)),
 X.o 269 (.bin .rem (X.s 268) (X.i 5)),
 X.o 270 (.bin .lss (X.s 263) (X.s 269))]
def C.hw : LO := C.hw_b
def C.hw_w := pO C.hw.eq_1
def C.ckn : ICode := .keep [2, 4, 6, 14, 15, 16, 17] (.seq (.seq (.region C.hw) C.brn) C.brm)
def C.ckn_w := pC C.ckn.eq_1
def C.bp6 : ICode := .loop C.ckn
def C.bp6_w := pC C.bp6.eq_1
def C.brp : ICode := .keep [2, 4, 6, 14, 15, 16, 17] (.block 11 C.bp6)
def C.brp_w := pC C.brp.eq_1
def C.hv_b : LO := [
 X.o 17 (.move (X.i 0))]
def C.hv : LO := C.hv_b
def C.hv_w := pO C.hv.eq_1
def C.brr : ICode := .keep [2, 4, 6, 14, 15, 16] (.seq (.seq (.region C.hv) C.brp) C.bsw)
def C.brr_w := pC C.brr.eq_1
def C.bh_b : LO := [
 X.m 229 4,
 X.m 230 15,
 X.o 231 (.idxAddr 1 (X.s 229) (X.s 230)),
 X.o 232 (.load1 (X.s 231)),
 X.o 233 (.fldAddr 0 (X.s 6)),
 X.o 234 (.load1 (X.s 233)),
 X.o 235 (.len (X.s 234)),
 X.o 236 (.bin .rem (X.s 232) (X.s 235)),
 X.m 237 4,
 X.m 238 15,
 X.o 239 (.bin .add (X.s 238) (X.i 1)),
 X.o 240 (.idxAddr 1 (X.s 237) (X.s 239)),
 X.o 241 (.load1 (X.s 240)),
 X.o 242 (.fldAddr 1 (X.s 6)),
 X.o 243 (.load1 (X.s 242)),
 X.o 244 (.len (X.s 243)),
 X.o 245 (.bin .rem (X.s 241) (X.s 244)),
 X.m 246 4,
 X.m 247 15,
 X.o 248 (.bin .add (X.s 247) (X.i 2)),
 X.o 249 (.idxAddr 1 (X.s 246) (X.s 248)),
 X.o 250 (.load1 (X.s 249)),
 X.o 251 (.fldAddr 2 (X.s 6)),
 X.o 252 (.load1 (X.s 251)),
 X.o 253 (.len (X.s 252)),
 X.o 254 (.bin .rem (X.s 250) (X.s 253)),
 X.m 255 4,
 X.m 256 15,
 X.o 257 (.bin .add (X.s 256) (X.i 3)),
 X.o 258 (.idxAddr 1 (X.s 255) (X.s 257)),
 X.o 259 (.load1 (X.s 258)),
 X.o 260 (.bin .rem (X.s 259) (X.i 3)),
 X.o 261 (.conv .u32 (X.s 260)),
 X.o 262 (.build [.int .i64 0, .int .i64 0, .int .i64 0, .int .u32 0, .nils, .nils] [(0, 1, X.s 236), (1, 1, X.s 245), (2, 1, X.s 254), (3, 1, X.s 261)]),
 X.o 16 (.alloc [.int .i64 0, .int .i64 0, .int .i64 0, .int .u32 0, .nils, .nils]),
 X.n (.storeN 6 (X.s 16) (X.s 262))]
def C.bh : LO := C.bh_b
def C.bh_w := pO C.bh.eq_1
def C.brs : ICode := .keep [2, 4, 6, 14, 15] (.seq (.region C.bh) C.brr)
def C.brs_w := pC C.brs.eq_1
def C.hs_b : LO := [
 X.m 226 14,
 X.o 227 (.bin .mul (X.i 12) (X.s 226)),
 X.o 228 (.bin .add (X.i 60) (X.s 227)),
 X.m 15 228]
def C.hs : LO := C.hs_b
def C.hs_w := pO C.hs.eq_1
def C.bp7 : ICode := .seq (.region C.hs) C.brs
def C.bp7_w := pC C.bp7.eq_1
def C.t2 : ICode := .keep [2, 4, 6, 14] (.seq (.block 10 C.bp7) C.brv)
def C.t2_w := pC C.t2.eq_1
def C.brt : ICode := .keep [2, 4, 6, 14, 223] (.cond (X.s 223) .skip (.exit 9))
def C.brt_w := pC C.brt.eq_1
def C.hp_b : LO := [
 X.m 217 14,
 X.m 218 4,
 X.o 219 (.idxAddr 1 (X.s 218) (X.i 4)),
 X.o 220 (.load1 (X.s 219)),
 X.o 221 (.bin .rem (X.s 220) (X.i 4)),
 X.o 222 (.bin .add (X.i 1) (X.s 221)),
 X.o 223 (.bin .lss (X.s 217) (X.s 222))]
def C.hp : LO := C.hp_b
def C.hp_w := pO C.hp.eq_1
def C.ckp : ICode := .keep [2, 4, 6, 14] (.seq (.seq (.region C.hp) C.brt) C.t2)
def C.ckp_w := pC C.ckp.eq_1
def C.bp8 : ICode := .loop C.ckp
def C.bp8_w := pC C.bp8.eq_1
def C.brw : ICode := .keep [2, 4, 6, 14] (.block 9 C.bp8)
def C.brw_w := pC C.brw.eq_1
def C.hn_b : LO := [
 X.o 14 (.move (X.i 0))]
def C.hn : LO := C.hn_b
def C.hn_w := pO C.hn.eq_1
def C.blv : ICode := .keep [2, 4, 6] (.seq (.seq (.region C.hn) C.brw) C.blt)
def C.blv_w := pC C.blv.eq_1
def C.hl_b : LO := [
 X.m 203 13,
 X.o 204 (.bin .add (X.s 203) (X.i 1)),
 X.m 13 204]
def C.hl : LO := C.hl_b
def C.hl_w := pO C.hl.eq_1
def C.brx : ICode := .keep [2, 4, 6, 13] (.region C.hl)
def C.brx_w := pC C.brx.eq_1
def C.hm_b : LO := [
 X.o 205 (.fldAddr 2 (X.s 6)),
 X.o 206 (.load1 (X.s 205)),
 X.m 207 4,
 X.m 208 13,
 X.o 209 (.bin .add (X.i 50) (X.s 208)),
 X.o 210 (.idxAddr 1 (X.s 207) (X.s 209)),
 X.o 211 (.load1 (X.s 210)),
 X.o 212 (.bin .rem (X.s 211) (X.i 4)),
 X.o 213 (.build [.int .i64 0] [(0, 1, X.s 212)]),
 X.o 214 (.buildSlice 1 1 [.int .i64 0] [(0, 1, X.s 213)]),
 X.o 215 (.append 1 8 (X.s 206) (X.s 214)),
 X.o 216 (.fldAddr 2 (X.s 6)),
 X.n (.store1 (X.s 216) (X.s 215))]
def C.hm : LO := C.hm_b
def C.hm_w := pO C.hm.eq_1
def C.bp9 : ICode := .region C.hm
def C.bp9_w := pC C.bp9.eq_1
def C.t3 : ICode := .keep [2, 4, 6, 13] (.seq (.block 8 C.bp9) C.brx)
def C.t3_w := pC C.t3.eq_1
def C.bry : ICode := .keep [2, 4, 6, 13, 202] (.cond (X.s 202) .skip (.exit 7))
def C.bry_w := pC C.bry.eq_1
def C.hk_b : LO := [
 X.m 196 13,
 X.m 197 4,
 X.o 198 (.idxAddr 1 (X.s 197) (X.i 3)),
 X.o 199 (.load1 (X.s 198)),
 X.o 200 (.bin .rem (X.s 199) (X.i 3)),
 X.o 201 (.bin .add (X.i 1) (X.s 200)),
 X.o 202 (.bin .lss (X.s 196) (X.s 201))]
def C.hk : LO := C.hk_b
def C.hk_w := pO C.hk.eq_1
def C.ckr : ICode := .keep [2, 4, 6, 13] (.seq (.seq (.region C.hk) C.bry) C.t3)
def C.ckr_w := pC C.ckr.eq_1
def C.brb : ICode := .loop C.ckr
def C.brb_w := pC C.brb.eq_1
def C.brz : ICode := .keep [2, 4, 6, 13] (.block 7 C.brb)
def C.brz_w := pC C.brz.eq_1
def C.hj_b : LO := [
 X.o 13 (.move (X.i 0))]
def C.hj : LO := C.hj_b
def C.hj_w := pO C.hj.eq_1
def C.blw : ICode := .keep [2, 4, 6] (.seq (.seq (.region C.hj) C.brz) C.blv)
def C.blw_w := pC C.blw.eq_1
def C.hb_b : LO := [
 X.m 153 11,
 X.o 154 (.bin .add (X.s 153) (X.i 1)),
 X.m 11 154]
def C.hb : LO := C.hb_b
def C.hb_w := pO C.hb.eq_1
def C.br0 : ICode := .keep [2, 4, 6, 11] (.region C.hb)
def C.br0_w := pC C.br0.eq_1
def C.hh_b : LO := [
 X.o 190 (.fldAddr 1 (X.s 6)),
 X.o 191 (.load1 (X.s 190)),
 X.o 192 (.loadN 3 (X.s 12)),
 X.o 193 (.buildSlice 3 1 [.int .i64 0, .int .i64 0, .bool false] [(0, 3, X.s 192)]),
 X.o 194 (.append 3 24 (X.s 191) (X.s 193)),
 X.o 195 (.fldAddr 1 (X.s 6)),
 X.n (.store1 (X.s 195) (X.s 194))]
def C.hh : LO := C.hh_b
def C.hh_w := pO C.hh.eq_1
def C.br1 : ICode := .keep [2, 4, 6, 11, 12] (.region C.hh)
def C.br1_w := pC C.br1.eq_1
def C.hg_b : LO := [
 X.m 181 4,
 X.m 182 11,
 X.o 183 (.bin .add (X.i 44) (X.s 182)),
 X.o 184 (.idxAddr 1 (X.s 181) (X.s 183)),
 X.o 185 (.load1 (X.s 184)),
 X.o 186 (.bin .quo (X.s 185) (X.i 3)),
 X.m 187 11,
 X.o 188 (.bin .rem (X.s 186) (X.s 187)),
 X.o 189 (.fldAddr 0 (X.s 12)),
 X.n (.store1 (X.s 189) (X.s 188))]
def C.hg : LO := C.hg_b
def C.hg_w := pO C.hg.eq_1
def C.br2 : ICode := .keep [2, 4, 6, 11, 12, 180] (.cond (X.s 180) (.region C.hg) .skip)
def C.br2_w := pC C.br2.eq_1
def C.hd_b : LO := [
 X.m 170 11,
 X.o 171 (.bin .gtr (X.s 170) (X.i 0)),
 X.m 172 171,
 X.t 172 173 (.move (X.s 4)),
 X.t 172 174 (.move (X.s 11)),
 X.t 172 175 (.bin .add (X.i 44) (X.s 174)),
 X.t 172 176 (.idxAddr 1 (X.s 173) (X.s 175)),
 X.t 172 177 (.load1 (X.s 176)),
 X.t 172 178 (.bin .rem (X.s 177) (X.i 3)),
 X.t 172 179 (.bin .gtr (X.s 178) (X.i 0)),
 X.o 180 (.pick (X.s 172) (X.s 179) (.cst (.bool false)))]
def C.hd : LO := C.hd_b
def C.hd_w := pO C.hd.eq_1
def C.blx : ICode := .keep [2, 4, 6, 11, 12] (.seq (.seq (.region C.hd) C.br2) C.br1)
def C.blx_w := pC C.blx.eq_1
def C.hc_b : LO := [
 X.m 155 4,
 X.m 156 11,
 X.o 157 (.bin .add (X.i 40) (X.s 156)),
 X.o 158 (.idxAddr 1 (X.s 155) (X.s 157)),
 X.o 159 (.load1 (X.s 158)),
 X.o 160 (.bin .rem (X.s 159) (X.i 4)),
 X.m 161 4,
 X.m 162 11,
 X.o 163 (.bin .add (X.i 40) (X.s 162)),
 X.o 164 (.idxAddr 1 (X.s 161) (X.s 163)),
 X.o 165 (.load1 (X.s 164)),
 X.o 166 (.bin .quo (X.s 165) (X.i 4)),
 X.o 167 (.bin .rem (X.s 166) (X.i 2)),
 X.o 168 (.bin .eql (X.s 167) (X.i 1)),
 X.o 169 (.build [.int .i64 0, .int .i64 0, .bool false] [(0, 1, X.i (-1)), (1, 1, X.s 160), (2, 1, X.s 168)]),
 X.o 12 (.alloc [.int .i64 0, .int .i64 0, .bool false]),
 X.n (.storeN 3 (X.s 12) (X.s 169))]
def C.hc : LO := C.hc_b
def C.hc_w := pO C.hc.eq_1
def C.brc : ICode := .seq (.region C.hc) C.blx
def C.brc_w := pC C.brc.eq_1
def C.t4 : ICode := .keep [2, 4, 6, 11] (.seq (.block 6 C.brc) C.br0)
def C.t4_w := pC C.t4.eq_1
def C.br3 : ICode := .keep [2, 4, 6, 11, 152] (.cond (X.s 152) .skip (.exit 5))
def C.br3_w := pC C.br3.eq_1
def C.g9_b : LO := [
 X.m 146 11,
 X.m 147 4,
 X.o 148 (.idxAddr 1 (X.s 147) (X.i 2)),
 X.o 149 (.load1 (X.s 148)),
 X.o 150 (.bin .rem (X.s 149) (X.i 4)),
 X.o 151 (.bin .add (X.i 1) (X.s 150)),
 X.o 152 (.bin .lss (X.s 146) (X.s 151))]
def C.g9 : LO := C.g9_b
def C.g9_w := pO C.g9.eq_1
def C.cks : ICode := .keep [2, 4, 6, 11] (.seq (.seq (.region C.g9) C.br3) C.t4)
def C.cks_w := pC C.cks.eq_1
def C.brd : ICode := .loop C.cks
def C.brd_w := pC C.brd.eq_1
def C.br5 : ICode := .keep [2, 4, 6, 11] (.block 5 C.brd)
def C.br5_w := pC C.br5.eq_1
def C.g8_b : LO := [
 X.o 11 (.move (X.i 0))]
def C.g8 : LO := C.g8_b
def C.g8_w := pO C.g8.eq_1
def C.bly : ICode := .keep [2, 4, 6] (.seq (.seq (.region C.g8) C.br5) C.blw)
def C.bly_w := pC C.bly.eq_1
def C.gw_b : LO := [
 X.m 62 8,
 X.o 63 (.bin .add (X.s 62) (X.i 1)),
 X.m 8 63]
def C.gw : LO := C.gw_b
def C.gw_w := pO C.gw.eq_1
def C.br6 : ICode := .keep [2, 3, 4, 6, 7, 8] (.region C.gw)
def C.br6_w := pC C.br6.eq_1
def C.g7_b : LO := [
 X.o 140 (.fldAddr 0 (X.s 6)),
 X.o 141 (.load1 (X.s 140)),
 X.o 142 (.loadN 6 (X.s 10)),
 X.o 143 (.buildSlice 6 1 [.int .u8 0, .nils, .int .u64 0, .int .i64 0, .int .i64 0, .int .i64 0] [(0, 6, X.s 142)]),
 X.o 144 (.append 6 64 (X.s 141) (X.s 143)),
 X.o 145 (.fldAddr 0 (X.s 6)),
 X.n (.store1 (X.s 145) (X.s 144))]
def C.g7 : LO := C.g7_b
def C.g7_w := pO C.g7.eq_1
def C.br7 : ICode := .keep [2, 3, 4, 6, 7, 8, 10] (.region C.g7)
def C.br7_w := pC C.br7.eq_1
def C.g1_b : LO := [
 X.m 106 4,
 X.m 107 9,
 X.o 108 (.bin .add (X.s 107) (X.i 2)),
 X.o 109 (.idxAddr 1 (X.s 106) (X.s 108)),
 X.o 110 (.load1 (X.s 109)),
 X.o 111 (.bin .quo (X.s 110) (X.i 32)),
 X.o 112 (.bin .rem (X.s 111) (X.i 4)),
 X.o 113 (.fldAddr 5 (X.s 10)),
 X.n (.store1 (X.s 113) (X.s 112))]
def C.g1 : LO := C.g1_b
def C.g1_w := pO C.g1.eq_1
def C.br8 : ICode := .keep [2, 3, 4, 6, 7, 8, 9, 10] (.region C.g1)
def C.br8_w := pC C.br8.eq_1
def C.g0_b : LO := [
 X.m 97 4,
 X.m 98 9,
 X.o 99 (.bin .add (X.s 98) (X.i 2)),
 X.o 100 (.idxAddr 1 (X.s 97) (X.s 99)),
 X.o 101 (.load1 (X.s 100)),
 X.o 102 (.bin .quo (X.s 101) (X.i 8)),
 X.o 103 (.bin .rem (X.s 102) (X.i 4)),
 X.o 104 (.bin .add (X.i 1) (X.s 103)),
 X.o 105 (.fldAddr 4 (X.s 10)),
 X.n (.store1 (X.s 105) (X.s 104))]
def C.g0 : LO := C.g0_b
def C.g0_w := pO C.g0.eq_1
def C.br9 : ICode := .keep [2, 3, 4, 6, 7, 8, 9, 10] (.seq (.region C.g0) C.br8)
def C.br9_w := pC C.br9.eq_1
def C.gz_b : LO := [
 X.m 89 4,
 X.m 90 9,
 X.o 91 (.bin .add (X.s 90) (X.i 2)),
 X.o 92 (.idxAddr 1 (X.s 89) (X.s 91)),
 X.o 93 (.load1 (X.s 92)),
 X.o 94 (.bin .rem (X.s 93) (X.i 8)),
 X.o 95 (.bin .add (X.i 1) (X.s 94)),
 X.o 96 (.fldAddr 3 (X.s 10)),
 X.n (.store1 (X.s 96) (X.s 95))]
def C.gz : LO := C.gz_b
def C.gz_w := pO C.gz.eq_1
def C.g4_b : LO := [
 X.m 116 4,
 X.m 117 9,
 X.o 118 (.bin .add (X.s 117) (X.i 2)),
 X.o 119 (.idxAddr 1 (X.s 116) (X.s 118)),
 X.o 120 (.load1 (X.s 119)),
 X.o 121 (.bin .rem (X.s 120) (X.i 8)),
 X.o 122 (.bin .add (X.i 1) (X.s 121)),
 X.o 123 (.fldAddr 4 (X.s 10)),
 X.n (.store1 (X.s 123) (X.s 122))]
def C.g4 : LO := C.g4_b
def C.g4_w := pO C.g4.eq_1
def C.g6_b : LO := [
 X.o 126 (.fldAddr 1 (X.s 10)),
 X.o 127 (.load1 (X.s 126)),
 X.m 128 4,
 X.m 129 9,
 X.o 130 (.bin .add (X.s 129) (X.i 2)),
 X.o 131 (.idxAddr 1 (X.s 128) (X.s 130)),
 X.o 132 (.load1 (X.s 131)),
 X.o 133 (.fldAddr 0 (X.s 6)),
 X.o 134 (.load1 (X.s 133)),
 X.o 135 (.len (X.s 134)),
 X.o 136 (.bin .rem (X.s 132) (X.s 135)),
 X.o 137 (.buildSlice 1 1 [.int .i64 0] [(0, 1, X.s 136)]),
 X.o 138 (.append 1 8 (X.s 127) (X.s 137)),
 X.o 139 (.fldAddr 1 (X.s 10)),
 X.n (.store1 (X.s 139) (X.s 138))]
def C.g6 : LO := C.g6_b
def C.g6_w := pO C.g6.eq_1
def C.bsb : ICode := .keep [2, 3, 4, 6, 7, 8, 9, 10, 124] (.cond (X.s 124) (.region C.g6) .skip)
def C.bsb_w := pC C.bsb.eq_1
def C.g5_b : LO := [
 X.o 125 (.bin .eql (X.s 86) (.cst (.int .u8 109))),
 X.m 124 125]
def C.g5 : LO := C.g5_b
def C.g5_w := pO C.g5.eq_1
def C.bsc : ICode := .seq (.region C.g5) C.bsb
def C.bsc_w := pC C.bsc.eq_1
def C.bsd : ICode := .keep [2, 3, 4, 6, 7, 8, 9, 10, 86, 114] (.cond (X.s 114) (.region C.g4) C.bsc)
def C.bsd_w := pC C.bsd.eq_1
def C.g3_b : LO := [
 X.o 115 (.bin .eql (X.s 86) (.cst (.int .u8 100))),
 X.m 114 115]
def C.g3 : LO := C.g3_b
def C.g3_w := pO C.g3.eq_1
def C.bsg : ICode := .seq (.region C.gz) C.br9
def C.bsg_w := pC C.bsg.eq_1
def C.bsh : ICode := .seq (.region C.g3) C.bsd
def C.bsh_w := pC C.bsh.eq_1
def C.bsj : ICode := .keep [2, 3, 4, 6, 7, 8, 9, 10, 86, 87] (.cond (X.s 87) C.bsg C.bsh)
def C.bsj_w := pC C.bsj.eq_1
def C.gq_b : LO := [
 X.o 88 (.bin .eql (X.s 86) (.cst (.int .u8 112))),
 X.m 87 88]
def C.gq : LO := C.gq_b
def C.gq_w := pO C.gq.eq_1
def C.brf : ICode := .seq (.region C.gq) C.bsj
def C.brf_w := pC C.brf.eq_1
def C.bsk : ICode := .keep [2, 3, 4, 6, 7, 8, 9, 10, 86] (.block 4 C.brf)
def C.bsk_w := pC C.bsk.eq_1
def C.gy_b : LO := [
 X.o 85 (.fldAddr 0 (X.s 10)),
 X.o 86 (.load1 (X.s 85))]
def C.gy : LO := C.gy_b
def C.gy_w := pO C.gy.eq_1
def C.blq : ICode := .keep [2, 3, 4, 6, 7, 8, 9, 10] (.seq (.seq (.region C.gy) C.bsk) C.br7)
def C.blq_w := pC C.blq.eq_1
def C.bf_b : LO := [
 X.m 67 7,
 X.m 68 4,
 X.m 69 9,
 X.o 70 (.idxAddr 1 (X.s 68) (X.s 69)),
 X.o 71 (.load1 (X.s 70)),
 X.o 72 (.bin .rem (X.s 71) (X.i 5)),
 X.o 73 (.strIdx (X.s 67) (X.s 72)),
 X.m 74 4,
 X.m 75 9,
 X.o 76 (.bin .add (X.s 75) (X.i 1)),
 X.o 77 (.idxAddr 1 (X.s 74) (X.s 76)),
 X.o 78 (.load1 (X.s 77)),
 X.o 79 (.fldAddr 0 (X.s 6)),
 X.o 80 (.load1 (X.s 79)),
 X.o 81 (.len (X.s 80)),
 X.o 82 (.bin .rem (X.s 78) (X.s 81)),
 X.o 83 (.buildSlice 1 1 [.int .i64 0] [(0, 1, X.s 82)]),
 X.o 84 (.build [.int .u8 0, .nils, .int .u64 0, .int .i64 0, .int .i64 0, .int .i64 0] [(0, 1, X.s 73), (1, 1, X.s 83)]),
 X.o 10 (.alloc [.int .u8 0, .nils, .int .u64 0, .int .i64 0, .int .i64 0, .int .i64 0]),
 X.n (.storeN 6 (X.s 10) (X.s 84))]
def C.bf : LO := C.bf_b
def C.bf_w := pO C.bf.eq_1
def C.bsl : ICode := .keep [2, 3, 4, 6, 7, 8, 9] (.seq (.region C.bf) C.blq)
def C.bsl_w := pC C.bsl.eq_1
def C.gx_b : LO := [
 X.m 64 8,
 X.o 65 (.bin .mul (X.i 3) (X.s 64)),
 X.o 66 (.bin .add (X.i 10) (X.s 65)),
 X.m 9 66]
def C.gx : LO := C.gx_b
def C.gx_w := pO C.gx.eq_1
def C.brg : ICode := .seq (.region C.gx) C.bsl
def C.brg_w := pC C.brg.eq_1
def C.t5 : ICode := .keep [2, 3, 4, 6, 7, 8] (.seq (.block 3 C.brg) C.br6)
def C.t5_w := pC C.t5.eq_1
def C.bsm : ICode := .keep [2, 3, 4, 6, 7, 8, 61] (.cond (X.s 61) .skip (.exit 2))
def C.bsm_w := pC C.bsm.eq_1
def C.gv_b : LO := [
 X.m 55 8,
 X.m 56 4,
 X.m 57 3,
 X.o 58 (.idxAddr 1 (X.s 56) (X.s 57)),
 X.o 59 (.load1 (X.s 58)),
 X.o 60 (.bin .rem (X.s 59) (X.i 9)),
 X.o 61 (.bin .lss (X.s 55) (X.s 60))]
def C.gv : LO := C.gv_b
def C.gv_w := pO C.gv.eq_1
def C.ckt : ICode := .keep [2, 3, 4, 6, 7, 8] (.seq (.seq (.region C.gv) C.bsm) C.t5)
def C.ckt_w := pC C.ckt.eq_1
def C.brh : ICode := .loop C.ckt
def C.brh_w := pC C.brh.eq_1
def C.bsp : ICode := .keep [2, 3, 4, 6, 7, 8] (.block 2 C.brh)
def C.bsp_w := pC C.bsp.eq_1
def C.gt_b : LO := [
 X.o 8 (.move (X.i 0))]
def C.gt : LO := C.gt_b
def C.gt_w := pO C.gt.eq_1
def C.bsr : ICode := .keep [2, 3, 4, 6, 7] (.seq (.seq (.region C.gt) C.bsp) C.bly)
def C.bsr_w := pC C.bsr.eq_1
def C.h7_b : LO := [
 X.o 7 (.move (.cst (.str [112, 100, 103, 109, 103])))]
def C.h7 : LO := C.h7_b
def C.h7_w := pO C.h7.eq_1
def C.bss : ICode := .keep [2, 3, 4, 6] (.seq (.region C.h7) C.bsr)
def C.bss_w := pC C.bss.eq_1
def C.h6_b : LO := [
 X.o 3 (.move (X.i 1))]
def C.h6 : LO := C.h6_b
def C.h6_w := pO C.h6.eq_1
def C.t6 : ICode := .keep [2, 4, 6] (.seq (.region C.h6) C.bss)
def C.t6_w := pC C.t6.eq_1
def C.h5_b : LO := [
 X.m 47 4,
 X.o 48 (.idxAddr 1 (X.s 47) (X.i 0)),
 X.o 49 (.load1 (X.s 48)),
 X.o 50 (.bin .add (X.i 1) (X.s 49)),
 X.o 51 (.conv .u64 (X.s 50)),
 X.o 52 (.build [.int .u8 0, .nils, .int .u64 0, .int .i64 0, .int .i64 0, .int .i64 0] [(0, 1, .cst (.int .u8 111)), (2, 1, X.s 51)]),
 X.o 53 (.buildSlice 6 1 [.int .u8 0, .nils, .int .u64 0, .int .i64 0, .int .i64 0, .int .i64 0] [(0, 6, X.s 52)]),
 X.o 54 (.build [.nils, .nils, .nils, .nils] [(0, 1, X.s 53)]),
 X.o 6 (.alloc [.nils, .nils, .nils, .nils]),
 X.n (.storeN 4 (X.s 6) (X.s 54))]
def C.h5 : LO := C.h5_b
def C.h5_w := pO C.h5.eq_1
def C.blz : ICode := .keep [2, 4] (.seq (.region C.h5) C.t6)
def C.blz_w := pC C.blz.eq_1
def C.h3_b : LO := [
 X.m 28 5,
 X.o 29 (.bin .add (X.s 28) (X.i 1)),
 X.m 5 29]
def C.h3 : LO := C.h3_b
def C.h3_w := pO C.h3.eq_1
def C.bst : ICode := .keep [0, 2, 4, 5] (.region C.h3)
def C.bst_w := pC C.bst.eq_1
def C.h4_b : LO := [
 X.m 30 4,
 X.m 31 5,
 X.m 32 0,
 X.m 33 5,
 X.m 34 0,
 X.o 35 (.len (X.s 34)),
 X.o 36 (.bin .rem (X.s 33) (X.s 35)),
 X.o 37 (.idxAddr 1 (X.s 32) (X.s 36)),
 X.o 38 (.load1 (X.s 37)),
 X.m 39 5,
 X.m 40 0,
 X.o 41 (.len (X.s 40)),
 X.o 42 (.bin .quo (X.s 39) (X.s 41)),
 X.o 43 (.bin .add (X.i 1) (X.s 42)),
 X.o 44 (.bin .quo (X.s 38) (X.s 43)),
 X.o 45 (.call F.q14 [X.s 44, X.i 1000000]),
 X.o 46 (.idxAddr 1 (X.s 30) (X.s 31)),
 X.n (.store1 (X.s 46) (X.s 45))]
def C.h4 : LO := C.h4_b
def C.h4_w := pO C.h4.eq_1
def C.brj : ICode := .region C.h4
def C.brj_w := pC C.brj.eq_1
def C.bsv : ICode := .keep [0, 2, 4, 5] (.seq (.block 1 C.brj) C.bst)
def C.bsv_w := pC C.bsv.eq_1
def C.bsx : ICode := .keep [0, 2, 4, 5, 27] (.cond (X.s 27) .skip (.exit 0))
def C.bsx_w := pC C.bsx.eq_1
def C.ht_b : LO := [
 X.m 19 5,
 X.m 20 4,
 X.o 21 (.len (X.s 20)),
 X.o 22 (.bin .lss (X.s 19) (X.s 21)),
 X.m 23 22,
 X.t 23 24 (.move (X.s 0)),
 X.t 23 25 (.len (X.s 24)),
 X.t 23 26 (.bin .gtr (X.s 25) (X.i 0)),
 X.o 27 (.pick (X.s 23) (X.s 26) (.cst (.bool false)))]
def C.ht : LO := C.ht_b
def C.ht_w := pO C.ht.eq_1
def C.ckv : ICode := .keep [0, 2, 4, 5] (.seq (.seq (.region C.ht) C.bsx) C.bsv)
def C.ckv_w := pC C.ckv.eq_1
def C.brk : ICode := .loop C.ckv
def C.brk_w := pC C.brk.eq_1
def C.bsy : ICode := .keep [0, 2, 4, 5] (.block 0 C.brk)
def C.bsy_w := pC C.bsy.eq_1
def C.hf_b : LO := [
 X.o 5 (.move (X.i 0))]
def C.hf : LO := C.hf_b
def C.hf_w := pO C.hf.eq_1
def C.bsq : ICode := .keep [0, 2, 4] (.seq (.seq (.region C.hf) C.bsy) C.blz)
def C.bsq_w := pC C.bsq.eq_1
def C.g2_b : LO := [
 X.o 18 (.makeSlice 1 8 [.int .i64 0] (X.i 120) (X.i 120)),
 X.m 4 18]
def C.g2 : LO := C.g2_b
def C.g2_w := pO C.g2.eq_1
def C.bsz : ICode := .keep [0, 2] (.seq (.region C.g2) C.bsq)
def C.bsz_w := pC C.bsz.eq_1
def C.gs_b : LO := [
 X.o 3 (.move (X.i 0))]
def C.gs : LO := C.gs_b
def C.gs_w := pO C.gs.eq_1
def C.bs0 : ICode := .keep [0, 2] (.seq (.region C.gs) C.bsz)
def C.bs0_w := pC C.bs0.eq_1
def C.bb_b : LO := [
 X.o 2 (.alloc [.nils, .nils, .nils, .nils])]
def C.bb : LO := C.bb_b
def C.bb_w := pO C.bb.eq_1
def C.q13 : IFunc := ⟨1, [.cellN 2 4], .seq (.region C.bb) C.bs0⟩
def C.q13_W := aI (aI (aI (aI (aI (aI @C.bg_w (aI @C.blt_w @C.hr_w)) (aI (aI @C.brv_w @C.h2_w) (aI @C.brq_w @C.h1_w))) (aI (aI (aI @C.br4_w @C.h0_w) (aI @C.bsf_w @C.hz_w)) (aI (aI @C.bsn_w @C.hq_w) (aI @C.bsw_w @C.hx_w)))) (aI (aI (aI @C.bs1_w (aI @C.hy_w @C.brl_w)) (aI (aI @C.brm_w @C.brn_w) (aI @C.hw_w @C.bp6_w))) (aI (aI (aI @C.brp_w @C.hv_w) (aI @C.brr_w @C.bh_w)) (aI (aI @C.brs_w @C.hs_w) (aI @C.bp7_w @C.t2_w))))) (aI (aI (aI (aI @C.brt_w (aI @C.hp_w @C.bp8_w)) (aI (aI @C.brw_w @C.hn_w) (aI @C.blv_w @C.hl_w))) (aI (aI (aI @C.brx_w @C.hm_w) (aI @C.bp9_w @C.t3_w)) (aI (aI @C.bry_w @C.hk_w) (aI @C.brb_w @C.brz_w)))) (aI (aI (aI @C.hj_w (aI @C.blw_w @C.hb_w)) (aI (aI @C.br0_w @C.hh_w) (aI @C.br1_w @C.hg_w))) (aI (aI (aI @C.br2_w @C.hd_w) (aI @C.blx_w @C.hc_w)) (aI (aI @C.brc_w @C.t4_w) (aI @C.br3_w @C.g9_w)))))) (aI (aI (aI (aI (aI @C.brd_w (aI @C.br5_w @C.g8_w)) (aI (aI @C.bly_w @C.gw_w) (aI @C.br6_w @C.g7_w))) (aI (aI (aI @C.br7_w @C.g1_w) (aI @C.br8_w @C.g0_w)) (aI (aI @C.br9_w @C.gz_w) (aI @C.g4_w @C.g6_w)))) (aI (aI (aI @C.bsb_w (aI @C.g5_w @C.bsc_w)) (aI (aI @C.bsd_w @C.g3_w) (aI @C.bsg_w @C.bsh_w))) (aI (aI (aI @C.bsj_w @C.gq_w) (aI @C.brf_w @C.bsk_w)) (aI (aI @C.gy_w @C.blq_w) (aI @C.bf_w @C.bsl_w))))) (aI (aI (aI (aI @C.gx_w (aI @C.brg_w @C.t5_w)) (aI (aI @C.bsm_w @C.gv_w) (aI @C.brh_w @C.bsp_w))) (aI (aI (aI @C.gt_w @C.bsr_w) (aI @C.h7_w @C.bss_w)) (aI (aI @C.h6_w @C.t6_w) (aI @C.h5_w @C.blz_w)))) (aI (aI (aI (aI @C.h3_w @C.bst_w) (aI @C.h4_w @C.brj_w)) (aI (aI @C.bsv_w @C.bsx_w) (aI @C.ht_w @C.brk_w))) (aI (aI (aI @C.bsy_w @C.hf_w) (aI @C.bsq_w @C.g2_w)) (aI (aI @C.bsz_w @C.gs_w) (aI @C.bs0_w @C.bb_w))))))
def C.q13_B := aI (aI (aI (aI (aI @C.bg_b.eq_1 (aI @C.hr_b.eq_1 @C.h2_b.eq_1)) (aI @C.h1_b.eq_1 (aI @C.h0_b.eq_1 @C.hz_b.eq_1))) (aI (aI @C.hq_b.eq_1 (aI @C.hx_b.eq_1 @C.hy_b.eq_1)) (aI @C.hw_b.eq_1 (aI @C.hv_b.eq_1 @C.bh_b.eq_1)))) (aI (aI (aI @C.hs_b.eq_1 (aI @C.hp_b.eq_1 @C.hn_b.eq_1)) (aI @C.hl_b.eq_1 (aI @C.hm_b.eq_1 @C.hk_b.eq_1))) (aI (aI @C.hj_b.eq_1 (aI @C.hb_b.eq_1 @C.hh_b.eq_1)) (aI (aI @C.hg_b.eq_1 @C.hd_b.eq_1) (aI @C.hc_b.eq_1 @C.g9_b.eq_1))))) (aI (aI (aI (aI @C.g8_b.eq_1 (aI @C.gw_b.eq_1 @C.g7_b.eq_1)) (aI @C.g1_b.eq_1 (aI @C.g0_b.eq_1 @C.gz_b.eq_1))) (aI (aI @C.g4_b.eq_1 (aI @C.g6_b.eq_1 @C.g5_b.eq_1)) (aI (aI @C.g3_b.eq_1 @C.gq_b.eq_1) (aI @C.gy_b.eq_1 @C.bf_b.eq_1)))) (aI (aI (aI @C.gx_b.eq_1 (aI @C.gv_b.eq_1 @C.gt_b.eq_1)) (aI @C.h7_b.eq_1 (aI @C.h6_b.eq_1 @C.h5_b.eq_1))) (aI (aI @C.h3_b.eq_1 (aI @C.h4_b.eq_1 @C.ht_b.eq_1)) (aI (aI @C.hf_b.eq_1 @C.g2_b.eq_1) (aI @C.gs_b.eq_1 @C.bb_b.eq_1)))))

def C.bkh_b : LO := [
 X.m 107 9,
 X.m 2 107,
 X.o 3 (.move (X.i 0))]
def C.bkh : LO := C.bkh_b
def C.bkh_w := pO C.bkh.eq_1
def C.ch1 : ICode := .keep [9] (.seq (.region C.bkh) .ret)
def C.ch1_w := pC C.ch1.eq_1
def C.bkg_b : LO := [
 X.m 106 6,
 X.o 2 (.move (.cst (.nilp))),
 X.m 3 106]
def C.bkg : LO := C.bkg_b
def C.bkg_w := pO C.bkg.eq_1
def C.ch2 : ICode := .seq (.region C.bkg) .ret
def C.ch2_w := pC C.ch2.eq_1
def C.ch3 : ICode := .keep [6, 9, 105] (.cond (X.s 105) C.ch2 .skip)
def C.ch3_w := pC C.ch3.eq_1
def C.bkf_b : LO := [
 X.m 104 6,
 X.o 105 (.bin .neq (X.s 104) (X.i 0))]
def C.bkf : LO := C.bkf_b
def C.bkf_w := pO C.bkf.eq_1
def C.ch4 : ICode := .keep [6, 9] (.seq (.region C.bkf) C.ch3)
def C.ch4_w := pC C.ch4.eq_1
def C.bkd_b : LO := [
 X.m 97 9,
 X.m 98 10,
 X.o 99 (.call F.q9 [X.s 98]),
 X.m 96 99,
 X.o 100 (.extract (X.s 96) 0),
 X.o 101 (.extract (X.s 96) 1),
 X.o 102 (.nilchk (X.s 97)),
 X.o 103 (.fldAddr 3 (X.s 102)),
 X.n (.store1 (X.s 103) (X.s 100)),
 X.m 6 101]
def C.bkd : LO := C.bkd_b
def C.bkd_w := pO C.bkd.eq_1
def C.ch5 : ICode := .keep [9, 10] (.seq (.seq (.region C.bkd) C.ch4) C.ch1)
def C.ch5_w := pC C.ch5.eq_1
def C.b5_b : LO := [
 X.o 95 (.bin .add (X.s 56) (X.i 1)),
 X.m 56 95]
def C.b5 : LO := C.b5_b
def C.b5_w := pO C.b5.eq_1
def C.bmf : ICode := .keep [9, 10, 54, 55, 56] (.region C.b5)
def C.bmf_w := pC C.bmf.eq_1
def C.b4_b : LO := [
 X.m 75 9,
 X.m 76 9,
 X.o 77 (.nilchk (X.s 76)),
 X.o 78 (.fldAddr 4 (X.s 77)),
 X.o 79 (.load1 (X.s 78)),
 X.o 80 (.fldAddr 0 (X.s 12)),
 X.o 81 (.load1 (X.s 80)),
 X.o 82 (.fldAddr 1 (X.s 12)),
 X.o 83 (.load1 (X.s 82)),
 X.o 84 (.fldAddr 2 (X.s 12)),
 X.o 85 (.load1 (X.s 84)),
 X.o 86 (.fldAddr 3 (X.s 12)),
 X.o 87 (.load1 (X.s 86)),
 X.m 88 13,
 ⟨some 89, .call F.q105 [], none, [⟨.load1 (X.s 78), 79, none⟩, ⟨.load1 (X.s 80), 81, none⟩, ⟨.load1 (X.s 82), 83, none⟩, ⟨.load1 (X.s 84), 85, none⟩, ⟨.load1 (X.s 86), 87, none⟩], []⟩,
 X.o 90 (.build [.int .i64 0, .int .i64 0, .int .i64 0, .int .u32 0, .nilp, .nilp] [(0, 1, X.s 81), (1, 1, X.s 83), (2, 1, X.s 85), (3, 1, X.s 87), (4, 1, X.s 88), (5, 1, X.s 89)]),
 X.o 91 (.buildSlice 6 1 [.int .i64 0, .int .i64 0, .int .i64 0, .int .u32 0, .nilp, .nilp] [(0, 6, X.s 90)]),
 X.o 92 (.append 6 48 (X.s 79) (X.s 91)),
 X.o 93 (.nilchk (X.s 75)),
 X.o 94 (.fldAddr 4 (X.s 93)),
 X.n (.store1 (X.s 94) (X.s 92))]
def C.b4 : LO := C.b4_b
def C.b4_w := pO C.b4.eq_1
def C.bmg : ICode := .keep [9, 10, 12, 13, 54, 55, 56] (.region C.b4)
def C.bmg_w := pC C.bmg.eq_1
def C.df_b : LO := [
 X.m 70 10,
 X.m 71 11,
 X.m 72 13,
 X.o 73 (.call F.q108 [X.s 72]),
 X.o 74 (.idxAddr 1 (X.s 70) (X.s 71)),
 X.n (.store1 (X.s 74) (X.s 73))]
def C.df : LO := C.df_b
def C.df_w := pO C.df.eq_1
def C.bmh : ICode := .keep [9, 10, 11, 12, 13, 54, 55, 56] (.seq (.region C.df) C.bmg)
def C.bmh_w := pC C.bmh.eq_1
def C.d4_b : LO := [
 X.m 69 14,
 X.o 2 (.move (.cst (.nilp))),
 X.m 3 69]
def C.d4 : LO := C.d4_b
def C.d4_w := pO C.d4.eq_1
def C.bzy : ICode := .seq (.region C.d4) .ret
def C.bzy_w := pC C.bzy.eq_1
def C.bq4 : ICode := .keep [9, 10, 11, 12, 13, 14, 54, 55, 56, 68] (.cond (X.s 68) C.bzy .skip)
def C.bq4_w := pC C.bq4.eq_1
def C.d3_b : LO := [
 X.m 67 14,
 X.o 68 (.bin .neq (X.s 67) (X.i 0))]
def C.d3 : LO := C.d3_b
def C.d3_w := pO C.d3.eq_1
def C.bq5 : ICode := .keep [9, 10, 11, 12, 13, 14, 54, 55, 56] (.seq (.seq (.region C.d3) C.bq4) C.bmh)
def C.bq5_w := pC C.bq5.eq_1
def C.dd_b : LO := [
 X.o 62 (.fldAddr 4 (X.s 12)),
 X.o 63 (.load1 (X.s 62)),
 X.o 64 (.call F.q118 [X.s 63]),
 X.m 61 64,
 X.o 65 (.extract (X.s 61) 0),
 X.o 66 (.extract (X.s 61) 1),
 X.m 13 65,
 X.m 14 66]
def C.dd : LO := C.dd_b
def C.dd_w := pO C.dd.eq_1
def C.bq6 : ICode := .keep [9, 10, 11, 12, 54, 55, 56] (.seq (.region C.dd) C.bq5)
def C.bq6_w := pC C.bq6.eq_1
def C.dc_b : LO := [
 X.m 58 56,
 X.o 59 (.idxAddr 6 (X.s 54) (X.s 56)),
 X.o 60 (.loadN 6 (X.s 59)),
 X.o 12 (.alloc [.int .i64 0, .int .i64 0, .int .i64 0, .int .u32 0, .nils, .nils]),
 X.m 11 58,
 X.n (.storeN 6 (X.s 12) (X.s 60))]
def C.dc : LO := C.dc_b
def C.dc_w := pO C.dc.eq_1
def C.bq2 : ICode := .seq (.region C.dc) C.bq6
def C.bq2_w := pC C.bq2.eq_1
def C.bq7 : ICode := .keep [9, 10, 54, 55, 56] (.seq (.block 1 C.bq2) C.bmf)
def C.bq7_w := pC C.bq7.eq_1
def C.bq8 : ICode := .keep [9, 10, 54, 55, 56, 57] (.seq (.cond (X.s 57) .skip (.exit 0)) C.bq7)
def C.bq8_w := pC C.bq8.eq_1
def C.db_b : LO := [
 X.o 57 (.bin .lss (X.s 56) (X.s 55))]
def C.db : LO := C.db_b
def C.db_w := pO C.db.eq_1
def C.clw : ICode := .keep [9, 10, 54, 55, 56] (.seq (.region C.db) C.bq8)
def C.clw_w := pC C.clw.eq_1
def C.bq3 : ICode := .loop C.clw
def C.bq3_w := pC C.bq3.eq_1
def C.bq9 : ICode := .keep [9, 10, 54, 55, 56] (.block 0 C.bq3)
def C.bq9_w := pC C.bq9.eq_1
def C.nd_b : LO := [
 X.o 53 (.fldAddr 3 (X.s 1)),
 X.o 54 (.load1 (X.s 53)),
 X.o 55 (.len (X.s 54)),
 X.o 56 (.move (X.i 0))]
def C.nd : LO := C.nd_b
def C.nd_w := pO C.nd.eq_1
def C.bzb : ICode := .keep [1, 9, 10] (.seq (.seq (.region C.nd) C.bq9) C.ch5)
def C.bzb_w := pC C.bzb.eq_1
def C.c9_b : LO := [
 X.o 49 (.fldAddr 3 (X.s 1)),
 X.o 50 (.load1 (X.s 49)),
 X.o 51 (.len (X.s 50)),
 X.o 52 (.makeSlice 1 8 [.int .i64 0] (X.s 51) (X.s 51)),
 X.m 10 52]
def C.c9 : LO := C.c9_b
def C.c9_w := pO C.c9.eq_1
def C.bmd : ICode := .keep [1, 9] (.seq (.region C.c9) C.bzb)
def C.bmd_w := pC C.bmd.eq_1
def C.nc_b : LO := [
 X.m 44 5,
 X.m 45 7,
 X.m 46 8,
 X.o 47 (.build [.nilp, .nilp, .nilp, .nilp, .nils] [(0, 1, X.s 44), (1, 1, X.s 45), (2, 1, X.s 46)]),
 X.o 48 (.boxN (X.s 47)),
 X.m 9 48]
def C.nc : LO := C.nc_b
def C.nc_w := pO C.nc.eq_1
def C.bzc : ICode := .keep [1, 5, 7, 8] (.seq (.region C.nc) C.bmd)
def C.bzc_w := pC C.bzc.eq_1
def C.nb_b : LO := [
 X.m 43 6,
 X.o 2 (.move (.cst (.nilp))),
 X.m 3 43]
def C.nb : LO := C.nb_b
def C.nb_w := pO C.nb.eq_1
def C.bzd : ICode := .seq (.region C.nb) .ret
def C.bzd_w := pC C.bzd.eq_1
def C.bzf : ICode := .keep [1, 5, 6, 7, 8, 42] (.cond (X.s 42) C.bzd .skip)
def C.bzf_w := pC C.bzf.eq_1
def C.m9_b : LO := [
 X.m 41 6,
 X.o 42 (.bin .neq (X.s 41) (X.i 0))]
def C.m9 : LO := C.m9_b
def C.m9_w := pO C.m9.eq_1
def C.bzg : ICode := .keep [1, 5, 6, 7, 8] (.seq (.seq (.region C.m9) C.bzf) C.bzc)
def C.bzg_w := pC C.bzg.eq_1
def C.m8_b : LO := [
 X.o 37 (.loadN 4 (X.s 1)),
 X.o 38 (.call F.q123 [X.s 37]),
 X.m 36 38,
 X.o 39 (.extract (X.s 36) 0),
 X.o 40 (.extract (X.s 36) 1),
 X.m 8 39,
 X.m 6 40]
def C.m8 : LO := C.m8_b
def C.m8_w := pO C.m8.eq_1
def C.bzh : ICode := .keep [1, 5, 7] (.seq (.region C.m8) C.bzg)
def C.bzh_w := pC C.bzh.eq_1
def C.nn_b : LO := [
 X.m 35 6,
 X.o 2 (.move (.cst (.nilp))),
 X.m 3 35]
def C.nn : LO := C.nn_b
def C.nn_w := pO C.nn.eq_1
def C.bzj : ICode := .seq (.region C.nn) .ret
def C.bzj_w := pC C.bzj.eq_1
def C.bzk : ICode := .keep [1, 5, 6, 7, 34] (.cond (X.s 34) C.bzj .skip)
def C.bzk_w := pC C.bzk.eq_1
def C.nm_b : LO := [
 X.m 33 6,
 X.o 34 (.bin .neq (X.s 33) (X.i 0))]
def C.nm : LO := C.nm_b
def C.nm_w := pO C.nm.eq_1
def C.bzl : ICode := .keep [1, 5, 6, 7] (.seq (.seq (.region C.nm) C.bzk) C.bzh)
def C.bzl_w := pC C.bzl.eq_1
def C.nl_b : LO := [
 X.o 29 (.loadN 4 (X.s 1)),
 X.o 30 (.call F.q100 [X.s 29]),
 X.m 28 30,
 X.o 31 (.extract (X.s 28) 0),
 X.o 32 (.extract (X.s 28) 1),
 X.m 7 31,
 X.m 6 32]
def C.nl : LO := C.nl_b
def C.nl_w := pO C.nl.eq_1
def C.bzm : ICode := .keep [1, 5] (.seq (.region C.nl) C.bzl)
def C.bzm_w := pC C.bzm.eq_1
def C.nk_b : LO := [
 X.m 27 6,
 X.o 2 (.move (.cst (.nilp))),
 X.m 3 27]
def C.nk : LO := C.nk_b
def C.nk_w := pO C.nk.eq_1
def C.bzn : ICode := .seq (.region C.nk) .ret
def C.bzn_w := pC C.bzn.eq_1
def C.bzp : ICode := .keep [1, 5, 6, 26] (.cond (X.s 26) C.bzn .skip)
def C.bzp_w := pC C.bzp.eq_1
def C.nj_b : LO := [
 X.m 25 6,
 X.o 26 (.bin .neq (X.s 25) (X.i 0))]
def C.nj : LO := C.nj_b
def C.nj_w := pO C.nj.eq_1
def C.bzr : ICode := .keep [1, 5, 6] (.seq (.seq (.region C.nj) C.bzp) C.bzm)
def C.bzr_w := pC C.bzr.eq_1
def C.nh_b : LO := [
 X.o 21 (.loadN 4 (X.s 1)),
 X.o 22 (.call F.q17 [X.s 21]),
 X.m 20 22,
 X.o 23 (.extract (X.s 20) 0),
 X.o 24 (.extract (X.s 20) 1),
 X.m 5 23,
 X.m 6 24]
def C.nh : LO := C.nh_b
def C.nh_w := pO C.nh.eq_1
def C.bzs : ICode := .keep [1] (.seq (.region C.nh) C.bzr)
def C.bzs_w := pC C.bzs.eq_1
def C.ng_b : LO := [
 X.m 19 4,
 X.o 2 (.move (.cst (.nilp))),
 X.m 3 19]
def C.ng : LO := C.ng_b
def C.ng_w := pO C.ng.eq_1
def C.bzt : ICode := .seq (.region C.ng) .ret
def C.bzt_w := pC C.bzt.eq_1
def C.bzv : ICode := .keep [1, 4, 18] (.cond (X.s 18) C.bzt .skip)
def C.bzv_w := pC C.bzv.eq_1
def C.nf_b : LO := [
 X.m 17 4,
 X.o 18 (.bin .neq (X.s 17) (X.i 0))]
def C.nf : LO := C.nf_b
def C.nf_w := pO C.nf.eq_1
def C.bzw : ICode := .keep [1, 4] (.seq (.region C.nf) C.bzv)
def C.bzw_w := pC C.bzw.eq_1
def C.m7_b : LO := [
 X.o 15 (.loadN 4 (X.s 1)),
 X.o 16 (.call F.q25 [X.s 15]),
 X.m 4 16]
def C.m7 : LO := C.m7_b
def C.m7_w := pO C.m7.eq_1
def C.bzx : ICode := .keep [1] (.seq (.seq (.region C.m7) C.bzw) C.bzs)
def C.bzx_w := pC C.bzx.eq_1
def C.bp_b : LO := [
 X.o 1 (.boxN (X.s 0)),
 X.o 2 (.move (.cst (.nilp))),
 X.o 3 (.move (X.i 0))]
def C.bp : LO := C.bp_b
def C.bp_w := pO C.bp.eq_1
def C.q94 : IFunc := ⟨1, [.slot 2, .slot 3], .seq (.region C.bp) C.bzx⟩
def C.q94_W := aI (aI (aI (aI (aI (aI @C.bkh_w @C.ch1_w) (aI @C.bkg_w @C.ch2_w)) (aI (aI @C.ch3_w @C.bkf_w) (aI @C.ch4_w @C.bkd_w))) (aI (aI (aI @C.ch5_w @C.b5_w) (aI @C.bmf_w @C.b4_w)) (aI (aI @C.bmg_w @C.df_w) (aI @C.bmh_w @C.d4_w)))) (aI (aI (aI (aI @C.bzy_w @C.bq4_w) (aI @C.d3_w @C.bq5_w)) (aI (aI @C.dd_w @C.bq6_w) (aI @C.dc_w @C.bq2_w))) (aI (aI (aI @C.bq7_w @C.bq8_w) (aI @C.db_w @C.bq3_w)) (aI (aI @C.bq9_w @C.nd_w) (aI @C.bzb_w @C.c9_w))))) (aI (aI (aI (aI (aI @C.bmd_w @C.nc_w) (aI @C.bzc_w @C.nb_w)) (aI (aI @C.bzd_w @C.bzf_w) (aI @C.m9_w @C.bzg_w))) (aI (aI (aI @C.m8_w @C.bzh_w) (aI @C.nn_w @C.bzj_w)) (aI (aI @C.bzk_w @C.nm_w) (aI @C.bzl_w @C.nl_w)))) (aI (aI (aI (aI @C.bzm_w @C.nk_w) (aI @C.bzn_w @C.bzp_w)) (aI (aI @C.nj_w @C.bzr_w) (aI @C.nh_w @C.bzs_w))) (aI (aI (aI @C.ng_w @C.bzt_w) (aI @C.bzv_w @C.nf_w)) (aI (aI @C.bzw_w @C.m7_w) (aI @C.bzx_w @C.bp_w)))))
def C.q94_B := aI (aI (aI (aI @C.bkh_b.eq_1 (aI @C.bkg_b.eq_1 @C.bkf_b.eq_1)) (aI (aI @C.bkd_b.eq_1 @C.b5_b.eq_1) (aI @C.b4_b.eq_1 @C.df_b.eq_1))) (aI (aI @C.d4_b.eq_1 (aI @C.d3_b.eq_1 @C.dd_b.eq_1)) (aI (aI @C.dc_b.eq_1 @C.db_b.eq_1) (aI @C.nd_b.eq_1 @C.c9_b.eq_1)))) (aI (aI (aI @C.nc_b.eq_1 (aI @C.nb_b.eq_1 @C.m9_b.eq_1)) (aI (aI @C.m8_b.eq_1 @C.nn_b.eq_1) (aI @C.nm_b.eq_1 @C.nl_b.eq_1))) (aI (aI @C.nk_b.eq_1 (aI @C.nj_b.eq_1 @C.nh_b.eq_1)) (aI (aI @C.ng_b.eq_1 @C.nf_b.eq_1) (aI @C.m7_b.eq_1 @C.bp_b.eq_1))))

def C.vb_b : LO := [
 X.m 10 0,
 X.m 11 1,
 X.o 12 (.bin .rem (X.s 10) (X.s 11)),
 X.m 4 12]
def C.vb : LO := C.vb_b
def C.vb_w := pO C.vb.eq_1
def C.b4p : ICode := .keep [0, 1] (.seq (.region C.vb) .ret)
def C.b4p_w := pC C.b4p.eq_1
def C.t9_b : LO := [
 X.m 7 0,
 X.o 8 (.bin .add (X.s 7) (X.i 1)),
 X.o 9 (.un .neg (X.s 8)),
 X.m 0 9]
def C.t9 : LO := C.t9_b
def C.t9_w := pO C.t9.eq_1
def C.b4r : ICode := .keep [0, 1, 6] (.cond (X.s 6) (.region C.t9) .skip)
def C.b4r_w := pC C.b4r.eq_1
def C.t8_b : LO := [
 X.m 5 0,
 X.o 6 (.bin .lss (X.s 5) (X.i 0))]
def C.t8 : LO := C.t8_b
def C.t8_w := pO C.t8.eq_1
def C.b4s : ICode := .keep [0, 1] (.seq (.seq (.region C.t8) C.b4r) C.b4p)
def C.b4s_w := pC C.b4s.eq_1
def C.t7_b : LO := [
 X.o 4 (.move (X.i 0))]
def C.t7 : LO := C.t7_b
def C.t7_w := pO C.t7.eq_1
def C.q14 : IFunc := ⟨2, [.slot 4], .seq (.region C.t7) C.b4s⟩
def C.q14_W := aI (aI @C.vb_w (aI @C.b4p_w @C.t9_w)) (aI (aI @C.b4r_w @C.t8_w) (aI @C.b4s_w @C.t7_w))
def C.q14_B := aI (aI @C.vb_b.eq_1 @C.t9_b.eq_1) (aI @C.t8_b.eq_1 @C.t7_b.eq_1)

def C.bbp_b : LO := [
 X.m 39 6,
 X.m 4 39,
 X.o 5 (.move (X.i 0))]
def C.bbp : LO := C.bbp_b
def C.bbp_w := pO C.bbp.eq_1
def C.b8f : ICode := .keep [6] (.seq (.region C.bbp) .ret)
def C.b8f_w := pC C.b8f.eq_1
def C.bbn_b : LO := [
 X.o 4 (.move (.cst (.int .u32 0))),
 X.o 5 (.move (X.i 1))]
def C.bbn : LO := C.bbn_b
def C.bbn_w := pO C.bbn.eq_1
def C.b8k : ICode := .seq (.region C.bbn) .ret
def C.b8k_w := pC C.b8k.eq_1
def C.b8l : ICode := .keep [6, 38] (.cond (X.s 38) C.b8k .skip)
def C.b8l_w := pC C.b8l.eq_1
def C.bbm_b : LO := [
 X.m 37 7,
 X.o 38 (.bin .neq (X.s 37) (X.i 0))]
def C.bbm : LO := C.bbm_b
def C.bbm_w := pO C.bbm.eq_1
def C.b8m : ICode := .keep [6, 7] (.seq (.seq (.region C.bbm) C.b8l) C.b8f)
def C.b8m_w := pC C.b8m.eq_1
def C.bbl_b : LO := [
 X.m 31 6,
 X.m 32 1,
 X.o 33 (.conv .u32 (X.s 32)),
 X.o 34 (.call F.q1 [X.s 31, X.i 2, X.i 14, X.s 33]),
 X.m 30 34,
 X.o 35 (.extract (X.s 30) 0),
 X.o 36 (.extract (X.s 30) 1),
 X.m 6 35,
 X.m 7 36]
def C.bbl : LO := C.bbl_b
def C.bbl_w := pO C.bbl.eq_1
def C.b8n : ICode := .keep [1, 6] (.seq (.region C.bbl) C.b8m)
def C.b8n_w := pC C.b8n.eq_1
def C.bbk_b : LO := [
 X.o 4 (.move (.cst (.int .u32 0))),
 X.o 5 (.move (X.i 1))]
def C.bbk : LO := C.bbk_b
def C.bbk_w := pO C.bbk.eq_1
def C.b8p : ICode := .seq (.region C.bbk) .ret
def C.b8p_w := pC C.b8p.eq_1
def C.b8r : ICode := .keep [1, 6, 29] (.cond (X.s 29) C.b8p .skip)
def C.b8r_w := pC C.b8r.eq_1
def C.bbj_b : LO := [
 X.m 28 7,
 X.o 29 (.bin .neq (X.s 28) (X.i 0))]
def C.bbj : LO := C.bbj_b
def C.bbj_w := pO C.bbj.eq_1
def C.b8s : ICode := .keep [1, 6, 7] (.seq (.seq (.region C.bbj) C.b8r) C.b8n)
def C.b8s_w := pC C.b8s.eq_1
def C.bbh_b : LO := [
 X.m 23 0,
 X.o 24 (.conv .u32 (X.s 23)),
 X.o 25 (.call F.q1 [.cst (.int .u32 0), X.i 16, X.i 8, X.s 24]),
 X.m 22 25,
 X.o 26 (.extract (X.s 22) 0),
 X.o 27 (.extract (X.s 22) 1),
 X.m 6 26,
 X.m 7 27]
def C.bbh : LO := C.bbh_b
def C.bbh_w := pO C.bbh.eq_1
def C.b8t : ICode := .keep [0, 1] (.seq (.region C.bbh) C.b8s)
def C.b8t_w := pC C.b8t.eq_1
def C.bbg_b : LO := [
 X.o 4 (.move (.cst (.int .u32 0))),
 X.o 5 (.move (X.i 1))]
def C.bbg : LO := C.bbg_b
def C.bbg_w := pO C.bbg.eq_1
def C.b8g : ICode := .seq (.region C.bbg) .ret
def C.b8g_w := pC C.b8g.eq_1
def C.b8h : ICode := .keep [0, 1, 21] (.cond (X.s 21) C.b8g .skip)
def C.b8h_w := pC C.b8h.eq_1
def C.bbf_b : LO := [
 X.m 8 0,
 X.o 9 (.bin .lss (X.s 8) (X.i 0)),
 X.m 10 9,
 X.f 10 11 (.move (X.s 0)),
 X.f 10 12 (.bin .geq (X.s 11) (X.i 256)),
 X.o 13 (.pick (X.s 10) (.cst (.bool true)) (X.s 12)),
 X.m 14 13,
 X.f 14 15 (.move (X.s 1)),
 X.f 14 16 (.bin .lss (X.s 15) (X.i 0)),
 X.o 17 (.pick (X.s 14) (.cst (.bool true)) (X.s 16)),
 X.m 18 17,
 X.f 18 19 (.move (X.s 1)),
 X.f 18 20 (.bin .geq (X.s 19) (X.i 16384)),
 X.o 21 (.pick (X.s 18) (.cst (.bool true)) (X.s 20))]
def C.bbf : LO := C.bbf_b
def C.bbf_w := pO C.bbf.eq_1
def C.b8j : ICode := .keep [0, 1] (.seq (.seq (.region C.bbf) C.b8h) C.b8t)
def C.b8j_w := pC C.b8j.eq_1
def C.bbd_b : LO := [
 X.o 4 (.move (.cst (.int .u32 0))),
 X.o 5 (.move (X.i 0))]
def C.bbd : LO := C.bbd_b
def C.bbd_w := pO C.bbd.eq_1
def C.q4 : IFunc := ⟨2, [.slot 4, .slot 5], .seq (.region C.bbd) C.b8j⟩
def C.q4_W := aI (aI (aI (aI @C.bbp_w @C.b8f_w) (aI @C.bbn_w (aI @C.b8k_w @C.b8l_w))) (aI (aI @C.bbm_w (aI @C.b8m_w @C.bbl_w)) (aI @C.b8n_w (aI @C.bbk_w @C.b8p_w)))) (aI (aI (aI @C.b8r_w @C.bbj_w) (aI @C.b8s_w (aI @C.bbh_w @C.b8t_w))) (aI (aI @C.bbg_w (aI @C.b8g_w @C.b8h_w)) (aI @C.bbf_w (aI @C.b8j_w @C.bbd_w))))
def C.q4_B := aI (aI (aI @C.bbp_b.eq_1 @C.bbn_b.eq_1) (aI @C.bbm_b.eq_1 (aI @C.bbl_b.eq_1 @C.bbk_b.eq_1))) (aI (aI @C.bbj_b.eq_1 @C.bbh_b.eq_1) (aI @C.bbg_b.eq_1 (aI @C.bbf_b.eq_1 @C.bbd_b.eq_1)))

def C.bjr_b : LO := [
 X.m 48 0,
 X.o 49 (.nilchk (X.s 48)),
 X.o 50 (.fldAddr 3 (X.s 49)),
 X.o 51 (.load1 (X.s 50)),
 X.m 52 1,
 X.m 53 2,
 X.m 54 3,
 X.o 55 (.call F.q5 [X.s 51, X.s 52, X.s 53, X.s 54]),
 X.o 56 (.extract (X.s 55) 0),
 X.o 57 (.extract (X.s 55) 1),
 X.m 8 56,
 X.m 9 57]
def C.bjr : LO := C.bjr_b
def C.bjr_w := pO C.bjr.eq_1
def C.chd : ICode := .keep [0, 1, 2, 3] (.seq (.region C.bjr) .ret)
def C.chd_w := pC C.chd.eq_1
def C.bjp_b : LO := [
 X.o 8 (.move (X.i 0)),
 X.o 9 (.move (X.i 6))]
def C.bjp : LO := C.bjp_b
def C.bjp_w := pO C.bjp.eq_1
def C.chf : ICode := .seq (.region C.bjp) .ret
def C.chf_w := pC C.chf.eq_1
def C.chg : ICode := .keep [0, 1, 2, 3, 47] (.cond (X.s 47) C.chf .skip)
def C.chg_w := pC C.chg.eq_1
def C.bjn_b : LO := [
 X.m 38 0,
 X.o 39 (.nilchk (X.s 38)),
 X.o 40 (.fldAddr 4 (X.s 39)),
 X.o 41 (.load1 (X.s 40)),
 X.m 42 10,
 X.o 43 (.idxAddr 6 (X.s 41) (X.s 42)),
 X.o 44 (.fldAddr 5 (X.s 43)),
 X.o 45 (.load1 (X.s 44)),
 X.o 46 (.call F.q103 [X.s 45]),
 X.o 47 (.bin .neq (X.s 46) (.cst (.int .u8 114)))]
def C.bjn : LO := C.bjn_b
def C.bjn_w := pO C.bjn.eq_1
def C.chh : ICode := .keep [0, 1, 2, 3, 10] (.seq (.seq (.region C.bjn) C.chg) C.chd)
def C.chh_w := pC C.chh.eq_1
def C.bjm_b : LO := [
 X.o 8 (.move (X.i 0)),
 X.o 9 (.move (X.i 4))]
def C.bjm : LO := C.bjm_b
def C.bjm_w := pO C.bjm.eq_1
def C.chj : ICode := .seq (.region C.bjm) .ret
def C.chj_w := pC C.chj.eq_1
def C.chk : ICode := .keep [0, 1, 2, 3, 10, 37] (.cond (X.s 37) C.chj .skip)
def C.chk_w := pC C.chk.eq_1
def C.bjl_b : LO := [
 X.m 17 0,
 X.m 18 10,
 X.o 19 (.call F.q92 [X.s 17, X.s 18]),
 X.o 20 (.un .not (X.s 19)),
 X.m 21 20,
 X.f 21 22 (.move (X.s 11)),
 X.f 21 23 (.bin .lss (X.s 22) (X.i 0)),
 X.o 24 (.pick (X.s 21) (.cst (.bool true)) (X.s 23)),
 X.m 25 24,
 X.f 25 26 (.move (X.s 11)),
 X.f 25 27 (.move (X.s 0)),
 X.f 25 28 (.nilchk (X.s 27)),
 X.f 25 29 (.fldAddr 4 (X.s 28)),
 X.f 25 30 (.load1 (X.s 29)),
 X.f 25 31 (.move (X.s 10)),
 X.f 25 32 (.idxAddr 6 (X.s 30) (X.s 31)),
 X.f 25 33 (.fldAddr 4 (X.s 32)),
 X.f 25 34 (.load1 (X.s 33)),
 X.f 25 35 (.call F.q108 [X.s 34]),
 X.f 25 36 (.bin .geq (X.s 26) (X.s 35)),
 X.o 37 (.pick (X.s 25) (.cst (.bool true)) (X.s 36))]
def C.bjl : LO := C.bjl_b
def C.bjl_w := pO C.bjl.eq_1
def C.chl : ICode := .keep [0, 1, 2, 3, 10, 11] (.seq (.seq (.region C.bjl) C.chk) C.chh)
def C.chl_w := pC C.chl.eq_1
def C.bjk_b : LO := [
 X.m 13 1,
 X.o 14 (.call F.q10 [X.s 13]),
 X.m 12 14,
 X.o 15 (.extract (X.s 12) 0),
 X.o 16 (.extract (X.s 12) 1),
 X.m 10 15,
 X.m 11 16]
def C.bjk : LO := C.bjk_b
def C.bjk_w := pO C.bjk.eq_1
def C.chm : ICode := .keep [0, 1, 2, 3] (.seq (.region C.bjk) C.chl)
def C.chm_w := pC C.chm.eq_1
def C.bjj_b : LO := [
 X.o 8 (.move (X.i 0)),
 X.o 9 (.move (X.i 0))]
def C.bjj : LO := C.bjj_b
def C.bjj_w := pO C.bjj.eq_1
def C.q86 : IFunc := ⟨4, [.slot 8, .slot 9], .seq (.region C.bjj) C.chm⟩
def C.q86_W := aI (aI (aI @C.bjr_w (aI @C.chd_w @C.bjp_w)) (aI (aI @C.chf_w @C.chg_w) (aI @C.bjn_w @C.chh_w))) (aI (aI (aI @C.bjm_w @C.chj_w) (aI @C.chk_w @C.bjl_w)) (aI (aI @C.chl_w @C.bjk_w) (aI @C.chm_w @C.bjj_w)))
def C.q86_B := aI (aI @C.bjr_b.eq_1 (aI @C.bjp_b.eq_1 @C.bjn_b.eq_1)) (aI (aI @C.bjm_b.eq_1 @C.bjl_b.eq_1) (aI @C.bjk_b.eq_1 @C.bjj_b.eq_1))

end Go.Proofs.YtdmfgodajoojpaaGreatDoor.Cn
