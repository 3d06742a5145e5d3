/- The intermediate code of the functions, printed by a program out of the loaded program; that it is theirs is checked in the text of links. -/
import Derived.Test.YtdmfgodajoojpaaGreatDoorCnL2
set_option linter.defProp false
namespace Go.Proofs.YtdmfgodajoojpaaGreatDoor.Cn
open Go
theorem aI {a b : Prop} (x : a) (y : b) : a ∧ b := ⟨x, y⟩
theorem pC {c d : ICode} (h : c = d) ⦃P : Program⦄ ⦃Q : IExit → AFr → ASt → Prop⦄ ⦃fr : AFr⦄ ⦃st : ASt⦄ : awp P c Q fr st = awp P d Q fr st := by rw [h]
theorem pO {c d : List IOper} (h : c = d) ⦃P : Program⦄ ⦃k : AFr → ASt → Prop⦄ ⦃fr : AFr⦄ ⦃st : ASt⦄ : aops P c k fr st = aops P d k fr st := by rw [h]
abbrev LO := List IOper
variable {P : Program} {Q : IExit → AFr → ASt → Prop} {fr : AFr} {st : ASt}

abbrev F.main_main : Nat := 0
abbrev F.gosem_cut : Nat := 1
abbrev F.gosem_cut_init : Nat := 2
abbrev F.catnaplaw12_HardQuiet : Nat := 3
abbrev F.q12 : Nat := 4
abbrev F.catnaplaw12_HardGates : Nat := 5
abbrev F.catnaplaw12_HardWakes : Nat := 6
abbrev F.catnaplaw12_HardResets : Nat := 7
abbrev F.catnaplaw12_HardKeeps : Nat := 8
abbrev F.q15 : Nat := 9
abbrev F.q13 : Nat := 10
abbrev F.q94 : Nat := 11
abbrev F.q14 : Nat := 12
abbrev F.q4 : Nat := 13
abbrev F.q86 : Nat := 14
abbrev F.hard_Hard_Ask : Nat := 15
abbrev F.q89 : Nat := 16
abbrev F.hard_Hard_State : Nat := 17
abbrev F.hard_Hard_Leave : Nat := 18
abbrev F.hard_Hard_Waiting : Nat := 19
abbrev F.q16 : Nat := 20
abbrev F.q82 : Nat := 21
abbrev F.q83 : Nat := 22
abbrev F.q81 : Nat := 23
abbrev F.q25 : Nat := 24
abbrev F.hard_Hard_Assert : Nat := 25
abbrev F.q87 : Nat := 26
abbrev F.q84 : Nat := 27
abbrev F.hard_Hard_Down : Nat := 28
abbrev F.q85 : Nat := 29
abbrev F.q90 : Nat := 30
abbrev F.q88 : Nat := 31
abbrev F.q17 : Nat := 32
abbrev F.q100 : Nat := 33
abbrev F.q123 : Nat := 34
abbrev F.q118 : Nat := 35
abbrev F.q108 : Nat := 36
abbrev F.q105 : Nat := 37
abbrev F.q9 : Nat := 38
abbrev F.q1 : Nat := 39
abbrev F.q10 : Nat := 40
abbrev F.q92 : Nat := 41
abbrev F.q103 : Nat := 42
abbrev F.q5 : Nat := 43
abbrev F.quiet_Chan_Ask : Nat := 44
abbrev F.q93 : Nat := 45
abbrev F.q91 : Nat := 46
abbrev F.q104 : Nat := 47
abbrev F.q7 : Nat := 48
abbrev F.q22 : Nat := 49
abbrev F.q97 : Nat := 50
abbrev F.q95 : Nat := 51
abbrev F.q121 : Nat := 52
abbrev F.quiet_Chan_Leave : Nat := 53
abbrev F.q18 : Nat := 54
abbrev F.q19 : Nat := 55
abbrev F.q20 : Nat := 56
abbrev F.q96 : Nat := 57
abbrev F.q119 : Nat := 58
abbrev F.q61 : Nat := 59
abbrev F.q26 : Nat := 60
abbrev F.q62 : Nat := 61
abbrev F.q27 : Nat := 62
abbrev F.q56 : Nat := 63
abbrev F.q28 : Nat := 64
abbrev F.q41 : Nat := 65
abbrev F.q29 : Nat := 66
abbrev F.q46 : Nat := 67
abbrev F.q37 : Nat := 68
abbrev F.q30 : Nat := 69
abbrev F.q58 : Nat := 70
abbrev F.q31 : Nat := 71
abbrev F.q53 : Nat := 72
abbrev F.q32 : Nat := 73
abbrev F.q39 : Nat := 74
abbrev F.q33 : Nat := 75
abbrev F.q59 : Nat := 76
abbrev F.q71 : Nat := 77
abbrev F.q34 : Nat := 78
abbrev F.q57 : Nat := 79
abbrev F.q35 : Nat := 80
abbrev F.q47 : Nat := 81
abbrev F.q36 : Nat := 82
abbrev F.q40 : Nat := 83
abbrev F.reset_Lines_Assert : Nat := 84
abbrev F.q106 : Nat := 85
abbrev F.q120 : Nat := 86
abbrev F.power_Grid_Down : Nat := 87
abbrev F.q98 : Nat := 88
abbrev F.q38 : Nat := 89
abbrev F.q124 : Nat := 90
abbrev F.q2 : Nat := 91
abbrev F.q11 : Nat := 92
abbrev F.q8 : Nat := 93
abbrev F.q6 : Nat := 94
abbrev F.q109 : Nat := 95
abbrev F.q114 : Nat := 96
abbrev F.q24 : Nat := 97
abbrev F.q102 : Nat := 98
abbrev F.q112 : Nat := 99
abbrev F.q110 : Nat := 100
abbrev F.q23 : Nat := 101
abbrev F.q125 : Nat := 102
abbrev F.q21 : Nat := 103
abbrev F.q99 : Nat := 104
abbrev F.q122 : Nat := 105
abbrev F.q63 : Nat := 106
abbrev F.q73 : Nat := 107
abbrev F.q42 : Nat := 108
abbrev F.q72 : Nat := 109
abbrev F.q43 : Nat := 110
abbrev F.q60 : Nat := 111
abbrev F.q44 : Nat := 112
abbrev F.q74 : Nat := 113
abbrev F.q45 : Nat := 114
abbrev F.q64 : Nat := 115
abbrev F.q75 : Nat := 116
abbrev F.q70 : Nat := 117
abbrev F.q54 : Nat := 118
abbrev F.q55 : Nat := 119
abbrev F.q48 : Nat := 120
abbrev F.q49 : Nat := 121
abbrev F.q50 : Nat := 122
abbrev F.q51 : Nat := 123
abbrev F.q52 : Nat := 124
abbrev F.q115 : Nat := 125
abbrev F.q107 : Nat := 126
abbrev F.q101 : Nat := 127
abbrev F.q65 : Nat := 128
abbrev F.q67 : Nat := 129
abbrev F.q69 : Nat := 130
abbrev F.q66 : Nat := 131
abbrev F.q68 : Nat := 132
abbrev F.q3 : Nat := 133
abbrev F.q0 : Nat := 134
abbrev F.q117 : Nat := 135
abbrev F.q113 : Nat := 136
abbrev F.q111 : Nat := 137
abbrev F.q76 : Nat := 138
abbrev F.q116 : Nat := 139
abbrev F.q80 : Nat := 140
abbrev F.q77 : Nat := 141
abbrev F.q79 : Nat := 142
abbrev F.q78 : Nat := 143
abbrev F.runtime_boundsError_Error : Nat := 144
abbrev F.runtime_boundsError_RuntimeError : Nat := 145
abbrev F.runtime_errorString_Error : Nat := 146
abbrev F.runtime_errorString_RuntimeError : Nat := 147
abbrev F.runtime_plainError_Error : Nat := 148
abbrev F.runtime_plainError_RuntimeError : Nat := 149
abbrev F.runtime_errorAddressString_Error : Nat := 150
abbrev F.runtime_errorAddressString_RuntimeError : Nat := 151
abbrev F.runtime_TypeAssertionError_Error : Nat := 152
abbrev F.runtime_TypeAssertionError_RuntimeError : Nat := 153
abbrev F.runtime_PanicNilError_Error : Nat := 154
abbrev F.runtime_PanicNilError_RuntimeError : Nat := 155
abbrev F.internal_abi_Type_Align : Nat := 156
abbrev F.internal_runtime_maps_unhashableTypeError_Error : Nat := 157
abbrev F.internal_runtime_maps_unhashableTypeError_RuntimeError : Nat := 158
abbrev F.api_Errno_Error : Nat := 159
abbrev F.power_Grid_Left : Nat := 160
abbrev F.quiet_Chan_Denied : Nat := 161
abbrev F.internal_abi_Kind_String : Nat := 162
abbrev F.var_s_door_quiet_letters_is_laid_by_its_own_initialiser_plain_data_look_11 : Nat := 163
abbrev F.var_s_door_gosem_cut_vars_holds_initialisers_alone_see_the_manifest_s_row_cutvarsword_look_11_test_files_too : Nat := 164
abbrev F.var_s_door_the_look_of_gosem_cut_vars_went_over_the_folder_that_the_caller_named_as_the_repository_s_root_look_11 : Nat := 165
abbrev F.gosem_cut_vars : Nat := 166

def C.f4_b : LO := [
 X.m 122 18,
 X.o 123 (.bin .eql (X.s 122) (X.i 0)),
 X.m 124 123,
 X.t 124 125 (.move (X.s 19)),
 X.t 124 126 (.len (X.s 125)),
 X.t 124 127 (.bin .eql (X.s 126) (X.i 1)),
 X.o 128 (.pick (X.s 124) (X.s 127) (.cst (.bool false))),
 X.m 129 128,
 X.t 129 130 (.move (X.s 19)),
 X.t 129 131 (.idxAddr 4 (X.s 130) (X.i 0)),
 X.t 129 132 (.fldAddr 2 (X.s 131)),
 X.t 129 133 (.load1 (X.s 132)),
 X.t 129 134 (.un .not (X.s 133)),
 X.o 135 (.pick (X.s 129) (X.s 134) (.cst (.bool false))),
 X.m 136 135,
 X.t 136 137 (.move (X.s 19)),
 X.t 136 138 (.idxAddr 4 (X.s 137) (X.i 0)),
 X.t 136 139 (.fldAddr 3 (X.s 138)),
 X.t 136 140 (.load1 (X.s 139)),
 X.t 136 141 (.fldAddr 3 (X.s 8)),
 X.t 136 142 (.load1 (X.s 141)),
 X.t 136 143 (.move (X.s 11)),
 X.t 136 144 (.idxAddr 6 (X.s 142) (X.s 143)),
 X.t 136 145 (.fldAddr 4 (X.s 144)),
 X.t 136 146 (.load1 (X.s 145)),
 X.t 136 147 (.idxAddr 2 (X.s 146) (X.i 0)),
 X.t 136 148 (.fldAddr 0 (X.s 147)),
 X.t 136 149 (.load1 (X.s 148)),
 X.t 136 150 (.bin .eql (X.s 140) (X.s 149)),
 X.o 151 (.pick (X.s 136) (X.s 150) (.cst (.bool false))),
 X.m 6 151]
def C.f4 : LO := C.f4_b
def C.f4_w := pO C.f4.eq_1
def C.bnm : ICode := .keep [8, 11, 18, 19] (.seq (.region C.f4) .ret)
def C.bnm_w := pC C.bnm.eq_1
def C.f3_b : LO := [
 X.m 120 9,
 X.o 121 (.call F.q89 [X.s 120, .cst (.int .u32 0)]),
 X.m 19 121]
def C.f3 : LO := C.f3_b
def C.f3_w := pO C.f3.eq_1
def C.bnz : ICode := .keep [8, 9, 11, 18] (.seq (.region C.f3) C.bnm)
def C.bnz_w := pC C.bnz.eq_1
def C.b8_b : LO := [
 X.m 115 9,
 X.m 116 12,
 X.o 117 (.call F.q86 [X.s 115, X.s 116, .cst (.bool false), .cst (.int .u32 0)]),
 X.m 114 117,
 X.o 118 (.extract (X.s 114) 0),
 X.o 119 (.extract (X.s 114) 1),
 X.m 17 118,
 X.m 18 119]
def C.b8 : LO := C.b8_b
def C.b8_w := pO C.b8.eq_1
def C.bk7 : ICode := .keep [8, 9, 11, 12] (.seq (.region C.b8) C.bnz)
def C.bk7_w := pC C.bk7.eq_1
def C.c9_b : LO := [
 X.o 6 (.move (.cst (.bool false)))]
def C.c9 : LO := C.c9_b
def C.c9_w := pO C.c9.eq_1
def C.bn0 : ICode := .seq (.region C.c9) .ret
def C.bn0_w := pC C.bn0.eq_1
def C.bn1 : ICode := .keep [8, 9, 11, 12, 113] (.cond (X.s 113) C.bn0 .skip)
def C.bn1_w := pC C.bn1.eq_1
def C.c8_b : LO := [
 X.m 65 15,
 X.o 66 (.bin .neq (X.s 65) (X.i 0)),
 X.m 67 66,
 X.f 67 68 (.move (X.s 16)),
 X.f 67 69 (.len (X.s 68)),
 X.f 67 70 (.bin .neq (X.s 69) (X.i 1)),
 X.o 71 (.pick (X.s 67) (.cst (.bool true)) (X.s 70)),
 X.m 72 71,
 X.f 72 73 (.move (X.s 16)),
 X.f 72 74 (.idxAddr 4 (X.s 73) (X.i 0)),
 X.f 72 75 (.fldAddr 2 (X.s 74)),
 X.f 72 76 (.load1 (X.s 75)),
 X.f 72 77 (.un .not (X.s 76)),
 X.o 78 (.pick (X.s 72) (.cst (.bool true)) (X.s 77)),
 X.m 79 78,
 X.f 79 80 (.move (X.s 16)),
 X.f 79 81 (.idxAddr 4 (X.s 80) (X.i 0)),
 X.f 79 82 (.fldAddr 0 (X.s 81)),
 X.f 79 83 (.load1 (X.s 82)),
 X.f 79 84 (.bin .neq (X.s 83) (X.i 0)),
 X.o 85 (.pick (X.s 79) (.cst (.bool true)) (X.s 84)),
 X.m 86 85,
 X.f 86 87 (.move (X.s 16)),
 X.f 86 88 (.idxAddr 4 (X.s 87) (X.i 0)),
 X.f 86 89 (.fldAddr 1 (X.s 88)),
 X.f 86 90 (.load1 (X.s 89)),
 X.f 86 91 (.move (X.s 11)),
 X.f 86 92 (.bin .neq (X.s 90) (X.s 91)),
 X.o 93 (.pick (X.s 86) (.cst (.bool true)) (X.s 92)),
 X.m 94 93,
 X.f 94 95 (.move (X.s 16)),
 X.f 94 96 (.idxAddr 4 (X.s 95) (X.i 0)),
 X.f 94 97 (.fldAddr 3 (X.s 96)),
 X.f 94 98 (.load1 (X.s 97)),
 X.f 94 99 (.fldAddr 3 (X.s 8)),
 X.f 94 100 (.load1 (X.s 99)),
 X.f 94 101 (.move (X.s 11)),
 X.f 94 102 (.idxAddr 6 (X.s 100) (X.s 101)),
 X.f 94 103 (.fldAddr 3 (X.s 102)),
 X.f 94 104 (.load1 (X.s 103)),
 X.f 94 105 (.bin .neq (X.s 98) (X.s 104)),
 X.o 106 (.pick (X.s 94) (.cst (.bool true)) (X.s 105)),
 X.m 107 106,
 X.f 107 108 (.move (X.s 9)),
 X.f 107 109 (.loadN 4 (X.s 8)),
 X.f 107 110 (.move (X.s 11)),
 X.f 107 111 (.call F.q16 [X.s 108, X.s 109, X.s 110]),
 X.f 107 112 (.un .not (X.s 111)),
 X.o 113 (.pick (X.s 107) (.cst (.bool true)) (X.s 112))]
def C.c8 : LO := C.c8_b
def C.c8_w := pO C.c8.eq_1
def C.bn2 : ICode := .keep [8, 9, 11, 12, 15, 16] (.seq (.seq (.region C.c8) C.bn1) C.bk7)
def C.bn2_w := pC C.bn2.eq_1
def C.f2_b : LO := [
 X.m 63 9,
 X.o 64 (.call F.q89 [X.s 63, .cst (.int .u32 0)]),
 X.m 16 64]
def C.f2 : LO := C.f2_b
def C.f2_w := pO C.f2.eq_1
def C.bn3 : ICode := .keep [8, 9, 11, 12, 15] (.seq (.region C.f2) C.bn2)
def C.bn3_w := pC C.bn3.eq_1
def C.b7_b : LO := [
 X.m 57 9,
 X.m 58 12,
 X.m 59 2,
 X.o 60 (.call F.q86 [X.s 57, X.s 58, .cst (.bool true), X.s 59]),
 X.m 56 60,
 X.o 61 (.extract (X.s 56) 0),
 X.o 62 (.extract (X.s 56) 1),
 X.m 14 61,
 X.m 15 62]
def C.b7 : LO := C.b7_b
def C.b7_w := pO C.b7.eq_1
def C.bk8 : ICode := .keep [2, 8, 9, 11, 12] (.seq (.region C.b7) C.bn3)
def C.bk8_w := pC C.bk8.eq_1
def C.f9_b : LO := [
 X.m 52 11,
 X.o 53 (.call F.q4 [X.s 52, X.i 0]),
 X.m 51 53,
 X.o 54 (.extract (X.s 51) 0),
 X.o 55 (.extract (X.s 51) 1),
 X.m 12 54,
 X.m 13 55]
def C.f9 : LO := C.f9_b
def C.f9_w := pO C.f9.eq_1
def C.bn4 : ICode := .keep [2, 8, 9, 11] (.seq (.region C.f9) C.bk8)
def C.bn4_w := pC C.bn4.eq_1
def C.dc_b : LO := [
 X.o 6 (.move (.cst (.bool true)))]
def C.dc : LO := C.dc_b
def C.dc_w := pO C.dc.eq_1
def C.bnn : ICode := .seq (.region C.dc) .ret
def C.bnn_w := pC C.bnn.eq_1
def C.bnp : ICode := .keep [2, 8, 9, 11, 50] (.cond (X.s 50) C.bnn .skip)
def C.bnp_w := pC C.bnp.eq_1
def C.db_b : LO := [
 X.o 43 (.fldAddr 3 (X.s 8)),
 X.o 44 (.load1 (X.s 43)),
 X.m 45 11,
 X.o 46 (.idxAddr 6 (X.s 44) (X.s 45)),
 X.o 47 (.fldAddr 4 (X.s 46)),
 X.o 48 (.load1 (X.s 47)),
 X.o 49 (.len (X.s 48)),
 X.o 50 (.bin .eql (X.s 49) (X.i 0))]
def C.db : LO := C.db_b
def C.db_w := pO C.db.eq_1
def C.bnr : ICode := .keep [2, 8, 9, 11] (.seq (.seq (.region C.db) C.bnp) C.bn4)
def C.bnr_w := pC C.bnr.eq_1
def C.f8_b : LO := [
 X.m 38 1,
 X.o 39 (.fldAddr 3 (X.s 8)),
 X.o 40 (.load1 (X.s 39)),
 X.o 41 (.len (X.s 40)),
 X.o 42 (.call F.q14 [X.s 38, X.s 41]),
 X.m 11 42]
def C.f8 : LO := C.f8_b
def C.f8_w := pO C.f8.eq_1
def C.bns : ICode := .keep [1, 2, 8, 9] (.seq (.region C.f8) C.bnr)
def C.bns_w := pC C.bns.eq_1
def C.f7_b : LO := [
 X.o 6 (.move (.cst (.bool false)))]
def C.f7 : LO := C.f7_b
def C.f7_w := pO C.f7.eq_1
def C.bnt : ICode := .seq (.region C.f7) .ret
def C.bnt_w := pC C.bnt.eq_1
def C.bnv : ICode := .keep [1, 2, 8, 9, 37] (.cond (X.s 37) C.bnt .skip)
def C.bnv_w := pC C.bnv.eq_1
def C.f6_b : LO := [
 X.m 28 7,
 X.o 29 (.un .not (X.s 28)),
 X.m 30 29,
 X.f 30 31 (.move (X.s 9)),
 X.f 30 32 (.eqP 0 false (X.s 31) (.cst (.nilp))),
 X.o 33 (.pick (X.s 30) (.cst (.bool true)) (X.s 32)),
 X.m 34 33,
 X.f 34 35 (.move (X.s 10)),
 X.f 34 36 (.bin .neq (X.s 35) (X.i 0)),
 X.o 37 (.pick (X.s 34) (.cst (.bool true)) (X.s 36))]
def C.f6 : LO := C.f6_b
def C.f6_w := pO C.f6.eq_1
def C.bnw : ICode := .keep [1, 2, 7, 8, 9, 10] (.seq (.seq (.region C.f6) C.bnv) C.bns)
def C.bnw_w := pC C.bnw.eq_1
def C.f5_b : LO := [
 X.o 24 (.loadN 4 (X.s 8)),
 X.o 25 (.call F.q94 [X.s 24]),
 X.m 23 25,
 X.o 26 (.extract (X.s 23) 0),
 X.o 27 (.extract (X.s 23) 1),
 X.m 9 26,
 X.m 10 27]
def C.f5 : LO := C.f5_b
def C.f5_w := pO C.f5.eq_1
def C.bnx : ICode := .keep [1, 2, 7, 8] (.seq (.region C.f5) C.bnw)
def C.bnx_w := pC C.bnx.eq_1
def C.b9_b : LO := [
 X.m 21 0,
 X.o 22 (.call F.q13 [X.s 21]),
 X.o 8 (.alloc [.nils, .nils, .nils, .nils]),
 X.n (.storeN 4 (X.s 8) (X.s 22))]
def C.b9 : LO := C.b9_b
def C.b9_w := pO C.b9.eq_1
def C.bny : ICode := .keep [0, 1, 2, 7] (.seq (.region C.b9) C.bnx)
def C.bny_w := pC C.bny.eq_1
def C.f1_b : LO := [
 X.o 20 (.call F.q15 []),
 X.m 7 20]
def C.f1 : LO := C.f1_b
def C.f1_w := pO C.f1.eq_1
def C.bnq : ICode := .keep [0, 1, 2] (.seq (.region C.f1) C.bny)
def C.bnq_w := pC C.bnq.eq_1
def C.f0_b : LO := [
 X.o 6 (.move (.cst (.bool false)))]
def C.f0 : LO := C.f0_b
def C.f0_w := pO C.f0.eq_1
def C.q12 : IFunc := ⟨3, [.slot 6], .seq (.region C.f0) C.bnq⟩
def C.q12_W := aI (aI (aI (aI (aI @C.f4_w @C.bnm_w) (aI @C.f3_w @C.bnz_w)) (aI (aI @C.b8_w @C.bk7_w) (aI @C.c9_w (aI @C.bn0_w @C.bn1_w)))) (aI (aI (aI @C.c8_w @C.bn2_w) (aI @C.f2_w @C.bn3_w)) (aI (aI @C.b7_w @C.bk8_w) (aI @C.f9_w (aI @C.bn4_w @C.dc_w))))) (aI (aI (aI (aI @C.bnn_w @C.bnp_w) (aI @C.db_w @C.bnr_w)) (aI (aI @C.f8_w @C.bns_w) (aI @C.f7_w (aI @C.bnt_w @C.bnv_w)))) (aI (aI (aI @C.f6_w @C.bnw_w) (aI @C.f5_w @C.bnx_w)) (aI (aI @C.b9_w @C.bny_w) (aI @C.f1_w (aI @C.bnq_w @C.f0_w)))))
def C.q12_B := aI (aI (aI (aI @C.f4_b.eq_1 @C.f3_b.eq_1) (aI @C.b8_b.eq_1 @C.c9_b.eq_1)) (aI (aI @C.c8_b.eq_1 @C.f2_b.eq_1) (aI @C.b7_b.eq_1 @C.f9_b.eq_1))) (aI (aI (aI @C.dc_b.eq_1 @C.db_b.eq_1) (aI @C.f8_b.eq_1 @C.f7_b.eq_1)) (aI (aI @C.f6_b.eq_1 @C.f5_b.eq_1) (aI @C.b9_b.eq_1 (aI @C.f1_b.eq_1 @C.f0_b.eq_1))))

def C.t2_b : LO := [
 X.m 28 2,
 X.o 29 (.call F.q81 [X.s 28, X.i 0]),
 X.o 30 (.un .not (X.s 29)),
 X.m 31 30,
 X.t 31 32 (.move (X.s 2)),
 X.t 31 33 (.call F.q90 [X.s 32, X.i 0]),
 X.t 31 34 (.bin .eql (X.s 33) (X.i 0)),
 X.o 35 (.pick (X.s 31) (X.s 34) (.cst (.bool false))),
 X.m 36 35,
 X.t 36 37 (.move (X.s 2)),
 X.t 36 38 (.call F.q88 [X.s 37, X.i 0]),
 X.o 39 (.pick (X.s 36) (X.s 38) (.cst (.bool false))),
 X.m 0 39]
def C.t2 : LO := C.t2_b
def C.t2_w := pO C.t2.eq_1
def C.b3s : ICode := .keep [2] (.seq (.region C.t2) .ret)
def C.b3s_w := pC C.b3s.eq_1
def C.t1_b : LO := [
 X.m 26 2,
 X.o 27 (.call F.q89 [X.s 26, .cst (.int .u32 0)])]
def C.t1 : LO := C.t1_b
def C.t1_w := pO C.t1.eq_1
def C.b3t : ICode := .keep [2] (.seq (.region C.t1) C.b3s)
def C.b3t_w := pC C.b3t.eq_1
def C.t0_b : LO := [
 X.o 0 (.move (.cst (.bool false)))]
def C.t0 : LO := C.t0_b
def C.t0_w := pO C.t0.eq_1
def C.b3v : ICode := .seq (.region C.t0) .ret
def C.b3v_w := pC C.b3v.eq_1
def C.b3w : ICode := .keep [2, 25] (.cond (X.s 25) C.b3v .skip)
def C.b3w_w := pC C.b3w.eq_1
def C.tz_b : LO := [
 X.m 20 2,
 X.o 21 (.eqP 0 false (X.s 20) (.cst (.nilp))),
 X.m 22 21,
 X.f 22 23 (.move (X.s 3)),
 X.f 22 24 (.bin .neq (X.s 23) (X.i 0)),
 X.o 25 (.pick (X.s 22) (.cst (.bool true)) (X.s 24))]
def C.tz : LO := C.tz_b
def C.tz_w := pO C.tz.eq_1
def C.b3x : ICode := .keep [2, 3] (.seq (.seq (.region C.tz) C.b3w) C.b3t)
def C.b3x_w := pC C.b3x.eq_1
def C.tq_b : LO := [
 X.o 16 (.loadN 4 (X.s 1)),
 X.o 17 (.call F.q94 [X.s 16]),
 X.m 15 17,
 X.o 18 (.extract (X.s 15) 0),
 X.o 19 (.extract (X.s 15) 1),
 X.m 2 18,
 X.m 3 19]
def C.tq : LO := C.tq_b
def C.tq_w := pO C.tq.eq_1
def C.b3y : ICode := .keep [1] (.seq (.region C.tq) C.b3x)
def C.b3y_w := pC C.b3y.eq_1
def C.cc_b : LO := [
 X.o 4 (.build [.int .u8 0, .nils, .int .u64 0, .int .i64 0, .int .i64 0, .int .i64 0] [(0, 1, .cst (.int .u8 111)), (2, 1, .cst (.int .u64 1))]),
 X.o 5 (.buildSlice 6 1 [.int .u8 0, .nils, .int .u64 0, .int .i64 0, .int .i64 0, .int .i64 0] [(0, 6, X.s 4)]),
 X.o 6 (.build [.int .i64 0, .int .i64 0, .bool false] [(0, 1, X.i (-1))]),
 X.o 7 (.buildSlice 3 1 [.int .i64 0, .int .i64 0, .bool false] [(0, 3, X.s 6)]),
 X.o 8 (.build [.int .i64 0] []),
 X.o 9 (.buildSlice 1 1 [.int .i64 0] [(0, 1, X.s 8)]),
 X.o 10 (.build [.int .u32 0, .bool false] [(0, 1, .cst (.int .u32 5))]),
 X.o 11 (.buildSlice 2 1 [.int .u32 0, .bool false] [(0, 2, X.s 10)]),
 X.o 12 (.build [.int .i64 0, .int .i64 0, .int .i64 0, .int .u32 0, .nils, .nils] [(4, 1, X.s 11)]),
 X.o 13 (.buildSlice 6 1 [.int .i64 0, .int .i64 0, .int .i64 0, .int .u32 0, .nils, .nils] [(0, 6, X.s 12)]),
 X.o 14 (.build [.nils, .nils, .nils, .nils] [(0, 1, X.s 5), (1, 1, X.s 7), (2, 1, X.s 9), (3, 1, X.s 13)]),
 X.o 1 (.alloc [.nils, .nils, .nils, .nils]),
 X.n (.storeN 4 (X.s 1) (X.s 14))]
def C.cc : LO := C.cc_b
def C.cc_w := pO C.cc.eq_1
def C.blj : ICode := .keep [] (.seq (.region C.cc) C.b3y)
def C.blj_w := pC C.blj.eq_1
def C.cb_b : LO := [
 X.o 0 (.move (.cst (.bool false)))]
def C.cb : LO := C.cb_b
def C.cb_w := pO C.cb.eq_1
def C.q15 : IFunc := ⟨0, [.slot 0], .seq (.region C.cb) C.blj⟩
def C.q15_W := aI (aI (aI @C.t2_w (aI @C.b3s_w @C.t1_w)) (aI (aI @C.b3t_w @C.t0_w) (aI @C.b3v_w @C.b3w_w))) (aI (aI @C.tz_w (aI @C.b3x_w @C.tq_w)) (aI (aI @C.b3y_w @C.cc_w) (aI @C.blj_w @C.cb_w)))
def C.q15_B := aI (aI @C.t2_b.eq_1 (aI @C.t1_b.eq_1 @C.t0_b.eq_1)) (aI (aI @C.tz_b.eq_1 @C.tq_b.eq_1) (aI @C.cc_b.eq_1 @C.cb_b.eq_1))

def C.bg_b : LO := [
 X.o 351 (.loadN 4 (X.s 6)),
 X.n (.storeN 4 (X.s 2) (X.s 351))]
def C.bg : LO := C.bg_b
def C.bg_w := pO C.bg.eq_1
def C.bk9 : ICode := .keep [2, 6] (.seq (.region C.bg) .ret)
def C.bk9_w := pC C.bk9.eq_1
def C.g9_b : LO := [
 X.m 224 14,
 X.o 225 (.bin .add (X.s 224) (X.i 1)),
 X.m 14 225]
def C.g9 : LO := C.g9_b
def C.g9_w := pO C.g9.eq_1
def C.bpt : ICode := .keep [2, 4, 6, 14] (.region C.g9)
def C.bpt_w := pC C.bpt.eq_1
def C.hn_b : LO := [
 X.o 345 (.fldAddr 3 (X.s 6)),
 X.o 346 (.load1 (X.s 345)),
 X.o 347 (.loadN 6 (X.s 16)),
 X.o 348 (.buildSlice 6 1 [.int .i64 0, .int .i64 0, .int .i64 0, .int .u32 0, .nils, .nils] [(0, 6, X.s 347)]),
 X.o 349 (.append 6 80 (X.s 346) (X.s 348)),
 X.o 350 (.fldAddr 3 (X.s 6)),
 X.n (.store1 (X.s 350) (X.s 349))]
def C.hn : LO := C.hn_b
def C.hn_w := pO C.hn.eq_1
def C.bpy : ICode := .keep [2, 4, 6, 14, 16] (.region C.hn)
def C.bpy_w := pC C.bpy.eq_1
def C.hm_b : LO := [
 X.o 332 (.fldAddr 5 (X.s 16)),
 X.o 333 (.load1 (X.s 332)),
 X.m 334 4,
 X.m 335 15,
 X.o 336 (.bin .add (X.s 335) (X.i 11)),
 X.o 337 (.idxAddr 1 (X.s 334) (X.s 336)),
 X.o 338 (.load1 (X.s 337)),
 X.o 339 (.bin .quo (X.s 338) (X.i 3)),
 X.m 340 14,
 X.o 341 (.bin .rem (X.s 339) (X.s 340)),
 X.o 342 (.buildSlice 1 1 [.int .i64 0] [(0, 1, X.s 341)]),
 X.o 343 (.append 1 8 (X.s 333) (X.s 342)),
 X.o 344 (.fldAddr 5 (X.s 16)),
 X.n (.store1 (X.s 344) (X.s 343))]
def C.hm : LO := C.hm_b
def C.hm_w := pO C.hm.eq_1
def C.bp3 : ICode := .keep [2, 4, 6, 14, 15, 16, 331] (.cond (X.s 331) (.region C.hm) .skip)
def C.bp3_w := pC C.bp3.eq_1
def C.hl_b : LO := [
 X.m 321 14,
 X.o 322 (.bin .gtr (X.s 321) (X.i 1)),
 X.m 323 322,
 X.t 323 324 (.move (X.s 4)),
 X.t 323 325 (.move (X.s 15)),
 X.t 323 326 (.bin .add (X.s 325) (X.i 11)),
 X.t 323 327 (.idxAddr 1 (X.s 324) (X.s 326)),
 X.t 323 328 (.load1 (X.s 327)),
 X.t 323 329 (.bin .rem (X.s 328) (X.i 3)),
 X.t 323 330 (.bin .eql (X.s 329) (X.i 1)),
 X.o 331 (.pick (X.s 323) (X.s 330) (.cst (.bool false)))]
def C.hl : LO := C.hl_b
def C.hl_w := pO C.hl.eq_1
def C.brd : ICode := .keep [2, 4, 6, 14, 15, 16] (.seq (.seq (.region C.hl) C.bp3) C.bpy)
def C.brd_w := pC C.brd.eq_1
def C.hk_b : LO := [
 X.o 309 (.fldAddr 5 (X.s 16)),
 X.o 310 (.load1 (X.s 309)),
 X.m 311 4,
 X.m 312 15,
 X.o 313 (.bin .add (X.s 312) (X.i 10)),
 X.o 314 (.idxAddr 1 (X.s 311) (X.s 313)),
 X.o 315 (.load1 (X.s 314)),
 X.m 316 14,
 X.o 317 (.bin .rem (X.s 315) (X.s 316)),
 X.o 318 (.buildSlice 1 1 [.int .i64 0] [(0, 1, X.s 317)]),
 X.o 319 (.append 1 8 (X.s 310) (X.s 318)),
 X.o 320 (.fldAddr 5 (X.s 16)),
 X.n (.store1 (X.s 320) (X.s 319))]
def C.hk : LO := C.hk_b
def C.hk_w := pO C.hk.eq_1
def C.brm : ICode := .keep [2, 4, 6, 14, 15, 16, 308] (.cond (X.s 308) (.region C.hk) .skip)
def C.brm_w := pC C.brm.eq_1
def C.hj_b : LO := [
 X.m 298 14,
 X.o 299 (.bin .gtr (X.s 298) (X.i 0)),
 X.m 300 299,
 X.t 300 301 (.move (X.s 4)),
 X.t 300 302 (.move (X.s 15)),
 X.t 300 303 (.bin .add (X.s 302) (X.i 9)),
 X.t 300 304 (.idxAddr 1 (X.s 301) (X.s 303)),
 X.t 300 305 (.load1 (X.s 304)),
 X.t 300 306 (.bin .rem (X.s 305) (X.i 2)),
 X.t 300 307 (.bin .eql (X.s 306) (X.i 1)),
 X.o 308 (.pick (X.s 300) (X.s 307) (.cst (.bool false)))]
def C.hj : LO := C.hj_b
def C.hj_w := pO C.hj.eq_1
def C.brv : ICode := .keep [2, 4, 6, 14, 15, 16] (.seq (.seq (.region C.hj) C.brm) C.brd)
def C.brv_w := pC C.brv.eq_1
def C.hg_b : LO := [
 X.m 271 17,
 X.o 272 (.bin .add (X.s 271) (X.i 1)),
 X.m 17 272]
def C.hg : LO := C.hg_b
def C.hg_w := pO C.hg.eq_1
def C.br0 : ICode := .keep [2, 4, 6, 14, 15, 16, 17] (.region C.hg)
def C.br0_w := pC C.br0.eq_1
def C.hh_b : LO := [
 X.o 273 (.fldAddr 4 (X.s 16)),
 X.o 274 (.load1 (X.s 273)),
 X.m 275 4,
 X.m 276 15,
 X.o 277 (.bin .add (X.s 276) (X.i 5)),
 X.m 278 17,
 X.o 279 (.bin .add (X.s 277) (X.s 278)),
 X.o 280 (.idxAddr 1 (X.s 275) (X.s 279)),
 X.o 281 (.load1 (X.s 280)),
 X.o 282 (.bin .rem (X.s 281) (X.i 7)),
 X.o 283 (.conv .u32 (X.s 282)),
 X.m 284 4,
 X.m 285 15,
 X.o 286 (.bin .add (X.s 285) (X.i 5)),
 X.m 287 17,
 X.o 288 (.bin .add (X.s 286) (X.s 287)),
 X.o 289 (.idxAddr 1 (X.s 284) (X.s 288)),
 X.o 290 (.load1 (X.s 289)),
 X.o 291 (.bin .quo (X.s 290) (X.i 7)),
 X.o 292 (.bin .rem (X.s 291) (X.i 2)),
 X.o 293 (.bin .eql (X.s 292) (X.i 0)),
 X.o 294 (.build [.int .u32 0, .bool false] [(0, 1, X.s 283), (1, 1, X.s 293)]),
 X.o 295 (.buildSlice 2 1 [.int .u32 0, .bool false] [(0, 2, X.s 294)]),
 X.o 296 (.append 2 8 (X.s 274) (X.s 295)),
 X.o 297 (.fldAddr 4 (X.s 16)),
 X.n (.store1 (X.s 297) (X.s 296))]
def C.hh : LO := C.hh_b
def C.hh_w := pO C.hh.eq_1
def C.bpk : ICode := .region C.hh
def C.bpk_w := pC C.bpk.eq_1
def C.bpl : ICode := .keep [2, 4, 6, 14, 15, 16, 17] (.seq (.block 12 C.bpk) C.br0)
def C.bpl_w := pC C.bpl.eq_1
def C.bpm : ICode := .keep [2, 4, 6, 14, 15, 16, 17, 270] (.cond (X.s 270) .skip (.exit 11))
def C.bpm_w := pC C.bpm.eq_1
def C.hf_b : LO := [
 X.m 263 17,
 X.m 264 4,
 X.m 265 15,
 X.o 266 (.bin .add (X.s 265) (X.i 4)),
 X.o 267 (.idxAddr 1 (X.s 264) (X.s 266)),
 X.o 268 (.load1 (X.s 267)),
 X.o 269 (.bin .rem (X.s 268) (X.i 5)),
 X.o 270 (.bin .lss (X.s 263) (X.s 269))]
def C.hf : LO := C.hf_b
def C.hf_w := pO C.hf.eq_1
def C.cjl : ICode := .keep [2, 4, 6, 14, 15, 16, 17] (.seq (.seq (.region C.hf) C.bpm) C.bpl)
def C.cjl_w := pC C.cjl.eq_1
def C.bn5 : ICode := .loop C.cjl
def C.bn5_w := pC C.bn5.eq_1
def C.bpn : ICode := .keep [2, 4, 6, 14, 15, 16, 17] (.block 11 C.bn5)
def C.bpn_w := pC C.bpn.eq_1
def C.hd_b : LO := [
 X.o 17 (.move (X.i 0))]
def C.hd : LO := C.hd_b
def C.hd_w := pO C.hd.eq_1
def C.bpp : ICode := .keep [2, 4, 6, 14, 15, 16] (.seq (.seq (.region C.hd) C.bpn) C.brv)
def C.bpp_w := pC C.bpp.eq_1
def C.bh_b : LO := [
 X.m 229 4,
 X.m 230 15,
 X.o 231 (.idxAddr 1 (X.s 229) (X.s 230)),
 X.o 232 (.load1 (X.s 231)),
 X.o 233 (.fldAddr 0 (X.s 6)),
 X.o 234 (.load1 (X.s 233)),
 X.o 235 (.len (X.s 234)),
 X.o 236 (.bin .rem (X.s 232) (X.s 235)),
 X.m 237 4,
 X.m 238 15,
 X.o 239 (.bin .add (X.s 238) (X.i 1)),
 X.o 240 (.idxAddr 1 (X.s 237) (X.s 239)),
 X.o 241 (.load1 (X.s 240)),
 X.o 242 (.fldAddr 1 (X.s 6)),
 X.o 243 (.load1 (X.s 242)),
 X.o 244 (.len (X.s 243)),
 X.o 245 (.bin .rem (X.s 241) (X.s 244)),
 X.m 246 4,
 X.m 247 15,
 X.o 248 (.bin .add (X.s 247) (X.i 2)),
 X.o 249 (.idxAddr 1 (X.s 246) (X.s 248)),
 X.o 250 (.load1 (X.s 249)),
 X.o 251 (.fldAddr 2 (X.s 6)),
 X.o 252 (.load1 (X.s 251)),
 X.o 253 (.len (X.s 252)),
 X.o 254 (.bin .rem (X.s 250) (X.s 253)),
 X.m 255 4,
 X.m 256 15,
 X.o 257 (.bin .add (X.s 256) (X.i 3)),
 X.o 258 (.idxAddr 1 (X.s 255) (X.s 257)),
 X.o 259 (.load1 (X.s 258)),
 X.o 260 (.bin .rem (X.s 259) (X.i 3)),
 X.o 261 (.conv .u32 (X.s 260)),
 X.o 262 (.build [.int .i64 0, .int .i64 0, .int .i64 0, .int .u32 0, .nils, .nils] [(0, 1, X.s 236), (1, 1, X.s 245), (2, 1, X.s 254), (3, 1, X.s 261)]),
 X.o 16 (.alloc [.int .i64 0, .int .i64 0, .int .i64 0, .int .u32 0, .nils, .nils]),
 X.n (.storeN 6 (X.s 16) (X.s 262))]
def C.bh : LO := C.bh_b
def C.bh_w := pO C.bh.eq_1
def C.bpr : ICode := .keep [2, 4, 6, 14, 15] (.seq (.region C.bh) C.bpp)
def C.bpr_w := pC C.bpr.eq_1
def C.hb_b : LO := [
 X.m 226 14,
 X.o 227 (.bin .mul (X.i 12) (X.s 226)),
 X.o 228 (.bin .add (X.i 60) (X.s 227)),
 X.m 15 228]
def C.hb : LO := C.hb_b
def C.hb_w := pO C.hb.eq_1
def C.bn6 : ICode := .seq (.region C.hb) C.bpr
def C.bn6_w := pC C.bn6.eq_1
def C.tn : ICode := .keep [2, 4, 6, 14] (.seq (.block 10 C.bn6) C.bpt)
def C.tn_w := pC C.tn.eq_1
def C.bps : ICode := .keep [2, 4, 6, 14, 223] (.cond (X.s 223) .skip (.exit 9))
def C.bps_w := pC C.bps.eq_1
def C.g8_b : LO := [
 X.m 217 14,
 X.m 218 4,
 X.o 219 (.idxAddr 1 (X.s 218) (X.i 4)),
 X.o 220 (.load1 (X.s 219)),
 X.o 221 (.bin .rem (X.s 220) (X.i 4)),
 X.o 222 (.bin .add (X.i 1) (X.s 221)),
 X.o 223 (.bin .lss (X.s 217) (X.s 222))]
def C.g8 : LO := C.g8_b
def C.g8_w := pO C.g8.eq_1
def C.cjm : ICode := .keep [2, 4, 6, 14] (.seq (.seq (.region C.g8) C.bps) C.tn)
def C.cjm_w := pC C.cjm.eq_1
def C.bn7 : ICode := .loop C.cjm
def C.bn7_w := pC C.bn7.eq_1
def C.bpv : ICode := .keep [2, 4, 6, 14] (.block 9 C.bn7)
def C.bpv_w := pC C.bpv.eq_1
def C.g7_b : LO := [
 X.o 14 (.move (X.i 0))]
def C.g7 : LO := C.g7_b
def C.g7_w := pO C.g7.eq_1
def C.blb : ICode := .keep [2, 4, 6] (.seq (.seq (.region C.g7) C.bpv) C.bk9)
def C.blb_w := pC C.blb.eq_1
def C.g5_b : LO := [
 X.m 203 13,
 X.o 204 (.bin .add (X.s 203) (X.i 1)),
 X.m 13 204]
def C.g5 : LO := C.g5_b
def C.g5_w := pO C.g5.eq_1
def C.bpw : ICode := .keep [2, 4, 6, 13] (.region C.g5)
def C.bpw_w := pC C.bpw.eq_1
def C.g6_b : LO := [
 X.o 205 (.fldAddr 2 (X.s 6)),
 X.o 206 (.load1 (X.s 205)),
 X.m 207 4,
 X.m 208 13,
 X.o 209 (.bin .add (X.i 50) (X.s 208)),
 X.o 210 (.idxAddr 1 (X.s 207) (X.s 209)),
 X.o 211 (.load1 (X.s 210)),
 X.o 212 (.bin .rem (X.s 211) (X.i 4)),
 X.o 213 (.build [.int .i64 0] [(0, 1, X.s 212)]),
 X.o 214 (.buildSlice 1 1 [.int .i64 0] [(0, 1, X.s 213)]),
 X.o 215 (.append 1 8 (X.s 206) (X.s 214)),
 X.o 216 (.fldAddr 2 (X.s 6)),
 X.n (.store1 (X.s 216) (X.s 215))]
def C.g6 : LO := C.g6_b
def C.g6_w := pO C.g6.eq_1
def C.bn8 : ICode := .region C.g6
def C.bn8_w := pC C.bn8.eq_1
def C.tp : ICode := .keep [2, 4, 6, 13] (.seq (.block 8 C.bn8) C.bpw)
def C.tp_w := pC C.tp.eq_1
def C.bpx : ICode := .keep [2, 4, 6, 13, 202] (.cond (X.s 202) .skip (.exit 7))
def C.bpx_w := pC C.bpx.eq_1
def C.g4_b : LO := [
 X.m 196 13,
 X.m 197 4,
 X.o 198 (.idxAddr 1 (X.s 197) (X.i 3)),
 X.o 199 (.load1 (X.s 198)),
 X.o 200 (.bin .rem (X.s 199) (X.i 3)),
 X.o 201 (.bin .add (X.i 1) (X.s 200)),
 X.o 202 (.bin .lss (X.s 196) (X.s 201))]
def C.g4 : LO := C.g4_b
def C.g4_w := pO C.g4.eq_1
def C.cjn : ICode := .keep [2, 4, 6, 13] (.seq (.seq (.region C.g4) C.bpx) C.tp)
def C.cjn_w := pC C.cjn.eq_1
def C.bn9 : ICode := .loop C.cjn
def C.bn9_w := pC C.bn9.eq_1
def C.bpq : ICode := .keep [2, 4, 6, 13] (.block 7 C.bn9)
def C.bpq_w := pC C.bpq.eq_1
def C.g3_b : LO := [
 X.o 13 (.move (X.i 0))]
def C.g3 : LO := C.g3_b
def C.g3_w := pO C.g3.eq_1
def C.blc : ICode := .keep [2, 4, 6] (.seq (.seq (.region C.g3) C.bpq) C.blb)
def C.blc_w := pC C.blc.eq_1
def C.gy_b : LO := [
 X.m 153 11,
 X.o 154 (.bin .add (X.s 153) (X.i 1)),
 X.m 11 154]
def C.gy : LO := C.gy_b
def C.gy_w := pO C.gy.eq_1
def C.bpz : ICode := .keep [2, 4, 6, 11] (.region C.gy)
def C.bpz_w := pC C.bpz.eq_1
def C.g2_b : LO := [
 X.o 190 (.fldAddr 1 (X.s 6)),
 X.o 191 (.load1 (X.s 190)),
 X.o 192 (.loadN 3 (X.s 12)),
 X.o 193 (.buildSlice 3 1 [.int .i64 0, .int .i64 0, .bool false] [(0, 3, X.s 192)]),
 X.o 194 (.append 3 24 (X.s 191) (X.s 193)),
 X.o 195 (.fldAddr 1 (X.s 6)),
 X.n (.store1 (X.s 195) (X.s 194))]
def C.g2 : LO := C.g2_b
def C.g2_w := pO C.g2.eq_1
def C.bp0 : ICode := .keep [2, 4, 6, 11, 12] (.region C.g2)
def C.bp0_w := pC C.bp0.eq_1
def C.g1_b : LO := [
 X.m 181 4,
 X.m 182 11,
 X.o 183 (.bin .add (X.i 44) (X.s 182)),
 X.o 184 (.idxAddr 1 (X.s 181) (X.s 183)),
 X.o 185 (.load1 (X.s 184)),
 X.o 186 (.bin .quo (X.s 185) (X.i 3)),
 X.m 187 11,
 X.o 188 (.bin .rem (X.s 186) (X.s 187)),
 X.o 189 (.fldAddr 0 (X.s 12)),
 X.n (.store1 (X.s 189) (X.s 188))]
def C.g1 : LO := C.g1_b
def C.g1_w := pO C.g1.eq_1
def C.bp1 : ICode := .keep [2, 4, 6, 11, 12, 180] (.cond (X.s 180) (.region C.g1) .skip)
def C.bp1_w := pC C.bp1.eq_1
def C.gz_b : LO := [
 X.m 170 11,
 X.o 171 (.bin .gtr (X.s 170) (X.i 0)),
 X.m 172 171,
 X.t 172 173 (.move (X.s 4)),
 X.t 172 174 (.move (X.s 11)),
 X.t 172 175 (.bin .add (X.i 44) (X.s 174)),
 X.t 172 176 (.idxAddr 1 (X.s 173) (X.s 175)),
 X.t 172 177 (.load1 (X.s 176)),
 X.t 172 178 (.bin .rem (X.s 177) (X.i 3)),
 X.t 172 179 (.bin .gtr (X.s 178) (X.i 0)),
 X.o 180 (.pick (X.s 172) (X.s 179) (.cst (.bool false)))]
def C.gz : LO := C.gz_b
def C.gz_w := pO C.gz.eq_1
def C.bld : ICode := .keep [2, 4, 6, 11, 12] (.seq (.seq (.region C.gz) C.bp1) C.bp0)
def C.bld_w := pC C.bld.eq_1
def C.gq_b : LO := [
 X.m 155 4,
 X.m 156 11,
 X.o 157 (.bin .add (X.i 40) (X.s 156)),
 X.o 158 (.idxAddr 1 (X.s 155) (X.s 157)),
 X.o 159 (.load1 (X.s 158)),
 X.o 160 (.bin .rem (X.s 159) (X.i 4)),
 X.m 161 4,
 X.m 162 11,
 X.o 163 (.bin .add (X.i 40) (X.s 162)),
 X.o 164 (.idxAddr 1 (X.s 161) (X.s 163)),
 X.o 165 (.load1 (X.s 164)),
 X.o 166 (.bin .quo (X.s 165) (X.i 4)),
 X.o 167 (.bin .rem (X.s 166) (X.i 2)),
 X.o 168 (.bin .eql (X.s 167) (X.i 1)),
 X.o 169 (.build [.int .i64 0, .int .i64 0, .bool false] [(0, 1, X.i (-1)), (1, 1, X.s 160), (2, 1, X.s 168)]),
 X.o 12 (.alloc [.int .i64 0, .int .i64 0, .bool false]),
 X.n (.storeN 3 (X.s 12) (X.s 169))]
def C.gq : LO := C.gq_b
def C.gq_w := pO C.gq.eq_1
def C.bpb : ICode := .seq (.region C.gq) C.bld
def C.bpb_w := pC C.bpb.eq_1
def C.tr : ICode := .keep [2, 4, 6, 11] (.seq (.block 6 C.bpb) C.bpz)
def C.tr_w := pC C.tr.eq_1
def C.bp2 : ICode := .keep [2, 4, 6, 11, 152] (.cond (X.s 152) .skip (.exit 5))
def C.bp2_w := pC C.bp2.eq_1
def C.gx_b : LO := [
 X.m 146 11,
 X.m 147 4,
 X.o 148 (.idxAddr 1 (X.s 147) (X.i 2)),
 X.o 149 (.load1 (X.s 148)),
 X.o 150 (.bin .rem (X.s 149) (X.i 4)),
 X.o 151 (.bin .add (X.i 1) (X.s 150)),
 X.o 152 (.bin .lss (X.s 146) (X.s 151))]
def C.gx : LO := C.gx_b
def C.gx_w := pO C.gx.eq_1
def C.cjp : ICode := .keep [2, 4, 6, 11] (.seq (.seq (.region C.gx) C.bp2) C.tr)
def C.cjp_w := pC C.cjp.eq_1
def C.bpc : ICode := .loop C.cjp
def C.bpc_w := pC C.bpc.eq_1
def C.bp4 : ICode := .keep [2, 4, 6, 11] (.block 5 C.bpc)
def C.bp4_w := pC C.bp4.eq_1
def C.gw_b : LO := [
 X.o 11 (.move (X.i 0))]
def C.gw : LO := C.gw_b
def C.gw_w := pO C.gw.eq_1
def C.blf : ICode := .keep [2, 4, 6] (.seq (.seq (.region C.gw) C.bp4) C.blc)
def C.blf_w := pC C.blf.eq_1
def C.gf_b : LO := [
 X.m 62 8,
 X.o 63 (.bin .add (X.s 62) (X.i 1)),
 X.m 8 63]
def C.gf : LO := C.gf_b
def C.gf_w := pO C.gf.eq_1
def C.bp5 : ICode := .keep [2, 3, 4, 6, 7, 8] (.region C.gf)
def C.bp5_w := pC C.bp5.eq_1
def C.gv_b : LO := [
 X.o 140 (.fldAddr 0 (X.s 6)),
 X.o 141 (.load1 (X.s 140)),
 X.o 142 (.loadN 6 (X.s 10)),
 X.o 143 (.buildSlice 6 1 [.int .u8 0, .nils, .int .u64 0, .int .i64 0, .int .i64 0, .int .i64 0] [(0, 6, X.s 142)]),
 X.o 144 (.append 6 64 (X.s 141) (X.s 143)),
 X.o 145 (.fldAddr 0 (X.s 6)),
 X.n (.store1 (X.s 145) (X.s 144))]
def C.gv : LO := C.gv_b
def C.gv_w := pO C.gv.eq_1
def C.bp6 : ICode := .keep [2, 3, 4, 6, 7, 8, 10] (.region C.gv)
def C.bp6_w := pC C.bp6.eq_1
def C.gm_b : LO := [
 X.m 106 4,
 X.m 107 9,
 X.o 108 (.bin .add (X.s 107) (X.i 2)),
 X.o 109 (.idxAddr 1 (X.s 106) (X.s 108)),
 X.o 110 (.load1 (X.s 109)),
 X.o 111 (.bin .quo (X.s 110) (X.i 32)),
 X.o 112 (.bin .rem (X.s 111) (X.i 4)),
 X.o 113 (.fldAddr 5 (X.s 10)),
 X.n (.store1 (X.s 113) (X.s 112))]
def C.gm : LO := C.gm_b
def C.gm_w := pO C.gm.eq_1
def C.bp7 : ICode := .keep [2, 3, 4, 6, 7, 8, 9, 10] (.region C.gm)
def C.bp7_w := pC C.bp7.eq_1
def C.gl_b : LO := [
 X.m 97 4,
 X.m 98 9,
 X.o 99 (.bin .add (X.s 98) (X.i 2)),
 X.o 100 (.idxAddr 1 (X.s 97) (X.s 99)),
 X.o 101 (.load1 (X.s 100)),
 X.o 102 (.bin .quo (X.s 101) (X.i 8)),
 X.o 103 (.bin .rem (X.s 102) (X.i 4)),
 X.o 104 (.bin .add (X.i 1) (X.s 103)),
 X.o 105 (.fldAddr 4 (X.s 10)),
 X.n (.store1 (X.s 105) (X.s 104))]
def C.gl : LO := C.gl_b
def C.gl_w := pO C.gl.eq_1
def C.bp8 : ICode := .keep [2, 3, 4, 6, 7, 8, 9, 10] (.seq (.region C.gl) C.bp7)
def C.bp8_w := pC C.bp8.eq_1
def C.gk_b : LO := [
 X.m 89 4,
 X.m 90 9,
 X.o 91 (.bin .add (X.s 90) (X.i 2)),
 X.o 92 (.idxAddr 1 (X.s 89) (X.s 91)),
 X.o 93 (.load1 (X.s 92)),
 X.o 94 (.bin .rem (X.s 93) (X.i 8)),
 X.o 95 (.bin .add (X.i 1) (X.s 94)),
 X.o 96 (.fldAddr 3 (X.s 10)),
 X.n (.store1 (X.s 96) (X.s 95))]
def C.gk : LO := C.gk_b
def C.gk_w := pO C.gk.eq_1
def C.gr_b : LO := [
 X.m 116 4,
 X.m 117 9,
 X.o 118 (.bin .add (X.s 117) (X.i 2)),
 X.o 119 (.idxAddr 1 (X.s 116) (X.s 118)),
 X.o 120 (.load1 (X.s 119)),
 X.o 121 (.bin .rem (X.s 120) (X.i 8)),
 X.o 122 (.bin .add (X.i 1) (X.s 121)),
 X.o 123 (.fldAddr 4 (X.s 10)),
 X.n (.store1 (X.s 123) (X.s 122))]
def C.gr : LO := C.gr_b
def C.gr_w := pO C.gr.eq_1
def C.gt_b : LO := [
 X.o 126 (.fldAddr 1 (X.s 10)),
 X.o 127 (.load1 (X.s 126)),
 X.m 128 4,
 X.m 129 9,
 X.o 130 (.bin .add (X.s 129) (X.i 2)),
 X.o 131 (.idxAddr 1 (X.s 128) (X.s 130)),
 X.o 132 (.load1 (X.s 131)),
 X.o 133 (.fldAddr 0 (X.s 6)),
 X.o 134 (.load1 (X.s 133)),
 X.o 135 (.len (X.s 134)),
 X.o 136 (.bin .rem (X.s 132) (X.s 135)),
 X.o 137 (.buildSlice 1 1 [.int .i64 0] [(0, 1, X.s 136)]),
 X.o 138 (.append 1 8 (X.s 127) (X.s 137)),
 X.o 139 (.fldAddr 1 (X.s 10)),
 X.n (.store1 (X.s 139) (X.s 138))]
def C.gt : LO := C.gt_b
def C.gt_w := pO C.gt.eq_1
def C.bp9 : ICode := .keep [2, 3, 4, 6, 7, 8, 9, 10, 124] (.cond (X.s 124) (.region C.gt) .skip)
def C.bp9_w := pC C.bp9.eq_1
def C.gs_b : LO := [
 X.o 125 (.bin .eql (X.s 86) (.cst (.int .u8 109))),
 X.m 124 125]
def C.gs : LO := C.gs_b
def C.gs_w := pO C.gs.eq_1
def C.brb : ICode := .seq (.region C.gs) C.bp9
def C.brb_w := pC C.brb.eq_1
def C.brc : ICode := .keep [2, 3, 4, 6, 7, 8, 9, 10, 86, 114] (.cond (X.s 114) (.region C.gr) C.brb)
def C.brc_w := pC C.brc.eq_1
def C.gp_b : LO := [
 X.o 115 (.bin .eql (X.s 86) (.cst (.int .u8 100))),
 X.m 114 115]
def C.gp : LO := C.gp_b
def C.gp_w := pO C.gp.eq_1
def C.brf : ICode := .seq (.region C.gk) C.bp8
def C.brf_w := pC C.brf.eq_1
def C.brg : ICode := .seq (.region C.gp) C.brc
def C.brg_w := pC C.brg.eq_1
def C.brh : ICode := .keep [2, 3, 4, 6, 7, 8, 9, 10, 86, 87] (.cond (X.s 87) C.brf C.brg)
def C.brh_w := pC C.brh.eq_1
def C.gj_b : LO := [
 X.o 88 (.bin .eql (X.s 86) (.cst (.int .u8 112))),
 X.m 87 88]
def C.gj : LO := C.gj_b
def C.gj_w := pO C.gj.eq_1
def C.bpd : ICode := .seq (.region C.gj) C.brh
def C.bpd_w := pC C.bpd.eq_1
def C.brj : ICode := .keep [2, 3, 4, 6, 7, 8, 9, 10, 86] (.block 4 C.bpd)
def C.brj_w := pC C.brj.eq_1
def C.gh_b : LO := [
 X.o 85 (.fldAddr 0 (X.s 10)),
 X.o 86 (.load1 (X.s 85))]
def C.gh : LO := C.gh_b
def C.gh_w := pO C.gh.eq_1
def C.blg : ICode := .keep [2, 3, 4, 6, 7, 8, 9, 10] (.seq (.seq (.region C.gh) C.brj) C.bp6)
def C.blg_w := pC C.blg.eq_1
def C.bf_b : LO := [
 X.m 67 7,
 X.m 68 4,
 X.m 69 9,
 X.o 70 (.idxAddr 1 (X.s 68) (X.s 69)),
 X.o 71 (.load1 (X.s 70)),
 X.o 72 (.bin .rem (X.s 71) (X.i 5)),
 X.o 73 (.strIdx (X.s 67) (X.s 72)),
 X.m 74 4,
 X.m 75 9,
 X.o 76 (.bin .add (X.s 75) (X.i 1)),
 X.o 77 (.idxAddr 1 (X.s 74) (X.s 76)),
 X.o 78 (.load1 (X.s 77)),
 X.o 79 (.fldAddr 0 (X.s 6)),
 X.o 80 (.load1 (X.s 79)),
 X.o 81 (.len (X.s 80)),
 X.o 82 (.bin .rem (X.s 78) (X.s 81)),
 X.o 83 (.buildSlice 1 1 [.int .i64 0] [(0, 1, X.s 82)]),
 X.o 84 (.build [.int .u8 0, .nils, .int .u64 0, .int .i64 0, .int .i64 0, .int .i64 0] [(0, 1, X.s 73), (1, 1, X.s 83)]),
 X.o 10 (.alloc [.int .u8 0, .nils, .int .u64 0, .int .i64 0, .int .i64 0, .int .i64 0]),
 X.n (.storeN 6 (X.s 10) (X.s 84))]
def C.bf : LO := C.bf_b
def C.bf_w := pO C.bf.eq_1
def C.brk : ICode := .keep [2, 3, 4, 6, 7, 8, 9] (.seq (.region C.bf) C.blg)
def C.brk_w := pC C.brk.eq_1
def C.gg_b : LO := [
 X.m 64 8,
 X.o 65 (.bin .mul (X.i 3) (X.s 64)),
 X.o 66 (.bin .add (X.i 10) (X.s 65)),
 X.m 9 66]
def C.gg : LO := C.gg_b
def C.gg_w := pO C.gg.eq_1
def C.bpf : ICode := .seq (.region C.gg) C.brk
def C.bpf_w := pC C.bpf.eq_1
def C.ts : ICode := .keep [2, 3, 4, 6, 7, 8] (.seq (.block 3 C.bpf) C.bp5)
def C.ts_w := pC C.ts.eq_1
def C.brl : ICode := .keep [2, 3, 4, 6, 7, 8, 61] (.cond (X.s 61) .skip (.exit 2))
def C.brl_w := pC C.brl.eq_1
def C.gd_b : LO := [
 X.m 55 8,
 X.m 56 4,
 X.m 57 3,
 X.o 58 (.idxAddr 1 (X.s 56) (X.s 57)),
 X.o 59 (.load1 (X.s 58)),
 X.o 60 (.bin .rem (X.s 59) (X.i 9)),
 X.o 61 (.bin .lss (X.s 55) (X.s 60))]
def C.gd : LO := C.gd_b
def C.gd_w := pO C.gd.eq_1
def C.cjr : ICode := .keep [2, 3, 4, 6, 7, 8] (.seq (.seq (.region C.gd) C.brl) C.ts)
def C.cjr_w := pC C.cjr.eq_1
def C.bpg : ICode := .loop C.cjr
def C.bpg_w := pC C.bpg.eq_1
def C.brn : ICode := .keep [2, 3, 4, 6, 7, 8] (.block 2 C.bpg)
def C.brn_w := pC C.brn.eq_1
def C.gc_b : LO := [
 X.o 8 (.move (X.i 0))]
def C.gc : LO := C.gc_b
def C.gc_w := pO C.gc.eq_1
def C.brp : ICode := .keep [2, 3, 4, 6, 7] (.seq (.seq (.region C.gc) C.brn) C.blf)
def C.brp_w := pC C.brp.eq_1
def C.hv_b : LO := [
 X.o 7 (.move (.cst (.str [112, 100, 103, 109, 103])))]
def C.hv : LO := C.hv_b
def C.hv_w := pO C.hv.eq_1
def C.brr : ICode := .keep [2, 3, 4, 6] (.seq (.region C.hv) C.brp)
def C.brr_w := pC C.brr.eq_1
def C.ht_b : LO := [
 X.o 3 (.move (X.i 1))]
def C.ht : LO := C.ht_b
def C.ht_w := pO C.ht.eq_1
def C.tt : ICode := .keep [2, 4, 6] (.seq (.region C.ht) C.brr)
def C.tt_w := pC C.tt.eq_1
def C.hs_b : LO := [
 X.m 47 4,
 X.o 48 (.idxAddr 1 (X.s 47) (X.i 0)),
 X.o 49 (.load1 (X.s 48)),
 X.o 50 (.bin .add (X.i 1) (X.s 49)),
 X.o 51 (.conv .u64 (X.s 50)),
 X.o 52 (.build [.int .u8 0, .nils, .int .u64 0, .int .i64 0, .int .i64 0, .int .i64 0] [(0, 1, .cst (.int .u8 111)), (2, 1, X.s 51)]),
 X.o 53 (.buildSlice 6 1 [.int .u8 0, .nils, .int .u64 0, .int .i64 0, .int .i64 0, .int .i64 0] [(0, 6, X.s 52)]),
 X.o 54 (.build [.nils, .nils, .nils, .nils] [(0, 1, X.s 53)]),
 X.o 6 (.alloc [.nils, .nils, .nils, .nils]),
 X.n (.storeN 4 (X.s 6) (X.s 54))]
def C.hs : LO := C.hs_b
def C.hs_w := pO C.hs.eq_1
def C.blh : ICode := .keep [2, 4] (.seq (.region C.hs) C.tt)
def C.blh_w := pC C.blh.eq_1
def C.hp_b : LO := [
 X.m 28 5,
 X.o 29 (.bin .add (X.s 28) (X.i 1)),
 X.m 5 29]
def C.hp : LO := C.hp_b
def C.hp_w := pO C.hp.eq_1
def C.brs : ICode := .keep [0, 2, 4, 5] (.region C.hp)
def C.brs_w := pC C.brs.eq_1
def C.hr_b : LO := [
 X.m 30 4,
 X.m 31 5,
 X.m 32 0,
 X.m 33 5,
 X.m 34 0,
 X.o 35 (.len (X.s 34)),
 X.o 36 (.bin .rem (X.s 33) (X.s 35)),
 X.o 37 (.idxAddr 1 (X.s 32) (X.s 36)),
 X.o 38 (.load1 (X.s 37)),
 X.m 39 5,
 X.m 40 0,
 X.o 41 (.len (X.s 40)),
 X.o 42 (.bin .quo (X.s 39) (X.s 41)),
 X.o 43 (.bin .add (X.i 1) (X.s 42)),
 X.o 44 (.bin .quo (X.s 38) (X.s 43)),
 X.o 45 (.call F.q14 [X.s 44, X.i 1000000]),
 X.o 46 (.idxAddr 1 (X.s 30) (X.s 31)),
 X.n (.store1 (X.s 46) (X.s 45))]
def C.hr : LO := C.hr_b
def C.hr_w := pO C.hr.eq_1
def C.bph : ICode := .region C.hr
def C.bph_w := pC C.bph.eq_1
def C.brt : ICode := .keep [0, 2, 4, 5] (.seq (.block 1 C.bph) C.brs)
def C.brt_w := pC C.brt.eq_1
def C.brw : ICode := .keep [0, 2, 4, 5, 27] (.cond (X.s 27) .skip (.exit 0))
def C.brw_w := pC C.brw.eq_1
def C.hc_b : LO := [
 X.m 19 5,
 X.m 20 4,
 X.o 21 (.len (X.s 20)),
 X.o 22 (.bin .lss (X.s 19) (X.s 21)),
 X.m 23 22,
 X.t 23 24 (.move (X.s 0)),
 X.t 23 25 (.len (X.s 24)),
 X.t 23 26 (.bin .gtr (X.s 25) (X.i 0)),
 X.o 27 (.pick (X.s 23) (X.s 26) (.cst (.bool false)))]
def C.hc : LO := C.hc_b
def C.hc_w := pO C.hc.eq_1
def C.cjs : ICode := .keep [0, 2, 4, 5] (.seq (.seq (.region C.hc) C.brw) C.brt)
def C.cjs_w := pC C.cjs.eq_1
def C.bpj : ICode := .loop C.cjs
def C.bpj_w := pC C.bpj.eq_1
def C.brx : ICode := .keep [0, 2, 4, 5] (.block 0 C.bpj)
def C.brx_w := pC C.brx.eq_1
def C.g0_b : LO := [
 X.o 5 (.move (X.i 0))]
def C.g0 : LO := C.g0_b
def C.g0_w := pO C.g0.eq_1
def C.bry : ICode := .keep [0, 2, 4] (.seq (.seq (.region C.g0) C.brx) C.blh)
def C.bry_w := pC C.bry.eq_1
def C.gn_b : LO := [
 X.o 18 (.makeSlice 1 8 [.int .i64 0] (X.i 120) (X.i 120)),
 X.m 4 18]
def C.gn : LO := C.gn_b
def C.gn_w := pO C.gn.eq_1
def C.brq : ICode := .keep [0, 2] (.seq (.region C.gn) C.bry)
def C.brq_w := pC C.brq.eq_1
def C.gb_b : LO := [
 X.o 3 (.move (X.i 0))]
def C.gb : LO := C.gb_b
def C.gb_w := pO C.gb.eq_1
def C.brz : ICode := .keep [0, 2] (.seq (.region C.gb) C.brq)
def C.brz_w := pC C.brz.eq_1
def C.bb_b : LO := [
 X.o 2 (.alloc [.nils, .nils, .nils, .nils])]
def C.bb : LO := C.bb_b
def C.bb_w := pO C.bb.eq_1
def C.q13 : IFunc := ⟨1, [.cellN 2 4], .seq (.region C.bb) C.brz⟩
def C.q13_W := aI (aI (aI (aI (aI (aI @C.bg_w (aI @C.bk9_w @C.g9_w)) (aI (aI @C.bpt_w @C.hn_w) (aI @C.bpy_w @C.hm_w))) (aI (aI (aI @C.bp3_w @C.hl_w) (aI @C.brd_w @C.hk_w)) (aI (aI @C.brm_w @C.hj_w) (aI @C.brv_w @C.hg_w)))) (aI (aI (aI @C.br0_w (aI @C.hh_w @C.bpk_w)) (aI (aI @C.bpl_w @C.bpm_w) (aI @C.hf_w @C.bn5_w))) (aI (aI (aI @C.bpn_w @C.hd_w) (aI @C.bpp_w @C.bh_w)) (aI (aI @C.bpr_w @C.hb_w) (aI @C.bn6_w @C.tn_w))))) (aI (aI (aI (aI @C.bps_w (aI @C.g8_w @C.bn7_w)) (aI (aI @C.bpv_w @C.g7_w) (aI @C.blb_w @C.g5_w))) (aI (aI (aI @C.bpw_w @C.g6_w) (aI @C.bn8_w @C.tp_w)) (aI (aI @C.bpx_w @C.g4_w) (aI @C.bn9_w @C.bpq_w)))) (aI (aI (aI @C.g3_w (aI @C.blc_w @C.gy_w)) (aI (aI @C.bpz_w @C.g2_w) (aI @C.bp0_w @C.g1_w))) (aI (aI (aI @C.bp1_w @C.gz_w) (aI @C.bld_w @C.gq_w)) (aI (aI @C.bpb_w @C.tr_w) (aI @C.bp2_w @C.gx_w)))))) (aI (aI (aI (aI (aI @C.bpc_w (aI @C.bp4_w @C.gw_w)) (aI (aI @C.blf_w @C.gf_w) (aI @C.bp5_w @C.gv_w))) (aI (aI (aI @C.bp6_w @C.gm_w) (aI @C.bp7_w @C.gl_w)) (aI (aI @C.bp8_w @C.gk_w) (aI @C.gr_w @C.gt_w)))) (aI (aI (aI @C.bp9_w (aI @C.gs_w @C.brb_w)) (aI (aI @C.brc_w @C.gp_w) (aI @C.brf_w @C.brg_w))) (aI (aI (aI @C.brh_w @C.gj_w) (aI @C.bpd_w @C.brj_w)) (aI (aI @C.gh_w @C.blg_w) (aI @C.bf_w @C.brk_w))))) (aI (aI (aI (aI @C.gg_w (aI @C.bpf_w @C.ts_w)) (aI (aI @C.brl_w @C.gd_w) (aI @C.bpg_w @C.brn_w))) (aI (aI (aI @C.gc_w @C.brp_w) (aI @C.hv_w @C.brr_w)) (aI (aI @C.ht_w @C.tt_w) (aI @C.hs_w @C.blh_w)))) (aI (aI (aI (aI @C.hp_w @C.brs_w) (aI @C.hr_w @C.bph_w)) (aI (aI @C.brt_w @C.brw_w) (aI @C.hc_w @C.bpj_w))) (aI (aI (aI @C.brx_w @C.g0_w) (aI @C.bry_w @C.gn_w)) (aI (aI @C.brq_w @C.gb_w) (aI @C.brz_w @C.bb_w))))))
def C.q13_B := aI (aI (aI (aI (aI @C.bg_b.eq_1 (aI @C.g9_b.eq_1 @C.hn_b.eq_1)) (aI @C.hm_b.eq_1 (aI @C.hl_b.eq_1 @C.hk_b.eq_1))) (aI (aI @C.hj_b.eq_1 (aI @C.hg_b.eq_1 @C.hh_b.eq_1)) (aI @C.hf_b.eq_1 (aI @C.hd_b.eq_1 @C.bh_b.eq_1)))) (aI (aI (aI @C.hb_b.eq_1 (aI @C.g8_b.eq_1 @C.g7_b.eq_1)) (aI @C.g5_b.eq_1 (aI @C.g6_b.eq_1 @C.g4_b.eq_1))) (aI (aI @C.g3_b.eq_1 (aI @C.gy_b.eq_1 @C.g2_b.eq_1)) (aI (aI @C.g1_b.eq_1 @C.gz_b.eq_1) (aI @C.gq_b.eq_1 @C.gx_b.eq_1))))) (aI (aI (aI (aI @C.gw_b.eq_1 (aI @C.gf_b.eq_1 @C.gv_b.eq_1)) (aI @C.gm_b.eq_1 (aI @C.gl_b.eq_1 @C.gk_b.eq_1))) (aI (aI @C.gr_b.eq_1 (aI @C.gt_b.eq_1 @C.gs_b.eq_1)) (aI (aI @C.gp_b.eq_1 @C.gj_b.eq_1) (aI @C.gh_b.eq_1 @C.bf_b.eq_1)))) (aI (aI (aI @C.gg_b.eq_1 (aI @C.gd_b.eq_1 @C.gc_b.eq_1)) (aI @C.hv_b.eq_1 (aI @C.ht_b.eq_1 @C.hs_b.eq_1))) (aI (aI @C.hp_b.eq_1 (aI @C.hr_b.eq_1 @C.hc_b.eq_1)) (aI (aI @C.g0_b.eq_1 @C.gn_b.eq_1) (aI @C.gb_b.eq_1 @C.bb_b.eq_1)))))

def C.bj2_b : LO := [
 X.m 107 9,
 X.m 2 107,
 X.o 3 (.move (X.i 0))]
def C.bj2 : LO := C.bj2_b
def C.bj2_w := pO C.bj2.eq_1
def C.cg0 : ICode := .keep [9] (.seq (.region C.bj2) .ret)
def C.cg0_w := pC C.cg0.eq_1
def C.bj1_b : LO := [
 X.m 106 6,
 X.o 2 (.move (.cst (.nilp))),
 X.m 3 106]
def C.bj1 : LO := C.bj1_b
def C.bj1_w := pO C.bj1.eq_1
def C.cg1 : ICode := .seq (.region C.bj1) .ret
def C.cg1_w := pC C.cg1.eq_1
def C.cg2 : ICode := .keep [6, 9, 105] (.cond (X.s 105) C.cg1 .skip)
def C.cg2_w := pC C.cg2.eq_1
def C.bj0_b : LO := [
 X.m 104 6,
 X.o 105 (.bin .neq (X.s 104) (X.i 0))]
def C.bj0 : LO := C.bj0_b
def C.bj0_w := pO C.bj0.eq_1
def C.cg3 : ICode := .keep [6, 9] (.seq (.region C.bj0) C.cg2)
def C.cg3_w := pC C.cg3.eq_1
def C.bjz_b : LO := [
 X.m 97 9,
 X.m 98 10,
 X.o 99 (.call F.q9 [X.s 98]),
 X.m 96 99,
 X.o 100 (.extract (X.s 96) 0),
 X.o 101 (.extract (X.s 96) 1),
 X.o 102 (.nilchk (X.s 97)),
 X.o 103 (.fldAddr 3 (X.s 102)),
 X.n (.store1 (X.s 103) (X.s 100)),
 X.m 6 101]
def C.bjz : LO := C.bjz_b
def C.bjz_w := pO C.bjz.eq_1
def C.cg4 : ICode := .keep [9, 10] (.seq (.seq (.region C.bjz) C.cg3) C.cg0)
def C.cg4_w := pC C.cg4.eq_1
def C.b4_b : LO := [
 X.o 95 (.bin .add (X.s 56) (X.i 1)),
 X.m 56 95]
def C.b4 : LO := C.b4_b
def C.b4_w := pO C.b4.eq_1
def C.blq : ICode := .keep [9, 10, 54, 55, 56] (.region C.b4)
def C.blq_w := pC C.blq.eq_1
def C.b3_b : LO := [
 X.m 75 9,
 X.m 76 9,
 X.o 77 (.nilchk (X.s 76)),
 X.o 78 (.fldAddr 4 (X.s 77)),
 X.o 79 (.load1 (X.s 78)),
 X.o 80 (.fldAddr 0 (X.s 12)),
 X.o 81 (.load1 (X.s 80)),
 X.o 82 (.fldAddr 1 (X.s 12)),
 X.o 83 (.load1 (X.s 82)),
 X.o 84 (.fldAddr 2 (X.s 12)),
 X.o 85 (.load1 (X.s 84)),
 X.o 86 (.fldAddr 3 (X.s 12)),
 X.o 87 (.load1 (X.s 86)),
 X.m 88 13,
 ⟨some 89, .call F.q105 [], none, [⟨.load1 (X.s 78), 79, none⟩, ⟨.load1 (X.s 80), 81, none⟩, ⟨.load1 (X.s 82), 83, none⟩, ⟨.load1 (X.s 84), 85, none⟩, ⟨.load1 (X.s 86), 87, none⟩], []⟩,
 X.o 90 (.build [.int .i64 0, .int .i64 0, .int .i64 0, .int .u32 0, .nilp, .nilp] [(0, 1, X.s 81), (1, 1, X.s 83), (2, 1, X.s 85), (3, 1, X.s 87), (4, 1, X.s 88), (5, 1, X.s 89)]),
 X.o 91 (.buildSlice 6 1 [.int .i64 0, .int .i64 0, .int .i64 0, .int .u32 0, .nilp, .nilp] [(0, 6, X.s 90)]),
 X.o 92 (.append 6 48 (X.s 79) (X.s 91)),
 X.o 93 (.nilchk (X.s 75)),
 X.o 94 (.fldAddr 4 (X.s 93)),
 X.n (.store1 (X.s 94) (X.s 92))]
def C.b3 : LO := C.b3_b
def C.b3_w := pO C.b3.eq_1
def C.blz : ICode := .keep [9, 10, 12, 13, 54, 55, 56] (.region C.b3)
def C.blz_w := pC C.blz.eq_1
def C.c1_b : LO := [
 X.m 70 10,
 X.m 71 11,
 X.m 72 13,
 X.o 73 (.call F.q108 [X.s 72]),
 X.o 74 (.idxAddr 1 (X.s 70) (X.s 71)),
 X.n (.store1 (X.s 74) (X.s 73))]
def C.c1 : LO := C.c1_b
def C.c1_w := pO C.c1.eq_1
def C.bl0 : ICode := .keep [9, 10, 11, 12, 13, 54, 55, 56] (.seq (.region C.c1) C.blz)
def C.bl0_w := pC C.bl0.eq_1
def C.dv_b : LO := [
 X.m 69 14,
 X.o 2 (.move (.cst (.nilp))),
 X.m 3 69]
def C.dv : LO := C.dv_b
def C.dv_w := pO C.dv.eq_1
def C.bqx : ICode := .seq (.region C.dv) .ret
def C.bqx_w := pC C.bqx.eq_1
def C.by3 : ICode := .keep [9, 10, 11, 12, 13, 14, 54, 55, 56, 68] (.cond (X.s 68) C.bqx .skip)
def C.by3_w := pC C.by3.eq_1
def C.dt_b : LO := [
 X.m 67 14,
 X.o 68 (.bin .neq (X.s 67) (X.i 0))]
def C.dt : LO := C.dt_b
def C.dt_w := pO C.dt.eq_1
def C.by4 : ICode := .keep [9, 10, 11, 12, 13, 14, 54, 55, 56] (.seq (.seq (.region C.dt) C.by3) C.bl0)
def C.by4_w := pC C.by4.eq_1
def C.c0_b : LO := [
 X.o 62 (.fldAddr 4 (X.s 12)),
 X.o 63 (.load1 (X.s 62)),
 X.o 64 (.call F.q118 [X.s 63]),
 X.m 61 64,
 X.o 65 (.extract (X.s 61) 0),
 X.o 66 (.extract (X.s 61) 1),
 X.m 13 65,
 X.m 14 66]
def C.c0 : LO := C.c0_b
def C.c0_w := pO C.c0.eq_1
def C.by5 : ICode := .keep [9, 10, 11, 12, 54, 55, 56] (.seq (.region C.c0) C.by4)
def C.by5_w := pC C.by5.eq_1
def C.cz_b : LO := [
 X.m 58 56,
 X.o 59 (.idxAddr 6 (X.s 54) (X.s 56)),
 X.o 60 (.loadN 6 (X.s 59)),
 X.o 12 (.alloc [.int .i64 0, .int .i64 0, .int .i64 0, .int .u32 0, .nils, .nils]),
 X.m 11 58,
 X.n (.storeN 6 (X.s 12) (X.s 60))]
def C.cz : LO := C.cz_b
def C.cz_w := pO C.cz.eq_1
def C.by1 : ICode := .seq (.region C.cz) C.by5
def C.by1_w := pC C.by1.eq_1
def C.by6 : ICode := .keep [9, 10, 54, 55, 56] (.seq (.block 1 C.by1) C.blq)
def C.by6_w := pC C.by6.eq_1
def C.by7 : ICode := .keep [9, 10, 54, 55, 56, 57] (.seq (.cond (X.s 57) .skip (.exit 0)) C.by6)
def C.by7_w := pC C.by7.eq_1
def C.cq_b : LO := [
 X.o 57 (.bin .lss (X.s 56) (X.s 55))]
def C.cq : LO := C.cq_b
def C.cq_w := pO C.cq.eq_1
def C.ckt : ICode := .keep [9, 10, 54, 55, 56] (.seq (.region C.cq) C.by7)
def C.ckt_w := pC C.ckt.eq_1
def C.by2 : ICode := .loop C.ckt
def C.by2_w := pC C.by2.eq_1
def C.by8 : ICode := .keep [9, 10, 54, 55, 56] (.block 0 C.by2)
def C.by8_w := pC C.by8.eq_1
def C.mz_b : LO := [
 X.o 53 (.fldAddr 3 (X.s 1)),
 X.o 54 (.load1 (X.s 53)),
 X.o 55 (.len (X.s 54)),
 X.o 56 (.move (X.i 0))]
def C.mz : LO := C.mz_b
def C.mz_w := pO C.mz.eq_1
def C.by9 : ICode := .keep [1, 9, 10] (.seq (.seq (.region C.mz) C.by8) C.cg4)
def C.by9_w := pC C.by9.eq_1
def C.cy_b : LO := [
 X.o 49 (.fldAddr 3 (X.s 1)),
 X.o 50 (.load1 (X.s 49)),
 X.o 51 (.len (X.s 50)),
 X.o 52 (.makeSlice 1 8 [.int .i64 0] (X.s 51) (X.s 51)),
 X.m 10 52]
def C.cy : LO := C.cy_b
def C.cy_w := pO C.cy.eq_1
def C.bly : ICode := .keep [1, 9] (.seq (.region C.cy) C.by9)
def C.bly_w := pC C.bly.eq_1
def C.mq_b : LO := [
 X.m 44 5,
 X.m 45 7,
 X.m 46 8,
 X.o 47 (.build [.nilp, .nilp, .nilp, .nilp, .nils] [(0, 1, X.s 44), (1, 1, X.s 45), (2, 1, X.s 46)]),
 X.o 48 (.boxN (X.s 47)),
 X.m 9 48]
def C.mq : LO := C.mq_b
def C.mq_w := pO C.mq.eq_1
def C.bqb : ICode := .keep [1, 5, 7, 8] (.seq (.region C.mq) C.bly)
def C.bqb_w := pC C.bqb.eq_1
def C.my_b : LO := [
 X.m 43 6,
 X.o 2 (.move (.cst (.nilp))),
 X.m 3 43]
def C.my : LO := C.my_b
def C.my_w := pO C.my.eq_1
def C.bqc : ICode := .seq (.region C.my) .ret
def C.bqc_w := pC C.bqc.eq_1
def C.bqd : ICode := .keep [1, 5, 6, 7, 8, 42] (.cond (X.s 42) C.bqc .skip)
def C.bqd_w := pC C.bqd.eq_1
def C.mx_b : LO := [
 X.m 41 6,
 X.o 42 (.bin .neq (X.s 41) (X.i 0))]
def C.mx : LO := C.mx_b
def C.mx_w := pO C.mx.eq_1
def C.bqf : ICode := .keep [1, 5, 6, 7, 8] (.seq (.seq (.region C.mx) C.bqd) C.bqb)
def C.bqf_w := pC C.bqf.eq_1
def C.mw_b : LO := [
 X.o 37 (.loadN 4 (X.s 1)),
 X.o 38 (.call F.q123 [X.s 37]),
 X.m 36 38,
 X.o 39 (.extract (X.s 36) 0),
 X.o 40 (.extract (X.s 36) 1),
 X.m 8 39,
 X.m 6 40]
def C.mw : LO := C.mw_b
def C.mw_w := pO C.mw.eq_1
def C.bqg : ICode := .keep [1, 5, 7] (.seq (.region C.mw) C.bqf)
def C.bqg_w := pC C.bqg.eq_1
def C.m7_b : LO := [
 X.m 35 6,
 X.o 2 (.move (.cst (.nilp))),
 X.m 3 35]
def C.m7 : LO := C.m7_b
def C.m7_w := pO C.m7.eq_1
def C.bqh : ICode := .seq (.region C.m7) .ret
def C.bqh_w := pC C.bqh.eq_1
def C.bqj : ICode := .keep [1, 5, 6, 7, 34] (.cond (X.s 34) C.bqh .skip)
def C.bqj_w := pC C.bqj.eq_1
def C.m6_b : LO := [
 X.m 33 6,
 X.o 34 (.bin .neq (X.s 33) (X.i 0))]
def C.m6 : LO := C.m6_b
def C.m6_w := pO C.m6.eq_1
def C.bqk : ICode := .keep [1, 5, 6, 7] (.seq (.seq (.region C.m6) C.bqj) C.bqg)
def C.bqk_w := pC C.bqk.eq_1
def C.m5_b : LO := [
 X.o 29 (.loadN 4 (X.s 1)),
 X.o 30 (.call F.q100 [X.s 29]),
 X.m 28 30,
 X.o 31 (.extract (X.s 28) 0),
 X.o 32 (.extract (X.s 28) 1),
 X.m 7 31,
 X.m 6 32]
def C.m5 : LO := C.m5_b
def C.m5_w := pO C.m5.eq_1
def C.bql : ICode := .keep [1, 5] (.seq (.region C.m5) C.bqk)
def C.bql_w := pC C.bql.eq_1
def C.m4_b : LO := [
 X.m 27 6,
 X.o 2 (.move (.cst (.nilp))),
 X.m 3 27]
def C.m4 : LO := C.m4_b
def C.m4_w := pO C.m4.eq_1
def C.bqm : ICode := .seq (.region C.m4) .ret
def C.bqm_w := pC C.bqm.eq_1
def C.bqn : ICode := .keep [1, 5, 6, 26] (.cond (X.s 26) C.bqm .skip)
def C.bqn_w := pC C.bqn.eq_1
def C.m3_b : LO := [
 X.m 25 6,
 X.o 26 (.bin .neq (X.s 25) (X.i 0))]
def C.m3 : LO := C.m3_b
def C.m3_w := pO C.m3.eq_1
def C.bqp : ICode := .keep [1, 5, 6] (.seq (.seq (.region C.m3) C.bqn) C.bql)
def C.bqp_w := pC C.bqp.eq_1
def C.m2_b : LO := [
 X.o 21 (.loadN 4 (X.s 1)),
 X.o 22 (.call F.q17 [X.s 21]),
 X.m 20 22,
 X.o 23 (.extract (X.s 20) 0),
 X.o 24 (.extract (X.s 20) 1),
 X.m 5 23,
 X.m 6 24]
def C.m2 : LO := C.m2_b
def C.m2_w := pO C.m2.eq_1
def C.bqr : ICode := .keep [1] (.seq (.region C.m2) C.bqp)
def C.bqr_w := pC C.bqr.eq_1
def C.m1_b : LO := [
 X.m 19 4,
 X.o 2 (.move (.cst (.nilp))),
 X.m 3 19]
def C.m1 : LO := C.m1_b
def C.m1_w := pO C.m1.eq_1
def C.bqs : ICode := .seq (.region C.m1) .ret
def C.bqs_w := pC C.bqs.eq_1
def C.bqt : ICode := .keep [1, 4, 18] (.cond (X.s 18) C.bqs .skip)
def C.bqt_w := pC C.bqt.eq_1
def C.m0_b : LO := [
 X.m 17 4,
 X.o 18 (.bin .neq (X.s 17) (X.i 0))]
def C.m0 : LO := C.m0_b
def C.m0_w := pO C.m0.eq_1
def C.bqv : ICode := .keep [1, 4] (.seq (.region C.m0) C.bqt)
def C.bqv_w := pC C.bqv.eq_1
def C.mv_b : LO := [
 X.o 15 (.loadN 4 (X.s 1)),
 X.o 16 (.call F.q25 [X.s 15]),
 X.m 4 16]
def C.mv : LO := C.mv_b
def C.mv_w := pO C.mv.eq_1
def C.bqw : ICode := .keep [1] (.seq (.seq (.region C.mv) C.bqv) C.bqr)
def C.bqw_w := pC C.bqw.eq_1
def C.bn_b : LO := [
 X.o 1 (.boxN (X.s 0)),
 X.o 2 (.move (.cst (.nilp))),
 X.o 3 (.move (X.i 0))]
def C.bn : LO := C.bn_b
def C.bn_w := pO C.bn.eq_1
def C.q94 : IFunc := ⟨1, [.slot 2, .slot 3], .seq (.region C.bn) C.bqw⟩
def C.q94_W := aI (aI (aI (aI (aI (aI @C.bj2_w @C.cg0_w) (aI @C.bj1_w @C.cg1_w)) (aI (aI @C.cg2_w @C.bj0_w) (aI @C.cg3_w @C.bjz_w))) (aI (aI (aI @C.cg4_w @C.b4_w) (aI @C.blq_w @C.b3_w)) (aI (aI @C.blz_w @C.c1_w) (aI @C.bl0_w @C.dv_w)))) (aI (aI (aI (aI @C.bqx_w @C.by3_w) (aI @C.dt_w @C.by4_w)) (aI (aI @C.c0_w @C.by5_w) (aI @C.cz_w @C.by1_w))) (aI (aI (aI @C.by6_w @C.by7_w) (aI @C.cq_w @C.by2_w)) (aI (aI @C.by8_w @C.mz_w) (aI @C.by9_w @C.cy_w))))) (aI (aI (aI (aI (aI @C.bly_w @C.mq_w) (aI @C.bqb_w @C.my_w)) (aI (aI @C.bqc_w @C.bqd_w) (aI @C.mx_w @C.bqf_w))) (aI (aI (aI @C.mw_w @C.bqg_w) (aI @C.m7_w @C.bqh_w)) (aI (aI @C.bqj_w @C.m6_w) (aI @C.bqk_w @C.m5_w)))) (aI (aI (aI (aI @C.bql_w @C.m4_w) (aI @C.bqm_w @C.bqn_w)) (aI (aI @C.m3_w @C.bqp_w) (aI @C.m2_w @C.bqr_w))) (aI (aI (aI @C.m1_w @C.bqs_w) (aI @C.bqt_w @C.m0_w)) (aI (aI @C.bqv_w @C.mv_w) (aI @C.bqw_w @C.bn_w)))))
def C.q94_B := aI (aI (aI (aI @C.bj2_b.eq_1 (aI @C.bj1_b.eq_1 @C.bj0_b.eq_1)) (aI (aI @C.bjz_b.eq_1 @C.b4_b.eq_1) (aI @C.b3_b.eq_1 @C.c1_b.eq_1))) (aI (aI @C.dv_b.eq_1 (aI @C.dt_b.eq_1 @C.c0_b.eq_1)) (aI (aI @C.cz_b.eq_1 @C.cq_b.eq_1) (aI @C.mz_b.eq_1 @C.cy_b.eq_1)))) (aI (aI (aI @C.mq_b.eq_1 (aI @C.my_b.eq_1 @C.mx_b.eq_1)) (aI (aI @C.mw_b.eq_1 @C.m7_b.eq_1) (aI @C.m6_b.eq_1 @C.m5_b.eq_1))) (aI (aI @C.m4_b.eq_1 (aI @C.m3_b.eq_1 @C.m2_b.eq_1)) (aI (aI @C.m1_b.eq_1 @C.m0_b.eq_1) (aI @C.mv_b.eq_1 @C.bn_b.eq_1))))

def C.ty_b : LO := [
 X.m 10 0,
 X.m 11 1,
 X.o 12 (.bin .rem (X.s 10) (X.s 11)),
 X.m 4 12]
def C.ty : LO := C.ty_b
def C.ty_w := pO C.ty.eq_1
def C.b3n : ICode := .keep [0, 1] (.seq (.region C.ty) .ret)
def C.b3n_w := pC C.b3n.eq_1
def C.tx_b : LO := [
 X.m 7 0,
 X.o 8 (.bin .add (X.s 7) (X.i 1)),
 X.o 9 (.un .neg (X.s 8)),
 X.m 0 9]
def C.tx : LO := C.tx_b
def C.tx_w := pO C.tx.eq_1
def C.b3p : ICode := .keep [0, 1, 6] (.cond (X.s 6) (.region C.tx) .skip)
def C.b3p_w := pC C.b3p.eq_1
def C.tw_b : LO := [
 X.m 5 0,
 X.o 6 (.bin .lss (X.s 5) (X.i 0))]
def C.tw : LO := C.tw_b
def C.tw_w := pO C.tw.eq_1
def C.b3r : ICode := .keep [0, 1] (.seq (.seq (.region C.tw) C.b3p) C.b3n)
def C.b3r_w := pC C.b3r.eq_1
def C.tv_b : LO := [
 X.o 4 (.move (X.i 0))]
def C.tv : LO := C.tv_b
def C.tv_w := pO C.tv.eq_1
def C.q14 : IFunc := ⟨2, [.slot 4], .seq (.region C.tv) C.b3r⟩
def C.q14_W := aI (aI @C.ty_w (aI @C.b3n_w @C.tx_w)) (aI (aI @C.b3p_w @C.tw_w) (aI @C.b3r_w @C.tv_w))
def C.q14_B := aI (aI @C.ty_b.eq_1 @C.tx_b.eq_1) (aI @C.tw_b.eq_1 @C.tv_b.eq_1)

def C.y8_b : LO := [
 X.m 39 6,
 X.m 4 39,
 X.o 5 (.move (X.i 0))]
def C.y8 : LO := C.y8_b
def C.y8_w := pO C.y8.eq_1
def C.b7d : ICode := .keep [6] (.seq (.region C.y8) .ret)
def C.b7d_w := pC C.b7d.eq_1
def C.y7_b : LO := [
 X.o 4 (.move (.cst (.int .u32 0))),
 X.o 5 (.move (X.i 1))]
def C.y7 : LO := C.y7_b
def C.y7_w := pO C.y7.eq_1
def C.b7j : ICode := .seq (.region C.y7) .ret
def C.b7j_w := pC C.b7j.eq_1
def C.b7k : ICode := .keep [6, 38] (.cond (X.s 38) C.b7j .skip)
def C.b7k_w := pC C.b7k.eq_1
def C.y6_b : LO := [
 X.m 37 7,
 X.o 38 (.bin .neq (X.s 37) (X.i 0))]
def C.y6 : LO := C.y6_b
def C.y6_w := pO C.y6.eq_1
def C.b7l : ICode := .keep [6, 7] (.seq (.seq (.region C.y6) C.b7k) C.b7d)
def C.b7l_w := pC C.b7l.eq_1
def C.y5_b : LO := [
 X.m 31 6,
 X.m 32 1,
 X.o 33 (.conv .u32 (X.s 32)),
 X.o 34 (.call F.q1 [X.s 31, X.i 2, X.i 14, X.s 33]),
 X.m 30 34,
 X.o 35 (.extract (X.s 30) 0),
 X.o 36 (.extract (X.s 30) 1),
 X.m 6 35,
 X.m 7 36]
def C.y5 : LO := C.y5_b
def C.y5_w := pO C.y5.eq_1
def C.b7m : ICode := .keep [1, 6] (.seq (.region C.y5) C.b7l)
def C.b7m_w := pC C.b7m.eq_1
def C.y4_b : LO := [
 X.o 4 (.move (.cst (.int .u32 0))),
 X.o 5 (.move (X.i 1))]
def C.y4 : LO := C.y4_b
def C.y4_w := pO C.y4.eq_1
def C.b7n : ICode := .seq (.region C.y4) .ret
def C.b7n_w := pC C.b7n.eq_1
def C.b7p : ICode := .keep [1, 6, 29] (.cond (X.s 29) C.b7n .skip)
def C.b7p_w := pC C.b7p.eq_1
def C.y3_b : LO := [
 X.m 28 7,
 X.o 29 (.bin .neq (X.s 28) (X.i 0))]
def C.y3 : LO := C.y3_b
def C.y3_w := pO C.y3.eq_1
def C.b7r : ICode := .keep [1, 6, 7] (.seq (.seq (.region C.y3) C.b7p) C.b7m)
def C.b7r_w := pC C.b7r.eq_1
def C.y2_b : LO := [
 X.m 23 0,
 X.o 24 (.conv .u32 (X.s 23)),
 X.o 25 (.call F.q1 [.cst (.int .u32 0), X.i 16, X.i 8, X.s 24]),
 X.m 22 25,
 X.o 26 (.extract (X.s 22) 0),
 X.o 27 (.extract (X.s 22) 1),
 X.m 6 26,
 X.m 7 27]
def C.y2 : LO := C.y2_b
def C.y2_w := pO C.y2.eq_1
def C.b7s : ICode := .keep [0, 1] (.seq (.region C.y2) C.b7r)
def C.b7s_w := pC C.b7s.eq_1
def C.y1_b : LO := [
 X.o 4 (.move (.cst (.int .u32 0))),
 X.o 5 (.move (X.i 1))]
def C.y1 : LO := C.y1_b
def C.y1_w := pO C.y1.eq_1
def C.b7f : ICode := .seq (.region C.y1) .ret
def C.b7f_w := pC C.b7f.eq_1
def C.b7g : ICode := .keep [0, 1, 21] (.cond (X.s 21) C.b7f .skip)
def C.b7g_w := pC C.b7g.eq_1
def C.y0_b : LO := [
 X.m 8 0,
 X.o 9 (.bin .lss (X.s 8) (X.i 0)),
 X.m 10 9,
 X.f 10 11 (.move (X.s 0)),
 X.f 10 12 (.bin .geq (X.s 11) (X.i 256)),
 X.o 13 (.pick (X.s 10) (.cst (.bool true)) (X.s 12)),
 X.m 14 13,
 X.f 14 15 (.move (X.s 1)),
 X.f 14 16 (.bin .lss (X.s 15) (X.i 0)),
 X.o 17 (.pick (X.s 14) (.cst (.bool true)) (X.s 16)),
 X.m 18 17,
 X.f 18 19 (.move (X.s 1)),
 X.f 18 20 (.bin .geq (X.s 19) (X.i 16384)),
 X.o 21 (.pick (X.s 18) (.cst (.bool true)) (X.s 20))]
def C.y0 : LO := C.y0_b
def C.y0_w := pO C.y0.eq_1
def C.b7h : ICode := .keep [0, 1] (.seq (.seq (.region C.y0) C.b7g) C.b7s)
def C.b7h_w := pC C.b7h.eq_1
def C.yz_b : LO := [
 X.o 4 (.move (.cst (.int .u32 0))),
 X.o 5 (.move (X.i 0))]
def C.yz : LO := C.yz_b
def C.yz_w := pO C.yz.eq_1
def C.q4 : IFunc := ⟨2, [.slot 4, .slot 5], .seq (.region C.yz) C.b7h⟩
def C.q4_W := aI (aI (aI (aI @C.y8_w @C.b7d_w) (aI @C.y7_w (aI @C.b7j_w @C.b7k_w))) (aI (aI @C.y6_w (aI @C.b7l_w @C.y5_w)) (aI @C.b7m_w (aI @C.y4_w @C.b7n_w)))) (aI (aI (aI @C.b7p_w @C.y3_w) (aI @C.b7r_w (aI @C.y2_w @C.b7s_w))) (aI (aI @C.y1_w (aI @C.b7f_w @C.b7g_w)) (aI @C.y0_w (aI @C.b7h_w @C.yz_w))))
def C.q4_B := aI (aI (aI @C.y8_b.eq_1 @C.y7_b.eq_1) (aI @C.y6_b.eq_1 (aI @C.y5_b.eq_1 @C.y4_b.eq_1))) (aI (aI @C.y3_b.eq_1 @C.y2_b.eq_1) (aI @C.y1_b.eq_1 (aI @C.y0_b.eq_1 @C.yz_b.eq_1)))

def C.bh9_b : LO := [
 X.m 48 0,
 X.o 49 (.nilchk (X.s 48)),
 X.o 50 (.fldAddr 3 (X.s 49)),
 X.o 51 (.load1 (X.s 50)),
 X.m 52 1,
 X.m 53 2,
 X.m 54 3,
 X.o 55 (.call F.q5 [X.s 51, X.s 52, X.s 53, X.s 54]),
 X.o 56 (.extract (X.s 55) 0),
 X.o 57 (.extract (X.s 55) 1),
 X.m 8 56,
 X.m 9 57]
def C.bh9 : LO := C.bh9_b
def C.bh9_w := pO C.bh9.eq_1
def C.cgc : ICode := .keep [0, 1, 2, 3] (.seq (.region C.bh9) .ret)
def C.cgc_w := pC C.cgc.eq_1
def C.bh8_b : LO := [
 X.o 8 (.move (X.i 0)),
 X.o 9 (.move (X.i 6))]
def C.bh8 : LO := C.bh8_b
def C.bh8_w := pO C.bh8.eq_1
def C.cgd : ICode := .seq (.region C.bh8) .ret
def C.cgd_w := pC C.cgd.eq_1
def C.cgf : ICode := .keep [0, 1, 2, 3, 47] (.cond (X.s 47) C.cgd .skip)
def C.cgf_w := pC C.cgf.eq_1
def C.bh7_b : LO := [
 X.m 38 0,
 X.o 39 (.nilchk (X.s 38)),
 X.o 40 (.fldAddr 4 (X.s 39)),
 X.o 41 (.load1 (X.s 40)),
 X.m 42 10,
 X.o 43 (.idxAddr 6 (X.s 41) (X.s 42)),
 X.o 44 (.fldAddr 5 (X.s 43)),
 X.o 45 (.load1 (X.s 44)),
 X.o 46 (.call F.q103 [X.s 45]),
 X.o 47 (.bin .neq (X.s 46) (.cst (.int .u8 114)))]
def C.bh7 : LO := C.bh7_b
def C.bh7_w := pO C.bh7.eq_1
def C.cgg : ICode := .keep [0, 1, 2, 3, 10] (.seq (.seq (.region C.bh7) C.cgf) C.cgc)
def C.cgg_w := pC C.cgg.eq_1
def C.bh6_b : LO := [
 X.o 8 (.move (X.i 0)),
 X.o 9 (.move (X.i 4))]
def C.bh6 : LO := C.bh6_b
def C.bh6_w := pO C.bh6.eq_1
def C.cgh : ICode := .seq (.region C.bh6) .ret
def C.cgh_w := pC C.cgh.eq_1
def C.cgj : ICode := .keep [0, 1, 2, 3, 10, 37] (.cond (X.s 37) C.cgh .skip)
def C.cgj_w := pC C.cgj.eq_1
def C.bh5_b : LO := [
 X.m 17 0,
 X.m 18 10,
 X.o 19 (.call F.q92 [X.s 17, X.s 18]),
 X.o 20 (.un .not (X.s 19)),
 X.m 21 20,
 X.f 21 22 (.move (X.s 11)),
 X.f 21 23 (.bin .lss (X.s 22) (X.i 0)),
 X.o 24 (.pick (X.s 21) (.cst (.bool true)) (X.s 23)),
 X.m 25 24,
 X.f 25 26 (.move (X.s 11)),
 X.f 25 27 (.move (X.s 0)),
 X.f 25 28 (.nilchk (X.s 27)),
 X.f 25 29 (.fldAddr 4 (X.s 28)),
 X.f 25 30 (.load1 (X.s 29)),
 X.f 25 31 (.move (X.s 10)),
 X.f 25 32 (.idxAddr 6 (X.s 30) (X.s 31)),
 X.f 25 33 (.fldAddr 4 (X.s 32)),
 X.f 25 34 (.load1 (X.s 33)),
 X.f 25 35 (.call F.q108 [X.s 34]),
 X.f 25 36 (.bin .geq (X.s 26) (X.s 35)),
 X.o 37 (.pick (X.s 25) (.cst (.bool true)) (X.s 36))]
def C.bh5 : LO := C.bh5_b
def C.bh5_w := pO C.bh5.eq_1
def C.cgk : ICode := .keep [0, 1, 2, 3, 10, 11] (.seq (.seq (.region C.bh5) C.cgj) C.cgg)
def C.cgk_w := pC C.cgk.eq_1
def C.bh4_b : LO := [
 X.m 13 1,
 X.o 14 (.call F.q10 [X.s 13]),
 X.m 12 14,
 X.o 15 (.extract (X.s 12) 0),
 X.o 16 (.extract (X.s 12) 1),
 X.m 10 15,
 X.m 11 16]
def C.bh4 : LO := C.bh4_b
def C.bh4_w := pO C.bh4.eq_1
def C.cgl : ICode := .keep [0, 1, 2, 3] (.seq (.region C.bh4) C.cgk)
def C.cgl_w := pC C.cgl.eq_1
def C.bh3_b : LO := [
 X.o 8 (.move (X.i 0)),
 X.o 9 (.move (X.i 0))]
def C.bh3 : LO := C.bh3_b
def C.bh3_w := pO C.bh3.eq_1
def C.q86 : IFunc := ⟨4, [.slot 8, .slot 9], .seq (.region C.bh3) C.cgl⟩
def C.q86_W := aI (aI (aI @C.bh9_w (aI @C.cgc_w @C.bh8_w)) (aI (aI @C.cgd_w @C.cgf_w) (aI @C.bh7_w @C.cgg_w))) (aI (aI (aI @C.bh6_w @C.cgh_w) (aI @C.cgj_w @C.bh5_w)) (aI (aI @C.cgk_w @C.bh4_w) (aI @C.cgl_w @C.bh3_w)))
def C.q86_B := aI (aI @C.bh9_b.eq_1 (aI @C.bh8_b.eq_1 @C.bh7_b.eq_1)) (aI (aI @C.bh6_b.eq_1 @C.bh5_b.eq_1) (aI @C.bh4_b.eq_1 @C.bh3_b.eq_1))

end Go.Proofs.YtdmfgodajoojpaaGreatDoor.Cn
