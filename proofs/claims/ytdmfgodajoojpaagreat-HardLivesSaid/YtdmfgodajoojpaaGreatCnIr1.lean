/- The intermediate code of the functions, printed by a program out of the loaded program; that it is theirs is checked in the text of links. -/
import Derived.Test.YtdmfgodajoojpaaGreatCnL2
set_option linter.defProp false
namespace Go.Proofs.YtdmfgodajoojpaaGreat.Cn
open Go
theorem aI {a b : Prop} (x : a) (y : b) : a ∧ b := ⟨x, y⟩
theorem pC {c d : ICode} (h : c = d) ⦃P : Program⦄ ⦃Q : IExit → AFr → ASt → Prop⦄ ⦃fr : AFr⦄ ⦃st : ASt⦄ : awp P c Q fr st = awp P d Q fr st := by rw [h]
theorem pO {c d : List IOper} (h : c = d) ⦃P : Program⦄ ⦃k : AFr → ASt → Prop⦄ ⦃fr : AFr⦄ ⦃st : ASt⦄ : aops P c k fr st = aops P d k fr st := by rw [h]
variable {P : Program} {Q : IExit → AFr → ASt → Prop} {fr : AFr} {st : ASt}

abbrev F.main_main : Nat := 0
abbrev F.gosem_cut : Nat := 1
abbrev F.gosem_cut_init : Nat := 2
abbrev F.q4 : Nat := 3
abbrev F.q7 : Nat := 4
abbrev F.q5 : Nat := 5
abbrev F.q86 : Nat := 6
abbrev F.q6 : Nat := 7
abbrev F.q76 : Nat := 8
abbrev F.q82 : Nat := 9
abbrev F.q75 : Nat := 10
abbrev F.q73 : Nat := 11
abbrev F.q79 : Nat := 12
abbrev F.q81 : Nat := 13
abbrev F.q72 : Nat := 14
abbrev F.q80 : Nat := 15
abbrev F.q78 : Nat := 16
abbrev F.q77 : Nat := 17
abbrev F.q74 : Nat := 18
abbrev F.q16 : Nat := 19
abbrev F.q8 : Nat := 20
abbrev F.q93 : Nat := 21
abbrev F.q116 : Nat := 22
abbrev F.q110 : Nat := 23
abbrev F.q100 : Nat := 24
abbrev F.q97 : Nat := 25
abbrev F.q3 : Nat := 26
abbrev F.q85 : Nat := 27
abbrev F.q10 : Nat := 28
abbrev F.q91 : Nat := 29
abbrev F.q88 : Nat := 30
abbrev F.q111 : Nat := 31
abbrev F.q98 : Nat := 32
abbrev F.q113 : Nat := 33
abbrev F.q83 : Nat := 34
abbrev F.q96 : Nat := 35
abbrev F.q1 : Nat := 36
abbrev F.q13 : Nat := 37
abbrev F.q90 : Nat := 38
abbrev F.q87 : Nat := 39
abbrev F.q114 : Nat := 40
abbrev F.q84 : Nat := 41
abbrev F.q11 : Nat := 42
abbrev F.q89 : Nat := 43
abbrev F.q112 : Nat := 44
abbrev F.q9 : Nat := 45
abbrev F.q52 : Nat := 46
abbrev F.q17 : Nat := 47
abbrev F.q53 : Nat := 48
abbrev F.q18 : Nat := 49
abbrev F.q47 : Nat := 50
abbrev F.q19 : Nat := 51
abbrev F.q32 : Nat := 52
abbrev F.q20 : Nat := 53
abbrev F.q37 : Nat := 54
abbrev F.q28 : Nat := 55
abbrev F.q21 : Nat := 56
abbrev F.q49 : Nat := 57
abbrev F.q22 : Nat := 58
abbrev F.q44 : Nat := 59
abbrev F.q23 : Nat := 60
abbrev F.q30 : Nat := 61
abbrev F.q24 : Nat := 62
abbrev F.q50 : Nat := 63
abbrev F.q62 : Nat := 64
abbrev F.q25 : Nat := 65
abbrev F.q48 : Nat := 66
abbrev F.q26 : Nat := 67
abbrev F.q38 : Nat := 68
abbrev F.q27 : Nat := 69
abbrev F.q31 : Nat := 70
abbrev F.q29 : Nat := 71
abbrev F.q117 : Nat := 72
abbrev F.q14 : Nat := 73
abbrev F.q92 : Nat := 74
abbrev F.q94 : Nat := 75
abbrev F.q115 : Nat := 76
abbrev F.q107 : Nat := 77
abbrev F.q99 : Nat := 78
abbrev F.q0 : Nat := 79
abbrev F.q101 : Nat := 80
abbrev F.q106 : Nat := 81
abbrev F.q2 : Nat := 82
abbrev F.q15 : Nat := 83
abbrev F.q95 : Nat := 84
abbrev F.q104 : Nat := 85
abbrev F.q102 : Nat := 86
abbrev F.q12 : Nat := 87
abbrev F.q118 : Nat := 88
abbrev F.q54 : Nat := 89
abbrev F.q64 : Nat := 90
abbrev F.q33 : Nat := 91
abbrev F.q63 : Nat := 92
abbrev F.q34 : Nat := 93
abbrev F.q51 : Nat := 94
abbrev F.q35 : Nat := 95
abbrev F.q65 : Nat := 96
abbrev F.q36 : Nat := 97
abbrev F.q55 : Nat := 98
abbrev F.q66 : Nat := 99
abbrev F.q61 : Nat := 100
abbrev F.q45 : Nat := 101
abbrev F.q46 : Nat := 102
abbrev F.q39 : Nat := 103
abbrev F.q40 : Nat := 104
abbrev F.q41 : Nat := 105
abbrev F.q42 : Nat := 106
abbrev F.q43 : Nat := 107
abbrev F.q56 : Nat := 108
abbrev F.q58 : Nat := 109
abbrev F.q60 : Nat := 110
abbrev F.q57 : Nat := 111
abbrev F.q59 : Nat := 112
abbrev F.q109 : Nat := 113
abbrev F.q108 : Nat := 114
abbrev F.q105 : Nat := 115
abbrev F.q103 : Nat := 116
abbrev F.q67 : Nat := 117
abbrev F.q71 : Nat := 118
abbrev F.q68 : Nat := 119
abbrev F.q70 : Nat := 120
abbrev F.q69 : Nat := 121
abbrev F.runtime_boundsError_Error : Nat := 122
abbrev F.runtime_boundsError_RuntimeError : Nat := 123
abbrev F.runtime_errorString_Error : Nat := 124
abbrev F.runtime_errorString_RuntimeError : Nat := 125
abbrev F.runtime_plainError_Error : Nat := 126
abbrev F.runtime_plainError_RuntimeError : Nat := 127
abbrev F.runtime_errorAddressString_Error : Nat := 128
abbrev F.runtime_errorAddressString_RuntimeError : Nat := 129
abbrev F.runtime_TypeAssertionError_Error : Nat := 130
abbrev F.runtime_TypeAssertionError_RuntimeError : Nat := 131
abbrev F.runtime_PanicNilError_Error : Nat := 132
abbrev F.runtime_PanicNilError_RuntimeError : Nat := 133
abbrev F.internal_abi_Type_Align : Nat := 134
abbrev F.internal_runtime_maps_unhashableTypeError_Error : Nat := 135
abbrev F.internal_runtime_maps_unhashableTypeError_RuntimeError : Nat := 136
abbrev F.api_Errno_Error : Nat := 137
abbrev F.power_Grid_Left : Nat := 138
abbrev F.quiet_Chan_Denied : Nat := 139
abbrev F.internal_abi_Kind_String : Nat := 140

def C.q4_r35_b : List IOper := [
 X.m 163 7,
 X.o 164 (.call F.q72 [X.s 163, X.i (-1)]),
 X.o 165 (.un .not (X.s 164)),
 X.m 166 165,
 X.t 166 167 (.move (X.s 7)),
 X.t 166 168 (.fldAddr 3 (X.s 6)),
 X.t 166 169 (.load1 (X.s 168)),
 X.t 166 170 (.len (X.s 169)),
 X.t 166 171 (.call F.q72 [X.s 167, X.s 170]),
 X.t 166 172 (.un .not (X.s 171)),
 X.o 173 (.pick (X.s 166) (X.s 172) (.cst (.bool false))),
 X.m 4 173]
def C.q4_r35 : List IOper := C.q4_r35_b
def C.q4_r35_w := pO C.q4_r35.eq_1
def C.q4_c1 : ICode := .keep [6, 7] (.seq (.region C.q4_r35) .ret)
def C.q4_c1_w := pC C.q4_c1.eq_1
def C.q4_r8_b : List IOper := [
 X.m 53 9,
 X.o 54 (.bin .add (X.s 53) (X.i 1)),
 X.m 9 54]
def C.q4_r8 : List IOper := C.q4_r8_b
def C.q4_r8_w := pO C.q4_r8.eq_1
def C.q4_c2 : ICode := .keep [1, 6, 7, 9] (.region C.q4_r8)
def C.q4_c2_w := pC C.q4_c2.eq_1
def C.q4_r25_b : List IOper := [
 X.m 112 13,
 X.o 113 (.bin .add (X.s 112) (X.i 1)),
 X.m 13 113]
def C.q4_r25 : List IOper := C.q4_r25_b
def C.q4_r25_w := pO C.q4_r25.eq_1
def C.q4_c3 : ICode := .keep [1, 6, 7, 9, 13] (.region C.q4_r25)
def C.q4_c3_w := pC C.q4_c3.eq_1
def C.q4_r32_b : List IOper := [
 X.m 149 16,
 X.o 150 (.bin .add (X.s 149) (X.i 1)),
 X.m 16 150]
def C.q4_r32 : List IOper := C.q4_r32_b
def C.q4_r32_w := pO C.q4_r32.eq_1
def C.q4_c4 : ICode := .keep [1, 6, 7, 9, 13, 15, 16] (.region C.q4_r32)
def C.q4_c4_w := pC C.q4_c4.eq_1
def C.q4_r34_b : List IOper := [
 X.o 4 (.move (.cst (.bool false)))]
def C.q4_r34 : List IOper := C.q4_r34_b
def C.q4_r34_w := pO C.q4_r34.eq_1
def C.q4_c5 : ICode := .seq (.region C.q4_r34) .ret
def C.q4_c5_w := pC C.q4_c5.eq_1
def C.q4_c6 : ICode := .keep [1, 6, 7, 9, 13, 15, 16, 162] (.cond (X.s 162) C.q4_c5 .skip)
def C.q4_c6_w := pC C.q4_c6.eq_1
def C.q4_r33_b : List IOper := [
 X.m 151 7,
 X.m 152 13,
 X.o 153 (.call F.q72 [X.s 151, X.s 152]),
 X.m 154 153,
 X.t 154 155 (.move (X.s 7)),
 X.t 154 156 (.move (X.s 15)),
 X.t 154 157 (.move (X.s 16)),
 X.t 154 158 (.idxAddr 1 (X.s 156) (X.s 157)),
 X.t 154 159 (.load1 (X.s 158)),
 X.t 154 160 (.call F.q80 [X.s 155, X.s 159]),
 X.t 154 161 (.un .not (X.s 160)),
 X.o 162 (.pick (X.s 154) (X.s 161) (.cst (.bool false)))]
def C.q4_r33 : List IOper := C.q4_r33_b
def C.q4_r33_w := pO C.q4_r33.eq_1
def C.q4_b7 : ICode := .seq (.region C.q4_r33) C.q4_c6
def C.q4_b7_w := pC C.q4_b7.eq_1
def C.q4_c8 : ICode := .keep [1, 6, 7, 9, 13, 15, 16] (.seq (.block 6 C.q4_b7) C.q4_c4)
def C.q4_c8_w := pC C.q4_c8.eq_1
def C.q4_c9 : ICode := .keep [1, 6, 7, 9, 13, 15, 16, 148] (.cond (X.s 148) .skip (.exit 5))
def C.q4_c9_w := pC C.q4_c9.eq_1
def C.q4_r31_b : List IOper := [
 X.m 145 16,
 X.m 146 15,
 X.o 147 (.len (X.s 146)),
 X.o 148 (.bin .lss (X.s 145) (X.s 147))]
def C.q4_r31 : List IOper := C.q4_r31_b
def C.q4_r31_w := pO C.q4_r31.eq_1
def C.q4_l10 : ICode := .keep [1, 6, 7, 9, 13, 15, 16] (.seq (.seq (.region C.q4_r31) C.q4_c9) C.q4_c8)
def C.q4_l10_w := pC C.q4_l10.eq_1
def C.q4_b11 : ICode := .loop C.q4_l10
def C.q4_b11_w := pC C.q4_b11.eq_1
def C.q4_c12 : ICode := .keep [1, 6, 7, 9, 13, 15, 16] (.block 5 C.q4_b11)
def C.q4_c12_w := pC C.q4_c12.eq_1
def C.q4_r30_b : List IOper := [
 X.o 16 (.move (X.i 0))]
def C.q4_r30 : List IOper := C.q4_r30_b
def C.q4_r30_w := pO C.q4_r30.eq_1
def C.q4_c13 : ICode := .keep [1, 6, 7, 9, 13, 15] (.seq (.region C.q4_r30) C.q4_c12)
def C.q4_c13_w := pC C.q4_c13.eq_1
def C.q4_r29_b : List IOper := [
 X.m 141 7,
 X.o 142 (.fldAddr 0 (X.s 14)),
 X.o 143 (.load1 (X.s 142)),
 X.o 144 (.call F.q74 [X.s 141, X.s 143]),
 X.m 15 144]
def C.q4_r29 : List IOper := C.q4_r29_b
def C.q4_r29_w := pO C.q4_r29.eq_1
def C.q4_c14 : ICode := .keep [1, 6, 7, 9, 13, 14] (.seq (.region C.q4_r29) C.q4_c13)
def C.q4_c14_w := pC C.q4_c14.eq_1
def C.q4_r28_b : List IOper := [
 X.o 4 (.move (.cst (.bool false)))]
def C.q4_r28 : List IOper := C.q4_r28_b
def C.q4_r28_w := pO C.q4_r28.eq_1
def C.q4_c15 : ICode := .seq (.region C.q4_r28) .ret
def C.q4_c15_w := pC C.q4_c15.eq_1
def C.q4_c16 : ICode := .keep [1, 6, 7, 9, 13, 14, 140] (.cond (X.s 140) C.q4_c15 .skip)
def C.q4_c16_w := pC C.q4_c16.eq_1
def C.q4_r27_b : List IOper := [
 X.m 119 7,
 X.m 120 13,
 X.m 122 7,
 X.o 123 (.fldAddr 0 (X.s 14)),
 X.o 124 (.load1 (X.s 123)),
 ⟨some 121, .call F.q72 [X.s 119, X.s 120], none, [⟨.load1 (X.s 123), 124, none⟩], []⟩,
 X.o 125 (.call F.q80 [X.s 122, X.s 124]),
 X.m 126 125,
 X.t 126 127 (.move (X.s 7)),
 X.t 126 128 (.fldAddr 1 (X.s 14)),
 X.t 126 129 (.load1 (X.s 128)),
 X.t 126 130 (.call F.q78 [X.s 127, X.s 129]),
 X.t 126 131 (.bin .eql (X.s 130) (.cst (.int .u8 49))),
 X.o 132 (.pick (X.s 126) (X.s 131) (.cst (.bool false))),
 X.m 133 132,
 X.t 133 134 (.move (X.s 7)),
 X.t 133 135 (.fldAddr 2 (X.s 14)),
 X.t 133 136 (.load1 (X.s 135)),
 X.t 133 137 (.call F.q77 [X.s 134, X.s 136]),
 X.t 133 138 (.un .not (X.s 137)),
 X.o 139 (.pick (X.s 133) (X.s 138) (.cst (.bool false))),
 X.o 140 (.eqB true (X.s 121) (X.s 139))]
def C.q4_r27 : List IOper := C.q4_r27_b
def C.q4_r27_w := pO C.q4_r27.eq_1
def C.q4_c17 : ICode := .keep [1, 6, 7, 9, 13, 14] (.seq (.seq (.region C.q4_r27) C.q4_c16) C.q4_c14)
def C.q4_c17_w := pC C.q4_c17.eq_1
def C.q4_r26_b : List IOper := [
 X.o 114 (.fldAddr 3 (X.s 6)),
 X.o 115 (.load1 (X.s 114)),
 X.m 116 13,
 X.o 117 (.idxAddr 6 (X.s 115) (X.s 116)),
 X.o 118 (.loadN 6 (X.s 117)),
 X.o 14 (.alloc [.int .i64 0, .int .i64 0, .int .i64 0, .int .u32 0, .nils, .nils]),
 X.n (.storeN 6 (X.s 14) (X.s 118))]
def C.q4_r26 : List IOper := C.q4_r26_b
def C.q4_r26_w := pO C.q4_r26.eq_1
def C.q4_b18 : ICode := .seq (.region C.q4_r26) C.q4_c17
def C.q4_b18_w := pC C.q4_b18.eq_1
def C.q4_c19 : ICode := .keep [1, 6, 7, 9, 13] (.seq (.block 4 C.q4_b18) C.q4_c3)
def C.q4_c19_w := pC C.q4_c19.eq_1
def C.q4_c20 : ICode := .keep [1, 6, 7, 9, 13, 111] (.cond (X.s 111) .skip (.exit 3))
def C.q4_c20_w := pC C.q4_c20.eq_1
def C.q4_r24_b : List IOper := [
 X.m 107 13,
 X.o 108 (.fldAddr 3 (X.s 6)),
 X.o 109 (.load1 (X.s 108)),
 X.o 110 (.len (X.s 109)),
 X.o 111 (.bin .lss (X.s 107) (X.s 110))]
def C.q4_r24 : List IOper := C.q4_r24_b
def C.q4_r24_w := pO C.q4_r24.eq_1
def C.q4_l21 : ICode := .keep [1, 6, 7, 9, 13] (.seq (.seq (.region C.q4_r24) C.q4_c20) C.q4_c19)
def C.q4_l21_w := pC C.q4_l21.eq_1
def C.q4_b22 : ICode := .loop C.q4_l21
def C.q4_b22_w := pC C.q4_b22.eq_1
def C.q4_c23 : ICode := .keep [1, 6, 7, 9, 13] (.block 3 C.q4_b22)
def C.q4_c23_w := pC C.q4_c23.eq_1
def C.q4_r23_b : List IOper := [
 X.o 13 (.move (X.i 0))]
def C.q4_r23 : List IOper := C.q4_r23_b
def C.q4_r23_w := pO C.q4_r23.eq_1
def C.q4_c24 : ICode := .keep [1, 6, 7, 9] (.seq (.region C.q4_r23) C.q4_c23)
def C.q4_c24_w := pC C.q4_c24.eq_1
def C.q4_r14_b : List IOper := [
 X.m 72 7,
 X.m 73 11,
 X.o 74 (.fldAddr 2 (X.s 10)),
 X.o 75 (.load1 (X.s 74)),
 X.o 76 (.bin .rem (X.s 75) (X.i 8)),
 X.o 77 (.bin .gtr (X.s 76) (X.i 0)),
 X.o 78 (.call F.q76 [X.s 72, X.s 73, X.s 77])]
def C.q4_r14 : List IOper := C.q4_r14_b
def C.q4_r14_w := pO C.q4_r14.eq_1
def C.q4_r16_b : List IOper := [
 X.m 82 7,
 X.m 83 11,
 X.o 84 (.call F.q82 [X.s 82, X.s 83])]
def C.q4_r16 : List IOper := C.q4_r16_b
def C.q4_r16_w := pO C.q4_r16.eq_1
def C.q4_r18_b : List IOper := [
 X.m 88 7,
 X.m 89 11,
 X.o 90 (.fldAddr 2 (X.s 10)),
 X.o 91 (.load1 (X.s 90)),
 X.o 92 (.bin .rem (X.s 91) (X.i 2)),
 X.o 93 (.bin .eql (X.s 92) (X.i 0)),
 X.o 94 (.call F.q75 [X.s 88, X.s 89, X.s 93])]
def C.q4_r18 : List IOper := C.q4_r18_b
def C.q4_r18_w := pO C.q4_r18.eq_1
def C.q4_r20_b : List IOper := [
 X.m 98 7,
 X.m 99 11,
 X.o 100 (.call F.q73 [X.s 98, X.s 99])]
def C.q4_r20 : List IOper := C.q4_r20_b
def C.q4_r20_w := pO C.q4_r20.eq_1
def C.q4_r22_b : List IOper := [
 X.m 104 7,
 X.m 105 11,
 X.o 106 (.call F.q79 [X.s 104, X.s 105])]
def C.q4_r22 : List IOper := C.q4_r22_b
def C.q4_r22_w := pO C.q4_r22.eq_1
def C.q4_r12_b : List IOper := [
 X.m 65 7,
 X.o 66 (.fldAddr 3 (X.s 10)),
 X.o 67 (.load1 (X.s 66)),
 X.o 68 (.call F.q81 [X.s 65, X.s 67])]
def C.q4_r12 : List IOper := C.q4_r12_b
def C.q4_r12_w := pO C.q4_r12.eq_1
def C.q4_c25 : ICode := .region C.q4_r22
def C.q4_c25_w := pC C.q4_c25.eq_1
def C.q4_c26 : ICode := .region C.q4_r12
def C.q4_c26_w := pC C.q4_c26.eq_1
def C.q4_c27 : ICode := .keep [1, 6, 7, 9, 10, 11, 101] (.cond (X.s 101) C.q4_c25 C.q4_c26)
def C.q4_c27_w := pC C.q4_c27.eq_1
def C.q4_r21_b : List IOper := [
 X.m 102 12,
 X.o 103 (.bin .lss (X.s 102) (X.i 13)),
 X.m 101 103]
def C.q4_r21 : List IOper := C.q4_r21_b
def C.q4_r21_w := pO C.q4_r21.eq_1
def C.q4_c28 : ICode := .region C.q4_r20
def C.q4_c28_w := pC C.q4_c28.eq_1
def C.q4_c29 : ICode := .seq (.region C.q4_r21) C.q4_c27
def C.q4_c29_w := pC C.q4_c29.eq_1
def C.q4_c30 : ICode := .keep [1, 6, 7, 9, 10, 11, 12, 95] (.cond (X.s 95) C.q4_c28 C.q4_c29)
def C.q4_c30_w := pC C.q4_c30.eq_1
def C.q4_r19_b : List IOper := [
 X.m 96 12,
 X.o 97 (.bin .eql (X.s 96) (X.i 9)),
 X.m 95 97]
def C.q4_r19 : List IOper := C.q4_r19_b
def C.q4_r19_w := pO C.q4_r19.eq_1
def C.q4_c31 : ICode := .region C.q4_r18
def C.q4_c31_w := pC C.q4_c31.eq_1
def C.q4_c32 : ICode := .seq (.region C.q4_r19) C.q4_c30
def C.q4_c32_w := pC C.q4_c32.eq_1
def C.q4_c33 : ICode := .keep [1, 6, 7, 9, 10, 11, 12, 85] (.cond (X.s 85) C.q4_c31 C.q4_c32)
def C.q4_c33_w := pC C.q4_c33.eq_1
def C.q4_r17_b : List IOper := [
 X.m 86 12,
 X.o 87 (.bin .eql (X.s 86) (X.i 8)),
 X.m 85 87]
def C.q4_r17 : List IOper := C.q4_r17_b
def C.q4_r17_w := pO C.q4_r17.eq_1
def C.q4_c34 : ICode := .region C.q4_r16
def C.q4_c34_w := pC C.q4_c34.eq_1
def C.q4_c35 : ICode := .seq (.region C.q4_r17) C.q4_c33
def C.q4_c35_w := pC C.q4_c35.eq_1
def C.q4_c36 : ICode := .keep [1, 6, 7, 9, 10, 11, 12, 79] (.cond (X.s 79) C.q4_c34 C.q4_c35)
def C.q4_c36_w := pC C.q4_c36.eq_1
def C.q4_r15_b : List IOper := [
 X.m 80 12,
 X.o 81 (.bin .lss (X.s 80) (X.i 8)),
 X.m 79 81]
def C.q4_r15 : List IOper := C.q4_r15_b
def C.q4_r15_w := pO C.q4_r15.eq_1
def C.q4_c37 : ICode := .region C.q4_r14
def C.q4_c37_w := pC C.q4_c37.eq_1
def C.q4_c38 : ICode := .seq (.region C.q4_r15) C.q4_c36
def C.q4_c38_w := pC C.q4_c38.eq_1
def C.q4_c39 : ICode := .keep [1, 6, 7, 9, 10, 11, 12, 69] (.cond (X.s 69) C.q4_c37 C.q4_c38)
def C.q4_c39_w := pC C.q4_c39.eq_1
def C.q4_r13_b : List IOper := [
 X.m 70 12,
 X.o 71 (.bin .lss (X.s 70) (X.i 4)),
 X.m 69 71]
def C.q4_r13 : List IOper := C.q4_r13_b
def C.q4_r13_w := pO C.q4_r13.eq_1
def C.q4_b40 : ICode := .seq (.region C.q4_r13) C.q4_c39
def C.q4_b40_w := pC C.q4_b40.eq_1
def C.q4_c41 : ICode := .keep [1, 6, 7, 9, 10, 11, 12] (.block 2 C.q4_b40)
def C.q4_c41_w := pC C.q4_c41.eq_1
def C.q4_r11_b : List IOper := [
 X.o 62 (.fldAddr 0 (X.s 10)),
 X.o 63 (.load1 (X.s 62)),
 X.o 64 (.call F.q6 [X.s 63, X.i 20]),
 X.m 12 64]
def C.q4_r11 : List IOper := C.q4_r11_b
def C.q4_r11_w := pO C.q4_r11.eq_1
def C.q4_c42 : ICode := .keep [1, 6, 7, 9, 10, 11] (.seq (.seq (.region C.q4_r11) C.q4_c41) C.q4_c24)
def C.q4_c42_w := pC C.q4_c42.eq_1
def C.q4_r10_b : List IOper := [
 X.o 59 (.fldAddr 1 (X.s 10)),
 X.o 60 (.load1 (X.s 59)),
 X.o 61 (.call F.q6 [X.s 60, X.i 6]),
 X.m 11 61]
def C.q4_r10 : List IOper := C.q4_r10_b
def C.q4_r10_w := pO C.q4_r10.eq_1
def C.q4_c43 : ICode := .keep [1, 6, 7, 9, 10] (.seq (.region C.q4_r10) C.q4_c42)
def C.q4_c43_w := pC C.q4_c43.eq_1
def C.q4_r9_b : List IOper := [
 X.m 55 1,
 X.m 56 9,
 X.o 57 (.idxAddr 4 (X.s 55) (X.s 56)),
 X.o 58 (.loadN 4 (X.s 57)),
 X.o 10 (.alloc [.int .i64 0, .int .i64 0, .int .i64 0, .int .u32 0]),
 X.n (.storeN 4 (X.s 10) (X.s 58))]
def C.q4_r9 : List IOper := C.q4_r9_b
def C.q4_r9_w := pO C.q4_r9.eq_1
def C.q4_b44 : ICode := .seq (.region C.q4_r9) C.q4_c43
def C.q4_b44_w := pC C.q4_b44.eq_1
def C.q4_c45 : ICode := .keep [1, 6, 7, 9] (.seq (.block 1 C.q4_b44) C.q4_c2)
def C.q4_c45_w := pC C.q4_c45.eq_1
def C.q4_c46 : ICode := .keep [1, 6, 7, 9, 52] (.cond (X.s 52) .skip (.exit 0))
def C.q4_c46_w := pC C.q4_c46.eq_1
def C.q4_r7_b : List IOper := [
 X.m 49 9,
 X.m 50 1,
 X.o 51 (.len (X.s 50)),
 X.o 52 (.bin .lss (X.s 49) (X.s 51))]
def C.q4_r7 : List IOper := C.q4_r7_b
def C.q4_r7_w := pO C.q4_r7.eq_1
def C.q4_l47 : ICode := .keep [1, 6, 7, 9] (.seq (.seq (.region C.q4_r7) C.q4_c46) C.q4_c45)
def C.q4_l47_w := pC C.q4_l47.eq_1
def C.q4_b48 : ICode := .loop C.q4_l47
def C.q4_b48_w := pC C.q4_b48.eq_1
def C.q4_c49 : ICode := .keep [1, 6, 7, 9] (.block 0 C.q4_b48)
def C.q4_c49_w := pC C.q4_c49.eq_1
def C.q4_r6_b : List IOper := [
 X.o 9 (.move (X.i 0))]
def C.q4_r6 : List IOper := C.q4_r6_b
def C.q4_r6_w := pO C.q4_r6.eq_1
def C.q4_c50 : ICode := .keep [1, 6, 7] (.seq (.seq (.region C.q4_r6) C.q4_c49) C.q4_c1)
def C.q4_c50_w := pC C.q4_c50.eq_1
def C.q4_r5_b : List IOper := [
 X.m 40 5,
 X.m 41 40,
 X.t 41 42 (.move (X.s 7)),
 X.t 41 43 (.eqP 0 true (X.s 42) (.cst (.nilp))),
 X.o 44 (.pick (X.s 41) (X.s 43) (.cst (.bool false))),
 X.m 45 44,
 X.t 45 46 (.move (X.s 8)),
 X.t 45 47 (.bin .eql (X.s 46) (X.i 0)),
 X.o 48 (.pick (X.s 45) (X.s 47) (.cst (.bool false))),
 X.m 4 48]
def C.q4_r5 : List IOper := C.q4_r5_b
def C.q4_r5_w := pO C.q4_r5.eq_1
def C.q4_c51 : ICode := .seq (.region C.q4_r5) .ret
def C.q4_c51_w := pC C.q4_c51.eq_1
def C.q4_c52 : ICode := .keep [1, 5, 6, 7, 8, 39] (.cond (X.s 39) C.q4_c51 .skip)
def C.q4_c52_w := pC C.q4_c52.eq_1
def C.q4_r4_b : List IOper := [
 X.m 25 5,
 X.o 26 (.un .not (X.s 25)),
 X.m 27 26,
 X.f 27 28 (.move (X.s 7)),
 X.f 27 29 (.eqP 0 false (X.s 28) (.cst (.nilp))),
 X.o 30 (.pick (X.s 27) (.cst (.bool true)) (X.s 29)),
 X.m 31 30,
 X.f 31 32 (.move (X.s 8)),
 X.f 31 33 (.bin .neq (X.s 32) (X.i 0)),
 X.o 34 (.pick (X.s 31) (.cst (.bool true)) (X.s 33)),
 X.m 35 34,
 X.f 35 36 (.move (X.s 1)),
 X.f 35 37 (.len (X.s 36)),
 X.f 35 38 (.bin .gtr (X.s 37) (X.i 120)),
 X.o 39 (.pick (X.s 35) (.cst (.bool true)) (X.s 38))]
def C.q4_r4 : List IOper := C.q4_r4_b
def C.q4_r4_w := pO C.q4_r4.eq_1
def C.q4_c53 : ICode := .keep [1, 5, 6, 7, 8] (.seq (.seq (.region C.q4_r4) C.q4_c52) C.q4_c50)
def C.q4_c53_w := pC C.q4_c53.eq_1
def C.q4_r3_b : List IOper := [
 X.o 21 (.loadN 4 (X.s 6)),
 X.o 22 (.call F.q86 [X.s 21]),
 X.m 20 22,
 X.o 23 (.extract (X.s 20) 0),
 X.o 24 (.extract (X.s 20) 1),
 X.m 7 23,
 X.m 8 24]
def C.q4_r3 : List IOper := C.q4_r3_b
def C.q4_r3_w := pO C.q4_r3.eq_1
def C.q4_c54 : ICode := .keep [1, 5, 6] (.seq (.region C.q4_r3) C.q4_c53)
def C.q4_c54_w := pC C.q4_c54.eq_1
def C.q4_r2_b : List IOper := [
 X.m 18 0,
 X.o 19 (.call F.q5 [X.s 18]),
 X.o 6 (.alloc [.nils, .nils, .nils, .nils]),
 X.n (.storeN 4 (X.s 6) (X.s 19))]
def C.q4_r2 : List IOper := C.q4_r2_b
def C.q4_r2_w := pO C.q4_r2.eq_1
def C.q4_c55 : ICode := .keep [0, 1, 5] (.seq (.region C.q4_r2) C.q4_c54)
def C.q4_c55_w := pC C.q4_c55.eq_1
def C.q4_r1_b : List IOper := [
 X.o 17 (.call F.q7 []),
 X.m 5 17]
def C.q4_r1 : List IOper := C.q4_r1_b
def C.q4_r1_w := pO C.q4_r1.eq_1
def C.q4_c56 : ICode := .keep [0, 1] (.seq (.region C.q4_r1) C.q4_c55)
def C.q4_c56_w := pC C.q4_c56.eq_1
def C.q4_r0_b : List IOper := [
 X.o 4 (.move (.cst (.bool false)))]
def C.q4_r0 : List IOper := C.q4_r0_b
def C.q4_r0_w := pO C.q4_r0.eq_1
def C.q4 : IFunc := ⟨2, [.slot 4], .seq (.region C.q4_r0) C.q4_c56⟩
def C.q4_W := aI (aI (aI (aI (aI (aI @C.q4_r35_w @C.q4_c1_w) (aI @C.q4_r8_w (aI @C.q4_c2_w @C.q4_r25_w))) (aI (aI @C.q4_c3_w (aI @C.q4_r32_w @C.q4_c4_w)) (aI @C.q4_r34_w (aI @C.q4_c5_w @C.q4_c6_w)))) (aI (aI (aI @C.q4_r33_w @C.q4_b7_w) (aI @C.q4_c8_w (aI @C.q4_c9_w @C.q4_r31_w))) (aI (aI @C.q4_b11_w (aI @C.q4_c12_w @C.q4_r30_w)) (aI @C.q4_c13_w (aI @C.q4_r29_w @C.q4_c14_w))))) (aI (aI (aI (aI @C.q4_r28_w @C.q4_c15_w) (aI @C.q4_c16_w (aI @C.q4_r27_w @C.q4_c17_w))) (aI (aI @C.q4_r26_w (aI @C.q4_b18_w @C.q4_c19_w)) (aI @C.q4_c20_w (aI @C.q4_r24_w @C.q4_b22_w)))) (aI (aI (aI @C.q4_c23_w @C.q4_r23_w) (aI @C.q4_c24_w (aI @C.q4_r14_w @C.q4_r16_w))) (aI (aI @C.q4_r18_w (aI @C.q4_r20_w @C.q4_r22_w)) (aI @C.q4_r12_w (aI @C.q4_c25_w @C.q4_c26_w)))))) (aI (aI (aI (aI (aI @C.q4_c27_w @C.q4_r21_w) (aI @C.q4_c28_w (aI @C.q4_c29_w @C.q4_c30_w))) (aI (aI @C.q4_r19_w (aI @C.q4_c31_w @C.q4_c32_w)) (aI @C.q4_c33_w (aI @C.q4_r17_w @C.q4_c34_w)))) (aI (aI (aI @C.q4_c35_w @C.q4_c36_w) (aI @C.q4_r15_w (aI @C.q4_c37_w @C.q4_c38_w))) (aI (aI @C.q4_c39_w (aI @C.q4_r13_w @C.q4_b40_w)) (aI @C.q4_c41_w (aI @C.q4_r11_w @C.q4_c42_w))))) (aI (aI (aI (aI @C.q4_r10_w @C.q4_c43_w) (aI @C.q4_r9_w (aI @C.q4_b44_w @C.q4_c45_w))) (aI (aI @C.q4_c46_w (aI @C.q4_r7_w @C.q4_b48_w)) (aI @C.q4_c49_w (aI @C.q4_r6_w @C.q4_c50_w)))) (aI (aI (aI @C.q4_r5_w (aI @C.q4_c51_w @C.q4_c52_w)) (aI @C.q4_r4_w (aI @C.q4_c53_w @C.q4_r3_w))) (aI (aI @C.q4_c54_w (aI @C.q4_r2_w @C.q4_c55_w)) (aI @C.q4_r1_w (aI @C.q4_c56_w @C.q4_r0_w))))))
def C.q4_B := aI (aI (aI (aI (aI @C.q4_r35_b.eq_1 @C.q4_r8_b.eq_1) (aI @C.q4_r25_b.eq_1 @C.q4_r32_b.eq_1)) (aI (aI @C.q4_r34_b.eq_1 @C.q4_r33_b.eq_1) (aI @C.q4_r31_b.eq_1 (aI @C.q4_r30_b.eq_1 @C.q4_r29_b.eq_1)))) (aI (aI (aI @C.q4_r28_b.eq_1 @C.q4_r27_b.eq_1) (aI @C.q4_r26_b.eq_1 @C.q4_r24_b.eq_1)) (aI (aI @C.q4_r23_b.eq_1 @C.q4_r14_b.eq_1) (aI @C.q4_r16_b.eq_1 (aI @C.q4_r18_b.eq_1 @C.q4_r20_b.eq_1))))) (aI (aI (aI (aI @C.q4_r22_b.eq_1 @C.q4_r12_b.eq_1) (aI @C.q4_r21_b.eq_1 @C.q4_r19_b.eq_1)) (aI (aI @C.q4_r17_b.eq_1 @C.q4_r15_b.eq_1) (aI @C.q4_r13_b.eq_1 (aI @C.q4_r11_b.eq_1 @C.q4_r10_b.eq_1)))) (aI (aI (aI @C.q4_r9_b.eq_1 @C.q4_r7_b.eq_1) (aI @C.q4_r6_b.eq_1 @C.q4_r5_b.eq_1)) (aI (aI @C.q4_r4_b.eq_1 @C.q4_r3_b.eq_1) (aI @C.q4_r2_b.eq_1 (aI @C.q4_r1_b.eq_1 @C.q4_r0_b.eq_1)))))

def C.q7_r6_b : List IOper := [
 X.m 28 2,
 X.o 29 (.call F.q72 [X.s 28, X.i 0]),
 X.o 30 (.un .not (X.s 29)),
 X.m 31 30,
 X.t 31 32 (.move (X.s 2)),
 X.t 31 33 (.call F.q82 [X.s 32, X.i 0]),
 X.t 31 34 (.bin .eql (X.s 33) (X.i 0)),
 X.o 35 (.pick (X.s 31) (X.s 34) (.cst (.bool false))),
 X.m 36 35,
 X.t 36 37 (.move (X.s 2)),
 X.t 36 38 (.call F.q80 [X.s 37, X.i 0]),
 X.o 39 (.pick (X.s 36) (X.s 38) (.cst (.bool false))),
 X.m 0 39]
def C.q7_r6 : List IOper := C.q7_r6_b
def C.q7_r6_w := pO C.q7_r6.eq_1
def C.q7_c1 : ICode := .keep [2] (.seq (.region C.q7_r6) .ret)
def C.q7_c1_w := pC C.q7_c1.eq_1
def C.q7_r5_b : List IOper := [
 X.m 26 2,
 X.o 27 (.call F.q81 [X.s 26, .cst (.int .u32 0)])]
def C.q7_r5 : List IOper := C.q7_r5_b
def C.q7_r5_w := pO C.q7_r5.eq_1
def C.q7_c2 : ICode := .keep [2] (.seq (.region C.q7_r5) C.q7_c1)
def C.q7_c2_w := pC C.q7_c2.eq_1
def C.q7_r4_b : List IOper := [
 X.o 0 (.move (.cst (.bool false)))]
def C.q7_r4 : List IOper := C.q7_r4_b
def C.q7_r4_w := pO C.q7_r4.eq_1
def C.q7_c3 : ICode := .seq (.region C.q7_r4) .ret
def C.q7_c3_w := pC C.q7_c3.eq_1
def C.q7_c4 : ICode := .keep [2, 25] (.cond (X.s 25) C.q7_c3 .skip)
def C.q7_c4_w := pC C.q7_c4.eq_1
def C.q7_r3_b : List IOper := [
 X.m 20 2,
 X.o 21 (.eqP 0 false (X.s 20) (.cst (.nilp))),
 X.m 22 21,
 X.f 22 23 (.move (X.s 3)),
 X.f 22 24 (.bin .neq (X.s 23) (X.i 0)),
 X.o 25 (.pick (X.s 22) (.cst (.bool true)) (X.s 24))]
def C.q7_r3 : List IOper := C.q7_r3_b
def C.q7_r3_w := pO C.q7_r3.eq_1
def C.q7_c5 : ICode := .keep [2, 3] (.seq (.seq (.region C.q7_r3) C.q7_c4) C.q7_c2)
def C.q7_c5_w := pC C.q7_c5.eq_1
def C.q7_r2_b : List IOper := [
 X.o 16 (.loadN 4 (X.s 1)),
 X.o 17 (.call F.q86 [X.s 16]),
 X.m 15 17,
 X.o 18 (.extract (X.s 15) 0),
 X.o 19 (.extract (X.s 15) 1),
 X.m 2 18,
 X.m 3 19]
def C.q7_r2 : List IOper := C.q7_r2_b
def C.q7_r2_w := pO C.q7_r2.eq_1
def C.q7_c6 : ICode := .keep [1] (.seq (.region C.q7_r2) C.q7_c5)
def C.q7_c6_w := pC C.q7_c6.eq_1
def C.q7_r1_b : List IOper := [
 X.o 4 (.build [.int .u8 0, .nils, .int .u64 0, .int .i64 0, .int .i64 0, .int .i64 0] [(0, 1, .cst (.int .u8 111)), (2, 1, .cst (.int .u64 1))]),
 X.o 5 (.buildSlice 6 1 [.int .u8 0, .nils, .int .u64 0, .int .i64 0, .int .i64 0, .int .i64 0] [(0, 6, X.s 4)]),
 X.o 6 (.build [.int .i64 0, .int .i64 0, .bool false] [(0, 1, X.i (-1))]),
 X.o 7 (.buildSlice 3 1 [.int .i64 0, .int .i64 0, .bool false] [(0, 3, X.s 6)]),
 X.o 8 (.build [.int .i64 0] []),
 X.o 9 (.buildSlice 1 1 [.int .i64 0] [(0, 1, X.s 8)]),
 X.o 10 (.build [.int .u32 0, .bool false] [(0, 1, .cst (.int .u32 5))]),
 X.o 11 (.buildSlice 2 1 [.int .u32 0, .bool false] [(0, 2, X.s 10)]),
 X.o 12 (.build [.int .i64 0, .int .i64 0, .int .i64 0, .int .u32 0, .nils, .nils] [(4, 1, X.s 11)]),
 X.o 13 (.buildSlice 6 1 [.int .i64 0, .int .i64 0, .int .i64 0, .int .u32 0, .nils, .nils] [(0, 6, X.s 12)]),
 X.o 14 (.build [.nils, .nils, .nils, .nils] [(0, 1, X.s 5), (1, 1, X.s 7), (2, 1, X.s 9), (3, 1, X.s 13)]),
 X.o 1 (.alloc [.nils, .nils, .nils, .nils]),
 X.n (.storeN 4 (X.s 1) (X.s 14))]
def C.q7_r1 : List IOper := C.q7_r1_b
def C.q7_r1_w := pO C.q7_r1.eq_1
def C.q7_c7 : ICode := .keep [] (.seq (.region C.q7_r1) C.q7_c6)
def C.q7_c7_w := pC C.q7_c7.eq_1
def C.q7_r0_b : List IOper := [
 X.o 0 (.move (.cst (.bool false)))]
def C.q7_r0 : List IOper := C.q7_r0_b
def C.q7_r0_w := pO C.q7_r0.eq_1
def C.q7 : IFunc := ⟨0, [.slot 0], .seq (.region C.q7_r0) C.q7_c7⟩
def C.q7_W := aI (aI (aI @C.q7_r6_w (aI @C.q7_c1_w @C.q7_r5_w)) (aI (aI @C.q7_c2_w @C.q7_r4_w) (aI @C.q7_c3_w @C.q7_c4_w))) (aI (aI @C.q7_r3_w (aI @C.q7_c5_w @C.q7_r2_w)) (aI (aI @C.q7_c6_w @C.q7_r1_w) (aI @C.q7_c7_w @C.q7_r0_w)))
def C.q7_B := aI (aI @C.q7_r6_b.eq_1 (aI @C.q7_r5_b.eq_1 @C.q7_r4_b.eq_1)) (aI (aI @C.q7_r3_b.eq_1 @C.q7_r2_b.eq_1) (aI @C.q7_r1_b.eq_1 @C.q7_r0_b.eq_1))

def C.q5_r50_b : List IOper := [
 X.o 351 (.loadN 4 (X.s 6)),
 X.n (.storeN 4 (X.s 2) (X.s 351))]
def C.q5_r50 : List IOper := C.q5_r50_b
def C.q5_r50_w := pO C.q5_r50.eq_1
def C.q5_c1 : ICode := .keep [2, 6] (.seq (.region C.q5_r50) .ret)
def C.q5_c1_w := pC C.q5_c1.eq_1
def C.q5_r38_b : List IOper := [
 X.m 224 14,
 X.o 225 (.bin .add (X.s 224) (X.i 1)),
 X.m 14 225]
def C.q5_r38 : List IOper := C.q5_r38_b
def C.q5_r38_w := pO C.q5_r38.eq_1
def C.q5_c2 : ICode := .keep [2, 4, 6, 14] (.region C.q5_r38)
def C.q5_c2_w := pC C.q5_c2.eq_1
def C.q5_r49_b : List IOper := [
 X.o 345 (.fldAddr 3 (X.s 6)),
 X.o 346 (.load1 (X.s 345)),
 X.o 347 (.loadN 6 (X.s 16)),
 X.o 348 (.buildSlice 6 1 [.int .i64 0, .int .i64 0, .int .i64 0, .int .u32 0, .nils, .nils] [(0, 6, X.s 347)]),
 X.o 349 (.append 6 80 (X.s 346) (X.s 348)),
 X.o 350 (.fldAddr 3 (X.s 6)),
 X.n (.store1 (X.s 350) (X.s 349))]
def C.q5_r49 : List IOper := C.q5_r49_b
def C.q5_r49_w := pO C.q5_r49.eq_1
def C.q5_c3 : ICode := .keep [2, 4, 6, 14, 16] (.region C.q5_r49)
def C.q5_c3_w := pC C.q5_c3.eq_1
def C.q5_r48_b : List IOper := [
 X.o 332 (.fldAddr 5 (X.s 16)),
 X.o 333 (.load1 (X.s 332)),
 X.m 334 4,
 X.m 335 15,
 X.o 336 (.bin .add (X.s 335) (X.i 11)),
 X.o 337 (.idxAddr 1 (X.s 334) (X.s 336)),
 X.o 338 (.load1 (X.s 337)),
 X.o 339 (.bin .quo (X.s 338) (X.i 3)),
 X.m 340 14,
 X.o 341 (.bin .rem (X.s 339) (X.s 340)),
 X.o 342 (.buildSlice 1 1 [.int .i64 0] [(0, 1, X.s 341)]),
 X.o 343 (.append 1 8 (X.s 333) (X.s 342)),
 X.o 344 (.fldAddr 5 (X.s 16)),
 X.n (.store1 (X.s 344) (X.s 343))]
def C.q5_r48 : List IOper := C.q5_r48_b
def C.q5_r48_w := pO C.q5_r48.eq_1
def C.q5_c4 : ICode := .keep [2, 4, 6, 14, 15, 16, 331] (.cond (X.s 331) (.region C.q5_r48) .skip)
def C.q5_c4_w := pC C.q5_c4.eq_1
def C.q5_r47_b : List IOper := [
 X.m 321 14,
 X.o 322 (.bin .gtr (X.s 321) (X.i 1)),
 X.m 323 322,
 X.t 323 324 (.move (X.s 4)),
 X.t 323 325 (.move (X.s 15)),
 X.t 323 326 (.bin .add (X.s 325) (X.i 11)),
 X.t 323 327 (.idxAddr 1 (X.s 324) (X.s 326)),
 X.t 323 328 (.load1 (X.s 327)),
 X.t 323 329 (.bin .rem (X.s 328) (X.i 3)),
 X.t 323 330 (.bin .eql (X.s 329) (X.i 1)),
 X.o 331 (.pick (X.s 323) (X.s 330) (.cst (.bool false)))]
def C.q5_r47 : List IOper := C.q5_r47_b
def C.q5_r47_w := pO C.q5_r47.eq_1
def C.q5_c5 : ICode := .keep [2, 4, 6, 14, 15, 16] (.seq (.seq (.region C.q5_r47) C.q5_c4) C.q5_c3)
def C.q5_c5_w := pC C.q5_c5.eq_1
def C.q5_r46_b : List IOper := [
 X.o 309 (.fldAddr 5 (X.s 16)),
 X.o 310 (.load1 (X.s 309)),
 X.m 311 4,
 X.m 312 15,
 X.o 313 (.bin .add (X.s 312) (X.i 10)),
 X.o 314 (.idxAddr 1 (X.s 311) (X.s 313)),
 X.o 315 (.load1 (X.s 314)),
 X.m 316 14,
 X.o 317 (.bin .rem (X.s 315) (X.s 316)),
 X.o 318 (.buildSlice 1 1 [.int .i64 0] [(0, 1, X.s 317)]),
 X.o 319 (.append 1 8 (X.s 310) (X.s 318)),
 X.o 320 (.fldAddr 5 (X.s 16)),
 X.n (.store1 (X.s 320) (X.s 319))]
def C.q5_r46 : List IOper := C.q5_r46_b
def C.q5_r46_w := pO C.q5_r46.eq_1
def C.q5_c6 : ICode := .keep [2, 4, 6, 14, 15, 16, 308] (.cond (X.s 308) (.region C.q5_r46) .skip)
def C.q5_c6_w := pC C.q5_c6.eq_1
def C.q5_r45_b : List IOper := [
 X.m 298 14,
 X.o 299 (.bin .gtr (X.s 298) (X.i 0)),
 X.m 300 299,
 X.t 300 301 (.move (X.s 4)),
 X.t 300 302 (.move (X.s 15)),
 X.t 300 303 (.bin .add (X.s 302) (X.i 9)),
 X.t 300 304 (.idxAddr 1 (X.s 301) (X.s 303)),
 X.t 300 305 (.load1 (X.s 304)),
 X.t 300 306 (.bin .rem (X.s 305) (X.i 2)),
 X.t 300 307 (.bin .eql (X.s 306) (X.i 1)),
 X.o 308 (.pick (X.s 300) (X.s 307) (.cst (.bool false)))]
def C.q5_r45 : List IOper := C.q5_r45_b
def C.q5_r45_w := pO C.q5_r45.eq_1
def C.q5_c7 : ICode := .keep [2, 4, 6, 14, 15, 16] (.seq (.seq (.region C.q5_r45) C.q5_c6) C.q5_c5)
def C.q5_c7_w := pC C.q5_c7.eq_1
def C.q5_r43_b : List IOper := [
 X.m 271 17,
 X.o 272 (.bin .add (X.s 271) (X.i 1)),
 X.m 17 272]
def C.q5_r43 : List IOper := C.q5_r43_b
def C.q5_r43_w := pO C.q5_r43.eq_1
def C.q5_c8 : ICode := .keep [2, 4, 6, 14, 15, 16, 17] (.region C.q5_r43)
def C.q5_c8_w := pC C.q5_c8.eq_1
def C.q5_r44_b : List IOper := [
 X.o 273 (.fldAddr 4 (X.s 16)),
 X.o 274 (.load1 (X.s 273)),
 X.m 275 4,
 X.m 276 15,
 X.o 277 (.bin .add (X.s 276) (X.i 5)),
 X.m 278 17,
 X.o 279 (.bin .add (X.s 277) (X.s 278)),
 X.o 280 (.idxAddr 1 (X.s 275) (X.s 279)),
 X.o 281 (.load1 (X.s 280)),
 X.o 282 (.bin .rem (X.s 281) (X.i 7)),
 X.o 283 (.conv .u32 (X.s 282)),
 X.m 284 4,
 X.m 285 15,
 X.o 286 (.bin .add (X.s 285) (X.i 5)),
 X.m 287 17,
 X.o 288 (.bin .add (X.s 286) (X.s 287)),
 X.o 289 (.idxAddr 1 (X.s 284) (X.s 288)),
 X.o 290 (.load1 (X.s 289)),
 X.o 291 (.bin .quo (X.s 290) (X.i 7)),
 X.o 292 (.bin .rem (X.s 291) (X.i 2)),
 X.o 293 (.bin .eql (X.s 292) (X.i 0)),
 X.o 294 (.build [.int .u32 0, .bool false] [(0, 1, X.s 283), (1, 1, X.s 293)]),
 X.o 295 (.buildSlice 2 1 [.int .u32 0, .bool false] [(0, 2, X.s 294)]),
 X.o 296 (.append 2 8 (X.s 274) (X.s 295)),
 X.o 297 (.fldAddr 4 (X.s 16)),
 X.n (.store1 (X.s 297) (X.s 296))]
def C.q5_r44 : List IOper := C.q5_r44_b
def C.q5_r44_w := pO C.q5_r44.eq_1
def C.q5_b9 : ICode := .region C.q5_r44
def C.q5_b9_w := pC C.q5_b9.eq_1
def C.q5_c10 : ICode := .keep [2, 4, 6, 14, 15, 16, 17] (.seq (.block 12 C.q5_b9) C.q5_c8)
def C.q5_c10_w := pC C.q5_c10.eq_1
def C.q5_c11 : ICode := .keep [2, 4, 6, 14, 15, 16, 17, 270] (.cond (X.s 270) .skip (.exit 11))
def C.q5_c11_w := pC C.q5_c11.eq_1
def C.q5_r42_b : List IOper := [
 X.m 263 17,
 X.m 264 4,
 X.m 265 15,
 X.o 266 (.bin .add (X.s 265) (X.i 4)),
 X.o 267 (.idxAddr 1 (X.s 264) (X.s 266)),
 X.o 268 (.load1 (X.s 267)),
 X.o 269 (.bin .rem (X.s 268) (X.i 5)),
 X.o 270 (.bin .lss (X.s 263) (X.s 269))]
def C.q5_r42 : List IOper := C.q5_r42_b
def C.q5_r42_w := pO C.q5_r42.eq_1
def C.q5_l12 : ICode := .keep [2, 4, 6, 14, 15, 16, 17] (.seq (.seq (.region C.q5_r42) C.q5_c11) C.q5_c10)
def C.q5_l12_w := pC C.q5_l12.eq_1
def C.q5_b13 : ICode := .loop C.q5_l12
def C.q5_b13_w := pC C.q5_b13.eq_1
def C.q5_c14 : ICode := .keep [2, 4, 6, 14, 15, 16, 17] (.block 11 C.q5_b13)
def C.q5_c14_w := pC C.q5_c14.eq_1
def C.q5_r41_b : List IOper := [
 X.o 17 (.move (X.i 0))]
def C.q5_r41 : List IOper := C.q5_r41_b
def C.q5_r41_w := pO C.q5_r41.eq_1
def C.q5_c15 : ICode := .keep [2, 4, 6, 14, 15, 16] (.seq (.seq (.region C.q5_r41) C.q5_c14) C.q5_c7)
def C.q5_c15_w := pC C.q5_c15.eq_1
def C.q5_r40_b : List IOper := [
 X.m 229 4,
 X.m 230 15,
 X.o 231 (.idxAddr 1 (X.s 229) (X.s 230)),
 X.o 232 (.load1 (X.s 231)),
 X.o 233 (.fldAddr 0 (X.s 6)),
 X.o 234 (.load1 (X.s 233)),
 X.o 235 (.len (X.s 234)),
 X.o 236 (.bin .rem (X.s 232) (X.s 235)),
 X.m 237 4,
 X.m 238 15,
 X.o 239 (.bin .add (X.s 238) (X.i 1)),
 X.o 240 (.idxAddr 1 (X.s 237) (X.s 239)),
 X.o 241 (.load1 (X.s 240)),
 X.o 242 (.fldAddr 1 (X.s 6)),
 X.o 243 (.load1 (X.s 242)),
 X.o 244 (.len (X.s 243)),
 X.o 245 (.bin .rem (X.s 241) (X.s 244)),
 X.m 246 4,
 X.m 247 15,
 X.o 248 (.bin .add (X.s 247) (X.i 2)),
 X.o 249 (.idxAddr 1 (X.s 246) (X.s 248)),
 X.o 250 (.load1 (X.s 249)),
 X.o 251 (.fldAddr 2 (X.s 6)),
 X.o 252 (.load1 (X.s 251)),
 X.o 253 (.len (X.s 252)),
 X.o 254 (.bin .rem (X.s 250) (X.s 253)),
 X.m 255 4,
 X.m 256 15,
 X.o 257 (.bin .add (X.s 256) (X.i 3)),
 X.o 258 (.idxAddr 1 (X.s 255) (X.s 257)),
 X.o 259 (.load1 (X.s 258)),
 X.o 260 (.bin .rem (X.s 259) (X.i 3)),
 X.o 261 (.conv .u32 (X.s 260)),
 X.o 262 (.build [.int .i64 0, .int .i64 0, .int .i64 0, .int .u32 0, .nils, .nils] [(0, 1, X.s 236), (1, 1, X.s 245), (2, 1, X.s 254), (3, 1, X.s 261)]),
 X.o 16 (.alloc [.int .i64 0, .int .i64 0, .int .i64 0, .int .u32 0, .nils, .nils]),
 X.n (.storeN 6 (X.s 16) (X.s 262))]
def C.q5_r40 : List IOper := C.q5_r40_b
def C.q5_r40_w := pO C.q5_r40.eq_1
def C.q5_c16 : ICode := .keep [2, 4, 6, 14, 15] (.seq (.region C.q5_r40) C.q5_c15)
def C.q5_c16_w := pC C.q5_c16.eq_1
def C.q5_r39_b : List IOper := [
 X.m 226 14,
 X.o 227 (.bin .mul (X.i 12) (X.s 226)),
 X.o 228 (.bin .add (X.i 60) (X.s 227)),
 X.m 15 228]
def C.q5_r39 : List IOper := C.q5_r39_b
def C.q5_r39_w := pO C.q5_r39.eq_1
def C.q5_b17 : ICode := .seq (.region C.q5_r39) C.q5_c16
def C.q5_b17_w := pC C.q5_b17.eq_1
def C.q5_c18 : ICode := .keep [2, 4, 6, 14] (.seq (.block 10 C.q5_b17) C.q5_c2)
def C.q5_c18_w := pC C.q5_c18.eq_1
def C.q5_c19 : ICode := .keep [2, 4, 6, 14, 223] (.cond (X.s 223) .skip (.exit 9))
def C.q5_c19_w := pC C.q5_c19.eq_1
def C.q5_r37_b : List IOper := [
 X.m 217 14,
 X.m 218 4,
 X.o 219 (.idxAddr 1 (X.s 218) (X.i 4)),
 X.o 220 (.load1 (X.s 219)),
 X.o 221 (.bin .rem (X.s 220) (X.i 4)),
 X.o 222 (.bin .add (X.i 1) (X.s 221)),
 X.o 223 (.bin .lss (X.s 217) (X.s 222))]
def C.q5_r37 : List IOper := C.q5_r37_b
def C.q5_r37_w := pO C.q5_r37.eq_1
def C.q5_l20 : ICode := .keep [2, 4, 6, 14] (.seq (.seq (.region C.q5_r37) C.q5_c19) C.q5_c18)
def C.q5_l20_w := pC C.q5_l20.eq_1
def C.q5_b21 : ICode := .loop C.q5_l20
def C.q5_b21_w := pC C.q5_b21.eq_1
def C.q5_c22 : ICode := .keep [2, 4, 6, 14] (.block 9 C.q5_b21)
def C.q5_c22_w := pC C.q5_c22.eq_1
def C.q5_r36_b : List IOper := [
 X.o 14 (.move (X.i 0))]
def C.q5_r36 : List IOper := C.q5_r36_b
def C.q5_r36_w := pO C.q5_r36.eq_1
def C.q5_c23 : ICode := .keep [2, 4, 6] (.seq (.seq (.region C.q5_r36) C.q5_c22) C.q5_c1)
def C.q5_c23_w := pC C.q5_c23.eq_1
def C.q5_r34_b : List IOper := [
 X.m 203 13,
 X.o 204 (.bin .add (X.s 203) (X.i 1)),
 X.m 13 204]
def C.q5_r34 : List IOper := C.q5_r34_b
def C.q5_r34_w := pO C.q5_r34.eq_1
def C.q5_c24 : ICode := .keep [2, 4, 6, 13] (.region C.q5_r34)
def C.q5_c24_w := pC C.q5_c24.eq_1
def C.q5_r35_b : List IOper := [
 X.o 205 (.fldAddr 2 (X.s 6)),
 X.o 206 (.load1 (X.s 205)),
 X.m 207 4,
 X.m 208 13,
 X.o 209 (.bin .add (X.i 50) (X.s 208)),
 X.o 210 (.idxAddr 1 (X.s 207) (X.s 209)),
 X.o 211 (.load1 (X.s 210)),
 X.o 212 (.bin .rem (X.s 211) (X.i 4)),
 X.o 213 (.build [.int .i64 0] [(0, 1, X.s 212)]),
 X.o 214 (.buildSlice 1 1 [.int .i64 0] [(0, 1, X.s 213)]),
 X.o 215 (.append 1 8 (X.s 206) (X.s 214)),
 X.o 216 (.fldAddr 2 (X.s 6)),
 X.n (.store1 (X.s 216) (X.s 215))]
def C.q5_r35 : List IOper := C.q5_r35_b
def C.q5_r35_w := pO C.q5_r35.eq_1
def C.q5_b25 : ICode := .region C.q5_r35
def C.q5_b25_w := pC C.q5_b25.eq_1
def C.q5_c26 : ICode := .keep [2, 4, 6, 13] (.seq (.block 8 C.q5_b25) C.q5_c24)
def C.q5_c26_w := pC C.q5_c26.eq_1
def C.q5_c27 : ICode := .keep [2, 4, 6, 13, 202] (.cond (X.s 202) .skip (.exit 7))
def C.q5_c27_w := pC C.q5_c27.eq_1
def C.q5_r33_b : List IOper := [
 X.m 196 13,
 X.m 197 4,
 X.o 198 (.idxAddr 1 (X.s 197) (X.i 3)),
 X.o 199 (.load1 (X.s 198)),
 X.o 200 (.bin .rem (X.s 199) (X.i 3)),
 X.o 201 (.bin .add (X.i 1) (X.s 200)),
 X.o 202 (.bin .lss (X.s 196) (X.s 201))]
def C.q5_r33 : List IOper := C.q5_r33_b
def C.q5_r33_w := pO C.q5_r33.eq_1
def C.q5_l28 : ICode := .keep [2, 4, 6, 13] (.seq (.seq (.region C.q5_r33) C.q5_c27) C.q5_c26)
def C.q5_l28_w := pC C.q5_l28.eq_1
def C.q5_b29 : ICode := .loop C.q5_l28
def C.q5_b29_w := pC C.q5_b29.eq_1
def C.q5_c30 : ICode := .keep [2, 4, 6, 13] (.block 7 C.q5_b29)
def C.q5_c30_w := pC C.q5_c30.eq_1
def C.q5_r32_b : List IOper := [
 X.o 13 (.move (X.i 0))]
def C.q5_r32 : List IOper := C.q5_r32_b
def C.q5_r32_w := pO C.q5_r32.eq_1
def C.q5_c31 : ICode := .keep [2, 4, 6] (.seq (.seq (.region C.q5_r32) C.q5_c30) C.q5_c23)
def C.q5_c31_w := pC C.q5_c31.eq_1
def C.q5_r27_b : List IOper := [
 X.m 153 11,
 X.o 154 (.bin .add (X.s 153) (X.i 1)),
 X.m 11 154]
def C.q5_r27 : List IOper := C.q5_r27_b
def C.q5_r27_w := pO C.q5_r27.eq_1
def C.q5_c32 : ICode := .keep [2, 4, 6, 11] (.region C.q5_r27)
def C.q5_c32_w := pC C.q5_c32.eq_1
def C.q5_r31_b : List IOper := [
 X.o 190 (.fldAddr 1 (X.s 6)),
 X.o 191 (.load1 (X.s 190)),
 X.o 192 (.loadN 3 (X.s 12)),
 X.o 193 (.buildSlice 3 1 [.int .i64 0, .int .i64 0, .bool false] [(0, 3, X.s 192)]),
 X.o 194 (.append 3 24 (X.s 191) (X.s 193)),
 X.o 195 (.fldAddr 1 (X.s 6)),
 X.n (.store1 (X.s 195) (X.s 194))]
def C.q5_r31 : List IOper := C.q5_r31_b
def C.q5_r31_w := pO C.q5_r31.eq_1
def C.q5_c33 : ICode := .keep [2, 4, 6, 11, 12] (.region C.q5_r31)
def C.q5_c33_w := pC C.q5_c33.eq_1
def C.q5_r30_b : List IOper := [
 X.m 181 4,
 X.m 182 11,
 X.o 183 (.bin .add (X.i 44) (X.s 182)),
 X.o 184 (.idxAddr 1 (X.s 181) (X.s 183)),
 X.o 185 (.load1 (X.s 184)),
 X.o 186 (.bin .quo (X.s 185) (X.i 3)),
 X.m 187 11,
 X.o 188 (.bin .rem (X.s 186) (X.s 187)),
 X.o 189 (.fldAddr 0 (X.s 12)),
 X.n (.store1 (X.s 189) (X.s 188))]
def C.q5_r30 : List IOper := C.q5_r30_b
def C.q5_r30_w := pO C.q5_r30.eq_1
def C.q5_c34 : ICode := .keep [2, 4, 6, 11, 12, 180] (.cond (X.s 180) (.region C.q5_r30) .skip)
def C.q5_c34_w := pC C.q5_c34.eq_1
def C.q5_r29_b : List IOper := [
 X.m 170 11,
 X.o 171 (.bin .gtr (X.s 170) (X.i 0)),
 X.m 172 171,
 X.t 172 173 (.move (X.s 4)),
 X.t 172 174 (.move (X.s 11)),
 X.t 172 175 (.bin .add (X.i 44) (X.s 174)),
 X.t 172 176 (.idxAddr 1 (X.s 173) (X.s 175)),
 X.t 172 177 (.load1 (X.s 176)),
 X.t 172 178 (.bin .rem (X.s 177) (X.i 3)),
 X.t 172 179 (.bin .gtr (X.s 178) (X.i 0)),
 X.o 180 (.pick (X.s 172) (X.s 179) (.cst (.bool false)))]
def C.q5_r29 : List IOper := C.q5_r29_b
def C.q5_r29_w := pO C.q5_r29.eq_1
def C.q5_c35 : ICode := .keep [2, 4, 6, 11, 12] (.seq (.seq (.region C.q5_r29) C.q5_c34) C.q5_c33)
def C.q5_c35_w := pC C.q5_c35.eq_1
def C.q5_r28_b : List IOper := [
 X.m 155 4,
 X.m 156 11,
 X.o 157 (.bin .add (X.i 40) (X.s 156)),
 X.o 158 (.idxAddr 1 (X.s 155) (X.s 157)),
 X.o 159 (.load1 (X.s 158)),
 X.o 160 (.bin .rem (X.s 159) (X.i 4)),
 X.m 161 4,
 X.m 162 11,
 X.o 163 (.bin .add (X.i 40) (X.s 162)),
 X.o 164 (.idxAddr 1 (X.s 161) (X.s 163)),
 X.o 165 (.load1 (X.s 164)),
 X.o 166 (.bin .quo (X.s 165) (X.i 4)),
 X.o 167 (.bin .rem (X.s 166) (X.i 2)),
 X.o 168 (.bin .eql (X.s 167) (X.i 1)),
 X.o 169 (.build [.int .i64 0, .int .i64 0, .bool false] [(0, 1, X.i (-1)), (1, 1, X.s 160), (2, 1, X.s 168)]),
 X.o 12 (.alloc [.int .i64 0, .int .i64 0, .bool false]),
 X.n (.storeN 3 (X.s 12) (X.s 169))]
def C.q5_r28 : List IOper := C.q5_r28_b
def C.q5_r28_w := pO C.q5_r28.eq_1
def C.q5_b36 : ICode := .seq (.region C.q5_r28) C.q5_c35
def C.q5_b36_w := pC C.q5_b36.eq_1
def C.q5_c37 : ICode := .keep [2, 4, 6, 11] (.seq (.block 6 C.q5_b36) C.q5_c32)
def C.q5_c37_w := pC C.q5_c37.eq_1
def C.q5_c38 : ICode := .keep [2, 4, 6, 11, 152] (.cond (X.s 152) .skip (.exit 5))
def C.q5_c38_w := pC C.q5_c38.eq_1
def C.q5_r26_b : List IOper := [
 X.m 146 11,
 X.m 147 4,
 X.o 148 (.idxAddr 1 (X.s 147) (X.i 2)),
 X.o 149 (.load1 (X.s 148)),
 X.o 150 (.bin .rem (X.s 149) (X.i 4)),
 X.o 151 (.bin .add (X.i 1) (X.s 150)),
 X.o 152 (.bin .lss (X.s 146) (X.s 151))]
def C.q5_r26 : List IOper := C.q5_r26_b
def C.q5_r26_w := pO C.q5_r26.eq_1
def C.q5_l39 : ICode := .keep [2, 4, 6, 11] (.seq (.seq (.region C.q5_r26) C.q5_c38) C.q5_c37)
def C.q5_l39_w := pC C.q5_l39.eq_1
def C.q5_b40 : ICode := .loop C.q5_l39
def C.q5_b40_w := pC C.q5_b40.eq_1
def C.q5_c41 : ICode := .keep [2, 4, 6, 11] (.block 5 C.q5_b40)
def C.q5_c41_w := pC C.q5_c41.eq_1
def C.q5_r25_b : List IOper := [
 X.o 11 (.move (X.i 0))]
def C.q5_r25 : List IOper := C.q5_r25_b
def C.q5_r25_w := pO C.q5_r25.eq_1
def C.q5_c42 : ICode := .keep [2, 4, 6] (.seq (.seq (.region C.q5_r25) C.q5_c41) C.q5_c31)
def C.q5_c42_w := pC C.q5_c42.eq_1
def C.q5_r12_b : List IOper := [
 X.m 62 8,
 X.o 63 (.bin .add (X.s 62) (X.i 1)),
 X.m 8 63]
def C.q5_r12 : List IOper := C.q5_r12_b
def C.q5_r12_w := pO C.q5_r12.eq_1
def C.q5_c43 : ICode := .keep [2, 3, 4, 6, 7, 8] (.region C.q5_r12)
def C.q5_c43_w := pC C.q5_c43.eq_1
def C.q5_r24_b : List IOper := [
 X.o 140 (.fldAddr 0 (X.s 6)),
 X.o 141 (.load1 (X.s 140)),
 X.o 142 (.loadN 6 (X.s 10)),
 X.o 143 (.buildSlice 6 1 [.int .u8 0, .nils, .int .u64 0, .int .i64 0, .int .i64 0, .int .i64 0] [(0, 6, X.s 142)]),
 X.o 144 (.append 6 64 (X.s 141) (X.s 143)),
 X.o 145 (.fldAddr 0 (X.s 6)),
 X.n (.store1 (X.s 145) (X.s 144))]
def C.q5_r24 : List IOper := C.q5_r24_b
def C.q5_r24_w := pO C.q5_r24.eq_1
def C.q5_c44 : ICode := .keep [2, 3, 4, 6, 7, 8, 10] (.region C.q5_r24)
def C.q5_c44_w := pC C.q5_c44.eq_1
def C.q5_r19_b : List IOper := [
 X.m 106 4,
 X.m 107 9,
 X.o 108 (.bin .add (X.s 107) (X.i 2)),
 X.o 109 (.idxAddr 1 (X.s 106) (X.s 108)),
 X.o 110 (.load1 (X.s 109)),
 X.o 111 (.bin .quo (X.s 110) (X.i 32)),
 X.o 112 (.bin .rem (X.s 111) (X.i 4)),
 X.o 113 (.fldAddr 5 (X.s 10)),
 X.n (.store1 (X.s 113) (X.s 112))]
def C.q5_r19 : List IOper := C.q5_r19_b
def C.q5_r19_w := pO C.q5_r19.eq_1
def C.q5_c45 : ICode := .keep [2, 3, 4, 6, 7, 8, 9, 10] (.region C.q5_r19)
def C.q5_c45_w := pC C.q5_c45.eq_1
def C.q5_r18_b : List IOper := [
 X.m 97 4,
 X.m 98 9,
 X.o 99 (.bin .add (X.s 98) (X.i 2)),
 X.o 100 (.idxAddr 1 (X.s 97) (X.s 99)),
 X.o 101 (.load1 (X.s 100)),
 X.o 102 (.bin .quo (X.s 101) (X.i 8)),
 X.o 103 (.bin .rem (X.s 102) (X.i 4)),
 X.o 104 (.bin .add (X.i 1) (X.s 103)),
 X.o 105 (.fldAddr 4 (X.s 10)),
 X.n (.store1 (X.s 105) (X.s 104))]
def C.q5_r18 : List IOper := C.q5_r18_b
def C.q5_r18_w := pO C.q5_r18.eq_1
def C.q5_c46 : ICode := .keep [2, 3, 4, 6, 7, 8, 9, 10] (.seq (.region C.q5_r18) C.q5_c45)
def C.q5_c46_w := pC C.q5_c46.eq_1
def C.q5_r17_b : List IOper := [
 X.m 89 4,
 X.m 90 9,
 X.o 91 (.bin .add (X.s 90) (X.i 2)),
 X.o 92 (.idxAddr 1 (X.s 89) (X.s 91)),
 X.o 93 (.load1 (X.s 92)),
 X.o 94 (.bin .rem (X.s 93) (X.i 8)),
 X.o 95 (.bin .add (X.i 1) (X.s 94)),
 X.o 96 (.fldAddr 3 (X.s 10)),
 X.n (.store1 (X.s 96) (X.s 95))]
def C.q5_r17 : List IOper := C.q5_r17_b
def C.q5_r17_w := pO C.q5_r17.eq_1
def C.q5_r21_b : List IOper := [
 X.m 116 4,
 X.m 117 9,
 X.o 118 (.bin .add (X.s 117) (X.i 2)),
 X.o 119 (.idxAddr 1 (X.s 116) (X.s 118)),
 X.o 120 (.load1 (X.s 119)),
 X.o 121 (.bin .rem (X.s 120) (X.i 8)),
 X.o 122 (.bin .add (X.i 1) (X.s 121)),
 X.o 123 (.fldAddr 4 (X.s 10)),
 X.n (.store1 (X.s 123) (X.s 122))]
def C.q5_r21 : List IOper := C.q5_r21_b
def C.q5_r21_w := pO C.q5_r21.eq_1
def C.q5_r23_b : List IOper := [
 X.o 126 (.fldAddr 1 (X.s 10)),
 X.o 127 (.load1 (X.s 126)),
 X.m 128 4,
 X.m 129 9,
 X.o 130 (.bin .add (X.s 129) (X.i 2)),
 X.o 131 (.idxAddr 1 (X.s 128) (X.s 130)),
 X.o 132 (.load1 (X.s 131)),
 X.o 133 (.fldAddr 0 (X.s 6)),
 X.o 134 (.load1 (X.s 133)),
 X.o 135 (.len (X.s 134)),
 X.o 136 (.bin .rem (X.s 132) (X.s 135)),
 X.o 137 (.buildSlice 1 1 [.int .i64 0] [(0, 1, X.s 136)]),
 X.o 138 (.append 1 8 (X.s 127) (X.s 137)),
 X.o 139 (.fldAddr 1 (X.s 10)),
 X.n (.store1 (X.s 139) (X.s 138))]
def C.q5_r23 : List IOper := C.q5_r23_b
def C.q5_r23_w := pO C.q5_r23.eq_1
def C.q5_c47 : ICode := .keep [2, 3, 4, 6, 7, 8, 9, 10, 124] (.cond (X.s 124) (.region C.q5_r23) .skip)
def C.q5_c47_w := pC C.q5_c47.eq_1
def C.q5_r22_b : List IOper := [
 X.o 125 (.bin .eql (X.s 86) (.cst (.int .u8 109))),
 X.m 124 125]
def C.q5_r22 : List IOper := C.q5_r22_b
def C.q5_r22_w := pO C.q5_r22.eq_1
def C.q5_c48 : ICode := .seq (.region C.q5_r22) C.q5_c47
def C.q5_c48_w := pC C.q5_c48.eq_1
def C.q5_c49 : ICode := .keep [2, 3, 4, 6, 7, 8, 9, 10, 86, 114] (.cond (X.s 114) (.region C.q5_r21) C.q5_c48)
def C.q5_c49_w := pC C.q5_c49.eq_1
def C.q5_r20_b : List IOper := [
 X.o 115 (.bin .eql (X.s 86) (.cst (.int .u8 100))),
 X.m 114 115]
def C.q5_r20 : List IOper := C.q5_r20_b
def C.q5_r20_w := pO C.q5_r20.eq_1
def C.q5_c50 : ICode := .seq (.region C.q5_r17) C.q5_c46
def C.q5_c50_w := pC C.q5_c50.eq_1
def C.q5_c51 : ICode := .seq (.region C.q5_r20) C.q5_c49
def C.q5_c51_w := pC C.q5_c51.eq_1
def C.q5_c52 : ICode := .keep [2, 3, 4, 6, 7, 8, 9, 10, 86, 87] (.cond (X.s 87) C.q5_c50 C.q5_c51)
def C.q5_c52_w := pC C.q5_c52.eq_1
def C.q5_r16_b : List IOper := [
 X.o 88 (.bin .eql (X.s 86) (.cst (.int .u8 112))),
 X.m 87 88]
def C.q5_r16 : List IOper := C.q5_r16_b
def C.q5_r16_w := pO C.q5_r16.eq_1
def C.q5_b53 : ICode := .seq (.region C.q5_r16) C.q5_c52
def C.q5_b53_w := pC C.q5_b53.eq_1
def C.q5_c54 : ICode := .keep [2, 3, 4, 6, 7, 8, 9, 10, 86] (.block 4 C.q5_b53)
def C.q5_c54_w := pC C.q5_c54.eq_1
def C.q5_r15_b : List IOper := [
 X.o 85 (.fldAddr 0 (X.s 10)),
 X.o 86 (.load1 (X.s 85))]
def C.q5_r15 : List IOper := C.q5_r15_b
def C.q5_r15_w := pO C.q5_r15.eq_1
def C.q5_c55 : ICode := .keep [2, 3, 4, 6, 7, 8, 9, 10] (.seq (.seq (.region C.q5_r15) C.q5_c54) C.q5_c44)
def C.q5_c55_w := pC C.q5_c55.eq_1
def C.q5_r14_b : List IOper := [
 X.m 67 7,
 X.m 68 4,
 X.m 69 9,
 X.o 70 (.idxAddr 1 (X.s 68) (X.s 69)),
 X.o 71 (.load1 (X.s 70)),
 X.o 72 (.bin .rem (X.s 71) (X.i 5)),
 X.o 73 (.strIdx (X.s 67) (X.s 72)),
 X.m 74 4,
 X.m 75 9,
 X.o 76 (.bin .add (X.s 75) (X.i 1)),
 X.o 77 (.idxAddr 1 (X.s 74) (X.s 76)),
 X.o 78 (.load1 (X.s 77)),
 X.o 79 (.fldAddr 0 (X.s 6)),
 X.o 80 (.load1 (X.s 79)),
 X.o 81 (.len (X.s 80)),
 X.o 82 (.bin .rem (X.s 78) (X.s 81)),
 X.o 83 (.buildSlice 1 1 [.int .i64 0] [(0, 1, X.s 82)]),
 X.o 84 (.build [.int .u8 0, .nils, .int .u64 0, .int .i64 0, .int .i64 0, .int .i64 0] [(0, 1, X.s 73), (1, 1, X.s 83)]),
 X.o 10 (.alloc [.int .u8 0, .nils, .int .u64 0, .int .i64 0, .int .i64 0, .int .i64 0]),
 X.n (.storeN 6 (X.s 10) (X.s 84))]
def C.q5_r14 : List IOper := C.q5_r14_b
def C.q5_r14_w := pO C.q5_r14.eq_1
def C.q5_c56 : ICode := .keep [2, 3, 4, 6, 7, 8, 9] (.seq (.region C.q5_r14) C.q5_c55)
def C.q5_c56_w := pC C.q5_c56.eq_1
def C.q5_r13_b : List IOper := [
 X.m 64 8,
 X.o 65 (.bin .mul (X.i 3) (X.s 64)),
 X.o 66 (.bin .add (X.i 10) (X.s 65)),
 X.m 9 66]
def C.q5_r13 : List IOper := C.q5_r13_b
def C.q5_r13_w := pO C.q5_r13.eq_1
def C.q5_b57 : ICode := .seq (.region C.q5_r13) C.q5_c56
def C.q5_b57_w := pC C.q5_b57.eq_1
def C.q5_c58 : ICode := .keep [2, 3, 4, 6, 7, 8] (.seq (.block 3 C.q5_b57) C.q5_c43)
def C.q5_c58_w := pC C.q5_c58.eq_1
def C.q5_c59 : ICode := .keep [2, 3, 4, 6, 7, 8, 61] (.cond (X.s 61) .skip (.exit 2))
def C.q5_c59_w := pC C.q5_c59.eq_1
def C.q5_r11_b : List IOper := [
 X.m 55 8,
 X.m 56 4,
 X.m 57 3,
 X.o 58 (.idxAddr 1 (X.s 56) (X.s 57)),
 X.o 59 (.load1 (X.s 58)),
 X.o 60 (.bin .rem (X.s 59) (X.i 9)),
 X.o 61 (.bin .lss (X.s 55) (X.s 60))]
def C.q5_r11 : List IOper := C.q5_r11_b
def C.q5_r11_w := pO C.q5_r11.eq_1
def C.q5_l60 : ICode := .keep [2, 3, 4, 6, 7, 8] (.seq (.seq (.region C.q5_r11) C.q5_c59) C.q5_c58)
def C.q5_l60_w := pC C.q5_l60.eq_1
def C.q5_b61 : ICode := .loop C.q5_l60
def C.q5_b61_w := pC C.q5_b61.eq_1
def C.q5_c62 : ICode := .keep [2, 3, 4, 6, 7, 8] (.block 2 C.q5_b61)
def C.q5_c62_w := pC C.q5_c62.eq_1
def C.q5_r10_b : List IOper := [
 X.o 8 (.move (X.i 0))]
def C.q5_r10 : List IOper := C.q5_r10_b
def C.q5_r10_w := pO C.q5_r10.eq_1
def C.q5_c63 : ICode := .keep [2, 3, 4, 6, 7] (.seq (.seq (.region C.q5_r10) C.q5_c62) C.q5_c42)
def C.q5_c63_w := pC C.q5_c63.eq_1
def C.q5_r9_b : List IOper := [
 X.o 7 (.move (.cst (.str [112, 100, 103, 109, 103])))]
def C.q5_r9 : List IOper := C.q5_r9_b
def C.q5_r9_w := pO C.q5_r9.eq_1
def C.q5_c64 : ICode := .keep [2, 3, 4, 6] (.seq (.region C.q5_r9) C.q5_c63)
def C.q5_c64_w := pC C.q5_c64.eq_1
def C.q5_r8_b : List IOper := [
 X.o 3 (.move (X.i 1))]
def C.q5_r8 : List IOper := C.q5_r8_b
def C.q5_r8_w := pO C.q5_r8.eq_1
def C.q5_c65 : ICode := .keep [2, 4, 6] (.seq (.region C.q5_r8) C.q5_c64)
def C.q5_c65_w := pC C.q5_c65.eq_1
def C.q5_r7_b : List IOper := [
 X.m 47 4,
 X.o 48 (.idxAddr 1 (X.s 47) (X.i 0)),
 X.o 49 (.load1 (X.s 48)),
 X.o 50 (.bin .add (X.i 1) (X.s 49)),
 X.o 51 (.conv .u64 (X.s 50)),
 X.o 52 (.build [.int .u8 0, .nils, .int .u64 0, .int .i64 0, .int .i64 0, .int .i64 0] [(0, 1, .cst (.int .u8 111)), (2, 1, X.s 51)]),
 X.o 53 (.buildSlice 6 1 [.int .u8 0, .nils, .int .u64 0, .int .i64 0, .int .i64 0, .int .i64 0] [(0, 6, X.s 52)]),
 X.o 54 (.build [.nils, .nils, .nils, .nils] [(0, 1, X.s 53)]),
 X.o 6 (.alloc [.nils, .nils, .nils, .nils]),
 X.n (.storeN 4 (X.s 6) (X.s 54))]
def C.q5_r7 : List IOper := C.q5_r7_b
def C.q5_r7_w := pO C.q5_r7.eq_1
def C.q5_c66 : ICode := .keep [2, 4] (.seq (.region C.q5_r7) C.q5_c65)
def C.q5_c66_w := pC C.q5_c66.eq_1
def C.q5_r5_b : List IOper := [
 X.m 28 5,
 X.o 29 (.bin .add (X.s 28) (X.i 1)),
 X.m 5 29]
def C.q5_r5 : List IOper := C.q5_r5_b
def C.q5_r5_w := pO C.q5_r5.eq_1
def C.q5_c67 : ICode := .keep [0, 2, 4, 5] (.region C.q5_r5)
def C.q5_c67_w := pC C.q5_c67.eq_1
def C.q5_r6_b : List IOper := [
 X.m 30 4,
 X.m 31 5,
 X.m 32 0,
 X.m 33 5,
 X.m 34 0,
 X.o 35 (.len (X.s 34)),
 X.o 36 (.bin .rem (X.s 33) (X.s 35)),
 X.o 37 (.idxAddr 1 (X.s 32) (X.s 36)),
 X.o 38 (.load1 (X.s 37)),
 X.m 39 5,
 X.m 40 0,
 X.o 41 (.len (X.s 40)),
 X.o 42 (.bin .quo (X.s 39) (X.s 41)),
 X.o 43 (.bin .add (X.i 1) (X.s 42)),
 X.o 44 (.bin .quo (X.s 38) (X.s 43)),
 X.o 45 (.call F.q6 [X.s 44, X.i 1000000]),
 X.o 46 (.idxAddr 1 (X.s 30) (X.s 31)),
 X.n (.store1 (X.s 46) (X.s 45))]
def C.q5_r6 : List IOper := C.q5_r6_b
def C.q5_r6_w := pO C.q5_r6.eq_1
def C.q5_b68 : ICode := .region C.q5_r6
def C.q5_b68_w := pC C.q5_b68.eq_1
def C.q5_c69 : ICode := .keep [0, 2, 4, 5] (.seq (.block 1 C.q5_b68) C.q5_c67)
def C.q5_c69_w := pC C.q5_c69.eq_1
def C.q5_c70 : ICode := .keep [0, 2, 4, 5, 27] (.cond (X.s 27) .skip (.exit 0))
def C.q5_c70_w := pC C.q5_c70.eq_1
def C.q5_r4_b : List IOper := [
 X.m 19 5,
 X.m 20 4,
 X.o 21 (.len (X.s 20)),
 X.o 22 (.bin .lss (X.s 19) (X.s 21)),
 X.m 23 22,
 X.t 23 24 (.move (X.s 0)),
 X.t 23 25 (.len (X.s 24)),
 X.t 23 26 (.bin .gtr (X.s 25) (X.i 0)),
 X.o 27 (.pick (X.s 23) (X.s 26) (.cst (.bool false)))]
def C.q5_r4 : List IOper := C.q5_r4_b
def C.q5_r4_w := pO C.q5_r4.eq_1
def C.q5_l71 : ICode := .keep [0, 2, 4, 5] (.seq (.seq (.region C.q5_r4) C.q5_c70) C.q5_c69)
def C.q5_l71_w := pC C.q5_l71.eq_1
def C.q5_b72 : ICode := .loop C.q5_l71
def C.q5_b72_w := pC C.q5_b72.eq_1
def C.q5_c73 : ICode := .keep [0, 2, 4, 5] (.block 0 C.q5_b72)
def C.q5_c73_w := pC C.q5_c73.eq_1
def C.q5_r3_b : List IOper := [
 X.o 5 (.move (X.i 0))]
def C.q5_r3 : List IOper := C.q5_r3_b
def C.q5_r3_w := pO C.q5_r3.eq_1
def C.q5_c74 : ICode := .keep [0, 2, 4] (.seq (.seq (.region C.q5_r3) C.q5_c73) C.q5_c66)
def C.q5_c74_w := pC C.q5_c74.eq_1
def C.q5_r2_b : List IOper := [
 X.o 18 (.makeSlice 1 8 [.int .i64 0] (X.i 120) (X.i 120)),
 X.m 4 18]
def C.q5_r2 : List IOper := C.q5_r2_b
def C.q5_r2_w := pO C.q5_r2.eq_1
def C.q5_c75 : ICode := .keep [0, 2] (.seq (.region C.q5_r2) C.q5_c74)
def C.q5_c75_w := pC C.q5_c75.eq_1
def C.q5_r1_b : List IOper := [
 X.o 3 (.move (X.i 0))]
def C.q5_r1 : List IOper := C.q5_r1_b
def C.q5_r1_w := pO C.q5_r1.eq_1
def C.q5_c76 : ICode := .keep [0, 2] (.seq (.region C.q5_r1) C.q5_c75)
def C.q5_c76_w := pC C.q5_c76.eq_1
def C.q5_r0_b : List IOper := [
 X.o 2 (.alloc [.nils, .nils, .nils, .nils])]
def C.q5_r0 : List IOper := C.q5_r0_b
def C.q5_r0_w := pO C.q5_r0.eq_1
def C.q5 : IFunc := ⟨1, [.cellN 2 4], .seq (.region C.q5_r0) C.q5_c76⟩
def C.q5_W := aI (aI (aI (aI (aI (aI @C.q5_r50_w (aI @C.q5_c1_w @C.q5_r38_w)) (aI (aI @C.q5_c2_w @C.q5_r49_w) (aI @C.q5_c3_w @C.q5_r48_w))) (aI (aI (aI @C.q5_c4_w @C.q5_r47_w) (aI @C.q5_c5_w @C.q5_r46_w)) (aI (aI @C.q5_c6_w @C.q5_r45_w) (aI @C.q5_c7_w @C.q5_r43_w)))) (aI (aI (aI @C.q5_c8_w (aI @C.q5_r44_w @C.q5_b9_w)) (aI (aI @C.q5_c10_w @C.q5_c11_w) (aI @C.q5_r42_w @C.q5_b13_w))) (aI (aI (aI @C.q5_c14_w @C.q5_r41_w) (aI @C.q5_c15_w @C.q5_r40_w)) (aI (aI @C.q5_c16_w @C.q5_r39_w) (aI @C.q5_b17_w @C.q5_c18_w))))) (aI (aI (aI (aI @C.q5_c19_w (aI @C.q5_r37_w @C.q5_b21_w)) (aI (aI @C.q5_c22_w @C.q5_r36_w) (aI @C.q5_c23_w @C.q5_r34_w))) (aI (aI (aI @C.q5_c24_w @C.q5_r35_w) (aI @C.q5_b25_w @C.q5_c26_w)) (aI (aI @C.q5_c27_w @C.q5_r33_w) (aI @C.q5_b29_w @C.q5_c30_w)))) (aI (aI (aI @C.q5_r32_w (aI @C.q5_c31_w @C.q5_r27_w)) (aI (aI @C.q5_c32_w @C.q5_r31_w) (aI @C.q5_c33_w @C.q5_r30_w))) (aI (aI (aI @C.q5_c34_w @C.q5_r29_w) (aI @C.q5_c35_w @C.q5_r28_w)) (aI (aI @C.q5_b36_w @C.q5_c37_w) (aI @C.q5_c38_w @C.q5_r26_w)))))) (aI (aI (aI (aI (aI @C.q5_b40_w (aI @C.q5_c41_w @C.q5_r25_w)) (aI (aI @C.q5_c42_w @C.q5_r12_w) (aI @C.q5_c43_w @C.q5_r24_w))) (aI (aI (aI @C.q5_c44_w @C.q5_r19_w) (aI @C.q5_c45_w @C.q5_r18_w)) (aI (aI @C.q5_c46_w @C.q5_r17_w) (aI @C.q5_r21_w @C.q5_r23_w)))) (aI (aI (aI @C.q5_c47_w (aI @C.q5_r22_w @C.q5_c48_w)) (aI (aI @C.q5_c49_w @C.q5_r20_w) (aI @C.q5_c50_w @C.q5_c51_w))) (aI (aI (aI @C.q5_c52_w @C.q5_r16_w) (aI @C.q5_b53_w @C.q5_c54_w)) (aI (aI @C.q5_r15_w @C.q5_c55_w) (aI @C.q5_r14_w @C.q5_c56_w))))) (aI (aI (aI (aI @C.q5_r13_w (aI @C.q5_b57_w @C.q5_c58_w)) (aI (aI @C.q5_c59_w @C.q5_r11_w) (aI @C.q5_b61_w @C.q5_c62_w))) (aI (aI (aI @C.q5_r10_w @C.q5_c63_w) (aI @C.q5_r9_w @C.q5_c64_w)) (aI (aI @C.q5_r8_w @C.q5_c65_w) (aI @C.q5_r7_w @C.q5_c66_w)))) (aI (aI (aI (aI @C.q5_r5_w @C.q5_c67_w) (aI @C.q5_r6_w @C.q5_b68_w)) (aI (aI @C.q5_c69_w @C.q5_c70_w) (aI @C.q5_r4_w @C.q5_b72_w))) (aI (aI (aI @C.q5_c73_w @C.q5_r3_w) (aI @C.q5_c74_w @C.q5_r2_w)) (aI (aI @C.q5_c75_w @C.q5_r1_w) (aI @C.q5_c76_w @C.q5_r0_w))))))
def C.q5_B := aI (aI (aI (aI (aI @C.q5_r50_b.eq_1 (aI @C.q5_r38_b.eq_1 @C.q5_r49_b.eq_1)) (aI @C.q5_r48_b.eq_1 (aI @C.q5_r47_b.eq_1 @C.q5_r46_b.eq_1))) (aI (aI @C.q5_r45_b.eq_1 (aI @C.q5_r43_b.eq_1 @C.q5_r44_b.eq_1)) (aI @C.q5_r42_b.eq_1 (aI @C.q5_r41_b.eq_1 @C.q5_r40_b.eq_1)))) (aI (aI (aI @C.q5_r39_b.eq_1 (aI @C.q5_r37_b.eq_1 @C.q5_r36_b.eq_1)) (aI @C.q5_r34_b.eq_1 (aI @C.q5_r35_b.eq_1 @C.q5_r33_b.eq_1))) (aI (aI @C.q5_r32_b.eq_1 (aI @C.q5_r27_b.eq_1 @C.q5_r31_b.eq_1)) (aI (aI @C.q5_r30_b.eq_1 @C.q5_r29_b.eq_1) (aI @C.q5_r28_b.eq_1 @C.q5_r26_b.eq_1))))) (aI (aI (aI (aI @C.q5_r25_b.eq_1 (aI @C.q5_r12_b.eq_1 @C.q5_r24_b.eq_1)) (aI @C.q5_r19_b.eq_1 (aI @C.q5_r18_b.eq_1 @C.q5_r17_b.eq_1))) (aI (aI @C.q5_r21_b.eq_1 (aI @C.q5_r23_b.eq_1 @C.q5_r22_b.eq_1)) (aI (aI @C.q5_r20_b.eq_1 @C.q5_r16_b.eq_1) (aI @C.q5_r15_b.eq_1 @C.q5_r14_b.eq_1)))) (aI (aI (aI @C.q5_r13_b.eq_1 (aI @C.q5_r11_b.eq_1 @C.q5_r10_b.eq_1)) (aI @C.q5_r9_b.eq_1 (aI @C.q5_r8_b.eq_1 @C.q5_r7_b.eq_1))) (aI (aI @C.q5_r5_b.eq_1 (aI @C.q5_r6_b.eq_1 @C.q5_r4_b.eq_1)) (aI (aI @C.q5_r3_b.eq_1 @C.q5_r2_b.eq_1) (aI @C.q5_r1_b.eq_1 @C.q5_r0_b.eq_1)))))

def C.q86_r27_b : List IOper := [
 X.m 107 9,
 X.m 2 107,
 X.o 3 (.move (X.i 0))]
def C.q86_r27 : List IOper := C.q86_r27_b
def C.q86_r27_w := pO C.q86_r27.eq_1
def C.q86_c1 : ICode := .keep [9] (.seq (.region C.q86_r27) .ret)
def C.q86_c1_w := pC C.q86_c1.eq_1
def C.q86_r26_b : List IOper := [
 X.m 106 6,
 X.o 2 (.move (.cst (.nilp))),
 X.m 3 106]
def C.q86_r26 : List IOper := C.q86_r26_b
def C.q86_r26_w := pO C.q86_r26.eq_1
def C.q86_c2 : ICode := .seq (.region C.q86_r26) .ret
def C.q86_c2_w := pC C.q86_c2.eq_1
def C.q86_c3 : ICode := .keep [6, 9, 105] (.cond (X.s 105) C.q86_c2 .skip)
def C.q86_c3_w := pC C.q86_c3.eq_1
def C.q86_r25_b : List IOper := [
 X.m 104 6,
 X.o 105 (.bin .neq (X.s 104) (X.i 0))]
def C.q86_r25 : List IOper := C.q86_r25_b
def C.q86_r25_w := pO C.q86_r25.eq_1
def C.q86_c4 : ICode := .keep [6, 9] (.seq (.region C.q86_r25) C.q86_c3)
def C.q86_c4_w := pC C.q86_c4.eq_1
def C.q86_r24_b : List IOper := [
 X.m 97 9,
 X.m 98 10,
 X.o 99 (.call F.q3 [X.s 98]),
 X.m 96 99,
 X.o 100 (.extract (X.s 96) 0),
 X.o 101 (.extract (X.s 96) 1),
 X.o 102 (.nilchk (X.s 97)),
 X.o 103 (.fldAddr 3 (X.s 102)),
 X.n (.store1 (X.s 103) (X.s 100)),
 X.m 6 101]
def C.q86_r24 : List IOper := C.q86_r24_b
def C.q86_r24_w := pO C.q86_r24.eq_1
def C.q86_c5 : ICode := .keep [9, 10] (.seq (.seq (.region C.q86_r24) C.q86_c4) C.q86_c1)
def C.q86_c5_w := pC C.q86_c5.eq_1
def C.q86_r23_b : List IOper := [
 X.o 95 (.bin .add (X.s 56) (X.i 1)),
 X.m 56 95]
def C.q86_r23 : List IOper := C.q86_r23_b
def C.q86_r23_w := pO C.q86_r23.eq_1
def C.q86_c6 : ICode := .keep [9, 10, 54, 55, 56] (.region C.q86_r23)
def C.q86_c6_w := pC C.q86_c6.eq_1
def C.q86_r22_b : List IOper := [
 X.m 75 9,
 X.m 76 9,
 X.o 77 (.nilchk (X.s 76)),
 X.o 78 (.fldAddr 4 (X.s 77)),
 X.o 79 (.load1 (X.s 78)),
 X.o 80 (.fldAddr 0 (X.s 12)),
 X.o 81 (.load1 (X.s 80)),
 X.o 82 (.fldAddr 1 (X.s 12)),
 X.o 83 (.load1 (X.s 82)),
 X.o 84 (.fldAddr 2 (X.s 12)),
 X.o 85 (.load1 (X.s 84)),
 X.o 86 (.fldAddr 3 (X.s 12)),
 X.o 87 (.load1 (X.s 86)),
 X.m 88 13,
 ⟨some 89, .call F.q97 [], none, [⟨.load1 (X.s 78), 79, none⟩, ⟨.load1 (X.s 80), 81, none⟩, ⟨.load1 (X.s 82), 83, none⟩, ⟨.load1 (X.s 84), 85, none⟩, ⟨.load1 (X.s 86), 87, none⟩], []⟩,
 X.o 90 (.build [.int .i64 0, .int .i64 0, .int .i64 0, .int .u32 0, .nilp, .nilp] [(0, 1, X.s 81), (1, 1, X.s 83), (2, 1, X.s 85), (3, 1, X.s 87), (4, 1, X.s 88), (5, 1, X.s 89)]),
 X.o 91 (.buildSlice 6 1 [.int .i64 0, .int .i64 0, .int .i64 0, .int .u32 0, .nilp, .nilp] [(0, 6, X.s 90)]),
 X.o 92 (.append 6 48 (X.s 79) (X.s 91)),
 X.o 93 (.nilchk (X.s 75)),
 X.o 94 (.fldAddr 4 (X.s 93)),
 X.n (.store1 (X.s 94) (X.s 92))]
def C.q86_r22 : List IOper := C.q86_r22_b
def C.q86_r22_w := pO C.q86_r22.eq_1
def C.q86_c7 : ICode := .keep [9, 10, 12, 13, 54, 55, 56] (.region C.q86_r22)
def C.q86_c7_w := pC C.q86_c7.eq_1
def C.q86_r21_b : List IOper := [
 X.m 70 10,
 X.m 71 11,
 X.m 72 13,
 X.o 73 (.call F.q100 [X.s 72]),
 X.o 74 (.idxAddr 1 (X.s 70) (X.s 71)),
 X.n (.store1 (X.s 74) (X.s 73))]
def C.q86_r21 : List IOper := C.q86_r21_b
def C.q86_r21_w := pO C.q86_r21.eq_1
def C.q86_c8 : ICode := .keep [9, 10, 11, 12, 13, 54, 55, 56] (.seq (.region C.q86_r21) C.q86_c7)
def C.q86_c8_w := pC C.q86_c8.eq_1
def C.q86_r20_b : List IOper := [
 X.m 69 14,
 X.o 2 (.move (.cst (.nilp))),
 X.m 3 69]
def C.q86_r20 : List IOper := C.q86_r20_b
def C.q86_r20_w := pO C.q86_r20.eq_1
def C.q86_c9 : ICode := .seq (.region C.q86_r20) .ret
def C.q86_c9_w := pC C.q86_c9.eq_1
def C.q86_c10 : ICode := .keep [9, 10, 11, 12, 13, 14, 54, 55, 56, 68] (.cond (X.s 68) C.q86_c9 .skip)
def C.q86_c10_w := pC C.q86_c10.eq_1
def C.q86_r19_b : List IOper := [
 X.m 67 14,
 X.o 68 (.bin .neq (X.s 67) (X.i 0))]
def C.q86_r19 : List IOper := C.q86_r19_b
def C.q86_r19_w := pO C.q86_r19.eq_1
def C.q86_c11 : ICode := .keep [9, 10, 11, 12, 13, 14, 54, 55, 56] (.seq (.seq (.region C.q86_r19) C.q86_c10) C.q86_c8)
def C.q86_c11_w := pC C.q86_c11.eq_1
def C.q86_r18_b : List IOper := [
 X.o 62 (.fldAddr 4 (X.s 12)),
 X.o 63 (.load1 (X.s 62)),
 X.o 64 (.call F.q110 [X.s 63]),
 X.m 61 64,
 X.o 65 (.extract (X.s 61) 0),
 X.o 66 (.extract (X.s 61) 1),
 X.m 13 65,
 X.m 14 66]
def C.q86_r18 : List IOper := C.q86_r18_b
def C.q86_r18_w := pO C.q86_r18.eq_1
def C.q86_c12 : ICode := .keep [9, 10, 11, 12, 54, 55, 56] (.seq (.region C.q86_r18) C.q86_c11)
def C.q86_c12_w := pC C.q86_c12.eq_1
def C.q86_r17_b : List IOper := [
 X.m 58 56,
 X.o 59 (.idxAddr 6 (X.s 54) (X.s 56)),
 X.o 60 (.loadN 6 (X.s 59)),
 X.o 12 (.alloc [.int .i64 0, .int .i64 0, .int .i64 0, .int .u32 0, .nils, .nils]),
 X.m 11 58,
 X.n (.storeN 6 (X.s 12) (X.s 60))]
def C.q86_r17 : List IOper := C.q86_r17_b
def C.q86_r17_w := pO C.q86_r17.eq_1
def C.q86_b13 : ICode := .seq (.region C.q86_r17) C.q86_c12
def C.q86_b13_w := pC C.q86_b13.eq_1
def C.q86_c14 : ICode := .keep [9, 10, 54, 55, 56] (.seq (.block 1 C.q86_b13) C.q86_c6)
def C.q86_c14_w := pC C.q86_c14.eq_1
def C.q86_c15 : ICode := .keep [9, 10, 54, 55, 56, 57] (.seq (.cond (X.s 57) .skip (.exit 0)) C.q86_c14)
def C.q86_c15_w := pC C.q86_c15.eq_1
def C.q86_r16_b : List IOper := [
 X.o 57 (.bin .lss (X.s 56) (X.s 55))]
def C.q86_r16 : List IOper := C.q86_r16_b
def C.q86_r16_w := pO C.q86_r16.eq_1
def C.q86_l16 : ICode := .keep [9, 10, 54, 55, 56] (.seq (.region C.q86_r16) C.q86_c15)
def C.q86_l16_w := pC C.q86_l16.eq_1
def C.q86_b17 : ICode := .loop C.q86_l16
def C.q86_b17_w := pC C.q86_b17.eq_1
def C.q86_c18 : ICode := .keep [9, 10, 54, 55, 56] (.block 0 C.q86_b17)
def C.q86_c18_w := pC C.q86_c18.eq_1
def C.q86_r15_b : List IOper := [
 X.o 53 (.fldAddr 3 (X.s 1)),
 X.o 54 (.load1 (X.s 53)),
 X.o 55 (.len (X.s 54)),
 X.o 56 (.move (X.i 0))]
def C.q86_r15 : List IOper := C.q86_r15_b
def C.q86_r15_w := pO C.q86_r15.eq_1
def C.q86_c19 : ICode := .keep [1, 9, 10] (.seq (.seq (.region C.q86_r15) C.q86_c18) C.q86_c5)
def C.q86_c19_w := pC C.q86_c19.eq_1
def C.q86_r14_b : List IOper := [
 X.o 49 (.fldAddr 3 (X.s 1)),
 X.o 50 (.load1 (X.s 49)),
 X.o 51 (.len (X.s 50)),
 X.o 52 (.makeSlice 1 8 [.int .i64 0] (X.s 51) (X.s 51)),
 X.m 10 52]
def C.q86_r14 : List IOper := C.q86_r14_b
def C.q86_r14_w := pO C.q86_r14.eq_1
def C.q86_c20 : ICode := .keep [1, 9] (.seq (.region C.q86_r14) C.q86_c19)
def C.q86_c20_w := pC C.q86_c20.eq_1
def C.q86_r13_b : List IOper := [
 X.m 44 5,
 X.m 45 7,
 X.m 46 8,
 X.o 47 (.build [.nilp, .nilp, .nilp, .nilp, .nils] [(0, 1, X.s 44), (1, 1, X.s 45), (2, 1, X.s 46)]),
 X.o 48 (.boxN (X.s 47)),
 X.m 9 48]
def C.q86_r13 : List IOper := C.q86_r13_b
def C.q86_r13_w := pO C.q86_r13.eq_1
def C.q86_c21 : ICode := .keep [1, 5, 7, 8] (.seq (.region C.q86_r13) C.q86_c20)
def C.q86_c21_w := pC C.q86_c21.eq_1
def C.q86_r12_b : List IOper := [
 X.m 43 6,
 X.o 2 (.move (.cst (.nilp))),
 X.m 3 43]
def C.q86_r12 : List IOper := C.q86_r12_b
def C.q86_r12_w := pO C.q86_r12.eq_1
def C.q86_c22 : ICode := .seq (.region C.q86_r12) .ret
def C.q86_c22_w := pC C.q86_c22.eq_1
def C.q86_c23 : ICode := .keep [1, 5, 6, 7, 8, 42] (.cond (X.s 42) C.q86_c22 .skip)
def C.q86_c23_w := pC C.q86_c23.eq_1
def C.q86_r11_b : List IOper := [
 X.m 41 6,
 X.o 42 (.bin .neq (X.s 41) (X.i 0))]
def C.q86_r11 : List IOper := C.q86_r11_b
def C.q86_r11_w := pO C.q86_r11.eq_1
def C.q86_c24 : ICode := .keep [1, 5, 6, 7, 8] (.seq (.seq (.region C.q86_r11) C.q86_c23) C.q86_c21)
def C.q86_c24_w := pC C.q86_c24.eq_1
def C.q86_r10_b : List IOper := [
 X.o 37 (.loadN 4 (X.s 1)),
 X.o 38 (.call F.q116 [X.s 37]),
 X.m 36 38,
 X.o 39 (.extract (X.s 36) 0),
 X.o 40 (.extract (X.s 36) 1),
 X.m 8 39,
 X.m 6 40]
def C.q86_r10 : List IOper := C.q86_r10_b
def C.q86_r10_w := pO C.q86_r10.eq_1
def C.q86_c25 : ICode := .keep [1, 5, 7] (.seq (.region C.q86_r10) C.q86_c24)
def C.q86_c25_w := pC C.q86_c25.eq_1
def C.q86_r9_b : List IOper := [
 X.m 35 6,
 X.o 2 (.move (.cst (.nilp))),
 X.m 3 35]
def C.q86_r9 : List IOper := C.q86_r9_b
def C.q86_r9_w := pO C.q86_r9.eq_1
def C.q86_c26 : ICode := .seq (.region C.q86_r9) .ret
def C.q86_c26_w := pC C.q86_c26.eq_1
def C.q86_c27 : ICode := .keep [1, 5, 6, 7, 34] (.cond (X.s 34) C.q86_c26 .skip)
def C.q86_c27_w := pC C.q86_c27.eq_1
def C.q86_r8_b : List IOper := [
 X.m 33 6,
 X.o 34 (.bin .neq (X.s 33) (X.i 0))]
def C.q86_r8 : List IOper := C.q86_r8_b
def C.q86_r8_w := pO C.q86_r8.eq_1
def C.q86_c28 : ICode := .keep [1, 5, 6, 7] (.seq (.seq (.region C.q86_r8) C.q86_c27) C.q86_c25)
def C.q86_c28_w := pC C.q86_c28.eq_1
def C.q86_r7_b : List IOper := [
 X.o 29 (.loadN 4 (X.s 1)),
 X.o 30 (.call F.q93 [X.s 29]),
 X.m 28 30,
 X.o 31 (.extract (X.s 28) 0),
 X.o 32 (.extract (X.s 28) 1),
 X.m 7 31,
 X.m 6 32]
def C.q86_r7 : List IOper := C.q86_r7_b
def C.q86_r7_w := pO C.q86_r7.eq_1
def C.q86_c29 : ICode := .keep [1, 5] (.seq (.region C.q86_r7) C.q86_c28)
def C.q86_c29_w := pC C.q86_c29.eq_1
def C.q86_r6_b : List IOper := [
 X.m 27 6,
 X.o 2 (.move (.cst (.nilp))),
 X.m 3 27]
def C.q86_r6 : List IOper := C.q86_r6_b
def C.q86_r6_w := pO C.q86_r6.eq_1
def C.q86_c30 : ICode := .seq (.region C.q86_r6) .ret
def C.q86_c30_w := pC C.q86_c30.eq_1
def C.q86_c31 : ICode := .keep [1, 5, 6, 26] (.cond (X.s 26) C.q86_c30 .skip)
def C.q86_c31_w := pC C.q86_c31.eq_1
def C.q86_r5_b : List IOper := [
 X.m 25 6,
 X.o 26 (.bin .neq (X.s 25) (X.i 0))]
def C.q86_r5 : List IOper := C.q86_r5_b
def C.q86_r5_w := pO C.q86_r5.eq_1
def C.q86_c32 : ICode := .keep [1, 5, 6] (.seq (.seq (.region C.q86_r5) C.q86_c31) C.q86_c29)
def C.q86_c32_w := pC C.q86_c32.eq_1
def C.q86_r4_b : List IOper := [
 X.o 21 (.loadN 4 (X.s 1)),
 X.o 22 (.call F.q8 [X.s 21]),
 X.m 20 22,
 X.o 23 (.extract (X.s 20) 0),
 X.o 24 (.extract (X.s 20) 1),
 X.m 5 23,
 X.m 6 24]
def C.q86_r4 : List IOper := C.q86_r4_b
def C.q86_r4_w := pO C.q86_r4.eq_1
def C.q86_c33 : ICode := .keep [1] (.seq (.region C.q86_r4) C.q86_c32)
def C.q86_c33_w := pC C.q86_c33.eq_1
def C.q86_r3_b : List IOper := [
 X.m 19 4,
 X.o 2 (.move (.cst (.nilp))),
 X.m 3 19]
def C.q86_r3 : List IOper := C.q86_r3_b
def C.q86_r3_w := pO C.q86_r3.eq_1
def C.q86_c34 : ICode := .seq (.region C.q86_r3) .ret
def C.q86_c34_w := pC C.q86_c34.eq_1
def C.q86_c35 : ICode := .keep [1, 4, 18] (.cond (X.s 18) C.q86_c34 .skip)
def C.q86_c35_w := pC C.q86_c35.eq_1
def C.q86_r2_b : List IOper := [
 X.m 17 4,
 X.o 18 (.bin .neq (X.s 17) (X.i 0))]
def C.q86_r2 : List IOper := C.q86_r2_b
def C.q86_r2_w := pO C.q86_r2.eq_1
def C.q86_c36 : ICode := .keep [1, 4] (.seq (.region C.q86_r2) C.q86_c35)
def C.q86_c36_w := pC C.q86_c36.eq_1
def C.q86_r1_b : List IOper := [
 X.o 15 (.loadN 4 (X.s 1)),
 X.o 16 (.call F.q16 [X.s 15]),
 X.m 4 16]
def C.q86_r1 : List IOper := C.q86_r1_b
def C.q86_r1_w := pO C.q86_r1.eq_1
def C.q86_c37 : ICode := .keep [1] (.seq (.seq (.region C.q86_r1) C.q86_c36) C.q86_c33)
def C.q86_c37_w := pC C.q86_c37.eq_1
def C.q86_r0_b : List IOper := [
 X.o 1 (.boxN (X.s 0)),
 X.o 2 (.move (.cst (.nilp))),
 X.o 3 (.move (X.i 0))]
def C.q86_r0 : List IOper := C.q86_r0_b
def C.q86_r0_w := pO C.q86_r0.eq_1
def C.q86 : IFunc := ⟨1, [.slot 2, .slot 3], .seq (.region C.q86_r0) C.q86_c37⟩
def C.q86_W := aI (aI (aI (aI (aI (aI @C.q86_r27_w @C.q86_c1_w) (aI @C.q86_r26_w @C.q86_c2_w)) (aI (aI @C.q86_c3_w @C.q86_r25_w) (aI @C.q86_c4_w @C.q86_r24_w))) (aI (aI (aI @C.q86_c5_w @C.q86_r23_w) (aI @C.q86_c6_w @C.q86_r22_w)) (aI (aI @C.q86_c7_w @C.q86_r21_w) (aI @C.q86_c8_w @C.q86_r20_w)))) (aI (aI (aI (aI @C.q86_c9_w @C.q86_c10_w) (aI @C.q86_r19_w @C.q86_c11_w)) (aI (aI @C.q86_r18_w @C.q86_c12_w) (aI @C.q86_r17_w @C.q86_b13_w))) (aI (aI (aI @C.q86_c14_w @C.q86_c15_w) (aI @C.q86_r16_w @C.q86_b17_w)) (aI (aI @C.q86_c18_w @C.q86_r15_w) (aI @C.q86_c19_w @C.q86_r14_w))))) (aI (aI (aI (aI (aI @C.q86_c20_w @C.q86_r13_w) (aI @C.q86_c21_w @C.q86_r12_w)) (aI (aI @C.q86_c22_w @C.q86_c23_w) (aI @C.q86_r11_w @C.q86_c24_w))) (aI (aI (aI @C.q86_r10_w @C.q86_c25_w) (aI @C.q86_r9_w @C.q86_c26_w)) (aI (aI @C.q86_c27_w @C.q86_r8_w) (aI @C.q86_c28_w @C.q86_r7_w)))) (aI (aI (aI (aI @C.q86_c29_w @C.q86_r6_w) (aI @C.q86_c30_w @C.q86_c31_w)) (aI (aI @C.q86_r5_w @C.q86_c32_w) (aI @C.q86_r4_w @C.q86_c33_w))) (aI (aI (aI @C.q86_r3_w @C.q86_c34_w) (aI @C.q86_c35_w @C.q86_r2_w)) (aI (aI @C.q86_c36_w @C.q86_r1_w) (aI @C.q86_c37_w @C.q86_r0_w)))))
def C.q86_B := aI (aI (aI (aI @C.q86_r27_b.eq_1 (aI @C.q86_r26_b.eq_1 @C.q86_r25_b.eq_1)) (aI (aI @C.q86_r24_b.eq_1 @C.q86_r23_b.eq_1) (aI @C.q86_r22_b.eq_1 @C.q86_r21_b.eq_1))) (aI (aI @C.q86_r20_b.eq_1 (aI @C.q86_r19_b.eq_1 @C.q86_r18_b.eq_1)) (aI (aI @C.q86_r17_b.eq_1 @C.q86_r16_b.eq_1) (aI @C.q86_r15_b.eq_1 @C.q86_r14_b.eq_1)))) (aI (aI (aI @C.q86_r13_b.eq_1 (aI @C.q86_r12_b.eq_1 @C.q86_r11_b.eq_1)) (aI (aI @C.q86_r10_b.eq_1 @C.q86_r9_b.eq_1) (aI @C.q86_r8_b.eq_1 @C.q86_r7_b.eq_1))) (aI (aI @C.q86_r6_b.eq_1 (aI @C.q86_r5_b.eq_1 @C.q86_r4_b.eq_1)) (aI (aI @C.q86_r3_b.eq_1 @C.q86_r2_b.eq_1) (aI @C.q86_r1_b.eq_1 @C.q86_r0_b.eq_1))))

def C.q6_r3_b : List IOper := [
 X.m 10 0,
 X.m 11 1,
 X.o 12 (.bin .rem (X.s 10) (X.s 11)),
 X.m 4 12]
def C.q6_r3 : List IOper := C.q6_r3_b
def C.q6_r3_w := pO C.q6_r3.eq_1
def C.q6_c1 : ICode := .keep [0, 1] (.seq (.region C.q6_r3) .ret)
def C.q6_c1_w := pC C.q6_c1.eq_1
def C.q6_r2_b : List IOper := [
 X.m 7 0,
 X.o 8 (.bin .add (X.s 7) (X.i 1)),
 X.o 9 (.un .neg (X.s 8)),
 X.m 0 9]
def C.q6_r2 : List IOper := C.q6_r2_b
def C.q6_r2_w := pO C.q6_r2.eq_1
def C.q6_c2 : ICode := .keep [0, 1, 6] (.cond (X.s 6) (.region C.q6_r2) .skip)
def C.q6_c2_w := pC C.q6_c2.eq_1
def C.q6_r1_b : List IOper := [
 X.m 5 0,
 X.o 6 (.bin .lss (X.s 5) (X.i 0))]
def C.q6_r1 : List IOper := C.q6_r1_b
def C.q6_r1_w := pO C.q6_r1.eq_1
def C.q6_c3 : ICode := .keep [0, 1] (.seq (.seq (.region C.q6_r1) C.q6_c2) C.q6_c1)
def C.q6_c3_w := pC C.q6_c3.eq_1
def C.q6_r0_b : List IOper := [
 X.o 4 (.move (X.i 0))]
def C.q6_r0 : List IOper := C.q6_r0_b
def C.q6_r0_w := pO C.q6_r0.eq_1
def C.q6 : IFunc := ⟨2, [.slot 4], .seq (.region C.q6_r0) C.q6_c3⟩
def C.q6_W := aI (aI @C.q6_r3_w (aI @C.q6_c1_w @C.q6_r2_w)) (aI (aI @C.q6_c2_w @C.q6_r1_w) (aI @C.q6_c3_w @C.q6_r0_w))
def C.q6_B := aI (aI @C.q6_r3_b.eq_1 @C.q6_r2_b.eq_1) (aI @C.q6_r1_b.eq_1 @C.q6_r0_b.eq_1)

def C.q76_r3_b : List IOper := [
 X.m 10 0,
 X.o 11 (.nilchk (X.s 10)),
 X.o 12 (.fldAddr 0 (X.s 11)),
 X.o 13 (.load1 (X.s 12)),
 X.m 14 1,
 X.m 15 2,
 X.o 16 (.call F.q10 [X.s 13, X.s 14, X.s 15]),
 X.m 6 16]
def C.q76_r3 : List IOper := C.q76_r3_b
def C.q76_r3_w := pO C.q76_r3.eq_1
def C.q76_c1 : ICode := .keep [0, 1, 2] (.seq (.region C.q76_r3) .ret)
def C.q76_c1_w := pC C.q76_c1.eq_1
def C.q76_r2_b : List IOper := [
 X.o 6 (.move (X.i 4))]
def C.q76_r2 : List IOper := C.q76_r2_b
def C.q76_r2_w := pO C.q76_r2.eq_1
def C.q76_c2 : ICode := .seq (.region C.q76_r2) .ret
def C.q76_c2_w := pC C.q76_c2.eq_1
def C.q76_c3 : ICode := .keep [0, 1, 2, 9] (.cond (X.s 9) C.q76_c2 .skip)
def C.q76_c3_w := pC C.q76_c3.eq_1
def C.q76_r1_b : List IOper := [
 X.m 7 0,
 X.o 8 (.call F.q85 [X.s 7]),
 X.o 9 (.un .not (X.s 8))]
def C.q76_r1 : List IOper := C.q76_r1_b
def C.q76_r1_w := pO C.q76_r1.eq_1
def C.q76_c4 : ICode := .keep [0, 1, 2] (.seq (.seq (.region C.q76_r1) C.q76_c3) C.q76_c1)
def C.q76_c4_w := pC C.q76_c4.eq_1
def C.q76_r0_b : List IOper := [
 X.o 6 (.move (X.i 0))]
def C.q76_r0 : List IOper := C.q76_r0_b
def C.q76_r0_w := pO C.q76_r0.eq_1
def C.q76 : IFunc := ⟨3, [.slot 6], .seq (.region C.q76_r0) C.q76_c4⟩
def C.q76_W := aI (aI (aI @C.q76_r3_w @C.q76_c1_w) (aI @C.q76_r2_w @C.q76_c2_w)) (aI (aI @C.q76_c3_w @C.q76_r1_w) (aI @C.q76_c4_w @C.q76_r0_w))
def C.q76_B := aI (aI @C.q76_r3_b.eq_1 @C.q76_r2_b.eq_1) (aI @C.q76_r1_b.eq_1 @C.q76_r0_b.eq_1)

def C.q82_r3_b : List IOper := [
 X.m 8 0,
 X.o 9 (.nilchk (X.s 8)),
 X.o 10 (.fldAddr 1 (X.s 9)),
 X.o 11 (.load1 (X.s 10)),
 X.m 12 1,
 X.o 13 (.call F.q91 [X.s 11, X.s 12]),
 X.m 4 13]
def C.q82_r3 : List IOper := C.q82_r3_b
def C.q82_r3_w := pO C.q82_r3.eq_1
def C.q82_c1 : ICode := .keep [0, 1] (.seq (.region C.q82_r3) .ret)
def C.q82_c1_w := pC C.q82_c1.eq_1
def C.q82_r2_b : List IOper := [
 X.o 4 (.move (X.i 4))]
def C.q82_r2 : List IOper := C.q82_r2_b
def C.q82_r2_w := pO C.q82_r2.eq_1
def C.q82_c2 : ICode := .seq (.region C.q82_r2) .ret
def C.q82_c2_w := pC C.q82_c2.eq_1
def C.q82_c3 : ICode := .keep [0, 1, 7] (.cond (X.s 7) C.q82_c2 .skip)
def C.q82_c3_w := pC C.q82_c3.eq_1
def C.q82_r1_b : List IOper := [
 X.m 5 0,
 X.o 6 (.call F.q85 [X.s 5]),
 X.o 7 (.un .not (X.s 6))]
def C.q82_r1 : List IOper := C.q82_r1_b
def C.q82_r1_w := pO C.q82_r1.eq_1
def C.q82_c4 : ICode := .keep [0, 1] (.seq (.seq (.region C.q82_r1) C.q82_c3) C.q82_c1)
def C.q82_c4_w := pC C.q82_c4.eq_1
def C.q82_r0_b : List IOper := [
 X.o 4 (.move (X.i 0))]
def C.q82_r0 : List IOper := C.q82_r0_b
def C.q82_r0_w := pO C.q82_r0.eq_1
def C.q82 : IFunc := ⟨2, [.slot 4], .seq (.region C.q82_r0) C.q82_c4⟩
def C.q82_W := aI (aI (aI @C.q82_r3_w @C.q82_c1_w) (aI @C.q82_r2_w @C.q82_c2_w)) (aI (aI @C.q82_c3_w @C.q82_r1_w) (aI @C.q82_c4_w @C.q82_r0_w))
def C.q82_B := aI (aI @C.q82_r3_b.eq_1 @C.q82_r2_b.eq_1) (aI @C.q82_r1_b.eq_1 @C.q82_r0_b.eq_1)

def C.q75_r3_b : List IOper := [
 X.m 10 0,
 X.o 11 (.nilchk (X.s 10)),
 X.o 12 (.fldAddr 1 (X.s 11)),
 X.o 13 (.load1 (X.s 12)),
 X.m 14 1,
 X.m 15 2,
 X.o 16 (.call F.q88 [X.s 13, X.s 14, X.s 15]),
 X.m 6 16]
def C.q75_r3 : List IOper := C.q75_r3_b
def C.q75_r3_w := pO C.q75_r3.eq_1
def C.q75_c1 : ICode := .keep [0, 1, 2] (.seq (.region C.q75_r3) .ret)
def C.q75_c1_w := pC C.q75_c1.eq_1
def C.q75_r2_b : List IOper := [
 X.o 6 (.move (X.i 4))]
def C.q75_r2 : List IOper := C.q75_r2_b
def C.q75_r2_w := pO C.q75_r2.eq_1
def C.q75_c2 : ICode := .seq (.region C.q75_r2) .ret
def C.q75_c2_w := pC C.q75_c2.eq_1
def C.q75_c3 : ICode := .keep [0, 1, 2, 9] (.cond (X.s 9) C.q75_c2 .skip)
def C.q75_c3_w := pC C.q75_c3.eq_1
def C.q75_r1_b : List IOper := [
 X.m 7 0,
 X.o 8 (.call F.q85 [X.s 7]),
 X.o 9 (.un .not (X.s 8))]
def C.q75_r1 : List IOper := C.q75_r1_b
def C.q75_r1_w := pO C.q75_r1.eq_1
def C.q75_c4 : ICode := .keep [0, 1, 2] (.seq (.seq (.region C.q75_r1) C.q75_c3) C.q75_c1)
def C.q75_c4_w := pC C.q75_c4.eq_1
def C.q75_r0_b : List IOper := [
 X.o 6 (.move (X.i 0))]
def C.q75_r0 : List IOper := C.q75_r0_b
def C.q75_r0_w := pO C.q75_r0.eq_1
def C.q75 : IFunc := ⟨3, [.slot 6], .seq (.region C.q75_r0) C.q75_c4⟩
def C.q75_W := aI (aI (aI @C.q75_r3_w @C.q75_c1_w) (aI @C.q75_r2_w @C.q75_c2_w)) (aI (aI @C.q75_c3_w @C.q75_r1_w) (aI @C.q75_c4_w @C.q75_r0_w))
def C.q75_B := aI (aI @C.q75_r3_b.eq_1 @C.q75_r2_b.eq_1) (aI @C.q75_r1_b.eq_1 @C.q75_r0_b.eq_1)

def C.q73_r12_b : List IOper := [
 X.o 4 (.move (X.i 0))]
def C.q73_r12 : List IOper := C.q73_r12_b
def C.q73_r12_w := pO C.q73_r12.eq_1
def C.q73_c1 : ICode := .keep [] (.seq (.region C.q73_r12) .ret)
def C.q73_c1_w := pC C.q73_c1.eq_1
def C.q73_r11_b : List IOper := [
 X.o 36 (.bin .add (X.s 25) (X.i 1)),
 X.m 25 36]
def C.q73_r11 : List IOper := C.q73_r11_b
def C.q73_r11_w := pO C.q73_r11.eq_1
def C.q73_c2 : ICode := .keep [1, 23, 24, 25] (.region C.q73_r11)
def C.q73_c2_w := pC C.q73_c2.eq_1
def C.q73_r10_b : List IOper := [
 X.o 33 (.fldAddr 4 (X.s 7)),
 X.o 34 (.load1 (X.s 33)),
 X.o 35 (.call F.q98 [X.s 34])]
def C.q73_r10 : List IOper := C.q73_r10_b
def C.q73_r10_w := pO C.q73_r10.eq_1
def C.q73_c3 : ICode := .keep [1, 7, 23, 24, 25, 32] (.cond (X.s 32) (.region C.q73_r10) .skip)
def C.q73_c3_w := pC C.q73_c3.eq_1
def C.q73_r9_b : List IOper := [
 X.o 29 (.fldAddr 2 (X.s 7)),
 X.o 30 (.load1 (X.s 29)),
 X.m 31 1,
 X.o 32 (.bin .eql (X.s 30) (X.s 31))]
def C.q73_r9 : List IOper := C.q73_r9_b
def C.q73_r9_w := pO C.q73_r9.eq_1
def C.q73_c4 : ICode := .keep [1, 7, 23, 24, 25] (.seq (.region C.q73_r9) C.q73_c3)
def C.q73_c4_w := pC C.q73_c4.eq_1
def C.q73_r8_b : List IOper := [
 X.o 27 (.idxAddr 6 (X.s 23) (X.s 25)),
 X.o 28 (.loadN 6 (X.s 27)),
 X.o 7 (.alloc [.int .i64 0, .int .i64 0, .int .i64 0, .int .u32 0, .nilp, .nilp]),
 X.n (.storeN 6 (X.s 7) (X.s 28))]
def C.q73_r8 : List IOper := C.q73_r8_b
def C.q73_r8_w := pO C.q73_r8.eq_1
def C.q73_b5 : ICode := .seq (.region C.q73_r8) C.q73_c4
def C.q73_b5_w := pC C.q73_b5.eq_1
def C.q73_c6 : ICode := .keep [1, 23, 24, 25] (.seq (.block 1 C.q73_b5) C.q73_c2)
def C.q73_c6_w := pC C.q73_c6.eq_1
def C.q73_c7 : ICode := .keep [1, 23, 24, 25, 26] (.seq (.cond (X.s 26) .skip (.exit 0)) C.q73_c6)
def C.q73_c7_w := pC C.q73_c7.eq_1
def C.q73_r7_b : List IOper := [
 X.o 26 (.bin .lss (X.s 25) (X.s 24))]
def C.q73_r7 : List IOper := C.q73_r7_b
def C.q73_r7_w := pO C.q73_r7.eq_1
def C.q73_l8 : ICode := .keep [1, 23, 24, 25] (.seq (.region C.q73_r7) C.q73_c7)
def C.q73_l8_w := pC C.q73_l8.eq_1
def C.q73_b9 : ICode := .loop C.q73_l8
def C.q73_b9_w := pC C.q73_b9.eq_1
def C.q73_c10 : ICode := .keep [1, 23, 24, 25] (.block 0 C.q73_b9)
def C.q73_c10_w := pC C.q73_c10.eq_1
def C.q73_r6_b : List IOper := [
 X.m 20 0,
 X.o 21 (.nilchk (X.s 20)),
 X.o 22 (.fldAddr 4 (X.s 21)),
 X.o 23 (.load1 (X.s 22)),
 X.o 24 (.len (X.s 23)),
 X.o 25 (.move (X.i 0))]
def C.q73_r6 : List IOper := C.q73_r6_b
def C.q73_r6_w := pO C.q73_r6.eq_1
def C.q73_c11 : ICode := .keep [0, 1] (.seq (.seq (.region C.q73_r6) C.q73_c10) C.q73_c1)
def C.q73_c11_w := pC C.q73_c11.eq_1
def C.q73_r5_b : List IOper := [
 X.m 19 5,
 X.m 4 19]
def C.q73_r5 : List IOper := C.q73_r5_b
def C.q73_r5_w := pO C.q73_r5.eq_1
def C.q73_c12 : ICode := .seq (.region C.q73_r5) .ret
def C.q73_c12_w := pC C.q73_c12.eq_1
def C.q73_c13 : ICode := .keep [0, 1, 5, 18] (.cond (X.s 18) C.q73_c12 .skip)
def C.q73_c13_w := pC C.q73_c13.eq_1
def C.q73_r4_b : List IOper := [
 X.m 17 5,
 X.o 18 (.bin .neq (X.s 17) (X.i 0))]
def C.q73_r4 : List IOper := C.q73_r4_b
def C.q73_r4_w := pO C.q73_r4.eq_1
def C.q73_c14 : ICode := .keep [0, 1, 5] (.seq (.region C.q73_r4) C.q73_c13)
def C.q73_c14_w := pC C.q73_c14.eq_1
def C.q73_r3_b : List IOper := [
 X.m 11 0,
 X.o 12 (.nilchk (X.s 11)),
 X.o 13 (.fldAddr 2 (X.s 12)),
 X.o 14 (.load1 (X.s 13)),
 X.m 15 1,
 X.o 16 (.call F.q111 [X.s 14, X.s 15]),
 X.m 5 16]
def C.q73_r3 : List IOper := C.q73_r3_b
def C.q73_r3_w := pO C.q73_r3.eq_1
def C.q73_c15 : ICode := .keep [0, 1] (.seq (.seq (.region C.q73_r3) C.q73_c14) C.q73_c11)
def C.q73_c15_w := pC C.q73_c15.eq_1
def C.q73_r2_b : List IOper := [
 X.o 4 (.move (X.i 4))]
def C.q73_r2 : List IOper := C.q73_r2_b
def C.q73_r2_w := pO C.q73_r2.eq_1
def C.q73_c16 : ICode := .seq (.region C.q73_r2) .ret
def C.q73_c16_w := pC C.q73_c16.eq_1
def C.q73_c17 : ICode := .keep [0, 1, 10] (.cond (X.s 10) C.q73_c16 .skip)
def C.q73_c17_w := pC C.q73_c17.eq_1
def C.q73_r1_b : List IOper := [
 X.m 8 0,
 X.o 9 (.call F.q85 [X.s 8]),
 X.o 10 (.un .not (X.s 9))]
def C.q73_r1 : List IOper := C.q73_r1_b
def C.q73_r1_w := pO C.q73_r1.eq_1
def C.q73_c18 : ICode := .keep [0, 1] (.seq (.seq (.region C.q73_r1) C.q73_c17) C.q73_c15)
def C.q73_c18_w := pC C.q73_c18.eq_1
def C.q73_r0_b : List IOper := [
 X.o 4 (.move (X.i 0))]
def C.q73_r0 : List IOper := C.q73_r0_b
def C.q73_r0_w := pO C.q73_r0.eq_1
def C.q73 : IFunc := ⟨2, [.slot 4], .seq (.region C.q73_r0) C.q73_c18⟩
def C.q73_W := aI (aI (aI (aI @C.q73_r12_w (aI @C.q73_c1_w @C.q73_r11_w)) (aI (aI @C.q73_c2_w @C.q73_r10_w) (aI @C.q73_c3_w @C.q73_r9_w))) (aI (aI (aI @C.q73_c4_w @C.q73_r8_w) (aI @C.q73_b5_w @C.q73_c6_w)) (aI (aI @C.q73_c7_w @C.q73_r7_w) (aI @C.q73_b9_w @C.q73_c10_w)))) (aI (aI (aI @C.q73_r6_w (aI @C.q73_c11_w @C.q73_r5_w)) (aI (aI @C.q73_c12_w @C.q73_c13_w) (aI @C.q73_r4_w @C.q73_c14_w))) (aI (aI (aI @C.q73_r3_w @C.q73_c15_w) (aI @C.q73_r2_w @C.q73_c16_w)) (aI (aI @C.q73_c17_w @C.q73_r1_w) (aI @C.q73_c18_w @C.q73_r0_w))))
def C.q73_B := aI (aI (aI @C.q73_r12_b.eq_1 (aI @C.q73_r11_b.eq_1 @C.q73_r10_b.eq_1)) (aI @C.q73_r9_b.eq_1 (aI @C.q73_r8_b.eq_1 @C.q73_r7_b.eq_1))) (aI (aI @C.q73_r6_b.eq_1 (aI @C.q73_r5_b.eq_1 @C.q73_r4_b.eq_1)) (aI (aI @C.q73_r3_b.eq_1 @C.q73_r2_b.eq_1) (aI @C.q73_r1_b.eq_1 @C.q73_r0_b.eq_1)))

def C.q79_r3_b : List IOper := [
 X.m 8 0,
 X.o 9 (.nilchk (X.s 8)),
 X.o 10 (.fldAddr 2 (X.s 9)),
 X.o 11 (.load1 (X.s 10)),
 X.m 12 1,
 X.o 13 (.call F.q113 [X.s 11, X.s 12]),
 X.m 4 13]
def C.q79_r3 : List IOper := C.q79_r3_b
def C.q79_r3_w := pO C.q79_r3.eq_1
def C.q79_c1 : ICode := .keep [0, 1] (.seq (.region C.q79_r3) .ret)
def C.q79_c1_w := pC C.q79_c1.eq_1
def C.q79_r2_b : List IOper := [
 X.o 4 (.move (X.i 4))]
def C.q79_r2 : List IOper := C.q79_r2_b
def C.q79_r2_w := pO C.q79_r2.eq_1
def C.q79_c2 : ICode := .seq (.region C.q79_r2) .ret
def C.q79_c2_w := pC C.q79_c2.eq_1
def C.q79_c3 : ICode := .keep [0, 1, 7] (.cond (X.s 7) C.q79_c2 .skip)
def C.q79_c3_w := pC C.q79_c3.eq_1
def C.q79_r1_b : List IOper := [
 X.m 5 0,
 X.o 6 (.call F.q85 [X.s 5]),
 X.o 7 (.un .not (X.s 6))]
def C.q79_r1 : List IOper := C.q79_r1_b
def C.q79_r1_w := pO C.q79_r1.eq_1
def C.q79_c4 : ICode := .keep [0, 1] (.seq (.seq (.region C.q79_r1) C.q79_c3) C.q79_c1)
def C.q79_c4_w := pC C.q79_c4.eq_1
def C.q79_r0_b : List IOper := [
 X.o 4 (.move (X.i 0))]
def C.q79_r0 : List IOper := C.q79_r0_b
def C.q79_r0_w := pO C.q79_r0.eq_1
def C.q79 : IFunc := ⟨2, [.slot 4], .seq (.region C.q79_r0) C.q79_c4⟩
def C.q79_W := aI (aI (aI @C.q79_r3_w @C.q79_c1_w) (aI @C.q79_r2_w @C.q79_c2_w)) (aI (aI @C.q79_c3_w @C.q79_r1_w) (aI @C.q79_c4_w @C.q79_r0_w))
def C.q79_B := aI (aI @C.q79_r3_b.eq_1 @C.q79_r2_b.eq_1) (aI @C.q79_r1_b.eq_1 @C.q79_r0_b.eq_1)

def C.q81_r30_b : List IOper := [
 X.m 110 5,
 X.m 4 110]
def C.q81_r30 : List IOper := C.q81_r30_b
def C.q81_r30_w := pO C.q81_r30.eq_1
def C.q81_c1 : ICode := .keep [5] (.seq (.region C.q81_r30) .ret)
def C.q81_c1_w := pC C.q81_c1.eq_1
def C.q81_r29_b : List IOper := [
 X.m 105 0,
 X.o 106 (.nilchk (X.s 105)),
 X.o 107 (.fldAddr 2 (X.s 106)),
 X.o 108 (.load1 (X.s 107)),
 X.o 109 (.call F.q114 [X.s 108])]
def C.q81_r29 : List IOper := C.q81_r29_b
def C.q81_r29_w := pO C.q81_r29.eq_1
def C.q81_c2 : ICode := .keep [0, 5] (.seq (.region C.q81_r29) C.q81_c1)
def C.q81_c2_w := pC C.q81_c2.eq_1
def C.q81_r28_b : List IOper := [
 X.o 104 (.bin .add (X.s 76) (X.i 1)),
 X.m 76 104]
def C.q81_r28 : List IOper := C.q81_r28_b
def C.q81_r28_w := pO C.q81_r28.eq_1
def C.q81_c3 : ICode := .keep [0, 5, 74, 75, 76] (.region C.q81_r28)
def C.q81_c3_w := pC C.q81_c3.eq_1
def C.q81_r27_b : List IOper := [
 X.o 103 (.bin .add (X.s 90) (X.i 1)),
 X.m 90 103]
def C.q81_r27 : List IOper := C.q81_r27_b
def C.q81_r27_w := pO C.q81_r27.eq_1
def C.q81_c4 : ICode := .keep [0, 5, 12, 13, 74, 75, 76, 88, 89, 90] (.region C.q81_r27)
def C.q81_c4_w := pC C.q81_c4.eq_1
def C.q81_r26_b : List IOper := [
 X.m 99 13,
 X.o 100 (.fldAddr 4 (X.s 15)),
 X.o 101 (.load1 (X.s 100)),
 X.o 102 (.callv (X.s 99) [X.s 101])]
def C.q81_r26 : List IOper := C.q81_r26_b
def C.q81_r26_w := pO C.q81_r26.eq_1
def C.q81_c5 : ICode := .keep [0, 5, 12, 13, 15, 74, 75, 76, 88, 89, 90, 98] (.cond (X.s 98) (.region C.q81_r26) .skip)
def C.q81_c5_w := pC C.q81_c5.eq_1
def C.q81_r25_b : List IOper := [
 X.o 94 (.fldAddr 1 (X.s 15)),
 X.o 95 (.load1 (X.s 94)),
 X.o 96 (.fldAddr 1 (X.s 12)),
 X.o 97 (.load1 (X.s 96)),
 X.o 98 (.bin .eql (X.s 95) (X.s 97))]
def C.q81_r25 : List IOper := C.q81_r25_b
def C.q81_r25_w := pO C.q81_r25.eq_1
def C.q81_c6 : ICode := .keep [0, 5, 12, 13, 15, 74, 75, 76, 88, 89, 90] (.seq (.region C.q81_r25) C.q81_c5)
def C.q81_c6_w := pC C.q81_c6.eq_1
def C.q81_r24_b : List IOper := [
 X.o 92 (.idxAddr 6 (X.s 88) (X.s 90)),
 X.o 93 (.loadN 6 (X.s 92)),
 X.o 15 (.alloc [.int .i64 0, .int .i64 0, .int .i64 0, .int .u32 0, .nilp, .nilp]),
 X.n (.storeN 6 (X.s 15) (X.s 93))]
def C.q81_r24 : List IOper := C.q81_r24_b
def C.q81_r24_w := pO C.q81_r24.eq_1
def C.q81_b7 : ICode := .seq (.region C.q81_r24) C.q81_c6
def C.q81_b7_w := pC C.q81_b7.eq_1
def C.q81_c8 : ICode := .keep [0, 5, 12, 13, 74, 75, 76, 88, 89, 90] (.seq (.block 7 C.q81_b7) C.q81_c4)
def C.q81_c8_w := pC C.q81_c8.eq_1
def C.q81_c9 : ICode := .keep [0, 5, 12, 13, 74, 75, 76, 88, 89, 90, 91] (.seq (.cond (X.s 91) .skip (.exit 6)) C.q81_c8)
def C.q81_c9_w := pC C.q81_c9.eq_1
def C.q81_r23_b : List IOper := [
 X.o 91 (.bin .lss (X.s 90) (X.s 89))]
def C.q81_r23 : List IOper := C.q81_r23_b
def C.q81_r23_w := pO C.q81_r23.eq_1
def C.q81_l10 : ICode := .keep [0, 5, 12, 13, 74, 75, 76, 88, 89, 90] (.seq (.region C.q81_r23) C.q81_c9)
def C.q81_l10_w := pC C.q81_l10.eq_1
def C.q81_b11 : ICode := .loop C.q81_l10
def C.q81_b11_w := pC C.q81_b11.eq_1
def C.q81_c12 : ICode := .keep [0, 5, 12, 13, 74, 75, 76, 88, 89, 90] (.block 6 C.q81_b11)
def C.q81_c12_w := pC C.q81_c12.eq_1
def C.q81_r22_b : List IOper := [
 X.m 85 0,
 X.o 86 (.nilchk (X.s 85)),
 X.o 87 (.fldAddr 4 (X.s 86)),
 X.o 88 (.load1 (X.s 87)),
 X.o 89 (.len (X.s 88)),
 X.o 90 (.move (X.i 0))]
def C.q81_r22 : List IOper := C.q81_r22_b
def C.q81_r22_w := pO C.q81_r22.eq_1
def C.q81_c13 : ICode := .keep [0, 5, 12, 13, 74, 75, 76] (.seq (.region C.q81_r22) C.q81_c12)
def C.q81_c13_w := pC C.q81_c13.eq_1
def C.q81_c14 : ICode := .keep [0, 5, 12, 13, 74, 75, 76, 84] (.cond (X.s 84) (.exit 5) .skip)
def C.q81_c14_w := pC C.q81_c14.eq_1
def C.q81_r21_b : List IOper := [
 X.m 83 13,
 X.o 84 (.eqP 3 false (X.s 83) (.cst (.nilf)))]
def C.q81_r21 : List IOper := C.q81_r21_b
def C.q81_r21_w := pO C.q81_r21.eq_1
def C.q81_c15 : ICode := .keep [0, 5, 12, 13, 74, 75, 76] (.seq (.seq (.region C.q81_r21) C.q81_c14) C.q81_c13)
def C.q81_c15_w := pC C.q81_c15.eq_1
def C.q81_r20_b : List IOper := [
 X.o 80 (.fldAddr 0 (X.s 12)),
 X.o 81 (.load1 (X.s 80)),
 X.o 82 (.call F.q87 [X.s 81]),
 X.m 13 82]
def C.q81_r20 : List IOper := C.q81_r20_b
def C.q81_r20_w := pO C.q81_r20.eq_1
def C.q81_c16 : ICode := .keep [0, 5, 12, 74, 75, 76] (.seq (.region C.q81_r20) C.q81_c15)
def C.q81_c16_w := pC C.q81_c16.eq_1
def C.q81_r19_b : List IOper := [
 X.o 78 (.idxAddr 2 (X.s 74) (X.s 76)),
 X.o 79 (.loadN 2 (X.s 78)),
 X.o 12 (.alloc [.int .u8 0, .int .i64 0]),
 X.n (.storeN 2 (X.s 12) (X.s 79))]
def C.q81_r19 : List IOper := C.q81_r19_b
def C.q81_r19_w := pO C.q81_r19.eq_1
def C.q81_b17 : ICode := .seq (.region C.q81_r19) C.q81_c16
def C.q81_b17_w := pC C.q81_b17.eq_1
def C.q81_c18 : ICode := .keep [0, 5, 74, 75, 76] (.seq (.block 5 C.q81_b17) C.q81_c3)
def C.q81_c18_w := pC C.q81_c18.eq_1
def C.q81_c19 : ICode := .keep [0, 5, 74, 75, 76, 77] (.seq (.cond (X.s 77) .skip (.exit 4)) C.q81_c18)
def C.q81_c19_w := pC C.q81_c19.eq_1
def C.q81_r18_b : List IOper := [
 X.o 77 (.bin .lss (X.s 76) (X.s 75))]
def C.q81_r18 : List IOper := C.q81_r18_b
def C.q81_r18_w := pO C.q81_r18.eq_1
def C.q81_l20 : ICode := .keep [0, 5, 74, 75, 76] (.seq (.region C.q81_r18) C.q81_c19)
def C.q81_l20_w := pC C.q81_l20.eq_1
def C.q81_b21 : ICode := .loop C.q81_l20
def C.q81_b21_w := pC C.q81_b21.eq_1
def C.q81_c22 : ICode := .keep [0, 5, 74, 75, 76] (.block 4 C.q81_b21)
def C.q81_c22_w := pC C.q81_c22.eq_1
def C.q81_r17_b : List IOper := [
 X.m 70 0,
 X.o 71 (.nilchk (X.s 70)),
 X.o 72 (.fldAddr 1 (X.s 71)),
 X.o 73 (.load1 (X.s 72)),
 X.o 74 (.call F.q90 [X.s 73]),
 X.o 75 (.len (X.s 74)),
 X.o 76 (.move (X.i 0))]
def C.q81_r17 : List IOper := C.q81_r17_b
def C.q81_r17_w := pO C.q81_r17.eq_1
def C.q81_c23 : ICode := .keep [0, 5] (.seq (.seq (.region C.q81_r17) C.q81_c22) C.q81_c2)
def C.q81_c23_w := pC C.q81_c23.eq_1
def C.q81_r16_b : List IOper := [
 X.m 65 0,
 X.o 66 (.nilchk (X.s 65)),
 X.o 67 (.fldAddr 0 (X.s 66)),
 X.o 68 (.load1 (X.s 67)),
 X.o 69 (.call F.q13 [X.s 68])]
def C.q81_r16 : List IOper := C.q81_r16_b
def C.q81_r16_w := pO C.q81_r16.eq_1
def C.q81_c24 : ICode := .keep [0, 5] (.seq (.region C.q81_r16) C.q81_c23)
def C.q81_c24_w := pC C.q81_c24.eq_1
def C.q81_r15_b : List IOper := [
 X.o 64 (.bin .add (X.s 44) (X.i 1)),
 X.m 44 64]
def C.q81_r15 : List IOper := C.q81_r15_b
def C.q81_r15_w := pO C.q81_r15.eq_1
def C.q81_c25 : ICode := .keep [0, 1, 5, 42, 43, 44] (.region C.q81_r15)
def C.q81_c25_w := pC C.q81_c25.eq_1
def C.q81_r14_b : List IOper := [
 X.o 49 (.fldAddr 5 (X.s 10)),
 X.o 50 (.load1 (X.s 49)),
 X.m 51 0,
 X.o 52 (.nilchk (X.s 51)),
 X.o 53 (.fldAddr 3 (X.s 52)),
 X.o 54 (.load1 (X.s 53)),
 X.m 55 9,
 X.m 58 1,
 X.m 59 9,
 X.o 60 (.bin .shr (X.s 58) (X.s 59)),
 X.o 61 (.bin .and (X.s 60) (.cst (.int .u32 1))),
 X.o 62 (.bin .eql (X.s 61) (.cst (.int .u32 1))),
 ⟨some 56, .call F.q1 [X.s 54, X.s 55], none, [⟨.load1 (X.s 49), 50, none⟩], []⟩,
 X.o 57 (.bin .gtr (X.s 56) (X.i 0)),
 X.o 63 (.call F.q96 [X.s 50, X.s 57, X.s 62])]
def C.q81_r14 : List IOper := C.q81_r14_b
def C.q81_r14_w := pO C.q81_r14.eq_1
def C.q81_c26 : ICode := .keep [0, 1, 5, 9, 10, 42, 43, 44] (.region C.q81_r14)
def C.q81_c26_w := pC C.q81_c26.eq_1
def C.q81_r13_b : List IOper := [
 X.m 46 44,
 X.o 47 (.idxAddr 6 (X.s 42) (X.s 44)),
 X.o 48 (.loadN 6 (X.s 47)),
 X.o 10 (.alloc [.int .i64 0, .int .i64 0, .int .i64 0, .int .u32 0, .nilp, .nilp]),
 X.m 9 46,
 X.n (.storeN 6 (X.s 10) (X.s 48))]
def C.q81_r13 : List IOper := C.q81_r13_b
def C.q81_r13_w := pO C.q81_r13.eq_1
def C.q81_b27 : ICode := .seq (.region C.q81_r13) C.q81_c26
def C.q81_b27_w := pC C.q81_b27.eq_1
def C.q81_c28 : ICode := .keep [0, 1, 5, 42, 43, 44] (.seq (.block 3 C.q81_b27) C.q81_c25)
def C.q81_c28_w := pC C.q81_c28.eq_1
def C.q81_c29 : ICode := .keep [0, 1, 5, 42, 43, 44, 45] (.seq (.cond (X.s 45) .skip (.exit 2)) C.q81_c28)
def C.q81_c29_w := pC C.q81_c29.eq_1
def C.q81_r12_b : List IOper := [
 X.o 45 (.bin .lss (X.s 44) (X.s 43))]
def C.q81_r12 : List IOper := C.q81_r12_b
def C.q81_r12_w := pO C.q81_r12.eq_1
def C.q81_l30 : ICode := .keep [0, 1, 5, 42, 43, 44] (.seq (.region C.q81_r12) C.q81_c29)
def C.q81_l30_w := pC C.q81_l30.eq_1
def C.q81_b31 : ICode := .loop C.q81_l30
def C.q81_b31_w := pC C.q81_b31.eq_1
def C.q81_c32 : ICode := .keep [0, 1, 5, 42, 43, 44] (.block 2 C.q81_b31)
def C.q81_c32_w := pC C.q81_c32.eq_1
def C.q81_r11_b : List IOper := [
 X.m 39 0,
 X.o 40 (.nilchk (X.s 39)),
 X.o 41 (.fldAddr 4 (X.s 40)),
 X.o 42 (.load1 (X.s 41)),
 X.o 43 (.len (X.s 42)),
 X.o 44 (.move (X.i 0))]
def C.q81_r11 : List IOper := C.q81_r11_b
def C.q81_r11_w := pO C.q81_r11.eq_1
def C.q81_c33 : ICode := .keep [0, 1, 5] (.seq (.seq (.region C.q81_r11) C.q81_c32) C.q81_c24)
def C.q81_c33_w := pC C.q81_c33.eq_1
def C.q81_r10_b : List IOper := [
 X.o 38 (.bin .add (X.s 24) (X.i 1)),
 X.m 24 38]
def C.q81_r10 : List IOper := C.q81_r10_b
def C.q81_r10_w := pO C.q81_r10.eq_1
def C.q81_c34 : ICode := .keep [0, 1, 5, 23, 24] (.region C.q81_r10)
def C.q81_c34_w := pC C.q81_c34.eq_1
def C.q81_r9_b : List IOper := [
 X.m 34 5,
 X.o 35 (.loadN 4 (X.s 7)),
 X.o 36 (.buildSlice 4 1 [.int .i64 0, .int .i64 0, .bool false, .int .u32 0] [(0, 4, X.s 35)]),
 X.o 37 (.append 4 24 (X.s 34) (X.s 36)),
 X.m 5 37]
def C.q81_r9 : List IOper := C.q81_r9_b
def C.q81_r9_w := pO C.q81_r9.eq_1
def C.q81_c35 : ICode := .keep [0, 1, 5, 7, 23, 24, 33] (.cond (X.s 33) (.region C.q81_r9) .skip)
def C.q81_c35_w := pC C.q81_c35.eq_1
def C.q81_r8_b : List IOper := [
 X.m 33 8]
def C.q81_r8 : List IOper := C.q81_r8_b
def C.q81_r8_w := pO C.q81_r8.eq_1
def C.q81_c36 : ICode := .keep [0, 1, 5, 7, 8, 23, 24] (.seq (.region C.q81_r8) C.q81_c35)
def C.q81_c36_w := pC C.q81_c36.eq_1
def C.q81_r7_b : List IOper := [
 X.m 28 0,
 X.m 29 6,
 X.o 30 (.call F.q83 [X.s 28, X.s 29]),
 X.m 27 30,
 X.o 31 (.extract (X.s 27) 0),
 X.o 32 (.extract (X.s 27) 1),
 X.o 7 (.alloc [.int .i64 0, .int .i64 0, .bool false, .int .u32 0]),
 X.n (.storeN 4 (X.s 7) (X.s 31)),
 X.m 8 32]
def C.q81_r7 : List IOper := C.q81_r7_b
def C.q81_r7_w := pO C.q81_r7.eq_1
def C.q81_c37 : ICode := .keep [0, 1, 5, 6, 23, 24] (.seq (.region C.q81_r7) C.q81_c36)
def C.q81_c37_w := pC C.q81_c37.eq_1
def C.q81_r6_b : List IOper := [
 X.m 26 24,
 X.m 6 26]
def C.q81_r6 : List IOper := C.q81_r6_b
def C.q81_r6_w := pO C.q81_r6.eq_1
def C.q81_b38 : ICode := .seq (.region C.q81_r6) C.q81_c37
def C.q81_b38_w := pC C.q81_b38.eq_1
def C.q81_c39 : ICode := .keep [0, 1, 5, 23, 24] (.seq (.block 1 C.q81_b38) C.q81_c34)
def C.q81_c39_w := pC C.q81_c39.eq_1
def C.q81_c40 : ICode := .keep [0, 1, 5, 23, 24, 25] (.seq (.cond (X.s 25) .skip (.exit 0)) C.q81_c39)
def C.q81_c40_w := pC C.q81_c40.eq_1
def C.q81_r5_b : List IOper := [
 X.o 25 (.bin .lss (X.s 24) (X.s 23))]
def C.q81_r5 : List IOper := C.q81_r5_b
def C.q81_r5_w := pO C.q81_r5.eq_1
def C.q81_l41 : ICode := .keep [0, 1, 5, 23, 24] (.seq (.region C.q81_r5) C.q81_c40)
def C.q81_l41_w := pC C.q81_l41.eq_1
def C.q81_b42 : ICode := .loop C.q81_l41
def C.q81_b42_w := pC C.q81_b42.eq_1
def C.q81_c43 : ICode := .keep [0, 1, 5, 23, 24] (.block 0 C.q81_b42)
def C.q81_c43_w := pC C.q81_c43.eq_1
def C.q81_r4_b : List IOper := [
 X.m 19 0,
 X.o 20 (.nilchk (X.s 19)),
 X.o 21 (.fldAddr 4 (X.s 20)),
 X.o 22 (.load1 (X.s 21)),
 X.o 23 (.len (X.s 22)),
 X.o 24 (.move (X.i 0))]
def C.q81_r4 : List IOper := C.q81_r4_b
def C.q81_r4_w := pO C.q81_r4.eq_1
def C.q81_c44 : ICode := .keep [0, 1, 5] (.seq (.seq (.region C.q81_r4) C.q81_c43) C.q81_c33)
def C.q81_c44_w := pC C.q81_c44.eq_1
def C.q81_r3_b : List IOper := [
 X.o 5 (.move (.cst (.nils)))]
def C.q81_r3 : List IOper := C.q81_r3_b
def C.q81_r3_w := pO C.q81_r3.eq_1
def C.q81_c45 : ICode := .keep [0, 1] (.seq (.region C.q81_r3) C.q81_c44)
def C.q81_c45_w := pC C.q81_c45.eq_1
def C.q81_r2_b : List IOper := [
 X.o 4 (.move (.cst (.nils)))]
def C.q81_r2 : List IOper := C.q81_r2_b
def C.q81_r2_w := pO C.q81_r2.eq_1
def C.q81_c46 : ICode := .seq (.region C.q81_r2) .ret
def C.q81_c46_w := pC C.q81_c46.eq_1
def C.q81_c47 : ICode := .keep [0, 1, 18] (.cond (X.s 18) C.q81_c46 .skip)
def C.q81_c47_w := pC C.q81_c47.eq_1
def C.q81_r1_b : List IOper := [
 X.m 16 0,
 X.o 17 (.call F.q85 [X.s 16]),
 X.o 18 (.un .not (X.s 17))]
def C.q81_r1 : List IOper := C.q81_r1_b
def C.q81_r1_w := pO C.q81_r1.eq_1
def C.q81_c48 : ICode := .keep [0, 1] (.seq (.seq (.region C.q81_r1) C.q81_c47) C.q81_c45)
def C.q81_c48_w := pC C.q81_c48.eq_1
def C.q81_r0_b : List IOper := [
 X.o 4 (.move (.cst (.nils)))]
def C.q81_r0 : List IOper := C.q81_r0_b
def C.q81_r0_w := pO C.q81_r0.eq_1
def C.q81 : IFunc := ⟨2, [.slot 4], .seq (.region C.q81_r0) C.q81_c48⟩
def C.q81_W := aI (aI (aI (aI (aI (aI @C.q81_r30_w @C.q81_c1_w) (aI @C.q81_r29_w @C.q81_c2_w)) (aI (aI @C.q81_r28_w @C.q81_c3_w) (aI @C.q81_r27_w (aI @C.q81_c4_w @C.q81_r26_w)))) (aI (aI (aI @C.q81_c5_w @C.q81_r25_w) (aI @C.q81_c6_w @C.q81_r24_w)) (aI (aI @C.q81_b7_w @C.q81_c8_w) (aI @C.q81_c9_w (aI @C.q81_r23_w @C.q81_b11_w))))) (aI (aI (aI (aI @C.q81_c12_w @C.q81_r22_w) (aI @C.q81_c13_w @C.q81_c14_w)) (aI (aI @C.q81_r21_w @C.q81_c15_w) (aI @C.q81_r20_w (aI @C.q81_c16_w @C.q81_r19_w)))) (aI (aI (aI @C.q81_b17_w @C.q81_c18_w) (aI @C.q81_c19_w (aI @C.q81_r18_w @C.q81_b21_w))) (aI (aI @C.q81_c22_w @C.q81_r17_w) (aI @C.q81_c23_w (aI @C.q81_r16_w @C.q81_c24_w)))))) (aI (aI (aI (aI (aI @C.q81_r15_w @C.q81_c25_w) (aI @C.q81_r14_w @C.q81_c26_w)) (aI (aI @C.q81_r13_w @C.q81_b27_w) (aI @C.q81_c28_w (aI @C.q81_c29_w @C.q81_r12_w)))) (aI (aI (aI @C.q81_b31_w @C.q81_c32_w) (aI @C.q81_r11_w (aI @C.q81_c33_w @C.q81_r10_w))) (aI (aI @C.q81_c34_w @C.q81_r9_w) (aI @C.q81_c35_w (aI @C.q81_r8_w @C.q81_c36_w))))) (aI (aI (aI (aI @C.q81_r7_w @C.q81_c37_w) (aI @C.q81_r6_w @C.q81_b38_w)) (aI (aI @C.q81_c39_w @C.q81_c40_w) (aI @C.q81_r5_w (aI @C.q81_b42_w @C.q81_c43_w)))) (aI (aI (aI @C.q81_r4_w @C.q81_c44_w) (aI @C.q81_r3_w (aI @C.q81_c45_w @C.q81_r2_w))) (aI (aI @C.q81_c46_w @C.q81_c47_w) (aI @C.q81_r1_w (aI @C.q81_c48_w @C.q81_r0_w))))))
def C.q81_B := aI (aI (aI (aI @C.q81_r30_b.eq_1 (aI @C.q81_r29_b.eq_1 @C.q81_r28_b.eq_1)) (aI (aI @C.q81_r27_b.eq_1 @C.q81_r26_b.eq_1) (aI @C.q81_r25_b.eq_1 @C.q81_r24_b.eq_1))) (aI (aI (aI @C.q81_r23_b.eq_1 @C.q81_r22_b.eq_1) (aI @C.q81_r21_b.eq_1 @C.q81_r20_b.eq_1)) (aI (aI @C.q81_r19_b.eq_1 @C.q81_r18_b.eq_1) (aI @C.q81_r17_b.eq_1 @C.q81_r16_b.eq_1)))) (aI (aI (aI (aI @C.q81_r15_b.eq_1 @C.q81_r14_b.eq_1) (aI @C.q81_r13_b.eq_1 @C.q81_r12_b.eq_1)) (aI (aI @C.q81_r11_b.eq_1 @C.q81_r10_b.eq_1) (aI @C.q81_r9_b.eq_1 @C.q81_r8_b.eq_1))) (aI (aI (aI @C.q81_r7_b.eq_1 @C.q81_r6_b.eq_1) (aI @C.q81_r5_b.eq_1 @C.q81_r4_b.eq_1)) (aI (aI @C.q81_r3_b.eq_1 @C.q81_r2_b.eq_1) (aI @C.q81_r1_b.eq_1 @C.q81_r0_b.eq_1))))

def C.q72_r4_b : List IOper := [
 X.m 17 0,
 X.o 18 (.nilchk (X.s 17)),
 X.o 19 (.fldAddr 0 (X.s 18)),
 X.o 20 (.load1 (X.s 19)),
 X.o 21 (.fldAddr 0 (X.s 5)),
 X.o 22 (.load1 (X.s 21)),
 X.o 23 (.call F.q11 [X.s 20, X.s 22]),
 X.m 24 23,
 X.t 24 25 (.move (X.s 0)),
 X.t 24 26 (.nilchk (X.s 25)),
 X.t 24 27 (.fldAddr 1 (X.s 26)),
 X.t 24 28 (.load1 (X.s 27)),
 X.t 24 29 (.fldAddr 1 (X.s 5)),
 X.t 24 30 (.load1 (X.s 29)),
 X.t 24 31 (.call F.q89 [X.s 28, X.s 30]),
 X.t 24 32 (.bin .eql (X.s 31) (.cst (.int .u8 49))),
 X.o 33 (.pick (X.s 24) (X.s 32) (.cst (.bool false))),
 X.m 34 33,
 X.t 34 35 (.move (X.s 0)),
 X.t 34 36 (.nilchk (X.s 35)),
 X.t 34 37 (.fldAddr 2 (X.s 36)),
 X.t 34 38 (.load1 (X.s 37)),
 X.t 34 39 (.fldAddr 2 (X.s 5)),
 X.t 34 40 (.load1 (X.s 39)),
 X.t 34 41 (.call F.q112 [X.s 38, X.s 40]),
 X.t 34 42 (.un .not (X.s 41)),
 X.o 43 (.pick (X.s 34) (X.s 42) (.cst (.bool false))),
 X.m 4 43]
def C.q72_r4 : List IOper := C.q72_r4_b
def C.q72_r4_w := pO C.q72_r4.eq_1
def C.q72_c1 : ICode := .keep [0, 5] (.seq (.region C.q72_r4) .ret)
def C.q72_c1_w := pC C.q72_c1.eq_1
def C.q72_r3_b : List IOper := [
 X.m 10 0,
 X.o 11 (.nilchk (X.s 10)),
 X.o 12 (.fldAddr 4 (X.s 11)),
 X.o 13 (.load1 (X.s 12)),
 X.m 14 1,
 X.o 15 (.idxAddr 6 (X.s 13) (X.s 14)),
 X.o 16 (.loadN 6 (X.s 15)),
 X.o 5 (.alloc [.int .i64 0, .int .i64 0, .int .i64 0, .int .u32 0, .nilp, .nilp]),
 X.n (.storeN 6 (X.s 5) (X.s 16))]
def C.q72_r3 : List IOper := C.q72_r3_b
def C.q72_r3_w := pO C.q72_r3.eq_1
def C.q72_c2 : ICode := .keep [0, 1] (.seq (.region C.q72_r3) C.q72_c1)
def C.q72_c2_w := pC C.q72_c2.eq_1
def C.q72_r2_b : List IOper := [
 X.o 4 (.move (.cst (.bool false)))]
def C.q72_r2 : List IOper := C.q72_r2_b
def C.q72_r2_w := pO C.q72_r2.eq_1
def C.q72_c3 : ICode := .seq (.region C.q72_r2) .ret
def C.q72_c3_w := pC C.q72_c3.eq_1
def C.q72_c4 : ICode := .keep [0, 1, 9] (.cond (X.s 9) C.q72_c3 .skip)
def C.q72_c4_w := pC C.q72_c4.eq_1
def C.q72_r1_b : List IOper := [
 X.m 6 0,
 X.m 7 1,
 X.o 8 (.call F.q84 [X.s 6, X.s 7]),
 X.o 9 (.un .not (X.s 8))]
def C.q72_r1 : List IOper := C.q72_r1_b
def C.q72_r1_w := pO C.q72_r1.eq_1
def C.q72_c5 : ICode := .keep [0, 1] (.seq (.seq (.region C.q72_r1) C.q72_c4) C.q72_c2)
def C.q72_c5_w := pC C.q72_c5.eq_1
def C.q72_r0_b : List IOper := [
 X.o 4 (.move (.cst (.bool false)))]
def C.q72_r0 : List IOper := C.q72_r0_b
def C.q72_r0_w := pO C.q72_r0.eq_1
def C.q72 : IFunc := ⟨2, [.slot 4], .seq (.region C.q72_r0) C.q72_c5⟩
def C.q72_W := aI (aI (aI @C.q72_r4_w @C.q72_c1_w) (aI @C.q72_r3_w (aI @C.q72_c2_w @C.q72_r2_w))) (aI (aI @C.q72_c3_w @C.q72_c4_w) (aI @C.q72_r1_w (aI @C.q72_c5_w @C.q72_r0_w)))
def C.q72_B := aI (aI @C.q72_r4_b.eq_1 @C.q72_r3_b.eq_1) (aI @C.q72_r2_b.eq_1 (aI @C.q72_r1_b.eq_1 @C.q72_r0_b.eq_1))

def C.q80_r1_b : List IOper := [
 X.m 5 0,
 X.o 6 (.call F.q85 [X.s 5]),
 X.m 7 6,
 X.t 7 8 (.move (X.s 0)),
 X.t 7 9 (.nilchk (X.s 8)),
 X.t 7 10 (.fldAddr 0 (X.s 9)),
 X.t 7 11 (.load1 (X.s 10)),
 X.t 7 12 (.move (X.s 1)),
 X.t 7 13 (.call F.q11 [X.s 11, X.s 12]),
 X.o 14 (.pick (X.s 7) (X.s 13) (.cst (.bool false))),
 X.m 4 14]
def C.q80_r1 : List IOper := C.q80_r1_b
def C.q80_r1_w := pO C.q80_r1.eq_1
def C.q80_c1 : ICode := .keep [0, 1] (.seq (.region C.q80_r1) .ret)
def C.q80_c1_w := pC C.q80_c1.eq_1
def C.q80_r0_b : List IOper := [
 X.o 4 (.move (.cst (.bool false)))]
def C.q80_r0 : List IOper := C.q80_r0_b
def C.q80_r0_w := pO C.q80_r0.eq_1
def C.q80 : IFunc := ⟨2, [.slot 4], .seq (.region C.q80_r0) C.q80_c1⟩
def C.q80_W := aI @C.q80_r1_w (aI @C.q80_c1_w @C.q80_r0_w)
def C.q80_B := aI @C.q80_r1_b.eq_1 @C.q80_r0_b.eq_1

def C.q78_r3_b : List IOper := [
 X.m 8 0,
 X.o 9 (.nilchk (X.s 8)),
 X.o 10 (.fldAddr 1 (X.s 9)),
 X.o 11 (.load1 (X.s 10)),
 X.m 12 1,
 X.o 13 (.call F.q89 [X.s 11, X.s 12]),
 X.m 4 13]
def C.q78_r3 : List IOper := C.q78_r3_b
def C.q78_r3_w := pO C.q78_r3.eq_1
def C.q78_c1 : ICode := .keep [0, 1] (.seq (.region C.q78_r3) .ret)
def C.q78_c1_w := pC C.q78_c1.eq_1
def C.q78_r2_b : List IOper := [
 X.o 4 (.move (.cst (.int .u8 0)))]
def C.q78_r2 : List IOper := C.q78_r2_b
def C.q78_r2_w := pO C.q78_r2.eq_1
def C.q78_c2 : ICode := .seq (.region C.q78_r2) .ret
def C.q78_c2_w := pC C.q78_c2.eq_1
def C.q78_c3 : ICode := .keep [0, 1, 7] (.cond (X.s 7) C.q78_c2 .skip)
def C.q78_c3_w := pC C.q78_c3.eq_1
def C.q78_r1_b : List IOper := [
 X.m 5 0,
 X.o 6 (.call F.q85 [X.s 5]),
 X.o 7 (.un .not (X.s 6))]
def C.q78_r1 : List IOper := C.q78_r1_b
def C.q78_r1_w := pO C.q78_r1.eq_1
def C.q78_c4 : ICode := .keep [0, 1] (.seq (.seq (.region C.q78_r1) C.q78_c3) C.q78_c1)
def C.q78_c4_w := pC C.q78_c4.eq_1
def C.q78_r0_b : List IOper := [
 X.o 4 (.move (.cst (.int .u8 0)))]
def C.q78_r0 : List IOper := C.q78_r0_b
def C.q78_r0_w := pO C.q78_r0.eq_1
def C.q78 : IFunc := ⟨2, [.slot 4], .seq (.region C.q78_r0) C.q78_c4⟩
def C.q78_W := aI (aI (aI @C.q78_r3_w @C.q78_c1_w) (aI @C.q78_r2_w @C.q78_c2_w)) (aI (aI @C.q78_c3_w @C.q78_r1_w) (aI @C.q78_c4_w @C.q78_r0_w))
def C.q78_B := aI (aI @C.q78_r3_b.eq_1 @C.q78_r2_b.eq_1) (aI @C.q78_r1_b.eq_1 @C.q78_r0_b.eq_1)

def C.q77_r1_b : List IOper := [
 X.m 5 0,
 X.o 6 (.call F.q85 [X.s 5]),
 X.o 7 (.un .not (X.s 6)),
 X.m 8 7,
 X.f 8 9 (.move (X.s 0)),
 X.f 8 10 (.nilchk (X.s 9)),
 X.f 8 11 (.fldAddr 2 (X.s 10)),
 X.f 8 12 (.load1 (X.s 11)),
 X.f 8 13 (.move (X.s 1)),
 X.f 8 14 (.call F.q112 [X.s 12, X.s 13]),
 X.o 15 (.pick (X.s 8) (.cst (.bool true)) (X.s 14)),
 X.m 4 15]
def C.q77_r1 : List IOper := C.q77_r1_b
def C.q77_r1_w := pO C.q77_r1.eq_1
def C.q77_c1 : ICode := .keep [0, 1] (.seq (.region C.q77_r1) .ret)
def C.q77_c1_w := pC C.q77_c1.eq_1
def C.q77_r0_b : List IOper := [
 X.o 4 (.move (.cst (.bool false)))]
def C.q77_r0 : List IOper := C.q77_r0_b
def C.q77_r0_w := pO C.q77_r0.eq_1
def C.q77 : IFunc := ⟨2, [.slot 4], .seq (.region C.q77_r0) C.q77_c1⟩
def C.q77_W := aI @C.q77_r1_w (aI @C.q77_c1_w @C.q77_r0_w)
def C.q77_B := aI @C.q77_r1_b.eq_1 @C.q77_r0_b.eq_1

def C.q74_r3_b : List IOper := [
 X.m 8 0,
 X.o 9 (.nilchk (X.s 8)),
 X.o 10 (.fldAddr 0 (X.s 9)),
 X.o 11 (.load1 (X.s 10)),
 X.m 12 1,
 X.o 13 (.call F.q9 [X.s 11, X.s 12]),
 X.m 4 13]
def C.q74_r3 : List IOper := C.q74_r3_b
def C.q74_r3_w := pO C.q74_r3.eq_1
def C.q74_c1 : ICode := .keep [0, 1] (.seq (.region C.q74_r3) .ret)
def C.q74_c1_w := pC C.q74_c1.eq_1
def C.q74_r2_b : List IOper := [
 X.o 4 (.move (.cst (.nils)))]
def C.q74_r2 : List IOper := C.q74_r2_b
def C.q74_r2_w := pO C.q74_r2.eq_1
def C.q74_c2 : ICode := .seq (.region C.q74_r2) .ret
def C.q74_c2_w := pC C.q74_c2.eq_1
def C.q74_c3 : ICode := .keep [0, 1, 7] (.cond (X.s 7) C.q74_c2 .skip)
def C.q74_c3_w := pC C.q74_c3.eq_1
def C.q74_r1_b : List IOper := [
 X.m 5 0,
 X.o 6 (.call F.q85 [X.s 5]),
 X.o 7 (.un .not (X.s 6))]
def C.q74_r1 : List IOper := C.q74_r1_b
def C.q74_r1_w := pO C.q74_r1.eq_1
def C.q74_c4 : ICode := .keep [0, 1] (.seq (.seq (.region C.q74_r1) C.q74_c3) C.q74_c1)
def C.q74_c4_w := pC C.q74_c4.eq_1
def C.q74_r0_b : List IOper := [
 X.o 4 (.move (.cst (.nils)))]
def C.q74_r0 : List IOper := C.q74_r0_b
def C.q74_r0_w := pO C.q74_r0.eq_1
def C.q74 : IFunc := ⟨2, [.slot 4], .seq (.region C.q74_r0) C.q74_c4⟩
def C.q74_W := aI (aI (aI @C.q74_r3_w @C.q74_c1_w) (aI @C.q74_r2_w @C.q74_c2_w)) (aI (aI @C.q74_c3_w @C.q74_r1_w) (aI @C.q74_c4_w @C.q74_r0_w))
def C.q74_B := aI (aI @C.q74_r3_b.eq_1 @C.q74_r2_b.eq_1) (aI @C.q74_r1_b.eq_1 @C.q74_r0_b.eq_1)

def C.q16_r1_b : List IOper := [
 X.o 3 (.makeFunc F.q17 [X.s 1]),
 X.o 4 (.makeFunc F.q18 [X.s 1]),
 X.o 5 (.makeFunc F.q20 [X.s 1]),
 X.o 6 (.makeFunc F.q21 [X.s 1]),
 X.o 7 (.makeFunc F.q23 [X.s 1]),
 X.o 8 (.makeFunc F.q24 [X.s 1]),
 X.o 9 (.makeFunc F.q25 [X.s 1]),
 X.o 10 (.makeFunc F.q27 [X.s 1]),
 X.o 11 (.buildSlice 1 8 [.nilf] [(0, 1, X.s 3), (1, 1, X.s 4), (2, 1, X.s 5), (3, 1, X.s 6), (4, 1, X.s 7), (5, 1, X.s 8), (6, 1, X.s 9), (7, 1, X.s 10)]),
 X.o 12 (.call F.q52 [X.s 11]),
 X.m 2 12]
def C.q16_r1 : List IOper := C.q16_r1_b
def C.q16_r1_w := pO C.q16_r1.eq_1
def C.q16_c1 : ICode := .keep [1] (.seq (.region C.q16_r1) .ret)
def C.q16_c1_w := pC C.q16_c1.eq_1
def C.q16_r0_b : List IOper := [
 X.o 1 (.boxN (X.s 0)),
 X.o 2 (.move (X.i 0))]
def C.q16_r0 : List IOper := C.q16_r0_b
def C.q16_r0_w := pO C.q16_r0.eq_1
def C.q16 : IFunc := ⟨1, [.slot 2], .seq (.region C.q16_r0) C.q16_c1⟩
def C.q16_W := aI @C.q16_r1_w (aI @C.q16_c1_w @C.q16_r0_w)
def C.q16_B := aI @C.q16_r1_b.eq_1 @C.q16_r0_b.eq_1

def C.q8_r16_b : List IOper := [
 X.m 49 5,
 X.m 2 49,
 X.o 3 (.move (X.i 0))]
def C.q8_r16 : List IOper := C.q8_r16_b
def C.q8_r16_w := pO C.q8_r16.eq_1
def C.q8_c1 : ICode := .keep [5] (.seq (.region C.q8_r16) .ret)
def C.q8_c1_w := pC C.q8_c1.eq_1
def C.q8_r15_b : List IOper := [
 X.o 48 (.bin .add (X.s 20) (X.i 1)),
 X.m 20 48]
def C.q8_r15 : List IOper := C.q8_r15_b
def C.q8_r15_w := pO C.q8_r15.eq_1
def C.q8_c2 : ICode := .keep [5, 18, 19, 20] (.region C.q8_r15)
def C.q8_c2_w := pC C.q8_c2.eq_1
def C.q8_r14_b : List IOper := [
 X.m 38 5,
 X.m 39 5,
 X.o 40 (.nilchk (X.s 39)),
 X.o 41 (.fldAddr 0 (X.s 40)),
 X.o 42 (.load1 (X.s 41)),
 X.o 43 (.loadN 11 (X.s 8)),
 X.o 44 (.buildSlice 11 1 [.int .u8 0, .nils, .int .u64 0, .int .i64 0, .int .i64 0, .int .i64 0, .bool false, .int .i64 0, .int .i64 0, .int .i64 0, .int .i64 0] [(0, 11, X.s 43)]),
 X.o 45 (.append 11 104 (X.s 42) (X.s 44)),
 X.o 46 (.nilchk (X.s 38)),
 X.o 47 (.fldAddr 0 (X.s 46)),
 X.n (.store1 (X.s 47) (X.s 45))]
def C.q8_r14 : List IOper := C.q8_r14_b
def C.q8_r14_w := pO C.q8_r14.eq_1
def C.q8_c3 : ICode := .keep [5, 8, 18, 19, 20] (.region C.q8_r14)
def C.q8_c3_w := pC C.q8_c3.eq_1
def C.q8_r11_b : List IOper := [
 X.o 30 (.fldAddr 5 (X.s 7)),
 X.o 31 (.load1 (X.s 30)),
 X.o 32 (.fldAddr 7 (X.s 8)),
 X.n (.store1 (X.s 32) (X.s 31))]
def C.q8_r11 : List IOper := C.q8_r11_b
def C.q8_r11_w := pO C.q8_r11.eq_1
def C.q8_r13_b : List IOper := [
 X.o 35 (.fldAddr 4 (X.s 7)),
 X.o 36 (.load1 (X.s 35)),
 X.o 37 (.fldAddr 10 (X.s 8)),
 X.n (.store1 (X.s 37) (X.s 36))]
def C.q8_r13 : List IOper := C.q8_r13_b
def C.q8_r13_w := pO C.q8_r13.eq_1
def C.q8_c4 : ICode := .keep [5, 7, 8, 18, 19, 20, 33] (.cond (X.s 33) (.region C.q8_r13) .skip)
def C.q8_c4_w := pC C.q8_c4.eq_1
def C.q8_r12_b : List IOper := [
 X.o 34 (.bin .eql (X.s 27) (.cst (.int .u8 100))),
 X.m 33 34]
def C.q8_r12 : List IOper := C.q8_r12_b
def C.q8_r12_w := pO C.q8_r12.eq_1
def C.q8_c5 : ICode := .seq (.region C.q8_r12) C.q8_c4
def C.q8_c5_w := pC C.q8_c5.eq_1
def C.q8_c6 : ICode := .keep [5, 7, 8, 18, 19, 20, 27, 28] (.cond (X.s 28) (.region C.q8_r11) C.q8_c5)
def C.q8_c6_w := pC C.q8_c6.eq_1
def C.q8_r10_b : List IOper := [
 X.o 29 (.bin .eql (X.s 27) (.cst (.int .u8 112))),
 X.m 28 29]
def C.q8_r10 : List IOper := C.q8_r10_b
def C.q8_r10_w := pO C.q8_r10.eq_1
def C.q8_b7 : ICode := .seq (.region C.q8_r10) C.q8_c6
def C.q8_b7_w := pC C.q8_b7.eq_1
def C.q8_c8 : ICode := .keep [5, 7, 8, 18, 19, 20, 27] (.block 2 C.q8_b7)
def C.q8_c8_w := pC C.q8_c8.eq_1
def C.q8_r9_b : List IOper := [
 X.o 26 (.fldAddr 0 (X.s 7)),
 X.o 27 (.load1 (X.s 26))]
def C.q8_r9 : List IOper := C.q8_r9_b
def C.q8_r9_w := pO C.q8_r9.eq_1
def C.q8_c9 : ICode := .keep [5, 7, 8, 18, 19, 20] (.seq (.seq (.region C.q8_r9) C.q8_c8) C.q8_c3)
def C.q8_c9_w := pC C.q8_c9.eq_1
def C.q8_r8_b : List IOper := [
 X.o 24 (.loadN 6 (X.s 7)),
 X.o 25 (.build [.int .u8 0, .nils, .int .u64 0, .int .i64 0, .int .i64 0, .int .i64 0, .bool false, .int .i64 0, .int .i64 0, .int .i64 0, .int .i64 0] [(0, 6, X.s 24)]),
 X.o 8 (.alloc [.int .u8 0, .nils, .int .u64 0, .int .i64 0, .int .i64 0, .int .i64 0, .bool false, .int .i64 0, .int .i64 0, .int .i64 0, .int .i64 0]),
 X.n (.storeN 11 (X.s 8) (X.s 25))]
def C.q8_r8 : List IOper := C.q8_r8_b
def C.q8_r8_w := pO C.q8_r8.eq_1
def C.q8_c10 : ICode := .keep [5, 7, 18, 19, 20] (.seq (.region C.q8_r8) C.q8_c9)
def C.q8_c10_w := pC C.q8_c10.eq_1
def C.q8_r7_b : List IOper := [
 X.o 22 (.idxAddr 6 (X.s 18) (X.s 20)),
 X.o 23 (.loadN 6 (X.s 22)),
 X.o 7 (.alloc [.int .u8 0, .nils, .int .u64 0, .int .i64 0, .int .i64 0, .int .i64 0]),
 X.n (.storeN 6 (X.s 7) (X.s 23))]
def C.q8_r7 : List IOper := C.q8_r7_b
def C.q8_r7_w := pO C.q8_r7.eq_1
def C.q8_b11 : ICode := .seq (.region C.q8_r7) C.q8_c10
def C.q8_b11_w := pC C.q8_b11.eq_1
def C.q8_c12 : ICode := .keep [5, 18, 19, 20] (.seq (.block 1 C.q8_b11) C.q8_c2)
def C.q8_c12_w := pC C.q8_c12.eq_1
def C.q8_c13 : ICode := .keep [5, 18, 19, 20, 21] (.seq (.cond (X.s 21) .skip (.exit 0)) C.q8_c12)
def C.q8_c13_w := pC C.q8_c13.eq_1
def C.q8_r6_b : List IOper := [
 X.o 21 (.bin .lss (X.s 20) (X.s 19))]
def C.q8_r6 : List IOper := C.q8_r6_b
def C.q8_r6_w := pO C.q8_r6.eq_1
def C.q8_l14 : ICode := .keep [5, 18, 19, 20] (.seq (.region C.q8_r6) C.q8_c13)
def C.q8_l14_w := pC C.q8_l14.eq_1
def C.q8_b15 : ICode := .loop C.q8_l14
def C.q8_b15_w := pC C.q8_b15.eq_1
def C.q8_c16 : ICode := .keep [5, 18, 19, 20] (.block 0 C.q8_b15)
def C.q8_c16_w := pC C.q8_c16.eq_1
def C.q8_r5_b : List IOper := [
 X.o 16 (.loadN 4 (X.s 1)),
 X.o 17 (.call F.q29 [X.s 16]),
 X.o 18 (.field1 0 (X.s 17)),
 X.o 19 (.len (X.s 18)),
 X.o 20 (.move (X.i 0))]
def C.q8_r5 : List IOper := C.q8_r5_b
def C.q8_r5_w := pO C.q8_r5.eq_1
def C.q8_c17 : ICode := .keep [1, 5] (.seq (.seq (.region C.q8_r5) C.q8_c16) C.q8_c1)
def C.q8_c17_w := pC C.q8_c17.eq_1
def C.q8_r4_b : List IOper := [
 X.o 14 (.build [.nils] []),
 X.o 15 (.boxN (X.s 14)),
 X.m 5 15]
def C.q8_r4 : List IOper := C.q8_r4_b
def C.q8_r4_w := pO C.q8_r4.eq_1
def C.q8_c18 : ICode := .keep [1] (.seq (.region C.q8_r4) C.q8_c17)
def C.q8_c18_w := pC C.q8_c18.eq_1
def C.q8_r3_b : List IOper := [
 X.m 13 4,
 X.o 2 (.move (.cst (.nilp))),
 X.m 3 13]
def C.q8_r3 : List IOper := C.q8_r3_b
def C.q8_r3_w := pO C.q8_r3.eq_1
def C.q8_c19 : ICode := .seq (.region C.q8_r3) .ret
def C.q8_c19_w := pC C.q8_c19.eq_1
def C.q8_c20 : ICode := .keep [1, 4, 12] (.cond (X.s 12) C.q8_c19 .skip)
def C.q8_c20_w := pC C.q8_c20.eq_1
def C.q8_r2_b : List IOper := [
 X.m 11 4,
 X.o 12 (.bin .neq (X.s 11) (X.i 0))]
def C.q8_r2 : List IOper := C.q8_r2_b
def C.q8_r2_w := pO C.q8_r2.eq_1
def C.q8_c21 : ICode := .keep [1, 4] (.seq (.region C.q8_r2) C.q8_c20)
def C.q8_c21_w := pC C.q8_c21.eq_1
def C.q8_r1_b : List IOper := [
 X.o 9 (.loadN 4 (X.s 1)),
 X.o 10 (.call F.q16 [X.s 9]),
 X.m 4 10]
def C.q8_r1 : List IOper := C.q8_r1_b
def C.q8_r1_w := pO C.q8_r1.eq_1
def C.q8_c22 : ICode := .keep [1] (.seq (.seq (.region C.q8_r1) C.q8_c21) C.q8_c18)
def C.q8_c22_w := pC C.q8_c22.eq_1
def C.q8_r0_b : List IOper := [
 X.o 1 (.boxN (X.s 0)),
 X.o 2 (.move (.cst (.nilp))),
 X.o 3 (.move (X.i 0))]
def C.q8_r0 : List IOper := C.q8_r0_b
def C.q8_r0_w := pO C.q8_r0.eq_1
def C.q8 : IFunc := ⟨1, [.slot 2, .slot 3], .seq (.region C.q8_r0) C.q8_c22⟩
def C.q8_W := aI (aI (aI (aI (aI @C.q8_r16_w @C.q8_c1_w) (aI @C.q8_r15_w @C.q8_c2_w)) (aI (aI @C.q8_r14_w @C.q8_c3_w) (aI @C.q8_r11_w (aI @C.q8_r13_w @C.q8_c4_w)))) (aI (aI (aI @C.q8_r12_w @C.q8_c5_w) (aI @C.q8_c6_w (aI @C.q8_r10_w @C.q8_b7_w))) (aI (aI @C.q8_c8_w @C.q8_r9_w) (aI @C.q8_c9_w (aI @C.q8_r8_w @C.q8_c10_w))))) (aI (aI (aI (aI @C.q8_r7_w @C.q8_b11_w) (aI @C.q8_c12_w @C.q8_c13_w)) (aI (aI @C.q8_r6_w @C.q8_b15_w) (aI @C.q8_c16_w (aI @C.q8_r5_w @C.q8_c17_w)))) (aI (aI (aI @C.q8_r4_w @C.q8_c18_w) (aI @C.q8_r3_w (aI @C.q8_c19_w @C.q8_c20_w))) (aI (aI @C.q8_r2_w @C.q8_c21_w) (aI @C.q8_r1_w (aI @C.q8_c22_w @C.q8_r0_w)))))
def C.q8_B := aI (aI (aI (aI @C.q8_r16_b.eq_1 @C.q8_r15_b.eq_1) (aI @C.q8_r14_b.eq_1 @C.q8_r11_b.eq_1)) (aI (aI @C.q8_r13_b.eq_1 @C.q8_r12_b.eq_1) (aI @C.q8_r10_b.eq_1 @C.q8_r9_b.eq_1))) (aI (aI (aI @C.q8_r8_b.eq_1 @C.q8_r7_b.eq_1) (aI @C.q8_r6_b.eq_1 @C.q8_r5_b.eq_1)) (aI (aI @C.q8_r4_b.eq_1 @C.q8_r3_b.eq_1) (aI @C.q8_r2_b.eq_1 (aI @C.q8_r1_b.eq_1 @C.q8_r0_b.eq_1))))

def C.q93_r10_b : List IOper := [
 X.m 34 5,
 X.m 2 34,
 X.o 3 (.move (X.i 0))]
def C.q93_r10 : List IOper := C.q93_r10_b
def C.q93_r10_w := pO C.q93_r10.eq_1
def C.q93_c1 : ICode := .keep [5] (.seq (.region C.q93_r10) .ret)
def C.q93_c1_w := pC C.q93_c1.eq_1
def C.q93_r9_b : List IOper := [
 X.o 33 (.bin .add (X.s 18) (X.i 1)),
 X.m 18 33]
def C.q93_r9 : List IOper := C.q93_r9_b
def C.q93_r9_w := pO C.q93_r9.eq_1
def C.q93_c2 : ICode := .keep [5, 16, 17, 18] (.region C.q93_r9)
def C.q93_c2_w := pC C.q93_c2.eq_1
def C.q93_r8_b : List IOper := [
 X.m 22 5,
 X.m 23 5,
 X.o 24 (.nilchk (X.s 23)),
 X.o 25 (.fldAddr 0 (X.s 24)),
 X.o 26 (.load1 (X.s 25)),
 X.o 27 (.loadN 3 (X.s 7)),
 X.o 28 (.build [.int .i64 0, .int .i64 0, .bool false, .int .u8 0, .int .i64 0, .bool false, .bool false] [(0, 3, X.s 27), (3, 1, .cst (.int .u8 48))]),
 X.o 29 (.buildSlice 7 1 [.int .i64 0, .int .i64 0, .bool false, .int .u8 0, .int .i64 0, .bool false, .bool false] [(0, 7, X.s 28)]),
 X.o 30 (.append 7 48 (X.s 26) (X.s 29)),
 X.o 31 (.nilchk (X.s 22)),
 X.o 32 (.fldAddr 0 (X.s 31)),
 X.n (.store1 (X.s 32) (X.s 30))]
def C.q93_r8 : List IOper := C.q93_r8_b
def C.q93_r8_w := pO C.q93_r8.eq_1
def C.q93_c3 : ICode := .keep [5, 7, 16, 17, 18] (.region C.q93_r8)
def C.q93_c3_w := pC C.q93_c3.eq_1
def C.q93_r7_b : List IOper := [
 X.o 20 (.idxAddr 3 (X.s 16) (X.s 18)),
 X.o 21 (.loadN 3 (X.s 20)),
 X.o 7 (.alloc [.int .i64 0, .int .i64 0, .bool false]),
 X.n (.storeN 3 (X.s 7) (X.s 21))]
def C.q93_r7 : List IOper := C.q93_r7_b
def C.q93_r7_w := pO C.q93_r7.eq_1
def C.q93_b4 : ICode := .seq (.region C.q93_r7) C.q93_c3
def C.q93_b4_w := pC C.q93_b4.eq_1
def C.q93_c5 : ICode := .keep [5, 16, 17, 18] (.seq (.block 1 C.q93_b4) C.q93_c2)
def C.q93_c5_w := pC C.q93_c5.eq_1
def C.q93_c6 : ICode := .keep [5, 16, 17, 18, 19] (.seq (.cond (X.s 19) .skip (.exit 0)) C.q93_c5)
def C.q93_c6_w := pC C.q93_c6.eq_1
def C.q93_r6_b : List IOper := [
 X.o 19 (.bin .lss (X.s 18) (X.s 17))]
def C.q93_r6 : List IOper := C.q93_r6_b
def C.q93_r6_w := pO C.q93_r6.eq_1
def C.q93_l7 : ICode := .keep [5, 16, 17, 18] (.seq (.region C.q93_r6) C.q93_c6)
def C.q93_l7_w := pC C.q93_l7.eq_1
def C.q93_b8 : ICode := .loop C.q93_l7
def C.q93_b8_w := pC C.q93_b8.eq_1
def C.q93_c9 : ICode := .keep [5, 16, 17, 18] (.block 0 C.q93_b8)
def C.q93_c9_w := pC C.q93_c9.eq_1
def C.q93_r5_b : List IOper := [
 X.o 15 (.fldAddr 1 (X.s 1)),
 X.o 16 (.load1 (X.s 15)),
 X.o 17 (.len (X.s 16)),
 X.o 18 (.move (X.i 0))]
def C.q93_r5 : List IOper := C.q93_r5_b
def C.q93_r5_w := pO C.q93_r5.eq_1
def C.q93_c10 : ICode := .keep [1, 5] (.seq (.seq (.region C.q93_r5) C.q93_c9) C.q93_c1)
def C.q93_c10_w := pC C.q93_c10.eq_1
def C.q93_r4_b : List IOper := [
 X.o 13 (.build [.nils] []),
 X.o 14 (.boxN (X.s 13)),
 X.m 5 14]
def C.q93_r4 : List IOper := C.q93_r4_b
def C.q93_r4_w := pO C.q93_r4.eq_1
def C.q93_c11 : ICode := .keep [1] (.seq (.region C.q93_r4) C.q93_c10)
def C.q93_c11_w := pC C.q93_c11.eq_1
def C.q93_r3_b : List IOper := [
 X.m 12 4,
 X.o 2 (.move (.cst (.nilp))),
 X.m 3 12]
def C.q93_r3 : List IOper := C.q93_r3_b
def C.q93_r3_w := pO C.q93_r3.eq_1
def C.q93_c12 : ICode := .seq (.region C.q93_r3) .ret
def C.q93_c12_w := pC C.q93_c12.eq_1
def C.q93_c13 : ICode := .keep [1, 4, 11] (.cond (X.s 11) C.q93_c12 .skip)
def C.q93_c13_w := pC C.q93_c13.eq_1
def C.q93_r2_b : List IOper := [
 X.m 10 4,
 X.o 11 (.bin .neq (X.s 10) (X.i 0))]
def C.q93_r2 : List IOper := C.q93_r2_b
def C.q93_r2_w := pO C.q93_r2.eq_1
def C.q93_c14 : ICode := .keep [1, 4] (.seq (.region C.q93_r2) C.q93_c13)
def C.q93_c14_w := pC C.q93_c14.eq_1
def C.q93_r1_b : List IOper := [
 X.o 8 (.loadN 4 (X.s 1)),
 X.o 9 (.call F.q16 [X.s 8]),
 X.m 4 9]
def C.q93_r1 : List IOper := C.q93_r1_b
def C.q93_r1_w := pO C.q93_r1.eq_1
def C.q93_c15 : ICode := .keep [1] (.seq (.seq (.region C.q93_r1) C.q93_c14) C.q93_c11)
def C.q93_c15_w := pC C.q93_c15.eq_1
def C.q93_r0_b : List IOper := [
 X.o 1 (.boxN (X.s 0)),
 X.o 2 (.move (.cst (.nilp))),
 X.o 3 (.move (X.i 0))]
def C.q93_r0 : List IOper := C.q93_r0_b
def C.q93_r0_w := pO C.q93_r0.eq_1
def C.q93 : IFunc := ⟨1, [.slot 2, .slot 3], .seq (.region C.q93_r0) C.q93_c15⟩
def C.q93_W := aI (aI (aI (aI @C.q93_r10_w (aI @C.q93_c1_w @C.q93_r9_w)) (aI @C.q93_c2_w (aI @C.q93_r8_w @C.q93_c3_w))) (aI (aI @C.q93_r7_w (aI @C.q93_b4_w @C.q93_c5_w)) (aI @C.q93_c6_w (aI @C.q93_r6_w @C.q93_b8_w)))) (aI (aI (aI @C.q93_c9_w (aI @C.q93_r5_w @C.q93_c10_w)) (aI @C.q93_r4_w (aI @C.q93_c11_w @C.q93_r3_w))) (aI (aI @C.q93_c12_w (aI @C.q93_c13_w @C.q93_r2_w)) (aI (aI @C.q93_c14_w @C.q93_r1_w) (aI @C.q93_c15_w @C.q93_r0_w))))
def C.q93_B := aI (aI (aI @C.q93_r10_b.eq_1 @C.q93_r9_b.eq_1) (aI @C.q93_r8_b.eq_1 (aI @C.q93_r7_b.eq_1 @C.q93_r6_b.eq_1))) (aI (aI @C.q93_r5_b.eq_1 (aI @C.q93_r4_b.eq_1 @C.q93_r3_b.eq_1)) (aI @C.q93_r2_b.eq_1 (aI @C.q93_r1_b.eq_1 @C.q93_r0_b.eq_1)))

def C.q116_r10_b : List IOper := [
 X.m 36 5,
 X.m 2 36,
 X.o 3 (.move (X.i 0))]
def C.q116_r10 : List IOper := C.q116_r10_b
def C.q116_r10_w := pO C.q116_r10.eq_1
def C.q116_c1 : ICode := .keep [5] (.seq (.region C.q116_r10) .ret)
def C.q116_c1_w := pC C.q116_c1.eq_1
def C.q116_r9_b : List IOper := [
 X.o 35 (.bin .add (X.s 22) (X.i 1)),
 X.m 22 35]
def C.q116_r9 : List IOper := C.q116_r9_b
def C.q116_r9_w := pO C.q116_r9.eq_1
def C.q116_c2 : ICode := .keep [5, 20, 21, 22] (.region C.q116_r9)
def C.q116_c2_w := pC C.q116_c2.eq_1
def C.q116_r8_b : List IOper := [
 X.m 27 5,
 X.o 28 (.nilchk (X.s 27)),
 X.o 29 (.fldAddr 0 (X.s 28)),
 X.o 30 (.load1 (X.s 29)),
 X.m 31 6,
 X.o 32 (.fldAddr 0 (X.s 7)),
 X.o 33 (.load1 (X.s 32)),
 X.o 34 (.build [.int .i64 0, .int .i64 0, .bool false, .bool false] [(0, 1, X.s 33), (2, 1, .cst (.bool true))]),
 X.n (.mapSet (X.s 30) (X.s 31) (X.s 34))]
def C.q116_r8 : List IOper := C.q116_r8_b
def C.q116_r8_w := pO C.q116_r8.eq_1
def C.q116_c3 : ICode := .keep [5, 6, 7, 20, 21, 22] (.region C.q116_r8)
def C.q116_c3_w := pC C.q116_c3.eq_1
def C.q116_r7_b : List IOper := [
 X.m 24 22,
 X.o 25 (.idxAddr 1 (X.s 20) (X.s 22)),
 X.o 26 (.loadN 1 (X.s 25)),
 X.o 7 (.alloc [.int .i64 0]),
 X.m 6 24,
 X.n (.storeN 1 (X.s 7) (X.s 26))]
def C.q116_r7 : List IOper := C.q116_r7_b
def C.q116_r7_w := pO C.q116_r7.eq_1
def C.q116_b4 : ICode := .seq (.region C.q116_r7) C.q116_c3
def C.q116_b4_w := pC C.q116_b4.eq_1
def C.q116_c5 : ICode := .keep [5, 20, 21, 22] (.seq (.block 1 C.q116_b4) C.q116_c2)
def C.q116_c5_w := pC C.q116_c5.eq_1
def C.q116_c6 : ICode := .keep [5, 20, 21, 22, 23] (.seq (.cond (X.s 23) .skip (.exit 0)) C.q116_c5)
def C.q116_c6_w := pC C.q116_c6.eq_1
def C.q116_r6_b : List IOper := [
 X.o 23 (.bin .lss (X.s 22) (X.s 21))]
def C.q116_r6 : List IOper := C.q116_r6_b
def C.q116_r6_w := pO C.q116_r6.eq_1
def C.q116_l7 : ICode := .keep [5, 20, 21, 22] (.seq (.region C.q116_r6) C.q116_c6)
def C.q116_l7_w := pC C.q116_l7.eq_1
def C.q116_b8 : ICode := .loop C.q116_l7
def C.q116_b8_w := pC C.q116_b8.eq_1
def C.q116_c9 : ICode := .keep [5, 20, 21, 22] (.block 0 C.q116_b8)
def C.q116_c9_w := pC C.q116_c9.eq_1
def C.q116_r5_b : List IOper := [
 X.o 19 (.fldAddr 2 (X.s 1)),
 X.o 20 (.load1 (X.s 19)),
 X.o 21 (.len (X.s 20)),
 X.o 22 (.move (X.i 0))]
def C.q116_r5 : List IOper := C.q116_r5_b
def C.q116_r5_w := pO C.q116_r5.eq_1
def C.q116_c10 : ICode := .keep [1, 5] (.seq (.seq (.region C.q116_r5) C.q116_c9) C.q116_c1)
def C.q116_c10_w := pC C.q116_c10.eq_1
def C.q116_r4_b : List IOper := [
 X.o 13 (.fldAddr 2 (X.s 1)),
 X.o 14 (.load1 (X.s 13)),
 X.o 15 (.len (X.s 14)),
 X.o 16 (.makeMap (some (X.s 15))),
 X.o 17 (.build [.nilm] [(0, 1, X.s 16)]),
 X.o 18 (.boxN (X.s 17)),
 X.m 5 18]
def C.q116_r4 : List IOper := C.q116_r4_b
def C.q116_r4_w := pO C.q116_r4.eq_1
def C.q116_c11 : ICode := .keep [1] (.seq (.region C.q116_r4) C.q116_c10)
def C.q116_c11_w := pC C.q116_c11.eq_1
def C.q116_r3_b : List IOper := [
 X.m 12 4,
 X.o 2 (.move (.cst (.nilp))),
 X.m 3 12]
def C.q116_r3 : List IOper := C.q116_r3_b
def C.q116_r3_w := pO C.q116_r3.eq_1
def C.q116_c12 : ICode := .seq (.region C.q116_r3) .ret
def C.q116_c12_w := pC C.q116_c12.eq_1
def C.q116_c13 : ICode := .keep [1, 4, 11] (.cond (X.s 11) C.q116_c12 .skip)
def C.q116_c13_w := pC C.q116_c13.eq_1
def C.q116_r2_b : List IOper := [
 X.m 10 4,
 X.o 11 (.bin .neq (X.s 10) (X.i 0))]
def C.q116_r2 : List IOper := C.q116_r2_b
def C.q116_r2_w := pO C.q116_r2.eq_1
def C.q116_c14 : ICode := .keep [1, 4] (.seq (.region C.q116_r2) C.q116_c13)
def C.q116_c14_w := pC C.q116_c14.eq_1
def C.q116_r1_b : List IOper := [
 X.o 8 (.loadN 4 (X.s 1)),
 X.o 9 (.call F.q16 [X.s 8]),
 X.m 4 9]
def C.q116_r1 : List IOper := C.q116_r1_b
def C.q116_r1_w := pO C.q116_r1.eq_1
def C.q116_c15 : ICode := .keep [1] (.seq (.seq (.region C.q116_r1) C.q116_c14) C.q116_c11)
def C.q116_c15_w := pC C.q116_c15.eq_1
def C.q116_r0_b : List IOper := [
 X.o 1 (.boxN (X.s 0)),
 X.o 2 (.move (.cst (.nilp))),
 X.o 3 (.move (X.i 0))]
def C.q116_r0 : List IOper := C.q116_r0_b
def C.q116_r0_w := pO C.q116_r0.eq_1
def C.q116 : IFunc := ⟨1, [.slot 2, .slot 3], .seq (.region C.q116_r0) C.q116_c15⟩
def C.q116_W := aI (aI (aI (aI @C.q116_r10_w (aI @C.q116_c1_w @C.q116_r9_w)) (aI @C.q116_c2_w (aI @C.q116_r8_w @C.q116_c3_w))) (aI (aI @C.q116_r7_w (aI @C.q116_b4_w @C.q116_c5_w)) (aI @C.q116_c6_w (aI @C.q116_r6_w @C.q116_b8_w)))) (aI (aI (aI @C.q116_c9_w (aI @C.q116_r5_w @C.q116_c10_w)) (aI @C.q116_r4_w (aI @C.q116_c11_w @C.q116_r3_w))) (aI (aI @C.q116_c12_w (aI @C.q116_c13_w @C.q116_r2_w)) (aI (aI @C.q116_c14_w @C.q116_r1_w) (aI @C.q116_c15_w @C.q116_r0_w))))
def C.q116_B := aI (aI (aI @C.q116_r10_b.eq_1 @C.q116_r9_b.eq_1) (aI @C.q116_r8_b.eq_1 (aI @C.q116_r7_b.eq_1 @C.q116_r6_b.eq_1))) (aI (aI @C.q116_r5_b.eq_1 (aI @C.q116_r4_b.eq_1 @C.q116_r3_b.eq_1)) (aI @C.q116_r2_b.eq_1 (aI @C.q116_r1_b.eq_1 @C.q116_r0_b.eq_1)))

def C.q110_r5_b : List IOper := [
 X.m 20 4,
 X.m 2 20,
 X.o 3 (.move (X.i 0))]
def C.q110_r5 : List IOper := C.q110_r5_b
def C.q110_r5_w := pO C.q110_r5.eq_1
def C.q110_c1 : ICode := .keep [4] (.seq (.region C.q110_r5) .ret)
def C.q110_c1_w := pC C.q110_c1.eq_1
def C.q110_r4_b : List IOper := [
 X.m 18 4,
 X.o 19 (.call F.q98 [X.s 18])]
def C.q110_r4 : List IOper := C.q110_r4_b
def C.q110_r4_w := pO C.q110_r4.eq_1
def C.q110_c2 : ICode := .keep [4] (.seq (.region C.q110_r4) C.q110_c1)
def C.q110_c2_w := pC C.q110_c2.eq_1
def C.q110_r3_b : List IOper := [
 X.m 8 0,
 X.m 10 0,
 X.o 11 (.len (X.s 10)),
 X.m 13 0,
 X.o 14 (.len (X.s 13)),
 ⟨some 9, .call F.q117 [X.s 8], none, [], [(X.s 11, X.s 11), (X.s 14, X.s 14)]⟩,
 ⟨some 12, .makeSlice 1 4 [.int .u32 0] (X.s 11) (X.s 11), none, [], [(X.s 14, X.s 14)]⟩,
 X.o 15 (.makeSlice 1 4 [.int .u32 0] (X.s 14) (X.s 14)),
 X.o 16 (.build [.nils, .nils, .nils, .bool false] [(0, 1, X.s 9), (1, 1, X.s 12), (2, 1, X.s 15)]),
 X.o 17 (.boxN (X.s 16)),
 X.m 4 17]
def C.q110_r3 : List IOper := C.q110_r3_b
def C.q110_r3_w := pO C.q110_r3.eq_1
def C.q110_c3 : ICode := .keep [0] (.seq (.region C.q110_r3) C.q110_c2)
def C.q110_c3_w := pC C.q110_c3.eq_1
def C.q110_r2_b : List IOper := [
 X.o 2 (.move (.cst (.nilp))),
 X.o 3 (.move (X.i 8))]
def C.q110_r2 : List IOper := C.q110_r2_b
def C.q110_r2_w := pO C.q110_r2.eq_1
def C.q110_c4 : ICode := .seq (.region C.q110_r2) .ret
def C.q110_c4_w := pC C.q110_c4.eq_1
def C.q110_c5 : ICode := .keep [0, 7] (.cond (X.s 7) C.q110_c4 .skip)
def C.q110_c5_w := pC C.q110_c5.eq_1
def C.q110_r1_b : List IOper := [
 X.m 5 0,
 X.o 6 (.len (X.s 5)),
 X.o 7 (.bin .gtr (X.s 6) (X.i 8))]
def C.q110_r1 : List IOper := C.q110_r1_b
def C.q110_r1_w := pO C.q110_r1.eq_1
def C.q110_c6 : ICode := .keep [0] (.seq (.seq (.region C.q110_r1) C.q110_c5) C.q110_c3)
def C.q110_c6_w := pC C.q110_c6.eq_1
def C.q110_r0_b : List IOper := [
 X.o 2 (.move (.cst (.nilp))),
 X.o 3 (.move (X.i 0))]
def C.q110_r0 : List IOper := C.q110_r0_b
def C.q110_r0_w := pO C.q110_r0.eq_1
def C.q110 : IFunc := ⟨1, [.slot 2, .slot 3], .seq (.region C.q110_r0) C.q110_c6⟩
def C.q110_W := aI (aI (aI @C.q110_r5_w (aI @C.q110_c1_w @C.q110_r4_w)) (aI @C.q110_c2_w (aI @C.q110_r3_w @C.q110_c3_w))) (aI (aI @C.q110_r2_w (aI @C.q110_c4_w @C.q110_c5_w)) (aI @C.q110_r1_w (aI @C.q110_c6_w @C.q110_r0_w)))
def C.q110_B := aI (aI @C.q110_r5_b.eq_1 (aI @C.q110_r4_b.eq_1 @C.q110_r3_b.eq_1)) (aI @C.q110_r2_b.eq_1 (aI @C.q110_r1_b.eq_1 @C.q110_r0_b.eq_1))

def C.q100_r3_b : List IOper := [
 X.m 5 0,
 X.o 6 (.nilchk (X.s 5)),
 X.o 7 (.fldAddr 0 (X.s 6)),
 X.o 8 (.load1 (X.s 7)),
 X.o 9 (.len (X.s 8)),
 X.m 2 9]
def C.q100_r3 : List IOper := C.q100_r3_b
def C.q100_r3_w := pO C.q100_r3.eq_1
def C.q100_c1 : ICode := .keep [0] (.seq (.region C.q100_r3) .ret)
def C.q100_c1_w := pC C.q100_c1.eq_1
def C.q100_r2_b : List IOper := [
 X.o 2 (.move (X.i 0))]
def C.q100_r2 : List IOper := C.q100_r2_b
def C.q100_r2_w := pO C.q100_r2.eq_1
def C.q100_c2 : ICode := .seq (.region C.q100_r2) .ret
def C.q100_c2_w := pC C.q100_c2.eq_1
def C.q100_c3 : ICode := .keep [0, 4] (.cond (X.s 4) C.q100_c2 .skip)
def C.q100_c3_w := pC C.q100_c3.eq_1
def C.q100_r1_b : List IOper := [
 X.m 3 0,
 X.o 4 (.eqP 0 false (X.s 3) (.cst (.nilp)))]
def C.q100_r1 : List IOper := C.q100_r1_b
def C.q100_r1_w := pO C.q100_r1.eq_1
def C.q100_c4 : ICode := .keep [0] (.seq (.seq (.region C.q100_r1) C.q100_c3) C.q100_c1)
def C.q100_c4_w := pC C.q100_c4.eq_1
def C.q100_r0_b : List IOper := [
 X.o 2 (.move (X.i 0))]
def C.q100_r0 : List IOper := C.q100_r0_b
def C.q100_r0_w := pO C.q100_r0.eq_1
def C.q100 : IFunc := ⟨1, [.slot 2], .seq (.region C.q100_r0) C.q100_c4⟩
def C.q100_W := aI (aI (aI @C.q100_r3_w @C.q100_c1_w) (aI @C.q100_r2_w @C.q100_c2_w)) (aI (aI @C.q100_c3_w @C.q100_r1_w) (aI @C.q100_c4_w @C.q100_r0_w))
def C.q100_B := aI (aI @C.q100_r3_b.eq_1 @C.q100_r2_b.eq_1) (aI @C.q100_r1_b.eq_1 @C.q100_r0_b.eq_1)

def C.q97_r1_b : List IOper := [
 X.o 1 (.build [.int .i64 0, .int .i64 0] []),
 X.o 2 (.boxN (X.s 1)),
 X.m 0 2]
def C.q97_r1 : List IOper := C.q97_r1_b
def C.q97_r1_w := pO C.q97_r1.eq_1
def C.q97_c1 : ICode := .keep [] (.seq (.region C.q97_r1) .ret)
def C.q97_c1_w := pC C.q97_c1.eq_1
def C.q97_r0_b : List IOper := [
 X.o 0 (.move (.cst (.nilp)))]
def C.q97_r0 : List IOper := C.q97_r0_b
def C.q97_r0_w := pO C.q97_r0.eq_1
def C.q97 : IFunc := ⟨0, [.slot 0], .seq (.region C.q97_r0) C.q97_c1⟩
def C.q97_W := aI @C.q97_r1_w (aI @C.q97_c1_w @C.q97_r0_w)
def C.q97_B := aI @C.q97_r1_b.eq_1 @C.q97_r0_b.eq_1

def C.q3_r11_b : List IOper := [
 X.m 39 4,
 X.m 2 39,
 X.o 3 (.move (X.i 0))]
def C.q3_r11 : List IOper := C.q3_r11_b
def C.q3_r11_w := pO C.q3_r11.eq_1
def C.q3_c1 : ICode := .keep [4] (.seq (.region C.q3_r11) .ret)
def C.q3_c1_w := pC C.q3_c1.eq_1
def C.q3_r10_b : List IOper := [
 X.o 38 (.bin .add (X.s 20) (X.i 1)),
 X.m 20 38]
def C.q3_r10 : List IOper := C.q3_r10_b
def C.q3_r10_w := pO C.q3_r10.eq_1
def C.q3_c2 : ICode := .keep [4, 18, 19, 20] (.region C.q3_r10)
def C.q3_c2_w := pC C.q3_c2.eq_1
def C.q3_r9_b : List IOper := [
 X.m 31 4,
 X.o 32 (.nilchk (X.s 31)),
 X.o 33 (.fldAddr 0 (X.s 32)),
 X.o 34 (.load1 (X.s 33)),
 X.m 35 5,
 X.m 36 6,
 X.o 37 (.idxAddr 1 (X.s 34) (X.s 35)),
 X.n (.store1 (X.s 37) (X.s 36))]
def C.q3_r9 : List IOper := C.q3_r9_b
def C.q3_r9_w := pO C.q3_r9.eq_1
def C.q3_c3 : ICode := .keep [4, 5, 6, 18, 19, 20] (.region C.q3_r9)
def C.q3_c3_w := pC C.q3_c3.eq_1
def C.q3_r8_b : List IOper := [
 X.o 2 (.move (.cst (.nilp))),
 X.o 3 (.move (X.i 1))]
def C.q3_r8 : List IOper := C.q3_r8_b
def C.q3_r8_w := pO C.q3_r8.eq_1
def C.q3_c4 : ICode := .seq (.region C.q3_r8) .ret
def C.q3_c4_w := pC C.q3_c4.eq_1
def C.q3_c5 : ICode := .keep [4, 5, 6, 18, 19, 20, 30] (.cond (X.s 30) C.q3_c4 .skip)
def C.q3_c5_w := pC C.q3_c5.eq_1
def C.q3_r7_b : List IOper := [
 X.m 25 6,
 X.o 26 (.bin .lss (X.s 25) (X.i 0)),
 X.m 27 26,
 X.f 27 28 (.move (X.s 6)),
 X.f 27 29 (.bin .gtr (X.s 28) (X.i 8)),
 X.o 30 (.pick (X.s 27) (.cst (.bool true)) (X.s 29))]
def C.q3_r7 : List IOper := C.q3_r7_b
def C.q3_r7_w := pO C.q3_r7.eq_1
def C.q3_c6 : ICode := .keep [4, 5, 6, 18, 19, 20] (.seq (.seq (.region C.q3_r7) C.q3_c5) C.q3_c3)
def C.q3_c6_w := pC C.q3_c6.eq_1
def C.q3_r6_b : List IOper := [
 X.m 22 20,
 X.o 23 (.idxAddr 1 (X.s 18) (X.s 20)),
 X.o 24 (.load1 (X.s 23)),
 X.m 5 22,
 X.m 6 24]
def C.q3_r6 : List IOper := C.q3_r6_b
def C.q3_r6_w := pO C.q3_r6.eq_1
def C.q3_b7 : ICode := .seq (.region C.q3_r6) C.q3_c6
def C.q3_b7_w := pC C.q3_b7.eq_1
def C.q3_c8 : ICode := .keep [4, 18, 19, 20] (.seq (.block 1 C.q3_b7) C.q3_c2)
def C.q3_c8_w := pC C.q3_c8.eq_1
def C.q3_c9 : ICode := .keep [4, 18, 19, 20, 21] (.seq (.cond (X.s 21) .skip (.exit 0)) C.q3_c8)
def C.q3_c9_w := pC C.q3_c9.eq_1
def C.q3_r5_b : List IOper := [
 X.o 21 (.bin .lss (X.s 20) (X.s 19))]
def C.q3_r5 : List IOper := C.q3_r5_b
def C.q3_r5_w := pO C.q3_r5.eq_1
def C.q3_l10 : ICode := .keep [4, 18, 19, 20] (.seq (.region C.q3_r5) C.q3_c9)
def C.q3_l10_w := pC C.q3_l10.eq_1
def C.q3_b11 : ICode := .loop C.q3_l10
def C.q3_b11_w := pC C.q3_b11.eq_1
def C.q3_c12 : ICode := .keep [4, 18, 19, 20] (.block 0 C.q3_b11)
def C.q3_c12_w := pC C.q3_c12.eq_1
def C.q3_r4_b : List IOper := [
 X.m 18 0,
 X.o 19 (.len (X.s 18)),
 X.o 20 (.move (X.i 0))]
def C.q3_r4 : List IOper := C.q3_r4_b
def C.q3_r4_w := pO C.q3_r4.eq_1
def C.q3_c13 : ICode := .keep [0, 4] (.seq (.seq (.region C.q3_r4) C.q3_c12) C.q3_c1)
def C.q3_c13_w := pC C.q3_c13.eq_1
def C.q3_r3_b : List IOper := [
 X.m 10 0,
 X.o 11 (.len (X.s 10)),
 X.m 13 0,
 X.o 14 (.len (X.s 13)),
 ⟨some 12, .makeSlice 1 8 [.int .i64 0] (X.s 11) (X.s 11), none, [], [(X.s 14, X.s 14)]⟩,
 X.o 15 (.makeSlice 1 24 [.nils] (X.s 14) (X.s 14)),
 X.o 16 (.build [.nils, .nils, .int .i64 0] [(0, 1, X.s 12), (1, 1, X.s 15)]),
 X.o 17 (.boxN (X.s 16)),
 X.m 4 17]
def C.q3_r3 : List IOper := C.q3_r3_b
def C.q3_r3_w := pO C.q3_r3.eq_1
def C.q3_c14 : ICode := .keep [0] (.seq (.region C.q3_r3) C.q3_c13)
def C.q3_c14_w := pC C.q3_c14.eq_1
def C.q3_r2_b : List IOper := [
 X.o 2 (.move (.cst (.nilp))),
 X.o 3 (.move (X.i 1))]
def C.q3_r2 : List IOper := C.q3_r2_b
def C.q3_r2_w := pO C.q3_r2.eq_1
def C.q3_c15 : ICode := .seq (.region C.q3_r2) .ret
def C.q3_c15_w := pC C.q3_c15.eq_1
def C.q3_c16 : ICode := .keep [0, 9] (.cond (X.s 9) C.q3_c15 .skip)
def C.q3_c16_w := pC C.q3_c16.eq_1
def C.q3_r1_b : List IOper := [
 X.m 7 0,
 X.o 8 (.len (X.s 7)),
 X.o 9 (.bin .gtr (X.s 8) (X.i 6))]
def C.q3_r1 : List IOper := C.q3_r1_b
def C.q3_r1_w := pO C.q3_r1.eq_1
def C.q3_c17 : ICode := .keep [0] (.seq (.seq (.region C.q3_r1) C.q3_c16) C.q3_c14)
def C.q3_c17_w := pC C.q3_c17.eq_1
def C.q3_r0_b : List IOper := [
 X.o 2 (.move (.cst (.nilp))),
 X.o 3 (.move (X.i 0))]
def C.q3_r0 : List IOper := C.q3_r0_b
def C.q3_r0_w := pO C.q3_r0.eq_1
def C.q3 : IFunc := ⟨1, [.slot 2, .slot 3], .seq (.region C.q3_r0) C.q3_c17⟩
def C.q3_W := aI (aI (aI (aI @C.q3_r11_w (aI @C.q3_c1_w @C.q3_r10_w)) (aI (aI @C.q3_c2_w @C.q3_r9_w) (aI @C.q3_c3_w @C.q3_r8_w))) (aI (aI @C.q3_c4_w (aI @C.q3_c5_w @C.q3_r7_w)) (aI (aI @C.q3_c6_w @C.q3_r6_w) (aI @C.q3_b7_w @C.q3_c8_w)))) (aI (aI (aI @C.q3_c9_w (aI @C.q3_r5_w @C.q3_b11_w)) (aI (aI @C.q3_c12_w @C.q3_r4_w) (aI @C.q3_c13_w @C.q3_r3_w))) (aI (aI @C.q3_c14_w (aI @C.q3_r2_w @C.q3_c15_w)) (aI (aI @C.q3_c16_w @C.q3_r1_w) (aI @C.q3_c17_w @C.q3_r0_w))))
def C.q3_B := aI (aI (aI @C.q3_r11_b.eq_1 (aI @C.q3_r10_b.eq_1 @C.q3_r9_b.eq_1)) (aI @C.q3_r8_b.eq_1 (aI @C.q3_r7_b.eq_1 @C.q3_r6_b.eq_1))) (aI (aI @C.q3_r5_b.eq_1 (aI @C.q3_r4_b.eq_1 @C.q3_r3_b.eq_1)) (aI @C.q3_r2_b.eq_1 (aI @C.q3_r1_b.eq_1 @C.q3_r0_b.eq_1)))

def C.q85_r1_b : List IOper := [
 X.m 3 0,
 X.o 4 (.eqP 0 true (X.s 3) (.cst (.nilp))),
 X.m 5 4,
 X.t 5 6 (.move (X.s 0)),
 X.t 5 7 (.nilchk (X.s 6)),
 X.t 5 8 (.fldAddr 0 (X.s 7)),
 X.t 5 9 (.load1 (X.s 8)),
 X.t 5 10 (.eqP 0 true (X.s 9) (.cst (.nilp))),
 X.o 11 (.pick (X.s 5) (X.s 10) (.cst (.bool false))),
 X.m 12 11,
 X.t 12 13 (.move (X.s 0)),
 X.t 12 14 (.nilchk (X.s 13)),
 X.t 12 15 (.fldAddr 1 (X.s 14)),
 X.t 12 16 (.load1 (X.s 15)),
 X.t 12 17 (.eqP 0 true (X.s 16) (.cst (.nilp))),
 X.o 18 (.pick (X.s 12) (X.s 17) (.cst (.bool false))),
 X.m 19 18,
 X.t 19 20 (.move (X.s 0)),
 X.t 19 21 (.nilchk (X.s 20)),
 X.t 19 22 (.fldAddr 2 (X.s 21)),
 X.t 19 23 (.load1 (X.s 22)),
 X.t 19 24 (.eqP 0 true (X.s 23) (.cst (.nilp))),
 X.o 25 (.pick (X.s 19) (X.s 24) (.cst (.bool false))),
 X.m 26 25,
 X.t 26 27 (.move (X.s 0)),
 X.t 26 28 (.nilchk (X.s 27)),
 X.t 26 29 (.fldAddr 3 (X.s 28)),
 X.t 26 30 (.load1 (X.s 29)),
 X.t 26 31 (.eqP 0 true (X.s 30) (.cst (.nilp))),
 X.o 32 (.pick (X.s 26) (X.s 31) (.cst (.bool false))),
 X.m 2 32]
def C.q85_r1 : List IOper := C.q85_r1_b
def C.q85_r1_w := pO C.q85_r1.eq_1
def C.q85_c1 : ICode := .keep [0] (.seq (.region C.q85_r1) .ret)
def C.q85_c1_w := pC C.q85_c1.eq_1
def C.q85_r0_b : List IOper := [
 X.o 2 (.move (.cst (.bool false)))]
def C.q85_r0 : List IOper := C.q85_r0_b
def C.q85_r0_w := pO C.q85_r0.eq_1
def C.q85 : IFunc := ⟨1, [.slot 2], .seq (.region C.q85_r0) C.q85_c1⟩
def C.q85_W := aI @C.q85_r1_w (aI @C.q85_c1_w @C.q85_r0_w)
def C.q85_B := aI @C.q85_r1_b.eq_1 @C.q85_r0_b.eq_1

def C.q10_r9_b : List IOper := [
 X.o 6 (.move (X.i 0))]
def C.q10_r9 : List IOper := C.q10_r9_b
def C.q10_r9_w := pO C.q10_r9.eq_1
def C.q10_c1 : ICode := .keep [] (.seq (.region C.q10_r9) .ret)
def C.q10_c1_w := pC C.q10_c1.eq_1
def C.q10_r8_b : List IOper := [
 X.m 41 7,
 X.m 42 7,
 X.o 43 (.nilchk (X.s 42)),
 X.o 44 (.fldAddr 0 (X.s 43)),
 X.o 45 (.fldAddr 5 (X.s 44)),
 X.o 46 (.load1 (X.s 45)),
 X.o 47 (.nilchk (X.s 41)),
 X.o 48 (.fldAddr 7 (X.s 47)),
 X.n (.store1 (X.s 48) (X.s 46))]
def C.q10_r8 : List IOper := C.q10_r8_b
def C.q10_r8_w := pO C.q10_r8.eq_1
def C.q10_c2 : ICode := .keep [7, 40] (.cond (X.s 40) (.region C.q10_r8) .skip)
def C.q10_c2_w := pC C.q10_c2.eq_1
def C.q10_r7_b : List IOper := [
 X.m 31 7,
 X.o 32 (.nilchk (X.s 31)),
 X.o 33 (.fldAddr 0 (X.s 32)),
 X.o 34 (.fldAddr 0 (X.s 33)),
 X.o 35 (.load1 (X.s 34)),
 X.o 36 (.bin .eql (X.s 35) (.cst (.int .u8 112))),
 X.m 37 36,
 X.t 37 38 (.move (X.s 2)),
 X.t 37 39 (.un .not (X.s 38)),
 X.o 40 (.pick (X.s 37) (X.s 39) (.cst (.bool false)))]
def C.q10_r7 : List IOper := C.q10_r7_b
def C.q10_r7_w := pO C.q10_r7.eq_1
def C.q10_c3 : ICode := .keep [2, 7] (.seq (.seq (.region C.q10_r7) C.q10_c2) C.q10_c1)
def C.q10_c3_w := pC C.q10_c3.eq_1
def C.q10_r6_b : List IOper := [
 X.m 27 7,
 X.m 28 2,
 X.o 29 (.nilchk (X.s 27)),
 X.o 30 (.fldAddr 6 (X.s 29)),
 X.n (.store1 (X.s 30) (X.s 28))]
def C.q10_r6 : List IOper := C.q10_r6_b
def C.q10_r6_w := pO C.q10_r6.eq_1
def C.q10_c4 : ICode := .keep [2, 7] (.seq (.region C.q10_r6) C.q10_c3)
def C.q10_c4_w := pC C.q10_c4.eq_1
def C.q10_r5_b : List IOper := [
 X.o 6 (.move (X.i 1))]
def C.q10_r5 : List IOper := C.q10_r5_b
def C.q10_r5_w := pO C.q10_r5.eq_1
def C.q10_c5 : ICode := .seq (.region C.q10_r5) .ret
def C.q10_c5_w := pC C.q10_c5.eq_1
def C.q10_c6 : ICode := .keep [2, 7, 26] (.cond (X.s 26) C.q10_c5 .skip)
def C.q10_c6_w := pC C.q10_c6.eq_1
def C.q10_r4_b : List IOper := [
 X.m 13 7,
 X.o 14 (.nilchk (X.s 13)),
 X.o 15 (.fldAddr 0 (X.s 14)),
 X.o 16 (.fldAddr 0 (X.s 15)),
 X.o 17 (.load1 (X.s 16)),
 X.o 18 (.bin .neq (X.s 17) (.cst (.int .u8 112))),
 X.m 19 18,
 X.t 19 20 (.move (X.s 7)),
 X.t 19 21 (.nilchk (X.s 20)),
 X.t 19 22 (.fldAddr 0 (X.s 21)),
 X.t 19 23 (.fldAddr 0 (X.s 22)),
 X.t 19 24 (.load1 (X.s 23)),
 X.t 19 25 (.bin .neq (X.s 24) (.cst (.int .u8 103))),
 X.o 26 (.pick (X.s 19) (X.s 25) (.cst (.bool false)))]
def C.q10_r4 : List IOper := C.q10_r4_b
def C.q10_r4_w := pO C.q10_r4.eq_1
def C.q10_c7 : ICode := .keep [2, 7] (.seq (.seq (.region C.q10_r4) C.q10_c6) C.q10_c4)
def C.q10_c7_w := pC C.q10_c7.eq_1
def C.q10_r3_b : List IOper := [
 X.o 6 (.move (X.i 4))]
def C.q10_r3 : List IOper := C.q10_r3_b
def C.q10_r3_w := pO C.q10_r3.eq_1
def C.q10_c8 : ICode := .seq (.region C.q10_r3) .ret
def C.q10_c8_w := pC C.q10_c8.eq_1
def C.q10_c9 : ICode := .keep [2, 7, 12] (.cond (X.s 12) C.q10_c8 .skip)
def C.q10_c9_w := pC C.q10_c9.eq_1
def C.q10_r2_b : List IOper := [
 X.m 11 7,
 X.o 12 (.eqP 0 false (X.s 11) (.cst (.nilp)))]
def C.q10_r2 : List IOper := C.q10_r2_b
def C.q10_r2_w := pO C.q10_r2.eq_1
def C.q10_c10 : ICode := .keep [2, 7] (.seq (.seq (.region C.q10_r2) C.q10_c9) C.q10_c7)
def C.q10_c10_w := pC C.q10_c10.eq_1
def C.q10_r1_b : List IOper := [
 X.m 8 0,
 X.m 9 1,
 X.o 10 (.call F.q14 [X.s 8, X.s 9]),
 X.m 7 10]
def C.q10_r1 : List IOper := C.q10_r1_b
def C.q10_r1_w := pO C.q10_r1.eq_1
def C.q10_c11 : ICode := .keep [0, 1, 2] (.seq (.region C.q10_r1) C.q10_c10)
def C.q10_c11_w := pC C.q10_c11.eq_1
def C.q10_r0_b : List IOper := [
 X.o 6 (.move (X.i 0))]
def C.q10_r0 : List IOper := C.q10_r0_b
def C.q10_r0_w := pO C.q10_r0.eq_1
def C.q10 : IFunc := ⟨3, [.slot 6], .seq (.region C.q10_r0) C.q10_c11⟩
def C.q10_W := aI (aI (aI (aI @C.q10_r9_w @C.q10_c1_w) (aI @C.q10_r8_w (aI @C.q10_c2_w @C.q10_r7_w))) (aI (aI @C.q10_c3_w @C.q10_r6_w) (aI @C.q10_c4_w (aI @C.q10_r5_w @C.q10_c5_w)))) (aI (aI (aI @C.q10_c6_w @C.q10_r4_w) (aI @C.q10_c7_w (aI @C.q10_r3_w @C.q10_c8_w))) (aI (aI @C.q10_c9_w (aI @C.q10_r2_w @C.q10_c10_w)) (aI @C.q10_r1_w (aI @C.q10_c11_w @C.q10_r0_w))))
def C.q10_B := aI (aI (aI @C.q10_r9_b.eq_1 @C.q10_r8_b.eq_1) (aI @C.q10_r7_b.eq_1 (aI @C.q10_r6_b.eq_1 @C.q10_r5_b.eq_1))) (aI (aI @C.q10_r4_b.eq_1 @C.q10_r3_b.eq_1) (aI @C.q10_r2_b.eq_1 (aI @C.q10_r1_b.eq_1 @C.q10_r0_b.eq_1)))

def C.q91_r8_b : List IOper := [
 X.o 4 (.move (X.i 0))]
def C.q91_r8 : List IOper := C.q91_r8_b
def C.q91_r8_w := pO C.q91_r8.eq_1
def C.q91_c1 : ICode := .keep [] (.seq (.region C.q91_r8) .ret)
def C.q91_c1_w := pC C.q91_c1.eq_1
def C.q91_r7_b : List IOper := [
 X.m 45 5,
 X.m 46 5,
 X.m 47 5,
 X.o 48 (.nilchk (X.s 47)),
 X.o 49 (.fldAddr 0 (X.s 48)),
 X.o 50 (.fldAddr 1 (X.s 49)),
 X.o 51 (.load1 (X.s 50)),
 X.o 52 (.nilchk (X.s 45)),
 X.o 53 (.fldAddr 3 (X.s 52)),
 X.n (.store1 (X.s 53) (.cst (.int .u8 114))),
 X.o 54 (.nilchk (X.s 46)),
 X.o 55 (.fldAddr 4 (X.s 54)),
 X.n (.store1 (X.s 55) (X.s 51))]
def C.q91_r7 : List IOper := C.q91_r7_b
def C.q91_r7_w := pO C.q91_r7.eq_1
def C.q91_c2 : ICode := .keep [5] (.seq (.region C.q91_r7) C.q91_c1)
def C.q91_c2_w := pC C.q91_c2.eq_1
def C.q91_r6_b : List IOper := [
 X.m 37 5,
 X.m 38 5,
 X.o 39 (.nilchk (X.s 38)),
 X.o 40 (.fldAddr 3 (X.s 39)),
 X.o 41 (.load1 (X.s 40)),
 X.o 42 (.bin .eql (X.s 41) (.cst (.int .u8 116))),
 X.o 43 (.nilchk (X.s 37)),
 X.o 44 (.fldAddr 5 (X.s 43)),
 X.n (.store1 (X.s 44) (X.s 42))]
def C.q91_r6 : List IOper := C.q91_r6_b
def C.q91_r6_w := pO C.q91_r6.eq_1
def C.q91_c3 : ICode := .keep [5] (.seq (.region C.q91_r6) C.q91_c2)
def C.q91_c3_w := pC C.q91_c3.eq_1
def C.q91_r5_b : List IOper := [
 X.o 4 (.move (X.i 6))]
def C.q91_r5 : List IOper := C.q91_r5_b
def C.q91_r5_w := pO C.q91_r5.eq_1
def C.q91_c4 : ICode := .seq (.region C.q91_r5) .ret
def C.q91_c4_w := pC C.q91_c4.eq_1
def C.q91_c5 : ICode := .keep [5, 36] (.cond (X.s 36) C.q91_c4 .skip)
def C.q91_c5_w := pC C.q91_c5.eq_1
def C.q91_r4_b : List IOper := [
 X.m 11 5,
 X.o 12 (.call F.q94 [X.s 11]),
 X.o 13 (.un .not (X.s 12)),
 X.m 14 13,
 X.f 14 15 (.move (X.s 5)),
 X.f 14 16 (.nilchk (X.s 15)),
 X.f 14 17 (.fldAddr 0 (X.s 16)),
 X.f 14 18 (.fldAddr 0 (X.s 17)),
 X.f 14 19 (.load1 (X.s 18)),
 X.f 14 20 (.bin .neq (X.s 19) (X.i (-1))),
 X.f 14 21 (.move (X.s 20)),
 X.t 21 22 (.move (X.s 0)),
 X.t 21 23 (.nilchk (X.s 22)),
 X.t 21 24 (.fldAddr 0 (X.s 23)),
 X.t 21 25 (.load1 (X.s 24)),
 X.t 21 26 (.move (X.s 5)),
 X.t 21 27 (.nilchk (X.s 26)),
 X.t 21 28 (.fldAddr 0 (X.s 27)),
 X.t 21 29 (.fldAddr 0 (X.s 28)),
 X.t 21 30 (.load1 (X.s 29)),
 X.t 21 31 (.idxAddr 7 (X.s 25) (X.s 30)),
 X.t 21 32 (.fldAddr 3 (X.s 31)),
 X.t 21 33 (.load1 (X.s 32)),
 X.t 21 34 (.bin .neq (X.s 33) (.cst (.int .u8 49))),
 X.f 14 35 (.pick (X.s 21) (X.s 34) (.cst (.bool false))),
 X.o 36 (.pick (X.s 14) (.cst (.bool true)) (X.s 35))]
def C.q91_r4 : List IOper := C.q91_r4_b
def C.q91_r4_w := pO C.q91_r4.eq_1
def C.q91_c6 : ICode := .keep [0, 5] (.seq (.seq (.region C.q91_r4) C.q91_c5) C.q91_c3)
def C.q91_c6_w := pC C.q91_c6.eq_1
def C.q91_r3_b : List IOper := [
 X.o 4 (.move (X.i 4))]
def C.q91_r3 : List IOper := C.q91_r3_b
def C.q91_r3_w := pO C.q91_r3.eq_1
def C.q91_c7 : ICode := .seq (.region C.q91_r3) .ret
def C.q91_c7_w := pC C.q91_c7.eq_1
def C.q91_c8 : ICode := .keep [0, 5, 10] (.cond (X.s 10) C.q91_c7 .skip)
def C.q91_c8_w := pC C.q91_c8.eq_1
def C.q91_r2_b : List IOper := [
 X.m 9 5,
 X.o 10 (.eqP 0 false (X.s 9) (.cst (.nilp)))]
def C.q91_r2 : List IOper := C.q91_r2_b
def C.q91_r2_w := pO C.q91_r2.eq_1
def C.q91_c9 : ICode := .keep [0, 5] (.seq (.seq (.region C.q91_r2) C.q91_c8) C.q91_c6)
def C.q91_c9_w := pC C.q91_c9.eq_1
def C.q91_r1_b : List IOper := [
 X.m 6 0,
 X.m 7 1,
 X.o 8 (.call F.q92 [X.s 6, X.s 7]),
 X.m 5 8]
def C.q91_r1 : List IOper := C.q91_r1_b
def C.q91_r1_w := pO C.q91_r1.eq_1
def C.q91_c10 : ICode := .keep [0, 1] (.seq (.region C.q91_r1) C.q91_c9)
def C.q91_c10_w := pC C.q91_c10.eq_1
def C.q91_r0_b : List IOper := [
 X.o 4 (.move (X.i 0))]
def C.q91_r0 : List IOper := C.q91_r0_b
def C.q91_r0_w := pO C.q91_r0.eq_1
def C.q91 : IFunc := ⟨2, [.slot 4], .seq (.region C.q91_r0) C.q91_c10⟩
def C.q91_W := aI (aI (aI (aI @C.q91_r8_w @C.q91_c1_w) (aI @C.q91_r7_w @C.q91_c2_w)) (aI (aI @C.q91_r6_w @C.q91_c3_w) (aI @C.q91_r5_w (aI @C.q91_c4_w @C.q91_c5_w)))) (aI (aI (aI @C.q91_r4_w @C.q91_c6_w) (aI @C.q91_r3_w (aI @C.q91_c7_w @C.q91_c8_w))) (aI (aI @C.q91_r2_w @C.q91_c9_w) (aI @C.q91_r1_w (aI @C.q91_c10_w @C.q91_r0_w))))
def C.q91_B := aI (aI (aI @C.q91_r8_b.eq_1 @C.q91_r7_b.eq_1) (aI @C.q91_r6_b.eq_1 @C.q91_r5_b.eq_1)) (aI (aI @C.q91_r4_b.eq_1 @C.q91_r3_b.eq_1) (aI @C.q91_r2_b.eq_1 (aI @C.q91_r1_b.eq_1 @C.q91_r0_b.eq_1)))

def C.q88_r15_b : List IOper := [
 X.o 6 (.move (X.i 0))]
def C.q88_r15 : List IOper := C.q88_r15_b
def C.q88_r15_w := pO C.q88_r15.eq_1
def C.q88_c1 : ICode := .keep [] (.seq (.region C.q88_r15) .ret)
def C.q88_c1_w := pC C.q88_c1.eq_1
def C.q88_r14_b : List IOper := [
 X.m 58 7,
 X.m 59 7,
 X.m 60 2,
 X.o 61 (.nilchk (X.s 58)),
 X.o 62 (.fldAddr 3 (X.s 61)),
 X.n (.store1 (X.s 62) (.cst (.int .u8 99))),
 X.o 63 (.nilchk (X.s 59)),
 X.o 64 (.fldAddr 6 (X.s 63)),
 X.n (.store1 (X.s 64) (X.s 60))]
def C.q88_r14 : List IOper := C.q88_r14_b
def C.q88_r14_w := pO C.q88_r14.eq_1
def C.q88_c2 : ICode := .keep [2, 7] (.seq (.region C.q88_r14) C.q88_c1)
def C.q88_c2_w := pC C.q88_c2.eq_1
def C.q88_r13_b : List IOper := [
 X.o 57 (.bin .add (X.s 33) (X.i 1)),
 X.m 33 57]
def C.q88_r13 : List IOper := C.q88_r13_b
def C.q88_r13_w := pO C.q88_r13.eq_1
def C.q88_c3 : ICode := .keep [0, 1, 2, 7, 32, 33] (.region C.q88_r13)
def C.q88_c3_w := pC C.q88_c3.eq_1
def C.q88_r12_b : List IOper := [
 X.o 6 (.move (X.i 7))]
def C.q88_r12 : List IOper := C.q88_r12_b
def C.q88_r12_w := pO C.q88_r12.eq_1
def C.q88_c4 : ICode := .seq (.region C.q88_r12) .ret
def C.q88_c4_w := pC C.q88_c4.eq_1
def C.q88_c5 : ICode := .keep [0, 1, 2, 7, 32, 33, 56] (.cond (X.s 56) C.q88_c4 .skip)
def C.q88_c5_w := pC C.q88_c5.eq_1
def C.q88_r11_b : List IOper := [
 X.m 36 0,
 X.o 37 (.nilchk (X.s 36)),
 X.o 38 (.fldAddr 0 (X.s 37)),
 X.o 39 (.load1 (X.s 38)),
 X.m 40 8,
 X.o 41 (.idxAddr 7 (X.s 39) (X.s 40)),
 X.o 42 (.fldAddr 0 (X.s 41)),
 X.o 43 (.fldAddr 0 (X.s 42)),
 X.o 44 (.load1 (X.s 43)),
 X.m 45 1,
 X.o 46 (.bin .eql (X.s 44) (X.s 45)),
 X.m 47 46,
 X.t 47 48 (.move (X.s 0)),
 X.t 47 49 (.nilchk (X.s 48)),
 X.t 47 50 (.fldAddr 0 (X.s 49)),
 X.t 47 51 (.load1 (X.s 50)),
 X.t 47 52 (.move (X.s 8)),
 X.t 47 53 (.idxAddr 7 (X.s 51) (X.s 52)),
 X.t 47 54 (.call F.q94 [X.s 53]),
 X.t 47 55 (.un .not (X.s 54)),
 X.o 56 (.pick (X.s 47) (X.s 55) (.cst (.bool false)))]
def C.q88_r11 : List IOper := C.q88_r11_b
def C.q88_r11_w := pO C.q88_r11.eq_1
def C.q88_c6 : ICode := .keep [0, 1, 2, 7, 8, 32, 33] (.seq (.region C.q88_r11) C.q88_c5)
def C.q88_c6_w := pC C.q88_c6.eq_1
def C.q88_r10_b : List IOper := [
 X.m 35 33,
 X.m 8 35]
def C.q88_r10 : List IOper := C.q88_r10_b
def C.q88_r10_w := pO C.q88_r10.eq_1
def C.q88_b7 : ICode := .seq (.region C.q88_r10) C.q88_c6
def C.q88_b7_w := pC C.q88_b7.eq_1
def C.q88_c8 : ICode := .keep [0, 1, 2, 7, 32, 33] (.seq (.block 1 C.q88_b7) C.q88_c3)
def C.q88_c8_w := pC C.q88_c8.eq_1
def C.q88_c9 : ICode := .keep [0, 1, 2, 7, 32, 33, 34] (.seq (.cond (X.s 34) .skip (.exit 0)) C.q88_c8)
def C.q88_c9_w := pC C.q88_c9.eq_1
def C.q88_r9_b : List IOper := [
 X.o 34 (.bin .lss (X.s 33) (X.s 32))]
def C.q88_r9 : List IOper := C.q88_r9_b
def C.q88_r9_w := pO C.q88_r9.eq_1
def C.q88_l10 : ICode := .keep [0, 1, 2, 7, 32, 33] (.seq (.region C.q88_r9) C.q88_c9)
def C.q88_l10_w := pC C.q88_l10.eq_1
def C.q88_b11 : ICode := .loop C.q88_l10
def C.q88_b11_w := pC C.q88_b11.eq_1
def C.q88_c12 : ICode := .keep [0, 1, 2, 7, 32, 33] (.block 0 C.q88_b11)
def C.q88_c12_w := pC C.q88_c12.eq_1
def C.q88_r8_b : List IOper := [
 X.m 28 0,
 X.o 29 (.nilchk (X.s 28)),
 X.o 30 (.fldAddr 0 (X.s 29)),
 X.o 31 (.load1 (X.s 30)),
 X.o 32 (.len (X.s 31)),
 X.o 33 (.move (X.i 0))]
def C.q88_r8 : List IOper := C.q88_r8_b
def C.q88_r8_w := pO C.q88_r8.eq_1
def C.q88_c13 : ICode := .keep [0, 1, 2, 7] (.seq (.seq (.region C.q88_r8) C.q88_c12) C.q88_c2)
def C.q88_c13_w := pC C.q88_c13.eq_1
def C.q88_r7_b : List IOper := [
 X.o 6 (.move (X.i 1))]
def C.q88_r7 : List IOper := C.q88_r7_b
def C.q88_r7_w := pO C.q88_r7.eq_1
def C.q88_c14 : ICode := .seq (.region C.q88_r7) .ret
def C.q88_c14_w := pC C.q88_c14.eq_1
def C.q88_c15 : ICode := .keep [0, 1, 2, 7, 27] (.cond (X.s 27) C.q88_c14 .skip)
def C.q88_c15_w := pC C.q88_c15.eq_1
def C.q88_r6_b : List IOper := [
 X.m 19 2,
 X.m 20 19,
 X.t 20 21 (.move (X.s 7)),
 X.t 20 22 (.nilchk (X.s 21)),
 X.t 20 23 (.fldAddr 0 (X.s 22)),
 X.t 20 24 (.fldAddr 2 (X.s 23)),
 X.t 20 25 (.load1 (X.s 24)),
 X.t 20 26 (.un .not (X.s 25)),
 X.o 27 (.pick (X.s 20) (X.s 26) (.cst (.bool false)))]
def C.q88_r6 : List IOper := C.q88_r6_b
def C.q88_r6_w := pO C.q88_r6.eq_1
def C.q88_c16 : ICode := .keep [0, 1, 2, 7] (.seq (.seq (.region C.q88_r6) C.q88_c15) C.q88_c13)
def C.q88_c16_w := pC C.q88_c16.eq_1
def C.q88_r5_b : List IOper := [
 X.o 6 (.move (X.i 6))]
def C.q88_r5 : List IOper := C.q88_r5_b
def C.q88_r5_w := pO C.q88_r5.eq_1
def C.q88_c17 : ICode := .seq (.region C.q88_r5) .ret
def C.q88_c17_w := pC C.q88_c17.eq_1
def C.q88_c18 : ICode := .keep [0, 1, 2, 7, 18] (.cond (X.s 18) C.q88_c17 .skip)
def C.q88_c18_w := pC C.q88_c18.eq_1
def C.q88_r4_b : List IOper := [
 X.m 14 7,
 X.o 15 (.nilchk (X.s 14)),
 X.o 16 (.fldAddr 3 (X.s 15)),
 X.o 17 (.load1 (X.s 16)),
 X.o 18 (.bin .neq (X.s 17) (.cst (.int .u8 49)))]
def C.q88_r4 : List IOper := C.q88_r4_b
def C.q88_r4_w := pO C.q88_r4.eq_1
def C.q88_c19 : ICode := .keep [0, 1, 2, 7] (.seq (.seq (.region C.q88_r4) C.q88_c18) C.q88_c16)
def C.q88_c19_w := pC C.q88_c19.eq_1
def C.q88_r3_b : List IOper := [
 X.o 6 (.move (X.i 4))]
def C.q88_r3 : List IOper := C.q88_r3_b
def C.q88_r3_w := pO C.q88_r3.eq_1
def C.q88_c20 : ICode := .seq (.region C.q88_r3) .ret
def C.q88_c20_w := pC C.q88_c20.eq_1
def C.q88_c21 : ICode := .keep [0, 1, 2, 7, 13] (.cond (X.s 13) C.q88_c20 .skip)
def C.q88_c21_w := pC C.q88_c21.eq_1
def C.q88_r2_b : List IOper := [
 X.m 12 7,
 X.o 13 (.eqP 0 false (X.s 12) (.cst (.nilp)))]
def C.q88_r2 : List IOper := C.q88_r2_b
def C.q88_r2_w := pO C.q88_r2.eq_1
def C.q88_c22 : ICode := .keep [0, 1, 2, 7] (.seq (.seq (.region C.q88_r2) C.q88_c21) C.q88_c19)
def C.q88_c22_w := pC C.q88_c22.eq_1
def C.q88_r1_b : List IOper := [
 X.m 9 0,
 X.m 10 1,
 X.o 11 (.call F.q92 [X.s 9, X.s 10]),
 X.m 7 11]
def C.q88_r1 : List IOper := C.q88_r1_b
def C.q88_r1_w := pO C.q88_r1.eq_1
def C.q88_c23 : ICode := .keep [0, 1, 2] (.seq (.region C.q88_r1) C.q88_c22)
def C.q88_c23_w := pC C.q88_c23.eq_1
def C.q88_r0_b : List IOper := [
 X.o 6 (.move (X.i 0))]
def C.q88_r0 : List IOper := C.q88_r0_b
def C.q88_r0_w := pO C.q88_r0.eq_1
def C.q88 : IFunc := ⟨3, [.slot 6], .seq (.region C.q88_r0) C.q88_c23⟩
def C.q88_W := aI (aI (aI (aI (aI @C.q88_r15_w @C.q88_c1_w) (aI @C.q88_r14_w @C.q88_c2_w)) (aI (aI @C.q88_r13_w @C.q88_c3_w) (aI @C.q88_r12_w (aI @C.q88_c4_w @C.q88_c5_w)))) (aI (aI (aI @C.q88_r11_w @C.q88_c6_w) (aI @C.q88_r10_w (aI @C.q88_b7_w @C.q88_c8_w))) (aI (aI @C.q88_c9_w @C.q88_r9_w) (aI @C.q88_b11_w (aI @C.q88_c12_w @C.q88_r8_w))))) (aI (aI (aI (aI @C.q88_c13_w @C.q88_r7_w) (aI @C.q88_c14_w @C.q88_c15_w)) (aI (aI @C.q88_r6_w @C.q88_c16_w) (aI @C.q88_r5_w (aI @C.q88_c17_w @C.q88_c18_w)))) (aI (aI (aI @C.q88_r4_w @C.q88_c19_w) (aI @C.q88_r3_w (aI @C.q88_c20_w @C.q88_c21_w))) (aI (aI @C.q88_r2_w @C.q88_c22_w) (aI @C.q88_r1_w (aI @C.q88_c23_w @C.q88_r0_w)))))
def C.q88_B := aI (aI (aI (aI @C.q88_r15_b.eq_1 @C.q88_r14_b.eq_1) (aI @C.q88_r13_b.eq_1 @C.q88_r12_b.eq_1)) (aI (aI @C.q88_r11_b.eq_1 @C.q88_r10_b.eq_1) (aI @C.q88_r9_b.eq_1 @C.q88_r8_b.eq_1))) (aI (aI (aI @C.q88_r7_b.eq_1 @C.q88_r6_b.eq_1) (aI @C.q88_r5_b.eq_1 @C.q88_r4_b.eq_1)) (aI (aI @C.q88_r3_b.eq_1 @C.q88_r2_b.eq_1) (aI @C.q88_r1_b.eq_1 @C.q88_r0_b.eq_1)))

def C.q111_r6_b : List IOper := [
 X.o 4 (.move (X.i 0))]
def C.q111_r6 : List IOper := C.q111_r6_b
def C.q111_r6_w := pO C.q111_r6.eq_1
def C.q111_c1 : ICode := .keep [] (.seq (.region C.q111_r6) .ret)
def C.q111_c1_w := pC C.q111_c1.eq_1
def C.q111_r5_b : List IOper := [
 X.m 20 0,
 X.o 21 (.nilchk (X.s 20)),
 X.o 22 (.fldAddr 0 (X.s 21)),
 X.o 23 (.load1 (X.s 22)),
 X.m 24 1,
 X.o 25 (.loadN 4 (X.s 5)),
 X.n (.mapSet (X.s 23) (X.s 24) (X.s 25))]
def C.q111_r5 : List IOper := C.q111_r5_b
def C.q111_r5_w := pO C.q111_r5.eq_1
def C.q111_c2 : ICode := .keep [0, 1, 5] (.seq (.region C.q111_r5) C.q111_c1)
def C.q111_c2_w := pC C.q111_c2.eq_1
def C.q111_r4_b : List IOper := [
 X.o 15 (.fldAddr 0 (X.s 5)),
 X.o 16 (.load1 (X.s 15)),
 X.o 17 (.fldAddr 2 (X.s 5)),
 X.n (.store1 (X.s 17) (.cst (.bool true))),
 X.o 18 (.fldAddr 1 (X.s 5)),
 X.n (.store1 (X.s 18) (X.s 16)),
 X.o 19 (.fldAddr 3 (X.s 5)),
 X.n (.store1 (X.s 19) (.cst (.bool false)))]
def C.q111_r4 : List IOper := C.q111_r4_b
def C.q111_r4_w := pO C.q111_r4.eq_1
def C.q111_c3 : ICode := .keep [0, 1, 5] (.seq (.region C.q111_r4) C.q111_c2)
def C.q111_c3_w := pC C.q111_c3.eq_1
def C.q111_r3_b : List IOper := [
 X.o 4 (.move (X.i 4))]
def C.q111_r3 : List IOper := C.q111_r3_b
def C.q111_r3_w := pO C.q111_r3.eq_1
def C.q111_c4 : ICode := .seq (.region C.q111_r3) .ret
def C.q111_c4_w := pC C.q111_c4.eq_1
def C.q111_c5 : ICode := .keep [0, 1, 5, 14] (.cond (X.s 14) C.q111_c4 .skip)
def C.q111_c5_w := pC C.q111_c5.eq_1
def C.q111_r2_b : List IOper := [
 X.m 13 6,
 X.o 14 (.un .not (X.s 13))]
def C.q111_r2 : List IOper := C.q111_r2_b
def C.q111_r2_w := pO C.q111_r2.eq_1
def C.q111_c6 : ICode := .keep [0, 1, 5, 6] (.seq (.seq (.region C.q111_r2) C.q111_c5) C.q111_c3)
def C.q111_c6_w := pC C.q111_c6.eq_1
def C.q111_r1_b : List IOper := [
 X.m 8 0,
 X.m 9 1,
 X.o 10 (.call F.q115 [X.s 8, X.s 9]),
 X.m 7 10,
 X.o 11 (.extract (X.s 7) 0),
 X.o 12 (.extract (X.s 7) 1),
 X.o 5 (.alloc [.int .i64 0, .int .i64 0, .bool false, .bool false]),
 X.n (.storeN 4 (X.s 5) (X.s 11)),
 X.m 6 12]
def C.q111_r1 : List IOper := C.q111_r1_b
def C.q111_r1_w := pO C.q111_r1.eq_1
def C.q111_c7 : ICode := .keep [0, 1] (.seq (.region C.q111_r1) C.q111_c6)
def C.q111_c7_w := pC C.q111_c7.eq_1
def C.q111_r0_b : List IOper := [
 X.o 4 (.move (X.i 0))]
def C.q111_r0 : List IOper := C.q111_r0_b
def C.q111_r0_w := pO C.q111_r0.eq_1
def C.q111 : IFunc := ⟨2, [.slot 4], .seq (.region C.q111_r0) C.q111_c7⟩
def C.q111_W := aI (aI (aI @C.q111_r6_w (aI @C.q111_c1_w @C.q111_r5_w)) (aI (aI @C.q111_c2_w @C.q111_r4_w) (aI @C.q111_c3_w @C.q111_r3_w))) (aI (aI @C.q111_c4_w (aI @C.q111_c5_w @C.q111_r2_w)) (aI (aI @C.q111_c6_w @C.q111_r1_w) (aI @C.q111_c7_w @C.q111_r0_w)))
def C.q111_B := aI (aI @C.q111_r6_b.eq_1 (aI @C.q111_r5_b.eq_1 @C.q111_r4_b.eq_1)) (aI (aI @C.q111_r3_b.eq_1 @C.q111_r2_b.eq_1) (aI @C.q111_r1_b.eq_1 @C.q111_r0_b.eq_1))

def C.q98_r2_b : List IOper := [
 X.m 6 0,
 X.o 7 (.nilchk (X.s 6)),
 X.o 8 (.fldAddr 3 (X.s 7)),
 X.n (.store1 (X.s 8) (.cst (.bool false)))]
def C.q98_r2 : List IOper := C.q98_r2_b
def C.q98_r2_w := pO C.q98_r2.eq_1
def C.q98_c1 : ICode := .keep [0] (.region C.q98_r2)
def C.q98_c1_w := pC C.q98_c1.eq_1
def C.q98_r1_b : List IOper := [
 X.m 4 0,
 X.o 5 (.call F.q107 [X.s 4, .fnc F.q99])]
def C.q98_r1 : List IOper := C.q98_r1_b
def C.q98_r1_w := pO C.q98_r1.eq_1
def C.q98_c2 : ICode := .keep [0] (.seq (.region C.q98_r1) C.q98_c1)
def C.q98_c2_w := pC C.q98_c2.eq_1
def C.q98_c3 : ICode := .keep [0, 3] (.cond (X.s 3) .ret .skip)
def C.q98_c3_w := pC C.q98_c3.eq_1
def C.q98_r0_b : List IOper := [
 X.m 2 0,
 X.o 3 (.eqP 0 false (X.s 2) (.cst (.nilp)))]
def C.q98_r0 : List IOper := C.q98_r0_b
def C.q98_r0_w := pO C.q98_r0.eq_1
def C.q98 : IFunc := ⟨1, [], .seq (.seq (.region C.q98_r0) C.q98_c3) C.q98_c2⟩
def C.q98_W := aI (aI @C.q98_r2_w (aI @C.q98_c1_w @C.q98_r1_w)) (aI @C.q98_c2_w (aI @C.q98_c3_w @C.q98_r0_w))
def C.q98_B := aI @C.q98_r2_b.eq_1 (aI @C.q98_r1_b.eq_1 @C.q98_r0_b.eq_1)

def C.q113_r8_b : List IOper := [
 X.o 4 (.move (X.i 0))]
def C.q113_r8 : List IOper := C.q113_r8_b
def C.q113_r8_w := pO C.q113_r8.eq_1
def C.q113_c1 : ICode := .keep [] (.seq (.region C.q113_r8) .ret)
def C.q113_c1_w := pC C.q113_c1.eq_1
def C.q113_r7_b : List IOper := [
 X.m 19 0,
 X.o 20 (.nilchk (X.s 19)),
 X.o 21 (.fldAddr 0 (X.s 20)),
 X.o 22 (.load1 (X.s 21)),
 X.m 23 1,
 X.o 24 (.loadN 4 (X.s 5)),
 X.n (.mapSet (X.s 22) (X.s 23) (X.s 24))]
def C.q113_r7 : List IOper := C.q113_r7_b
def C.q113_r7_w := pO C.q113_r7.eq_1
def C.q113_c2 : ICode := .keep [0, 1, 5] (.seq (.region C.q113_r7) C.q113_c1)
def C.q113_c2_w := pC C.q113_c2.eq_1
def C.q113_r6_b : List IOper := [
 X.o 18 (.fldAddr 3 (X.s 5)),
 X.n (.store1 (X.s 18) (.cst (.bool true)))]
def C.q113_r6 : List IOper := C.q113_r6_b
def C.q113_r6_w := pO C.q113_r6.eq_1
def C.q113_c3 : ICode := .keep [0, 1, 5] (.seq (.region C.q113_r6) C.q113_c2)
def C.q113_c3_w := pC C.q113_c3.eq_1
def C.q113_r5_b : List IOper := [
 X.o 4 (.move (X.i 6))]
def C.q113_r5 : List IOper := C.q113_r5_b
def C.q113_r5_w := pO C.q113_r5.eq_1
def C.q113_c4 : ICode := .seq (.region C.q113_r5) .ret
def C.q113_c4_w := pC C.q113_c4.eq_1
def C.q113_c5 : ICode := .keep [0, 1, 5, 17] (.cond (X.s 17) C.q113_c4 .skip)
def C.q113_c5_w := pC C.q113_c5.eq_1
def C.q113_r4_b : List IOper := [
 X.o 15 (.fldAddr 2 (X.s 5)),
 X.o 16 (.load1 (X.s 15)),
 X.o 17 (.un .not (X.s 16))]
def C.q113_r4 : List IOper := C.q113_r4_b
def C.q113_r4_w := pO C.q113_r4.eq_1
def C.q113_c6 : ICode := .keep [0, 1, 5] (.seq (.seq (.region C.q113_r4) C.q113_c5) C.q113_c3)
def C.q113_c6_w := pC C.q113_c6.eq_1
def C.q113_r3_b : List IOper := [
 X.o 4 (.move (X.i 4))]
def C.q113_r3 : List IOper := C.q113_r3_b
def C.q113_r3_w := pO C.q113_r3.eq_1
def C.q113_c7 : ICode := .seq (.region C.q113_r3) .ret
def C.q113_c7_w := pC C.q113_c7.eq_1
def C.q113_c8 : ICode := .keep [0, 1, 5, 14] (.cond (X.s 14) C.q113_c7 .skip)
def C.q113_c8_w := pC C.q113_c8.eq_1
def C.q113_r2_b : List IOper := [
 X.m 13 6,
 X.o 14 (.un .not (X.s 13))]
def C.q113_r2 : List IOper := C.q113_r2_b
def C.q113_r2_w := pO C.q113_r2.eq_1
def C.q113_c9 : ICode := .keep [0, 1, 5, 6] (.seq (.seq (.region C.q113_r2) C.q113_c8) C.q113_c6)
def C.q113_c9_w := pC C.q113_c9.eq_1
def C.q113_r1_b : List IOper := [
 X.m 8 0,
 X.m 9 1,
 X.o 10 (.call F.q115 [X.s 8, X.s 9]),
 X.m 7 10,
 X.o 11 (.extract (X.s 7) 0),
 X.o 12 (.extract (X.s 7) 1),
 X.o 5 (.alloc [.int .i64 0, .int .i64 0, .bool false, .bool false]),
 X.n (.storeN 4 (X.s 5) (X.s 11)),
 X.m 6 12]
def C.q113_r1 : List IOper := C.q113_r1_b
def C.q113_r1_w := pO C.q113_r1.eq_1
def C.q113_c10 : ICode := .keep [0, 1] (.seq (.region C.q113_r1) C.q113_c9)
def C.q113_c10_w := pC C.q113_c10.eq_1
def C.q113_r0_b : List IOper := [
 X.o 4 (.move (X.i 0))]
def C.q113_r0 : List IOper := C.q113_r0_b
def C.q113_r0_w := pO C.q113_r0.eq_1
def C.q113 : IFunc := ⟨2, [.slot 4], .seq (.region C.q113_r0) C.q113_c10⟩
def C.q113_W := aI (aI (aI (aI @C.q113_r8_w @C.q113_c1_w) (aI @C.q113_r7_w @C.q113_c2_w)) (aI (aI @C.q113_r6_w @C.q113_c3_w) (aI @C.q113_r5_w (aI @C.q113_c4_w @C.q113_c5_w)))) (aI (aI (aI @C.q113_r4_w @C.q113_c6_w) (aI @C.q113_r3_w (aI @C.q113_c7_w @C.q113_c8_w))) (aI (aI @C.q113_r2_w @C.q113_c9_w) (aI @C.q113_r1_w (aI @C.q113_c10_w @C.q113_r0_w))))
def C.q113_B := aI (aI (aI @C.q113_r8_b.eq_1 @C.q113_r7_b.eq_1) (aI @C.q113_r6_b.eq_1 @C.q113_r5_b.eq_1)) (aI (aI @C.q113_r4_b.eq_1 @C.q113_r3_b.eq_1) (aI @C.q113_r2_b.eq_1 (aI @C.q113_r1_b.eq_1 @C.q113_r0_b.eq_1)))

def C.q83_r10_b : List IOper := [
 X.o 57 (.fldAddr 0 (X.s 6)),
 X.o 58 (.load1 (X.s 57)),
 X.m 59 1,
 X.m 60 9,
 X.o 61 (.build [.int .i64 0, .int .i64 0, .bool false, .int .u32 0] [(0, 1, X.s 58), (1, 1, X.s 59), (3, 1, X.s 60)]),
 X.n (.storeN 4 (X.s 4) (X.s 61)),
 X.o 5 (.move (.cst (.bool true)))]
def C.q83_r10 : List IOper := C.q83_r10_b
def C.q83_r10_w := pO C.q83_r10.eq_1
def C.q83_c1 : ICode := .keep [1, 4, 6, 9] (.seq (.region C.q83_r10) .ret)
def C.q83_c1_w := pC C.q83_c1.eq_1
def C.q83_r9_b : List IOper := [
 X.o 50 (.fldAddr 4 (X.s 8)),
 X.o 51 (.load1 (X.s 50)),
 X.o 52 (.fldAddr 2 (X.s 6)),
 X.o 53 (.load1 (X.s 52)),
 X.o 54 (.fldAddr 3 (X.s 6)),
 X.o 55 (.load1 (X.s 54)),
 X.o 56 (.call F.q106 [X.s 51, X.s 53, X.s 55])]
def C.q83_r9 : List IOper := C.q83_r9_b
def C.q83_r9_w := pO C.q83_r9.eq_1
def C.q83_c2 : ICode := .keep [1, 4, 6, 8, 9, 49] (.cond (X.s 49) (.region C.q83_r9) .skip)
def C.q83_c2_w := pC C.q83_c2.eq_1
def C.q83_r8_b : List IOper := [
 X.o 48 (.fldAddr 1 (X.s 6)),
 X.o 49 (.load1 (X.s 48))]
def C.q83_r8 : List IOper := C.q83_r8_b
def C.q83_r8_w := pO C.q83_r8.eq_1
def C.q83_c3 : ICode := .keep [1, 4, 6, 8, 9] (.seq (.seq (.region C.q83_r8) C.q83_c2) C.q83_c1)
def C.q83_c3_w := pC C.q83_c3.eq_1
def C.q83_r7_b : List IOper := [
 X.o 41 (.fldAddr 4 (X.s 8)),
 X.o 42 (.load1 (X.s 41)),
 X.o 43 (.fldAddr 2 (X.s 6)),
 X.o 44 (.load1 (X.s 43)),
 X.o 45 (.call F.q101 [X.s 42, X.s 44]),
 X.m 40 45,
 X.o 46 (.extract (X.s 40) 0),
 X.o 47 (.extract (X.s 40) 1),
 X.m 9 46,
 X.m 10 47]
def C.q83_r7 : List IOper := C.q83_r7_b
def C.q83_r7_w := pO C.q83_r7.eq_1
def C.q83_c4 : ICode := .keep [1, 4, 6, 8] (.seq (.region C.q83_r7) C.q83_c3)
def C.q83_c4_w := pC C.q83_c4.eq_1
def C.q83_r6_b : List IOper := [
 X.o 34 (.fldAddr 0 (X.s 6)),
 X.o 35 (.load1 (X.s 34)),
 X.m 36 1,
 X.o 37 (.fldAddr 3 (X.s 8)),
 X.o 38 (.load1 (X.s 37)),
 X.o 39 (.build [.int .i64 0, .int .i64 0, .bool false, .int .u32 0] [(0, 1, X.s 35), (1, 1, X.s 36), (2, 1, .cst (.bool true)), (3, 1, X.s 38)]),
 X.n (.storeN 4 (X.s 4) (X.s 39)),
 X.o 5 (.move (.cst (.bool true)))]
def C.q83_r6 : List IOper := C.q83_r6_b
def C.q83_r6_w := pO C.q83_r6.eq_1
def C.q83_c5 : ICode := .seq (.region C.q83_r6) .ret
def C.q83_c5_w := pC C.q83_c5.eq_1
def C.q83_c6 : ICode := .keep [1, 4, 6, 8, 33] (.cond (X.s 33) C.q83_c5 .skip)
def C.q83_c6_w := pC C.q83_c6.eq_1
def C.q83_r5_b : List IOper := [
 X.m 30 0,
 X.m 31 1,
 X.o 32 (.call F.q72 [X.s 30, X.s 31]),
 X.o 33 (.un .not (X.s 32))]
def C.q83_r5 : List IOper := C.q83_r5_b
def C.q83_r5_w := pO C.q83_r5.eq_1
def C.q83_c7 : ICode := .keep [0, 1, 4, 6, 8] (.seq (.seq (.region C.q83_r5) C.q83_c6) C.q83_c4)
def C.q83_c7_w := pC C.q83_c7.eq_1
def C.q83_r4_b : List IOper := [
 X.m 23 0,
 X.o 24 (.nilchk (X.s 23)),
 X.o 25 (.fldAddr 4 (X.s 24)),
 X.o 26 (.load1 (X.s 25)),
 X.m 27 1,
 X.o 28 (.idxAddr 6 (X.s 26) (X.s 27)),
 X.o 29 (.loadN 6 (X.s 28)),
 X.o 8 (.alloc [.int .i64 0, .int .i64 0, .int .i64 0, .int .u32 0, .nilp, .nilp]),
 X.n (.storeN 6 (X.s 8) (X.s 29))]
def C.q83_r4 : List IOper := C.q83_r4_b
def C.q83_r4_w := pO C.q83_r4.eq_1
def C.q83_c8 : ICode := .keep [0, 1, 4, 6] (.seq (.region C.q83_r4) C.q83_c7)
def C.q83_c8_w := pC C.q83_c8.eq_1
def C.q83_r3_b : List IOper := [
 X.o 22 (.build [.int .i64 0, .int .i64 0, .bool false, .int .u32 0] []),
 X.n (.storeN 4 (X.s 4) (X.s 22)),
 X.o 5 (.move (.cst (.bool false)))]
def C.q83_r3 : List IOper := C.q83_r3_b
def C.q83_r3_w := pO C.q83_r3.eq_1
def C.q83_c9 : ICode := .seq (.region C.q83_r3) .ret
def C.q83_c9_w := pC C.q83_c9.eq_1
def C.q83_c10 : ICode := .keep [0, 1, 4, 6, 21] (.cond (X.s 21) C.q83_c9 .skip)
def C.q83_c10_w := pC C.q83_c10.eq_1
def C.q83_r2_b : List IOper := [
 X.m 20 7,
 X.o 21 (.un .not (X.s 20))]
def C.q83_r2 : List IOper := C.q83_r2_b
def C.q83_r2_w := pO C.q83_r2.eq_1
def C.q83_c11 : ICode := .keep [0, 1, 4, 6, 7] (.seq (.seq (.region C.q83_r2) C.q83_c10) C.q83_c8)
def C.q83_c11_w := pC C.q83_c11.eq_1
def C.q83_r1_b : List IOper := [
 X.m 12 0,
 X.o 13 (.nilchk (X.s 12)),
 X.o 14 (.fldAddr 3 (X.s 13)),
 X.o 15 (.load1 (X.s 14)),
 X.m 16 1,
 X.o 17 (.call F.q0 [X.s 15, X.s 16]),
 X.m 11 17,
 X.o 18 (.extract (X.s 11) 0),
 X.o 19 (.extract (X.s 11) 1),
 X.o 6 (.alloc [.int .i64 0, .bool false, .int .i64 0, .int .u32 0]),
 X.n (.storeN 4 (X.s 6) (X.s 18)),
 X.m 7 19]
def C.q83_r1 : List IOper := C.q83_r1_b
def C.q83_r1_w := pO C.q83_r1.eq_1
def C.q83_c12 : ICode := .keep [0, 1, 4] (.seq (.region C.q83_r1) C.q83_c11)
def C.q83_c12_w := pC C.q83_c12.eq_1
def C.q83_r0_b : List IOper := [
 X.o 4 (.alloc [.int .i64 0, .int .i64 0, .bool false, .int .u32 0]),
 X.o 5 (.move (.cst (.bool false)))]
def C.q83_r0 : List IOper := C.q83_r0_b
def C.q83_r0_w := pO C.q83_r0.eq_1
def C.q83 : IFunc := ⟨2, [.cellN 4 4, .slot 5], .seq (.region C.q83_r0) C.q83_c12⟩
def C.q83_W := aI (aI (aI (aI @C.q83_r10_w @C.q83_c1_w) (aI @C.q83_r9_w (aI @C.q83_c2_w @C.q83_r8_w))) (aI (aI @C.q83_c3_w (aI @C.q83_r7_w @C.q83_c4_w)) (aI @C.q83_r6_w (aI @C.q83_c5_w @C.q83_c6_w)))) (aI (aI (aI @C.q83_r5_w (aI @C.q83_c7_w @C.q83_r4_w)) (aI @C.q83_c8_w (aI @C.q83_r3_w @C.q83_c9_w))) (aI (aI @C.q83_c10_w (aI @C.q83_r2_w @C.q83_c11_w)) (aI @C.q83_r1_w (aI @C.q83_c12_w @C.q83_r0_w))))
def C.q83_B := aI (aI (aI @C.q83_r10_b.eq_1 @C.q83_r9_b.eq_1) (aI @C.q83_r8_b.eq_1 (aI @C.q83_r7_b.eq_1 @C.q83_r6_b.eq_1))) (aI (aI @C.q83_r5_b.eq_1 (aI @C.q83_r4_b.eq_1 @C.q83_r3_b.eq_1)) (aI @C.q83_r2_b.eq_1 (aI @C.q83_r1_b.eq_1 @C.q83_r0_b.eq_1)))

def C.q96_r3_b : List IOper := [
 X.m 20 0,
 X.o 21 (.nilchk (X.s 20)),
 X.o 22 (.fldAddr 1 (X.s 21)),
 X.o 23 (.load1 (X.s 22)),
 X.o 24 (.bin .add (X.s 23) (X.i 1)),
 X.o 25 (.nilchk (X.s 20)),
 X.o 26 (.fldAddr 1 (X.s 25)),
 X.n (.store1 (X.s 26) (X.s 24))]
def C.q96_r3 : List IOper := C.q96_r3_b
def C.q96_r3_w := pO C.q96_r3.eq_1
def C.q96_c1 : ICode := .keep [0] (.region C.q96_r3)
def C.q96_c1_w := pC C.q96_c1.eq_1
def C.q96_r2_b : List IOper := [
 X.m 17 0,
 X.o 18 (.nilchk (X.s 17)),
 X.o 19 (.fldAddr 0 (X.s 18)),
 X.n (.store1 (X.s 19) (X.i 3))]
def C.q96_r2 : List IOper := C.q96_r2_b
def C.q96_r2_w := pO C.q96_r2.eq_1
def C.q96_r6_b : List IOper := [
 X.m 33 0,
 X.o 34 (.nilchk (X.s 33)),
 X.o 35 (.fldAddr 1 (X.s 34)),
 X.n (.store1 (X.s 35) (X.i 0))]
def C.q96_r6 : List IOper := C.q96_r6_b
def C.q96_r6_w := pO C.q96_r6.eq_1
def C.q96_c2 : ICode := .keep [0] (.region C.q96_r6)
def C.q96_c2_w := pC C.q96_c2.eq_1
def C.q96_r5_b : List IOper := [
 X.m 30 0,
 X.o 31 (.nilchk (X.s 30)),
 X.o 32 (.fldAddr 0 (X.s 31)),
 X.n (.store1 (X.s 32) (X.i 2))]
def C.q96_r5 : List IOper := C.q96_r5_b
def C.q96_r5_w := pO C.q96_r5.eq_1
def C.q96_c3 : ICode := .seq (.region C.q96_r5) C.q96_c2
def C.q96_c3_w := pC C.q96_c3.eq_1
def C.q96_c4 : ICode := .keep [0, 27] (.cond (X.s 27) C.q96_c3 .skip)
def C.q96_c4_w := pC C.q96_c4.eq_1
def C.q96_r4_b : List IOper := [
 X.m 28 1,
 X.o 29 (.un .not (X.s 28)),
 X.m 27 29]
def C.q96_r4 : List IOper := C.q96_r4_b
def C.q96_r4_w := pO C.q96_r4.eq_1
def C.q96_c5 : ICode := .seq (.region C.q96_r2) C.q96_c1
def C.q96_c5_w := pC C.q96_c5.eq_1
def C.q96_c6 : ICode := .seq (.region C.q96_r4) C.q96_c4
def C.q96_c6_w := pC C.q96_c6.eq_1
def C.q96_c7 : ICode := .keep [0, 1, 15] (.cond (X.s 15) C.q96_c5 C.q96_c6)
def C.q96_c7_w := pC C.q96_c7.eq_1
def C.q96_r1_b : List IOper := [
 X.m 16 2,
 X.m 15 16]
def C.q96_r1 : List IOper := C.q96_r1_b
def C.q96_r1_w := pO C.q96_r1.eq_1
def C.q96_b8 : ICode := .seq (.region C.q96_r1) C.q96_c7
def C.q96_b8_w := pC C.q96_b8.eq_1
def C.q96_c9 : ICode := .keep [0, 1, 2] (.block 0 C.q96_b8)
def C.q96_c9_w := pC C.q96_c9.eq_1
def C.q96_c10 : ICode := .keep [0, 1, 2, 14] (.cond (X.s 14) .ret .skip)
def C.q96_c10_w := pC C.q96_c10.eq_1
def C.q96_r0_b : List IOper := [
 X.m 6 0,
 X.o 7 (.eqP 0 false (X.s 6) (.cst (.nilp))),
 X.m 8 7,
 X.f 8 9 (.move (X.s 0)),
 X.f 8 10 (.nilchk (X.s 9)),
 X.f 8 11 (.fldAddr 0 (X.s 10)),
 X.f 8 12 (.load1 (X.s 11)),
 X.f 8 13 (.bin .neq (X.s 12) (X.i 1)),
 X.o 14 (.pick (X.s 8) (.cst (.bool true)) (X.s 13))]
def C.q96_r0 : List IOper := C.q96_r0_b
def C.q96_r0_w := pO C.q96_r0.eq_1
def C.q96 : IFunc := ⟨3, [], .seq (.seq (.region C.q96_r0) C.q96_c10) C.q96_c9⟩
def C.q96_W := aI (aI (aI (aI @C.q96_r3_w @C.q96_c1_w) (aI @C.q96_r2_w @C.q96_r6_w)) (aI (aI @C.q96_c2_w @C.q96_r5_w) (aI @C.q96_c3_w @C.q96_c4_w))) (aI (aI (aI @C.q96_r4_w @C.q96_c5_w) (aI @C.q96_c6_w @C.q96_c7_w)) (aI (aI @C.q96_r1_w @C.q96_b8_w) (aI @C.q96_c9_w (aI @C.q96_c10_w @C.q96_r0_w))))
def C.q96_B := aI (aI @C.q96_r3_b.eq_1 (aI @C.q96_r2_b.eq_1 @C.q96_r6_b.eq_1)) (aI (aI @C.q96_r5_b.eq_1 @C.q96_r4_b.eq_1) (aI @C.q96_r1_b.eq_1 @C.q96_r0_b.eq_1))

def C.q1_r3_b : List IOper := [
 X.m 9 0,
 X.o 10 (.nilchk (X.s 9)),
 X.o 11 (.fldAddr 1 (X.s 10)),
 X.o 12 (.load1 (X.s 11)),
 X.m 13 1,
 X.o 14 (.idxAddr 1 (X.s 12) (X.s 13)),
 X.o 15 (.load1 (X.s 14)),
 X.o 16 (.len (X.s 15)),
 X.m 4 16]
def C.q1_r3 : List IOper := C.q1_r3_b
def C.q1_r3_w := pO C.q1_r3.eq_1
def C.q1_c1 : ICode := .keep [0, 1] (.seq (.region C.q1_r3) .ret)
def C.q1_c1_w := pC C.q1_c1.eq_1
def C.q1_r2_b : List IOper := [
 X.o 4 (.move (X.i 0))]
def C.q1_r2 : List IOper := C.q1_r2_b
def C.q1_r2_w := pO C.q1_r2.eq_1
def C.q1_c2 : ICode := .seq (.region C.q1_r2) .ret
def C.q1_c2_w := pC C.q1_c2.eq_1
def C.q1_c3 : ICode := .keep [0, 1, 8] (.cond (X.s 8) C.q1_c2 .skip)
def C.q1_c3_w := pC C.q1_c3.eq_1
def C.q1_r1_b : List IOper := [
 X.m 5 0,
 X.m 6 1,
 X.o 7 (.call F.q2 [X.s 5, X.s 6]),
 X.o 8 (.un .not (X.s 7))]
def C.q1_r1 : List IOper := C.q1_r1_b
def C.q1_r1_w := pO C.q1_r1.eq_1
def C.q1_c4 : ICode := .keep [0, 1] (.seq (.seq (.region C.q1_r1) C.q1_c3) C.q1_c1)
def C.q1_c4_w := pC C.q1_c4.eq_1
def C.q1_r0_b : List IOper := [
 X.o 4 (.move (X.i 0))]
def C.q1_r0 : List IOper := C.q1_r0_b
def C.q1_r0_w := pO C.q1_r0.eq_1
def C.q1 : IFunc := ⟨2, [.slot 4], .seq (.region C.q1_r0) C.q1_c4⟩
def C.q1_W := aI (aI (aI @C.q1_r3_w @C.q1_c1_w) (aI @C.q1_r2_w @C.q1_c2_w)) (aI (aI @C.q1_c3_w @C.q1_r1_w) (aI @C.q1_c4_w @C.q1_r0_w))
def C.q1_B := aI (aI @C.q1_r3_b.eq_1 @C.q1_r2_b.eq_1) (aI @C.q1_r1_b.eq_1 @C.q1_r0_b.eq_1)

def C.q13_r17_b : List IOper := [
 X.o 158 (.bin .add (X.s 34) (X.i 1)),
 X.m 34 158]
def C.q13_r17 : List IOper := C.q13_r17_b
def C.q13_r17_w := pO C.q13_r17.eq_1
def C.q13_c1 : ICode := .keep [0, 2, 33, 34] (.region C.q13_r17)
def C.q13_c1_w := pC C.q13_c1.eq_1
def C.q13_r12_b : List IOper := [
 X.m 65 5,
 X.m 66 5,
 X.o 67 (.nilchk (X.s 66)),
 X.o 68 (.fldAddr 0 (X.s 67)),
 X.o 69 (.fldAddr 5 (X.s 68)),
 X.o 70 (.load1 (X.s 69)),
 X.o 71 (.nilchk (X.s 65)),
 X.o 72 (.fldAddr 7 (X.s 71)),
 X.n (.store1 (X.s 72) (X.s 70))]
def C.q13_r12 : List IOper := C.q13_r12_b
def C.q13_r12_w := pO C.q13_r12.eq_1
def C.q13_r14_b : List IOper := [
 X.m 93 5,
 X.o 94 (.nilchk (X.s 93)),
 X.o 95 (.fldAddr 7 (X.s 94)),
 X.o 96 (.load1 (X.s 95)),
 X.o 97 (.bin .sub (X.s 96) (X.i 1)),
 X.o 98 (.nilchk (X.s 93)),
 X.o 99 (.fldAddr 7 (X.s 98)),
 X.n (.store1 (X.s 99) (X.s 97))]
def C.q13_r14 : List IOper := C.q13_r14_b
def C.q13_r14_w := pO C.q13_r14.eq_1
def C.q13_r16_b : List IOper := [
 X.m 151 5,
 X.m 152 5,
 X.o 153 (.nilchk (X.s 152)),
 X.o 154 (.fldAddr 9 (X.s 153)),
 X.o 155 (.load1 (X.s 154)),
 X.o 156 (.nilchk (X.s 151)),
 X.o 157 (.fldAddr 8 (X.s 156)),
 X.n (.store1 (X.s 157) (X.s 155))]
def C.q13_r16 : List IOper := C.q13_r16_b
def C.q13_r16_w := pO C.q13_r16.eq_1
def C.q13_c2 : ICode := .keep [0, 2, 5, 33, 34, 100] (.cond (X.s 100) (.region C.q13_r16) .skip)
def C.q13_c2_w := pC C.q13_c2.eq_1
def C.q13_r15_b : List IOper := [
 X.m 101 5,
 X.o 102 (.nilchk (X.s 101)),
 X.o 103 (.fldAddr 0 (X.s 102)),
 X.o 104 (.fldAddr 0 (X.s 103)),
 X.o 105 (.load1 (X.s 104)),
 X.o 106 (.bin .eql (X.s 105) (.cst (.int .u8 109))),
 X.m 107 106,
 X.t 107 108 (.move (X.s 5)),
 X.t 107 109 (.nilchk (X.s 108)),
 X.t 107 110 (.fldAddr 9 (X.s 109)),
 X.t 107 111 (.load1 (X.s 110)),
 X.t 107 112 (.move (X.s 5)),
 X.t 107 113 (.nilchk (X.s 112)),
 X.t 107 114 (.fldAddr 8 (X.s 113)),
 X.t 107 115 (.load1 (X.s 114)),
 X.t 107 116 (.bin .neq (X.s 111) (X.s 115)),
 X.o 117 (.pick (X.s 107) (X.s 116) (.cst (.bool false))),
 X.m 118 117,
 X.t 118 119 (.move (X.s 2)),
 X.t 118 120 (.move (X.s 5)),
 X.t 118 121 (.nilchk (X.s 120)),
 X.t 118 122 (.fldAddr 0 (X.s 121)),
 X.t 118 123 (.fldAddr 1 (X.s 122)),
 X.t 118 124 (.load1 (X.s 123)),
 X.t 118 125 (.move (X.s 5)),
 X.t 118 126 (.nilchk (X.s 125)),
 X.t 118 127 (.fldAddr 9 (X.s 126)),
 X.t 118 128 (.load1 (X.s 127)),
 X.t 118 129 (.idxAddr 1 (X.s 124) (X.s 128)),
 X.t 118 130 (.load1 (X.s 129)),
 X.t 118 131 (.idxAddr 1 (X.s 119) (X.s 130)),
 X.t 118 132 (.load1 (X.s 131)),
 X.t 118 133 (.move (X.s 132)),
 X.f 133 134 (.move (X.s 2)),
 X.f 133 135 (.move (X.s 5)),
 X.f 133 136 (.nilchk (X.s 135)),
 X.f 133 137 (.fldAddr 0 (X.s 136)),
 X.f 133 138 (.fldAddr 1 (X.s 137)),
 X.f 133 139 (.load1 (X.s 138)),
 X.f 133 140 (.move (X.s 5)),
 X.f 133 141 (.nilchk (X.s 140)),
 X.f 133 142 (.fldAddr 8 (X.s 141)),
 X.f 133 143 (.load1 (X.s 142)),
 X.f 133 144 (.idxAddr 1 (X.s 139) (X.s 143)),
 X.f 133 145 (.load1 (X.s 144)),
 X.f 133 146 (.idxAddr 1 (X.s 134) (X.s 145)),
 X.f 133 147 (.load1 (X.s 146)),
 X.f 133 148 (.un .not (X.s 147)),
 X.t 118 149 (.pick (X.s 133) (.cst (.bool true)) (X.s 148)),
 X.o 150 (.pick (X.s 118) (X.s 149) (.cst (.bool false))),
 X.m 100 150]
def C.q13_r15 : List IOper := C.q13_r15_b
def C.q13_r15_w := pO C.q13_r15.eq_1
def C.q13_c3 : ICode := .seq (.region C.q13_r15) C.q13_c2
def C.q13_c3_w := pC C.q13_c3.eq_1
def C.q13_c4 : ICode := .keep [0, 2, 5, 33, 34, 73] (.cond (X.s 73) (.region C.q13_r14) C.q13_c3)
def C.q13_c4_w := pC C.q13_c4.eq_1
def C.q13_r13_b : List IOper := [
 X.m 74 5,
 X.o 75 (.nilchk (X.s 74)),
 X.o 76 (.fldAddr 0 (X.s 75)),
 X.o 77 (.fldAddr 0 (X.s 76)),
 X.o 78 (.load1 (X.s 77)),
 X.o 79 (.bin .eql (X.s 78) (.cst (.int .u8 112))),
 X.m 80 79,
 X.t 80 81 (.move (X.s 5)),
 X.t 80 82 (.nilchk (X.s 81)),
 X.t 80 83 (.fldAddr 6 (X.s 82)),
 X.t 80 84 (.load1 (X.s 83)),
 X.o 85 (.pick (X.s 80) (X.s 84) (.cst (.bool false))),
 X.m 86 85,
 X.t 86 87 (.move (X.s 5)),
 X.t 86 88 (.nilchk (X.s 87)),
 X.t 86 89 (.fldAddr 7 (X.s 88)),
 X.t 86 90 (.load1 (X.s 89)),
 X.t 86 91 (.bin .gtr (X.s 90) (X.i 0)),
 X.o 92 (.pick (X.s 86) (X.s 91) (.cst (.bool false))),
 X.m 73 92]
def C.q13_r13 : List IOper := C.q13_r13_b
def C.q13_r13_w := pO C.q13_r13.eq_1
def C.q13_c5 : ICode := .seq (.region C.q13_r13) C.q13_c4
def C.q13_c5_w := pC C.q13_c5.eq_1
def C.q13_c6 : ICode := .keep [0, 2, 5, 33, 34, 43] (.cond (X.s 43) (.region C.q13_r12) C.q13_c5)
def C.q13_c6_w := pC C.q13_c6.eq_1
def C.q13_r11_b : List IOper := [
 X.m 44 5,
 X.o 45 (.nilchk (X.s 44)),
 X.o 46 (.fldAddr 0 (X.s 45)),
 X.o 47 (.fldAddr 0 (X.s 46)),
 X.o 48 (.load1 (X.s 47)),
 X.o 49 (.bin .eql (X.s 48) (.cst (.int .u8 112))),
 X.m 50 49,
 X.t 50 51 (.move (X.s 5)),
 X.t 50 52 (.nilchk (X.s 51)),
 X.t 50 53 (.fldAddr 6 (X.s 52)),
 X.t 50 54 (.load1 (X.s 53)),
 X.o 55 (.pick (X.s 50) (X.s 54) (.cst (.bool false))),
 X.m 56 55,
 X.t 56 57 (.move (X.s 2)),
 X.t 56 58 (.move (X.s 0)),
 X.t 56 59 (.move (X.s 4)),
 X.t 56 60 (.call F.q15 [X.s 58, X.s 59]),
 X.t 56 61 (.idxAddr 1 (X.s 57) (X.s 60)),
 X.t 56 62 (.load1 (X.s 61)),
 X.t 56 63 (.un .not (X.s 62)),
 X.o 64 (.pick (X.s 56) (X.s 63) (.cst (.bool false))),
 X.m 43 64]
def C.q13_r11 : List IOper := C.q13_r11_b
def C.q13_r11_w := pO C.q13_r11.eq_1
def C.q13_b7 : ICode := .seq (.region C.q13_r11) C.q13_c6
def C.q13_b7_w := pC C.q13_b7.eq_1
def C.q13_c8 : ICode := .keep [0, 2, 4, 5, 33, 34] (.block 4 C.q13_b7)
def C.q13_c8_w := pC C.q13_c8.eq_1
def C.q13_r10_b : List IOper := [
 X.m 37 0,
 X.o 38 (.nilchk (X.s 37)),
 X.o 39 (.fldAddr 0 (X.s 38)),
 X.o 40 (.load1 (X.s 39)),
 X.m 41 4,
 X.o 42 (.idxAddr 11 (X.s 40) (X.s 41)),
 X.m 5 42]
def C.q13_r10 : List IOper := C.q13_r10_b
def C.q13_r10_w := pO C.q13_r10.eq_1
def C.q13_c9 : ICode := .keep [0, 2, 4, 33, 34] (.seq (.region C.q13_r10) C.q13_c8)
def C.q13_c9_w := pC C.q13_c9.eq_1
def C.q13_r9_b : List IOper := [
 X.m 36 34,
 X.m 4 36]
def C.q13_r9 : List IOper := C.q13_r9_b
def C.q13_r9_w := pO C.q13_r9.eq_1
def C.q13_b10 : ICode := .seq (.region C.q13_r9) C.q13_c9
def C.q13_b10_w := pC C.q13_b10.eq_1
def C.q13_c11 : ICode := .keep [0, 2, 33, 34] (.seq (.block 3 C.q13_b10) C.q13_c1)
def C.q13_c11_w := pC C.q13_c11.eq_1
def C.q13_c12 : ICode := .keep [0, 2, 33, 34, 35] (.seq (.cond (X.s 35) .skip (.exit 2)) C.q13_c11)
def C.q13_c12_w := pC C.q13_c12.eq_1
def C.q13_r8_b : List IOper := [
 X.o 35 (.bin .lss (X.s 34) (X.s 33))]
def C.q13_r8 : List IOper := C.q13_r8_b
def C.q13_r8_w := pO C.q13_r8.eq_1
def C.q13_l13 : ICode := .keep [0, 2, 33, 34] (.seq (.region C.q13_r8) C.q13_c12)
def C.q13_l13_w := pC C.q13_l13.eq_1
def C.q13_b14 : ICode := .loop C.q13_l13
def C.q13_b14_w := pC C.q13_b14.eq_1
def C.q13_c15 : ICode := .keep [0, 2, 33, 34] (.block 2 C.q13_b14)
def C.q13_c15_w := pC C.q13_c15.eq_1
def C.q13_r7_b : List IOper := [
 X.m 29 0,
 X.o 30 (.nilchk (X.s 29)),
 X.o 31 (.fldAddr 0 (X.s 30)),
 X.o 32 (.load1 (X.s 31)),
 X.o 33 (.len (X.s 32)),
 X.o 34 (.move (X.i 0))]
def C.q13_r7 : List IOper := C.q13_r7_b
def C.q13_r7_w := pO C.q13_r7.eq_1
def C.q13_c16 : ICode := .keep [0, 2] (.seq (.region C.q13_r7) C.q13_c15)
def C.q13_c16_w := pC C.q13_c16.eq_1
def C.q13_r6_b : List IOper := [
 X.o 28 (.bin .add (X.s 19) (X.i 1)),
 X.m 19 28]
def C.q13_r6 : List IOper := C.q13_r6_b
def C.q13_r6_w := pO C.q13_r6.eq_1
def C.q13_c17 : ICode := .keep [0, 2, 18, 19] (.region C.q13_r6)
def C.q13_c17_w := pC C.q13_c17.eq_1
def C.q13_r5_b : List IOper := [
 X.m 22 2,
 X.m 23 3,
 X.m 24 0,
 X.m 25 3,
 X.o 26 (.call F.q11 [X.s 24, X.s 25]),
 X.o 27 (.idxAddr 1 (X.s 22) (X.s 23)),
 X.n (.store1 (X.s 27) (X.s 26))]
def C.q13_r5 : List IOper := C.q13_r5_b
def C.q13_r5_w := pO C.q13_r5.eq_1
def C.q13_c18 : ICode := .keep [0, 2, 3, 18, 19] (.region C.q13_r5)
def C.q13_c18_w := pC C.q13_c18.eq_1
def C.q13_r4_b : List IOper := [
 X.m 21 19,
 X.m 3 21]
def C.q13_r4 : List IOper := C.q13_r4_b
def C.q13_r4_w := pO C.q13_r4.eq_1
def C.q13_b19 : ICode := .seq (.region C.q13_r4) C.q13_c18
def C.q13_b19_w := pC C.q13_b19.eq_1
def C.q13_c20 : ICode := .keep [0, 2, 18, 19] (.seq (.block 1 C.q13_b19) C.q13_c17)
def C.q13_c20_w := pC C.q13_c20.eq_1
def C.q13_c21 : ICode := .keep [0, 2, 18, 19, 20] (.seq (.cond (X.s 20) .skip (.exit 0)) C.q13_c20)
def C.q13_c21_w := pC C.q13_c21.eq_1
def C.q13_r3_b : List IOper := [
 X.o 20 (.bin .lss (X.s 19) (X.s 18))]
def C.q13_r3 : List IOper := C.q13_r3_b
def C.q13_r3_w := pO C.q13_r3.eq_1
def C.q13_l22 : ICode := .keep [0, 2, 18, 19] (.seq (.region C.q13_r3) C.q13_c21)
def C.q13_l22_w := pC C.q13_l22.eq_1
def C.q13_b23 : ICode := .loop C.q13_l22
def C.q13_b23_w := pC C.q13_b23.eq_1
def C.q13_c24 : ICode := .keep [0, 2, 18, 19] (.block 0 C.q13_b23)
def C.q13_c24_w := pC C.q13_c24.eq_1
def C.q13_r2_b : List IOper := [
 X.m 14 0,
 X.o 15 (.nilchk (X.s 14)),
 X.o 16 (.fldAddr 0 (X.s 15)),
 X.o 17 (.load1 (X.s 16)),
 X.o 18 (.len (X.s 17)),
 X.o 19 (.move (X.i 0))]
def C.q13_r2 : List IOper := C.q13_r2_b
def C.q13_r2_w := pO C.q13_r2.eq_1
def C.q13_c25 : ICode := .keep [0, 2] (.seq (.seq (.region C.q13_r2) C.q13_c24) C.q13_c16)
def C.q13_c25_w := pC C.q13_c25.eq_1
def C.q13_r1_b : List IOper := [
 X.m 8 0,
 X.o 9 (.nilchk (X.s 8)),
 X.o 10 (.fldAddr 0 (X.s 9)),
 X.o 11 (.load1 (X.s 10)),
 X.o 12 (.len (X.s 11)),
 X.o 13 (.makeSlice 1 1 [.bool false] (X.s 12) (X.s 12)),
 X.m 2 13]
def C.q13_r1 : List IOper := C.q13_r1_b
def C.q13_r1_w := pO C.q13_r1.eq_1
def C.q13_c26 : ICode := .keep [0] (.seq (.region C.q13_r1) C.q13_c25)
def C.q13_c26_w := pC C.q13_c26.eq_1
def C.q13_c27 : ICode := .keep [0, 7] (.cond (X.s 7) .ret .skip)
def C.q13_c27_w := pC C.q13_c27.eq_1
def C.q13_r0_b : List IOper := [
 X.m 6 0,
 X.o 7 (.eqP 0 false (X.s 6) (.cst (.nilp)))]
def C.q13_r0 : List IOper := C.q13_r0_b
def C.q13_r0_w := pO C.q13_r0.eq_1
def C.q13 : IFunc := ⟨1, [], .seq (.seq (.region C.q13_r0) C.q13_c27) C.q13_c26⟩
def C.q13_W := aI (aI (aI (aI (aI @C.q13_r17_w @C.q13_c1_w) (aI @C.q13_r12_w (aI @C.q13_r14_w @C.q13_r16_w))) (aI (aI @C.q13_c2_w @C.q13_r15_w) (aI @C.q13_c3_w (aI @C.q13_c4_w @C.q13_r13_w)))) (aI (aI (aI @C.q13_c5_w @C.q13_c6_w) (aI @C.q13_r11_w (aI @C.q13_b7_w @C.q13_c8_w))) (aI (aI @C.q13_r10_w (aI @C.q13_c9_w @C.q13_r9_w)) (aI @C.q13_b10_w (aI @C.q13_c11_w @C.q13_c12_w))))) (aI (aI (aI (aI @C.q13_r8_w @C.q13_b14_w) (aI @C.q13_c15_w (aI @C.q13_r7_w @C.q13_c16_w))) (aI (aI @C.q13_r6_w (aI @C.q13_c17_w @C.q13_r5_w)) (aI @C.q13_c18_w (aI @C.q13_r4_w @C.q13_b19_w)))) (aI (aI (aI @C.q13_c20_w @C.q13_c21_w) (aI @C.q13_r3_w (aI @C.q13_b23_w @C.q13_c24_w))) (aI (aI @C.q13_r2_w (aI @C.q13_c25_w @C.q13_r1_w)) (aI @C.q13_c26_w (aI @C.q13_c27_w @C.q13_r0_w)))))
def C.q13_B := aI (aI (aI (aI @C.q13_r17_b.eq_1 @C.q13_r12_b.eq_1) (aI @C.q13_r14_b.eq_1 @C.q13_r16_b.eq_1)) (aI (aI @C.q13_r15_b.eq_1 @C.q13_r13_b.eq_1) (aI @C.q13_r11_b.eq_1 (aI @C.q13_r10_b.eq_1 @C.q13_r9_b.eq_1)))) (aI (aI (aI @C.q13_r8_b.eq_1 @C.q13_r7_b.eq_1) (aI @C.q13_r6_b.eq_1 @C.q13_r5_b.eq_1)) (aI (aI @C.q13_r4_b.eq_1 @C.q13_r3_b.eq_1) (aI @C.q13_r2_b.eq_1 (aI @C.q13_r1_b.eq_1 @C.q13_r0_b.eq_1))))

end Go.Proofs.YtdmfgodajoojpaaGreat.Cn
