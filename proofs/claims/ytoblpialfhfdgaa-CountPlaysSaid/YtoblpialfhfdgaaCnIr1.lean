/- The intermediate code of the functions, printed by a program out of the loaded program; that it is theirs is checked in the text of links. -/
import Derived.Test.YtoblpialfhfdgaaCnL2
set_option linter.defProp false
namespace Go.Proofs.Ytoblpialfhfdgaa.Cn
open Go
variable {P : Program} {Q : IExit → AFr → ASt → Prop} {fr : AFr} {st : ASt}

abbrev F.main_main : Nat := 0
abbrev F.gosem_cut : Nat := 1
abbrev F.gosem_cut_init : Nat := 2
abbrev F.catnaplaw16_CountNeeds : Nat := 3
abbrev F.catnaplaw16_CountBack : Nat := 4
abbrev F.catnaplaw16_CountErrs : Nat := 5
abbrev F.catnaplaw16_CountOrder : Nat := 6
abbrev F.q0 : Nat := 7
abbrev F.catnaplaw16_CountCopies : Nat := 8
abbrev F.q6 : Nat := 9
abbrev F.q1 : Nat := 10
abbrev F.q81 : Nat := 11
abbrev F.q4 : Nat := 12
abbrev F.q76 : Nat := 13
abbrev F.q77 : Nat := 14
abbrev F.q72 : Nat := 15
abbrev F.q75 : Nat := 16
abbrev F.q78 : Nat := 17
abbrev F.q79 : Nat := 18
abbrev F.q5 : Nat := 19
abbrev F.q28 : Nat := 20
abbrev F.q73 : Nat := 21
abbrev F.q3 : Nat := 22
abbrev F.q74 : Nat := 23
abbrev F.q14 : Nat := 24
abbrev F.q8 : Nat := 25
abbrev F.q2 : Nat := 26
abbrev F.q7 : Nat := 27
abbrev F.q9 : Nat := 28
abbrev F.q42 : Nat := 29
abbrev F.q80 : Nat := 30
abbrev F.q82 : Nat := 31
abbrev F.q63 : Nat := 32
abbrev F.q29 : Nat := 33
abbrev F.q64 : Nat := 34
abbrev F.q30 : Nat := 35
abbrev F.q58 : Nat := 36
abbrev F.q31 : Nat := 37
abbrev F.q43 : Nat := 38
abbrev F.q32 : Nat := 39
abbrev F.q48 : Nat := 40
abbrev F.q40 : Nat := 41
abbrev F.q33 : Nat := 42
abbrev F.q60 : Nat := 43
abbrev F.q34 : Nat := 44
abbrev F.q55 : Nat := 45
abbrev F.q35 : Nat := 46
abbrev F.q41 : Nat := 47
abbrev F.q36 : Nat := 48
abbrev F.q61 : Nat := 49
abbrev F.q68 : Nat := 50
abbrev F.q37 : Nat := 51
abbrev F.q59 : Nat := 52
abbrev F.q38 : Nat := 53
abbrev F.q49 : Nat := 54
abbrev F.q39 : Nat := 55
abbrev F.maps_Clone_map_int_int_int_int : Nat := 56
abbrev F.q17 : Nat := 57
abbrev F.q20 : Nat := 58
abbrev F.q10 : Nat := 59
abbrev F.q11 : Nat := 60
abbrev F.q13 : Nat := 61
abbrev F.q12 : Nat := 62
abbrev F.q67 : Nat := 63
abbrev F.q89 : Nat := 64
abbrev F.q86 : Nat := 65
abbrev F.q87 : Nat := 66
abbrev F.q90 : Nat := 67
abbrev F.q65 : Nat := 68
abbrev F.q70 : Nat := 69
abbrev F.q44 : Nat := 70
abbrev F.q69 : Nat := 71
abbrev F.q45 : Nat := 72
abbrev F.q62 : Nat := 73
abbrev F.q46 : Nat := 74
abbrev F.q71 : Nat := 75
abbrev F.q47 : Nat := 76
abbrev F.q66 : Nat := 77
abbrev F.q83 : Nat := 78
abbrev F.q56 : Nat := 79
abbrev F.q57 : Nat := 80
abbrev F.q50 : Nat := 81
abbrev F.q51 : Nat := 82
abbrev F.q52 : Nat := 83
abbrev F.q53 : Nat := 84
abbrev F.q54 : Nat := 85
abbrev F.maps_clone : Nat := 86
abbrev F.q23 : Nat := 87
abbrev F.q22 : Nat := 88
abbrev F.q25 : Nat := 89
abbrev F.q27 : Nat := 90
abbrev F.q24 : Nat := 91
abbrev F.q84 : Nat := 92
abbrev F.q21 : Nat := 93
abbrev F.q15 : Nat := 94
abbrev F.q18 : Nat := 95
abbrev F.q26 : Nat := 96
abbrev F.q19 : Nat := 97
abbrev F.q88 : Nat := 98
abbrev F.q85 : Nat := 99
abbrev F.q16 : Nat := 100
abbrev F.runtime_boundsError_Error : Nat := 101
abbrev F.runtime_boundsError_RuntimeError : Nat := 102
abbrev F.runtime_errorString_Error : Nat := 103
abbrev F.runtime_errorString_RuntimeError : Nat := 104
abbrev F.runtime_plainError_Error : Nat := 105
abbrev F.runtime_plainError_RuntimeError : Nat := 106
abbrev F.runtime_errorAddressString_Error : Nat := 107
abbrev F.runtime_errorAddressString_RuntimeError : Nat := 108
abbrev F.runtime_TypeAssertionError_Error : Nat := 109
abbrev F.runtime_TypeAssertionError_RuntimeError : Nat := 110
abbrev F.runtime_PanicNilError_Error : Nat := 111
abbrev F.runtime_PanicNilError_RuntimeError : Nat := 112
abbrev F.internal_abi_Type_Align : Nat := 113
abbrev F.internal_runtime_maps_unhashableTypeError_Error : Nat := 114
abbrev F.internal_runtime_maps_unhashableTypeError_RuntimeError : Nat := 115
abbrev F.api_Errno_Error : Nat := 116
abbrev F.internal_abi_Kind_String : Nat := 117

def C.q0_r21_b : List IOper := [
 X.m 132 8,
 X.o 133 (.bin .eql (X.s 132) (X.i 0)),
 X.m 134 133,
 X.t 134 135 (.move (X.s 10)),
 X.t 134 136 (.bin .eql (X.s 135) (X.i 0)),
 X.o 137 (.pick (X.s 134) (X.s 136) (.cst (.bool false))),
 X.m 4 137]
def C.q0_r21 : List IOper := C.q0_r21_b
def C.q0_r21_w := @aopsE _ _ C.q0_r21.eq_1
def C.q0_c1 : ICode := .keep [8, 10] (.seq (.region C.q0_r21) .ret)
def C.q0_c1_w := @awpE _ _ C.q0_c1.eq_1
def C.q0_r9_b : List IOper := [
 X.m 56 11,
 X.o 57 (.bin .add (X.s 56) (X.i 1)),
 X.m 11 57]
def C.q0_r9 : List IOper := C.q0_r9_b
def C.q0_r9_w := @aopsE _ _ C.q0_r9.eq_1
def C.q0_c2 : ICode := .keep [1, 6, 7, 8, 9, 10, 11] (.region C.q0_r9)
def C.q0_c2_w := @awpE _ _ C.q0_c2.eq_1
def C.q0_r18_b : List IOper := [
 X.m 114 14,
 X.o 115 (.bin .add (X.s 114) (X.i 1)),
 X.m 14 115]
def C.q0_r18 : List IOper := C.q0_r18_b
def C.q0_r18_w := @aopsE _ _ C.q0_r18.eq_1
def C.q0_c3 : ICode := .keep [1, 6, 7, 8, 9, 10, 11, 12, 13, 14] (.region C.q0_r18)
def C.q0_c3_w := @awpE _ _ C.q0_c3.eq_1
def C.q0_r20_b : List IOper := [
 X.o 4 (.move (.cst (.bool false)))]
def C.q0_r20 : List IOper := C.q0_r20_b
def C.q0_r20_w := @aopsE _ _ C.q0_r20.eq_1
def C.q0_c4 : ICode := .seq (.region C.q0_r20) .ret
def C.q0_c4_w := @awpE _ _ C.q0_c4.eq_1
def C.q0_c5 : ICode := .keep [1, 6, 7, 8, 9, 10, 11, 12, 13, 14, 131] (.cond (X.s 131) C.q0_c4 .skip)
def C.q0_c5_w := @awpE _ _ C.q0_c5.eq_1
def C.q0_r19_b : List IOper := [
 X.m 116 7,
 X.m 117 14,
 X.o 118 (.call F.q75 [X.s 116, X.s 117]),
 X.m 119 9,
 X.m 120 14,
 X.o 121 (.call F.q9 [X.s 119, X.s 120]),
 X.o 122 (.bin .neq (X.s 118) (X.s 121)),
 X.m 123 122,
 X.f 123 124 (.move (X.s 12)),
 X.f 123 125 (.move (X.s 14)),
 X.f 123 126 (.call F.q75 [X.s 124, X.s 125]),
 X.f 123 127 (.move (X.s 13)),
 X.f 123 128 (.move (X.s 14)),
 X.f 123 129 (.call F.q9 [X.s 127, X.s 128]),
 X.f 123 130 (.bin .neq (X.s 126) (X.s 129)),
 X.o 131 (.pick (X.s 123) (.cst (.bool true)) (X.s 130))]
def C.q0_r19 : List IOper := C.q0_r19_b
def C.q0_r19_w := @aopsE _ _ C.q0_r19.eq_1
def C.q0_b6 : ICode := .seq (.region C.q0_r19) C.q0_c5
def C.q0_b6_w := @awpE _ _ C.q0_b6.eq_1
def C.q0_c7 : ICode := .keep [1, 6, 7, 8, 9, 10, 11, 12, 13, 14] (.seq (.block 3 C.q0_b6) C.q0_c3)
def C.q0_c7_w := @awpE _ _ C.q0_c7.eq_1
def C.q0_c8 : ICode := .keep [1, 6, 7, 8, 9, 10, 11, 12, 13, 14, 113] (.cond (X.s 113) .skip (.exit 2))
def C.q0_c8_w := @awpE _ _ C.q0_c8.eq_1
def C.q0_r17_b : List IOper := [
 X.m 109 14,
 X.o 110 (.fldAddr 3 (X.s 6)),
 X.o 111 (.load1 (X.s 110)),
 X.o 112 (.len (X.s 111)),
 X.o 113 (.bin .leq (X.s 109) (X.s 112))]
def C.q0_r17 : List IOper := C.q0_r17_b
def C.q0_r17_w := @aopsE _ _ C.q0_r17.eq_1
def C.q0_l9 : ICode := .keep [1, 6, 7, 8, 9, 10, 11, 12, 13, 14] (.seq (.seq (.region C.q0_r17) C.q0_c8) C.q0_c7)
def C.q0_l9_w := @awpE _ _ C.q0_l9.eq_1
def C.q0_b10 : ICode := .loop C.q0_l9
def C.q0_b10_w := @awpE _ _ C.q0_b10.eq_1
def C.q0_c11 : ICode := .keep [1, 6, 7, 8, 9, 10, 11, 12, 13, 14] (.block 2 C.q0_b10)
def C.q0_c11_w := @awpE _ _ C.q0_c11.eq_1
def C.q0_r16_b : List IOper := [
 X.o 14 (.move (X.i (-1)))]
def C.q0_r16 : List IOper := C.q0_r16_b
def C.q0_r16_w := @aopsE _ _ C.q0_r16.eq_1
def C.q0_c12 : ICode := .keep [1, 6, 7, 8, 9, 10, 11, 12, 13] (.seq (.region C.q0_r16) C.q0_c11)
def C.q0_c12_w := @awpE _ _ C.q0_c12.eq_1
def C.q0_r15_b : List IOper := [
 X.o 4 (.move (.cst (.bool false)))]
def C.q0_r15 : List IOper := C.q0_r15_b
def C.q0_r15_w := @aopsE _ _ C.q0_r15.eq_1
def C.q0_c13 : ICode := .seq (.region C.q0_r15) .ret
def C.q0_c13_w := @awpE _ _ C.q0_c13.eq_1
def C.q0_c14 : ICode := .keep [1, 6, 7, 8, 9, 10, 11, 12, 13, 108] (.cond (X.s 108) C.q0_c13 .skip)
def C.q0_c14_w := @awpE _ _ C.q0_c14.eq_1
def C.q0_r14_b : List IOper := [
 X.m 77 7,
 X.m 79 9,
 X.o 78 (.call F.q72 [X.s 77]),
 X.o 80 (.call F.q7 [X.s 79]),
 X.o 81 (.call F.q5 [X.s 78, X.s 80]),
 X.o 82 (.un .not (X.s 81)),
 X.m 83 82,
 X.f 83 84 (.move (X.s 7)),
 X.f 83 86 (.move (X.s 9)),
 X.f 83 87 (.nilchk (X.s 86)),
 X.f 83 88 (.fldAddr 2 (X.s 87)),
 X.f 83 89 (.load1 (X.s 88)),
 ⟨some 85, .call F.q73 [X.s 84], some (83, false), [⟨.load1 (X.s 88), 89, some (83, false)⟩], []⟩,
 X.f 83 90 (.eqB true (X.s 85) (X.s 89)),
 X.o 91 (.pick (X.s 83) (.cst (.bool true)) (X.s 90)),
 X.m 92 91,
 X.f 92 93 (.move (X.s 12)),
 X.f 92 95 (.move (X.s 13)),
 X.f 92 94 (.call F.q72 [X.s 93]),
 X.f 92 96 (.call F.q7 [X.s 95]),
 X.f 92 97 (.call F.q5 [X.s 94, X.s 96]),
 X.f 92 98 (.un .not (X.s 97)),
 X.o 99 (.pick (X.s 92) (.cst (.bool true)) (X.s 98)),
 X.m 100 99,
 X.f 100 101 (.move (X.s 12)),
 X.f 100 103 (.move (X.s 13)),
 X.f 100 104 (.nilchk (X.s 103)),
 X.f 100 105 (.fldAddr 2 (X.s 104)),
 X.f 100 106 (.load1 (X.s 105)),
 ⟨some 102, .call F.q73 [X.s 101], some (100, false), [⟨.load1 (X.s 105), 106, some (100, false)⟩], []⟩,
 X.f 100 107 (.eqB true (X.s 102) (X.s 106)),
 X.o 108 (.pick (X.s 100) (.cst (.bool true)) (X.s 107))]
def C.q0_r14 : List IOper := C.q0_r14_b
def C.q0_r14_w := @aopsE _ _ C.q0_r14.eq_1
def C.q0_c15 : ICode := .keep [1, 6, 7, 8, 9, 10, 11, 12, 13] (.seq (.seq (.region C.q0_r14) C.q0_c14) C.q0_c12)
def C.q0_c15_w := @awpE _ _ C.q0_c15.eq_1
def C.q0_r13_b : List IOper := [
 X.o 4 (.move (.cst (.bool false)))]
def C.q0_r13 : List IOper := C.q0_r13_b
def C.q0_r13_w := @aopsE _ _ C.q0_r13.eq_1
def C.q0_c16 : ICode := .seq (.region C.q0_r13) .ret
def C.q0_c16_w := @awpE _ _ C.q0_c16.eq_1
def C.q0_c17 : ICode := .keep [1, 6, 7, 8, 9, 10, 11, 12, 13, 76] (.cond (X.s 76) C.q0_c16 .skip)
def C.q0_c17_w := @awpE _ _ C.q0_c17.eq_1
def C.q0_r12_b : List IOper := [
 X.m 62 12,
 X.o 63 (.eqP 0 false (X.s 62) (.cst (.nilp))),
 X.m 64 63,
 X.f 64 65 (.move (X.s 7)),
 X.f 64 66 (.move (X.s 9)),
 X.f 64 67 (.move (X.s 1)),
 X.f 64 68 (.move (X.s 11)),
 X.f 64 69 (.idxAddr 2 (X.s 67) (X.s 68)),
 X.f 64 70 (.loadN 2 (X.s 69)),
 X.f 64 71 (.fldAddr 3 (X.s 6)),
 X.f 64 72 (.load1 (X.s 71)),
 X.f 64 73 (.len (X.s 72)),
 X.f 64 74 (.call F.q2 [X.s 65, X.s 66, X.s 70, X.s 73]),
 X.f 64 75 (.un .not (X.s 74)),
 X.o 76 (.pick (X.s 64) (.cst (.bool true)) (X.s 75))]
def C.q0_r12 : List IOper := C.q0_r12_b
def C.q0_r12_w := @aopsE _ _ C.q0_r12.eq_1
def C.q0_c18 : ICode := .keep [1, 6, 7, 8, 9, 10, 11, 12, 13] (.seq (.seq (.region C.q0_r12) C.q0_c17) C.q0_c15)
def C.q0_c18_w := @awpE _ _ C.q0_c18.eq_1
def C.q0_r11_b : List IOper := [
 X.m 60 9,
 X.o 61 (.call F.q8 [X.s 60]),
 X.m 13 61]
def C.q0_r11 : List IOper := C.q0_r11_b
def C.q0_r11_w := @aopsE _ _ C.q0_r11.eq_1
def C.q0_c19 : ICode := .keep [1, 6, 7, 8, 9, 10, 11, 12] (.seq (.region C.q0_r11) C.q0_c18)
def C.q0_c19_w := @awpE _ _ C.q0_c19.eq_1
def C.q0_r10_b : List IOper := [
 X.m 58 7,
 X.o 59 (.call F.q74 [X.s 58]),
 X.m 12 59]
def C.q0_r10 : List IOper := C.q0_r10_b
def C.q0_r10_w := @aopsE _ _ C.q0_r10.eq_1
def C.q0_b20 : ICode := .seq (.region C.q0_r10) C.q0_c19
def C.q0_b20_w := @awpE _ _ C.q0_b20.eq_1
def C.q0_c21 : ICode := .keep [1, 6, 7, 8, 9, 10, 11] (.seq (.block 1 C.q0_b20) C.q0_c2)
def C.q0_c21_w := @awpE _ _ C.q0_c21.eq_1
def C.q0_c22 : ICode := .keep [1, 6, 7, 8, 9, 10, 11, 55] (.cond (X.s 55) .skip (.exit 0))
def C.q0_c22_w := @awpE _ _ C.q0_c22.eq_1
def C.q0_r8_b : List IOper := [
 X.m 52 11,
 X.m 53 1,
 X.o 54 (.len (X.s 53)),
 X.o 55 (.bin .lss (X.s 52) (X.s 54))]
def C.q0_r8 : List IOper := C.q0_r8_b
def C.q0_r8_w := @aopsE _ _ C.q0_r8.eq_1
def C.q0_l23 : ICode := .keep [1, 6, 7, 8, 9, 10, 11] (.seq (.seq (.region C.q0_r8) C.q0_c22) C.q0_c21)
def C.q0_l23_w := @awpE _ _ C.q0_l23.eq_1
def C.q0_b24 : ICode := .loop C.q0_l23
def C.q0_b24_w := @awpE _ _ C.q0_b24.eq_1
def C.q0_c25 : ICode := .keep [1, 6, 7, 8, 9, 10, 11] (.block 0 C.q0_b24)
def C.q0_c25_w := @awpE _ _ C.q0_c25.eq_1
def C.q0_r7_b : List IOper := [
 X.o 11 (.move (X.i 0))]
def C.q0_r7 : List IOper := C.q0_r7_b
def C.q0_r7_w := @aopsE _ _ C.q0_r7.eq_1
def C.q0_c26 : ICode := .keep [1, 6, 7, 8, 9, 10] (.seq (.seq (.region C.q0_r7) C.q0_c25) C.q0_c1)
def C.q0_c26_w := @awpE _ _ C.q0_c26.eq_1
def C.q0_r6_b : List IOper := [
 X.m 43 5,
 X.m 44 43,
 X.t 44 45 (.move (X.s 7)),
 X.t 44 46 (.eqP 0 true (X.s 45) (.cst (.nilp))),
 X.o 47 (.pick (X.s 44) (X.s 46) (.cst (.bool false))),
 X.m 48 47,
 X.t 48 49 (.move (X.s 9)),
 X.t 48 50 (.eqP 0 true (X.s 49) (.cst (.nilp))),
 X.o 51 (.pick (X.s 48) (X.s 50) (.cst (.bool false))),
 X.m 4 51]
def C.q0_r6 : List IOper := C.q0_r6_b
def C.q0_r6_w := @aopsE _ _ C.q0_r6.eq_1
def C.q0_c27 : ICode := .seq (.region C.q0_r6) .ret
def C.q0_c27_w := @awpE _ _ C.q0_c27.eq_1
def C.q0_c28 : ICode := .keep [1, 5, 6, 7, 8, 9, 10, 42] (.cond (X.s 42) C.q0_c27 .skip)
def C.q0_c28_w := @awpE _ _ C.q0_c28.eq_1
def C.q0_r5_b : List IOper := [
 X.m 28 5,
 X.o 29 (.un .not (X.s 28)),
 X.m 30 29,
 X.f 30 31 (.move (X.s 7)),
 X.f 30 32 (.eqP 0 false (X.s 31) (.cst (.nilp))),
 X.o 33 (.pick (X.s 30) (.cst (.bool true)) (X.s 32)),
 X.m 34 33,
 X.f 34 35 (.move (X.s 9)),
 X.f 34 36 (.eqP 0 false (X.s 35) (.cst (.nilp))),
 X.o 37 (.pick (X.s 34) (.cst (.bool true)) (X.s 36)),
 X.m 38 37,
 X.f 38 39 (.move (X.s 1)),
 X.f 38 40 (.len (X.s 39)),
 X.f 38 41 (.bin .gtr (X.s 40) (X.i 150)),
 X.o 42 (.pick (X.s 38) (.cst (.bool true)) (X.s 41))]
def C.q0_r5 : List IOper := C.q0_r5_b
def C.q0_r5_w := @aopsE _ _ C.q0_r5.eq_1
def C.q0_c29 : ICode := .keep [1, 5, 6, 7, 8, 9, 10] (.seq (.seq (.region C.q0_r5) C.q0_c28) C.q0_c26)
def C.q0_c29_w := @awpE _ _ C.q0_c29.eq_1
def C.q0_r4_b : List IOper := [
 X.o 24 (.loadN 4 (X.s 6)),
 X.o 25 (.call F.q14 [X.s 24]),
 X.m 23 25,
 X.o 26 (.extract (X.s 23) 0),
 X.o 27 (.extract (X.s 23) 1),
 X.m 9 26,
 X.m 10 27]
def C.q0_r4 : List IOper := C.q0_r4_b
def C.q0_r4_w := @aopsE _ _ C.q0_r4.eq_1
def C.q0_c30 : ICode := .keep [1, 5, 6, 7, 8] (.seq (.region C.q0_r4) C.q0_c29)
def C.q0_c30_w := @awpE _ _ C.q0_c30.eq_1
def C.q0_r3_b : List IOper := [
 X.o 19 (.loadN 4 (X.s 6)),
 X.o 20 (.call F.q81 [X.s 19]),
 X.m 18 20,
 X.o 21 (.extract (X.s 18) 0),
 X.o 22 (.extract (X.s 18) 1),
 X.m 7 21,
 X.m 8 22]
def C.q0_r3 : List IOper := C.q0_r3_b
def C.q0_r3_w := @aopsE _ _ C.q0_r3.eq_1
def C.q0_c31 : ICode := .keep [1, 5, 6] (.seq (.region C.q0_r3) C.q0_c30)
def C.q0_c31_w := @awpE _ _ C.q0_c31.eq_1
def C.q0_r2_b : List IOper := [
 X.m 16 0,
 X.o 17 (.call F.q1 [X.s 16]),
 X.o 6 (.alloc [.nils, .nils, .nils, .nils]),
 X.n (.storeN 4 (X.s 6) (X.s 17))]
def C.q0_r2 : List IOper := C.q0_r2_b
def C.q0_r2_w := @aopsE _ _ C.q0_r2.eq_1
def C.q0_c32 : ICode := .keep [0, 1, 5] (.seq (.region C.q0_r2) C.q0_c31)
def C.q0_c32_w := @awpE _ _ C.q0_c32.eq_1
def C.q0_r1_b : List IOper := [
 X.o 15 (.call F.q6 []),
 X.m 5 15]
def C.q0_r1 : List IOper := C.q0_r1_b
def C.q0_r1_w := @aopsE _ _ C.q0_r1.eq_1
def C.q0_c33 : ICode := .keep [0, 1] (.seq (.region C.q0_r1) C.q0_c32)
def C.q0_c33_w := @awpE _ _ C.q0_c33.eq_1
def C.q0_r0_b : List IOper := [
 X.o 4 (.move (.cst (.bool false)))]
def C.q0_r0 : List IOper := C.q0_r0_b
def C.q0_r0_w := @aopsE _ _ C.q0_r0.eq_1
def C.q0 : IFunc := ⟨2, [.slot 4], .seq (.region C.q0_r0) C.q0_c33⟩
def C.q0_W := And.intro (And.intro (And.intro (And.intro (And.intro @C.q0_r21_w (And.intro @C.q0_c1_w @C.q0_r9_w)) (And.intro @C.q0_c2_w (And.intro @C.q0_r18_w @C.q0_c3_w))) (And.intro (And.intro @C.q0_r20_w (And.intro @C.q0_c4_w @C.q0_c5_w)) (And.intro (And.intro @C.q0_r19_w @C.q0_b6_w) (And.intro @C.q0_c7_w @C.q0_c8_w)))) (And.intro (And.intro (And.intro @C.q0_r17_w (And.intro @C.q0_b10_w @C.q0_c11_w)) (And.intro @C.q0_r16_w (And.intro @C.q0_c12_w @C.q0_r15_w))) (And.intro (And.intro @C.q0_c13_w (And.intro @C.q0_c14_w @C.q0_r14_w)) (And.intro (And.intro @C.q0_c15_w @C.q0_r13_w) (And.intro @C.q0_c16_w @C.q0_c17_w))))) (And.intro (And.intro (And.intro (And.intro @C.q0_r12_w (And.intro @C.q0_c18_w @C.q0_r11_w)) (And.intro @C.q0_c19_w (And.intro @C.q0_r10_w @C.q0_b20_w))) (And.intro (And.intro @C.q0_c21_w (And.intro @C.q0_c22_w @C.q0_r8_w)) (And.intro (And.intro @C.q0_b24_w @C.q0_c25_w) (And.intro @C.q0_r7_w @C.q0_c26_w)))) (And.intro (And.intro (And.intro @C.q0_r6_w (And.intro @C.q0_c27_w @C.q0_c28_w)) (And.intro (And.intro @C.q0_r5_w @C.q0_c29_w) (And.intro @C.q0_r4_w @C.q0_c30_w))) (And.intro (And.intro @C.q0_r3_w (And.intro @C.q0_c31_w @C.q0_r2_w)) (And.intro (And.intro @C.q0_c32_w @C.q0_r1_w) (And.intro @C.q0_c33_w @C.q0_r0_w)))))
def C.q0_B := And.intro (And.intro (And.intro (And.intro @C.q0_r21_b.eq_1 @C.q0_r9_b.eq_1) (And.intro @C.q0_r18_b.eq_1 (And.intro @C.q0_r20_b.eq_1 @C.q0_r19_b.eq_1))) (And.intro (And.intro @C.q0_r17_b.eq_1 (And.intro @C.q0_r16_b.eq_1 @C.q0_r15_b.eq_1)) (And.intro @C.q0_r14_b.eq_1 (And.intro @C.q0_r13_b.eq_1 @C.q0_r12_b.eq_1)))) (And.intro (And.intro (And.intro @C.q0_r11_b.eq_1 @C.q0_r10_b.eq_1) (And.intro @C.q0_r8_b.eq_1 (And.intro @C.q0_r7_b.eq_1 @C.q0_r6_b.eq_1))) (And.intro (And.intro @C.q0_r5_b.eq_1 (And.intro @C.q0_r4_b.eq_1 @C.q0_r3_b.eq_1)) (And.intro @C.q0_r2_b.eq_1 (And.intro @C.q0_r1_b.eq_1 @C.q0_r0_b.eq_1))))

def C.q6_r3_b : List IOper := [
 X.m 20 2,
 X.o 21 (.eqP 0 true (X.s 20) (.cst (.nilp))),
 X.m 22 21,
 X.t 22 23 (.move (X.s 3)),
 X.t 22 24 (.bin .eql (X.s 23) (X.i 0)),
 X.o 25 (.pick (X.s 22) (X.s 24) (.cst (.bool false))),
 X.m 26 25,
 X.t 26 27 (.move (X.s 2)),
 X.t 26 28 (.call F.q76 [X.s 27, X.i 1]),
 X.t 26 29 (.bin .eql (X.s 28) (X.i 0)),
 X.o 30 (.pick (X.s 26) (X.s 29) (.cst (.bool false))),
 X.m 31 30,
 X.t 31 32 (.move (X.s 2)),
 X.t 31 33 (.call F.q72 [X.s 32]),
 X.t 31 34 (.buildSlice 1 2 [.bool false] [(0, 1, .cst (.bool true)), (1, 1, .cst (.bool true))]),
 X.t 31 35 (.call F.q5 [X.s 33, X.s 34]),
 X.o 36 (.pick (X.s 31) (X.s 35) (.cst (.bool false))),
 X.m 0 36]
def C.q6_r3 : List IOper := C.q6_r3_b
def C.q6_r3_w := @aopsE _ _ C.q6_r3.eq_1
def C.q6_c1 : ICode := .keep [2, 3] (.seq (.region C.q6_r3) .ret)
def C.q6_c1_w := @awpE _ _ C.q6_c1.eq_1
def C.q6_r2_b : List IOper := [
 X.o 16 (.loadN 4 (X.s 1)),
 X.o 17 (.call F.q81 [X.s 16]),
 X.m 15 17,
 X.o 18 (.extract (X.s 15) 0),
 X.o 19 (.extract (X.s 15) 1),
 X.m 2 18,
 X.m 3 19]
def C.q6_r2 : List IOper := C.q6_r2_b
def C.q6_r2_w := @aopsE _ _ C.q6_r2.eq_1
def C.q6_c2 : ICode := .keep [1] (.seq (.region C.q6_r2) C.q6_c1)
def C.q6_c2_w := @awpE _ _ C.q6_c2.eq_1
def C.q6_r1_b : List IOper := [
 X.o 4 (.build [.int .u8 0, .nils, .int .u64 0, .int .i64 0, .int .i64 0, .int .i64 0] [(0, 1, .cst (.int .u8 111)), (2, 1, .cst (.int .u64 1))]),
 X.o 5 (.buildSlice 6 1 [.int .u8 0, .nils, .int .u64 0, .int .i64 0, .int .i64 0, .int .i64 0] [(0, 6, X.s 4)]),
 X.o 6 (.build [.int .i64 0, .int .i64 0, .bool false] [(0, 1, X.i (-1))]),
 X.o 7 (.buildSlice 3 1 [.int .i64 0, .int .i64 0, .bool false] [(0, 3, X.s 6)]),
 X.o 8 (.build [.int .i64 0] []),
 X.o 9 (.buildSlice 1 1 [.int .i64 0] [(0, 1, X.s 8)]),
 X.o 10 (.build [.int .i64 0, .int .i64 0, .int .i64 0, .int .u32 0, .nils, .nils] []),
 X.o 11 (.buildSlice 1 1 [.int .i64 0] [(0, 1, X.i 0)]),
 X.o 12 (.build [.int .i64 0, .int .i64 0, .int .i64 0, .int .u32 0, .nils, .nils] [(5, 1, X.s 11)]),
 X.o 13 (.buildSlice 6 2 [.int .i64 0, .int .i64 0, .int .i64 0, .int .u32 0, .nils, .nils] [(0, 6, X.s 10), (6, 6, X.s 12)]),
 X.o 14 (.build [.nils, .nils, .nils, .nils] [(0, 1, X.s 5), (1, 1, X.s 7), (2, 1, X.s 9), (3, 1, X.s 13)]),
 X.o 1 (.alloc [.nils, .nils, .nils, .nils]),
 X.n (.storeN 4 (X.s 1) (X.s 14))]
def C.q6_r1 : List IOper := C.q6_r1_b
def C.q6_r1_w := @aopsE _ _ C.q6_r1.eq_1
def C.q6_c3 : ICode := .keep [] (.seq (.region C.q6_r1) C.q6_c2)
def C.q6_c3_w := @awpE _ _ C.q6_c3.eq_1
def C.q6_r0_b : List IOper := [
 X.o 0 (.move (.cst (.bool false)))]
def C.q6_r0 : List IOper := C.q6_r0_b
def C.q6_r0_w := @aopsE _ _ C.q6_r0.eq_1
def C.q6 : IFunc := ⟨0, [.slot 0], .seq (.region C.q6_r0) C.q6_c3⟩
def C.q6_W := And.intro (And.intro @C.q6_r3_w (And.intro @C.q6_c1_w @C.q6_r2_w)) (And.intro (And.intro @C.q6_c2_w @C.q6_r1_w) (And.intro @C.q6_c3_w @C.q6_r0_w))
def C.q6_B := And.intro (And.intro @C.q6_r3_b.eq_1 @C.q6_r2_b.eq_1) (And.intro @C.q6_r1_b.eq_1 @C.q6_r0_b.eq_1)

def C.q1_r50_b : List IOper := [
 X.o 351 (.loadN 4 (X.s 6)),
 X.n (.storeN 4 (X.s 2) (X.s 351))]
def C.q1_r50 : List IOper := C.q1_r50_b
def C.q1_r50_w := @aopsE _ _ C.q1_r50.eq_1
def C.q1_c1 : ICode := .keep [2, 6] (.seq (.region C.q1_r50) .ret)
def C.q1_c1_w := @awpE _ _ C.q1_c1.eq_1
def C.q1_r38_b : List IOper := [
 X.m 224 14,
 X.o 225 (.bin .add (X.s 224) (X.i 1)),
 X.m 14 225]
def C.q1_r38 : List IOper := C.q1_r38_b
def C.q1_r38_w := @aopsE _ _ C.q1_r38.eq_1
def C.q1_c2 : ICode := .keep [2, 4, 6, 14] (.region C.q1_r38)
def C.q1_c2_w := @awpE _ _ C.q1_c2.eq_1
def C.q1_r49_b : List IOper := [
 X.o 345 (.fldAddr 3 (X.s 6)),
 X.o 346 (.load1 (X.s 345)),
 X.o 347 (.loadN 6 (X.s 16)),
 X.o 348 (.buildSlice 6 1 [.int .i64 0, .int .i64 0, .int .i64 0, .int .u32 0, .nils, .nils] [(0, 6, X.s 347)]),
 X.o 349 (.append 6 80 (X.s 346) (X.s 348)),
 X.o 350 (.fldAddr 3 (X.s 6)),
 X.n (.store1 (X.s 350) (X.s 349))]
def C.q1_r49 : List IOper := C.q1_r49_b
def C.q1_r49_w := @aopsE _ _ C.q1_r49.eq_1
def C.q1_c3 : ICode := .keep [2, 4, 6, 14, 16] (.region C.q1_r49)
def C.q1_c3_w := @awpE _ _ C.q1_c3.eq_1
def C.q1_r48_b : List IOper := [
 X.o 332 (.fldAddr 5 (X.s 16)),
 X.o 333 (.load1 (X.s 332)),
 X.m 334 4,
 X.m 335 15,
 X.o 336 (.bin .add (X.s 335) (X.i 11)),
 X.o 337 (.idxAddr 1 (X.s 334) (X.s 336)),
 X.o 338 (.load1 (X.s 337)),
 X.o 339 (.bin .quo (X.s 338) (X.i 3)),
 X.m 340 14,
 X.o 341 (.bin .rem (X.s 339) (X.s 340)),
 X.o 342 (.buildSlice 1 1 [.int .i64 0] [(0, 1, X.s 341)]),
 X.o 343 (.append 1 8 (X.s 333) (X.s 342)),
 X.o 344 (.fldAddr 5 (X.s 16)),
 X.n (.store1 (X.s 344) (X.s 343))]
def C.q1_r48 : List IOper := C.q1_r48_b
def C.q1_r48_w := @aopsE _ _ C.q1_r48.eq_1
def C.q1_c4 : ICode := .keep [2, 4, 6, 14, 15, 16, 331] (.cond (X.s 331) (.region C.q1_r48) .skip)
def C.q1_c4_w := @awpE _ _ C.q1_c4.eq_1
def C.q1_r47_b : List IOper := [
 X.m 321 14,
 X.o 322 (.bin .gtr (X.s 321) (X.i 1)),
 X.m 323 322,
 X.t 323 324 (.move (X.s 4)),
 X.t 323 325 (.move (X.s 15)),
 X.t 323 326 (.bin .add (X.s 325) (X.i 11)),
 X.t 323 327 (.idxAddr 1 (X.s 324) (X.s 326)),
 X.t 323 328 (.load1 (X.s 327)),
 X.t 323 329 (.bin .rem (X.s 328) (X.i 3)),
 X.t 323 330 (.bin .eql (X.s 329) (X.i 1)),
 X.o 331 (.pick (X.s 323) (X.s 330) (.cst (.bool false)))]
def C.q1_r47 : List IOper := C.q1_r47_b
def C.q1_r47_w := @aopsE _ _ C.q1_r47.eq_1
def C.q1_c5 : ICode := .keep [2, 4, 6, 14, 15, 16] (.seq (.seq (.region C.q1_r47) C.q1_c4) C.q1_c3)
def C.q1_c5_w := @awpE _ _ C.q1_c5.eq_1
def C.q1_r46_b : List IOper := [
 X.o 309 (.fldAddr 5 (X.s 16)),
 X.o 310 (.load1 (X.s 309)),
 X.m 311 4,
 X.m 312 15,
 X.o 313 (.bin .add (X.s 312) (X.i 10)),
 X.o 314 (.idxAddr 1 (X.s 311) (X.s 313)),
 X.o 315 (.load1 (X.s 314)),
 X.m 316 14,
 X.o 317 (.bin .rem (X.s 315) (X.s 316)),
 X.o 318 (.buildSlice 1 1 [.int .i64 0] [(0, 1, X.s 317)]),
 X.o 319 (.append 1 8 (X.s 310) (X.s 318)),
 X.o 320 (.fldAddr 5 (X.s 16)),
 X.n (.store1 (X.s 320) (X.s 319))]
def C.q1_r46 : List IOper := C.q1_r46_b
def C.q1_r46_w := @aopsE _ _ C.q1_r46.eq_1
def C.q1_c6 : ICode := .keep [2, 4, 6, 14, 15, 16, 308] (.cond (X.s 308) (.region C.q1_r46) .skip)
def C.q1_c6_w := @awpE _ _ C.q1_c6.eq_1
def C.q1_r45_b : List IOper := [
 X.m 298 14,
 X.o 299 (.bin .gtr (X.s 298) (X.i 0)),
 X.m 300 299,
 X.t 300 301 (.move (X.s 4)),
 X.t 300 302 (.move (X.s 15)),
 X.t 300 303 (.bin .add (X.s 302) (X.i 9)),
 X.t 300 304 (.idxAddr 1 (X.s 301) (X.s 303)),
 X.t 300 305 (.load1 (X.s 304)),
 X.t 300 306 (.bin .rem (X.s 305) (X.i 2)),
 X.t 300 307 (.bin .eql (X.s 306) (X.i 1)),
 X.o 308 (.pick (X.s 300) (X.s 307) (.cst (.bool false)))]
def C.q1_r45 : List IOper := C.q1_r45_b
def C.q1_r45_w := @aopsE _ _ C.q1_r45.eq_1
def C.q1_c7 : ICode := .keep [2, 4, 6, 14, 15, 16] (.seq (.seq (.region C.q1_r45) C.q1_c6) C.q1_c5)
def C.q1_c7_w := @awpE _ _ C.q1_c7.eq_1
def C.q1_r43_b : List IOper := [
 X.m 271 17,
 X.o 272 (.bin .add (X.s 271) (X.i 1)),
 X.m 17 272]
def C.q1_r43 : List IOper := C.q1_r43_b
def C.q1_r43_w := @aopsE _ _ C.q1_r43.eq_1
def C.q1_c8 : ICode := .keep [2, 4, 6, 14, 15, 16, 17] (.region C.q1_r43)
def C.q1_c8_w := @awpE _ _ C.q1_c8.eq_1
def C.q1_r44_b : List IOper := [
 X.o 273 (.fldAddr 4 (X.s 16)),
 X.o 274 (.load1 (X.s 273)),
 X.m 275 4,
 X.m 276 15,
 X.o 277 (.bin .add (X.s 276) (X.i 5)),
 X.m 278 17,
 X.o 279 (.bin .add (X.s 277) (X.s 278)),
 X.o 280 (.idxAddr 1 (X.s 275) (X.s 279)),
 X.o 281 (.load1 (X.s 280)),
 X.o 282 (.bin .rem (X.s 281) (X.i 7)),
 X.o 283 (.conv .u32 (X.s 282)),
 X.m 284 4,
 X.m 285 15,
 X.o 286 (.bin .add (X.s 285) (X.i 5)),
 X.m 287 17,
 X.o 288 (.bin .add (X.s 286) (X.s 287)),
 X.o 289 (.idxAddr 1 (X.s 284) (X.s 288)),
 X.o 290 (.load1 (X.s 289)),
 X.o 291 (.bin .quo (X.s 290) (X.i 7)),
 X.o 292 (.bin .rem (X.s 291) (X.i 2)),
 X.o 293 (.bin .eql (X.s 292) (X.i 0)),
 X.o 294 (.build [.int .u32 0, .bool false] [(0, 1, X.s 283), (1, 1, X.s 293)]),
 X.o 295 (.buildSlice 2 1 [.int .u32 0, .bool false] [(0, 2, X.s 294)]),
 X.o 296 (.append 2 8 (X.s 274) (X.s 295)),
 X.o 297 (.fldAddr 4 (X.s 16)),
 X.n (.store1 (X.s 297) (X.s 296))]
def C.q1_r44 : List IOper := C.q1_r44_b
def C.q1_r44_w := @aopsE _ _ C.q1_r44.eq_1
def C.q1_b9 : ICode := .region C.q1_r44
def C.q1_b9_w := @awpE _ _ C.q1_b9.eq_1
def C.q1_c10 : ICode := .keep [2, 4, 6, 14, 15, 16, 17] (.seq (.block 12 C.q1_b9) C.q1_c8)
def C.q1_c10_w := @awpE _ _ C.q1_c10.eq_1
def C.q1_c11 : ICode := .keep [2, 4, 6, 14, 15, 16, 17, 270] (.cond (X.s 270) .skip (.exit 11))
def C.q1_c11_w := @awpE _ _ C.q1_c11.eq_1
def C.q1_r42_b : List IOper := [
 X.m 263 17,
 X.m 264 4,
 X.m 265 15,
 X.o 266 (.bin .add (X.s 265) (X.i 4)),
 X.o 267 (.idxAddr 1 (X.s 264) (X.s 266)),
 X.o 268 (.load1 (X.s 267)),
 X.o 269 (.bin .rem (X.s 268) (X.i 5)),
 X.o 270 (.bin .lss (X.s 263) (X.s 269))]
def C.q1_r42 : List IOper := C.q1_r42_b
def C.q1_r42_w := @aopsE _ _ C.q1_r42.eq_1
def C.q1_l12 : ICode := .keep [2, 4, 6, 14, 15, 16, 17] (.seq (.seq (.region C.q1_r42) C.q1_c11) C.q1_c10)
def C.q1_l12_w := @awpE _ _ C.q1_l12.eq_1
def C.q1_b13 : ICode := .loop C.q1_l12
def C.q1_b13_w := @awpE _ _ C.q1_b13.eq_1
def C.q1_c14 : ICode := .keep [2, 4, 6, 14, 15, 16, 17] (.block 11 C.q1_b13)
def C.q1_c14_w := @awpE _ _ C.q1_c14.eq_1
def C.q1_r41_b : List IOper := [
 X.o 17 (.move (X.i 0))]
def C.q1_r41 : List IOper := C.q1_r41_b
def C.q1_r41_w := @aopsE _ _ C.q1_r41.eq_1
def C.q1_c15 : ICode := .keep [2, 4, 6, 14, 15, 16] (.seq (.seq (.region C.q1_r41) C.q1_c14) C.q1_c7)
def C.q1_c15_w := @awpE _ _ C.q1_c15.eq_1
def C.q1_r40_b : List IOper := [
 X.m 229 4,
 X.m 230 15,
 X.o 231 (.idxAddr 1 (X.s 229) (X.s 230)),
 X.o 232 (.load1 (X.s 231)),
 X.o 233 (.fldAddr 0 (X.s 6)),
 X.o 234 (.load1 (X.s 233)),
 X.o 235 (.len (X.s 234)),
 X.o 236 (.bin .rem (X.s 232) (X.s 235)),
 X.m 237 4,
 X.m 238 15,
 X.o 239 (.bin .add (X.s 238) (X.i 1)),
 X.o 240 (.idxAddr 1 (X.s 237) (X.s 239)),
 X.o 241 (.load1 (X.s 240)),
 X.o 242 (.fldAddr 1 (X.s 6)),
 X.o 243 (.load1 (X.s 242)),
 X.o 244 (.len (X.s 243)),
 X.o 245 (.bin .rem (X.s 241) (X.s 244)),
 X.m 246 4,
 X.m 247 15,
 X.o 248 (.bin .add (X.s 247) (X.i 2)),
 X.o 249 (.idxAddr 1 (X.s 246) (X.s 248)),
 X.o 250 (.load1 (X.s 249)),
 X.o 251 (.fldAddr 2 (X.s 6)),
 X.o 252 (.load1 (X.s 251)),
 X.o 253 (.len (X.s 252)),
 X.o 254 (.bin .rem (X.s 250) (X.s 253)),
 X.m 255 4,
 X.m 256 15,
 X.o 257 (.bin .add (X.s 256) (X.i 3)),
 X.o 258 (.idxAddr 1 (X.s 255) (X.s 257)),
 X.o 259 (.load1 (X.s 258)),
 X.o 260 (.bin .rem (X.s 259) (X.i 3)),
 X.o 261 (.conv .u32 (X.s 260)),
 X.o 262 (.build [.int .i64 0, .int .i64 0, .int .i64 0, .int .u32 0, .nils, .nils] [(0, 1, X.s 236), (1, 1, X.s 245), (2, 1, X.s 254), (3, 1, X.s 261)]),
 X.o 16 (.alloc [.int .i64 0, .int .i64 0, .int .i64 0, .int .u32 0, .nils, .nils]),
 X.n (.storeN 6 (X.s 16) (X.s 262))]
def C.q1_r40 : List IOper := C.q1_r40_b
def C.q1_r40_w := @aopsE _ _ C.q1_r40.eq_1
def C.q1_c16 : ICode := .keep [2, 4, 6, 14, 15] (.seq (.region C.q1_r40) C.q1_c15)
def C.q1_c16_w := @awpE _ _ C.q1_c16.eq_1
def C.q1_r39_b : List IOper := [
 X.m 226 14,
 X.o 227 (.bin .mul (X.i 12) (X.s 226)),
 X.o 228 (.bin .add (X.i 60) (X.s 227)),
 X.m 15 228]
def C.q1_r39 : List IOper := C.q1_r39_b
def C.q1_r39_w := @aopsE _ _ C.q1_r39.eq_1
def C.q1_b17 : ICode := .seq (.region C.q1_r39) C.q1_c16
def C.q1_b17_w := @awpE _ _ C.q1_b17.eq_1
def C.q1_c18 : ICode := .keep [2, 4, 6, 14] (.seq (.block 10 C.q1_b17) C.q1_c2)
def C.q1_c18_w := @awpE _ _ C.q1_c18.eq_1
def C.q1_c19 : ICode := .keep [2, 4, 6, 14, 223] (.cond (X.s 223) .skip (.exit 9))
def C.q1_c19_w := @awpE _ _ C.q1_c19.eq_1
def C.q1_r37_b : List IOper := [
 X.m 217 14,
 X.m 218 4,
 X.o 219 (.idxAddr 1 (X.s 218) (X.i 4)),
 X.o 220 (.load1 (X.s 219)),
 X.o 221 (.bin .rem (X.s 220) (X.i 4)),
 X.o 222 (.bin .add (X.i 1) (X.s 221)),
 X.o 223 (.bin .lss (X.s 217) (X.s 222))]
def C.q1_r37 : List IOper := C.q1_r37_b
def C.q1_r37_w := @aopsE _ _ C.q1_r37.eq_1
def C.q1_l20 : ICode := .keep [2, 4, 6, 14] (.seq (.seq (.region C.q1_r37) C.q1_c19) C.q1_c18)
def C.q1_l20_w := @awpE _ _ C.q1_l20.eq_1
def C.q1_b21 : ICode := .loop C.q1_l20
def C.q1_b21_w := @awpE _ _ C.q1_b21.eq_1
def C.q1_c22 : ICode := .keep [2, 4, 6, 14] (.block 9 C.q1_b21)
def C.q1_c22_w := @awpE _ _ C.q1_c22.eq_1
def C.q1_r36_b : List IOper := [
 X.o 14 (.move (X.i 0))]
def C.q1_r36 : List IOper := C.q1_r36_b
def C.q1_r36_w := @aopsE _ _ C.q1_r36.eq_1
def C.q1_c23 : ICode := .keep [2, 4, 6] (.seq (.seq (.region C.q1_r36) C.q1_c22) C.q1_c1)
def C.q1_c23_w := @awpE _ _ C.q1_c23.eq_1
def C.q1_r34_b : List IOper := [
 X.m 203 13,
 X.o 204 (.bin .add (X.s 203) (X.i 1)),
 X.m 13 204]
def C.q1_r34 : List IOper := C.q1_r34_b
def C.q1_r34_w := @aopsE _ _ C.q1_r34.eq_1
def C.q1_c24 : ICode := .keep [2, 4, 6, 13] (.region C.q1_r34)
def C.q1_c24_w := @awpE _ _ C.q1_c24.eq_1
def C.q1_r35_b : List IOper := [
 X.o 205 (.fldAddr 2 (X.s 6)),
 X.o 206 (.load1 (X.s 205)),
 X.m 207 4,
 X.m 208 13,
 X.o 209 (.bin .add (X.i 50) (X.s 208)),
 X.o 210 (.idxAddr 1 (X.s 207) (X.s 209)),
 X.o 211 (.load1 (X.s 210)),
 X.o 212 (.bin .rem (X.s 211) (X.i 4)),
 X.o 213 (.build [.int .i64 0] [(0, 1, X.s 212)]),
 X.o 214 (.buildSlice 1 1 [.int .i64 0] [(0, 1, X.s 213)]),
 X.o 215 (.append 1 8 (X.s 206) (X.s 214)),
 X.o 216 (.fldAddr 2 (X.s 6)),
 X.n (.store1 (X.s 216) (X.s 215))]
def C.q1_r35 : List IOper := C.q1_r35_b
def C.q1_r35_w := @aopsE _ _ C.q1_r35.eq_1
def C.q1_b25 : ICode := .region C.q1_r35
def C.q1_b25_w := @awpE _ _ C.q1_b25.eq_1
def C.q1_c26 : ICode := .keep [2, 4, 6, 13] (.seq (.block 8 C.q1_b25) C.q1_c24)
def C.q1_c26_w := @awpE _ _ C.q1_c26.eq_1
def C.q1_c27 : ICode := .keep [2, 4, 6, 13, 202] (.cond (X.s 202) .skip (.exit 7))
def C.q1_c27_w := @awpE _ _ C.q1_c27.eq_1
def C.q1_r33_b : List IOper := [
 X.m 196 13,
 X.m 197 4,
 X.o 198 (.idxAddr 1 (X.s 197) (X.i 3)),
 X.o 199 (.load1 (X.s 198)),
 X.o 200 (.bin .rem (X.s 199) (X.i 3)),
 X.o 201 (.bin .add (X.i 1) (X.s 200)),
 X.o 202 (.bin .lss (X.s 196) (X.s 201))]
def C.q1_r33 : List IOper := C.q1_r33_b
def C.q1_r33_w := @aopsE _ _ C.q1_r33.eq_1
def C.q1_l28 : ICode := .keep [2, 4, 6, 13] (.seq (.seq (.region C.q1_r33) C.q1_c27) C.q1_c26)
def C.q1_l28_w := @awpE _ _ C.q1_l28.eq_1
def C.q1_b29 : ICode := .loop C.q1_l28
def C.q1_b29_w := @awpE _ _ C.q1_b29.eq_1
def C.q1_c30 : ICode := .keep [2, 4, 6, 13] (.block 7 C.q1_b29)
def C.q1_c30_w := @awpE _ _ C.q1_c30.eq_1
def C.q1_r32_b : List IOper := [
 X.o 13 (.move (X.i 0))]
def C.q1_r32 : List IOper := C.q1_r32_b
def C.q1_r32_w := @aopsE _ _ C.q1_r32.eq_1
def C.q1_c31 : ICode := .keep [2, 4, 6] (.seq (.seq (.region C.q1_r32) C.q1_c30) C.q1_c23)
def C.q1_c31_w := @awpE _ _ C.q1_c31.eq_1
def C.q1_r27_b : List IOper := [
 X.m 153 11,
 X.o 154 (.bin .add (X.s 153) (X.i 1)),
 X.m 11 154]
def C.q1_r27 : List IOper := C.q1_r27_b
def C.q1_r27_w := @aopsE _ _ C.q1_r27.eq_1
def C.q1_c32 : ICode := .keep [2, 4, 6, 11] (.region C.q1_r27)
def C.q1_c32_w := @awpE _ _ C.q1_c32.eq_1
def C.q1_r31_b : List IOper := [
 X.o 190 (.fldAddr 1 (X.s 6)),
 X.o 191 (.load1 (X.s 190)),
 X.o 192 (.loadN 3 (X.s 12)),
 X.o 193 (.buildSlice 3 1 [.int .i64 0, .int .i64 0, .bool false] [(0, 3, X.s 192)]),
 X.o 194 (.append 3 24 (X.s 191) (X.s 193)),
 X.o 195 (.fldAddr 1 (X.s 6)),
 X.n (.store1 (X.s 195) (X.s 194))]
def C.q1_r31 : List IOper := C.q1_r31_b
def C.q1_r31_w := @aopsE _ _ C.q1_r31.eq_1
def C.q1_c33 : ICode := .keep [2, 4, 6, 11, 12] (.region C.q1_r31)
def C.q1_c33_w := @awpE _ _ C.q1_c33.eq_1
def C.q1_r30_b : List IOper := [
 X.m 181 4,
 X.m 182 11,
 X.o 183 (.bin .add (X.i 44) (X.s 182)),
 X.o 184 (.idxAddr 1 (X.s 181) (X.s 183)),
 X.o 185 (.load1 (X.s 184)),
 X.o 186 (.bin .quo (X.s 185) (X.i 3)),
 X.m 187 11,
 X.o 188 (.bin .rem (X.s 186) (X.s 187)),
 X.o 189 (.fldAddr 0 (X.s 12)),
 X.n (.store1 (X.s 189) (X.s 188))]
def C.q1_r30 : List IOper := C.q1_r30_b
def C.q1_r30_w := @aopsE _ _ C.q1_r30.eq_1
def C.q1_c34 : ICode := .keep [2, 4, 6, 11, 12, 180] (.cond (X.s 180) (.region C.q1_r30) .skip)
def C.q1_c34_w := @awpE _ _ C.q1_c34.eq_1
def C.q1_r29_b : List IOper := [
 X.m 170 11,
 X.o 171 (.bin .gtr (X.s 170) (X.i 0)),
 X.m 172 171,
 X.t 172 173 (.move (X.s 4)),
 X.t 172 174 (.move (X.s 11)),
 X.t 172 175 (.bin .add (X.i 44) (X.s 174)),
 X.t 172 176 (.idxAddr 1 (X.s 173) (X.s 175)),
 X.t 172 177 (.load1 (X.s 176)),
 X.t 172 178 (.bin .rem (X.s 177) (X.i 3)),
 X.t 172 179 (.bin .gtr (X.s 178) (X.i 0)),
 X.o 180 (.pick (X.s 172) (X.s 179) (.cst (.bool false)))]
def C.q1_r29 : List IOper := C.q1_r29_b
def C.q1_r29_w := @aopsE _ _ C.q1_r29.eq_1
def C.q1_c35 : ICode := .keep [2, 4, 6, 11, 12] (.seq (.seq (.region C.q1_r29) C.q1_c34) C.q1_c33)
def C.q1_c35_w := @awpE _ _ C.q1_c35.eq_1
def C.q1_r28_b : List IOper := [
 X.m 155 4,
 X.m 156 11,
 X.o 157 (.bin .add (X.i 40) (X.s 156)),
 X.o 158 (.idxAddr 1 (X.s 155) (X.s 157)),
 X.o 159 (.load1 (X.s 158)),
 X.o 160 (.bin .rem (X.s 159) (X.i 4)),
 X.m 161 4,
 X.m 162 11,
 X.o 163 (.bin .add (X.i 40) (X.s 162)),
 X.o 164 (.idxAddr 1 (X.s 161) (X.s 163)),
 X.o 165 (.load1 (X.s 164)),
 X.o 166 (.bin .quo (X.s 165) (X.i 4)),
 X.o 167 (.bin .rem (X.s 166) (X.i 2)),
 X.o 168 (.bin .eql (X.s 167) (X.i 1)),
 X.o 169 (.build [.int .i64 0, .int .i64 0, .bool false] [(0, 1, X.i (-1)), (1, 1, X.s 160), (2, 1, X.s 168)]),
 X.o 12 (.alloc [.int .i64 0, .int .i64 0, .bool false]),
 X.n (.storeN 3 (X.s 12) (X.s 169))]
def C.q1_r28 : List IOper := C.q1_r28_b
def C.q1_r28_w := @aopsE _ _ C.q1_r28.eq_1
def C.q1_b36 : ICode := .seq (.region C.q1_r28) C.q1_c35
def C.q1_b36_w := @awpE _ _ C.q1_b36.eq_1
def C.q1_c37 : ICode := .keep [2, 4, 6, 11] (.seq (.block 6 C.q1_b36) C.q1_c32)
def C.q1_c37_w := @awpE _ _ C.q1_c37.eq_1
def C.q1_c38 : ICode := .keep [2, 4, 6, 11, 152] (.cond (X.s 152) .skip (.exit 5))
def C.q1_c38_w := @awpE _ _ C.q1_c38.eq_1
def C.q1_r26_b : List IOper := [
 X.m 146 11,
 X.m 147 4,
 X.o 148 (.idxAddr 1 (X.s 147) (X.i 2)),
 X.o 149 (.load1 (X.s 148)),
 X.o 150 (.bin .rem (X.s 149) (X.i 4)),
 X.o 151 (.bin .add (X.i 1) (X.s 150)),
 X.o 152 (.bin .lss (X.s 146) (X.s 151))]
def C.q1_r26 : List IOper := C.q1_r26_b
def C.q1_r26_w := @aopsE _ _ C.q1_r26.eq_1
def C.q1_l39 : ICode := .keep [2, 4, 6, 11] (.seq (.seq (.region C.q1_r26) C.q1_c38) C.q1_c37)
def C.q1_l39_w := @awpE _ _ C.q1_l39.eq_1
def C.q1_b40 : ICode := .loop C.q1_l39
def C.q1_b40_w := @awpE _ _ C.q1_b40.eq_1
def C.q1_c41 : ICode := .keep [2, 4, 6, 11] (.block 5 C.q1_b40)
def C.q1_c41_w := @awpE _ _ C.q1_c41.eq_1
def C.q1_r25_b : List IOper := [
 X.o 11 (.move (X.i 0))]
def C.q1_r25 : List IOper := C.q1_r25_b
def C.q1_r25_w := @aopsE _ _ C.q1_r25.eq_1
def C.q1_c42 : ICode := .keep [2, 4, 6] (.seq (.seq (.region C.q1_r25) C.q1_c41) C.q1_c31)
def C.q1_c42_w := @awpE _ _ C.q1_c42.eq_1
def C.q1_r12_b : List IOper := [
 X.m 62 8,
 X.o 63 (.bin .add (X.s 62) (X.i 1)),
 X.m 8 63]
def C.q1_r12 : List IOper := C.q1_r12_b
def C.q1_r12_w := @aopsE _ _ C.q1_r12.eq_1
def C.q1_c43 : ICode := .keep [2, 3, 4, 6, 7, 8] (.region C.q1_r12)
def C.q1_c43_w := @awpE _ _ C.q1_c43.eq_1
def C.q1_r24_b : List IOper := [
 X.o 140 (.fldAddr 0 (X.s 6)),
 X.o 141 (.load1 (X.s 140)),
 X.o 142 (.loadN 6 (X.s 10)),
 X.o 143 (.buildSlice 6 1 [.int .u8 0, .nils, .int .u64 0, .int .i64 0, .int .i64 0, .int .i64 0] [(0, 6, X.s 142)]),
 X.o 144 (.append 6 64 (X.s 141) (X.s 143)),
 X.o 145 (.fldAddr 0 (X.s 6)),
 X.n (.store1 (X.s 145) (X.s 144))]
def C.q1_r24 : List IOper := C.q1_r24_b
def C.q1_r24_w := @aopsE _ _ C.q1_r24.eq_1
def C.q1_c44 : ICode := .keep [2, 3, 4, 6, 7, 8, 10] (.region C.q1_r24)
def C.q1_c44_w := @awpE _ _ C.q1_c44.eq_1
def C.q1_r19_b : List IOper := [
 X.m 106 4,
 X.m 107 9,
 X.o 108 (.bin .add (X.s 107) (X.i 2)),
 X.o 109 (.idxAddr 1 (X.s 106) (X.s 108)),
 X.o 110 (.load1 (X.s 109)),
 X.o 111 (.bin .quo (X.s 110) (X.i 32)),
 X.o 112 (.bin .rem (X.s 111) (X.i 4)),
 X.o 113 (.fldAddr 5 (X.s 10)),
 X.n (.store1 (X.s 113) (X.s 112))]
def C.q1_r19 : List IOper := C.q1_r19_b
def C.q1_r19_w := @aopsE _ _ C.q1_r19.eq_1
def C.q1_c45 : ICode := .keep [2, 3, 4, 6, 7, 8, 9, 10] (.region C.q1_r19)
def C.q1_c45_w := @awpE _ _ C.q1_c45.eq_1
def C.q1_r18_b : List IOper := [
 X.m 97 4,
 X.m 98 9,
 X.o 99 (.bin .add (X.s 98) (X.i 2)),
 X.o 100 (.idxAddr 1 (X.s 97) (X.s 99)),
 X.o 101 (.load1 (X.s 100)),
 X.o 102 (.bin .quo (X.s 101) (X.i 8)),
 X.o 103 (.bin .rem (X.s 102) (X.i 4)),
 X.o 104 (.bin .add (X.i 1) (X.s 103)),
 X.o 105 (.fldAddr 4 (X.s 10)),
 X.n (.store1 (X.s 105) (X.s 104))]
def C.q1_r18 : List IOper := C.q1_r18_b
def C.q1_r18_w := @aopsE _ _ C.q1_r18.eq_1
def C.q1_c46 : ICode := .keep [2, 3, 4, 6, 7, 8, 9, 10] (.seq (.region C.q1_r18) C.q1_c45)
def C.q1_c46_w := @awpE _ _ C.q1_c46.eq_1
def C.q1_r17_b : List IOper := [
 X.m 89 4,
 X.m 90 9,
 X.o 91 (.bin .add (X.s 90) (X.i 2)),
 X.o 92 (.idxAddr 1 (X.s 89) (X.s 91)),
 X.o 93 (.load1 (X.s 92)),
 X.o 94 (.bin .rem (X.s 93) (X.i 8)),
 X.o 95 (.bin .add (X.i 1) (X.s 94)),
 X.o 96 (.fldAddr 3 (X.s 10)),
 X.n (.store1 (X.s 96) (X.s 95))]
def C.q1_r17 : List IOper := C.q1_r17_b
def C.q1_r17_w := @aopsE _ _ C.q1_r17.eq_1
def C.q1_r21_b : List IOper := [
 X.m 116 4,
 X.m 117 9,
 X.o 118 (.bin .add (X.s 117) (X.i 2)),
 X.o 119 (.idxAddr 1 (X.s 116) (X.s 118)),
 X.o 120 (.load1 (X.s 119)),
 X.o 121 (.bin .rem (X.s 120) (X.i 8)),
 X.o 122 (.bin .add (X.i 1) (X.s 121)),
 X.o 123 (.fldAddr 4 (X.s 10)),
 X.n (.store1 (X.s 123) (X.s 122))]
def C.q1_r21 : List IOper := C.q1_r21_b
def C.q1_r21_w := @aopsE _ _ C.q1_r21.eq_1
def C.q1_r23_b : List IOper := [
 X.o 126 (.fldAddr 1 (X.s 10)),
 X.o 127 (.load1 (X.s 126)),
 X.m 128 4,
 X.m 129 9,
 X.o 130 (.bin .add (X.s 129) (X.i 2)),
 X.o 131 (.idxAddr 1 (X.s 128) (X.s 130)),
 X.o 132 (.load1 (X.s 131)),
 X.o 133 (.fldAddr 0 (X.s 6)),
 X.o 134 (.load1 (X.s 133)),
 X.o 135 (.len (X.s 134)),
 X.o 136 (.bin .rem (X.s 132) (X.s 135)),
 X.o 137 (.buildSlice 1 1 [.int .i64 0] [(0, 1, X.s 136)]),
 X.o 138 (.append 1 8 (X.s 127) (X.s 137)),
 X.o 139 (.fldAddr 1 (X.s 10)),
 X.n (.store1 (X.s 139) (X.s 138))]
def C.q1_r23 : List IOper := C.q1_r23_b
def C.q1_r23_w := @aopsE _ _ C.q1_r23.eq_1
def C.q1_c47 : ICode := .keep [2, 3, 4, 6, 7, 8, 9, 10, 124] (.cond (X.s 124) (.region C.q1_r23) .skip)
def C.q1_c47_w := @awpE _ _ C.q1_c47.eq_1
def C.q1_r22_b : List IOper := [
 X.o 125 (.bin .eql (X.s 86) (.cst (.int .u8 109))),
 X.m 124 125]
def C.q1_r22 : List IOper := C.q1_r22_b
def C.q1_r22_w := @aopsE _ _ C.q1_r22.eq_1
def C.q1_c48 : ICode := .seq (.region C.q1_r22) C.q1_c47
def C.q1_c48_w := @awpE _ _ C.q1_c48.eq_1
def C.q1_c49 : ICode := .keep [2, 3, 4, 6, 7, 8, 9, 10, 86, 114] (.cond (X.s 114) (.region C.q1_r21) C.q1_c48)
def C.q1_c49_w := @awpE _ _ C.q1_c49.eq_1
def C.q1_r20_b : List IOper := [
 X.o 115 (.bin .eql (X.s 86) (.cst (.int .u8 100))),
 X.m 114 115]
def C.q1_r20 : List IOper := C.q1_r20_b
def C.q1_r20_w := @aopsE _ _ C.q1_r20.eq_1
def C.q1_c50 : ICode := .seq (.region C.q1_r17) C.q1_c46
def C.q1_c50_w := @awpE _ _ C.q1_c50.eq_1
def C.q1_c51 : ICode := .seq (.region C.q1_r20) C.q1_c49
def C.q1_c51_w := @awpE _ _ C.q1_c51.eq_1
def C.q1_c52 : ICode := .keep [2, 3, 4, 6, 7, 8, 9, 10, 86, 87] (.cond (X.s 87) C.q1_c50 C.q1_c51)
def C.q1_c52_w := @awpE _ _ C.q1_c52.eq_1
def C.q1_r16_b : List IOper := [
 X.o 88 (.bin .eql (X.s 86) (.cst (.int .u8 112))),
 X.m 87 88]
def C.q1_r16 : List IOper := C.q1_r16_b
def C.q1_r16_w := @aopsE _ _ C.q1_r16.eq_1
def C.q1_b53 : ICode := .seq (.region C.q1_r16) C.q1_c52
def C.q1_b53_w := @awpE _ _ C.q1_b53.eq_1
def C.q1_c54 : ICode := .keep [2, 3, 4, 6, 7, 8, 9, 10, 86] (.block 4 C.q1_b53)
def C.q1_c54_w := @awpE _ _ C.q1_c54.eq_1
def C.q1_r15_b : List IOper := [
 X.o 85 (.fldAddr 0 (X.s 10)),
 X.o 86 (.load1 (X.s 85))]
def C.q1_r15 : List IOper := C.q1_r15_b
def C.q1_r15_w := @aopsE _ _ C.q1_r15.eq_1
def C.q1_c55 : ICode := .keep [2, 3, 4, 6, 7, 8, 9, 10] (.seq (.seq (.region C.q1_r15) C.q1_c54) C.q1_c44)
def C.q1_c55_w := @awpE _ _ C.q1_c55.eq_1
def C.q1_r14_b : List IOper := [
 X.m 67 7,
 X.m 68 4,
 X.m 69 9,
 X.o 70 (.idxAddr 1 (X.s 68) (X.s 69)),
 X.o 71 (.load1 (X.s 70)),
 X.o 72 (.bin .rem (X.s 71) (X.i 5)),
 X.o 73 (.strIdx (X.s 67) (X.s 72)),
 X.m 74 4,
 X.m 75 9,
 X.o 76 (.bin .add (X.s 75) (X.i 1)),
 X.o 77 (.idxAddr 1 (X.s 74) (X.s 76)),
 X.o 78 (.load1 (X.s 77)),
 X.o 79 (.fldAddr 0 (X.s 6)),
 X.o 80 (.load1 (X.s 79)),
 X.o 81 (.len (X.s 80)),
 X.o 82 (.bin .rem (X.s 78) (X.s 81)),
 X.o 83 (.buildSlice 1 1 [.int .i64 0] [(0, 1, X.s 82)]),
 X.o 84 (.build [.int .u8 0, .nils, .int .u64 0, .int .i64 0, .int .i64 0, .int .i64 0] [(0, 1, X.s 73), (1, 1, X.s 83)]),
 X.o 10 (.alloc [.int .u8 0, .nils, .int .u64 0, .int .i64 0, .int .i64 0, .int .i64 0]),
 X.n (.storeN 6 (X.s 10) (X.s 84))]
def C.q1_r14 : List IOper := C.q1_r14_b
def C.q1_r14_w := @aopsE _ _ C.q1_r14.eq_1
def C.q1_c56 : ICode := .keep [2, 3, 4, 6, 7, 8, 9] (.seq (.region C.q1_r14) C.q1_c55)
def C.q1_c56_w := @awpE _ _ C.q1_c56.eq_1
def C.q1_r13_b : List IOper := [
 X.m 64 8,
 X.o 65 (.bin .mul (X.i 3) (X.s 64)),
 X.o 66 (.bin .add (X.i 10) (X.s 65)),
 X.m 9 66]
def C.q1_r13 : List IOper := C.q1_r13_b
def C.q1_r13_w := @aopsE _ _ C.q1_r13.eq_1
def C.q1_b57 : ICode := .seq (.region C.q1_r13) C.q1_c56
def C.q1_b57_w := @awpE _ _ C.q1_b57.eq_1
def C.q1_c58 : ICode := .keep [2, 3, 4, 6, 7, 8] (.seq (.block 3 C.q1_b57) C.q1_c43)
def C.q1_c58_w := @awpE _ _ C.q1_c58.eq_1
def C.q1_c59 : ICode := .keep [2, 3, 4, 6, 7, 8, 61] (.cond (X.s 61) .skip (.exit 2))
def C.q1_c59_w := @awpE _ _ C.q1_c59.eq_1
def C.q1_r11_b : List IOper := [
 X.m 55 8,
 X.m 56 4,
 X.m 57 3,
 X.o 58 (.idxAddr 1 (X.s 56) (X.s 57)),
 X.o 59 (.load1 (X.s 58)),
 X.o 60 (.bin .rem (X.s 59) (X.i 9)),
 X.o 61 (.bin .lss (X.s 55) (X.s 60))]
def C.q1_r11 : List IOper := C.q1_r11_b
def C.q1_r11_w := @aopsE _ _ C.q1_r11.eq_1
def C.q1_l60 : ICode := .keep [2, 3, 4, 6, 7, 8] (.seq (.seq (.region C.q1_r11) C.q1_c59) C.q1_c58)
def C.q1_l60_w := @awpE _ _ C.q1_l60.eq_1
def C.q1_b61 : ICode := .loop C.q1_l60
def C.q1_b61_w := @awpE _ _ C.q1_b61.eq_1
def C.q1_c62 : ICode := .keep [2, 3, 4, 6, 7, 8] (.block 2 C.q1_b61)
def C.q1_c62_w := @awpE _ _ C.q1_c62.eq_1
def C.q1_r10_b : List IOper := [
 X.o 8 (.move (X.i 0))]
def C.q1_r10 : List IOper := C.q1_r10_b
def C.q1_r10_w := @aopsE _ _ C.q1_r10.eq_1
def C.q1_c63 : ICode := .keep [2, 3, 4, 6, 7] (.seq (.seq (.region C.q1_r10) C.q1_c62) C.q1_c42)
def C.q1_c63_w := @awpE _ _ C.q1_c63.eq_1
def C.q1_r9_b : List IOper := [
 X.o 7 (.move (.cst (.str [112, 100, 103, 109, 103])))]
def C.q1_r9 : List IOper := C.q1_r9_b
def C.q1_r9_w := @aopsE _ _ C.q1_r9.eq_1
def C.q1_c64 : ICode := .keep [2, 3, 4, 6] (.seq (.region C.q1_r9) C.q1_c63)
def C.q1_c64_w := @awpE _ _ C.q1_c64.eq_1
def C.q1_r8_b : List IOper := [
 X.o 3 (.move (X.i 1))]
def C.q1_r8 : List IOper := C.q1_r8_b
def C.q1_r8_w := @aopsE _ _ C.q1_r8.eq_1
def C.q1_c65 : ICode := .keep [2, 4, 6] (.seq (.region C.q1_r8) C.q1_c64)
def C.q1_c65_w := @awpE _ _ C.q1_c65.eq_1
def C.q1_r7_b : List IOper := [
 X.m 47 4,
 X.o 48 (.idxAddr 1 (X.s 47) (X.i 0)),
 X.o 49 (.load1 (X.s 48)),
 X.o 50 (.bin .add (X.i 1) (X.s 49)),
 X.o 51 (.conv .u64 (X.s 50)),
 X.o 52 (.build [.int .u8 0, .nils, .int .u64 0, .int .i64 0, .int .i64 0, .int .i64 0] [(0, 1, .cst (.int .u8 111)), (2, 1, X.s 51)]),
 X.o 53 (.buildSlice 6 1 [.int .u8 0, .nils, .int .u64 0, .int .i64 0, .int .i64 0, .int .i64 0] [(0, 6, X.s 52)]),
 X.o 54 (.build [.nils, .nils, .nils, .nils] [(0, 1, X.s 53)]),
 X.o 6 (.alloc [.nils, .nils, .nils, .nils]),
 X.n (.storeN 4 (X.s 6) (X.s 54))]
def C.q1_r7 : List IOper := C.q1_r7_b
def C.q1_r7_w := @aopsE _ _ C.q1_r7.eq_1
def C.q1_c66 : ICode := .keep [2, 4] (.seq (.region C.q1_r7) C.q1_c65)
def C.q1_c66_w := @awpE _ _ C.q1_c66.eq_1
def C.q1_r5_b : List IOper := [
 X.m 28 5,
 X.o 29 (.bin .add (X.s 28) (X.i 1)),
 X.m 5 29]
def C.q1_r5 : List IOper := C.q1_r5_b
def C.q1_r5_w := @aopsE _ _ C.q1_r5.eq_1
def C.q1_c67 : ICode := .keep [0, 2, 4, 5] (.region C.q1_r5)
def C.q1_c67_w := @awpE _ _ C.q1_c67.eq_1
def C.q1_r6_b : List IOper := [
 X.m 30 4,
 X.m 31 5,
 X.m 32 0,
 X.m 33 5,
 X.m 34 0,
 X.o 35 (.len (X.s 34)),
 X.o 36 (.bin .rem (X.s 33) (X.s 35)),
 X.o 37 (.idxAddr 1 (X.s 32) (X.s 36)),
 X.o 38 (.load1 (X.s 37)),
 X.m 39 5,
 X.m 40 0,
 X.o 41 (.len (X.s 40)),
 X.o 42 (.bin .quo (X.s 39) (X.s 41)),
 X.o 43 (.bin .add (X.i 1) (X.s 42)),
 X.o 44 (.bin .quo (X.s 38) (X.s 43)),
 X.o 45 (.call F.q4 [X.s 44, X.i 1000000]),
 X.o 46 (.idxAddr 1 (X.s 30) (X.s 31)),
 X.n (.store1 (X.s 46) (X.s 45))]
def C.q1_r6 : List IOper := C.q1_r6_b
def C.q1_r6_w := @aopsE _ _ C.q1_r6.eq_1
def C.q1_b68 : ICode := .region C.q1_r6
def C.q1_b68_w := @awpE _ _ C.q1_b68.eq_1
def C.q1_c69 : ICode := .keep [0, 2, 4, 5] (.seq (.block 1 C.q1_b68) C.q1_c67)
def C.q1_c69_w := @awpE _ _ C.q1_c69.eq_1
def C.q1_c70 : ICode := .keep [0, 2, 4, 5, 27] (.cond (X.s 27) .skip (.exit 0))
def C.q1_c70_w := @awpE _ _ C.q1_c70.eq_1
def C.q1_r4_b : List IOper := [
 X.m 19 5,
 X.m 20 4,
 X.o 21 (.len (X.s 20)),
 X.o 22 (.bin .lss (X.s 19) (X.s 21)),
 X.m 23 22,
 X.t 23 24 (.move (X.s 0)),
 X.t 23 25 (.len (X.s 24)),
 X.t 23 26 (.bin .gtr (X.s 25) (X.i 0)),
 X.o 27 (.pick (X.s 23) (X.s 26) (.cst (.bool false)))]
def C.q1_r4 : List IOper := C.q1_r4_b
def C.q1_r4_w := @aopsE _ _ C.q1_r4.eq_1
def C.q1_l71 : ICode := .keep [0, 2, 4, 5] (.seq (.seq (.region C.q1_r4) C.q1_c70) C.q1_c69)
def C.q1_l71_w := @awpE _ _ C.q1_l71.eq_1
def C.q1_b72 : ICode := .loop C.q1_l71
def C.q1_b72_w := @awpE _ _ C.q1_b72.eq_1
def C.q1_c73 : ICode := .keep [0, 2, 4, 5] (.block 0 C.q1_b72)
def C.q1_c73_w := @awpE _ _ C.q1_c73.eq_1
def C.q1_r3_b : List IOper := [
 X.o 5 (.move (X.i 0))]
def C.q1_r3 : List IOper := C.q1_r3_b
def C.q1_r3_w := @aopsE _ _ C.q1_r3.eq_1
def C.q1_c74 : ICode := .keep [0, 2, 4] (.seq (.seq (.region C.q1_r3) C.q1_c73) C.q1_c66)
def C.q1_c74_w := @awpE _ _ C.q1_c74.eq_1
def C.q1_r2_b : List IOper := [
 X.o 18 (.makeSlice 1 8 [.int .i64 0] (X.i 120) (X.i 120)),
 X.m 4 18]
def C.q1_r2 : List IOper := C.q1_r2_b
def C.q1_r2_w := @aopsE _ _ C.q1_r2.eq_1
def C.q1_c75 : ICode := .keep [0, 2] (.seq (.region C.q1_r2) C.q1_c74)
def C.q1_c75_w := @awpE _ _ C.q1_c75.eq_1
def C.q1_r1_b : List IOper := [
 X.o 3 (.move (X.i 0))]
def C.q1_r1 : List IOper := C.q1_r1_b
def C.q1_r1_w := @aopsE _ _ C.q1_r1.eq_1
def C.q1_c76 : ICode := .keep [0, 2] (.seq (.region C.q1_r1) C.q1_c75)
def C.q1_c76_w := @awpE _ _ C.q1_c76.eq_1
def C.q1_r0_b : List IOper := [
 X.o 2 (.alloc [.nils, .nils, .nils, .nils])]
def C.q1_r0 : List IOper := C.q1_r0_b
def C.q1_r0_w := @aopsE _ _ C.q1_r0.eq_1
def C.q1 : IFunc := ⟨1, [.cellN 2 4], .seq (.region C.q1_r0) C.q1_c76⟩
def C.q1_W := And.intro (And.intro (And.intro (And.intro (And.intro (And.intro @C.q1_r50_w (And.intro @C.q1_c1_w @C.q1_r38_w)) (And.intro (And.intro @C.q1_c2_w @C.q1_r49_w) (And.intro @C.q1_c3_w @C.q1_r48_w))) (And.intro (And.intro (And.intro @C.q1_c4_w @C.q1_r47_w) (And.intro @C.q1_c5_w @C.q1_r46_w)) (And.intro (And.intro @C.q1_c6_w @C.q1_r45_w) (And.intro @C.q1_c7_w @C.q1_r43_w)))) (And.intro (And.intro (And.intro @C.q1_c8_w (And.intro @C.q1_r44_w @C.q1_b9_w)) (And.intro (And.intro @C.q1_c10_w @C.q1_c11_w) (And.intro @C.q1_r42_w @C.q1_b13_w))) (And.intro (And.intro (And.intro @C.q1_c14_w @C.q1_r41_w) (And.intro @C.q1_c15_w @C.q1_r40_w)) (And.intro (And.intro @C.q1_c16_w @C.q1_r39_w) (And.intro @C.q1_b17_w @C.q1_c18_w))))) (And.intro (And.intro (And.intro (And.intro @C.q1_c19_w (And.intro @C.q1_r37_w @C.q1_b21_w)) (And.intro (And.intro @C.q1_c22_w @C.q1_r36_w) (And.intro @C.q1_c23_w @C.q1_r34_w))) (And.intro (And.intro (And.intro @C.q1_c24_w @C.q1_r35_w) (And.intro @C.q1_b25_w @C.q1_c26_w)) (And.intro (And.intro @C.q1_c27_w @C.q1_r33_w) (And.intro @C.q1_b29_w @C.q1_c30_w)))) (And.intro (And.intro (And.intro @C.q1_r32_w (And.intro @C.q1_c31_w @C.q1_r27_w)) (And.intro (And.intro @C.q1_c32_w @C.q1_r31_w) (And.intro @C.q1_c33_w @C.q1_r30_w))) (And.intro (And.intro (And.intro @C.q1_c34_w @C.q1_r29_w) (And.intro @C.q1_c35_w @C.q1_r28_w)) (And.intro (And.intro @C.q1_b36_w @C.q1_c37_w) (And.intro @C.q1_c38_w @C.q1_r26_w)))))) (And.intro (And.intro (And.intro (And.intro (And.intro @C.q1_b40_w (And.intro @C.q1_c41_w @C.q1_r25_w)) (And.intro (And.intro @C.q1_c42_w @C.q1_r12_w) (And.intro @C.q1_c43_w @C.q1_r24_w))) (And.intro (And.intro (And.intro @C.q1_c44_w @C.q1_r19_w) (And.intro @C.q1_c45_w @C.q1_r18_w)) (And.intro (And.intro @C.q1_c46_w @C.q1_r17_w) (And.intro @C.q1_r21_w @C.q1_r23_w)))) (And.intro (And.intro (And.intro @C.q1_c47_w (And.intro @C.q1_r22_w @C.q1_c48_w)) (And.intro (And.intro @C.q1_c49_w @C.q1_r20_w) (And.intro @C.q1_c50_w @C.q1_c51_w))) (And.intro (And.intro (And.intro @C.q1_c52_w @C.q1_r16_w) (And.intro @C.q1_b53_w @C.q1_c54_w)) (And.intro (And.intro @C.q1_r15_w @C.q1_c55_w) (And.intro @C.q1_r14_w @C.q1_c56_w))))) (And.intro (And.intro (And.intro (And.intro @C.q1_r13_w (And.intro @C.q1_b57_w @C.q1_c58_w)) (And.intro (And.intro @C.q1_c59_w @C.q1_r11_w) (And.intro @C.q1_b61_w @C.q1_c62_w))) (And.intro (And.intro (And.intro @C.q1_r10_w @C.q1_c63_w) (And.intro @C.q1_r9_w @C.q1_c64_w)) (And.intro (And.intro @C.q1_r8_w @C.q1_c65_w) (And.intro @C.q1_r7_w @C.q1_c66_w)))) (And.intro (And.intro (And.intro (And.intro @C.q1_r5_w @C.q1_c67_w) (And.intro @C.q1_r6_w @C.q1_b68_w)) (And.intro (And.intro @C.q1_c69_w @C.q1_c70_w) (And.intro @C.q1_r4_w @C.q1_b72_w))) (And.intro (And.intro (And.intro @C.q1_c73_w @C.q1_r3_w) (And.intro @C.q1_c74_w @C.q1_r2_w)) (And.intro (And.intro @C.q1_c75_w @C.q1_r1_w) (And.intro @C.q1_c76_w @C.q1_r0_w))))))
def C.q1_B := And.intro (And.intro (And.intro (And.intro (And.intro @C.q1_r50_b.eq_1 (And.intro @C.q1_r38_b.eq_1 @C.q1_r49_b.eq_1)) (And.intro @C.q1_r48_b.eq_1 (And.intro @C.q1_r47_b.eq_1 @C.q1_r46_b.eq_1))) (And.intro (And.intro @C.q1_r45_b.eq_1 (And.intro @C.q1_r43_b.eq_1 @C.q1_r44_b.eq_1)) (And.intro @C.q1_r42_b.eq_1 (And.intro @C.q1_r41_b.eq_1 @C.q1_r40_b.eq_1)))) (And.intro (And.intro (And.intro @C.q1_r39_b.eq_1 (And.intro @C.q1_r37_b.eq_1 @C.q1_r36_b.eq_1)) (And.intro @C.q1_r34_b.eq_1 (And.intro @C.q1_r35_b.eq_1 @C.q1_r33_b.eq_1))) (And.intro (And.intro @C.q1_r32_b.eq_1 (And.intro @C.q1_r27_b.eq_1 @C.q1_r31_b.eq_1)) (And.intro (And.intro @C.q1_r30_b.eq_1 @C.q1_r29_b.eq_1) (And.intro @C.q1_r28_b.eq_1 @C.q1_r26_b.eq_1))))) (And.intro (And.intro (And.intro (And.intro @C.q1_r25_b.eq_1 (And.intro @C.q1_r12_b.eq_1 @C.q1_r24_b.eq_1)) (And.intro @C.q1_r19_b.eq_1 (And.intro @C.q1_r18_b.eq_1 @C.q1_r17_b.eq_1))) (And.intro (And.intro @C.q1_r21_b.eq_1 (And.intro @C.q1_r23_b.eq_1 @C.q1_r22_b.eq_1)) (And.intro (And.intro @C.q1_r20_b.eq_1 @C.q1_r16_b.eq_1) (And.intro @C.q1_r15_b.eq_1 @C.q1_r14_b.eq_1)))) (And.intro (And.intro (And.intro @C.q1_r13_b.eq_1 (And.intro @C.q1_r11_b.eq_1 @C.q1_r10_b.eq_1)) (And.intro @C.q1_r9_b.eq_1 (And.intro @C.q1_r8_b.eq_1 @C.q1_r7_b.eq_1))) (And.intro (And.intro @C.q1_r5_b.eq_1 (And.intro @C.q1_r6_b.eq_1 @C.q1_r4_b.eq_1)) (And.intro (And.intro @C.q1_r3_b.eq_1 @C.q1_r2_b.eq_1) (And.intro @C.q1_r1_b.eq_1 @C.q1_r0_b.eq_1)))))

def C.q81_r4_b : List IOper := [
 X.o 10 (.loadN 4 (X.s 1)),
 X.o 11 (.call F.q42 [X.s 10]),
 X.o 12 (.makeMap none),
 X.o 13 (.build [.nils, .nilm, .bool false] [(0, 1, X.s 11), (1, 1, X.s 12)]),
 X.o 14 (.boxN (X.s 13)),
 X.m 2 14,
 X.o 3 (.move (X.i 0))]
def C.q81_r4 : List IOper := C.q81_r4_b
def C.q81_r4_w := @aopsE _ _ C.q81_r4.eq_1
def C.q81_c1 : ICode := .keep [1] (.seq (.region C.q81_r4) .ret)
def C.q81_c1_w := @awpE _ _ C.q81_c1.eq_1
def C.q81_r3_b : List IOper := [
 X.m 9 4,
 X.o 2 (.move (.cst (.nilp))),
 X.m 3 9]
def C.q81_r3 : List IOper := C.q81_r3_b
def C.q81_r3_w := @aopsE _ _ C.q81_r3.eq_1
def C.q81_c2 : ICode := .seq (.region C.q81_r3) .ret
def C.q81_c2_w := @awpE _ _ C.q81_c2.eq_1
def C.q81_c3 : ICode := .keep [1, 4, 8] (.cond (X.s 8) C.q81_c2 .skip)
def C.q81_c3_w := @awpE _ _ C.q81_c3.eq_1
def C.q81_r2_b : List IOper := [
 X.m 7 4,
 X.o 8 (.bin .neq (X.s 7) (X.i 0))]
def C.q81_r2 : List IOper := C.q81_r2_b
def C.q81_r2_w := @aopsE _ _ C.q81_r2.eq_1
def C.q81_c4 : ICode := .keep [1, 4] (.seq (.region C.q81_r2) C.q81_c3)
def C.q81_c4_w := @awpE _ _ C.q81_c4.eq_1
def C.q81_r1_b : List IOper := [
 X.o 5 (.loadN 4 (X.s 1)),
 X.o 6 (.call F.q28 [X.s 5]),
 X.m 4 6]
def C.q81_r1 : List IOper := C.q81_r1_b
def C.q81_r1_w := @aopsE _ _ C.q81_r1.eq_1
def C.q81_c5 : ICode := .keep [1] (.seq (.seq (.region C.q81_r1) C.q81_c4) C.q81_c1)
def C.q81_c5_w := @awpE _ _ C.q81_c5.eq_1
def C.q81_r0_b : List IOper := [
 X.o 1 (.boxN (X.s 0)),
 X.o 2 (.move (.cst (.nilp))),
 X.o 3 (.move (X.i 0))]
def C.q81_r0 : List IOper := C.q81_r0_b
def C.q81_r0_w := @aopsE _ _ C.q81_r0.eq_1
def C.q81 : IFunc := ⟨1, [.slot 2, .slot 3], .seq (.region C.q81_r0) C.q81_c5⟩
def C.q81_W := And.intro (And.intro (And.intro @C.q81_r4_w @C.q81_c1_w) (And.intro @C.q81_r3_w (And.intro @C.q81_c2_w @C.q81_c3_w))) (And.intro (And.intro @C.q81_r2_w @C.q81_c4_w) (And.intro @C.q81_r1_w (And.intro @C.q81_c5_w @C.q81_r0_w)))
def C.q81_B := And.intro (And.intro @C.q81_r4_b.eq_1 @C.q81_r3_b.eq_1) (And.intro @C.q81_r2_b.eq_1 (And.intro @C.q81_r1_b.eq_1 @C.q81_r0_b.eq_1))

def C.q4_r3_b : List IOper := [
 X.m 10 0,
 X.m 11 1,
 X.o 12 (.bin .rem (X.s 10) (X.s 11)),
 X.m 4 12]
def C.q4_r3 : List IOper := C.q4_r3_b
def C.q4_r3_w := @aopsE _ _ C.q4_r3.eq_1
def C.q4_c1 : ICode := .keep [0, 1] (.seq (.region C.q4_r3) .ret)
def C.q4_c1_w := @awpE _ _ C.q4_c1.eq_1
def C.q4_r2_b : List IOper := [
 X.m 7 0,
 X.o 8 (.bin .add (X.s 7) (X.i 1)),
 X.o 9 (.un .neg (X.s 8)),
 X.m 0 9]
def C.q4_r2 : List IOper := C.q4_r2_b
def C.q4_r2_w := @aopsE _ _ C.q4_r2.eq_1
def C.q4_c2 : ICode := .keep [0, 1, 6] (.cond (X.s 6) (.region C.q4_r2) .skip)
def C.q4_c2_w := @awpE _ _ C.q4_c2.eq_1
def C.q4_r1_b : List IOper := [
 X.m 5 0,
 X.o 6 (.bin .lss (X.s 5) (X.i 0))]
def C.q4_r1 : List IOper := C.q4_r1_b
def C.q4_r1_w := @aopsE _ _ C.q4_r1.eq_1
def C.q4_c3 : ICode := .keep [0, 1] (.seq (.seq (.region C.q4_r1) C.q4_c2) C.q4_c1)
def C.q4_c3_w := @awpE _ _ C.q4_c3.eq_1
def C.q4_r0_b : List IOper := [
 X.o 4 (.move (X.i 0))]
def C.q4_r0 : List IOper := C.q4_r0_b
def C.q4_r0_w := @aopsE _ _ C.q4_r0.eq_1
def C.q4 : IFunc := ⟨2, [.slot 4], .seq (.region C.q4_r0) C.q4_c3⟩
def C.q4_W := And.intro (And.intro @C.q4_r3_w (And.intro @C.q4_c1_w @C.q4_r2_w)) (And.intro (And.intro @C.q4_c2_w @C.q4_r1_w) (And.intro @C.q4_c3_w @C.q4_r0_w))
def C.q4_B := And.intro (And.intro @C.q4_r3_b.eq_1 @C.q4_r2_b.eq_1) (And.intro @C.q4_r1_b.eq_1 @C.q4_r0_b.eq_1)

def C.q76_r8_b : List IOper := [
 X.o 4 (.move (X.i 0))]
def C.q76_r8 : List IOper := C.q76_r8_b
def C.q76_r8_w := @aopsE _ _ C.q76_r8.eq_1
def C.q76_c1 : ICode := .keep [] (.seq (.region C.q76_r8) .ret)
def C.q76_c1_w := @awpE _ _ C.q76_c1.eq_1
def C.q76_r7_b : List IOper := [
 X.m 23 0,
 X.o 24 (.nilchk (X.s 23)),
 X.o 25 (.fldAddr 1 (X.s 24)),
 X.o 26 (.load1 (X.s 25)),
 X.m 27 1,
 X.o 28 (.lookup (.int .i64 0) false (X.s 26) (X.s 27)),
 X.o 29 (.bin .add (X.s 28) (X.i 1)),
 X.n (.mapSet (X.s 26) (X.s 27) (X.s 29))]
def C.q76_r7 : List IOper := C.q76_r7_b
def C.q76_r7_w := @aopsE _ _ C.q76_r7.eq_1
def C.q76_c2 : ICode := .keep [0, 1] (.seq (.region C.q76_r7) C.q76_c1)
def C.q76_c2_w := @awpE _ _ C.q76_c2.eq_1
def C.q76_r2_b : List IOper := [
 X.o 4 (.move (X.i 6))]
def C.q76_r2 : List IOper := C.q76_r2_b
def C.q76_r2_w := @aopsE _ _ C.q76_r2.eq_1
def C.q76_r4_b : List IOper := [
 X.o 4 (.move (X.i 4))]
def C.q76_r4 : List IOper := C.q76_r4_b
def C.q76_r4_w := @aopsE _ _ C.q76_r4.eq_1
def C.q76_r6_b : List IOper := [
 X.o 4 (.move (X.i 8))]
def C.q76_r6 : List IOper := C.q76_r6_b
def C.q76_r6_w := @aopsE _ _ C.q76_r6.eq_1
def C.q76_c3 : ICode := .seq (.region C.q76_r6) .ret
def C.q76_c3_w := @awpE _ _ C.q76_c3.eq_1
def C.q76_c4 : ICode := .keep [0, 1, 15] (.cond (X.s 15) C.q76_c3 .skip)
def C.q76_c4_w := @awpE _ _ C.q76_c4.eq_1
def C.q76_r5_b : List IOper := [
 X.m 16 0,
 X.o 17 (.nilchk (X.s 16)),
 X.o 18 (.fldAddr 1 (X.s 17)),
 X.o 19 (.load1 (X.s 18)),
 X.m 20 1,
 X.o 21 (.lookup (.int .i64 0) false (X.s 19) (X.s 20)),
 X.o 22 (.bin .geq (X.s 21) (X.i 7)),
 X.m 15 22]
def C.q76_r5 : List IOper := C.q76_r5_b
def C.q76_r5_w := @aopsE _ _ C.q76_r5.eq_1
def C.q76_c5 : ICode := .seq (.region C.q76_r4) .ret
def C.q76_c5_w := @awpE _ _ C.q76_c5.eq_1
def C.q76_c6 : ICode := .seq (.region C.q76_r5) C.q76_c4
def C.q76_c6_w := @awpE _ _ C.q76_c6.eq_1
def C.q76_c7 : ICode := .keep [0, 1, 10] (.cond (X.s 10) C.q76_c5 C.q76_c6)
def C.q76_c7_w := @awpE _ _ C.q76_c7.eq_1
def C.q76_r3_b : List IOper := [
 X.m 11 0,
 X.m 12 1,
 X.o 13 (.call F.q80 [X.s 11, X.s 12]),
 X.o 14 (.un .not (X.s 13)),
 X.m 10 14]
def C.q76_r3 : List IOper := C.q76_r3_b
def C.q76_r3_w := @aopsE _ _ C.q76_r3.eq_1
def C.q76_c8 : ICode := .seq (.region C.q76_r2) .ret
def C.q76_c8_w := @awpE _ _ C.q76_c8.eq_1
def C.q76_c9 : ICode := .seq (.region C.q76_r3) C.q76_c7
def C.q76_c9_w := @awpE _ _ C.q76_c9.eq_1
def C.q76_c10 : ICode := .keep [0, 1, 5] (.cond (X.s 5) C.q76_c8 C.q76_c9)
def C.q76_c10_w := @awpE _ _ C.q76_c10.eq_1
def C.q76_r1_b : List IOper := [
 X.m 6 0,
 X.o 7 (.nilchk (X.s 6)),
 X.o 8 (.fldAddr 2 (X.s 7)),
 X.o 9 (.load1 (X.s 8)),
 X.m 5 9]
def C.q76_r1 : List IOper := C.q76_r1_b
def C.q76_r1_w := @aopsE _ _ C.q76_r1.eq_1
def C.q76_b11 : ICode := .seq (.region C.q76_r1) C.q76_c10
def C.q76_b11_w := @awpE _ _ C.q76_b11.eq_1
def C.q76_c12 : ICode := .keep [0, 1] (.seq (.block 0 C.q76_b11) C.q76_c2)
def C.q76_c12_w := @awpE _ _ C.q76_c12.eq_1
def C.q76_r0_b : List IOper := [
 X.o 4 (.move (X.i 0))]
def C.q76_r0 : List IOper := C.q76_r0_b
def C.q76_r0_w := @aopsE _ _ C.q76_r0.eq_1
def C.q76 : IFunc := ⟨2, [.slot 4], .seq (.region C.q76_r0) C.q76_c12⟩
def C.q76_W := And.intro (And.intro (And.intro (And.intro @C.q76_r8_w @C.q76_c1_w) (And.intro @C.q76_r7_w (And.intro @C.q76_c2_w @C.q76_r2_w))) (And.intro (And.intro @C.q76_r4_w @C.q76_r6_w) (And.intro @C.q76_c3_w (And.intro @C.q76_c4_w @C.q76_r5_w)))) (And.intro (And.intro (And.intro @C.q76_c5_w @C.q76_c6_w) (And.intro @C.q76_c7_w (And.intro @C.q76_r3_w @C.q76_c8_w))) (And.intro (And.intro @C.q76_c9_w (And.intro @C.q76_c10_w @C.q76_r1_w)) (And.intro @C.q76_b11_w (And.intro @C.q76_c12_w @C.q76_r0_w))))
def C.q76_B := And.intro (And.intro (And.intro @C.q76_r8_b.eq_1 @C.q76_r7_b.eq_1) (And.intro @C.q76_r2_b.eq_1 @C.q76_r4_b.eq_1)) (And.intro (And.intro @C.q76_r6_b.eq_1 @C.q76_r5_b.eq_1) (And.intro @C.q76_r3_b.eq_1 (And.intro @C.q76_r1_b.eq_1 @C.q76_r0_b.eq_1)))

def C.q77_r8_b : List IOper := [
 X.o 4 (.move (X.i 0))]
def C.q77_r8 : List IOper := C.q77_r8_b
def C.q77_r8_w := @aopsE _ _ C.q77_r8.eq_1
def C.q77_c1 : ICode := .keep [] (.seq (.region C.q77_r8) .ret)
def C.q77_c1_w := @awpE _ _ C.q77_c1.eq_1
def C.q77_r7_b : List IOper := [
 X.m 23 0,
 X.o 24 (.nilchk (X.s 23)),
 X.o 25 (.fldAddr 1 (X.s 24)),
 X.o 26 (.load1 (X.s 25)),
 X.m 27 1,
 X.o 28 (.lookup (.int .i64 0) false (X.s 26) (X.s 27)),
 X.o 29 (.bin .sub (X.s 28) (X.i 1)),
 X.n (.mapSet (X.s 26) (X.s 27) (X.s 29))]
def C.q77_r7 : List IOper := C.q77_r7_b
def C.q77_r7_w := @aopsE _ _ C.q77_r7.eq_1
def C.q77_c2 : ICode := .keep [0, 1] (.seq (.region C.q77_r7) C.q77_c1)
def C.q77_c2_w := @awpE _ _ C.q77_c2.eq_1
def C.q77_r2_b : List IOper := [
 X.o 4 (.move (X.i 6))]
def C.q77_r2 : List IOper := C.q77_r2_b
def C.q77_r2_w := @aopsE _ _ C.q77_r2.eq_1
def C.q77_r4_b : List IOper := [
 X.o 4 (.move (X.i 4))]
def C.q77_r4 : List IOper := C.q77_r4_b
def C.q77_r4_w := @aopsE _ _ C.q77_r4.eq_1
def C.q77_r6_b : List IOper := [
 X.o 4 (.move (X.i 6))]
def C.q77_r6 : List IOper := C.q77_r6_b
def C.q77_r6_w := @aopsE _ _ C.q77_r6.eq_1
def C.q77_c3 : ICode := .seq (.region C.q77_r6) .ret
def C.q77_c3_w := @awpE _ _ C.q77_c3.eq_1
def C.q77_c4 : ICode := .keep [0, 1, 15] (.cond (X.s 15) C.q77_c3 .skip)
def C.q77_c4_w := @awpE _ _ C.q77_c4.eq_1
def C.q77_r5_b : List IOper := [
 X.m 16 0,
 X.o 17 (.nilchk (X.s 16)),
 X.o 18 (.fldAddr 1 (X.s 17)),
 X.o 19 (.load1 (X.s 18)),
 X.m 20 1,
 X.o 21 (.lookup (.int .i64 0) false (X.s 19) (X.s 20)),
 X.o 22 (.bin .leq (X.s 21) (X.i 0)),
 X.m 15 22]
def C.q77_r5 : List IOper := C.q77_r5_b
def C.q77_r5_w := @aopsE _ _ C.q77_r5.eq_1
def C.q77_c5 : ICode := .seq (.region C.q77_r4) .ret
def C.q77_c5_w := @awpE _ _ C.q77_c5.eq_1
def C.q77_c6 : ICode := .seq (.region C.q77_r5) C.q77_c4
def C.q77_c6_w := @awpE _ _ C.q77_c6.eq_1
def C.q77_c7 : ICode := .keep [0, 1, 10] (.cond (X.s 10) C.q77_c5 C.q77_c6)
def C.q77_c7_w := @awpE _ _ C.q77_c7.eq_1
def C.q77_r3_b : List IOper := [
 X.m 11 0,
 X.m 12 1,
 X.o 13 (.call F.q80 [X.s 11, X.s 12]),
 X.o 14 (.un .not (X.s 13)),
 X.m 10 14]
def C.q77_r3 : List IOper := C.q77_r3_b
def C.q77_r3_w := @aopsE _ _ C.q77_r3.eq_1
def C.q77_c8 : ICode := .seq (.region C.q77_r2) .ret
def C.q77_c8_w := @awpE _ _ C.q77_c8.eq_1
def C.q77_c9 : ICode := .seq (.region C.q77_r3) C.q77_c7
def C.q77_c9_w := @awpE _ _ C.q77_c9.eq_1
def C.q77_c10 : ICode := .keep [0, 1, 5] (.cond (X.s 5) C.q77_c8 C.q77_c9)
def C.q77_c10_w := @awpE _ _ C.q77_c10.eq_1
def C.q77_r1_b : List IOper := [
 X.m 6 0,
 X.o 7 (.nilchk (X.s 6)),
 X.o 8 (.fldAddr 2 (X.s 7)),
 X.o 9 (.load1 (X.s 8)),
 X.m 5 9]
def C.q77_r1 : List IOper := C.q77_r1_b
def C.q77_r1_w := @aopsE _ _ C.q77_r1.eq_1
def C.q77_b11 : ICode := .seq (.region C.q77_r1) C.q77_c10
def C.q77_b11_w := @awpE _ _ C.q77_b11.eq_1
def C.q77_c12 : ICode := .keep [0, 1] (.seq (.block 0 C.q77_b11) C.q77_c2)
def C.q77_c12_w := @awpE _ _ C.q77_c12.eq_1
def C.q77_r0_b : List IOper := [
 X.o 4 (.move (X.i 0))]
def C.q77_r0 : List IOper := C.q77_r0_b
def C.q77_r0_w := @aopsE _ _ C.q77_r0.eq_1
def C.q77 : IFunc := ⟨2, [.slot 4], .seq (.region C.q77_r0) C.q77_c12⟩
def C.q77_W := And.intro (And.intro (And.intro (And.intro @C.q77_r8_w @C.q77_c1_w) (And.intro @C.q77_r7_w (And.intro @C.q77_c2_w @C.q77_r2_w))) (And.intro (And.intro @C.q77_r4_w @C.q77_r6_w) (And.intro @C.q77_c3_w (And.intro @C.q77_c4_w @C.q77_r5_w)))) (And.intro (And.intro (And.intro @C.q77_c5_w @C.q77_c6_w) (And.intro @C.q77_c7_w (And.intro @C.q77_r3_w @C.q77_c8_w))) (And.intro (And.intro @C.q77_c9_w (And.intro @C.q77_c10_w @C.q77_r1_w)) (And.intro @C.q77_b11_w (And.intro @C.q77_c12_w @C.q77_r0_w))))
def C.q77_B := And.intro (And.intro (And.intro @C.q77_r8_b.eq_1 @C.q77_r7_b.eq_1) (And.intro @C.q77_r2_b.eq_1 @C.q77_r4_b.eq_1)) (And.intro (And.intro @C.q77_r6_b.eq_1 @C.q77_r5_b.eq_1) (And.intro @C.q77_r3_b.eq_1 (And.intro @C.q77_r1_b.eq_1 @C.q77_r0_b.eq_1)))

def C.q72_r16_b : List IOper := [
 X.m 55 3,
 X.m 2 55]
def C.q72_r16 : List IOper := C.q72_r16_b
def C.q72_r16_w := @aopsE _ _ C.q72_r16.eq_1
def C.q72_c1 : ICode := .keep [3] (.seq (.region C.q72_r16) .ret)
def C.q72_c1_w := @awpE _ _ C.q72_c1.eq_1
def C.q72_r15_b : List IOper := [
 X.o 54 (.bin .add (X.s 22) (X.i 1)),
 X.m 22 54]
def C.q72_r15 : List IOper := C.q72_r15_b
def C.q72_r15_w := @aopsE _ _ C.q72_r15.eq_1
def C.q72_c2 : ICode := .keep [0, 3, 21, 22] (.region C.q72_r15)
def C.q72_c2_w := @awpE _ _ C.q72_c2.eq_1
def C.q72_r14_b : List IOper := [
 X.o 53 (.bin .add (X.s 46) (X.i 1)),
 X.m 46 53]
def C.q72_r14 : List IOper := C.q72_r14_b
def C.q72_r14_w := @aopsE _ _ C.q72_r14.eq_1
def C.q72_c3 : ICode := .keep [0, 3, 21, 22, 44, 45, 46] (.region C.q72_r14)
def C.q72_c3_w := @awpE _ _ C.q72_c3.eq_1
def C.q72_r13_b : List IOper := [
 X.m 50 3,
 X.m 51 8,
 X.o 52 (.idxAddr 1 (X.s 50) (X.s 51)),
 X.n (.store1 (X.s 52) (.cst (.bool true)))]
def C.q72_r13 : List IOper := C.q72_r13_b
def C.q72_r13_w := @aopsE _ _ C.q72_r13.eq_1
def C.q72_c4 : ICode := .keep [0, 3, 8, 21, 22, 44, 45, 46] (.region C.q72_r13)
def C.q72_c4_w := @awpE _ _ C.q72_c4.eq_1
def C.q72_r12_b : List IOper := [
 X.o 48 (.idxAddr 1 (X.s 44) (X.s 46)),
 X.o 49 (.load1 (X.s 48)),
 X.m 8 49]
def C.q72_r12 : List IOper := C.q72_r12_b
def C.q72_r12_w := @aopsE _ _ C.q72_r12.eq_1
def C.q72_b5 : ICode := .seq (.region C.q72_r12) C.q72_c4
def C.q72_b5_w := @awpE _ _ C.q72_b5.eq_1
def C.q72_c6 : ICode := .keep [0, 3, 21, 22, 44, 45, 46] (.seq (.block 3 C.q72_b5) C.q72_c3)
def C.q72_c6_w := @awpE _ _ C.q72_c6.eq_1
def C.q72_c7 : ICode := .keep [0, 3, 21, 22, 44, 45, 46, 47] (.seq (.cond (X.s 47) .skip (.exit 2)) C.q72_c6)
def C.q72_c7_w := @awpE _ _ C.q72_c7.eq_1
def C.q72_r11_b : List IOper := [
 X.o 47 (.bin .lss (X.s 46) (X.s 45))]
def C.q72_r11 : List IOper := C.q72_r11_b
def C.q72_r11_w := @aopsE _ _ C.q72_r11.eq_1
def C.q72_l8 : ICode := .keep [0, 3, 21, 22, 44, 45, 46] (.seq (.region C.q72_r11) C.q72_c7)
def C.q72_l8_w := @awpE _ _ C.q72_l8.eq_1
def C.q72_b9 : ICode := .loop C.q72_l8
def C.q72_b9_w := @awpE _ _ C.q72_b9.eq_1
def C.q72_c10 : ICode := .keep [0, 3, 21, 22, 44, 45, 46] (.block 2 C.q72_b9)
def C.q72_c10_w := @awpE _ _ C.q72_c10.eq_1
def C.q72_r10_b : List IOper := [
 X.m 44 5,
 X.o 45 (.len (X.s 44)),
 X.o 46 (.move (X.i 0))]
def C.q72_r10 : List IOper := C.q72_r10_b
def C.q72_r10_w := @aopsE _ _ C.q72_r10.eq_1
def C.q72_c11 : ICode := .keep [0, 3, 5, 21, 22] (.seq (.region C.q72_r10) C.q72_c10)
def C.q72_c11_w := @awpE _ _ C.q72_c11.eq_1
def C.q72_r9_b : List IOper := [
 X.m 36 0,
 X.o 37 (.nilchk (X.s 36)),
 X.o 38 (.fldAddr 0 (X.s 37)),
 X.o 39 (.load1 (X.s 38)),
 X.m 40 4,
 X.o 41 (.call F.q82 [X.s 39, X.s 40]),
 X.m 35 41,
 X.o 42 (.extract (X.s 35) 0),
 X.o 43 (.extract (X.s 35) 1),
 X.m 5 42,
 X.m 6 43]
def C.q72_r9 : List IOper := C.q72_r9_b
def C.q72_r9_w := @aopsE _ _ C.q72_r9.eq_1
def C.q72_c12 : ICode := .keep [0, 3, 4, 21, 22] (.seq (.region C.q72_r9) C.q72_c11)
def C.q72_c12_w := @awpE _ _ C.q72_c12.eq_1
def C.q72_r8_b : List IOper := [
 X.m 32 3,
 X.m 33 4,
 X.o 34 (.idxAddr 1 (X.s 32) (X.s 33)),
 X.n (.store1 (X.s 34) (.cst (.bool true)))]
def C.q72_r8 : List IOper := C.q72_r8_b
def C.q72_r8_w := @aopsE _ _ C.q72_r8.eq_1
def C.q72_c13 : ICode := .keep [0, 3, 4, 21, 22] (.seq (.region C.q72_r8) C.q72_c12)
def C.q72_c13_w := @awpE _ _ C.q72_c13.eq_1
def C.q72_c14 : ICode := .keep [0, 3, 4, 21, 22, 31] (.cond (X.s 31) (.exit 1) .skip)
def C.q72_c14_w := @awpE _ _ C.q72_c14.eq_1
def C.q72_r7_b : List IOper := [
 X.m 25 0,
 X.o 26 (.nilchk (X.s 25)),
 X.o 27 (.fldAddr 1 (X.s 26)),
 X.o 28 (.load1 (X.s 27)),
 X.m 29 4,
 X.o 30 (.lookup (.int .i64 0) false (X.s 28) (X.s 29)),
 X.o 31 (.bin .leq (X.s 30) (X.i 0))]
def C.q72_r7 : List IOper := C.q72_r7_b
def C.q72_r7_w := @aopsE _ _ C.q72_r7.eq_1
def C.q72_c15 : ICode := .keep [0, 3, 4, 21, 22] (.seq (.seq (.region C.q72_r7) C.q72_c14) C.q72_c13)
def C.q72_c15_w := @awpE _ _ C.q72_c15.eq_1
def C.q72_r6_b : List IOper := [
 X.m 24 22,
 X.m 4 24]
def C.q72_r6 : List IOper := C.q72_r6_b
def C.q72_r6_w := @aopsE _ _ C.q72_r6.eq_1
def C.q72_b16 : ICode := .seq (.region C.q72_r6) C.q72_c15
def C.q72_b16_w := @awpE _ _ C.q72_b16.eq_1
def C.q72_c17 : ICode := .keep [0, 3, 21, 22] (.seq (.block 1 C.q72_b16) C.q72_c2)
def C.q72_c17_w := @awpE _ _ C.q72_c17.eq_1
def C.q72_c18 : ICode := .keep [0, 3, 21, 22, 23] (.seq (.cond (X.s 23) .skip (.exit 0)) C.q72_c17)
def C.q72_c18_w := @awpE _ _ C.q72_c18.eq_1
def C.q72_r5_b : List IOper := [
 X.o 23 (.bin .lss (X.s 22) (X.s 21))]
def C.q72_r5 : List IOper := C.q72_r5_b
def C.q72_r5_w := @aopsE _ _ C.q72_r5.eq_1
def C.q72_l19 : ICode := .keep [0, 3, 21, 22] (.seq (.region C.q72_r5) C.q72_c18)
def C.q72_l19_w := @awpE _ _ C.q72_l19.eq_1
def C.q72_b20 : ICode := .loop C.q72_l19
def C.q72_b20_w := @awpE _ _ C.q72_b20.eq_1
def C.q72_c21 : ICode := .keep [0, 3, 21, 22] (.block 0 C.q72_b20)
def C.q72_c21_w := @awpE _ _ C.q72_c21.eq_1
def C.q72_r4_b : List IOper := [
 X.m 20 3,
 X.o 21 (.len (X.s 20)),
 X.o 22 (.move (X.i 0))]
def C.q72_r4 : List IOper := C.q72_r4_b
def C.q72_r4_w := @aopsE _ _ C.q72_r4.eq_1
def C.q72_c22 : ICode := .keep [0, 3] (.seq (.seq (.region C.q72_r4) C.q72_c21) C.q72_c1)
def C.q72_c22_w := @awpE _ _ C.q72_c22.eq_1
def C.q72_r3_b : List IOper := [
 X.m 19 3,
 X.m 2 19]
def C.q72_r3 : List IOper := C.q72_r3_b
def C.q72_r3_w := @aopsE _ _ C.q72_r3.eq_1
def C.q72_c23 : ICode := .seq (.region C.q72_r3) .ret
def C.q72_c23_w := @awpE _ _ C.q72_c23.eq_1
def C.q72_c24 : ICode := .keep [0, 3, 18] (.cond (X.s 18) C.q72_c23 .skip)
def C.q72_c24_w := @awpE _ _ C.q72_c24.eq_1
def C.q72_r2_b : List IOper := [
 X.m 15 0,
 X.o 16 (.nilchk (X.s 15)),
 X.o 17 (.fldAddr 2 (X.s 16)),
 X.o 18 (.load1 (X.s 17))]
def C.q72_r2 : List IOper := C.q72_r2_b
def C.q72_r2_w := @aopsE _ _ C.q72_r2.eq_1
def C.q72_c25 : ICode := .keep [0, 3] (.seq (.seq (.region C.q72_r2) C.q72_c24) C.q72_c22)
def C.q72_c25_w := @awpE _ _ C.q72_c25.eq_1
def C.q72_r1_b : List IOper := [
 X.m 9 0,
 X.o 10 (.nilchk (X.s 9)),
 X.o 11 (.fldAddr 0 (X.s 10)),
 X.o 12 (.load1 (X.s 11)),
 X.o 13 (.len (X.s 12)),
 X.o 14 (.makeSlice 1 1 [.bool false] (X.s 13) (X.s 13)),
 X.m 3 14]
def C.q72_r1 : List IOper := C.q72_r1_b
def C.q72_r1_w := @aopsE _ _ C.q72_r1.eq_1
def C.q72_c26 : ICode := .keep [0] (.seq (.region C.q72_r1) C.q72_c25)
def C.q72_c26_w := @awpE _ _ C.q72_c26.eq_1
def C.q72_r0_b : List IOper := [
 X.o 2 (.move (.cst (.nils)))]
def C.q72_r0 : List IOper := C.q72_r0_b
def C.q72_r0_w := @aopsE _ _ C.q72_r0.eq_1
def C.q72 : IFunc := ⟨1, [.slot 2], .seq (.region C.q72_r0) C.q72_c26⟩
def C.q72_W := And.intro (And.intro (And.intro (And.intro (And.intro @C.q72_r16_w @C.q72_c1_w) (And.intro @C.q72_r15_w (And.intro @C.q72_c2_w @C.q72_r14_w))) (And.intro (And.intro @C.q72_c3_w @C.q72_r13_w) (And.intro @C.q72_c4_w (And.intro @C.q72_r12_w @C.q72_b5_w)))) (And.intro (And.intro (And.intro @C.q72_c6_w @C.q72_c7_w) (And.intro @C.q72_r11_w (And.intro @C.q72_b9_w @C.q72_c10_w))) (And.intro (And.intro @C.q72_r10_w @C.q72_c11_w) (And.intro @C.q72_r9_w (And.intro @C.q72_c12_w @C.q72_r8_w))))) (And.intro (And.intro (And.intro (And.intro @C.q72_c13_w @C.q72_c14_w) (And.intro @C.q72_r7_w (And.intro @C.q72_c15_w @C.q72_r6_w))) (And.intro (And.intro @C.q72_b16_w @C.q72_c17_w) (And.intro @C.q72_c18_w (And.intro @C.q72_r5_w @C.q72_b20_w)))) (And.intro (And.intro (And.intro @C.q72_c21_w @C.q72_r4_w) (And.intro @C.q72_c22_w (And.intro @C.q72_r3_w @C.q72_c23_w))) (And.intro (And.intro @C.q72_c24_w (And.intro @C.q72_r2_w @C.q72_c25_w)) (And.intro @C.q72_r1_w (And.intro @C.q72_c26_w @C.q72_r0_w)))))
def C.q72_B := And.intro (And.intro (And.intro (And.intro @C.q72_r16_b.eq_1 @C.q72_r15_b.eq_1) (And.intro @C.q72_r14_b.eq_1 @C.q72_r13_b.eq_1)) (And.intro (And.intro @C.q72_r12_b.eq_1 @C.q72_r11_b.eq_1) (And.intro @C.q72_r10_b.eq_1 @C.q72_r9_b.eq_1))) (And.intro (And.intro (And.intro @C.q72_r8_b.eq_1 @C.q72_r7_b.eq_1) (And.intro @C.q72_r6_b.eq_1 @C.q72_r5_b.eq_1)) (And.intro (And.intro @C.q72_r4_b.eq_1 @C.q72_r3_b.eq_1) (And.intro @C.q72_r2_b.eq_1 (And.intro @C.q72_r1_b.eq_1 @C.q72_r0_b.eq_1))))

def C.q75_r1_b : List IOper := [
 X.m 5 0,
 X.o 6 (.nilchk (X.s 5)),
 X.o 7 (.fldAddr 1 (X.s 6)),
 X.o 8 (.load1 (X.s 7)),
 X.m 9 1,
 X.o 10 (.lookup (.int .i64 0) false (X.s 8) (X.s 9)),
 X.m 4 10]
def C.q75_r1 : List IOper := C.q75_r1_b
def C.q75_r1_w := @aopsE _ _ C.q75_r1.eq_1
def C.q75_c1 : ICode := .keep [0, 1] (.seq (.region C.q75_r1) .ret)
def C.q75_c1_w := @awpE _ _ C.q75_c1.eq_1
def C.q75_r0_b : List IOper := [
 X.o 4 (.move (X.i 0))]
def C.q75_r0 : List IOper := C.q75_r0_b
def C.q75_r0_w := @aopsE _ _ C.q75_r0.eq_1
def C.q75 : IFunc := ⟨2, [.slot 4], .seq (.region C.q75_r0) C.q75_c1⟩
def C.q75_W := And.intro @C.q75_r1_w (And.intro @C.q75_c1_w @C.q75_r0_w)
def C.q75_B := And.intro @C.q75_r1_b.eq_1 @C.q75_r0_b.eq_1

def C.q78_r4_b : List IOper := [
 X.o 2 (.move (X.i 0))]
def C.q78_r4 : List IOper := C.q78_r4_b
def C.q78_r4_w := @aopsE _ _ C.q78_r4.eq_1
def C.q78_c1 : ICode := .keep [] (.seq (.region C.q78_r4) .ret)
def C.q78_c1_w := @awpE _ _ C.q78_c1.eq_1
def C.q78_r3_b : List IOper := [
 X.m 8 0,
 X.o 9 (.nilchk (X.s 8)),
 X.o 10 (.fldAddr 2 (X.s 9)),
 X.n (.store1 (X.s 10) (.cst (.bool false)))]
def C.q78_r3 : List IOper := C.q78_r3_b
def C.q78_r3_w := @aopsE _ _ C.q78_r3.eq_1
def C.q78_c2 : ICode := .keep [0] (.seq (.region C.q78_r3) C.q78_c1)
def C.q78_c2_w := @awpE _ _ C.q78_c2.eq_1
def C.q78_r2_b : List IOper := [
 X.o 2 (.move (X.i 6))]
def C.q78_r2 : List IOper := C.q78_r2_b
def C.q78_r2_w := @aopsE _ _ C.q78_r2.eq_1
def C.q78_c3 : ICode := .seq (.region C.q78_r2) .ret
def C.q78_c3_w := @awpE _ _ C.q78_c3.eq_1
def C.q78_c4 : ICode := .keep [0, 7] (.cond (X.s 7) C.q78_c3 .skip)
def C.q78_c4_w := @awpE _ _ C.q78_c4.eq_1
def C.q78_r1_b : List IOper := [
 X.m 3 0,
 X.o 4 (.nilchk (X.s 3)),
 X.o 5 (.fldAddr 2 (X.s 4)),
 X.o 6 (.load1 (X.s 5)),
 X.o 7 (.un .not (X.s 6))]
def C.q78_r1 : List IOper := C.q78_r1_b
def C.q78_r1_w := @aopsE _ _ C.q78_r1.eq_1
def C.q78_c5 : ICode := .keep [0] (.seq (.seq (.region C.q78_r1) C.q78_c4) C.q78_c2)
def C.q78_c5_w := @awpE _ _ C.q78_c5.eq_1
def C.q78_r0_b : List IOper := [
 X.o 2 (.move (X.i 0))]
def C.q78_r0 : List IOper := C.q78_r0_b
def C.q78_r0_w := @aopsE _ _ C.q78_r0.eq_1
def C.q78 : IFunc := ⟨1, [.slot 2], .seq (.region C.q78_r0) C.q78_c5⟩
def C.q78_W := And.intro (And.intro (And.intro @C.q78_r4_w @C.q78_c1_w) (And.intro @C.q78_r3_w (And.intro @C.q78_c2_w @C.q78_r2_w))) (And.intro (And.intro @C.q78_c3_w @C.q78_c4_w) (And.intro @C.q78_r1_w (And.intro @C.q78_c5_w @C.q78_r0_w)))
def C.q78_B := And.intro (And.intro @C.q78_r4_b.eq_1 @C.q78_r3_b.eq_1) (And.intro @C.q78_r2_b.eq_1 (And.intro @C.q78_r1_b.eq_1 @C.q78_r0_b.eq_1))

def C.q79_r4_b : List IOper := [
 X.o 2 (.move (X.i 0))]
def C.q79_r4 : List IOper := C.q79_r4_b
def C.q79_r4_w := @aopsE _ _ C.q79_r4.eq_1
def C.q79_c1 : ICode := .keep [] (.seq (.region C.q79_r4) .ret)
def C.q79_c1_w := @awpE _ _ C.q79_c1.eq_1
def C.q79_r3_b : List IOper := [
 X.m 7 0,
 X.o 8 (.nilchk (X.s 7)),
 X.o 9 (.fldAddr 2 (X.s 8)),
 X.n (.store1 (X.s 9) (.cst (.bool true)))]
def C.q79_r3 : List IOper := C.q79_r3_b
def C.q79_r3_w := @aopsE _ _ C.q79_r3.eq_1
def C.q79_c2 : ICode := .keep [0] (.seq (.region C.q79_r3) C.q79_c1)
def C.q79_c2_w := @awpE _ _ C.q79_c2.eq_1
def C.q79_r2_b : List IOper := [
 X.o 2 (.move (X.i 6))]
def C.q79_r2 : List IOper := C.q79_r2_b
def C.q79_r2_w := @aopsE _ _ C.q79_r2.eq_1
def C.q79_c3 : ICode := .seq (.region C.q79_r2) .ret
def C.q79_c3_w := @awpE _ _ C.q79_c3.eq_1
def C.q79_c4 : ICode := .keep [0, 6] (.cond (X.s 6) C.q79_c3 .skip)
def C.q79_c4_w := @awpE _ _ C.q79_c4.eq_1
def C.q79_r1_b : List IOper := [
 X.m 3 0,
 X.o 4 (.nilchk (X.s 3)),
 X.o 5 (.fldAddr 2 (X.s 4)),
 X.o 6 (.load1 (X.s 5))]
def C.q79_r1 : List IOper := C.q79_r1_b
def C.q79_r1_w := @aopsE _ _ C.q79_r1.eq_1
def C.q79_c5 : ICode := .keep [0] (.seq (.seq (.region C.q79_r1) C.q79_c4) C.q79_c2)
def C.q79_c5_w := @awpE _ _ C.q79_c5.eq_1
def C.q79_r0_b : List IOper := [
 X.o 2 (.move (X.i 0))]
def C.q79_r0 : List IOper := C.q79_r0_b
def C.q79_r0_w := @aopsE _ _ C.q79_r0.eq_1
def C.q79 : IFunc := ⟨1, [.slot 2], .seq (.region C.q79_r0) C.q79_c5⟩
def C.q79_W := And.intro (And.intro (And.intro @C.q79_r4_w @C.q79_c1_w) (And.intro @C.q79_r3_w (And.intro @C.q79_c2_w @C.q79_r2_w))) (And.intro (And.intro @C.q79_c3_w @C.q79_c4_w) (And.intro @C.q79_r1_w (And.intro @C.q79_c5_w @C.q79_r0_w)))
def C.q79_B := And.intro (And.intro @C.q79_r4_b.eq_1 @C.q79_r3_b.eq_1) (And.intro @C.q79_r2_b.eq_1 (And.intro @C.q79_r1_b.eq_1 @C.q79_r0_b.eq_1))

def C.q5_r8_b : List IOper := [
 X.o 4 (.move (.cst (.bool true)))]
def C.q5_r8 : List IOper := C.q5_r8_b
def C.q5_r8_w := @aopsE _ _ C.q5_r8.eq_1
def C.q5_c1 : ICode := .keep [] (.seq (.region C.q5_r8) .ret)
def C.q5_c1_w := @awpE _ _ C.q5_c1.eq_1
def C.q5_r5_b : List IOper := [
 X.m 15 5,
 X.o 16 (.bin .add (X.s 15) (X.i 1)),
 X.m 5 16]
def C.q5_r5 : List IOper := C.q5_r5_b
def C.q5_r5_w := @aopsE _ _ C.q5_r5.eq_1
def C.q5_c2 : ICode := .keep [0, 1, 5] (.region C.q5_r5)
def C.q5_c2_w := @awpE _ _ C.q5_c2.eq_1
def C.q5_r7_b : List IOper := [
 X.o 4 (.move (.cst (.bool false)))]
def C.q5_r7 : List IOper := C.q5_r7_b
def C.q5_r7_w := @aopsE _ _ C.q5_r7.eq_1
def C.q5_c3 : ICode := .seq (.region C.q5_r7) .ret
def C.q5_c3_w := @awpE _ _ C.q5_c3.eq_1
def C.q5_c4 : ICode := .keep [0, 1, 5, 25] (.cond (X.s 25) C.q5_c3 .skip)
def C.q5_c4_w := @awpE _ _ C.q5_c4.eq_1
def C.q5_r6_b : List IOper := [
 X.m 17 0,
 X.m 18 5,
 X.o 19 (.idxAddr 1 (X.s 17) (X.s 18)),
 X.o 20 (.load1 (X.s 19)),
 X.m 21 1,
 X.m 22 5,
 X.o 23 (.idxAddr 1 (X.s 21) (X.s 22)),
 X.o 24 (.load1 (X.s 23)),
 X.o 25 (.eqB true (X.s 20) (X.s 24))]
def C.q5_r6 : List IOper := C.q5_r6_b
def C.q5_r6_w := @aopsE _ _ C.q5_r6.eq_1
def C.q5_b5 : ICode := .seq (.region C.q5_r6) C.q5_c4
def C.q5_b5_w := @awpE _ _ C.q5_b5.eq_1
def C.q5_c6 : ICode := .keep [0, 1, 5] (.seq (.block 1 C.q5_b5) C.q5_c2)
def C.q5_c6_w := @awpE _ _ C.q5_c6.eq_1
def C.q5_c7 : ICode := .keep [0, 1, 5, 14] (.cond (X.s 14) .skip (.exit 0))
def C.q5_c7_w := @awpE _ _ C.q5_c7.eq_1
def C.q5_r4_b : List IOper := [
 X.m 11 5,
 X.m 12 0,
 X.o 13 (.len (X.s 12)),
 X.o 14 (.bin .lss (X.s 11) (X.s 13))]
def C.q5_r4 : List IOper := C.q5_r4_b
def C.q5_r4_w := @aopsE _ _ C.q5_r4.eq_1
def C.q5_l8 : ICode := .keep [0, 1, 5] (.seq (.seq (.region C.q5_r4) C.q5_c7) C.q5_c6)
def C.q5_l8_w := @awpE _ _ C.q5_l8.eq_1
def C.q5_b9 : ICode := .loop C.q5_l8
def C.q5_b9_w := @awpE _ _ C.q5_b9.eq_1
def C.q5_c10 : ICode := .keep [0, 1, 5] (.block 0 C.q5_b9)
def C.q5_c10_w := @awpE _ _ C.q5_c10.eq_1
def C.q5_r3_b : List IOper := [
 X.o 5 (.move (X.i 0))]
def C.q5_r3 : List IOper := C.q5_r3_b
def C.q5_r3_w := @aopsE _ _ C.q5_r3.eq_1
def C.q5_c11 : ICode := .keep [0, 1] (.seq (.seq (.region C.q5_r3) C.q5_c10) C.q5_c1)
def C.q5_c11_w := @awpE _ _ C.q5_c11.eq_1
def C.q5_r2_b : List IOper := [
 X.o 4 (.move (.cst (.bool false)))]
def C.q5_r2 : List IOper := C.q5_r2_b
def C.q5_r2_w := @aopsE _ _ C.q5_r2.eq_1
def C.q5_c12 : ICode := .seq (.region C.q5_r2) .ret
def C.q5_c12_w := @awpE _ _ C.q5_c12.eq_1
def C.q5_c13 : ICode := .keep [0, 1, 10] (.cond (X.s 10) C.q5_c12 .skip)
def C.q5_c13_w := @awpE _ _ C.q5_c13.eq_1
def C.q5_r1_b : List IOper := [
 X.m 6 0,
 X.o 7 (.len (X.s 6)),
 X.m 8 1,
 X.o 9 (.len (X.s 8)),
 X.o 10 (.bin .neq (X.s 7) (X.s 9))]
def C.q5_r1 : List IOper := C.q5_r1_b
def C.q5_r1_w := @aopsE _ _ C.q5_r1.eq_1
def C.q5_c14 : ICode := .keep [0, 1] (.seq (.seq (.region C.q5_r1) C.q5_c13) C.q5_c11)
def C.q5_c14_w := @awpE _ _ C.q5_c14.eq_1
def C.q5_r0_b : List IOper := [
 X.o 4 (.move (.cst (.bool false)))]
def C.q5_r0 : List IOper := C.q5_r0_b
def C.q5_r0_w := @aopsE _ _ C.q5_r0.eq_1
def C.q5 : IFunc := ⟨2, [.slot 4], .seq (.region C.q5_r0) C.q5_c14⟩
def C.q5_W := And.intro (And.intro (And.intro (And.intro @C.q5_r8_w @C.q5_c1_w) (And.intro @C.q5_r5_w (And.intro @C.q5_c2_w @C.q5_r7_w))) (And.intro (And.intro @C.q5_c3_w (And.intro @C.q5_c4_w @C.q5_r6_w)) (And.intro @C.q5_b5_w (And.intro @C.q5_c6_w @C.q5_c7_w)))) (And.intro (And.intro (And.intro @C.q5_r4_w @C.q5_b9_w) (And.intro @C.q5_c10_w (And.intro @C.q5_r3_w @C.q5_c11_w))) (And.intro (And.intro @C.q5_r2_w (And.intro @C.q5_c12_w @C.q5_c13_w)) (And.intro @C.q5_r1_w (And.intro @C.q5_c14_w @C.q5_r0_w))))
def C.q5_B := And.intro (And.intro (And.intro @C.q5_r8_b.eq_1 @C.q5_r5_b.eq_1) (And.intro @C.q5_r7_b.eq_1 @C.q5_r6_b.eq_1)) (And.intro (And.intro @C.q5_r4_b.eq_1 @C.q5_r3_b.eq_1) (And.intro @C.q5_r2_b.eq_1 (And.intro @C.q5_r1_b.eq_1 @C.q5_r0_b.eq_1)))

def C.q28_r1_b : List IOper := [
 X.o 3 (.makeFunc F.q29 [X.s 1]),
 X.o 4 (.makeFunc F.q30 [X.s 1]),
 X.o 5 (.makeFunc F.q32 [X.s 1]),
 X.o 6 (.makeFunc F.q33 [X.s 1]),
 X.o 7 (.makeFunc F.q35 [X.s 1]),
 X.o 8 (.makeFunc F.q36 [X.s 1]),
 X.o 9 (.makeFunc F.q37 [X.s 1]),
 X.o 10 (.makeFunc F.q39 [X.s 1]),
 X.o 11 (.buildSlice 1 8 [.nilf] [(0, 1, X.s 3), (1, 1, X.s 4), (2, 1, X.s 5), (3, 1, X.s 6), (4, 1, X.s 7), (5, 1, X.s 8), (6, 1, X.s 9), (7, 1, X.s 10)]),
 X.o 12 (.call F.q63 [X.s 11]),
 X.m 2 12]
def C.q28_r1 : List IOper := C.q28_r1_b
def C.q28_r1_w := @aopsE _ _ C.q28_r1.eq_1
def C.q28_c1 : ICode := .keep [1] (.seq (.region C.q28_r1) .ret)
def C.q28_c1_w := @awpE _ _ C.q28_c1.eq_1
def C.q28_r0_b : List IOper := [
 X.o 1 (.boxN (X.s 0)),
 X.o 2 (.move (X.i 0))]
def C.q28_r0 : List IOper := C.q28_r0_b
def C.q28_r0_w := @aopsE _ _ C.q28_r0.eq_1
def C.q28 : IFunc := ⟨1, [.slot 2], .seq (.region C.q28_r0) C.q28_c1⟩
def C.q28_W := And.intro @C.q28_r1_w (And.intro @C.q28_c1_w @C.q28_r0_w)
def C.q28_B := And.intro @C.q28_r1_b.eq_1 @C.q28_r0_b.eq_1

def C.q73_r1_b : List IOper := [
 X.m 3 0,
 X.o 4 (.nilchk (X.s 3)),
 X.o 5 (.fldAddr 2 (X.s 4)),
 X.o 6 (.load1 (X.s 5)),
 X.m 2 6]
def C.q73_r1 : List IOper := C.q73_r1_b
def C.q73_r1_w := @aopsE _ _ C.q73_r1.eq_1
def C.q73_c1 : ICode := .keep [0] (.seq (.region C.q73_r1) .ret)
def C.q73_c1_w := @awpE _ _ C.q73_c1.eq_1
def C.q73_r0_b : List IOper := [
 X.o 2 (.move (.cst (.bool false)))]
def C.q73_r0 : List IOper := C.q73_r0_b
def C.q73_r0_w := @aopsE _ _ C.q73_r0.eq_1
def C.q73 : IFunc := ⟨1, [.slot 2], .seq (.region C.q73_r0) C.q73_c1⟩
def C.q73_W := And.intro @C.q73_r1_w (And.intro @C.q73_c1_w @C.q73_r0_w)
def C.q73_B := And.intro @C.q73_r1_b.eq_1 @C.q73_r0_b.eq_1

end Go.Proofs.Ytoblpialfhfdgaa.Cn
