/- The intermediate code of the functions, printed by a program out of the loaded program; that it is theirs is checked in the text of links. -/
import Derived.Test.YtkabdilikndhbaaCnL2
set_option linter.defProp false
namespace Go.Proofs.Ytkabdilikndhbaa.Cn
open Go
variable {P : Program} {Q : IExit → AFr → ASt → Prop} {fr : AFr} {st : ASt}

abbrev F.main_main : Nat := 0
abbrev F.gosem_cut : Nat := 1
abbrev F.gosem_cut_init : Nat := 2
abbrev F.catnaplaw8_ResetHolds : Nat := 3
abbrev F.catnaplaw8_ResetPlays : Nat := 4
abbrev F.catnaplaw8_ResetAgain : Nat := 5
abbrev F.catnaplaw8_ResetTicks : Nat := 6
abbrev F.catnaplaw8_ResetAll : Nat := 7
abbrev F.catnaplaw8_ResetLate : Nat := 8
abbrev F.catnaplaw8_shown : Nat := 9
abbrev F.catnaplaw8_chip : Nat := 10
abbrev F.reset_New : Nat := 11
abbrev F.catnaplaw8_pick : Nat := 12
abbrev F.reset_Lines_Release : Nat := 13
abbrev F.catnaplaw8_same : Nat := 14
abbrev F.reset_Lines_Tick : Nat := 15
abbrev F.reset_Lines_Assert : Nat := 16
abbrev F.reset_Lines_Held : Nat := 17
abbrev F.catnapref8_New : Nat := 18
abbrev F.catnapref8_Lines_Assert : Nat := 19
abbrev F.catnapref8_Lines_Release : Nat := 20
abbrev F.catnapref8_Lines_Tick : Nat := 21
abbrev F.catnapref8_Lines_Held : Nat := 22
abbrev F.reset_Lines_Left : Nat := 23
abbrev F.catnapref8_Lines_Left : Nat := 24
abbrev F.conf_Check : Nat := 25
abbrev F.reset_Lines_find : Nat := 26
abbrev F.catnapref4_Check : Nat := 27
abbrev F.conf_first : Nat := 28
abbrev F.conf_Check_1 : Nat := 29
abbrev F.conf_full : Nat := 30
abbrev F.conf_Check_2 : Nat := 31
abbrev F.conf_each_api_Clock : Nat := 32
abbrev F.conf_Check_2_1 : Nat := 33
abbrev F.conf_clock : Nat := 34
abbrev F.conf_Check_3 : Nat := 35
abbrev F.conf_cycle : Nat := 36
abbrev F.conf_Clocks : Nat := 37
abbrev F.conf_Check_4 : Nat := 38
abbrev F.conf_each_api_Domain : Nat := 39
abbrev F.conf_Check_4_1 : Nat := 40
abbrev F.conf_domain : Nat := 41
abbrev F.conf_Check_5 : Nat := 42
abbrev F.conf_Domains : Nat := 43
abbrev F.conf_Check_6 : Nat := 44
abbrev F.conf_each_api_Reset : Nat := 45
abbrev F.conf_reset : Nat := 46
abbrev F.conf_Check_7 : Nat := 47
abbrev F.conf_each_api_Device : Nat := 48
abbrev F.conf_Check_7_1 : Nat := 49
abbrev F.conf_device : Nat := 50
abbrev F.conf_Check_8 : Nat := 51
abbrev F.conf_Needs : Nat := 52
abbrev F.catnapref4_counts : Nat := 53
abbrev F.catnapref4_clocks : Nat := 54
abbrev F.catnapref4_domains : Nat := 55
abbrev F.catnapref4_within : Nat := 56
abbrev F.catnapref4_devices : Nat := 57
abbrev F.conf_full_1 : Nat := 58
abbrev F.conf_when : Nat := 59
abbrev F.conf_clock_1 : Nat := 60
abbrev F.conf_shape : Nat := 61
abbrev F.conf_clock_2 : Nat := 62
abbrev F.conf_each_int : Nat := 63
abbrev F.conf_clock_2_1 : Nat := 64
abbrev F.conf_within : Nat := 65
abbrev F.conf_clock_3 : Nat := 66
abbrev F.conf_numbers : Nat := 67
abbrev F.graph_Check : Nat := 68
abbrev F.conf_own_int : Nat := 69
abbrev F.conf_domain_1 : Nat := 70
abbrev F.conf_domain_2 : Nat := 71
abbrev F.conf_device_1 : Nat := 72
abbrev F.conf_device_2 : Nat := 73
abbrev F.conf_device_3 : Nat := 74
abbrev F.conf_device_4 : Nat := 75
abbrev F.conf_device_4_1 : Nat := 76
abbrev F.catnapref4_clock : Nat := 77
abbrev F.catnapref3_Check : Nat := 78
abbrev F.catnapref4_Clocks : Nat := 79
abbrev F.catnapref4_in : Nat := 80
abbrev F.catnapref4_Domains : Nat := 81
abbrev F.catnapref4_Needs : Nat := 82
abbrev F.graph_Order : Nat := 83
abbrev F.catnapref3_order : Nat := 84
abbrev F.graph_numbers : Nat := 85
abbrev F.graph_hang : Nat := 86
abbrev F.graph_marks_has : Nat := 87
abbrev F.graph_marks_add : Nat := 88
abbrev F.runtime_boundsError_Error : Nat := 89
abbrev F.runtime_boundsError_RuntimeError : Nat := 90
abbrev F.runtime_errorString_Error : Nat := 91
abbrev F.runtime_errorString_RuntimeError : Nat := 92
abbrev F.runtime_plainError_Error : Nat := 93
abbrev F.runtime_plainError_RuntimeError : Nat := 94
abbrev F.runtime_errorAddressString_Error : Nat := 95
abbrev F.runtime_errorAddressString_RuntimeError : Nat := 96
abbrev F.runtime_TypeAssertionError_Error : Nat := 97
abbrev F.runtime_TypeAssertionError_RuntimeError : Nat := 98
abbrev F.runtime_PanicNilError_Error : Nat := 99
abbrev F.runtime_PanicNilError_RuntimeError : Nat := 100
abbrev F.internal_abi_Type_Align : Nat := 101
abbrev F.internal_runtime_maps_unhashableTypeError_Error : Nat := 102
abbrev F.internal_runtime_maps_unhashableTypeError_RuntimeError : Nat := 103
abbrev F.api_Errno_Error : Nat := 104
abbrev F.internal_abi_Kind_String : Nat := 105

def C.catnaplaw8_ResetHolds_r20_b : List IOper := [
 X.o 6 (.move (.cst (.bool true)))]
def C.catnaplaw8_ResetHolds_r20 : List IOper := C.catnaplaw8_ResetHolds_r20_b
def C.catnaplaw8_ResetHolds_r20_w := @aopsE _ _ C.catnaplaw8_ResetHolds_r20.eq_1
def C.catnaplaw8_ResetHolds_c1 : ICode := .keep [] (.seq (.region C.catnaplaw8_ResetHolds_r20) .ret)
def C.catnaplaw8_ResetHolds_c1_w := @awpE _ _ C.catnaplaw8_ResetHolds_c1.eq_1
def C.catnaplaw8_ResetHolds_r13_b : List IOper := [
 X.m 89 14,
 X.o 90 (.bin .add (X.s 89) (X.i 1)),
 X.m 14 90]
def C.catnaplaw8_ResetHolds_r13 : List IOper := C.catnaplaw8_ResetHolds_r13_b
def C.catnaplaw8_ResetHolds_r13_w := @aopsE _ _ C.catnaplaw8_ResetHolds_r13.eq_1
def C.catnaplaw8_ResetHolds_c2 : ICode := .keep [9, 11, 12, 13, 14] (.region C.catnaplaw8_ResetHolds_r13)
def C.catnaplaw8_ResetHolds_c2_w := @awpE _ _ C.catnaplaw8_ResetHolds_c2.eq_1
def C.catnaplaw8_ResetHolds_r19_b : List IOper := [
 X.o 6 (.move (.cst (.bool false)))]
def C.catnaplaw8_ResetHolds_r19 : List IOper := C.catnaplaw8_ResetHolds_r19_b
def C.catnaplaw8_ResetHolds_r19_w := @aopsE _ _ C.catnaplaw8_ResetHolds_r19.eq_1
def C.catnaplaw8_ResetHolds_c3 : ICode := .seq (.region C.catnaplaw8_ResetHolds_r19) .ret
def C.catnaplaw8_ResetHolds_c3_w := @awpE _ _ C.catnaplaw8_ResetHolds_c3.eq_1
def C.catnaplaw8_ResetHolds_c4 : ICode := .keep [9, 11, 12, 13, 14, 129] (.cond (X.s 129) C.catnaplaw8_ResetHolds_c3 .skip)
def C.catnaplaw8_ResetHolds_c4_w := @awpE _ _ C.catnaplaw8_ResetHolds_c4.eq_1
def C.catnaplaw8_ResetHolds_r18_b : List IOper := [
 X.m 107 15,
 X.o 108 (.len (X.s 107)),
 X.o 109 (.bin .eql (X.s 108) (X.i 1)),
 X.m 110 109,
 X.t 110 111 (.move (X.s 15)),
 X.t 110 112 (.idxAddr 1 (X.s 111) (X.i 0)),
 X.t 110 113 (.load1 (X.s 112)),
 X.t 110 114 (.move (X.s 11)),
 X.t 110 115 (.bin .eql (X.s 113) (X.s 114)),
 X.o 116 (.pick (X.s 110) (X.s 115) (.cst (.bool false))),
 X.m 117 16,
 X.o 118 (.eqB true (X.s 116) (X.s 117)),
 X.m 119 118,
 X.f 119 120 (.move (X.s 9)),
 X.f 119 121 (.move (X.s 11)),
 X.f 119 122 (.call F.reset_Lines_Held [X.s 120, X.s 121]),
 X.f 119 123 (.move (X.s 14)),
 X.f 119 124 (.move (X.s 12)),
 X.f 119 125 (.move (X.s 13)),
 X.f 119 126 (.minmax true (X.s 124) (X.s 125)),
 X.f 119 127 (.bin .lss (X.s 123) (X.s 126)),
 X.f 119 128 (.eqB true (X.s 122) (X.s 127)),
 X.o 129 (.pick (X.s 119) (.cst (.bool true)) (X.s 128))]
def C.catnaplaw8_ResetHolds_r18 : List IOper := C.catnaplaw8_ResetHolds_r18_b
def C.catnaplaw8_ResetHolds_r18_w := @aopsE _ _ C.catnaplaw8_ResetHolds_r18.eq_1
def C.catnaplaw8_ResetHolds_c5 : ICode := .keep [9, 11, 12, 13, 14, 15, 16] (.seq (.region C.catnaplaw8_ResetHolds_r18) C.catnaplaw8_ResetHolds_c4)
def C.catnaplaw8_ResetHolds_c5_w := @awpE _ _ C.catnaplaw8_ResetHolds_c5.eq_1
def C.catnaplaw8_ResetHolds_r17_b : List IOper := [
 X.m 102 14,
 X.m 103 12,
 X.m 104 13,
 X.o 105 (.minmax true (X.s 103) (X.s 104)),
 X.o 106 (.bin .eql (X.s 102) (X.s 105)),
 X.m 16 106]
def C.catnaplaw8_ResetHolds_r17 : List IOper := C.catnaplaw8_ResetHolds_r17_b
def C.catnaplaw8_ResetHolds_r17_w := @aopsE _ _ C.catnaplaw8_ResetHolds_r17.eq_1
def C.catnaplaw8_ResetHolds_c6 : ICode := .keep [9, 11, 12, 13, 14, 15] (.seq (.region C.catnaplaw8_ResetHolds_r17) C.catnaplaw8_ResetHolds_c5)
def C.catnaplaw8_ResetHolds_c6_w := @awpE _ _ C.catnaplaw8_ResetHolds_c6.eq_1
def C.catnaplaw8_ResetHolds_r16_b : List IOper := [
 X.m 100 9,
 X.o 101 (.call F.reset_Lines_Tick [X.s 100]),
 X.m 15 101]
def C.catnaplaw8_ResetHolds_r16 : List IOper := C.catnaplaw8_ResetHolds_r16_b
def C.catnaplaw8_ResetHolds_r16_w := @aopsE _ _ C.catnaplaw8_ResetHolds_r16.eq_1
def C.catnaplaw8_ResetHolds_c7 : ICode := .keep [9, 11, 12, 13, 14] (.seq (.region C.catnaplaw8_ResetHolds_r16) C.catnaplaw8_ResetHolds_c6)
def C.catnaplaw8_ResetHolds_c7_w := @awpE _ _ C.catnaplaw8_ResetHolds_c7.eq_1
def C.catnaplaw8_ResetHolds_r15_b : List IOper := [
 X.o 6 (.move (.cst (.bool false)))]
def C.catnaplaw8_ResetHolds_r15 : List IOper := C.catnaplaw8_ResetHolds_r15_b
def C.catnaplaw8_ResetHolds_r15_w := @aopsE _ _ C.catnaplaw8_ResetHolds_r15.eq_1
def C.catnaplaw8_ResetHolds_c8 : ICode := .seq (.region C.catnaplaw8_ResetHolds_r15) .ret
def C.catnaplaw8_ResetHolds_c8_w := @awpE _ _ C.catnaplaw8_ResetHolds_c8.eq_1
def C.catnaplaw8_ResetHolds_c9 : ICode := .keep [9, 11, 12, 13, 14, 99] (.cond (X.s 99) C.catnaplaw8_ResetHolds_c8 .skip)
def C.catnaplaw8_ResetHolds_c9_w := @awpE _ _ C.catnaplaw8_ResetHolds_c9.eq_1
def C.catnaplaw8_ResetHolds_r14_b : List IOper := [
 X.m 91 14,
 X.m 92 13,
 X.o 93 (.bin .eql (X.s 91) (X.s 92)),
 X.m 94 93,
 X.t 94 95 (.move (X.s 9)),
 X.t 94 96 (.move (X.s 11)),
 X.t 94 97 (.call F.reset_Lines_Release [X.s 95, X.s 96]),
 X.t 94 98 (.bin .neq (X.s 97) (X.i 0)),
 X.o 99 (.pick (X.s 94) (X.s 98) (.cst (.bool false)))]
def C.catnaplaw8_ResetHolds_r14 : List IOper := C.catnaplaw8_ResetHolds_r14_b
def C.catnaplaw8_ResetHolds_r14_w := @aopsE _ _ C.catnaplaw8_ResetHolds_r14.eq_1
def C.catnaplaw8_ResetHolds_b10 : ICode := .seq (.seq (.region C.catnaplaw8_ResetHolds_r14) C.catnaplaw8_ResetHolds_c9) C.catnaplaw8_ResetHolds_c7
def C.catnaplaw8_ResetHolds_b10_w := @awpE _ _ C.catnaplaw8_ResetHolds_b10.eq_1
def C.catnaplaw8_ResetHolds_c11 : ICode := .keep [9, 11, 12, 13, 14] (.seq (.block 1 C.catnaplaw8_ResetHolds_b10) C.catnaplaw8_ResetHolds_c2)
def C.catnaplaw8_ResetHolds_c11_w := @awpE _ _ C.catnaplaw8_ResetHolds_c11.eq_1
def C.catnaplaw8_ResetHolds_c12 : ICode := .keep [9, 11, 12, 13, 14, 88] (.cond (X.s 88) .skip (.exit 0))
def C.catnaplaw8_ResetHolds_c12_w := @awpE _ _ C.catnaplaw8_ResetHolds_c12.eq_1
def C.catnaplaw8_ResetHolds_r12_b : List IOper := [
 X.m 87 14,
 X.o 88 (.bin .lss (X.s 87) (X.i 60))]
def C.catnaplaw8_ResetHolds_r12 : List IOper := C.catnaplaw8_ResetHolds_r12_b
def C.catnaplaw8_ResetHolds_r12_w := @aopsE _ _ C.catnaplaw8_ResetHolds_r12.eq_1
def C.catnaplaw8_ResetHolds_l13 : ICode := .keep [9, 11, 12, 13, 14] (.seq (.seq (.region C.catnaplaw8_ResetHolds_r12) C.catnaplaw8_ResetHolds_c12) C.catnaplaw8_ResetHolds_c11)
def C.catnaplaw8_ResetHolds_l13_w := @awpE _ _ C.catnaplaw8_ResetHolds_l13.eq_1
def C.catnaplaw8_ResetHolds_b14 : ICode := .loop C.catnaplaw8_ResetHolds_l13
def C.catnaplaw8_ResetHolds_b14_w := @awpE _ _ C.catnaplaw8_ResetHolds_b14.eq_1
def C.catnaplaw8_ResetHolds_c15 : ICode := .keep [9, 11, 12, 13, 14] (.block 0 C.catnaplaw8_ResetHolds_b14)
def C.catnaplaw8_ResetHolds_c15_w := @awpE _ _ C.catnaplaw8_ResetHolds_c15.eq_1
def C.catnaplaw8_ResetHolds_r11_b : List IOper := [
 X.o 14 (.move (X.i 0))]
def C.catnaplaw8_ResetHolds_r11 : List IOper := C.catnaplaw8_ResetHolds_r11_b
def C.catnaplaw8_ResetHolds_r11_w := @aopsE _ _ C.catnaplaw8_ResetHolds_r11.eq_1
def C.catnaplaw8_ResetHolds_c16 : ICode := .keep [9, 11, 12, 13] (.seq (.seq (.region C.catnaplaw8_ResetHolds_r11) C.catnaplaw8_ResetHolds_c15) C.catnaplaw8_ResetHolds_c1)
def C.catnaplaw8_ResetHolds_c16_w := @awpE _ _ C.catnaplaw8_ResetHolds_c16.eq_1
def C.catnaplaw8_ResetHolds_r10_b : List IOper := [
 X.o 6 (.move (.cst (.bool false)))]
def C.catnaplaw8_ResetHolds_r10 : List IOper := C.catnaplaw8_ResetHolds_r10_b
def C.catnaplaw8_ResetHolds_r10_w := @aopsE _ _ C.catnaplaw8_ResetHolds_r10.eq_1
def C.catnaplaw8_ResetHolds_c17 : ICode := .seq (.region C.catnaplaw8_ResetHolds_r10) .ret
def C.catnaplaw8_ResetHolds_c17_w := @awpE _ _ C.catnaplaw8_ResetHolds_c17.eq_1
def C.catnaplaw8_ResetHolds_c18 : ICode := .keep [9, 11, 12, 13, 86] (.cond (X.s 86) C.catnaplaw8_ResetHolds_c17 .skip)
def C.catnaplaw8_ResetHolds_c18_w := @awpE _ _ C.catnaplaw8_ResetHolds_c18.eq_1
def C.catnaplaw8_ResetHolds_r9_b : List IOper := [
 X.m 63 9,
 X.m 64 11,
 X.o 65 (.call F.reset_Lines_Release [X.s 63, X.s 64]),
 X.o 66 (.bin .neq (X.s 65) (X.i 0)),
 X.m 67 66,
 X.f 67 68 (.move (X.s 9)),
 X.f 67 69 (.call F.reset_Lines_Tick [X.s 68]),
 X.f 67 70 (.move (X.s 11)),
 X.f 67 71 (.buildSlice 1 1 [.int .i64 0] [(0, 1, X.s 70)]),
 X.f 67 72 (.call F.catnaplaw8_same [X.s 69, X.s 71]),
 X.f 67 73 (.un .not (X.s 72)),
 X.o 74 (.pick (X.s 67) (.cst (.bool true)) (X.s 73)),
 X.m 75 74,
 X.f 75 76 (.move (X.s 9)),
 X.f 75 77 (.move (X.s 11)),
 X.f 75 78 (.call F.reset_Lines_Release [X.s 76, X.s 77]),
 X.f 75 79 (.bin .neq (X.s 78) (X.i 6)),
 X.o 80 (.pick (X.s 75) (.cst (.bool true)) (X.s 79)),
 X.m 81 80,
 X.f 81 82 (.move (X.s 9)),
 X.f 81 83 (.move (X.s 11)),
 X.f 81 84 (.call F.reset_Lines_Assert [X.s 82, X.s 83]),
 X.f 81 85 (.bin .neq (X.s 84) (X.i 0)),
 X.o 86 (.pick (X.s 81) (.cst (.bool true)) (X.s 85))]
def C.catnaplaw8_ResetHolds_r9 : List IOper := C.catnaplaw8_ResetHolds_r9_b
def C.catnaplaw8_ResetHolds_r9_w := @aopsE _ _ C.catnaplaw8_ResetHolds_r9.eq_1
def C.catnaplaw8_ResetHolds_c19 : ICode := .keep [9, 11, 12, 13] (.seq (.seq (.region C.catnaplaw8_ResetHolds_r9) C.catnaplaw8_ResetHolds_c18) C.catnaplaw8_ResetHolds_c16)
def C.catnaplaw8_ResetHolds_c19_w := @awpE _ _ C.catnaplaw8_ResetHolds_c19.eq_1
def C.catnaplaw8_ResetHolds_r8_b : List IOper := [
 X.m 61 2,
 X.o 62 (.call F.catnaplaw8_pick [X.s 61, X.i 30]),
 X.m 13 62]
def C.catnaplaw8_ResetHolds_r8 : List IOper := C.catnaplaw8_ResetHolds_r8_b
def C.catnaplaw8_ResetHolds_r8_w := @aopsE _ _ C.catnaplaw8_ResetHolds_r8.eq_1
def C.catnaplaw8_ResetHolds_c20 : ICode := .keep [2, 9, 11, 12] (.seq (.region C.catnaplaw8_ResetHolds_r8) C.catnaplaw8_ResetHolds_c19)
def C.catnaplaw8_ResetHolds_c20_w := @awpE _ _ C.catnaplaw8_ResetHolds_c20.eq_1
def C.catnaplaw8_ResetHolds_r7_b : List IOper := [
 X.o 55 (.fldAddr 2 (X.s 8)),
 X.o 56 (.load1 (X.s 55)),
 X.m 57 11,
 X.o 58 (.idxAddr 1 (X.s 56) (X.s 57)),
 X.o 59 (.fldAddr 0 (X.s 58)),
 X.o 60 (.load1 (X.s 59)),
 X.m 12 60]
def C.catnaplaw8_ResetHolds_r7 : List IOper := C.catnaplaw8_ResetHolds_r7_b
def C.catnaplaw8_ResetHolds_r7_w := @aopsE _ _ C.catnaplaw8_ResetHolds_r7.eq_1
def C.catnaplaw8_ResetHolds_c21 : ICode := .keep [2, 8, 9, 11] (.seq (.region C.catnaplaw8_ResetHolds_r7) C.catnaplaw8_ResetHolds_c20)
def C.catnaplaw8_ResetHolds_c21_w := @awpE _ _ C.catnaplaw8_ResetHolds_c21.eq_1
def C.catnaplaw8_ResetHolds_r6_b : List IOper := [
 X.m 50 1,
 X.o 51 (.fldAddr 2 (X.s 8)),
 X.o 52 (.load1 (X.s 51)),
 X.o 53 (.len (X.s 52)),
 X.o 54 (.call F.catnaplaw8_pick [X.s 50, X.s 53]),
 X.m 11 54]
def C.catnaplaw8_ResetHolds_r6 : List IOper := C.catnaplaw8_ResetHolds_r6_b
def C.catnaplaw8_ResetHolds_r6_w := @aopsE _ _ C.catnaplaw8_ResetHolds_r6.eq_1
def C.catnaplaw8_ResetHolds_c22 : ICode := .keep [1, 2, 8, 9] (.seq (.region C.catnaplaw8_ResetHolds_r6) C.catnaplaw8_ResetHolds_c21)
def C.catnaplaw8_ResetHolds_c22_w := @awpE _ _ C.catnaplaw8_ResetHolds_c22.eq_1
def C.catnaplaw8_ResetHolds_r5_b : List IOper := [
 X.m 41 7,
 X.m 42 41,
 X.t 42 43 (.move (X.s 9)),
 X.t 42 44 (.eqP 0 true (X.s 43) (.cst (.nilp))),
 X.o 45 (.pick (X.s 42) (X.s 44) (.cst (.bool false))),
 X.m 46 45,
 X.t 46 47 (.move (X.s 10)),
 X.t 46 48 (.bin .eql (X.s 47) (X.i 0)),
 X.o 49 (.pick (X.s 46) (X.s 48) (.cst (.bool false))),
 X.m 6 49]
def C.catnaplaw8_ResetHolds_r5 : List IOper := C.catnaplaw8_ResetHolds_r5_b
def C.catnaplaw8_ResetHolds_r5_w := @aopsE _ _ C.catnaplaw8_ResetHolds_r5.eq_1
def C.catnaplaw8_ResetHolds_c23 : ICode := .seq (.region C.catnaplaw8_ResetHolds_r5) .ret
def C.catnaplaw8_ResetHolds_c23_w := @awpE _ _ C.catnaplaw8_ResetHolds_c23.eq_1
def C.catnaplaw8_ResetHolds_c24 : ICode := .keep [1, 2, 7, 8, 9, 10, 40] (.cond (X.s 40) C.catnaplaw8_ResetHolds_c23 .skip)
def C.catnaplaw8_ResetHolds_c24_w := @awpE _ _ C.catnaplaw8_ResetHolds_c24.eq_1
def C.catnaplaw8_ResetHolds_r4_b : List IOper := [
 X.m 25 7,
 X.o 26 (.un .not (X.s 25)),
 X.m 27 26,
 X.f 27 28 (.move (X.s 9)),
 X.f 27 29 (.eqP 0 false (X.s 28) (.cst (.nilp))),
 X.o 30 (.pick (X.s 27) (.cst (.bool true)) (X.s 29)),
 X.m 31 30,
 X.f 31 32 (.move (X.s 10)),
 X.f 31 33 (.bin .neq (X.s 32) (X.i 0)),
 X.o 34 (.pick (X.s 31) (.cst (.bool true)) (X.s 33)),
 X.m 35 34,
 X.f 35 36 (.fldAddr 2 (X.s 8)),
 X.f 35 37 (.load1 (X.s 36)),
 X.f 35 38 (.len (X.s 37)),
 X.f 35 39 (.bin .eql (X.s 38) (X.i 0)),
 X.o 40 (.pick (X.s 35) (.cst (.bool true)) (X.s 39))]
def C.catnaplaw8_ResetHolds_r4 : List IOper := C.catnaplaw8_ResetHolds_r4_b
def C.catnaplaw8_ResetHolds_r4_w := @aopsE _ _ C.catnaplaw8_ResetHolds_r4.eq_1
def C.catnaplaw8_ResetHolds_c25 : ICode := .keep [1, 2, 7, 8, 9, 10] (.seq (.seq (.region C.catnaplaw8_ResetHolds_r4) C.catnaplaw8_ResetHolds_c24) C.catnaplaw8_ResetHolds_c22)
def C.catnaplaw8_ResetHolds_c25_w := @awpE _ _ C.catnaplaw8_ResetHolds_c25.eq_1
def C.catnaplaw8_ResetHolds_r3_b : List IOper := [
 X.o 21 (.loadN 4 (X.s 8)),
 X.o 22 (.call F.reset_New [X.s 21]),
 X.m 20 22,
 X.o 23 (.extract (X.s 20) 0),
 X.o 24 (.extract (X.s 20) 1),
 X.m 9 23,
 X.m 10 24]
def C.catnaplaw8_ResetHolds_r3 : List IOper := C.catnaplaw8_ResetHolds_r3_b
def C.catnaplaw8_ResetHolds_r3_w := @aopsE _ _ C.catnaplaw8_ResetHolds_r3.eq_1
def C.catnaplaw8_ResetHolds_c26 : ICode := .keep [1, 2, 7, 8] (.seq (.region C.catnaplaw8_ResetHolds_r3) C.catnaplaw8_ResetHolds_c25)
def C.catnaplaw8_ResetHolds_c26_w := @awpE _ _ C.catnaplaw8_ResetHolds_c26.eq_1
def C.catnaplaw8_ResetHolds_r2_b : List IOper := [
 X.m 18 0,
 X.o 19 (.call F.catnaplaw8_chip [X.s 18]),
 X.o 8 (.alloc [.nils, .nils, .nils, .nils]),
 X.n (.storeN 4 (X.s 8) (X.s 19))]
def C.catnaplaw8_ResetHolds_r2 : List IOper := C.catnaplaw8_ResetHolds_r2_b
def C.catnaplaw8_ResetHolds_r2_w := @aopsE _ _ C.catnaplaw8_ResetHolds_r2.eq_1
def C.catnaplaw8_ResetHolds_c27 : ICode := .keep [0, 1, 2, 7] (.seq (.region C.catnaplaw8_ResetHolds_r2) C.catnaplaw8_ResetHolds_c26)
def C.catnaplaw8_ResetHolds_c27_w := @awpE _ _ C.catnaplaw8_ResetHolds_c27.eq_1
def C.catnaplaw8_ResetHolds_r1_b : List IOper := [
 X.o 17 (.call F.catnaplaw8_shown []),
 X.m 7 17]
def C.catnaplaw8_ResetHolds_r1 : List IOper := C.catnaplaw8_ResetHolds_r1_b
def C.catnaplaw8_ResetHolds_r1_w := @aopsE _ _ C.catnaplaw8_ResetHolds_r1.eq_1
def C.catnaplaw8_ResetHolds_c28 : ICode := .keep [0, 1, 2] (.seq (.region C.catnaplaw8_ResetHolds_r1) C.catnaplaw8_ResetHolds_c27)
def C.catnaplaw8_ResetHolds_c28_w := @awpE _ _ C.catnaplaw8_ResetHolds_c28.eq_1
def C.catnaplaw8_ResetHolds_r0_b : List IOper := [
 X.o 6 (.move (.cst (.bool false)))]
def C.catnaplaw8_ResetHolds_r0 : List IOper := C.catnaplaw8_ResetHolds_r0_b
def C.catnaplaw8_ResetHolds_r0_w := @aopsE _ _ C.catnaplaw8_ResetHolds_r0.eq_1
def C.catnaplaw8_ResetHolds : IFunc := ⟨3, [.slot 6], .seq (.region C.catnaplaw8_ResetHolds_r0) C.catnaplaw8_ResetHolds_c28⟩
def C.catnaplaw8_ResetHolds_W := And.intro (And.intro (And.intro (And.intro (And.intro @C.catnaplaw8_ResetHolds_r20_w (And.intro @C.catnaplaw8_ResetHolds_c1_w @C.catnaplaw8_ResetHolds_r13_w)) (And.intro @C.catnaplaw8_ResetHolds_c2_w (And.intro @C.catnaplaw8_ResetHolds_r19_w @C.catnaplaw8_ResetHolds_c3_w))) (And.intro (And.intro @C.catnaplaw8_ResetHolds_c4_w (And.intro @C.catnaplaw8_ResetHolds_r18_w @C.catnaplaw8_ResetHolds_c5_w)) (And.intro @C.catnaplaw8_ResetHolds_r17_w (And.intro @C.catnaplaw8_ResetHolds_c6_w @C.catnaplaw8_ResetHolds_r16_w)))) (And.intro (And.intro (And.intro @C.catnaplaw8_ResetHolds_c7_w (And.intro @C.catnaplaw8_ResetHolds_r15_w @C.catnaplaw8_ResetHolds_c8_w)) (And.intro @C.catnaplaw8_ResetHolds_c9_w (And.intro @C.catnaplaw8_ResetHolds_r14_w @C.catnaplaw8_ResetHolds_b10_w))) (And.intro (And.intro @C.catnaplaw8_ResetHolds_c11_w (And.intro @C.catnaplaw8_ResetHolds_c12_w @C.catnaplaw8_ResetHolds_r12_w)) (And.intro @C.catnaplaw8_ResetHolds_b14_w (And.intro @C.catnaplaw8_ResetHolds_c15_w @C.catnaplaw8_ResetHolds_r11_w))))) (And.intro (And.intro (And.intro (And.intro @C.catnaplaw8_ResetHolds_c16_w (And.intro @C.catnaplaw8_ResetHolds_r10_w @C.catnaplaw8_ResetHolds_c17_w)) (And.intro @C.catnaplaw8_ResetHolds_c18_w (And.intro @C.catnaplaw8_ResetHolds_r9_w @C.catnaplaw8_ResetHolds_c19_w))) (And.intro (And.intro @C.catnaplaw8_ResetHolds_r8_w (And.intro @C.catnaplaw8_ResetHolds_c20_w @C.catnaplaw8_ResetHolds_r7_w)) (And.intro @C.catnaplaw8_ResetHolds_c21_w (And.intro @C.catnaplaw8_ResetHolds_r6_w @C.catnaplaw8_ResetHolds_c22_w)))) (And.intro (And.intro (And.intro @C.catnaplaw8_ResetHolds_r5_w (And.intro @C.catnaplaw8_ResetHolds_c23_w @C.catnaplaw8_ResetHolds_c24_w)) (And.intro @C.catnaplaw8_ResetHolds_r4_w (And.intro @C.catnaplaw8_ResetHolds_c25_w @C.catnaplaw8_ResetHolds_r3_w))) (And.intro (And.intro @C.catnaplaw8_ResetHolds_c26_w (And.intro @C.catnaplaw8_ResetHolds_r2_w @C.catnaplaw8_ResetHolds_c27_w)) (And.intro @C.catnaplaw8_ResetHolds_r1_w (And.intro @C.catnaplaw8_ResetHolds_c28_w @C.catnaplaw8_ResetHolds_r0_w)))))
def C.catnaplaw8_ResetHolds_B := And.intro (And.intro (And.intro (And.intro @C.catnaplaw8_ResetHolds_r20_b.eq_1 @C.catnaplaw8_ResetHolds_r13_b.eq_1) (And.intro @C.catnaplaw8_ResetHolds_r19_b.eq_1 (And.intro @C.catnaplaw8_ResetHolds_r18_b.eq_1 @C.catnaplaw8_ResetHolds_r17_b.eq_1))) (And.intro (And.intro @C.catnaplaw8_ResetHolds_r16_b.eq_1 @C.catnaplaw8_ResetHolds_r15_b.eq_1) (And.intro @C.catnaplaw8_ResetHolds_r14_b.eq_1 (And.intro @C.catnaplaw8_ResetHolds_r12_b.eq_1 @C.catnaplaw8_ResetHolds_r11_b.eq_1)))) (And.intro (And.intro (And.intro @C.catnaplaw8_ResetHolds_r10_b.eq_1 @C.catnaplaw8_ResetHolds_r9_b.eq_1) (And.intro @C.catnaplaw8_ResetHolds_r8_b.eq_1 (And.intro @C.catnaplaw8_ResetHolds_r7_b.eq_1 @C.catnaplaw8_ResetHolds_r6_b.eq_1))) (And.intro (And.intro @C.catnaplaw8_ResetHolds_r5_b.eq_1 (And.intro @C.catnaplaw8_ResetHolds_r4_b.eq_1 @C.catnaplaw8_ResetHolds_r3_b.eq_1)) (And.intro @C.catnaplaw8_ResetHolds_r2_b.eq_1 (And.intro @C.catnaplaw8_ResetHolds_r1_b.eq_1 @C.catnaplaw8_ResetHolds_r0_b.eq_1))))

def C.catnaplaw8_ResetPlays_r25_b : List IOper := [
 X.m 123 8,
 X.o 124 (.bin .eql (X.s 123) (X.i 0)),
 X.m 125 124,
 X.t 125 126 (.move (X.s 10)),
 X.t 125 127 (.bin .eql (X.s 126) (X.i 0)),
 X.o 128 (.pick (X.s 125) (X.s 127) (.cst (.bool false))),
 X.m 4 128]
def C.catnaplaw8_ResetPlays_r25 : List IOper := C.catnaplaw8_ResetPlays_r25_b
def C.catnaplaw8_ResetPlays_r25_w := @aopsE _ _ C.catnaplaw8_ResetPlays_r25.eq_1
def C.catnaplaw8_ResetPlays_c1 : ICode := .keep [8, 10] (.seq (.region C.catnaplaw8_ResetPlays_r25) .ret)
def C.catnaplaw8_ResetPlays_c1_w := @awpE _ _ C.catnaplaw8_ResetPlays_c1.eq_1
def C.catnaplaw8_ResetPlays_r9_b : List IOper := [
 X.m 56 11,
 X.o 57 (.bin .add (X.s 56) (X.i 1)),
 X.m 11 57]
def C.catnaplaw8_ResetPlays_r9 : List IOper := C.catnaplaw8_ResetPlays_r9_b
def C.catnaplaw8_ResetPlays_r9_w := @aopsE _ _ C.catnaplaw8_ResetPlays_r9.eq_1
def C.catnaplaw8_ResetPlays_c2 : ICode := .keep [1, 6, 7, 8, 9, 10, 11] (.region C.catnaplaw8_ResetPlays_r9)
def C.catnaplaw8_ResetPlays_c2_w := @awpE _ _ C.catnaplaw8_ResetPlays_c2.eq_1
def C.catnaplaw8_ResetPlays_r22_b : List IOper := [
 X.m 105 14,
 X.o 106 (.bin .add (X.s 105) (X.i 1)),
 X.m 14 106]
def C.catnaplaw8_ResetPlays_r22 : List IOper := C.catnaplaw8_ResetPlays_r22_b
def C.catnaplaw8_ResetPlays_r22_w := @aopsE _ _ C.catnaplaw8_ResetPlays_r22.eq_1
def C.catnaplaw8_ResetPlays_c3 : ICode := .keep [1, 6, 7, 8, 9, 10, 11, 14] (.region C.catnaplaw8_ResetPlays_r22)
def C.catnaplaw8_ResetPlays_c3_w := @awpE _ _ C.catnaplaw8_ResetPlays_c3.eq_1
def C.catnaplaw8_ResetPlays_r24_b : List IOper := [
 X.o 4 (.move (.cst (.bool false)))]
def C.catnaplaw8_ResetPlays_r24 : List IOper := C.catnaplaw8_ResetPlays_r24_b
def C.catnaplaw8_ResetPlays_r24_w := @aopsE _ _ C.catnaplaw8_ResetPlays_r24.eq_1
def C.catnaplaw8_ResetPlays_c4 : ICode := .seq (.region C.catnaplaw8_ResetPlays_r24) .ret
def C.catnaplaw8_ResetPlays_c4_w := @awpE _ _ C.catnaplaw8_ResetPlays_c4.eq_1
def C.catnaplaw8_ResetPlays_c5 : ICode := .keep [1, 6, 7, 8, 9, 10, 11, 14, 122] (.cond (X.s 122) C.catnaplaw8_ResetPlays_c4 .skip)
def C.catnaplaw8_ResetPlays_c5_w := @awpE _ _ C.catnaplaw8_ResetPlays_c5.eq_1
def C.catnaplaw8_ResetPlays_r23_b : List IOper := [
 X.m 107 7,
 X.m 108 14,
 X.o 109 (.call F.reset_Lines_Held [X.s 107, X.s 108]),
 X.m 110 9,
 X.m 111 14,
 X.o 112 (.call F.catnapref8_Lines_Held [X.s 110, X.s 111]),
 X.o 113 (.eqB true (X.s 109) (X.s 112)),
 X.m 114 113,
 X.f 114 115 (.move (X.s 7)),
 X.f 114 116 (.move (X.s 14)),
 X.f 114 117 (.call F.reset_Lines_Left [X.s 115, X.s 116]),
 X.f 114 118 (.move (X.s 9)),
 X.f 114 119 (.move (X.s 14)),
 X.f 114 120 (.call F.catnapref8_Lines_Left [X.s 118, X.s 119]),
 X.f 114 121 (.bin .neq (X.s 117) (X.s 120)),
 X.o 122 (.pick (X.s 114) (.cst (.bool true)) (X.s 121))]
def C.catnaplaw8_ResetPlays_r23 : List IOper := C.catnaplaw8_ResetPlays_r23_b
def C.catnaplaw8_ResetPlays_r23_w := @aopsE _ _ C.catnaplaw8_ResetPlays_r23.eq_1
def C.catnaplaw8_ResetPlays_b6 : ICode := .seq (.region C.catnaplaw8_ResetPlays_r23) C.catnaplaw8_ResetPlays_c5
def C.catnaplaw8_ResetPlays_b6_w := @awpE _ _ C.catnaplaw8_ResetPlays_b6.eq_1
def C.catnaplaw8_ResetPlays_c7 : ICode := .keep [1, 6, 7, 8, 9, 10, 11, 14] (.seq (.block 4 C.catnaplaw8_ResetPlays_b6) C.catnaplaw8_ResetPlays_c3)
def C.catnaplaw8_ResetPlays_c7_w := @awpE _ _ C.catnaplaw8_ResetPlays_c7.eq_1
def C.catnaplaw8_ResetPlays_c8 : ICode := .keep [1, 6, 7, 8, 9, 10, 11, 14, 104] (.cond (X.s 104) .skip (.exit 3))
def C.catnaplaw8_ResetPlays_c8_w := @awpE _ _ C.catnaplaw8_ResetPlays_c8.eq_1
def C.catnaplaw8_ResetPlays_r21_b : List IOper := [
 X.m 100 14,
 X.o 101 (.fldAddr 2 (X.s 6)),
 X.o 102 (.load1 (X.s 101)),
 X.o 103 (.len (X.s 102)),
 X.o 104 (.bin .leq (X.s 100) (X.s 103))]
def C.catnaplaw8_ResetPlays_r21 : List IOper := C.catnaplaw8_ResetPlays_r21_b
def C.catnaplaw8_ResetPlays_r21_w := @aopsE _ _ C.catnaplaw8_ResetPlays_r21.eq_1
def C.catnaplaw8_ResetPlays_l9 : ICode := .keep [1, 6, 7, 8, 9, 10, 11, 14] (.seq (.seq (.region C.catnaplaw8_ResetPlays_r21) C.catnaplaw8_ResetPlays_c8) C.catnaplaw8_ResetPlays_c7)
def C.catnaplaw8_ResetPlays_l9_w := @awpE _ _ C.catnaplaw8_ResetPlays_l9.eq_1
def C.catnaplaw8_ResetPlays_b10 : ICode := .loop C.catnaplaw8_ResetPlays_l9
def C.catnaplaw8_ResetPlays_b10_w := @awpE _ _ C.catnaplaw8_ResetPlays_b10.eq_1
def C.catnaplaw8_ResetPlays_c11 : ICode := .keep [1, 6, 7, 8, 9, 10, 11, 14] (.block 3 C.catnaplaw8_ResetPlays_b10)
def C.catnaplaw8_ResetPlays_c11_w := @awpE _ _ C.catnaplaw8_ResetPlays_c11.eq_1
def C.catnaplaw8_ResetPlays_r20_b : List IOper := [
 X.o 14 (.move (X.i (-1)))]
def C.catnaplaw8_ResetPlays_r20 : List IOper := C.catnaplaw8_ResetPlays_r20_b
def C.catnaplaw8_ResetPlays_r20_w := @aopsE _ _ C.catnaplaw8_ResetPlays_r20.eq_1
def C.catnaplaw8_ResetPlays_c12 : ICode := .keep [1, 6, 7, 8, 9, 10, 11] (.seq (.region C.catnaplaw8_ResetPlays_r20) C.catnaplaw8_ResetPlays_c11)
def C.catnaplaw8_ResetPlays_c12_w := @awpE _ _ C.catnaplaw8_ResetPlays_c12.eq_1
def C.catnaplaw8_ResetPlays_r19_b : List IOper := [
 X.o 4 (.move (.cst (.bool false)))]
def C.catnaplaw8_ResetPlays_r19 : List IOper := C.catnaplaw8_ResetPlays_r19_b
def C.catnaplaw8_ResetPlays_r19_w := @aopsE _ _ C.catnaplaw8_ResetPlays_r19.eq_1
def C.catnaplaw8_ResetPlays_c13 : ICode := .seq (.region C.catnaplaw8_ResetPlays_r19) .ret
def C.catnaplaw8_ResetPlays_c13_w := @awpE _ _ C.catnaplaw8_ResetPlays_c13.eq_1
def C.catnaplaw8_ResetPlays_c14 : ICode := .keep [1, 6, 7, 8, 9, 10, 11, 99] (.cond (X.s 99) C.catnaplaw8_ResetPlays_c13 .skip)
def C.catnaplaw8_ResetPlays_c14_w := @awpE _ _ C.catnaplaw8_ResetPlays_c14.eq_1
def C.catnaplaw8_ResetPlays_r18_b : List IOper := [
 X.m 98 13,
 X.o 99 (.un .not (X.s 98))]
def C.catnaplaw8_ResetPlays_r18 : List IOper := C.catnaplaw8_ResetPlays_r18_b
def C.catnaplaw8_ResetPlays_r18_w := @aopsE _ _ C.catnaplaw8_ResetPlays_r18.eq_1
def C.catnaplaw8_ResetPlays_c15 : ICode := .keep [1, 6, 7, 8, 9, 10, 11, 13] (.seq (.seq (.region C.catnaplaw8_ResetPlays_r18) C.catnaplaw8_ResetPlays_c14) C.catnaplaw8_ResetPlays_c12)
def C.catnaplaw8_ResetPlays_c15_w := @awpE _ _ C.catnaplaw8_ResetPlays_c15.eq_1
def C.catnaplaw8_ResetPlays_r15_b : List IOper := [
 X.m 82 7,
 X.m 83 12,
 X.o 84 (.call F.reset_Lines_Assert [X.s 82, X.s 83]),
 X.m 85 9,
 X.m 86 12,
 X.o 87 (.call F.catnapref8_Lines_Assert [X.s 85, X.s 86]),
 X.o 88 (.bin .eql (X.s 84) (X.s 87)),
 X.m 13 88]
def C.catnaplaw8_ResetPlays_r15 : List IOper := C.catnaplaw8_ResetPlays_r15_b
def C.catnaplaw8_ResetPlays_r15_w := @aopsE _ _ C.catnaplaw8_ResetPlays_r15.eq_1
def C.catnaplaw8_ResetPlays_r17_b : List IOper := [
 X.m 91 7,
 X.m 92 12,
 X.o 93 (.call F.reset_Lines_Release [X.s 91, X.s 92]),
 X.m 94 9,
 X.m 95 12,
 X.o 96 (.call F.catnapref8_Lines_Release [X.s 94, X.s 95]),
 X.o 97 (.bin .eql (X.s 93) (X.s 96)),
 X.m 13 97]
def C.catnaplaw8_ResetPlays_r17 : List IOper := C.catnaplaw8_ResetPlays_r17_b
def C.catnaplaw8_ResetPlays_r17_w := @aopsE _ _ C.catnaplaw8_ResetPlays_r17.eq_1
def C.catnaplaw8_ResetPlays_r13_b : List IOper := [
 X.m 75 7,
 X.o 76 (.call F.reset_Lines_Tick [X.s 75]),
 X.m 77 9,
 X.o 78 (.call F.catnapref8_Lines_Tick [X.s 77]),
 X.o 79 (.call F.catnaplaw8_same [X.s 76, X.s 78]),
 X.m 13 79]
def C.catnaplaw8_ResetPlays_r13 : List IOper := C.catnaplaw8_ResetPlays_r13_b
def C.catnaplaw8_ResetPlays_r13_w := @aopsE _ _ C.catnaplaw8_ResetPlays_r13.eq_1
def C.catnaplaw8_ResetPlays_c16 : ICode := .region C.catnaplaw8_ResetPlays_r17
def C.catnaplaw8_ResetPlays_c16_w := @awpE _ _ C.catnaplaw8_ResetPlays_c16.eq_1
def C.catnaplaw8_ResetPlays_c17 : ICode := .region C.catnaplaw8_ResetPlays_r13
def C.catnaplaw8_ResetPlays_c17_w := @awpE _ _ C.catnaplaw8_ResetPlays_c17.eq_1
def C.catnaplaw8_ResetPlays_c18 : ICode := .keep [1, 6, 7, 8, 9, 10, 11, 12, 89] (.cond (X.s 89) C.catnaplaw8_ResetPlays_c16 C.catnaplaw8_ResetPlays_c17)
def C.catnaplaw8_ResetPlays_c18_w := @awpE _ _ C.catnaplaw8_ResetPlays_c18.eq_1
def C.catnaplaw8_ResetPlays_r16_b : List IOper := [
 X.o 90 (.bin .eql (X.s 74) (X.i 1)),
 X.m 89 90]
def C.catnaplaw8_ResetPlays_r16 : List IOper := C.catnaplaw8_ResetPlays_r16_b
def C.catnaplaw8_ResetPlays_r16_w := @aopsE _ _ C.catnaplaw8_ResetPlays_r16.eq_1
def C.catnaplaw8_ResetPlays_c19 : ICode := .region C.catnaplaw8_ResetPlays_r15
def C.catnaplaw8_ResetPlays_c19_w := @awpE _ _ C.catnaplaw8_ResetPlays_c19.eq_1
def C.catnaplaw8_ResetPlays_c20 : ICode := .seq (.region C.catnaplaw8_ResetPlays_r16) C.catnaplaw8_ResetPlays_c18
def C.catnaplaw8_ResetPlays_c20_w := @awpE _ _ C.catnaplaw8_ResetPlays_c20.eq_1
def C.catnaplaw8_ResetPlays_c21 : ICode := .keep [1, 6, 7, 8, 9, 10, 11, 12, 74, 80] (.cond (X.s 80) C.catnaplaw8_ResetPlays_c19 C.catnaplaw8_ResetPlays_c20)
def C.catnaplaw8_ResetPlays_c21_w := @awpE _ _ C.catnaplaw8_ResetPlays_c21.eq_1
def C.catnaplaw8_ResetPlays_r14_b : List IOper := [
 X.o 81 (.bin .eql (X.s 74) (X.i 0)),
 X.m 80 81]
def C.catnaplaw8_ResetPlays_r14 : List IOper := C.catnaplaw8_ResetPlays_r14_b
def C.catnaplaw8_ResetPlays_r14_w := @aopsE _ _ C.catnaplaw8_ResetPlays_r14.eq_1
def C.catnaplaw8_ResetPlays_b22 : ICode := .seq (.region C.catnaplaw8_ResetPlays_r14) C.catnaplaw8_ResetPlays_c21
def C.catnaplaw8_ResetPlays_b22_w := @awpE _ _ C.catnaplaw8_ResetPlays_b22.eq_1
def C.catnaplaw8_ResetPlays_c23 : ICode := .keep [1, 6, 7, 8, 9, 10, 11, 12, 74] (.block 2 C.catnaplaw8_ResetPlays_b22)
def C.catnaplaw8_ResetPlays_c23_w := @awpE _ _ C.catnaplaw8_ResetPlays_c23.eq_1
def C.catnaplaw8_ResetPlays_r12_b : List IOper := [
 X.m 69 1,
 X.m 70 11,
 X.o 71 (.idxAddr 2 (X.s 69) (X.s 70)),
 X.o 72 (.fldAddr 0 (X.s 71)),
 X.o 73 (.load1 (X.s 72)),
 X.o 74 (.call F.catnaplaw8_pick [X.s 73, X.i 4])]
def C.catnaplaw8_ResetPlays_r12 : List IOper := C.catnaplaw8_ResetPlays_r12_b
def C.catnaplaw8_ResetPlays_r12_w := @aopsE _ _ C.catnaplaw8_ResetPlays_r12.eq_1
def C.catnaplaw8_ResetPlays_c24 : ICode := .keep [1, 6, 7, 8, 9, 10, 11, 12] (.seq (.seq (.region C.catnaplaw8_ResetPlays_r12) C.catnaplaw8_ResetPlays_c23) C.catnaplaw8_ResetPlays_c15)
def C.catnaplaw8_ResetPlays_c24_w := @awpE _ _ C.catnaplaw8_ResetPlays_c24.eq_1
def C.catnaplaw8_ResetPlays_r11_b : List IOper := [
 X.o 13 (.move (.cst (.bool true)))]
def C.catnaplaw8_ResetPlays_r11 : List IOper := C.catnaplaw8_ResetPlays_r11_b
def C.catnaplaw8_ResetPlays_r11_w := @aopsE _ _ C.catnaplaw8_ResetPlays_r11.eq_1
def C.catnaplaw8_ResetPlays_c25 : ICode := .keep [1, 6, 7, 8, 9, 10, 11, 12] (.seq (.region C.catnaplaw8_ResetPlays_r11) C.catnaplaw8_ResetPlays_c24)
def C.catnaplaw8_ResetPlays_c25_w := @awpE _ _ C.catnaplaw8_ResetPlays_c25.eq_1
def C.catnaplaw8_ResetPlays_r10_b : List IOper := [
 X.m 58 1,
 X.m 59 11,
 X.o 60 (.idxAddr 2 (X.s 58) (X.s 59)),
 X.o 61 (.fldAddr 1 (X.s 60)),
 X.o 62 (.load1 (X.s 61)),
 X.o 63 (.fldAddr 2 (X.s 6)),
 X.o 64 (.load1 (X.s 63)),
 X.o 65 (.len (X.s 64)),
 X.o 66 (.bin .add (X.s 65) (X.i 2)),
 X.o 67 (.call F.catnaplaw8_pick [X.s 62, X.s 66]),
 X.o 68 (.bin .sub (X.s 67) (X.i 1)),
 X.m 12 68]
def C.catnaplaw8_ResetPlays_r10 : List IOper := C.catnaplaw8_ResetPlays_r10_b
def C.catnaplaw8_ResetPlays_r10_w := @aopsE _ _ C.catnaplaw8_ResetPlays_r10.eq_1
def C.catnaplaw8_ResetPlays_b26 : ICode := .seq (.region C.catnaplaw8_ResetPlays_r10) C.catnaplaw8_ResetPlays_c25
def C.catnaplaw8_ResetPlays_b26_w := @awpE _ _ C.catnaplaw8_ResetPlays_b26.eq_1
def C.catnaplaw8_ResetPlays_c27 : ICode := .keep [1, 6, 7, 8, 9, 10, 11] (.seq (.block 1 C.catnaplaw8_ResetPlays_b26) C.catnaplaw8_ResetPlays_c2)
def C.catnaplaw8_ResetPlays_c27_w := @awpE _ _ C.catnaplaw8_ResetPlays_c27.eq_1
def C.catnaplaw8_ResetPlays_c28 : ICode := .keep [1, 6, 7, 8, 9, 10, 11, 55] (.cond (X.s 55) .skip (.exit 0))
def C.catnaplaw8_ResetPlays_c28_w := @awpE _ _ C.catnaplaw8_ResetPlays_c28.eq_1
def C.catnaplaw8_ResetPlays_r8_b : List IOper := [
 X.m 52 11,
 X.m 53 1,
 X.o 54 (.len (X.s 53)),
 X.o 55 (.bin .lss (X.s 52) (X.s 54))]
def C.catnaplaw8_ResetPlays_r8 : List IOper := C.catnaplaw8_ResetPlays_r8_b
def C.catnaplaw8_ResetPlays_r8_w := @aopsE _ _ C.catnaplaw8_ResetPlays_r8.eq_1
def C.catnaplaw8_ResetPlays_l29 : ICode := .keep [1, 6, 7, 8, 9, 10, 11] (.seq (.seq (.region C.catnaplaw8_ResetPlays_r8) C.catnaplaw8_ResetPlays_c28) C.catnaplaw8_ResetPlays_c27)
def C.catnaplaw8_ResetPlays_l29_w := @awpE _ _ C.catnaplaw8_ResetPlays_l29.eq_1
def C.catnaplaw8_ResetPlays_b30 : ICode := .loop C.catnaplaw8_ResetPlays_l29
def C.catnaplaw8_ResetPlays_b30_w := @awpE _ _ C.catnaplaw8_ResetPlays_b30.eq_1
def C.catnaplaw8_ResetPlays_c31 : ICode := .keep [1, 6, 7, 8, 9, 10, 11] (.block 0 C.catnaplaw8_ResetPlays_b30)
def C.catnaplaw8_ResetPlays_c31_w := @awpE _ _ C.catnaplaw8_ResetPlays_c31.eq_1
def C.catnaplaw8_ResetPlays_r7_b : List IOper := [
 X.o 11 (.move (X.i 0))]
def C.catnaplaw8_ResetPlays_r7 : List IOper := C.catnaplaw8_ResetPlays_r7_b
def C.catnaplaw8_ResetPlays_r7_w := @aopsE _ _ C.catnaplaw8_ResetPlays_r7.eq_1
def C.catnaplaw8_ResetPlays_c32 : ICode := .keep [1, 6, 7, 8, 9, 10] (.seq (.seq (.region C.catnaplaw8_ResetPlays_r7) C.catnaplaw8_ResetPlays_c31) C.catnaplaw8_ResetPlays_c1)
def C.catnaplaw8_ResetPlays_c32_w := @awpE _ _ C.catnaplaw8_ResetPlays_c32.eq_1
def C.catnaplaw8_ResetPlays_r6_b : List IOper := [
 X.m 43 5,
 X.m 44 43,
 X.t 44 45 (.move (X.s 7)),
 X.t 44 46 (.eqP 0 true (X.s 45) (.cst (.nilp))),
 X.o 47 (.pick (X.s 44) (X.s 46) (.cst (.bool false))),
 X.m 48 47,
 X.t 48 49 (.move (X.s 9)),
 X.t 48 50 (.eqP 0 true (X.s 49) (.cst (.nilp))),
 X.o 51 (.pick (X.s 48) (X.s 50) (.cst (.bool false))),
 X.m 4 51]
def C.catnaplaw8_ResetPlays_r6 : List IOper := C.catnaplaw8_ResetPlays_r6_b
def C.catnaplaw8_ResetPlays_r6_w := @aopsE _ _ C.catnaplaw8_ResetPlays_r6.eq_1
def C.catnaplaw8_ResetPlays_c33 : ICode := .seq (.region C.catnaplaw8_ResetPlays_r6) .ret
def C.catnaplaw8_ResetPlays_c33_w := @awpE _ _ C.catnaplaw8_ResetPlays_c33.eq_1
def C.catnaplaw8_ResetPlays_c34 : ICode := .keep [1, 5, 6, 7, 8, 9, 10, 42] (.cond (X.s 42) C.catnaplaw8_ResetPlays_c33 .skip)
def C.catnaplaw8_ResetPlays_c34_w := @awpE _ _ C.catnaplaw8_ResetPlays_c34.eq_1
def C.catnaplaw8_ResetPlays_r5_b : List IOper := [
 X.m 28 5,
 X.o 29 (.un .not (X.s 28)),
 X.m 30 29,
 X.f 30 31 (.move (X.s 7)),
 X.f 30 32 (.eqP 0 false (X.s 31) (.cst (.nilp))),
 X.o 33 (.pick (X.s 30) (.cst (.bool true)) (X.s 32)),
 X.m 34 33,
 X.f 34 35 (.move (X.s 9)),
 X.f 34 36 (.eqP 0 false (X.s 35) (.cst (.nilp))),
 X.o 37 (.pick (X.s 34) (.cst (.bool true)) (X.s 36)),
 X.m 38 37,
 X.f 38 39 (.move (X.s 1)),
 X.f 38 40 (.len (X.s 39)),
 X.f 38 41 (.bin .gtr (X.s 40) (X.i 150)),
 X.o 42 (.pick (X.s 38) (.cst (.bool true)) (X.s 41))]
def C.catnaplaw8_ResetPlays_r5 : List IOper := C.catnaplaw8_ResetPlays_r5_b
def C.catnaplaw8_ResetPlays_r5_w := @aopsE _ _ C.catnaplaw8_ResetPlays_r5.eq_1
def C.catnaplaw8_ResetPlays_c35 : ICode := .keep [1, 5, 6, 7, 8, 9, 10] (.seq (.seq (.region C.catnaplaw8_ResetPlays_r5) C.catnaplaw8_ResetPlays_c34) C.catnaplaw8_ResetPlays_c32)
def C.catnaplaw8_ResetPlays_c35_w := @awpE _ _ C.catnaplaw8_ResetPlays_c35.eq_1
def C.catnaplaw8_ResetPlays_r4_b : List IOper := [
 X.o 24 (.loadN 4 (X.s 6)),
 X.o 25 (.call F.catnapref8_New [X.s 24]),
 X.m 23 25,
 X.o 26 (.extract (X.s 23) 0),
 X.o 27 (.extract (X.s 23) 1),
 X.m 9 26,
 X.m 10 27]
def C.catnaplaw8_ResetPlays_r4 : List IOper := C.catnaplaw8_ResetPlays_r4_b
def C.catnaplaw8_ResetPlays_r4_w := @aopsE _ _ C.catnaplaw8_ResetPlays_r4.eq_1
def C.catnaplaw8_ResetPlays_c36 : ICode := .keep [1, 5, 6, 7, 8] (.seq (.region C.catnaplaw8_ResetPlays_r4) C.catnaplaw8_ResetPlays_c35)
def C.catnaplaw8_ResetPlays_c36_w := @awpE _ _ C.catnaplaw8_ResetPlays_c36.eq_1
def C.catnaplaw8_ResetPlays_r3_b : List IOper := [
 X.o 19 (.loadN 4 (X.s 6)),
 X.o 20 (.call F.reset_New [X.s 19]),
 X.m 18 20,
 X.o 21 (.extract (X.s 18) 0),
 X.o 22 (.extract (X.s 18) 1),
 X.m 7 21,
 X.m 8 22]
def C.catnaplaw8_ResetPlays_r3 : List IOper := C.catnaplaw8_ResetPlays_r3_b
def C.catnaplaw8_ResetPlays_r3_w := @aopsE _ _ C.catnaplaw8_ResetPlays_r3.eq_1
def C.catnaplaw8_ResetPlays_c37 : ICode := .keep [1, 5, 6] (.seq (.region C.catnaplaw8_ResetPlays_r3) C.catnaplaw8_ResetPlays_c36)
def C.catnaplaw8_ResetPlays_c37_w := @awpE _ _ C.catnaplaw8_ResetPlays_c37.eq_1
def C.catnaplaw8_ResetPlays_r2_b : List IOper := [
 X.m 16 0,
 X.o 17 (.call F.catnaplaw8_chip [X.s 16]),
 X.o 6 (.alloc [.nils, .nils, .nils, .nils]),
 X.n (.storeN 4 (X.s 6) (X.s 17))]
def C.catnaplaw8_ResetPlays_r2 : List IOper := C.catnaplaw8_ResetPlays_r2_b
def C.catnaplaw8_ResetPlays_r2_w := @aopsE _ _ C.catnaplaw8_ResetPlays_r2.eq_1
def C.catnaplaw8_ResetPlays_c38 : ICode := .keep [0, 1, 5] (.seq (.region C.catnaplaw8_ResetPlays_r2) C.catnaplaw8_ResetPlays_c37)
def C.catnaplaw8_ResetPlays_c38_w := @awpE _ _ C.catnaplaw8_ResetPlays_c38.eq_1
def C.catnaplaw8_ResetPlays_r1_b : List IOper := [
 X.o 15 (.call F.catnaplaw8_shown []),
 X.m 5 15]
def C.catnaplaw8_ResetPlays_r1 : List IOper := C.catnaplaw8_ResetPlays_r1_b
def C.catnaplaw8_ResetPlays_r1_w := @aopsE _ _ C.catnaplaw8_ResetPlays_r1.eq_1
def C.catnaplaw8_ResetPlays_c39 : ICode := .keep [0, 1] (.seq (.region C.catnaplaw8_ResetPlays_r1) C.catnaplaw8_ResetPlays_c38)
def C.catnaplaw8_ResetPlays_c39_w := @awpE _ _ C.catnaplaw8_ResetPlays_c39.eq_1
def C.catnaplaw8_ResetPlays_r0_b : List IOper := [
 X.o 4 (.move (.cst (.bool false)))]
def C.catnaplaw8_ResetPlays_r0 : List IOper := C.catnaplaw8_ResetPlays_r0_b
def C.catnaplaw8_ResetPlays_r0_w := @aopsE _ _ C.catnaplaw8_ResetPlays_r0.eq_1
def C.catnaplaw8_ResetPlays : IFunc := ⟨2, [.slot 4], .seq (.region C.catnaplaw8_ResetPlays_r0) C.catnaplaw8_ResetPlays_c39⟩
def C.catnaplaw8_ResetPlays_W := And.intro (And.intro (And.intro (And.intro (And.intro @C.catnaplaw8_ResetPlays_r25_w (And.intro @C.catnaplaw8_ResetPlays_c1_w @C.catnaplaw8_ResetPlays_r9_w)) (And.intro (And.intro @C.catnaplaw8_ResetPlays_c2_w @C.catnaplaw8_ResetPlays_r22_w) (And.intro @C.catnaplaw8_ResetPlays_c3_w @C.catnaplaw8_ResetPlays_r24_w))) (And.intro (And.intro (And.intro @C.catnaplaw8_ResetPlays_c4_w @C.catnaplaw8_ResetPlays_c5_w) (And.intro @C.catnaplaw8_ResetPlays_r23_w @C.catnaplaw8_ResetPlays_b6_w)) (And.intro (And.intro @C.catnaplaw8_ResetPlays_c7_w @C.catnaplaw8_ResetPlays_c8_w) (And.intro @C.catnaplaw8_ResetPlays_r21_w @C.catnaplaw8_ResetPlays_b10_w)))) (And.intro (And.intro (And.intro (And.intro @C.catnaplaw8_ResetPlays_c11_w @C.catnaplaw8_ResetPlays_r20_w) (And.intro @C.catnaplaw8_ResetPlays_c12_w @C.catnaplaw8_ResetPlays_r19_w)) (And.intro (And.intro @C.catnaplaw8_ResetPlays_c13_w @C.catnaplaw8_ResetPlays_c14_w) (And.intro @C.catnaplaw8_ResetPlays_r18_w @C.catnaplaw8_ResetPlays_c15_w))) (And.intro (And.intro (And.intro @C.catnaplaw8_ResetPlays_r15_w @C.catnaplaw8_ResetPlays_r17_w) (And.intro @C.catnaplaw8_ResetPlays_r13_w @C.catnaplaw8_ResetPlays_c16_w)) (And.intro (And.intro @C.catnaplaw8_ResetPlays_c17_w @C.catnaplaw8_ResetPlays_c18_w) (And.intro @C.catnaplaw8_ResetPlays_r16_w @C.catnaplaw8_ResetPlays_c19_w))))) (And.intro (And.intro (And.intro (And.intro (And.intro @C.catnaplaw8_ResetPlays_c20_w @C.catnaplaw8_ResetPlays_c21_w) (And.intro @C.catnaplaw8_ResetPlays_r14_w @C.catnaplaw8_ResetPlays_b22_w)) (And.intro (And.intro @C.catnaplaw8_ResetPlays_c23_w @C.catnaplaw8_ResetPlays_r12_w) (And.intro @C.catnaplaw8_ResetPlays_c24_w @C.catnaplaw8_ResetPlays_r11_w))) (And.intro (And.intro (And.intro @C.catnaplaw8_ResetPlays_c25_w @C.catnaplaw8_ResetPlays_r10_w) (And.intro @C.catnaplaw8_ResetPlays_b26_w @C.catnaplaw8_ResetPlays_c27_w)) (And.intro (And.intro @C.catnaplaw8_ResetPlays_c28_w @C.catnaplaw8_ResetPlays_r8_w) (And.intro @C.catnaplaw8_ResetPlays_b30_w @C.catnaplaw8_ResetPlays_c31_w)))) (And.intro (And.intro (And.intro (And.intro @C.catnaplaw8_ResetPlays_r7_w @C.catnaplaw8_ResetPlays_c32_w) (And.intro @C.catnaplaw8_ResetPlays_r6_w @C.catnaplaw8_ResetPlays_c33_w)) (And.intro (And.intro @C.catnaplaw8_ResetPlays_c34_w @C.catnaplaw8_ResetPlays_r5_w) (And.intro @C.catnaplaw8_ResetPlays_c35_w @C.catnaplaw8_ResetPlays_r4_w))) (And.intro (And.intro (And.intro @C.catnaplaw8_ResetPlays_c36_w @C.catnaplaw8_ResetPlays_r3_w) (And.intro @C.catnaplaw8_ResetPlays_c37_w @C.catnaplaw8_ResetPlays_r2_w)) (And.intro (And.intro @C.catnaplaw8_ResetPlays_c38_w @C.catnaplaw8_ResetPlays_r1_w) (And.intro @C.catnaplaw8_ResetPlays_c39_w @C.catnaplaw8_ResetPlays_r0_w)))))
def C.catnaplaw8_ResetPlays_B := And.intro (And.intro (And.intro (And.intro @C.catnaplaw8_ResetPlays_r25_b.eq_1 (And.intro @C.catnaplaw8_ResetPlays_r9_b.eq_1 @C.catnaplaw8_ResetPlays_r22_b.eq_1)) (And.intro @C.catnaplaw8_ResetPlays_r24_b.eq_1 (And.intro @C.catnaplaw8_ResetPlays_r23_b.eq_1 @C.catnaplaw8_ResetPlays_r21_b.eq_1))) (And.intro (And.intro @C.catnaplaw8_ResetPlays_r20_b.eq_1 (And.intro @C.catnaplaw8_ResetPlays_r19_b.eq_1 @C.catnaplaw8_ResetPlays_r18_b.eq_1)) (And.intro (And.intro @C.catnaplaw8_ResetPlays_r15_b.eq_1 @C.catnaplaw8_ResetPlays_r17_b.eq_1) (And.intro @C.catnaplaw8_ResetPlays_r13_b.eq_1 @C.catnaplaw8_ResetPlays_r16_b.eq_1)))) (And.intro (And.intro (And.intro @C.catnaplaw8_ResetPlays_r14_b.eq_1 (And.intro @C.catnaplaw8_ResetPlays_r12_b.eq_1 @C.catnaplaw8_ResetPlays_r11_b.eq_1)) (And.intro @C.catnaplaw8_ResetPlays_r10_b.eq_1 (And.intro @C.catnaplaw8_ResetPlays_r8_b.eq_1 @C.catnaplaw8_ResetPlays_r7_b.eq_1))) (And.intro (And.intro @C.catnaplaw8_ResetPlays_r6_b.eq_1 (And.intro @C.catnaplaw8_ResetPlays_r5_b.eq_1 @C.catnaplaw8_ResetPlays_r4_b.eq_1)) (And.intro (And.intro @C.catnaplaw8_ResetPlays_r3_b.eq_1 @C.catnaplaw8_ResetPlays_r2_b.eq_1) (And.intro @C.catnaplaw8_ResetPlays_r1_b.eq_1 @C.catnaplaw8_ResetPlays_r0_b.eq_1))))

def C.catnaplaw8_ResetAgain_r18_b : List IOper := [
 X.m 119 9,
 X.m 120 11,
 X.o 121 (.call F.reset_Lines_Release [X.s 119, X.s 120]),
 X.o 122 (.bin .eql (X.s 121) (X.i 0)),
 X.m 123 122,
 X.t 123 124 (.move (X.s 9)),
 X.t 123 125 (.call F.reset_Lines_Tick [X.s 124]),
 X.t 123 126 (.move (X.s 11)),
 X.t 123 127 (.buildSlice 1 1 [.int .i64 0] [(0, 1, X.s 126)]),
 X.t 123 128 (.call F.catnaplaw8_same [X.s 125, X.s 127]),
 X.o 129 (.pick (X.s 123) (X.s 128) (.cst (.bool false))),
 X.m 130 129,
 X.t 130 131 (.move (X.s 9)),
 X.t 130 132 (.move (X.s 11)),
 X.t 130 133 (.call F.reset_Lines_Held [X.s 131, X.s 132]),
 X.t 130 134 (.un .not (X.s 133)),
 X.o 135 (.pick (X.s 130) (X.s 134) (.cst (.bool false))),
 X.m 136 135,
 X.t 136 137 (.move (X.s 9)),
 X.t 136 138 (.call F.reset_Lines_Tick [X.s 137]),
 X.t 136 139 (.len (X.s 138)),
 X.t 136 140 (.bin .eql (X.s 139) (X.i 0)),
 X.o 141 (.pick (X.s 136) (X.s 140) (.cst (.bool false))),
 X.m 6 141]
def C.catnaplaw8_ResetAgain_r18 : List IOper := C.catnaplaw8_ResetAgain_r18_b
def C.catnaplaw8_ResetAgain_r18_w := @aopsE _ _ C.catnaplaw8_ResetAgain_r18.eq_1
def C.catnaplaw8_ResetAgain_c1 : ICode := .keep [9, 11] (.seq (.region C.catnaplaw8_ResetAgain_r18) .ret)
def C.catnaplaw8_ResetAgain_c1_w := @awpE _ _ C.catnaplaw8_ResetAgain_c1.eq_1
def C.catnaplaw8_ResetAgain_r14_b : List IOper := [
 X.m 72 13,
 X.o 73 (.bin .add (X.s 72) (X.i 1)),
 X.m 13 73]
def C.catnaplaw8_ResetAgain_r14 : List IOper := C.catnaplaw8_ResetAgain_r14_b
def C.catnaplaw8_ResetAgain_r14_w := @aopsE _ _ C.catnaplaw8_ResetAgain_r14.eq_1
def C.catnaplaw8_ResetAgain_c2 : ICode := .keep [8, 9, 11, 12, 13] (.region C.catnaplaw8_ResetAgain_r14)
def C.catnaplaw8_ResetAgain_c2_w := @awpE _ _ C.catnaplaw8_ResetAgain_c2.eq_1
def C.catnaplaw8_ResetAgain_r17_b : List IOper := [
 X.o 6 (.move (.cst (.bool false)))]
def C.catnaplaw8_ResetAgain_r17 : List IOper := C.catnaplaw8_ResetAgain_r17_b
def C.catnaplaw8_ResetAgain_r17_w := @aopsE _ _ C.catnaplaw8_ResetAgain_r17.eq_1
def C.catnaplaw8_ResetAgain_c3 : ICode := .seq (.region C.catnaplaw8_ResetAgain_r17) .ret
def C.catnaplaw8_ResetAgain_c3_w := @awpE _ _ C.catnaplaw8_ResetAgain_c3.eq_1
def C.catnaplaw8_ResetAgain_c4 : ICode := .keep [8, 9, 11, 12, 13, 118] (.cond (X.s 118) C.catnaplaw8_ResetAgain_c3 .skip)
def C.catnaplaw8_ResetAgain_c4_w := @awpE _ _ C.catnaplaw8_ResetAgain_c4.eq_1
def C.catnaplaw8_ResetAgain_r16_b : List IOper := [
 X.m 76 9,
 X.m 77 11,
 X.o 79 (.fldAddr 2 (X.s 8)),
 X.o 80 (.load1 (X.s 79)),
 X.m 81 11,
 X.o 82 (.idxAddr 1 (X.s 80) (X.s 81)),
 X.o 83 (.fldAddr 0 (X.s 82)),
 X.o 84 (.load1 (X.s 83)),
 X.m 85 13,
 X.o 86 (.bin .sub (X.s 84) (X.s 85)),
 X.o 87 (.bin .sub (X.s 86) (X.i 1)),
 X.o 88 (.minmax true (X.s 87) (X.i 0)),
 ⟨some 78, .call F.reset_Lines_Left [X.s 76, X.s 77], none, [⟨.load1 (X.s 79), 80, none⟩, ⟨.load1 (X.s 83), 84, none⟩], []⟩,
 X.o 89 (.bin .neq (X.s 78) (X.s 88)),
 X.m 90 89,
 X.f 90 91 (.move (X.s 9)),
 X.f 90 92 (.move (X.s 11)),
 X.f 90 93 (.call F.reset_Lines_Held [X.s 91, X.s 92]),
 X.f 90 94 (.un .not (X.s 93)),
 X.o 95 (.pick (X.s 90) (.cst (.bool true)) (X.s 94)),
 X.m 96 95,
 X.f 96 97 (.move (X.s 11)),
 X.f 96 98 (.move (X.s 12)),
 X.f 96 99 (.bin .neq (X.s 97) (X.s 98)),
 X.f 96 100 (.move (X.s 99)),
 X.t 100 101 (.move (X.s 14)),
 X.t 100 102 (.len (X.s 101)),
 X.t 100 103 (.bin .eql (X.s 102) (X.i 1)),
 X.t 100 104 (.move (X.s 13)),
 X.t 100 105 (.bin .eql (X.s 104) (X.i 0)),
 X.t 100 106 (.eqB true (X.s 103) (X.s 105)),
 X.f 96 107 (.pick (X.s 100) (X.s 106) (.cst (.bool false))),
 X.o 108 (.pick (X.s 96) (.cst (.bool true)) (X.s 107)),
 X.m 109 108,
 X.f 109 110 (.move (X.s 11)),
 X.f 109 111 (.move (X.s 12)),
 X.f 109 112 (.bin .neq (X.s 110) (X.s 111)),
 X.f 109 113 (.move (X.s 112)),
 X.t 113 114 (.move (X.s 9)),
 X.t 113 115 (.move (X.s 12)),
 X.t 113 116 (.call F.reset_Lines_Held [X.s 114, X.s 115]),
 X.f 109 117 (.pick (X.s 113) (X.s 116) (.cst (.bool false))),
 X.o 118 (.pick (X.s 109) (.cst (.bool true)) (X.s 117))]
def C.catnaplaw8_ResetAgain_r16 : List IOper := C.catnaplaw8_ResetAgain_r16_b
def C.catnaplaw8_ResetAgain_r16_w := @aopsE _ _ C.catnaplaw8_ResetAgain_r16.eq_1
def C.catnaplaw8_ResetAgain_c5 : ICode := .keep [8, 9, 11, 12, 13, 14] (.seq (.region C.catnaplaw8_ResetAgain_r16) C.catnaplaw8_ResetAgain_c4)
def C.catnaplaw8_ResetAgain_c5_w := @awpE _ _ C.catnaplaw8_ResetAgain_c5.eq_1
def C.catnaplaw8_ResetAgain_r15_b : List IOper := [
 X.m 74 9,
 X.o 75 (.call F.reset_Lines_Tick [X.s 74]),
 X.m 14 75]
def C.catnaplaw8_ResetAgain_r15 : List IOper := C.catnaplaw8_ResetAgain_r15_b
def C.catnaplaw8_ResetAgain_r15_w := @aopsE _ _ C.catnaplaw8_ResetAgain_r15.eq_1
def C.catnaplaw8_ResetAgain_b6 : ICode := .seq (.region C.catnaplaw8_ResetAgain_r15) C.catnaplaw8_ResetAgain_c5
def C.catnaplaw8_ResetAgain_b6_w := @awpE _ _ C.catnaplaw8_ResetAgain_b6.eq_1
def C.catnaplaw8_ResetAgain_c7 : ICode := .keep [8, 9, 11, 12, 13] (.seq (.block 1 C.catnaplaw8_ResetAgain_b6) C.catnaplaw8_ResetAgain_c2)
def C.catnaplaw8_ResetAgain_c7_w := @awpE _ _ C.catnaplaw8_ResetAgain_c7.eq_1
def C.catnaplaw8_ResetAgain_c8 : ICode := .keep [8, 9, 11, 12, 13, 71] (.cond (X.s 71) .skip (.exit 0))
def C.catnaplaw8_ResetAgain_c8_w := @awpE _ _ C.catnaplaw8_ResetAgain_c8.eq_1
def C.catnaplaw8_ResetAgain_r13_b : List IOper := [
 X.m 70 13,
 X.o 71 (.bin .lss (X.s 70) (X.i 25))]
def C.catnaplaw8_ResetAgain_r13 : List IOper := C.catnaplaw8_ResetAgain_r13_b
def C.catnaplaw8_ResetAgain_r13_w := @aopsE _ _ C.catnaplaw8_ResetAgain_r13.eq_1
def C.catnaplaw8_ResetAgain_l9 : ICode := .keep [8, 9, 11, 12, 13] (.seq (.seq (.region C.catnaplaw8_ResetAgain_r13) C.catnaplaw8_ResetAgain_c8) C.catnaplaw8_ResetAgain_c7)
def C.catnaplaw8_ResetAgain_l9_w := @awpE _ _ C.catnaplaw8_ResetAgain_l9.eq_1
def C.catnaplaw8_ResetAgain_b10 : ICode := .loop C.catnaplaw8_ResetAgain_l9
def C.catnaplaw8_ResetAgain_b10_w := @awpE _ _ C.catnaplaw8_ResetAgain_b10.eq_1
def C.catnaplaw8_ResetAgain_c11 : ICode := .keep [8, 9, 11, 12, 13] (.block 0 C.catnaplaw8_ResetAgain_b10)
def C.catnaplaw8_ResetAgain_c11_w := @awpE _ _ C.catnaplaw8_ResetAgain_c11.eq_1
def C.catnaplaw8_ResetAgain_r12_b : List IOper := [
 X.o 13 (.move (X.i 0))]
def C.catnaplaw8_ResetAgain_r12 : List IOper := C.catnaplaw8_ResetAgain_r12_b
def C.catnaplaw8_ResetAgain_r12_w := @aopsE _ _ C.catnaplaw8_ResetAgain_r12.eq_1
def C.catnaplaw8_ResetAgain_c12 : ICode := .keep [8, 9, 11, 12] (.seq (.seq (.region C.catnaplaw8_ResetAgain_r12) C.catnaplaw8_ResetAgain_c11) C.catnaplaw8_ResetAgain_c1)
def C.catnaplaw8_ResetAgain_c12_w := @awpE _ _ C.catnaplaw8_ResetAgain_c12.eq_1
def C.catnaplaw8_ResetAgain_r11_b : List IOper := [
 X.m 67 9,
 X.m 68 11,
 X.o 69 (.call F.reset_Lines_Assert [X.s 67, X.s 68])]
def C.catnaplaw8_ResetAgain_r11 : List IOper := C.catnaplaw8_ResetAgain_r11_b
def C.catnaplaw8_ResetAgain_r11_w := @aopsE _ _ C.catnaplaw8_ResetAgain_r11.eq_1
def C.catnaplaw8_ResetAgain_c13 : ICode := .keep [8, 9, 11, 12] (.seq (.region C.catnaplaw8_ResetAgain_r11) C.catnaplaw8_ResetAgain_c12)
def C.catnaplaw8_ResetAgain_c13_w := @awpE _ _ C.catnaplaw8_ResetAgain_c13.eq_1
def C.catnaplaw8_ResetAgain_r10_b : List IOper := [
 X.m 64 9,
 X.m 65 12,
 X.o 66 (.call F.reset_Lines_Release [X.s 64, X.s 65])]
def C.catnaplaw8_ResetAgain_r10 : List IOper := C.catnaplaw8_ResetAgain_r10_b
def C.catnaplaw8_ResetAgain_r10_w := @aopsE _ _ C.catnaplaw8_ResetAgain_r10.eq_1
def C.catnaplaw8_ResetAgain_c14 : ICode := .keep [8, 9, 11, 12] (.seq (.region C.catnaplaw8_ResetAgain_r10) C.catnaplaw8_ResetAgain_c13)
def C.catnaplaw8_ResetAgain_c14_w := @awpE _ _ C.catnaplaw8_ResetAgain_c14.eq_1
def C.catnaplaw8_ResetAgain_r9_b : List IOper := [
 X.m 61 9,
 X.m 62 11,
 X.o 63 (.call F.reset_Lines_Release [X.s 61, X.s 62])]
def C.catnaplaw8_ResetAgain_r9 : List IOper := C.catnaplaw8_ResetAgain_r9_b
def C.catnaplaw8_ResetAgain_r9_w := @aopsE _ _ C.catnaplaw8_ResetAgain_r9.eq_1
def C.catnaplaw8_ResetAgain_c15 : ICode := .keep [8, 9, 11, 12] (.seq (.region C.catnaplaw8_ResetAgain_r9) C.catnaplaw8_ResetAgain_c14)
def C.catnaplaw8_ResetAgain_c15_w := @awpE _ _ C.catnaplaw8_ResetAgain_c15.eq_1
def C.catnaplaw8_ResetAgain_r8_b : List IOper := [
 X.m 58 9,
 X.m 59 11,
 X.o 60 (.call F.reset_Lines_Assert [X.s 58, X.s 59])]
def C.catnaplaw8_ResetAgain_r8 : List IOper := C.catnaplaw8_ResetAgain_r8_b
def C.catnaplaw8_ResetAgain_r8_w := @aopsE _ _ C.catnaplaw8_ResetAgain_r8.eq_1
def C.catnaplaw8_ResetAgain_c16 : ICode := .keep [8, 9, 11, 12] (.seq (.region C.catnaplaw8_ResetAgain_r8) C.catnaplaw8_ResetAgain_c15)
def C.catnaplaw8_ResetAgain_c16_w := @awpE _ _ C.catnaplaw8_ResetAgain_c16.eq_1
def C.catnaplaw8_ResetAgain_r7_b : List IOper := [
 X.m 53 2,
 X.o 54 (.fldAddr 2 (X.s 8)),
 X.o 55 (.load1 (X.s 54)),
 X.o 56 (.len (X.s 55)),
 X.o 57 (.call F.catnaplaw8_pick [X.s 53, X.s 56]),
 X.m 12 57]
def C.catnaplaw8_ResetAgain_r7 : List IOper := C.catnaplaw8_ResetAgain_r7_b
def C.catnaplaw8_ResetAgain_r7_w := @aopsE _ _ C.catnaplaw8_ResetAgain_r7.eq_1
def C.catnaplaw8_ResetAgain_c17 : ICode := .keep [2, 8, 9, 11] (.seq (.region C.catnaplaw8_ResetAgain_r7) C.catnaplaw8_ResetAgain_c16)
def C.catnaplaw8_ResetAgain_c17_w := @awpE _ _ C.catnaplaw8_ResetAgain_c17.eq_1
def C.catnaplaw8_ResetAgain_r6_b : List IOper := [
 X.m 48 1,
 X.o 49 (.fldAddr 2 (X.s 8)),
 X.o 50 (.load1 (X.s 49)),
 X.o 51 (.len (X.s 50)),
 X.o 52 (.call F.catnaplaw8_pick [X.s 48, X.s 51]),
 X.m 11 52]
def C.catnaplaw8_ResetAgain_r6 : List IOper := C.catnaplaw8_ResetAgain_r6_b
def C.catnaplaw8_ResetAgain_r6_w := @aopsE _ _ C.catnaplaw8_ResetAgain_r6.eq_1
def C.catnaplaw8_ResetAgain_c18 : ICode := .keep [1, 2, 8, 9] (.seq (.region C.catnaplaw8_ResetAgain_r6) C.catnaplaw8_ResetAgain_c17)
def C.catnaplaw8_ResetAgain_c18_w := @awpE _ _ C.catnaplaw8_ResetAgain_c18.eq_1
def C.catnaplaw8_ResetAgain_r5_b : List IOper := [
 X.m 39 7,
 X.m 40 39,
 X.t 40 41 (.move (X.s 9)),
 X.t 40 42 (.eqP 0 true (X.s 41) (.cst (.nilp))),
 X.o 43 (.pick (X.s 40) (X.s 42) (.cst (.bool false))),
 X.m 44 43,
 X.t 44 45 (.move (X.s 10)),
 X.t 44 46 (.bin .eql (X.s 45) (X.i 0)),
 X.o 47 (.pick (X.s 44) (X.s 46) (.cst (.bool false))),
 X.m 6 47]
def C.catnaplaw8_ResetAgain_r5 : List IOper := C.catnaplaw8_ResetAgain_r5_b
def C.catnaplaw8_ResetAgain_r5_w := @aopsE _ _ C.catnaplaw8_ResetAgain_r5.eq_1
def C.catnaplaw8_ResetAgain_c19 : ICode := .seq (.region C.catnaplaw8_ResetAgain_r5) .ret
def C.catnaplaw8_ResetAgain_c19_w := @awpE _ _ C.catnaplaw8_ResetAgain_c19.eq_1
def C.catnaplaw8_ResetAgain_c20 : ICode := .keep [1, 2, 7, 8, 9, 10, 38] (.cond (X.s 38) C.catnaplaw8_ResetAgain_c19 .skip)
def C.catnaplaw8_ResetAgain_c20_w := @awpE _ _ C.catnaplaw8_ResetAgain_c20.eq_1
def C.catnaplaw8_ResetAgain_r4_b : List IOper := [
 X.m 23 7,
 X.o 24 (.un .not (X.s 23)),
 X.m 25 24,
 X.f 25 26 (.move (X.s 9)),
 X.f 25 27 (.eqP 0 false (X.s 26) (.cst (.nilp))),
 X.o 28 (.pick (X.s 25) (.cst (.bool true)) (X.s 27)),
 X.m 29 28,
 X.f 29 30 (.move (X.s 10)),
 X.f 29 31 (.bin .neq (X.s 30) (X.i 0)),
 X.o 32 (.pick (X.s 29) (.cst (.bool true)) (X.s 31)),
 X.m 33 32,
 X.f 33 34 (.fldAddr 2 (X.s 8)),
 X.f 33 35 (.load1 (X.s 34)),
 X.f 33 36 (.len (X.s 35)),
 X.f 33 37 (.bin .eql (X.s 36) (X.i 0)),
 X.o 38 (.pick (X.s 33) (.cst (.bool true)) (X.s 37))]
def C.catnaplaw8_ResetAgain_r4 : List IOper := C.catnaplaw8_ResetAgain_r4_b
def C.catnaplaw8_ResetAgain_r4_w := @aopsE _ _ C.catnaplaw8_ResetAgain_r4.eq_1
def C.catnaplaw8_ResetAgain_c21 : ICode := .keep [1, 2, 7, 8, 9, 10] (.seq (.seq (.region C.catnaplaw8_ResetAgain_r4) C.catnaplaw8_ResetAgain_c20) C.catnaplaw8_ResetAgain_c18)
def C.catnaplaw8_ResetAgain_c21_w := @awpE _ _ C.catnaplaw8_ResetAgain_c21.eq_1
def C.catnaplaw8_ResetAgain_r3_b : List IOper := [
 X.o 19 (.loadN 4 (X.s 8)),
 X.o 20 (.call F.reset_New [X.s 19]),
 X.m 18 20,
 X.o 21 (.extract (X.s 18) 0),
 X.o 22 (.extract (X.s 18) 1),
 X.m 9 21,
 X.m 10 22]
def C.catnaplaw8_ResetAgain_r3 : List IOper := C.catnaplaw8_ResetAgain_r3_b
def C.catnaplaw8_ResetAgain_r3_w := @aopsE _ _ C.catnaplaw8_ResetAgain_r3.eq_1
def C.catnaplaw8_ResetAgain_c22 : ICode := .keep [1, 2, 7, 8] (.seq (.region C.catnaplaw8_ResetAgain_r3) C.catnaplaw8_ResetAgain_c21)
def C.catnaplaw8_ResetAgain_c22_w := @awpE _ _ C.catnaplaw8_ResetAgain_c22.eq_1
def C.catnaplaw8_ResetAgain_r2_b : List IOper := [
 X.m 16 0,
 X.o 17 (.call F.catnaplaw8_chip [X.s 16]),
 X.o 8 (.alloc [.nils, .nils, .nils, .nils]),
 X.n (.storeN 4 (X.s 8) (X.s 17))]
def C.catnaplaw8_ResetAgain_r2 : List IOper := C.catnaplaw8_ResetAgain_r2_b
def C.catnaplaw8_ResetAgain_r2_w := @aopsE _ _ C.catnaplaw8_ResetAgain_r2.eq_1
def C.catnaplaw8_ResetAgain_c23 : ICode := .keep [0, 1, 2, 7] (.seq (.region C.catnaplaw8_ResetAgain_r2) C.catnaplaw8_ResetAgain_c22)
def C.catnaplaw8_ResetAgain_c23_w := @awpE _ _ C.catnaplaw8_ResetAgain_c23.eq_1
def C.catnaplaw8_ResetAgain_r1_b : List IOper := [
 X.o 15 (.call F.catnaplaw8_shown []),
 X.m 7 15]
def C.catnaplaw8_ResetAgain_r1 : List IOper := C.catnaplaw8_ResetAgain_r1_b
def C.catnaplaw8_ResetAgain_r1_w := @aopsE _ _ C.catnaplaw8_ResetAgain_r1.eq_1
def C.catnaplaw8_ResetAgain_c24 : ICode := .keep [0, 1, 2] (.seq (.region C.catnaplaw8_ResetAgain_r1) C.catnaplaw8_ResetAgain_c23)
def C.catnaplaw8_ResetAgain_c24_w := @awpE _ _ C.catnaplaw8_ResetAgain_c24.eq_1
def C.catnaplaw8_ResetAgain_r0_b : List IOper := [
 X.o 6 (.move (.cst (.bool false)))]
def C.catnaplaw8_ResetAgain_r0 : List IOper := C.catnaplaw8_ResetAgain_r0_b
def C.catnaplaw8_ResetAgain_r0_w := @aopsE _ _ C.catnaplaw8_ResetAgain_r0.eq_1
def C.catnaplaw8_ResetAgain : IFunc := ⟨3, [.slot 6], .seq (.region C.catnaplaw8_ResetAgain_r0) C.catnaplaw8_ResetAgain_c24⟩
def C.catnaplaw8_ResetAgain_W := And.intro (And.intro (And.intro (And.intro (And.intro @C.catnaplaw8_ResetAgain_r18_w @C.catnaplaw8_ResetAgain_c1_w) (And.intro @C.catnaplaw8_ResetAgain_r14_w (And.intro @C.catnaplaw8_ResetAgain_c2_w @C.catnaplaw8_ResetAgain_r17_w))) (And.intro (And.intro @C.catnaplaw8_ResetAgain_c3_w @C.catnaplaw8_ResetAgain_c4_w) (And.intro @C.catnaplaw8_ResetAgain_r16_w (And.intro @C.catnaplaw8_ResetAgain_c5_w @C.catnaplaw8_ResetAgain_r15_w)))) (And.intro (And.intro (And.intro @C.catnaplaw8_ResetAgain_b6_w @C.catnaplaw8_ResetAgain_c7_w) (And.intro @C.catnaplaw8_ResetAgain_c8_w (And.intro @C.catnaplaw8_ResetAgain_r13_w @C.catnaplaw8_ResetAgain_b10_w))) (And.intro (And.intro @C.catnaplaw8_ResetAgain_c11_w (And.intro @C.catnaplaw8_ResetAgain_r12_w @C.catnaplaw8_ResetAgain_c12_w)) (And.intro @C.catnaplaw8_ResetAgain_r11_w (And.intro @C.catnaplaw8_ResetAgain_c13_w @C.catnaplaw8_ResetAgain_r10_w))))) (And.intro (And.intro (And.intro (And.intro @C.catnaplaw8_ResetAgain_c14_w @C.catnaplaw8_ResetAgain_r9_w) (And.intro @C.catnaplaw8_ResetAgain_c15_w (And.intro @C.catnaplaw8_ResetAgain_r8_w @C.catnaplaw8_ResetAgain_c16_w))) (And.intro (And.intro @C.catnaplaw8_ResetAgain_r7_w @C.catnaplaw8_ResetAgain_c17_w) (And.intro @C.catnaplaw8_ResetAgain_r6_w (And.intro @C.catnaplaw8_ResetAgain_c18_w @C.catnaplaw8_ResetAgain_r5_w)))) (And.intro (And.intro (And.intro @C.catnaplaw8_ResetAgain_c19_w @C.catnaplaw8_ResetAgain_c20_w) (And.intro @C.catnaplaw8_ResetAgain_r4_w (And.intro @C.catnaplaw8_ResetAgain_c21_w @C.catnaplaw8_ResetAgain_r3_w))) (And.intro (And.intro @C.catnaplaw8_ResetAgain_c22_w (And.intro @C.catnaplaw8_ResetAgain_r2_w @C.catnaplaw8_ResetAgain_c23_w)) (And.intro @C.catnaplaw8_ResetAgain_r1_w (And.intro @C.catnaplaw8_ResetAgain_c24_w @C.catnaplaw8_ResetAgain_r0_w)))))
def C.catnaplaw8_ResetAgain_B := And.intro (And.intro (And.intro (And.intro @C.catnaplaw8_ResetAgain_r18_b.eq_1 @C.catnaplaw8_ResetAgain_r14_b.eq_1) (And.intro @C.catnaplaw8_ResetAgain_r17_b.eq_1 @C.catnaplaw8_ResetAgain_r16_b.eq_1)) (And.intro (And.intro @C.catnaplaw8_ResetAgain_r15_b.eq_1 @C.catnaplaw8_ResetAgain_r13_b.eq_1) (And.intro @C.catnaplaw8_ResetAgain_r12_b.eq_1 (And.intro @C.catnaplaw8_ResetAgain_r11_b.eq_1 @C.catnaplaw8_ResetAgain_r10_b.eq_1)))) (And.intro (And.intro (And.intro @C.catnaplaw8_ResetAgain_r9_b.eq_1 @C.catnaplaw8_ResetAgain_r8_b.eq_1) (And.intro @C.catnaplaw8_ResetAgain_r7_b.eq_1 (And.intro @C.catnaplaw8_ResetAgain_r6_b.eq_1 @C.catnaplaw8_ResetAgain_r5_b.eq_1))) (And.intro (And.intro @C.catnaplaw8_ResetAgain_r4_b.eq_1 @C.catnaplaw8_ResetAgain_r3_b.eq_1) (And.intro @C.catnaplaw8_ResetAgain_r2_b.eq_1 (And.intro @C.catnaplaw8_ResetAgain_r1_b.eq_1 @C.catnaplaw8_ResetAgain_r0_b.eq_1))))

def C.catnaplaw8_ResetTicks_r39_b : List IOper := [
 X.o 4 (.move (.cst (.bool true)))]
def C.catnaplaw8_ResetTicks_r39 : List IOper := C.catnaplaw8_ResetTicks_r39_b
def C.catnaplaw8_ResetTicks_r39_w := @aopsE _ _ C.catnaplaw8_ResetTicks_r39.eq_1
def C.catnaplaw8_ResetTicks_c1 : ICode := .keep [] (.seq (.region C.catnaplaw8_ResetTicks_r39) .ret)
def C.catnaplaw8_ResetTicks_c1_w := @awpE _ _ C.catnaplaw8_ResetTicks_c1.eq_1
def C.catnaplaw8_ResetTicks_r9_b : List IOper := [
 X.m 65 10,
 X.o 66 (.bin .add (X.s 65) (X.i 1)),
 X.m 10 66]
def C.catnaplaw8_ResetTicks_r9 : List IOper := C.catnaplaw8_ResetTicks_r9_b
def C.catnaplaw8_ResetTicks_r9_w := @aopsE _ _ C.catnaplaw8_ResetTicks_r9.eq_1
def C.catnaplaw8_ResetTicks_c2 : ICode := .keep [1, 6, 7, 9, 10] (.region C.catnaplaw8_ResetTicks_r9)
def C.catnaplaw8_ResetTicks_c2_w := @awpE _ _ C.catnaplaw8_ResetTicks_c2.eq_1
def C.catnaplaw8_ResetTicks_r33_b : List IOper := [
 X.m 209 9,
 X.m 210 11,
 X.o 211 (.idxAddr 1 (X.s 209) (X.s 210)),
 X.n (.store1 (X.s 211) (.cst (.bool false)))]
def C.catnaplaw8_ResetTicks_r33 : List IOper := C.catnaplaw8_ResetTicks_r33_b
def C.catnaplaw8_ResetTicks_r33_w := @aopsE _ _ C.catnaplaw8_ResetTicks_r33.eq_1
def C.catnaplaw8_ResetTicks_c3 : ICode := .keep [1, 6, 7, 9, 10, 11] (.region C.catnaplaw8_ResetTicks_r33)
def C.catnaplaw8_ResetTicks_c3_w := @awpE _ _ C.catnaplaw8_ResetTicks_c3.eq_1
def C.catnaplaw8_ResetTicks_r32_b : List IOper := [
 X.m 206 7,
 X.m 207 11,
 X.o 208 (.call F.reset_Lines_Assert [X.s 206, X.s 207])]
def C.catnaplaw8_ResetTicks_r32 : List IOper := C.catnaplaw8_ResetTicks_r32_b
def C.catnaplaw8_ResetTicks_r32_w := @aopsE _ _ C.catnaplaw8_ResetTicks_r32.eq_1
def C.catnaplaw8_ResetTicks_r38_b : List IOper := [
 X.m 223 9,
 X.m 224 11,
 X.m 225 9,
 X.m 226 11,
 X.o 227 (.idxAddr 1 (X.s 225) (X.s 226)),
 X.o 228 (.load1 (X.s 227)),
 X.m 229 228,
 X.f 229 230 (.move (X.s 12)),
 X.o 231 (.pick (X.s 229) (.cst (.bool true)) (X.s 230)),
 X.o 232 (.idxAddr 1 (X.s 223) (X.s 224)),
 X.n (.store1 (X.s 232) (X.s 231))]
def C.catnaplaw8_ResetTicks_r38 : List IOper := C.catnaplaw8_ResetTicks_r38_b
def C.catnaplaw8_ResetTicks_r38_w := @aopsE _ _ C.catnaplaw8_ResetTicks_r38.eq_1
def C.catnaplaw8_ResetTicks_c4 : ICode := .keep [1, 6, 7, 9, 10, 11, 12] (.region C.catnaplaw8_ResetTicks_r38)
def C.catnaplaw8_ResetTicks_c4_w := @awpE _ _ C.catnaplaw8_ResetTicks_c4.eq_1
def C.catnaplaw8_ResetTicks_r37_b : List IOper := [
 X.o 4 (.move (.cst (.bool false)))]
def C.catnaplaw8_ResetTicks_r37 : List IOper := C.catnaplaw8_ResetTicks_r37_b
def C.catnaplaw8_ResetTicks_r37_w := @aopsE _ _ C.catnaplaw8_ResetTicks_r37.eq_1
def C.catnaplaw8_ResetTicks_c5 : ICode := .seq (.region C.catnaplaw8_ResetTicks_r37) .ret
def C.catnaplaw8_ResetTicks_c5_w := @awpE _ _ C.catnaplaw8_ResetTicks_c5.eq_1
def C.catnaplaw8_ResetTicks_c6 : ICode := .keep [1, 6, 7, 9, 10, 11, 12, 222] (.cond (X.s 222) C.catnaplaw8_ResetTicks_c5 .skip)
def C.catnaplaw8_ResetTicks_c6_w := @awpE _ _ C.catnaplaw8_ResetTicks_c6.eq_1
def C.catnaplaw8_ResetTicks_r36_b : List IOper := [
 X.m 217 7,
 X.m 218 11,
 X.o 219 (.call F.reset_Lines_Release [X.s 217, X.s 218]),
 X.o 220 (.bin .eql (X.s 219) (X.i 0)),
 X.m 221 12,
 X.o 222 (.eqB true (X.s 220) (X.s 221))]
def C.catnaplaw8_ResetTicks_r36 : List IOper := C.catnaplaw8_ResetTicks_r36_b
def C.catnaplaw8_ResetTicks_r36_w := @aopsE _ _ C.catnaplaw8_ResetTicks_r36.eq_1
def C.catnaplaw8_ResetTicks_c7 : ICode := .keep [1, 6, 7, 9, 10, 11, 12] (.seq (.seq (.region C.catnaplaw8_ResetTicks_r36) C.catnaplaw8_ResetTicks_c6) C.catnaplaw8_ResetTicks_c4)
def C.catnaplaw8_ResetTicks_c7_w := @awpE _ _ C.catnaplaw8_ResetTicks_c7.eq_1
def C.catnaplaw8_ResetTicks_r35_b : List IOper := [
 X.m 214 7,
 X.m 215 11,
 X.o 216 (.call F.reset_Lines_Held [X.s 214, X.s 215]),
 X.m 12 216]
def C.catnaplaw8_ResetTicks_r35 : List IOper := C.catnaplaw8_ResetTicks_r35_b
def C.catnaplaw8_ResetTicks_r35_w := @aopsE _ _ C.catnaplaw8_ResetTicks_r35.eq_1
def C.catnaplaw8_ResetTicks_r28_b : List IOper := [
 X.m 180 18,
 X.o 181 (.bin .add (X.s 180) (X.i 1)),
 X.m 18 181]
def C.catnaplaw8_ResetTicks_r28 : List IOper := C.catnaplaw8_ResetTicks_r28_b
def C.catnaplaw8_ResetTicks_r28_w := @aopsE _ _ C.catnaplaw8_ResetTicks_r28.eq_1
def C.catnaplaw8_ResetTicks_c8 : ICode := .keep [1, 6, 7, 9, 10, 13, 14, 18] (.region C.catnaplaw8_ResetTicks_r28)
def C.catnaplaw8_ResetTicks_c8_w := @awpE _ _ C.catnaplaw8_ResetTicks_c8.eq_1
def C.catnaplaw8_ResetTicks_r30_b : List IOper := [
 X.o 4 (.move (.cst (.bool false)))]
def C.catnaplaw8_ResetTicks_r30 : List IOper := C.catnaplaw8_ResetTicks_r30_b
def C.catnaplaw8_ResetTicks_r30_w := @aopsE _ _ C.catnaplaw8_ResetTicks_r30.eq_1
def C.catnaplaw8_ResetTicks_c9 : ICode := .seq (.region C.catnaplaw8_ResetTicks_r30) .ret
def C.catnaplaw8_ResetTicks_c9_w := @awpE _ _ C.catnaplaw8_ResetTicks_c9.eq_1
def C.catnaplaw8_ResetTicks_c10 : ICode := .keep [1, 6, 7, 9, 10, 13, 14, 18, 203] (.cond (X.s 203) C.catnaplaw8_ResetTicks_c9 .skip)
def C.catnaplaw8_ResetTicks_c10_w := @awpE _ _ C.catnaplaw8_ResetTicks_c10.eq_1
def C.catnaplaw8_ResetTicks_r29_b : List IOper := [
 X.m 182 7,
 X.m 183 18,
 X.m 185 14,
 X.m 186 18,
 X.o 187 (.idxAddr 1 (X.s 185) (X.s 186)),
 X.o 188 (.load1 (X.s 187)),
 X.o 189 (.bin .sub (X.s 188) (X.i 1)),
 X.o 190 (.minmax true (X.s 189) (X.i 0)),
 ⟨some 184, .call F.reset_Lines_Left [X.s 182, X.s 183], none, [⟨.load1 (X.s 187), 188, none⟩], []⟩,
 X.o 191 (.bin .neq (X.s 184) (X.s 190)),
 X.m 192 191,
 X.f 192 193 (.move (X.s 13)),
 X.f 192 194 (.move (X.s 18)),
 X.f 192 195 (.idxAddr 1 (X.s 193) (X.s 194)),
 X.f 192 196 (.load1 (X.s 195)),
 X.f 192 197 (.un .not (X.s 196)),
 X.f 192 198 (.move (X.s 197)),
 X.t 198 199 (.move (X.s 7)),
 X.t 198 200 (.move (X.s 18)),
 X.t 198 201 (.call F.reset_Lines_Held [X.s 199, X.s 200]),
 X.f 192 202 (.pick (X.s 198) (X.s 201) (.cst (.bool false))),
 X.o 203 (.pick (X.s 192) (.cst (.bool true)) (X.s 202))]
def C.catnaplaw8_ResetTicks_r29 : List IOper := C.catnaplaw8_ResetTicks_r29_b
def C.catnaplaw8_ResetTicks_r29_w := @aopsE _ _ C.catnaplaw8_ResetTicks_r29.eq_1
def C.catnaplaw8_ResetTicks_b11 : ICode := .seq (.region C.catnaplaw8_ResetTicks_r29) C.catnaplaw8_ResetTicks_c10
def C.catnaplaw8_ResetTicks_b11_w := @awpE _ _ C.catnaplaw8_ResetTicks_b11.eq_1
def C.catnaplaw8_ResetTicks_c12 : ICode := .keep [1, 6, 7, 9, 10, 13, 14, 18] (.seq (.block 8 C.catnaplaw8_ResetTicks_b11) C.catnaplaw8_ResetTicks_c8)
def C.catnaplaw8_ResetTicks_c12_w := @awpE _ _ C.catnaplaw8_ResetTicks_c12.eq_1
def C.catnaplaw8_ResetTicks_c13 : ICode := .keep [1, 6, 7, 9, 10, 13, 14, 18, 179] (.cond (X.s 179) .skip (.exit 7))
def C.catnaplaw8_ResetTicks_c13_w := @awpE _ _ C.catnaplaw8_ResetTicks_c13.eq_1
def C.catnaplaw8_ResetTicks_r27_b : List IOper := [
 X.m 175 18,
 X.o 176 (.fldAddr 2 (X.s 6)),
 X.o 177 (.load1 (X.s 176)),
 X.o 178 (.len (X.s 177)),
 X.o 179 (.bin .lss (X.s 175) (X.s 178))]
def C.catnaplaw8_ResetTicks_r27 : List IOper := C.catnaplaw8_ResetTicks_r27_b
def C.catnaplaw8_ResetTicks_r27_w := @aopsE _ _ C.catnaplaw8_ResetTicks_r27.eq_1
def C.catnaplaw8_ResetTicks_l14 : ICode := .keep [1, 6, 7, 9, 10, 13, 14, 18] (.seq (.seq (.region C.catnaplaw8_ResetTicks_r27) C.catnaplaw8_ResetTicks_c13) C.catnaplaw8_ResetTicks_c12)
def C.catnaplaw8_ResetTicks_l14_w := @awpE _ _ C.catnaplaw8_ResetTicks_l14.eq_1
def C.catnaplaw8_ResetTicks_b15 : ICode := .loop C.catnaplaw8_ResetTicks_l14
def C.catnaplaw8_ResetTicks_b15_w := @awpE _ _ C.catnaplaw8_ResetTicks_b15.eq_1
def C.catnaplaw8_ResetTicks_c16 : ICode := .keep [1, 6, 7, 9, 10, 13, 14, 18] (.block 7 C.catnaplaw8_ResetTicks_b15)
def C.catnaplaw8_ResetTicks_c16_w := @awpE _ _ C.catnaplaw8_ResetTicks_c16.eq_1
def C.catnaplaw8_ResetTicks_r26_b : List IOper := [
 X.o 18 (.move (X.i 0))]
def C.catnaplaw8_ResetTicks_r26 : List IOper := C.catnaplaw8_ResetTicks_r26_b
def C.catnaplaw8_ResetTicks_r26_w := @aopsE _ _ C.catnaplaw8_ResetTicks_r26.eq_1
def C.catnaplaw8_ResetTicks_c17 : ICode := .keep [1, 6, 7, 9, 10, 13, 14] (.seq (.region C.catnaplaw8_ResetTicks_r26) C.catnaplaw8_ResetTicks_c16)
def C.catnaplaw8_ResetTicks_c17_w := @awpE _ _ C.catnaplaw8_ResetTicks_c17.eq_1
def C.catnaplaw8_ResetTicks_r22_b : List IOper := [
 X.m 115 17,
 X.o 116 (.bin .add (X.s 115) (X.i 1)),
 X.m 17 116]
def C.catnaplaw8_ResetTicks_r22 : List IOper := C.catnaplaw8_ResetTicks_r22_b
def C.catnaplaw8_ResetTicks_r22_w := @aopsE _ _ C.catnaplaw8_ResetTicks_r22.eq_1
def C.catnaplaw8_ResetTicks_c18 : ICode := .keep [1, 6, 7, 9, 10, 13, 14, 16, 17] (.region C.catnaplaw8_ResetTicks_r22)
def C.catnaplaw8_ResetTicks_c18_w := @awpE _ _ C.catnaplaw8_ResetTicks_c18.eq_1
def C.catnaplaw8_ResetTicks_r25_b : List IOper := [
 X.m 169 9,
 X.m 170 16,
 X.m 171 17,
 X.o 172 (.idxAddr 1 (X.s 170) (X.s 171)),
 X.o 173 (.load1 (X.s 172)),
 X.o 174 (.idxAddr 1 (X.s 169) (X.s 173)),
 X.n (.store1 (X.s 174) (.cst (.bool false)))]
def C.catnaplaw8_ResetTicks_r25 : List IOper := C.catnaplaw8_ResetTicks_r25_b
def C.catnaplaw8_ResetTicks_r25_w := @aopsE _ _ C.catnaplaw8_ResetTicks_r25.eq_1
def C.catnaplaw8_ResetTicks_c19 : ICode := .keep [1, 6, 7, 9, 10, 13, 14, 16, 17] (.region C.catnaplaw8_ResetTicks_r25)
def C.catnaplaw8_ResetTicks_c19_w := @awpE _ _ C.catnaplaw8_ResetTicks_c19.eq_1
def C.catnaplaw8_ResetTicks_r24_b : List IOper := [
 X.o 4 (.move (.cst (.bool false)))]
def C.catnaplaw8_ResetTicks_r24 : List IOper := C.catnaplaw8_ResetTicks_r24_b
def C.catnaplaw8_ResetTicks_r24_w := @aopsE _ _ C.catnaplaw8_ResetTicks_r24.eq_1
def C.catnaplaw8_ResetTicks_c20 : ICode := .seq (.region C.catnaplaw8_ResetTicks_r24) .ret
def C.catnaplaw8_ResetTicks_c20_w := @awpE _ _ C.catnaplaw8_ResetTicks_c20.eq_1
def C.catnaplaw8_ResetTicks_c21 : ICode := .keep [1, 6, 7, 9, 10, 13, 14, 16, 17, 168] (.cond (X.s 168) C.catnaplaw8_ResetTicks_c20 .skip)
def C.catnaplaw8_ResetTicks_c21_w := @awpE _ _ C.catnaplaw8_ResetTicks_c21.eq_1
def C.catnaplaw8_ResetTicks_r23_b : List IOper := [
 X.m 117 13,
 X.m 118 16,
 X.m 119 17,
 X.o 120 (.idxAddr 1 (X.s 118) (X.s 119)),
 X.o 121 (.load1 (X.s 120)),
 X.o 122 (.idxAddr 1 (X.s 117) (X.s 121)),
 X.o 123 (.load1 (X.s 122)),
 X.o 124 (.un .not (X.s 123)),
 X.m 125 124,
 X.f 125 126 (.move (X.s 9)),
 X.f 125 127 (.move (X.s 16)),
 X.f 125 128 (.move (X.s 17)),
 X.f 125 129 (.idxAddr 1 (X.s 127) (X.s 128)),
 X.f 125 130 (.load1 (X.s 129)),
 X.f 125 131 (.idxAddr 1 (X.s 126) (X.s 130)),
 X.f 125 132 (.load1 (X.s 131)),
 X.f 125 133 (.un .not (X.s 132)),
 X.o 134 (.pick (X.s 125) (.cst (.bool true)) (X.s 133)),
 X.m 135 134,
 X.f 135 136 (.move (X.s 14)),
 X.f 135 137 (.move (X.s 16)),
 X.f 135 138 (.move (X.s 17)),
 X.f 135 139 (.idxAddr 1 (X.s 137) (X.s 138)),
 X.f 135 140 (.load1 (X.s 139)),
 X.f 135 141 (.idxAddr 1 (X.s 136) (X.s 140)),
 X.f 135 142 (.load1 (X.s 141)),
 X.f 135 143 (.bin .neq (X.s 142) (X.i 0)),
 X.o 144 (.pick (X.s 135) (.cst (.bool true)) (X.s 143)),
 X.m 145 144,
 X.f 145 146 (.move (X.s 7)),
 X.f 145 147 (.move (X.s 16)),
 X.f 145 148 (.move (X.s 17)),
 X.f 145 149 (.idxAddr 1 (X.s 147) (X.s 148)),
 X.f 145 150 (.load1 (X.s 149)),
 X.f 145 151 (.call F.reset_Lines_Held [X.s 146, X.s 150]),
 X.o 152 (.pick (X.s 145) (.cst (.bool true)) (X.s 151)),
 X.m 153 152,
 X.f 153 154 (.move (X.s 17)),
 X.f 153 155 (.bin .gtr (X.s 154) (X.i 0)),
 X.f 153 156 (.move (X.s 155)),
 X.t 156 157 (.move (X.s 16)),
 X.t 156 158 (.move (X.s 17)),
 X.t 156 159 (.idxAddr 1 (X.s 157) (X.s 158)),
 X.t 156 160 (.load1 (X.s 159)),
 X.t 156 161 (.move (X.s 16)),
 X.t 156 162 (.move (X.s 17)),
 X.t 156 163 (.bin .sub (X.s 162) (X.i 1)),
 X.t 156 164 (.idxAddr 1 (X.s 161) (X.s 163)),
 X.t 156 165 (.load1 (X.s 164)),
 X.t 156 166 (.bin .leq (X.s 160) (X.s 165)),
 X.f 153 167 (.pick (X.s 156) (X.s 166) (.cst (.bool false))),
 X.o 168 (.pick (X.s 153) (.cst (.bool true)) (X.s 167))]
def C.catnaplaw8_ResetTicks_r23 : List IOper := C.catnaplaw8_ResetTicks_r23_b
def C.catnaplaw8_ResetTicks_r23_w := @aopsE _ _ C.catnaplaw8_ResetTicks_r23.eq_1
def C.catnaplaw8_ResetTicks_b22 : ICode := .seq (.seq (.region C.catnaplaw8_ResetTicks_r23) C.catnaplaw8_ResetTicks_c21) C.catnaplaw8_ResetTicks_c19
def C.catnaplaw8_ResetTicks_b22_w := @awpE _ _ C.catnaplaw8_ResetTicks_b22.eq_1
def C.catnaplaw8_ResetTicks_c23 : ICode := .keep [1, 6, 7, 9, 10, 13, 14, 16, 17] (.seq (.block 6 C.catnaplaw8_ResetTicks_b22) C.catnaplaw8_ResetTicks_c18)
def C.catnaplaw8_ResetTicks_c23_w := @awpE _ _ C.catnaplaw8_ResetTicks_c23.eq_1
def C.catnaplaw8_ResetTicks_c24 : ICode := .keep [1, 6, 7, 9, 10, 13, 14, 16, 17, 114] (.cond (X.s 114) .skip (.exit 5))
def C.catnaplaw8_ResetTicks_c24_w := @awpE _ _ C.catnaplaw8_ResetTicks_c24.eq_1
def C.catnaplaw8_ResetTicks_r21_b : List IOper := [
 X.m 111 17,
 X.m 112 16,
 X.o 113 (.len (X.s 112)),
 X.o 114 (.bin .lss (X.s 111) (X.s 113))]
def C.catnaplaw8_ResetTicks_r21 : List IOper := C.catnaplaw8_ResetTicks_r21_b
def C.catnaplaw8_ResetTicks_r21_w := @aopsE _ _ C.catnaplaw8_ResetTicks_r21.eq_1
def C.catnaplaw8_ResetTicks_l25 : ICode := .keep [1, 6, 7, 9, 10, 13, 14, 16, 17] (.seq (.seq (.region C.catnaplaw8_ResetTicks_r21) C.catnaplaw8_ResetTicks_c24) C.catnaplaw8_ResetTicks_c23)
def C.catnaplaw8_ResetTicks_l25_w := @awpE _ _ C.catnaplaw8_ResetTicks_l25.eq_1
def C.catnaplaw8_ResetTicks_b26 : ICode := .loop C.catnaplaw8_ResetTicks_l25
def C.catnaplaw8_ResetTicks_b26_w := @awpE _ _ C.catnaplaw8_ResetTicks_b26.eq_1
def C.catnaplaw8_ResetTicks_c27 : ICode := .keep [1, 6, 7, 9, 10, 13, 14, 16, 17] (.block 5 C.catnaplaw8_ResetTicks_b26)
def C.catnaplaw8_ResetTicks_c27_w := @awpE _ _ C.catnaplaw8_ResetTicks_c27.eq_1
def C.catnaplaw8_ResetTicks_r20_b : List IOper := [
 X.o 17 (.move (X.i 0))]
def C.catnaplaw8_ResetTicks_r20 : List IOper := C.catnaplaw8_ResetTicks_r20_b
def C.catnaplaw8_ResetTicks_r20_w := @aopsE _ _ C.catnaplaw8_ResetTicks_r20.eq_1
def C.catnaplaw8_ResetTicks_c28 : ICode := .keep [1, 6, 7, 9, 10, 13, 14, 16] (.seq (.seq (.region C.catnaplaw8_ResetTicks_r20) C.catnaplaw8_ResetTicks_c27) C.catnaplaw8_ResetTicks_c17)
def C.catnaplaw8_ResetTicks_c28_w := @awpE _ _ C.catnaplaw8_ResetTicks_c28.eq_1
def C.catnaplaw8_ResetTicks_r19_b : List IOper := [
 X.m 109 7,
 X.o 110 (.call F.reset_Lines_Tick [X.s 109]),
 X.m 16 110]
def C.catnaplaw8_ResetTicks_r19 : List IOper := C.catnaplaw8_ResetTicks_r19_b
def C.catnaplaw8_ResetTicks_r19_w := @aopsE _ _ C.catnaplaw8_ResetTicks_r19.eq_1
def C.catnaplaw8_ResetTicks_c29 : ICode := .keep [1, 6, 7, 9, 10, 13, 14] (.seq (.region C.catnaplaw8_ResetTicks_r19) C.catnaplaw8_ResetTicks_c28)
def C.catnaplaw8_ResetTicks_c29_w := @awpE _ _ C.catnaplaw8_ResetTicks_c29.eq_1
def C.catnaplaw8_ResetTicks_r16_b : List IOper := [
 X.m 95 15,
 X.o 96 (.bin .add (X.s 95) (X.i 1)),
 X.m 15 96]
def C.catnaplaw8_ResetTicks_r16 : List IOper := C.catnaplaw8_ResetTicks_r16_b
def C.catnaplaw8_ResetTicks_r16_w := @aopsE _ _ C.catnaplaw8_ResetTicks_r16.eq_1
def C.catnaplaw8_ResetTicks_c30 : ICode := .keep [1, 6, 7, 9, 10, 13, 14, 15] (.region C.catnaplaw8_ResetTicks_r16)
def C.catnaplaw8_ResetTicks_c30_w := @awpE _ _ C.catnaplaw8_ResetTicks_c30.eq_1
def C.catnaplaw8_ResetTicks_r18_b : List IOper := [
 X.m 103 14,
 X.m 104 15,
 X.m 105 7,
 X.m 106 15,
 X.o 107 (.call F.reset_Lines_Left [X.s 105, X.s 106]),
 X.o 108 (.idxAddr 1 (X.s 103) (X.s 104)),
 X.n (.store1 (X.s 108) (X.s 107))]
def C.catnaplaw8_ResetTicks_r18 : List IOper := C.catnaplaw8_ResetTicks_r18_b
def C.catnaplaw8_ResetTicks_r18_w := @aopsE _ _ C.catnaplaw8_ResetTicks_r18.eq_1
def C.catnaplaw8_ResetTicks_c31 : ICode := .keep [1, 6, 7, 9, 10, 13, 14, 15] (.region C.catnaplaw8_ResetTicks_r18)
def C.catnaplaw8_ResetTicks_c31_w := @awpE _ _ C.catnaplaw8_ResetTicks_c31.eq_1
def C.catnaplaw8_ResetTicks_r17_b : List IOper := [
 X.m 97 13,
 X.m 98 15,
 X.m 99 7,
 X.m 100 15,
 X.o 101 (.call F.reset_Lines_Held [X.s 99, X.s 100]),
 X.o 102 (.idxAddr 1 (X.s 97) (X.s 98)),
 X.n (.store1 (X.s 102) (X.s 101))]
def C.catnaplaw8_ResetTicks_r17 : List IOper := C.catnaplaw8_ResetTicks_r17_b
def C.catnaplaw8_ResetTicks_r17_w := @aopsE _ _ C.catnaplaw8_ResetTicks_r17.eq_1
def C.catnaplaw8_ResetTicks_b32 : ICode := .seq (.region C.catnaplaw8_ResetTicks_r17) C.catnaplaw8_ResetTicks_c31
def C.catnaplaw8_ResetTicks_b32_w := @awpE _ _ C.catnaplaw8_ResetTicks_b32.eq_1
def C.catnaplaw8_ResetTicks_c33 : ICode := .keep [1, 6, 7, 9, 10, 13, 14, 15] (.seq (.block 4 C.catnaplaw8_ResetTicks_b32) C.catnaplaw8_ResetTicks_c30)
def C.catnaplaw8_ResetTicks_c33_w := @awpE _ _ C.catnaplaw8_ResetTicks_c33.eq_1
def C.catnaplaw8_ResetTicks_c34 : ICode := .keep [1, 6, 7, 9, 10, 13, 14, 15, 94] (.cond (X.s 94) .skip (.exit 3))
def C.catnaplaw8_ResetTicks_c34_w := @awpE _ _ C.catnaplaw8_ResetTicks_c34.eq_1
def C.catnaplaw8_ResetTicks_r15_b : List IOper := [
 X.m 90 15,
 X.o 91 (.fldAddr 2 (X.s 6)),
 X.o 92 (.load1 (X.s 91)),
 X.o 93 (.len (X.s 92)),
 X.o 94 (.bin .lss (X.s 90) (X.s 93))]
def C.catnaplaw8_ResetTicks_r15 : List IOper := C.catnaplaw8_ResetTicks_r15_b
def C.catnaplaw8_ResetTicks_r15_w := @aopsE _ _ C.catnaplaw8_ResetTicks_r15.eq_1
def C.catnaplaw8_ResetTicks_l35 : ICode := .keep [1, 6, 7, 9, 10, 13, 14, 15] (.seq (.seq (.region C.catnaplaw8_ResetTicks_r15) C.catnaplaw8_ResetTicks_c34) C.catnaplaw8_ResetTicks_c33)
def C.catnaplaw8_ResetTicks_l35_w := @awpE _ _ C.catnaplaw8_ResetTicks_l35.eq_1
def C.catnaplaw8_ResetTicks_b36 : ICode := .loop C.catnaplaw8_ResetTicks_l35
def C.catnaplaw8_ResetTicks_b36_w := @awpE _ _ C.catnaplaw8_ResetTicks_b36.eq_1
def C.catnaplaw8_ResetTicks_c37 : ICode := .keep [1, 6, 7, 9, 10, 13, 14, 15] (.block 3 C.catnaplaw8_ResetTicks_b36)
def C.catnaplaw8_ResetTicks_c37_w := @awpE _ _ C.catnaplaw8_ResetTicks_c37.eq_1
def C.catnaplaw8_ResetTicks_r14_b : List IOper := [
 X.o 15 (.move (X.i 0))]
def C.catnaplaw8_ResetTicks_r14 : List IOper := C.catnaplaw8_ResetTicks_r14_b
def C.catnaplaw8_ResetTicks_r14_w := @aopsE _ _ C.catnaplaw8_ResetTicks_r14.eq_1
def C.catnaplaw8_ResetTicks_c38 : ICode := .keep [1, 6, 7, 9, 10, 13, 14] (.seq (.seq (.region C.catnaplaw8_ResetTicks_r14) C.catnaplaw8_ResetTicks_c37) C.catnaplaw8_ResetTicks_c29)
def C.catnaplaw8_ResetTicks_c38_w := @awpE _ _ C.catnaplaw8_ResetTicks_c38.eq_1
def C.catnaplaw8_ResetTicks_r13_b : List IOper := [
 X.o 86 (.fldAddr 2 (X.s 6)),
 X.o 87 (.load1 (X.s 86)),
 X.o 88 (.len (X.s 87)),
 X.o 89 (.makeSlice 1 8 [.int .i64 0] (X.s 88) (X.s 88)),
 X.m 14 89]
def C.catnaplaw8_ResetTicks_r13 : List IOper := C.catnaplaw8_ResetTicks_r13_b
def C.catnaplaw8_ResetTicks_r13_w := @aopsE _ _ C.catnaplaw8_ResetTicks_r13.eq_1
def C.catnaplaw8_ResetTicks_c39 : ICode := .keep [1, 6, 7, 9, 10, 13] (.seq (.region C.catnaplaw8_ResetTicks_r13) C.catnaplaw8_ResetTicks_c38)
def C.catnaplaw8_ResetTicks_c39_w := @awpE _ _ C.catnaplaw8_ResetTicks_c39.eq_1
def C.catnaplaw8_ResetTicks_r12_b : List IOper := [
 X.o 82 (.fldAddr 2 (X.s 6)),
 X.o 83 (.load1 (X.s 82)),
 X.o 84 (.len (X.s 83)),
 X.o 85 (.makeSlice 1 1 [.bool false] (X.s 84) (X.s 84)),
 X.m 13 85]
def C.catnaplaw8_ResetTicks_r12 : List IOper := C.catnaplaw8_ResetTicks_r12_b
def C.catnaplaw8_ResetTicks_r12_w := @aopsE _ _ C.catnaplaw8_ResetTicks_r12.eq_1
def C.catnaplaw8_ResetTicks_c40 : ICode := .seq (.region C.catnaplaw8_ResetTicks_r35) C.catnaplaw8_ResetTicks_c7
def C.catnaplaw8_ResetTicks_c40_w := @awpE _ _ C.catnaplaw8_ResetTicks_c40.eq_1
def C.catnaplaw8_ResetTicks_c41 : ICode := .seq (.region C.catnaplaw8_ResetTicks_r12) C.catnaplaw8_ResetTicks_c39
def C.catnaplaw8_ResetTicks_c41_w := @awpE _ _ C.catnaplaw8_ResetTicks_c41.eq_1
def C.catnaplaw8_ResetTicks_c42 : ICode := .keep [1, 6, 7, 9, 10, 11, 212] (.cond (X.s 212) C.catnaplaw8_ResetTicks_c40 C.catnaplaw8_ResetTicks_c41)
def C.catnaplaw8_ResetTicks_c42_w := @awpE _ _ C.catnaplaw8_ResetTicks_c42.eq_1
def C.catnaplaw8_ResetTicks_r34_b : List IOper := [
 X.o 213 (.bin .eql (X.s 81) (X.i 1)),
 X.m 212 213]
def C.catnaplaw8_ResetTicks_r34 : List IOper := C.catnaplaw8_ResetTicks_r34_b
def C.catnaplaw8_ResetTicks_r34_w := @aopsE _ _ C.catnaplaw8_ResetTicks_r34.eq_1
def C.catnaplaw8_ResetTicks_c43 : ICode := .seq (.region C.catnaplaw8_ResetTicks_r32) C.catnaplaw8_ResetTicks_c3
def C.catnaplaw8_ResetTicks_c43_w := @awpE _ _ C.catnaplaw8_ResetTicks_c43.eq_1
def C.catnaplaw8_ResetTicks_c44 : ICode := .seq (.region C.catnaplaw8_ResetTicks_r34) C.catnaplaw8_ResetTicks_c42
def C.catnaplaw8_ResetTicks_c44_w := @awpE _ _ C.catnaplaw8_ResetTicks_c44.eq_1
def C.catnaplaw8_ResetTicks_c45 : ICode := .keep [1, 6, 7, 9, 10, 11, 81, 204] (.cond (X.s 204) C.catnaplaw8_ResetTicks_c43 C.catnaplaw8_ResetTicks_c44)
def C.catnaplaw8_ResetTicks_c45_w := @awpE _ _ C.catnaplaw8_ResetTicks_c45.eq_1
def C.catnaplaw8_ResetTicks_r31_b : List IOper := [
 X.o 205 (.bin .eql (X.s 81) (X.i 0)),
 X.m 204 205]
def C.catnaplaw8_ResetTicks_r31 : List IOper := C.catnaplaw8_ResetTicks_r31_b
def C.catnaplaw8_ResetTicks_r31_w := @aopsE _ _ C.catnaplaw8_ResetTicks_r31.eq_1
def C.catnaplaw8_ResetTicks_b46 : ICode := .seq (.region C.catnaplaw8_ResetTicks_r31) C.catnaplaw8_ResetTicks_c45
def C.catnaplaw8_ResetTicks_b46_w := @awpE _ _ C.catnaplaw8_ResetTicks_b46.eq_1
def C.catnaplaw8_ResetTicks_c47 : ICode := .keep [1, 6, 7, 9, 10, 11, 81] (.block 2 C.catnaplaw8_ResetTicks_b46)
def C.catnaplaw8_ResetTicks_c47_w := @awpE _ _ C.catnaplaw8_ResetTicks_c47.eq_1
def C.catnaplaw8_ResetTicks_r11_b : List IOper := [
 X.m 76 1,
 X.m 77 10,
 X.o 78 (.idxAddr 2 (X.s 76) (X.s 77)),
 X.o 79 (.fldAddr 0 (X.s 78)),
 X.o 80 (.load1 (X.s 79)),
 X.o 81 (.call F.catnaplaw8_pick [X.s 80, X.i 4])]
def C.catnaplaw8_ResetTicks_r11 : List IOper := C.catnaplaw8_ResetTicks_r11_b
def C.catnaplaw8_ResetTicks_r11_w := @aopsE _ _ C.catnaplaw8_ResetTicks_r11.eq_1
def C.catnaplaw8_ResetTicks_c48 : ICode := .keep [1, 6, 7, 9, 10, 11] (.seq (.region C.catnaplaw8_ResetTicks_r11) C.catnaplaw8_ResetTicks_c47)
def C.catnaplaw8_ResetTicks_c48_w := @awpE _ _ C.catnaplaw8_ResetTicks_c48.eq_1
def C.catnaplaw8_ResetTicks_r10_b : List IOper := [
 X.m 67 1,
 X.m 68 10,
 X.o 69 (.idxAddr 2 (X.s 67) (X.s 68)),
 X.o 70 (.fldAddr 1 (X.s 69)),
 X.o 71 (.load1 (X.s 70)),
 X.o 72 (.fldAddr 2 (X.s 6)),
 X.o 73 (.load1 (X.s 72)),
 X.o 74 (.len (X.s 73)),
 X.o 75 (.call F.catnaplaw8_pick [X.s 71, X.s 74]),
 X.m 11 75]
def C.catnaplaw8_ResetTicks_r10 : List IOper := C.catnaplaw8_ResetTicks_r10_b
def C.catnaplaw8_ResetTicks_r10_w := @aopsE _ _ C.catnaplaw8_ResetTicks_r10.eq_1
def C.catnaplaw8_ResetTicks_b49 : ICode := .seq (.region C.catnaplaw8_ResetTicks_r10) C.catnaplaw8_ResetTicks_c48
def C.catnaplaw8_ResetTicks_b49_w := @awpE _ _ C.catnaplaw8_ResetTicks_b49.eq_1
def C.catnaplaw8_ResetTicks_c50 : ICode := .keep [1, 6, 7, 9, 10] (.seq (.block 1 C.catnaplaw8_ResetTicks_b49) C.catnaplaw8_ResetTicks_c2)
def C.catnaplaw8_ResetTicks_c50_w := @awpE _ _ C.catnaplaw8_ResetTicks_c50.eq_1
def C.catnaplaw8_ResetTicks_c51 : ICode := .keep [1, 6, 7, 9, 10, 64] (.cond (X.s 64) .skip (.exit 0))
def C.catnaplaw8_ResetTicks_c51_w := @awpE _ _ C.catnaplaw8_ResetTicks_c51.eq_1
def C.catnaplaw8_ResetTicks_r8_b : List IOper := [
 X.m 55 10,
 X.m 56 1,
 X.o 57 (.len (X.s 56)),
 X.o 58 (.bin .lss (X.s 55) (X.s 57)),
 X.m 59 58,
 X.t 59 60 (.fldAddr 2 (X.s 6)),
 X.t 59 61 (.load1 (X.s 60)),
 X.t 59 62 (.len (X.s 61)),
 X.t 59 63 (.bin .gtr (X.s 62) (X.i 0)),
 X.o 64 (.pick (X.s 59) (X.s 63) (.cst (.bool false)))]
def C.catnaplaw8_ResetTicks_r8 : List IOper := C.catnaplaw8_ResetTicks_r8_b
def C.catnaplaw8_ResetTicks_r8_w := @aopsE _ _ C.catnaplaw8_ResetTicks_r8.eq_1
def C.catnaplaw8_ResetTicks_l52 : ICode := .keep [1, 6, 7, 9, 10] (.seq (.seq (.region C.catnaplaw8_ResetTicks_r8) C.catnaplaw8_ResetTicks_c51) C.catnaplaw8_ResetTicks_c50)
def C.catnaplaw8_ResetTicks_l52_w := @awpE _ _ C.catnaplaw8_ResetTicks_l52.eq_1
def C.catnaplaw8_ResetTicks_b53 : ICode := .loop C.catnaplaw8_ResetTicks_l52
def C.catnaplaw8_ResetTicks_b53_w := @awpE _ _ C.catnaplaw8_ResetTicks_b53.eq_1
def C.catnaplaw8_ResetTicks_c54 : ICode := .keep [1, 6, 7, 9, 10] (.block 0 C.catnaplaw8_ResetTicks_b53)
def C.catnaplaw8_ResetTicks_c54_w := @awpE _ _ C.catnaplaw8_ResetTicks_c54.eq_1
def C.catnaplaw8_ResetTicks_r7_b : List IOper := [
 X.o 10 (.move (X.i 0))]
def C.catnaplaw8_ResetTicks_r7 : List IOper := C.catnaplaw8_ResetTicks_r7_b
def C.catnaplaw8_ResetTicks_r7_w := @aopsE _ _ C.catnaplaw8_ResetTicks_r7.eq_1
def C.catnaplaw8_ResetTicks_c55 : ICode := .keep [1, 6, 7, 9] (.seq (.seq (.region C.catnaplaw8_ResetTicks_r7) C.catnaplaw8_ResetTicks_c54) C.catnaplaw8_ResetTicks_c1)
def C.catnaplaw8_ResetTicks_c55_w := @awpE _ _ C.catnaplaw8_ResetTicks_c55.eq_1
def C.catnaplaw8_ResetTicks_r6_b : List IOper := [
 X.o 51 (.fldAddr 2 (X.s 6)),
 X.o 52 (.load1 (X.s 51)),
 X.o 53 (.len (X.s 52)),
 X.o 54 (.makeSlice 1 1 [.bool false] (X.s 53) (X.s 53)),
 X.m 9 54]
def C.catnaplaw8_ResetTicks_r6 : List IOper := C.catnaplaw8_ResetTicks_r6_b
def C.catnaplaw8_ResetTicks_r6_w := @aopsE _ _ C.catnaplaw8_ResetTicks_r6.eq_1
def C.catnaplaw8_ResetTicks_c56 : ICode := .keep [1, 6, 7] (.seq (.region C.catnaplaw8_ResetTicks_r6) C.catnaplaw8_ResetTicks_c55)
def C.catnaplaw8_ResetTicks_c56_w := @awpE _ _ C.catnaplaw8_ResetTicks_c56.eq_1
def C.catnaplaw8_ResetTicks_r5_b : List IOper := [
 X.m 42 5,
 X.m 43 42,
 X.t 43 44 (.move (X.s 7)),
 X.t 43 45 (.eqP 0 true (X.s 44) (.cst (.nilp))),
 X.o 46 (.pick (X.s 43) (X.s 45) (.cst (.bool false))),
 X.m 47 46,
 X.t 47 48 (.move (X.s 8)),
 X.t 47 49 (.bin .eql (X.s 48) (X.i 0)),
 X.o 50 (.pick (X.s 47) (X.s 49) (.cst (.bool false))),
 X.m 4 50]
def C.catnaplaw8_ResetTicks_r5 : List IOper := C.catnaplaw8_ResetTicks_r5_b
def C.catnaplaw8_ResetTicks_r5_w := @aopsE _ _ C.catnaplaw8_ResetTicks_r5.eq_1
def C.catnaplaw8_ResetTicks_c57 : ICode := .seq (.region C.catnaplaw8_ResetTicks_r5) .ret
def C.catnaplaw8_ResetTicks_c57_w := @awpE _ _ C.catnaplaw8_ResetTicks_c57.eq_1
def C.catnaplaw8_ResetTicks_c58 : ICode := .keep [1, 5, 6, 7, 8, 41] (.cond (X.s 41) C.catnaplaw8_ResetTicks_c57 .skip)
def C.catnaplaw8_ResetTicks_c58_w := @awpE _ _ C.catnaplaw8_ResetTicks_c58.eq_1
def C.catnaplaw8_ResetTicks_r4_b : List IOper := [
 X.m 27 5,
 X.o 28 (.un .not (X.s 27)),
 X.m 29 28,
 X.f 29 30 (.move (X.s 7)),
 X.f 29 31 (.eqP 0 false (X.s 30) (.cst (.nilp))),
 X.o 32 (.pick (X.s 29) (.cst (.bool true)) (X.s 31)),
 X.m 33 32,
 X.f 33 34 (.move (X.s 8)),
 X.f 33 35 (.bin .neq (X.s 34) (X.i 0)),
 X.o 36 (.pick (X.s 33) (.cst (.bool true)) (X.s 35)),
 X.m 37 36,
 X.f 37 38 (.move (X.s 1)),
 X.f 37 39 (.len (X.s 38)),
 X.f 37 40 (.bin .gtr (X.s 39) (X.i 150)),
 X.o 41 (.pick (X.s 37) (.cst (.bool true)) (X.s 40))]
def C.catnaplaw8_ResetTicks_r4 : List IOper := C.catnaplaw8_ResetTicks_r4_b
def C.catnaplaw8_ResetTicks_r4_w := @aopsE _ _ C.catnaplaw8_ResetTicks_r4.eq_1
def C.catnaplaw8_ResetTicks_c59 : ICode := .keep [1, 5, 6, 7, 8] (.seq (.seq (.region C.catnaplaw8_ResetTicks_r4) C.catnaplaw8_ResetTicks_c58) C.catnaplaw8_ResetTicks_c56)
def C.catnaplaw8_ResetTicks_c59_w := @awpE _ _ C.catnaplaw8_ResetTicks_c59.eq_1
def C.catnaplaw8_ResetTicks_r3_b : List IOper := [
 X.o 23 (.loadN 4 (X.s 6)),
 X.o 24 (.call F.reset_New [X.s 23]),
 X.m 22 24,
 X.o 25 (.extract (X.s 22) 0),
 X.o 26 (.extract (X.s 22) 1),
 X.m 7 25,
 X.m 8 26]
def C.catnaplaw8_ResetTicks_r3 : List IOper := C.catnaplaw8_ResetTicks_r3_b
def C.catnaplaw8_ResetTicks_r3_w := @aopsE _ _ C.catnaplaw8_ResetTicks_r3.eq_1
def C.catnaplaw8_ResetTicks_c60 : ICode := .keep [1, 5, 6] (.seq (.region C.catnaplaw8_ResetTicks_r3) C.catnaplaw8_ResetTicks_c59)
def C.catnaplaw8_ResetTicks_c60_w := @awpE _ _ C.catnaplaw8_ResetTicks_c60.eq_1
def C.catnaplaw8_ResetTicks_r2_b : List IOper := [
 X.m 20 0,
 X.o 21 (.call F.catnaplaw8_chip [X.s 20]),
 X.o 6 (.alloc [.nils, .nils, .nils, .nils]),
 X.n (.storeN 4 (X.s 6) (X.s 21))]
def C.catnaplaw8_ResetTicks_r2 : List IOper := C.catnaplaw8_ResetTicks_r2_b
def C.catnaplaw8_ResetTicks_r2_w := @aopsE _ _ C.catnaplaw8_ResetTicks_r2.eq_1
def C.catnaplaw8_ResetTicks_c61 : ICode := .keep [0, 1, 5] (.seq (.region C.catnaplaw8_ResetTicks_r2) C.catnaplaw8_ResetTicks_c60)
def C.catnaplaw8_ResetTicks_c61_w := @awpE _ _ C.catnaplaw8_ResetTicks_c61.eq_1
def C.catnaplaw8_ResetTicks_r1_b : List IOper := [
 X.o 19 (.call F.catnaplaw8_shown []),
 X.m 5 19]
def C.catnaplaw8_ResetTicks_r1 : List IOper := C.catnaplaw8_ResetTicks_r1_b
def C.catnaplaw8_ResetTicks_r1_w := @aopsE _ _ C.catnaplaw8_ResetTicks_r1.eq_1
def C.catnaplaw8_ResetTicks_c62 : ICode := .keep [0, 1] (.seq (.region C.catnaplaw8_ResetTicks_r1) C.catnaplaw8_ResetTicks_c61)
def C.catnaplaw8_ResetTicks_c62_w := @awpE _ _ C.catnaplaw8_ResetTicks_c62.eq_1
def C.catnaplaw8_ResetTicks_r0_b : List IOper := [
 X.o 4 (.move (.cst (.bool false)))]
def C.catnaplaw8_ResetTicks_r0 : List IOper := C.catnaplaw8_ResetTicks_r0_b
def C.catnaplaw8_ResetTicks_r0_w := @aopsE _ _ C.catnaplaw8_ResetTicks_r0.eq_1
def C.catnaplaw8_ResetTicks : IFunc := ⟨2, [.slot 4], .seq (.region C.catnaplaw8_ResetTicks_r0) C.catnaplaw8_ResetTicks_c62⟩
def C.catnaplaw8_ResetTicks_W := And.intro (And.intro (And.intro (And.intro (And.intro (And.intro @C.catnaplaw8_ResetTicks_r39_w (And.intro @C.catnaplaw8_ResetTicks_c1_w @C.catnaplaw8_ResetTicks_r9_w)) (And.intro @C.catnaplaw8_ResetTicks_c2_w (And.intro @C.catnaplaw8_ResetTicks_r33_w @C.catnaplaw8_ResetTicks_c3_w))) (And.intro (And.intro @C.catnaplaw8_ResetTicks_r32_w (And.intro @C.catnaplaw8_ResetTicks_r38_w @C.catnaplaw8_ResetTicks_c4_w)) (And.intro @C.catnaplaw8_ResetTicks_r37_w (And.intro @C.catnaplaw8_ResetTicks_c5_w @C.catnaplaw8_ResetTicks_c6_w)))) (And.intro (And.intro (And.intro @C.catnaplaw8_ResetTicks_r36_w (And.intro @C.catnaplaw8_ResetTicks_c7_w @C.catnaplaw8_ResetTicks_r35_w)) (And.intro @C.catnaplaw8_ResetTicks_r28_w (And.intro @C.catnaplaw8_ResetTicks_c8_w @C.catnaplaw8_ResetTicks_r30_w))) (And.intro (And.intro @C.catnaplaw8_ResetTicks_c9_w (And.intro @C.catnaplaw8_ResetTicks_c10_w @C.catnaplaw8_ResetTicks_r29_w)) (And.intro @C.catnaplaw8_ResetTicks_b11_w (And.intro @C.catnaplaw8_ResetTicks_c12_w @C.catnaplaw8_ResetTicks_c13_w))))) (And.intro (And.intro (And.intro (And.intro @C.catnaplaw8_ResetTicks_r27_w (And.intro @C.catnaplaw8_ResetTicks_b15_w @C.catnaplaw8_ResetTicks_c16_w)) (And.intro @C.catnaplaw8_ResetTicks_r26_w (And.intro @C.catnaplaw8_ResetTicks_c17_w @C.catnaplaw8_ResetTicks_r22_w))) (And.intro (And.intro @C.catnaplaw8_ResetTicks_c18_w (And.intro @C.catnaplaw8_ResetTicks_r25_w @C.catnaplaw8_ResetTicks_c19_w)) (And.intro @C.catnaplaw8_ResetTicks_r24_w (And.intro @C.catnaplaw8_ResetTicks_c20_w @C.catnaplaw8_ResetTicks_c21_w)))) (And.intro (And.intro (And.intro @C.catnaplaw8_ResetTicks_r23_w (And.intro @C.catnaplaw8_ResetTicks_b22_w @C.catnaplaw8_ResetTicks_c23_w)) (And.intro @C.catnaplaw8_ResetTicks_c24_w (And.intro @C.catnaplaw8_ResetTicks_r21_w @C.catnaplaw8_ResetTicks_b26_w))) (And.intro (And.intro @C.catnaplaw8_ResetTicks_c27_w (And.intro @C.catnaplaw8_ResetTicks_r20_w @C.catnaplaw8_ResetTicks_c28_w)) (And.intro (And.intro @C.catnaplaw8_ResetTicks_r19_w @C.catnaplaw8_ResetTicks_c29_w) (And.intro @C.catnaplaw8_ResetTicks_r16_w @C.catnaplaw8_ResetTicks_c30_w)))))) (And.intro (And.intro (And.intro (And.intro (And.intro @C.catnaplaw8_ResetTicks_r18_w (And.intro @C.catnaplaw8_ResetTicks_c31_w @C.catnaplaw8_ResetTicks_r17_w)) (And.intro @C.catnaplaw8_ResetTicks_b32_w (And.intro @C.catnaplaw8_ResetTicks_c33_w @C.catnaplaw8_ResetTicks_c34_w))) (And.intro (And.intro @C.catnaplaw8_ResetTicks_r15_w (And.intro @C.catnaplaw8_ResetTicks_b36_w @C.catnaplaw8_ResetTicks_c37_w)) (And.intro @C.catnaplaw8_ResetTicks_r14_w (And.intro @C.catnaplaw8_ResetTicks_c38_w @C.catnaplaw8_ResetTicks_r13_w)))) (And.intro (And.intro (And.intro @C.catnaplaw8_ResetTicks_c39_w (And.intro @C.catnaplaw8_ResetTicks_r12_w @C.catnaplaw8_ResetTicks_c40_w)) (And.intro @C.catnaplaw8_ResetTicks_c41_w (And.intro @C.catnaplaw8_ResetTicks_c42_w @C.catnaplaw8_ResetTicks_r34_w))) (And.intro (And.intro @C.catnaplaw8_ResetTicks_c43_w (And.intro @C.catnaplaw8_ResetTicks_c44_w @C.catnaplaw8_ResetTicks_c45_w)) (And.intro @C.catnaplaw8_ResetTicks_r31_w (And.intro @C.catnaplaw8_ResetTicks_b46_w @C.catnaplaw8_ResetTicks_c47_w))))) (And.intro (And.intro (And.intro (And.intro @C.catnaplaw8_ResetTicks_r11_w (And.intro @C.catnaplaw8_ResetTicks_c48_w @C.catnaplaw8_ResetTicks_r10_w)) (And.intro @C.catnaplaw8_ResetTicks_b49_w (And.intro @C.catnaplaw8_ResetTicks_c50_w @C.catnaplaw8_ResetTicks_c51_w))) (And.intro (And.intro @C.catnaplaw8_ResetTicks_r8_w (And.intro @C.catnaplaw8_ResetTicks_b53_w @C.catnaplaw8_ResetTicks_c54_w)) (And.intro @C.catnaplaw8_ResetTicks_r7_w (And.intro @C.catnaplaw8_ResetTicks_c55_w @C.catnaplaw8_ResetTicks_r6_w)))) (And.intro (And.intro (And.intro @C.catnaplaw8_ResetTicks_c56_w (And.intro @C.catnaplaw8_ResetTicks_r5_w @C.catnaplaw8_ResetTicks_c57_w)) (And.intro @C.catnaplaw8_ResetTicks_c58_w (And.intro @C.catnaplaw8_ResetTicks_r4_w @C.catnaplaw8_ResetTicks_c59_w))) (And.intro (And.intro @C.catnaplaw8_ResetTicks_r3_w (And.intro @C.catnaplaw8_ResetTicks_c60_w @C.catnaplaw8_ResetTicks_r2_w)) (And.intro (And.intro @C.catnaplaw8_ResetTicks_c61_w @C.catnaplaw8_ResetTicks_r1_w) (And.intro @C.catnaplaw8_ResetTicks_c62_w @C.catnaplaw8_ResetTicks_r0_w))))))
def C.catnaplaw8_ResetTicks_B := And.intro (And.intro (And.intro (And.intro (And.intro @C.catnaplaw8_ResetTicks_r39_b.eq_1 @C.catnaplaw8_ResetTicks_r9_b.eq_1) (And.intro @C.catnaplaw8_ResetTicks_r33_b.eq_1 (And.intro @C.catnaplaw8_ResetTicks_r32_b.eq_1 @C.catnaplaw8_ResetTicks_r38_b.eq_1))) (And.intro (And.intro @C.catnaplaw8_ResetTicks_r37_b.eq_1 @C.catnaplaw8_ResetTicks_r36_b.eq_1) (And.intro @C.catnaplaw8_ResetTicks_r35_b.eq_1 (And.intro @C.catnaplaw8_ResetTicks_r28_b.eq_1 @C.catnaplaw8_ResetTicks_r30_b.eq_1)))) (And.intro (And.intro (And.intro @C.catnaplaw8_ResetTicks_r29_b.eq_1 @C.catnaplaw8_ResetTicks_r27_b.eq_1) (And.intro @C.catnaplaw8_ResetTicks_r26_b.eq_1 (And.intro @C.catnaplaw8_ResetTicks_r22_b.eq_1 @C.catnaplaw8_ResetTicks_r25_b.eq_1))) (And.intro (And.intro @C.catnaplaw8_ResetTicks_r24_b.eq_1 @C.catnaplaw8_ResetTicks_r23_b.eq_1) (And.intro @C.catnaplaw8_ResetTicks_r21_b.eq_1 (And.intro @C.catnaplaw8_ResetTicks_r20_b.eq_1 @C.catnaplaw8_ResetTicks_r19_b.eq_1))))) (And.intro (And.intro (And.intro (And.intro @C.catnaplaw8_ResetTicks_r16_b.eq_1 @C.catnaplaw8_ResetTicks_r18_b.eq_1) (And.intro @C.catnaplaw8_ResetTicks_r17_b.eq_1 (And.intro @C.catnaplaw8_ResetTicks_r15_b.eq_1 @C.catnaplaw8_ResetTicks_r14_b.eq_1))) (And.intro (And.intro @C.catnaplaw8_ResetTicks_r13_b.eq_1 @C.catnaplaw8_ResetTicks_r12_b.eq_1) (And.intro @C.catnaplaw8_ResetTicks_r34_b.eq_1 (And.intro @C.catnaplaw8_ResetTicks_r31_b.eq_1 @C.catnaplaw8_ResetTicks_r11_b.eq_1)))) (And.intro (And.intro (And.intro @C.catnaplaw8_ResetTicks_r10_b.eq_1 @C.catnaplaw8_ResetTicks_r8_b.eq_1) (And.intro @C.catnaplaw8_ResetTicks_r7_b.eq_1 (And.intro @C.catnaplaw8_ResetTicks_r6_b.eq_1 @C.catnaplaw8_ResetTicks_r5_b.eq_1))) (And.intro (And.intro @C.catnaplaw8_ResetTicks_r4_b.eq_1 @C.catnaplaw8_ResetTicks_r3_b.eq_1) (And.intro @C.catnaplaw8_ResetTicks_r2_b.eq_1 (And.intro @C.catnaplaw8_ResetTicks_r1_b.eq_1 @C.catnaplaw8_ResetTicks_r0_b.eq_1)))))

def C.catnaplaw8_ResetAll_r27_b : List IOper := [
 X.o 2 (.move (.cst (.bool true)))]
def C.catnaplaw8_ResetAll_r27 : List IOper := C.catnaplaw8_ResetAll_r27_b
def C.catnaplaw8_ResetAll_r27_w := @aopsE _ _ C.catnaplaw8_ResetAll_r27.eq_1
def C.catnaplaw8_ResetAll_c1 : ICode := .keep [] (.seq (.region C.catnaplaw8_ResetAll_r27) .ret)
def C.catnaplaw8_ResetAll_c1_w := @awpE _ _ C.catnaplaw8_ResetAll_c1.eq_1
def C.catnaplaw8_ResetAll_r24_b : List IOper := [
 X.m 101 11,
 X.o 102 (.bin .add (X.s 101) (X.i 1)),
 X.m 11 102]
def C.catnaplaw8_ResetAll_r24 : List IOper := C.catnaplaw8_ResetAll_r24_b
def C.catnaplaw8_ResetAll_r24_w := @aopsE _ _ C.catnaplaw8_ResetAll_r24.eq_1
def C.catnaplaw8_ResetAll_c2 : ICode := .keep [4, 5, 11] (.region C.catnaplaw8_ResetAll_r24)
def C.catnaplaw8_ResetAll_c2_w := @awpE _ _ C.catnaplaw8_ResetAll_c2.eq_1
def C.catnaplaw8_ResetAll_r26_b : List IOper := [
 X.o 2 (.move (.cst (.bool false)))]
def C.catnaplaw8_ResetAll_r26 : List IOper := C.catnaplaw8_ResetAll_r26_b
def C.catnaplaw8_ResetAll_r26_w := @aopsE _ _ C.catnaplaw8_ResetAll_r26.eq_1
def C.catnaplaw8_ResetAll_c3 : ICode := .seq (.region C.catnaplaw8_ResetAll_r26) .ret
def C.catnaplaw8_ResetAll_c3_w := @awpE _ _ C.catnaplaw8_ResetAll_c3.eq_1
def C.catnaplaw8_ResetAll_c4 : ICode := .keep [4, 5, 11, 111] (.cond (X.s 111) C.catnaplaw8_ResetAll_c3 .skip)
def C.catnaplaw8_ResetAll_c4_w := @awpE _ _ C.catnaplaw8_ResetAll_c4.eq_1
def C.catnaplaw8_ResetAll_r25_b : List IOper := [
 X.m 103 5,
 X.m 104 11,
 X.o 105 (.call F.reset_Lines_Held [X.s 103, X.s 104]),
 X.m 106 105,
 X.f 106 107 (.move (X.s 5)),
 X.f 106 108 (.move (X.s 11)),
 X.f 106 109 (.call F.reset_Lines_Release [X.s 107, X.s 108]),
 X.f 106 110 (.bin .neq (X.s 109) (X.i 6)),
 X.o 111 (.pick (X.s 106) (.cst (.bool true)) (X.s 110))]
def C.catnaplaw8_ResetAll_r25 : List IOper := C.catnaplaw8_ResetAll_r25_b
def C.catnaplaw8_ResetAll_r25_w := @aopsE _ _ C.catnaplaw8_ResetAll_r25.eq_1
def C.catnaplaw8_ResetAll_b5 : ICode := .seq (.region C.catnaplaw8_ResetAll_r25) C.catnaplaw8_ResetAll_c4
def C.catnaplaw8_ResetAll_b5_w := @awpE _ _ C.catnaplaw8_ResetAll_b5.eq_1
def C.catnaplaw8_ResetAll_c6 : ICode := .keep [4, 5, 11] (.seq (.block 7 C.catnaplaw8_ResetAll_b5) C.catnaplaw8_ResetAll_c2)
def C.catnaplaw8_ResetAll_c6_w := @awpE _ _ C.catnaplaw8_ResetAll_c6.eq_1
def C.catnaplaw8_ResetAll_c7 : ICode := .keep [4, 5, 11, 100] (.cond (X.s 100) .skip (.exit 6))
def C.catnaplaw8_ResetAll_c7_w := @awpE _ _ C.catnaplaw8_ResetAll_c7.eq_1
def C.catnaplaw8_ResetAll_r23_b : List IOper := [
 X.m 96 11,
 X.o 97 (.fldAddr 2 (X.s 4)),
 X.o 98 (.load1 (X.s 97)),
 X.o 99 (.len (X.s 98)),
 X.o 100 (.bin .lss (X.s 96) (X.s 99))]
def C.catnaplaw8_ResetAll_r23 : List IOper := C.catnaplaw8_ResetAll_r23_b
def C.catnaplaw8_ResetAll_r23_w := @aopsE _ _ C.catnaplaw8_ResetAll_r23.eq_1
def C.catnaplaw8_ResetAll_l8 : ICode := .keep [4, 5, 11] (.seq (.seq (.region C.catnaplaw8_ResetAll_r23) C.catnaplaw8_ResetAll_c7) C.catnaplaw8_ResetAll_c6)
def C.catnaplaw8_ResetAll_l8_w := @awpE _ _ C.catnaplaw8_ResetAll_l8.eq_1
def C.catnaplaw8_ResetAll_b9 : ICode := .loop C.catnaplaw8_ResetAll_l8
def C.catnaplaw8_ResetAll_b9_w := @awpE _ _ C.catnaplaw8_ResetAll_b9.eq_1
def C.catnaplaw8_ResetAll_c10 : ICode := .keep [4, 5, 11] (.block 6 C.catnaplaw8_ResetAll_b9)
def C.catnaplaw8_ResetAll_c10_w := @awpE _ _ C.catnaplaw8_ResetAll_c10.eq_1
def C.catnaplaw8_ResetAll_r22_b : List IOper := [
 X.o 11 (.move (X.i 0))]
def C.catnaplaw8_ResetAll_r22 : List IOper := C.catnaplaw8_ResetAll_r22_b
def C.catnaplaw8_ResetAll_r22_w := @aopsE _ _ C.catnaplaw8_ResetAll_r22.eq_1
def C.catnaplaw8_ResetAll_c11 : ICode := .keep [4, 5] (.seq (.seq (.region C.catnaplaw8_ResetAll_r22) C.catnaplaw8_ResetAll_c10) C.catnaplaw8_ResetAll_c1)
def C.catnaplaw8_ResetAll_c11_w := @awpE _ _ C.catnaplaw8_ResetAll_c11.eq_1
def C.catnaplaw8_ResetAll_r13_b : List IOper := [
 X.m 70 8,
 X.o 71 (.bin .add (X.s 70) (X.i 1)),
 X.m 8 71]
def C.catnaplaw8_ResetAll_r13 : List IOper := C.catnaplaw8_ResetAll_r13_b
def C.catnaplaw8_ResetAll_r13_w := @aopsE _ _ C.catnaplaw8_ResetAll_r13.eq_1
def C.catnaplaw8_ResetAll_c12 : ICode := .keep [4, 5, 8] (.region C.catnaplaw8_ResetAll_r13)
def C.catnaplaw8_ResetAll_c12_w := @awpE _ _ C.catnaplaw8_ResetAll_c12.eq_1
def C.catnaplaw8_ResetAll_r21_b : List IOper := [
 X.o 2 (.move (.cst (.bool false)))]
def C.catnaplaw8_ResetAll_r21 : List IOper := C.catnaplaw8_ResetAll_r21_b
def C.catnaplaw8_ResetAll_r21_w := @aopsE _ _ C.catnaplaw8_ResetAll_r21.eq_1
def C.catnaplaw8_ResetAll_c13 : ICode := .seq (.region C.catnaplaw8_ResetAll_r21) .ret
def C.catnaplaw8_ResetAll_c13_w := @awpE _ _ C.catnaplaw8_ResetAll_c13.eq_1
def C.catnaplaw8_ResetAll_c14 : ICode := .keep [4, 5, 8, 95] (.cond (X.s 95) C.catnaplaw8_ResetAll_c13 .skip)
def C.catnaplaw8_ResetAll_c14_w := @awpE _ _ C.catnaplaw8_ResetAll_c14.eq_1
def C.catnaplaw8_ResetAll_r20_b : List IOper := [
 X.m 91 5,
 X.o 92 (.call F.reset_Lines_Tick [X.s 91]),
 X.m 93 9,
 X.o 94 (.call F.catnaplaw8_same [X.s 92, X.s 93]),
 X.o 95 (.un .not (X.s 94))]
def C.catnaplaw8_ResetAll_r20 : List IOper := C.catnaplaw8_ResetAll_r20_b
def C.catnaplaw8_ResetAll_r20_w := @aopsE _ _ C.catnaplaw8_ResetAll_r20.eq_1
def C.catnaplaw8_ResetAll_c15 : ICode := .keep [4, 5, 8, 9] (.seq (.region C.catnaplaw8_ResetAll_r20) C.catnaplaw8_ResetAll_c14)
def C.catnaplaw8_ResetAll_c15_w := @awpE _ _ C.catnaplaw8_ResetAll_c15.eq_1
def C.catnaplaw8_ResetAll_r17_b : List IOper := [
 X.m 77 10,
 X.o 78 (.bin .add (X.s 77) (X.i 1)),
 X.m 10 78]
def C.catnaplaw8_ResetAll_r17 : List IOper := C.catnaplaw8_ResetAll_r17_b
def C.catnaplaw8_ResetAll_r17_w := @aopsE _ _ C.catnaplaw8_ResetAll_r17.eq_1
def C.catnaplaw8_ResetAll_c16 : ICode := .keep [4, 5, 8, 9, 10] (.region C.catnaplaw8_ResetAll_r17)
def C.catnaplaw8_ResetAll_c16_w := @awpE _ _ C.catnaplaw8_ResetAll_c16.eq_1
def C.catnaplaw8_ResetAll_r19_b : List IOper := [
 X.m 87 9,
 X.m 88 10,
 X.o 89 (.buildSlice 1 1 [.int .i64 0] [(0, 1, X.s 88)]),
 X.o 90 (.append 1 8 (X.s 87) (X.s 89)),
 X.m 9 90]
def C.catnaplaw8_ResetAll_r19 : List IOper := C.catnaplaw8_ResetAll_r19_b
def C.catnaplaw8_ResetAll_r19_w := @aopsE _ _ C.catnaplaw8_ResetAll_r19.eq_1
def C.catnaplaw8_ResetAll_c17 : ICode := .region C.catnaplaw8_ResetAll_r19
def C.catnaplaw8_ResetAll_c17_w := @awpE _ _ C.catnaplaw8_ResetAll_c17.eq_1
def C.catnaplaw8_ResetAll_c18 : ICode := .keep [4, 5, 8, 9, 10, 86] (.cond (X.s 86) C.catnaplaw8_ResetAll_c17 .skip)
def C.catnaplaw8_ResetAll_c18_w := @awpE _ _ C.catnaplaw8_ResetAll_c18.eq_1
def C.catnaplaw8_ResetAll_r18_b : List IOper := [
 X.o 79 (.fldAddr 2 (X.s 4)),
 X.o 80 (.load1 (X.s 79)),
 X.m 81 10,
 X.o 82 (.idxAddr 1 (X.s 80) (X.s 81)),
 X.o 83 (.fldAddr 0 (X.s 82)),
 X.o 84 (.load1 (X.s 83)),
 X.m 85 8,
 X.o 86 (.bin .eql (X.s 84) (X.s 85))]
def C.catnaplaw8_ResetAll_r18 : List IOper := C.catnaplaw8_ResetAll_r18_b
def C.catnaplaw8_ResetAll_r18_w := @aopsE _ _ C.catnaplaw8_ResetAll_r18.eq_1
def C.catnaplaw8_ResetAll_b19 : ICode := .seq (.region C.catnaplaw8_ResetAll_r18) C.catnaplaw8_ResetAll_c18
def C.catnaplaw8_ResetAll_b19_w := @awpE _ _ C.catnaplaw8_ResetAll_b19.eq_1
def C.catnaplaw8_ResetAll_c20 : ICode := .keep [4, 5, 8, 9, 10] (.seq (.block 5 C.catnaplaw8_ResetAll_b19) C.catnaplaw8_ResetAll_c16)
def C.catnaplaw8_ResetAll_c20_w := @awpE _ _ C.catnaplaw8_ResetAll_c20.eq_1
def C.catnaplaw8_ResetAll_c21 : ICode := .keep [4, 5, 8, 9, 10, 76] (.cond (X.s 76) .skip (.exit 4))
def C.catnaplaw8_ResetAll_c21_w := @awpE _ _ C.catnaplaw8_ResetAll_c21.eq_1
def C.catnaplaw8_ResetAll_r16_b : List IOper := [
 X.m 72 10,
 X.o 73 (.fldAddr 2 (X.s 4)),
 X.o 74 (.load1 (X.s 73)),
 X.o 75 (.len (X.s 74)),
 X.o 76 (.bin .lss (X.s 72) (X.s 75))]
def C.catnaplaw8_ResetAll_r16 : List IOper := C.catnaplaw8_ResetAll_r16_b
def C.catnaplaw8_ResetAll_r16_w := @aopsE _ _ C.catnaplaw8_ResetAll_r16.eq_1
def C.catnaplaw8_ResetAll_l22 : ICode := .keep [4, 5, 8, 9, 10] (.seq (.seq (.region C.catnaplaw8_ResetAll_r16) C.catnaplaw8_ResetAll_c21) C.catnaplaw8_ResetAll_c20)
def C.catnaplaw8_ResetAll_l22_w := @awpE _ _ C.catnaplaw8_ResetAll_l22.eq_1
def C.catnaplaw8_ResetAll_b23 : ICode := .loop C.catnaplaw8_ResetAll_l22
def C.catnaplaw8_ResetAll_b23_w := @awpE _ _ C.catnaplaw8_ResetAll_b23.eq_1
def C.catnaplaw8_ResetAll_c24 : ICode := .keep [4, 5, 8, 9, 10] (.block 4 C.catnaplaw8_ResetAll_b23)
def C.catnaplaw8_ResetAll_c24_w := @awpE _ _ C.catnaplaw8_ResetAll_c24.eq_1
def C.catnaplaw8_ResetAll_r15_b : List IOper := [
 X.o 10 (.move (X.i 0))]
def C.catnaplaw8_ResetAll_r15 : List IOper := C.catnaplaw8_ResetAll_r15_b
def C.catnaplaw8_ResetAll_r15_w := @aopsE _ _ C.catnaplaw8_ResetAll_r15.eq_1
def C.catnaplaw8_ResetAll_c25 : ICode := .keep [4, 5, 8, 9] (.seq (.seq (.region C.catnaplaw8_ResetAll_r15) C.catnaplaw8_ResetAll_c24) C.catnaplaw8_ResetAll_c15)
def C.catnaplaw8_ResetAll_c25_w := @awpE _ _ C.catnaplaw8_ResetAll_c25.eq_1
def C.catnaplaw8_ResetAll_r14_b : List IOper := [
 X.o 9 (.move (.cst (.nils)))]
def C.catnaplaw8_ResetAll_r14 : List IOper := C.catnaplaw8_ResetAll_r14_b
def C.catnaplaw8_ResetAll_r14_w := @aopsE _ _ C.catnaplaw8_ResetAll_r14.eq_1
def C.catnaplaw8_ResetAll_b26 : ICode := .seq (.region C.catnaplaw8_ResetAll_r14) C.catnaplaw8_ResetAll_c25
def C.catnaplaw8_ResetAll_b26_w := @awpE _ _ C.catnaplaw8_ResetAll_b26.eq_1
def C.catnaplaw8_ResetAll_c27 : ICode := .keep [4, 5, 8] (.seq (.block 3 C.catnaplaw8_ResetAll_b26) C.catnaplaw8_ResetAll_c12)
def C.catnaplaw8_ResetAll_c27_w := @awpE _ _ C.catnaplaw8_ResetAll_c27.eq_1
def C.catnaplaw8_ResetAll_c28 : ICode := .keep [4, 5, 8, 69] (.cond (X.s 69) .skip (.exit 2))
def C.catnaplaw8_ResetAll_c28_w := @awpE _ _ C.catnaplaw8_ResetAll_c28.eq_1
def C.catnaplaw8_ResetAll_r12_b : List IOper := [
 X.m 68 8,
 X.o 69 (.bin .lss (X.s 68) (X.i 22))]
def C.catnaplaw8_ResetAll_r12 : List IOper := C.catnaplaw8_ResetAll_r12_b
def C.catnaplaw8_ResetAll_r12_w := @aopsE _ _ C.catnaplaw8_ResetAll_r12.eq_1
def C.catnaplaw8_ResetAll_l29 : ICode := .keep [4, 5, 8] (.seq (.seq (.region C.catnaplaw8_ResetAll_r12) C.catnaplaw8_ResetAll_c28) C.catnaplaw8_ResetAll_c27)
def C.catnaplaw8_ResetAll_l29_w := @awpE _ _ C.catnaplaw8_ResetAll_l29.eq_1
def C.catnaplaw8_ResetAll_b30 : ICode := .loop C.catnaplaw8_ResetAll_l29
def C.catnaplaw8_ResetAll_b30_w := @awpE _ _ C.catnaplaw8_ResetAll_b30.eq_1
def C.catnaplaw8_ResetAll_c31 : ICode := .keep [4, 5, 8] (.block 2 C.catnaplaw8_ResetAll_b30)
def C.catnaplaw8_ResetAll_c31_w := @awpE _ _ C.catnaplaw8_ResetAll_c31.eq_1
def C.catnaplaw8_ResetAll_r11_b : List IOper := [
 X.o 8 (.move (X.i 0))]
def C.catnaplaw8_ResetAll_r11 : List IOper := C.catnaplaw8_ResetAll_r11_b
def C.catnaplaw8_ResetAll_r11_w := @aopsE _ _ C.catnaplaw8_ResetAll_r11.eq_1
def C.catnaplaw8_ResetAll_c32 : ICode := .keep [4, 5] (.seq (.seq (.region C.catnaplaw8_ResetAll_r11) C.catnaplaw8_ResetAll_c31) C.catnaplaw8_ResetAll_c11)
def C.catnaplaw8_ResetAll_c32_w := @awpE _ _ C.catnaplaw8_ResetAll_c32.eq_1
def C.catnaplaw8_ResetAll_r8_b : List IOper := [
 X.m 44 7,
 X.o 45 (.bin .add (X.s 44) (X.i 1)),
 X.m 7 45]
def C.catnaplaw8_ResetAll_r8 : List IOper := C.catnaplaw8_ResetAll_r8_b
def C.catnaplaw8_ResetAll_r8_w := @aopsE _ _ C.catnaplaw8_ResetAll_r8.eq_1
def C.catnaplaw8_ResetAll_c33 : ICode := .keep [4, 5, 7] (.region C.catnaplaw8_ResetAll_r8)
def C.catnaplaw8_ResetAll_c33_w := @awpE _ _ C.catnaplaw8_ResetAll_c33.eq_1
def C.catnaplaw8_ResetAll_r10_b : List IOper := [
 X.o 2 (.move (.cst (.bool false)))]
def C.catnaplaw8_ResetAll_r10 : List IOper := C.catnaplaw8_ResetAll_r10_b
def C.catnaplaw8_ResetAll_r10_w := @aopsE _ _ C.catnaplaw8_ResetAll_r10.eq_1
def C.catnaplaw8_ResetAll_c34 : ICode := .seq (.region C.catnaplaw8_ResetAll_r10) .ret
def C.catnaplaw8_ResetAll_c34_w := @awpE _ _ C.catnaplaw8_ResetAll_c34.eq_1
def C.catnaplaw8_ResetAll_c35 : ICode := .keep [4, 5, 7, 67] (.cond (X.s 67) C.catnaplaw8_ResetAll_c34 .skip)
def C.catnaplaw8_ResetAll_c35_w := @awpE _ _ C.catnaplaw8_ResetAll_c35.eq_1
def C.catnaplaw8_ResetAll_r9_b : List IOper := [
 X.m 46 5,
 X.m 47 7,
 X.o 48 (.call F.reset_Lines_Assert [X.s 46, X.s 47]),
 X.o 49 (.bin .neq (X.s 48) (X.i 0)),
 X.m 50 49,
 X.f 50 51 (.move (X.s 5)),
 X.f 50 52 (.move (X.s 7)),
 X.f 50 53 (.call F.reset_Lines_Release [X.s 51, X.s 52]),
 X.f 50 54 (.bin .neq (X.s 53) (X.i 0)),
 X.o 55 (.pick (X.s 50) (.cst (.bool true)) (X.s 54)),
 X.m 56 55,
 X.f 56 57 (.move (X.s 5)),
 X.f 56 58 (.move (X.s 7)),
 X.f 56 60 (.fldAddr 2 (X.s 4)),
 X.f 56 61 (.load1 (X.s 60)),
 X.f 56 62 (.move (X.s 7)),
 X.f 56 63 (.idxAddr 1 (X.s 61) (X.s 62)),
 X.f 56 64 (.fldAddr 0 (X.s 63)),
 X.f 56 65 (.load1 (X.s 64)),
 ⟨some 59, .call F.reset_Lines_Left [X.s 57, X.s 58], some (56, false), [⟨.load1 (X.s 60), 61, some (56, false)⟩, ⟨.load1 (X.s 64), 65, some (56, false)⟩], []⟩,
 X.f 56 66 (.bin .neq (X.s 59) (X.s 65)),
 X.o 67 (.pick (X.s 56) (.cst (.bool true)) (X.s 66))]
def C.catnaplaw8_ResetAll_r9 : List IOper := C.catnaplaw8_ResetAll_r9_b
def C.catnaplaw8_ResetAll_r9_w := @aopsE _ _ C.catnaplaw8_ResetAll_r9.eq_1
def C.catnaplaw8_ResetAll_b36 : ICode := .seq (.region C.catnaplaw8_ResetAll_r9) C.catnaplaw8_ResetAll_c35
def C.catnaplaw8_ResetAll_b36_w := @awpE _ _ C.catnaplaw8_ResetAll_b36.eq_1
def C.catnaplaw8_ResetAll_c37 : ICode := .keep [4, 5, 7] (.seq (.block 1 C.catnaplaw8_ResetAll_b36) C.catnaplaw8_ResetAll_c33)
def C.catnaplaw8_ResetAll_c37_w := @awpE _ _ C.catnaplaw8_ResetAll_c37.eq_1
def C.catnaplaw8_ResetAll_c38 : ICode := .keep [4, 5, 7, 43] (.cond (X.s 43) .skip (.exit 0))
def C.catnaplaw8_ResetAll_c38_w := @awpE _ _ C.catnaplaw8_ResetAll_c38.eq_1
def C.catnaplaw8_ResetAll_r7_b : List IOper := [
 X.m 39 7,
 X.o 40 (.fldAddr 2 (X.s 4)),
 X.o 41 (.load1 (X.s 40)),
 X.o 42 (.len (X.s 41)),
 X.o 43 (.bin .lss (X.s 39) (X.s 42))]
def C.catnaplaw8_ResetAll_r7 : List IOper := C.catnaplaw8_ResetAll_r7_b
def C.catnaplaw8_ResetAll_r7_w := @aopsE _ _ C.catnaplaw8_ResetAll_r7.eq_1
def C.catnaplaw8_ResetAll_l39 : ICode := .keep [4, 5, 7] (.seq (.seq (.region C.catnaplaw8_ResetAll_r7) C.catnaplaw8_ResetAll_c38) C.catnaplaw8_ResetAll_c37)
def C.catnaplaw8_ResetAll_l39_w := @awpE _ _ C.catnaplaw8_ResetAll_l39.eq_1
def C.catnaplaw8_ResetAll_b40 : ICode := .loop C.catnaplaw8_ResetAll_l39
def C.catnaplaw8_ResetAll_b40_w := @awpE _ _ C.catnaplaw8_ResetAll_b40.eq_1
def C.catnaplaw8_ResetAll_c41 : ICode := .keep [4, 5, 7] (.block 0 C.catnaplaw8_ResetAll_b40)
def C.catnaplaw8_ResetAll_c41_w := @awpE _ _ C.catnaplaw8_ResetAll_c41.eq_1
def C.catnaplaw8_ResetAll_r6_b : List IOper := [
 X.o 7 (.move (X.i 0))]
def C.catnaplaw8_ResetAll_r6 : List IOper := C.catnaplaw8_ResetAll_r6_b
def C.catnaplaw8_ResetAll_r6_w := @aopsE _ _ C.catnaplaw8_ResetAll_r6.eq_1
def C.catnaplaw8_ResetAll_c42 : ICode := .keep [4, 5] (.seq (.seq (.region C.catnaplaw8_ResetAll_r6) C.catnaplaw8_ResetAll_c41) C.catnaplaw8_ResetAll_c32)
def C.catnaplaw8_ResetAll_c42_w := @awpE _ _ C.catnaplaw8_ResetAll_c42.eq_1
def C.catnaplaw8_ResetAll_r5_b : List IOper := [
 X.m 30 3,
 X.m 31 30,
 X.t 31 32 (.move (X.s 5)),
 X.t 31 33 (.eqP 0 true (X.s 32) (.cst (.nilp))),
 X.o 34 (.pick (X.s 31) (X.s 33) (.cst (.bool false))),
 X.m 35 34,
 X.t 35 36 (.move (X.s 6)),
 X.t 35 37 (.bin .eql (X.s 36) (X.i 0)),
 X.o 38 (.pick (X.s 35) (X.s 37) (.cst (.bool false))),
 X.m 2 38]
def C.catnaplaw8_ResetAll_r5 : List IOper := C.catnaplaw8_ResetAll_r5_b
def C.catnaplaw8_ResetAll_r5_w := @aopsE _ _ C.catnaplaw8_ResetAll_r5.eq_1
def C.catnaplaw8_ResetAll_c43 : ICode := .seq (.region C.catnaplaw8_ResetAll_r5) .ret
def C.catnaplaw8_ResetAll_c43_w := @awpE _ _ C.catnaplaw8_ResetAll_c43.eq_1
def C.catnaplaw8_ResetAll_c44 : ICode := .keep [3, 4, 5, 6, 29] (.cond (X.s 29) C.catnaplaw8_ResetAll_c43 .skip)
def C.catnaplaw8_ResetAll_c44_w := @awpE _ _ C.catnaplaw8_ResetAll_c44.eq_1
def C.catnaplaw8_ResetAll_r4_b : List IOper := [
 X.m 20 3,
 X.o 21 (.un .not (X.s 20)),
 X.m 22 21,
 X.f 22 23 (.move (X.s 5)),
 X.f 22 24 (.eqP 0 false (X.s 23) (.cst (.nilp))),
 X.o 25 (.pick (X.s 22) (.cst (.bool true)) (X.s 24)),
 X.m 26 25,
 X.f 26 27 (.move (X.s 6)),
 X.f 26 28 (.bin .neq (X.s 27) (X.i 0)),
 X.o 29 (.pick (X.s 26) (.cst (.bool true)) (X.s 28))]
def C.catnaplaw8_ResetAll_r4 : List IOper := C.catnaplaw8_ResetAll_r4_b
def C.catnaplaw8_ResetAll_r4_w := @aopsE _ _ C.catnaplaw8_ResetAll_r4.eq_1
def C.catnaplaw8_ResetAll_c45 : ICode := .keep [3, 4, 5, 6] (.seq (.seq (.region C.catnaplaw8_ResetAll_r4) C.catnaplaw8_ResetAll_c44) C.catnaplaw8_ResetAll_c42)
def C.catnaplaw8_ResetAll_c45_w := @awpE _ _ C.catnaplaw8_ResetAll_c45.eq_1
def C.catnaplaw8_ResetAll_r3_b : List IOper := [
 X.o 16 (.loadN 4 (X.s 4)),
 X.o 17 (.call F.reset_New [X.s 16]),
 X.m 15 17,
 X.o 18 (.extract (X.s 15) 0),
 X.o 19 (.extract (X.s 15) 1),
 X.m 5 18,
 X.m 6 19]
def C.catnaplaw8_ResetAll_r3 : List IOper := C.catnaplaw8_ResetAll_r3_b
def C.catnaplaw8_ResetAll_r3_w := @aopsE _ _ C.catnaplaw8_ResetAll_r3.eq_1
def C.catnaplaw8_ResetAll_c46 : ICode := .keep [3, 4] (.seq (.region C.catnaplaw8_ResetAll_r3) C.catnaplaw8_ResetAll_c45)
def C.catnaplaw8_ResetAll_c46_w := @awpE _ _ C.catnaplaw8_ResetAll_c46.eq_1
def C.catnaplaw8_ResetAll_r2_b : List IOper := [
 X.m 13 0,
 X.o 14 (.call F.catnaplaw8_chip [X.s 13]),
 X.o 4 (.alloc [.nils, .nils, .nils, .nils]),
 X.n (.storeN 4 (X.s 4) (X.s 14))]
def C.catnaplaw8_ResetAll_r2 : List IOper := C.catnaplaw8_ResetAll_r2_b
def C.catnaplaw8_ResetAll_r2_w := @aopsE _ _ C.catnaplaw8_ResetAll_r2.eq_1
def C.catnaplaw8_ResetAll_c47 : ICode := .keep [0, 3] (.seq (.region C.catnaplaw8_ResetAll_r2) C.catnaplaw8_ResetAll_c46)
def C.catnaplaw8_ResetAll_c47_w := @awpE _ _ C.catnaplaw8_ResetAll_c47.eq_1
def C.catnaplaw8_ResetAll_r1_b : List IOper := [
 X.o 12 (.call F.catnaplaw8_shown []),
 X.m 3 12]
def C.catnaplaw8_ResetAll_r1 : List IOper := C.catnaplaw8_ResetAll_r1_b
def C.catnaplaw8_ResetAll_r1_w := @aopsE _ _ C.catnaplaw8_ResetAll_r1.eq_1
def C.catnaplaw8_ResetAll_c48 : ICode := .keep [0] (.seq (.region C.catnaplaw8_ResetAll_r1) C.catnaplaw8_ResetAll_c47)
def C.catnaplaw8_ResetAll_c48_w := @awpE _ _ C.catnaplaw8_ResetAll_c48.eq_1
def C.catnaplaw8_ResetAll_r0_b : List IOper := [
 X.o 2 (.move (.cst (.bool false)))]
def C.catnaplaw8_ResetAll_r0 : List IOper := C.catnaplaw8_ResetAll_r0_b
def C.catnaplaw8_ResetAll_r0_w := @aopsE _ _ C.catnaplaw8_ResetAll_r0.eq_1
def C.catnaplaw8_ResetAll : IFunc := ⟨1, [.slot 2], .seq (.region C.catnaplaw8_ResetAll_r0) C.catnaplaw8_ResetAll_c48⟩
def C.catnaplaw8_ResetAll_W := And.intro (And.intro (And.intro (And.intro (And.intro (And.intro @C.catnaplaw8_ResetAll_r27_w @C.catnaplaw8_ResetAll_c1_w) (And.intro @C.catnaplaw8_ResetAll_r24_w @C.catnaplaw8_ResetAll_c2_w)) (And.intro (And.intro @C.catnaplaw8_ResetAll_r26_w @C.catnaplaw8_ResetAll_c3_w) (And.intro @C.catnaplaw8_ResetAll_c4_w (And.intro @C.catnaplaw8_ResetAll_r25_w @C.catnaplaw8_ResetAll_b5_w)))) (And.intro (And.intro (And.intro @C.catnaplaw8_ResetAll_c6_w @C.catnaplaw8_ResetAll_c7_w) (And.intro @C.catnaplaw8_ResetAll_r23_w @C.catnaplaw8_ResetAll_b9_w)) (And.intro (And.intro @C.catnaplaw8_ResetAll_c10_w @C.catnaplaw8_ResetAll_r22_w) (And.intro @C.catnaplaw8_ResetAll_c11_w (And.intro @C.catnaplaw8_ResetAll_r13_w @C.catnaplaw8_ResetAll_c12_w))))) (And.intro (And.intro (And.intro (And.intro @C.catnaplaw8_ResetAll_r21_w @C.catnaplaw8_ResetAll_c13_w) (And.intro @C.catnaplaw8_ResetAll_c14_w @C.catnaplaw8_ResetAll_r20_w)) (And.intro (And.intro @C.catnaplaw8_ResetAll_c15_w @C.catnaplaw8_ResetAll_r17_w) (And.intro @C.catnaplaw8_ResetAll_c16_w (And.intro @C.catnaplaw8_ResetAll_r19_w @C.catnaplaw8_ResetAll_c17_w)))) (And.intro (And.intro (And.intro @C.catnaplaw8_ResetAll_c18_w @C.catnaplaw8_ResetAll_r18_w) (And.intro @C.catnaplaw8_ResetAll_b19_w @C.catnaplaw8_ResetAll_c20_w)) (And.intro (And.intro @C.catnaplaw8_ResetAll_c21_w @C.catnaplaw8_ResetAll_r16_w) (And.intro @C.catnaplaw8_ResetAll_b23_w (And.intro @C.catnaplaw8_ResetAll_c24_w @C.catnaplaw8_ResetAll_r15_w)))))) (And.intro (And.intro (And.intro (And.intro (And.intro @C.catnaplaw8_ResetAll_c25_w @C.catnaplaw8_ResetAll_r14_w) (And.intro @C.catnaplaw8_ResetAll_b26_w @C.catnaplaw8_ResetAll_c27_w)) (And.intro (And.intro @C.catnaplaw8_ResetAll_c28_w @C.catnaplaw8_ResetAll_r12_w) (And.intro @C.catnaplaw8_ResetAll_b30_w (And.intro @C.catnaplaw8_ResetAll_c31_w @C.catnaplaw8_ResetAll_r11_w)))) (And.intro (And.intro (And.intro @C.catnaplaw8_ResetAll_c32_w @C.catnaplaw8_ResetAll_r8_w) (And.intro @C.catnaplaw8_ResetAll_c33_w @C.catnaplaw8_ResetAll_r10_w)) (And.intro (And.intro @C.catnaplaw8_ResetAll_c34_w @C.catnaplaw8_ResetAll_c35_w) (And.intro @C.catnaplaw8_ResetAll_r9_w (And.intro @C.catnaplaw8_ResetAll_b36_w @C.catnaplaw8_ResetAll_c37_w))))) (And.intro (And.intro (And.intro (And.intro @C.catnaplaw8_ResetAll_c38_w @C.catnaplaw8_ResetAll_r7_w) (And.intro @C.catnaplaw8_ResetAll_b40_w @C.catnaplaw8_ResetAll_c41_w)) (And.intro (And.intro @C.catnaplaw8_ResetAll_r6_w @C.catnaplaw8_ResetAll_c42_w) (And.intro @C.catnaplaw8_ResetAll_r5_w (And.intro @C.catnaplaw8_ResetAll_c43_w @C.catnaplaw8_ResetAll_c44_w)))) (And.intro (And.intro (And.intro @C.catnaplaw8_ResetAll_r4_w @C.catnaplaw8_ResetAll_c45_w) (And.intro @C.catnaplaw8_ResetAll_r3_w @C.catnaplaw8_ResetAll_c46_w)) (And.intro (And.intro @C.catnaplaw8_ResetAll_r2_w @C.catnaplaw8_ResetAll_c47_w) (And.intro @C.catnaplaw8_ResetAll_r1_w (And.intro @C.catnaplaw8_ResetAll_c48_w @C.catnaplaw8_ResetAll_r0_w))))))
def C.catnaplaw8_ResetAll_B := And.intro (And.intro (And.intro (And.intro @C.catnaplaw8_ResetAll_r27_b.eq_1 (And.intro @C.catnaplaw8_ResetAll_r24_b.eq_1 @C.catnaplaw8_ResetAll_r26_b.eq_1)) (And.intro (And.intro @C.catnaplaw8_ResetAll_r25_b.eq_1 @C.catnaplaw8_ResetAll_r23_b.eq_1) (And.intro @C.catnaplaw8_ResetAll_r22_b.eq_1 @C.catnaplaw8_ResetAll_r13_b.eq_1))) (And.intro (And.intro @C.catnaplaw8_ResetAll_r21_b.eq_1 (And.intro @C.catnaplaw8_ResetAll_r20_b.eq_1 @C.catnaplaw8_ResetAll_r17_b.eq_1)) (And.intro (And.intro @C.catnaplaw8_ResetAll_r19_b.eq_1 @C.catnaplaw8_ResetAll_r18_b.eq_1) (And.intro @C.catnaplaw8_ResetAll_r16_b.eq_1 @C.catnaplaw8_ResetAll_r15_b.eq_1)))) (And.intro (And.intro (And.intro @C.catnaplaw8_ResetAll_r14_b.eq_1 (And.intro @C.catnaplaw8_ResetAll_r12_b.eq_1 @C.catnaplaw8_ResetAll_r11_b.eq_1)) (And.intro (And.intro @C.catnaplaw8_ResetAll_r8_b.eq_1 @C.catnaplaw8_ResetAll_r10_b.eq_1) (And.intro @C.catnaplaw8_ResetAll_r9_b.eq_1 @C.catnaplaw8_ResetAll_r7_b.eq_1))) (And.intro (And.intro @C.catnaplaw8_ResetAll_r6_b.eq_1 (And.intro @C.catnaplaw8_ResetAll_r5_b.eq_1 @C.catnaplaw8_ResetAll_r4_b.eq_1)) (And.intro (And.intro @C.catnaplaw8_ResetAll_r3_b.eq_1 @C.catnaplaw8_ResetAll_r2_b.eq_1) (And.intro @C.catnaplaw8_ResetAll_r1_b.eq_1 @C.catnaplaw8_ResetAll_r0_b.eq_1))))

def C.catnaplaw8_ResetLate_r27_b : List IOper := [
 X.m 124 9,
 X.o 125 (.call F.reset_Lines_Tick [X.s 124]),
 X.m 126 11,
 X.o 127 (.buildSlice 1 1 [.int .i64 0] [(0, 1, X.s 126)]),
 X.o 128 (.call F.catnaplaw8_same [X.s 125, X.s 127]),
 X.m 129 128,
 X.t 129 130 (.move (X.s 9)),
 X.t 129 131 (.move (X.s 11)),
 X.t 129 132 (.call F.reset_Lines_Held [X.s 130, X.s 131]),
 X.t 129 133 (.un .not (X.s 132)),
 X.o 134 (.pick (X.s 129) (X.s 133) (.cst (.bool false))),
 X.m 6 134]
def C.catnaplaw8_ResetLate_r27 : List IOper := C.catnaplaw8_ResetLate_r27_b
def C.catnaplaw8_ResetLate_r27_w := @aopsE _ _ C.catnaplaw8_ResetLate_r27.eq_1
def C.catnaplaw8_ResetLate_c1 : ICode := .keep [9, 11] (.seq (.region C.catnaplaw8_ResetLate_r27) .ret)
def C.catnaplaw8_ResetLate_c1_w := @awpE _ _ C.catnaplaw8_ResetLate_c1.eq_1
def C.catnaplaw8_ResetLate_r24_b : List IOper := [
 X.m 118 16,
 X.o 119 (.bin .add (X.s 118) (X.i 1)),
 X.m 16 119]
def C.catnaplaw8_ResetLate_r24 : List IOper := C.catnaplaw8_ResetLate_r24_b
def C.catnaplaw8_ResetLate_r24_w := @aopsE _ _ C.catnaplaw8_ResetLate_r24.eq_1
def C.catnaplaw8_ResetLate_c2 : ICode := .keep [9, 11, 15, 16] (.region C.catnaplaw8_ResetLate_r24)
def C.catnaplaw8_ResetLate_c2_w := @awpE _ _ C.catnaplaw8_ResetLate_c2.eq_1
def C.catnaplaw8_ResetLate_r26_b : List IOper := [
 X.o 6 (.move (.cst (.bool false)))]
def C.catnaplaw8_ResetLate_r26 : List IOper := C.catnaplaw8_ResetLate_r26_b
def C.catnaplaw8_ResetLate_r26_w := @aopsE _ _ C.catnaplaw8_ResetLate_r26.eq_1
def C.catnaplaw8_ResetLate_c3 : ICode := .seq (.region C.catnaplaw8_ResetLate_r26) .ret
def C.catnaplaw8_ResetLate_c3_w := @awpE _ _ C.catnaplaw8_ResetLate_c3.eq_1
def C.catnaplaw8_ResetLate_c4 : ICode := .keep [9, 11, 15, 16, 123] (.cond (X.s 123) C.catnaplaw8_ResetLate_c3 .skip)
def C.catnaplaw8_ResetLate_c4_w := @awpE _ _ C.catnaplaw8_ResetLate_c4.eq_1
def C.catnaplaw8_ResetLate_r25_b : List IOper := [
 X.m 120 9,
 X.o 121 (.call F.reset_Lines_Tick [X.s 120]),
 X.o 122 (.len (X.s 121)),
 X.o 123 (.bin .neq (X.s 122) (X.i 0))]
def C.catnaplaw8_ResetLate_r25 : List IOper := C.catnaplaw8_ResetLate_r25_b
def C.catnaplaw8_ResetLate_r25_w := @aopsE _ _ C.catnaplaw8_ResetLate_r25.eq_1
def C.catnaplaw8_ResetLate_b5 : ICode := .seq (.region C.catnaplaw8_ResetLate_r25) C.catnaplaw8_ResetLate_c4
def C.catnaplaw8_ResetLate_b5_w := @awpE _ _ C.catnaplaw8_ResetLate_b5.eq_1
def C.catnaplaw8_ResetLate_c6 : ICode := .keep [9, 11, 15, 16] (.seq (.block 5 C.catnaplaw8_ResetLate_b5) C.catnaplaw8_ResetLate_c2)
def C.catnaplaw8_ResetLate_c6_w := @awpE _ _ C.catnaplaw8_ResetLate_c6.eq_1
def C.catnaplaw8_ResetLate_c7 : ICode := .keep [9, 11, 15, 16, 117] (.cond (X.s 117) .skip (.exit 4))
def C.catnaplaw8_ResetLate_c7_w := @awpE _ _ C.catnaplaw8_ResetLate_c7.eq_1
def C.catnaplaw8_ResetLate_r23_b : List IOper := [
 X.m 115 16,
 X.m 116 15,
 X.o 117 (.bin .lss (X.s 115) (X.s 116))]
def C.catnaplaw8_ResetLate_r23 : List IOper := C.catnaplaw8_ResetLate_r23_b
def C.catnaplaw8_ResetLate_r23_w := @aopsE _ _ C.catnaplaw8_ResetLate_r23.eq_1
def C.catnaplaw8_ResetLate_l8 : ICode := .keep [9, 11, 15, 16] (.seq (.seq (.region C.catnaplaw8_ResetLate_r23) C.catnaplaw8_ResetLate_c7) C.catnaplaw8_ResetLate_c6)
def C.catnaplaw8_ResetLate_l8_w := @awpE _ _ C.catnaplaw8_ResetLate_l8.eq_1
def C.catnaplaw8_ResetLate_b9 : ICode := .loop C.catnaplaw8_ResetLate_l8
def C.catnaplaw8_ResetLate_b9_w := @awpE _ _ C.catnaplaw8_ResetLate_b9.eq_1
def C.catnaplaw8_ResetLate_c10 : ICode := .keep [9, 11, 15, 16] (.block 4 C.catnaplaw8_ResetLate_b9)
def C.catnaplaw8_ResetLate_c10_w := @awpE _ _ C.catnaplaw8_ResetLate_c10.eq_1
def C.catnaplaw8_ResetLate_r22_b : List IOper := [
 X.o 16 (.move (X.i 0))]
def C.catnaplaw8_ResetLate_r22 : List IOper := C.catnaplaw8_ResetLate_r22_b
def C.catnaplaw8_ResetLate_r22_w := @aopsE _ _ C.catnaplaw8_ResetLate_r22.eq_1
def C.catnaplaw8_ResetLate_c11 : ICode := .keep [9, 11, 15] (.seq (.seq (.region C.catnaplaw8_ResetLate_r22) C.catnaplaw8_ResetLate_c10) C.catnaplaw8_ResetLate_c1)
def C.catnaplaw8_ResetLate_c11_w := @awpE _ _ C.catnaplaw8_ResetLate_c11.eq_1
def C.catnaplaw8_ResetLate_r21_b : List IOper := [
 X.o 6 (.move (.cst (.bool false)))]
def C.catnaplaw8_ResetLate_r21 : List IOper := C.catnaplaw8_ResetLate_r21_b
def C.catnaplaw8_ResetLate_r21_w := @aopsE _ _ C.catnaplaw8_ResetLate_r21.eq_1
def C.catnaplaw8_ResetLate_c12 : ICode := .seq (.region C.catnaplaw8_ResetLate_r21) .ret
def C.catnaplaw8_ResetLate_c12_w := @awpE _ _ C.catnaplaw8_ResetLate_c12.eq_1
def C.catnaplaw8_ResetLate_c13 : ICode := .keep [9, 11, 15, 114] (.cond (X.s 114) C.catnaplaw8_ResetLate_c12 .skip)
def C.catnaplaw8_ResetLate_c13_w := @awpE _ _ C.catnaplaw8_ResetLate_c13.eq_1
def C.catnaplaw8_ResetLate_r20_b : List IOper := [
 X.m 111 9,
 X.m 112 11,
 X.o 113 (.call F.reset_Lines_Release [X.s 111, X.s 112]),
 X.o 114 (.bin .neq (X.s 113) (X.i 0))]
def C.catnaplaw8_ResetLate_r20 : List IOper := C.catnaplaw8_ResetLate_r20_b
def C.catnaplaw8_ResetLate_r20_w := @aopsE _ _ C.catnaplaw8_ResetLate_r20.eq_1
def C.catnaplaw8_ResetLate_c14 : ICode := .keep [9, 11, 15] (.seq (.seq (.region C.catnaplaw8_ResetLate_r20) C.catnaplaw8_ResetLate_c13) C.catnaplaw8_ResetLate_c11)
def C.catnaplaw8_ResetLate_c14_w := @awpE _ _ C.catnaplaw8_ResetLate_c14.eq_1
def C.catnaplaw8_ResetLate_r19_b : List IOper := [
 X.m 108 9,
 X.m 109 11,
 X.o 110 (.call F.reset_Lines_Left [X.s 108, X.s 109]),
 X.m 15 110]
def C.catnaplaw8_ResetLate_r19 : List IOper := C.catnaplaw8_ResetLate_r19_b
def C.catnaplaw8_ResetLate_r19_w := @aopsE _ _ C.catnaplaw8_ResetLate_r19.eq_1
def C.catnaplaw8_ResetLate_c15 : ICode := .keep [9, 11] (.seq (.region C.catnaplaw8_ResetLate_r19) C.catnaplaw8_ResetLate_c14)
def C.catnaplaw8_ResetLate_c15_w := @awpE _ _ C.catnaplaw8_ResetLate_c15.eq_1
def C.catnaplaw8_ResetLate_r16_b : List IOper := [
 X.m 80 14,
 X.o 81 (.bin .add (X.s 80) (X.i 1)),
 X.m 14 81]
def C.catnaplaw8_ResetLate_r16 : List IOper := C.catnaplaw8_ResetLate_r16_b
def C.catnaplaw8_ResetLate_r16_w := @aopsE _ _ C.catnaplaw8_ResetLate_r16.eq_1
def C.catnaplaw8_ResetLate_c16 : ICode := .keep [8, 9, 11, 13, 14] (.region C.catnaplaw8_ResetLate_r16)
def C.catnaplaw8_ResetLate_c16_w := @awpE _ _ C.catnaplaw8_ResetLate_c16.eq_1
def C.catnaplaw8_ResetLate_r18_b : List IOper := [
 X.o 6 (.move (.cst (.bool false)))]
def C.catnaplaw8_ResetLate_r18 : List IOper := C.catnaplaw8_ResetLate_r18_b
def C.catnaplaw8_ResetLate_r18_w := @aopsE _ _ C.catnaplaw8_ResetLate_r18.eq_1
def C.catnaplaw8_ResetLate_c17 : ICode := .seq (.region C.catnaplaw8_ResetLate_r18) .ret
def C.catnaplaw8_ResetLate_c17_w := @awpE _ _ C.catnaplaw8_ResetLate_c17.eq_1
def C.catnaplaw8_ResetLate_c18 : ICode := .keep [8, 9, 11, 13, 14, 107] (.cond (X.s 107) C.catnaplaw8_ResetLate_c17 .skip)
def C.catnaplaw8_ResetLate_c18_w := @awpE _ _ C.catnaplaw8_ResetLate_c18.eq_1
def C.catnaplaw8_ResetLate_r17_b : List IOper := [
 X.m 82 9,
 X.o 83 (.call F.reset_Lines_Tick [X.s 82]),
 X.o 84 (.len (X.s 83)),
 X.o 85 (.bin .neq (X.s 84) (X.i 0)),
 X.m 86 85,
 X.f 86 87 (.move (X.s 9)),
 X.f 86 88 (.move (X.s 11)),
 X.f 86 89 (.call F.reset_Lines_Held [X.s 87, X.s 88]),
 X.f 86 90 (.un .not (X.s 89)),
 X.o 91 (.pick (X.s 86) (.cst (.bool true)) (X.s 90)),
 X.m 92 91,
 X.f 92 93 (.move (X.s 9)),
 X.f 92 94 (.move (X.s 11)),
 X.f 92 96 (.fldAddr 2 (X.s 8)),
 X.f 92 97 (.load1 (X.s 96)),
 X.f 92 98 (.move (X.s 11)),
 X.f 92 99 (.idxAddr 1 (X.s 97) (X.s 98)),
 X.f 92 100 (.fldAddr 0 (X.s 99)),
 X.f 92 101 (.load1 (X.s 100)),
 X.f 92 102 (.move (X.s 14)),
 X.f 92 103 (.bin .sub (X.s 101) (X.s 102)),
 X.f 92 104 (.bin .sub (X.s 103) (X.i 1)),
 X.f 92 105 (.minmax true (X.s 104) (X.i 0)),
 ⟨some 95, .call F.reset_Lines_Left [X.s 93, X.s 94], some (92, false), [⟨.load1 (X.s 96), 97, some (92, false)⟩, ⟨.load1 (X.s 100), 101, some (92, false)⟩], []⟩,
 X.f 92 106 (.bin .neq (X.s 95) (X.s 105)),
 X.o 107 (.pick (X.s 92) (.cst (.bool true)) (X.s 106))]
def C.catnaplaw8_ResetLate_r17 : List IOper := C.catnaplaw8_ResetLate_r17_b
def C.catnaplaw8_ResetLate_r17_w := @aopsE _ _ C.catnaplaw8_ResetLate_r17.eq_1
def C.catnaplaw8_ResetLate_b19 : ICode := .seq (.region C.catnaplaw8_ResetLate_r17) C.catnaplaw8_ResetLate_c18
def C.catnaplaw8_ResetLate_b19_w := @awpE _ _ C.catnaplaw8_ResetLate_b19.eq_1
def C.catnaplaw8_ResetLate_c20 : ICode := .keep [8, 9, 11, 13, 14] (.seq (.block 3 C.catnaplaw8_ResetLate_b19) C.catnaplaw8_ResetLate_c16)
def C.catnaplaw8_ResetLate_c20_w := @awpE _ _ C.catnaplaw8_ResetLate_c20.eq_1
def C.catnaplaw8_ResetLate_c21 : ICode := .keep [8, 9, 11, 13, 14, 79] (.cond (X.s 79) .skip (.exit 2))
def C.catnaplaw8_ResetLate_c21_w := @awpE _ _ C.catnaplaw8_ResetLate_c21.eq_1
def C.catnaplaw8_ResetLate_r15_b : List IOper := [
 X.m 77 14,
 X.m 78 13,
 X.o 79 (.bin .lss (X.s 77) (X.s 78))]
def C.catnaplaw8_ResetLate_r15 : List IOper := C.catnaplaw8_ResetLate_r15_b
def C.catnaplaw8_ResetLate_r15_w := @aopsE _ _ C.catnaplaw8_ResetLate_r15.eq_1
def C.catnaplaw8_ResetLate_l22 : ICode := .keep [8, 9, 11, 13, 14] (.seq (.seq (.region C.catnaplaw8_ResetLate_r15) C.catnaplaw8_ResetLate_c21) C.catnaplaw8_ResetLate_c20)
def C.catnaplaw8_ResetLate_l22_w := @awpE _ _ C.catnaplaw8_ResetLate_l22.eq_1
def C.catnaplaw8_ResetLate_b23 : ICode := .loop C.catnaplaw8_ResetLate_l22
def C.catnaplaw8_ResetLate_b23_w := @awpE _ _ C.catnaplaw8_ResetLate_b23.eq_1
def C.catnaplaw8_ResetLate_c24 : ICode := .keep [8, 9, 11, 13, 14] (.block 2 C.catnaplaw8_ResetLate_b23)
def C.catnaplaw8_ResetLate_c24_w := @awpE _ _ C.catnaplaw8_ResetLate_c24.eq_1
def C.catnaplaw8_ResetLate_r14_b : List IOper := [
 X.o 14 (.move (X.i 0))]
def C.catnaplaw8_ResetLate_r14 : List IOper := C.catnaplaw8_ResetLate_r14_b
def C.catnaplaw8_ResetLate_r14_w := @aopsE _ _ C.catnaplaw8_ResetLate_r14.eq_1
def C.catnaplaw8_ResetLate_c25 : ICode := .keep [8, 9, 11, 13] (.seq (.seq (.region C.catnaplaw8_ResetLate_r14) C.catnaplaw8_ResetLate_c24) C.catnaplaw8_ResetLate_c15)
def C.catnaplaw8_ResetLate_c25_w := @awpE _ _ C.catnaplaw8_ResetLate_c25.eq_1
def C.catnaplaw8_ResetLate_r13_b : List IOper := [
 X.m 74 9,
 X.m 75 11,
 X.o 76 (.call F.reset_Lines_Assert [X.s 74, X.s 75])]
def C.catnaplaw8_ResetLate_r13 : List IOper := C.catnaplaw8_ResetLate_r13_b
def C.catnaplaw8_ResetLate_r13_w := @aopsE _ _ C.catnaplaw8_ResetLate_r13.eq_1
def C.catnaplaw8_ResetLate_c26 : ICode := .keep [8, 9, 11, 13] (.seq (.region C.catnaplaw8_ResetLate_r13) C.catnaplaw8_ResetLate_c25)
def C.catnaplaw8_ResetLate_c26_w := @awpE _ _ C.catnaplaw8_ResetLate_c26.eq_1
def C.catnaplaw8_ResetLate_r12_b : List IOper := [
 X.m 72 2,
 X.o 73 (.call F.catnaplaw8_pick [X.s 72, X.i 60]),
 X.m 13 73]
def C.catnaplaw8_ResetLate_r12 : List IOper := C.catnaplaw8_ResetLate_r12_b
def C.catnaplaw8_ResetLate_r12_w := @aopsE _ _ C.catnaplaw8_ResetLate_r12.eq_1
def C.catnaplaw8_ResetLate_c27 : ICode := .keep [2, 8, 9, 11] (.seq (.region C.catnaplaw8_ResetLate_r12) C.catnaplaw8_ResetLate_c26)
def C.catnaplaw8_ResetLate_c27_w := @awpE _ _ C.catnaplaw8_ResetLate_c27.eq_1
def C.catnaplaw8_ResetLate_r9_b : List IOper := [
 X.m 60 12,
 X.o 61 (.bin .add (X.s 60) (X.i 1)),
 X.m 12 61]
def C.catnaplaw8_ResetLate_r9 : List IOper := C.catnaplaw8_ResetLate_r9_b
def C.catnaplaw8_ResetLate_r9_w := @aopsE _ _ C.catnaplaw8_ResetLate_r9.eq_1
def C.catnaplaw8_ResetLate_c28 : ICode := .keep [2, 8, 9, 11, 12] (.region C.catnaplaw8_ResetLate_r9)
def C.catnaplaw8_ResetLate_c28_w := @awpE _ _ C.catnaplaw8_ResetLate_c28.eq_1
def C.catnaplaw8_ResetLate_r11_b : List IOper := [
 X.o 6 (.move (.cst (.bool false)))]
def C.catnaplaw8_ResetLate_r11 : List IOper := C.catnaplaw8_ResetLate_r11_b
def C.catnaplaw8_ResetLate_r11_w := @aopsE _ _ C.catnaplaw8_ResetLate_r11.eq_1
def C.catnaplaw8_ResetLate_c29 : ICode := .seq (.region C.catnaplaw8_ResetLate_r11) .ret
def C.catnaplaw8_ResetLate_c29_w := @awpE _ _ C.catnaplaw8_ResetLate_c29.eq_1
def C.catnaplaw8_ResetLate_c30 : ICode := .keep [2, 8, 9, 11, 12, 71] (.cond (X.s 71) C.catnaplaw8_ResetLate_c29 .skip)
def C.catnaplaw8_ResetLate_c30_w := @awpE _ _ C.catnaplaw8_ResetLate_c30.eq_1
def C.catnaplaw8_ResetLate_r10_b : List IOper := [
 X.m 62 9,
 X.m 63 12,
 X.o 64 (.call F.reset_Lines_Held [X.s 62, X.s 63]),
 X.o 65 (.un .not (X.s 64)),
 X.m 66 65,
 X.f 66 67 (.move (X.s 9)),
 X.f 66 68 (.move (X.s 12)),
 X.f 66 69 (.call F.reset_Lines_Left [X.s 67, X.s 68]),
 X.f 66 70 (.bin .neq (X.s 69) (X.i 0)),
 X.o 71 (.pick (X.s 66) (.cst (.bool true)) (X.s 70))]
def C.catnaplaw8_ResetLate_r10 : List IOper := C.catnaplaw8_ResetLate_r10_b
def C.catnaplaw8_ResetLate_r10_w := @aopsE _ _ C.catnaplaw8_ResetLate_r10.eq_1
def C.catnaplaw8_ResetLate_b31 : ICode := .seq (.region C.catnaplaw8_ResetLate_r10) C.catnaplaw8_ResetLate_c30
def C.catnaplaw8_ResetLate_b31_w := @awpE _ _ C.catnaplaw8_ResetLate_b31.eq_1
def C.catnaplaw8_ResetLate_c32 : ICode := .keep [2, 8, 9, 11, 12] (.seq (.block 1 C.catnaplaw8_ResetLate_b31) C.catnaplaw8_ResetLate_c28)
def C.catnaplaw8_ResetLate_c32_w := @awpE _ _ C.catnaplaw8_ResetLate_c32.eq_1
def C.catnaplaw8_ResetLate_c33 : ICode := .keep [2, 8, 9, 11, 12, 59] (.cond (X.s 59) .skip (.exit 0))
def C.catnaplaw8_ResetLate_c33_w := @awpE _ _ C.catnaplaw8_ResetLate_c33.eq_1
def C.catnaplaw8_ResetLate_r8_b : List IOper := [
 X.m 55 12,
 X.o 56 (.fldAddr 2 (X.s 8)),
 X.o 57 (.load1 (X.s 56)),
 X.o 58 (.len (X.s 57)),
 X.o 59 (.bin .lss (X.s 55) (X.s 58))]
def C.catnaplaw8_ResetLate_r8 : List IOper := C.catnaplaw8_ResetLate_r8_b
def C.catnaplaw8_ResetLate_r8_w := @aopsE _ _ C.catnaplaw8_ResetLate_r8.eq_1
def C.catnaplaw8_ResetLate_l34 : ICode := .keep [2, 8, 9, 11, 12] (.seq (.seq (.region C.catnaplaw8_ResetLate_r8) C.catnaplaw8_ResetLate_c33) C.catnaplaw8_ResetLate_c32)
def C.catnaplaw8_ResetLate_l34_w := @awpE _ _ C.catnaplaw8_ResetLate_l34.eq_1
def C.catnaplaw8_ResetLate_b35 : ICode := .loop C.catnaplaw8_ResetLate_l34
def C.catnaplaw8_ResetLate_b35_w := @awpE _ _ C.catnaplaw8_ResetLate_b35.eq_1
def C.catnaplaw8_ResetLate_c36 : ICode := .keep [2, 8, 9, 11, 12] (.block 0 C.catnaplaw8_ResetLate_b35)
def C.catnaplaw8_ResetLate_c36_w := @awpE _ _ C.catnaplaw8_ResetLate_c36.eq_1
def C.catnaplaw8_ResetLate_r7_b : List IOper := [
 X.o 12 (.move (X.i 0))]
def C.catnaplaw8_ResetLate_r7 : List IOper := C.catnaplaw8_ResetLate_r7_b
def C.catnaplaw8_ResetLate_r7_w := @aopsE _ _ C.catnaplaw8_ResetLate_r7.eq_1
def C.catnaplaw8_ResetLate_c37 : ICode := .keep [2, 8, 9, 11] (.seq (.seq (.region C.catnaplaw8_ResetLate_r7) C.catnaplaw8_ResetLate_c36) C.catnaplaw8_ResetLate_c27)
def C.catnaplaw8_ResetLate_c37_w := @awpE _ _ C.catnaplaw8_ResetLate_c37.eq_1
def C.catnaplaw8_ResetLate_r6_b : List IOper := [
 X.m 50 1,
 X.o 51 (.fldAddr 2 (X.s 8)),
 X.o 52 (.load1 (X.s 51)),
 X.o 53 (.len (X.s 52)),
 X.o 54 (.call F.catnaplaw8_pick [X.s 50, X.s 53]),
 X.m 11 54]
def C.catnaplaw8_ResetLate_r6 : List IOper := C.catnaplaw8_ResetLate_r6_b
def C.catnaplaw8_ResetLate_r6_w := @aopsE _ _ C.catnaplaw8_ResetLate_r6.eq_1
def C.catnaplaw8_ResetLate_c38 : ICode := .keep [1, 2, 8, 9] (.seq (.region C.catnaplaw8_ResetLate_r6) C.catnaplaw8_ResetLate_c37)
def C.catnaplaw8_ResetLate_c38_w := @awpE _ _ C.catnaplaw8_ResetLate_c38.eq_1
def C.catnaplaw8_ResetLate_r5_b : List IOper := [
 X.m 41 7,
 X.m 42 41,
 X.t 42 43 (.move (X.s 9)),
 X.t 42 44 (.eqP 0 true (X.s 43) (.cst (.nilp))),
 X.o 45 (.pick (X.s 42) (X.s 44) (.cst (.bool false))),
 X.m 46 45,
 X.t 46 47 (.move (X.s 10)),
 X.t 46 48 (.bin .eql (X.s 47) (X.i 0)),
 X.o 49 (.pick (X.s 46) (X.s 48) (.cst (.bool false))),
 X.m 6 49]
def C.catnaplaw8_ResetLate_r5 : List IOper := C.catnaplaw8_ResetLate_r5_b
def C.catnaplaw8_ResetLate_r5_w := @aopsE _ _ C.catnaplaw8_ResetLate_r5.eq_1
def C.catnaplaw8_ResetLate_c39 : ICode := .seq (.region C.catnaplaw8_ResetLate_r5) .ret
def C.catnaplaw8_ResetLate_c39_w := @awpE _ _ C.catnaplaw8_ResetLate_c39.eq_1
def C.catnaplaw8_ResetLate_c40 : ICode := .keep [1, 2, 7, 8, 9, 10, 40] (.cond (X.s 40) C.catnaplaw8_ResetLate_c39 .skip)
def C.catnaplaw8_ResetLate_c40_w := @awpE _ _ C.catnaplaw8_ResetLate_c40.eq_1
def C.catnaplaw8_ResetLate_r4_b : List IOper := [
 X.m 25 7,
 X.o 26 (.un .not (X.s 25)),
 X.m 27 26,
 X.f 27 28 (.move (X.s 9)),
 X.f 27 29 (.eqP 0 false (X.s 28) (.cst (.nilp))),
 X.o 30 (.pick (X.s 27) (.cst (.bool true)) (X.s 29)),
 X.m 31 30,
 X.f 31 32 (.move (X.s 10)),
 X.f 31 33 (.bin .neq (X.s 32) (X.i 0)),
 X.o 34 (.pick (X.s 31) (.cst (.bool true)) (X.s 33)),
 X.m 35 34,
 X.f 35 36 (.fldAddr 2 (X.s 8)),
 X.f 35 37 (.load1 (X.s 36)),
 X.f 35 38 (.len (X.s 37)),
 X.f 35 39 (.bin .eql (X.s 38) (X.i 0)),
 X.o 40 (.pick (X.s 35) (.cst (.bool true)) (X.s 39))]
def C.catnaplaw8_ResetLate_r4 : List IOper := C.catnaplaw8_ResetLate_r4_b
def C.catnaplaw8_ResetLate_r4_w := @aopsE _ _ C.catnaplaw8_ResetLate_r4.eq_1
def C.catnaplaw8_ResetLate_c41 : ICode := .keep [1, 2, 7, 8, 9, 10] (.seq (.seq (.region C.catnaplaw8_ResetLate_r4) C.catnaplaw8_ResetLate_c40) C.catnaplaw8_ResetLate_c38)
def C.catnaplaw8_ResetLate_c41_w := @awpE _ _ C.catnaplaw8_ResetLate_c41.eq_1
def C.catnaplaw8_ResetLate_r3_b : List IOper := [
 X.o 21 (.loadN 4 (X.s 8)),
 X.o 22 (.call F.reset_New [X.s 21]),
 X.m 20 22,
 X.o 23 (.extract (X.s 20) 0),
 X.o 24 (.extract (X.s 20) 1),
 X.m 9 23,
 X.m 10 24]
def C.catnaplaw8_ResetLate_r3 : List IOper := C.catnaplaw8_ResetLate_r3_b
def C.catnaplaw8_ResetLate_r3_w := @aopsE _ _ C.catnaplaw8_ResetLate_r3.eq_1
def C.catnaplaw8_ResetLate_c42 : ICode := .keep [1, 2, 7, 8] (.seq (.region C.catnaplaw8_ResetLate_r3) C.catnaplaw8_ResetLate_c41)
def C.catnaplaw8_ResetLate_c42_w := @awpE _ _ C.catnaplaw8_ResetLate_c42.eq_1
def C.catnaplaw8_ResetLate_r2_b : List IOper := [
 X.m 18 0,
 X.o 19 (.call F.catnaplaw8_chip [X.s 18]),
 X.o 8 (.alloc [.nils, .nils, .nils, .nils]),
 X.n (.storeN 4 (X.s 8) (X.s 19))]
def C.catnaplaw8_ResetLate_r2 : List IOper := C.catnaplaw8_ResetLate_r2_b
def C.catnaplaw8_ResetLate_r2_w := @aopsE _ _ C.catnaplaw8_ResetLate_r2.eq_1
def C.catnaplaw8_ResetLate_c43 : ICode := .keep [0, 1, 2, 7] (.seq (.region C.catnaplaw8_ResetLate_r2) C.catnaplaw8_ResetLate_c42)
def C.catnaplaw8_ResetLate_c43_w := @awpE _ _ C.catnaplaw8_ResetLate_c43.eq_1
def C.catnaplaw8_ResetLate_r1_b : List IOper := [
 X.o 17 (.call F.catnaplaw8_shown []),
 X.m 7 17]
def C.catnaplaw8_ResetLate_r1 : List IOper := C.catnaplaw8_ResetLate_r1_b
def C.catnaplaw8_ResetLate_r1_w := @aopsE _ _ C.catnaplaw8_ResetLate_r1.eq_1
def C.catnaplaw8_ResetLate_c44 : ICode := .keep [0, 1, 2] (.seq (.region C.catnaplaw8_ResetLate_r1) C.catnaplaw8_ResetLate_c43)
def C.catnaplaw8_ResetLate_c44_w := @awpE _ _ C.catnaplaw8_ResetLate_c44.eq_1
def C.catnaplaw8_ResetLate_r0_b : List IOper := [
 X.o 6 (.move (.cst (.bool false)))]
def C.catnaplaw8_ResetLate_r0 : List IOper := C.catnaplaw8_ResetLate_r0_b
def C.catnaplaw8_ResetLate_r0_w := @aopsE _ _ C.catnaplaw8_ResetLate_r0.eq_1
def C.catnaplaw8_ResetLate : IFunc := ⟨3, [.slot 6], .seq (.region C.catnaplaw8_ResetLate_r0) C.catnaplaw8_ResetLate_c44⟩
def C.catnaplaw8_ResetLate_W := And.intro (And.intro (And.intro (And.intro (And.intro (And.intro @C.catnaplaw8_ResetLate_r27_w @C.catnaplaw8_ResetLate_c1_w) (And.intro @C.catnaplaw8_ResetLate_r24_w @C.catnaplaw8_ResetLate_c2_w)) (And.intro (And.intro @C.catnaplaw8_ResetLate_r26_w @C.catnaplaw8_ResetLate_c3_w) (And.intro @C.catnaplaw8_ResetLate_c4_w @C.catnaplaw8_ResetLate_r25_w))) (And.intro (And.intro (And.intro @C.catnaplaw8_ResetLate_b5_w @C.catnaplaw8_ResetLate_c6_w) (And.intro @C.catnaplaw8_ResetLate_c7_w @C.catnaplaw8_ResetLate_r23_w)) (And.intro (And.intro @C.catnaplaw8_ResetLate_b9_w @C.catnaplaw8_ResetLate_c10_w) (And.intro @C.catnaplaw8_ResetLate_r22_w (And.intro @C.catnaplaw8_ResetLate_c11_w @C.catnaplaw8_ResetLate_r21_w))))) (And.intro (And.intro (And.intro (And.intro @C.catnaplaw8_ResetLate_c12_w @C.catnaplaw8_ResetLate_c13_w) (And.intro @C.catnaplaw8_ResetLate_r20_w @C.catnaplaw8_ResetLate_c14_w)) (And.intro (And.intro @C.catnaplaw8_ResetLate_r19_w @C.catnaplaw8_ResetLate_c15_w) (And.intro @C.catnaplaw8_ResetLate_r16_w @C.catnaplaw8_ResetLate_c16_w))) (And.intro (And.intro (And.intro @C.catnaplaw8_ResetLate_r18_w @C.catnaplaw8_ResetLate_c17_w) (And.intro @C.catnaplaw8_ResetLate_c18_w @C.catnaplaw8_ResetLate_r17_w)) (And.intro (And.intro @C.catnaplaw8_ResetLate_b19_w @C.catnaplaw8_ResetLate_c20_w) (And.intro @C.catnaplaw8_ResetLate_c21_w (And.intro @C.catnaplaw8_ResetLate_r15_w @C.catnaplaw8_ResetLate_b23_w)))))) (And.intro (And.intro (And.intro (And.intro (And.intro @C.catnaplaw8_ResetLate_c24_w @C.catnaplaw8_ResetLate_r14_w) (And.intro @C.catnaplaw8_ResetLate_c25_w @C.catnaplaw8_ResetLate_r13_w)) (And.intro (And.intro @C.catnaplaw8_ResetLate_c26_w @C.catnaplaw8_ResetLate_r12_w) (And.intro @C.catnaplaw8_ResetLate_c27_w @C.catnaplaw8_ResetLate_r9_w))) (And.intro (And.intro (And.intro @C.catnaplaw8_ResetLate_c28_w @C.catnaplaw8_ResetLate_r11_w) (And.intro @C.catnaplaw8_ResetLate_c29_w @C.catnaplaw8_ResetLate_c30_w)) (And.intro (And.intro @C.catnaplaw8_ResetLate_r10_w @C.catnaplaw8_ResetLate_b31_w) (And.intro @C.catnaplaw8_ResetLate_c32_w (And.intro @C.catnaplaw8_ResetLate_c33_w @C.catnaplaw8_ResetLate_r8_w))))) (And.intro (And.intro (And.intro (And.intro @C.catnaplaw8_ResetLate_b35_w @C.catnaplaw8_ResetLate_c36_w) (And.intro @C.catnaplaw8_ResetLate_r7_w @C.catnaplaw8_ResetLate_c37_w)) (And.intro (And.intro @C.catnaplaw8_ResetLate_r6_w @C.catnaplaw8_ResetLate_c38_w) (And.intro @C.catnaplaw8_ResetLate_r5_w (And.intro @C.catnaplaw8_ResetLate_c39_w @C.catnaplaw8_ResetLate_c40_w)))) (And.intro (And.intro (And.intro @C.catnaplaw8_ResetLate_r4_w @C.catnaplaw8_ResetLate_c41_w) (And.intro @C.catnaplaw8_ResetLate_r3_w @C.catnaplaw8_ResetLate_c42_w)) (And.intro (And.intro @C.catnaplaw8_ResetLate_r2_w @C.catnaplaw8_ResetLate_c43_w) (And.intro @C.catnaplaw8_ResetLate_r1_w (And.intro @C.catnaplaw8_ResetLate_c44_w @C.catnaplaw8_ResetLate_r0_w))))))
def C.catnaplaw8_ResetLate_B := And.intro (And.intro (And.intro (And.intro @C.catnaplaw8_ResetLate_r27_b.eq_1 (And.intro @C.catnaplaw8_ResetLate_r24_b.eq_1 @C.catnaplaw8_ResetLate_r26_b.eq_1)) (And.intro (And.intro @C.catnaplaw8_ResetLate_r25_b.eq_1 @C.catnaplaw8_ResetLate_r23_b.eq_1) (And.intro @C.catnaplaw8_ResetLate_r22_b.eq_1 @C.catnaplaw8_ResetLate_r21_b.eq_1))) (And.intro (And.intro @C.catnaplaw8_ResetLate_r20_b.eq_1 (And.intro @C.catnaplaw8_ResetLate_r19_b.eq_1 @C.catnaplaw8_ResetLate_r16_b.eq_1)) (And.intro (And.intro @C.catnaplaw8_ResetLate_r18_b.eq_1 @C.catnaplaw8_ResetLate_r17_b.eq_1) (And.intro @C.catnaplaw8_ResetLate_r15_b.eq_1 @C.catnaplaw8_ResetLate_r14_b.eq_1)))) (And.intro (And.intro (And.intro @C.catnaplaw8_ResetLate_r13_b.eq_1 (And.intro @C.catnaplaw8_ResetLate_r12_b.eq_1 @C.catnaplaw8_ResetLate_r9_b.eq_1)) (And.intro (And.intro @C.catnaplaw8_ResetLate_r11_b.eq_1 @C.catnaplaw8_ResetLate_r10_b.eq_1) (And.intro @C.catnaplaw8_ResetLate_r8_b.eq_1 @C.catnaplaw8_ResetLate_r7_b.eq_1))) (And.intro (And.intro @C.catnaplaw8_ResetLate_r6_b.eq_1 (And.intro @C.catnaplaw8_ResetLate_r5_b.eq_1 @C.catnaplaw8_ResetLate_r4_b.eq_1)) (And.intro (And.intro @C.catnaplaw8_ResetLate_r3_b.eq_1 @C.catnaplaw8_ResetLate_r2_b.eq_1) (And.intro @C.catnaplaw8_ResetLate_r1_b.eq_1 @C.catnaplaw8_ResetLate_r0_b.eq_1))))

def C.catnaplaw8_shown_r2_b : List IOper := [
 X.m 10 1,
 X.o 11 (.eqP 0 true (X.s 10) (.cst (.nilp))),
 X.m 12 11,
 X.t 12 13 (.move (X.s 2)),
 X.t 12 14 (.bin .eql (X.s 13) (X.i 0)),
 X.o 15 (.pick (X.s 12) (X.s 14) (.cst (.bool false))),
 X.m 16 15,
 X.t 16 17 (.move (X.s 1)),
 X.t 16 18 (.call F.reset_Lines_Held [X.s 17, X.i 0]),
 X.o 19 (.pick (X.s 16) (X.s 18) (.cst (.bool false))),
 X.m 20 19,
 X.t 20 21 (.move (X.s 1)),
 X.t 20 22 (.call F.reset_Lines_Release [X.s 21, X.i 0]),
 X.t 20 23 (.bin .eql (X.s 22) (X.i 0)),
 X.o 24 (.pick (X.s 20) (X.s 23) (.cst (.bool false))),
 X.m 25 24,
 X.t 25 26 (.move (X.s 1)),
 X.t 25 27 (.call F.reset_Lines_Tick [X.s 26]),
 X.t 25 28 (.buildSlice 1 1 [.int .i64 0] [(0, 1, X.i 0)]),
 X.t 25 29 (.call F.catnaplaw8_same [X.s 27, X.s 28]),
 X.o 30 (.pick (X.s 25) (X.s 29) (.cst (.bool false))),
 X.m 31 30,
 X.t 31 32 (.move (X.s 1)),
 X.t 31 33 (.call F.reset_Lines_Held [X.s 32, X.i 0]),
 X.t 31 34 (.un .not (X.s 33)),
 X.o 35 (.pick (X.s 31) (X.s 34) (.cst (.bool false))),
 X.m 0 35]
def C.catnaplaw8_shown_r2 : List IOper := C.catnaplaw8_shown_r2_b
def C.catnaplaw8_shown_r2_w := @aopsE _ _ C.catnaplaw8_shown_r2.eq_1
def C.catnaplaw8_shown_c1 : ICode := .keep [1, 2] (.seq (.region C.catnaplaw8_shown_r2) .ret)
def C.catnaplaw8_shown_c1_w := @awpE _ _ C.catnaplaw8_shown_c1.eq_1
def C.catnaplaw8_shown_r1_b : List IOper := [
 X.o 4 (.build [.int .i64 0] [(0, 1, X.i 3)]),
 X.o 5 (.buildSlice 1 1 [.int .i64 0] [(0, 1, X.s 4)]),
 X.o 6 (.build [.nils, .nils, .nils, .nils] [(2, 1, X.s 5)]),
 X.o 7 (.call F.reset_New [X.s 6]),
 X.m 3 7,
 X.o 8 (.extract (X.s 3) 0),
 X.o 9 (.extract (X.s 3) 1),
 X.m 1 8,
 X.m 2 9]
def C.catnaplaw8_shown_r1 : List IOper := C.catnaplaw8_shown_r1_b
def C.catnaplaw8_shown_r1_w := @aopsE _ _ C.catnaplaw8_shown_r1.eq_1
def C.catnaplaw8_shown_c2 : ICode := .keep [] (.seq (.region C.catnaplaw8_shown_r1) C.catnaplaw8_shown_c1)
def C.catnaplaw8_shown_c2_w := @awpE _ _ C.catnaplaw8_shown_c2.eq_1
def C.catnaplaw8_shown_r0_b : List IOper := [
 X.o 0 (.move (.cst (.bool false)))]
def C.catnaplaw8_shown_r0 : List IOper := C.catnaplaw8_shown_r0_b
def C.catnaplaw8_shown_r0_w := @aopsE _ _ C.catnaplaw8_shown_r0.eq_1
def C.catnaplaw8_shown : IFunc := ⟨0, [.slot 0], .seq (.region C.catnaplaw8_shown_r0) C.catnaplaw8_shown_c2⟩
def C.catnaplaw8_shown_W := And.intro (And.intro @C.catnaplaw8_shown_r2_w @C.catnaplaw8_shown_c1_w) (And.intro @C.catnaplaw8_shown_r1_w (And.intro @C.catnaplaw8_shown_c2_w @C.catnaplaw8_shown_r0_w))
def C.catnaplaw8_shown_B := And.intro @C.catnaplaw8_shown_r2_b.eq_1 (And.intro @C.catnaplaw8_shown_r1_b.eq_1 @C.catnaplaw8_shown_r0_b.eq_1)

def C.catnaplaw8_chip_r6_b : List IOper := [
 X.o 26 (.loadN 4 (X.s 3)),
 X.n (.storeN 4 (X.s 2) (X.s 26))]
def C.catnaplaw8_chip_r6 : List IOper := C.catnaplaw8_chip_r6_b
def C.catnaplaw8_chip_r6_w := @aopsE _ _ C.catnaplaw8_chip_r6.eq_1
def C.catnaplaw8_chip_c1 : ICode := .keep [2, 3] (.seq (.region C.catnaplaw8_chip_r6) .ret)
def C.catnaplaw8_chip_c1_w := @awpE _ _ C.catnaplaw8_chip_c1.eq_1
def C.catnaplaw8_chip_r4_b : List IOper := [
 X.m 13 4,
 X.o 14 (.bin .add (X.s 13) (X.i 1)),
 X.m 4 14]
def C.catnaplaw8_chip_r4 : List IOper := C.catnaplaw8_chip_r4_b
def C.catnaplaw8_chip_r4_w := @aopsE _ _ C.catnaplaw8_chip_r4.eq_1
def C.catnaplaw8_chip_c2 : ICode := .keep [0, 2, 3, 4] (.region C.catnaplaw8_chip_r4)
def C.catnaplaw8_chip_c2_w := @awpE _ _ C.catnaplaw8_chip_c2.eq_1
def C.catnaplaw8_chip_r5_b : List IOper := [
 X.o 15 (.fldAddr 2 (X.s 3)),
 X.o 16 (.load1 (X.s 15)),
 X.m 17 0,
 X.m 18 4,
 X.o 19 (.idxAddr 1 (X.s 17) (X.s 18)),
 X.o 20 (.load1 (X.s 19)),
 ⟨some 21, .call F.catnaplaw8_pick [X.s 20, X.i 21], none, [⟨.load1 (X.s 15), 16, none⟩], []⟩,
 X.o 22 (.build [.int .i64 0] [(0, 1, X.s 21)]),
 X.o 23 (.buildSlice 1 1 [.int .i64 0] [(0, 1, X.s 22)]),
 X.o 24 (.append 1 8 (X.s 16) (X.s 23)),
 X.o 25 (.fldAddr 2 (X.s 3)),
 X.n (.store1 (X.s 25) (X.s 24))]
def C.catnaplaw8_chip_r5 : List IOper := C.catnaplaw8_chip_r5_b
def C.catnaplaw8_chip_r5_w := @aopsE _ _ C.catnaplaw8_chip_r5.eq_1
def C.catnaplaw8_chip_b3 : ICode := .region C.catnaplaw8_chip_r5
def C.catnaplaw8_chip_b3_w := @awpE _ _ C.catnaplaw8_chip_b3.eq_1
def C.catnaplaw8_chip_c4 : ICode := .keep [0, 2, 3, 4] (.seq (.block 1 C.catnaplaw8_chip_b3) C.catnaplaw8_chip_c2)
def C.catnaplaw8_chip_c4_w := @awpE _ _ C.catnaplaw8_chip_c4.eq_1
def C.catnaplaw8_chip_c5 : ICode := .keep [0, 2, 3, 4, 12] (.cond (X.s 12) .skip (.exit 0))
def C.catnaplaw8_chip_c5_w := @awpE _ _ C.catnaplaw8_chip_c5.eq_1
def C.catnaplaw8_chip_r3_b : List IOper := [
 X.m 5 4,
 X.m 6 0,
 X.o 7 (.len (X.s 6)),
 X.o 8 (.bin .lss (X.s 5) (X.s 7)),
 X.m 9 8,
 X.t 9 10 (.move (X.s 4)),
 X.t 9 11 (.bin .lss (X.s 10) (X.i 6)),
 X.o 12 (.pick (X.s 9) (X.s 11) (.cst (.bool false)))]
def C.catnaplaw8_chip_r3 : List IOper := C.catnaplaw8_chip_r3_b
def C.catnaplaw8_chip_r3_w := @aopsE _ _ C.catnaplaw8_chip_r3.eq_1
def C.catnaplaw8_chip_l6 : ICode := .keep [0, 2, 3, 4] (.seq (.seq (.region C.catnaplaw8_chip_r3) C.catnaplaw8_chip_c5) C.catnaplaw8_chip_c4)
def C.catnaplaw8_chip_l6_w := @awpE _ _ C.catnaplaw8_chip_l6.eq_1
def C.catnaplaw8_chip_b7 : ICode := .loop C.catnaplaw8_chip_l6
def C.catnaplaw8_chip_b7_w := @awpE _ _ C.catnaplaw8_chip_b7.eq_1
def C.catnaplaw8_chip_c8 : ICode := .keep [0, 2, 3, 4] (.block 0 C.catnaplaw8_chip_b7)
def C.catnaplaw8_chip_c8_w := @awpE _ _ C.catnaplaw8_chip_c8.eq_1
def C.catnaplaw8_chip_r2_b : List IOper := [
 X.o 4 (.move (X.i 0))]
def C.catnaplaw8_chip_r2 : List IOper := C.catnaplaw8_chip_r2_b
def C.catnaplaw8_chip_r2_w := @aopsE _ _ C.catnaplaw8_chip_r2.eq_1
def C.catnaplaw8_chip_c9 : ICode := .keep [0, 2, 3] (.seq (.seq (.region C.catnaplaw8_chip_r2) C.catnaplaw8_chip_c8) C.catnaplaw8_chip_c1)
def C.catnaplaw8_chip_c9_w := @awpE _ _ C.catnaplaw8_chip_c9.eq_1
def C.catnaplaw8_chip_r1_b : List IOper := [
 X.o 3 (.alloc [.nils, .nils, .nils, .nils])]
def C.catnaplaw8_chip_r1 : List IOper := C.catnaplaw8_chip_r1_b
def C.catnaplaw8_chip_r1_w := @aopsE _ _ C.catnaplaw8_chip_r1.eq_1
def C.catnaplaw8_chip_c10 : ICode := .keep [0, 2] (.seq (.region C.catnaplaw8_chip_r1) C.catnaplaw8_chip_c9)
def C.catnaplaw8_chip_c10_w := @awpE _ _ C.catnaplaw8_chip_c10.eq_1
def C.catnaplaw8_chip_r0_b : List IOper := [
 X.o 2 (.alloc [.nils, .nils, .nils, .nils])]
def C.catnaplaw8_chip_r0 : List IOper := C.catnaplaw8_chip_r0_b
def C.catnaplaw8_chip_r0_w := @aopsE _ _ C.catnaplaw8_chip_r0.eq_1
def C.catnaplaw8_chip : IFunc := ⟨1, [.cellN 2 4], .seq (.region C.catnaplaw8_chip_r0) C.catnaplaw8_chip_c10⟩
def C.catnaplaw8_chip_W := And.intro (And.intro (And.intro (And.intro @C.catnaplaw8_chip_r6_w @C.catnaplaw8_chip_c1_w) (And.intro @C.catnaplaw8_chip_r4_w @C.catnaplaw8_chip_c2_w)) (And.intro (And.intro @C.catnaplaw8_chip_r5_w @C.catnaplaw8_chip_b3_w) (And.intro @C.catnaplaw8_chip_c4_w @C.catnaplaw8_chip_c5_w))) (And.intro (And.intro (And.intro @C.catnaplaw8_chip_r3_w @C.catnaplaw8_chip_b7_w) (And.intro @C.catnaplaw8_chip_c8_w @C.catnaplaw8_chip_r2_w)) (And.intro (And.intro @C.catnaplaw8_chip_c9_w @C.catnaplaw8_chip_r1_w) (And.intro @C.catnaplaw8_chip_c10_w @C.catnaplaw8_chip_r0_w)))
def C.catnaplaw8_chip_B := And.intro (And.intro @C.catnaplaw8_chip_r6_b.eq_1 (And.intro @C.catnaplaw8_chip_r4_b.eq_1 @C.catnaplaw8_chip_r5_b.eq_1)) (And.intro (And.intro @C.catnaplaw8_chip_r3_b.eq_1 @C.catnaplaw8_chip_r2_b.eq_1) (And.intro @C.catnaplaw8_chip_r1_b.eq_1 @C.catnaplaw8_chip_r0_b.eq_1))

def C.reset_New_r10_b : List IOper := [
 X.m 36 5,
 X.m 2 36,
 X.o 3 (.move (X.i 0))]
def C.reset_New_r10 : List IOper := C.reset_New_r10_b
def C.reset_New_r10_w := @aopsE _ _ C.reset_New_r10.eq_1
def C.reset_New_c1 : ICode := .keep [5] (.seq (.region C.reset_New_r10) .ret)
def C.reset_New_c1_w := @awpE _ _ C.reset_New_c1.eq_1
def C.reset_New_r9_b : List IOper := [
 X.o 35 (.bin .add (X.s 22) (X.i 1)),
 X.m 22 35]
def C.reset_New_r9 : List IOper := C.reset_New_r9_b
def C.reset_New_r9_w := @aopsE _ _ C.reset_New_r9.eq_1
def C.reset_New_c2 : ICode := .keep [5, 20, 21, 22] (.region C.reset_New_r9)
def C.reset_New_c2_w := @awpE _ _ C.reset_New_c2.eq_1
def C.reset_New_r8_b : List IOper := [
 X.m 27 5,
 X.o 28 (.nilchk (X.s 27)),
 X.o 29 (.fldAddr 0 (X.s 28)),
 X.o 30 (.load1 (X.s 29)),
 X.m 31 6,
 X.o 32 (.fldAddr 0 (X.s 7)),
 X.o 33 (.load1 (X.s 32)),
 X.o 34 (.build [.int .i64 0, .int .i64 0, .bool false, .bool false] [(0, 1, X.s 33), (2, 1, .cst (.bool true))]),
 X.n (.mapSet (X.s 30) (X.s 31) (X.s 34))]
def C.reset_New_r8 : List IOper := C.reset_New_r8_b
def C.reset_New_r8_w := @aopsE _ _ C.reset_New_r8.eq_1
def C.reset_New_c3 : ICode := .keep [5, 6, 7, 20, 21, 22] (.region C.reset_New_r8)
def C.reset_New_c3_w := @awpE _ _ C.reset_New_c3.eq_1
def C.reset_New_r7_b : List IOper := [
 X.m 24 22,
 X.o 25 (.idxAddr 1 (X.s 20) (X.s 22)),
 X.o 26 (.loadN 1 (X.s 25)),
 X.o 7 (.alloc [.int .i64 0]),
 X.m 6 24,
 X.n (.storeN 1 (X.s 7) (X.s 26))]
def C.reset_New_r7 : List IOper := C.reset_New_r7_b
def C.reset_New_r7_w := @aopsE _ _ C.reset_New_r7.eq_1
def C.reset_New_b4 : ICode := .seq (.region C.reset_New_r7) C.reset_New_c3
def C.reset_New_b4_w := @awpE _ _ C.reset_New_b4.eq_1
def C.reset_New_c5 : ICode := .keep [5, 20, 21, 22] (.seq (.block 1 C.reset_New_b4) C.reset_New_c2)
def C.reset_New_c5_w := @awpE _ _ C.reset_New_c5.eq_1
def C.reset_New_c6 : ICode := .keep [5, 20, 21, 22, 23] (.seq (.cond (X.s 23) .skip (.exit 0)) C.reset_New_c5)
def C.reset_New_c6_w := @awpE _ _ C.reset_New_c6.eq_1
def C.reset_New_r6_b : List IOper := [
 X.o 23 (.bin .lss (X.s 22) (X.s 21))]
def C.reset_New_r6 : List IOper := C.reset_New_r6_b
def C.reset_New_r6_w := @aopsE _ _ C.reset_New_r6.eq_1
def C.reset_New_l7 : ICode := .keep [5, 20, 21, 22] (.seq (.region C.reset_New_r6) C.reset_New_c6)
def C.reset_New_l7_w := @awpE _ _ C.reset_New_l7.eq_1
def C.reset_New_b8 : ICode := .loop C.reset_New_l7
def C.reset_New_b8_w := @awpE _ _ C.reset_New_b8.eq_1
def C.reset_New_c9 : ICode := .keep [5, 20, 21, 22] (.block 0 C.reset_New_b8)
def C.reset_New_c9_w := @awpE _ _ C.reset_New_c9.eq_1
def C.reset_New_r5_b : List IOper := [
 X.o 19 (.fldAddr 2 (X.s 1)),
 X.o 20 (.load1 (X.s 19)),
 X.o 21 (.len (X.s 20)),
 X.o 22 (.move (X.i 0))]
def C.reset_New_r5 : List IOper := C.reset_New_r5_b
def C.reset_New_r5_w := @aopsE _ _ C.reset_New_r5.eq_1
def C.reset_New_c10 : ICode := .keep [1, 5] (.seq (.seq (.region C.reset_New_r5) C.reset_New_c9) C.reset_New_c1)
def C.reset_New_c10_w := @awpE _ _ C.reset_New_c10.eq_1
def C.reset_New_r4_b : List IOper := [
 X.o 13 (.fldAddr 2 (X.s 1)),
 X.o 14 (.load1 (X.s 13)),
 X.o 15 (.len (X.s 14)),
 X.o 16 (.makeMap (some (X.s 15))),
 X.o 17 (.build [.nilm] [(0, 1, X.s 16)]),
 X.o 18 (.boxN (X.s 17)),
 X.m 5 18]
def C.reset_New_r4 : List IOper := C.reset_New_r4_b
def C.reset_New_r4_w := @aopsE _ _ C.reset_New_r4.eq_1
def C.reset_New_c11 : ICode := .keep [1] (.seq (.region C.reset_New_r4) C.reset_New_c10)
def C.reset_New_c11_w := @awpE _ _ C.reset_New_c11.eq_1
def C.reset_New_r3_b : List IOper := [
 X.m 12 4,
 X.o 2 (.move (.cst (.nilp))),
 X.m 3 12]
def C.reset_New_r3 : List IOper := C.reset_New_r3_b
def C.reset_New_r3_w := @aopsE _ _ C.reset_New_r3.eq_1
def C.reset_New_c12 : ICode := .seq (.region C.reset_New_r3) .ret
def C.reset_New_c12_w := @awpE _ _ C.reset_New_c12.eq_1
def C.reset_New_c13 : ICode := .keep [1, 4, 11] (.cond (X.s 11) C.reset_New_c12 .skip)
def C.reset_New_c13_w := @awpE _ _ C.reset_New_c13.eq_1
def C.reset_New_r2_b : List IOper := [
 X.m 10 4,
 X.o 11 (.bin .neq (X.s 10) (X.i 0))]
def C.reset_New_r2 : List IOper := C.reset_New_r2_b
def C.reset_New_r2_w := @aopsE _ _ C.reset_New_r2.eq_1
def C.reset_New_c14 : ICode := .keep [1, 4] (.seq (.region C.reset_New_r2) C.reset_New_c13)
def C.reset_New_c14_w := @awpE _ _ C.reset_New_c14.eq_1
def C.reset_New_r1_b : List IOper := [
 X.o 8 (.loadN 4 (X.s 1)),
 X.o 9 (.call F.conf_Check [X.s 8]),
 X.m 4 9]
def C.reset_New_r1 : List IOper := C.reset_New_r1_b
def C.reset_New_r1_w := @aopsE _ _ C.reset_New_r1.eq_1
def C.reset_New_c15 : ICode := .keep [1] (.seq (.seq (.region C.reset_New_r1) C.reset_New_c14) C.reset_New_c11)
def C.reset_New_c15_w := @awpE _ _ C.reset_New_c15.eq_1
def C.reset_New_r0_b : List IOper := [
 X.o 1 (.boxN (X.s 0)),
 X.o 2 (.move (.cst (.nilp))),
 X.o 3 (.move (X.i 0))]
def C.reset_New_r0 : List IOper := C.reset_New_r0_b
def C.reset_New_r0_w := @aopsE _ _ C.reset_New_r0.eq_1
def C.reset_New : IFunc := ⟨1, [.slot 2, .slot 3], .seq (.region C.reset_New_r0) C.reset_New_c15⟩
def C.reset_New_W := And.intro (And.intro (And.intro (And.intro @C.reset_New_r10_w (And.intro @C.reset_New_c1_w @C.reset_New_r9_w)) (And.intro @C.reset_New_c2_w (And.intro @C.reset_New_r8_w @C.reset_New_c3_w))) (And.intro (And.intro @C.reset_New_r7_w (And.intro @C.reset_New_b4_w @C.reset_New_c5_w)) (And.intro @C.reset_New_c6_w (And.intro @C.reset_New_r6_w @C.reset_New_b8_w)))) (And.intro (And.intro (And.intro @C.reset_New_c9_w (And.intro @C.reset_New_r5_w @C.reset_New_c10_w)) (And.intro @C.reset_New_r4_w (And.intro @C.reset_New_c11_w @C.reset_New_r3_w))) (And.intro (And.intro @C.reset_New_c12_w (And.intro @C.reset_New_c13_w @C.reset_New_r2_w)) (And.intro (And.intro @C.reset_New_c14_w @C.reset_New_r1_w) (And.intro @C.reset_New_c15_w @C.reset_New_r0_w))))
def C.reset_New_B := And.intro (And.intro (And.intro @C.reset_New_r10_b.eq_1 @C.reset_New_r9_b.eq_1) (And.intro @C.reset_New_r8_b.eq_1 (And.intro @C.reset_New_r7_b.eq_1 @C.reset_New_r6_b.eq_1))) (And.intro (And.intro @C.reset_New_r5_b.eq_1 (And.intro @C.reset_New_r4_b.eq_1 @C.reset_New_r3_b.eq_1)) (And.intro @C.reset_New_r2_b.eq_1 (And.intro @C.reset_New_r1_b.eq_1 @C.reset_New_r0_b.eq_1)))

def C.catnaplaw8_pick_r3_b : List IOper := [
 X.m 10 0,
 X.m 11 1,
 X.o 12 (.bin .rem (X.s 10) (X.s 11)),
 X.m 4 12]
def C.catnaplaw8_pick_r3 : List IOper := C.catnaplaw8_pick_r3_b
def C.catnaplaw8_pick_r3_w := @aopsE _ _ C.catnaplaw8_pick_r3.eq_1
def C.catnaplaw8_pick_c1 : ICode := .keep [0, 1] (.seq (.region C.catnaplaw8_pick_r3) .ret)
def C.catnaplaw8_pick_c1_w := @awpE _ _ C.catnaplaw8_pick_c1.eq_1
def C.catnaplaw8_pick_r2_b : List IOper := [
 X.m 7 0,
 X.o 8 (.bin .add (X.s 7) (X.i 1)),
 X.o 9 (.un .neg (X.s 8)),
 X.m 0 9]
def C.catnaplaw8_pick_r2 : List IOper := C.catnaplaw8_pick_r2_b
def C.catnaplaw8_pick_r2_w := @aopsE _ _ C.catnaplaw8_pick_r2.eq_1
def C.catnaplaw8_pick_c2 : ICode := .keep [0, 1, 6] (.cond (X.s 6) (.region C.catnaplaw8_pick_r2) .skip)
def C.catnaplaw8_pick_c2_w := @awpE _ _ C.catnaplaw8_pick_c2.eq_1
def C.catnaplaw8_pick_r1_b : List IOper := [
 X.m 5 0,
 X.o 6 (.bin .lss (X.s 5) (X.i 0))]
def C.catnaplaw8_pick_r1 : List IOper := C.catnaplaw8_pick_r1_b
def C.catnaplaw8_pick_r1_w := @aopsE _ _ C.catnaplaw8_pick_r1.eq_1
def C.catnaplaw8_pick_c3 : ICode := .keep [0, 1] (.seq (.seq (.region C.catnaplaw8_pick_r1) C.catnaplaw8_pick_c2) C.catnaplaw8_pick_c1)
def C.catnaplaw8_pick_c3_w := @awpE _ _ C.catnaplaw8_pick_c3.eq_1
def C.catnaplaw8_pick_r0_b : List IOper := [
 X.o 4 (.move (X.i 0))]
def C.catnaplaw8_pick_r0 : List IOper := C.catnaplaw8_pick_r0_b
def C.catnaplaw8_pick_r0_w := @aopsE _ _ C.catnaplaw8_pick_r0.eq_1
def C.catnaplaw8_pick : IFunc := ⟨2, [.slot 4], .seq (.region C.catnaplaw8_pick_r0) C.catnaplaw8_pick_c3⟩
def C.catnaplaw8_pick_W := And.intro (And.intro @C.catnaplaw8_pick_r3_w (And.intro @C.catnaplaw8_pick_c1_w @C.catnaplaw8_pick_r2_w)) (And.intro (And.intro @C.catnaplaw8_pick_c2_w @C.catnaplaw8_pick_r1_w) (And.intro @C.catnaplaw8_pick_c3_w @C.catnaplaw8_pick_r0_w))
def C.catnaplaw8_pick_B := And.intro (And.intro @C.catnaplaw8_pick_r3_b.eq_1 @C.catnaplaw8_pick_r2_b.eq_1) (And.intro @C.catnaplaw8_pick_r1_b.eq_1 @C.catnaplaw8_pick_r0_b.eq_1)

def C.reset_Lines_Release_r8_b : List IOper := [
 X.o 4 (.move (X.i 0))]
def C.reset_Lines_Release_r8 : List IOper := C.reset_Lines_Release_r8_b
def C.reset_Lines_Release_r8_w := @aopsE _ _ C.reset_Lines_Release_r8.eq_1
def C.reset_Lines_Release_c1 : ICode := .keep [] (.seq (.region C.reset_Lines_Release_r8) .ret)
def C.reset_Lines_Release_c1_w := @awpE _ _ C.reset_Lines_Release_c1.eq_1
def C.reset_Lines_Release_r7_b : List IOper := [
 X.m 19 0,
 X.o 20 (.nilchk (X.s 19)),
 X.o 21 (.fldAddr 0 (X.s 20)),
 X.o 22 (.load1 (X.s 21)),
 X.m 23 1,
 X.o 24 (.loadN 4 (X.s 5)),
 X.n (.mapSet (X.s 22) (X.s 23) (X.s 24))]
def C.reset_Lines_Release_r7 : List IOper := C.reset_Lines_Release_r7_b
def C.reset_Lines_Release_r7_w := @aopsE _ _ C.reset_Lines_Release_r7.eq_1
def C.reset_Lines_Release_c2 : ICode := .keep [0, 1, 5] (.seq (.region C.reset_Lines_Release_r7) C.reset_Lines_Release_c1)
def C.reset_Lines_Release_c2_w := @awpE _ _ C.reset_Lines_Release_c2.eq_1
def C.reset_Lines_Release_r6_b : List IOper := [
 X.o 18 (.fldAddr 3 (X.s 5)),
 X.n (.store1 (X.s 18) (.cst (.bool true)))]
def C.reset_Lines_Release_r6 : List IOper := C.reset_Lines_Release_r6_b
def C.reset_Lines_Release_r6_w := @aopsE _ _ C.reset_Lines_Release_r6.eq_1
def C.reset_Lines_Release_c3 : ICode := .keep [0, 1, 5] (.seq (.region C.reset_Lines_Release_r6) C.reset_Lines_Release_c2)
def C.reset_Lines_Release_c3_w := @awpE _ _ C.reset_Lines_Release_c3.eq_1
def C.reset_Lines_Release_r5_b : List IOper := [
 X.o 4 (.move (X.i 6))]
def C.reset_Lines_Release_r5 : List IOper := C.reset_Lines_Release_r5_b
def C.reset_Lines_Release_r5_w := @aopsE _ _ C.reset_Lines_Release_r5.eq_1
def C.reset_Lines_Release_c4 : ICode := .seq (.region C.reset_Lines_Release_r5) .ret
def C.reset_Lines_Release_c4_w := @awpE _ _ C.reset_Lines_Release_c4.eq_1
def C.reset_Lines_Release_c5 : ICode := .keep [0, 1, 5, 17] (.cond (X.s 17) C.reset_Lines_Release_c4 .skip)
def C.reset_Lines_Release_c5_w := @awpE _ _ C.reset_Lines_Release_c5.eq_1
def C.reset_Lines_Release_r4_b : List IOper := [
 X.o 15 (.fldAddr 2 (X.s 5)),
 X.o 16 (.load1 (X.s 15)),
 X.o 17 (.un .not (X.s 16))]
def C.reset_Lines_Release_r4 : List IOper := C.reset_Lines_Release_r4_b
def C.reset_Lines_Release_r4_w := @aopsE _ _ C.reset_Lines_Release_r4.eq_1
def C.reset_Lines_Release_c6 : ICode := .keep [0, 1, 5] (.seq (.seq (.region C.reset_Lines_Release_r4) C.reset_Lines_Release_c5) C.reset_Lines_Release_c3)
def C.reset_Lines_Release_c6_w := @awpE _ _ C.reset_Lines_Release_c6.eq_1
def C.reset_Lines_Release_r3_b : List IOper := [
 X.o 4 (.move (X.i 4))]
def C.reset_Lines_Release_r3 : List IOper := C.reset_Lines_Release_r3_b
def C.reset_Lines_Release_r3_w := @aopsE _ _ C.reset_Lines_Release_r3.eq_1
def C.reset_Lines_Release_c7 : ICode := .seq (.region C.reset_Lines_Release_r3) .ret
def C.reset_Lines_Release_c7_w := @awpE _ _ C.reset_Lines_Release_c7.eq_1
def C.reset_Lines_Release_c8 : ICode := .keep [0, 1, 5, 14] (.cond (X.s 14) C.reset_Lines_Release_c7 .skip)
def C.reset_Lines_Release_c8_w := @awpE _ _ C.reset_Lines_Release_c8.eq_1
def C.reset_Lines_Release_r2_b : List IOper := [
 X.m 13 6,
 X.o 14 (.un .not (X.s 13))]
def C.reset_Lines_Release_r2 : List IOper := C.reset_Lines_Release_r2_b
def C.reset_Lines_Release_r2_w := @aopsE _ _ C.reset_Lines_Release_r2.eq_1
def C.reset_Lines_Release_c9 : ICode := .keep [0, 1, 5, 6] (.seq (.seq (.region C.reset_Lines_Release_r2) C.reset_Lines_Release_c8) C.reset_Lines_Release_c6)
def C.reset_Lines_Release_c9_w := @awpE _ _ C.reset_Lines_Release_c9.eq_1
def C.reset_Lines_Release_r1_b : List IOper := [
 X.m 8 0,
 X.m 9 1,
 X.o 10 (.call F.reset_Lines_find [X.s 8, X.s 9]),
 X.m 7 10,
 X.o 11 (.extract (X.s 7) 0),
 X.o 12 (.extract (X.s 7) 1),
 X.o 5 (.alloc [.int .i64 0, .int .i64 0, .bool false, .bool false]),
 X.n (.storeN 4 (X.s 5) (X.s 11)),
 X.m 6 12]
def C.reset_Lines_Release_r1 : List IOper := C.reset_Lines_Release_r1_b
def C.reset_Lines_Release_r1_w := @aopsE _ _ C.reset_Lines_Release_r1.eq_1
def C.reset_Lines_Release_c10 : ICode := .keep [0, 1] (.seq (.region C.reset_Lines_Release_r1) C.reset_Lines_Release_c9)
def C.reset_Lines_Release_c10_w := @awpE _ _ C.reset_Lines_Release_c10.eq_1
def C.reset_Lines_Release_r0_b : List IOper := [
 X.o 4 (.move (X.i 0))]
def C.reset_Lines_Release_r0 : List IOper := C.reset_Lines_Release_r0_b
def C.reset_Lines_Release_r0_w := @aopsE _ _ C.reset_Lines_Release_r0.eq_1
def C.reset_Lines_Release : IFunc := ⟨2, [.slot 4], .seq (.region C.reset_Lines_Release_r0) C.reset_Lines_Release_c10⟩
def C.reset_Lines_Release_W := And.intro (And.intro (And.intro (And.intro @C.reset_Lines_Release_r8_w @C.reset_Lines_Release_c1_w) (And.intro @C.reset_Lines_Release_r7_w @C.reset_Lines_Release_c2_w)) (And.intro (And.intro @C.reset_Lines_Release_r6_w @C.reset_Lines_Release_c3_w) (And.intro @C.reset_Lines_Release_r5_w (And.intro @C.reset_Lines_Release_c4_w @C.reset_Lines_Release_c5_w)))) (And.intro (And.intro (And.intro @C.reset_Lines_Release_r4_w @C.reset_Lines_Release_c6_w) (And.intro @C.reset_Lines_Release_r3_w (And.intro @C.reset_Lines_Release_c7_w @C.reset_Lines_Release_c8_w))) (And.intro (And.intro @C.reset_Lines_Release_r2_w @C.reset_Lines_Release_c9_w) (And.intro @C.reset_Lines_Release_r1_w (And.intro @C.reset_Lines_Release_c10_w @C.reset_Lines_Release_r0_w))))
def C.reset_Lines_Release_B := And.intro (And.intro (And.intro @C.reset_Lines_Release_r8_b.eq_1 @C.reset_Lines_Release_r7_b.eq_1) (And.intro @C.reset_Lines_Release_r6_b.eq_1 @C.reset_Lines_Release_r5_b.eq_1)) (And.intro (And.intro @C.reset_Lines_Release_r4_b.eq_1 @C.reset_Lines_Release_r3_b.eq_1) (And.intro @C.reset_Lines_Release_r2_b.eq_1 (And.intro @C.reset_Lines_Release_r1_b.eq_1 @C.reset_Lines_Release_r0_b.eq_1)))

def C.catnaplaw8_same_r8_b : List IOper := [
 X.o 4 (.move (.cst (.bool true)))]
def C.catnaplaw8_same_r8 : List IOper := C.catnaplaw8_same_r8_b
def C.catnaplaw8_same_r8_w := @aopsE _ _ C.catnaplaw8_same_r8.eq_1
def C.catnaplaw8_same_c1 : ICode := .keep [] (.seq (.region C.catnaplaw8_same_r8) .ret)
def C.catnaplaw8_same_c1_w := @awpE _ _ C.catnaplaw8_same_c1.eq_1
def C.catnaplaw8_same_r5_b : List IOper := [
 X.m 15 5,
 X.o 16 (.bin .add (X.s 15) (X.i 1)),
 X.m 5 16]
def C.catnaplaw8_same_r5 : List IOper := C.catnaplaw8_same_r5_b
def C.catnaplaw8_same_r5_w := @aopsE _ _ C.catnaplaw8_same_r5.eq_1
def C.catnaplaw8_same_c2 : ICode := .keep [0, 1, 5] (.region C.catnaplaw8_same_r5)
def C.catnaplaw8_same_c2_w := @awpE _ _ C.catnaplaw8_same_c2.eq_1
def C.catnaplaw8_same_r7_b : List IOper := [
 X.o 4 (.move (.cst (.bool false)))]
def C.catnaplaw8_same_r7 : List IOper := C.catnaplaw8_same_r7_b
def C.catnaplaw8_same_r7_w := @aopsE _ _ C.catnaplaw8_same_r7.eq_1
def C.catnaplaw8_same_c3 : ICode := .seq (.region C.catnaplaw8_same_r7) .ret
def C.catnaplaw8_same_c3_w := @awpE _ _ C.catnaplaw8_same_c3.eq_1
def C.catnaplaw8_same_c4 : ICode := .keep [0, 1, 5, 25] (.cond (X.s 25) C.catnaplaw8_same_c3 .skip)
def C.catnaplaw8_same_c4_w := @awpE _ _ C.catnaplaw8_same_c4.eq_1
def C.catnaplaw8_same_r6_b : List IOper := [
 X.m 17 0,
 X.m 18 5,
 X.o 19 (.idxAddr 1 (X.s 17) (X.s 18)),
 X.o 20 (.load1 (X.s 19)),
 X.m 21 1,
 X.m 22 5,
 X.o 23 (.idxAddr 1 (X.s 21) (X.s 22)),
 X.o 24 (.load1 (X.s 23)),
 X.o 25 (.bin .neq (X.s 20) (X.s 24))]
def C.catnaplaw8_same_r6 : List IOper := C.catnaplaw8_same_r6_b
def C.catnaplaw8_same_r6_w := @aopsE _ _ C.catnaplaw8_same_r6.eq_1
def C.catnaplaw8_same_b5 : ICode := .seq (.region C.catnaplaw8_same_r6) C.catnaplaw8_same_c4
def C.catnaplaw8_same_b5_w := @awpE _ _ C.catnaplaw8_same_b5.eq_1
def C.catnaplaw8_same_c6 : ICode := .keep [0, 1, 5] (.seq (.block 1 C.catnaplaw8_same_b5) C.catnaplaw8_same_c2)
def C.catnaplaw8_same_c6_w := @awpE _ _ C.catnaplaw8_same_c6.eq_1
def C.catnaplaw8_same_c7 : ICode := .keep [0, 1, 5, 14] (.cond (X.s 14) .skip (.exit 0))
def C.catnaplaw8_same_c7_w := @awpE _ _ C.catnaplaw8_same_c7.eq_1
def C.catnaplaw8_same_r4_b : List IOper := [
 X.m 11 5,
 X.m 12 0,
 X.o 13 (.len (X.s 12)),
 X.o 14 (.bin .lss (X.s 11) (X.s 13))]
def C.catnaplaw8_same_r4 : List IOper := C.catnaplaw8_same_r4_b
def C.catnaplaw8_same_r4_w := @aopsE _ _ C.catnaplaw8_same_r4.eq_1
def C.catnaplaw8_same_l8 : ICode := .keep [0, 1, 5] (.seq (.seq (.region C.catnaplaw8_same_r4) C.catnaplaw8_same_c7) C.catnaplaw8_same_c6)
def C.catnaplaw8_same_l8_w := @awpE _ _ C.catnaplaw8_same_l8.eq_1
def C.catnaplaw8_same_b9 : ICode := .loop C.catnaplaw8_same_l8
def C.catnaplaw8_same_b9_w := @awpE _ _ C.catnaplaw8_same_b9.eq_1
def C.catnaplaw8_same_c10 : ICode := .keep [0, 1, 5] (.block 0 C.catnaplaw8_same_b9)
def C.catnaplaw8_same_c10_w := @awpE _ _ C.catnaplaw8_same_c10.eq_1
def C.catnaplaw8_same_r3_b : List IOper := [
 X.o 5 (.move (X.i 0))]
def C.catnaplaw8_same_r3 : List IOper := C.catnaplaw8_same_r3_b
def C.catnaplaw8_same_r3_w := @aopsE _ _ C.catnaplaw8_same_r3.eq_1
def C.catnaplaw8_same_c11 : ICode := .keep [0, 1] (.seq (.seq (.region C.catnaplaw8_same_r3) C.catnaplaw8_same_c10) C.catnaplaw8_same_c1)
def C.catnaplaw8_same_c11_w := @awpE _ _ C.catnaplaw8_same_c11.eq_1
def C.catnaplaw8_same_r2_b : List IOper := [
 X.o 4 (.move (.cst (.bool false)))]
def C.catnaplaw8_same_r2 : List IOper := C.catnaplaw8_same_r2_b
def C.catnaplaw8_same_r2_w := @aopsE _ _ C.catnaplaw8_same_r2.eq_1
def C.catnaplaw8_same_c12 : ICode := .seq (.region C.catnaplaw8_same_r2) .ret
def C.catnaplaw8_same_c12_w := @awpE _ _ C.catnaplaw8_same_c12.eq_1
def C.catnaplaw8_same_c13 : ICode := .keep [0, 1, 10] (.cond (X.s 10) C.catnaplaw8_same_c12 .skip)
def C.catnaplaw8_same_c13_w := @awpE _ _ C.catnaplaw8_same_c13.eq_1
def C.catnaplaw8_same_r1_b : List IOper := [
 X.m 6 0,
 X.o 7 (.len (X.s 6)),
 X.m 8 1,
 X.o 9 (.len (X.s 8)),
 X.o 10 (.bin .neq (X.s 7) (X.s 9))]
def C.catnaplaw8_same_r1 : List IOper := C.catnaplaw8_same_r1_b
def C.catnaplaw8_same_r1_w := @aopsE _ _ C.catnaplaw8_same_r1.eq_1
def C.catnaplaw8_same_c14 : ICode := .keep [0, 1] (.seq (.seq (.region C.catnaplaw8_same_r1) C.catnaplaw8_same_c13) C.catnaplaw8_same_c11)
def C.catnaplaw8_same_c14_w := @awpE _ _ C.catnaplaw8_same_c14.eq_1
def C.catnaplaw8_same_r0_b : List IOper := [
 X.o 4 (.move (.cst (.bool false)))]
def C.catnaplaw8_same_r0 : List IOper := C.catnaplaw8_same_r0_b
def C.catnaplaw8_same_r0_w := @aopsE _ _ C.catnaplaw8_same_r0.eq_1
def C.catnaplaw8_same : IFunc := ⟨2, [.slot 4], .seq (.region C.catnaplaw8_same_r0) C.catnaplaw8_same_c14⟩
def C.catnaplaw8_same_W := And.intro (And.intro (And.intro (And.intro @C.catnaplaw8_same_r8_w @C.catnaplaw8_same_c1_w) (And.intro @C.catnaplaw8_same_r5_w (And.intro @C.catnaplaw8_same_c2_w @C.catnaplaw8_same_r7_w))) (And.intro (And.intro @C.catnaplaw8_same_c3_w (And.intro @C.catnaplaw8_same_c4_w @C.catnaplaw8_same_r6_w)) (And.intro @C.catnaplaw8_same_b5_w (And.intro @C.catnaplaw8_same_c6_w @C.catnaplaw8_same_c7_w)))) (And.intro (And.intro (And.intro @C.catnaplaw8_same_r4_w @C.catnaplaw8_same_b9_w) (And.intro @C.catnaplaw8_same_c10_w (And.intro @C.catnaplaw8_same_r3_w @C.catnaplaw8_same_c11_w))) (And.intro (And.intro @C.catnaplaw8_same_r2_w (And.intro @C.catnaplaw8_same_c12_w @C.catnaplaw8_same_c13_w)) (And.intro @C.catnaplaw8_same_r1_w (And.intro @C.catnaplaw8_same_c14_w @C.catnaplaw8_same_r0_w))))
def C.catnaplaw8_same_B := And.intro (And.intro (And.intro @C.catnaplaw8_same_r8_b.eq_1 @C.catnaplaw8_same_r5_b.eq_1) (And.intro @C.catnaplaw8_same_r7_b.eq_1 @C.catnaplaw8_same_r6_b.eq_1)) (And.intro (And.intro @C.catnaplaw8_same_r4_b.eq_1 @C.catnaplaw8_same_r3_b.eq_1) (And.intro @C.catnaplaw8_same_r2_b.eq_1 (And.intro @C.catnaplaw8_same_r1_b.eq_1 @C.catnaplaw8_same_r0_b.eq_1)))

def C.reset_Lines_Tick_r16_b : List IOper := [
 X.m 55 3,
 X.m 2 55]
def C.reset_Lines_Tick_r16 : List IOper := C.reset_Lines_Tick_r16_b
def C.reset_Lines_Tick_r16_w := @aopsE _ _ C.reset_Lines_Tick_r16.eq_1
def C.reset_Lines_Tick_c1 : ICode := .keep [3] (.seq (.region C.reset_Lines_Tick_r16) .ret)
def C.reset_Lines_Tick_c1_w := @awpE _ _ C.reset_Lines_Tick_c1.eq_1
def C.reset_Lines_Tick_r15_b : List IOper := [
 X.o 54 (.bin .add (X.s 14) (X.i 1)),
 X.m 14 54]
def C.reset_Lines_Tick_r15 : List IOper := C.reset_Lines_Tick_r15_b
def C.reset_Lines_Tick_r15_w := @aopsE _ _ C.reset_Lines_Tick_r15.eq_1
def C.reset_Lines_Tick_c2 : ICode := .keep [0, 3, 13, 14] (.region C.reset_Lines_Tick_r15)
def C.reset_Lines_Tick_c2_w := @awpE _ _ C.reset_Lines_Tick_c2.eq_1
def C.reset_Lines_Tick_r14_b : List IOper := [
 X.m 48 0,
 X.o 49 (.nilchk (X.s 48)),
 X.o 50 (.fldAddr 0 (X.s 49)),
 X.o 51 (.load1 (X.s 50)),
 X.m 52 4,
 X.o 53 (.loadN 4 (X.s 5)),
 X.n (.mapSet (X.s 51) (X.s 52) (X.s 53))]
def C.reset_Lines_Tick_r14 : List IOper := C.reset_Lines_Tick_r14_b
def C.reset_Lines_Tick_r14_w := @aopsE _ _ C.reset_Lines_Tick_r14.eq_1
def C.reset_Lines_Tick_c3 : ICode := .keep [0, 3, 4, 5, 13, 14] (.region C.reset_Lines_Tick_r14)
def C.reset_Lines_Tick_c3_w := @awpE _ _ C.reset_Lines_Tick_c3.eq_1
def C.reset_Lines_Tick_r10_b : List IOper := [
 X.o 36 (.fldAddr 1 (X.s 5)),
 X.o 37 (.load1 (X.s 36)),
 X.o 38 (.bin .sub (X.s 37) (X.i 1)),
 X.o 39 (.fldAddr 1 (X.s 5)),
 X.n (.store1 (X.s 39) (X.s 38))]
def C.reset_Lines_Tick_r10 : List IOper := C.reset_Lines_Tick_r10_b
def C.reset_Lines_Tick_r10_w := @aopsE _ _ C.reset_Lines_Tick_r10.eq_1
def C.reset_Lines_Tick_r13_b : List IOper := [
 X.m 44 3,
 X.m 45 4,
 X.o 46 (.buildSlice 1 1 [.int .i64 0] [(0, 1, X.s 45)]),
 X.o 47 (.append 1 8 (X.s 44) (X.s 46)),
 X.m 3 47]
def C.reset_Lines_Tick_r13 : List IOper := C.reset_Lines_Tick_r13_b
def C.reset_Lines_Tick_r13_w := @aopsE _ _ C.reset_Lines_Tick_r13.eq_1
def C.reset_Lines_Tick_c4 : ICode := .keep [0, 3, 4, 5, 13, 14] (.region C.reset_Lines_Tick_r13)
def C.reset_Lines_Tick_c4_w := @awpE _ _ C.reset_Lines_Tick_c4.eq_1
def C.reset_Lines_Tick_r12_b : List IOper := [
 X.o 42 (.fldAddr 2 (X.s 5)),
 X.n (.store1 (X.s 42) (.cst (.bool false))),
 X.o 43 (.fldAddr 3 (X.s 5)),
 X.n (.store1 (X.s 43) (.cst (.bool false)))]
def C.reset_Lines_Tick_r12 : List IOper := C.reset_Lines_Tick_r12_b
def C.reset_Lines_Tick_r12_w := @aopsE _ _ C.reset_Lines_Tick_r12.eq_1
def C.reset_Lines_Tick_c5 : ICode := .seq (.region C.reset_Lines_Tick_r12) C.reset_Lines_Tick_c4
def C.reset_Lines_Tick_c5_w := @awpE _ _ C.reset_Lines_Tick_c5.eq_1
def C.reset_Lines_Tick_c6 : ICode := .keep [0, 3, 4, 5, 13, 14, 41] (.cond (X.s 41) C.reset_Lines_Tick_c5 .skip)
def C.reset_Lines_Tick_c6_w := @awpE _ _ C.reset_Lines_Tick_c6.eq_1
def C.reset_Lines_Tick_r11_b : List IOper := [
 X.o 40 (.fldAddr 3 (X.s 5)),
 X.o 41 (.load1 (X.s 40))]
def C.reset_Lines_Tick_r11 : List IOper := C.reset_Lines_Tick_r11_b
def C.reset_Lines_Tick_r11_w := @aopsE _ _ C.reset_Lines_Tick_r11.eq_1
def C.reset_Lines_Tick_c7 : ICode := .seq (.region C.reset_Lines_Tick_r11) C.reset_Lines_Tick_c6
def C.reset_Lines_Tick_c7_w := @awpE _ _ C.reset_Lines_Tick_c7.eq_1
def C.reset_Lines_Tick_c8 : ICode := .keep [0, 3, 4, 5, 13, 14, 35] (.cond (X.s 35) (.region C.reset_Lines_Tick_r10) C.reset_Lines_Tick_c7)
def C.reset_Lines_Tick_c8_w := @awpE _ _ C.reset_Lines_Tick_c8.eq_1
def C.reset_Lines_Tick_r9_b : List IOper := [
 X.o 33 (.fldAddr 1 (X.s 5)),
 X.o 34 (.load1 (X.s 33)),
 X.o 35 (.bin .gtr (X.s 34) (X.i 0))]
def C.reset_Lines_Tick_r9 : List IOper := C.reset_Lines_Tick_r9_b
def C.reset_Lines_Tick_r9_w := @aopsE _ _ C.reset_Lines_Tick_r9.eq_1
def C.reset_Lines_Tick_c9 : ICode := .keep [0, 3, 4, 5, 13, 14] (.seq (.seq (.region C.reset_Lines_Tick_r9) C.reset_Lines_Tick_c8) C.reset_Lines_Tick_c3)
def C.reset_Lines_Tick_c9_w := @awpE _ _ C.reset_Lines_Tick_c9.eq_1
def C.reset_Lines_Tick_c10 : ICode := .keep [0, 3, 4, 5, 13, 14, 32] (.cond (X.s 32) (.exit 1) .skip)
def C.reset_Lines_Tick_c10_w := @awpE _ _ C.reset_Lines_Tick_c10.eq_1
def C.reset_Lines_Tick_r8_b : List IOper := [
 X.m 26 6,
 X.o 27 (.un .not (X.s 26)),
 X.m 28 27,
 X.f 28 29 (.fldAddr 2 (X.s 5)),
 X.f 28 30 (.load1 (X.s 29)),
 X.f 28 31 (.un .not (X.s 30)),
 X.o 32 (.pick (X.s 28) (.cst (.bool true)) (X.s 31))]
def C.reset_Lines_Tick_r8 : List IOper := C.reset_Lines_Tick_r8_b
def C.reset_Lines_Tick_r8_w := @aopsE _ _ C.reset_Lines_Tick_r8.eq_1
def C.reset_Lines_Tick_c11 : ICode := .keep [0, 3, 4, 5, 6, 13, 14] (.seq (.seq (.region C.reset_Lines_Tick_r8) C.reset_Lines_Tick_c10) C.reset_Lines_Tick_c9)
def C.reset_Lines_Tick_c11_w := @awpE _ _ C.reset_Lines_Tick_c11.eq_1
def C.reset_Lines_Tick_r7_b : List IOper := [
 X.m 18 0,
 X.o 19 (.nilchk (X.s 18)),
 X.o 20 (.fldAddr 0 (X.s 19)),
 X.o 21 (.load1 (X.s 20)),
 X.m 22 4,
 X.o 23 (.lookup (.agg [.int .i64 0, .int .i64 0, .bool false, .bool false]) true (X.s 21) (X.s 22)),
 X.m 17 23,
 X.o 24 (.extract (X.s 17) 0),
 X.o 25 (.extract (X.s 17) 1),
 X.o 5 (.alloc [.int .i64 0, .int .i64 0, .bool false, .bool false]),
 X.n (.storeN 4 (X.s 5) (X.s 24)),
 X.m 6 25]
def C.reset_Lines_Tick_r7 : List IOper := C.reset_Lines_Tick_r7_b
def C.reset_Lines_Tick_r7_w := @aopsE _ _ C.reset_Lines_Tick_r7.eq_1
def C.reset_Lines_Tick_c12 : ICode := .keep [0, 3, 4, 13, 14] (.seq (.region C.reset_Lines_Tick_r7) C.reset_Lines_Tick_c11)
def C.reset_Lines_Tick_c12_w := @awpE _ _ C.reset_Lines_Tick_c12.eq_1
def C.reset_Lines_Tick_r6_b : List IOper := [
 X.m 16 14,
 X.m 4 16]
def C.reset_Lines_Tick_r6 : List IOper := C.reset_Lines_Tick_r6_b
def C.reset_Lines_Tick_r6_w := @aopsE _ _ C.reset_Lines_Tick_r6.eq_1
def C.reset_Lines_Tick_b13 : ICode := .seq (.region C.reset_Lines_Tick_r6) C.reset_Lines_Tick_c12
def C.reset_Lines_Tick_b13_w := @awpE _ _ C.reset_Lines_Tick_b13.eq_1
def C.reset_Lines_Tick_c14 : ICode := .keep [0, 3, 13, 14] (.seq (.block 1 C.reset_Lines_Tick_b13) C.reset_Lines_Tick_c2)
def C.reset_Lines_Tick_c14_w := @awpE _ _ C.reset_Lines_Tick_c14.eq_1
def C.reset_Lines_Tick_c15 : ICode := .keep [0, 3, 13, 14, 15] (.seq (.cond (X.s 15) .skip (.exit 0)) C.reset_Lines_Tick_c14)
def C.reset_Lines_Tick_c15_w := @awpE _ _ C.reset_Lines_Tick_c15.eq_1
def C.reset_Lines_Tick_r5_b : List IOper := [
 X.o 15 (.bin .lss (X.s 14) (X.s 13))]
def C.reset_Lines_Tick_r5 : List IOper := C.reset_Lines_Tick_r5_b
def C.reset_Lines_Tick_r5_w := @aopsE _ _ C.reset_Lines_Tick_r5.eq_1
def C.reset_Lines_Tick_l16 : ICode := .keep [0, 3, 13, 14] (.seq (.region C.reset_Lines_Tick_r5) C.reset_Lines_Tick_c15)
def C.reset_Lines_Tick_l16_w := @awpE _ _ C.reset_Lines_Tick_l16.eq_1
def C.reset_Lines_Tick_b17 : ICode := .loop C.reset_Lines_Tick_l16
def C.reset_Lines_Tick_b17_w := @awpE _ _ C.reset_Lines_Tick_b17.eq_1
def C.reset_Lines_Tick_c18 : ICode := .keep [0, 3, 13, 14] (.block 0 C.reset_Lines_Tick_b17)
def C.reset_Lines_Tick_c18_w := @awpE _ _ C.reset_Lines_Tick_c18.eq_1
def C.reset_Lines_Tick_r4_b : List IOper := [
 X.m 9 0,
 X.o 10 (.nilchk (X.s 9)),
 X.o 11 (.fldAddr 0 (X.s 10)),
 X.o 12 (.load1 (X.s 11)),
 X.o 13 (.mlen (X.s 12)),
 X.o 14 (.move (X.i 0))]
def C.reset_Lines_Tick_r4 : List IOper := C.reset_Lines_Tick_r4_b
def C.reset_Lines_Tick_r4_w := @aopsE _ _ C.reset_Lines_Tick_r4.eq_1
def C.reset_Lines_Tick_c19 : ICode := .keep [0, 3] (.seq (.seq (.region C.reset_Lines_Tick_r4) C.reset_Lines_Tick_c18) C.reset_Lines_Tick_c1)
def C.reset_Lines_Tick_c19_w := @awpE _ _ C.reset_Lines_Tick_c19.eq_1
def C.reset_Lines_Tick_r3_b : List IOper := [
 X.o 3 (.move (.cst (.nils)))]
def C.reset_Lines_Tick_r3 : List IOper := C.reset_Lines_Tick_r3_b
def C.reset_Lines_Tick_r3_w := @aopsE _ _ C.reset_Lines_Tick_r3.eq_1
def C.reset_Lines_Tick_c20 : ICode := .keep [0] (.seq (.region C.reset_Lines_Tick_r3) C.reset_Lines_Tick_c19)
def C.reset_Lines_Tick_c20_w := @awpE _ _ C.reset_Lines_Tick_c20.eq_1
def C.reset_Lines_Tick_r2_b : List IOper := [
 X.o 2 (.move (.cst (.nils)))]
def C.reset_Lines_Tick_r2 : List IOper := C.reset_Lines_Tick_r2_b
def C.reset_Lines_Tick_r2_w := @aopsE _ _ C.reset_Lines_Tick_r2.eq_1
def C.reset_Lines_Tick_c21 : ICode := .seq (.region C.reset_Lines_Tick_r2) .ret
def C.reset_Lines_Tick_c21_w := @awpE _ _ C.reset_Lines_Tick_c21.eq_1
def C.reset_Lines_Tick_c22 : ICode := .keep [0, 8] (.cond (X.s 8) C.reset_Lines_Tick_c21 .skip)
def C.reset_Lines_Tick_c22_w := @awpE _ _ C.reset_Lines_Tick_c22.eq_1
def C.reset_Lines_Tick_r1_b : List IOper := [
 X.m 7 0,
 X.o 8 (.eqP 0 false (X.s 7) (.cst (.nilp)))]
def C.reset_Lines_Tick_r1 : List IOper := C.reset_Lines_Tick_r1_b
def C.reset_Lines_Tick_r1_w := @aopsE _ _ C.reset_Lines_Tick_r1.eq_1
def C.reset_Lines_Tick_c23 : ICode := .keep [0] (.seq (.seq (.region C.reset_Lines_Tick_r1) C.reset_Lines_Tick_c22) C.reset_Lines_Tick_c20)
def C.reset_Lines_Tick_c23_w := @awpE _ _ C.reset_Lines_Tick_c23.eq_1
def C.reset_Lines_Tick_r0_b : List IOper := [
 X.o 2 (.move (.cst (.nils)))]
def C.reset_Lines_Tick_r0 : List IOper := C.reset_Lines_Tick_r0_b
def C.reset_Lines_Tick_r0_w := @aopsE _ _ C.reset_Lines_Tick_r0.eq_1
def C.reset_Lines_Tick : IFunc := ⟨1, [.slot 2], .seq (.region C.reset_Lines_Tick_r0) C.reset_Lines_Tick_c23⟩
def C.reset_Lines_Tick_W := And.intro (And.intro (And.intro (And.intro (And.intro @C.reset_Lines_Tick_r16_w @C.reset_Lines_Tick_c1_w) (And.intro @C.reset_Lines_Tick_r15_w @C.reset_Lines_Tick_c2_w)) (And.intro (And.intro @C.reset_Lines_Tick_r14_w @C.reset_Lines_Tick_c3_w) (And.intro @C.reset_Lines_Tick_r10_w (And.intro @C.reset_Lines_Tick_r13_w @C.reset_Lines_Tick_c4_w)))) (And.intro (And.intro (And.intro @C.reset_Lines_Tick_r12_w @C.reset_Lines_Tick_c5_w) (And.intro @C.reset_Lines_Tick_c6_w (And.intro @C.reset_Lines_Tick_r11_w @C.reset_Lines_Tick_c7_w))) (And.intro (And.intro @C.reset_Lines_Tick_c8_w @C.reset_Lines_Tick_r9_w) (And.intro @C.reset_Lines_Tick_c9_w (And.intro @C.reset_Lines_Tick_c10_w @C.reset_Lines_Tick_r8_w))))) (And.intro (And.intro (And.intro (And.intro @C.reset_Lines_Tick_c11_w @C.reset_Lines_Tick_r7_w) (And.intro @C.reset_Lines_Tick_c12_w (And.intro @C.reset_Lines_Tick_r6_w @C.reset_Lines_Tick_b13_w))) (And.intro (And.intro @C.reset_Lines_Tick_c14_w @C.reset_Lines_Tick_c15_w) (And.intro @C.reset_Lines_Tick_r5_w (And.intro @C.reset_Lines_Tick_b17_w @C.reset_Lines_Tick_c18_w)))) (And.intro (And.intro (And.intro @C.reset_Lines_Tick_r4_w @C.reset_Lines_Tick_c19_w) (And.intro @C.reset_Lines_Tick_r3_w (And.intro @C.reset_Lines_Tick_c20_w @C.reset_Lines_Tick_r2_w))) (And.intro (And.intro @C.reset_Lines_Tick_c21_w @C.reset_Lines_Tick_c22_w) (And.intro @C.reset_Lines_Tick_r1_w (And.intro @C.reset_Lines_Tick_c23_w @C.reset_Lines_Tick_r0_w)))))
def C.reset_Lines_Tick_B := And.intro (And.intro (And.intro (And.intro @C.reset_Lines_Tick_r16_b.eq_1 @C.reset_Lines_Tick_r15_b.eq_1) (And.intro @C.reset_Lines_Tick_r14_b.eq_1 @C.reset_Lines_Tick_r10_b.eq_1)) (And.intro (And.intro @C.reset_Lines_Tick_r13_b.eq_1 @C.reset_Lines_Tick_r12_b.eq_1) (And.intro @C.reset_Lines_Tick_r11_b.eq_1 @C.reset_Lines_Tick_r9_b.eq_1))) (And.intro (And.intro (And.intro @C.reset_Lines_Tick_r8_b.eq_1 @C.reset_Lines_Tick_r7_b.eq_1) (And.intro @C.reset_Lines_Tick_r6_b.eq_1 @C.reset_Lines_Tick_r5_b.eq_1)) (And.intro (And.intro @C.reset_Lines_Tick_r4_b.eq_1 @C.reset_Lines_Tick_r3_b.eq_1) (And.intro @C.reset_Lines_Tick_r2_b.eq_1 (And.intro @C.reset_Lines_Tick_r1_b.eq_1 @C.reset_Lines_Tick_r0_b.eq_1))))

def C.reset_Lines_Assert_r6_b : List IOper := [
 X.o 4 (.move (X.i 0))]
def C.reset_Lines_Assert_r6 : List IOper := C.reset_Lines_Assert_r6_b
def C.reset_Lines_Assert_r6_w := @aopsE _ _ C.reset_Lines_Assert_r6.eq_1
def C.reset_Lines_Assert_c1 : ICode := .keep [] (.seq (.region C.reset_Lines_Assert_r6) .ret)
def C.reset_Lines_Assert_c1_w := @awpE _ _ C.reset_Lines_Assert_c1.eq_1
def C.reset_Lines_Assert_r5_b : List IOper := [
 X.m 20 0,
 X.o 21 (.nilchk (X.s 20)),
 X.o 22 (.fldAddr 0 (X.s 21)),
 X.o 23 (.load1 (X.s 22)),
 X.m 24 1,
 X.o 25 (.loadN 4 (X.s 5)),
 X.n (.mapSet (X.s 23) (X.s 24) (X.s 25))]
def C.reset_Lines_Assert_r5 : List IOper := C.reset_Lines_Assert_r5_b
def C.reset_Lines_Assert_r5_w := @aopsE _ _ C.reset_Lines_Assert_r5.eq_1
def C.reset_Lines_Assert_c2 : ICode := .keep [0, 1, 5] (.seq (.region C.reset_Lines_Assert_r5) C.reset_Lines_Assert_c1)
def C.reset_Lines_Assert_c2_w := @awpE _ _ C.reset_Lines_Assert_c2.eq_1
def C.reset_Lines_Assert_r4_b : List IOper := [
 X.o 15 (.fldAddr 0 (X.s 5)),
 X.o 16 (.load1 (X.s 15)),
 X.o 17 (.fldAddr 2 (X.s 5)),
 X.n (.store1 (X.s 17) (.cst (.bool true))),
 X.o 18 (.fldAddr 1 (X.s 5)),
 X.n (.store1 (X.s 18) (X.s 16)),
 X.o 19 (.fldAddr 3 (X.s 5)),
 X.n (.store1 (X.s 19) (.cst (.bool false)))]
def C.reset_Lines_Assert_r4 : List IOper := C.reset_Lines_Assert_r4_b
def C.reset_Lines_Assert_r4_w := @aopsE _ _ C.reset_Lines_Assert_r4.eq_1
def C.reset_Lines_Assert_c3 : ICode := .keep [0, 1, 5] (.seq (.region C.reset_Lines_Assert_r4) C.reset_Lines_Assert_c2)
def C.reset_Lines_Assert_c3_w := @awpE _ _ C.reset_Lines_Assert_c3.eq_1
def C.reset_Lines_Assert_r3_b : List IOper := [
 X.o 4 (.move (X.i 4))]
def C.reset_Lines_Assert_r3 : List IOper := C.reset_Lines_Assert_r3_b
def C.reset_Lines_Assert_r3_w := @aopsE _ _ C.reset_Lines_Assert_r3.eq_1
def C.reset_Lines_Assert_c4 : ICode := .seq (.region C.reset_Lines_Assert_r3) .ret
def C.reset_Lines_Assert_c4_w := @awpE _ _ C.reset_Lines_Assert_c4.eq_1
def C.reset_Lines_Assert_c5 : ICode := .keep [0, 1, 5, 14] (.cond (X.s 14) C.reset_Lines_Assert_c4 .skip)
def C.reset_Lines_Assert_c5_w := @awpE _ _ C.reset_Lines_Assert_c5.eq_1
def C.reset_Lines_Assert_r2_b : List IOper := [
 X.m 13 6,
 X.o 14 (.un .not (X.s 13))]
def C.reset_Lines_Assert_r2 : List IOper := C.reset_Lines_Assert_r2_b
def C.reset_Lines_Assert_r2_w := @aopsE _ _ C.reset_Lines_Assert_r2.eq_1
def C.reset_Lines_Assert_c6 : ICode := .keep [0, 1, 5, 6] (.seq (.seq (.region C.reset_Lines_Assert_r2) C.reset_Lines_Assert_c5) C.reset_Lines_Assert_c3)
def C.reset_Lines_Assert_c6_w := @awpE _ _ C.reset_Lines_Assert_c6.eq_1
def C.reset_Lines_Assert_r1_b : List IOper := [
 X.m 8 0,
 X.m 9 1,
 X.o 10 (.call F.reset_Lines_find [X.s 8, X.s 9]),
 X.m 7 10,
 X.o 11 (.extract (X.s 7) 0),
 X.o 12 (.extract (X.s 7) 1),
 X.o 5 (.alloc [.int .i64 0, .int .i64 0, .bool false, .bool false]),
 X.n (.storeN 4 (X.s 5) (X.s 11)),
 X.m 6 12]
def C.reset_Lines_Assert_r1 : List IOper := C.reset_Lines_Assert_r1_b
def C.reset_Lines_Assert_r1_w := @aopsE _ _ C.reset_Lines_Assert_r1.eq_1
def C.reset_Lines_Assert_c7 : ICode := .keep [0, 1] (.seq (.region C.reset_Lines_Assert_r1) C.reset_Lines_Assert_c6)
def C.reset_Lines_Assert_c7_w := @awpE _ _ C.reset_Lines_Assert_c7.eq_1
def C.reset_Lines_Assert_r0_b : List IOper := [
 X.o 4 (.move (X.i 0))]
def C.reset_Lines_Assert_r0 : List IOper := C.reset_Lines_Assert_r0_b
def C.reset_Lines_Assert_r0_w := @aopsE _ _ C.reset_Lines_Assert_r0.eq_1
def C.reset_Lines_Assert : IFunc := ⟨2, [.slot 4], .seq (.region C.reset_Lines_Assert_r0) C.reset_Lines_Assert_c7⟩
def C.reset_Lines_Assert_W := And.intro (And.intro (And.intro @C.reset_Lines_Assert_r6_w (And.intro @C.reset_Lines_Assert_c1_w @C.reset_Lines_Assert_r5_w)) (And.intro (And.intro @C.reset_Lines_Assert_c2_w @C.reset_Lines_Assert_r4_w) (And.intro @C.reset_Lines_Assert_c3_w @C.reset_Lines_Assert_r3_w))) (And.intro (And.intro @C.reset_Lines_Assert_c4_w (And.intro @C.reset_Lines_Assert_c5_w @C.reset_Lines_Assert_r2_w)) (And.intro (And.intro @C.reset_Lines_Assert_c6_w @C.reset_Lines_Assert_r1_w) (And.intro @C.reset_Lines_Assert_c7_w @C.reset_Lines_Assert_r0_w)))
def C.reset_Lines_Assert_B := And.intro (And.intro @C.reset_Lines_Assert_r6_b.eq_1 (And.intro @C.reset_Lines_Assert_r5_b.eq_1 @C.reset_Lines_Assert_r4_b.eq_1)) (And.intro (And.intro @C.reset_Lines_Assert_r3_b.eq_1 @C.reset_Lines_Assert_r2_b.eq_1) (And.intro @C.reset_Lines_Assert_r1_b.eq_1 @C.reset_Lines_Assert_r0_b.eq_1))

def C.reset_Lines_Held_r2_b : List IOper := [
 X.m 13 6,
 X.o 14 (.un .not (X.s 13)),
 X.m 15 14,
 X.f 15 16 (.fldAddr 2 (X.s 5)),
 X.f 15 17 (.load1 (X.s 16)),
 X.o 18 (.pick (X.s 15) (.cst (.bool true)) (X.s 17)),
 X.m 4 18]
def C.reset_Lines_Held_r2 : List IOper := C.reset_Lines_Held_r2_b
def C.reset_Lines_Held_r2_w := @aopsE _ _ C.reset_Lines_Held_r2.eq_1
def C.reset_Lines_Held_c1 : ICode := .keep [5, 6] (.seq (.region C.reset_Lines_Held_r2) .ret)
def C.reset_Lines_Held_c1_w := @awpE _ _ C.reset_Lines_Held_c1.eq_1
def C.reset_Lines_Held_r1_b : List IOper := [
 X.m 8 0,
 X.m 9 1,
 X.o 10 (.call F.reset_Lines_find [X.s 8, X.s 9]),
 X.m 7 10,
 X.o 11 (.extract (X.s 7) 0),
 X.o 12 (.extract (X.s 7) 1),
 X.o 5 (.alloc [.int .i64 0, .int .i64 0, .bool false, .bool false]),
 X.n (.storeN 4 (X.s 5) (X.s 11)),
 X.m 6 12]
def C.reset_Lines_Held_r1 : List IOper := C.reset_Lines_Held_r1_b
def C.reset_Lines_Held_r1_w := @aopsE _ _ C.reset_Lines_Held_r1.eq_1
def C.reset_Lines_Held_c2 : ICode := .keep [0, 1] (.seq (.region C.reset_Lines_Held_r1) C.reset_Lines_Held_c1)
def C.reset_Lines_Held_c2_w := @awpE _ _ C.reset_Lines_Held_c2.eq_1
def C.reset_Lines_Held_r0_b : List IOper := [
 X.o 4 (.move (.cst (.bool false)))]
def C.reset_Lines_Held_r0 : List IOper := C.reset_Lines_Held_r0_b
def C.reset_Lines_Held_r0_w := @aopsE _ _ C.reset_Lines_Held_r0.eq_1
def C.reset_Lines_Held : IFunc := ⟨2, [.slot 4], .seq (.region C.reset_Lines_Held_r0) C.reset_Lines_Held_c2⟩
def C.reset_Lines_Held_W := And.intro (And.intro @C.reset_Lines_Held_r2_w @C.reset_Lines_Held_c1_w) (And.intro @C.reset_Lines_Held_r1_w (And.intro @C.reset_Lines_Held_c2_w @C.reset_Lines_Held_r0_w))
def C.reset_Lines_Held_B := And.intro @C.reset_Lines_Held_r2_b.eq_1 (And.intro @C.reset_Lines_Held_r1_b.eq_1 @C.reset_Lines_Held_r0_b.eq_1)

def C.catnapref8_New_r10_b : List IOper := [
 X.m 46 5,
 X.m 2 46,
 X.o 3 (.move (X.i 0))]
def C.catnapref8_New_r10 : List IOper := C.catnapref8_New_r10_b
def C.catnapref8_New_r10_w := @aopsE _ _ C.catnapref8_New_r10.eq_1
def C.catnapref8_New_c1 : ICode := .keep [5] (.seq (.region C.catnapref8_New_r10) .ret)
def C.catnapref8_New_c1_w := @awpE _ _ C.catnapref8_New_c1.eq_1
def C.catnapref8_New_r7_b : List IOper := [
 X.m 19 6,
 X.o 20 (.bin .add (X.s 19) (X.i 1)),
 X.m 6 20]
def C.catnapref8_New_r7 : List IOper := C.catnapref8_New_r7_b
def C.catnapref8_New_r7_w := @aopsE _ _ C.catnapref8_New_r7.eq_1
def C.catnapref8_New_c2 : ICode := .keep [1, 5, 6] (.region C.catnapref8_New_r7)
def C.catnapref8_New_c2_w := @awpE _ _ C.catnapref8_New_c2.eq_1
def C.catnapref8_New_r9_b : List IOper := [
 X.m 36 5,
 X.m 37 5,
 X.o 38 (.nilchk (X.s 37)),
 X.o 39 (.fldAddr 1 (X.s 38)),
 X.o 40 (.load1 (X.s 39)),
 X.o 41 (.build [.bool false, .bool false, .int .i64 0] [(0, 1, .cst (.bool true))]),
 X.o 42 (.buildSlice 3 1 [.bool false, .bool false, .int .i64 0] [(0, 3, X.s 41)]),
 X.o 43 (.append 3 16 (X.s 40) (X.s 42)),
 X.o 44 (.nilchk (X.s 36)),
 X.o 45 (.fldAddr 1 (X.s 44)),
 X.n (.store1 (X.s 45) (X.s 43))]
def C.catnapref8_New_r9 : List IOper := C.catnapref8_New_r9_b
def C.catnapref8_New_r9_w := @aopsE _ _ C.catnapref8_New_r9.eq_1
def C.catnapref8_New_c3 : ICode := .keep [1, 5, 6] (.region C.catnapref8_New_r9)
def C.catnapref8_New_c3_w := @awpE _ _ C.catnapref8_New_c3.eq_1
def C.catnapref8_New_r8_b : List IOper := [
 X.m 21 5,
 X.m 22 5,
 X.o 23 (.nilchk (X.s 22)),
 X.o 24 (.fldAddr 0 (X.s 23)),
 X.o 25 (.load1 (X.s 24)),
 X.o 26 (.fldAddr 2 (X.s 1)),
 X.o 27 (.load1 (X.s 26)),
 X.m 28 6,
 X.o 29 (.idxAddr 1 (X.s 27) (X.s 28)),
 X.o 30 (.fldAddr 0 (X.s 29)),
 X.o 31 (.load1 (X.s 30)),
 X.o 32 (.buildSlice 1 1 [.int .i64 0] [(0, 1, X.s 31)]),
 X.o 33 (.append 1 8 (X.s 25) (X.s 32)),
 X.o 34 (.nilchk (X.s 21)),
 X.o 35 (.fldAddr 0 (X.s 34)),
 X.n (.store1 (X.s 35) (X.s 33))]
def C.catnapref8_New_r8 : List IOper := C.catnapref8_New_r8_b
def C.catnapref8_New_r8_w := @aopsE _ _ C.catnapref8_New_r8.eq_1
def C.catnapref8_New_b4 : ICode := .seq (.region C.catnapref8_New_r8) C.catnapref8_New_c3
def C.catnapref8_New_b4_w := @awpE _ _ C.catnapref8_New_b4.eq_1
def C.catnapref8_New_c5 : ICode := .keep [1, 5, 6] (.seq (.block 1 C.catnapref8_New_b4) C.catnapref8_New_c2)
def C.catnapref8_New_c5_w := @awpE _ _ C.catnapref8_New_c5.eq_1
def C.catnapref8_New_c6 : ICode := .keep [1, 5, 6, 18] (.cond (X.s 18) .skip (.exit 0))
def C.catnapref8_New_c6_w := @awpE _ _ C.catnapref8_New_c6.eq_1
def C.catnapref8_New_r6_b : List IOper := [
 X.m 14 6,
 X.o 15 (.fldAddr 2 (X.s 1)),
 X.o 16 (.load1 (X.s 15)),
 X.o 17 (.len (X.s 16)),
 X.o 18 (.bin .lss (X.s 14) (X.s 17))]
def C.catnapref8_New_r6 : List IOper := C.catnapref8_New_r6_b
def C.catnapref8_New_r6_w := @aopsE _ _ C.catnapref8_New_r6.eq_1
def C.catnapref8_New_l7 : ICode := .keep [1, 5, 6] (.seq (.seq (.region C.catnapref8_New_r6) C.catnapref8_New_c6) C.catnapref8_New_c5)
def C.catnapref8_New_l7_w := @awpE _ _ C.catnapref8_New_l7.eq_1
def C.catnapref8_New_b8 : ICode := .loop C.catnapref8_New_l7
def C.catnapref8_New_b8_w := @awpE _ _ C.catnapref8_New_b8.eq_1
def C.catnapref8_New_c9 : ICode := .keep [1, 5, 6] (.block 0 C.catnapref8_New_b8)
def C.catnapref8_New_c9_w := @awpE _ _ C.catnapref8_New_c9.eq_1
def C.catnapref8_New_r5_b : List IOper := [
 X.o 6 (.move (X.i 0))]
def C.catnapref8_New_r5 : List IOper := C.catnapref8_New_r5_b
def C.catnapref8_New_r5_w := @aopsE _ _ C.catnapref8_New_r5.eq_1
def C.catnapref8_New_c10 : ICode := .keep [1, 5] (.seq (.seq (.region C.catnapref8_New_r5) C.catnapref8_New_c9) C.catnapref8_New_c1)
def C.catnapref8_New_c10_w := @awpE _ _ C.catnapref8_New_c10.eq_1
def C.catnapref8_New_r4_b : List IOper := [
 X.o 12 (.build [.nils, .nils] []),
 X.o 13 (.boxN (X.s 12)),
 X.m 5 13]
def C.catnapref8_New_r4 : List IOper := C.catnapref8_New_r4_b
def C.catnapref8_New_r4_w := @aopsE _ _ C.catnapref8_New_r4.eq_1
def C.catnapref8_New_c11 : ICode := .keep [1] (.seq (.region C.catnapref8_New_r4) C.catnapref8_New_c10)
def C.catnapref8_New_c11_w := @awpE _ _ C.catnapref8_New_c11.eq_1
def C.catnapref8_New_r3_b : List IOper := [
 X.m 11 4,
 X.o 2 (.move (.cst (.nilp))),
 X.m 3 11]
def C.catnapref8_New_r3 : List IOper := C.catnapref8_New_r3_b
def C.catnapref8_New_r3_w := @aopsE _ _ C.catnapref8_New_r3.eq_1
def C.catnapref8_New_c12 : ICode := .seq (.region C.catnapref8_New_r3) .ret
def C.catnapref8_New_c12_w := @awpE _ _ C.catnapref8_New_c12.eq_1
def C.catnapref8_New_c13 : ICode := .keep [1, 4, 10] (.cond (X.s 10) C.catnapref8_New_c12 .skip)
def C.catnapref8_New_c13_w := @awpE _ _ C.catnapref8_New_c13.eq_1
def C.catnapref8_New_r2_b : List IOper := [
 X.m 9 4,
 X.o 10 (.bin .neq (X.s 9) (X.i 0))]
def C.catnapref8_New_r2 : List IOper := C.catnapref8_New_r2_b
def C.catnapref8_New_r2_w := @aopsE _ _ C.catnapref8_New_r2.eq_1
def C.catnapref8_New_c14 : ICode := .keep [1, 4] (.seq (.seq (.region C.catnapref8_New_r2) C.catnapref8_New_c13) C.catnapref8_New_c11)
def C.catnapref8_New_c14_w := @awpE _ _ C.catnapref8_New_c14.eq_1
def C.catnapref8_New_r1_b : List IOper := [
 X.o 7 (.loadN 4 (X.s 1)),
 X.o 8 (.call F.catnapref4_Check [X.s 7]),
 X.m 4 8]
def C.catnapref8_New_r1 : List IOper := C.catnapref8_New_r1_b
def C.catnapref8_New_r1_w := @aopsE _ _ C.catnapref8_New_r1.eq_1
def C.catnapref8_New_c15 : ICode := .keep [1] (.seq (.region C.catnapref8_New_r1) C.catnapref8_New_c14)
def C.catnapref8_New_c15_w := @awpE _ _ C.catnapref8_New_c15.eq_1
def C.catnapref8_New_r0_b : List IOper := [
 X.o 1 (.boxN (X.s 0)),
 X.o 2 (.move (.cst (.nilp))),
 X.o 3 (.move (X.i 0))]
def C.catnapref8_New_r0 : List IOper := C.catnapref8_New_r0_b
def C.catnapref8_New_r0_w := @aopsE _ _ C.catnapref8_New_r0.eq_1
def C.catnapref8_New : IFunc := ⟨1, [.slot 2, .slot 3], .seq (.region C.catnapref8_New_r0) C.catnapref8_New_c15⟩
def C.catnapref8_New_W := And.intro (And.intro (And.intro (And.intro @C.catnapref8_New_r10_w (And.intro @C.catnapref8_New_c1_w @C.catnapref8_New_r7_w)) (And.intro @C.catnapref8_New_c2_w (And.intro @C.catnapref8_New_r9_w @C.catnapref8_New_c3_w))) (And.intro (And.intro @C.catnapref8_New_r8_w (And.intro @C.catnapref8_New_b4_w @C.catnapref8_New_c5_w)) (And.intro @C.catnapref8_New_c6_w (And.intro @C.catnapref8_New_r6_w @C.catnapref8_New_b8_w)))) (And.intro (And.intro (And.intro @C.catnapref8_New_c9_w (And.intro @C.catnapref8_New_r5_w @C.catnapref8_New_c10_w)) (And.intro @C.catnapref8_New_r4_w (And.intro @C.catnapref8_New_c11_w @C.catnapref8_New_r3_w))) (And.intro (And.intro @C.catnapref8_New_c12_w (And.intro @C.catnapref8_New_c13_w @C.catnapref8_New_r2_w)) (And.intro (And.intro @C.catnapref8_New_c14_w @C.catnapref8_New_r1_w) (And.intro @C.catnapref8_New_c15_w @C.catnapref8_New_r0_w))))
def C.catnapref8_New_B := And.intro (And.intro (And.intro @C.catnapref8_New_r10_b.eq_1 @C.catnapref8_New_r7_b.eq_1) (And.intro @C.catnapref8_New_r9_b.eq_1 (And.intro @C.catnapref8_New_r8_b.eq_1 @C.catnapref8_New_r6_b.eq_1))) (And.intro (And.intro @C.catnapref8_New_r5_b.eq_1 (And.intro @C.catnapref8_New_r4_b.eq_1 @C.catnapref8_New_r3_b.eq_1)) (And.intro @C.catnapref8_New_r2_b.eq_1 (And.intro @C.catnapref8_New_r1_b.eq_1 @C.catnapref8_New_r0_b.eq_1)))

def C.catnapref8_Lines_Assert_r4_b : List IOper := [
 X.o 4 (.move (X.i 0))]
def C.catnapref8_Lines_Assert_r4 : List IOper := C.catnapref8_Lines_Assert_r4_b
def C.catnapref8_Lines_Assert_r4_w := @aopsE _ _ C.catnapref8_Lines_Assert_r4.eq_1
def C.catnapref8_Lines_Assert_c1 : ICode := .keep [] (.seq (.region C.catnapref8_Lines_Assert_r4) .ret)
def C.catnapref8_Lines_Assert_c1_w := @awpE _ _ C.catnapref8_Lines_Assert_c1.eq_1
def C.catnapref8_Lines_Assert_r3_b : List IOper := [
 X.m 16 0,
 X.o 17 (.nilchk (X.s 16)),
 X.o 18 (.fldAddr 1 (X.s 17)),
 X.o 19 (.load1 (X.s 18)),
 X.m 20 1,
 X.m 21 0,
 X.o 22 (.nilchk (X.s 21)),
 X.o 23 (.fldAddr 0 (X.s 22)),
 X.o 24 (.load1 (X.s 23)),
 X.m 25 1,
 X.o 26 (.idxAddr 1 (X.s 24) (X.s 25)),
 X.o 27 (.load1 (X.s 26)),
 X.o 28 (.build [.bool false, .bool false, .int .i64 0] [(0, 1, .cst (.bool true)), (2, 1, X.s 27)]),
 X.o 29 (.idxAddr 3 (X.s 19) (X.s 20)),
 X.n (.storeN 3 (X.s 29) (X.s 28))]
def C.catnapref8_Lines_Assert_r3 : List IOper := C.catnapref8_Lines_Assert_r3_b
def C.catnapref8_Lines_Assert_r3_w := @aopsE _ _ C.catnapref8_Lines_Assert_r3.eq_1
def C.catnapref8_Lines_Assert_c2 : ICode := .keep [0, 1] (.seq (.region C.catnapref8_Lines_Assert_r3) C.catnapref8_Lines_Assert_c1)
def C.catnapref8_Lines_Assert_c2_w := @awpE _ _ C.catnapref8_Lines_Assert_c2.eq_1
def C.catnapref8_Lines_Assert_r2_b : List IOper := [
 X.o 4 (.move (X.i 4))]
def C.catnapref8_Lines_Assert_r2 : List IOper := C.catnapref8_Lines_Assert_r2_b
def C.catnapref8_Lines_Assert_r2_w := @aopsE _ _ C.catnapref8_Lines_Assert_r2.eq_1
def C.catnapref8_Lines_Assert_c3 : ICode := .seq (.region C.catnapref8_Lines_Assert_r2) .ret
def C.catnapref8_Lines_Assert_c3_w := @awpE _ _ C.catnapref8_Lines_Assert_c3.eq_1
def C.catnapref8_Lines_Assert_c4 : ICode := .keep [0, 1, 15] (.cond (X.s 15) C.catnapref8_Lines_Assert_c3 .skip)
def C.catnapref8_Lines_Assert_c4_w := @awpE _ _ C.catnapref8_Lines_Assert_c4.eq_1
def C.catnapref8_Lines_Assert_r1_b : List IOper := [
 X.m 5 1,
 X.o 6 (.bin .lss (X.s 5) (X.i 0)),
 X.m 7 6,
 X.f 7 8 (.move (X.s 1)),
 X.f 7 9 (.move (X.s 0)),
 X.f 7 10 (.nilchk (X.s 9)),
 X.f 7 11 (.fldAddr 1 (X.s 10)),
 X.f 7 12 (.load1 (X.s 11)),
 X.f 7 13 (.len (X.s 12)),
 X.f 7 14 (.bin .geq (X.s 8) (X.s 13)),
 X.o 15 (.pick (X.s 7) (.cst (.bool true)) (X.s 14))]
def C.catnapref8_Lines_Assert_r1 : List IOper := C.catnapref8_Lines_Assert_r1_b
def C.catnapref8_Lines_Assert_r1_w := @aopsE _ _ C.catnapref8_Lines_Assert_r1.eq_1
def C.catnapref8_Lines_Assert_c5 : ICode := .keep [0, 1] (.seq (.seq (.region C.catnapref8_Lines_Assert_r1) C.catnapref8_Lines_Assert_c4) C.catnapref8_Lines_Assert_c2)
def C.catnapref8_Lines_Assert_c5_w := @awpE _ _ C.catnapref8_Lines_Assert_c5.eq_1
def C.catnapref8_Lines_Assert_r0_b : List IOper := [
 X.o 4 (.move (X.i 0))]
def C.catnapref8_Lines_Assert_r0 : List IOper := C.catnapref8_Lines_Assert_r0_b
def C.catnapref8_Lines_Assert_r0_w := @aopsE _ _ C.catnapref8_Lines_Assert_r0.eq_1
def C.catnapref8_Lines_Assert : IFunc := ⟨2, [.slot 4], .seq (.region C.catnapref8_Lines_Assert_r0) C.catnapref8_Lines_Assert_c5⟩
def C.catnapref8_Lines_Assert_W := And.intro (And.intro (And.intro @C.catnapref8_Lines_Assert_r4_w @C.catnapref8_Lines_Assert_c1_w) (And.intro @C.catnapref8_Lines_Assert_r3_w (And.intro @C.catnapref8_Lines_Assert_c2_w @C.catnapref8_Lines_Assert_r2_w))) (And.intro (And.intro @C.catnapref8_Lines_Assert_c3_w @C.catnapref8_Lines_Assert_c4_w) (And.intro @C.catnapref8_Lines_Assert_r1_w (And.intro @C.catnapref8_Lines_Assert_c5_w @C.catnapref8_Lines_Assert_r0_w)))
def C.catnapref8_Lines_Assert_B := And.intro (And.intro @C.catnapref8_Lines_Assert_r4_b.eq_1 @C.catnapref8_Lines_Assert_r3_b.eq_1) (And.intro @C.catnapref8_Lines_Assert_r2_b.eq_1 (And.intro @C.catnapref8_Lines_Assert_r1_b.eq_1 @C.catnapref8_Lines_Assert_r0_b.eq_1))

def C.catnapref8_Lines_Release_r6_b : List IOper := [
 X.o 4 (.move (X.i 0))]
def C.catnapref8_Lines_Release_r6 : List IOper := C.catnapref8_Lines_Release_r6_b
def C.catnapref8_Lines_Release_r6_w := @aopsE _ _ C.catnapref8_Lines_Release_r6.eq_1
def C.catnapref8_Lines_Release_c1 : ICode := .keep [] (.seq (.region C.catnapref8_Lines_Release_r6) .ret)
def C.catnapref8_Lines_Release_c1_w := @awpE _ _ C.catnapref8_Lines_Release_c1.eq_1
def C.catnapref8_Lines_Release_r5_b : List IOper := [
 X.m 25 0,
 X.o 26 (.nilchk (X.s 25)),
 X.o 27 (.fldAddr 1 (X.s 26)),
 X.o 28 (.load1 (X.s 27)),
 X.m 29 1,
 X.o 30 (.idxAddr 3 (X.s 28) (X.s 29)),
 X.o 31 (.fldAddr 1 (X.s 30)),
 X.n (.store1 (X.s 31) (.cst (.bool true)))]
def C.catnapref8_Lines_Release_r5 : List IOper := C.catnapref8_Lines_Release_r5_b
def C.catnapref8_Lines_Release_r5_w := @aopsE _ _ C.catnapref8_Lines_Release_r5.eq_1
def C.catnapref8_Lines_Release_c2 : ICode := .keep [0, 1] (.seq (.region C.catnapref8_Lines_Release_r5) C.catnapref8_Lines_Release_c1)
def C.catnapref8_Lines_Release_c2_w := @awpE _ _ C.catnapref8_Lines_Release_c2.eq_1
def C.catnapref8_Lines_Release_r4_b : List IOper := [
 X.o 4 (.move (X.i 6))]
def C.catnapref8_Lines_Release_r4 : List IOper := C.catnapref8_Lines_Release_r4_b
def C.catnapref8_Lines_Release_r4_w := @aopsE _ _ C.catnapref8_Lines_Release_r4.eq_1
def C.catnapref8_Lines_Release_c3 : ICode := .seq (.region C.catnapref8_Lines_Release_r4) .ret
def C.catnapref8_Lines_Release_c3_w := @awpE _ _ C.catnapref8_Lines_Release_c3.eq_1
def C.catnapref8_Lines_Release_c4 : ICode := .keep [0, 1, 24] (.cond (X.s 24) C.catnapref8_Lines_Release_c3 .skip)
def C.catnapref8_Lines_Release_c4_w := @awpE _ _ C.catnapref8_Lines_Release_c4.eq_1
def C.catnapref8_Lines_Release_r3_b : List IOper := [
 X.m 16 0,
 X.o 17 (.nilchk (X.s 16)),
 X.o 18 (.fldAddr 1 (X.s 17)),
 X.o 19 (.load1 (X.s 18)),
 X.m 20 1,
 X.o 21 (.idxAddr 3 (X.s 19) (X.s 20)),
 X.o 22 (.fldAddr 0 (X.s 21)),
 X.o 23 (.load1 (X.s 22)),
 X.o 24 (.un .not (X.s 23))]
def C.catnapref8_Lines_Release_r3 : List IOper := C.catnapref8_Lines_Release_r3_b
def C.catnapref8_Lines_Release_r3_w := @aopsE _ _ C.catnapref8_Lines_Release_r3.eq_1
def C.catnapref8_Lines_Release_c5 : ICode := .keep [0, 1] (.seq (.seq (.region C.catnapref8_Lines_Release_r3) C.catnapref8_Lines_Release_c4) C.catnapref8_Lines_Release_c2)
def C.catnapref8_Lines_Release_c5_w := @awpE _ _ C.catnapref8_Lines_Release_c5.eq_1
def C.catnapref8_Lines_Release_r2_b : List IOper := [
 X.o 4 (.move (X.i 4))]
def C.catnapref8_Lines_Release_r2 : List IOper := C.catnapref8_Lines_Release_r2_b
def C.catnapref8_Lines_Release_r2_w := @aopsE _ _ C.catnapref8_Lines_Release_r2.eq_1
def C.catnapref8_Lines_Release_c6 : ICode := .seq (.region C.catnapref8_Lines_Release_r2) .ret
def C.catnapref8_Lines_Release_c6_w := @awpE _ _ C.catnapref8_Lines_Release_c6.eq_1
def C.catnapref8_Lines_Release_c7 : ICode := .keep [0, 1, 15] (.cond (X.s 15) C.catnapref8_Lines_Release_c6 .skip)
def C.catnapref8_Lines_Release_c7_w := @awpE _ _ C.catnapref8_Lines_Release_c7.eq_1
def C.catnapref8_Lines_Release_r1_b : List IOper := [
 X.m 5 1,
 X.o 6 (.bin .lss (X.s 5) (X.i 0)),
 X.m 7 6,
 X.f 7 8 (.move (X.s 1)),
 X.f 7 9 (.move (X.s 0)),
 X.f 7 10 (.nilchk (X.s 9)),
 X.f 7 11 (.fldAddr 1 (X.s 10)),
 X.f 7 12 (.load1 (X.s 11)),
 X.f 7 13 (.len (X.s 12)),
 X.f 7 14 (.bin .geq (X.s 8) (X.s 13)),
 X.o 15 (.pick (X.s 7) (.cst (.bool true)) (X.s 14))]
def C.catnapref8_Lines_Release_r1 : List IOper := C.catnapref8_Lines_Release_r1_b
def C.catnapref8_Lines_Release_r1_w := @aopsE _ _ C.catnapref8_Lines_Release_r1.eq_1
def C.catnapref8_Lines_Release_c8 : ICode := .keep [0, 1] (.seq (.seq (.region C.catnapref8_Lines_Release_r1) C.catnapref8_Lines_Release_c7) C.catnapref8_Lines_Release_c5)
def C.catnapref8_Lines_Release_c8_w := @awpE _ _ C.catnapref8_Lines_Release_c8.eq_1
def C.catnapref8_Lines_Release_r0_b : List IOper := [
 X.o 4 (.move (X.i 0))]
def C.catnapref8_Lines_Release_r0 : List IOper := C.catnapref8_Lines_Release_r0_b
def C.catnapref8_Lines_Release_r0_w := @aopsE _ _ C.catnapref8_Lines_Release_r0.eq_1
def C.catnapref8_Lines_Release : IFunc := ⟨2, [.slot 4], .seq (.region C.catnapref8_Lines_Release_r0) C.catnapref8_Lines_Release_c8⟩
def C.catnapref8_Lines_Release_W := And.intro (And.intro (And.intro @C.catnapref8_Lines_Release_r6_w (And.intro @C.catnapref8_Lines_Release_c1_w @C.catnapref8_Lines_Release_r5_w)) (And.intro (And.intro @C.catnapref8_Lines_Release_c2_w @C.catnapref8_Lines_Release_r4_w) (And.intro @C.catnapref8_Lines_Release_c3_w @C.catnapref8_Lines_Release_c4_w))) (And.intro (And.intro (And.intro @C.catnapref8_Lines_Release_r3_w @C.catnapref8_Lines_Release_c5_w) (And.intro @C.catnapref8_Lines_Release_r2_w @C.catnapref8_Lines_Release_c6_w)) (And.intro (And.intro @C.catnapref8_Lines_Release_c7_w @C.catnapref8_Lines_Release_r1_w) (And.intro @C.catnapref8_Lines_Release_c8_w @C.catnapref8_Lines_Release_r0_w)))
def C.catnapref8_Lines_Release_B := And.intro (And.intro @C.catnapref8_Lines_Release_r6_b.eq_1 (And.intro @C.catnapref8_Lines_Release_r5_b.eq_1 @C.catnapref8_Lines_Release_r4_b.eq_1)) (And.intro (And.intro @C.catnapref8_Lines_Release_r3_b.eq_1 @C.catnapref8_Lines_Release_r2_b.eq_1) (And.intro @C.catnapref8_Lines_Release_r1_b.eq_1 @C.catnapref8_Lines_Release_r0_b.eq_1))

def C.catnapref8_Lines_Tick_r11_b : List IOper := [
 X.m 57 3,
 X.m 2 57]
def C.catnapref8_Lines_Tick_r11 : List IOper := C.catnapref8_Lines_Tick_r11_b
def C.catnapref8_Lines_Tick_r11_w := @aopsE _ _ C.catnapref8_Lines_Tick_r11.eq_1
def C.catnapref8_Lines_Tick_c1 : ICode := .keep [3] (.seq (.region C.catnapref8_Lines_Tick_r11) .ret)
def C.catnapref8_Lines_Tick_c1_w := @awpE _ _ C.catnapref8_Lines_Tick_c1.eq_1
def C.catnapref8_Lines_Tick_r4_b : List IOper := [
 X.m 13 4,
 X.o 14 (.bin .add (X.s 13) (X.i 1)),
 X.m 4 14]
def C.catnapref8_Lines_Tick_r4 : List IOper := C.catnapref8_Lines_Tick_r4_b
def C.catnapref8_Lines_Tick_r4_w := @aopsE _ _ C.catnapref8_Lines_Tick_r4.eq_1
def C.catnapref8_Lines_Tick_c2 : ICode := .keep [0, 3, 4] (.region C.catnapref8_Lines_Tick_r4)
def C.catnapref8_Lines_Tick_c2_w := @awpE _ _ C.catnapref8_Lines_Tick_c2.eq_1
def C.catnapref8_Lines_Tick_r7_b : List IOper := [
 X.m 29 0,
 X.o 30 (.nilchk (X.s 29)),
 X.o 31 (.fldAddr 1 (X.s 30)),
 X.o 32 (.load1 (X.s 31)),
 X.m 33 4,
 X.o 34 (.idxAddr 3 (X.s 32) (X.s 33)),
 X.o 35 (.fldAddr 2 (X.s 34)),
 X.o 36 (.load1 (X.s 35)),
 X.o 37 (.bin .sub (X.s 36) (X.i 1)),
 X.o 38 (.idxAddr 3 (X.s 32) (X.s 33)),
 X.o 39 (.fldAddr 2 (X.s 38)),
 X.n (.store1 (X.s 39) (X.s 37))]
def C.catnapref8_Lines_Tick_r7 : List IOper := C.catnapref8_Lines_Tick_r7_b
def C.catnapref8_Lines_Tick_r7_w := @aopsE _ _ C.catnapref8_Lines_Tick_r7.eq_1
def C.catnapref8_Lines_Tick_r10_b : List IOper := [
 X.m 53 3,
 X.m 54 4,
 X.o 55 (.buildSlice 1 1 [.int .i64 0] [(0, 1, X.s 54)]),
 X.o 56 (.append 1 8 (X.s 53) (X.s 55)),
 X.m 3 56]
def C.catnapref8_Lines_Tick_r10 : List IOper := C.catnapref8_Lines_Tick_r10_b
def C.catnapref8_Lines_Tick_r10_w := @aopsE _ _ C.catnapref8_Lines_Tick_r10.eq_1
def C.catnapref8_Lines_Tick_c3 : ICode := .keep [0, 3, 4] (.region C.catnapref8_Lines_Tick_r10)
def C.catnapref8_Lines_Tick_c3_w := @awpE _ _ C.catnapref8_Lines_Tick_c3.eq_1
def C.catnapref8_Lines_Tick_r9_b : List IOper := [
 X.m 46 0,
 X.o 47 (.nilchk (X.s 46)),
 X.o 48 (.fldAddr 1 (X.s 47)),
 X.o 49 (.load1 (X.s 48)),
 X.m 50 4,
 X.o 51 (.build [.bool false, .bool false, .int .i64 0] []),
 X.o 52 (.idxAddr 3 (X.s 49) (X.s 50)),
 X.n (.storeN 3 (X.s 52) (X.s 51))]
def C.catnapref8_Lines_Tick_r9 : List IOper := C.catnapref8_Lines_Tick_r9_b
def C.catnapref8_Lines_Tick_r9_w := @aopsE _ _ C.catnapref8_Lines_Tick_r9.eq_1
def C.catnapref8_Lines_Tick_c4 : ICode := .seq (.region C.catnapref8_Lines_Tick_r9) C.catnapref8_Lines_Tick_c3
def C.catnapref8_Lines_Tick_c4_w := @awpE _ _ C.catnapref8_Lines_Tick_c4.eq_1
def C.catnapref8_Lines_Tick_c5 : ICode := .keep [0, 3, 4, 45] (.cond (X.s 45) C.catnapref8_Lines_Tick_c4 .skip)
def C.catnapref8_Lines_Tick_c5_w := @awpE _ _ C.catnapref8_Lines_Tick_c5.eq_1
def C.catnapref8_Lines_Tick_r8_b : List IOper := [
 X.o 40 (.fldAddr 0 (X.s 5)),
 X.o 41 (.load1 (X.s 40)),
 X.m 42 41,
 X.t 42 43 (.fldAddr 1 (X.s 5)),
 X.t 42 44 (.load1 (X.s 43)),
 X.o 45 (.pick (X.s 42) (X.s 44) (.cst (.bool false)))]
def C.catnapref8_Lines_Tick_r8 : List IOper := C.catnapref8_Lines_Tick_r8_b
def C.catnapref8_Lines_Tick_r8_w := @aopsE _ _ C.catnapref8_Lines_Tick_r8.eq_1
def C.catnapref8_Lines_Tick_c6 : ICode := .region C.catnapref8_Lines_Tick_r7
def C.catnapref8_Lines_Tick_c6_w := @awpE _ _ C.catnapref8_Lines_Tick_c6.eq_1
def C.catnapref8_Lines_Tick_c7 : ICode := .seq (.region C.catnapref8_Lines_Tick_r8) C.catnapref8_Lines_Tick_c5
def C.catnapref8_Lines_Tick_c7_w := @awpE _ _ C.catnapref8_Lines_Tick_c7.eq_1
def C.catnapref8_Lines_Tick_c8 : ICode := .keep [0, 3, 4, 5, 28] (.cond (X.s 28) C.catnapref8_Lines_Tick_c6 C.catnapref8_Lines_Tick_c7)
def C.catnapref8_Lines_Tick_c8_w := @awpE _ _ C.catnapref8_Lines_Tick_c8.eq_1
def C.catnapref8_Lines_Tick_r6_b : List IOper := [
 X.o 22 (.fldAddr 0 (X.s 5)),
 X.o 23 (.load1 (X.s 22)),
 X.m 24 23,
 X.t 24 25 (.fldAddr 2 (X.s 5)),
 X.t 24 26 (.load1 (X.s 25)),
 X.t 24 27 (.bin .gtr (X.s 26) (X.i 0)),
 X.o 28 (.pick (X.s 24) (X.s 27) (.cst (.bool false)))]
def C.catnapref8_Lines_Tick_r6 : List IOper := C.catnapref8_Lines_Tick_r6_b
def C.catnapref8_Lines_Tick_r6_w := @aopsE _ _ C.catnapref8_Lines_Tick_r6.eq_1
def C.catnapref8_Lines_Tick_c9 : ICode := .keep [0, 3, 4, 5] (.seq (.region C.catnapref8_Lines_Tick_r6) C.catnapref8_Lines_Tick_c8)
def C.catnapref8_Lines_Tick_c9_w := @awpE _ _ C.catnapref8_Lines_Tick_c9.eq_1
def C.catnapref8_Lines_Tick_r5_b : List IOper := [
 X.m 15 0,
 X.o 16 (.nilchk (X.s 15)),
 X.o 17 (.fldAddr 1 (X.s 16)),
 X.o 18 (.load1 (X.s 17)),
 X.m 19 4,
 X.o 20 (.idxAddr 3 (X.s 18) (X.s 19)),
 X.o 21 (.loadN 3 (X.s 20)),
 X.o 5 (.alloc [.bool false, .bool false, .int .i64 0]),
 X.n (.storeN 3 (X.s 5) (X.s 21))]
def C.catnapref8_Lines_Tick_r5 : List IOper := C.catnapref8_Lines_Tick_r5_b
def C.catnapref8_Lines_Tick_r5_w := @aopsE _ _ C.catnapref8_Lines_Tick_r5.eq_1
def C.catnapref8_Lines_Tick_b10 : ICode := .seq (.region C.catnapref8_Lines_Tick_r5) C.catnapref8_Lines_Tick_c9
def C.catnapref8_Lines_Tick_b10_w := @awpE _ _ C.catnapref8_Lines_Tick_b10.eq_1
def C.catnapref8_Lines_Tick_c11 : ICode := .keep [0, 3, 4] (.seq (.block 1 C.catnapref8_Lines_Tick_b10) C.catnapref8_Lines_Tick_c2)
def C.catnapref8_Lines_Tick_c11_w := @awpE _ _ C.catnapref8_Lines_Tick_c11.eq_1
def C.catnapref8_Lines_Tick_c12 : ICode := .keep [0, 3, 4, 12] (.cond (X.s 12) .skip (.exit 0))
def C.catnapref8_Lines_Tick_c12_w := @awpE _ _ C.catnapref8_Lines_Tick_c12.eq_1
def C.catnapref8_Lines_Tick_r3_b : List IOper := [
 X.m 6 4,
 X.m 7 0,
 X.o 8 (.nilchk (X.s 7)),
 X.o 9 (.fldAddr 1 (X.s 8)),
 X.o 10 (.load1 (X.s 9)),
 X.o 11 (.len (X.s 10)),
 X.o 12 (.bin .lss (X.s 6) (X.s 11))]
def C.catnapref8_Lines_Tick_r3 : List IOper := C.catnapref8_Lines_Tick_r3_b
def C.catnapref8_Lines_Tick_r3_w := @aopsE _ _ C.catnapref8_Lines_Tick_r3.eq_1
def C.catnapref8_Lines_Tick_l13 : ICode := .keep [0, 3, 4] (.seq (.seq (.region C.catnapref8_Lines_Tick_r3) C.catnapref8_Lines_Tick_c12) C.catnapref8_Lines_Tick_c11)
def C.catnapref8_Lines_Tick_l13_w := @awpE _ _ C.catnapref8_Lines_Tick_l13.eq_1
def C.catnapref8_Lines_Tick_b14 : ICode := .loop C.catnapref8_Lines_Tick_l13
def C.catnapref8_Lines_Tick_b14_w := @awpE _ _ C.catnapref8_Lines_Tick_b14.eq_1
def C.catnapref8_Lines_Tick_c15 : ICode := .keep [0, 3, 4] (.block 0 C.catnapref8_Lines_Tick_b14)
def C.catnapref8_Lines_Tick_c15_w := @awpE _ _ C.catnapref8_Lines_Tick_c15.eq_1
def C.catnapref8_Lines_Tick_r2_b : List IOper := [
 X.o 4 (.move (X.i 0))]
def C.catnapref8_Lines_Tick_r2 : List IOper := C.catnapref8_Lines_Tick_r2_b
def C.catnapref8_Lines_Tick_r2_w := @aopsE _ _ C.catnapref8_Lines_Tick_r2.eq_1
def C.catnapref8_Lines_Tick_c16 : ICode := .keep [0, 3] (.seq (.seq (.region C.catnapref8_Lines_Tick_r2) C.catnapref8_Lines_Tick_c15) C.catnapref8_Lines_Tick_c1)
def C.catnapref8_Lines_Tick_c16_w := @awpE _ _ C.catnapref8_Lines_Tick_c16.eq_1
def C.catnapref8_Lines_Tick_r1_b : List IOper := [
 X.o 3 (.move (.cst (.nils)))]
def C.catnapref8_Lines_Tick_r1 : List IOper := C.catnapref8_Lines_Tick_r1_b
def C.catnapref8_Lines_Tick_r1_w := @aopsE _ _ C.catnapref8_Lines_Tick_r1.eq_1
def C.catnapref8_Lines_Tick_c17 : ICode := .keep [0] (.seq (.region C.catnapref8_Lines_Tick_r1) C.catnapref8_Lines_Tick_c16)
def C.catnapref8_Lines_Tick_c17_w := @awpE _ _ C.catnapref8_Lines_Tick_c17.eq_1
def C.catnapref8_Lines_Tick_r0_b : List IOper := [
 X.o 2 (.move (.cst (.nils)))]
def C.catnapref8_Lines_Tick_r0 : List IOper := C.catnapref8_Lines_Tick_r0_b
def C.catnapref8_Lines_Tick_r0_w := @aopsE _ _ C.catnapref8_Lines_Tick_r0.eq_1
def C.catnapref8_Lines_Tick : IFunc := ⟨1, [.slot 2], .seq (.region C.catnapref8_Lines_Tick_r0) C.catnapref8_Lines_Tick_c17⟩
def C.catnapref8_Lines_Tick_W := And.intro (And.intro (And.intro (And.intro @C.catnapref8_Lines_Tick_r11_w (And.intro @C.catnapref8_Lines_Tick_c1_w @C.catnapref8_Lines_Tick_r4_w)) (And.intro (And.intro @C.catnapref8_Lines_Tick_c2_w @C.catnapref8_Lines_Tick_r7_w) (And.intro @C.catnapref8_Lines_Tick_r10_w @C.catnapref8_Lines_Tick_c3_w))) (And.intro (And.intro @C.catnapref8_Lines_Tick_r9_w (And.intro @C.catnapref8_Lines_Tick_c4_w @C.catnapref8_Lines_Tick_c5_w)) (And.intro (And.intro @C.catnapref8_Lines_Tick_r8_w @C.catnapref8_Lines_Tick_c6_w) (And.intro @C.catnapref8_Lines_Tick_c7_w @C.catnapref8_Lines_Tick_c8_w)))) (And.intro (And.intro (And.intro @C.catnapref8_Lines_Tick_r6_w (And.intro @C.catnapref8_Lines_Tick_c9_w @C.catnapref8_Lines_Tick_r5_w)) (And.intro (And.intro @C.catnapref8_Lines_Tick_b10_w @C.catnapref8_Lines_Tick_c11_w) (And.intro @C.catnapref8_Lines_Tick_c12_w @C.catnapref8_Lines_Tick_r3_w))) (And.intro (And.intro @C.catnapref8_Lines_Tick_b14_w (And.intro @C.catnapref8_Lines_Tick_c15_w @C.catnapref8_Lines_Tick_r2_w)) (And.intro (And.intro @C.catnapref8_Lines_Tick_c16_w @C.catnapref8_Lines_Tick_r1_w) (And.intro @C.catnapref8_Lines_Tick_c17_w @C.catnapref8_Lines_Tick_r0_w))))
def C.catnapref8_Lines_Tick_B := And.intro (And.intro (And.intro @C.catnapref8_Lines_Tick_r11_b.eq_1 (And.intro @C.catnapref8_Lines_Tick_r4_b.eq_1 @C.catnapref8_Lines_Tick_r7_b.eq_1)) (And.intro @C.catnapref8_Lines_Tick_r10_b.eq_1 (And.intro @C.catnapref8_Lines_Tick_r9_b.eq_1 @C.catnapref8_Lines_Tick_r8_b.eq_1))) (And.intro (And.intro @C.catnapref8_Lines_Tick_r6_b.eq_1 (And.intro @C.catnapref8_Lines_Tick_r5_b.eq_1 @C.catnapref8_Lines_Tick_r3_b.eq_1)) (And.intro @C.catnapref8_Lines_Tick_r2_b.eq_1 (And.intro @C.catnapref8_Lines_Tick_r1_b.eq_1 @C.catnapref8_Lines_Tick_r0_b.eq_1)))

def C.catnapref8_Lines_Held_r1_b : List IOper := [
 X.m 5 1,
 X.o 6 (.bin .lss (X.s 5) (X.i 0)),
 X.m 7 6,
 X.f 7 8 (.move (X.s 1)),
 X.f 7 9 (.move (X.s 0)),
 X.f 7 10 (.nilchk (X.s 9)),
 X.f 7 11 (.fldAddr 1 (X.s 10)),
 X.f 7 12 (.load1 (X.s 11)),
 X.f 7 13 (.len (X.s 12)),
 X.f 7 14 (.bin .geq (X.s 8) (X.s 13)),
 X.o 15 (.pick (X.s 7) (.cst (.bool true)) (X.s 14)),
 X.m 16 15,
 X.f 16 17 (.move (X.s 0)),
 X.f 16 18 (.nilchk (X.s 17)),
 X.f 16 19 (.fldAddr 1 (X.s 18)),
 X.f 16 20 (.load1 (X.s 19)),
 X.f 16 21 (.move (X.s 1)),
 X.f 16 22 (.idxAddr 3 (X.s 20) (X.s 21)),
 X.f 16 23 (.fldAddr 0 (X.s 22)),
 X.f 16 24 (.load1 (X.s 23)),
 X.o 25 (.pick (X.s 16) (.cst (.bool true)) (X.s 24)),
 X.m 4 25]
def C.catnapref8_Lines_Held_r1 : List IOper := C.catnapref8_Lines_Held_r1_b
def C.catnapref8_Lines_Held_r1_w := @aopsE _ _ C.catnapref8_Lines_Held_r1.eq_1
def C.catnapref8_Lines_Held_c1 : ICode := .keep [0, 1] (.seq (.region C.catnapref8_Lines_Held_r1) .ret)
def C.catnapref8_Lines_Held_c1_w := @awpE _ _ C.catnapref8_Lines_Held_c1.eq_1
def C.catnapref8_Lines_Held_r0_b : List IOper := [
 X.o 4 (.move (.cst (.bool false)))]
def C.catnapref8_Lines_Held_r0 : List IOper := C.catnapref8_Lines_Held_r0_b
def C.catnapref8_Lines_Held_r0_w := @aopsE _ _ C.catnapref8_Lines_Held_r0.eq_1
def C.catnapref8_Lines_Held : IFunc := ⟨2, [.slot 4], .seq (.region C.catnapref8_Lines_Held_r0) C.catnapref8_Lines_Held_c1⟩
def C.catnapref8_Lines_Held_W := And.intro @C.catnapref8_Lines_Held_r1_w (And.intro @C.catnapref8_Lines_Held_c1_w @C.catnapref8_Lines_Held_r0_w)
def C.catnapref8_Lines_Held_B := And.intro @C.catnapref8_Lines_Held_r1_b.eq_1 @C.catnapref8_Lines_Held_r0_b.eq_1

def C.reset_Lines_Left_r4_b : List IOper := [
 X.o 20 (.fldAddr 1 (X.s 5)),
 X.o 21 (.load1 (X.s 20)),
 X.m 4 21]
def C.reset_Lines_Left_r4 : List IOper := C.reset_Lines_Left_r4_b
def C.reset_Lines_Left_r4_w := @aopsE _ _ C.reset_Lines_Left_r4.eq_1
def C.reset_Lines_Left_c1 : ICode := .keep [5] (.seq (.region C.reset_Lines_Left_r4) .ret)
def C.reset_Lines_Left_c1_w := @awpE _ _ C.reset_Lines_Left_c1.eq_1
def C.reset_Lines_Left_r3_b : List IOper := [
 X.o 4 (.move (X.i 0))]
def C.reset_Lines_Left_r3 : List IOper := C.reset_Lines_Left_r3_b
def C.reset_Lines_Left_r3_w := @aopsE _ _ C.reset_Lines_Left_r3.eq_1
def C.reset_Lines_Left_c2 : ICode := .seq (.region C.reset_Lines_Left_r3) .ret
def C.reset_Lines_Left_c2_w := @awpE _ _ C.reset_Lines_Left_c2.eq_1
def C.reset_Lines_Left_c3 : ICode := .keep [5, 19] (.cond (X.s 19) C.reset_Lines_Left_c2 .skip)
def C.reset_Lines_Left_c3_w := @awpE _ _ C.reset_Lines_Left_c3.eq_1
def C.reset_Lines_Left_r2_b : List IOper := [
 X.m 13 6,
 X.o 14 (.un .not (X.s 13)),
 X.m 15 14,
 X.f 15 16 (.fldAddr 2 (X.s 5)),
 X.f 15 17 (.load1 (X.s 16)),
 X.f 15 18 (.un .not (X.s 17)),
 X.o 19 (.pick (X.s 15) (.cst (.bool true)) (X.s 18))]
def C.reset_Lines_Left_r2 : List IOper := C.reset_Lines_Left_r2_b
def C.reset_Lines_Left_r2_w := @aopsE _ _ C.reset_Lines_Left_r2.eq_1
def C.reset_Lines_Left_c4 : ICode := .keep [5, 6] (.seq (.seq (.region C.reset_Lines_Left_r2) C.reset_Lines_Left_c3) C.reset_Lines_Left_c1)
def C.reset_Lines_Left_c4_w := @awpE _ _ C.reset_Lines_Left_c4.eq_1
def C.reset_Lines_Left_r1_b : List IOper := [
 X.m 8 0,
 X.m 9 1,
 X.o 10 (.call F.reset_Lines_find [X.s 8, X.s 9]),
 X.m 7 10,
 X.o 11 (.extract (X.s 7) 0),
 X.o 12 (.extract (X.s 7) 1),
 X.o 5 (.alloc [.int .i64 0, .int .i64 0, .bool false, .bool false]),
 X.n (.storeN 4 (X.s 5) (X.s 11)),
 X.m 6 12]
def C.reset_Lines_Left_r1 : List IOper := C.reset_Lines_Left_r1_b
def C.reset_Lines_Left_r1_w := @aopsE _ _ C.reset_Lines_Left_r1.eq_1
def C.reset_Lines_Left_c5 : ICode := .keep [0, 1] (.seq (.region C.reset_Lines_Left_r1) C.reset_Lines_Left_c4)
def C.reset_Lines_Left_c5_w := @awpE _ _ C.reset_Lines_Left_c5.eq_1
def C.reset_Lines_Left_r0_b : List IOper := [
 X.o 4 (.move (X.i 0))]
def C.reset_Lines_Left_r0 : List IOper := C.reset_Lines_Left_r0_b
def C.reset_Lines_Left_r0_w := @aopsE _ _ C.reset_Lines_Left_r0.eq_1
def C.reset_Lines_Left : IFunc := ⟨2, [.slot 4], .seq (.region C.reset_Lines_Left_r0) C.reset_Lines_Left_c5⟩
def C.reset_Lines_Left_W := And.intro (And.intro (And.intro @C.reset_Lines_Left_r4_w @C.reset_Lines_Left_c1_w) (And.intro @C.reset_Lines_Left_r3_w (And.intro @C.reset_Lines_Left_c2_w @C.reset_Lines_Left_c3_w))) (And.intro (And.intro @C.reset_Lines_Left_r2_w @C.reset_Lines_Left_c4_w) (And.intro @C.reset_Lines_Left_r1_w (And.intro @C.reset_Lines_Left_c5_w @C.reset_Lines_Left_r0_w)))
def C.reset_Lines_Left_B := And.intro (And.intro @C.reset_Lines_Left_r4_b.eq_1 @C.reset_Lines_Left_r3_b.eq_1) (And.intro @C.reset_Lines_Left_r2_b.eq_1 (And.intro @C.reset_Lines_Left_r1_b.eq_1 @C.reset_Lines_Left_r0_b.eq_1))

def C.catnapref8_Lines_Left_r3_b : List IOper := [
 X.m 16 0,
 X.o 17 (.nilchk (X.s 16)),
 X.o 18 (.fldAddr 1 (X.s 17)),
 X.o 19 (.load1 (X.s 18)),
 X.m 20 1,
 X.o 21 (.idxAddr 3 (X.s 19) (X.s 20)),
 X.o 22 (.fldAddr 2 (X.s 21)),
 X.o 23 (.load1 (X.s 22)),
 X.m 4 23]
def C.catnapref8_Lines_Left_r3 : List IOper := C.catnapref8_Lines_Left_r3_b
def C.catnapref8_Lines_Left_r3_w := @aopsE _ _ C.catnapref8_Lines_Left_r3.eq_1
def C.catnapref8_Lines_Left_c1 : ICode := .keep [0, 1] (.seq (.region C.catnapref8_Lines_Left_r3) .ret)
def C.catnapref8_Lines_Left_c1_w := @awpE _ _ C.catnapref8_Lines_Left_c1.eq_1
def C.catnapref8_Lines_Left_r2_b : List IOper := [
 X.o 4 (.move (X.i 0))]
def C.catnapref8_Lines_Left_r2 : List IOper := C.catnapref8_Lines_Left_r2_b
def C.catnapref8_Lines_Left_r2_w := @aopsE _ _ C.catnapref8_Lines_Left_r2.eq_1
def C.catnapref8_Lines_Left_c2 : ICode := .seq (.region C.catnapref8_Lines_Left_r2) .ret
def C.catnapref8_Lines_Left_c2_w := @awpE _ _ C.catnapref8_Lines_Left_c2.eq_1
def C.catnapref8_Lines_Left_c3 : ICode := .keep [0, 1, 15] (.cond (X.s 15) C.catnapref8_Lines_Left_c2 .skip)
def C.catnapref8_Lines_Left_c3_w := @awpE _ _ C.catnapref8_Lines_Left_c3.eq_1
def C.catnapref8_Lines_Left_r1_b : List IOper := [
 X.m 5 1,
 X.o 6 (.bin .lss (X.s 5) (X.i 0)),
 X.m 7 6,
 X.f 7 8 (.move (X.s 1)),
 X.f 7 9 (.move (X.s 0)),
 X.f 7 10 (.nilchk (X.s 9)),
 X.f 7 11 (.fldAddr 1 (X.s 10)),
 X.f 7 12 (.load1 (X.s 11)),
 X.f 7 13 (.len (X.s 12)),
 X.f 7 14 (.bin .geq (X.s 8) (X.s 13)),
 X.o 15 (.pick (X.s 7) (.cst (.bool true)) (X.s 14))]
def C.catnapref8_Lines_Left_r1 : List IOper := C.catnapref8_Lines_Left_r1_b
def C.catnapref8_Lines_Left_r1_w := @aopsE _ _ C.catnapref8_Lines_Left_r1.eq_1
def C.catnapref8_Lines_Left_c4 : ICode := .keep [0, 1] (.seq (.seq (.region C.catnapref8_Lines_Left_r1) C.catnapref8_Lines_Left_c3) C.catnapref8_Lines_Left_c1)
def C.catnapref8_Lines_Left_c4_w := @awpE _ _ C.catnapref8_Lines_Left_c4.eq_1
def C.catnapref8_Lines_Left_r0_b : List IOper := [
 X.o 4 (.move (X.i 0))]
def C.catnapref8_Lines_Left_r0 : List IOper := C.catnapref8_Lines_Left_r0_b
def C.catnapref8_Lines_Left_r0_w := @aopsE _ _ C.catnapref8_Lines_Left_r0.eq_1
def C.catnapref8_Lines_Left : IFunc := ⟨2, [.slot 4], .seq (.region C.catnapref8_Lines_Left_r0) C.catnapref8_Lines_Left_c4⟩
def C.catnapref8_Lines_Left_W := And.intro (And.intro (And.intro @C.catnapref8_Lines_Left_r3_w @C.catnapref8_Lines_Left_c1_w) (And.intro @C.catnapref8_Lines_Left_r2_w @C.catnapref8_Lines_Left_c2_w)) (And.intro (And.intro @C.catnapref8_Lines_Left_c3_w @C.catnapref8_Lines_Left_r1_w) (And.intro @C.catnapref8_Lines_Left_c4_w @C.catnapref8_Lines_Left_r0_w))
def C.catnapref8_Lines_Left_B := And.intro (And.intro @C.catnapref8_Lines_Left_r3_b.eq_1 @C.catnapref8_Lines_Left_r2_b.eq_1) (And.intro @C.catnapref8_Lines_Left_r1_b.eq_1 @C.catnapref8_Lines_Left_r0_b.eq_1)

def C.conf_Check_r1_b : List IOper := [
 X.o 3 (.makeFunc F.conf_Check_1 [X.s 1]),
 X.o 4 (.makeFunc F.conf_Check_2 [X.s 1]),
 X.o 5 (.makeFunc F.conf_Check_3 [X.s 1]),
 X.o 6 (.makeFunc F.conf_Check_4 [X.s 1]),
 X.o 7 (.makeFunc F.conf_Check_5 [X.s 1]),
 X.o 8 (.makeFunc F.conf_Check_6 [X.s 1]),
 X.o 9 (.makeFunc F.conf_Check_7 [X.s 1]),
 X.o 10 (.makeFunc F.conf_Check_8 [X.s 1]),
 X.o 11 (.buildSlice 1 8 [.nilf] [(0, 1, X.s 3), (1, 1, X.s 4), (2, 1, X.s 5), (3, 1, X.s 6), (4, 1, X.s 7), (5, 1, X.s 8), (6, 1, X.s 9), (7, 1, X.s 10)]),
 X.o 12 (.call F.conf_first [X.s 11]),
 X.m 2 12]
def C.conf_Check_r1 : List IOper := C.conf_Check_r1_b
def C.conf_Check_r1_w := @aopsE _ _ C.conf_Check_r1.eq_1
def C.conf_Check_c1 : ICode := .keep [1] (.seq (.region C.conf_Check_r1) .ret)
def C.conf_Check_c1_w := @awpE _ _ C.conf_Check_c1.eq_1
def C.conf_Check_r0_b : List IOper := [
 X.o 1 (.boxN (X.s 0)),
 X.o 2 (.move (X.i 0))]
def C.conf_Check_r0 : List IOper := C.conf_Check_r0_b
def C.conf_Check_r0_w := @aopsE _ _ C.conf_Check_r0.eq_1
def C.conf_Check : IFunc := ⟨1, [.slot 2], .seq (.region C.conf_Check_r0) C.conf_Check_c1⟩
def C.conf_Check_W := And.intro @C.conf_Check_r1_w (And.intro @C.conf_Check_c1_w @C.conf_Check_r0_w)
def C.conf_Check_B := And.intro @C.conf_Check_r1_b.eq_1 @C.conf_Check_r0_b.eq_1

def C.reset_Lines_find_r4_b : List IOper := [
 X.o 20 (.loadN 4 (X.s 6)),
 X.m 21 7,
 X.n (.storeN 4 (X.s 4) (X.s 20)),
 X.m 5 21]
def C.reset_Lines_find_r4 : List IOper := C.reset_Lines_find_r4_b
def C.reset_Lines_find_r4_w := @aopsE _ _ C.reset_Lines_find_r4.eq_1
def C.reset_Lines_find_c1 : ICode := .keep [4, 6, 7] (.seq (.region C.reset_Lines_find_r4) .ret)
def C.reset_Lines_find_c1_w := @awpE _ _ C.reset_Lines_find_c1.eq_1
def C.reset_Lines_find_r3_b : List IOper := [
 X.m 12 0,
 X.o 13 (.nilchk (X.s 12)),
 X.o 14 (.fldAddr 0 (X.s 13)),
 X.o 15 (.load1 (X.s 14)),
 X.m 16 1,
 X.o 17 (.lookup (.agg [.int .i64 0, .int .i64 0, .bool false, .bool false]) true (X.s 15) (X.s 16)),
 X.m 11 17,
 X.o 18 (.extract (X.s 11) 0),
 X.o 19 (.extract (X.s 11) 1),
 X.o 6 (.alloc [.int .i64 0, .int .i64 0, .bool false, .bool false]),
 X.n (.storeN 4 (X.s 6) (X.s 18)),
 X.m 7 19]
def C.reset_Lines_find_r3 : List IOper := C.reset_Lines_find_r3_b
def C.reset_Lines_find_r3_w := @aopsE _ _ C.reset_Lines_find_r3.eq_1
def C.reset_Lines_find_c2 : ICode := .keep [0, 1, 4] (.seq (.region C.reset_Lines_find_r3) C.reset_Lines_find_c1)
def C.reset_Lines_find_c2_w := @awpE _ _ C.reset_Lines_find_c2.eq_1
def C.reset_Lines_find_r2_b : List IOper := [
 X.o 10 (.build [.int .i64 0, .int .i64 0, .bool false, .bool false] []),
 X.n (.storeN 4 (X.s 4) (X.s 10)),
 X.o 5 (.move (.cst (.bool false)))]
def C.reset_Lines_find_r2 : List IOper := C.reset_Lines_find_r2_b
def C.reset_Lines_find_r2_w := @aopsE _ _ C.reset_Lines_find_r2.eq_1
def C.reset_Lines_find_c3 : ICode := .seq (.region C.reset_Lines_find_r2) .ret
def C.reset_Lines_find_c3_w := @awpE _ _ C.reset_Lines_find_c3.eq_1
def C.reset_Lines_find_c4 : ICode := .keep [0, 1, 4, 9] (.cond (X.s 9) C.reset_Lines_find_c3 .skip)
def C.reset_Lines_find_c4_w := @awpE _ _ C.reset_Lines_find_c4.eq_1
def C.reset_Lines_find_r1_b : List IOper := [
 X.m 8 0,
 X.o 9 (.eqP 0 false (X.s 8) (.cst (.nilp)))]
def C.reset_Lines_find_r1 : List IOper := C.reset_Lines_find_r1_b
def C.reset_Lines_find_r1_w := @aopsE _ _ C.reset_Lines_find_r1.eq_1
def C.reset_Lines_find_c5 : ICode := .keep [0, 1, 4] (.seq (.seq (.region C.reset_Lines_find_r1) C.reset_Lines_find_c4) C.reset_Lines_find_c2)
def C.reset_Lines_find_c5_w := @awpE _ _ C.reset_Lines_find_c5.eq_1
def C.reset_Lines_find_r0_b : List IOper := [
 X.o 4 (.alloc [.int .i64 0, .int .i64 0, .bool false, .bool false]),
 X.o 5 (.move (.cst (.bool false)))]
def C.reset_Lines_find_r0 : List IOper := C.reset_Lines_find_r0_b
def C.reset_Lines_find_r0_w := @aopsE _ _ C.reset_Lines_find_r0.eq_1
def C.reset_Lines_find : IFunc := ⟨2, [.cellN 4 4, .slot 5], .seq (.region C.reset_Lines_find_r0) C.reset_Lines_find_c5⟩
def C.reset_Lines_find_W := And.intro (And.intro (And.intro @C.reset_Lines_find_r4_w @C.reset_Lines_find_c1_w) (And.intro @C.reset_Lines_find_r3_w (And.intro @C.reset_Lines_find_c2_w @C.reset_Lines_find_r2_w))) (And.intro (And.intro @C.reset_Lines_find_c3_w @C.reset_Lines_find_c4_w) (And.intro @C.reset_Lines_find_r1_w (And.intro @C.reset_Lines_find_c5_w @C.reset_Lines_find_r0_w)))
def C.reset_Lines_find_B := And.intro (And.intro @C.reset_Lines_find_r4_b.eq_1 @C.reset_Lines_find_r3_b.eq_1) (And.intro @C.reset_Lines_find_r2_b.eq_1 (And.intro @C.reset_Lines_find_r1_b.eq_1 @C.reset_Lines_find_r0_b.eq_1))

def C.catnapref4_Check_r14_b : List IOper := [
 X.o 33 (.loadN 4 (X.s 1)),
 X.o 34 (.call F.catnapref4_devices [X.s 33]),
 X.m 2 34]
def C.catnapref4_Check_r14 : List IOper := C.catnapref4_Check_r14_b
def C.catnapref4_Check_r14_w := @aopsE _ _ C.catnapref4_Check_r14.eq_1
def C.catnapref4_Check_c1 : ICode := .keep [1] (.seq (.region C.catnapref4_Check_r14) .ret)
def C.catnapref4_Check_c1_w := @awpE _ _ C.catnapref4_Check_c1.eq_1
def C.catnapref4_Check_r11_b : List IOper := [
 X.m 23 4,
 X.o 24 (.bin .add (X.s 23) (X.i 1)),
 X.m 4 24]
def C.catnapref4_Check_r11 : List IOper := C.catnapref4_Check_r11_b
def C.catnapref4_Check_r11_w := @aopsE _ _ C.catnapref4_Check_r11.eq_1
def C.catnapref4_Check_c2 : ICode := .keep [1, 4] (.region C.catnapref4_Check_r11)
def C.catnapref4_Check_c2_w := @awpE _ _ C.catnapref4_Check_c2.eq_1
def C.catnapref4_Check_r13_b : List IOper := [
 X.o 2 (.move (X.i 3))]
def C.catnapref4_Check_r13 : List IOper := C.catnapref4_Check_r13_b
def C.catnapref4_Check_r13_w := @aopsE _ _ C.catnapref4_Check_r13.eq_1
def C.catnapref4_Check_c3 : ICode := .seq (.region C.catnapref4_Check_r13) .ret
def C.catnapref4_Check_c3_w := @awpE _ _ C.catnapref4_Check_c3.eq_1
def C.catnapref4_Check_c4 : ICode := .keep [1, 4, 32] (.cond (X.s 32) C.catnapref4_Check_c3 .skip)
def C.catnapref4_Check_c4_w := @awpE _ _ C.catnapref4_Check_c4.eq_1
def C.catnapref4_Check_r12_b : List IOper := [
 X.o 25 (.fldAddr 2 (X.s 1)),
 X.o 26 (.load1 (X.s 25)),
 X.m 27 4,
 X.o 28 (.idxAddr 1 (X.s 26) (X.s 27)),
 X.o 29 (.fldAddr 0 (X.s 28)),
 X.o 30 (.load1 (X.s 29)),
 X.o 31 (.call F.catnapref4_within [X.s 30, X.i 0, X.i 20]),
 X.o 32 (.un .not (X.s 31))]
def C.catnapref4_Check_r12 : List IOper := C.catnapref4_Check_r12_b
def C.catnapref4_Check_r12_w := @aopsE _ _ C.catnapref4_Check_r12.eq_1
def C.catnapref4_Check_b5 : ICode := .seq (.region C.catnapref4_Check_r12) C.catnapref4_Check_c4
def C.catnapref4_Check_b5_w := @awpE _ _ C.catnapref4_Check_b5.eq_1
def C.catnapref4_Check_c6 : ICode := .keep [1, 4] (.seq (.block 1 C.catnapref4_Check_b5) C.catnapref4_Check_c2)
def C.catnapref4_Check_c6_w := @awpE _ _ C.catnapref4_Check_c6.eq_1
def C.catnapref4_Check_c7 : ICode := .keep [1, 4, 22] (.cond (X.s 22) .skip (.exit 0))
def C.catnapref4_Check_c7_w := @awpE _ _ C.catnapref4_Check_c7.eq_1
def C.catnapref4_Check_r10_b : List IOper := [
 X.m 18 4,
 X.o 19 (.fldAddr 2 (X.s 1)),
 X.o 20 (.load1 (X.s 19)),
 X.o 21 (.len (X.s 20)),
 X.o 22 (.bin .lss (X.s 18) (X.s 21))]
def C.catnapref4_Check_r10 : List IOper := C.catnapref4_Check_r10_b
def C.catnapref4_Check_r10_w := @aopsE _ _ C.catnapref4_Check_r10.eq_1
def C.catnapref4_Check_l8 : ICode := .keep [1, 4] (.seq (.seq (.region C.catnapref4_Check_r10) C.catnapref4_Check_c7) C.catnapref4_Check_c6)
def C.catnapref4_Check_l8_w := @awpE _ _ C.catnapref4_Check_l8.eq_1
def C.catnapref4_Check_b9 : ICode := .loop C.catnapref4_Check_l8
def C.catnapref4_Check_b9_w := @awpE _ _ C.catnapref4_Check_b9.eq_1
def C.catnapref4_Check_c10 : ICode := .keep [1, 4] (.block 0 C.catnapref4_Check_b9)
def C.catnapref4_Check_c10_w := @awpE _ _ C.catnapref4_Check_c10.eq_1
def C.catnapref4_Check_r9_b : List IOper := [
 X.o 4 (.move (X.i 0))]
def C.catnapref4_Check_r9 : List IOper := C.catnapref4_Check_r9_b
def C.catnapref4_Check_r9_w := @aopsE _ _ C.catnapref4_Check_r9.eq_1
def C.catnapref4_Check_c11 : ICode := .keep [1] (.seq (.seq (.region C.catnapref4_Check_r9) C.catnapref4_Check_c10) C.catnapref4_Check_c1)
def C.catnapref4_Check_c11_w := @awpE _ _ C.catnapref4_Check_c11.eq_1
def C.catnapref4_Check_r8_b : List IOper := [
 X.m 17 3,
 X.m 2 17]
def C.catnapref4_Check_r8 : List IOper := C.catnapref4_Check_r8_b
def C.catnapref4_Check_r8_w := @aopsE _ _ C.catnapref4_Check_r8.eq_1
def C.catnapref4_Check_c12 : ICode := .seq (.region C.catnapref4_Check_r8) .ret
def C.catnapref4_Check_c12_w := @awpE _ _ C.catnapref4_Check_c12.eq_1
def C.catnapref4_Check_c13 : ICode := .keep [1, 3, 16] (.cond (X.s 16) C.catnapref4_Check_c12 .skip)
def C.catnapref4_Check_c13_w := @awpE _ _ C.catnapref4_Check_c13.eq_1
def C.catnapref4_Check_r7_b : List IOper := [
 X.m 15 3,
 X.o 16 (.bin .neq (X.s 15) (X.i 0))]
def C.catnapref4_Check_r7 : List IOper := C.catnapref4_Check_r7_b
def C.catnapref4_Check_r7_w := @aopsE _ _ C.catnapref4_Check_r7.eq_1
def C.catnapref4_Check_c14 : ICode := .keep [1, 3] (.seq (.seq (.region C.catnapref4_Check_r7) C.catnapref4_Check_c13) C.catnapref4_Check_c11)
def C.catnapref4_Check_c14_w := @awpE _ _ C.catnapref4_Check_c14.eq_1
def C.catnapref4_Check_r6_b : List IOper := [
 X.o 13 (.loadN 4 (X.s 1)),
 X.o 14 (.call F.catnapref4_domains [X.s 13]),
 X.m 3 14]
def C.catnapref4_Check_r6 : List IOper := C.catnapref4_Check_r6_b
def C.catnapref4_Check_r6_w := @aopsE _ _ C.catnapref4_Check_r6.eq_1
def C.catnapref4_Check_c15 : ICode := .keep [1] (.seq (.region C.catnapref4_Check_r6) C.catnapref4_Check_c14)
def C.catnapref4_Check_c15_w := @awpE _ _ C.catnapref4_Check_c15.eq_1
def C.catnapref4_Check_r5_b : List IOper := [
 X.m 12 3,
 X.m 2 12]
def C.catnapref4_Check_r5 : List IOper := C.catnapref4_Check_r5_b
def C.catnapref4_Check_r5_w := @aopsE _ _ C.catnapref4_Check_r5.eq_1
def C.catnapref4_Check_c16 : ICode := .seq (.region C.catnapref4_Check_r5) .ret
def C.catnapref4_Check_c16_w := @awpE _ _ C.catnapref4_Check_c16.eq_1
def C.catnapref4_Check_c17 : ICode := .keep [1, 3, 11] (.cond (X.s 11) C.catnapref4_Check_c16 .skip)
def C.catnapref4_Check_c17_w := @awpE _ _ C.catnapref4_Check_c17.eq_1
def C.catnapref4_Check_r4_b : List IOper := [
 X.m 10 3,
 X.o 11 (.bin .neq (X.s 10) (X.i 0))]
def C.catnapref4_Check_r4 : List IOper := C.catnapref4_Check_r4_b
def C.catnapref4_Check_r4_w := @aopsE _ _ C.catnapref4_Check_r4.eq_1
def C.catnapref4_Check_c18 : ICode := .keep [1, 3] (.seq (.seq (.region C.catnapref4_Check_r4) C.catnapref4_Check_c17) C.catnapref4_Check_c15)
def C.catnapref4_Check_c18_w := @awpE _ _ C.catnapref4_Check_c18.eq_1
def C.catnapref4_Check_r3_b : List IOper := [
 X.o 8 (.loadN 4 (X.s 1)),
 X.o 9 (.call F.catnapref4_clocks [X.s 8]),
 X.m 3 9]
def C.catnapref4_Check_r3 : List IOper := C.catnapref4_Check_r3_b
def C.catnapref4_Check_r3_w := @aopsE _ _ C.catnapref4_Check_r3.eq_1
def C.catnapref4_Check_c19 : ICode := .keep [1] (.seq (.region C.catnapref4_Check_r3) C.catnapref4_Check_c18)
def C.catnapref4_Check_c19_w := @awpE _ _ C.catnapref4_Check_c19.eq_1
def C.catnapref4_Check_r2_b : List IOper := [
 X.o 2 (.move (X.i 8))]
def C.catnapref4_Check_r2 : List IOper := C.catnapref4_Check_r2_b
def C.catnapref4_Check_r2_w := @aopsE _ _ C.catnapref4_Check_r2.eq_1
def C.catnapref4_Check_c20 : ICode := .seq (.region C.catnapref4_Check_r2) .ret
def C.catnapref4_Check_c20_w := @awpE _ _ C.catnapref4_Check_c20.eq_1
def C.catnapref4_Check_c21 : ICode := .keep [1, 7] (.cond (X.s 7) C.catnapref4_Check_c20 .skip)
def C.catnapref4_Check_c21_w := @awpE _ _ C.catnapref4_Check_c21.eq_1
def C.catnapref4_Check_r1_b : List IOper := [
 X.o 5 (.loadN 4 (X.s 1)),
 X.o 6 (.call F.catnapref4_counts [X.s 5]),
 X.o 7 (.un .not (X.s 6))]
def C.catnapref4_Check_r1 : List IOper := C.catnapref4_Check_r1_b
def C.catnapref4_Check_r1_w := @aopsE _ _ C.catnapref4_Check_r1.eq_1
def C.catnapref4_Check_c22 : ICode := .keep [1] (.seq (.seq (.region C.catnapref4_Check_r1) C.catnapref4_Check_c21) C.catnapref4_Check_c19)
def C.catnapref4_Check_c22_w := @awpE _ _ C.catnapref4_Check_c22.eq_1
def C.catnapref4_Check_r0_b : List IOper := [
 X.o 1 (.boxN (X.s 0)),
 X.o 2 (.move (X.i 0))]
def C.catnapref4_Check_r0 : List IOper := C.catnapref4_Check_r0_b
def C.catnapref4_Check_r0_w := @aopsE _ _ C.catnapref4_Check_r0.eq_1
def C.catnapref4_Check : IFunc := ⟨1, [.slot 2], .seq (.region C.catnapref4_Check_r0) C.catnapref4_Check_c22⟩
def C.catnapref4_Check_W := And.intro (And.intro (And.intro (And.intro (And.intro @C.catnapref4_Check_r14_w @C.catnapref4_Check_c1_w) (And.intro @C.catnapref4_Check_r11_w @C.catnapref4_Check_c2_w)) (And.intro (And.intro @C.catnapref4_Check_r13_w @C.catnapref4_Check_c3_w) (And.intro @C.catnapref4_Check_c4_w (And.intro @C.catnapref4_Check_r12_w @C.catnapref4_Check_b5_w)))) (And.intro (And.intro (And.intro @C.catnapref4_Check_c6_w @C.catnapref4_Check_c7_w) (And.intro @C.catnapref4_Check_r10_w @C.catnapref4_Check_b9_w)) (And.intro (And.intro @C.catnapref4_Check_c10_w @C.catnapref4_Check_r9_w) (And.intro @C.catnapref4_Check_c11_w (And.intro @C.catnapref4_Check_r8_w @C.catnapref4_Check_c12_w))))) (And.intro (And.intro (And.intro (And.intro @C.catnapref4_Check_c13_w @C.catnapref4_Check_r7_w) (And.intro @C.catnapref4_Check_c14_w @C.catnapref4_Check_r6_w)) (And.intro (And.intro @C.catnapref4_Check_c15_w @C.catnapref4_Check_r5_w) (And.intro @C.catnapref4_Check_c16_w (And.intro @C.catnapref4_Check_c17_w @C.catnapref4_Check_r4_w)))) (And.intro (And.intro (And.intro @C.catnapref4_Check_c18_w @C.catnapref4_Check_r3_w) (And.intro @C.catnapref4_Check_c19_w @C.catnapref4_Check_r2_w)) (And.intro (And.intro @C.catnapref4_Check_c20_w @C.catnapref4_Check_c21_w) (And.intro @C.catnapref4_Check_r1_w (And.intro @C.catnapref4_Check_c22_w @C.catnapref4_Check_r0_w)))))
def C.catnapref4_Check_B := And.intro (And.intro (And.intro @C.catnapref4_Check_r14_b.eq_1 (And.intro @C.catnapref4_Check_r11_b.eq_1 @C.catnapref4_Check_r13_b.eq_1)) (And.intro (And.intro @C.catnapref4_Check_r12_b.eq_1 @C.catnapref4_Check_r10_b.eq_1) (And.intro @C.catnapref4_Check_r9_b.eq_1 @C.catnapref4_Check_r8_b.eq_1))) (And.intro (And.intro (And.intro @C.catnapref4_Check_r7_b.eq_1 @C.catnapref4_Check_r6_b.eq_1) (And.intro @C.catnapref4_Check_r5_b.eq_1 @C.catnapref4_Check_r4_b.eq_1)) (And.intro (And.intro @C.catnapref4_Check_r3_b.eq_1 @C.catnapref4_Check_r2_b.eq_1) (And.intro @C.catnapref4_Check_r1_b.eq_1 @C.catnapref4_Check_r0_b.eq_1)))

def C.conf_first_r8_b : List IOper := [
 X.o 2 (.move (X.i 0))]
def C.conf_first_r8 : List IOper := C.conf_first_r8_b
def C.conf_first_r8_w := @aopsE _ _ C.conf_first_r8.eq_1
def C.conf_first_c1 : ICode := .keep [] (.seq (.region C.conf_first_r8) .ret)
def C.conf_first_c1_w := @awpE _ _ C.conf_first_c1.eq_1
def C.conf_first_r7_b : List IOper := [
 X.o 17 (.bin .add (X.s 8) (X.i 1)),
 X.m 8 17]
def C.conf_first_r7 : List IOper := C.conf_first_r7_b
def C.conf_first_r7_w := @aopsE _ _ C.conf_first_r7.eq_1
def C.conf_first_c2 : ICode := .keep [6, 7, 8] (.region C.conf_first_r7)
def C.conf_first_c2_w := @awpE _ _ C.conf_first_c2.eq_1
def C.conf_first_r6_b : List IOper := [
 X.m 16 5,
 X.m 2 16]
def C.conf_first_r6 : List IOper := C.conf_first_r6_b
def C.conf_first_r6_w := @aopsE _ _ C.conf_first_r6.eq_1
def C.conf_first_c3 : ICode := .seq (.region C.conf_first_r6) .ret
def C.conf_first_c3_w := @awpE _ _ C.conf_first_c3.eq_1
def C.conf_first_c4 : ICode := .keep [5, 6, 7, 8, 15] (.cond (X.s 15) C.conf_first_c3 .skip)
def C.conf_first_c4_w := @awpE _ _ C.conf_first_c4.eq_1
def C.conf_first_r5_b : List IOper := [
 X.m 14 5,
 X.o 15 (.bin .neq (X.s 14) (X.i 0))]
def C.conf_first_r5 : List IOper := C.conf_first_r5_b
def C.conf_first_r5_w := @aopsE _ _ C.conf_first_r5.eq_1
def C.conf_first_c5 : ICode := .keep [5, 6, 7, 8] (.seq (.region C.conf_first_r5) C.conf_first_c4)
def C.conf_first_c5_w := @awpE _ _ C.conf_first_c5.eq_1
def C.conf_first_r4_b : List IOper := [
 X.m 12 4,
 X.o 13 (.callv (X.s 12) []),
 X.m 5 13]
def C.conf_first_r4 : List IOper := C.conf_first_r4_b
def C.conf_first_r4_w := @aopsE _ _ C.conf_first_r4.eq_1
def C.conf_first_c6 : ICode := .keep [4, 6, 7, 8] (.seq (.region C.conf_first_r4) C.conf_first_c5)
def C.conf_first_c6_w := @awpE _ _ C.conf_first_c6.eq_1
def C.conf_first_r3_b : List IOper := [
 X.o 10 (.idxAddr 1 (X.s 6) (X.s 8)),
 X.o 11 (.load1 (X.s 10)),
 X.m 4 11]
def C.conf_first_r3 : List IOper := C.conf_first_r3_b
def C.conf_first_r3_w := @aopsE _ _ C.conf_first_r3.eq_1
def C.conf_first_b7 : ICode := .seq (.region C.conf_first_r3) C.conf_first_c6
def C.conf_first_b7_w := @awpE _ _ C.conf_first_b7.eq_1
def C.conf_first_c8 : ICode := .keep [6, 7, 8] (.seq (.block 1 C.conf_first_b7) C.conf_first_c2)
def C.conf_first_c8_w := @awpE _ _ C.conf_first_c8.eq_1
def C.conf_first_c9 : ICode := .keep [6, 7, 8, 9] (.seq (.cond (X.s 9) .skip (.exit 0)) C.conf_first_c8)
def C.conf_first_c9_w := @awpE _ _ C.conf_first_c9.eq_1
def C.conf_first_r2_b : List IOper := [
 X.o 9 (.bin .lss (X.s 8) (X.s 7))]
def C.conf_first_r2 : List IOper := C.conf_first_r2_b
def C.conf_first_r2_w := @aopsE _ _ C.conf_first_r2.eq_1
def C.conf_first_l10 : ICode := .keep [6, 7, 8] (.seq (.region C.conf_first_r2) C.conf_first_c9)
def C.conf_first_l10_w := @awpE _ _ C.conf_first_l10.eq_1
def C.conf_first_b11 : ICode := .loop C.conf_first_l10
def C.conf_first_b11_w := @awpE _ _ C.conf_first_b11.eq_1
def C.conf_first_c12 : ICode := .keep [6, 7, 8] (.block 0 C.conf_first_b11)
def C.conf_first_c12_w := @awpE _ _ C.conf_first_c12.eq_1
def C.conf_first_r1_b : List IOper := [
 X.m 6 0,
 X.o 7 (.len (X.s 6)),
 X.o 8 (.move (X.i 0))]
def C.conf_first_r1 : List IOper := C.conf_first_r1_b
def C.conf_first_r1_w := @aopsE _ _ C.conf_first_r1.eq_1
def C.conf_first_c13 : ICode := .keep [0] (.seq (.seq (.region C.conf_first_r1) C.conf_first_c12) C.conf_first_c1)
def C.conf_first_c13_w := @awpE _ _ C.conf_first_c13.eq_1
def C.conf_first_r0_b : List IOper := [
 X.o 2 (.move (X.i 0))]
def C.conf_first_r0 : List IOper := C.conf_first_r0_b
def C.conf_first_r0_w := @aopsE _ _ C.conf_first_r0.eq_1
def C.conf_first : IFunc := ⟨1, [.slot 2], .seq (.region C.conf_first_r0) C.conf_first_c13⟩
def C.conf_first_W := And.intro (And.intro (And.intro (And.intro @C.conf_first_r8_w @C.conf_first_c1_w) (And.intro @C.conf_first_r7_w (And.intro @C.conf_first_c2_w @C.conf_first_r6_w))) (And.intro (And.intro @C.conf_first_c3_w @C.conf_first_c4_w) (And.intro @C.conf_first_r5_w (And.intro @C.conf_first_c5_w @C.conf_first_r4_w)))) (And.intro (And.intro (And.intro @C.conf_first_c6_w @C.conf_first_r3_w) (And.intro @C.conf_first_b7_w (And.intro @C.conf_first_c8_w @C.conf_first_c9_w))) (And.intro (And.intro @C.conf_first_r2_w (And.intro @C.conf_first_b11_w @C.conf_first_c12_w)) (And.intro @C.conf_first_r1_w (And.intro @C.conf_first_c13_w @C.conf_first_r0_w))))
def C.conf_first_B := And.intro (And.intro (And.intro @C.conf_first_r8_b.eq_1 @C.conf_first_r7_b.eq_1) (And.intro @C.conf_first_r6_b.eq_1 @C.conf_first_r5_b.eq_1)) (And.intro (And.intro @C.conf_first_r4_b.eq_1 @C.conf_first_r3_b.eq_1) (And.intro @C.conf_first_r2_b.eq_1 (And.intro @C.conf_first_r1_b.eq_1 @C.conf_first_r0_b.eq_1)))

def C.conf_Check_1_r1_b : List IOper := [
 X.o 2 (.loadN 4 (X.s 0)),
 X.o 3 (.call F.conf_full [X.s 2]),
 X.m 1 3]
def C.conf_Check_1_r1 : List IOper := C.conf_Check_1_r1_b
def C.conf_Check_1_r1_w := @aopsE _ _ C.conf_Check_1_r1.eq_1
def C.conf_Check_1_c1 : ICode := .keep [0] (.seq (.region C.conf_Check_1_r1) .ret)
def C.conf_Check_1_c1_w := @awpE _ _ C.conf_Check_1_c1.eq_1
def C.conf_Check_1_r0_b : List IOper := [
 X.o 1 (.move (X.i 0))]
def C.conf_Check_1_r0 : List IOper := C.conf_Check_1_r0_b
def C.conf_Check_1_r0_w := @aopsE _ _ C.conf_Check_1_r0.eq_1
def C.conf_Check_1 : IFunc := ⟨1, [.slot 1], .seq (.region C.conf_Check_1_r0) C.conf_Check_1_c1⟩
def C.conf_Check_1_W := And.intro @C.conf_Check_1_r1_w (And.intro @C.conf_Check_1_c1_w @C.conf_Check_1_r0_w)
def C.conf_Check_1_B := And.intro @C.conf_Check_1_r1_b.eq_1 @C.conf_Check_1_r0_b.eq_1

def C.conf_full_r3_b : List IOper := [
 X.o 25 (.fldAddr 3 (X.s 1)),
 X.o 26 (.load1 (X.s 25)),
 X.o 27 (.call F.conf_each_api_Device [X.s 26, .fnc F.conf_full_1]),
 X.m 2 27]
def C.conf_full_r3 : List IOper := C.conf_full_r3_b
def C.conf_full_r3_w := @aopsE _ _ C.conf_full_r3.eq_1
def C.conf_full_c1 : ICode := .keep [1] (.seq (.region C.conf_full_r3) .ret)
def C.conf_full_c1_w := @awpE _ _ C.conf_full_c1.eq_1
def C.conf_full_r2_b : List IOper := [
 X.o 2 (.move (X.i 8))]
def C.conf_full_r2 : List IOper := C.conf_full_r2_b
def C.conf_full_r2_w := @aopsE _ _ C.conf_full_r2.eq_1
def C.conf_full_c2 : ICode := .seq (.region C.conf_full_r2) .ret
def C.conf_full_c2_w := @awpE _ _ C.conf_full_c2.eq_1
def C.conf_full_c3 : ICode := .keep [1, 24] (.cond (X.s 24) C.conf_full_c2 .skip)
def C.conf_full_c3_w := @awpE _ _ C.conf_full_c3.eq_1
def C.conf_full_r1_b : List IOper := [
 X.o 3 (.fldAddr 0 (X.s 1)),
 X.o 4 (.load1 (X.s 3)),
 X.o 5 (.len (X.s 4)),
 X.o 6 (.bin .gtr (X.s 5) (X.i 12)),
 X.m 7 6,
 X.f 7 8 (.fldAddr 1 (X.s 1)),
 X.f 7 9 (.load1 (X.s 8)),
 X.f 7 10 (.len (X.s 9)),
 X.f 7 11 (.bin .gtr (X.s 10) (X.i 6)),
 X.o 12 (.pick (X.s 7) (.cst (.bool true)) (X.s 11)),
 X.m 13 12,
 X.f 13 14 (.fldAddr 2 (X.s 1)),
 X.f 13 15 (.load1 (X.s 14)),
 X.f 13 16 (.len (X.s 15)),
 X.f 13 17 (.bin .gtr (X.s 16) (X.i 6)),
 X.o 18 (.pick (X.s 13) (.cst (.bool true)) (X.s 17)),
 X.m 19 18,
 X.f 19 20 (.fldAddr 3 (X.s 1)),
 X.f 19 21 (.load1 (X.s 20)),
 X.f 19 22 (.len (X.s 21)),
 X.f 19 23 (.bin .gtr (X.s 22) (X.i 6)),
 X.o 24 (.pick (X.s 19) (.cst (.bool true)) (X.s 23))]
def C.conf_full_r1 : List IOper := C.conf_full_r1_b
def C.conf_full_r1_w := @aopsE _ _ C.conf_full_r1.eq_1
def C.conf_full_c4 : ICode := .keep [1] (.seq (.seq (.region C.conf_full_r1) C.conf_full_c3) C.conf_full_c1)
def C.conf_full_c4_w := @awpE _ _ C.conf_full_c4.eq_1
def C.conf_full_r0_b : List IOper := [
 X.o 1 (.boxN (X.s 0)),
 X.o 2 (.move (X.i 0))]
def C.conf_full_r0 : List IOper := C.conf_full_r0_b
def C.conf_full_r0_w := @aopsE _ _ C.conf_full_r0.eq_1
def C.conf_full : IFunc := ⟨1, [.slot 2], .seq (.region C.conf_full_r0) C.conf_full_c4⟩
def C.conf_full_W := And.intro (And.intro (And.intro @C.conf_full_r3_w @C.conf_full_c1_w) (And.intro @C.conf_full_r2_w @C.conf_full_c2_w)) (And.intro (And.intro @C.conf_full_c3_w @C.conf_full_r1_w) (And.intro @C.conf_full_c4_w @C.conf_full_r0_w))
def C.conf_full_B := And.intro (And.intro @C.conf_full_r3_b.eq_1 @C.conf_full_r2_b.eq_1) (And.intro @C.conf_full_r1_b.eq_1 @C.conf_full_r0_b.eq_1)

def C.conf_Check_2_r1_b : List IOper := [
 X.o 2 (.fldAddr 0 (X.s 0)),
 X.o 3 (.load1 (X.s 2)),
 X.o 4 (.makeFunc F.conf_Check_2_1 [X.s 0]),
 X.o 5 (.call F.conf_each_api_Clock [X.s 3, X.s 4]),
 X.m 1 5]
def C.conf_Check_2_r1 : List IOper := C.conf_Check_2_r1_b
def C.conf_Check_2_r1_w := @aopsE _ _ C.conf_Check_2_r1.eq_1
def C.conf_Check_2_c1 : ICode := .keep [0] (.seq (.region C.conf_Check_2_r1) .ret)
def C.conf_Check_2_c1_w := @awpE _ _ C.conf_Check_2_c1.eq_1
def C.conf_Check_2_r0_b : List IOper := [
 X.o 1 (.move (X.i 0))]
def C.conf_Check_2_r0 : List IOper := C.conf_Check_2_r0_b
def C.conf_Check_2_r0_w := @aopsE _ _ C.conf_Check_2_r0.eq_1
def C.conf_Check_2 : IFunc := ⟨1, [.slot 1], .seq (.region C.conf_Check_2_r0) C.conf_Check_2_c1⟩
def C.conf_Check_2_W := And.intro @C.conf_Check_2_r1_w (And.intro @C.conf_Check_2_c1_w @C.conf_Check_2_r0_w)
def C.conf_Check_2_B := And.intro @C.conf_Check_2_r1_b.eq_1 @C.conf_Check_2_r0_b.eq_1

def C.conf_each_api_Clock_r8_b : List IOper := [
 X.o 4 (.move (X.i 0))]
def C.conf_each_api_Clock_r8 : List IOper := C.conf_each_api_Clock_r8_b
def C.conf_each_api_Clock_r8_w := @aopsE _ _ C.conf_each_api_Clock_r8.eq_1
def C.conf_each_api_Clock_c1 : ICode := .keep [] (.seq (.region C.conf_each_api_Clock_r8) .ret)
def C.conf_each_api_Clock_c1_w := @awpE _ _ C.conf_each_api_Clock_c1.eq_1
def C.conf_each_api_Clock_r7_b : List IOper := [
 X.o 20 (.bin .add (X.s 10) (X.i 1)),
 X.m 10 20]
def C.conf_each_api_Clock_r7 : List IOper := C.conf_each_api_Clock_r7_b
def C.conf_each_api_Clock_r7_w := @aopsE _ _ C.conf_each_api_Clock_r7.eq_1
def C.conf_each_api_Clock_c2 : ICode := .keep [1, 8, 9, 10] (.region C.conf_each_api_Clock_r7)
def C.conf_each_api_Clock_c2_w := @awpE _ _ C.conf_each_api_Clock_c2.eq_1
def C.conf_each_api_Clock_r6_b : List IOper := [
 X.m 19 7,
 X.m 4 19]
def C.conf_each_api_Clock_r6 : List IOper := C.conf_each_api_Clock_r6_b
def C.conf_each_api_Clock_r6_w := @aopsE _ _ C.conf_each_api_Clock_r6.eq_1
def C.conf_each_api_Clock_c3 : ICode := .seq (.region C.conf_each_api_Clock_r6) .ret
def C.conf_each_api_Clock_c3_w := @awpE _ _ C.conf_each_api_Clock_c3.eq_1
def C.conf_each_api_Clock_c4 : ICode := .keep [1, 7, 8, 9, 10, 18] (.cond (X.s 18) C.conf_each_api_Clock_c3 .skip)
def C.conf_each_api_Clock_c4_w := @awpE _ _ C.conf_each_api_Clock_c4.eq_1
def C.conf_each_api_Clock_r5_b : List IOper := [
 X.m 17 7,
 X.o 18 (.bin .neq (X.s 17) (X.i 0))]
def C.conf_each_api_Clock_r5 : List IOper := C.conf_each_api_Clock_r5_b
def C.conf_each_api_Clock_r5_w := @aopsE _ _ C.conf_each_api_Clock_r5.eq_1
def C.conf_each_api_Clock_c5 : ICode := .keep [1, 7, 8, 9, 10] (.seq (.region C.conf_each_api_Clock_r5) C.conf_each_api_Clock_c4)
def C.conf_each_api_Clock_c5_w := @awpE _ _ C.conf_each_api_Clock_c5.eq_1
def C.conf_each_api_Clock_r4_b : List IOper := [
 X.m 14 1,
 X.o 15 (.loadN 6 (X.s 6)),
 X.o 16 (.callv (X.s 14) [X.s 15]),
 X.m 7 16]
def C.conf_each_api_Clock_r4 : List IOper := C.conf_each_api_Clock_r4_b
def C.conf_each_api_Clock_r4_w := @aopsE _ _ C.conf_each_api_Clock_r4.eq_1
def C.conf_each_api_Clock_c6 : ICode := .keep [1, 6, 8, 9, 10] (.seq (.region C.conf_each_api_Clock_r4) C.conf_each_api_Clock_c5)
def C.conf_each_api_Clock_c6_w := @awpE _ _ C.conf_each_api_Clock_c6.eq_1
def C.conf_each_api_Clock_r3_b : List IOper := [
 X.o 12 (.idxAddr 6 (X.s 8) (X.s 10)),
 X.o 13 (.loadN 6 (X.s 12)),
 X.o 6 (.alloc [.int .u8 0, .nils, .int .u64 0, .int .i64 0, .int .i64 0, .int .i64 0]),
 X.n (.storeN 6 (X.s 6) (X.s 13))]
def C.conf_each_api_Clock_r3 : List IOper := C.conf_each_api_Clock_r3_b
def C.conf_each_api_Clock_r3_w := @aopsE _ _ C.conf_each_api_Clock_r3.eq_1
def C.conf_each_api_Clock_b7 : ICode := .seq (.region C.conf_each_api_Clock_r3) C.conf_each_api_Clock_c6
def C.conf_each_api_Clock_b7_w := @awpE _ _ C.conf_each_api_Clock_b7.eq_1
def C.conf_each_api_Clock_c8 : ICode := .keep [1, 8, 9, 10] (.seq (.block 1 C.conf_each_api_Clock_b7) C.conf_each_api_Clock_c2)
def C.conf_each_api_Clock_c8_w := @awpE _ _ C.conf_each_api_Clock_c8.eq_1
def C.conf_each_api_Clock_c9 : ICode := .keep [1, 8, 9, 10, 11] (.seq (.cond (X.s 11) .skip (.exit 0)) C.conf_each_api_Clock_c8)
def C.conf_each_api_Clock_c9_w := @awpE _ _ C.conf_each_api_Clock_c9.eq_1
def C.conf_each_api_Clock_r2_b : List IOper := [
 X.o 11 (.bin .lss (X.s 10) (X.s 9))]
def C.conf_each_api_Clock_r2 : List IOper := C.conf_each_api_Clock_r2_b
def C.conf_each_api_Clock_r2_w := @aopsE _ _ C.conf_each_api_Clock_r2.eq_1
def C.conf_each_api_Clock_l10 : ICode := .keep [1, 8, 9, 10] (.seq (.region C.conf_each_api_Clock_r2) C.conf_each_api_Clock_c9)
def C.conf_each_api_Clock_l10_w := @awpE _ _ C.conf_each_api_Clock_l10.eq_1
def C.conf_each_api_Clock_b11 : ICode := .loop C.conf_each_api_Clock_l10
def C.conf_each_api_Clock_b11_w := @awpE _ _ C.conf_each_api_Clock_b11.eq_1
def C.conf_each_api_Clock_c12 : ICode := .keep [1, 8, 9, 10] (.block 0 C.conf_each_api_Clock_b11)
def C.conf_each_api_Clock_c12_w := @awpE _ _ C.conf_each_api_Clock_c12.eq_1
def C.conf_each_api_Clock_r1_b : List IOper := [
 X.m 8 0,
 X.o 9 (.len (X.s 8)),
 X.o 10 (.move (X.i 0))]
def C.conf_each_api_Clock_r1 : List IOper := C.conf_each_api_Clock_r1_b
def C.conf_each_api_Clock_r1_w := @aopsE _ _ C.conf_each_api_Clock_r1.eq_1
def C.conf_each_api_Clock_c13 : ICode := .keep [0, 1] (.seq (.seq (.region C.conf_each_api_Clock_r1) C.conf_each_api_Clock_c12) C.conf_each_api_Clock_c1)
def C.conf_each_api_Clock_c13_w := @awpE _ _ C.conf_each_api_Clock_c13.eq_1
def C.conf_each_api_Clock_r0_b : List IOper := [
 X.o 4 (.move (X.i 0))]
def C.conf_each_api_Clock_r0 : List IOper := C.conf_each_api_Clock_r0_b
def C.conf_each_api_Clock_r0_w := @aopsE _ _ C.conf_each_api_Clock_r0.eq_1
def C.conf_each_api_Clock : IFunc := ⟨2, [.slot 4], .seq (.region C.conf_each_api_Clock_r0) C.conf_each_api_Clock_c13⟩
def C.conf_each_api_Clock_W := And.intro (And.intro (And.intro (And.intro @C.conf_each_api_Clock_r8_w @C.conf_each_api_Clock_c1_w) (And.intro @C.conf_each_api_Clock_r7_w (And.intro @C.conf_each_api_Clock_c2_w @C.conf_each_api_Clock_r6_w))) (And.intro (And.intro @C.conf_each_api_Clock_c3_w @C.conf_each_api_Clock_c4_w) (And.intro @C.conf_each_api_Clock_r5_w (And.intro @C.conf_each_api_Clock_c5_w @C.conf_each_api_Clock_r4_w)))) (And.intro (And.intro (And.intro @C.conf_each_api_Clock_c6_w @C.conf_each_api_Clock_r3_w) (And.intro @C.conf_each_api_Clock_b7_w (And.intro @C.conf_each_api_Clock_c8_w @C.conf_each_api_Clock_c9_w))) (And.intro (And.intro @C.conf_each_api_Clock_r2_w (And.intro @C.conf_each_api_Clock_b11_w @C.conf_each_api_Clock_c12_w)) (And.intro @C.conf_each_api_Clock_r1_w (And.intro @C.conf_each_api_Clock_c13_w @C.conf_each_api_Clock_r0_w))))
def C.conf_each_api_Clock_B := And.intro (And.intro (And.intro @C.conf_each_api_Clock_r8_b.eq_1 @C.conf_each_api_Clock_r7_b.eq_1) (And.intro @C.conf_each_api_Clock_r6_b.eq_1 @C.conf_each_api_Clock_r5_b.eq_1)) (And.intro (And.intro @C.conf_each_api_Clock_r4_b.eq_1 @C.conf_each_api_Clock_r3_b.eq_1) (And.intro @C.conf_each_api_Clock_r2_b.eq_1 (And.intro @C.conf_each_api_Clock_r1_b.eq_1 @C.conf_each_api_Clock_r0_b.eq_1)))

end Go.Proofs.Ytkabdilikndhbaa.Cn
