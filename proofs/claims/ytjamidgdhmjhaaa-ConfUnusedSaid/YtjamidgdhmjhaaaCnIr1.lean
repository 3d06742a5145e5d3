/- The intermediate code of the functions, printed by a program out of the loaded program; that it is theirs is checked in the text of links. -/
import Derived.Test.YtjamidgdhmjhaaaCnL2
set_option linter.defProp false
namespace Go.Proofs.Ytjamidgdhmjhaaa.Cn
open Go
variable {P : Program} {Q : IExit → AFr → ASt → Prop} {fr : AFr} {st : ASt}

abbrev F.main_main : Nat := 0
abbrev F.gosem_cut : Nat := 1
abbrev F.gosem_cut_init : Nat := 2
abbrev F.catnaplaw4_ConfFaults : Nat := 3
abbrev F.catnaplaw4_ConfGraphs : Nat := 4
abbrev F.catnaplaw4_ConfFirst : Nat := 5
abbrev F.catnaplaw4_ConfRight : Nat := 6
abbrev F.catnaplaw4_ConfCopies : Nat := 7
abbrev F.catnaplaw4_ConfUnused : Nat := 8
abbrev F.catnaplaw4_shown : Nat := 9
abbrev F.catnaplaw4_chip : Nat := 10
abbrev F.catnaplaw4_pick : Nat := 11
abbrev F.conf_Check : Nat := 12
abbrev F.conf_Clocks : Nat := 13
abbrev F.conf_Domains : Nat := 14
abbrev F.conf_Needs : Nat := 15
abbrev F.graph_Order : Nat := 16
abbrev F.conf_Copy : Nat := 17
abbrev F.conf_Same : Nat := 18
abbrev F.conf_first : Nat := 19
abbrev F.conf_Check_1 : Nat := 20
abbrev F.conf_full : Nat := 21
abbrev F.conf_Check_2 : Nat := 22
abbrev F.conf_each_api_Clock : Nat := 23
abbrev F.conf_Check_2_1 : Nat := 24
abbrev F.conf_clock : Nat := 25
abbrev F.conf_Check_3 : Nat := 26
abbrev F.conf_cycle : Nat := 27
abbrev F.conf_Check_4 : Nat := 28
abbrev F.conf_each_api_Domain : Nat := 29
abbrev F.conf_Check_4_1 : Nat := 30
abbrev F.conf_domain : Nat := 31
abbrev F.conf_Check_5 : Nat := 32
abbrev F.conf_Check_6 : Nat := 33
abbrev F.conf_each_api_Reset : Nat := 34
abbrev F.conf_reset : Nat := 35
abbrev F.conf_Check_7 : Nat := 36
abbrev F.conf_each_api_Device : Nat := 37
abbrev F.conf_Check_7_1 : Nat := 38
abbrev F.conf_device : Nat := 39
abbrev F.conf_Check_8 : Nat := 40
abbrev F.conf_own_int : Nat := 41
abbrev F.graph_numbers : Nat := 42
abbrev F.graph_hang : Nat := 43
abbrev F.graph_marks_has : Nat := 44
abbrev F.graph_marks_add : Nat := 45
abbrev F.conf_own_api_Clock : Nat := 46
abbrev F.conf_own_api_Domain : Nat := 47
abbrev F.conf_own_api_Reset : Nat := 48
abbrev F.conf_own_api_Device : Nat := 49
abbrev F.conf_own_api_Reg : Nat := 50
abbrev F.slices_EqualFunc_api_Clock_api_Clock_api_Clock_api_Clock : Nat := 51
abbrev F.conf_sameClock : Nat := 52
abbrev F.slices_Equal_api_Domain_api_Domain : Nat := 53
abbrev F.slices_Equal_api_Reset_api_Reset : Nat := 54
abbrev F.slices_EqualFunc_api_Device_api_Device_api_Device_api_Device : Nat := 55
abbrev F.conf_sameDevice : Nat := 56
abbrev F.conf_full_1 : Nat := 57
abbrev F.conf_when : Nat := 58
abbrev F.conf_clock_1 : Nat := 59
abbrev F.conf_shape : Nat := 60
abbrev F.conf_clock_2 : Nat := 61
abbrev F.conf_each_int : Nat := 62
abbrev F.conf_clock_2_1 : Nat := 63
abbrev F.conf_within : Nat := 64
abbrev F.conf_clock_3 : Nat := 65
abbrev F.conf_numbers : Nat := 66
abbrev F.graph_Check : Nat := 67
abbrev F.conf_domain_1 : Nat := 68
abbrev F.conf_domain_2 : Nat := 69
abbrev F.conf_device_1 : Nat := 70
abbrev F.conf_device_2 : Nat := 71
abbrev F.conf_device_3 : Nat := 72
abbrev F.conf_device_4 : Nat := 73
abbrev F.conf_device_4_1 : Nat := 74
abbrev F.slices_Equal_int_int : Nat := 75
abbrev F.slices_Equal_api_Reg_api_Reg : Nat := 76
abbrev F.runtime_boundsError_Error : Nat := 77
abbrev F.runtime_boundsError_RuntimeError : Nat := 78
abbrev F.runtime_errorString_Error : Nat := 79
abbrev F.runtime_errorString_RuntimeError : Nat := 80
abbrev F.runtime_plainError_Error : Nat := 81
abbrev F.runtime_plainError_RuntimeError : Nat := 82
abbrev F.runtime_errorAddressString_Error : Nat := 83
abbrev F.runtime_errorAddressString_RuntimeError : Nat := 84
abbrev F.runtime_TypeAssertionError_Error : Nat := 85
abbrev F.runtime_TypeAssertionError_RuntimeError : Nat := 86
abbrev F.runtime_PanicNilError_Error : Nat := 87
abbrev F.runtime_PanicNilError_RuntimeError : Nat := 88
abbrev F.internal_abi_Type_Align : Nat := 89
abbrev F.internal_runtime_maps_unhashableTypeError_Error : Nat := 90
abbrev F.internal_runtime_maps_unhashableTypeError_RuntimeError : Nat := 91
abbrev F.api_Errno_Error : Nat := 92
abbrev F.internal_abi_Kind_String : Nat := 93

def C.catnaplaw4_ConfFaults_r40_b : List IOper := [
 X.o 129 (.loadN 4 (X.s 8)),
 X.o 130 (.call F.conf_Check [X.s 129]),
 X.m 131 11,
 X.o 132 (.bin .eql (X.s 130) (X.s 131)),
 X.m 6 132]
def C.catnaplaw4_ConfFaults_r40 : List IOper := C.catnaplaw4_ConfFaults_r40_b
def C.catnaplaw4_ConfFaults_r40_w := @aopsE _ _ C.catnaplaw4_ConfFaults_r40.eq_1
def C.catnaplaw4_ConfFaults_c1 : ICode := .keep [8, 11] (.seq (.region C.catnaplaw4_ConfFaults_r40) .ret)
def C.catnaplaw4_ConfFaults_c1_w := @awpE _ _ C.catnaplaw4_ConfFaults_c1.eq_1
def C.catnaplaw4_ConfFaults_r13_b : List IOper := [
 X.o 11 (.move (X.i 1))]
def C.catnaplaw4_ConfFaults_r13 : List IOper := C.catnaplaw4_ConfFaults_r13_b
def C.catnaplaw4_ConfFaults_r13_w := @aopsE _ _ C.catnaplaw4_ConfFaults_r13.eq_1
def C.catnaplaw4_ConfFaults_c2 : ICode := .keep [8] (.region C.catnaplaw4_ConfFaults_r13)
def C.catnaplaw4_ConfFaults_c2_w := @awpE _ _ C.catnaplaw4_ConfFaults_c2.eq_1
def C.catnaplaw4_ConfFaults_r12_b : List IOper := [
 X.o 38 (.fldAddr 0 (X.s 8)),
 X.o 39 (.load1 (X.s 38)),
 X.o 40 (.build [.int .u8 0, .nils, .int .u64 0, .int .i64 0, .int .i64 0, .int .i64 0] [(0, 1, .cst (.int .u8 120))]),
 X.o 41 (.buildSlice 6 1 [.int .u8 0, .nils, .int .u64 0, .int .i64 0, .int .i64 0, .int .i64 0] [(0, 6, X.s 40)]),
 X.o 42 (.append 6 64 (X.s 39) (X.s 41)),
 X.o 43 (.fldAddr 0 (X.s 8)),
 X.n (.store1 (X.s 43) (X.s 42))]
def C.catnaplaw4_ConfFaults_r12 : List IOper := C.catnaplaw4_ConfFaults_r12_b
def C.catnaplaw4_ConfFaults_r12_w := @aopsE _ _ C.catnaplaw4_ConfFaults_r12.eq_1
def C.catnaplaw4_ConfFaults_r16_b : List IOper := [
 X.o 11 (.move (X.i 5))]
def C.catnaplaw4_ConfFaults_r16 : List IOper := C.catnaplaw4_ConfFaults_r16_b
def C.catnaplaw4_ConfFaults_r16_w := @aopsE _ _ C.catnaplaw4_ConfFaults_r16.eq_1
def C.catnaplaw4_ConfFaults_c3 : ICode := .keep [8] (.region C.catnaplaw4_ConfFaults_r16)
def C.catnaplaw4_ConfFaults_c3_w := @awpE _ _ C.catnaplaw4_ConfFaults_c3.eq_1
def C.catnaplaw4_ConfFaults_r15_b : List IOper := [
 X.o 46 (.fldAddr 0 (X.s 8)),
 X.o 47 (.load1 (X.s 46)),
 X.o 48 (.fldAddr 0 (X.s 8)),
 X.o 49 (.load1 (X.s 48)),
 X.o 50 (.len (X.s 49)),
 X.o 51 (.buildSlice 1 1 [.int .i64 0] [(0, 1, X.s 50)]),
 X.o 52 (.build [.int .u8 0, .nils, .int .u64 0, .int .i64 0, .int .i64 0, .int .i64 0] [(0, 1, .cst (.int .u8 103)), (1, 1, X.s 51)]),
 X.o 53 (.buildSlice 6 1 [.int .u8 0, .nils, .int .u64 0, .int .i64 0, .int .i64 0, .int .i64 0] [(0, 6, X.s 52)]),
 X.o 54 (.append 6 64 (X.s 47) (X.s 53)),
 X.o 55 (.fldAddr 0 (X.s 8)),
 X.n (.store1 (X.s 55) (X.s 54))]
def C.catnaplaw4_ConfFaults_r15 : List IOper := C.catnaplaw4_ConfFaults_r15_b
def C.catnaplaw4_ConfFaults_r15_w := @aopsE _ _ C.catnaplaw4_ConfFaults_r15.eq_1
def C.catnaplaw4_ConfFaults_r18_b : List IOper := [
 X.o 58 (.fldAddr 0 (X.s 8)),
 X.o 59 (.load1 (X.s 58)),
 X.o 60 (.buildSlice 1 1 [.int .i64 0] [(0, 1, X.i 0)]),
 X.o 61 (.build [.int .u8 0, .nils, .int .u64 0, .int .i64 0, .int .i64 0, .int .i64 0] [(0, 1, .cst (.int .u8 100)), (1, 1, X.s 60), (4, 1, X.i 1001)]),
 X.o 62 (.buildSlice 6 1 [.int .u8 0, .nils, .int .u64 0, .int .i64 0, .int .i64 0, .int .i64 0] [(0, 6, X.s 61)]),
 X.o 63 (.append 6 64 (X.s 59) (X.s 62)),
 X.o 64 (.fldAddr 0 (X.s 8)),
 X.n (.store1 (X.s 64) (X.s 63))]
def C.catnaplaw4_ConfFaults_r18 : List IOper := C.catnaplaw4_ConfFaults_r18_b
def C.catnaplaw4_ConfFaults_r18_w := @aopsE _ _ C.catnaplaw4_ConfFaults_r18.eq_1
def C.catnaplaw4_ConfFaults_r20_b : List IOper := [
 X.o 67 (.fldAddr 0 (X.s 8)),
 X.o 68 (.load1 (X.s 67)),
 X.o 69 (.idxAddr 6 (X.s 68) (X.i 0)),
 X.o 70 (.fldAddr 2 (X.s 69)),
 X.n (.store1 (X.s 70) (.cst (.int .u64 0)))]
def C.catnaplaw4_ConfFaults_r20 : List IOper := C.catnaplaw4_ConfFaults_r20_b
def C.catnaplaw4_ConfFaults_r20_w := @aopsE _ _ C.catnaplaw4_ConfFaults_r20.eq_1
def C.catnaplaw4_ConfFaults_r22_b : List IOper := [
 X.o 73 (.fldAddr 1 (X.s 8)),
 X.o 74 (.load1 (X.s 73)),
 X.m 75 10,
 X.o 76 (.idxAddr 3 (X.s 74) (X.s 75)),
 X.o 77 (.fldAddr 1 (X.s 76)),
 X.n (.store1 (X.s 77) (X.i 21))]
def C.catnaplaw4_ConfFaults_r22 : List IOper := C.catnaplaw4_ConfFaults_r22_b
def C.catnaplaw4_ConfFaults_r22_w := @aopsE _ _ C.catnaplaw4_ConfFaults_r22.eq_1
def C.catnaplaw4_ConfFaults_r25_b : List IOper := [
 X.o 11 (.move (X.i 5))]
def C.catnaplaw4_ConfFaults_r25 : List IOper := C.catnaplaw4_ConfFaults_r25_b
def C.catnaplaw4_ConfFaults_r25_w := @aopsE _ _ C.catnaplaw4_ConfFaults_r25.eq_1
def C.catnaplaw4_ConfFaults_c4 : ICode := .keep [8] (.region C.catnaplaw4_ConfFaults_r25)
def C.catnaplaw4_ConfFaults_c4_w := @awpE _ _ C.catnaplaw4_ConfFaults_c4.eq_1
def C.catnaplaw4_ConfFaults_r24_b : List IOper := [
 X.o 80 (.fldAddr 1 (X.s 8)),
 X.o 81 (.load1 (X.s 80)),
 X.m 82 10,
 X.m 83 10,
 X.o 84 (.idxAddr 3 (X.s 81) (X.s 82)),
 X.o 85 (.fldAddr 0 (X.s 84)),
 X.n (.store1 (X.s 85) (X.s 83))]
def C.catnaplaw4_ConfFaults_r24 : List IOper := C.catnaplaw4_ConfFaults_r24_b
def C.catnaplaw4_ConfFaults_r24_w := @aopsE _ _ C.catnaplaw4_ConfFaults_r24.eq_1
def C.catnaplaw4_ConfFaults_r28_b : List IOper := [
 X.o 11 (.move (X.i 4))]
def C.catnaplaw4_ConfFaults_r28 : List IOper := C.catnaplaw4_ConfFaults_r28_b
def C.catnaplaw4_ConfFaults_r28_w := @aopsE _ _ C.catnaplaw4_ConfFaults_r28.eq_1
def C.catnaplaw4_ConfFaults_c5 : ICode := .keep [8] (.region C.catnaplaw4_ConfFaults_r28)
def C.catnaplaw4_ConfFaults_c5_w := @awpE _ _ C.catnaplaw4_ConfFaults_c5.eq_1
def C.catnaplaw4_ConfFaults_r27_b : List IOper := [
 X.o 88 (.fldAddr 1 (X.s 8)),
 X.o 89 (.load1 (X.s 88)),
 X.m 90 10,
 X.o 91 (.fldAddr 1 (X.s 8)),
 X.o 92 (.load1 (X.s 91)),
 X.o 93 (.len (X.s 92)),
 X.o 94 (.idxAddr 3 (X.s 89) (X.s 90)),
 X.o 95 (.fldAddr 0 (X.s 94)),
 X.n (.store1 (X.s 95) (X.s 93))]
def C.catnaplaw4_ConfFaults_r27 : List IOper := C.catnaplaw4_ConfFaults_r27_b
def C.catnaplaw4_ConfFaults_r27_w := @aopsE _ _ C.catnaplaw4_ConfFaults_r27.eq_1
def C.catnaplaw4_ConfFaults_r30_b : List IOper := [
 X.o 98 (.fldAddr 2 (X.s 8)),
 X.o 99 (.load1 (X.s 98)),
 X.o 100 (.idxAddr 1 (X.s 99) (X.i 0)),
 X.o 101 (.fldAddr 0 (X.s 100)),
 X.n (.store1 (X.s 101) (X.i (-1)))]
def C.catnaplaw4_ConfFaults_r30 : List IOper := C.catnaplaw4_ConfFaults_r30_b
def C.catnaplaw4_ConfFaults_r30_w := @aopsE _ _ C.catnaplaw4_ConfFaults_r30.eq_1
def C.catnaplaw4_ConfFaults_r33_b : List IOper := [
 X.o 11 (.move (X.i 4))]
def C.catnaplaw4_ConfFaults_r33 : List IOper := C.catnaplaw4_ConfFaults_r33_b
def C.catnaplaw4_ConfFaults_r33_w := @aopsE _ _ C.catnaplaw4_ConfFaults_r33.eq_1
def C.catnaplaw4_ConfFaults_c6 : ICode := .keep [8] (.region C.catnaplaw4_ConfFaults_r33)
def C.catnaplaw4_ConfFaults_c6_w := @awpE _ _ C.catnaplaw4_ConfFaults_c6.eq_1
def C.catnaplaw4_ConfFaults_r32_b : List IOper := [
 X.o 104 (.fldAddr 3 (X.s 8)),
 X.o 105 (.load1 (X.s 104)),
 X.m 106 9,
 X.o 107 (.fldAddr 2 (X.s 8)),
 X.o 108 (.load1 (X.s 107)),
 X.o 109 (.len (X.s 108)),
 X.o 110 (.idxAddr 6 (X.s 105) (X.s 106)),
 X.o 111 (.fldAddr 2 (X.s 110)),
 X.n (.store1 (X.s 111) (X.s 109))]
def C.catnaplaw4_ConfFaults_r32 : List IOper := C.catnaplaw4_ConfFaults_r32_b
def C.catnaplaw4_ConfFaults_r32_w := @aopsE _ _ C.catnaplaw4_ConfFaults_r32.eq_1
def C.catnaplaw4_ConfFaults_r36_b : List IOper := [
 X.o 11 (.move (X.i 5))]
def C.catnaplaw4_ConfFaults_r36 : List IOper := C.catnaplaw4_ConfFaults_r36_b
def C.catnaplaw4_ConfFaults_r36_w := @aopsE _ _ C.catnaplaw4_ConfFaults_r36.eq_1
def C.catnaplaw4_ConfFaults_c7 : ICode := .keep [8] (.region C.catnaplaw4_ConfFaults_r36)
def C.catnaplaw4_ConfFaults_c7_w := @awpE _ _ C.catnaplaw4_ConfFaults_c7.eq_1
def C.catnaplaw4_ConfFaults_r35_b : List IOper := [
 X.o 114 (.fldAddr 3 (X.s 8)),
 X.o 115 (.load1 (X.s 114)),
 X.m 116 9,
 X.m 117 9,
 X.o 118 (.buildSlice 1 1 [.int .i64 0] [(0, 1, X.s 117)]),
 X.o 119 (.idxAddr 6 (X.s 115) (X.s 116)),
 X.o 120 (.fldAddr 5 (X.s 119)),
 X.n (.store1 (X.s 120) (X.s 118))]
def C.catnaplaw4_ConfFaults_r35 : List IOper := C.catnaplaw4_ConfFaults_r35_b
def C.catnaplaw4_ConfFaults_r35_w := @aopsE _ _ C.catnaplaw4_ConfFaults_r35.eq_1
def C.catnaplaw4_ConfFaults_r39_b : List IOper := [
 X.o 11 (.move (X.i 8))]
def C.catnaplaw4_ConfFaults_r39 : List IOper := C.catnaplaw4_ConfFaults_r39_b
def C.catnaplaw4_ConfFaults_r39_w := @aopsE _ _ C.catnaplaw4_ConfFaults_r39.eq_1
def C.catnaplaw4_ConfFaults_c8 : ICode := .keep [8] (.region C.catnaplaw4_ConfFaults_r39)
def C.catnaplaw4_ConfFaults_c8_w := @awpE _ _ C.catnaplaw4_ConfFaults_c8.eq_1
def C.catnaplaw4_ConfFaults_r38_b : List IOper := [
 X.o 123 (.fldAddr 3 (X.s 8)),
 X.o 124 (.load1 (X.s 123)),
 X.m 125 9,
 X.o 126 (.makeSlice 2 8 [.int .u32 0, .bool false] (X.i 9) (X.i 9)),
 X.o 127 (.idxAddr 6 (X.s 124) (X.s 125)),
 X.o 128 (.fldAddr 4 (X.s 127)),
 X.n (.store1 (X.s 128) (X.s 126))]
def C.catnaplaw4_ConfFaults_r38 : List IOper := C.catnaplaw4_ConfFaults_r38_b
def C.catnaplaw4_ConfFaults_r38_w := @aopsE _ _ C.catnaplaw4_ConfFaults_r38.eq_1
def C.catnaplaw4_ConfFaults_r10_b : List IOper := [
 X.o 11 (.move (X.i 1))]
def C.catnaplaw4_ConfFaults_r10 : List IOper := C.catnaplaw4_ConfFaults_r10_b
def C.catnaplaw4_ConfFaults_r10_w := @aopsE _ _ C.catnaplaw4_ConfFaults_r10.eq_1
def C.catnaplaw4_ConfFaults_c9 : ICode := .keep [8] (.region C.catnaplaw4_ConfFaults_r10)
def C.catnaplaw4_ConfFaults_c9_w := @awpE _ _ C.catnaplaw4_ConfFaults_c9.eq_1
def C.catnaplaw4_ConfFaults_r9_b : List IOper := [
 X.o 29 (.fldAddr 0 (X.s 8)),
 X.o 30 (.load1 (X.s 29)),
 X.o 31 (.buildSlice 1 5 [.int .i64 0] [(0, 1, X.i 0), (1, 1, X.i 0), (2, 1, X.i 0), (3, 1, X.i 0), (4, 1, X.i 0)]),
 X.o 32 (.build [.int .u8 0, .nils, .int .u64 0, .int .i64 0, .int .i64 0, .int .i64 0] [(0, 1, .cst (.int .u8 109)), (1, 1, X.s 31)]),
 X.o 33 (.buildSlice 6 1 [.int .u8 0, .nils, .int .u64 0, .int .i64 0, .int .i64 0, .int .i64 0] [(0, 6, X.s 32)]),
 X.o 34 (.append 6 64 (X.s 30) (X.s 33)),
 X.o 35 (.fldAddr 0 (X.s 8)),
 X.n (.store1 (X.s 35) (X.s 34))]
def C.catnaplaw4_ConfFaults_r9 : List IOper := C.catnaplaw4_ConfFaults_r9_b
def C.catnaplaw4_ConfFaults_r9_w := @aopsE _ _ C.catnaplaw4_ConfFaults_r9.eq_1
def C.catnaplaw4_ConfFaults_c10 : ICode := .seq (.region C.catnaplaw4_ConfFaults_r38) C.catnaplaw4_ConfFaults_c8
def C.catnaplaw4_ConfFaults_c10_w := @awpE _ _ C.catnaplaw4_ConfFaults_c10.eq_1
def C.catnaplaw4_ConfFaults_c11 : ICode := .seq (.region C.catnaplaw4_ConfFaults_r9) C.catnaplaw4_ConfFaults_c9
def C.catnaplaw4_ConfFaults_c11_w := @awpE _ _ C.catnaplaw4_ConfFaults_c11.eq_1
def C.catnaplaw4_ConfFaults_c12 : ICode := .keep [8, 9, 121] (.cond (X.s 121) C.catnaplaw4_ConfFaults_c10 C.catnaplaw4_ConfFaults_c11)
def C.catnaplaw4_ConfFaults_c12_w := @awpE _ _ C.catnaplaw4_ConfFaults_c12.eq_1
def C.catnaplaw4_ConfFaults_r37_b : List IOper := [
 X.o 122 (.bin .eql (X.s 28) (X.i 10)),
 X.m 121 122]
def C.catnaplaw4_ConfFaults_r37 : List IOper := C.catnaplaw4_ConfFaults_r37_b
def C.catnaplaw4_ConfFaults_r37_w := @aopsE _ _ C.catnaplaw4_ConfFaults_r37.eq_1
def C.catnaplaw4_ConfFaults_c13 : ICode := .seq (.region C.catnaplaw4_ConfFaults_r35) C.catnaplaw4_ConfFaults_c7
def C.catnaplaw4_ConfFaults_c13_w := @awpE _ _ C.catnaplaw4_ConfFaults_c13.eq_1
def C.catnaplaw4_ConfFaults_c14 : ICode := .seq (.region C.catnaplaw4_ConfFaults_r37) C.catnaplaw4_ConfFaults_c12
def C.catnaplaw4_ConfFaults_c14_w := @awpE _ _ C.catnaplaw4_ConfFaults_c14.eq_1
def C.catnaplaw4_ConfFaults_c15 : ICode := .keep [8, 9, 28, 112] (.cond (X.s 112) C.catnaplaw4_ConfFaults_c13 C.catnaplaw4_ConfFaults_c14)
def C.catnaplaw4_ConfFaults_c15_w := @awpE _ _ C.catnaplaw4_ConfFaults_c15.eq_1
def C.catnaplaw4_ConfFaults_r34_b : List IOper := [
 X.o 113 (.bin .eql (X.s 28) (X.i 9)),
 X.m 112 113]
def C.catnaplaw4_ConfFaults_r34 : List IOper := C.catnaplaw4_ConfFaults_r34_b
def C.catnaplaw4_ConfFaults_r34_w := @aopsE _ _ C.catnaplaw4_ConfFaults_r34.eq_1
def C.catnaplaw4_ConfFaults_c16 : ICode := .seq (.region C.catnaplaw4_ConfFaults_r32) C.catnaplaw4_ConfFaults_c6
def C.catnaplaw4_ConfFaults_c16_w := @awpE _ _ C.catnaplaw4_ConfFaults_c16.eq_1
def C.catnaplaw4_ConfFaults_c17 : ICode := .seq (.region C.catnaplaw4_ConfFaults_r34) C.catnaplaw4_ConfFaults_c15
def C.catnaplaw4_ConfFaults_c17_w := @awpE _ _ C.catnaplaw4_ConfFaults_c17.eq_1
def C.catnaplaw4_ConfFaults_c18 : ICode := .keep [8, 9, 28, 102] (.cond (X.s 102) C.catnaplaw4_ConfFaults_c16 C.catnaplaw4_ConfFaults_c17)
def C.catnaplaw4_ConfFaults_c18_w := @awpE _ _ C.catnaplaw4_ConfFaults_c18.eq_1
def C.catnaplaw4_ConfFaults_r31_b : List IOper := [
 X.o 103 (.bin .eql (X.s 28) (X.i 8)),
 X.m 102 103]
def C.catnaplaw4_ConfFaults_r31 : List IOper := C.catnaplaw4_ConfFaults_r31_b
def C.catnaplaw4_ConfFaults_r31_w := @aopsE _ _ C.catnaplaw4_ConfFaults_r31.eq_1
def C.catnaplaw4_ConfFaults_c19 : ICode := .region C.catnaplaw4_ConfFaults_r30
def C.catnaplaw4_ConfFaults_c19_w := @awpE _ _ C.catnaplaw4_ConfFaults_c19.eq_1
def C.catnaplaw4_ConfFaults_c20 : ICode := .seq (.region C.catnaplaw4_ConfFaults_r31) C.catnaplaw4_ConfFaults_c18
def C.catnaplaw4_ConfFaults_c20_w := @awpE _ _ C.catnaplaw4_ConfFaults_c20.eq_1
def C.catnaplaw4_ConfFaults_c21 : ICode := .keep [8, 9, 11, 28, 96] (.cond (X.s 96) C.catnaplaw4_ConfFaults_c19 C.catnaplaw4_ConfFaults_c20)
def C.catnaplaw4_ConfFaults_c21_w := @awpE _ _ C.catnaplaw4_ConfFaults_c21.eq_1
def C.catnaplaw4_ConfFaults_r29_b : List IOper := [
 X.o 97 (.bin .eql (X.s 28) (X.i 7)),
 X.m 96 97]
def C.catnaplaw4_ConfFaults_r29 : List IOper := C.catnaplaw4_ConfFaults_r29_b
def C.catnaplaw4_ConfFaults_r29_w := @aopsE _ _ C.catnaplaw4_ConfFaults_r29.eq_1
def C.catnaplaw4_ConfFaults_c22 : ICode := .seq (.region C.catnaplaw4_ConfFaults_r27) C.catnaplaw4_ConfFaults_c5
def C.catnaplaw4_ConfFaults_c22_w := @awpE _ _ C.catnaplaw4_ConfFaults_c22.eq_1
def C.catnaplaw4_ConfFaults_c23 : ICode := .seq (.region C.catnaplaw4_ConfFaults_r29) C.catnaplaw4_ConfFaults_c21
def C.catnaplaw4_ConfFaults_c23_w := @awpE _ _ C.catnaplaw4_ConfFaults_c23.eq_1
def C.catnaplaw4_ConfFaults_c24 : ICode := .keep [8, 9, 10, 11, 28, 86] (.cond (X.s 86) C.catnaplaw4_ConfFaults_c22 C.catnaplaw4_ConfFaults_c23)
def C.catnaplaw4_ConfFaults_c24_w := @awpE _ _ C.catnaplaw4_ConfFaults_c24.eq_1
def C.catnaplaw4_ConfFaults_r26_b : List IOper := [
 X.o 87 (.bin .eql (X.s 28) (X.i 6)),
 X.m 86 87]
def C.catnaplaw4_ConfFaults_r26 : List IOper := C.catnaplaw4_ConfFaults_r26_b
def C.catnaplaw4_ConfFaults_r26_w := @aopsE _ _ C.catnaplaw4_ConfFaults_r26.eq_1
def C.catnaplaw4_ConfFaults_c25 : ICode := .seq (.region C.catnaplaw4_ConfFaults_r24) C.catnaplaw4_ConfFaults_c4
def C.catnaplaw4_ConfFaults_c25_w := @awpE _ _ C.catnaplaw4_ConfFaults_c25.eq_1
def C.catnaplaw4_ConfFaults_c26 : ICode := .seq (.region C.catnaplaw4_ConfFaults_r26) C.catnaplaw4_ConfFaults_c24
def C.catnaplaw4_ConfFaults_c26_w := @awpE _ _ C.catnaplaw4_ConfFaults_c26.eq_1
def C.catnaplaw4_ConfFaults_c27 : ICode := .keep [8, 9, 10, 11, 28, 78] (.cond (X.s 78) C.catnaplaw4_ConfFaults_c25 C.catnaplaw4_ConfFaults_c26)
def C.catnaplaw4_ConfFaults_c27_w := @awpE _ _ C.catnaplaw4_ConfFaults_c27.eq_1
def C.catnaplaw4_ConfFaults_r23_b : List IOper := [
 X.o 79 (.bin .eql (X.s 28) (X.i 5)),
 X.m 78 79]
def C.catnaplaw4_ConfFaults_r23 : List IOper := C.catnaplaw4_ConfFaults_r23_b
def C.catnaplaw4_ConfFaults_r23_w := @aopsE _ _ C.catnaplaw4_ConfFaults_r23.eq_1
def C.catnaplaw4_ConfFaults_c28 : ICode := .region C.catnaplaw4_ConfFaults_r22
def C.catnaplaw4_ConfFaults_c28_w := @awpE _ _ C.catnaplaw4_ConfFaults_c28.eq_1
def C.catnaplaw4_ConfFaults_c29 : ICode := .seq (.region C.catnaplaw4_ConfFaults_r23) C.catnaplaw4_ConfFaults_c27
def C.catnaplaw4_ConfFaults_c29_w := @awpE _ _ C.catnaplaw4_ConfFaults_c29.eq_1
def C.catnaplaw4_ConfFaults_c30 : ICode := .keep [8, 9, 10, 11, 28, 71] (.cond (X.s 71) C.catnaplaw4_ConfFaults_c28 C.catnaplaw4_ConfFaults_c29)
def C.catnaplaw4_ConfFaults_c30_w := @awpE _ _ C.catnaplaw4_ConfFaults_c30.eq_1
def C.catnaplaw4_ConfFaults_r21_b : List IOper := [
 X.o 72 (.bin .eql (X.s 28) (X.i 4)),
 X.m 71 72]
def C.catnaplaw4_ConfFaults_r21 : List IOper := C.catnaplaw4_ConfFaults_r21_b
def C.catnaplaw4_ConfFaults_r21_w := @aopsE _ _ C.catnaplaw4_ConfFaults_r21.eq_1
def C.catnaplaw4_ConfFaults_c31 : ICode := .region C.catnaplaw4_ConfFaults_r20
def C.catnaplaw4_ConfFaults_c31_w := @awpE _ _ C.catnaplaw4_ConfFaults_c31.eq_1
def C.catnaplaw4_ConfFaults_c32 : ICode := .seq (.region C.catnaplaw4_ConfFaults_r21) C.catnaplaw4_ConfFaults_c30
def C.catnaplaw4_ConfFaults_c32_w := @awpE _ _ C.catnaplaw4_ConfFaults_c32.eq_1
def C.catnaplaw4_ConfFaults_c33 : ICode := .keep [8, 9, 10, 11, 28, 65] (.cond (X.s 65) C.catnaplaw4_ConfFaults_c31 C.catnaplaw4_ConfFaults_c32)
def C.catnaplaw4_ConfFaults_c33_w := @awpE _ _ C.catnaplaw4_ConfFaults_c33.eq_1
def C.catnaplaw4_ConfFaults_r19_b : List IOper := [
 X.o 66 (.bin .eql (X.s 28) (X.i 3)),
 X.m 65 66]
def C.catnaplaw4_ConfFaults_r19 : List IOper := C.catnaplaw4_ConfFaults_r19_b
def C.catnaplaw4_ConfFaults_r19_w := @aopsE _ _ C.catnaplaw4_ConfFaults_r19.eq_1
def C.catnaplaw4_ConfFaults_c34 : ICode := .region C.catnaplaw4_ConfFaults_r18
def C.catnaplaw4_ConfFaults_c34_w := @awpE _ _ C.catnaplaw4_ConfFaults_c34.eq_1
def C.catnaplaw4_ConfFaults_c35 : ICode := .seq (.region C.catnaplaw4_ConfFaults_r19) C.catnaplaw4_ConfFaults_c33
def C.catnaplaw4_ConfFaults_c35_w := @awpE _ _ C.catnaplaw4_ConfFaults_c35.eq_1
def C.catnaplaw4_ConfFaults_c36 : ICode := .keep [8, 9, 10, 11, 28, 56] (.cond (X.s 56) C.catnaplaw4_ConfFaults_c34 C.catnaplaw4_ConfFaults_c35)
def C.catnaplaw4_ConfFaults_c36_w := @awpE _ _ C.catnaplaw4_ConfFaults_c36.eq_1
def C.catnaplaw4_ConfFaults_r17_b : List IOper := [
 X.o 57 (.bin .eql (X.s 28) (X.i 2)),
 X.m 56 57]
def C.catnaplaw4_ConfFaults_r17 : List IOper := C.catnaplaw4_ConfFaults_r17_b
def C.catnaplaw4_ConfFaults_r17_w := @aopsE _ _ C.catnaplaw4_ConfFaults_r17.eq_1
def C.catnaplaw4_ConfFaults_c37 : ICode := .seq (.region C.catnaplaw4_ConfFaults_r15) C.catnaplaw4_ConfFaults_c3
def C.catnaplaw4_ConfFaults_c37_w := @awpE _ _ C.catnaplaw4_ConfFaults_c37.eq_1
def C.catnaplaw4_ConfFaults_c38 : ICode := .seq (.region C.catnaplaw4_ConfFaults_r17) C.catnaplaw4_ConfFaults_c36
def C.catnaplaw4_ConfFaults_c38_w := @awpE _ _ C.catnaplaw4_ConfFaults_c38.eq_1
def C.catnaplaw4_ConfFaults_c39 : ICode := .keep [8, 9, 10, 11, 28, 44] (.cond (X.s 44) C.catnaplaw4_ConfFaults_c37 C.catnaplaw4_ConfFaults_c38)
def C.catnaplaw4_ConfFaults_c39_w := @awpE _ _ C.catnaplaw4_ConfFaults_c39.eq_1
def C.catnaplaw4_ConfFaults_r14_b : List IOper := [
 X.o 45 (.bin .eql (X.s 28) (X.i 1)),
 X.m 44 45]
def C.catnaplaw4_ConfFaults_r14 : List IOper := C.catnaplaw4_ConfFaults_r14_b
def C.catnaplaw4_ConfFaults_r14_w := @aopsE _ _ C.catnaplaw4_ConfFaults_r14.eq_1
def C.catnaplaw4_ConfFaults_c40 : ICode := .seq (.region C.catnaplaw4_ConfFaults_r12) C.catnaplaw4_ConfFaults_c2
def C.catnaplaw4_ConfFaults_c40_w := @awpE _ _ C.catnaplaw4_ConfFaults_c40.eq_1
def C.catnaplaw4_ConfFaults_c41 : ICode := .seq (.region C.catnaplaw4_ConfFaults_r14) C.catnaplaw4_ConfFaults_c39
def C.catnaplaw4_ConfFaults_c41_w := @awpE _ _ C.catnaplaw4_ConfFaults_c41.eq_1
def C.catnaplaw4_ConfFaults_c42 : ICode := .keep [8, 9, 10, 11, 28, 36] (.cond (X.s 36) C.catnaplaw4_ConfFaults_c40 C.catnaplaw4_ConfFaults_c41)
def C.catnaplaw4_ConfFaults_c42_w := @awpE _ _ C.catnaplaw4_ConfFaults_c42.eq_1
def C.catnaplaw4_ConfFaults_r11_b : List IOper := [
 X.o 37 (.bin .eql (X.s 28) (X.i 0)),
 X.m 36 37]
def C.catnaplaw4_ConfFaults_r11 : List IOper := C.catnaplaw4_ConfFaults_r11_b
def C.catnaplaw4_ConfFaults_r11_w := @aopsE _ _ C.catnaplaw4_ConfFaults_r11.eq_1
def C.catnaplaw4_ConfFaults_b43 : ICode := .seq (.region C.catnaplaw4_ConfFaults_r11) C.catnaplaw4_ConfFaults_c42
def C.catnaplaw4_ConfFaults_b43_w := @awpE _ _ C.catnaplaw4_ConfFaults_b43.eq_1
def C.catnaplaw4_ConfFaults_c44 : ICode := .keep [8, 9, 10, 11, 28] (.block 0 C.catnaplaw4_ConfFaults_b43)
def C.catnaplaw4_ConfFaults_c44_w := @awpE _ _ C.catnaplaw4_ConfFaults_c44.eq_1
def C.catnaplaw4_ConfFaults_r8_b : List IOper := [
 X.m 27 2,
 X.o 28 (.call F.catnaplaw4_pick [X.s 27, X.i 12])]
def C.catnaplaw4_ConfFaults_r8 : List IOper := C.catnaplaw4_ConfFaults_r8_b
def C.catnaplaw4_ConfFaults_r8_w := @aopsE _ _ C.catnaplaw4_ConfFaults_r8.eq_1
def C.catnaplaw4_ConfFaults_c45 : ICode := .keep [2, 8, 9, 10, 11] (.seq (.seq (.region C.catnaplaw4_ConfFaults_r8) C.catnaplaw4_ConfFaults_c44) C.catnaplaw4_ConfFaults_c1)
def C.catnaplaw4_ConfFaults_c45_w := @awpE _ _ C.catnaplaw4_ConfFaults_c45.eq_1
def C.catnaplaw4_ConfFaults_r7_b : List IOper := [
 X.o 11 (.move (X.i 3))]
def C.catnaplaw4_ConfFaults_r7 : List IOper := C.catnaplaw4_ConfFaults_r7_b
def C.catnaplaw4_ConfFaults_r7_w := @aopsE _ _ C.catnaplaw4_ConfFaults_r7.eq_1
def C.catnaplaw4_ConfFaults_c46 : ICode := .keep [2, 8, 9, 10] (.seq (.region C.catnaplaw4_ConfFaults_r7) C.catnaplaw4_ConfFaults_c45)
def C.catnaplaw4_ConfFaults_c46_w := @awpE _ _ C.catnaplaw4_ConfFaults_c46.eq_1
def C.catnaplaw4_ConfFaults_r6_b : List IOper := [
 X.m 22 1,
 X.o 23 (.fldAddr 1 (X.s 8)),
 X.o 24 (.load1 (X.s 23)),
 X.o 25 (.len (X.s 24)),
 X.o 26 (.call F.catnaplaw4_pick [X.s 22, X.s 25]),
 X.m 10 26]
def C.catnaplaw4_ConfFaults_r6 : List IOper := C.catnaplaw4_ConfFaults_r6_b
def C.catnaplaw4_ConfFaults_r6_w := @aopsE _ _ C.catnaplaw4_ConfFaults_r6.eq_1
def C.catnaplaw4_ConfFaults_c47 : ICode := .keep [1, 2, 8, 9] (.seq (.region C.catnaplaw4_ConfFaults_r6) C.catnaplaw4_ConfFaults_c46)
def C.catnaplaw4_ConfFaults_c47_w := @awpE _ _ C.catnaplaw4_ConfFaults_c47.eq_1
def C.catnaplaw4_ConfFaults_r5_b : List IOper := [
 X.m 17 1,
 X.o 18 (.fldAddr 3 (X.s 8)),
 X.o 19 (.load1 (X.s 18)),
 X.o 20 (.len (X.s 19)),
 X.o 21 (.call F.catnaplaw4_pick [X.s 17, X.s 20]),
 X.m 9 21]
def C.catnaplaw4_ConfFaults_r5 : List IOper := C.catnaplaw4_ConfFaults_r5_b
def C.catnaplaw4_ConfFaults_r5_w := @aopsE _ _ C.catnaplaw4_ConfFaults_r5.eq_1
def C.catnaplaw4_ConfFaults_c48 : ICode := .keep [1, 2, 8] (.seq (.region C.catnaplaw4_ConfFaults_r5) C.catnaplaw4_ConfFaults_c47)
def C.catnaplaw4_ConfFaults_c48_w := @awpE _ _ C.catnaplaw4_ConfFaults_c48.eq_1
def C.catnaplaw4_ConfFaults_r4_b : List IOper := [
 X.m 15 0,
 X.o 16 (.call F.catnaplaw4_chip [X.s 15]),
 X.o 8 (.alloc [.nils, .nils, .nils, .nils]),
 X.n (.storeN 4 (X.s 8) (X.s 16))]
def C.catnaplaw4_ConfFaults_r4 : List IOper := C.catnaplaw4_ConfFaults_r4_b
def C.catnaplaw4_ConfFaults_r4_w := @aopsE _ _ C.catnaplaw4_ConfFaults_r4.eq_1
def C.catnaplaw4_ConfFaults_c49 : ICode := .keep [0, 1, 2] (.seq (.region C.catnaplaw4_ConfFaults_r4) C.catnaplaw4_ConfFaults_c48)
def C.catnaplaw4_ConfFaults_c49_w := @awpE _ _ C.catnaplaw4_ConfFaults_c49.eq_1
def C.catnaplaw4_ConfFaults_r3_b : List IOper := [
 X.o 6 (.move (.cst (.bool false)))]
def C.catnaplaw4_ConfFaults_r3 : List IOper := C.catnaplaw4_ConfFaults_r3_b
def C.catnaplaw4_ConfFaults_r3_w := @aopsE _ _ C.catnaplaw4_ConfFaults_r3.eq_1
def C.catnaplaw4_ConfFaults_c50 : ICode := .seq (.region C.catnaplaw4_ConfFaults_r3) .ret
def C.catnaplaw4_ConfFaults_c50_w := @awpE _ _ C.catnaplaw4_ConfFaults_c50.eq_1
def C.catnaplaw4_ConfFaults_c51 : ICode := .keep [0, 1, 2, 14] (.cond (X.s 14) C.catnaplaw4_ConfFaults_c50 .skip)
def C.catnaplaw4_ConfFaults_c51_w := @awpE _ _ C.catnaplaw4_ConfFaults_c51.eq_1
def C.catnaplaw4_ConfFaults_r2_b : List IOper := [
 X.m 13 7,
 X.o 14 (.un .not (X.s 13))]
def C.catnaplaw4_ConfFaults_r2 : List IOper := C.catnaplaw4_ConfFaults_r2_b
def C.catnaplaw4_ConfFaults_r2_w := @aopsE _ _ C.catnaplaw4_ConfFaults_r2.eq_1
def C.catnaplaw4_ConfFaults_c52 : ICode := .keep [0, 1, 2, 7] (.seq (.seq (.region C.catnaplaw4_ConfFaults_r2) C.catnaplaw4_ConfFaults_c51) C.catnaplaw4_ConfFaults_c49)
def C.catnaplaw4_ConfFaults_c52_w := @awpE _ _ C.catnaplaw4_ConfFaults_c52.eq_1
def C.catnaplaw4_ConfFaults_r1_b : List IOper := [
 X.o 12 (.call F.catnaplaw4_shown []),
 X.m 7 12]
def C.catnaplaw4_ConfFaults_r1 : List IOper := C.catnaplaw4_ConfFaults_r1_b
def C.catnaplaw4_ConfFaults_r1_w := @aopsE _ _ C.catnaplaw4_ConfFaults_r1.eq_1
def C.catnaplaw4_ConfFaults_c53 : ICode := .keep [0, 1, 2] (.seq (.region C.catnaplaw4_ConfFaults_r1) C.catnaplaw4_ConfFaults_c52)
def C.catnaplaw4_ConfFaults_c53_w := @awpE _ _ C.catnaplaw4_ConfFaults_c53.eq_1
def C.catnaplaw4_ConfFaults_r0_b : List IOper := [
 X.o 6 (.move (.cst (.bool false)))]
def C.catnaplaw4_ConfFaults_r0 : List IOper := C.catnaplaw4_ConfFaults_r0_b
def C.catnaplaw4_ConfFaults_r0_w := @aopsE _ _ C.catnaplaw4_ConfFaults_r0.eq_1
def C.catnaplaw4_ConfFaults : IFunc := ⟨3, [.slot 6], .seq (.region C.catnaplaw4_ConfFaults_r0) C.catnaplaw4_ConfFaults_c53⟩
def C.catnaplaw4_ConfFaults_W := And.intro (And.intro (And.intro (And.intro (And.intro (And.intro @C.catnaplaw4_ConfFaults_r40_w @C.catnaplaw4_ConfFaults_c1_w) (And.intro @C.catnaplaw4_ConfFaults_r13_w (And.intro @C.catnaplaw4_ConfFaults_c2_w @C.catnaplaw4_ConfFaults_r12_w))) (And.intro (And.intro @C.catnaplaw4_ConfFaults_r16_w (And.intro @C.catnaplaw4_ConfFaults_c3_w @C.catnaplaw4_ConfFaults_r15_w)) (And.intro @C.catnaplaw4_ConfFaults_r18_w (And.intro @C.catnaplaw4_ConfFaults_r20_w @C.catnaplaw4_ConfFaults_r22_w)))) (And.intro (And.intro (And.intro @C.catnaplaw4_ConfFaults_r25_w (And.intro @C.catnaplaw4_ConfFaults_c4_w @C.catnaplaw4_ConfFaults_r24_w)) (And.intro @C.catnaplaw4_ConfFaults_r28_w (And.intro @C.catnaplaw4_ConfFaults_c5_w @C.catnaplaw4_ConfFaults_r27_w))) (And.intro (And.intro @C.catnaplaw4_ConfFaults_r30_w (And.intro @C.catnaplaw4_ConfFaults_r33_w @C.catnaplaw4_ConfFaults_c6_w)) (And.intro @C.catnaplaw4_ConfFaults_r32_w (And.intro @C.catnaplaw4_ConfFaults_r36_w @C.catnaplaw4_ConfFaults_c7_w))))) (And.intro (And.intro (And.intro (And.intro @C.catnaplaw4_ConfFaults_r35_w (And.intro @C.catnaplaw4_ConfFaults_r39_w @C.catnaplaw4_ConfFaults_c8_w)) (And.intro @C.catnaplaw4_ConfFaults_r38_w (And.intro @C.catnaplaw4_ConfFaults_r10_w @C.catnaplaw4_ConfFaults_c9_w))) (And.intro (And.intro @C.catnaplaw4_ConfFaults_r9_w (And.intro @C.catnaplaw4_ConfFaults_c10_w @C.catnaplaw4_ConfFaults_c11_w)) (And.intro @C.catnaplaw4_ConfFaults_c12_w (And.intro @C.catnaplaw4_ConfFaults_r37_w @C.catnaplaw4_ConfFaults_c13_w)))) (And.intro (And.intro (And.intro @C.catnaplaw4_ConfFaults_c14_w (And.intro @C.catnaplaw4_ConfFaults_c15_w @C.catnaplaw4_ConfFaults_r34_w)) (And.intro @C.catnaplaw4_ConfFaults_c16_w (And.intro @C.catnaplaw4_ConfFaults_c17_w @C.catnaplaw4_ConfFaults_c18_w))) (And.intro (And.intro @C.catnaplaw4_ConfFaults_r31_w (And.intro @C.catnaplaw4_ConfFaults_c19_w @C.catnaplaw4_ConfFaults_c20_w)) (And.intro @C.catnaplaw4_ConfFaults_c21_w (And.intro @C.catnaplaw4_ConfFaults_r29_w @C.catnaplaw4_ConfFaults_c22_w)))))) (And.intro (And.intro (And.intro (And.intro (And.intro @C.catnaplaw4_ConfFaults_c23_w @C.catnaplaw4_ConfFaults_c24_w) (And.intro @C.catnaplaw4_ConfFaults_r26_w (And.intro @C.catnaplaw4_ConfFaults_c25_w @C.catnaplaw4_ConfFaults_c26_w))) (And.intro (And.intro @C.catnaplaw4_ConfFaults_c27_w (And.intro @C.catnaplaw4_ConfFaults_r23_w @C.catnaplaw4_ConfFaults_c28_w)) (And.intro @C.catnaplaw4_ConfFaults_c29_w (And.intro @C.catnaplaw4_ConfFaults_c30_w @C.catnaplaw4_ConfFaults_r21_w)))) (And.intro (And.intro (And.intro @C.catnaplaw4_ConfFaults_c31_w (And.intro @C.catnaplaw4_ConfFaults_c32_w @C.catnaplaw4_ConfFaults_c33_w)) (And.intro @C.catnaplaw4_ConfFaults_r19_w (And.intro @C.catnaplaw4_ConfFaults_c34_w @C.catnaplaw4_ConfFaults_c35_w))) (And.intro (And.intro @C.catnaplaw4_ConfFaults_c36_w (And.intro @C.catnaplaw4_ConfFaults_r17_w @C.catnaplaw4_ConfFaults_c37_w)) (And.intro @C.catnaplaw4_ConfFaults_c38_w (And.intro @C.catnaplaw4_ConfFaults_c39_w @C.catnaplaw4_ConfFaults_r14_w))))) (And.intro (And.intro (And.intro (And.intro @C.catnaplaw4_ConfFaults_c40_w (And.intro @C.catnaplaw4_ConfFaults_c41_w @C.catnaplaw4_ConfFaults_c42_w)) (And.intro @C.catnaplaw4_ConfFaults_r11_w (And.intro @C.catnaplaw4_ConfFaults_b43_w @C.catnaplaw4_ConfFaults_c44_w))) (And.intro (And.intro @C.catnaplaw4_ConfFaults_r8_w (And.intro @C.catnaplaw4_ConfFaults_c45_w @C.catnaplaw4_ConfFaults_r7_w)) (And.intro @C.catnaplaw4_ConfFaults_c46_w (And.intro @C.catnaplaw4_ConfFaults_r6_w @C.catnaplaw4_ConfFaults_c47_w)))) (And.intro (And.intro (And.intro @C.catnaplaw4_ConfFaults_r5_w (And.intro @C.catnaplaw4_ConfFaults_c48_w @C.catnaplaw4_ConfFaults_r4_w)) (And.intro @C.catnaplaw4_ConfFaults_c49_w (And.intro @C.catnaplaw4_ConfFaults_r3_w @C.catnaplaw4_ConfFaults_c50_w))) (And.intro (And.intro @C.catnaplaw4_ConfFaults_c51_w (And.intro @C.catnaplaw4_ConfFaults_r2_w @C.catnaplaw4_ConfFaults_c52_w)) (And.intro @C.catnaplaw4_ConfFaults_r1_w (And.intro @C.catnaplaw4_ConfFaults_c53_w @C.catnaplaw4_ConfFaults_r0_w))))))
def C.catnaplaw4_ConfFaults_B := And.intro (And.intro (And.intro (And.intro (And.intro @C.catnaplaw4_ConfFaults_r40_b.eq_1 @C.catnaplaw4_ConfFaults_r13_b.eq_1) (And.intro @C.catnaplaw4_ConfFaults_r12_b.eq_1 (And.intro @C.catnaplaw4_ConfFaults_r16_b.eq_1 @C.catnaplaw4_ConfFaults_r15_b.eq_1))) (And.intro (And.intro @C.catnaplaw4_ConfFaults_r18_b.eq_1 @C.catnaplaw4_ConfFaults_r20_b.eq_1) (And.intro @C.catnaplaw4_ConfFaults_r22_b.eq_1 (And.intro @C.catnaplaw4_ConfFaults_r25_b.eq_1 @C.catnaplaw4_ConfFaults_r24_b.eq_1)))) (And.intro (And.intro (And.intro @C.catnaplaw4_ConfFaults_r28_b.eq_1 @C.catnaplaw4_ConfFaults_r27_b.eq_1) (And.intro @C.catnaplaw4_ConfFaults_r30_b.eq_1 (And.intro @C.catnaplaw4_ConfFaults_r33_b.eq_1 @C.catnaplaw4_ConfFaults_r32_b.eq_1))) (And.intro (And.intro @C.catnaplaw4_ConfFaults_r36_b.eq_1 @C.catnaplaw4_ConfFaults_r35_b.eq_1) (And.intro @C.catnaplaw4_ConfFaults_r39_b.eq_1 (And.intro @C.catnaplaw4_ConfFaults_r38_b.eq_1 @C.catnaplaw4_ConfFaults_r10_b.eq_1))))) (And.intro (And.intro (And.intro (And.intro @C.catnaplaw4_ConfFaults_r9_b.eq_1 @C.catnaplaw4_ConfFaults_r37_b.eq_1) (And.intro @C.catnaplaw4_ConfFaults_r34_b.eq_1 (And.intro @C.catnaplaw4_ConfFaults_r31_b.eq_1 @C.catnaplaw4_ConfFaults_r29_b.eq_1))) (And.intro (And.intro @C.catnaplaw4_ConfFaults_r26_b.eq_1 @C.catnaplaw4_ConfFaults_r23_b.eq_1) (And.intro @C.catnaplaw4_ConfFaults_r21_b.eq_1 (And.intro @C.catnaplaw4_ConfFaults_r19_b.eq_1 @C.catnaplaw4_ConfFaults_r17_b.eq_1)))) (And.intro (And.intro (And.intro @C.catnaplaw4_ConfFaults_r14_b.eq_1 @C.catnaplaw4_ConfFaults_r11_b.eq_1) (And.intro @C.catnaplaw4_ConfFaults_r8_b.eq_1 (And.intro @C.catnaplaw4_ConfFaults_r7_b.eq_1 @C.catnaplaw4_ConfFaults_r6_b.eq_1))) (And.intro (And.intro @C.catnaplaw4_ConfFaults_r5_b.eq_1 (And.intro @C.catnaplaw4_ConfFaults_r4_b.eq_1 @C.catnaplaw4_ConfFaults_r3_b.eq_1)) (And.intro @C.catnaplaw4_ConfFaults_r2_b.eq_1 (And.intro @C.catnaplaw4_ConfFaults_r1_b.eq_1 @C.catnaplaw4_ConfFaults_r0_b.eq_1)))))

def C.catnaplaw4_ConfGraphs_r25_b : List IOper := [
 X.o 2 (.move (.cst (.bool true)))]
def C.catnaplaw4_ConfGraphs_r25 : List IOper := C.catnaplaw4_ConfGraphs_r25_b
def C.catnaplaw4_ConfGraphs_r25_w := @aopsE _ _ C.catnaplaw4_ConfGraphs_r25.eq_1
def C.catnaplaw4_ConfGraphs_c1 : ICode := .keep [] (.seq (.region C.catnaplaw4_ConfGraphs_r25) .ret)
def C.catnaplaw4_ConfGraphs_c1_w := @awpE _ _ C.catnaplaw4_ConfGraphs_c1.eq_1
def C.catnaplaw4_ConfGraphs_r22_b : List IOper := [
 X.m 134 10,
 X.o 135 (.bin .add (X.s 134) (X.i 1)),
 X.m 10 135]
def C.catnaplaw4_ConfGraphs_r22 : List IOper := C.catnaplaw4_ConfGraphs_r22_b
def C.catnaplaw4_ConfGraphs_r22_w := @aopsE _ _ C.catnaplaw4_ConfGraphs_r22.eq_1
def C.catnaplaw4_ConfGraphs_c2 : ICode := .keep [4, 7, 10] (.region C.catnaplaw4_ConfGraphs_r22)
def C.catnaplaw4_ConfGraphs_c2_w := @awpE _ _ C.catnaplaw4_ConfGraphs_c2.eq_1
def C.catnaplaw4_ConfGraphs_r24_b : List IOper := [
 X.o 2 (.move (.cst (.bool false)))]
def C.catnaplaw4_ConfGraphs_r24 : List IOper := C.catnaplaw4_ConfGraphs_r24_b
def C.catnaplaw4_ConfGraphs_r24_w := @aopsE _ _ C.catnaplaw4_ConfGraphs_r24.eq_1
def C.catnaplaw4_ConfGraphs_c3 : ICode := .seq (.region C.catnaplaw4_ConfGraphs_r24) .ret
def C.catnaplaw4_ConfGraphs_c3_w := @awpE _ _ C.catnaplaw4_ConfGraphs_c3.eq_1
def C.catnaplaw4_ConfGraphs_c4 : ICode := .keep [4, 7, 10, 148] (.cond (X.s 148) C.catnaplaw4_ConfGraphs_c3 .skip)
def C.catnaplaw4_ConfGraphs_c4_w := @awpE _ _ C.catnaplaw4_ConfGraphs_c4.eq_1
def C.catnaplaw4_ConfGraphs_r23_b : List IOper := [
 X.m 136 7,
 X.m 137 10,
 X.o 138 (.idxAddr 1 (X.s 136) (X.s 137)),
 X.o 139 (.load1 (X.s 138)),
 X.o 140 (.len (X.s 139)),
 X.o 141 (.fldAddr 3 (X.s 4)),
 X.o 142 (.load1 (X.s 141)),
 X.m 143 10,
 X.o 144 (.idxAddr 6 (X.s 142) (X.s 143)),
 X.o 145 (.fldAddr 5 (X.s 144)),
 X.o 146 (.load1 (X.s 145)),
 X.o 147 (.len (X.s 146)),
 X.o 148 (.bin .neq (X.s 140) (X.s 147))]
def C.catnaplaw4_ConfGraphs_r23 : List IOper := C.catnaplaw4_ConfGraphs_r23_b
def C.catnaplaw4_ConfGraphs_r23_w := @aopsE _ _ C.catnaplaw4_ConfGraphs_r23.eq_1
def C.catnaplaw4_ConfGraphs_b5 : ICode := .seq (.region C.catnaplaw4_ConfGraphs_r23) C.catnaplaw4_ConfGraphs_c4
def C.catnaplaw4_ConfGraphs_b5_w := @awpE _ _ C.catnaplaw4_ConfGraphs_b5.eq_1
def C.catnaplaw4_ConfGraphs_c6 : ICode := .keep [4, 7, 10] (.seq (.block 5 C.catnaplaw4_ConfGraphs_b5) C.catnaplaw4_ConfGraphs_c2)
def C.catnaplaw4_ConfGraphs_c6_w := @awpE _ _ C.catnaplaw4_ConfGraphs_c6.eq_1
def C.catnaplaw4_ConfGraphs_c7 : ICode := .keep [4, 7, 10, 133] (.cond (X.s 133) .skip (.exit 4))
def C.catnaplaw4_ConfGraphs_c7_w := @awpE _ _ C.catnaplaw4_ConfGraphs_c7.eq_1
def C.catnaplaw4_ConfGraphs_r21_b : List IOper := [
 X.m 130 10,
 X.m 131 7,
 X.o 132 (.len (X.s 131)),
 X.o 133 (.bin .lss (X.s 130) (X.s 132))]
def C.catnaplaw4_ConfGraphs_r21 : List IOper := C.catnaplaw4_ConfGraphs_r21_b
def C.catnaplaw4_ConfGraphs_r21_w := @aopsE _ _ C.catnaplaw4_ConfGraphs_r21.eq_1
def C.catnaplaw4_ConfGraphs_l8 : ICode := .keep [4, 7, 10] (.seq (.seq (.region C.catnaplaw4_ConfGraphs_r21) C.catnaplaw4_ConfGraphs_c7) C.catnaplaw4_ConfGraphs_c6)
def C.catnaplaw4_ConfGraphs_l8_w := @awpE _ _ C.catnaplaw4_ConfGraphs_l8.eq_1
def C.catnaplaw4_ConfGraphs_b9 : ICode := .loop C.catnaplaw4_ConfGraphs_l8
def C.catnaplaw4_ConfGraphs_b9_w := @awpE _ _ C.catnaplaw4_ConfGraphs_b9.eq_1
def C.catnaplaw4_ConfGraphs_c10 : ICode := .keep [4, 7, 10] (.block 4 C.catnaplaw4_ConfGraphs_b9)
def C.catnaplaw4_ConfGraphs_c10_w := @awpE _ _ C.catnaplaw4_ConfGraphs_c10.eq_1
def C.catnaplaw4_ConfGraphs_r20_b : List IOper := [
 X.o 10 (.move (X.i 0))]
def C.catnaplaw4_ConfGraphs_r20 : List IOper := C.catnaplaw4_ConfGraphs_r20_b
def C.catnaplaw4_ConfGraphs_r20_w := @aopsE _ _ C.catnaplaw4_ConfGraphs_r20.eq_1
def C.catnaplaw4_ConfGraphs_c11 : ICode := .keep [4, 7] (.seq (.seq (.region C.catnaplaw4_ConfGraphs_r20) C.catnaplaw4_ConfGraphs_c10) C.catnaplaw4_ConfGraphs_c1)
def C.catnaplaw4_ConfGraphs_c11_w := @awpE _ _ C.catnaplaw4_ConfGraphs_c11.eq_1
def C.catnaplaw4_ConfGraphs_r17_b : List IOper := [
 X.m 83 9,
 X.o 84 (.bin .add (X.s 83) (X.i 1)),
 X.m 9 84]
def C.catnaplaw4_ConfGraphs_r17 : List IOper := C.catnaplaw4_ConfGraphs_r17_b
def C.catnaplaw4_ConfGraphs_r17_w := @aopsE _ _ C.catnaplaw4_ConfGraphs_r17.eq_1
def C.catnaplaw4_ConfGraphs_c12 : ICode := .keep [4, 6, 7, 9] (.region C.catnaplaw4_ConfGraphs_r17)
def C.catnaplaw4_ConfGraphs_c12_w := @awpE _ _ C.catnaplaw4_ConfGraphs_c12.eq_1
def C.catnaplaw4_ConfGraphs_r19_b : List IOper := [
 X.o 2 (.move (.cst (.bool false)))]
def C.catnaplaw4_ConfGraphs_r19 : List IOper := C.catnaplaw4_ConfGraphs_r19_b
def C.catnaplaw4_ConfGraphs_r19_w := @aopsE _ _ C.catnaplaw4_ConfGraphs_r19.eq_1
def C.catnaplaw4_ConfGraphs_c13 : ICode := .seq (.region C.catnaplaw4_ConfGraphs_r19) .ret
def C.catnaplaw4_ConfGraphs_c13_w := @awpE _ _ C.catnaplaw4_ConfGraphs_c13.eq_1
def C.catnaplaw4_ConfGraphs_c14 : ICode := .keep [4, 6, 7, 9, 129] (.cond (X.s 129) C.catnaplaw4_ConfGraphs_c13 .skip)
def C.catnaplaw4_ConfGraphs_c14_w := @awpE _ _ C.catnaplaw4_ConfGraphs_c14.eq_1
def C.catnaplaw4_ConfGraphs_r18_b : List IOper := [
 X.m 85 6,
 X.m 86 9,
 X.o 87 (.idxAddr 1 (X.s 85) (X.s 86)),
 X.o 88 (.load1 (X.s 87)),
 X.o 89 (.len (X.s 88)),
 X.o 90 (.bin .gtr (X.s 89) (X.i 1)),
 X.m 91 90,
 X.f 91 92 (.move (X.s 6)),
 X.f 91 93 (.move (X.s 9)),
 X.f 91 94 (.idxAddr 1 (X.s 92) (X.s 93)),
 X.f 91 95 (.load1 (X.s 94)),
 X.f 91 96 (.len (X.s 95)),
 X.f 91 97 (.bin .eql (X.s 96) (X.i 0)),
 X.f 91 98 (.fldAddr 1 (X.s 4)),
 X.f 91 99 (.load1 (X.s 98)),
 X.f 91 100 (.move (X.s 9)),
 X.f 91 101 (.idxAddr 3 (X.s 99) (X.s 100)),
 X.f 91 102 (.fldAddr 0 (X.s 101)),
 X.f 91 103 (.load1 (X.s 102)),
 X.f 91 104 (.bin .eql (X.s 103) (X.i (-1))),
 X.f 91 105 (.eqB true (X.s 97) (X.s 104)),
 X.o 106 (.pick (X.s 91) (.cst (.bool true)) (X.s 105)),
 X.m 107 106,
 X.f 107 108 (.move (X.s 6)),
 X.f 107 109 (.move (X.s 9)),
 X.f 107 110 (.idxAddr 1 (X.s 108) (X.s 109)),
 X.f 107 111 (.load1 (X.s 110)),
 X.f 107 112 (.len (X.s 111)),
 X.f 107 113 (.bin .eql (X.s 112) (X.i 1)),
 X.f 107 114 (.move (X.s 113)),
 X.t 114 115 (.move (X.s 6)),
 X.t 114 116 (.move (X.s 9)),
 X.t 114 117 (.idxAddr 1 (X.s 115) (X.s 116)),
 X.t 114 118 (.load1 (X.s 117)),
 X.t 114 119 (.idxAddr 1 (X.s 118) (X.i 0)),
 X.t 114 120 (.load1 (X.s 119)),
 X.t 114 121 (.fldAddr 1 (X.s 4)),
 X.t 114 122 (.load1 (X.s 121)),
 X.t 114 123 (.move (X.s 9)),
 X.t 114 124 (.idxAddr 3 (X.s 122) (X.s 123)),
 X.t 114 125 (.fldAddr 0 (X.s 124)),
 X.t 114 126 (.load1 (X.s 125)),
 X.t 114 127 (.bin .neq (X.s 120) (X.s 126)),
 X.f 107 128 (.pick (X.s 114) (X.s 127) (.cst (.bool false))),
 X.o 129 (.pick (X.s 107) (.cst (.bool true)) (X.s 128))]
def C.catnaplaw4_ConfGraphs_r18 : List IOper := C.catnaplaw4_ConfGraphs_r18_b
def C.catnaplaw4_ConfGraphs_r18_w := @aopsE _ _ C.catnaplaw4_ConfGraphs_r18.eq_1
def C.catnaplaw4_ConfGraphs_b15 : ICode := .seq (.region C.catnaplaw4_ConfGraphs_r18) C.catnaplaw4_ConfGraphs_c14
def C.catnaplaw4_ConfGraphs_b15_w := @awpE _ _ C.catnaplaw4_ConfGraphs_b15.eq_1
def C.catnaplaw4_ConfGraphs_c16 : ICode := .keep [4, 6, 7, 9] (.seq (.block 3 C.catnaplaw4_ConfGraphs_b15) C.catnaplaw4_ConfGraphs_c12)
def C.catnaplaw4_ConfGraphs_c16_w := @awpE _ _ C.catnaplaw4_ConfGraphs_c16.eq_1
def C.catnaplaw4_ConfGraphs_c17 : ICode := .keep [4, 6, 7, 9, 82] (.cond (X.s 82) .skip (.exit 2))
def C.catnaplaw4_ConfGraphs_c17_w := @awpE _ _ C.catnaplaw4_ConfGraphs_c17.eq_1
def C.catnaplaw4_ConfGraphs_r16_b : List IOper := [
 X.m 79 9,
 X.m 80 6,
 X.o 81 (.len (X.s 80)),
 X.o 82 (.bin .lss (X.s 79) (X.s 81))]
def C.catnaplaw4_ConfGraphs_r16 : List IOper := C.catnaplaw4_ConfGraphs_r16_b
def C.catnaplaw4_ConfGraphs_r16_w := @aopsE _ _ C.catnaplaw4_ConfGraphs_r16.eq_1
def C.catnaplaw4_ConfGraphs_l18 : ICode := .keep [4, 6, 7, 9] (.seq (.seq (.region C.catnaplaw4_ConfGraphs_r16) C.catnaplaw4_ConfGraphs_c17) C.catnaplaw4_ConfGraphs_c16)
def C.catnaplaw4_ConfGraphs_l18_w := @awpE _ _ C.catnaplaw4_ConfGraphs_l18.eq_1
def C.catnaplaw4_ConfGraphs_b19 : ICode := .loop C.catnaplaw4_ConfGraphs_l18
def C.catnaplaw4_ConfGraphs_b19_w := @awpE _ _ C.catnaplaw4_ConfGraphs_b19.eq_1
def C.catnaplaw4_ConfGraphs_c20 : ICode := .keep [4, 6, 7, 9] (.block 2 C.catnaplaw4_ConfGraphs_b19)
def C.catnaplaw4_ConfGraphs_c20_w := @awpE _ _ C.catnaplaw4_ConfGraphs_c20.eq_1
def C.catnaplaw4_ConfGraphs_r15_b : List IOper := [
 X.o 9 (.move (X.i 0))]
def C.catnaplaw4_ConfGraphs_r15 : List IOper := C.catnaplaw4_ConfGraphs_r15_b
def C.catnaplaw4_ConfGraphs_r15_w := @aopsE _ _ C.catnaplaw4_ConfGraphs_r15.eq_1
def C.catnaplaw4_ConfGraphs_c21 : ICode := .keep [4, 6, 7] (.seq (.seq (.region C.catnaplaw4_ConfGraphs_r15) C.catnaplaw4_ConfGraphs_c20) C.catnaplaw4_ConfGraphs_c11)
def C.catnaplaw4_ConfGraphs_c21_w := @awpE _ _ C.catnaplaw4_ConfGraphs_c21.eq_1
def C.catnaplaw4_ConfGraphs_r12_b : List IOper := [
 X.m 48 8,
 X.o 49 (.bin .add (X.s 48) (X.i 1)),
 X.m 8 49]
def C.catnaplaw4_ConfGraphs_r12 : List IOper := C.catnaplaw4_ConfGraphs_r12_b
def C.catnaplaw4_ConfGraphs_r12_w := @aopsE _ _ C.catnaplaw4_ConfGraphs_r12.eq_1
def C.catnaplaw4_ConfGraphs_c22 : ICode := .keep [4, 5, 6, 7, 8] (.region C.catnaplaw4_ConfGraphs_r12)
def C.catnaplaw4_ConfGraphs_c22_w := @awpE _ _ C.catnaplaw4_ConfGraphs_c22.eq_1
def C.catnaplaw4_ConfGraphs_r14_b : List IOper := [
 X.o 2 (.move (.cst (.bool false)))]
def C.catnaplaw4_ConfGraphs_r14 : List IOper := C.catnaplaw4_ConfGraphs_r14_b
def C.catnaplaw4_ConfGraphs_r14_w := @aopsE _ _ C.catnaplaw4_ConfGraphs_r14.eq_1
def C.catnaplaw4_ConfGraphs_c23 : ICode := .seq (.region C.catnaplaw4_ConfGraphs_r14) .ret
def C.catnaplaw4_ConfGraphs_c23_w := @awpE _ _ C.catnaplaw4_ConfGraphs_c23.eq_1
def C.catnaplaw4_ConfGraphs_c24 : ICode := .keep [4, 5, 6, 7, 8, 78] (.cond (X.s 78) C.catnaplaw4_ConfGraphs_c23 .skip)
def C.catnaplaw4_ConfGraphs_c24_w := @awpE _ _ C.catnaplaw4_ConfGraphs_c24.eq_1
def C.catnaplaw4_ConfGraphs_r13_b : List IOper := [
 X.m 50 5,
 X.m 51 8,
 X.o 52 (.idxAddr 1 (X.s 50) (X.s 51)),
 X.o 53 (.load1 (X.s 52)),
 X.o 54 (.len (X.s 53)),
 X.o 55 (.fldAddr 0 (X.s 4)),
 X.o 56 (.load1 (X.s 55)),
 X.m 57 8,
 X.o 58 (.idxAddr 6 (X.s 56) (X.s 57)),
 X.o 59 (.fldAddr 1 (X.s 58)),
 X.o 60 (.load1 (X.s 59)),
 X.o 61 (.len (X.s 60)),
 X.o 62 (.bin .neq (X.s 54) (X.s 61)),
 X.m 63 62,
 X.f 63 64 (.fldAddr 0 (X.s 4)),
 X.f 63 65 (.load1 (X.s 64)),
 X.f 63 66 (.move (X.s 8)),
 X.f 63 67 (.idxAddr 6 (X.s 65) (X.s 66)),
 X.f 63 68 (.fldAddr 0 (X.s 67)),
 X.f 63 69 (.load1 (X.s 68)),
 X.f 63 70 (.bin .eql (X.s 69) (.cst (.int .u8 111))),
 X.f 63 71 (.move (X.s 5)),
 X.f 63 72 (.move (X.s 8)),
 X.f 63 73 (.idxAddr 1 (X.s 71) (X.s 72)),
 X.f 63 74 (.load1 (X.s 73)),
 X.f 63 75 (.len (X.s 74)),
 X.f 63 76 (.bin .eql (X.s 75) (X.i 0)),
 X.f 63 77 (.eqB true (X.s 70) (X.s 76)),
 X.o 78 (.pick (X.s 63) (.cst (.bool true)) (X.s 77))]
def C.catnaplaw4_ConfGraphs_r13 : List IOper := C.catnaplaw4_ConfGraphs_r13_b
def C.catnaplaw4_ConfGraphs_r13_w := @aopsE _ _ C.catnaplaw4_ConfGraphs_r13.eq_1
def C.catnaplaw4_ConfGraphs_b25 : ICode := .seq (.region C.catnaplaw4_ConfGraphs_r13) C.catnaplaw4_ConfGraphs_c24
def C.catnaplaw4_ConfGraphs_b25_w := @awpE _ _ C.catnaplaw4_ConfGraphs_b25.eq_1
def C.catnaplaw4_ConfGraphs_c26 : ICode := .keep [4, 5, 6, 7, 8] (.seq (.block 1 C.catnaplaw4_ConfGraphs_b25) C.catnaplaw4_ConfGraphs_c22)
def C.catnaplaw4_ConfGraphs_c26_w := @awpE _ _ C.catnaplaw4_ConfGraphs_c26.eq_1
def C.catnaplaw4_ConfGraphs_c27 : ICode := .keep [4, 5, 6, 7, 8, 47] (.cond (X.s 47) .skip (.exit 0))
def C.catnaplaw4_ConfGraphs_c27_w := @awpE _ _ C.catnaplaw4_ConfGraphs_c27.eq_1
def C.catnaplaw4_ConfGraphs_r11_b : List IOper := [
 X.m 44 8,
 X.m 45 5,
 X.o 46 (.len (X.s 45)),
 X.o 47 (.bin .lss (X.s 44) (X.s 46))]
def C.catnaplaw4_ConfGraphs_r11 : List IOper := C.catnaplaw4_ConfGraphs_r11_b
def C.catnaplaw4_ConfGraphs_r11_w := @aopsE _ _ C.catnaplaw4_ConfGraphs_r11.eq_1
def C.catnaplaw4_ConfGraphs_l28 : ICode := .keep [4, 5, 6, 7, 8] (.seq (.seq (.region C.catnaplaw4_ConfGraphs_r11) C.catnaplaw4_ConfGraphs_c27) C.catnaplaw4_ConfGraphs_c26)
def C.catnaplaw4_ConfGraphs_l28_w := @awpE _ _ C.catnaplaw4_ConfGraphs_l28.eq_1
def C.catnaplaw4_ConfGraphs_b29 : ICode := .loop C.catnaplaw4_ConfGraphs_l28
def C.catnaplaw4_ConfGraphs_b29_w := @awpE _ _ C.catnaplaw4_ConfGraphs_b29.eq_1
def C.catnaplaw4_ConfGraphs_c30 : ICode := .keep [4, 5, 6, 7, 8] (.block 0 C.catnaplaw4_ConfGraphs_b29)
def C.catnaplaw4_ConfGraphs_c30_w := @awpE _ _ C.catnaplaw4_ConfGraphs_c30.eq_1
def C.catnaplaw4_ConfGraphs_r10_b : List IOper := [
 X.o 8 (.move (X.i 0))]
def C.catnaplaw4_ConfGraphs_r10 : List IOper := C.catnaplaw4_ConfGraphs_r10_b
def C.catnaplaw4_ConfGraphs_r10_w := @aopsE _ _ C.catnaplaw4_ConfGraphs_r10.eq_1
def C.catnaplaw4_ConfGraphs_c31 : ICode := .keep [4, 5, 6, 7] (.seq (.seq (.region C.catnaplaw4_ConfGraphs_r10) C.catnaplaw4_ConfGraphs_c30) C.catnaplaw4_ConfGraphs_c21)
def C.catnaplaw4_ConfGraphs_c31_w := @awpE _ _ C.catnaplaw4_ConfGraphs_c31.eq_1
def C.catnaplaw4_ConfGraphs_r9_b : List IOper := [
 X.o 2 (.move (.cst (.bool false)))]
def C.catnaplaw4_ConfGraphs_r9 : List IOper := C.catnaplaw4_ConfGraphs_r9_b
def C.catnaplaw4_ConfGraphs_r9_w := @aopsE _ _ C.catnaplaw4_ConfGraphs_r9.eq_1
def C.catnaplaw4_ConfGraphs_c32 : ICode := .seq (.region C.catnaplaw4_ConfGraphs_r9) .ret
def C.catnaplaw4_ConfGraphs_c32_w := @awpE _ _ C.catnaplaw4_ConfGraphs_c32.eq_1
def C.catnaplaw4_ConfGraphs_c33 : ICode := .keep [4, 5, 6, 7, 43] (.cond (X.s 43) C.catnaplaw4_ConfGraphs_c32 .skip)
def C.catnaplaw4_ConfGraphs_c33_w := @awpE _ _ C.catnaplaw4_ConfGraphs_c33.eq_1
def C.catnaplaw4_ConfGraphs_r8_b : List IOper := [
 X.m 22 5,
 X.o 23 (.len (X.s 22)),
 X.o 24 (.fldAddr 0 (X.s 4)),
 X.o 25 (.load1 (X.s 24)),
 X.o 26 (.len (X.s 25)),
 X.o 27 (.bin .neq (X.s 23) (X.s 26)),
 X.m 28 27,
 X.f 28 29 (.move (X.s 6)),
 X.f 28 30 (.len (X.s 29)),
 X.f 28 31 (.fldAddr 1 (X.s 4)),
 X.f 28 32 (.load1 (X.s 31)),
 X.f 28 33 (.len (X.s 32)),
 X.f 28 34 (.bin .neq (X.s 30) (X.s 33)),
 X.o 35 (.pick (X.s 28) (.cst (.bool true)) (X.s 34)),
 X.m 36 35,
 X.f 36 37 (.move (X.s 7)),
 X.f 36 38 (.len (X.s 37)),
 X.f 36 39 (.fldAddr 3 (X.s 4)),
 X.f 36 40 (.load1 (X.s 39)),
 X.f 36 41 (.len (X.s 40)),
 X.f 36 42 (.bin .neq (X.s 38) (X.s 41)),
 X.o 43 (.pick (X.s 36) (.cst (.bool true)) (X.s 42))]
def C.catnaplaw4_ConfGraphs_r8 : List IOper := C.catnaplaw4_ConfGraphs_r8_b
def C.catnaplaw4_ConfGraphs_r8_w := @aopsE _ _ C.catnaplaw4_ConfGraphs_r8.eq_1
def C.catnaplaw4_ConfGraphs_c34 : ICode := .keep [4, 5, 6, 7] (.seq (.seq (.region C.catnaplaw4_ConfGraphs_r8) C.catnaplaw4_ConfGraphs_c33) C.catnaplaw4_ConfGraphs_c31)
def C.catnaplaw4_ConfGraphs_c34_w := @awpE _ _ C.catnaplaw4_ConfGraphs_c34.eq_1
def C.catnaplaw4_ConfGraphs_r7_b : List IOper := [
 X.o 20 (.loadN 4 (X.s 4)),
 X.o 21 (.call F.conf_Needs [X.s 20]),
 X.m 7 21]
def C.catnaplaw4_ConfGraphs_r7 : List IOper := C.catnaplaw4_ConfGraphs_r7_b
def C.catnaplaw4_ConfGraphs_r7_w := @aopsE _ _ C.catnaplaw4_ConfGraphs_r7.eq_1
def C.catnaplaw4_ConfGraphs_c35 : ICode := .keep [4, 5, 6] (.seq (.region C.catnaplaw4_ConfGraphs_r7) C.catnaplaw4_ConfGraphs_c34)
def C.catnaplaw4_ConfGraphs_c35_w := @awpE _ _ C.catnaplaw4_ConfGraphs_c35.eq_1
def C.catnaplaw4_ConfGraphs_r6_b : List IOper := [
 X.o 18 (.loadN 4 (X.s 4)),
 X.o 19 (.call F.conf_Domains [X.s 18]),
 X.m 6 19]
def C.catnaplaw4_ConfGraphs_r6 : List IOper := C.catnaplaw4_ConfGraphs_r6_b
def C.catnaplaw4_ConfGraphs_r6_w := @aopsE _ _ C.catnaplaw4_ConfGraphs_r6.eq_1
def C.catnaplaw4_ConfGraphs_c36 : ICode := .keep [4, 5] (.seq (.region C.catnaplaw4_ConfGraphs_r6) C.catnaplaw4_ConfGraphs_c35)
def C.catnaplaw4_ConfGraphs_c36_w := @awpE _ _ C.catnaplaw4_ConfGraphs_c36.eq_1
def C.catnaplaw4_ConfGraphs_r5_b : List IOper := [
 X.o 16 (.loadN 4 (X.s 4)),
 X.o 17 (.call F.conf_Clocks [X.s 16]),
 X.m 5 17]
def C.catnaplaw4_ConfGraphs_r5 : List IOper := C.catnaplaw4_ConfGraphs_r5_b
def C.catnaplaw4_ConfGraphs_r5_w := @aopsE _ _ C.catnaplaw4_ConfGraphs_r5.eq_1
def C.catnaplaw4_ConfGraphs_c37 : ICode := .keep [4] (.seq (.region C.catnaplaw4_ConfGraphs_r5) C.catnaplaw4_ConfGraphs_c36)
def C.catnaplaw4_ConfGraphs_c37_w := @awpE _ _ C.catnaplaw4_ConfGraphs_c37.eq_1
def C.catnaplaw4_ConfGraphs_r4_b : List IOper := [
 X.m 14 0,
 X.o 15 (.call F.catnaplaw4_chip [X.s 14]),
 X.o 4 (.alloc [.nils, .nils, .nils, .nils]),
 X.n (.storeN 4 (X.s 4) (X.s 15))]
def C.catnaplaw4_ConfGraphs_r4 : List IOper := C.catnaplaw4_ConfGraphs_r4_b
def C.catnaplaw4_ConfGraphs_r4_w := @aopsE _ _ C.catnaplaw4_ConfGraphs_r4.eq_1
def C.catnaplaw4_ConfGraphs_c38 : ICode := .keep [0] (.seq (.region C.catnaplaw4_ConfGraphs_r4) C.catnaplaw4_ConfGraphs_c37)
def C.catnaplaw4_ConfGraphs_c38_w := @awpE _ _ C.catnaplaw4_ConfGraphs_c38.eq_1
def C.catnaplaw4_ConfGraphs_r3_b : List IOper := [
 X.o 2 (.move (.cst (.bool false)))]
def C.catnaplaw4_ConfGraphs_r3 : List IOper := C.catnaplaw4_ConfGraphs_r3_b
def C.catnaplaw4_ConfGraphs_r3_w := @aopsE _ _ C.catnaplaw4_ConfGraphs_r3.eq_1
def C.catnaplaw4_ConfGraphs_c39 : ICode := .seq (.region C.catnaplaw4_ConfGraphs_r3) .ret
def C.catnaplaw4_ConfGraphs_c39_w := @awpE _ _ C.catnaplaw4_ConfGraphs_c39.eq_1
def C.catnaplaw4_ConfGraphs_c40 : ICode := .keep [0, 13] (.cond (X.s 13) C.catnaplaw4_ConfGraphs_c39 .skip)
def C.catnaplaw4_ConfGraphs_c40_w := @awpE _ _ C.catnaplaw4_ConfGraphs_c40.eq_1
def C.catnaplaw4_ConfGraphs_r2_b : List IOper := [
 X.m 12 3,
 X.o 13 (.un .not (X.s 12))]
def C.catnaplaw4_ConfGraphs_r2 : List IOper := C.catnaplaw4_ConfGraphs_r2_b
def C.catnaplaw4_ConfGraphs_r2_w := @aopsE _ _ C.catnaplaw4_ConfGraphs_r2.eq_1
def C.catnaplaw4_ConfGraphs_c41 : ICode := .keep [0, 3] (.seq (.seq (.region C.catnaplaw4_ConfGraphs_r2) C.catnaplaw4_ConfGraphs_c40) C.catnaplaw4_ConfGraphs_c38)
def C.catnaplaw4_ConfGraphs_c41_w := @awpE _ _ C.catnaplaw4_ConfGraphs_c41.eq_1
def C.catnaplaw4_ConfGraphs_r1_b : List IOper := [
 X.o 11 (.call F.catnaplaw4_shown []),
 X.m 3 11]
def C.catnaplaw4_ConfGraphs_r1 : List IOper := C.catnaplaw4_ConfGraphs_r1_b
def C.catnaplaw4_ConfGraphs_r1_w := @aopsE _ _ C.catnaplaw4_ConfGraphs_r1.eq_1
def C.catnaplaw4_ConfGraphs_c42 : ICode := .keep [0] (.seq (.region C.catnaplaw4_ConfGraphs_r1) C.catnaplaw4_ConfGraphs_c41)
def C.catnaplaw4_ConfGraphs_c42_w := @awpE _ _ C.catnaplaw4_ConfGraphs_c42.eq_1
def C.catnaplaw4_ConfGraphs_r0_b : List IOper := [
 X.o 2 (.move (.cst (.bool false)))]
def C.catnaplaw4_ConfGraphs_r0 : List IOper := C.catnaplaw4_ConfGraphs_r0_b
def C.catnaplaw4_ConfGraphs_r0_w := @aopsE _ _ C.catnaplaw4_ConfGraphs_r0.eq_1
def C.catnaplaw4_ConfGraphs : IFunc := ⟨1, [.slot 2], .seq (.region C.catnaplaw4_ConfGraphs_r0) C.catnaplaw4_ConfGraphs_c42⟩
def C.catnaplaw4_ConfGraphs_W := And.intro (And.intro (And.intro (And.intro (And.intro (And.intro @C.catnaplaw4_ConfGraphs_r25_w @C.catnaplaw4_ConfGraphs_c1_w) (And.intro @C.catnaplaw4_ConfGraphs_r22_w @C.catnaplaw4_ConfGraphs_c2_w)) (And.intro (And.intro @C.catnaplaw4_ConfGraphs_r24_w @C.catnaplaw4_ConfGraphs_c3_w) (And.intro @C.catnaplaw4_ConfGraphs_c4_w @C.catnaplaw4_ConfGraphs_r23_w))) (And.intro (And.intro (And.intro @C.catnaplaw4_ConfGraphs_b5_w @C.catnaplaw4_ConfGraphs_c6_w) (And.intro @C.catnaplaw4_ConfGraphs_c7_w @C.catnaplaw4_ConfGraphs_r21_w)) (And.intro (And.intro @C.catnaplaw4_ConfGraphs_b9_w @C.catnaplaw4_ConfGraphs_c10_w) (And.intro @C.catnaplaw4_ConfGraphs_r20_w @C.catnaplaw4_ConfGraphs_c11_w)))) (And.intro (And.intro (And.intro (And.intro @C.catnaplaw4_ConfGraphs_r17_w @C.catnaplaw4_ConfGraphs_c12_w) (And.intro @C.catnaplaw4_ConfGraphs_r19_w @C.catnaplaw4_ConfGraphs_c13_w)) (And.intro (And.intro @C.catnaplaw4_ConfGraphs_c14_w @C.catnaplaw4_ConfGraphs_r18_w) (And.intro @C.catnaplaw4_ConfGraphs_b15_w @C.catnaplaw4_ConfGraphs_c16_w))) (And.intro (And.intro (And.intro @C.catnaplaw4_ConfGraphs_c17_w @C.catnaplaw4_ConfGraphs_r16_w) (And.intro @C.catnaplaw4_ConfGraphs_b19_w @C.catnaplaw4_ConfGraphs_c20_w)) (And.intro (And.intro @C.catnaplaw4_ConfGraphs_r15_w @C.catnaplaw4_ConfGraphs_c21_w) (And.intro @C.catnaplaw4_ConfGraphs_r12_w @C.catnaplaw4_ConfGraphs_c22_w))))) (And.intro (And.intro (And.intro (And.intro (And.intro @C.catnaplaw4_ConfGraphs_r14_w @C.catnaplaw4_ConfGraphs_c23_w) (And.intro @C.catnaplaw4_ConfGraphs_c24_w @C.catnaplaw4_ConfGraphs_r13_w)) (And.intro (And.intro @C.catnaplaw4_ConfGraphs_b25_w @C.catnaplaw4_ConfGraphs_c26_w) (And.intro @C.catnaplaw4_ConfGraphs_c27_w @C.catnaplaw4_ConfGraphs_r11_w))) (And.intro (And.intro (And.intro @C.catnaplaw4_ConfGraphs_b29_w @C.catnaplaw4_ConfGraphs_c30_w) (And.intro @C.catnaplaw4_ConfGraphs_r10_w @C.catnaplaw4_ConfGraphs_c31_w)) (And.intro (And.intro @C.catnaplaw4_ConfGraphs_r9_w @C.catnaplaw4_ConfGraphs_c32_w) (And.intro @C.catnaplaw4_ConfGraphs_c33_w @C.catnaplaw4_ConfGraphs_r8_w)))) (And.intro (And.intro (And.intro (And.intro @C.catnaplaw4_ConfGraphs_c34_w @C.catnaplaw4_ConfGraphs_r7_w) (And.intro @C.catnaplaw4_ConfGraphs_c35_w @C.catnaplaw4_ConfGraphs_r6_w)) (And.intro (And.intro @C.catnaplaw4_ConfGraphs_c36_w @C.catnaplaw4_ConfGraphs_r5_w) (And.intro @C.catnaplaw4_ConfGraphs_c37_w @C.catnaplaw4_ConfGraphs_r4_w))) (And.intro (And.intro (And.intro @C.catnaplaw4_ConfGraphs_c38_w @C.catnaplaw4_ConfGraphs_r3_w) (And.intro @C.catnaplaw4_ConfGraphs_c39_w @C.catnaplaw4_ConfGraphs_c40_w)) (And.intro (And.intro @C.catnaplaw4_ConfGraphs_r2_w @C.catnaplaw4_ConfGraphs_c41_w) (And.intro @C.catnaplaw4_ConfGraphs_r1_w (And.intro @C.catnaplaw4_ConfGraphs_c42_w @C.catnaplaw4_ConfGraphs_r0_w))))))
def C.catnaplaw4_ConfGraphs_B := And.intro (And.intro (And.intro (And.intro @C.catnaplaw4_ConfGraphs_r25_b.eq_1 (And.intro @C.catnaplaw4_ConfGraphs_r22_b.eq_1 @C.catnaplaw4_ConfGraphs_r24_b.eq_1)) (And.intro @C.catnaplaw4_ConfGraphs_r23_b.eq_1 (And.intro @C.catnaplaw4_ConfGraphs_r21_b.eq_1 @C.catnaplaw4_ConfGraphs_r20_b.eq_1))) (And.intro (And.intro @C.catnaplaw4_ConfGraphs_r17_b.eq_1 (And.intro @C.catnaplaw4_ConfGraphs_r19_b.eq_1 @C.catnaplaw4_ConfGraphs_r18_b.eq_1)) (And.intro (And.intro @C.catnaplaw4_ConfGraphs_r16_b.eq_1 @C.catnaplaw4_ConfGraphs_r15_b.eq_1) (And.intro @C.catnaplaw4_ConfGraphs_r12_b.eq_1 @C.catnaplaw4_ConfGraphs_r14_b.eq_1)))) (And.intro (And.intro (And.intro @C.catnaplaw4_ConfGraphs_r13_b.eq_1 (And.intro @C.catnaplaw4_ConfGraphs_r11_b.eq_1 @C.catnaplaw4_ConfGraphs_r10_b.eq_1)) (And.intro @C.catnaplaw4_ConfGraphs_r9_b.eq_1 (And.intro @C.catnaplaw4_ConfGraphs_r8_b.eq_1 @C.catnaplaw4_ConfGraphs_r7_b.eq_1))) (And.intro (And.intro @C.catnaplaw4_ConfGraphs_r6_b.eq_1 (And.intro @C.catnaplaw4_ConfGraphs_r5_b.eq_1 @C.catnaplaw4_ConfGraphs_r4_b.eq_1)) (And.intro (And.intro @C.catnaplaw4_ConfGraphs_r3_b.eq_1 @C.catnaplaw4_ConfGraphs_r2_b.eq_1) (And.intro @C.catnaplaw4_ConfGraphs_r1_b.eq_1 @C.catnaplaw4_ConfGraphs_r0_b.eq_1))))

def C.catnaplaw4_ConfFirst_r34_b : List IOper := [
 X.o 94 (.loadN 4 (X.s 8)),
 X.o 95 (.call F.conf_Check [X.s 94]),
 X.m 96 11,
 X.o 97 (.bin .eql (X.s 95) (X.s 96)),
 X.m 6 97]
def C.catnaplaw4_ConfFirst_r34 : List IOper := C.catnaplaw4_ConfFirst_r34_b
def C.catnaplaw4_ConfFirst_r34_w := @aopsE _ _ C.catnaplaw4_ConfFirst_r34.eq_1
def C.catnaplaw4_ConfFirst_c1 : ICode := .keep [8, 11] (.seq (.region C.catnaplaw4_ConfFirst_r34) .ret)
def C.catnaplaw4_ConfFirst_c1_w := @awpE _ _ C.catnaplaw4_ConfFirst_c1.eq_1
def C.catnaplaw4_ConfFirst_r10_b : List IOper := [
 X.m 31 12,
 X.o 32 (.bin .add (X.s 31) (X.i 1)),
 X.m 12 32]
def C.catnaplaw4_ConfFirst_r10 : List IOper := C.catnaplaw4_ConfFirst_r10_b
def C.catnaplaw4_ConfFirst_r10_w := @aopsE _ _ C.catnaplaw4_ConfFirst_r10.eq_1
def C.catnaplaw4_ConfFirst_c2 : ICode := .keep [8, 9, 10, 11, 12] (.region C.catnaplaw4_ConfFirst_r10)
def C.catnaplaw4_ConfFirst_c2_w := @awpE _ _ C.catnaplaw4_ConfFirst_c2.eq_1
def C.catnaplaw4_ConfFirst_r19_b : List IOper := [
 X.o 11 (.move (X.i 8))]
def C.catnaplaw4_ConfFirst_r19 : List IOper := C.catnaplaw4_ConfFirst_r19_b
def C.catnaplaw4_ConfFirst_r19_w := @aopsE _ _ C.catnaplaw4_ConfFirst_r19.eq_1
def C.catnaplaw4_ConfFirst_c3 : ICode := .keep [8, 9, 10, 12] (.region C.catnaplaw4_ConfFirst_r19)
def C.catnaplaw4_ConfFirst_c3_w := @awpE _ _ C.catnaplaw4_ConfFirst_c3.eq_1
def C.catnaplaw4_ConfFirst_r18_b : List IOper := [
 X.o 45 (.fldAddr 3 (X.s 8)),
 X.o 46 (.load1 (X.s 45)),
 X.o 47 (.makeSlice 2 8 [.int .u32 0, .bool false] (X.i 9) (X.i 9)),
 X.o 48 (.idxAddr 6 (X.s 46) (X.i 0)),
 X.o 49 (.fldAddr 4 (X.s 48)),
 X.n (.store1 (X.s 49) (X.s 47))]
def C.catnaplaw4_ConfFirst_r18 : List IOper := C.catnaplaw4_ConfFirst_r18_b
def C.catnaplaw4_ConfFirst_r18_w := @aopsE _ _ C.catnaplaw4_ConfFirst_r18.eq_1
def C.catnaplaw4_ConfFirst_r22_b : List IOper := [
 X.o 11 (.move (X.i 1))]
def C.catnaplaw4_ConfFirst_r22 : List IOper := C.catnaplaw4_ConfFirst_r22_b
def C.catnaplaw4_ConfFirst_r22_w := @aopsE _ _ C.catnaplaw4_ConfFirst_r22.eq_1
def C.catnaplaw4_ConfFirst_c4 : ICode := .keep [8, 9, 10, 12] (.region C.catnaplaw4_ConfFirst_r22)
def C.catnaplaw4_ConfFirst_c4_w := @awpE _ _ C.catnaplaw4_ConfFirst_c4.eq_1
def C.catnaplaw4_ConfFirst_r21_b : List IOper := [
 X.o 52 (.fldAddr 0 (X.s 8)),
 X.o 53 (.load1 (X.s 52)),
 X.o 54 (.idxAddr 6 (X.s 53) (X.i 0)),
 X.o 55 (.fldAddr 0 (X.s 54)),
 X.n (.store1 (X.s 55) (.cst (.int .u8 113)))]
def C.catnaplaw4_ConfFirst_r21 : List IOper := C.catnaplaw4_ConfFirst_r21_b
def C.catnaplaw4_ConfFirst_r21_w := @aopsE _ _ C.catnaplaw4_ConfFirst_r21.eq_1
def C.catnaplaw4_ConfFirst_r25_b : List IOper := [
 X.o 11 (.move (X.i 4))]
def C.catnaplaw4_ConfFirst_r25 : List IOper := C.catnaplaw4_ConfFirst_r25_b
def C.catnaplaw4_ConfFirst_r25_w := @aopsE _ _ C.catnaplaw4_ConfFirst_r25.eq_1
def C.catnaplaw4_ConfFirst_c5 : ICode := .keep [8, 9, 10, 12] (.region C.catnaplaw4_ConfFirst_r25)
def C.catnaplaw4_ConfFirst_c5_w := @awpE _ _ C.catnaplaw4_ConfFirst_c5.eq_1
def C.catnaplaw4_ConfFirst_r24_b : List IOper := [
 X.o 58 (.fldAddr 1 (X.s 8)),
 X.o 59 (.load1 (X.s 58)),
 X.o 60 (.idxAddr 3 (X.s 59) (X.i 0)),
 X.o 61 (.fldAddr 0 (X.s 60)),
 X.n (.store1 (X.s 61) (X.i 77))]
def C.catnaplaw4_ConfFirst_r24 : List IOper := C.catnaplaw4_ConfFirst_r24_b
def C.catnaplaw4_ConfFirst_r24_w := @aopsE _ _ C.catnaplaw4_ConfFirst_r24.eq_1
def C.catnaplaw4_ConfFirst_r30_b : List IOper := [
 X.o 80 (.fldAddr 1 (X.s 8)),
 X.o 81 (.load1 (X.s 80)),
 X.o 82 (.fldAddr 1 (X.s 8)),
 X.o 83 (.load1 (X.s 82)),
 X.o 84 (.len (X.s 83)),
 X.o 85 (.bin .sub (X.s 84) (X.i 1)),
 X.o 86 (.idxAddr 3 (X.s 81) (X.s 85)),
 X.o 87 (.fldAddr 0 (X.s 86)),
 X.n (.store1 (X.s 87) (X.i (-1)))]
def C.catnaplaw4_ConfFirst_r30 : List IOper := C.catnaplaw4_ConfFirst_r30_b
def C.catnaplaw4_ConfFirst_r30_w := @aopsE _ _ C.catnaplaw4_ConfFirst_r30.eq_1
def C.catnaplaw4_ConfFirst_c6 : ICode := .region C.catnaplaw4_ConfFirst_r30
def C.catnaplaw4_ConfFirst_c6_w := @awpE _ _ C.catnaplaw4_ConfFirst_c6.eq_1
def C.catnaplaw4_ConfFirst_c7 : ICode := .keep [8, 9, 10, 11, 12, 79] (.cond (X.s 79) C.catnaplaw4_ConfFirst_c6 .skip)
def C.catnaplaw4_ConfFirst_c7_w := @awpE _ _ C.catnaplaw4_ConfFirst_c7.eq_1
def C.catnaplaw4_ConfFirst_r29_b : List IOper := [
 X.m 72 9,
 X.o 73 (.bin .eql (X.s 72) (X.i 2)),
 X.m 74 73,
 X.t 74 75 (.fldAddr 1 (X.s 8)),
 X.t 74 76 (.load1 (X.s 75)),
 X.t 74 77 (.len (X.s 76)),
 X.t 74 78 (.bin .gtr (X.s 77) (X.i 1)),
 X.o 79 (.pick (X.s 74) (X.s 78) (.cst (.bool false)))]
def C.catnaplaw4_ConfFirst_r29 : List IOper := C.catnaplaw4_ConfFirst_r29_b
def C.catnaplaw4_ConfFirst_r29_w := @aopsE _ _ C.catnaplaw4_ConfFirst_r29.eq_1
def C.catnaplaw4_ConfFirst_c8 : ICode := .keep [8, 9, 10, 11, 12] (.seq (.region C.catnaplaw4_ConfFirst_r29) C.catnaplaw4_ConfFirst_c7)
def C.catnaplaw4_ConfFirst_c8_w := @awpE _ _ C.catnaplaw4_ConfFirst_c8.eq_1
def C.catnaplaw4_ConfFirst_r28_b : List IOper := [
 X.o 11 (.move (X.i 3))]
def C.catnaplaw4_ConfFirst_r28 : List IOper := C.catnaplaw4_ConfFirst_r28_b
def C.catnaplaw4_ConfFirst_r28_w := @aopsE _ _ C.catnaplaw4_ConfFirst_r28.eq_1
def C.catnaplaw4_ConfFirst_c9 : ICode := .keep [8, 9, 10, 12] (.seq (.region C.catnaplaw4_ConfFirst_r28) C.catnaplaw4_ConfFirst_c8)
def C.catnaplaw4_ConfFirst_c9_w := @awpE _ _ C.catnaplaw4_ConfFirst_c9.eq_1
def C.catnaplaw4_ConfFirst_r27_b : List IOper := [
 X.o 64 (.fldAddr 1 (X.s 8)),
 X.o 65 (.load1 (X.s 64)),
 X.o 66 (.fldAddr 1 (X.s 8)),
 X.o 67 (.load1 (X.s 66)),
 X.o 68 (.len (X.s 67)),
 X.o 69 (.bin .sub (X.s 68) (X.i 1)),
 X.o 70 (.idxAddr 3 (X.s 65) (X.s 69)),
 X.o 71 (.fldAddr 1 (X.s 70)),
 X.n (.store1 (X.s 71) (X.i 21))]
def C.catnaplaw4_ConfFirst_r27 : List IOper := C.catnaplaw4_ConfFirst_r27_b
def C.catnaplaw4_ConfFirst_r27_w := @aopsE _ _ C.catnaplaw4_ConfFirst_r27.eq_1
def C.catnaplaw4_ConfFirst_r33_b : List IOper := [
 X.o 11 (.move (X.i 3))]
def C.catnaplaw4_ConfFirst_r33 : List IOper := C.catnaplaw4_ConfFirst_r33_b
def C.catnaplaw4_ConfFirst_r33_w := @aopsE _ _ C.catnaplaw4_ConfFirst_r33.eq_1
def C.catnaplaw4_ConfFirst_c10 : ICode := .keep [8, 9, 10, 12] (.region C.catnaplaw4_ConfFirst_r33)
def C.catnaplaw4_ConfFirst_c10_w := @awpE _ _ C.catnaplaw4_ConfFirst_c10.eq_1
def C.catnaplaw4_ConfFirst_r32_b : List IOper := [
 X.o 90 (.fldAddr 2 (X.s 8)),
 X.o 91 (.load1 (X.s 90)),
 X.o 92 (.idxAddr 1 (X.s 91) (X.i 0)),
 X.o 93 (.fldAddr 0 (X.s 92)),
 X.n (.store1 (X.s 93) (X.i (-1)))]
def C.catnaplaw4_ConfFirst_r32 : List IOper := C.catnaplaw4_ConfFirst_r32_b
def C.catnaplaw4_ConfFirst_r32_w := @aopsE _ _ C.catnaplaw4_ConfFirst_r32.eq_1
def C.catnaplaw4_ConfFirst_r16_b : List IOper := [
 X.o 11 (.move (X.i 5))]
def C.catnaplaw4_ConfFirst_r16 : List IOper := C.catnaplaw4_ConfFirst_r16_b
def C.catnaplaw4_ConfFirst_r16_w := @aopsE _ _ C.catnaplaw4_ConfFirst_r16.eq_1
def C.catnaplaw4_ConfFirst_c11 : ICode := .keep [8, 9, 10, 12] (.region C.catnaplaw4_ConfFirst_r16)
def C.catnaplaw4_ConfFirst_c11_w := @awpE _ _ C.catnaplaw4_ConfFirst_c11.eq_1
def C.catnaplaw4_ConfFirst_r15_b : List IOper := [
 X.o 38 (.fldAddr 3 (X.s 8)),
 X.o 39 (.load1 (X.s 38)),
 X.o 40 (.buildSlice 1 1 [.int .i64 0] [(0, 1, X.i 0)]),
 X.o 41 (.idxAddr 6 (X.s 39) (X.i 0)),
 X.o 42 (.fldAddr 5 (X.s 41)),
 X.n (.store1 (X.s 42) (X.s 40))]
def C.catnaplaw4_ConfFirst_r15 : List IOper := C.catnaplaw4_ConfFirst_r15_b
def C.catnaplaw4_ConfFirst_r15_w := @aopsE _ _ C.catnaplaw4_ConfFirst_r15.eq_1
def C.catnaplaw4_ConfFirst_c12 : ICode := .seq (.region C.catnaplaw4_ConfFirst_r32) C.catnaplaw4_ConfFirst_c10
def C.catnaplaw4_ConfFirst_c12_w := @awpE _ _ C.catnaplaw4_ConfFirst_c12.eq_1
def C.catnaplaw4_ConfFirst_c13 : ICode := .seq (.region C.catnaplaw4_ConfFirst_r15) C.catnaplaw4_ConfFirst_c11
def C.catnaplaw4_ConfFirst_c13_w := @awpE _ _ C.catnaplaw4_ConfFirst_c13.eq_1
def C.catnaplaw4_ConfFirst_c14 : ICode := .keep [8, 9, 10, 12, 88] (.cond (X.s 88) C.catnaplaw4_ConfFirst_c12 C.catnaplaw4_ConfFirst_c13)
def C.catnaplaw4_ConfFirst_c14_w := @awpE _ _ C.catnaplaw4_ConfFirst_c14.eq_1
def C.catnaplaw4_ConfFirst_r31_b : List IOper := [
 X.o 89 (.bin .eql (X.s 37) (X.i 4)),
 X.m 88 89]
def C.catnaplaw4_ConfFirst_r31 : List IOper := C.catnaplaw4_ConfFirst_r31_b
def C.catnaplaw4_ConfFirst_r31_w := @aopsE _ _ C.catnaplaw4_ConfFirst_r31.eq_1
def C.catnaplaw4_ConfFirst_c15 : ICode := .seq (.region C.catnaplaw4_ConfFirst_r27) C.catnaplaw4_ConfFirst_c9
def C.catnaplaw4_ConfFirst_c15_w := @awpE _ _ C.catnaplaw4_ConfFirst_c15.eq_1
def C.catnaplaw4_ConfFirst_c16 : ICode := .seq (.region C.catnaplaw4_ConfFirst_r31) C.catnaplaw4_ConfFirst_c14
def C.catnaplaw4_ConfFirst_c16_w := @awpE _ _ C.catnaplaw4_ConfFirst_c16.eq_1
def C.catnaplaw4_ConfFirst_c17 : ICode := .keep [8, 9, 10, 12, 37, 62] (.cond (X.s 62) C.catnaplaw4_ConfFirst_c15 C.catnaplaw4_ConfFirst_c16)
def C.catnaplaw4_ConfFirst_c17_w := @awpE _ _ C.catnaplaw4_ConfFirst_c17.eq_1
def C.catnaplaw4_ConfFirst_r26_b : List IOper := [
 X.o 63 (.bin .eql (X.s 37) (X.i 3)),
 X.m 62 63]
def C.catnaplaw4_ConfFirst_r26 : List IOper := C.catnaplaw4_ConfFirst_r26_b
def C.catnaplaw4_ConfFirst_r26_w := @aopsE _ _ C.catnaplaw4_ConfFirst_r26.eq_1
def C.catnaplaw4_ConfFirst_c18 : ICode := .seq (.region C.catnaplaw4_ConfFirst_r24) C.catnaplaw4_ConfFirst_c5
def C.catnaplaw4_ConfFirst_c18_w := @awpE _ _ C.catnaplaw4_ConfFirst_c18.eq_1
def C.catnaplaw4_ConfFirst_c19 : ICode := .seq (.region C.catnaplaw4_ConfFirst_r26) C.catnaplaw4_ConfFirst_c17
def C.catnaplaw4_ConfFirst_c19_w := @awpE _ _ C.catnaplaw4_ConfFirst_c19.eq_1
def C.catnaplaw4_ConfFirst_c20 : ICode := .keep [8, 9, 10, 12, 37, 56] (.cond (X.s 56) C.catnaplaw4_ConfFirst_c18 C.catnaplaw4_ConfFirst_c19)
def C.catnaplaw4_ConfFirst_c20_w := @awpE _ _ C.catnaplaw4_ConfFirst_c20.eq_1
def C.catnaplaw4_ConfFirst_r23_b : List IOper := [
 X.o 57 (.bin .eql (X.s 37) (X.i 2)),
 X.m 56 57]
def C.catnaplaw4_ConfFirst_r23 : List IOper := C.catnaplaw4_ConfFirst_r23_b
def C.catnaplaw4_ConfFirst_r23_w := @aopsE _ _ C.catnaplaw4_ConfFirst_r23.eq_1
def C.catnaplaw4_ConfFirst_c21 : ICode := .seq (.region C.catnaplaw4_ConfFirst_r21) C.catnaplaw4_ConfFirst_c4
def C.catnaplaw4_ConfFirst_c21_w := @awpE _ _ C.catnaplaw4_ConfFirst_c21.eq_1
def C.catnaplaw4_ConfFirst_c22 : ICode := .seq (.region C.catnaplaw4_ConfFirst_r23) C.catnaplaw4_ConfFirst_c20
def C.catnaplaw4_ConfFirst_c22_w := @awpE _ _ C.catnaplaw4_ConfFirst_c22.eq_1
def C.catnaplaw4_ConfFirst_c23 : ICode := .keep [8, 9, 10, 12, 37, 50] (.cond (X.s 50) C.catnaplaw4_ConfFirst_c21 C.catnaplaw4_ConfFirst_c22)
def C.catnaplaw4_ConfFirst_c23_w := @awpE _ _ C.catnaplaw4_ConfFirst_c23.eq_1
def C.catnaplaw4_ConfFirst_r20_b : List IOper := [
 X.o 51 (.bin .eql (X.s 37) (X.i 1)),
 X.m 50 51]
def C.catnaplaw4_ConfFirst_r20 : List IOper := C.catnaplaw4_ConfFirst_r20_b
def C.catnaplaw4_ConfFirst_r20_w := @aopsE _ _ C.catnaplaw4_ConfFirst_r20.eq_1
def C.catnaplaw4_ConfFirst_c24 : ICode := .seq (.region C.catnaplaw4_ConfFirst_r18) C.catnaplaw4_ConfFirst_c3
def C.catnaplaw4_ConfFirst_c24_w := @awpE _ _ C.catnaplaw4_ConfFirst_c24.eq_1
def C.catnaplaw4_ConfFirst_c25 : ICode := .seq (.region C.catnaplaw4_ConfFirst_r20) C.catnaplaw4_ConfFirst_c23
def C.catnaplaw4_ConfFirst_c25_w := @awpE _ _ C.catnaplaw4_ConfFirst_c25.eq_1
def C.catnaplaw4_ConfFirst_c26 : ICode := .keep [8, 9, 10, 12, 37, 43] (.cond (X.s 43) C.catnaplaw4_ConfFirst_c24 C.catnaplaw4_ConfFirst_c25)
def C.catnaplaw4_ConfFirst_c26_w := @awpE _ _ C.catnaplaw4_ConfFirst_c26.eq_1
def C.catnaplaw4_ConfFirst_r17_b : List IOper := [
 X.o 44 (.bin .eql (X.s 37) (X.i 0)),
 X.m 43 44]
def C.catnaplaw4_ConfFirst_r17 : List IOper := C.catnaplaw4_ConfFirst_r17_b
def C.catnaplaw4_ConfFirst_r17_w := @aopsE _ _ C.catnaplaw4_ConfFirst_r17.eq_1
def C.catnaplaw4_ConfFirst_b27 : ICode := .seq (.region C.catnaplaw4_ConfFirst_r17) C.catnaplaw4_ConfFirst_c26
def C.catnaplaw4_ConfFirst_b27_w := @awpE _ _ C.catnaplaw4_ConfFirst_b27.eq_1
def C.catnaplaw4_ConfFirst_c28 : ICode := .keep [8, 9, 10, 12, 37] (.block 2 C.catnaplaw4_ConfFirst_b27)
def C.catnaplaw4_ConfFirst_c28_w := @awpE _ _ C.catnaplaw4_ConfFirst_c28.eq_1
def C.catnaplaw4_ConfFirst_r14_b : List IOper := [
 X.m 37 13]
def C.catnaplaw4_ConfFirst_r14 : List IOper := C.catnaplaw4_ConfFirst_r14_b
def C.catnaplaw4_ConfFirst_r14_w := @aopsE _ _ C.catnaplaw4_ConfFirst_r14.eq_1
def C.catnaplaw4_ConfFirst_c29 : ICode := .keep [8, 9, 10, 12, 13] (.seq (.region C.catnaplaw4_ConfFirst_r14) C.catnaplaw4_ConfFirst_c28)
def C.catnaplaw4_ConfFirst_c29_w := @awpE _ _ C.catnaplaw4_ConfFirst_c29.eq_1
def C.catnaplaw4_ConfFirst_r13_b : List IOper := [
 X.m 36 9,
 X.m 13 36]
def C.catnaplaw4_ConfFirst_r13 : List IOper := C.catnaplaw4_ConfFirst_r13_b
def C.catnaplaw4_ConfFirst_r13_w := @aopsE _ _ C.catnaplaw4_ConfFirst_r13.eq_1
def C.catnaplaw4_ConfFirst_c30 : ICode := .region C.catnaplaw4_ConfFirst_r13
def C.catnaplaw4_ConfFirst_c30_w := @awpE _ _ C.catnaplaw4_ConfFirst_c30.eq_1
def C.catnaplaw4_ConfFirst_c31 : ICode := .keep [8, 9, 10, 12, 13, 35] (.cond (X.s 35) C.catnaplaw4_ConfFirst_c30 .skip)
def C.catnaplaw4_ConfFirst_c31_w := @awpE _ _ C.catnaplaw4_ConfFirst_c31.eq_1
def C.catnaplaw4_ConfFirst_r12_b : List IOper := [
 X.m 34 12,
 X.o 35 (.bin .eql (X.s 34) (X.i 1))]
def C.catnaplaw4_ConfFirst_r12 : List IOper := C.catnaplaw4_ConfFirst_r12_b
def C.catnaplaw4_ConfFirst_r12_w := @aopsE _ _ C.catnaplaw4_ConfFirst_r12.eq_1
def C.catnaplaw4_ConfFirst_c32 : ICode := .keep [8, 9, 10, 12, 13] (.seq (.seq (.region C.catnaplaw4_ConfFirst_r12) C.catnaplaw4_ConfFirst_c31) C.catnaplaw4_ConfFirst_c29)
def C.catnaplaw4_ConfFirst_c32_w := @awpE _ _ C.catnaplaw4_ConfFirst_c32.eq_1
def C.catnaplaw4_ConfFirst_r11_b : List IOper := [
 X.m 33 10,
 X.m 13 33]
def C.catnaplaw4_ConfFirst_r11 : List IOper := C.catnaplaw4_ConfFirst_r11_b
def C.catnaplaw4_ConfFirst_r11_w := @aopsE _ _ C.catnaplaw4_ConfFirst_r11.eq_1
def C.catnaplaw4_ConfFirst_b33 : ICode := .seq (.region C.catnaplaw4_ConfFirst_r11) C.catnaplaw4_ConfFirst_c32
def C.catnaplaw4_ConfFirst_b33_w := @awpE _ _ C.catnaplaw4_ConfFirst_b33.eq_1
def C.catnaplaw4_ConfFirst_c34 : ICode := .keep [8, 9, 10, 12] (.seq (.block 1 C.catnaplaw4_ConfFirst_b33) C.catnaplaw4_ConfFirst_c2)
def C.catnaplaw4_ConfFirst_c34_w := @awpE _ _ C.catnaplaw4_ConfFirst_c34.eq_1
def C.catnaplaw4_ConfFirst_c35 : ICode := .keep [8, 9, 10, 11, 12, 30] (.cond (X.s 30) .skip (.exit 0))
def C.catnaplaw4_ConfFirst_c35_w := @awpE _ _ C.catnaplaw4_ConfFirst_c35.eq_1
def C.catnaplaw4_ConfFirst_r9_b : List IOper := [
 X.m 29 12,
 X.o 30 (.bin .lss (X.s 29) (X.i 2))]
def C.catnaplaw4_ConfFirst_r9 : List IOper := C.catnaplaw4_ConfFirst_r9_b
def C.catnaplaw4_ConfFirst_r9_w := @aopsE _ _ C.catnaplaw4_ConfFirst_r9.eq_1
def C.catnaplaw4_ConfFirst_l36 : ICode := .keep [8, 9, 10, 11, 12] (.seq (.seq (.region C.catnaplaw4_ConfFirst_r9) C.catnaplaw4_ConfFirst_c35) C.catnaplaw4_ConfFirst_c34)
def C.catnaplaw4_ConfFirst_l36_w := @awpE _ _ C.catnaplaw4_ConfFirst_l36.eq_1
def C.catnaplaw4_ConfFirst_b37 : ICode := .loop C.catnaplaw4_ConfFirst_l36
def C.catnaplaw4_ConfFirst_b37_w := @awpE _ _ C.catnaplaw4_ConfFirst_b37.eq_1
def C.catnaplaw4_ConfFirst_c38 : ICode := .keep [8, 9, 10, 11, 12] (.block 0 C.catnaplaw4_ConfFirst_b37)
def C.catnaplaw4_ConfFirst_c38_w := @awpE _ _ C.catnaplaw4_ConfFirst_c38.eq_1
def C.catnaplaw4_ConfFirst_r8_b : List IOper := [
 X.o 12 (.move (X.i 0))]
def C.catnaplaw4_ConfFirst_r8 : List IOper := C.catnaplaw4_ConfFirst_r8_b
def C.catnaplaw4_ConfFirst_r8_w := @aopsE _ _ C.catnaplaw4_ConfFirst_r8.eq_1
def C.catnaplaw4_ConfFirst_c39 : ICode := .keep [8, 9, 10, 11] (.seq (.seq (.region C.catnaplaw4_ConfFirst_r8) C.catnaplaw4_ConfFirst_c38) C.catnaplaw4_ConfFirst_c1)
def C.catnaplaw4_ConfFirst_c39_w := @awpE _ _ C.catnaplaw4_ConfFirst_c39.eq_1
def C.catnaplaw4_ConfFirst_r7_b : List IOper := [
 X.o 11 (.move (X.i 0))]
def C.catnaplaw4_ConfFirst_r7 : List IOper := C.catnaplaw4_ConfFirst_r7_b
def C.catnaplaw4_ConfFirst_r7_w := @aopsE _ _ C.catnaplaw4_ConfFirst_r7.eq_1
def C.catnaplaw4_ConfFirst_c40 : ICode := .keep [8, 9, 10] (.seq (.region C.catnaplaw4_ConfFirst_r7) C.catnaplaw4_ConfFirst_c39)
def C.catnaplaw4_ConfFirst_c40_w := @awpE _ _ C.catnaplaw4_ConfFirst_c40.eq_1
def C.catnaplaw4_ConfFirst_r6_b : List IOper := [
 X.m 24 1,
 X.o 25 (.call F.catnaplaw4_pick [X.s 24, X.i 6]),
 X.m 26 2,
 X.o 27 (.call F.catnaplaw4_pick [X.s 26, X.i 6]),
 X.o 28 (.minmax true (X.s 25) (X.s 27)),
 X.m 10 28]
def C.catnaplaw4_ConfFirst_r6 : List IOper := C.catnaplaw4_ConfFirst_r6_b
def C.catnaplaw4_ConfFirst_r6_w := @aopsE _ _ C.catnaplaw4_ConfFirst_r6.eq_1
def C.catnaplaw4_ConfFirst_c41 : ICode := .keep [1, 2, 8, 9] (.seq (.region C.catnaplaw4_ConfFirst_r6) C.catnaplaw4_ConfFirst_c40)
def C.catnaplaw4_ConfFirst_c41_w := @awpE _ _ C.catnaplaw4_ConfFirst_c41.eq_1
def C.catnaplaw4_ConfFirst_r5_b : List IOper := [
 X.m 19 1,
 X.o 20 (.call F.catnaplaw4_pick [X.s 19, X.i 6]),
 X.m 21 2,
 X.o 22 (.call F.catnaplaw4_pick [X.s 21, X.i 6]),
 X.o 23 (.minmax false (X.s 20) (X.s 22)),
 X.m 9 23]
def C.catnaplaw4_ConfFirst_r5 : List IOper := C.catnaplaw4_ConfFirst_r5_b
def C.catnaplaw4_ConfFirst_r5_w := @aopsE _ _ C.catnaplaw4_ConfFirst_r5.eq_1
def C.catnaplaw4_ConfFirst_c42 : ICode := .keep [1, 2, 8] (.seq (.region C.catnaplaw4_ConfFirst_r5) C.catnaplaw4_ConfFirst_c41)
def C.catnaplaw4_ConfFirst_c42_w := @awpE _ _ C.catnaplaw4_ConfFirst_c42.eq_1
def C.catnaplaw4_ConfFirst_r4_b : List IOper := [
 X.m 17 0,
 X.o 18 (.call F.catnaplaw4_chip [X.s 17]),
 X.o 8 (.alloc [.nils, .nils, .nils, .nils]),
 X.n (.storeN 4 (X.s 8) (X.s 18))]
def C.catnaplaw4_ConfFirst_r4 : List IOper := C.catnaplaw4_ConfFirst_r4_b
def C.catnaplaw4_ConfFirst_r4_w := @aopsE _ _ C.catnaplaw4_ConfFirst_r4.eq_1
def C.catnaplaw4_ConfFirst_c43 : ICode := .keep [0, 1, 2] (.seq (.region C.catnaplaw4_ConfFirst_r4) C.catnaplaw4_ConfFirst_c42)
def C.catnaplaw4_ConfFirst_c43_w := @awpE _ _ C.catnaplaw4_ConfFirst_c43.eq_1
def C.catnaplaw4_ConfFirst_r3_b : List IOper := [
 X.o 6 (.move (.cst (.bool false)))]
def C.catnaplaw4_ConfFirst_r3 : List IOper := C.catnaplaw4_ConfFirst_r3_b
def C.catnaplaw4_ConfFirst_r3_w := @aopsE _ _ C.catnaplaw4_ConfFirst_r3.eq_1
def C.catnaplaw4_ConfFirst_c44 : ICode := .seq (.region C.catnaplaw4_ConfFirst_r3) .ret
def C.catnaplaw4_ConfFirst_c44_w := @awpE _ _ C.catnaplaw4_ConfFirst_c44.eq_1
def C.catnaplaw4_ConfFirst_c45 : ICode := .keep [0, 1, 2, 16] (.cond (X.s 16) C.catnaplaw4_ConfFirst_c44 .skip)
def C.catnaplaw4_ConfFirst_c45_w := @awpE _ _ C.catnaplaw4_ConfFirst_c45.eq_1
def C.catnaplaw4_ConfFirst_r2_b : List IOper := [
 X.m 15 7,
 X.o 16 (.un .not (X.s 15))]
def C.catnaplaw4_ConfFirst_r2 : List IOper := C.catnaplaw4_ConfFirst_r2_b
def C.catnaplaw4_ConfFirst_r2_w := @aopsE _ _ C.catnaplaw4_ConfFirst_r2.eq_1
def C.catnaplaw4_ConfFirst_c46 : ICode := .keep [0, 1, 2, 7] (.seq (.seq (.region C.catnaplaw4_ConfFirst_r2) C.catnaplaw4_ConfFirst_c45) C.catnaplaw4_ConfFirst_c43)
def C.catnaplaw4_ConfFirst_c46_w := @awpE _ _ C.catnaplaw4_ConfFirst_c46.eq_1
def C.catnaplaw4_ConfFirst_r1_b : List IOper := [
 X.o 14 (.call F.catnaplaw4_shown []),
 X.m 7 14]
def C.catnaplaw4_ConfFirst_r1 : List IOper := C.catnaplaw4_ConfFirst_r1_b
def C.catnaplaw4_ConfFirst_r1_w := @aopsE _ _ C.catnaplaw4_ConfFirst_r1.eq_1
def C.catnaplaw4_ConfFirst_c47 : ICode := .keep [0, 1, 2] (.seq (.region C.catnaplaw4_ConfFirst_r1) C.catnaplaw4_ConfFirst_c46)
def C.catnaplaw4_ConfFirst_c47_w := @awpE _ _ C.catnaplaw4_ConfFirst_c47.eq_1
def C.catnaplaw4_ConfFirst_r0_b : List IOper := [
 X.o 6 (.move (.cst (.bool false)))]
def C.catnaplaw4_ConfFirst_r0 : List IOper := C.catnaplaw4_ConfFirst_r0_b
def C.catnaplaw4_ConfFirst_r0_w := @aopsE _ _ C.catnaplaw4_ConfFirst_r0.eq_1
def C.catnaplaw4_ConfFirst : IFunc := ⟨3, [.slot 6], .seq (.region C.catnaplaw4_ConfFirst_r0) C.catnaplaw4_ConfFirst_c47⟩
def C.catnaplaw4_ConfFirst_W := And.intro (And.intro (And.intro (And.intro (And.intro (And.intro @C.catnaplaw4_ConfFirst_r34_w @C.catnaplaw4_ConfFirst_c1_w) (And.intro @C.catnaplaw4_ConfFirst_r10_w (And.intro @C.catnaplaw4_ConfFirst_c2_w @C.catnaplaw4_ConfFirst_r19_w))) (And.intro (And.intro @C.catnaplaw4_ConfFirst_c3_w @C.catnaplaw4_ConfFirst_r18_w) (And.intro @C.catnaplaw4_ConfFirst_r22_w (And.intro @C.catnaplaw4_ConfFirst_c4_w @C.catnaplaw4_ConfFirst_r21_w)))) (And.intro (And.intro (And.intro @C.catnaplaw4_ConfFirst_r25_w @C.catnaplaw4_ConfFirst_c5_w) (And.intro @C.catnaplaw4_ConfFirst_r24_w (And.intro @C.catnaplaw4_ConfFirst_r30_w @C.catnaplaw4_ConfFirst_c6_w))) (And.intro (And.intro @C.catnaplaw4_ConfFirst_c7_w @C.catnaplaw4_ConfFirst_r29_w) (And.intro @C.catnaplaw4_ConfFirst_c8_w (And.intro @C.catnaplaw4_ConfFirst_r28_w @C.catnaplaw4_ConfFirst_c9_w))))) (And.intro (And.intro (And.intro (And.intro @C.catnaplaw4_ConfFirst_r27_w @C.catnaplaw4_ConfFirst_r33_w) (And.intro @C.catnaplaw4_ConfFirst_c10_w (And.intro @C.catnaplaw4_ConfFirst_r32_w @C.catnaplaw4_ConfFirst_r16_w))) (And.intro (And.intro @C.catnaplaw4_ConfFirst_c11_w @C.catnaplaw4_ConfFirst_r15_w) (And.intro @C.catnaplaw4_ConfFirst_c12_w (And.intro @C.catnaplaw4_ConfFirst_c13_w @C.catnaplaw4_ConfFirst_c14_w)))) (And.intro (And.intro (And.intro @C.catnaplaw4_ConfFirst_r31_w @C.catnaplaw4_ConfFirst_c15_w) (And.intro @C.catnaplaw4_ConfFirst_c16_w (And.intro @C.catnaplaw4_ConfFirst_c17_w @C.catnaplaw4_ConfFirst_r26_w))) (And.intro (And.intro @C.catnaplaw4_ConfFirst_c18_w @C.catnaplaw4_ConfFirst_c19_w) (And.intro @C.catnaplaw4_ConfFirst_c20_w (And.intro @C.catnaplaw4_ConfFirst_r23_w @C.catnaplaw4_ConfFirst_c21_w)))))) (And.intro (And.intro (And.intro (And.intro (And.intro @C.catnaplaw4_ConfFirst_c22_w @C.catnaplaw4_ConfFirst_c23_w) (And.intro @C.catnaplaw4_ConfFirst_r20_w (And.intro @C.catnaplaw4_ConfFirst_c24_w @C.catnaplaw4_ConfFirst_c25_w))) (And.intro (And.intro @C.catnaplaw4_ConfFirst_c26_w @C.catnaplaw4_ConfFirst_r17_w) (And.intro @C.catnaplaw4_ConfFirst_b27_w (And.intro @C.catnaplaw4_ConfFirst_c28_w @C.catnaplaw4_ConfFirst_r14_w)))) (And.intro (And.intro (And.intro @C.catnaplaw4_ConfFirst_c29_w @C.catnaplaw4_ConfFirst_r13_w) (And.intro @C.catnaplaw4_ConfFirst_c30_w (And.intro @C.catnaplaw4_ConfFirst_c31_w @C.catnaplaw4_ConfFirst_r12_w))) (And.intro (And.intro @C.catnaplaw4_ConfFirst_c32_w @C.catnaplaw4_ConfFirst_r11_w) (And.intro @C.catnaplaw4_ConfFirst_b33_w (And.intro @C.catnaplaw4_ConfFirst_c34_w @C.catnaplaw4_ConfFirst_c35_w))))) (And.intro (And.intro (And.intro (And.intro @C.catnaplaw4_ConfFirst_r9_w @C.catnaplaw4_ConfFirst_b37_w) (And.intro @C.catnaplaw4_ConfFirst_c38_w (And.intro @C.catnaplaw4_ConfFirst_r8_w @C.catnaplaw4_ConfFirst_c39_w))) (And.intro (And.intro @C.catnaplaw4_ConfFirst_r7_w @C.catnaplaw4_ConfFirst_c40_w) (And.intro @C.catnaplaw4_ConfFirst_r6_w (And.intro @C.catnaplaw4_ConfFirst_c41_w @C.catnaplaw4_ConfFirst_r5_w)))) (And.intro (And.intro (And.intro @C.catnaplaw4_ConfFirst_c42_w @C.catnaplaw4_ConfFirst_r4_w) (And.intro @C.catnaplaw4_ConfFirst_c43_w (And.intro @C.catnaplaw4_ConfFirst_r3_w @C.catnaplaw4_ConfFirst_c44_w))) (And.intro (And.intro @C.catnaplaw4_ConfFirst_c45_w (And.intro @C.catnaplaw4_ConfFirst_r2_w @C.catnaplaw4_ConfFirst_c46_w)) (And.intro @C.catnaplaw4_ConfFirst_r1_w (And.intro @C.catnaplaw4_ConfFirst_c47_w @C.catnaplaw4_ConfFirst_r0_w))))))
def C.catnaplaw4_ConfFirst_B := And.intro (And.intro (And.intro (And.intro (And.intro @C.catnaplaw4_ConfFirst_r34_b.eq_1 @C.catnaplaw4_ConfFirst_r10_b.eq_1) (And.intro @C.catnaplaw4_ConfFirst_r19_b.eq_1 @C.catnaplaw4_ConfFirst_r18_b.eq_1)) (And.intro (And.intro @C.catnaplaw4_ConfFirst_r22_b.eq_1 @C.catnaplaw4_ConfFirst_r21_b.eq_1) (And.intro @C.catnaplaw4_ConfFirst_r25_b.eq_1 @C.catnaplaw4_ConfFirst_r24_b.eq_1))) (And.intro (And.intro (And.intro @C.catnaplaw4_ConfFirst_r30_b.eq_1 @C.catnaplaw4_ConfFirst_r29_b.eq_1) (And.intro @C.catnaplaw4_ConfFirst_r28_b.eq_1 @C.catnaplaw4_ConfFirst_r27_b.eq_1)) (And.intro (And.intro @C.catnaplaw4_ConfFirst_r33_b.eq_1 @C.catnaplaw4_ConfFirst_r32_b.eq_1) (And.intro @C.catnaplaw4_ConfFirst_r16_b.eq_1 (And.intro @C.catnaplaw4_ConfFirst_r15_b.eq_1 @C.catnaplaw4_ConfFirst_r31_b.eq_1))))) (And.intro (And.intro (And.intro (And.intro @C.catnaplaw4_ConfFirst_r26_b.eq_1 @C.catnaplaw4_ConfFirst_r23_b.eq_1) (And.intro @C.catnaplaw4_ConfFirst_r20_b.eq_1 @C.catnaplaw4_ConfFirst_r17_b.eq_1)) (And.intro (And.intro @C.catnaplaw4_ConfFirst_r14_b.eq_1 @C.catnaplaw4_ConfFirst_r13_b.eq_1) (And.intro @C.catnaplaw4_ConfFirst_r12_b.eq_1 (And.intro @C.catnaplaw4_ConfFirst_r11_b.eq_1 @C.catnaplaw4_ConfFirst_r9_b.eq_1)))) (And.intro (And.intro (And.intro @C.catnaplaw4_ConfFirst_r8_b.eq_1 @C.catnaplaw4_ConfFirst_r7_b.eq_1) (And.intro @C.catnaplaw4_ConfFirst_r6_b.eq_1 @C.catnaplaw4_ConfFirst_r5_b.eq_1)) (And.intro (And.intro @C.catnaplaw4_ConfFirst_r4_b.eq_1 @C.catnaplaw4_ConfFirst_r3_b.eq_1) (And.intro @C.catnaplaw4_ConfFirst_r2_b.eq_1 (And.intro @C.catnaplaw4_ConfFirst_r1_b.eq_1 @C.catnaplaw4_ConfFirst_r0_b.eq_1)))))

def C.catnaplaw4_ConfRight_r21_b : List IOper := [
 X.o 110 (.loadN 4 (X.s 11)),
 X.o 111 (.call F.conf_Check [X.s 110]),
 X.o 112 (.bin .eql (X.s 111) (X.i 0)),
 X.m 113 112,
 X.t 113 114 (.loadN 4 (X.s 12)),
 X.t 113 115 (.call F.conf_Check [X.s 114]),
 X.t 113 116 (.bin .eql (X.s 115) (X.i 0)),
 X.o 117 (.pick (X.s 113) (X.s 116) (.cst (.bool false))),
 X.m 118 117,
 X.t 118 119 (.loadN 4 (X.s 15)),
 X.t 118 120 (.call F.conf_Check [X.s 119]),
 X.t 118 121 (.bin .eql (X.s 120) (X.i 5)),
 X.o 122 (.pick (X.s 118) (X.s 121) (.cst (.bool false))),
 X.m 123 122,
 X.t 123 124 (.loadN 4 (X.s 4)),
 X.t 123 125 (.loadN 4 (X.s 12)),
 X.t 123 126 (.call F.conf_Same [X.s 124, X.s 125]),
 X.t 123 127 (.un .not (X.s 126)),
 X.o 128 (.pick (X.s 123) (X.s 127) (.cst (.bool false))),
 X.m 129 128,
 X.t 129 130 (.loadN 4 (X.s 12)),
 X.t 129 132 (.loadN 4 (X.s 12)),
 ⟨some 131, .call F.conf_Copy [X.s 130], some (129, true), [⟨.loadN 4 (X.s 12), 132, some (129, true)⟩], []⟩,
 X.t 129 133 (.call F.conf_Same [X.s 131, X.s 132]),
 X.o 134 (.pick (X.s 129) (X.s 133) (.cst (.bool false))),
 X.m 2 134]
def C.catnaplaw4_ConfRight_r21 : List IOper := C.catnaplaw4_ConfRight_r21_b
def C.catnaplaw4_ConfRight_r21_w := @aopsE _ _ C.catnaplaw4_ConfRight_r21.eq_1
def C.catnaplaw4_ConfRight_c1 : ICode := .keep [4, 11, 12, 15] (.seq (.region C.catnaplaw4_ConfRight_r21) .ret)
def C.catnaplaw4_ConfRight_c1_w := @awpE _ _ C.catnaplaw4_ConfRight_c1.eq_1
def C.catnaplaw4_ConfRight_r20_b : List IOper := [
 X.o 96 (.fldAddr 3 (X.s 15)),
 X.o 97 (.load1 (X.s 96)),
 X.o 98 (.fldAddr 3 (X.s 15)),
 X.o 99 (.load1 (X.s 98)),
 X.o 100 (.idxAddr 6 (X.s 99) (X.i 0)),
 X.o 101 (.fldAddr 5 (X.s 100)),
 X.o 102 (.load1 (X.s 101)),
 X.o 103 (.fldAddr 3 (X.s 4)),
 X.o 104 (.load1 (X.s 103)),
 X.o 105 (.len (X.s 104)),
 X.o 106 (.buildSlice 1 1 [.int .i64 0] [(0, 1, X.s 105)]),
 ⟨some 107, .append 1 8 (X.s 102) (X.s 106), none, [⟨.load1 (X.s 96), 97, none⟩], []⟩,
 X.o 108 (.idxAddr 6 (X.s 97) (X.i 0)),
 X.o 109 (.fldAddr 5 (X.s 108)),
 X.n (.store1 (X.s 109) (X.s 107))]
def C.catnaplaw4_ConfRight_r20 : List IOper := C.catnaplaw4_ConfRight_r20_b
def C.catnaplaw4_ConfRight_r20_w := @aopsE _ _ C.catnaplaw4_ConfRight_r20.eq_1
def C.catnaplaw4_ConfRight_c2 : ICode := .keep [4, 11, 12, 15] (.seq (.region C.catnaplaw4_ConfRight_r20) C.catnaplaw4_ConfRight_c1)
def C.catnaplaw4_ConfRight_c2_w := @awpE _ _ C.catnaplaw4_ConfRight_c2.eq_1
def C.catnaplaw4_ConfRight_r19_b : List IOper := [
 X.o 94 (.loadN 4 (X.s 12)),
 X.o 95 (.call F.conf_Copy [X.s 94]),
 X.o 15 (.alloc [.nils, .nils, .nils, .nils]),
 X.n (.storeN 4 (X.s 15) (X.s 95))]
def C.catnaplaw4_ConfRight_r19 : List IOper := C.catnaplaw4_ConfRight_r19_b
def C.catnaplaw4_ConfRight_r19_w := @aopsE _ _ C.catnaplaw4_ConfRight_r19.eq_1
def C.catnaplaw4_ConfRight_c3 : ICode := .keep [4, 11, 12] (.seq (.region C.catnaplaw4_ConfRight_r19) C.catnaplaw4_ConfRight_c2)
def C.catnaplaw4_ConfRight_c3_w := @awpE _ _ C.catnaplaw4_ConfRight_c3.eq_1
def C.catnaplaw4_ConfRight_r18_b : List IOper := [
 X.o 88 (.fldAddr 3 (X.s 12)),
 X.o 89 (.load1 (X.s 88)),
 X.o 90 (.loadN 6 (X.s 13)),
 X.o 91 (.buildSlice 6 1 [.int .i64 0, .int .i64 0, .int .i64 0, .int .u32 0, .nils, .nils] [(0, 6, X.s 90)]),
 X.o 92 (.append 6 80 (X.s 89) (X.s 91)),
 X.o 93 (.fldAddr 3 (X.s 12)),
 X.n (.store1 (X.s 93) (X.s 92))]
def C.catnaplaw4_ConfRight_r18 : List IOper := C.catnaplaw4_ConfRight_r18_b
def C.catnaplaw4_ConfRight_r18_w := @aopsE _ _ C.catnaplaw4_ConfRight_r18.eq_1
def C.catnaplaw4_ConfRight_c4 : ICode := .keep [4, 11, 12, 13] (.seq (.region C.catnaplaw4_ConfRight_r18) C.catnaplaw4_ConfRight_c3)
def C.catnaplaw4_ConfRight_c4_w := @awpE _ _ C.catnaplaw4_ConfRight_c4.eq_1
def C.catnaplaw4_ConfRight_r16_b : List IOper := [
 X.m 80 14,
 X.o 81 (.bin .add (X.s 80) (X.i 1)),
 X.m 14 81]
def C.catnaplaw4_ConfRight_r16 : List IOper := C.catnaplaw4_ConfRight_r16_b
def C.catnaplaw4_ConfRight_r16_w := @aopsE _ _ C.catnaplaw4_ConfRight_r16.eq_1
def C.catnaplaw4_ConfRight_c5 : ICode := .keep [4, 11, 12, 13, 14] (.region C.catnaplaw4_ConfRight_r16)
def C.catnaplaw4_ConfRight_c5_w := @awpE _ _ C.catnaplaw4_ConfRight_c5.eq_1
def C.catnaplaw4_ConfRight_r17_b : List IOper := [
 X.o 82 (.fldAddr 5 (X.s 13)),
 X.o 83 (.load1 (X.s 82)),
 X.m 84 14,
 X.o 85 (.buildSlice 1 1 [.int .i64 0] [(0, 1, X.s 84)]),
 X.o 86 (.append 1 8 (X.s 83) (X.s 85)),
 X.o 87 (.fldAddr 5 (X.s 13)),
 X.n (.store1 (X.s 87) (X.s 86))]
def C.catnaplaw4_ConfRight_r17 : List IOper := C.catnaplaw4_ConfRight_r17_b
def C.catnaplaw4_ConfRight_r17_w := @aopsE _ _ C.catnaplaw4_ConfRight_r17.eq_1
def C.catnaplaw4_ConfRight_b6 : ICode := .region C.catnaplaw4_ConfRight_r17
def C.catnaplaw4_ConfRight_b6_w := @awpE _ _ C.catnaplaw4_ConfRight_b6.eq_1
def C.catnaplaw4_ConfRight_c7 : ICode := .keep [4, 11, 12, 13, 14] (.seq (.block 1 C.catnaplaw4_ConfRight_b6) C.catnaplaw4_ConfRight_c5)
def C.catnaplaw4_ConfRight_c7_w := @awpE _ _ C.catnaplaw4_ConfRight_c7.eq_1
def C.catnaplaw4_ConfRight_c8 : ICode := .keep [4, 11, 12, 13, 14, 79] (.cond (X.s 79) .skip (.exit 0))
def C.catnaplaw4_ConfRight_c8_w := @awpE _ _ C.catnaplaw4_ConfRight_c8.eq_1
def C.catnaplaw4_ConfRight_r15_b : List IOper := [
 X.m 75 14,
 X.o 76 (.fldAddr 3 (X.s 4)),
 X.o 77 (.load1 (X.s 76)),
 X.o 78 (.len (X.s 77)),
 X.o 79 (.bin .lss (X.s 75) (X.s 78))]
def C.catnaplaw4_ConfRight_r15 : List IOper := C.catnaplaw4_ConfRight_r15_b
def C.catnaplaw4_ConfRight_r15_w := @aopsE _ _ C.catnaplaw4_ConfRight_r15.eq_1
def C.catnaplaw4_ConfRight_l9 : ICode := .keep [4, 11, 12, 13, 14] (.seq (.seq (.region C.catnaplaw4_ConfRight_r15) C.catnaplaw4_ConfRight_c8) C.catnaplaw4_ConfRight_c7)
def C.catnaplaw4_ConfRight_l9_w := @awpE _ _ C.catnaplaw4_ConfRight_l9.eq_1
def C.catnaplaw4_ConfRight_b10 : ICode := .loop C.catnaplaw4_ConfRight_l9
def C.catnaplaw4_ConfRight_b10_w := @awpE _ _ C.catnaplaw4_ConfRight_b10.eq_1
def C.catnaplaw4_ConfRight_c11 : ICode := .keep [4, 11, 12, 13, 14] (.block 0 C.catnaplaw4_ConfRight_b10)
def C.catnaplaw4_ConfRight_c11_w := @awpE _ _ C.catnaplaw4_ConfRight_c11.eq_1
def C.catnaplaw4_ConfRight_r14_b : List IOper := [
 X.o 14 (.move (X.i 0))]
def C.catnaplaw4_ConfRight_r14 : List IOper := C.catnaplaw4_ConfRight_r14_b
def C.catnaplaw4_ConfRight_r14_w := @aopsE _ _ C.catnaplaw4_ConfRight_r14.eq_1
def C.catnaplaw4_ConfRight_c12 : ICode := .keep [4, 11, 12, 13] (.seq (.seq (.region C.catnaplaw4_ConfRight_r14) C.catnaplaw4_ConfRight_c11) C.catnaplaw4_ConfRight_c4)
def C.catnaplaw4_ConfRight_c12_w := @awpE _ _ C.catnaplaw4_ConfRight_c12.eq_1
def C.catnaplaw4_ConfRight_r13_b : List IOper := [
 X.o 66 (.fldAddr 0 (X.s 4)),
 X.o 67 (.load1 (X.s 66)),
 X.o 68 (.len (X.s 67)),
 X.o 69 (.bin .sub (X.s 68) (X.i 1)),
 X.o 70 (.fldAddr 1 (X.s 4)),
 X.o 71 (.load1 (X.s 70)),
 X.o 72 (.len (X.s 71)),
 X.o 73 (.bin .sub (X.s 72) (X.i 1)),
 X.o 74 (.build [.int .i64 0, .int .i64 0, .int .i64 0, .int .u32 0, .nils, .nils] [(0, 1, X.s 69), (1, 1, X.s 73)]),
 X.o 13 (.alloc [.int .i64 0, .int .i64 0, .int .i64 0, .int .u32 0, .nils, .nils]),
 X.n (.storeN 6 (X.s 13) (X.s 74))]
def C.catnaplaw4_ConfRight_r13 : List IOper := C.catnaplaw4_ConfRight_r13_b
def C.catnaplaw4_ConfRight_r13_w := @aopsE _ _ C.catnaplaw4_ConfRight_r13.eq_1
def C.catnaplaw4_ConfRight_c13 : ICode := .keep [4, 11, 12] (.seq (.region C.catnaplaw4_ConfRight_r13) C.catnaplaw4_ConfRight_c12)
def C.catnaplaw4_ConfRight_c13_w := @awpE _ _ C.catnaplaw4_ConfRight_c13.eq_1
def C.catnaplaw4_ConfRight_r12_b : List IOper := [
 X.o 64 (.loadN 4 (X.s 4)),
 X.o 65 (.call F.conf_Copy [X.s 64]),
 X.o 12 (.alloc [.nils, .nils, .nils, .nils]),
 X.n (.storeN 4 (X.s 12) (X.s 65))]
def C.catnaplaw4_ConfRight_r12 : List IOper := C.catnaplaw4_ConfRight_r12_b
def C.catnaplaw4_ConfRight_r12_w := @aopsE _ _ C.catnaplaw4_ConfRight_r12.eq_1
def C.catnaplaw4_ConfRight_c14 : ICode := .keep [4, 11] (.seq (.region C.catnaplaw4_ConfRight_r12) C.catnaplaw4_ConfRight_c13)
def C.catnaplaw4_ConfRight_c14_w := @awpE _ _ C.catnaplaw4_ConfRight_c14.eq_1
def C.catnaplaw4_ConfRight_r11_b : List IOper := [
 X.o 56 (.fldAddr 3 (X.s 11)),
 X.o 57 (.load1 (X.s 56)),
 X.o 58 (.fldAddr 3 (X.s 11)),
 X.o 59 (.load1 (X.s 58)),
 X.o 60 (.len (X.s 59)),
 X.o 61 (.bin .sub (X.s 60) (X.i 1)),
 X.o 62 (.slice 6 (X.s 57) none (some (X.s 61)) none),
 X.o 63 (.fldAddr 3 (X.s 11)),
 X.n (.store1 (X.s 63) (X.s 62))]
def C.catnaplaw4_ConfRight_r11 : List IOper := C.catnaplaw4_ConfRight_r11_b
def C.catnaplaw4_ConfRight_r11_w := @aopsE _ _ C.catnaplaw4_ConfRight_r11.eq_1
def C.catnaplaw4_ConfRight_c15 : ICode := .keep [4, 11] (.seq (.region C.catnaplaw4_ConfRight_r11) C.catnaplaw4_ConfRight_c14)
def C.catnaplaw4_ConfRight_c15_w := @awpE _ _ C.catnaplaw4_ConfRight_c15.eq_1
def C.catnaplaw4_ConfRight_r10_b : List IOper := [
 X.o 54 (.loadN 4 (X.s 4)),
 X.o 55 (.call F.conf_Copy [X.s 54]),
 X.o 11 (.alloc [.nils, .nils, .nils, .nils]),
 X.n (.storeN 4 (X.s 11) (X.s 55))]
def C.catnaplaw4_ConfRight_r10 : List IOper := C.catnaplaw4_ConfRight_r10_b
def C.catnaplaw4_ConfRight_r10_w := @aopsE _ _ C.catnaplaw4_ConfRight_r10.eq_1
def C.catnaplaw4_ConfRight_c16 : ICode := .keep [4] (.seq (.region C.catnaplaw4_ConfRight_r10) C.catnaplaw4_ConfRight_c15)
def C.catnaplaw4_ConfRight_c16_w := @awpE _ _ C.catnaplaw4_ConfRight_c16.eq_1
def C.catnaplaw4_ConfRight_r9_b : List IOper := [
 X.o 2 (.move (.cst (.bool false)))]
def C.catnaplaw4_ConfRight_r9 : List IOper := C.catnaplaw4_ConfRight_r9_b
def C.catnaplaw4_ConfRight_r9_w := @aopsE _ _ C.catnaplaw4_ConfRight_r9.eq_1
def C.catnaplaw4_ConfRight_c17 : ICode := .seq (.region C.catnaplaw4_ConfRight_r9) .ret
def C.catnaplaw4_ConfRight_c17_w := @awpE _ _ C.catnaplaw4_ConfRight_c17.eq_1
def C.catnaplaw4_ConfRight_c18 : ICode := .keep [4, 53] (.cond (X.s 53) C.catnaplaw4_ConfRight_c17 .skip)
def C.catnaplaw4_ConfRight_c18_w := @awpE _ _ C.catnaplaw4_ConfRight_c18.eq_1
def C.catnaplaw4_ConfRight_r8_b : List IOper := [
 X.o 39 (.loadN 4 (X.s 4)),
 X.o 40 (.call F.conf_Check [X.s 39]),
 X.o 41 (.bin .neq (X.s 40) (X.i 0)),
 X.m 42 41,
 X.f 42 43 (.move (X.s 6)),
 X.f 42 44 (.bin .neq (X.s 43) (X.i 0)),
 X.o 45 (.pick (X.s 42) (.cst (.bool true)) (X.s 44)),
 X.m 46 45,
 X.f 46 47 (.move (X.s 8)),
 X.f 46 48 (.bin .neq (X.s 47) (X.i 0)),
 X.o 49 (.pick (X.s 46) (.cst (.bool true)) (X.s 48)),
 X.m 50 49,
 X.f 50 51 (.move (X.s 10)),
 X.f 50 52 (.bin .neq (X.s 51) (X.i 0)),
 X.o 53 (.pick (X.s 50) (.cst (.bool true)) (X.s 52))]
def C.catnaplaw4_ConfRight_r8 : List IOper := C.catnaplaw4_ConfRight_r8_b
def C.catnaplaw4_ConfRight_r8_w := @aopsE _ _ C.catnaplaw4_ConfRight_r8.eq_1
def C.catnaplaw4_ConfRight_c19 : ICode := .keep [4, 6, 8, 10] (.seq (.seq (.region C.catnaplaw4_ConfRight_r8) C.catnaplaw4_ConfRight_c18) C.catnaplaw4_ConfRight_c16)
def C.catnaplaw4_ConfRight_c19_w := @awpE _ _ C.catnaplaw4_ConfRight_c19.eq_1
def C.catnaplaw4_ConfRight_r7_b : List IOper := [
 X.o 34 (.loadN 4 (X.s 4)),
 X.o 35 (.call F.conf_Needs [X.s 34]),
 X.o 36 (.call F.graph_Order [X.s 35]),
 X.m 33 36,
 X.o 37 (.extract (X.s 33) 0),
 X.o 38 (.extract (X.s 33) 1),
 X.m 9 37,
 X.m 10 38]
def C.catnaplaw4_ConfRight_r7 : List IOper := C.catnaplaw4_ConfRight_r7_b
def C.catnaplaw4_ConfRight_r7_w := @aopsE _ _ C.catnaplaw4_ConfRight_r7.eq_1
def C.catnaplaw4_ConfRight_c20 : ICode := .keep [4, 6, 8] (.seq (.region C.catnaplaw4_ConfRight_r7) C.catnaplaw4_ConfRight_c19)
def C.catnaplaw4_ConfRight_c20_w := @awpE _ _ C.catnaplaw4_ConfRight_c20.eq_1
def C.catnaplaw4_ConfRight_r6_b : List IOper := [
 X.o 28 (.loadN 4 (X.s 4)),
 X.o 29 (.call F.conf_Domains [X.s 28]),
 X.o 30 (.call F.graph_Order [X.s 29]),
 X.m 27 30,
 X.o 31 (.extract (X.s 27) 0),
 X.o 32 (.extract (X.s 27) 1),
 X.m 7 31,
 X.m 8 32]
def C.catnaplaw4_ConfRight_r6 : List IOper := C.catnaplaw4_ConfRight_r6_b
def C.catnaplaw4_ConfRight_r6_w := @aopsE _ _ C.catnaplaw4_ConfRight_r6.eq_1
def C.catnaplaw4_ConfRight_c21 : ICode := .keep [4, 6] (.seq (.region C.catnaplaw4_ConfRight_r6) C.catnaplaw4_ConfRight_c20)
def C.catnaplaw4_ConfRight_c21_w := @awpE _ _ C.catnaplaw4_ConfRight_c21.eq_1
def C.catnaplaw4_ConfRight_r5_b : List IOper := [
 X.o 22 (.loadN 4 (X.s 4)),
 X.o 23 (.call F.conf_Clocks [X.s 22]),
 X.o 24 (.call F.graph_Order [X.s 23]),
 X.m 21 24,
 X.o 25 (.extract (X.s 21) 0),
 X.o 26 (.extract (X.s 21) 1),
 X.m 5 25,
 X.m 6 26]
def C.catnaplaw4_ConfRight_r5 : List IOper := C.catnaplaw4_ConfRight_r5_b
def C.catnaplaw4_ConfRight_r5_w := @aopsE _ _ C.catnaplaw4_ConfRight_r5.eq_1
def C.catnaplaw4_ConfRight_c22 : ICode := .keep [4] (.seq (.region C.catnaplaw4_ConfRight_r5) C.catnaplaw4_ConfRight_c21)
def C.catnaplaw4_ConfRight_c22_w := @awpE _ _ C.catnaplaw4_ConfRight_c22.eq_1
def C.catnaplaw4_ConfRight_r4_b : List IOper := [
 X.m 19 0,
 X.o 20 (.call F.catnaplaw4_chip [X.s 19]),
 X.o 4 (.alloc [.nils, .nils, .nils, .nils]),
 X.n (.storeN 4 (X.s 4) (X.s 20))]
def C.catnaplaw4_ConfRight_r4 : List IOper := C.catnaplaw4_ConfRight_r4_b
def C.catnaplaw4_ConfRight_r4_w := @aopsE _ _ C.catnaplaw4_ConfRight_r4.eq_1
def C.catnaplaw4_ConfRight_c23 : ICode := .keep [0] (.seq (.region C.catnaplaw4_ConfRight_r4) C.catnaplaw4_ConfRight_c22)
def C.catnaplaw4_ConfRight_c23_w := @awpE _ _ C.catnaplaw4_ConfRight_c23.eq_1
def C.catnaplaw4_ConfRight_r3_b : List IOper := [
 X.o 2 (.move (.cst (.bool false)))]
def C.catnaplaw4_ConfRight_r3 : List IOper := C.catnaplaw4_ConfRight_r3_b
def C.catnaplaw4_ConfRight_r3_w := @aopsE _ _ C.catnaplaw4_ConfRight_r3.eq_1
def C.catnaplaw4_ConfRight_c24 : ICode := .seq (.region C.catnaplaw4_ConfRight_r3) .ret
def C.catnaplaw4_ConfRight_c24_w := @awpE _ _ C.catnaplaw4_ConfRight_c24.eq_1
def C.catnaplaw4_ConfRight_c25 : ICode := .keep [0, 18] (.cond (X.s 18) C.catnaplaw4_ConfRight_c24 .skip)
def C.catnaplaw4_ConfRight_c25_w := @awpE _ _ C.catnaplaw4_ConfRight_c25.eq_1
def C.catnaplaw4_ConfRight_r2_b : List IOper := [
 X.m 17 3,
 X.o 18 (.un .not (X.s 17))]
def C.catnaplaw4_ConfRight_r2 : List IOper := C.catnaplaw4_ConfRight_r2_b
def C.catnaplaw4_ConfRight_r2_w := @aopsE _ _ C.catnaplaw4_ConfRight_r2.eq_1
def C.catnaplaw4_ConfRight_c26 : ICode := .keep [0, 3] (.seq (.seq (.region C.catnaplaw4_ConfRight_r2) C.catnaplaw4_ConfRight_c25) C.catnaplaw4_ConfRight_c23)
def C.catnaplaw4_ConfRight_c26_w := @awpE _ _ C.catnaplaw4_ConfRight_c26.eq_1
def C.catnaplaw4_ConfRight_r1_b : List IOper := [
 X.o 16 (.call F.catnaplaw4_shown []),
 X.m 3 16]
def C.catnaplaw4_ConfRight_r1 : List IOper := C.catnaplaw4_ConfRight_r1_b
def C.catnaplaw4_ConfRight_r1_w := @aopsE _ _ C.catnaplaw4_ConfRight_r1.eq_1
def C.catnaplaw4_ConfRight_c27 : ICode := .keep [0] (.seq (.region C.catnaplaw4_ConfRight_r1) C.catnaplaw4_ConfRight_c26)
def C.catnaplaw4_ConfRight_c27_w := @awpE _ _ C.catnaplaw4_ConfRight_c27.eq_1
def C.catnaplaw4_ConfRight_r0_b : List IOper := [
 X.o 2 (.move (.cst (.bool false)))]
def C.catnaplaw4_ConfRight_r0 : List IOper := C.catnaplaw4_ConfRight_r0_b
def C.catnaplaw4_ConfRight_r0_w := @aopsE _ _ C.catnaplaw4_ConfRight_r0.eq_1
def C.catnaplaw4_ConfRight : IFunc := ⟨1, [.slot 2], .seq (.region C.catnaplaw4_ConfRight_r0) C.catnaplaw4_ConfRight_c27⟩
def C.catnaplaw4_ConfRight_W := And.intro (And.intro (And.intro (And.intro (And.intro @C.catnaplaw4_ConfRight_r21_w (And.intro @C.catnaplaw4_ConfRight_c1_w @C.catnaplaw4_ConfRight_r20_w)) (And.intro @C.catnaplaw4_ConfRight_c2_w (And.intro @C.catnaplaw4_ConfRight_r19_w @C.catnaplaw4_ConfRight_c3_w))) (And.intro (And.intro @C.catnaplaw4_ConfRight_r18_w (And.intro @C.catnaplaw4_ConfRight_c4_w @C.catnaplaw4_ConfRight_r16_w)) (And.intro @C.catnaplaw4_ConfRight_c5_w (And.intro @C.catnaplaw4_ConfRight_r17_w @C.catnaplaw4_ConfRight_b6_w)))) (And.intro (And.intro (And.intro @C.catnaplaw4_ConfRight_c7_w (And.intro @C.catnaplaw4_ConfRight_c8_w @C.catnaplaw4_ConfRight_r15_w)) (And.intro @C.catnaplaw4_ConfRight_b10_w (And.intro @C.catnaplaw4_ConfRight_c11_w @C.catnaplaw4_ConfRight_r14_w))) (And.intro (And.intro @C.catnaplaw4_ConfRight_c12_w (And.intro @C.catnaplaw4_ConfRight_r13_w @C.catnaplaw4_ConfRight_c13_w)) (And.intro @C.catnaplaw4_ConfRight_r12_w (And.intro @C.catnaplaw4_ConfRight_c14_w @C.catnaplaw4_ConfRight_r11_w))))) (And.intro (And.intro (And.intro (And.intro @C.catnaplaw4_ConfRight_c15_w (And.intro @C.catnaplaw4_ConfRight_r10_w @C.catnaplaw4_ConfRight_c16_w)) (And.intro @C.catnaplaw4_ConfRight_r9_w (And.intro @C.catnaplaw4_ConfRight_c17_w @C.catnaplaw4_ConfRight_c18_w))) (And.intro (And.intro @C.catnaplaw4_ConfRight_r8_w (And.intro @C.catnaplaw4_ConfRight_c19_w @C.catnaplaw4_ConfRight_r7_w)) (And.intro @C.catnaplaw4_ConfRight_c20_w (And.intro @C.catnaplaw4_ConfRight_r6_w @C.catnaplaw4_ConfRight_c21_w)))) (And.intro (And.intro (And.intro @C.catnaplaw4_ConfRight_r5_w (And.intro @C.catnaplaw4_ConfRight_c22_w @C.catnaplaw4_ConfRight_r4_w)) (And.intro @C.catnaplaw4_ConfRight_c23_w (And.intro @C.catnaplaw4_ConfRight_r3_w @C.catnaplaw4_ConfRight_c24_w))) (And.intro (And.intro @C.catnaplaw4_ConfRight_c25_w (And.intro @C.catnaplaw4_ConfRight_r2_w @C.catnaplaw4_ConfRight_c26_w)) (And.intro @C.catnaplaw4_ConfRight_r1_w (And.intro @C.catnaplaw4_ConfRight_c27_w @C.catnaplaw4_ConfRight_r0_w)))))
def C.catnaplaw4_ConfRight_B := And.intro (And.intro (And.intro (And.intro @C.catnaplaw4_ConfRight_r21_b.eq_1 @C.catnaplaw4_ConfRight_r20_b.eq_1) (And.intro @C.catnaplaw4_ConfRight_r19_b.eq_1 (And.intro @C.catnaplaw4_ConfRight_r18_b.eq_1 @C.catnaplaw4_ConfRight_r16_b.eq_1))) (And.intro (And.intro @C.catnaplaw4_ConfRight_r17_b.eq_1 (And.intro @C.catnaplaw4_ConfRight_r15_b.eq_1 @C.catnaplaw4_ConfRight_r14_b.eq_1)) (And.intro @C.catnaplaw4_ConfRight_r13_b.eq_1 (And.intro @C.catnaplaw4_ConfRight_r12_b.eq_1 @C.catnaplaw4_ConfRight_r11_b.eq_1)))) (And.intro (And.intro (And.intro @C.catnaplaw4_ConfRight_r10_b.eq_1 @C.catnaplaw4_ConfRight_r9_b.eq_1) (And.intro @C.catnaplaw4_ConfRight_r8_b.eq_1 (And.intro @C.catnaplaw4_ConfRight_r7_b.eq_1 @C.catnaplaw4_ConfRight_r6_b.eq_1))) (And.intro (And.intro @C.catnaplaw4_ConfRight_r5_b.eq_1 (And.intro @C.catnaplaw4_ConfRight_r4_b.eq_1 @C.catnaplaw4_ConfRight_r3_b.eq_1)) (And.intro @C.catnaplaw4_ConfRight_r2_b.eq_1 (And.intro @C.catnaplaw4_ConfRight_r1_b.eq_1 @C.catnaplaw4_ConfRight_r0_b.eq_1))))

def C.catnaplaw4_ConfCopies_r37_b : List IOper := [
 X.o 168 (.loadN 4 (X.s 6)),
 X.o 169 (.loadN 4 (X.s 7)),
 X.o 170 (.call F.conf_Same [X.s 168, X.s 169]),
 X.o 171 (.un .not (X.s 170)),
 X.m 172 171,
 X.t 172 173 (.loadN 4 (X.s 7)),
 X.t 172 174 (.loadN 4 (X.s 6)),
 X.t 172 175 (.call F.conf_Same [X.s 173, X.s 174]),
 X.t 172 176 (.un .not (X.s 175)),
 X.o 177 (.pick (X.s 172) (X.s 176) (.cst (.bool false))),
 X.m 178 177,
 X.t 178 179 (.loadN 4 (X.s 6)),
 X.t 178 180 (.loadN 4 (X.s 8)),
 X.t 178 181 (.call F.conf_Same [X.s 179, X.s 180]),
 X.o 182 (.pick (X.s 178) (X.s 181) (.cst (.bool false))),
 X.m 183 182,
 X.t 183 184 (.loadN 4 (X.s 6)),
 X.t 183 185 (.call F.conf_Check [X.s 184]),
 X.t 183 186 (.bin .eql (X.s 185) (X.i 0)),
 X.o 187 (.pick (X.s 183) (X.s 186) (.cst (.bool false))),
 X.m 4 187]
def C.catnaplaw4_ConfCopies_r37 : List IOper := C.catnaplaw4_ConfCopies_r37_b
def C.catnaplaw4_ConfCopies_r37_w := @aopsE _ _ C.catnaplaw4_ConfCopies_r37.eq_1
def C.catnaplaw4_ConfCopies_c1 : ICode := .keep [6, 7, 8] (.seq (.region C.catnaplaw4_ConfCopies_r37) .ret)
def C.catnaplaw4_ConfCopies_c1_w := @awpE _ _ C.catnaplaw4_ConfCopies_c1.eq_1
def C.catnaplaw4_ConfCopies_r13_b : List IOper := [
 X.o 39 (.fldAddr 0 (X.s 7)),
 X.o 40 (.load1 (X.s 39)),
 X.o 41 (.idxAddr 6 (X.s 40) (X.i 0)),
 X.o 42 (.fldAddr 2 (X.s 41)),
 X.o 43 (.load1 (X.s 42)),
 X.o 44 (.bin .add (X.s 43) (.cst (.int .u64 1))),
 X.o 45 (.idxAddr 6 (X.s 40) (X.i 0)),
 X.o 46 (.fldAddr 2 (X.s 45)),
 X.n (.store1 (X.s 46) (X.s 44))]
def C.catnaplaw4_ConfCopies_r13 : List IOper := C.catnaplaw4_ConfCopies_r13_b
def C.catnaplaw4_ConfCopies_r13_w := @aopsE _ _ C.catnaplaw4_ConfCopies_r13.eq_1
def C.catnaplaw4_ConfCopies_r22_b : List IOper := [
 X.o 75 (.fldAddr 0 (X.s 7)),
 X.o 76 (.load1 (X.s 75)),
 X.o 77 (.idxAddr 6 (X.s 76) (X.i 0)),
 X.o 78 (.fldAddr 5 (X.s 77)),
 X.n (.store1 (X.s 78) (X.i 7))]
def C.catnaplaw4_ConfCopies_r22 : List IOper := C.catnaplaw4_ConfCopies_r22_b
def C.catnaplaw4_ConfCopies_r22_w := @aopsE _ _ C.catnaplaw4_ConfCopies_r22.eq_1
def C.catnaplaw4_ConfCopies_c2 : ICode := .keep [6, 7, 8] (.region C.catnaplaw4_ConfCopies_r22)
def C.catnaplaw4_ConfCopies_c2_w := @awpE _ _ C.catnaplaw4_ConfCopies_c2.eq_1
def C.catnaplaw4_ConfCopies_r17_b : List IOper := [
 X.m 54 10,
 X.o 55 (.bin .add (X.s 54) (X.i 1)),
 X.m 10 55]
def C.catnaplaw4_ConfCopies_r17 : List IOper := C.catnaplaw4_ConfCopies_r17_b
def C.catnaplaw4_ConfCopies_r17_w := @aopsE _ _ C.catnaplaw4_ConfCopies_r17.eq_1
def C.catnaplaw4_ConfCopies_c3 : ICode := .keep [6, 7, 8, 10] (.region C.catnaplaw4_ConfCopies_r17)
def C.catnaplaw4_ConfCopies_c3_w := @awpE _ _ C.catnaplaw4_ConfCopies_c3.eq_1
def C.catnaplaw4_ConfCopies_r20_b : List IOper := [
 X.m 65 11,
 X.o 66 (.bin .add (X.s 65) (X.i 1)),
 X.m 11 66]
def C.catnaplaw4_ConfCopies_r20 : List IOper := C.catnaplaw4_ConfCopies_r20_b
def C.catnaplaw4_ConfCopies_r20_w := @aopsE _ _ C.catnaplaw4_ConfCopies_r20.eq_1
def C.catnaplaw4_ConfCopies_c4 : ICode := .keep [6, 7, 8, 10, 11] (.region C.catnaplaw4_ConfCopies_r20)
def C.catnaplaw4_ConfCopies_c4_w := @awpE _ _ C.catnaplaw4_ConfCopies_c4.eq_1
def C.catnaplaw4_ConfCopies_r21_b : List IOper := [
 X.o 67 (.fldAddr 0 (X.s 7)),
 X.o 68 (.load1 (X.s 67)),
 X.m 69 10,
 X.o 70 (.idxAddr 6 (X.s 68) (X.s 69)),
 X.o 71 (.fldAddr 1 (X.s 70)),
 X.o 72 (.load1 (X.s 71)),
 X.m 73 11,
 X.o 74 (.idxAddr 1 (X.s 72) (X.s 73)),
 X.n (.store1 (X.s 74) (X.i 99))]
def C.catnaplaw4_ConfCopies_r21 : List IOper := C.catnaplaw4_ConfCopies_r21_b
def C.catnaplaw4_ConfCopies_r21_w := @aopsE _ _ C.catnaplaw4_ConfCopies_r21.eq_1
def C.catnaplaw4_ConfCopies_b5 : ICode := .region C.catnaplaw4_ConfCopies_r21
def C.catnaplaw4_ConfCopies_b5_w := @awpE _ _ C.catnaplaw4_ConfCopies_b5.eq_1
def C.catnaplaw4_ConfCopies_c6 : ICode := .keep [6, 7, 8, 10, 11] (.seq (.block 4 C.catnaplaw4_ConfCopies_b5) C.catnaplaw4_ConfCopies_c4)
def C.catnaplaw4_ConfCopies_c6_w := @awpE _ _ C.catnaplaw4_ConfCopies_c6.eq_1
def C.catnaplaw4_ConfCopies_c7 : ICode := .keep [6, 7, 8, 10, 11, 64] (.cond (X.s 64) .skip (.exit 3))
def C.catnaplaw4_ConfCopies_c7_w := @awpE _ _ C.catnaplaw4_ConfCopies_c7.eq_1
def C.catnaplaw4_ConfCopies_r19_b : List IOper := [
 X.m 56 11,
 X.o 57 (.fldAddr 0 (X.s 7)),
 X.o 58 (.load1 (X.s 57)),
 X.m 59 10,
 X.o 60 (.idxAddr 6 (X.s 58) (X.s 59)),
 X.o 61 (.fldAddr 1 (X.s 60)),
 X.o 62 (.load1 (X.s 61)),
 X.o 63 (.len (X.s 62)),
 X.o 64 (.bin .lss (X.s 56) (X.s 63))]
def C.catnaplaw4_ConfCopies_r19 : List IOper := C.catnaplaw4_ConfCopies_r19_b
def C.catnaplaw4_ConfCopies_r19_w := @aopsE _ _ C.catnaplaw4_ConfCopies_r19.eq_1
def C.catnaplaw4_ConfCopies_l8 : ICode := .keep [6, 7, 8, 10, 11] (.seq (.seq (.region C.catnaplaw4_ConfCopies_r19) C.catnaplaw4_ConfCopies_c7) C.catnaplaw4_ConfCopies_c6)
def C.catnaplaw4_ConfCopies_l8_w := @awpE _ _ C.catnaplaw4_ConfCopies_l8.eq_1
def C.catnaplaw4_ConfCopies_b9 : ICode := .loop C.catnaplaw4_ConfCopies_l8
def C.catnaplaw4_ConfCopies_b9_w := @awpE _ _ C.catnaplaw4_ConfCopies_b9.eq_1
def C.catnaplaw4_ConfCopies_c10 : ICode := .keep [6, 7, 8, 10, 11] (.block 3 C.catnaplaw4_ConfCopies_b9)
def C.catnaplaw4_ConfCopies_c10_w := @awpE _ _ C.catnaplaw4_ConfCopies_c10.eq_1
def C.catnaplaw4_ConfCopies_r18_b : List IOper := [
 X.o 11 (.move (X.i 0))]
def C.catnaplaw4_ConfCopies_r18 : List IOper := C.catnaplaw4_ConfCopies_r18_b
def C.catnaplaw4_ConfCopies_r18_w := @aopsE _ _ C.catnaplaw4_ConfCopies_r18.eq_1
def C.catnaplaw4_ConfCopies_b11 : ICode := .seq (.region C.catnaplaw4_ConfCopies_r18) C.catnaplaw4_ConfCopies_c10
def C.catnaplaw4_ConfCopies_b11_w := @awpE _ _ C.catnaplaw4_ConfCopies_b11.eq_1
def C.catnaplaw4_ConfCopies_c12 : ICode := .keep [6, 7, 8, 10] (.seq (.block 2 C.catnaplaw4_ConfCopies_b11) C.catnaplaw4_ConfCopies_c3)
def C.catnaplaw4_ConfCopies_c12_w := @awpE _ _ C.catnaplaw4_ConfCopies_c12.eq_1
def C.catnaplaw4_ConfCopies_c13 : ICode := .keep [6, 7, 8, 10, 53] (.cond (X.s 53) .skip (.exit 1))
def C.catnaplaw4_ConfCopies_c13_w := @awpE _ _ C.catnaplaw4_ConfCopies_c13.eq_1
def C.catnaplaw4_ConfCopies_r16_b : List IOper := [
 X.m 49 10,
 X.o 50 (.fldAddr 0 (X.s 7)),
 X.o 51 (.load1 (X.s 50)),
 X.o 52 (.len (X.s 51)),
 X.o 53 (.bin .lss (X.s 49) (X.s 52))]
def C.catnaplaw4_ConfCopies_r16 : List IOper := C.catnaplaw4_ConfCopies_r16_b
def C.catnaplaw4_ConfCopies_r16_w := @aopsE _ _ C.catnaplaw4_ConfCopies_r16.eq_1
def C.catnaplaw4_ConfCopies_l14 : ICode := .keep [6, 7, 8, 10] (.seq (.seq (.region C.catnaplaw4_ConfCopies_r16) C.catnaplaw4_ConfCopies_c13) C.catnaplaw4_ConfCopies_c12)
def C.catnaplaw4_ConfCopies_l14_w := @awpE _ _ C.catnaplaw4_ConfCopies_l14.eq_1
def C.catnaplaw4_ConfCopies_b15 : ICode := .loop C.catnaplaw4_ConfCopies_l14
def C.catnaplaw4_ConfCopies_b15_w := @awpE _ _ C.catnaplaw4_ConfCopies_b15.eq_1
def C.catnaplaw4_ConfCopies_c16 : ICode := .keep [6, 7, 8, 10] (.block 1 C.catnaplaw4_ConfCopies_b15)
def C.catnaplaw4_ConfCopies_c16_w := @awpE _ _ C.catnaplaw4_ConfCopies_c16.eq_1
def C.catnaplaw4_ConfCopies_r15_b : List IOper := [
 X.o 10 (.move (X.i 0))]
def C.catnaplaw4_ConfCopies_r15 : List IOper := C.catnaplaw4_ConfCopies_r15_b
def C.catnaplaw4_ConfCopies_r15_w := @aopsE _ _ C.catnaplaw4_ConfCopies_r15.eq_1
def C.catnaplaw4_ConfCopies_r24_b : List IOper := [
 X.o 81 (.fldAddr 1 (X.s 7)),
 X.o 82 (.load1 (X.s 81)),
 X.o 83 (.fldAddr 1 (X.s 7)),
 X.o 84 (.load1 (X.s 83)),
 X.o 85 (.idxAddr 3 (X.s 84) (X.i 0)),
 X.o 86 (.fldAddr 2 (X.s 85)),
 X.o 87 (.load1 (X.s 86)),
 X.o 88 (.un .not (X.s 87)),
 X.o 89 (.idxAddr 3 (X.s 82) (X.i 0)),
 X.o 90 (.fldAddr 2 (X.s 89)),
 X.n (.store1 (X.s 90) (X.s 88))]
def C.catnaplaw4_ConfCopies_r24 : List IOper := C.catnaplaw4_ConfCopies_r24_b
def C.catnaplaw4_ConfCopies_r24_w := @aopsE _ _ C.catnaplaw4_ConfCopies_r24.eq_1
def C.catnaplaw4_ConfCopies_r26_b : List IOper := [
 X.o 93 (.fldAddr 2 (X.s 7)),
 X.o 94 (.load1 (X.s 93)),
 X.o 95 (.idxAddr 1 (X.s 94) (X.i 0)),
 X.o 96 (.fldAddr 0 (X.s 95)),
 X.o 97 (.load1 (X.s 96)),
 X.o 98 (.bin .add (X.s 97) (X.i 1)),
 X.o 99 (.idxAddr 1 (X.s 94) (X.i 0)),
 X.o 100 (.fldAddr 0 (X.s 99)),
 X.n (.store1 (X.s 100) (X.s 98))]
def C.catnaplaw4_ConfCopies_r26 : List IOper := C.catnaplaw4_ConfCopies_r26_b
def C.catnaplaw4_ConfCopies_r26_w := @aopsE _ _ C.catnaplaw4_ConfCopies_r26.eq_1
def C.catnaplaw4_ConfCopies_r28_b : List IOper := [
 X.o 103 (.fldAddr 3 (X.s 7)),
 X.o 104 (.load1 (X.s 103)),
 X.m 105 9,
 X.o 106 (.idxAddr 6 (X.s 104) (X.s 105)),
 X.o 107 (.fldAddr 3 (X.s 106)),
 X.o 108 (.load1 (X.s 107)),
 X.o 109 (.bin .add (X.s 108) (.cst (.int .u32 1))),
 X.o 110 (.idxAddr 6 (X.s 104) (X.s 105)),
 X.o 111 (.fldAddr 3 (X.s 110)),
 X.n (.store1 (X.s 111) (X.s 109))]
def C.catnaplaw4_ConfCopies_r28 : List IOper := C.catnaplaw4_ConfCopies_r28_b
def C.catnaplaw4_ConfCopies_r28_w := @aopsE _ _ C.catnaplaw4_ConfCopies_r28.eq_1
def C.catnaplaw4_ConfCopies_r30_b : List IOper := [
 X.o 114 (.fldAddr 3 (X.s 7)),
 X.o 115 (.load1 (X.s 114)),
 X.m 116 9,
 X.o 117 (.fldAddr 3 (X.s 7)),
 X.o 118 (.load1 (X.s 117)),
 X.m 119 9,
 X.o 120 (.idxAddr 6 (X.s 118) (X.s 119)),
 X.o 121 (.fldAddr 5 (X.s 120)),
 X.o 122 (.load1 (X.s 121)),
 X.o 123 (.buildSlice 1 1 [.int .i64 0] [(0, 1, X.i 0)]),
 ⟨some 124, .append 1 8 (X.s 122) (X.s 123), none, [⟨.load1 (X.s 114), 115, none⟩], []⟩,
 X.o 125 (.idxAddr 6 (X.s 115) (X.s 116)),
 X.o 126 (.fldAddr 5 (X.s 125)),
 X.n (.store1 (X.s 126) (X.s 124))]
def C.catnaplaw4_ConfCopies_r30 : List IOper := C.catnaplaw4_ConfCopies_r30_b
def C.catnaplaw4_ConfCopies_r30_w := @aopsE _ _ C.catnaplaw4_ConfCopies_r30.eq_1
def C.catnaplaw4_ConfCopies_r36_b : List IOper := [
 X.o 160 (.fldAddr 3 (X.s 7)),
 X.o 161 (.load1 (X.s 160)),
 X.o 162 (.idxAddr 6 (X.s 161) (X.i 0)),
 X.o 163 (.fldAddr 1 (X.s 162)),
 X.o 164 (.load1 (X.s 163)),
 X.o 165 (.bin .add (X.s 164) (X.i 1)),
 X.o 166 (.idxAddr 6 (X.s 161) (X.i 0)),
 X.o 167 (.fldAddr 1 (X.s 166)),
 X.n (.store1 (X.s 167) (X.s 165))]
def C.catnaplaw4_ConfCopies_r36 : List IOper := C.catnaplaw4_ConfCopies_r36_b
def C.catnaplaw4_ConfCopies_r36_w := @aopsE _ _ C.catnaplaw4_ConfCopies_r36.eq_1
def C.catnaplaw4_ConfCopies_c17 : ICode := .keep [6, 7, 8] (.region C.catnaplaw4_ConfCopies_r36)
def C.catnaplaw4_ConfCopies_c17_w := @awpE _ _ C.catnaplaw4_ConfCopies_c17.eq_1
def C.catnaplaw4_ConfCopies_r34_b : List IOper := [
 X.m 138 12,
 X.o 139 (.bin .add (X.s 138) (X.i 1)),
 X.m 12 139]
def C.catnaplaw4_ConfCopies_r34 : List IOper := C.catnaplaw4_ConfCopies_r34_b
def C.catnaplaw4_ConfCopies_r34_w := @aopsE _ _ C.catnaplaw4_ConfCopies_r34.eq_1
def C.catnaplaw4_ConfCopies_c18 : ICode := .keep [6, 7, 8, 9, 12] (.region C.catnaplaw4_ConfCopies_r34)
def C.catnaplaw4_ConfCopies_c18_w := @awpE _ _ C.catnaplaw4_ConfCopies_c18.eq_1
def C.catnaplaw4_ConfCopies_r35_b : List IOper := [
 X.o 140 (.fldAddr 3 (X.s 7)),
 X.o 141 (.load1 (X.s 140)),
 X.m 142 9,
 X.o 143 (.idxAddr 6 (X.s 141) (X.s 142)),
 X.o 144 (.fldAddr 4 (X.s 143)),
 X.o 145 (.load1 (X.s 144)),
 X.m 146 12,
 X.o 147 (.fldAddr 3 (X.s 7)),
 X.o 148 (.load1 (X.s 147)),
 X.m 149 9,
 X.o 150 (.idxAddr 6 (X.s 148) (X.s 149)),
 X.o 151 (.fldAddr 4 (X.s 150)),
 X.o 152 (.load1 (X.s 151)),
 X.m 153 12,
 X.o 154 (.idxAddr 2 (X.s 152) (X.s 153)),
 X.o 155 (.fldAddr 1 (X.s 154)),
 X.o 156 (.load1 (X.s 155)),
 X.o 157 (.un .not (X.s 156)),
 X.o 158 (.idxAddr 2 (X.s 145) (X.s 146)),
 X.o 159 (.fldAddr 1 (X.s 158)),
 X.n (.store1 (X.s 159) (X.s 157))]
def C.catnaplaw4_ConfCopies_r35 : List IOper := C.catnaplaw4_ConfCopies_r35_b
def C.catnaplaw4_ConfCopies_r35_w := @aopsE _ _ C.catnaplaw4_ConfCopies_r35.eq_1
def C.catnaplaw4_ConfCopies_b19 : ICode := .region C.catnaplaw4_ConfCopies_r35
def C.catnaplaw4_ConfCopies_b19_w := @awpE _ _ C.catnaplaw4_ConfCopies_b19.eq_1
def C.catnaplaw4_ConfCopies_c20 : ICode := .keep [6, 7, 8, 9, 12] (.seq (.block 6 C.catnaplaw4_ConfCopies_b19) C.catnaplaw4_ConfCopies_c18)
def C.catnaplaw4_ConfCopies_c20_w := @awpE _ _ C.catnaplaw4_ConfCopies_c20.eq_1
def C.catnaplaw4_ConfCopies_c21 : ICode := .keep [6, 7, 8, 9, 12, 137] (.cond (X.s 137) .skip (.exit 5))
def C.catnaplaw4_ConfCopies_c21_w := @awpE _ _ C.catnaplaw4_ConfCopies_c21.eq_1
def C.catnaplaw4_ConfCopies_r33_b : List IOper := [
 X.m 129 12,
 X.o 130 (.fldAddr 3 (X.s 7)),
 X.o 131 (.load1 (X.s 130)),
 X.m 132 9,
 X.o 133 (.idxAddr 6 (X.s 131) (X.s 132)),
 X.o 134 (.fldAddr 4 (X.s 133)),
 X.o 135 (.load1 (X.s 134)),
 X.o 136 (.len (X.s 135)),
 X.o 137 (.bin .lss (X.s 129) (X.s 136))]
def C.catnaplaw4_ConfCopies_r33 : List IOper := C.catnaplaw4_ConfCopies_r33_b
def C.catnaplaw4_ConfCopies_r33_w := @aopsE _ _ C.catnaplaw4_ConfCopies_r33.eq_1
def C.catnaplaw4_ConfCopies_l22 : ICode := .keep [6, 7, 8, 9, 12] (.seq (.seq (.region C.catnaplaw4_ConfCopies_r33) C.catnaplaw4_ConfCopies_c21) C.catnaplaw4_ConfCopies_c20)
def C.catnaplaw4_ConfCopies_l22_w := @awpE _ _ C.catnaplaw4_ConfCopies_l22.eq_1
def C.catnaplaw4_ConfCopies_b23 : ICode := .loop C.catnaplaw4_ConfCopies_l22
def C.catnaplaw4_ConfCopies_b23_w := @awpE _ _ C.catnaplaw4_ConfCopies_b23.eq_1
def C.catnaplaw4_ConfCopies_c24 : ICode := .keep [6, 7, 8, 9, 12] (.block 5 C.catnaplaw4_ConfCopies_b23)
def C.catnaplaw4_ConfCopies_c24_w := @awpE _ _ C.catnaplaw4_ConfCopies_c24.eq_1
def C.catnaplaw4_ConfCopies_r32_b : List IOper := [
 X.o 12 (.move (X.i 0))]
def C.catnaplaw4_ConfCopies_r32 : List IOper := C.catnaplaw4_ConfCopies_r32_b
def C.catnaplaw4_ConfCopies_r32_w := @aopsE _ _ C.catnaplaw4_ConfCopies_r32.eq_1
def C.catnaplaw4_ConfCopies_r11_b : List IOper := [
 X.o 32 (.fldAddr 3 (X.s 7)),
 X.o 33 (.load1 (X.s 32)),
 X.m 34 9,
 X.o 35 (.slice 6 (X.s 33) none (some (X.s 34)) none),
 X.o 36 (.fldAddr 3 (X.s 7)),
 X.n (.store1 (X.s 36) (X.s 35))]
def C.catnaplaw4_ConfCopies_r11 : List IOper := C.catnaplaw4_ConfCopies_r11_b
def C.catnaplaw4_ConfCopies_r11_w := @aopsE _ _ C.catnaplaw4_ConfCopies_r11.eq_1
def C.catnaplaw4_ConfCopies_c25 : ICode := .seq (.seq (.region C.catnaplaw4_ConfCopies_r32) C.catnaplaw4_ConfCopies_c24) C.catnaplaw4_ConfCopies_c17
def C.catnaplaw4_ConfCopies_c25_w := @awpE _ _ C.catnaplaw4_ConfCopies_c25.eq_1
def C.catnaplaw4_ConfCopies_c26 : ICode := .region C.catnaplaw4_ConfCopies_r11
def C.catnaplaw4_ConfCopies_c26_w := @awpE _ _ C.catnaplaw4_ConfCopies_c26.eq_1
def C.catnaplaw4_ConfCopies_c27 : ICode := .keep [6, 7, 8, 9, 127] (.cond (X.s 127) C.catnaplaw4_ConfCopies_c25 C.catnaplaw4_ConfCopies_c26)
def C.catnaplaw4_ConfCopies_c27_w := @awpE _ _ C.catnaplaw4_ConfCopies_c27.eq_1
def C.catnaplaw4_ConfCopies_r31_b : List IOper := [
 X.o 128 (.bin .eql (X.s 31) (X.i 6)),
 X.m 127 128]
def C.catnaplaw4_ConfCopies_r31 : List IOper := C.catnaplaw4_ConfCopies_r31_b
def C.catnaplaw4_ConfCopies_r31_w := @aopsE _ _ C.catnaplaw4_ConfCopies_r31.eq_1
def C.catnaplaw4_ConfCopies_c28 : ICode := .region C.catnaplaw4_ConfCopies_r30
def C.catnaplaw4_ConfCopies_c28_w := @awpE _ _ C.catnaplaw4_ConfCopies_c28.eq_1
def C.catnaplaw4_ConfCopies_c29 : ICode := .seq (.region C.catnaplaw4_ConfCopies_r31) C.catnaplaw4_ConfCopies_c27
def C.catnaplaw4_ConfCopies_c29_w := @awpE _ _ C.catnaplaw4_ConfCopies_c29.eq_1
def C.catnaplaw4_ConfCopies_c30 : ICode := .keep [6, 7, 8, 9, 31, 112] (.cond (X.s 112) C.catnaplaw4_ConfCopies_c28 C.catnaplaw4_ConfCopies_c29)
def C.catnaplaw4_ConfCopies_c30_w := @awpE _ _ C.catnaplaw4_ConfCopies_c30.eq_1
def C.catnaplaw4_ConfCopies_r29_b : List IOper := [
 X.o 113 (.bin .eql (X.s 31) (X.i 5)),
 X.m 112 113]
def C.catnaplaw4_ConfCopies_r29 : List IOper := C.catnaplaw4_ConfCopies_r29_b
def C.catnaplaw4_ConfCopies_r29_w := @aopsE _ _ C.catnaplaw4_ConfCopies_r29.eq_1
def C.catnaplaw4_ConfCopies_c31 : ICode := .region C.catnaplaw4_ConfCopies_r28
def C.catnaplaw4_ConfCopies_c31_w := @awpE _ _ C.catnaplaw4_ConfCopies_c31.eq_1
def C.catnaplaw4_ConfCopies_c32 : ICode := .seq (.region C.catnaplaw4_ConfCopies_r29) C.catnaplaw4_ConfCopies_c30
def C.catnaplaw4_ConfCopies_c32_w := @awpE _ _ C.catnaplaw4_ConfCopies_c32.eq_1
def C.catnaplaw4_ConfCopies_c33 : ICode := .keep [6, 7, 8, 9, 31, 101] (.cond (X.s 101) C.catnaplaw4_ConfCopies_c31 C.catnaplaw4_ConfCopies_c32)
def C.catnaplaw4_ConfCopies_c33_w := @awpE _ _ C.catnaplaw4_ConfCopies_c33.eq_1
def C.catnaplaw4_ConfCopies_r27_b : List IOper := [
 X.o 102 (.bin .eql (X.s 31) (X.i 4)),
 X.m 101 102]
def C.catnaplaw4_ConfCopies_r27 : List IOper := C.catnaplaw4_ConfCopies_r27_b
def C.catnaplaw4_ConfCopies_r27_w := @aopsE _ _ C.catnaplaw4_ConfCopies_r27.eq_1
def C.catnaplaw4_ConfCopies_c34 : ICode := .region C.catnaplaw4_ConfCopies_r26
def C.catnaplaw4_ConfCopies_c34_w := @awpE _ _ C.catnaplaw4_ConfCopies_c34.eq_1
def C.catnaplaw4_ConfCopies_c35 : ICode := .seq (.region C.catnaplaw4_ConfCopies_r27) C.catnaplaw4_ConfCopies_c33
def C.catnaplaw4_ConfCopies_c35_w := @awpE _ _ C.catnaplaw4_ConfCopies_c35.eq_1
def C.catnaplaw4_ConfCopies_c36 : ICode := .keep [6, 7, 8, 9, 31, 91] (.cond (X.s 91) C.catnaplaw4_ConfCopies_c34 C.catnaplaw4_ConfCopies_c35)
def C.catnaplaw4_ConfCopies_c36_w := @awpE _ _ C.catnaplaw4_ConfCopies_c36.eq_1
def C.catnaplaw4_ConfCopies_r25_b : List IOper := [
 X.o 92 (.bin .eql (X.s 31) (X.i 3)),
 X.m 91 92]
def C.catnaplaw4_ConfCopies_r25 : List IOper := C.catnaplaw4_ConfCopies_r25_b
def C.catnaplaw4_ConfCopies_r25_w := @aopsE _ _ C.catnaplaw4_ConfCopies_r25.eq_1
def C.catnaplaw4_ConfCopies_c37 : ICode := .region C.catnaplaw4_ConfCopies_r24
def C.catnaplaw4_ConfCopies_c37_w := @awpE _ _ C.catnaplaw4_ConfCopies_c37.eq_1
def C.catnaplaw4_ConfCopies_c38 : ICode := .seq (.region C.catnaplaw4_ConfCopies_r25) C.catnaplaw4_ConfCopies_c36
def C.catnaplaw4_ConfCopies_c38_w := @awpE _ _ C.catnaplaw4_ConfCopies_c38.eq_1
def C.catnaplaw4_ConfCopies_c39 : ICode := .keep [6, 7, 8, 9, 31, 79] (.cond (X.s 79) C.catnaplaw4_ConfCopies_c37 C.catnaplaw4_ConfCopies_c38)
def C.catnaplaw4_ConfCopies_c39_w := @awpE _ _ C.catnaplaw4_ConfCopies_c39.eq_1
def C.catnaplaw4_ConfCopies_r23_b : List IOper := [
 X.o 80 (.bin .eql (X.s 31) (X.i 2)),
 X.m 79 80]
def C.catnaplaw4_ConfCopies_r23 : List IOper := C.catnaplaw4_ConfCopies_r23_b
def C.catnaplaw4_ConfCopies_r23_w := @aopsE _ _ C.catnaplaw4_ConfCopies_r23.eq_1
def C.catnaplaw4_ConfCopies_c40 : ICode := .seq (.seq (.region C.catnaplaw4_ConfCopies_r15) C.catnaplaw4_ConfCopies_c16) C.catnaplaw4_ConfCopies_c2
def C.catnaplaw4_ConfCopies_c40_w := @awpE _ _ C.catnaplaw4_ConfCopies_c40.eq_1
def C.catnaplaw4_ConfCopies_c41 : ICode := .seq (.region C.catnaplaw4_ConfCopies_r23) C.catnaplaw4_ConfCopies_c39
def C.catnaplaw4_ConfCopies_c41_w := @awpE _ _ C.catnaplaw4_ConfCopies_c41.eq_1
def C.catnaplaw4_ConfCopies_c42 : ICode := .keep [6, 7, 8, 9, 31, 47] (.cond (X.s 47) C.catnaplaw4_ConfCopies_c40 C.catnaplaw4_ConfCopies_c41)
def C.catnaplaw4_ConfCopies_c42_w := @awpE _ _ C.catnaplaw4_ConfCopies_c42.eq_1
def C.catnaplaw4_ConfCopies_r14_b : List IOper := [
 X.o 48 (.bin .eql (X.s 31) (X.i 1)),
 X.m 47 48]
def C.catnaplaw4_ConfCopies_r14 : List IOper := C.catnaplaw4_ConfCopies_r14_b
def C.catnaplaw4_ConfCopies_r14_w := @aopsE _ _ C.catnaplaw4_ConfCopies_r14.eq_1
def C.catnaplaw4_ConfCopies_c43 : ICode := .region C.catnaplaw4_ConfCopies_r13
def C.catnaplaw4_ConfCopies_c43_w := @awpE _ _ C.catnaplaw4_ConfCopies_c43.eq_1
def C.catnaplaw4_ConfCopies_c44 : ICode := .seq (.region C.catnaplaw4_ConfCopies_r14) C.catnaplaw4_ConfCopies_c42
def C.catnaplaw4_ConfCopies_c44_w := @awpE _ _ C.catnaplaw4_ConfCopies_c44.eq_1
def C.catnaplaw4_ConfCopies_c45 : ICode := .keep [6, 7, 8, 9, 31, 37] (.cond (X.s 37) C.catnaplaw4_ConfCopies_c43 C.catnaplaw4_ConfCopies_c44)
def C.catnaplaw4_ConfCopies_c45_w := @awpE _ _ C.catnaplaw4_ConfCopies_c45.eq_1
def C.catnaplaw4_ConfCopies_r12_b : List IOper := [
 X.o 38 (.bin .eql (X.s 31) (X.i 0)),
 X.m 37 38]
def C.catnaplaw4_ConfCopies_r12 : List IOper := C.catnaplaw4_ConfCopies_r12_b
def C.catnaplaw4_ConfCopies_r12_w := @aopsE _ _ C.catnaplaw4_ConfCopies_r12.eq_1
def C.catnaplaw4_ConfCopies_b46 : ICode := .seq (.region C.catnaplaw4_ConfCopies_r12) C.catnaplaw4_ConfCopies_c45
def C.catnaplaw4_ConfCopies_b46_w := @awpE _ _ C.catnaplaw4_ConfCopies_b46.eq_1
def C.catnaplaw4_ConfCopies_c47 : ICode := .keep [6, 7, 8, 9, 31] (.block 0 C.catnaplaw4_ConfCopies_b46)
def C.catnaplaw4_ConfCopies_c47_w := @awpE _ _ C.catnaplaw4_ConfCopies_c47.eq_1
def C.catnaplaw4_ConfCopies_r10_b : List IOper := [
 X.m 30 1,
 X.o 31 (.call F.catnaplaw4_pick [X.s 30, X.i 8])]
def C.catnaplaw4_ConfCopies_r10 : List IOper := C.catnaplaw4_ConfCopies_r10_b
def C.catnaplaw4_ConfCopies_r10_w := @aopsE _ _ C.catnaplaw4_ConfCopies_r10.eq_1
def C.catnaplaw4_ConfCopies_c48 : ICode := .keep [1, 6, 7, 8, 9] (.seq (.seq (.region C.catnaplaw4_ConfCopies_r10) C.catnaplaw4_ConfCopies_c47) C.catnaplaw4_ConfCopies_c1)
def C.catnaplaw4_ConfCopies_c48_w := @awpE _ _ C.catnaplaw4_ConfCopies_c48.eq_1
def C.catnaplaw4_ConfCopies_r9_b : List IOper := [
 X.o 26 (.fldAddr 3 (X.s 7)),
 X.o 27 (.load1 (X.s 26)),
 X.o 28 (.len (X.s 27)),
 X.o 29 (.bin .sub (X.s 28) (X.i 1)),
 X.m 9 29]
def C.catnaplaw4_ConfCopies_r9 : List IOper := C.catnaplaw4_ConfCopies_r9_b
def C.catnaplaw4_ConfCopies_r9_w := @aopsE _ _ C.catnaplaw4_ConfCopies_r9.eq_1
def C.catnaplaw4_ConfCopies_c49 : ICode := .keep [1, 6, 7, 8] (.seq (.region C.catnaplaw4_ConfCopies_r9) C.catnaplaw4_ConfCopies_c48)
def C.catnaplaw4_ConfCopies_c49_w := @awpE _ _ C.catnaplaw4_ConfCopies_c49.eq_1
def C.catnaplaw4_ConfCopies_r8_b : List IOper := [
 X.o 4 (.move (.cst (.bool false)))]
def C.catnaplaw4_ConfCopies_r8 : List IOper := C.catnaplaw4_ConfCopies_r8_b
def C.catnaplaw4_ConfCopies_r8_w := @aopsE _ _ C.catnaplaw4_ConfCopies_r8.eq_1
def C.catnaplaw4_ConfCopies_c50 : ICode := .seq (.region C.catnaplaw4_ConfCopies_r8) .ret
def C.catnaplaw4_ConfCopies_c50_w := @awpE _ _ C.catnaplaw4_ConfCopies_c50.eq_1
def C.catnaplaw4_ConfCopies_c51 : ICode := .keep [1, 6, 7, 8, 25] (.cond (X.s 25) C.catnaplaw4_ConfCopies_c50 .skip)
def C.catnaplaw4_ConfCopies_c51_w := @awpE _ _ C.catnaplaw4_ConfCopies_c51.eq_1
def C.catnaplaw4_ConfCopies_r7_b : List IOper := [
 X.o 22 (.loadN 4 (X.s 6)),
 X.o 23 (.loadN 4 (X.s 7)),
 X.o 24 (.call F.conf_Same [X.s 22, X.s 23]),
 X.o 25 (.un .not (X.s 24))]
def C.catnaplaw4_ConfCopies_r7 : List IOper := C.catnaplaw4_ConfCopies_r7_b
def C.catnaplaw4_ConfCopies_r7_w := @aopsE _ _ C.catnaplaw4_ConfCopies_r7.eq_1
def C.catnaplaw4_ConfCopies_c52 : ICode := .keep [1, 6, 7, 8] (.seq (.seq (.region C.catnaplaw4_ConfCopies_r7) C.catnaplaw4_ConfCopies_c51) C.catnaplaw4_ConfCopies_c49)
def C.catnaplaw4_ConfCopies_c52_w := @awpE _ _ C.catnaplaw4_ConfCopies_c52.eq_1
def C.catnaplaw4_ConfCopies_r6_b : List IOper := [
 X.m 20 0,
 X.o 21 (.call F.catnaplaw4_chip [X.s 20]),
 X.o 8 (.alloc [.nils, .nils, .nils, .nils]),
 X.n (.storeN 4 (X.s 8) (X.s 21))]
def C.catnaplaw4_ConfCopies_r6 : List IOper := C.catnaplaw4_ConfCopies_r6_b
def C.catnaplaw4_ConfCopies_r6_w := @aopsE _ _ C.catnaplaw4_ConfCopies_r6.eq_1
def C.catnaplaw4_ConfCopies_c53 : ICode := .keep [0, 1, 6, 7] (.seq (.region C.catnaplaw4_ConfCopies_r6) C.catnaplaw4_ConfCopies_c52)
def C.catnaplaw4_ConfCopies_c53_w := @awpE _ _ C.catnaplaw4_ConfCopies_c53.eq_1
def C.catnaplaw4_ConfCopies_r5_b : List IOper := [
 X.o 18 (.loadN 4 (X.s 6)),
 X.o 19 (.call F.conf_Copy [X.s 18]),
 X.o 7 (.alloc [.nils, .nils, .nils, .nils]),
 X.n (.storeN 4 (X.s 7) (X.s 19))]
def C.catnaplaw4_ConfCopies_r5 : List IOper := C.catnaplaw4_ConfCopies_r5_b
def C.catnaplaw4_ConfCopies_r5_w := @aopsE _ _ C.catnaplaw4_ConfCopies_r5.eq_1
def C.catnaplaw4_ConfCopies_c54 : ICode := .keep [0, 1, 6] (.seq (.region C.catnaplaw4_ConfCopies_r5) C.catnaplaw4_ConfCopies_c53)
def C.catnaplaw4_ConfCopies_c54_w := @awpE _ _ C.catnaplaw4_ConfCopies_c54.eq_1
def C.catnaplaw4_ConfCopies_r4_b : List IOper := [
 X.m 16 0,
 X.o 17 (.call F.catnaplaw4_chip [X.s 16]),
 X.o 6 (.alloc [.nils, .nils, .nils, .nils]),
 X.n (.storeN 4 (X.s 6) (X.s 17))]
def C.catnaplaw4_ConfCopies_r4 : List IOper := C.catnaplaw4_ConfCopies_r4_b
def C.catnaplaw4_ConfCopies_r4_w := @aopsE _ _ C.catnaplaw4_ConfCopies_r4.eq_1
def C.catnaplaw4_ConfCopies_c55 : ICode := .keep [0, 1] (.seq (.region C.catnaplaw4_ConfCopies_r4) C.catnaplaw4_ConfCopies_c54)
def C.catnaplaw4_ConfCopies_c55_w := @awpE _ _ C.catnaplaw4_ConfCopies_c55.eq_1
def C.catnaplaw4_ConfCopies_r3_b : List IOper := [
 X.o 4 (.move (.cst (.bool false)))]
def C.catnaplaw4_ConfCopies_r3 : List IOper := C.catnaplaw4_ConfCopies_r3_b
def C.catnaplaw4_ConfCopies_r3_w := @aopsE _ _ C.catnaplaw4_ConfCopies_r3.eq_1
def C.catnaplaw4_ConfCopies_c56 : ICode := .seq (.region C.catnaplaw4_ConfCopies_r3) .ret
def C.catnaplaw4_ConfCopies_c56_w := @awpE _ _ C.catnaplaw4_ConfCopies_c56.eq_1
def C.catnaplaw4_ConfCopies_c57 : ICode := .keep [0, 1, 15] (.cond (X.s 15) C.catnaplaw4_ConfCopies_c56 .skip)
def C.catnaplaw4_ConfCopies_c57_w := @awpE _ _ C.catnaplaw4_ConfCopies_c57.eq_1
def C.catnaplaw4_ConfCopies_r2_b : List IOper := [
 X.m 14 5,
 X.o 15 (.un .not (X.s 14))]
def C.catnaplaw4_ConfCopies_r2 : List IOper := C.catnaplaw4_ConfCopies_r2_b
def C.catnaplaw4_ConfCopies_r2_w := @aopsE _ _ C.catnaplaw4_ConfCopies_r2.eq_1
def C.catnaplaw4_ConfCopies_c58 : ICode := .keep [0, 1, 5] (.seq (.seq (.region C.catnaplaw4_ConfCopies_r2) C.catnaplaw4_ConfCopies_c57) C.catnaplaw4_ConfCopies_c55)
def C.catnaplaw4_ConfCopies_c58_w := @awpE _ _ C.catnaplaw4_ConfCopies_c58.eq_1
def C.catnaplaw4_ConfCopies_r1_b : List IOper := [
 X.o 13 (.call F.catnaplaw4_shown []),
 X.m 5 13]
def C.catnaplaw4_ConfCopies_r1 : List IOper := C.catnaplaw4_ConfCopies_r1_b
def C.catnaplaw4_ConfCopies_r1_w := @aopsE _ _ C.catnaplaw4_ConfCopies_r1.eq_1
def C.catnaplaw4_ConfCopies_c59 : ICode := .keep [0, 1] (.seq (.region C.catnaplaw4_ConfCopies_r1) C.catnaplaw4_ConfCopies_c58)
def C.catnaplaw4_ConfCopies_c59_w := @awpE _ _ C.catnaplaw4_ConfCopies_c59.eq_1
def C.catnaplaw4_ConfCopies_r0_b : List IOper := [
 X.o 4 (.move (.cst (.bool false)))]
def C.catnaplaw4_ConfCopies_r0 : List IOper := C.catnaplaw4_ConfCopies_r0_b
def C.catnaplaw4_ConfCopies_r0_w := @aopsE _ _ C.catnaplaw4_ConfCopies_r0.eq_1
def C.catnaplaw4_ConfCopies : IFunc := ⟨2, [.slot 4], .seq (.region C.catnaplaw4_ConfCopies_r0) C.catnaplaw4_ConfCopies_c59⟩
def C.catnaplaw4_ConfCopies_W := And.intro (And.intro (And.intro (And.intro (And.intro (And.intro @C.catnaplaw4_ConfCopies_r37_w @C.catnaplaw4_ConfCopies_c1_w) (And.intro @C.catnaplaw4_ConfCopies_r13_w (And.intro @C.catnaplaw4_ConfCopies_r22_w @C.catnaplaw4_ConfCopies_c2_w))) (And.intro (And.intro @C.catnaplaw4_ConfCopies_r17_w (And.intro @C.catnaplaw4_ConfCopies_c3_w @C.catnaplaw4_ConfCopies_r20_w)) (And.intro @C.catnaplaw4_ConfCopies_c4_w (And.intro @C.catnaplaw4_ConfCopies_r21_w @C.catnaplaw4_ConfCopies_b5_w)))) (And.intro (And.intro (And.intro @C.catnaplaw4_ConfCopies_c6_w (And.intro @C.catnaplaw4_ConfCopies_c7_w @C.catnaplaw4_ConfCopies_r19_w)) (And.intro @C.catnaplaw4_ConfCopies_b9_w (And.intro @C.catnaplaw4_ConfCopies_c10_w @C.catnaplaw4_ConfCopies_r18_w))) (And.intro (And.intro @C.catnaplaw4_ConfCopies_b11_w (And.intro @C.catnaplaw4_ConfCopies_c12_w @C.catnaplaw4_ConfCopies_c13_w)) (And.intro @C.catnaplaw4_ConfCopies_r16_w (And.intro @C.catnaplaw4_ConfCopies_b15_w @C.catnaplaw4_ConfCopies_c16_w))))) (And.intro (And.intro (And.intro (And.intro @C.catnaplaw4_ConfCopies_r15_w (And.intro @C.catnaplaw4_ConfCopies_r24_w @C.catnaplaw4_ConfCopies_r26_w)) (And.intro @C.catnaplaw4_ConfCopies_r28_w (And.intro @C.catnaplaw4_ConfCopies_r30_w @C.catnaplaw4_ConfCopies_r36_w))) (And.intro (And.intro @C.catnaplaw4_ConfCopies_c17_w (And.intro @C.catnaplaw4_ConfCopies_r34_w @C.catnaplaw4_ConfCopies_c18_w)) (And.intro @C.catnaplaw4_ConfCopies_r35_w (And.intro @C.catnaplaw4_ConfCopies_b19_w @C.catnaplaw4_ConfCopies_c20_w)))) (And.intro (And.intro (And.intro @C.catnaplaw4_ConfCopies_c21_w (And.intro @C.catnaplaw4_ConfCopies_r33_w @C.catnaplaw4_ConfCopies_b23_w)) (And.intro @C.catnaplaw4_ConfCopies_c24_w (And.intro @C.catnaplaw4_ConfCopies_r32_w @C.catnaplaw4_ConfCopies_r11_w))) (And.intro (And.intro @C.catnaplaw4_ConfCopies_c25_w (And.intro @C.catnaplaw4_ConfCopies_c26_w @C.catnaplaw4_ConfCopies_c27_w)) (And.intro @C.catnaplaw4_ConfCopies_r31_w (And.intro @C.catnaplaw4_ConfCopies_c28_w @C.catnaplaw4_ConfCopies_c29_w)))))) (And.intro (And.intro (And.intro (And.intro (And.intro @C.catnaplaw4_ConfCopies_c30_w @C.catnaplaw4_ConfCopies_r29_w) (And.intro @C.catnaplaw4_ConfCopies_c31_w (And.intro @C.catnaplaw4_ConfCopies_c32_w @C.catnaplaw4_ConfCopies_c33_w))) (And.intro (And.intro @C.catnaplaw4_ConfCopies_r27_w (And.intro @C.catnaplaw4_ConfCopies_c34_w @C.catnaplaw4_ConfCopies_c35_w)) (And.intro @C.catnaplaw4_ConfCopies_c36_w (And.intro @C.catnaplaw4_ConfCopies_r25_w @C.catnaplaw4_ConfCopies_c37_w)))) (And.intro (And.intro (And.intro @C.catnaplaw4_ConfCopies_c38_w (And.intro @C.catnaplaw4_ConfCopies_c39_w @C.catnaplaw4_ConfCopies_r23_w)) (And.intro @C.catnaplaw4_ConfCopies_c40_w (And.intro @C.catnaplaw4_ConfCopies_c41_w @C.catnaplaw4_ConfCopies_c42_w))) (And.intro (And.intro @C.catnaplaw4_ConfCopies_r14_w (And.intro @C.catnaplaw4_ConfCopies_c43_w @C.catnaplaw4_ConfCopies_c44_w)) (And.intro @C.catnaplaw4_ConfCopies_c45_w (And.intro @C.catnaplaw4_ConfCopies_r12_w @C.catnaplaw4_ConfCopies_b46_w))))) (And.intro (And.intro (And.intro (And.intro @C.catnaplaw4_ConfCopies_c47_w (And.intro @C.catnaplaw4_ConfCopies_r10_w @C.catnaplaw4_ConfCopies_c48_w)) (And.intro @C.catnaplaw4_ConfCopies_r9_w (And.intro @C.catnaplaw4_ConfCopies_c49_w @C.catnaplaw4_ConfCopies_r8_w))) (And.intro (And.intro @C.catnaplaw4_ConfCopies_c50_w (And.intro @C.catnaplaw4_ConfCopies_c51_w @C.catnaplaw4_ConfCopies_r7_w)) (And.intro @C.catnaplaw4_ConfCopies_c52_w (And.intro @C.catnaplaw4_ConfCopies_r6_w @C.catnaplaw4_ConfCopies_c53_w)))) (And.intro (And.intro (And.intro @C.catnaplaw4_ConfCopies_r5_w (And.intro @C.catnaplaw4_ConfCopies_c54_w @C.catnaplaw4_ConfCopies_r4_w)) (And.intro @C.catnaplaw4_ConfCopies_c55_w (And.intro @C.catnaplaw4_ConfCopies_r3_w @C.catnaplaw4_ConfCopies_c56_w))) (And.intro (And.intro @C.catnaplaw4_ConfCopies_c57_w (And.intro @C.catnaplaw4_ConfCopies_r2_w @C.catnaplaw4_ConfCopies_c58_w)) (And.intro @C.catnaplaw4_ConfCopies_r1_w (And.intro @C.catnaplaw4_ConfCopies_c59_w @C.catnaplaw4_ConfCopies_r0_w))))))
def C.catnaplaw4_ConfCopies_B := And.intro (And.intro (And.intro (And.intro (And.intro @C.catnaplaw4_ConfCopies_r37_b.eq_1 @C.catnaplaw4_ConfCopies_r13_b.eq_1) (And.intro @C.catnaplaw4_ConfCopies_r22_b.eq_1 @C.catnaplaw4_ConfCopies_r17_b.eq_1)) (And.intro (And.intro @C.catnaplaw4_ConfCopies_r20_b.eq_1 @C.catnaplaw4_ConfCopies_r21_b.eq_1) (And.intro @C.catnaplaw4_ConfCopies_r19_b.eq_1 (And.intro @C.catnaplaw4_ConfCopies_r18_b.eq_1 @C.catnaplaw4_ConfCopies_r16_b.eq_1)))) (And.intro (And.intro (And.intro @C.catnaplaw4_ConfCopies_r15_b.eq_1 @C.catnaplaw4_ConfCopies_r24_b.eq_1) (And.intro @C.catnaplaw4_ConfCopies_r26_b.eq_1 (And.intro @C.catnaplaw4_ConfCopies_r28_b.eq_1 @C.catnaplaw4_ConfCopies_r30_b.eq_1))) (And.intro (And.intro @C.catnaplaw4_ConfCopies_r36_b.eq_1 @C.catnaplaw4_ConfCopies_r34_b.eq_1) (And.intro @C.catnaplaw4_ConfCopies_r35_b.eq_1 (And.intro @C.catnaplaw4_ConfCopies_r33_b.eq_1 @C.catnaplaw4_ConfCopies_r32_b.eq_1))))) (And.intro (And.intro (And.intro (And.intro @C.catnaplaw4_ConfCopies_r11_b.eq_1 @C.catnaplaw4_ConfCopies_r31_b.eq_1) (And.intro @C.catnaplaw4_ConfCopies_r29_b.eq_1 @C.catnaplaw4_ConfCopies_r27_b.eq_1)) (And.intro (And.intro @C.catnaplaw4_ConfCopies_r25_b.eq_1 @C.catnaplaw4_ConfCopies_r23_b.eq_1) (And.intro @C.catnaplaw4_ConfCopies_r14_b.eq_1 (And.intro @C.catnaplaw4_ConfCopies_r12_b.eq_1 @C.catnaplaw4_ConfCopies_r10_b.eq_1)))) (And.intro (And.intro (And.intro @C.catnaplaw4_ConfCopies_r9_b.eq_1 @C.catnaplaw4_ConfCopies_r8_b.eq_1) (And.intro @C.catnaplaw4_ConfCopies_r7_b.eq_1 (And.intro @C.catnaplaw4_ConfCopies_r6_b.eq_1 @C.catnaplaw4_ConfCopies_r5_b.eq_1))) (And.intro (And.intro @C.catnaplaw4_ConfCopies_r4_b.eq_1 @C.catnaplaw4_ConfCopies_r3_b.eq_1) (And.intro @C.catnaplaw4_ConfCopies_r2_b.eq_1 (And.intro @C.catnaplaw4_ConfCopies_r1_b.eq_1 @C.catnaplaw4_ConfCopies_r0_b.eq_1)))))

def C.catnaplaw4_ConfUnused_r18_b : List IOper := [
 X.o 82 (.loadN 4 (X.s 12)),
 X.o 83 (.call F.conf_Check [X.s 82]),
 X.o 84 (.bin .eql (X.s 83) (X.i 0)),
 X.m 85 84,
 X.t 85 86 (.loadN 4 (X.s 12)),
 X.t 85 87 (.loadN 4 (X.s 12)),
 ⟨some 88, .call F.conf_Copy [X.s 87], some (85, true), [⟨.loadN 4 (X.s 12), 86, some (85, true)⟩], []⟩,
 X.t 85 89 (.call F.conf_Same [X.s 86, X.s 88]),
 X.o 90 (.pick (X.s 85) (X.s 89) (.cst (.bool false))),
 X.m 91 90,
 X.t 91 92 (.move (X.s 16)),
 X.t 91 93 (.un .not (X.s 92)),
 X.t 91 94 (.move (X.s 93)),
 X.f 94 95 (.loadN 4 (X.s 12)),
 X.f 94 96 (.loadN 4 (X.s 15)),
 X.f 94 97 (.call F.conf_Same [X.s 95, X.s 96]),
 X.f 94 98 (.un .not (X.s 97)),
 X.t 91 99 (.pick (X.s 94) (.cst (.bool true)) (X.s 98)),
 X.o 100 (.pick (X.s 91) (X.s 99) (.cst (.bool false))),
 X.m 10 100]
def C.catnaplaw4_ConfUnused_r18 : List IOper := C.catnaplaw4_ConfUnused_r18_b
def C.catnaplaw4_ConfUnused_r18_w := @aopsE _ _ C.catnaplaw4_ConfUnused_r18.eq_1
def C.catnaplaw4_ConfUnused_c1 : ICode := .keep [12, 15, 16] (.seq (.region C.catnaplaw4_ConfUnused_r18) .ret)
def C.catnaplaw4_ConfUnused_c1_w := @awpE _ _ C.catnaplaw4_ConfUnused_c1.eq_1
def C.catnaplaw4_ConfUnused_r17_b : List IOper := [
 X.m 72 1,
 X.o 73 (.bin .neq (X.s 72) (X.i 0)),
 X.m 74 73,
 X.f 74 75 (.move (X.s 2)),
 X.f 74 76 (.bin .neq (X.s 75) (X.i 0)),
 X.o 77 (.pick (X.s 74) (.cst (.bool true)) (X.s 76)),
 X.m 78 77,
 X.f 78 79 (.move (X.s 3)),
 X.f 78 80 (.bin .neq (X.s 79) (X.i 0)),
 X.o 81 (.pick (X.s 78) (.cst (.bool true)) (X.s 80)),
 X.m 16 81]
def C.catnaplaw4_ConfUnused_r17 : List IOper := C.catnaplaw4_ConfUnused_r17_b
def C.catnaplaw4_ConfUnused_r17_w := @aopsE _ _ C.catnaplaw4_ConfUnused_r17.eq_1
def C.catnaplaw4_ConfUnused_c2 : ICode := .keep [1, 2, 3, 12, 15] (.seq (.region C.catnaplaw4_ConfUnused_r17) C.catnaplaw4_ConfUnused_c1)
def C.catnaplaw4_ConfUnused_c2_w := @awpE _ _ C.catnaplaw4_ConfUnused_c2.eq_1
def C.catnaplaw4_ConfUnused_r16_b : List IOper := [
 X.m 70 0,
 X.o 71 (.call F.catnaplaw4_chip [X.s 70]),
 X.o 15 (.alloc [.nils, .nils, .nils, .nils]),
 X.n (.storeN 4 (X.s 15) (X.s 71))]
def C.catnaplaw4_ConfUnused_r16 : List IOper := C.catnaplaw4_ConfUnused_r16_b
def C.catnaplaw4_ConfUnused_r16_w := @aopsE _ _ C.catnaplaw4_ConfUnused_r16.eq_1
def C.catnaplaw4_ConfUnused_c3 : ICode := .keep [0, 1, 2, 3, 12] (.seq (.region C.catnaplaw4_ConfUnused_r16) C.catnaplaw4_ConfUnused_c2)
def C.catnaplaw4_ConfUnused_c3_w := @awpE _ _ C.catnaplaw4_ConfUnused_c3.eq_1
def C.catnaplaw4_ConfUnused_r7_b : List IOper := [
 X.m 28 13,
 X.o 29 (.bin .add (X.s 28) (X.i 1)),
 X.m 13 29]
def C.catnaplaw4_ConfUnused_r7 : List IOper := C.catnaplaw4_ConfUnused_r7_b
def C.catnaplaw4_ConfUnused_r7_w := @aopsE _ _ C.catnaplaw4_ConfUnused_r7.eq_1
def C.catnaplaw4_ConfUnused_c4 : ICode := .keep [0, 1, 2, 3, 4, 12, 13] (.region C.catnaplaw4_ConfUnused_r7)
def C.catnaplaw4_ConfUnused_c4_w := @awpE _ _ C.catnaplaw4_ConfUnused_c4.eq_1
def C.catnaplaw4_ConfUnused_r15_b : List IOper := [
 X.o 64 (.fldAddr 0 (X.s 12)),
 X.o 65 (.load1 (X.s 64)),
 X.m 66 13,
 X.m 67 2,
 X.o 68 (.idxAddr 6 (X.s 65) (X.s 66)),
 X.o 69 (.fldAddr 4 (X.s 68)),
 X.n (.store1 (X.s 69) (X.s 67))]
def C.catnaplaw4_ConfUnused_r15 : List IOper := C.catnaplaw4_ConfUnused_r15_b
def C.catnaplaw4_ConfUnused_r15_w := @aopsE _ _ C.catnaplaw4_ConfUnused_r15.eq_1
def C.catnaplaw4_ConfUnused_c5 : ICode := .region C.catnaplaw4_ConfUnused_r15
def C.catnaplaw4_ConfUnused_c5_w := @awpE _ _ C.catnaplaw4_ConfUnused_c5.eq_1
def C.catnaplaw4_ConfUnused_c6 : ICode := .keep [0, 1, 2, 3, 4, 12, 13, 63] (.cond (X.s 63) C.catnaplaw4_ConfUnused_c5 .skip)
def C.catnaplaw4_ConfUnused_c6_w := @awpE _ _ C.catnaplaw4_ConfUnused_c6.eq_1
def C.catnaplaw4_ConfUnused_r14_b : List IOper := [
 X.m 58 14,
 X.o 59 (.bin .neq (X.s 58) (.cst (.int .u8 112))),
 X.m 60 59,
 X.t 60 61 (.move (X.s 14)),
 X.t 60 62 (.bin .neq (X.s 61) (.cst (.int .u8 100))),
 X.o 63 (.pick (X.s 60) (X.s 62) (.cst (.bool false)))]
def C.catnaplaw4_ConfUnused_r14 : List IOper := C.catnaplaw4_ConfUnused_r14_b
def C.catnaplaw4_ConfUnused_r14_w := @aopsE _ _ C.catnaplaw4_ConfUnused_r14.eq_1
def C.catnaplaw4_ConfUnused_c7 : ICode := .keep [0, 1, 2, 3, 4, 12, 13, 14] (.seq (.region C.catnaplaw4_ConfUnused_r14) C.catnaplaw4_ConfUnused_c6)
def C.catnaplaw4_ConfUnused_c7_w := @awpE _ _ C.catnaplaw4_ConfUnused_c7.eq_1
def C.catnaplaw4_ConfUnused_r13_b : List IOper := [
 X.o 52 (.fldAddr 0 (X.s 12)),
 X.o 53 (.load1 (X.s 52)),
 X.m 54 13,
 X.m 55 3,
 X.o 56 (.idxAddr 6 (X.s 53) (X.s 54)),
 X.o 57 (.fldAddr 5 (X.s 56)),
 X.n (.store1 (X.s 57) (X.s 55))]
def C.catnaplaw4_ConfUnused_r13 : List IOper := C.catnaplaw4_ConfUnused_r13_b
def C.catnaplaw4_ConfUnused_r13_w := @aopsE _ _ C.catnaplaw4_ConfUnused_r13.eq_1
def C.catnaplaw4_ConfUnused_c8 : ICode := .keep [0, 1, 2, 3, 4, 12, 13, 14] (.region C.catnaplaw4_ConfUnused_r13)
def C.catnaplaw4_ConfUnused_c8_w := @awpE _ _ C.catnaplaw4_ConfUnused_c8.eq_1
def C.catnaplaw4_ConfUnused_r12_b : List IOper := [
 X.o 46 (.fldAddr 0 (X.s 12)),
 X.o 47 (.load1 (X.s 46)),
 X.m 48 13,
 X.m 49 1,
 X.o 50 (.idxAddr 6 (X.s 47) (X.s 48)),
 X.o 51 (.fldAddr 3 (X.s 50)),
 X.n (.store1 (X.s 51) (X.s 49))]
def C.catnaplaw4_ConfUnused_r12 : List IOper := C.catnaplaw4_ConfUnused_r12_b
def C.catnaplaw4_ConfUnused_r12_w := @aopsE _ _ C.catnaplaw4_ConfUnused_r12.eq_1
def C.catnaplaw4_ConfUnused_c9 : ICode := .seq (.region C.catnaplaw4_ConfUnused_r12) C.catnaplaw4_ConfUnused_c8
def C.catnaplaw4_ConfUnused_c9_w := @awpE _ _ C.catnaplaw4_ConfUnused_c9.eq_1
def C.catnaplaw4_ConfUnused_c10 : ICode := .keep [0, 1, 2, 3, 4, 12, 13, 14, 45] (.cond (X.s 45) C.catnaplaw4_ConfUnused_c9 .skip)
def C.catnaplaw4_ConfUnused_c10_w := @awpE _ _ C.catnaplaw4_ConfUnused_c10.eq_1
def C.catnaplaw4_ConfUnused_r11_b : List IOper := [
 X.m 44 14,
 X.o 45 (.bin .neq (X.s 44) (.cst (.int .u8 112)))]
def C.catnaplaw4_ConfUnused_r11 : List IOper := C.catnaplaw4_ConfUnused_r11_b
def C.catnaplaw4_ConfUnused_r11_w := @aopsE _ _ C.catnaplaw4_ConfUnused_r11.eq_1
def C.catnaplaw4_ConfUnused_c11 : ICode := .keep [0, 1, 2, 3, 4, 12, 13, 14] (.seq (.seq (.region C.catnaplaw4_ConfUnused_r11) C.catnaplaw4_ConfUnused_c10) C.catnaplaw4_ConfUnused_c7)
def C.catnaplaw4_ConfUnused_c11_w := @awpE _ _ C.catnaplaw4_ConfUnused_c11.eq_1
def C.catnaplaw4_ConfUnused_r10_b : List IOper := [
 X.o 38 (.fldAddr 0 (X.s 12)),
 X.o 39 (.load1 (X.s 38)),
 X.m 40 13,
 X.m 41 4,
 X.o 42 (.idxAddr 6 (X.s 39) (X.s 40)),
 X.o 43 (.fldAddr 2 (X.s 42)),
 X.n (.store1 (X.s 43) (X.s 41))]
def C.catnaplaw4_ConfUnused_r10 : List IOper := C.catnaplaw4_ConfUnused_r10_b
def C.catnaplaw4_ConfUnused_r10_w := @aopsE _ _ C.catnaplaw4_ConfUnused_r10.eq_1
def C.catnaplaw4_ConfUnused_c12 : ICode := .region C.catnaplaw4_ConfUnused_r10
def C.catnaplaw4_ConfUnused_c12_w := @awpE _ _ C.catnaplaw4_ConfUnused_c12.eq_1
def C.catnaplaw4_ConfUnused_c13 : ICode := .keep [0, 1, 2, 3, 4, 12, 13, 14, 37] (.cond (X.s 37) C.catnaplaw4_ConfUnused_c12 .skip)
def C.catnaplaw4_ConfUnused_c13_w := @awpE _ _ C.catnaplaw4_ConfUnused_c13.eq_1
def C.catnaplaw4_ConfUnused_r9_b : List IOper := [
 X.m 36 14,
 X.o 37 (.bin .neq (X.s 36) (.cst (.int .u8 111)))]
def C.catnaplaw4_ConfUnused_r9 : List IOper := C.catnaplaw4_ConfUnused_r9_b
def C.catnaplaw4_ConfUnused_r9_w := @aopsE _ _ C.catnaplaw4_ConfUnused_r9.eq_1
def C.catnaplaw4_ConfUnused_c14 : ICode := .keep [0, 1, 2, 3, 4, 12, 13, 14] (.seq (.seq (.region C.catnaplaw4_ConfUnused_r9) C.catnaplaw4_ConfUnused_c13) C.catnaplaw4_ConfUnused_c11)
def C.catnaplaw4_ConfUnused_c14_w := @awpE _ _ C.catnaplaw4_ConfUnused_c14.eq_1
def C.catnaplaw4_ConfUnused_r8_b : List IOper := [
 X.o 30 (.fldAddr 0 (X.s 12)),
 X.o 31 (.load1 (X.s 30)),
 X.m 32 13,
 X.o 33 (.idxAddr 6 (X.s 31) (X.s 32)),
 X.o 34 (.fldAddr 0 (X.s 33)),
 X.o 35 (.load1 (X.s 34)),
 X.m 14 35]
def C.catnaplaw4_ConfUnused_r8 : List IOper := C.catnaplaw4_ConfUnused_r8_b
def C.catnaplaw4_ConfUnused_r8_w := @aopsE _ _ C.catnaplaw4_ConfUnused_r8.eq_1
def C.catnaplaw4_ConfUnused_b15 : ICode := .seq (.region C.catnaplaw4_ConfUnused_r8) C.catnaplaw4_ConfUnused_c14
def C.catnaplaw4_ConfUnused_b15_w := @awpE _ _ C.catnaplaw4_ConfUnused_b15.eq_1
def C.catnaplaw4_ConfUnused_c16 : ICode := .keep [0, 1, 2, 3, 4, 12, 13] (.seq (.block 1 C.catnaplaw4_ConfUnused_b15) C.catnaplaw4_ConfUnused_c4)
def C.catnaplaw4_ConfUnused_c16_w := @awpE _ _ C.catnaplaw4_ConfUnused_c16.eq_1
def C.catnaplaw4_ConfUnused_c17 : ICode := .keep [0, 1, 2, 3, 4, 12, 13, 27] (.cond (X.s 27) .skip (.exit 0))
def C.catnaplaw4_ConfUnused_c17_w := @awpE _ _ C.catnaplaw4_ConfUnused_c17.eq_1
def C.catnaplaw4_ConfUnused_r6_b : List IOper := [
 X.m 23 13,
 X.o 24 (.fldAddr 0 (X.s 12)),
 X.o 25 (.load1 (X.s 24)),
 X.o 26 (.len (X.s 25)),
 X.o 27 (.bin .lss (X.s 23) (X.s 26))]
def C.catnaplaw4_ConfUnused_r6 : List IOper := C.catnaplaw4_ConfUnused_r6_b
def C.catnaplaw4_ConfUnused_r6_w := @aopsE _ _ C.catnaplaw4_ConfUnused_r6.eq_1
def C.catnaplaw4_ConfUnused_l18 : ICode := .keep [0, 1, 2, 3, 4, 12, 13] (.seq (.seq (.region C.catnaplaw4_ConfUnused_r6) C.catnaplaw4_ConfUnused_c17) C.catnaplaw4_ConfUnused_c16)
def C.catnaplaw4_ConfUnused_l18_w := @awpE _ _ C.catnaplaw4_ConfUnused_l18.eq_1
def C.catnaplaw4_ConfUnused_b19 : ICode := .loop C.catnaplaw4_ConfUnused_l18
def C.catnaplaw4_ConfUnused_b19_w := @awpE _ _ C.catnaplaw4_ConfUnused_b19.eq_1
def C.catnaplaw4_ConfUnused_c20 : ICode := .keep [0, 1, 2, 3, 4, 12, 13] (.block 0 C.catnaplaw4_ConfUnused_b19)
def C.catnaplaw4_ConfUnused_c20_w := @awpE _ _ C.catnaplaw4_ConfUnused_c20.eq_1
def C.catnaplaw4_ConfUnused_r5_b : List IOper := [
 X.o 13 (.move (X.i 0))]
def C.catnaplaw4_ConfUnused_r5 : List IOper := C.catnaplaw4_ConfUnused_r5_b
def C.catnaplaw4_ConfUnused_r5_w := @aopsE _ _ C.catnaplaw4_ConfUnused_r5.eq_1
def C.catnaplaw4_ConfUnused_c21 : ICode := .keep [0, 1, 2, 3, 4, 12] (.seq (.seq (.region C.catnaplaw4_ConfUnused_r5) C.catnaplaw4_ConfUnused_c20) C.catnaplaw4_ConfUnused_c3)
def C.catnaplaw4_ConfUnused_c21_w := @awpE _ _ C.catnaplaw4_ConfUnused_c21.eq_1
def C.catnaplaw4_ConfUnused_r4_b : List IOper := [
 X.m 20 0,
 X.o 21 (.call F.catnaplaw4_chip [X.s 20]),
 X.o 22 (.call F.conf_Copy [X.s 21]),
 X.o 12 (.alloc [.nils, .nils, .nils, .nils]),
 X.n (.storeN 4 (X.s 12) (X.s 22))]
def C.catnaplaw4_ConfUnused_r4 : List IOper := C.catnaplaw4_ConfUnused_r4_b
def C.catnaplaw4_ConfUnused_r4_w := @aopsE _ _ C.catnaplaw4_ConfUnused_r4.eq_1
def C.catnaplaw4_ConfUnused_c22 : ICode := .keep [0, 1, 2, 3, 4] (.seq (.region C.catnaplaw4_ConfUnused_r4) C.catnaplaw4_ConfUnused_c21)
def C.catnaplaw4_ConfUnused_c22_w := @awpE _ _ C.catnaplaw4_ConfUnused_c22.eq_1
def C.catnaplaw4_ConfUnused_r3_b : List IOper := [
 X.o 10 (.move (.cst (.bool false)))]
def C.catnaplaw4_ConfUnused_r3 : List IOper := C.catnaplaw4_ConfUnused_r3_b
def C.catnaplaw4_ConfUnused_r3_w := @aopsE _ _ C.catnaplaw4_ConfUnused_r3.eq_1
def C.catnaplaw4_ConfUnused_c23 : ICode := .seq (.region C.catnaplaw4_ConfUnused_r3) .ret
def C.catnaplaw4_ConfUnused_c23_w := @awpE _ _ C.catnaplaw4_ConfUnused_c23.eq_1
def C.catnaplaw4_ConfUnused_c24 : ICode := .keep [0, 1, 2, 3, 4, 19] (.cond (X.s 19) C.catnaplaw4_ConfUnused_c23 .skip)
def C.catnaplaw4_ConfUnused_c24_w := @awpE _ _ C.catnaplaw4_ConfUnused_c24.eq_1
def C.catnaplaw4_ConfUnused_r2_b : List IOper := [
 X.m 18 11,
 X.o 19 (.un .not (X.s 18))]
def C.catnaplaw4_ConfUnused_r2 : List IOper := C.catnaplaw4_ConfUnused_r2_b
def C.catnaplaw4_ConfUnused_r2_w := @aopsE _ _ C.catnaplaw4_ConfUnused_r2.eq_1
def C.catnaplaw4_ConfUnused_c25 : ICode := .keep [0, 1, 2, 3, 4, 11] (.seq (.seq (.region C.catnaplaw4_ConfUnused_r2) C.catnaplaw4_ConfUnused_c24) C.catnaplaw4_ConfUnused_c22)
def C.catnaplaw4_ConfUnused_c25_w := @awpE _ _ C.catnaplaw4_ConfUnused_c25.eq_1
def C.catnaplaw4_ConfUnused_r1_b : List IOper := [
 X.o 17 (.call F.catnaplaw4_shown []),
 X.m 11 17]
def C.catnaplaw4_ConfUnused_r1 : List IOper := C.catnaplaw4_ConfUnused_r1_b
def C.catnaplaw4_ConfUnused_r1_w := @aopsE _ _ C.catnaplaw4_ConfUnused_r1.eq_1
def C.catnaplaw4_ConfUnused_c26 : ICode := .keep [0, 1, 2, 3, 4] (.seq (.region C.catnaplaw4_ConfUnused_r1) C.catnaplaw4_ConfUnused_c25)
def C.catnaplaw4_ConfUnused_c26_w := @awpE _ _ C.catnaplaw4_ConfUnused_c26.eq_1
def C.catnaplaw4_ConfUnused_r0_b : List IOper := [
 X.o 10 (.move (.cst (.bool false)))]
def C.catnaplaw4_ConfUnused_r0 : List IOper := C.catnaplaw4_ConfUnused_r0_b
def C.catnaplaw4_ConfUnused_r0_w := @aopsE _ _ C.catnaplaw4_ConfUnused_r0.eq_1
def C.catnaplaw4_ConfUnused : IFunc := ⟨5, [.slot 10], .seq (.region C.catnaplaw4_ConfUnused_r0) C.catnaplaw4_ConfUnused_c26⟩
def C.catnaplaw4_ConfUnused_W := And.intro (And.intro (And.intro (And.intro (And.intro @C.catnaplaw4_ConfUnused_r18_w @C.catnaplaw4_ConfUnused_c1_w) (And.intro @C.catnaplaw4_ConfUnused_r17_w (And.intro @C.catnaplaw4_ConfUnused_c2_w @C.catnaplaw4_ConfUnused_r16_w))) (And.intro (And.intro @C.catnaplaw4_ConfUnused_c3_w (And.intro @C.catnaplaw4_ConfUnused_r7_w @C.catnaplaw4_ConfUnused_c4_w)) (And.intro @C.catnaplaw4_ConfUnused_r15_w (And.intro @C.catnaplaw4_ConfUnused_c5_w @C.catnaplaw4_ConfUnused_c6_w)))) (And.intro (And.intro (And.intro @C.catnaplaw4_ConfUnused_r14_w @C.catnaplaw4_ConfUnused_c7_w) (And.intro @C.catnaplaw4_ConfUnused_r13_w (And.intro @C.catnaplaw4_ConfUnused_c8_w @C.catnaplaw4_ConfUnused_r12_w))) (And.intro (And.intro @C.catnaplaw4_ConfUnused_c9_w (And.intro @C.catnaplaw4_ConfUnused_c10_w @C.catnaplaw4_ConfUnused_r11_w)) (And.intro @C.catnaplaw4_ConfUnused_c11_w (And.intro @C.catnaplaw4_ConfUnused_r10_w @C.catnaplaw4_ConfUnused_c12_w))))) (And.intro (And.intro (And.intro (And.intro @C.catnaplaw4_ConfUnused_c13_w @C.catnaplaw4_ConfUnused_r9_w) (And.intro @C.catnaplaw4_ConfUnused_c14_w (And.intro @C.catnaplaw4_ConfUnused_r8_w @C.catnaplaw4_ConfUnused_b15_w))) (And.intro (And.intro @C.catnaplaw4_ConfUnused_c16_w (And.intro @C.catnaplaw4_ConfUnused_c17_w @C.catnaplaw4_ConfUnused_r6_w)) (And.intro @C.catnaplaw4_ConfUnused_b19_w (And.intro @C.catnaplaw4_ConfUnused_c20_w @C.catnaplaw4_ConfUnused_r5_w)))) (And.intro (And.intro (And.intro @C.catnaplaw4_ConfUnused_c21_w @C.catnaplaw4_ConfUnused_r4_w) (And.intro @C.catnaplaw4_ConfUnused_c22_w (And.intro @C.catnaplaw4_ConfUnused_r3_w @C.catnaplaw4_ConfUnused_c23_w))) (And.intro (And.intro @C.catnaplaw4_ConfUnused_c24_w (And.intro @C.catnaplaw4_ConfUnused_r2_w @C.catnaplaw4_ConfUnused_c25_w)) (And.intro @C.catnaplaw4_ConfUnused_r1_w (And.intro @C.catnaplaw4_ConfUnused_c26_w @C.catnaplaw4_ConfUnused_r0_w)))))
def C.catnaplaw4_ConfUnused_B := And.intro (And.intro (And.intro (And.intro @C.catnaplaw4_ConfUnused_r18_b.eq_1 @C.catnaplaw4_ConfUnused_r17_b.eq_1) (And.intro @C.catnaplaw4_ConfUnused_r16_b.eq_1 @C.catnaplaw4_ConfUnused_r7_b.eq_1)) (And.intro (And.intro @C.catnaplaw4_ConfUnused_r15_b.eq_1 @C.catnaplaw4_ConfUnused_r14_b.eq_1) (And.intro @C.catnaplaw4_ConfUnused_r13_b.eq_1 (And.intro @C.catnaplaw4_ConfUnused_r12_b.eq_1 @C.catnaplaw4_ConfUnused_r11_b.eq_1)))) (And.intro (And.intro (And.intro @C.catnaplaw4_ConfUnused_r10_b.eq_1 @C.catnaplaw4_ConfUnused_r9_b.eq_1) (And.intro @C.catnaplaw4_ConfUnused_r8_b.eq_1 (And.intro @C.catnaplaw4_ConfUnused_r6_b.eq_1 @C.catnaplaw4_ConfUnused_r5_b.eq_1))) (And.intro (And.intro @C.catnaplaw4_ConfUnused_r4_b.eq_1 @C.catnaplaw4_ConfUnused_r3_b.eq_1) (And.intro @C.catnaplaw4_ConfUnused_r2_b.eq_1 (And.intro @C.catnaplaw4_ConfUnused_r1_b.eq_1 @C.catnaplaw4_ConfUnused_r0_b.eq_1))))

def C.catnaplaw4_shown_r1_b : List IOper := [
 X.o 1 (.buildSlice 1 1 [.int .i64 0] [(0, 1, X.i 0)]),
 X.o 2 (.build [.int .u8 0, .nils, .int .u64 0, .int .i64 0, .int .i64 0, .int .i64 0] [(0, 1, .cst (.int .u8 103)), (1, 1, X.s 1)]),
 X.o 3 (.buildSlice 6 1 [.int .u8 0, .nils, .int .u64 0, .int .i64 0, .int .i64 0, .int .i64 0] [(0, 6, X.s 2)]),
 X.o 4 (.build [.nils, .nils, .nils, .nils] [(0, 1, X.s 3)]),
 X.o 5 (.call F.conf_Check [X.s 4]),
 X.o 6 (.bin .eql (X.s 5) (X.i 5)),
 X.m 7 6,
 X.t 7 8 (.build [.nils, .nils, .nils, .nils] []),
 X.t 7 9 (.build [.nils, .nils, .nils, .nils] []),
 X.t 7 10 (.call F.conf_Same [X.s 8, X.s 9]),
 X.o 11 (.pick (X.s 7) (X.s 10) (.cst (.bool false))),
 X.m 0 11]
def C.catnaplaw4_shown_r1 : List IOper := C.catnaplaw4_shown_r1_b
def C.catnaplaw4_shown_r1_w := @aopsE _ _ C.catnaplaw4_shown_r1.eq_1
def C.catnaplaw4_shown_c1 : ICode := .keep [] (.seq (.region C.catnaplaw4_shown_r1) .ret)
def C.catnaplaw4_shown_c1_w := @awpE _ _ C.catnaplaw4_shown_c1.eq_1
def C.catnaplaw4_shown_r0_b : List IOper := [
 X.o 0 (.move (.cst (.bool false)))]
def C.catnaplaw4_shown_r0 : List IOper := C.catnaplaw4_shown_r0_b
def C.catnaplaw4_shown_r0_w := @aopsE _ _ C.catnaplaw4_shown_r0.eq_1
def C.catnaplaw4_shown : IFunc := ⟨0, [.slot 0], .seq (.region C.catnaplaw4_shown_r0) C.catnaplaw4_shown_c1⟩
def C.catnaplaw4_shown_W := And.intro @C.catnaplaw4_shown_r1_w (And.intro @C.catnaplaw4_shown_c1_w @C.catnaplaw4_shown_r0_w)
def C.catnaplaw4_shown_B := And.intro @C.catnaplaw4_shown_r1_b.eq_1 @C.catnaplaw4_shown_r0_b.eq_1

def C.catnaplaw4_chip_r50_b : List IOper := [
 X.o 351 (.loadN 4 (X.s 6)),
 X.n (.storeN 4 (X.s 2) (X.s 351))]
def C.catnaplaw4_chip_r50 : List IOper := C.catnaplaw4_chip_r50_b
def C.catnaplaw4_chip_r50_w := @aopsE _ _ C.catnaplaw4_chip_r50.eq_1
def C.catnaplaw4_chip_c1 : ICode := .keep [2, 6] (.seq (.region C.catnaplaw4_chip_r50) .ret)
def C.catnaplaw4_chip_c1_w := @awpE _ _ C.catnaplaw4_chip_c1.eq_1
def C.catnaplaw4_chip_r38_b : List IOper := [
 X.m 224 14,
 X.o 225 (.bin .add (X.s 224) (X.i 1)),
 X.m 14 225]
def C.catnaplaw4_chip_r38 : List IOper := C.catnaplaw4_chip_r38_b
def C.catnaplaw4_chip_r38_w := @aopsE _ _ C.catnaplaw4_chip_r38.eq_1
def C.catnaplaw4_chip_c2 : ICode := .keep [2, 4, 6, 14] (.region C.catnaplaw4_chip_r38)
def C.catnaplaw4_chip_c2_w := @awpE _ _ C.catnaplaw4_chip_c2.eq_1
def C.catnaplaw4_chip_r49_b : List IOper := [
 X.o 345 (.fldAddr 3 (X.s 6)),
 X.o 346 (.load1 (X.s 345)),
 X.o 347 (.loadN 6 (X.s 16)),
 X.o 348 (.buildSlice 6 1 [.int .i64 0, .int .i64 0, .int .i64 0, .int .u32 0, .nils, .nils] [(0, 6, X.s 347)]),
 X.o 349 (.append 6 80 (X.s 346) (X.s 348)),
 X.o 350 (.fldAddr 3 (X.s 6)),
 X.n (.store1 (X.s 350) (X.s 349))]
def C.catnaplaw4_chip_r49 : List IOper := C.catnaplaw4_chip_r49_b
def C.catnaplaw4_chip_r49_w := @aopsE _ _ C.catnaplaw4_chip_r49.eq_1
def C.catnaplaw4_chip_c3 : ICode := .keep [2, 4, 6, 14, 16] (.region C.catnaplaw4_chip_r49)
def C.catnaplaw4_chip_c3_w := @awpE _ _ C.catnaplaw4_chip_c3.eq_1
def C.catnaplaw4_chip_r48_b : List IOper := [
 X.o 332 (.fldAddr 5 (X.s 16)),
 X.o 333 (.load1 (X.s 332)),
 X.m 334 4,
 X.m 335 15,
 X.o 336 (.bin .add (X.s 335) (X.i 11)),
 X.o 337 (.idxAddr 1 (X.s 334) (X.s 336)),
 X.o 338 (.load1 (X.s 337)),
 X.o 339 (.bin .quo (X.s 338) (X.i 3)),
 X.m 340 14,
 X.o 341 (.bin .rem (X.s 339) (X.s 340)),
 X.o 342 (.buildSlice 1 1 [.int .i64 0] [(0, 1, X.s 341)]),
 X.o 343 (.append 1 8 (X.s 333) (X.s 342)),
 X.o 344 (.fldAddr 5 (X.s 16)),
 X.n (.store1 (X.s 344) (X.s 343))]
def C.catnaplaw4_chip_r48 : List IOper := C.catnaplaw4_chip_r48_b
def C.catnaplaw4_chip_r48_w := @aopsE _ _ C.catnaplaw4_chip_r48.eq_1
def C.catnaplaw4_chip_c4 : ICode := .keep [2, 4, 6, 14, 15, 16, 331] (.cond (X.s 331) (.region C.catnaplaw4_chip_r48) .skip)
def C.catnaplaw4_chip_c4_w := @awpE _ _ C.catnaplaw4_chip_c4.eq_1
def C.catnaplaw4_chip_r47_b : List IOper := [
 X.m 321 14,
 X.o 322 (.bin .gtr (X.s 321) (X.i 1)),
 X.m 323 322,
 X.t 323 324 (.move (X.s 4)),
 X.t 323 325 (.move (X.s 15)),
 X.t 323 326 (.bin .add (X.s 325) (X.i 11)),
 X.t 323 327 (.idxAddr 1 (X.s 324) (X.s 326)),
 X.t 323 328 (.load1 (X.s 327)),
 X.t 323 329 (.bin .rem (X.s 328) (X.i 3)),
 X.t 323 330 (.bin .eql (X.s 329) (X.i 1)),
 X.o 331 (.pick (X.s 323) (X.s 330) (.cst (.bool false)))]
def C.catnaplaw4_chip_r47 : List IOper := C.catnaplaw4_chip_r47_b
def C.catnaplaw4_chip_r47_w := @aopsE _ _ C.catnaplaw4_chip_r47.eq_1
def C.catnaplaw4_chip_c5 : ICode := .keep [2, 4, 6, 14, 15, 16] (.seq (.seq (.region C.catnaplaw4_chip_r47) C.catnaplaw4_chip_c4) C.catnaplaw4_chip_c3)
def C.catnaplaw4_chip_c5_w := @awpE _ _ C.catnaplaw4_chip_c5.eq_1
def C.catnaplaw4_chip_r46_b : List IOper := [
 X.o 309 (.fldAddr 5 (X.s 16)),
 X.o 310 (.load1 (X.s 309)),
 X.m 311 4,
 X.m 312 15,
 X.o 313 (.bin .add (X.s 312) (X.i 10)),
 X.o 314 (.idxAddr 1 (X.s 311) (X.s 313)),
 X.o 315 (.load1 (X.s 314)),
 X.m 316 14,
 X.o 317 (.bin .rem (X.s 315) (X.s 316)),
 X.o 318 (.buildSlice 1 1 [.int .i64 0] [(0, 1, X.s 317)]),
 X.o 319 (.append 1 8 (X.s 310) (X.s 318)),
 X.o 320 (.fldAddr 5 (X.s 16)),
 X.n (.store1 (X.s 320) (X.s 319))]
def C.catnaplaw4_chip_r46 : List IOper := C.catnaplaw4_chip_r46_b
def C.catnaplaw4_chip_r46_w := @aopsE _ _ C.catnaplaw4_chip_r46.eq_1
def C.catnaplaw4_chip_c6 : ICode := .keep [2, 4, 6, 14, 15, 16, 308] (.cond (X.s 308) (.region C.catnaplaw4_chip_r46) .skip)
def C.catnaplaw4_chip_c6_w := @awpE _ _ C.catnaplaw4_chip_c6.eq_1
def C.catnaplaw4_chip_r45_b : List IOper := [
 X.m 298 14,
 X.o 299 (.bin .gtr (X.s 298) (X.i 0)),
 X.m 300 299,
 X.t 300 301 (.move (X.s 4)),
 X.t 300 302 (.move (X.s 15)),
 X.t 300 303 (.bin .add (X.s 302) (X.i 9)),
 X.t 300 304 (.idxAddr 1 (X.s 301) (X.s 303)),
 X.t 300 305 (.load1 (X.s 304)),
 X.t 300 306 (.bin .rem (X.s 305) (X.i 2)),
 X.t 300 307 (.bin .eql (X.s 306) (X.i 1)),
 X.o 308 (.pick (X.s 300) (X.s 307) (.cst (.bool false)))]
def C.catnaplaw4_chip_r45 : List IOper := C.catnaplaw4_chip_r45_b
def C.catnaplaw4_chip_r45_w := @aopsE _ _ C.catnaplaw4_chip_r45.eq_1
def C.catnaplaw4_chip_c7 : ICode := .keep [2, 4, 6, 14, 15, 16] (.seq (.seq (.region C.catnaplaw4_chip_r45) C.catnaplaw4_chip_c6) C.catnaplaw4_chip_c5)
def C.catnaplaw4_chip_c7_w := @awpE _ _ C.catnaplaw4_chip_c7.eq_1
def C.catnaplaw4_chip_r43_b : List IOper := [
 X.m 271 17,
 X.o 272 (.bin .add (X.s 271) (X.i 1)),
 X.m 17 272]
def C.catnaplaw4_chip_r43 : List IOper := C.catnaplaw4_chip_r43_b
def C.catnaplaw4_chip_r43_w := @aopsE _ _ C.catnaplaw4_chip_r43.eq_1
def C.catnaplaw4_chip_c8 : ICode := .keep [2, 4, 6, 14, 15, 16, 17] (.region C.catnaplaw4_chip_r43)
def C.catnaplaw4_chip_c8_w := @awpE _ _ C.catnaplaw4_chip_c8.eq_1
def C.catnaplaw4_chip_r44_b : List IOper := [
 X.o 273 (.fldAddr 4 (X.s 16)),
 X.o 274 (.load1 (X.s 273)),
 X.m 275 4,
 X.m 276 15,
 X.o 277 (.bin .add (X.s 276) (X.i 5)),
 X.m 278 17,
 X.o 279 (.bin .add (X.s 277) (X.s 278)),
 X.o 280 (.idxAddr 1 (X.s 275) (X.s 279)),
 X.o 281 (.load1 (X.s 280)),
 X.o 282 (.bin .rem (X.s 281) (X.i 7)),
 X.o 283 (.conv .u32 (X.s 282)),
 X.m 284 4,
 X.m 285 15,
 X.o 286 (.bin .add (X.s 285) (X.i 5)),
 X.m 287 17,
 X.o 288 (.bin .add (X.s 286) (X.s 287)),
 X.o 289 (.idxAddr 1 (X.s 284) (X.s 288)),
 X.o 290 (.load1 (X.s 289)),
 X.o 291 (.bin .quo (X.s 290) (X.i 7)),
 X.o 292 (.bin .rem (X.s 291) (X.i 2)),
 X.o 293 (.bin .eql (X.s 292) (X.i 0)),
 X.o 294 (.build [.int .u32 0, .bool false] [(0, 1, X.s 283), (1, 1, X.s 293)]),
 X.o 295 (.buildSlice 2 1 [.int .u32 0, .bool false] [(0, 2, X.s 294)]),
 X.o 296 (.append 2 8 (X.s 274) (X.s 295)),
 X.o 297 (.fldAddr 4 (X.s 16)),
 X.n (.store1 (X.s 297) (X.s 296))]
def C.catnaplaw4_chip_r44 : List IOper := C.catnaplaw4_chip_r44_b
def C.catnaplaw4_chip_r44_w := @aopsE _ _ C.catnaplaw4_chip_r44.eq_1
def C.catnaplaw4_chip_b9 : ICode := .region C.catnaplaw4_chip_r44
def C.catnaplaw4_chip_b9_w := @awpE _ _ C.catnaplaw4_chip_b9.eq_1
def C.catnaplaw4_chip_c10 : ICode := .keep [2, 4, 6, 14, 15, 16, 17] (.seq (.block 12 C.catnaplaw4_chip_b9) C.catnaplaw4_chip_c8)
def C.catnaplaw4_chip_c10_w := @awpE _ _ C.catnaplaw4_chip_c10.eq_1
def C.catnaplaw4_chip_c11 : ICode := .keep [2, 4, 6, 14, 15, 16, 17, 270] (.cond (X.s 270) .skip (.exit 11))
def C.catnaplaw4_chip_c11_w := @awpE _ _ C.catnaplaw4_chip_c11.eq_1
def C.catnaplaw4_chip_r42_b : List IOper := [
 X.m 263 17,
 X.m 264 4,
 X.m 265 15,
 X.o 266 (.bin .add (X.s 265) (X.i 4)),
 X.o 267 (.idxAddr 1 (X.s 264) (X.s 266)),
 X.o 268 (.load1 (X.s 267)),
 X.o 269 (.bin .rem (X.s 268) (X.i 5)),
 X.o 270 (.bin .lss (X.s 263) (X.s 269))]
def C.catnaplaw4_chip_r42 : List IOper := C.catnaplaw4_chip_r42_b
def C.catnaplaw4_chip_r42_w := @aopsE _ _ C.catnaplaw4_chip_r42.eq_1
def C.catnaplaw4_chip_l12 : ICode := .keep [2, 4, 6, 14, 15, 16, 17] (.seq (.seq (.region C.catnaplaw4_chip_r42) C.catnaplaw4_chip_c11) C.catnaplaw4_chip_c10)
def C.catnaplaw4_chip_l12_w := @awpE _ _ C.catnaplaw4_chip_l12.eq_1
def C.catnaplaw4_chip_b13 : ICode := .loop C.catnaplaw4_chip_l12
def C.catnaplaw4_chip_b13_w := @awpE _ _ C.catnaplaw4_chip_b13.eq_1
def C.catnaplaw4_chip_c14 : ICode := .keep [2, 4, 6, 14, 15, 16, 17] (.block 11 C.catnaplaw4_chip_b13)
def C.catnaplaw4_chip_c14_w := @awpE _ _ C.catnaplaw4_chip_c14.eq_1
def C.catnaplaw4_chip_r41_b : List IOper := [
 X.o 17 (.move (X.i 0))]
def C.catnaplaw4_chip_r41 : List IOper := C.catnaplaw4_chip_r41_b
def C.catnaplaw4_chip_r41_w := @aopsE _ _ C.catnaplaw4_chip_r41.eq_1
def C.catnaplaw4_chip_c15 : ICode := .keep [2, 4, 6, 14, 15, 16] (.seq (.seq (.region C.catnaplaw4_chip_r41) C.catnaplaw4_chip_c14) C.catnaplaw4_chip_c7)
def C.catnaplaw4_chip_c15_w := @awpE _ _ C.catnaplaw4_chip_c15.eq_1
def C.catnaplaw4_chip_r40_b : List IOper := [
 X.m 229 4,
 X.m 230 15,
 X.o 231 (.idxAddr 1 (X.s 229) (X.s 230)),
 X.o 232 (.load1 (X.s 231)),
 X.o 233 (.fldAddr 0 (X.s 6)),
 X.o 234 (.load1 (X.s 233)),
 X.o 235 (.len (X.s 234)),
 X.o 236 (.bin .rem (X.s 232) (X.s 235)),
 X.m 237 4,
 X.m 238 15,
 X.o 239 (.bin .add (X.s 238) (X.i 1)),
 X.o 240 (.idxAddr 1 (X.s 237) (X.s 239)),
 X.o 241 (.load1 (X.s 240)),
 X.o 242 (.fldAddr 1 (X.s 6)),
 X.o 243 (.load1 (X.s 242)),
 X.o 244 (.len (X.s 243)),
 X.o 245 (.bin .rem (X.s 241) (X.s 244)),
 X.m 246 4,
 X.m 247 15,
 X.o 248 (.bin .add (X.s 247) (X.i 2)),
 X.o 249 (.idxAddr 1 (X.s 246) (X.s 248)),
 X.o 250 (.load1 (X.s 249)),
 X.o 251 (.fldAddr 2 (X.s 6)),
 X.o 252 (.load1 (X.s 251)),
 X.o 253 (.len (X.s 252)),
 X.o 254 (.bin .rem (X.s 250) (X.s 253)),
 X.m 255 4,
 X.m 256 15,
 X.o 257 (.bin .add (X.s 256) (X.i 3)),
 X.o 258 (.idxAddr 1 (X.s 255) (X.s 257)),
 X.o 259 (.load1 (X.s 258)),
 X.o 260 (.bin .rem (X.s 259) (X.i 3)),
 X.o 261 (.conv .u32 (X.s 260)),
 X.o 262 (.build [.int .i64 0, .int .i64 0, .int .i64 0, .int .u32 0, .nils, .nils] [(0, 1, X.s 236), (1, 1, X.s 245), (2, 1, X.s 254), (3, 1, X.s 261)]),
 X.o 16 (.alloc [.int .i64 0, .int .i64 0, .int .i64 0, .int .u32 0, .nils, .nils]),
 X.n (.storeN 6 (X.s 16) (X.s 262))]
def C.catnaplaw4_chip_r40 : List IOper := C.catnaplaw4_chip_r40_b
def C.catnaplaw4_chip_r40_w := @aopsE _ _ C.catnaplaw4_chip_r40.eq_1
def C.catnaplaw4_chip_c16 : ICode := .keep [2, 4, 6, 14, 15] (.seq (.region C.catnaplaw4_chip_r40) C.catnaplaw4_chip_c15)
def C.catnaplaw4_chip_c16_w := @awpE _ _ C.catnaplaw4_chip_c16.eq_1
def C.catnaplaw4_chip_r39_b : List IOper := [
 X.m 226 14,
 X.o 227 (.bin .mul (X.i 12) (X.s 226)),
 X.o 228 (.bin .add (X.i 60) (X.s 227)),
 X.m 15 228]
def C.catnaplaw4_chip_r39 : List IOper := C.catnaplaw4_chip_r39_b
def C.catnaplaw4_chip_r39_w := @aopsE _ _ C.catnaplaw4_chip_r39.eq_1
def C.catnaplaw4_chip_b17 : ICode := .seq (.region C.catnaplaw4_chip_r39) C.catnaplaw4_chip_c16
def C.catnaplaw4_chip_b17_w := @awpE _ _ C.catnaplaw4_chip_b17.eq_1
def C.catnaplaw4_chip_c18 : ICode := .keep [2, 4, 6, 14] (.seq (.block 10 C.catnaplaw4_chip_b17) C.catnaplaw4_chip_c2)
def C.catnaplaw4_chip_c18_w := @awpE _ _ C.catnaplaw4_chip_c18.eq_1
def C.catnaplaw4_chip_c19 : ICode := .keep [2, 4, 6, 14, 223] (.cond (X.s 223) .skip (.exit 9))
def C.catnaplaw4_chip_c19_w := @awpE _ _ C.catnaplaw4_chip_c19.eq_1
def C.catnaplaw4_chip_r37_b : List IOper := [
 X.m 217 14,
 X.m 218 4,
 X.o 219 (.idxAddr 1 (X.s 218) (X.i 4)),
 X.o 220 (.load1 (X.s 219)),
 X.o 221 (.bin .rem (X.s 220) (X.i 4)),
 X.o 222 (.bin .add (X.i 1) (X.s 221)),
 X.o 223 (.bin .lss (X.s 217) (X.s 222))]
def C.catnaplaw4_chip_r37 : List IOper := C.catnaplaw4_chip_r37_b
def C.catnaplaw4_chip_r37_w := @aopsE _ _ C.catnaplaw4_chip_r37.eq_1
def C.catnaplaw4_chip_l20 : ICode := .keep [2, 4, 6, 14] (.seq (.seq (.region C.catnaplaw4_chip_r37) C.catnaplaw4_chip_c19) C.catnaplaw4_chip_c18)
def C.catnaplaw4_chip_l20_w := @awpE _ _ C.catnaplaw4_chip_l20.eq_1
def C.catnaplaw4_chip_b21 : ICode := .loop C.catnaplaw4_chip_l20
def C.catnaplaw4_chip_b21_w := @awpE _ _ C.catnaplaw4_chip_b21.eq_1
def C.catnaplaw4_chip_c22 : ICode := .keep [2, 4, 6, 14] (.block 9 C.catnaplaw4_chip_b21)
def C.catnaplaw4_chip_c22_w := @awpE _ _ C.catnaplaw4_chip_c22.eq_1
def C.catnaplaw4_chip_r36_b : List IOper := [
 X.o 14 (.move (X.i 0))]
def C.catnaplaw4_chip_r36 : List IOper := C.catnaplaw4_chip_r36_b
def C.catnaplaw4_chip_r36_w := @aopsE _ _ C.catnaplaw4_chip_r36.eq_1
def C.catnaplaw4_chip_c23 : ICode := .keep [2, 4, 6] (.seq (.seq (.region C.catnaplaw4_chip_r36) C.catnaplaw4_chip_c22) C.catnaplaw4_chip_c1)
def C.catnaplaw4_chip_c23_w := @awpE _ _ C.catnaplaw4_chip_c23.eq_1
def C.catnaplaw4_chip_r34_b : List IOper := [
 X.m 203 13,
 X.o 204 (.bin .add (X.s 203) (X.i 1)),
 X.m 13 204]
def C.catnaplaw4_chip_r34 : List IOper := C.catnaplaw4_chip_r34_b
def C.catnaplaw4_chip_r34_w := @aopsE _ _ C.catnaplaw4_chip_r34.eq_1
def C.catnaplaw4_chip_c24 : ICode := .keep [2, 4, 6, 13] (.region C.catnaplaw4_chip_r34)
def C.catnaplaw4_chip_c24_w := @awpE _ _ C.catnaplaw4_chip_c24.eq_1
def C.catnaplaw4_chip_r35_b : List IOper := [
 X.o 205 (.fldAddr 2 (X.s 6)),
 X.o 206 (.load1 (X.s 205)),
 X.m 207 4,
 X.m 208 13,
 X.o 209 (.bin .add (X.i 50) (X.s 208)),
 X.o 210 (.idxAddr 1 (X.s 207) (X.s 209)),
 X.o 211 (.load1 (X.s 210)),
 X.o 212 (.bin .rem (X.s 211) (X.i 4)),
 X.o 213 (.build [.int .i64 0] [(0, 1, X.s 212)]),
 X.o 214 (.buildSlice 1 1 [.int .i64 0] [(0, 1, X.s 213)]),
 X.o 215 (.append 1 8 (X.s 206) (X.s 214)),
 X.o 216 (.fldAddr 2 (X.s 6)),
 X.n (.store1 (X.s 216) (X.s 215))]
def C.catnaplaw4_chip_r35 : List IOper := C.catnaplaw4_chip_r35_b
def C.catnaplaw4_chip_r35_w := @aopsE _ _ C.catnaplaw4_chip_r35.eq_1
def C.catnaplaw4_chip_b25 : ICode := .region C.catnaplaw4_chip_r35
def C.catnaplaw4_chip_b25_w := @awpE _ _ C.catnaplaw4_chip_b25.eq_1
def C.catnaplaw4_chip_c26 : ICode := .keep [2, 4, 6, 13] (.seq (.block 8 C.catnaplaw4_chip_b25) C.catnaplaw4_chip_c24)
def C.catnaplaw4_chip_c26_w := @awpE _ _ C.catnaplaw4_chip_c26.eq_1
def C.catnaplaw4_chip_c27 : ICode := .keep [2, 4, 6, 13, 202] (.cond (X.s 202) .skip (.exit 7))
def C.catnaplaw4_chip_c27_w := @awpE _ _ C.catnaplaw4_chip_c27.eq_1
def C.catnaplaw4_chip_r33_b : List IOper := [
 X.m 196 13,
 X.m 197 4,
 X.o 198 (.idxAddr 1 (X.s 197) (X.i 3)),
 X.o 199 (.load1 (X.s 198)),
 X.o 200 (.bin .rem (X.s 199) (X.i 3)),
 X.o 201 (.bin .add (X.i 1) (X.s 200)),
 X.o 202 (.bin .lss (X.s 196) (X.s 201))]
def C.catnaplaw4_chip_r33 : List IOper := C.catnaplaw4_chip_r33_b
def C.catnaplaw4_chip_r33_w := @aopsE _ _ C.catnaplaw4_chip_r33.eq_1
def C.catnaplaw4_chip_l28 : ICode := .keep [2, 4, 6, 13] (.seq (.seq (.region C.catnaplaw4_chip_r33) C.catnaplaw4_chip_c27) C.catnaplaw4_chip_c26)
def C.catnaplaw4_chip_l28_w := @awpE _ _ C.catnaplaw4_chip_l28.eq_1
def C.catnaplaw4_chip_b29 : ICode := .loop C.catnaplaw4_chip_l28
def C.catnaplaw4_chip_b29_w := @awpE _ _ C.catnaplaw4_chip_b29.eq_1
def C.catnaplaw4_chip_c30 : ICode := .keep [2, 4, 6, 13] (.block 7 C.catnaplaw4_chip_b29)
def C.catnaplaw4_chip_c30_w := @awpE _ _ C.catnaplaw4_chip_c30.eq_1
def C.catnaplaw4_chip_r32_b : List IOper := [
 X.o 13 (.move (X.i 0))]
def C.catnaplaw4_chip_r32 : List IOper := C.catnaplaw4_chip_r32_b
def C.catnaplaw4_chip_r32_w := @aopsE _ _ C.catnaplaw4_chip_r32.eq_1
def C.catnaplaw4_chip_c31 : ICode := .keep [2, 4, 6] (.seq (.seq (.region C.catnaplaw4_chip_r32) C.catnaplaw4_chip_c30) C.catnaplaw4_chip_c23)
def C.catnaplaw4_chip_c31_w := @awpE _ _ C.catnaplaw4_chip_c31.eq_1
def C.catnaplaw4_chip_r27_b : List IOper := [
 X.m 153 11,
 X.o 154 (.bin .add (X.s 153) (X.i 1)),
 X.m 11 154]
def C.catnaplaw4_chip_r27 : List IOper := C.catnaplaw4_chip_r27_b
def C.catnaplaw4_chip_r27_w := @aopsE _ _ C.catnaplaw4_chip_r27.eq_1
def C.catnaplaw4_chip_c32 : ICode := .keep [2, 4, 6, 11] (.region C.catnaplaw4_chip_r27)
def C.catnaplaw4_chip_c32_w := @awpE _ _ C.catnaplaw4_chip_c32.eq_1
def C.catnaplaw4_chip_r31_b : List IOper := [
 X.o 190 (.fldAddr 1 (X.s 6)),
 X.o 191 (.load1 (X.s 190)),
 X.o 192 (.loadN 3 (X.s 12)),
 X.o 193 (.buildSlice 3 1 [.int .i64 0, .int .i64 0, .bool false] [(0, 3, X.s 192)]),
 X.o 194 (.append 3 24 (X.s 191) (X.s 193)),
 X.o 195 (.fldAddr 1 (X.s 6)),
 X.n (.store1 (X.s 195) (X.s 194))]
def C.catnaplaw4_chip_r31 : List IOper := C.catnaplaw4_chip_r31_b
def C.catnaplaw4_chip_r31_w := @aopsE _ _ C.catnaplaw4_chip_r31.eq_1
def C.catnaplaw4_chip_c33 : ICode := .keep [2, 4, 6, 11, 12] (.region C.catnaplaw4_chip_r31)
def C.catnaplaw4_chip_c33_w := @awpE _ _ C.catnaplaw4_chip_c33.eq_1
def C.catnaplaw4_chip_r30_b : List IOper := [
 X.m 181 4,
 X.m 182 11,
 X.o 183 (.bin .add (X.i 44) (X.s 182)),
 X.o 184 (.idxAddr 1 (X.s 181) (X.s 183)),
 X.o 185 (.load1 (X.s 184)),
 X.o 186 (.bin .quo (X.s 185) (X.i 3)),
 X.m 187 11,
 X.o 188 (.bin .rem (X.s 186) (X.s 187)),
 X.o 189 (.fldAddr 0 (X.s 12)),
 X.n (.store1 (X.s 189) (X.s 188))]
def C.catnaplaw4_chip_r30 : List IOper := C.catnaplaw4_chip_r30_b
def C.catnaplaw4_chip_r30_w := @aopsE _ _ C.catnaplaw4_chip_r30.eq_1
def C.catnaplaw4_chip_c34 : ICode := .keep [2, 4, 6, 11, 12, 180] (.cond (X.s 180) (.region C.catnaplaw4_chip_r30) .skip)
def C.catnaplaw4_chip_c34_w := @awpE _ _ C.catnaplaw4_chip_c34.eq_1
def C.catnaplaw4_chip_r29_b : List IOper := [
 X.m 170 11,
 X.o 171 (.bin .gtr (X.s 170) (X.i 0)),
 X.m 172 171,
 X.t 172 173 (.move (X.s 4)),
 X.t 172 174 (.move (X.s 11)),
 X.t 172 175 (.bin .add (X.i 44) (X.s 174)),
 X.t 172 176 (.idxAddr 1 (X.s 173) (X.s 175)),
 X.t 172 177 (.load1 (X.s 176)),
 X.t 172 178 (.bin .rem (X.s 177) (X.i 3)),
 X.t 172 179 (.bin .gtr (X.s 178) (X.i 0)),
 X.o 180 (.pick (X.s 172) (X.s 179) (.cst (.bool false)))]
def C.catnaplaw4_chip_r29 : List IOper := C.catnaplaw4_chip_r29_b
def C.catnaplaw4_chip_r29_w := @aopsE _ _ C.catnaplaw4_chip_r29.eq_1
def C.catnaplaw4_chip_c35 : ICode := .keep [2, 4, 6, 11, 12] (.seq (.seq (.region C.catnaplaw4_chip_r29) C.catnaplaw4_chip_c34) C.catnaplaw4_chip_c33)
def C.catnaplaw4_chip_c35_w := @awpE _ _ C.catnaplaw4_chip_c35.eq_1
def C.catnaplaw4_chip_r28_b : List IOper := [
 X.m 155 4,
 X.m 156 11,
 X.o 157 (.bin .add (X.i 40) (X.s 156)),
 X.o 158 (.idxAddr 1 (X.s 155) (X.s 157)),
 X.o 159 (.load1 (X.s 158)),
 X.o 160 (.bin .rem (X.s 159) (X.i 4)),
 X.m 161 4,
 X.m 162 11,
 X.o 163 (.bin .add (X.i 40) (X.s 162)),
 X.o 164 (.idxAddr 1 (X.s 161) (X.s 163)),
 X.o 165 (.load1 (X.s 164)),
 X.o 166 (.bin .quo (X.s 165) (X.i 4)),
 X.o 167 (.bin .rem (X.s 166) (X.i 2)),
 X.o 168 (.bin .eql (X.s 167) (X.i 1)),
 X.o 169 (.build [.int .i64 0, .int .i64 0, .bool false] [(0, 1, X.i (-1)), (1, 1, X.s 160), (2, 1, X.s 168)]),
 X.o 12 (.alloc [.int .i64 0, .int .i64 0, .bool false]),
 X.n (.storeN 3 (X.s 12) (X.s 169))]
def C.catnaplaw4_chip_r28 : List IOper := C.catnaplaw4_chip_r28_b
def C.catnaplaw4_chip_r28_w := @aopsE _ _ C.catnaplaw4_chip_r28.eq_1
def C.catnaplaw4_chip_b36 : ICode := .seq (.region C.catnaplaw4_chip_r28) C.catnaplaw4_chip_c35
def C.catnaplaw4_chip_b36_w := @awpE _ _ C.catnaplaw4_chip_b36.eq_1
def C.catnaplaw4_chip_c37 : ICode := .keep [2, 4, 6, 11] (.seq (.block 6 C.catnaplaw4_chip_b36) C.catnaplaw4_chip_c32)
def C.catnaplaw4_chip_c37_w := @awpE _ _ C.catnaplaw4_chip_c37.eq_1
def C.catnaplaw4_chip_c38 : ICode := .keep [2, 4, 6, 11, 152] (.cond (X.s 152) .skip (.exit 5))
def C.catnaplaw4_chip_c38_w := @awpE _ _ C.catnaplaw4_chip_c38.eq_1
def C.catnaplaw4_chip_r26_b : List IOper := [
 X.m 146 11,
 X.m 147 4,
 X.o 148 (.idxAddr 1 (X.s 147) (X.i 2)),
 X.o 149 (.load1 (X.s 148)),
 X.o 150 (.bin .rem (X.s 149) (X.i 4)),
 X.o 151 (.bin .add (X.i 1) (X.s 150)),
 X.o 152 (.bin .lss (X.s 146) (X.s 151))]
def C.catnaplaw4_chip_r26 : List IOper := C.catnaplaw4_chip_r26_b
def C.catnaplaw4_chip_r26_w := @aopsE _ _ C.catnaplaw4_chip_r26.eq_1
def C.catnaplaw4_chip_l39 : ICode := .keep [2, 4, 6, 11] (.seq (.seq (.region C.catnaplaw4_chip_r26) C.catnaplaw4_chip_c38) C.catnaplaw4_chip_c37)
def C.catnaplaw4_chip_l39_w := @awpE _ _ C.catnaplaw4_chip_l39.eq_1
def C.catnaplaw4_chip_b40 : ICode := .loop C.catnaplaw4_chip_l39
def C.catnaplaw4_chip_b40_w := @awpE _ _ C.catnaplaw4_chip_b40.eq_1
def C.catnaplaw4_chip_c41 : ICode := .keep [2, 4, 6, 11] (.block 5 C.catnaplaw4_chip_b40)
def C.catnaplaw4_chip_c41_w := @awpE _ _ C.catnaplaw4_chip_c41.eq_1
def C.catnaplaw4_chip_r25_b : List IOper := [
 X.o 11 (.move (X.i 0))]
def C.catnaplaw4_chip_r25 : List IOper := C.catnaplaw4_chip_r25_b
def C.catnaplaw4_chip_r25_w := @aopsE _ _ C.catnaplaw4_chip_r25.eq_1
def C.catnaplaw4_chip_c42 : ICode := .keep [2, 4, 6] (.seq (.seq (.region C.catnaplaw4_chip_r25) C.catnaplaw4_chip_c41) C.catnaplaw4_chip_c31)
def C.catnaplaw4_chip_c42_w := @awpE _ _ C.catnaplaw4_chip_c42.eq_1
def C.catnaplaw4_chip_r12_b : List IOper := [
 X.m 62 8,
 X.o 63 (.bin .add (X.s 62) (X.i 1)),
 X.m 8 63]
def C.catnaplaw4_chip_r12 : List IOper := C.catnaplaw4_chip_r12_b
def C.catnaplaw4_chip_r12_w := @aopsE _ _ C.catnaplaw4_chip_r12.eq_1
def C.catnaplaw4_chip_c43 : ICode := .keep [2, 3, 4, 6, 7, 8] (.region C.catnaplaw4_chip_r12)
def C.catnaplaw4_chip_c43_w := @awpE _ _ C.catnaplaw4_chip_c43.eq_1
def C.catnaplaw4_chip_r24_b : List IOper := [
 X.o 140 (.fldAddr 0 (X.s 6)),
 X.o 141 (.load1 (X.s 140)),
 X.o 142 (.loadN 6 (X.s 10)),
 X.o 143 (.buildSlice 6 1 [.int .u8 0, .nils, .int .u64 0, .int .i64 0, .int .i64 0, .int .i64 0] [(0, 6, X.s 142)]),
 X.o 144 (.append 6 64 (X.s 141) (X.s 143)),
 X.o 145 (.fldAddr 0 (X.s 6)),
 X.n (.store1 (X.s 145) (X.s 144))]
def C.catnaplaw4_chip_r24 : List IOper := C.catnaplaw4_chip_r24_b
def C.catnaplaw4_chip_r24_w := @aopsE _ _ C.catnaplaw4_chip_r24.eq_1
def C.catnaplaw4_chip_c44 : ICode := .keep [2, 3, 4, 6, 7, 8, 10] (.region C.catnaplaw4_chip_r24)
def C.catnaplaw4_chip_c44_w := @awpE _ _ C.catnaplaw4_chip_c44.eq_1
def C.catnaplaw4_chip_r19_b : List IOper := [
 X.m 106 4,
 X.m 107 9,
 X.o 108 (.bin .add (X.s 107) (X.i 2)),
 X.o 109 (.idxAddr 1 (X.s 106) (X.s 108)),
 X.o 110 (.load1 (X.s 109)),
 X.o 111 (.bin .quo (X.s 110) (X.i 32)),
 X.o 112 (.bin .rem (X.s 111) (X.i 4)),
 X.o 113 (.fldAddr 5 (X.s 10)),
 X.n (.store1 (X.s 113) (X.s 112))]
def C.catnaplaw4_chip_r19 : List IOper := C.catnaplaw4_chip_r19_b
def C.catnaplaw4_chip_r19_w := @aopsE _ _ C.catnaplaw4_chip_r19.eq_1
def C.catnaplaw4_chip_c45 : ICode := .keep [2, 3, 4, 6, 7, 8, 9, 10] (.region C.catnaplaw4_chip_r19)
def C.catnaplaw4_chip_c45_w := @awpE _ _ C.catnaplaw4_chip_c45.eq_1
def C.catnaplaw4_chip_r18_b : List IOper := [
 X.m 97 4,
 X.m 98 9,
 X.o 99 (.bin .add (X.s 98) (X.i 2)),
 X.o 100 (.idxAddr 1 (X.s 97) (X.s 99)),
 X.o 101 (.load1 (X.s 100)),
 X.o 102 (.bin .quo (X.s 101) (X.i 8)),
 X.o 103 (.bin .rem (X.s 102) (X.i 4)),
 X.o 104 (.bin .add (X.i 1) (X.s 103)),
 X.o 105 (.fldAddr 4 (X.s 10)),
 X.n (.store1 (X.s 105) (X.s 104))]
def C.catnaplaw4_chip_r18 : List IOper := C.catnaplaw4_chip_r18_b
def C.catnaplaw4_chip_r18_w := @aopsE _ _ C.catnaplaw4_chip_r18.eq_1
def C.catnaplaw4_chip_c46 : ICode := .keep [2, 3, 4, 6, 7, 8, 9, 10] (.seq (.region C.catnaplaw4_chip_r18) C.catnaplaw4_chip_c45)
def C.catnaplaw4_chip_c46_w := @awpE _ _ C.catnaplaw4_chip_c46.eq_1
def C.catnaplaw4_chip_r17_b : List IOper := [
 X.m 89 4,
 X.m 90 9,
 X.o 91 (.bin .add (X.s 90) (X.i 2)),
 X.o 92 (.idxAddr 1 (X.s 89) (X.s 91)),
 X.o 93 (.load1 (X.s 92)),
 X.o 94 (.bin .rem (X.s 93) (X.i 8)),
 X.o 95 (.bin .add (X.i 1) (X.s 94)),
 X.o 96 (.fldAddr 3 (X.s 10)),
 X.n (.store1 (X.s 96) (X.s 95))]
def C.catnaplaw4_chip_r17 : List IOper := C.catnaplaw4_chip_r17_b
def C.catnaplaw4_chip_r17_w := @aopsE _ _ C.catnaplaw4_chip_r17.eq_1
def C.catnaplaw4_chip_r21_b : List IOper := [
 X.m 116 4,
 X.m 117 9,
 X.o 118 (.bin .add (X.s 117) (X.i 2)),
 X.o 119 (.idxAddr 1 (X.s 116) (X.s 118)),
 X.o 120 (.load1 (X.s 119)),
 X.o 121 (.bin .rem (X.s 120) (X.i 8)),
 X.o 122 (.bin .add (X.i 1) (X.s 121)),
 X.o 123 (.fldAddr 4 (X.s 10)),
 X.n (.store1 (X.s 123) (X.s 122))]
def C.catnaplaw4_chip_r21 : List IOper := C.catnaplaw4_chip_r21_b
def C.catnaplaw4_chip_r21_w := @aopsE _ _ C.catnaplaw4_chip_r21.eq_1
def C.catnaplaw4_chip_r23_b : List IOper := [
 X.o 126 (.fldAddr 1 (X.s 10)),
 X.o 127 (.load1 (X.s 126)),
 X.m 128 4,
 X.m 129 9,
 X.o 130 (.bin .add (X.s 129) (X.i 2)),
 X.o 131 (.idxAddr 1 (X.s 128) (X.s 130)),
 X.o 132 (.load1 (X.s 131)),
 X.o 133 (.fldAddr 0 (X.s 6)),
 X.o 134 (.load1 (X.s 133)),
 X.o 135 (.len (X.s 134)),
 X.o 136 (.bin .rem (X.s 132) (X.s 135)),
 X.o 137 (.buildSlice 1 1 [.int .i64 0] [(0, 1, X.s 136)]),
 X.o 138 (.append 1 8 (X.s 127) (X.s 137)),
 X.o 139 (.fldAddr 1 (X.s 10)),
 X.n (.store1 (X.s 139) (X.s 138))]
def C.catnaplaw4_chip_r23 : List IOper := C.catnaplaw4_chip_r23_b
def C.catnaplaw4_chip_r23_w := @aopsE _ _ C.catnaplaw4_chip_r23.eq_1
def C.catnaplaw4_chip_c47 : ICode := .keep [2, 3, 4, 6, 7, 8, 9, 10, 124] (.cond (X.s 124) (.region C.catnaplaw4_chip_r23) .skip)
def C.catnaplaw4_chip_c47_w := @awpE _ _ C.catnaplaw4_chip_c47.eq_1
def C.catnaplaw4_chip_r22_b : List IOper := [
 X.o 125 (.bin .eql (X.s 86) (.cst (.int .u8 109))),
 X.m 124 125]
def C.catnaplaw4_chip_r22 : List IOper := C.catnaplaw4_chip_r22_b
def C.catnaplaw4_chip_r22_w := @aopsE _ _ C.catnaplaw4_chip_r22.eq_1
def C.catnaplaw4_chip_c48 : ICode := .seq (.region C.catnaplaw4_chip_r22) C.catnaplaw4_chip_c47
def C.catnaplaw4_chip_c48_w := @awpE _ _ C.catnaplaw4_chip_c48.eq_1
def C.catnaplaw4_chip_c49 : ICode := .keep [2, 3, 4, 6, 7, 8, 9, 10, 86, 114] (.cond (X.s 114) (.region C.catnaplaw4_chip_r21) C.catnaplaw4_chip_c48)
def C.catnaplaw4_chip_c49_w := @awpE _ _ C.catnaplaw4_chip_c49.eq_1
def C.catnaplaw4_chip_r20_b : List IOper := [
 X.o 115 (.bin .eql (X.s 86) (.cst (.int .u8 100))),
 X.m 114 115]
def C.catnaplaw4_chip_r20 : List IOper := C.catnaplaw4_chip_r20_b
def C.catnaplaw4_chip_r20_w := @aopsE _ _ C.catnaplaw4_chip_r20.eq_1
def C.catnaplaw4_chip_c50 : ICode := .seq (.region C.catnaplaw4_chip_r17) C.catnaplaw4_chip_c46
def C.catnaplaw4_chip_c50_w := @awpE _ _ C.catnaplaw4_chip_c50.eq_1
def C.catnaplaw4_chip_c51 : ICode := .seq (.region C.catnaplaw4_chip_r20) C.catnaplaw4_chip_c49
def C.catnaplaw4_chip_c51_w := @awpE _ _ C.catnaplaw4_chip_c51.eq_1
def C.catnaplaw4_chip_c52 : ICode := .keep [2, 3, 4, 6, 7, 8, 9, 10, 86, 87] (.cond (X.s 87) C.catnaplaw4_chip_c50 C.catnaplaw4_chip_c51)
def C.catnaplaw4_chip_c52_w := @awpE _ _ C.catnaplaw4_chip_c52.eq_1
def C.catnaplaw4_chip_r16_b : List IOper := [
 X.o 88 (.bin .eql (X.s 86) (.cst (.int .u8 112))),
 X.m 87 88]
def C.catnaplaw4_chip_r16 : List IOper := C.catnaplaw4_chip_r16_b
def C.catnaplaw4_chip_r16_w := @aopsE _ _ C.catnaplaw4_chip_r16.eq_1
def C.catnaplaw4_chip_b53 : ICode := .seq (.region C.catnaplaw4_chip_r16) C.catnaplaw4_chip_c52
def C.catnaplaw4_chip_b53_w := @awpE _ _ C.catnaplaw4_chip_b53.eq_1
def C.catnaplaw4_chip_c54 : ICode := .keep [2, 3, 4, 6, 7, 8, 9, 10, 86] (.block 4 C.catnaplaw4_chip_b53)
def C.catnaplaw4_chip_c54_w := @awpE _ _ C.catnaplaw4_chip_c54.eq_1
def C.catnaplaw4_chip_r15_b : List IOper := [
 X.o 85 (.fldAddr 0 (X.s 10)),
 X.o 86 (.load1 (X.s 85))]
def C.catnaplaw4_chip_r15 : List IOper := C.catnaplaw4_chip_r15_b
def C.catnaplaw4_chip_r15_w := @aopsE _ _ C.catnaplaw4_chip_r15.eq_1
def C.catnaplaw4_chip_c55 : ICode := .keep [2, 3, 4, 6, 7, 8, 9, 10] (.seq (.seq (.region C.catnaplaw4_chip_r15) C.catnaplaw4_chip_c54) C.catnaplaw4_chip_c44)
def C.catnaplaw4_chip_c55_w := @awpE _ _ C.catnaplaw4_chip_c55.eq_1
def C.catnaplaw4_chip_r14_b : List IOper := [
 X.m 67 7,
 X.m 68 4,
 X.m 69 9,
 X.o 70 (.idxAddr 1 (X.s 68) (X.s 69)),
 X.o 71 (.load1 (X.s 70)),
 X.o 72 (.bin .rem (X.s 71) (X.i 5)),
 X.o 73 (.strIdx (X.s 67) (X.s 72)),
 X.m 74 4,
 X.m 75 9,
 X.o 76 (.bin .add (X.s 75) (X.i 1)),
 X.o 77 (.idxAddr 1 (X.s 74) (X.s 76)),
 X.o 78 (.load1 (X.s 77)),
 X.o 79 (.fldAddr 0 (X.s 6)),
 X.o 80 (.load1 (X.s 79)),
 X.o 81 (.len (X.s 80)),
 X.o 82 (.bin .rem (X.s 78) (X.s 81)),
 X.o 83 (.buildSlice 1 1 [.int .i64 0] [(0, 1, X.s 82)]),
 X.o 84 (.build [.int .u8 0, .nils, .int .u64 0, .int .i64 0, .int .i64 0, .int .i64 0] [(0, 1, X.s 73), (1, 1, X.s 83)]),
 X.o 10 (.alloc [.int .u8 0, .nils, .int .u64 0, .int .i64 0, .int .i64 0, .int .i64 0]),
 X.n (.storeN 6 (X.s 10) (X.s 84))]
def C.catnaplaw4_chip_r14 : List IOper := C.catnaplaw4_chip_r14_b
def C.catnaplaw4_chip_r14_w := @aopsE _ _ C.catnaplaw4_chip_r14.eq_1
def C.catnaplaw4_chip_c56 : ICode := .keep [2, 3, 4, 6, 7, 8, 9] (.seq (.region C.catnaplaw4_chip_r14) C.catnaplaw4_chip_c55)
def C.catnaplaw4_chip_c56_w := @awpE _ _ C.catnaplaw4_chip_c56.eq_1
def C.catnaplaw4_chip_r13_b : List IOper := [
 X.m 64 8,
 X.o 65 (.bin .mul (X.i 3) (X.s 64)),
 X.o 66 (.bin .add (X.i 10) (X.s 65)),
 X.m 9 66]
def C.catnaplaw4_chip_r13 : List IOper := C.catnaplaw4_chip_r13_b
def C.catnaplaw4_chip_r13_w := @aopsE _ _ C.catnaplaw4_chip_r13.eq_1
def C.catnaplaw4_chip_b57 : ICode := .seq (.region C.catnaplaw4_chip_r13) C.catnaplaw4_chip_c56
def C.catnaplaw4_chip_b57_w := @awpE _ _ C.catnaplaw4_chip_b57.eq_1
def C.catnaplaw4_chip_c58 : ICode := .keep [2, 3, 4, 6, 7, 8] (.seq (.block 3 C.catnaplaw4_chip_b57) C.catnaplaw4_chip_c43)
def C.catnaplaw4_chip_c58_w := @awpE _ _ C.catnaplaw4_chip_c58.eq_1
def C.catnaplaw4_chip_c59 : ICode := .keep [2, 3, 4, 6, 7, 8, 61] (.cond (X.s 61) .skip (.exit 2))
def C.catnaplaw4_chip_c59_w := @awpE _ _ C.catnaplaw4_chip_c59.eq_1
def C.catnaplaw4_chip_r11_b : List IOper := [
 X.m 55 8,
 X.m 56 4,
 X.m 57 3,
 X.o 58 (.idxAddr 1 (X.s 56) (X.s 57)),
 X.o 59 (.load1 (X.s 58)),
 X.o 60 (.bin .rem (X.s 59) (X.i 9)),
 X.o 61 (.bin .lss (X.s 55) (X.s 60))]
def C.catnaplaw4_chip_r11 : List IOper := C.catnaplaw4_chip_r11_b
def C.catnaplaw4_chip_r11_w := @aopsE _ _ C.catnaplaw4_chip_r11.eq_1
def C.catnaplaw4_chip_l60 : ICode := .keep [2, 3, 4, 6, 7, 8] (.seq (.seq (.region C.catnaplaw4_chip_r11) C.catnaplaw4_chip_c59) C.catnaplaw4_chip_c58)
def C.catnaplaw4_chip_l60_w := @awpE _ _ C.catnaplaw4_chip_l60.eq_1
def C.catnaplaw4_chip_b61 : ICode := .loop C.catnaplaw4_chip_l60
def C.catnaplaw4_chip_b61_w := @awpE _ _ C.catnaplaw4_chip_b61.eq_1
def C.catnaplaw4_chip_c62 : ICode := .keep [2, 3, 4, 6, 7, 8] (.block 2 C.catnaplaw4_chip_b61)
def C.catnaplaw4_chip_c62_w := @awpE _ _ C.catnaplaw4_chip_c62.eq_1
def C.catnaplaw4_chip_r10_b : List IOper := [
 X.o 8 (.move (X.i 0))]
def C.catnaplaw4_chip_r10 : List IOper := C.catnaplaw4_chip_r10_b
def C.catnaplaw4_chip_r10_w := @aopsE _ _ C.catnaplaw4_chip_r10.eq_1
def C.catnaplaw4_chip_c63 : ICode := .keep [2, 3, 4, 6, 7] (.seq (.seq (.region C.catnaplaw4_chip_r10) C.catnaplaw4_chip_c62) C.catnaplaw4_chip_c42)
def C.catnaplaw4_chip_c63_w := @awpE _ _ C.catnaplaw4_chip_c63.eq_1
def C.catnaplaw4_chip_r9_b : List IOper := [
 X.o 7 (.move (.cst (.str [112, 100, 103, 109, 103])))]
def C.catnaplaw4_chip_r9 : List IOper := C.catnaplaw4_chip_r9_b
def C.catnaplaw4_chip_r9_w := @aopsE _ _ C.catnaplaw4_chip_r9.eq_1
def C.catnaplaw4_chip_c64 : ICode := .keep [2, 3, 4, 6] (.seq (.region C.catnaplaw4_chip_r9) C.catnaplaw4_chip_c63)
def C.catnaplaw4_chip_c64_w := @awpE _ _ C.catnaplaw4_chip_c64.eq_1
def C.catnaplaw4_chip_r8_b : List IOper := [
 X.o 3 (.move (X.i 1))]
def C.catnaplaw4_chip_r8 : List IOper := C.catnaplaw4_chip_r8_b
def C.catnaplaw4_chip_r8_w := @aopsE _ _ C.catnaplaw4_chip_r8.eq_1
def C.catnaplaw4_chip_c65 : ICode := .keep [2, 4, 6] (.seq (.region C.catnaplaw4_chip_r8) C.catnaplaw4_chip_c64)
def C.catnaplaw4_chip_c65_w := @awpE _ _ C.catnaplaw4_chip_c65.eq_1
def C.catnaplaw4_chip_r7_b : List IOper := [
 X.m 47 4,
 X.o 48 (.idxAddr 1 (X.s 47) (X.i 0)),
 X.o 49 (.load1 (X.s 48)),
 X.o 50 (.bin .add (X.i 1) (X.s 49)),
 X.o 51 (.conv .u64 (X.s 50)),
 X.o 52 (.build [.int .u8 0, .nils, .int .u64 0, .int .i64 0, .int .i64 0, .int .i64 0] [(0, 1, .cst (.int .u8 111)), (2, 1, X.s 51)]),
 X.o 53 (.buildSlice 6 1 [.int .u8 0, .nils, .int .u64 0, .int .i64 0, .int .i64 0, .int .i64 0] [(0, 6, X.s 52)]),
 X.o 54 (.build [.nils, .nils, .nils, .nils] [(0, 1, X.s 53)]),
 X.o 6 (.alloc [.nils, .nils, .nils, .nils]),
 X.n (.storeN 4 (X.s 6) (X.s 54))]
def C.catnaplaw4_chip_r7 : List IOper := C.catnaplaw4_chip_r7_b
def C.catnaplaw4_chip_r7_w := @aopsE _ _ C.catnaplaw4_chip_r7.eq_1
def C.catnaplaw4_chip_c66 : ICode := .keep [2, 4] (.seq (.region C.catnaplaw4_chip_r7) C.catnaplaw4_chip_c65)
def C.catnaplaw4_chip_c66_w := @awpE _ _ C.catnaplaw4_chip_c66.eq_1
def C.catnaplaw4_chip_r5_b : List IOper := [
 X.m 28 5,
 X.o 29 (.bin .add (X.s 28) (X.i 1)),
 X.m 5 29]
def C.catnaplaw4_chip_r5 : List IOper := C.catnaplaw4_chip_r5_b
def C.catnaplaw4_chip_r5_w := @aopsE _ _ C.catnaplaw4_chip_r5.eq_1
def C.catnaplaw4_chip_c67 : ICode := .keep [0, 2, 4, 5] (.region C.catnaplaw4_chip_r5)
def C.catnaplaw4_chip_c67_w := @awpE _ _ C.catnaplaw4_chip_c67.eq_1
def C.catnaplaw4_chip_r6_b : List IOper := [
 X.m 30 4,
 X.m 31 5,
 X.m 32 0,
 X.m 33 5,
 X.m 34 0,
 X.o 35 (.len (X.s 34)),
 X.o 36 (.bin .rem (X.s 33) (X.s 35)),
 X.o 37 (.idxAddr 1 (X.s 32) (X.s 36)),
 X.o 38 (.load1 (X.s 37)),
 X.m 39 5,
 X.m 40 0,
 X.o 41 (.len (X.s 40)),
 X.o 42 (.bin .quo (X.s 39) (X.s 41)),
 X.o 43 (.bin .add (X.i 1) (X.s 42)),
 X.o 44 (.bin .quo (X.s 38) (X.s 43)),
 X.o 45 (.call F.catnaplaw4_pick [X.s 44, X.i 1000000]),
 X.o 46 (.idxAddr 1 (X.s 30) (X.s 31)),
 X.n (.store1 (X.s 46) (X.s 45))]
def C.catnaplaw4_chip_r6 : List IOper := C.catnaplaw4_chip_r6_b
def C.catnaplaw4_chip_r6_w := @aopsE _ _ C.catnaplaw4_chip_r6.eq_1
def C.catnaplaw4_chip_b68 : ICode := .region C.catnaplaw4_chip_r6
def C.catnaplaw4_chip_b68_w := @awpE _ _ C.catnaplaw4_chip_b68.eq_1
def C.catnaplaw4_chip_c69 : ICode := .keep [0, 2, 4, 5] (.seq (.block 1 C.catnaplaw4_chip_b68) C.catnaplaw4_chip_c67)
def C.catnaplaw4_chip_c69_w := @awpE _ _ C.catnaplaw4_chip_c69.eq_1
def C.catnaplaw4_chip_c70 : ICode := .keep [0, 2, 4, 5, 27] (.cond (X.s 27) .skip (.exit 0))
def C.catnaplaw4_chip_c70_w := @awpE _ _ C.catnaplaw4_chip_c70.eq_1
def C.catnaplaw4_chip_r4_b : List IOper := [
 X.m 19 5,
 X.m 20 4,
 X.o 21 (.len (X.s 20)),
 X.o 22 (.bin .lss (X.s 19) (X.s 21)),
 X.m 23 22,
 X.t 23 24 (.move (X.s 0)),
 X.t 23 25 (.len (X.s 24)),
 X.t 23 26 (.bin .gtr (X.s 25) (X.i 0)),
 X.o 27 (.pick (X.s 23) (X.s 26) (.cst (.bool false)))]
def C.catnaplaw4_chip_r4 : List IOper := C.catnaplaw4_chip_r4_b
def C.catnaplaw4_chip_r4_w := @aopsE _ _ C.catnaplaw4_chip_r4.eq_1
def C.catnaplaw4_chip_l71 : ICode := .keep [0, 2, 4, 5] (.seq (.seq (.region C.catnaplaw4_chip_r4) C.catnaplaw4_chip_c70) C.catnaplaw4_chip_c69)
def C.catnaplaw4_chip_l71_w := @awpE _ _ C.catnaplaw4_chip_l71.eq_1
def C.catnaplaw4_chip_b72 : ICode := .loop C.catnaplaw4_chip_l71
def C.catnaplaw4_chip_b72_w := @awpE _ _ C.catnaplaw4_chip_b72.eq_1
def C.catnaplaw4_chip_c73 : ICode := .keep [0, 2, 4, 5] (.block 0 C.catnaplaw4_chip_b72)
def C.catnaplaw4_chip_c73_w := @awpE _ _ C.catnaplaw4_chip_c73.eq_1
def C.catnaplaw4_chip_r3_b : List IOper := [
 X.o 5 (.move (X.i 0))]
def C.catnaplaw4_chip_r3 : List IOper := C.catnaplaw4_chip_r3_b
def C.catnaplaw4_chip_r3_w := @aopsE _ _ C.catnaplaw4_chip_r3.eq_1
def C.catnaplaw4_chip_c74 : ICode := .keep [0, 2, 4] (.seq (.seq (.region C.catnaplaw4_chip_r3) C.catnaplaw4_chip_c73) C.catnaplaw4_chip_c66)
def C.catnaplaw4_chip_c74_w := @awpE _ _ C.catnaplaw4_chip_c74.eq_1
def C.catnaplaw4_chip_r2_b : List IOper := [
 X.o 18 (.makeSlice 1 8 [.int .i64 0] (X.i 120) (X.i 120)),
 X.m 4 18]
def C.catnaplaw4_chip_r2 : List IOper := C.catnaplaw4_chip_r2_b
def C.catnaplaw4_chip_r2_w := @aopsE _ _ C.catnaplaw4_chip_r2.eq_1
def C.catnaplaw4_chip_c75 : ICode := .keep [0, 2] (.seq (.region C.catnaplaw4_chip_r2) C.catnaplaw4_chip_c74)
def C.catnaplaw4_chip_c75_w := @awpE _ _ C.catnaplaw4_chip_c75.eq_1
def C.catnaplaw4_chip_r1_b : List IOper := [
 X.o 3 (.move (X.i 0))]
def C.catnaplaw4_chip_r1 : List IOper := C.catnaplaw4_chip_r1_b
def C.catnaplaw4_chip_r1_w := @aopsE _ _ C.catnaplaw4_chip_r1.eq_1
def C.catnaplaw4_chip_c76 : ICode := .keep [0, 2] (.seq (.region C.catnaplaw4_chip_r1) C.catnaplaw4_chip_c75)
def C.catnaplaw4_chip_c76_w := @awpE _ _ C.catnaplaw4_chip_c76.eq_1
def C.catnaplaw4_chip_r0_b : List IOper := [
 X.o 2 (.alloc [.nils, .nils, .nils, .nils])]
def C.catnaplaw4_chip_r0 : List IOper := C.catnaplaw4_chip_r0_b
def C.catnaplaw4_chip_r0_w := @aopsE _ _ C.catnaplaw4_chip_r0.eq_1
def C.catnaplaw4_chip : IFunc := ⟨1, [.cellN 2 4], .seq (.region C.catnaplaw4_chip_r0) C.catnaplaw4_chip_c76⟩
def C.catnaplaw4_chip_W := And.intro (And.intro (And.intro (And.intro (And.intro (And.intro @C.catnaplaw4_chip_r50_w (And.intro @C.catnaplaw4_chip_c1_w @C.catnaplaw4_chip_r38_w)) (And.intro (And.intro @C.catnaplaw4_chip_c2_w @C.catnaplaw4_chip_r49_w) (And.intro @C.catnaplaw4_chip_c3_w @C.catnaplaw4_chip_r48_w))) (And.intro (And.intro (And.intro @C.catnaplaw4_chip_c4_w @C.catnaplaw4_chip_r47_w) (And.intro @C.catnaplaw4_chip_c5_w @C.catnaplaw4_chip_r46_w)) (And.intro (And.intro @C.catnaplaw4_chip_c6_w @C.catnaplaw4_chip_r45_w) (And.intro @C.catnaplaw4_chip_c7_w @C.catnaplaw4_chip_r43_w)))) (And.intro (And.intro (And.intro @C.catnaplaw4_chip_c8_w (And.intro @C.catnaplaw4_chip_r44_w @C.catnaplaw4_chip_b9_w)) (And.intro (And.intro @C.catnaplaw4_chip_c10_w @C.catnaplaw4_chip_c11_w) (And.intro @C.catnaplaw4_chip_r42_w @C.catnaplaw4_chip_b13_w))) (And.intro (And.intro (And.intro @C.catnaplaw4_chip_c14_w @C.catnaplaw4_chip_r41_w) (And.intro @C.catnaplaw4_chip_c15_w @C.catnaplaw4_chip_r40_w)) (And.intro (And.intro @C.catnaplaw4_chip_c16_w @C.catnaplaw4_chip_r39_w) (And.intro @C.catnaplaw4_chip_b17_w @C.catnaplaw4_chip_c18_w))))) (And.intro (And.intro (And.intro (And.intro @C.catnaplaw4_chip_c19_w (And.intro @C.catnaplaw4_chip_r37_w @C.catnaplaw4_chip_b21_w)) (And.intro (And.intro @C.catnaplaw4_chip_c22_w @C.catnaplaw4_chip_r36_w) (And.intro @C.catnaplaw4_chip_c23_w @C.catnaplaw4_chip_r34_w))) (And.intro (And.intro (And.intro @C.catnaplaw4_chip_c24_w @C.catnaplaw4_chip_r35_w) (And.intro @C.catnaplaw4_chip_b25_w @C.catnaplaw4_chip_c26_w)) (And.intro (And.intro @C.catnaplaw4_chip_c27_w @C.catnaplaw4_chip_r33_w) (And.intro @C.catnaplaw4_chip_b29_w @C.catnaplaw4_chip_c30_w)))) (And.intro (And.intro (And.intro @C.catnaplaw4_chip_r32_w (And.intro @C.catnaplaw4_chip_c31_w @C.catnaplaw4_chip_r27_w)) (And.intro (And.intro @C.catnaplaw4_chip_c32_w @C.catnaplaw4_chip_r31_w) (And.intro @C.catnaplaw4_chip_c33_w @C.catnaplaw4_chip_r30_w))) (And.intro (And.intro (And.intro @C.catnaplaw4_chip_c34_w @C.catnaplaw4_chip_r29_w) (And.intro @C.catnaplaw4_chip_c35_w @C.catnaplaw4_chip_r28_w)) (And.intro (And.intro @C.catnaplaw4_chip_b36_w @C.catnaplaw4_chip_c37_w) (And.intro @C.catnaplaw4_chip_c38_w @C.catnaplaw4_chip_r26_w)))))) (And.intro (And.intro (And.intro (And.intro (And.intro @C.catnaplaw4_chip_b40_w (And.intro @C.catnaplaw4_chip_c41_w @C.catnaplaw4_chip_r25_w)) (And.intro (And.intro @C.catnaplaw4_chip_c42_w @C.catnaplaw4_chip_r12_w) (And.intro @C.catnaplaw4_chip_c43_w @C.catnaplaw4_chip_r24_w))) (And.intro (And.intro (And.intro @C.catnaplaw4_chip_c44_w @C.catnaplaw4_chip_r19_w) (And.intro @C.catnaplaw4_chip_c45_w @C.catnaplaw4_chip_r18_w)) (And.intro (And.intro @C.catnaplaw4_chip_c46_w @C.catnaplaw4_chip_r17_w) (And.intro @C.catnaplaw4_chip_r21_w @C.catnaplaw4_chip_r23_w)))) (And.intro (And.intro (And.intro @C.catnaplaw4_chip_c47_w (And.intro @C.catnaplaw4_chip_r22_w @C.catnaplaw4_chip_c48_w)) (And.intro (And.intro @C.catnaplaw4_chip_c49_w @C.catnaplaw4_chip_r20_w) (And.intro @C.catnaplaw4_chip_c50_w @C.catnaplaw4_chip_c51_w))) (And.intro (And.intro (And.intro @C.catnaplaw4_chip_c52_w @C.catnaplaw4_chip_r16_w) (And.intro @C.catnaplaw4_chip_b53_w @C.catnaplaw4_chip_c54_w)) (And.intro (And.intro @C.catnaplaw4_chip_r15_w @C.catnaplaw4_chip_c55_w) (And.intro @C.catnaplaw4_chip_r14_w @C.catnaplaw4_chip_c56_w))))) (And.intro (And.intro (And.intro (And.intro @C.catnaplaw4_chip_r13_w (And.intro @C.catnaplaw4_chip_b57_w @C.catnaplaw4_chip_c58_w)) (And.intro (And.intro @C.catnaplaw4_chip_c59_w @C.catnaplaw4_chip_r11_w) (And.intro @C.catnaplaw4_chip_b61_w @C.catnaplaw4_chip_c62_w))) (And.intro (And.intro (And.intro @C.catnaplaw4_chip_r10_w @C.catnaplaw4_chip_c63_w) (And.intro @C.catnaplaw4_chip_r9_w @C.catnaplaw4_chip_c64_w)) (And.intro (And.intro @C.catnaplaw4_chip_r8_w @C.catnaplaw4_chip_c65_w) (And.intro @C.catnaplaw4_chip_r7_w @C.catnaplaw4_chip_c66_w)))) (And.intro (And.intro (And.intro (And.intro @C.catnaplaw4_chip_r5_w @C.catnaplaw4_chip_c67_w) (And.intro @C.catnaplaw4_chip_r6_w @C.catnaplaw4_chip_b68_w)) (And.intro (And.intro @C.catnaplaw4_chip_c69_w @C.catnaplaw4_chip_c70_w) (And.intro @C.catnaplaw4_chip_r4_w @C.catnaplaw4_chip_b72_w))) (And.intro (And.intro (And.intro @C.catnaplaw4_chip_c73_w @C.catnaplaw4_chip_r3_w) (And.intro @C.catnaplaw4_chip_c74_w @C.catnaplaw4_chip_r2_w)) (And.intro (And.intro @C.catnaplaw4_chip_c75_w @C.catnaplaw4_chip_r1_w) (And.intro @C.catnaplaw4_chip_c76_w @C.catnaplaw4_chip_r0_w))))))
def C.catnaplaw4_chip_B := And.intro (And.intro (And.intro (And.intro (And.intro @C.catnaplaw4_chip_r50_b.eq_1 (And.intro @C.catnaplaw4_chip_r38_b.eq_1 @C.catnaplaw4_chip_r49_b.eq_1)) (And.intro @C.catnaplaw4_chip_r48_b.eq_1 (And.intro @C.catnaplaw4_chip_r47_b.eq_1 @C.catnaplaw4_chip_r46_b.eq_1))) (And.intro (And.intro @C.catnaplaw4_chip_r45_b.eq_1 (And.intro @C.catnaplaw4_chip_r43_b.eq_1 @C.catnaplaw4_chip_r44_b.eq_1)) (And.intro @C.catnaplaw4_chip_r42_b.eq_1 (And.intro @C.catnaplaw4_chip_r41_b.eq_1 @C.catnaplaw4_chip_r40_b.eq_1)))) (And.intro (And.intro (And.intro @C.catnaplaw4_chip_r39_b.eq_1 (And.intro @C.catnaplaw4_chip_r37_b.eq_1 @C.catnaplaw4_chip_r36_b.eq_1)) (And.intro @C.catnaplaw4_chip_r34_b.eq_1 (And.intro @C.catnaplaw4_chip_r35_b.eq_1 @C.catnaplaw4_chip_r33_b.eq_1))) (And.intro (And.intro @C.catnaplaw4_chip_r32_b.eq_1 (And.intro @C.catnaplaw4_chip_r27_b.eq_1 @C.catnaplaw4_chip_r31_b.eq_1)) (And.intro (And.intro @C.catnaplaw4_chip_r30_b.eq_1 @C.catnaplaw4_chip_r29_b.eq_1) (And.intro @C.catnaplaw4_chip_r28_b.eq_1 @C.catnaplaw4_chip_r26_b.eq_1))))) (And.intro (And.intro (And.intro (And.intro @C.catnaplaw4_chip_r25_b.eq_1 (And.intro @C.catnaplaw4_chip_r12_b.eq_1 @C.catnaplaw4_chip_r24_b.eq_1)) (And.intro @C.catnaplaw4_chip_r19_b.eq_1 (And.intro @C.catnaplaw4_chip_r18_b.eq_1 @C.catnaplaw4_chip_r17_b.eq_1))) (And.intro (And.intro @C.catnaplaw4_chip_r21_b.eq_1 (And.intro @C.catnaplaw4_chip_r23_b.eq_1 @C.catnaplaw4_chip_r22_b.eq_1)) (And.intro (And.intro @C.catnaplaw4_chip_r20_b.eq_1 @C.catnaplaw4_chip_r16_b.eq_1) (And.intro @C.catnaplaw4_chip_r15_b.eq_1 @C.catnaplaw4_chip_r14_b.eq_1)))) (And.intro (And.intro (And.intro @C.catnaplaw4_chip_r13_b.eq_1 (And.intro @C.catnaplaw4_chip_r11_b.eq_1 @C.catnaplaw4_chip_r10_b.eq_1)) (And.intro @C.catnaplaw4_chip_r9_b.eq_1 (And.intro @C.catnaplaw4_chip_r8_b.eq_1 @C.catnaplaw4_chip_r7_b.eq_1))) (And.intro (And.intro @C.catnaplaw4_chip_r5_b.eq_1 (And.intro @C.catnaplaw4_chip_r6_b.eq_1 @C.catnaplaw4_chip_r4_b.eq_1)) (And.intro (And.intro @C.catnaplaw4_chip_r3_b.eq_1 @C.catnaplaw4_chip_r2_b.eq_1) (And.intro @C.catnaplaw4_chip_r1_b.eq_1 @C.catnaplaw4_chip_r0_b.eq_1)))))

def C.catnaplaw4_pick_r3_b : List IOper := [
 X.m 10 0,
 X.m 11 1,
 X.o 12 (.bin .rem (X.s 10) (X.s 11)),
 X.m 4 12]
def C.catnaplaw4_pick_r3 : List IOper := C.catnaplaw4_pick_r3_b
def C.catnaplaw4_pick_r3_w := @aopsE _ _ C.catnaplaw4_pick_r3.eq_1
def C.catnaplaw4_pick_c1 : ICode := .keep [0, 1] (.seq (.region C.catnaplaw4_pick_r3) .ret)
def C.catnaplaw4_pick_c1_w := @awpE _ _ C.catnaplaw4_pick_c1.eq_1
def C.catnaplaw4_pick_r2_b : List IOper := [
 X.m 7 0,
 X.o 8 (.bin .add (X.s 7) (X.i 1)),
 X.o 9 (.un .neg (X.s 8)),
 X.m 0 9]
def C.catnaplaw4_pick_r2 : List IOper := C.catnaplaw4_pick_r2_b
def C.catnaplaw4_pick_r2_w := @aopsE _ _ C.catnaplaw4_pick_r2.eq_1
def C.catnaplaw4_pick_c2 : ICode := .keep [0, 1, 6] (.cond (X.s 6) (.region C.catnaplaw4_pick_r2) .skip)
def C.catnaplaw4_pick_c2_w := @awpE _ _ C.catnaplaw4_pick_c2.eq_1
def C.catnaplaw4_pick_r1_b : List IOper := [
 X.m 5 0,
 X.o 6 (.bin .lss (X.s 5) (X.i 0))]
def C.catnaplaw4_pick_r1 : List IOper := C.catnaplaw4_pick_r1_b
def C.catnaplaw4_pick_r1_w := @aopsE _ _ C.catnaplaw4_pick_r1.eq_1
def C.catnaplaw4_pick_c3 : ICode := .keep [0, 1] (.seq (.seq (.region C.catnaplaw4_pick_r1) C.catnaplaw4_pick_c2) C.catnaplaw4_pick_c1)
def C.catnaplaw4_pick_c3_w := @awpE _ _ C.catnaplaw4_pick_c3.eq_1
def C.catnaplaw4_pick_r0_b : List IOper := [
 X.o 4 (.move (X.i 0))]
def C.catnaplaw4_pick_r0 : List IOper := C.catnaplaw4_pick_r0_b
def C.catnaplaw4_pick_r0_w := @aopsE _ _ C.catnaplaw4_pick_r0.eq_1
def C.catnaplaw4_pick : IFunc := ⟨2, [.slot 4], .seq (.region C.catnaplaw4_pick_r0) C.catnaplaw4_pick_c3⟩
def C.catnaplaw4_pick_W := And.intro (And.intro @C.catnaplaw4_pick_r3_w (And.intro @C.catnaplaw4_pick_c1_w @C.catnaplaw4_pick_r2_w)) (And.intro (And.intro @C.catnaplaw4_pick_c2_w @C.catnaplaw4_pick_r1_w) (And.intro @C.catnaplaw4_pick_c3_w @C.catnaplaw4_pick_r0_w))
def C.catnaplaw4_pick_B := And.intro (And.intro @C.catnaplaw4_pick_r3_b.eq_1 @C.catnaplaw4_pick_r2_b.eq_1) (And.intro @C.catnaplaw4_pick_r1_b.eq_1 @C.catnaplaw4_pick_r0_b.eq_1)

def C.conf_Check_r1_b : List IOper := [
 X.o 3 (.makeFunc F.conf_Check_1 [X.s 1]),
 X.o 4 (.makeFunc F.conf_Check_2 [X.s 1]),
 X.o 5 (.makeFunc F.conf_Check_3 [X.s 1]),
 X.o 6 (.makeFunc F.conf_Check_4 [X.s 1]),
 X.o 7 (.makeFunc F.conf_Check_5 [X.s 1]),
 X.o 8 (.makeFunc F.conf_Check_6 [X.s 1]),
 X.o 9 (.makeFunc F.conf_Check_7 [X.s 1]),
 X.o 10 (.makeFunc F.conf_Check_8 [X.s 1]),
 X.o 11 (.buildSlice 1 8 [.nilf] [(0, 1, X.s 3), (1, 1, X.s 4), (2, 1, X.s 5), (3, 1, X.s 6), (4, 1, X.s 7), (5, 1, X.s 8), (6, 1, X.s 9), (7, 1, X.s 10)]),
 X.o 12 (.call F.conf_first [X.s 11]),
 X.m 2 12]
def C.conf_Check_r1 : List IOper := C.conf_Check_r1_b
def C.conf_Check_r1_w := @aopsE _ _ C.conf_Check_r1.eq_1
def C.conf_Check_c1 : ICode := .keep [1] (.seq (.region C.conf_Check_r1) .ret)
def C.conf_Check_c1_w := @awpE _ _ C.conf_Check_c1.eq_1
def C.conf_Check_r0_b : List IOper := [
 X.o 1 (.boxN (X.s 0)),
 X.o 2 (.move (X.i 0))]
def C.conf_Check_r0 : List IOper := C.conf_Check_r0_b
def C.conf_Check_r0_w := @aopsE _ _ C.conf_Check_r0.eq_1
def C.conf_Check : IFunc := ⟨1, [.slot 2], .seq (.region C.conf_Check_r0) C.conf_Check_c1⟩
def C.conf_Check_W := And.intro @C.conf_Check_r1_w (And.intro @C.conf_Check_c1_w @C.conf_Check_r0_w)
def C.conf_Check_B := And.intro @C.conf_Check_r1_b.eq_1 @C.conf_Check_r0_b.eq_1

def C.conf_Clocks_r7_b : List IOper := [
 X.m 25 3,
 X.m 2 25]
def C.conf_Clocks_r7 : List IOper := C.conf_Clocks_r7_b
def C.conf_Clocks_r7_w := @aopsE _ _ C.conf_Clocks_r7.eq_1
def C.conf_Clocks_c1 : ICode := .keep [3] (.seq (.region C.conf_Clocks_r7) .ret)
def C.conf_Clocks_c1_w := @awpE _ _ C.conf_Clocks_c1.eq_1
def C.conf_Clocks_r6_b : List IOper := [
 X.o 24 (.bin .add (X.s 13) (X.i 1)),
 X.m 13 24]
def C.conf_Clocks_r6 : List IOper := C.conf_Clocks_r6_b
def C.conf_Clocks_r6_w := @aopsE _ _ C.conf_Clocks_r6.eq_1
def C.conf_Clocks_c2 : ICode := .keep [3, 11, 12, 13] (.region C.conf_Clocks_r6)
def C.conf_Clocks_c2_w := @awpE _ _ C.conf_Clocks_c2.eq_1
def C.conf_Clocks_r5_b : List IOper := [
 X.m 18 3,
 X.m 19 4,
 X.o 20 (.fldAddr 1 (X.s 5)),
 X.o 21 (.load1 (X.s 20)),
 X.o 22 (.call F.conf_own_int [X.s 21]),
 X.o 23 (.idxAddr 1 (X.s 18) (X.s 19)),
 X.n (.store1 (X.s 23) (X.s 22))]
def C.conf_Clocks_r5 : List IOper := C.conf_Clocks_r5_b
def C.conf_Clocks_r5_w := @aopsE _ _ C.conf_Clocks_r5.eq_1
def C.conf_Clocks_c3 : ICode := .keep [3, 4, 5, 11, 12, 13] (.region C.conf_Clocks_r5)
def C.conf_Clocks_c3_w := @awpE _ _ C.conf_Clocks_c3.eq_1
def C.conf_Clocks_r4_b : List IOper := [
 X.m 15 13,
 X.o 16 (.idxAddr 6 (X.s 11) (X.s 13)),
 X.o 17 (.loadN 6 (X.s 16)),
 X.o 5 (.alloc [.int .u8 0, .nils, .int .u64 0, .int .i64 0, .int .i64 0, .int .i64 0]),
 X.m 4 15,
 X.n (.storeN 6 (X.s 5) (X.s 17))]
def C.conf_Clocks_r4 : List IOper := C.conf_Clocks_r4_b
def C.conf_Clocks_r4_w := @aopsE _ _ C.conf_Clocks_r4.eq_1
def C.conf_Clocks_b4 : ICode := .seq (.region C.conf_Clocks_r4) C.conf_Clocks_c3
def C.conf_Clocks_b4_w := @awpE _ _ C.conf_Clocks_b4.eq_1
def C.conf_Clocks_c5 : ICode := .keep [3, 11, 12, 13] (.seq (.block 1 C.conf_Clocks_b4) C.conf_Clocks_c2)
def C.conf_Clocks_c5_w := @awpE _ _ C.conf_Clocks_c5.eq_1
def C.conf_Clocks_c6 : ICode := .keep [3, 11, 12, 13, 14] (.seq (.cond (X.s 14) .skip (.exit 0)) C.conf_Clocks_c5)
def C.conf_Clocks_c6_w := @awpE _ _ C.conf_Clocks_c6.eq_1
def C.conf_Clocks_r3_b : List IOper := [
 X.o 14 (.bin .lss (X.s 13) (X.s 12))]
def C.conf_Clocks_r3 : List IOper := C.conf_Clocks_r3_b
def C.conf_Clocks_r3_w := @aopsE _ _ C.conf_Clocks_r3.eq_1
def C.conf_Clocks_l7 : ICode := .keep [3, 11, 12, 13] (.seq (.region C.conf_Clocks_r3) C.conf_Clocks_c6)
def C.conf_Clocks_l7_w := @awpE _ _ C.conf_Clocks_l7.eq_1
def C.conf_Clocks_b8 : ICode := .loop C.conf_Clocks_l7
def C.conf_Clocks_b8_w := @awpE _ _ C.conf_Clocks_b8.eq_1
def C.conf_Clocks_c9 : ICode := .keep [3, 11, 12, 13] (.block 0 C.conf_Clocks_b8)
def C.conf_Clocks_c9_w := @awpE _ _ C.conf_Clocks_c9.eq_1
def C.conf_Clocks_r2_b : List IOper := [
 X.o 10 (.fldAddr 0 (X.s 1)),
 X.o 11 (.load1 (X.s 10)),
 X.o 12 (.len (X.s 11)),
 X.o 13 (.move (X.i 0))]
def C.conf_Clocks_r2 : List IOper := C.conf_Clocks_r2_b
def C.conf_Clocks_r2_w := @aopsE _ _ C.conf_Clocks_r2.eq_1
def C.conf_Clocks_c10 : ICode := .keep [1, 3] (.seq (.seq (.region C.conf_Clocks_r2) C.conf_Clocks_c9) C.conf_Clocks_c1)
def C.conf_Clocks_c10_w := @awpE _ _ C.conf_Clocks_c10.eq_1
def C.conf_Clocks_r1_b : List IOper := [
 X.o 6 (.fldAddr 0 (X.s 1)),
 X.o 7 (.load1 (X.s 6)),
 X.o 8 (.len (X.s 7)),
 X.o 9 (.makeSlice 1 24 [.nils] (X.s 8) (X.s 8)),
 X.m 3 9]
def C.conf_Clocks_r1 : List IOper := C.conf_Clocks_r1_b
def C.conf_Clocks_r1_w := @aopsE _ _ C.conf_Clocks_r1.eq_1
def C.conf_Clocks_c11 : ICode := .keep [1] (.seq (.region C.conf_Clocks_r1) C.conf_Clocks_c10)
def C.conf_Clocks_c11_w := @awpE _ _ C.conf_Clocks_c11.eq_1
def C.conf_Clocks_r0_b : List IOper := [
 X.o 1 (.boxN (X.s 0)),
 X.o 2 (.move (.cst (.nils)))]
def C.conf_Clocks_r0 : List IOper := C.conf_Clocks_r0_b
def C.conf_Clocks_r0_w := @aopsE _ _ C.conf_Clocks_r0.eq_1
def C.conf_Clocks : IFunc := ⟨1, [.slot 2], .seq (.region C.conf_Clocks_r0) C.conf_Clocks_c11⟩
def C.conf_Clocks_W := And.intro (And.intro (And.intro (And.intro @C.conf_Clocks_r7_w @C.conf_Clocks_c1_w) (And.intro @C.conf_Clocks_r6_w @C.conf_Clocks_c2_w)) (And.intro (And.intro @C.conf_Clocks_r5_w @C.conf_Clocks_c3_w) (And.intro @C.conf_Clocks_r4_w (And.intro @C.conf_Clocks_b4_w @C.conf_Clocks_c5_w)))) (And.intro (And.intro (And.intro @C.conf_Clocks_c6_w @C.conf_Clocks_r3_w) (And.intro @C.conf_Clocks_b8_w @C.conf_Clocks_c9_w)) (And.intro (And.intro @C.conf_Clocks_r2_w @C.conf_Clocks_c10_w) (And.intro @C.conf_Clocks_r1_w (And.intro @C.conf_Clocks_c11_w @C.conf_Clocks_r0_w))))
def C.conf_Clocks_B := And.intro (And.intro (And.intro @C.conf_Clocks_r7_b.eq_1 @C.conf_Clocks_r6_b.eq_1) (And.intro @C.conf_Clocks_r5_b.eq_1 @C.conf_Clocks_r4_b.eq_1)) (And.intro (And.intro @C.conf_Clocks_r3_b.eq_1 @C.conf_Clocks_r2_b.eq_1) (And.intro @C.conf_Clocks_r1_b.eq_1 @C.conf_Clocks_r0_b.eq_1))

def C.conf_Domains_r8_b : List IOper := [
 X.m 28 3,
 X.m 2 28]
def C.conf_Domains_r8 : List IOper := C.conf_Domains_r8_b
def C.conf_Domains_r8_w := @aopsE _ _ C.conf_Domains_r8.eq_1
def C.conf_Domains_c1 : ICode := .keep [3] (.seq (.region C.conf_Domains_r8) .ret)
def C.conf_Domains_c1_w := @awpE _ _ C.conf_Domains_c1.eq_1
def C.conf_Domains_r7_b : List IOper := [
 X.o 27 (.bin .add (X.s 13) (X.i 1)),
 X.m 13 27]
def C.conf_Domains_r7 : List IOper := C.conf_Domains_r7_b
def C.conf_Domains_r7_w := @aopsE _ _ C.conf_Domains_r7.eq_1
def C.conf_Domains_c2 : ICode := .keep [3, 11, 12, 13] (.region C.conf_Domains_r7)
def C.conf_Domains_c2_w := @awpE _ _ C.conf_Domains_c2.eq_1
def C.conf_Domains_r6_b : List IOper := [
 X.m 21 3,
 X.m 22 4,
 X.o 23 (.fldAddr 0 (X.s 5)),
 X.o 24 (.load1 (X.s 23)),
 X.o 25 (.buildSlice 1 1 [.int .i64 0] [(0, 1, X.s 24)]),
 X.o 26 (.idxAddr 1 (X.s 21) (X.s 22)),
 X.n (.store1 (X.s 26) (X.s 25))]
def C.conf_Domains_r6 : List IOper := C.conf_Domains_r6_b
def C.conf_Domains_r6_w := @aopsE _ _ C.conf_Domains_r6.eq_1
def C.conf_Domains_c3 : ICode := .keep [3, 4, 5, 11, 12, 13, 20] (.cond (X.s 20) (.region C.conf_Domains_r6) .skip)
def C.conf_Domains_c3_w := @awpE _ _ C.conf_Domains_c3.eq_1
def C.conf_Domains_r5_b : List IOper := [
 X.o 18 (.fldAddr 0 (X.s 5)),
 X.o 19 (.load1 (X.s 18)),
 X.o 20 (.bin .neq (X.s 19) (X.i (-1)))]
def C.conf_Domains_r5 : List IOper := C.conf_Domains_r5_b
def C.conf_Domains_r5_w := @aopsE _ _ C.conf_Domains_r5.eq_1
def C.conf_Domains_c4 : ICode := .keep [3, 4, 5, 11, 12, 13] (.seq (.region C.conf_Domains_r5) C.conf_Domains_c3)
def C.conf_Domains_c4_w := @awpE _ _ C.conf_Domains_c4.eq_1
def C.conf_Domains_r4_b : List IOper := [
 X.m 15 13,
 X.o 16 (.idxAddr 3 (X.s 11) (X.s 13)),
 X.o 17 (.loadN 3 (X.s 16)),
 X.o 5 (.alloc [.int .i64 0, .int .i64 0, .bool false]),
 X.m 4 15,
 X.n (.storeN 3 (X.s 5) (X.s 17))]
def C.conf_Domains_r4 : List IOper := C.conf_Domains_r4_b
def C.conf_Domains_r4_w := @aopsE _ _ C.conf_Domains_r4.eq_1
def C.conf_Domains_b5 : ICode := .seq (.region C.conf_Domains_r4) C.conf_Domains_c4
def C.conf_Domains_b5_w := @awpE _ _ C.conf_Domains_b5.eq_1
def C.conf_Domains_c6 : ICode := .keep [3, 11, 12, 13] (.seq (.block 1 C.conf_Domains_b5) C.conf_Domains_c2)
def C.conf_Domains_c6_w := @awpE _ _ C.conf_Domains_c6.eq_1
def C.conf_Domains_c7 : ICode := .keep [3, 11, 12, 13, 14] (.seq (.cond (X.s 14) .skip (.exit 0)) C.conf_Domains_c6)
def C.conf_Domains_c7_w := @awpE _ _ C.conf_Domains_c7.eq_1
def C.conf_Domains_r3_b : List IOper := [
 X.o 14 (.bin .lss (X.s 13) (X.s 12))]
def C.conf_Domains_r3 : List IOper := C.conf_Domains_r3_b
def C.conf_Domains_r3_w := @aopsE _ _ C.conf_Domains_r3.eq_1
def C.conf_Domains_l8 : ICode := .keep [3, 11, 12, 13] (.seq (.region C.conf_Domains_r3) C.conf_Domains_c7)
def C.conf_Domains_l8_w := @awpE _ _ C.conf_Domains_l8.eq_1
def C.conf_Domains_b9 : ICode := .loop C.conf_Domains_l8
def C.conf_Domains_b9_w := @awpE _ _ C.conf_Domains_b9.eq_1
def C.conf_Domains_c10 : ICode := .keep [3, 11, 12, 13] (.block 0 C.conf_Domains_b9)
def C.conf_Domains_c10_w := @awpE _ _ C.conf_Domains_c10.eq_1
def C.conf_Domains_r2_b : List IOper := [
 X.o 10 (.fldAddr 1 (X.s 1)),
 X.o 11 (.load1 (X.s 10)),
 X.o 12 (.len (X.s 11)),
 X.o 13 (.move (X.i 0))]
def C.conf_Domains_r2 : List IOper := C.conf_Domains_r2_b
def C.conf_Domains_r2_w := @aopsE _ _ C.conf_Domains_r2.eq_1
def C.conf_Domains_c11 : ICode := .keep [1, 3] (.seq (.seq (.region C.conf_Domains_r2) C.conf_Domains_c10) C.conf_Domains_c1)
def C.conf_Domains_c11_w := @awpE _ _ C.conf_Domains_c11.eq_1
def C.conf_Domains_r1_b : List IOper := [
 X.o 6 (.fldAddr 1 (X.s 1)),
 X.o 7 (.load1 (X.s 6)),
 X.o 8 (.len (X.s 7)),
 X.o 9 (.makeSlice 1 24 [.nils] (X.s 8) (X.s 8)),
 X.m 3 9]
def C.conf_Domains_r1 : List IOper := C.conf_Domains_r1_b
def C.conf_Domains_r1_w := @aopsE _ _ C.conf_Domains_r1.eq_1
def C.conf_Domains_c12 : ICode := .keep [1] (.seq (.region C.conf_Domains_r1) C.conf_Domains_c11)
def C.conf_Domains_c12_w := @awpE _ _ C.conf_Domains_c12.eq_1
def C.conf_Domains_r0_b : List IOper := [
 X.o 1 (.boxN (X.s 0)),
 X.o 2 (.move (.cst (.nils)))]
def C.conf_Domains_r0 : List IOper := C.conf_Domains_r0_b
def C.conf_Domains_r0_w := @aopsE _ _ C.conf_Domains_r0.eq_1
def C.conf_Domains : IFunc := ⟨1, [.slot 2], .seq (.region C.conf_Domains_r0) C.conf_Domains_c12⟩
def C.conf_Domains_W := And.intro (And.intro (And.intro (And.intro @C.conf_Domains_r8_w @C.conf_Domains_c1_w) (And.intro @C.conf_Domains_r7_w (And.intro @C.conf_Domains_c2_w @C.conf_Domains_r6_w))) (And.intro (And.intro @C.conf_Domains_c3_w @C.conf_Domains_r5_w) (And.intro @C.conf_Domains_c4_w (And.intro @C.conf_Domains_r4_w @C.conf_Domains_b5_w)))) (And.intro (And.intro (And.intro @C.conf_Domains_c6_w @C.conf_Domains_c7_w) (And.intro @C.conf_Domains_r3_w (And.intro @C.conf_Domains_b9_w @C.conf_Domains_c10_w))) (And.intro (And.intro @C.conf_Domains_r2_w @C.conf_Domains_c11_w) (And.intro @C.conf_Domains_r1_w (And.intro @C.conf_Domains_c12_w @C.conf_Domains_r0_w))))
def C.conf_Domains_B := And.intro (And.intro (And.intro @C.conf_Domains_r8_b.eq_1 @C.conf_Domains_r7_b.eq_1) (And.intro @C.conf_Domains_r6_b.eq_1 @C.conf_Domains_r5_b.eq_1)) (And.intro (And.intro @C.conf_Domains_r4_b.eq_1 @C.conf_Domains_r3_b.eq_1) (And.intro @C.conf_Domains_r2_b.eq_1 (And.intro @C.conf_Domains_r1_b.eq_1 @C.conf_Domains_r0_b.eq_1)))

def C.conf_Needs_r7_b : List IOper := [
 X.m 25 3,
 X.m 2 25]
def C.conf_Needs_r7 : List IOper := C.conf_Needs_r7_b
def C.conf_Needs_r7_w := @aopsE _ _ C.conf_Needs_r7.eq_1
def C.conf_Needs_c1 : ICode := .keep [3] (.seq (.region C.conf_Needs_r7) .ret)
def C.conf_Needs_c1_w := @awpE _ _ C.conf_Needs_c1.eq_1
def C.conf_Needs_r6_b : List IOper := [
 X.o 24 (.bin .add (X.s 13) (X.i 1)),
 X.m 13 24]
def C.conf_Needs_r6 : List IOper := C.conf_Needs_r6_b
def C.conf_Needs_r6_w := @aopsE _ _ C.conf_Needs_r6.eq_1
def C.conf_Needs_c2 : ICode := .keep [3, 11, 12, 13] (.region C.conf_Needs_r6)
def C.conf_Needs_c2_w := @awpE _ _ C.conf_Needs_c2.eq_1
def C.conf_Needs_r5_b : List IOper := [
 X.m 18 3,
 X.m 19 4,
 X.o 20 (.fldAddr 5 (X.s 5)),
 X.o 21 (.load1 (X.s 20)),
 X.o 22 (.call F.conf_own_int [X.s 21]),
 X.o 23 (.idxAddr 1 (X.s 18) (X.s 19)),
 X.n (.store1 (X.s 23) (X.s 22))]
def C.conf_Needs_r5 : List IOper := C.conf_Needs_r5_b
def C.conf_Needs_r5_w := @aopsE _ _ C.conf_Needs_r5.eq_1
def C.conf_Needs_c3 : ICode := .keep [3, 4, 5, 11, 12, 13] (.region C.conf_Needs_r5)
def C.conf_Needs_c3_w := @awpE _ _ C.conf_Needs_c3.eq_1
def C.conf_Needs_r4_b : List IOper := [
 X.m 15 13,
 X.o 16 (.idxAddr 6 (X.s 11) (X.s 13)),
 X.o 17 (.loadN 6 (X.s 16)),
 X.o 5 (.alloc [.int .i64 0, .int .i64 0, .int .i64 0, .int .u32 0, .nils, .nils]),
 X.m 4 15,
 X.n (.storeN 6 (X.s 5) (X.s 17))]
def C.conf_Needs_r4 : List IOper := C.conf_Needs_r4_b
def C.conf_Needs_r4_w := @aopsE _ _ C.conf_Needs_r4.eq_1
def C.conf_Needs_b4 : ICode := .seq (.region C.conf_Needs_r4) C.conf_Needs_c3
def C.conf_Needs_b4_w := @awpE _ _ C.conf_Needs_b4.eq_1
def C.conf_Needs_c5 : ICode := .keep [3, 11, 12, 13] (.seq (.block 1 C.conf_Needs_b4) C.conf_Needs_c2)
def C.conf_Needs_c5_w := @awpE _ _ C.conf_Needs_c5.eq_1
def C.conf_Needs_c6 : ICode := .keep [3, 11, 12, 13, 14] (.seq (.cond (X.s 14) .skip (.exit 0)) C.conf_Needs_c5)
def C.conf_Needs_c6_w := @awpE _ _ C.conf_Needs_c6.eq_1
def C.conf_Needs_r3_b : List IOper := [
 X.o 14 (.bin .lss (X.s 13) (X.s 12))]
def C.conf_Needs_r3 : List IOper := C.conf_Needs_r3_b
def C.conf_Needs_r3_w := @aopsE _ _ C.conf_Needs_r3.eq_1
def C.conf_Needs_l7 : ICode := .keep [3, 11, 12, 13] (.seq (.region C.conf_Needs_r3) C.conf_Needs_c6)
def C.conf_Needs_l7_w := @awpE _ _ C.conf_Needs_l7.eq_1
def C.conf_Needs_b8 : ICode := .loop C.conf_Needs_l7
def C.conf_Needs_b8_w := @awpE _ _ C.conf_Needs_b8.eq_1
def C.conf_Needs_c9 : ICode := .keep [3, 11, 12, 13] (.block 0 C.conf_Needs_b8)
def C.conf_Needs_c9_w := @awpE _ _ C.conf_Needs_c9.eq_1
def C.conf_Needs_r2_b : List IOper := [
 X.o 10 (.fldAddr 3 (X.s 1)),
 X.o 11 (.load1 (X.s 10)),
 X.o 12 (.len (X.s 11)),
 X.o 13 (.move (X.i 0))]
def C.conf_Needs_r2 : List IOper := C.conf_Needs_r2_b
def C.conf_Needs_r2_w := @aopsE _ _ C.conf_Needs_r2.eq_1
def C.conf_Needs_c10 : ICode := .keep [1, 3] (.seq (.seq (.region C.conf_Needs_r2) C.conf_Needs_c9) C.conf_Needs_c1)
def C.conf_Needs_c10_w := @awpE _ _ C.conf_Needs_c10.eq_1
def C.conf_Needs_r1_b : List IOper := [
 X.o 6 (.fldAddr 3 (X.s 1)),
 X.o 7 (.load1 (X.s 6)),
 X.o 8 (.len (X.s 7)),
 X.o 9 (.makeSlice 1 24 [.nils] (X.s 8) (X.s 8)),
 X.m 3 9]
def C.conf_Needs_r1 : List IOper := C.conf_Needs_r1_b
def C.conf_Needs_r1_w := @aopsE _ _ C.conf_Needs_r1.eq_1
def C.conf_Needs_c11 : ICode := .keep [1] (.seq (.region C.conf_Needs_r1) C.conf_Needs_c10)
def C.conf_Needs_c11_w := @awpE _ _ C.conf_Needs_c11.eq_1
def C.conf_Needs_r0_b : List IOper := [
 X.o 1 (.boxN (X.s 0)),
 X.o 2 (.move (.cst (.nils)))]
def C.conf_Needs_r0 : List IOper := C.conf_Needs_r0_b
def C.conf_Needs_r0_w := @aopsE _ _ C.conf_Needs_r0.eq_1
def C.conf_Needs : IFunc := ⟨1, [.slot 2], .seq (.region C.conf_Needs_r0) C.conf_Needs_c11⟩
def C.conf_Needs_W := And.intro (And.intro (And.intro (And.intro @C.conf_Needs_r7_w @C.conf_Needs_c1_w) (And.intro @C.conf_Needs_r6_w @C.conf_Needs_c2_w)) (And.intro (And.intro @C.conf_Needs_r5_w @C.conf_Needs_c3_w) (And.intro @C.conf_Needs_r4_w (And.intro @C.conf_Needs_b4_w @C.conf_Needs_c5_w)))) (And.intro (And.intro (And.intro @C.conf_Needs_c6_w @C.conf_Needs_r3_w) (And.intro @C.conf_Needs_b8_w @C.conf_Needs_c9_w)) (And.intro (And.intro @C.conf_Needs_r2_w @C.conf_Needs_c10_w) (And.intro @C.conf_Needs_r1_w (And.intro @C.conf_Needs_c11_w @C.conf_Needs_r0_w))))
def C.conf_Needs_B := And.intro (And.intro (And.intro @C.conf_Needs_r7_b.eq_1 @C.conf_Needs_r6_b.eq_1) (And.intro @C.conf_Needs_r5_b.eq_1 @C.conf_Needs_r4_b.eq_1)) (And.intro (And.intro @C.conf_Needs_r3_b.eq_1 @C.conf_Needs_r2_b.eq_1) (And.intro @C.conf_Needs_r1_b.eq_1 @C.conf_Needs_r0_b.eq_1))

def C.graph_Order_r20_b : List IOper := [
 X.m 73 8,
 X.m 2 73,
 X.o 3 (.move (X.i 0))]
def C.graph_Order_r20 : List IOper := C.graph_Order_r20_b
def C.graph_Order_r20_w := @aopsE _ _ C.graph_Order_r20.eq_1
def C.graph_Order_c1 : ICode := .keep [8] (.seq (.region C.graph_Order_r20) .ret)
def C.graph_Order_c1_w := @awpE _ _ C.graph_Order_c1.eq_1
def C.graph_Order_r19_b : List IOper := [
 X.o 72 (.bin .add (X.s 62) (X.i 1)),
 X.m 62 72]
def C.graph_Order_r19 : List IOper := C.graph_Order_r19_b
def C.graph_Order_r19_w := @aopsE _ _ C.graph_Order_r19.eq_1
def C.graph_Order_c2 : ICode := .keep [0, 5, 6, 7, 8, 60, 61, 62] (.region C.graph_Order_r19)
def C.graph_Order_c2_w := @awpE _ _ C.graph_Order_c2.eq_1
def C.graph_Order_r18_b : List IOper := [
 X.m 66 5,
 X.m 67 11,
 X.o 68 (.idxAddr 1 (X.s 66) (X.s 67)),
 X.o 69 (.load1 (X.s 68)),
 X.o 70 (.bin .sub (X.s 69) (X.i 1)),
 X.o 71 (.idxAddr 1 (X.s 66) (X.s 67)),
 X.n (.store1 (X.s 71) (X.s 70))]
def C.graph_Order_r18 : List IOper := C.graph_Order_r18_b
def C.graph_Order_r18_w := @aopsE _ _ C.graph_Order_r18.eq_1
def C.graph_Order_c3 : ICode := .keep [0, 5, 6, 7, 8, 11, 60, 61, 62] (.region C.graph_Order_r18)
def C.graph_Order_c3_w := @awpE _ _ C.graph_Order_c3.eq_1
def C.graph_Order_r17_b : List IOper := [
 X.o 64 (.idxAddr 1 (X.s 60) (X.s 62)),
 X.o 65 (.load1 (X.s 64)),
 X.m 11 65]
def C.graph_Order_r17 : List IOper := C.graph_Order_r17_b
def C.graph_Order_r17_w := @aopsE _ _ C.graph_Order_r17.eq_1
def C.graph_Order_b4 : ICode := .seq (.region C.graph_Order_r17) C.graph_Order_c3
def C.graph_Order_b4_w := @awpE _ _ C.graph_Order_b4.eq_1
def C.graph_Order_c5 : ICode := .keep [0, 5, 6, 7, 8, 60, 61, 62] (.seq (.block 5 C.graph_Order_b4) C.graph_Order_c2)
def C.graph_Order_c5_w := @awpE _ _ C.graph_Order_c5.eq_1
def C.graph_Order_c6 : ICode := .keep [0, 5, 6, 7, 8, 60, 61, 62, 63] (.seq (.cond (X.s 63) .skip (.exit 4)) C.graph_Order_c5)
def C.graph_Order_c6_w := @awpE _ _ C.graph_Order_c6.eq_1
def C.graph_Order_r16_b : List IOper := [
 X.o 63 (.bin .lss (X.s 62) (X.s 61))]
def C.graph_Order_r16 : List IOper := C.graph_Order_r16_b
def C.graph_Order_r16_w := @aopsE _ _ C.graph_Order_r16.eq_1
def C.graph_Order_l7 : ICode := .keep [0, 5, 6, 7, 8, 60, 61, 62] (.seq (.region C.graph_Order_r16) C.graph_Order_c6)
def C.graph_Order_l7_w := @awpE _ _ C.graph_Order_l7.eq_1
def C.graph_Order_b8 : ICode := .loop C.graph_Order_l7
def C.graph_Order_b8_w := @awpE _ _ C.graph_Order_b8.eq_1
def C.graph_Order_c9 : ICode := .keep [0, 5, 6, 7, 8, 60, 61, 62] (.block 4 C.graph_Order_b8)
def C.graph_Order_c9_w := @awpE _ _ C.graph_Order_c9.eq_1
def C.graph_Order_r15_b : List IOper := [
 X.m 57 6,
 X.m 58 9,
 X.o 59 (.idxAddr 1 (X.s 57) (X.s 58)),
 X.o 60 (.load1 (X.s 59)),
 X.o 61 (.len (X.s 60)),
 X.o 62 (.move (X.i 0))]
def C.graph_Order_r15 : List IOper := C.graph_Order_r15_b
def C.graph_Order_r15_w := @aopsE _ _ C.graph_Order_r15.eq_1
def C.graph_Order_c10 : ICode := .keep [0, 5, 6, 7, 8, 9] (.seq (.region C.graph_Order_r15) C.graph_Order_c9)
def C.graph_Order_c10_w := @awpE _ _ C.graph_Order_c10.eq_1
def C.graph_Order_r14_b : List IOper := [
 X.m 53 8,
 X.m 54 9,
 X.o 55 (.buildSlice 1 1 [.int .i64 0] [(0, 1, X.s 54)]),
 X.o 56 (.append 1 8 (X.s 53) (X.s 55)),
 X.m 8 56]
def C.graph_Order_r14 : List IOper := C.graph_Order_r14_b
def C.graph_Order_r14_w := @aopsE _ _ C.graph_Order_r14.eq_1
def C.graph_Order_c11 : ICode := .keep [0, 5, 6, 7, 8, 9] (.seq (.region C.graph_Order_r14) C.graph_Order_c10)
def C.graph_Order_c11_w := @awpE _ _ C.graph_Order_c11.eq_1
def C.graph_Order_r13_b : List IOper := [
 X.m 50 7,
 X.m 51 9,
 X.o 52 (.call F.graph_marks_add [X.s 50, X.s 51])]
def C.graph_Order_r13 : List IOper := C.graph_Order_r13_b
def C.graph_Order_r13_w := @aopsE _ _ C.graph_Order_r13.eq_1
def C.graph_Order_c12 : ICode := .keep [0, 5, 6, 7, 8, 9] (.seq (.region C.graph_Order_r13) C.graph_Order_c11)
def C.graph_Order_c12_w := @awpE _ _ C.graph_Order_c12.eq_1
def C.graph_Order_r12_b : List IOper := [
 X.o 2 (.move (.cst (.nils))),
 X.o 3 (.move (X.i 5))]
def C.graph_Order_r12 : List IOper := C.graph_Order_r12_b
def C.graph_Order_r12_w := @aopsE _ _ C.graph_Order_r12.eq_1
def C.graph_Order_c13 : ICode := .seq (.region C.graph_Order_r12) .ret
def C.graph_Order_c13_w := @awpE _ _ C.graph_Order_c13.eq_1
def C.graph_Order_c14 : ICode := .keep [0, 5, 6, 7, 8, 9, 49] (.cond (X.s 49) C.graph_Order_c13 .skip)
def C.graph_Order_c14_w := @awpE _ _ C.graph_Order_c14.eq_1
def C.graph_Order_r11_b : List IOper := [
 X.m 46 9,
 X.m 47 0,
 X.o 48 (.len (X.s 47)),
 X.o 49 (.bin .eql (X.s 46) (X.s 48))]
def C.graph_Order_r11 : List IOper := C.graph_Order_r11_b
def C.graph_Order_r11_w := @aopsE _ _ C.graph_Order_r11.eq_1
def C.graph_Order_c15 : ICode := .keep [0, 5, 6, 7, 8, 9] (.seq (.seq (.region C.graph_Order_r11) C.graph_Order_c14) C.graph_Order_c12)
def C.graph_Order_c15_w := @awpE _ _ C.graph_Order_c15.eq_1
def C.graph_Order_r10_b : List IOper := [
 X.m 44 9,
 X.o 45 (.bin .add (X.s 44) (X.i 1)),
 X.m 9 45]
def C.graph_Order_r10 : List IOper := C.graph_Order_r10_b
def C.graph_Order_r10_w := @aopsE _ _ C.graph_Order_r10.eq_1
def C.graph_Order_b16 : ICode := .region C.graph_Order_r10
def C.graph_Order_b16_w := @awpE _ _ C.graph_Order_b16.eq_1
def C.graph_Order_c17 : ICode := .keep [0, 5, 6, 7, 8, 9] (.block 3 C.graph_Order_b16)
def C.graph_Order_c17_w := @awpE _ _ C.graph_Order_c17.eq_1
def C.graph_Order_c18 : ICode := .keep [0, 5, 6, 7, 8, 9, 43] (.cond (X.s 43) .skip (.exit 2))
def C.graph_Order_c18_w := @awpE _ _ C.graph_Order_c18.eq_1
def C.graph_Order_r9_b : List IOper := [
 X.m 28 9,
 X.m 29 0,
 X.o 30 (.len (X.s 29)),
 X.o 31 (.bin .lss (X.s 28) (X.s 30)),
 X.m 32 31,
 X.t 32 33 (.move (X.s 7)),
 X.t 32 34 (.move (X.s 9)),
 X.t 32 35 (.call F.graph_marks_has [X.s 33, X.s 34]),
 X.t 32 36 (.move (X.s 35)),
 X.f 36 37 (.move (X.s 5)),
 X.f 36 38 (.move (X.s 9)),
 X.f 36 39 (.idxAddr 1 (X.s 37) (X.s 38)),
 X.f 36 40 (.load1 (X.s 39)),
 X.f 36 41 (.bin .gtr (X.s 40) (X.i 0)),
 X.t 32 42 (.pick (X.s 36) (.cst (.bool true)) (X.s 41)),
 X.o 43 (.pick (X.s 32) (X.s 42) (.cst (.bool false)))]
def C.graph_Order_r9 : List IOper := C.graph_Order_r9_b
def C.graph_Order_r9_w := @aopsE _ _ C.graph_Order_r9.eq_1
def C.graph_Order_l19 : ICode := .keep [0, 5, 6, 7, 8, 9] (.seq (.seq (.region C.graph_Order_r9) C.graph_Order_c18) C.graph_Order_c17)
def C.graph_Order_l19_w := @awpE _ _ C.graph_Order_l19.eq_1
def C.graph_Order_b20 : ICode := .loop C.graph_Order_l19
def C.graph_Order_b20_w := @awpE _ _ C.graph_Order_b20.eq_1
def C.graph_Order_c21 : ICode := .keep [0, 5, 6, 7, 8, 9] (.seq (.block 2 C.graph_Order_b20) C.graph_Order_c15)
def C.graph_Order_c21_w := @awpE _ _ C.graph_Order_c21.eq_1
def C.graph_Order_r8_b : List IOper := [
 X.o 9 (.move (X.i 0))]
def C.graph_Order_r8 : List IOper := C.graph_Order_r8_b
def C.graph_Order_r8_w := @aopsE _ _ C.graph_Order_r8.eq_1
def C.graph_Order_b22 : ICode := .seq (.region C.graph_Order_r8) C.graph_Order_c21
def C.graph_Order_b22_w := @awpE _ _ C.graph_Order_b22.eq_1
def C.graph_Order_c23 : ICode := .keep [0, 5, 6, 7, 8] (.block 1 C.graph_Order_b22)
def C.graph_Order_c23_w := @awpE _ _ C.graph_Order_c23.eq_1
def C.graph_Order_c24 : ICode := .keep [0, 5, 6, 7, 8, 27] (.cond (X.s 27) .skip (.exit 0))
def C.graph_Order_c24_w := @awpE _ _ C.graph_Order_c24.eq_1
def C.graph_Order_r7_b : List IOper := [
 X.m 23 8,
 X.o 24 (.len (X.s 23)),
 X.m 25 0,
 X.o 26 (.len (X.s 25)),
 X.o 27 (.bin .lss (X.s 24) (X.s 26))]
def C.graph_Order_r7 : List IOper := C.graph_Order_r7_b
def C.graph_Order_r7_w := @aopsE _ _ C.graph_Order_r7.eq_1
def C.graph_Order_l25 : ICode := .keep [0, 5, 6, 7, 8] (.seq (.seq (.region C.graph_Order_r7) C.graph_Order_c24) C.graph_Order_c23)
def C.graph_Order_l25_w := @awpE _ _ C.graph_Order_l25.eq_1
def C.graph_Order_b26 : ICode := .loop C.graph_Order_l25
def C.graph_Order_b26_w := @awpE _ _ C.graph_Order_b26.eq_1
def C.graph_Order_c27 : ICode := .keep [0, 5, 6, 7, 8] (.seq (.block 0 C.graph_Order_b26) C.graph_Order_c1)
def C.graph_Order_c27_w := @awpE _ _ C.graph_Order_c27.eq_1
def C.graph_Order_r6_b : List IOper := [
 X.o 8 (.move (.cst (.nils)))]
def C.graph_Order_r6 : List IOper := C.graph_Order_r6_b
def C.graph_Order_r6_w := @aopsE _ _ C.graph_Order_r6.eq_1
def C.graph_Order_c28 : ICode := .keep [0, 5, 6, 7] (.seq (.region C.graph_Order_r6) C.graph_Order_c27)
def C.graph_Order_c28_w := @awpE _ _ C.graph_Order_c28.eq_1
def C.graph_Order_r5_b : List IOper := [
 X.o 22 (.makeMap none),
 X.m 7 22]
def C.graph_Order_r5 : List IOper := C.graph_Order_r5_b
def C.graph_Order_r5_w := @aopsE _ _ C.graph_Order_r5.eq_1
def C.graph_Order_c29 : ICode := .keep [0, 5, 6] (.seq (.region C.graph_Order_r5) C.graph_Order_c28)
def C.graph_Order_c29_w := @awpE _ _ C.graph_Order_c29.eq_1
def C.graph_Order_r4_b : List IOper := [
 X.m 18 0,
 X.o 19 (.call F.graph_hang [X.s 18]),
 X.m 17 19,
 X.o 20 (.extract (X.s 17) 0),
 X.o 21 (.extract (X.s 17) 1),
 X.m 5 20,
 X.m 6 21]
def C.graph_Order_r4 : List IOper := C.graph_Order_r4_b
def C.graph_Order_r4_w := @aopsE _ _ C.graph_Order_r4.eq_1
def C.graph_Order_c30 : ICode := .keep [0] (.seq (.region C.graph_Order_r4) C.graph_Order_c29)
def C.graph_Order_c30_w := @awpE _ _ C.graph_Order_c30.eq_1
def C.graph_Order_r3_b : List IOper := [
 X.m 16 4,
 X.o 2 (.move (.cst (.nils))),
 X.m 3 16]
def C.graph_Order_r3 : List IOper := C.graph_Order_r3_b
def C.graph_Order_r3_w := @aopsE _ _ C.graph_Order_r3.eq_1
def C.graph_Order_c31 : ICode := .seq (.region C.graph_Order_r3) .ret
def C.graph_Order_c31_w := @awpE _ _ C.graph_Order_c31.eq_1
def C.graph_Order_c32 : ICode := .keep [0, 4, 15] (.cond (X.s 15) C.graph_Order_c31 .skip)
def C.graph_Order_c32_w := @awpE _ _ C.graph_Order_c32.eq_1
def C.graph_Order_r2_b : List IOper := [
 X.m 14 4,
 X.o 15 (.bin .neq (X.s 14) (X.i 0))]
def C.graph_Order_r2 : List IOper := C.graph_Order_r2_b
def C.graph_Order_r2_w := @aopsE _ _ C.graph_Order_r2.eq_1
def C.graph_Order_c33 : ICode := .keep [0, 4] (.seq (.region C.graph_Order_r2) C.graph_Order_c32)
def C.graph_Order_c33_w := @awpE _ _ C.graph_Order_c33.eq_1
def C.graph_Order_r1_b : List IOper := [
 X.m 12 0,
 X.o 13 (.call F.graph_numbers [X.s 12]),
 X.m 4 13]
def C.graph_Order_r1 : List IOper := C.graph_Order_r1_b
def C.graph_Order_r1_w := @aopsE _ _ C.graph_Order_r1.eq_1
def C.graph_Order_c34 : ICode := .keep [0] (.seq (.seq (.region C.graph_Order_r1) C.graph_Order_c33) C.graph_Order_c30)
def C.graph_Order_c34_w := @awpE _ _ C.graph_Order_c34.eq_1
def C.graph_Order_r0_b : List IOper := [
 X.o 2 (.move (.cst (.nils))),
 X.o 3 (.move (X.i 0))]
def C.graph_Order_r0 : List IOper := C.graph_Order_r0_b
def C.graph_Order_r0_w := @aopsE _ _ C.graph_Order_r0.eq_1
def C.graph_Order : IFunc := ⟨1, [.slot 2, .slot 3], .seq (.region C.graph_Order_r0) C.graph_Order_c34⟩
def C.graph_Order_W := And.intro (And.intro (And.intro (And.intro (And.intro @C.graph_Order_r20_w (And.intro @C.graph_Order_c1_w @C.graph_Order_r19_w)) (And.intro @C.graph_Order_c2_w (And.intro @C.graph_Order_r18_w @C.graph_Order_c3_w))) (And.intro (And.intro @C.graph_Order_r17_w (And.intro @C.graph_Order_b4_w @C.graph_Order_c5_w)) (And.intro (And.intro @C.graph_Order_c6_w @C.graph_Order_r16_w) (And.intro @C.graph_Order_b8_w @C.graph_Order_c9_w)))) (And.intro (And.intro (And.intro @C.graph_Order_r15_w (And.intro @C.graph_Order_c10_w @C.graph_Order_r14_w)) (And.intro @C.graph_Order_c11_w (And.intro @C.graph_Order_r13_w @C.graph_Order_c12_w))) (And.intro (And.intro @C.graph_Order_r12_w (And.intro @C.graph_Order_c13_w @C.graph_Order_c14_w)) (And.intro (And.intro @C.graph_Order_r11_w @C.graph_Order_c15_w) (And.intro @C.graph_Order_r10_w @C.graph_Order_b16_w))))) (And.intro (And.intro (And.intro (And.intro @C.graph_Order_c17_w (And.intro @C.graph_Order_c18_w @C.graph_Order_r9_w)) (And.intro @C.graph_Order_b20_w (And.intro @C.graph_Order_c21_w @C.graph_Order_r8_w))) (And.intro (And.intro @C.graph_Order_b22_w (And.intro @C.graph_Order_c23_w @C.graph_Order_c24_w)) (And.intro (And.intro @C.graph_Order_r7_w @C.graph_Order_b26_w) (And.intro @C.graph_Order_c27_w @C.graph_Order_r6_w)))) (And.intro (And.intro (And.intro @C.graph_Order_c28_w (And.intro @C.graph_Order_r5_w @C.graph_Order_c29_w)) (And.intro @C.graph_Order_r4_w (And.intro @C.graph_Order_c30_w @C.graph_Order_r3_w))) (And.intro (And.intro @C.graph_Order_c31_w (And.intro @C.graph_Order_c32_w @C.graph_Order_r2_w)) (And.intro (And.intro @C.graph_Order_c33_w @C.graph_Order_r1_w) (And.intro @C.graph_Order_c34_w @C.graph_Order_r0_w)))))
def C.graph_Order_B := And.intro (And.intro (And.intro (And.intro @C.graph_Order_r20_b.eq_1 @C.graph_Order_r19_b.eq_1) (And.intro @C.graph_Order_r18_b.eq_1 (And.intro @C.graph_Order_r17_b.eq_1 @C.graph_Order_r16_b.eq_1))) (And.intro (And.intro @C.graph_Order_r15_b.eq_1 @C.graph_Order_r14_b.eq_1) (And.intro @C.graph_Order_r13_b.eq_1 (And.intro @C.graph_Order_r12_b.eq_1 @C.graph_Order_r11_b.eq_1)))) (And.intro (And.intro (And.intro @C.graph_Order_r10_b.eq_1 @C.graph_Order_r9_b.eq_1) (And.intro @C.graph_Order_r8_b.eq_1 (And.intro @C.graph_Order_r7_b.eq_1 @C.graph_Order_r6_b.eq_1))) (And.intro (And.intro @C.graph_Order_r5_b.eq_1 (And.intro @C.graph_Order_r4_b.eq_1 @C.graph_Order_r3_b.eq_1)) (And.intro @C.graph_Order_r2_b.eq_1 (And.intro @C.graph_Order_r1_b.eq_1 @C.graph_Order_r0_b.eq_1))))

def C.conf_Copy_r13_b : List IOper := [
 X.o 66 (.loadN 4 (X.s 3)),
 X.n (.storeN 4 (X.s 2) (X.s 66))]
def C.conf_Copy_r13 : List IOper := C.conf_Copy_r13_b
def C.conf_Copy_r13_w := @aopsE _ _ C.conf_Copy_r13.eq_1
def C.conf_Copy_c1 : ICode := .keep [2, 3] (.seq (.region C.conf_Copy_r13) .ret)
def C.conf_Copy_c1_w := @awpE _ _ C.conf_Copy_c1.eq_1
def C.conf_Copy_r12_b : List IOper := [
 X.o 65 (.bin .add (X.s 42) (X.i 1)),
 X.m 42 65]
def C.conf_Copy_r12 : List IOper := C.conf_Copy_r12_b
def C.conf_Copy_r12_w := @aopsE _ _ C.conf_Copy_r12.eq_1
def C.conf_Copy_c2 : ICode := .keep [2, 3, 41, 42] (.region C.conf_Copy_r12)
def C.conf_Copy_c2_w := @awpE _ _ C.conf_Copy_c2.eq_1
def C.conf_Copy_r11_b : List IOper := [
 X.m 49 6,
 X.m 50 6,
 X.m 51 6,
 X.o 52 (.nilchk (X.s 51)),
 X.o 53 (.fldAddr 4 (X.s 52)),
 X.o 54 (.load1 (X.s 53)),
 X.m 56 6,
 X.o 57 (.nilchk (X.s 56)),
 X.o 58 (.fldAddr 5 (X.s 57)),
 X.o 59 (.load1 (X.s 58)),
 ⟨some 55, .call F.conf_own_api_Reg [X.s 54], none, [⟨.load1 (X.s 58), 59, none⟩], []⟩,
 X.o 60 (.call F.conf_own_int [X.s 59]),
 X.o 61 (.nilchk (X.s 49)),
 X.o 62 (.fldAddr 4 (X.s 61)),
 X.n (.store1 (X.s 62) (X.s 55)),
 X.o 63 (.nilchk (X.s 50)),
 X.o 64 (.fldAddr 5 (X.s 63)),
 X.n (.store1 (X.s 64) (X.s 60))]
def C.conf_Copy_r11 : List IOper := C.conf_Copy_r11_b
def C.conf_Copy_r11_w := @aopsE _ _ C.conf_Copy_r11.eq_1
def C.conf_Copy_c3 : ICode := .keep [2, 3, 6, 41, 42] (.region C.conf_Copy_r11)
def C.conf_Copy_c3_w := @awpE _ _ C.conf_Copy_c3.eq_1
def C.conf_Copy_r10_b : List IOper := [
 X.o 45 (.fldAddr 3 (X.s 3)),
 X.o 46 (.load1 (X.s 45)),
 X.m 47 5,
 X.o 48 (.idxAddr 6 (X.s 46) (X.s 47)),
 X.m 6 48]
def C.conf_Copy_r10 : List IOper := C.conf_Copy_r10_b
def C.conf_Copy_r10_w := @aopsE _ _ C.conf_Copy_r10.eq_1
def C.conf_Copy_c4 : ICode := .keep [2, 3, 5, 41, 42] (.seq (.region C.conf_Copy_r10) C.conf_Copy_c3)
def C.conf_Copy_c4_w := @awpE _ _ C.conf_Copy_c4.eq_1
def C.conf_Copy_r9_b : List IOper := [
 X.m 44 42,
 X.m 5 44]
def C.conf_Copy_r9 : List IOper := C.conf_Copy_r9_b
def C.conf_Copy_r9_w := @aopsE _ _ C.conf_Copy_r9.eq_1
def C.conf_Copy_b5 : ICode := .seq (.region C.conf_Copy_r9) C.conf_Copy_c4
def C.conf_Copy_b5_w := @awpE _ _ C.conf_Copy_b5.eq_1
def C.conf_Copy_c6 : ICode := .keep [2, 3, 41, 42] (.seq (.block 3 C.conf_Copy_b5) C.conf_Copy_c2)
def C.conf_Copy_c6_w := @awpE _ _ C.conf_Copy_c6.eq_1
def C.conf_Copy_c7 : ICode := .keep [2, 3, 41, 42, 43] (.seq (.cond (X.s 43) .skip (.exit 2)) C.conf_Copy_c6)
def C.conf_Copy_c7_w := @awpE _ _ C.conf_Copy_c7.eq_1
def C.conf_Copy_r8_b : List IOper := [
 X.o 43 (.bin .lss (X.s 42) (X.s 41))]
def C.conf_Copy_r8 : List IOper := C.conf_Copy_r8_b
def C.conf_Copy_r8_w := @aopsE _ _ C.conf_Copy_r8.eq_1
def C.conf_Copy_l8 : ICode := .keep [2, 3, 41, 42] (.seq (.region C.conf_Copy_r8) C.conf_Copy_c7)
def C.conf_Copy_l8_w := @awpE _ _ C.conf_Copy_l8.eq_1
def C.conf_Copy_b9 : ICode := .loop C.conf_Copy_l8
def C.conf_Copy_b9_w := @awpE _ _ C.conf_Copy_b9.eq_1
def C.conf_Copy_c10 : ICode := .keep [2, 3, 41, 42] (.block 2 C.conf_Copy_b9)
def C.conf_Copy_c10_w := @awpE _ _ C.conf_Copy_c10.eq_1
def C.conf_Copy_r7_b : List IOper := [
 X.o 39 (.fldAddr 3 (X.s 3)),
 X.o 40 (.load1 (X.s 39)),
 X.o 41 (.len (X.s 40)),
 X.o 42 (.move (X.i 0))]
def C.conf_Copy_r7 : List IOper := C.conf_Copy_r7_b
def C.conf_Copy_r7_w := @aopsE _ _ C.conf_Copy_r7.eq_1
def C.conf_Copy_c11 : ICode := .keep [2, 3] (.seq (.seq (.region C.conf_Copy_r7) C.conf_Copy_c10) C.conf_Copy_c1)
def C.conf_Copy_c11_w := @awpE _ _ C.conf_Copy_c11.eq_1
def C.conf_Copy_r6_b : List IOper := [
 X.o 38 (.bin .add (X.s 23) (X.i 1)),
 X.m 23 38]
def C.conf_Copy_r6 : List IOper := C.conf_Copy_r6_b
def C.conf_Copy_r6_w := @aopsE _ _ C.conf_Copy_r6.eq_1
def C.conf_Copy_c12 : ICode := .keep [2, 3, 22, 23] (.region C.conf_Copy_r6)
def C.conf_Copy_c12_w := @awpE _ _ C.conf_Copy_c12.eq_1
def C.conf_Copy_r5_b : List IOper := [
 X.o 26 (.fldAddr 0 (X.s 3)),
 X.o 27 (.load1 (X.s 26)),
 X.m 28 4,
 X.o 29 (.fldAddr 0 (X.s 3)),
 X.o 30 (.load1 (X.s 29)),
 X.m 31 4,
 X.o 32 (.idxAddr 6 (X.s 30) (X.s 31)),
 X.o 33 (.fldAddr 1 (X.s 32)),
 X.o 34 (.load1 (X.s 33)),
 ⟨some 35, .call F.conf_own_int [X.s 34], none, [⟨.load1 (X.s 26), 27, none⟩], []⟩,
 X.o 36 (.idxAddr 6 (X.s 27) (X.s 28)),
 X.o 37 (.fldAddr 1 (X.s 36)),
 X.n (.store1 (X.s 37) (X.s 35))]
def C.conf_Copy_r5 : List IOper := C.conf_Copy_r5_b
def C.conf_Copy_r5_w := @aopsE _ _ C.conf_Copy_r5.eq_1
def C.conf_Copy_c13 : ICode := .keep [2, 3, 4, 22, 23] (.region C.conf_Copy_r5)
def C.conf_Copy_c13_w := @awpE _ _ C.conf_Copy_c13.eq_1
def C.conf_Copy_r4_b : List IOper := [
 X.m 25 23,
 X.m 4 25]
def C.conf_Copy_r4 : List IOper := C.conf_Copy_r4_b
def C.conf_Copy_r4_w := @aopsE _ _ C.conf_Copy_r4.eq_1
def C.conf_Copy_b14 : ICode := .seq (.region C.conf_Copy_r4) C.conf_Copy_c13
def C.conf_Copy_b14_w := @awpE _ _ C.conf_Copy_b14.eq_1
def C.conf_Copy_c15 : ICode := .keep [2, 3, 22, 23] (.seq (.block 1 C.conf_Copy_b14) C.conf_Copy_c12)
def C.conf_Copy_c15_w := @awpE _ _ C.conf_Copy_c15.eq_1
def C.conf_Copy_c16 : ICode := .keep [2, 3, 22, 23, 24] (.seq (.cond (X.s 24) .skip (.exit 0)) C.conf_Copy_c15)
def C.conf_Copy_c16_w := @awpE _ _ C.conf_Copy_c16.eq_1
def C.conf_Copy_r3_b : List IOper := [
 X.o 24 (.bin .lss (X.s 23) (X.s 22))]
def C.conf_Copy_r3 : List IOper := C.conf_Copy_r3_b
def C.conf_Copy_r3_w := @aopsE _ _ C.conf_Copy_r3.eq_1
def C.conf_Copy_l17 : ICode := .keep [2, 3, 22, 23] (.seq (.region C.conf_Copy_r3) C.conf_Copy_c16)
def C.conf_Copy_l17_w := @awpE _ _ C.conf_Copy_l17.eq_1
def C.conf_Copy_b18 : ICode := .loop C.conf_Copy_l17
def C.conf_Copy_b18_w := @awpE _ _ C.conf_Copy_b18.eq_1
def C.conf_Copy_c19 : ICode := .keep [2, 3, 22, 23] (.block 0 C.conf_Copy_b18)
def C.conf_Copy_c19_w := @awpE _ _ C.conf_Copy_c19.eq_1
def C.conf_Copy_r2_b : List IOper := [
 X.o 20 (.fldAddr 0 (X.s 3)),
 X.o 21 (.load1 (X.s 20)),
 X.o 22 (.len (X.s 21)),
 X.o 23 (.move (X.i 0))]
def C.conf_Copy_r2 : List IOper := C.conf_Copy_r2_b
def C.conf_Copy_r2_w := @aopsE _ _ C.conf_Copy_r2.eq_1
def C.conf_Copy_c20 : ICode := .keep [2, 3] (.seq (.seq (.region C.conf_Copy_r2) C.conf_Copy_c19) C.conf_Copy_c11)
def C.conf_Copy_c20_w := @awpE _ _ C.conf_Copy_c20.eq_1
def C.conf_Copy_r1_b : List IOper := [
 X.o 7 (.fldAddr 0 (X.s 1)),
 X.o 8 (.load1 (X.s 7)),
 X.o 10 (.fldAddr 1 (X.s 1)),
 X.o 11 (.load1 (X.s 10)),
 X.o 13 (.fldAddr 2 (X.s 1)),
 X.o 14 (.load1 (X.s 13)),
 X.o 16 (.fldAddr 3 (X.s 1)),
 X.o 17 (.load1 (X.s 16)),
 ⟨some 9, .call F.conf_own_api_Clock [X.s 8], none, [⟨.load1 (X.s 10), 11, none⟩, ⟨.load1 (X.s 13), 14, none⟩, ⟨.load1 (X.s 16), 17, none⟩], []⟩,
 ⟨some 12, .call F.conf_own_api_Domain [X.s 11], none, [⟨.load1 (X.s 13), 14, none⟩, ⟨.load1 (X.s 16), 17, none⟩], []⟩,
 ⟨some 15, .call F.conf_own_api_Reset [X.s 14], none, [⟨.load1 (X.s 16), 17, none⟩], []⟩,
 X.o 18 (.call F.conf_own_api_Device [X.s 17]),
 X.o 19 (.build [.nils, .nils, .nils, .nils] [(0, 1, X.s 9), (1, 1, X.s 12), (2, 1, X.s 15), (3, 1, X.s 18)]),
 X.o 3 (.alloc [.nils, .nils, .nils, .nils]),
 X.n (.storeN 4 (X.s 3) (X.s 19))]
def C.conf_Copy_r1 : List IOper := C.conf_Copy_r1_b
def C.conf_Copy_r1_w := @aopsE _ _ C.conf_Copy_r1.eq_1
def C.conf_Copy_c21 : ICode := .keep [1, 2] (.seq (.region C.conf_Copy_r1) C.conf_Copy_c20)
def C.conf_Copy_c21_w := @awpE _ _ C.conf_Copy_c21.eq_1
def C.conf_Copy_r0_b : List IOper := [
 X.o 1 (.boxN (X.s 0)),
 X.o 2 (.alloc [.nils, .nils, .nils, .nils])]
def C.conf_Copy_r0 : List IOper := C.conf_Copy_r0_b
def C.conf_Copy_r0_w := @aopsE _ _ C.conf_Copy_r0.eq_1
def C.conf_Copy : IFunc := ⟨1, [.cellN 2 4], .seq (.region C.conf_Copy_r0) C.conf_Copy_c21⟩
def C.conf_Copy_W := And.intro (And.intro (And.intro (And.intro (And.intro @C.conf_Copy_r13_w @C.conf_Copy_c1_w) (And.intro @C.conf_Copy_r12_w @C.conf_Copy_c2_w)) (And.intro (And.intro @C.conf_Copy_r11_w @C.conf_Copy_c3_w) (And.intro @C.conf_Copy_r10_w @C.conf_Copy_c4_w))) (And.intro (And.intro (And.intro @C.conf_Copy_r9_w @C.conf_Copy_b5_w) (And.intro @C.conf_Copy_c6_w @C.conf_Copy_c7_w)) (And.intro (And.intro @C.conf_Copy_r8_w @C.conf_Copy_b9_w) (And.intro @C.conf_Copy_c10_w @C.conf_Copy_r7_w)))) (And.intro (And.intro (And.intro (And.intro @C.conf_Copy_c11_w @C.conf_Copy_r6_w) (And.intro @C.conf_Copy_c12_w @C.conf_Copy_r5_w)) (And.intro (And.intro @C.conf_Copy_c13_w @C.conf_Copy_r4_w) (And.intro @C.conf_Copy_b14_w @C.conf_Copy_c15_w))) (And.intro (And.intro (And.intro @C.conf_Copy_c16_w @C.conf_Copy_r3_w) (And.intro @C.conf_Copy_b18_w @C.conf_Copy_c19_w)) (And.intro (And.intro @C.conf_Copy_r2_w @C.conf_Copy_c20_w) (And.intro @C.conf_Copy_r1_w (And.intro @C.conf_Copy_c21_w @C.conf_Copy_r0_w)))))
def C.conf_Copy_B := And.intro (And.intro (And.intro @C.conf_Copy_r13_b.eq_1 (And.intro @C.conf_Copy_r12_b.eq_1 @C.conf_Copy_r11_b.eq_1)) (And.intro (And.intro @C.conf_Copy_r10_b.eq_1 @C.conf_Copy_r9_b.eq_1) (And.intro @C.conf_Copy_r8_b.eq_1 @C.conf_Copy_r7_b.eq_1))) (And.intro (And.intro @C.conf_Copy_r6_b.eq_1 (And.intro @C.conf_Copy_r5_b.eq_1 @C.conf_Copy_r4_b.eq_1)) (And.intro (And.intro @C.conf_Copy_r3_b.eq_1 @C.conf_Copy_r2_b.eq_1) (And.intro @C.conf_Copy_r1_b.eq_1 @C.conf_Copy_r0_b.eq_1)))

def C.conf_Same_r1_b : List IOper := [
 X.o 5 (.fldAddr 0 (X.s 2)),
 X.o 6 (.load1 (X.s 5)),
 X.o 7 (.fldAddr 0 (X.s 3)),
 X.o 8 (.load1 (X.s 7)),
 X.o 9 (.call F.slices_EqualFunc_api_Clock_api_Clock_api_Clock_api_Clock [X.s 6, X.s 8, .fnc F.conf_sameClock]),
 X.m 10 9,
 X.t 10 11 (.fldAddr 1 (X.s 2)),
 X.t 10 12 (.load1 (X.s 11)),
 X.t 10 13 (.fldAddr 1 (X.s 3)),
 X.t 10 14 (.load1 (X.s 13)),
 X.t 10 15 (.call F.slices_Equal_api_Domain_api_Domain [X.s 12, X.s 14]),
 X.o 16 (.pick (X.s 10) (X.s 15) (.cst (.bool false))),
 X.m 17 16,
 X.t 17 18 (.fldAddr 2 (X.s 2)),
 X.t 17 19 (.load1 (X.s 18)),
 X.t 17 20 (.fldAddr 2 (X.s 3)),
 X.t 17 21 (.load1 (X.s 20)),
 X.t 17 22 (.call F.slices_Equal_api_Reset_api_Reset [X.s 19, X.s 21]),
 X.o 23 (.pick (X.s 17) (X.s 22) (.cst (.bool false))),
 X.m 24 23,
 X.t 24 25 (.fldAddr 3 (X.s 2)),
 X.t 24 26 (.load1 (X.s 25)),
 X.t 24 27 (.fldAddr 3 (X.s 3)),
 X.t 24 28 (.load1 (X.s 27)),
 X.t 24 29 (.call F.slices_EqualFunc_api_Device_api_Device_api_Device_api_Device [X.s 26, X.s 28, .fnc F.conf_sameDevice]),
 X.o 30 (.pick (X.s 24) (X.s 29) (.cst (.bool false))),
 X.m 4 30]
def C.conf_Same_r1 : List IOper := C.conf_Same_r1_b
def C.conf_Same_r1_w := @aopsE _ _ C.conf_Same_r1.eq_1
def C.conf_Same_c1 : ICode := .keep [2, 3] (.seq (.region C.conf_Same_r1) .ret)
def C.conf_Same_c1_w := @awpE _ _ C.conf_Same_c1.eq_1
def C.conf_Same_r0_b : List IOper := [
 X.o 2 (.boxN (X.s 0)),
 X.o 3 (.boxN (X.s 1)),
 X.o 4 (.move (.cst (.bool false)))]
def C.conf_Same_r0 : List IOper := C.conf_Same_r0_b
def C.conf_Same_r0_w := @aopsE _ _ C.conf_Same_r0.eq_1
def C.conf_Same : IFunc := ⟨2, [.slot 4], .seq (.region C.conf_Same_r0) C.conf_Same_c1⟩
def C.conf_Same_W := And.intro @C.conf_Same_r1_w (And.intro @C.conf_Same_c1_w @C.conf_Same_r0_w)
def C.conf_Same_B := And.intro @C.conf_Same_r1_b.eq_1 @C.conf_Same_r0_b.eq_1

def C.conf_first_r8_b : List IOper := [
 X.o 2 (.move (X.i 0))]
def C.conf_first_r8 : List IOper := C.conf_first_r8_b
def C.conf_first_r8_w := @aopsE _ _ C.conf_first_r8.eq_1
def C.conf_first_c1 : ICode := .keep [] (.seq (.region C.conf_first_r8) .ret)
def C.conf_first_c1_w := @awpE _ _ C.conf_first_c1.eq_1
def C.conf_first_r7_b : List IOper := [
 X.o 17 (.bin .add (X.s 8) (X.i 1)),
 X.m 8 17]
def C.conf_first_r7 : List IOper := C.conf_first_r7_b
def C.conf_first_r7_w := @aopsE _ _ C.conf_first_r7.eq_1
def C.conf_first_c2 : ICode := .keep [6, 7, 8] (.region C.conf_first_r7)
def C.conf_first_c2_w := @awpE _ _ C.conf_first_c2.eq_1
def C.conf_first_r6_b : List IOper := [
 X.m 16 5,
 X.m 2 16]
def C.conf_first_r6 : List IOper := C.conf_first_r6_b
def C.conf_first_r6_w := @aopsE _ _ C.conf_first_r6.eq_1
def C.conf_first_c3 : ICode := .seq (.region C.conf_first_r6) .ret
def C.conf_first_c3_w := @awpE _ _ C.conf_first_c3.eq_1
def C.conf_first_c4 : ICode := .keep [5, 6, 7, 8, 15] (.cond (X.s 15) C.conf_first_c3 .skip)
def C.conf_first_c4_w := @awpE _ _ C.conf_first_c4.eq_1
def C.conf_first_r5_b : List IOper := [
 X.m 14 5,
 X.o 15 (.bin .neq (X.s 14) (X.i 0))]
def C.conf_first_r5 : List IOper := C.conf_first_r5_b
def C.conf_first_r5_w := @aopsE _ _ C.conf_first_r5.eq_1
def C.conf_first_c5 : ICode := .keep [5, 6, 7, 8] (.seq (.region C.conf_first_r5) C.conf_first_c4)
def C.conf_first_c5_w := @awpE _ _ C.conf_first_c5.eq_1
def C.conf_first_r4_b : List IOper := [
 X.m 12 4,
 X.o 13 (.callv (X.s 12) []),
 X.m 5 13]
def C.conf_first_r4 : List IOper := C.conf_first_r4_b
def C.conf_first_r4_w := @aopsE _ _ C.conf_first_r4.eq_1
def C.conf_first_c6 : ICode := .keep [4, 6, 7, 8] (.seq (.region C.conf_first_r4) C.conf_first_c5)
def C.conf_first_c6_w := @awpE _ _ C.conf_first_c6.eq_1
def C.conf_first_r3_b : List IOper := [
 X.o 10 (.idxAddr 1 (X.s 6) (X.s 8)),
 X.o 11 (.load1 (X.s 10)),
 X.m 4 11]
def C.conf_first_r3 : List IOper := C.conf_first_r3_b
def C.conf_first_r3_w := @aopsE _ _ C.conf_first_r3.eq_1
def C.conf_first_b7 : ICode := .seq (.region C.conf_first_r3) C.conf_first_c6
def C.conf_first_b7_w := @awpE _ _ C.conf_first_b7.eq_1
def C.conf_first_c8 : ICode := .keep [6, 7, 8] (.seq (.block 1 C.conf_first_b7) C.conf_first_c2)
def C.conf_first_c8_w := @awpE _ _ C.conf_first_c8.eq_1
def C.conf_first_c9 : ICode := .keep [6, 7, 8, 9] (.seq (.cond (X.s 9) .skip (.exit 0)) C.conf_first_c8)
def C.conf_first_c9_w := @awpE _ _ C.conf_first_c9.eq_1
def C.conf_first_r2_b : List IOper := [
 X.o 9 (.bin .lss (X.s 8) (X.s 7))]
def C.conf_first_r2 : List IOper := C.conf_first_r2_b
def C.conf_first_r2_w := @aopsE _ _ C.conf_first_r2.eq_1
def C.conf_first_l10 : ICode := .keep [6, 7, 8] (.seq (.region C.conf_first_r2) C.conf_first_c9)
def C.conf_first_l10_w := @awpE _ _ C.conf_first_l10.eq_1
def C.conf_first_b11 : ICode := .loop C.conf_first_l10
def C.conf_first_b11_w := @awpE _ _ C.conf_first_b11.eq_1
def C.conf_first_c12 : ICode := .keep [6, 7, 8] (.block 0 C.conf_first_b11)
def C.conf_first_c12_w := @awpE _ _ C.conf_first_c12.eq_1
def C.conf_first_r1_b : List IOper := [
 X.m 6 0,
 X.o 7 (.len (X.s 6)),
 X.o 8 (.move (X.i 0))]
def C.conf_first_r1 : List IOper := C.conf_first_r1_b
def C.conf_first_r1_w := @aopsE _ _ C.conf_first_r1.eq_1
def C.conf_first_c13 : ICode := .keep [0] (.seq (.seq (.region C.conf_first_r1) C.conf_first_c12) C.conf_first_c1)
def C.conf_first_c13_w := @awpE _ _ C.conf_first_c13.eq_1
def C.conf_first_r0_b : List IOper := [
 X.o 2 (.move (X.i 0))]
def C.conf_first_r0 : List IOper := C.conf_first_r0_b
def C.conf_first_r0_w := @aopsE _ _ C.conf_first_r0.eq_1
def C.conf_first : IFunc := ⟨1, [.slot 2], .seq (.region C.conf_first_r0) C.conf_first_c13⟩
def C.conf_first_W := And.intro (And.intro (And.intro (And.intro @C.conf_first_r8_w @C.conf_first_c1_w) (And.intro @C.conf_first_r7_w (And.intro @C.conf_first_c2_w @C.conf_first_r6_w))) (And.intro (And.intro @C.conf_first_c3_w @C.conf_first_c4_w) (And.intro @C.conf_first_r5_w (And.intro @C.conf_first_c5_w @C.conf_first_r4_w)))) (And.intro (And.intro (And.intro @C.conf_first_c6_w @C.conf_first_r3_w) (And.intro @C.conf_first_b7_w (And.intro @C.conf_first_c8_w @C.conf_first_c9_w))) (And.intro (And.intro @C.conf_first_r2_w (And.intro @C.conf_first_b11_w @C.conf_first_c12_w)) (And.intro @C.conf_first_r1_w (And.intro @C.conf_first_c13_w @C.conf_first_r0_w))))
def C.conf_first_B := And.intro (And.intro (And.intro @C.conf_first_r8_b.eq_1 @C.conf_first_r7_b.eq_1) (And.intro @C.conf_first_r6_b.eq_1 @C.conf_first_r5_b.eq_1)) (And.intro (And.intro @C.conf_first_r4_b.eq_1 @C.conf_first_r3_b.eq_1) (And.intro @C.conf_first_r2_b.eq_1 (And.intro @C.conf_first_r1_b.eq_1 @C.conf_first_r0_b.eq_1)))

def C.conf_Check_1_r1_b : List IOper := [
 X.o 2 (.loadN 4 (X.s 0)),
 X.o 3 (.call F.conf_full [X.s 2]),
 X.m 1 3]
def C.conf_Check_1_r1 : List IOper := C.conf_Check_1_r1_b
def C.conf_Check_1_r1_w := @aopsE _ _ C.conf_Check_1_r1.eq_1
def C.conf_Check_1_c1 : ICode := .keep [0] (.seq (.region C.conf_Check_1_r1) .ret)
def C.conf_Check_1_c1_w := @awpE _ _ C.conf_Check_1_c1.eq_1
def C.conf_Check_1_r0_b : List IOper := [
 X.o 1 (.move (X.i 0))]
def C.conf_Check_1_r0 : List IOper := C.conf_Check_1_r0_b
def C.conf_Check_1_r0_w := @aopsE _ _ C.conf_Check_1_r0.eq_1
def C.conf_Check_1 : IFunc := ⟨1, [.slot 1], .seq (.region C.conf_Check_1_r0) C.conf_Check_1_c1⟩
def C.conf_Check_1_W := And.intro @C.conf_Check_1_r1_w (And.intro @C.conf_Check_1_c1_w @C.conf_Check_1_r0_w)
def C.conf_Check_1_B := And.intro @C.conf_Check_1_r1_b.eq_1 @C.conf_Check_1_r0_b.eq_1

def C.conf_full_r3_b : List IOper := [
 X.o 25 (.fldAddr 3 (X.s 1)),
 X.o 26 (.load1 (X.s 25)),
 X.o 27 (.call F.conf_each_api_Device [X.s 26, .fnc F.conf_full_1]),
 X.m 2 27]
def C.conf_full_r3 : List IOper := C.conf_full_r3_b
def C.conf_full_r3_w := @aopsE _ _ C.conf_full_r3.eq_1
def C.conf_full_c1 : ICode := .keep [1] (.seq (.region C.conf_full_r3) .ret)
def C.conf_full_c1_w := @awpE _ _ C.conf_full_c1.eq_1
def C.conf_full_r2_b : List IOper := [
 X.o 2 (.move (X.i 8))]
def C.conf_full_r2 : List IOper := C.conf_full_r2_b
def C.conf_full_r2_w := @aopsE _ _ C.conf_full_r2.eq_1
def C.conf_full_c2 : ICode := .seq (.region C.conf_full_r2) .ret
def C.conf_full_c2_w := @awpE _ _ C.conf_full_c2.eq_1
def C.conf_full_c3 : ICode := .keep [1, 24] (.cond (X.s 24) C.conf_full_c2 .skip)
def C.conf_full_c3_w := @awpE _ _ C.conf_full_c3.eq_1
def C.conf_full_r1_b : List IOper := [
 X.o 3 (.fldAddr 0 (X.s 1)),
 X.o 4 (.load1 (X.s 3)),
 X.o 5 (.len (X.s 4)),
 X.o 6 (.bin .gtr (X.s 5) (X.i 12)),
 X.m 7 6,
 X.f 7 8 (.fldAddr 1 (X.s 1)),
 X.f 7 9 (.load1 (X.s 8)),
 X.f 7 10 (.len (X.s 9)),
 X.f 7 11 (.bin .gtr (X.s 10) (X.i 6)),
 X.o 12 (.pick (X.s 7) (.cst (.bool true)) (X.s 11)),
 X.m 13 12,
 X.f 13 14 (.fldAddr 2 (X.s 1)),
 X.f 13 15 (.load1 (X.s 14)),
 X.f 13 16 (.len (X.s 15)),
 X.f 13 17 (.bin .gtr (X.s 16) (X.i 6)),
 X.o 18 (.pick (X.s 13) (.cst (.bool true)) (X.s 17)),
 X.m 19 18,
 X.f 19 20 (.fldAddr 3 (X.s 1)),
 X.f 19 21 (.load1 (X.s 20)),
 X.f 19 22 (.len (X.s 21)),
 X.f 19 23 (.bin .gtr (X.s 22) (X.i 6)),
 X.o 24 (.pick (X.s 19) (.cst (.bool true)) (X.s 23))]
def C.conf_full_r1 : List IOper := C.conf_full_r1_b
def C.conf_full_r1_w := @aopsE _ _ C.conf_full_r1.eq_1
def C.conf_full_c4 : ICode := .keep [1] (.seq (.seq (.region C.conf_full_r1) C.conf_full_c3) C.conf_full_c1)
def C.conf_full_c4_w := @awpE _ _ C.conf_full_c4.eq_1
def C.conf_full_r0_b : List IOper := [
 X.o 1 (.boxN (X.s 0)),
 X.o 2 (.move (X.i 0))]
def C.conf_full_r0 : List IOper := C.conf_full_r0_b
def C.conf_full_r0_w := @aopsE _ _ C.conf_full_r0.eq_1
def C.conf_full : IFunc := ⟨1, [.slot 2], .seq (.region C.conf_full_r0) C.conf_full_c4⟩
def C.conf_full_W := And.intro (And.intro (And.intro @C.conf_full_r3_w @C.conf_full_c1_w) (And.intro @C.conf_full_r2_w @C.conf_full_c2_w)) (And.intro (And.intro @C.conf_full_c3_w @C.conf_full_r1_w) (And.intro @C.conf_full_c4_w @C.conf_full_r0_w))
def C.conf_full_B := And.intro (And.intro @C.conf_full_r3_b.eq_1 @C.conf_full_r2_b.eq_1) (And.intro @C.conf_full_r1_b.eq_1 @C.conf_full_r0_b.eq_1)

def C.conf_Check_2_r1_b : List IOper := [
 X.o 2 (.fldAddr 0 (X.s 0)),
 X.o 3 (.load1 (X.s 2)),
 X.o 4 (.makeFunc F.conf_Check_2_1 [X.s 0]),
 X.o 5 (.call F.conf_each_api_Clock [X.s 3, X.s 4]),
 X.m 1 5]
def C.conf_Check_2_r1 : List IOper := C.conf_Check_2_r1_b
def C.conf_Check_2_r1_w := @aopsE _ _ C.conf_Check_2_r1.eq_1
def C.conf_Check_2_c1 : ICode := .keep [0] (.seq (.region C.conf_Check_2_r1) .ret)
def C.conf_Check_2_c1_w := @awpE _ _ C.conf_Check_2_c1.eq_1
def C.conf_Check_2_r0_b : List IOper := [
 X.o 1 (.move (X.i 0))]
def C.conf_Check_2_r0 : List IOper := C.conf_Check_2_r0_b
def C.conf_Check_2_r0_w := @aopsE _ _ C.conf_Check_2_r0.eq_1
def C.conf_Check_2 : IFunc := ⟨1, [.slot 1], .seq (.region C.conf_Check_2_r0) C.conf_Check_2_c1⟩
def C.conf_Check_2_W := And.intro @C.conf_Check_2_r1_w (And.intro @C.conf_Check_2_c1_w @C.conf_Check_2_r0_w)
def C.conf_Check_2_B := And.intro @C.conf_Check_2_r1_b.eq_1 @C.conf_Check_2_r0_b.eq_1

def C.conf_each_api_Clock_r8_b : List IOper := [
 X.o 4 (.move (X.i 0))]
def C.conf_each_api_Clock_r8 : List IOper := C.conf_each_api_Clock_r8_b
def C.conf_each_api_Clock_r8_w := @aopsE _ _ C.conf_each_api_Clock_r8.eq_1
def C.conf_each_api_Clock_c1 : ICode := .keep [] (.seq (.region C.conf_each_api_Clock_r8) .ret)
def C.conf_each_api_Clock_c1_w := @awpE _ _ C.conf_each_api_Clock_c1.eq_1
def C.conf_each_api_Clock_r7_b : List IOper := [
 X.o 20 (.bin .add (X.s 10) (X.i 1)),
 X.m 10 20]
def C.conf_each_api_Clock_r7 : List IOper := C.conf_each_api_Clock_r7_b
def C.conf_each_api_Clock_r7_w := @aopsE _ _ C.conf_each_api_Clock_r7.eq_1
def C.conf_each_api_Clock_c2 : ICode := .keep [1, 8, 9, 10] (.region C.conf_each_api_Clock_r7)
def C.conf_each_api_Clock_c2_w := @awpE _ _ C.conf_each_api_Clock_c2.eq_1
def C.conf_each_api_Clock_r6_b : List IOper := [
 X.m 19 7,
 X.m 4 19]
def C.conf_each_api_Clock_r6 : List IOper := C.conf_each_api_Clock_r6_b
def C.conf_each_api_Clock_r6_w := @aopsE _ _ C.conf_each_api_Clock_r6.eq_1
def C.conf_each_api_Clock_c3 : ICode := .seq (.region C.conf_each_api_Clock_r6) .ret
def C.conf_each_api_Clock_c3_w := @awpE _ _ C.conf_each_api_Clock_c3.eq_1
def C.conf_each_api_Clock_c4 : ICode := .keep [1, 7, 8, 9, 10, 18] (.cond (X.s 18) C.conf_each_api_Clock_c3 .skip)
def C.conf_each_api_Clock_c4_w := @awpE _ _ C.conf_each_api_Clock_c4.eq_1
def C.conf_each_api_Clock_r5_b : List IOper := [
 X.m 17 7,
 X.o 18 (.bin .neq (X.s 17) (X.i 0))]
def C.conf_each_api_Clock_r5 : List IOper := C.conf_each_api_Clock_r5_b
def C.conf_each_api_Clock_r5_w := @aopsE _ _ C.conf_each_api_Clock_r5.eq_1
def C.conf_each_api_Clock_c5 : ICode := .keep [1, 7, 8, 9, 10] (.seq (.region C.conf_each_api_Clock_r5) C.conf_each_api_Clock_c4)
def C.conf_each_api_Clock_c5_w := @awpE _ _ C.conf_each_api_Clock_c5.eq_1
def C.conf_each_api_Clock_r4_b : List IOper := [
 X.m 14 1,
 X.o 15 (.loadN 6 (X.s 6)),
 X.o 16 (.callv (X.s 14) [X.s 15]),
 X.m 7 16]
def C.conf_each_api_Clock_r4 : List IOper := C.conf_each_api_Clock_r4_b
def C.conf_each_api_Clock_r4_w := @aopsE _ _ C.conf_each_api_Clock_r4.eq_1
def C.conf_each_api_Clock_c6 : ICode := .keep [1, 6, 8, 9, 10] (.seq (.region C.conf_each_api_Clock_r4) C.conf_each_api_Clock_c5)
def C.conf_each_api_Clock_c6_w := @awpE _ _ C.conf_each_api_Clock_c6.eq_1
def C.conf_each_api_Clock_r3_b : List IOper := [
 X.o 12 (.idxAddr 6 (X.s 8) (X.s 10)),
 X.o 13 (.loadN 6 (X.s 12)),
 X.o 6 (.alloc [.int .u8 0, .nils, .int .u64 0, .int .i64 0, .int .i64 0, .int .i64 0]),
 X.n (.storeN 6 (X.s 6) (X.s 13))]
def C.conf_each_api_Clock_r3 : List IOper := C.conf_each_api_Clock_r3_b
def C.conf_each_api_Clock_r3_w := @aopsE _ _ C.conf_each_api_Clock_r3.eq_1
def C.conf_each_api_Clock_b7 : ICode := .seq (.region C.conf_each_api_Clock_r3) C.conf_each_api_Clock_c6
def C.conf_each_api_Clock_b7_w := @awpE _ _ C.conf_each_api_Clock_b7.eq_1
def C.conf_each_api_Clock_c8 : ICode := .keep [1, 8, 9, 10] (.seq (.block 1 C.conf_each_api_Clock_b7) C.conf_each_api_Clock_c2)
def C.conf_each_api_Clock_c8_w := @awpE _ _ C.conf_each_api_Clock_c8.eq_1
def C.conf_each_api_Clock_c9 : ICode := .keep [1, 8, 9, 10, 11] (.seq (.cond (X.s 11) .skip (.exit 0)) C.conf_each_api_Clock_c8)
def C.conf_each_api_Clock_c9_w := @awpE _ _ C.conf_each_api_Clock_c9.eq_1
def C.conf_each_api_Clock_r2_b : List IOper := [
 X.o 11 (.bin .lss (X.s 10) (X.s 9))]
def C.conf_each_api_Clock_r2 : List IOper := C.conf_each_api_Clock_r2_b
def C.conf_each_api_Clock_r2_w := @aopsE _ _ C.conf_each_api_Clock_r2.eq_1
def C.conf_each_api_Clock_l10 : ICode := .keep [1, 8, 9, 10] (.seq (.region C.conf_each_api_Clock_r2) C.conf_each_api_Clock_c9)
def C.conf_each_api_Clock_l10_w := @awpE _ _ C.conf_each_api_Clock_l10.eq_1
def C.conf_each_api_Clock_b11 : ICode := .loop C.conf_each_api_Clock_l10
def C.conf_each_api_Clock_b11_w := @awpE _ _ C.conf_each_api_Clock_b11.eq_1
def C.conf_each_api_Clock_c12 : ICode := .keep [1, 8, 9, 10] (.block 0 C.conf_each_api_Clock_b11)
def C.conf_each_api_Clock_c12_w := @awpE _ _ C.conf_each_api_Clock_c12.eq_1
def C.conf_each_api_Clock_r1_b : List IOper := [
 X.m 8 0,
 X.o 9 (.len (X.s 8)),
 X.o 10 (.move (X.i 0))]
def C.conf_each_api_Clock_r1 : List IOper := C.conf_each_api_Clock_r1_b
def C.conf_each_api_Clock_r1_w := @aopsE _ _ C.conf_each_api_Clock_r1.eq_1
def C.conf_each_api_Clock_c13 : ICode := .keep [0, 1] (.seq (.seq (.region C.conf_each_api_Clock_r1) C.conf_each_api_Clock_c12) C.conf_each_api_Clock_c1)
def C.conf_each_api_Clock_c13_w := @awpE _ _ C.conf_each_api_Clock_c13.eq_1
def C.conf_each_api_Clock_r0_b : List IOper := [
 X.o 4 (.move (X.i 0))]
def C.conf_each_api_Clock_r0 : List IOper := C.conf_each_api_Clock_r0_b
def C.conf_each_api_Clock_r0_w := @aopsE _ _ C.conf_each_api_Clock_r0.eq_1
def C.conf_each_api_Clock : IFunc := ⟨2, [.slot 4], .seq (.region C.conf_each_api_Clock_r0) C.conf_each_api_Clock_c13⟩
def C.conf_each_api_Clock_W := And.intro (And.intro (And.intro (And.intro @C.conf_each_api_Clock_r8_w @C.conf_each_api_Clock_c1_w) (And.intro @C.conf_each_api_Clock_r7_w (And.intro @C.conf_each_api_Clock_c2_w @C.conf_each_api_Clock_r6_w))) (And.intro (And.intro @C.conf_each_api_Clock_c3_w @C.conf_each_api_Clock_c4_w) (And.intro @C.conf_each_api_Clock_r5_w (And.intro @C.conf_each_api_Clock_c5_w @C.conf_each_api_Clock_r4_w)))) (And.intro (And.intro (And.intro @C.conf_each_api_Clock_c6_w @C.conf_each_api_Clock_r3_w) (And.intro @C.conf_each_api_Clock_b7_w (And.intro @C.conf_each_api_Clock_c8_w @C.conf_each_api_Clock_c9_w))) (And.intro (And.intro @C.conf_each_api_Clock_r2_w (And.intro @C.conf_each_api_Clock_b11_w @C.conf_each_api_Clock_c12_w)) (And.intro @C.conf_each_api_Clock_r1_w (And.intro @C.conf_each_api_Clock_c13_w @C.conf_each_api_Clock_r0_w))))
def C.conf_each_api_Clock_B := And.intro (And.intro (And.intro @C.conf_each_api_Clock_r8_b.eq_1 @C.conf_each_api_Clock_r7_b.eq_1) (And.intro @C.conf_each_api_Clock_r6_b.eq_1 @C.conf_each_api_Clock_r5_b.eq_1)) (And.intro (And.intro @C.conf_each_api_Clock_r4_b.eq_1 @C.conf_each_api_Clock_r3_b.eq_1) (And.intro @C.conf_each_api_Clock_r2_b.eq_1 (And.intro @C.conf_each_api_Clock_r1_b.eq_1 @C.conf_each_api_Clock_r0_b.eq_1)))

end Go.Proofs.Ytjamidgdhmjhaaa.Cn
