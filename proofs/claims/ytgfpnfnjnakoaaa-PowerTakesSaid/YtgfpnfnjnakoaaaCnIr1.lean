/- The intermediate code of the functions, printed by a program out of the loaded program; that it is theirs is checked in the text of links. -/
import Derived.Test.YtgfpnfnjnakoaaaCnL2
set_option linter.defProp false
namespace Go.Proofs.Ytgfpnfnjnakoaaa.Cn
open Go
variable {P : Program} {Q : IExit → AFr → ASt → Prop} {fr : AFr} {st : ASt}

abbrev F.main_main : Nat := 0
abbrev F.gosem_cut : Nat := 1
abbrev F.gosem_cut_init : Nat := 2
abbrev F.catnaplaw7_PowerEvents : Nat := 3
abbrev F.catnaplaw7_PowerAlone : Nat := 4
abbrev F.catnaplaw7_PowerChains : Nat := 5
abbrev F.catnaplaw7_PowerErrs : Nat := 6
abbrev F.catnaplaw7_PowerHangs : Nat := 7
abbrev F.catnaplaw7_PowerPlays : Nat := 8
abbrev F.catnaplaw7_PowerTakes : Nat := 9
abbrev F.catnaplaw7_shown : Nat := 10
abbrev F.catnaplaw7_chip : Nat := 11
abbrev F.power_New : Nat := 12
abbrev F.catnaplaw7_pick : Nat := 13
abbrev F.power_Grid_Up : Nat := 14
abbrev F.power_Grid_Down : Nat := 15
abbrev F.power_Grid_Tick : Nat := 16
abbrev F.power_Grid_Phase : Nat := 17
abbrev F.graph_Order : Nat := 18
abbrev F.conf_Domains : Nat := 19
abbrev F.power_Grid_Chain : Nat := 20
abbrev F.catnapref7_New : Nat := 21
abbrev F.catnapref7_Grid_Up : Nat := 22
abbrev F.catnapref7_Grid_Down : Nat := 23
abbrev F.catnapref7_Same : Nat := 24
abbrev F.catnaplaw7_as : Nat := 25
abbrev F.catnapref7_Grid_Tick : Nat := 26
abbrev F.catnapref7_Grid_Phase : Nat := 27
abbrev F.power_Grid_Left : Nat := 28
abbrev F.catnapref7_Grid_Left : Nat := 29
abbrev F.catnaplaw7_same : Nat := 30
abbrev F.catnapref7_Grid_Chain : Nat := 31
abbrev F.catnaplaw7_risen : Nat := 32
abbrev F.conf_Check : Nat := 33
abbrev F.power_Grid_at : Nat := 34
abbrev F.power_domain_down : Nat := 35
abbrev F.power_domain_tick : Nat := 36
abbrev F.graph_numbers : Nat := 37
abbrev F.graph_hang : Nat := 38
abbrev F.graph_marks_has : Nat := 39
abbrev F.graph_marks_add : Nat := 40
abbrev F.slices_Reverse_int_int : Nat := 41
abbrev F.catnapref4_Check : Nat := 42
abbrev F.catnapref7_Grid_there : Nat := 43
abbrev F.conf_first : Nat := 44
abbrev F.conf_Check_1 : Nat := 45
abbrev F.conf_full : Nat := 46
abbrev F.conf_Check_2 : Nat := 47
abbrev F.conf_each_api_Clock : Nat := 48
abbrev F.conf_Check_2_1 : Nat := 49
abbrev F.conf_clock : Nat := 50
abbrev F.conf_Check_3 : Nat := 51
abbrev F.conf_cycle : Nat := 52
abbrev F.conf_Clocks : Nat := 53
abbrev F.conf_Check_4 : Nat := 54
abbrev F.conf_each_api_Domain : Nat := 55
abbrev F.conf_Check_4_1 : Nat := 56
abbrev F.conf_domain : Nat := 57
abbrev F.conf_Check_5 : Nat := 58
abbrev F.conf_Check_6 : Nat := 59
abbrev F.conf_each_api_Reset : Nat := 60
abbrev F.conf_reset : Nat := 61
abbrev F.conf_Check_7 : Nat := 62
abbrev F.conf_each_api_Device : Nat := 63
abbrev F.conf_Check_7_1 : Nat := 64
abbrev F.conf_device : Nat := 65
abbrev F.conf_Check_8 : Nat := 66
abbrev F.conf_Needs : Nat := 67
abbrev F.catnapref4_counts : Nat := 68
abbrev F.catnapref4_clocks : Nat := 69
abbrev F.catnapref4_domains : Nat := 70
abbrev F.catnapref4_within : Nat := 71
abbrev F.catnapref4_devices : Nat := 72
abbrev F.conf_full_1 : Nat := 73
abbrev F.conf_when : Nat := 74
abbrev F.conf_clock_1 : Nat := 75
abbrev F.conf_shape : Nat := 76
abbrev F.conf_clock_2 : Nat := 77
abbrev F.conf_each_int : Nat := 78
abbrev F.conf_clock_2_1 : Nat := 79
abbrev F.conf_within : Nat := 80
abbrev F.conf_clock_3 : Nat := 81
abbrev F.conf_numbers : Nat := 82
abbrev F.graph_Check : Nat := 83
abbrev F.conf_own_int : Nat := 84
abbrev F.conf_domain_1 : Nat := 85
abbrev F.conf_domain_2 : Nat := 86
abbrev F.conf_device_1 : Nat := 87
abbrev F.conf_device_2 : Nat := 88
abbrev F.conf_device_3 : Nat := 89
abbrev F.conf_device_4 : Nat := 90
abbrev F.conf_device_4_1 : Nat := 91
abbrev F.catnapref4_clock : Nat := 92
abbrev F.catnapref3_Check : Nat := 93
abbrev F.catnapref4_Clocks : Nat := 94
abbrev F.catnapref4_in : Nat := 95
abbrev F.catnapref4_Domains : Nat := 96
abbrev F.catnapref4_Needs : Nat := 97
abbrev F.catnapref3_order : Nat := 98
abbrev F.runtime_boundsError_Error : Nat := 99
abbrev F.runtime_boundsError_RuntimeError : Nat := 100
abbrev F.runtime_errorString_Error : Nat := 101
abbrev F.runtime_errorString_RuntimeError : Nat := 102
abbrev F.runtime_plainError_Error : Nat := 103
abbrev F.runtime_plainError_RuntimeError : Nat := 104
abbrev F.runtime_errorAddressString_Error : Nat := 105
abbrev F.runtime_errorAddressString_RuntimeError : Nat := 106
abbrev F.runtime_TypeAssertionError_Error : Nat := 107
abbrev F.runtime_TypeAssertionError_RuntimeError : Nat := 108
abbrev F.runtime_PanicNilError_Error : Nat := 109
abbrev F.runtime_PanicNilError_RuntimeError : Nat := 110
abbrev F.internal_abi_Type_Align : Nat := 111
abbrev F.internal_runtime_maps_unhashableTypeError_Error : Nat := 112
abbrev F.internal_runtime_maps_unhashableTypeError_RuntimeError : Nat := 113
abbrev F.api_Errno_Error : Nat := 114
abbrev F.internal_abi_Kind_String : Nat := 115

def C.catnaplaw7_PowerHangs_r31_b : List IOper := [
 X.o 4 (.move (.cst (.bool true)))]
def C.catnaplaw7_PowerHangs_r31 : List IOper := C.catnaplaw7_PowerHangs_r31_b
def C.catnaplaw7_PowerHangs_r31_w := @aopsE _ _ C.catnaplaw7_PowerHangs_r31.eq_1
def C.catnaplaw7_PowerHangs_c1 : ICode := .keep [] (.seq (.region C.catnaplaw7_PowerHangs_r31) .ret)
def C.catnaplaw7_PowerHangs_c1_w := @awpE _ _ C.catnaplaw7_PowerHangs_c1.eq_1
def C.catnaplaw7_PowerHangs_r8_b : List IOper := [
 X.m 51 9,
 X.o 52 (.bin .add (X.s 51) (X.i 1)),
 X.m 9 52]
def C.catnaplaw7_PowerHangs_r8 : List IOper := C.catnaplaw7_PowerHangs_r8_b
def C.catnaplaw7_PowerHangs_r8_w := @aopsE _ _ C.catnaplaw7_PowerHangs_r8.eq_1
def C.catnaplaw7_PowerHangs_c2 : ICode := .keep [1, 6, 7, 9] (.region C.catnaplaw7_PowerHangs_r8)
def C.catnaplaw7_PowerHangs_c2_w := @awpE _ _ C.catnaplaw7_PowerHangs_c2.eq_1
def C.catnaplaw7_PowerHangs_r21_b : List IOper := [
 X.m 91 11,
 X.o 92 (.bin .add (X.s 91) (X.i 1)),
 X.m 11 92]
def C.catnaplaw7_PowerHangs_r21 : List IOper := C.catnaplaw7_PowerHangs_r21_b
def C.catnaplaw7_PowerHangs_r21_w := @aopsE _ _ C.catnaplaw7_PowerHangs_r21.eq_1
def C.catnaplaw7_PowerHangs_c3 : ICode := .keep [1, 6, 7, 9, 11] (.region C.catnaplaw7_PowerHangs_r21)
def C.catnaplaw7_PowerHangs_c3_w := @awpE _ _ C.catnaplaw7_PowerHangs_c3.eq_1
def C.catnaplaw7_PowerHangs_r28_b : List IOper := [
 X.m 130 14,
 X.o 131 (.bin .add (X.s 130) (X.i 1)),
 X.m 14 131]
def C.catnaplaw7_PowerHangs_r28 : List IOper := C.catnaplaw7_PowerHangs_r28_b
def C.catnaplaw7_PowerHangs_r28_w := @aopsE _ _ C.catnaplaw7_PowerHangs_r28.eq_1
def C.catnaplaw7_PowerHangs_c4 : ICode := .keep [1, 6, 7, 9, 11, 12, 13, 14] (.region C.catnaplaw7_PowerHangs_r28)
def C.catnaplaw7_PowerHangs_c4_w := @awpE _ _ C.catnaplaw7_PowerHangs_c4.eq_1
def C.catnaplaw7_PowerHangs_r30_b : List IOper := [
 X.o 4 (.move (.cst (.bool false)))]
def C.catnaplaw7_PowerHangs_r30 : List IOper := C.catnaplaw7_PowerHangs_r30_b
def C.catnaplaw7_PowerHangs_r30_w := @aopsE _ _ C.catnaplaw7_PowerHangs_r30.eq_1
def C.catnaplaw7_PowerHangs_c5 : ICode := .seq (.region C.catnaplaw7_PowerHangs_r30) .ret
def C.catnaplaw7_PowerHangs_c5_w := @awpE _ _ C.catnaplaw7_PowerHangs_c5.eq_1
def C.catnaplaw7_PowerHangs_c6 : ICode := .keep [1, 6, 7, 9, 11, 12, 13, 14, 146] (.cond (X.s 146) C.catnaplaw7_PowerHangs_c5 .skip)
def C.catnaplaw7_PowerHangs_c6_w := @awpE _ _ C.catnaplaw7_PowerHangs_c6.eq_1
def C.catnaplaw7_PowerHangs_r29_b : List IOper := [
 X.m 132 12,
 X.o 133 (.bin .neq (X.s 132) (.cst (.int .u8 48))),
 X.m 134 133,
 X.t 134 135 (.move (X.s 12)),
 X.t 134 136 (.bin .neq (X.s 135) (.cst (.int .u8 116))),
 X.o 137 (.pick (X.s 134) (X.s 136) (.cst (.bool false))),
 X.m 138 137,
 X.t 138 139 (.move (X.s 7)),
 X.t 138 140 (.move (X.s 13)),
 X.t 138 141 (.move (X.s 14)),
 X.t 138 142 (.idxAddr 1 (X.s 140) (X.s 141)),
 X.t 138 143 (.load1 (X.s 142)),
 X.t 138 144 (.call F.power_Grid_Phase [X.s 139, X.s 143]),
 X.t 138 145 (.bin .neq (X.s 144) (.cst (.int .u8 49))),
 X.o 146 (.pick (X.s 138) (X.s 145) (.cst (.bool false)))]
def C.catnaplaw7_PowerHangs_r29 : List IOper := C.catnaplaw7_PowerHangs_r29_b
def C.catnaplaw7_PowerHangs_r29_w := @aopsE _ _ C.catnaplaw7_PowerHangs_r29.eq_1
def C.catnaplaw7_PowerHangs_b7 : ICode := .seq (.region C.catnaplaw7_PowerHangs_r29) C.catnaplaw7_PowerHangs_c6
def C.catnaplaw7_PowerHangs_b7_w := @awpE _ _ C.catnaplaw7_PowerHangs_b7.eq_1
def C.catnaplaw7_PowerHangs_c8 : ICode := .keep [1, 6, 7, 9, 11, 12, 13, 14] (.seq (.block 6 C.catnaplaw7_PowerHangs_b7) C.catnaplaw7_PowerHangs_c4)
def C.catnaplaw7_PowerHangs_c8_w := @awpE _ _ C.catnaplaw7_PowerHangs_c8.eq_1
def C.catnaplaw7_PowerHangs_c9 : ICode := .keep [1, 6, 7, 9, 11, 12, 13, 14, 129] (.cond (X.s 129) .skip (.exit 5))
def C.catnaplaw7_PowerHangs_c9_w := @awpE _ _ C.catnaplaw7_PowerHangs_c9.eq_1
def C.catnaplaw7_PowerHangs_r27_b : List IOper := [
 X.m 125 14,
 X.o 126 (.bin .add (X.s 125) (X.i 1)),
 X.m 127 13,
 X.o 128 (.len (X.s 127)),
 X.o 129 (.bin .lss (X.s 126) (X.s 128))]
def C.catnaplaw7_PowerHangs_r27 : List IOper := C.catnaplaw7_PowerHangs_r27_b
def C.catnaplaw7_PowerHangs_r27_w := @aopsE _ _ C.catnaplaw7_PowerHangs_r27.eq_1
def C.catnaplaw7_PowerHangs_l10 : ICode := .keep [1, 6, 7, 9, 11, 12, 13, 14] (.seq (.seq (.region C.catnaplaw7_PowerHangs_r27) C.catnaplaw7_PowerHangs_c9) C.catnaplaw7_PowerHangs_c8)
def C.catnaplaw7_PowerHangs_l10_w := @awpE _ _ C.catnaplaw7_PowerHangs_l10.eq_1
def C.catnaplaw7_PowerHangs_b11 : ICode := .loop C.catnaplaw7_PowerHangs_l10
def C.catnaplaw7_PowerHangs_b11_w := @awpE _ _ C.catnaplaw7_PowerHangs_b11.eq_1
def C.catnaplaw7_PowerHangs_c12 : ICode := .keep [1, 6, 7, 9, 11, 12, 13, 14] (.block 5 C.catnaplaw7_PowerHangs_b11)
def C.catnaplaw7_PowerHangs_c12_w := @awpE _ _ C.catnaplaw7_PowerHangs_c12.eq_1
def C.catnaplaw7_PowerHangs_r26_b : List IOper := [
 X.o 14 (.move (X.i 0))]
def C.catnaplaw7_PowerHangs_r26 : List IOper := C.catnaplaw7_PowerHangs_r26_b
def C.catnaplaw7_PowerHangs_r26_w := @aopsE _ _ C.catnaplaw7_PowerHangs_r26.eq_1
def C.catnaplaw7_PowerHangs_c13 : ICode := .keep [1, 6, 7, 9, 11, 12, 13] (.seq (.region C.catnaplaw7_PowerHangs_r26) C.catnaplaw7_PowerHangs_c12)
def C.catnaplaw7_PowerHangs_c13_w := @awpE _ _ C.catnaplaw7_PowerHangs_c13.eq_1
def C.catnaplaw7_PowerHangs_r25_b : List IOper := [
 X.o 4 (.move (.cst (.bool false)))]
def C.catnaplaw7_PowerHangs_r25 : List IOper := C.catnaplaw7_PowerHangs_r25_b
def C.catnaplaw7_PowerHangs_r25_w := @aopsE _ _ C.catnaplaw7_PowerHangs_r25.eq_1
def C.catnaplaw7_PowerHangs_c14 : ICode := .seq (.region C.catnaplaw7_PowerHangs_r25) .ret
def C.catnaplaw7_PowerHangs_c14_w := @awpE _ _ C.catnaplaw7_PowerHangs_c14.eq_1
def C.catnaplaw7_PowerHangs_c15 : ICode := .keep [1, 6, 7, 9, 11, 12, 13, 124] (.cond (X.s 124) C.catnaplaw7_PowerHangs_c14 .skip)
def C.catnaplaw7_PowerHangs_c15_w := @awpE _ _ C.catnaplaw7_PowerHangs_c15.eq_1
def C.catnaplaw7_PowerHangs_r24_b : List IOper := [
 X.m 99 13,
 X.o 100 (.len (X.s 99)),
 X.o 101 (.bin .eql (X.s 100) (X.i 0)),
 X.m 102 101,
 X.f 102 103 (.move (X.s 13)),
 X.f 102 104 (.move (X.s 13)),
 X.f 102 105 (.len (X.s 104)),
 X.f 102 106 (.bin .sub (X.s 105) (X.i 1)),
 X.f 102 107 (.idxAddr 1 (X.s 103) (X.s 106)),
 X.f 102 108 (.load1 (X.s 107)),
 X.f 102 109 (.move (X.s 11)),
 X.f 102 110 (.bin .neq (X.s 108) (X.s 109)),
 X.o 111 (.pick (X.s 102) (.cst (.bool true)) (X.s 110)),
 X.m 112 111,
 X.f 112 113 (.move (X.s 12)),
 X.f 112 114 (.bin .eql (X.s 113) (.cst (.int .u8 116))),
 X.f 112 115 (.move (X.s 114)),
 X.t 115 116 (.fldAddr 1 (X.s 6)),
 X.t 115 117 (.load1 (X.s 116)),
 X.t 115 118 (.move (X.s 11)),
 X.t 115 119 (.idxAddr 3 (X.s 117) (X.s 118)),
 X.t 115 120 (.fldAddr 2 (X.s 119)),
 X.t 115 121 (.load1 (X.s 120)),
 X.t 115 122 (.un .not (X.s 121)),
 X.f 112 123 (.pick (X.s 115) (X.s 122) (.cst (.bool false))),
 X.o 124 (.pick (X.s 112) (.cst (.bool true)) (X.s 123))]
def C.catnaplaw7_PowerHangs_r24 : List IOper := C.catnaplaw7_PowerHangs_r24_b
def C.catnaplaw7_PowerHangs_r24_w := @aopsE _ _ C.catnaplaw7_PowerHangs_r24.eq_1
def C.catnaplaw7_PowerHangs_c16 : ICode := .keep [1, 6, 7, 9, 11, 12, 13] (.seq (.seq (.region C.catnaplaw7_PowerHangs_r24) C.catnaplaw7_PowerHangs_c15) C.catnaplaw7_PowerHangs_c13)
def C.catnaplaw7_PowerHangs_c16_w := @awpE _ _ C.catnaplaw7_PowerHangs_c16.eq_1
def C.catnaplaw7_PowerHangs_r23_b : List IOper := [
 X.m 96 7,
 X.m 97 11,
 X.o 98 (.call F.power_Grid_Chain [X.s 96, X.s 97]),
 X.m 13 98]
def C.catnaplaw7_PowerHangs_r23 : List IOper := C.catnaplaw7_PowerHangs_r23_b
def C.catnaplaw7_PowerHangs_r23_w := @aopsE _ _ C.catnaplaw7_PowerHangs_r23.eq_1
def C.catnaplaw7_PowerHangs_c17 : ICode := .keep [1, 6, 7, 9, 11, 12] (.seq (.region C.catnaplaw7_PowerHangs_r23) C.catnaplaw7_PowerHangs_c16)
def C.catnaplaw7_PowerHangs_c17_w := @awpE _ _ C.catnaplaw7_PowerHangs_c17.eq_1
def C.catnaplaw7_PowerHangs_r22_b : List IOper := [
 X.m 93 7,
 X.m 94 11,
 X.o 95 (.call F.power_Grid_Phase [X.s 93, X.s 94]),
 X.m 12 95]
def C.catnaplaw7_PowerHangs_r22 : List IOper := C.catnaplaw7_PowerHangs_r22_b
def C.catnaplaw7_PowerHangs_r22_w := @aopsE _ _ C.catnaplaw7_PowerHangs_r22.eq_1
def C.catnaplaw7_PowerHangs_b18 : ICode := .seq (.region C.catnaplaw7_PowerHangs_r22) C.catnaplaw7_PowerHangs_c17
def C.catnaplaw7_PowerHangs_b18_w := @awpE _ _ C.catnaplaw7_PowerHangs_b18.eq_1
def C.catnaplaw7_PowerHangs_c19 : ICode := .keep [1, 6, 7, 9, 11] (.seq (.block 4 C.catnaplaw7_PowerHangs_b18) C.catnaplaw7_PowerHangs_c3)
def C.catnaplaw7_PowerHangs_c19_w := @awpE _ _ C.catnaplaw7_PowerHangs_c19.eq_1
def C.catnaplaw7_PowerHangs_c20 : ICode := .keep [1, 6, 7, 9, 11, 90] (.cond (X.s 90) .skip (.exit 3))
def C.catnaplaw7_PowerHangs_c20_w := @awpE _ _ C.catnaplaw7_PowerHangs_c20.eq_1
def C.catnaplaw7_PowerHangs_r20_b : List IOper := [
 X.m 86 11,
 X.o 87 (.fldAddr 1 (X.s 6)),
 X.o 88 (.load1 (X.s 87)),
 X.o 89 (.len (X.s 88)),
 X.o 90 (.bin .lss (X.s 86) (X.s 89))]
def C.catnaplaw7_PowerHangs_r20 : List IOper := C.catnaplaw7_PowerHangs_r20_b
def C.catnaplaw7_PowerHangs_r20_w := @aopsE _ _ C.catnaplaw7_PowerHangs_r20.eq_1
def C.catnaplaw7_PowerHangs_l21 : ICode := .keep [1, 6, 7, 9, 11] (.seq (.seq (.region C.catnaplaw7_PowerHangs_r20) C.catnaplaw7_PowerHangs_c20) C.catnaplaw7_PowerHangs_c19)
def C.catnaplaw7_PowerHangs_l21_w := @awpE _ _ C.catnaplaw7_PowerHangs_l21.eq_1
def C.catnaplaw7_PowerHangs_b22 : ICode := .loop C.catnaplaw7_PowerHangs_l21
def C.catnaplaw7_PowerHangs_b22_w := @awpE _ _ C.catnaplaw7_PowerHangs_b22.eq_1
def C.catnaplaw7_PowerHangs_c23 : ICode := .keep [1, 6, 7, 9, 11] (.block 3 C.catnaplaw7_PowerHangs_b22)
def C.catnaplaw7_PowerHangs_c23_w := @awpE _ _ C.catnaplaw7_PowerHangs_c23.eq_1
def C.catnaplaw7_PowerHangs_r19_b : List IOper := [
 X.o 11 (.move (X.i 0))]
def C.catnaplaw7_PowerHangs_r19 : List IOper := C.catnaplaw7_PowerHangs_r19_b
def C.catnaplaw7_PowerHangs_r19_w := @aopsE _ _ C.catnaplaw7_PowerHangs_r19.eq_1
def C.catnaplaw7_PowerHangs_c24 : ICode := .keep [1, 6, 7, 9] (.seq (.region C.catnaplaw7_PowerHangs_r19) C.catnaplaw7_PowerHangs_c23)
def C.catnaplaw7_PowerHangs_c24_w := @awpE _ _ C.catnaplaw7_PowerHangs_c24.eq_1
def C.catnaplaw7_PowerHangs_r14_b : List IOper := [
 X.m 73 7,
 X.m 74 10,
 X.o 75 (.call F.power_Grid_Up [X.s 73, X.s 74])]
def C.catnaplaw7_PowerHangs_r14 : List IOper := C.catnaplaw7_PowerHangs_r14_b
def C.catnaplaw7_PowerHangs_r14_w := @aopsE _ _ C.catnaplaw7_PowerHangs_r14.eq_1
def C.catnaplaw7_PowerHangs_r16_b : List IOper := [
 X.m 78 7,
 X.m 79 10,
 X.o 80 (.call F.power_Grid_Down [X.s 78, X.s 79, .cst (.bool false)])]
def C.catnaplaw7_PowerHangs_r16 : List IOper := C.catnaplaw7_PowerHangs_r16_b
def C.catnaplaw7_PowerHangs_r16_w := @aopsE _ _ C.catnaplaw7_PowerHangs_r16.eq_1
def C.catnaplaw7_PowerHangs_r18_b : List IOper := [
 X.m 83 7,
 X.m 84 10,
 X.o 85 (.call F.power_Grid_Down [X.s 83, X.s 84, .cst (.bool true)])]
def C.catnaplaw7_PowerHangs_r18 : List IOper := C.catnaplaw7_PowerHangs_r18_b
def C.catnaplaw7_PowerHangs_r18_w := @aopsE _ _ C.catnaplaw7_PowerHangs_r18.eq_1
def C.catnaplaw7_PowerHangs_r11_b : List IOper := [
 X.m 68 7,
 X.o 69 (.call F.power_Grid_Tick [X.s 68])]
def C.catnaplaw7_PowerHangs_r11 : List IOper := C.catnaplaw7_PowerHangs_r11_b
def C.catnaplaw7_PowerHangs_r11_w := @aopsE _ _ C.catnaplaw7_PowerHangs_r11.eq_1
def C.catnaplaw7_PowerHangs_c25 : ICode := .region C.catnaplaw7_PowerHangs_r18
def C.catnaplaw7_PowerHangs_c25_w := @awpE _ _ C.catnaplaw7_PowerHangs_c25.eq_1
def C.catnaplaw7_PowerHangs_c26 : ICode := .region C.catnaplaw7_PowerHangs_r11
def C.catnaplaw7_PowerHangs_c26_w := @awpE _ _ C.catnaplaw7_PowerHangs_c26.eq_1
def C.catnaplaw7_PowerHangs_c27 : ICode := .keep [1, 6, 7, 9, 10, 81] (.cond (X.s 81) C.catnaplaw7_PowerHangs_c25 C.catnaplaw7_PowerHangs_c26)
def C.catnaplaw7_PowerHangs_c27_w := @awpE _ _ C.catnaplaw7_PowerHangs_c27.eq_1
def C.catnaplaw7_PowerHangs_r17_b : List IOper := [
 X.o 82 (.bin .eql (X.s 67) (X.i 3)),
 X.m 81 82]
def C.catnaplaw7_PowerHangs_r17 : List IOper := C.catnaplaw7_PowerHangs_r17_b
def C.catnaplaw7_PowerHangs_r17_w := @aopsE _ _ C.catnaplaw7_PowerHangs_r17.eq_1
def C.catnaplaw7_PowerHangs_c28 : ICode := .region C.catnaplaw7_PowerHangs_r16
def C.catnaplaw7_PowerHangs_c28_w := @awpE _ _ C.catnaplaw7_PowerHangs_c28.eq_1
def C.catnaplaw7_PowerHangs_c29 : ICode := .seq (.region C.catnaplaw7_PowerHangs_r17) C.catnaplaw7_PowerHangs_c27
def C.catnaplaw7_PowerHangs_c29_w := @awpE _ _ C.catnaplaw7_PowerHangs_c29.eq_1
def C.catnaplaw7_PowerHangs_c30 : ICode := .keep [1, 6, 7, 9, 10, 67, 76] (.cond (X.s 76) C.catnaplaw7_PowerHangs_c28 C.catnaplaw7_PowerHangs_c29)
def C.catnaplaw7_PowerHangs_c30_w := @awpE _ _ C.catnaplaw7_PowerHangs_c30.eq_1
def C.catnaplaw7_PowerHangs_r15_b : List IOper := [
 X.o 77 (.bin .eql (X.s 67) (X.i 2)),
 X.m 76 77]
def C.catnaplaw7_PowerHangs_r15 : List IOper := C.catnaplaw7_PowerHangs_r15_b
def C.catnaplaw7_PowerHangs_r15_w := @aopsE _ _ C.catnaplaw7_PowerHangs_r15.eq_1
def C.catnaplaw7_PowerHangs_c31 : ICode := .region C.catnaplaw7_PowerHangs_r14
def C.catnaplaw7_PowerHangs_c31_w := @awpE _ _ C.catnaplaw7_PowerHangs_c31.eq_1
def C.catnaplaw7_PowerHangs_c32 : ICode := .seq (.region C.catnaplaw7_PowerHangs_r15) C.catnaplaw7_PowerHangs_c30
def C.catnaplaw7_PowerHangs_c32_w := @awpE _ _ C.catnaplaw7_PowerHangs_c32.eq_1
def C.catnaplaw7_PowerHangs_c33 : ICode := .keep [1, 6, 7, 9, 10, 67, 70] (.cond (X.s 70) C.catnaplaw7_PowerHangs_c31 C.catnaplaw7_PowerHangs_c32)
def C.catnaplaw7_PowerHangs_c33_w := @awpE _ _ C.catnaplaw7_PowerHangs_c33.eq_1
def C.catnaplaw7_PowerHangs_r13_b : List IOper := [
 X.o 72 (.bin .eql (X.s 67) (X.i 1)),
 X.m 70 72]
def C.catnaplaw7_PowerHangs_r13 : List IOper := C.catnaplaw7_PowerHangs_r13_b
def C.catnaplaw7_PowerHangs_r13_w := @aopsE _ _ C.catnaplaw7_PowerHangs_r13.eq_1
def C.catnaplaw7_PowerHangs_c34 : ICode := .region C.catnaplaw7_PowerHangs_r13
def C.catnaplaw7_PowerHangs_c34_w := @awpE _ _ C.catnaplaw7_PowerHangs_c34.eq_1
def C.catnaplaw7_PowerHangs_c35 : ICode := .keep [1, 6, 7, 9, 10, 67, 70] (.cond (X.s 70) .skip C.catnaplaw7_PowerHangs_c34)
def C.catnaplaw7_PowerHangs_c35_w := @awpE _ _ C.catnaplaw7_PowerHangs_c35.eq_1
def C.catnaplaw7_PowerHangs_r12_b : List IOper := [
 X.o 71 (.bin .eql (X.s 67) (X.i 0)),
 X.m 70 71]
def C.catnaplaw7_PowerHangs_r12 : List IOper := C.catnaplaw7_PowerHangs_r12_b
def C.catnaplaw7_PowerHangs_r12_w := @aopsE _ _ C.catnaplaw7_PowerHangs_r12.eq_1
def C.catnaplaw7_PowerHangs_b36 : ICode := .seq (.seq (.region C.catnaplaw7_PowerHangs_r12) C.catnaplaw7_PowerHangs_c35) C.catnaplaw7_PowerHangs_c33
def C.catnaplaw7_PowerHangs_b36_w := @awpE _ _ C.catnaplaw7_PowerHangs_b36.eq_1
def C.catnaplaw7_PowerHangs_c37 : ICode := .keep [1, 6, 7, 9, 10, 67] (.block 2 C.catnaplaw7_PowerHangs_b36)
def C.catnaplaw7_PowerHangs_c37_w := @awpE _ _ C.catnaplaw7_PowerHangs_c37.eq_1
def C.catnaplaw7_PowerHangs_r10_b : List IOper := [
 X.m 62 1,
 X.m 63 9,
 X.o 64 (.idxAddr 2 (X.s 62) (X.s 63)),
 X.o 65 (.fldAddr 0 (X.s 64)),
 X.o 66 (.load1 (X.s 65)),
 X.o 67 (.call F.catnaplaw7_pick [X.s 66, X.i 7])]
def C.catnaplaw7_PowerHangs_r10 : List IOper := C.catnaplaw7_PowerHangs_r10_b
def C.catnaplaw7_PowerHangs_r10_w := @aopsE _ _ C.catnaplaw7_PowerHangs_r10.eq_1
def C.catnaplaw7_PowerHangs_c38 : ICode := .keep [1, 6, 7, 9, 10] (.seq (.seq (.region C.catnaplaw7_PowerHangs_r10) C.catnaplaw7_PowerHangs_c37) C.catnaplaw7_PowerHangs_c24)
def C.catnaplaw7_PowerHangs_c38_w := @awpE _ _ C.catnaplaw7_PowerHangs_c38.eq_1
def C.catnaplaw7_PowerHangs_r9_b : List IOper := [
 X.m 53 1,
 X.m 54 9,
 X.o 55 (.idxAddr 2 (X.s 53) (X.s 54)),
 X.o 56 (.fldAddr 1 (X.s 55)),
 X.o 57 (.load1 (X.s 56)),
 X.o 58 (.fldAddr 1 (X.s 6)),
 X.o 59 (.load1 (X.s 58)),
 X.o 60 (.len (X.s 59)),
 X.o 61 (.call F.catnaplaw7_pick [X.s 57, X.s 60]),
 X.m 10 61]
def C.catnaplaw7_PowerHangs_r9 : List IOper := C.catnaplaw7_PowerHangs_r9_b
def C.catnaplaw7_PowerHangs_r9_w := @aopsE _ _ C.catnaplaw7_PowerHangs_r9.eq_1
def C.catnaplaw7_PowerHangs_b39 : ICode := .seq (.region C.catnaplaw7_PowerHangs_r9) C.catnaplaw7_PowerHangs_c38
def C.catnaplaw7_PowerHangs_b39_w := @awpE _ _ C.catnaplaw7_PowerHangs_b39.eq_1
def C.catnaplaw7_PowerHangs_c40 : ICode := .keep [1, 6, 7, 9] (.seq (.block 1 C.catnaplaw7_PowerHangs_b39) C.catnaplaw7_PowerHangs_c2)
def C.catnaplaw7_PowerHangs_c40_w := @awpE _ _ C.catnaplaw7_PowerHangs_c40.eq_1
def C.catnaplaw7_PowerHangs_c41 : ICode := .keep [1, 6, 7, 9, 50] (.cond (X.s 50) .skip (.exit 0))
def C.catnaplaw7_PowerHangs_c41_w := @awpE _ _ C.catnaplaw7_PowerHangs_c41.eq_1
def C.catnaplaw7_PowerHangs_r7_b : List IOper := [
 X.m 47 9,
 X.m 48 1,
 X.o 49 (.len (X.s 48)),
 X.o 50 (.bin .lss (X.s 47) (X.s 49))]
def C.catnaplaw7_PowerHangs_r7 : List IOper := C.catnaplaw7_PowerHangs_r7_b
def C.catnaplaw7_PowerHangs_r7_w := @aopsE _ _ C.catnaplaw7_PowerHangs_r7.eq_1
def C.catnaplaw7_PowerHangs_l42 : ICode := .keep [1, 6, 7, 9] (.seq (.seq (.region C.catnaplaw7_PowerHangs_r7) C.catnaplaw7_PowerHangs_c41) C.catnaplaw7_PowerHangs_c40)
def C.catnaplaw7_PowerHangs_l42_w := @awpE _ _ C.catnaplaw7_PowerHangs_l42.eq_1
def C.catnaplaw7_PowerHangs_b43 : ICode := .loop C.catnaplaw7_PowerHangs_l42
def C.catnaplaw7_PowerHangs_b43_w := @awpE _ _ C.catnaplaw7_PowerHangs_b43.eq_1
def C.catnaplaw7_PowerHangs_c44 : ICode := .keep [1, 6, 7, 9] (.block 0 C.catnaplaw7_PowerHangs_b43)
def C.catnaplaw7_PowerHangs_c44_w := @awpE _ _ C.catnaplaw7_PowerHangs_c44.eq_1
def C.catnaplaw7_PowerHangs_r6_b : List IOper := [
 X.o 9 (.move (X.i 0))]
def C.catnaplaw7_PowerHangs_r6 : List IOper := C.catnaplaw7_PowerHangs_r6_b
def C.catnaplaw7_PowerHangs_r6_w := @aopsE _ _ C.catnaplaw7_PowerHangs_r6.eq_1
def C.catnaplaw7_PowerHangs_c45 : ICode := .keep [1, 6, 7] (.seq (.seq (.region C.catnaplaw7_PowerHangs_r6) C.catnaplaw7_PowerHangs_c44) C.catnaplaw7_PowerHangs_c1)
def C.catnaplaw7_PowerHangs_c45_w := @awpE _ _ C.catnaplaw7_PowerHangs_c45.eq_1
def C.catnaplaw7_PowerHangs_r5_b : List IOper := [
 X.m 38 5,
 X.m 39 38,
 X.t 39 40 (.move (X.s 7)),
 X.t 39 41 (.eqP 0 true (X.s 40) (.cst (.nilp))),
 X.o 42 (.pick (X.s 39) (X.s 41) (.cst (.bool false))),
 X.m 43 42,
 X.t 43 44 (.move (X.s 8)),
 X.t 43 45 (.bin .eql (X.s 44) (X.i 0)),
 X.o 46 (.pick (X.s 43) (X.s 45) (.cst (.bool false))),
 X.m 4 46]
def C.catnaplaw7_PowerHangs_r5 : List IOper := C.catnaplaw7_PowerHangs_r5_b
def C.catnaplaw7_PowerHangs_r5_w := @aopsE _ _ C.catnaplaw7_PowerHangs_r5.eq_1
def C.catnaplaw7_PowerHangs_c46 : ICode := .seq (.region C.catnaplaw7_PowerHangs_r5) .ret
def C.catnaplaw7_PowerHangs_c46_w := @awpE _ _ C.catnaplaw7_PowerHangs_c46.eq_1
def C.catnaplaw7_PowerHangs_c47 : ICode := .keep [1, 5, 6, 7, 8, 37] (.cond (X.s 37) C.catnaplaw7_PowerHangs_c46 .skip)
def C.catnaplaw7_PowerHangs_c47_w := @awpE _ _ C.catnaplaw7_PowerHangs_c47.eq_1
def C.catnaplaw7_PowerHangs_r4_b : List IOper := [
 X.m 23 5,
 X.o 24 (.un .not (X.s 23)),
 X.m 25 24,
 X.f 25 26 (.move (X.s 7)),
 X.f 25 27 (.eqP 0 false (X.s 26) (.cst (.nilp))),
 X.o 28 (.pick (X.s 25) (.cst (.bool true)) (X.s 27)),
 X.m 29 28,
 X.f 29 30 (.move (X.s 8)),
 X.f 29 31 (.bin .neq (X.s 30) (X.i 0)),
 X.o 32 (.pick (X.s 29) (.cst (.bool true)) (X.s 31)),
 X.m 33 32,
 X.f 33 34 (.move (X.s 1)),
 X.f 33 35 (.len (X.s 34)),
 X.f 33 36 (.bin .gtr (X.s 35) (X.i 120)),
 X.o 37 (.pick (X.s 33) (.cst (.bool true)) (X.s 36))]
def C.catnaplaw7_PowerHangs_r4 : List IOper := C.catnaplaw7_PowerHangs_r4_b
def C.catnaplaw7_PowerHangs_r4_w := @aopsE _ _ C.catnaplaw7_PowerHangs_r4.eq_1
def C.catnaplaw7_PowerHangs_c48 : ICode := .keep [1, 5, 6, 7, 8] (.seq (.seq (.region C.catnaplaw7_PowerHangs_r4) C.catnaplaw7_PowerHangs_c47) C.catnaplaw7_PowerHangs_c45)
def C.catnaplaw7_PowerHangs_c48_w := @awpE _ _ C.catnaplaw7_PowerHangs_c48.eq_1
def C.catnaplaw7_PowerHangs_r3_b : List IOper := [
 X.o 19 (.loadN 4 (X.s 6)),
 X.o 20 (.call F.power_New [X.s 19]),
 X.m 18 20,
 X.o 21 (.extract (X.s 18) 0),
 X.o 22 (.extract (X.s 18) 1),
 X.m 7 21,
 X.m 8 22]
def C.catnaplaw7_PowerHangs_r3 : List IOper := C.catnaplaw7_PowerHangs_r3_b
def C.catnaplaw7_PowerHangs_r3_w := @aopsE _ _ C.catnaplaw7_PowerHangs_r3.eq_1
def C.catnaplaw7_PowerHangs_c49 : ICode := .keep [1, 5, 6] (.seq (.region C.catnaplaw7_PowerHangs_r3) C.catnaplaw7_PowerHangs_c48)
def C.catnaplaw7_PowerHangs_c49_w := @awpE _ _ C.catnaplaw7_PowerHangs_c49.eq_1
def C.catnaplaw7_PowerHangs_r2_b : List IOper := [
 X.m 16 0,
 X.o 17 (.call F.catnaplaw7_chip [X.s 16]),
 X.o 6 (.alloc [.nils, .nils, .nils, .nils]),
 X.n (.storeN 4 (X.s 6) (X.s 17))]
def C.catnaplaw7_PowerHangs_r2 : List IOper := C.catnaplaw7_PowerHangs_r2_b
def C.catnaplaw7_PowerHangs_r2_w := @aopsE _ _ C.catnaplaw7_PowerHangs_r2.eq_1
def C.catnaplaw7_PowerHangs_c50 : ICode := .keep [0, 1, 5] (.seq (.region C.catnaplaw7_PowerHangs_r2) C.catnaplaw7_PowerHangs_c49)
def C.catnaplaw7_PowerHangs_c50_w := @awpE _ _ C.catnaplaw7_PowerHangs_c50.eq_1
def C.catnaplaw7_PowerHangs_r1_b : List IOper := [
 X.o 15 (.call F.catnaplaw7_shown []),
 X.m 5 15]
def C.catnaplaw7_PowerHangs_r1 : List IOper := C.catnaplaw7_PowerHangs_r1_b
def C.catnaplaw7_PowerHangs_r1_w := @aopsE _ _ C.catnaplaw7_PowerHangs_r1.eq_1
def C.catnaplaw7_PowerHangs_c51 : ICode := .keep [0, 1] (.seq (.region C.catnaplaw7_PowerHangs_r1) C.catnaplaw7_PowerHangs_c50)
def C.catnaplaw7_PowerHangs_c51_w := @awpE _ _ C.catnaplaw7_PowerHangs_c51.eq_1
def C.catnaplaw7_PowerHangs_r0_b : List IOper := [
 X.o 4 (.move (.cst (.bool false)))]
def C.catnaplaw7_PowerHangs_r0 : List IOper := C.catnaplaw7_PowerHangs_r0_b
def C.catnaplaw7_PowerHangs_r0_w := @aopsE _ _ C.catnaplaw7_PowerHangs_r0.eq_1
def C.catnaplaw7_PowerHangs : IFunc := ⟨2, [.slot 4], .seq (.region C.catnaplaw7_PowerHangs_r0) C.catnaplaw7_PowerHangs_c51⟩
def C.catnaplaw7_PowerHangs_W := And.intro (And.intro (And.intro (And.intro (And.intro (And.intro @C.catnaplaw7_PowerHangs_r31_w @C.catnaplaw7_PowerHangs_c1_w) (And.intro @C.catnaplaw7_PowerHangs_r8_w (And.intro @C.catnaplaw7_PowerHangs_c2_w @C.catnaplaw7_PowerHangs_r21_w))) (And.intro (And.intro @C.catnaplaw7_PowerHangs_c3_w @C.catnaplaw7_PowerHangs_r28_w) (And.intro @C.catnaplaw7_PowerHangs_c4_w (And.intro @C.catnaplaw7_PowerHangs_r30_w @C.catnaplaw7_PowerHangs_c5_w)))) (And.intro (And.intro (And.intro @C.catnaplaw7_PowerHangs_c6_w @C.catnaplaw7_PowerHangs_r29_w) (And.intro @C.catnaplaw7_PowerHangs_b7_w (And.intro @C.catnaplaw7_PowerHangs_c8_w @C.catnaplaw7_PowerHangs_c9_w))) (And.intro (And.intro @C.catnaplaw7_PowerHangs_r27_w @C.catnaplaw7_PowerHangs_b11_w) (And.intro @C.catnaplaw7_PowerHangs_c12_w (And.intro @C.catnaplaw7_PowerHangs_r26_w @C.catnaplaw7_PowerHangs_c13_w))))) (And.intro (And.intro (And.intro (And.intro @C.catnaplaw7_PowerHangs_r25_w @C.catnaplaw7_PowerHangs_c14_w) (And.intro @C.catnaplaw7_PowerHangs_c15_w (And.intro @C.catnaplaw7_PowerHangs_r24_w @C.catnaplaw7_PowerHangs_c16_w))) (And.intro (And.intro @C.catnaplaw7_PowerHangs_r23_w @C.catnaplaw7_PowerHangs_c17_w) (And.intro @C.catnaplaw7_PowerHangs_r22_w (And.intro @C.catnaplaw7_PowerHangs_b18_w @C.catnaplaw7_PowerHangs_c19_w)))) (And.intro (And.intro (And.intro @C.catnaplaw7_PowerHangs_c20_w @C.catnaplaw7_PowerHangs_r20_w) (And.intro @C.catnaplaw7_PowerHangs_b22_w (And.intro @C.catnaplaw7_PowerHangs_c23_w @C.catnaplaw7_PowerHangs_r19_w))) (And.intro (And.intro @C.catnaplaw7_PowerHangs_c24_w @C.catnaplaw7_PowerHangs_r14_w) (And.intro @C.catnaplaw7_PowerHangs_r16_w (And.intro @C.catnaplaw7_PowerHangs_r18_w @C.catnaplaw7_PowerHangs_r11_w)))))) (And.intro (And.intro (And.intro (And.intro (And.intro @C.catnaplaw7_PowerHangs_c25_w @C.catnaplaw7_PowerHangs_c26_w) (And.intro @C.catnaplaw7_PowerHangs_c27_w (And.intro @C.catnaplaw7_PowerHangs_r17_w @C.catnaplaw7_PowerHangs_c28_w))) (And.intro (And.intro @C.catnaplaw7_PowerHangs_c29_w @C.catnaplaw7_PowerHangs_c30_w) (And.intro @C.catnaplaw7_PowerHangs_r15_w (And.intro @C.catnaplaw7_PowerHangs_c31_w @C.catnaplaw7_PowerHangs_c32_w)))) (And.intro (And.intro (And.intro @C.catnaplaw7_PowerHangs_c33_w @C.catnaplaw7_PowerHangs_r13_w) (And.intro @C.catnaplaw7_PowerHangs_c34_w (And.intro @C.catnaplaw7_PowerHangs_c35_w @C.catnaplaw7_PowerHangs_r12_w))) (And.intro (And.intro @C.catnaplaw7_PowerHangs_b36_w @C.catnaplaw7_PowerHangs_c37_w) (And.intro @C.catnaplaw7_PowerHangs_r10_w (And.intro @C.catnaplaw7_PowerHangs_c38_w @C.catnaplaw7_PowerHangs_r9_w))))) (And.intro (And.intro (And.intro (And.intro @C.catnaplaw7_PowerHangs_b39_w @C.catnaplaw7_PowerHangs_c40_w) (And.intro @C.catnaplaw7_PowerHangs_c41_w (And.intro @C.catnaplaw7_PowerHangs_r7_w @C.catnaplaw7_PowerHangs_b43_w))) (And.intro (And.intro @C.catnaplaw7_PowerHangs_c44_w @C.catnaplaw7_PowerHangs_r6_w) (And.intro @C.catnaplaw7_PowerHangs_c45_w (And.intro @C.catnaplaw7_PowerHangs_r5_w @C.catnaplaw7_PowerHangs_c46_w)))) (And.intro (And.intro (And.intro @C.catnaplaw7_PowerHangs_c47_w @C.catnaplaw7_PowerHangs_r4_w) (And.intro @C.catnaplaw7_PowerHangs_c48_w (And.intro @C.catnaplaw7_PowerHangs_r3_w @C.catnaplaw7_PowerHangs_c49_w))) (And.intro (And.intro @C.catnaplaw7_PowerHangs_r2_w @C.catnaplaw7_PowerHangs_c50_w) (And.intro @C.catnaplaw7_PowerHangs_r1_w (And.intro @C.catnaplaw7_PowerHangs_c51_w @C.catnaplaw7_PowerHangs_r0_w))))))
def C.catnaplaw7_PowerHangs_B := And.intro (And.intro (And.intro (And.intro (And.intro @C.catnaplaw7_PowerHangs_r31_b.eq_1 @C.catnaplaw7_PowerHangs_r8_b.eq_1) (And.intro @C.catnaplaw7_PowerHangs_r21_b.eq_1 @C.catnaplaw7_PowerHangs_r28_b.eq_1)) (And.intro (And.intro @C.catnaplaw7_PowerHangs_r30_b.eq_1 @C.catnaplaw7_PowerHangs_r29_b.eq_1) (And.intro @C.catnaplaw7_PowerHangs_r27_b.eq_1 @C.catnaplaw7_PowerHangs_r26_b.eq_1))) (And.intro (And.intro (And.intro @C.catnaplaw7_PowerHangs_r25_b.eq_1 @C.catnaplaw7_PowerHangs_r24_b.eq_1) (And.intro @C.catnaplaw7_PowerHangs_r23_b.eq_1 @C.catnaplaw7_PowerHangs_r22_b.eq_1)) (And.intro (And.intro @C.catnaplaw7_PowerHangs_r20_b.eq_1 @C.catnaplaw7_PowerHangs_r19_b.eq_1) (And.intro @C.catnaplaw7_PowerHangs_r14_b.eq_1 @C.catnaplaw7_PowerHangs_r16_b.eq_1)))) (And.intro (And.intro (And.intro (And.intro @C.catnaplaw7_PowerHangs_r18_b.eq_1 @C.catnaplaw7_PowerHangs_r11_b.eq_1) (And.intro @C.catnaplaw7_PowerHangs_r17_b.eq_1 @C.catnaplaw7_PowerHangs_r15_b.eq_1)) (And.intro (And.intro @C.catnaplaw7_PowerHangs_r13_b.eq_1 @C.catnaplaw7_PowerHangs_r12_b.eq_1) (And.intro @C.catnaplaw7_PowerHangs_r10_b.eq_1 @C.catnaplaw7_PowerHangs_r9_b.eq_1))) (And.intro (And.intro (And.intro @C.catnaplaw7_PowerHangs_r7_b.eq_1 @C.catnaplaw7_PowerHangs_r6_b.eq_1) (And.intro @C.catnaplaw7_PowerHangs_r5_b.eq_1 @C.catnaplaw7_PowerHangs_r4_b.eq_1)) (And.intro (And.intro @C.catnaplaw7_PowerHangs_r3_b.eq_1 @C.catnaplaw7_PowerHangs_r2_b.eq_1) (And.intro @C.catnaplaw7_PowerHangs_r1_b.eq_1 @C.catnaplaw7_PowerHangs_r0_b.eq_1))))

def C.catnaplaw7_PowerTakes_r24_b : List IOper := [
 X.m 155 15,
 X.o 156 (.len (X.s 155)),
 X.o 157 (.bin .eql (X.s 156) (X.i 1)),
 X.m 158 157,
 X.t 158 159 (.move (X.s 15)),
 X.t 158 160 (.idxAddr 2 (X.s 159) (X.i 0)),
 X.t 158 161 (.fldAddr 0 (X.s 160)),
 X.t 158 162 (.load1 (X.s 161)),
 X.t 158 163 (.move (X.s 16)),
 X.t 158 164 (.bin .eql (X.s 162) (X.s 163)),
 X.o 165 (.pick (X.s 158) (X.s 164) (.cst (.bool false))),
 X.m 166 165,
 X.t 166 167 (.move (X.s 15)),
 X.t 166 168 (.idxAddr 2 (X.s 167) (X.i 0)),
 X.t 166 169 (.fldAddr 1 (X.s 168)),
 X.t 166 170 (.load1 (X.s 169)),
 X.t 166 171 (.move (X.s 11)),
 X.t 166 172 (.bin .eql (X.s 170) (X.s 171)),
 X.o 173 (.pick (X.s 166) (X.s 172) (.cst (.bool false))),
 X.m 174 173,
 X.t 174 175 (.move (X.s 9)),
 X.t 174 176 (.move (X.s 11)),
 X.t 174 177 (.call F.power_Grid_Up [X.s 175, X.s 176]),
 X.t 174 178 (.bin .eql (X.s 177) (X.i 0)),
 X.o 179 (.pick (X.s 174) (X.s 178) (.cst (.bool false))),
 X.m 180 179,
 X.t 180 181 (.move (X.s 9)),
 X.t 180 182 (.move (X.s 11)),
 X.t 180 183 (.fldAddr 1 (X.s 8)),
 X.t 180 184 (.load1 (X.s 183)),
 X.t 180 185 (.move (X.s 11)),
 X.t 180 186 (.idxAddr 3 (X.s 184) (X.s 185)),
 X.t 180 187 (.fldAddr 1 (X.s 186)),
 X.t 180 188 (.load1 (X.s 187)),
 X.t 180 189 (.move (X.s 17)),
 X.t 180 190 (.call F.catnaplaw7_risen [X.s 181, X.s 182, X.s 188, X.s 189]),
 X.o 191 (.pick (X.s 180) (X.s 190) (.cst (.bool false))),
 X.m 6 191]
def C.catnaplaw7_PowerTakes_r24 : List IOper := C.catnaplaw7_PowerTakes_r24_b
def C.catnaplaw7_PowerTakes_r24_w := @aopsE _ _ C.catnaplaw7_PowerTakes_r24.eq_1
def C.catnaplaw7_PowerTakes_c1 : ICode := .keep [8, 9, 11, 15, 16, 17] (.seq (.region C.catnaplaw7_PowerTakes_r24) .ret)
def C.catnaplaw7_PowerTakes_c1_w := @awpE _ _ C.catnaplaw7_PowerTakes_c1.eq_1
def C.catnaplaw7_PowerTakes_r23_b : List IOper := [
 X.o 17 (.move (.cst (.int .u8 114)))]
def C.catnaplaw7_PowerTakes_r23 : List IOper := C.catnaplaw7_PowerTakes_r23_b
def C.catnaplaw7_PowerTakes_r23_w := @aopsE _ _ C.catnaplaw7_PowerTakes_r23.eq_1
def C.catnaplaw7_PowerTakes_c2 : ICode := .keep [8, 9, 11, 15, 16] (.region C.catnaplaw7_PowerTakes_r23)
def C.catnaplaw7_PowerTakes_c2_w := @awpE _ _ C.catnaplaw7_PowerTakes_c2.eq_1
def C.catnaplaw7_PowerTakes_r22_b : List IOper := [
 X.o 16 (.move (.cst (.int .u8 115)))]
def C.catnaplaw7_PowerTakes_r22 : List IOper := C.catnaplaw7_PowerTakes_r22_b
def C.catnaplaw7_PowerTakes_r22_w := @aopsE _ _ C.catnaplaw7_PowerTakes_r22.eq_1
def C.catnaplaw7_PowerTakes_c3 : ICode := .seq (.region C.catnaplaw7_PowerTakes_r22) C.catnaplaw7_PowerTakes_c2
def C.catnaplaw7_PowerTakes_c3_w := @awpE _ _ C.catnaplaw7_PowerTakes_c3.eq_1
def C.catnaplaw7_PowerTakes_c4 : ICode := .keep [8, 9, 11, 15, 16, 17, 154] (.cond (X.s 154) C.catnaplaw7_PowerTakes_c3 .skip)
def C.catnaplaw7_PowerTakes_c4_w := @awpE _ _ C.catnaplaw7_PowerTakes_c4.eq_1
def C.catnaplaw7_PowerTakes_r21_b : List IOper := [
 X.m 154 2]
def C.catnaplaw7_PowerTakes_r21 : List IOper := C.catnaplaw7_PowerTakes_r21_b
def C.catnaplaw7_PowerTakes_r21_w := @aopsE _ _ C.catnaplaw7_PowerTakes_r21.eq_1
def C.catnaplaw7_PowerTakes_c5 : ICode := .keep [2, 8, 9, 11, 15, 16, 17] (.seq (.seq (.region C.catnaplaw7_PowerTakes_r21) C.catnaplaw7_PowerTakes_c4) C.catnaplaw7_PowerTakes_c1)
def C.catnaplaw7_PowerTakes_c5_w := @awpE _ _ C.catnaplaw7_PowerTakes_c5.eq_1
def C.catnaplaw7_PowerTakes_r20_b : List IOper := [
 X.o 17 (.move (.cst (.int .u8 110)))]
def C.catnaplaw7_PowerTakes_r20 : List IOper := C.catnaplaw7_PowerTakes_r20_b
def C.catnaplaw7_PowerTakes_r20_w := @aopsE _ _ C.catnaplaw7_PowerTakes_r20.eq_1
def C.catnaplaw7_PowerTakes_c6 : ICode := .keep [2, 8, 9, 11, 15, 16] (.seq (.region C.catnaplaw7_PowerTakes_r20) C.catnaplaw7_PowerTakes_c5)
def C.catnaplaw7_PowerTakes_c6_w := @awpE _ _ C.catnaplaw7_PowerTakes_c6.eq_1
def C.catnaplaw7_PowerTakes_r19_b : List IOper := [
 X.o 16 (.move (.cst (.int .u8 108)))]
def C.catnaplaw7_PowerTakes_r19 : List IOper := C.catnaplaw7_PowerTakes_r19_b
def C.catnaplaw7_PowerTakes_r19_w := @aopsE _ _ C.catnaplaw7_PowerTakes_r19.eq_1
def C.catnaplaw7_PowerTakes_c7 : ICode := .keep [2, 8, 9, 11, 15] (.seq (.region C.catnaplaw7_PowerTakes_r19) C.catnaplaw7_PowerTakes_c6)
def C.catnaplaw7_PowerTakes_c7_w := @awpE _ _ C.catnaplaw7_PowerTakes_c7.eq_1
def C.catnaplaw7_PowerTakes_r18_b : List IOper := [
 X.m 152 9,
 X.o 153 (.call F.power_Grid_Tick [X.s 152]),
 X.m 15 153]
def C.catnaplaw7_PowerTakes_r18 : List IOper := C.catnaplaw7_PowerTakes_r18_b
def C.catnaplaw7_PowerTakes_r18_w := @aopsE _ _ C.catnaplaw7_PowerTakes_r18.eq_1
def C.catnaplaw7_PowerTakes_c8 : ICode := .keep [2, 8, 9, 11] (.seq (.region C.catnaplaw7_PowerTakes_r18) C.catnaplaw7_PowerTakes_c7)
def C.catnaplaw7_PowerTakes_c8_w := @awpE _ _ C.catnaplaw7_PowerTakes_c8.eq_1
def C.catnaplaw7_PowerTakes_r17_b : List IOper := [
 X.o 6 (.move (.cst (.bool false)))]
def C.catnaplaw7_PowerTakes_r17 : List IOper := C.catnaplaw7_PowerTakes_r17_b
def C.catnaplaw7_PowerTakes_r17_w := @aopsE _ _ C.catnaplaw7_PowerTakes_r17.eq_1
def C.catnaplaw7_PowerTakes_c9 : ICode := .seq (.region C.catnaplaw7_PowerTakes_r17) .ret
def C.catnaplaw7_PowerTakes_c9_w := @awpE _ _ C.catnaplaw7_PowerTakes_c9.eq_1
def C.catnaplaw7_PowerTakes_c10 : ICode := .keep [2, 8, 9, 11, 151] (.cond (X.s 151) C.catnaplaw7_PowerTakes_c9 .skip)
def C.catnaplaw7_PowerTakes_c10_w := @awpE _ _ C.catnaplaw7_PowerTakes_c10.eq_1
def C.catnaplaw7_PowerTakes_r16_b : List IOper := [
 X.m 123 14,
 X.o 124 (.bin .neq (X.s 123) (X.i 0)),
 X.m 125 124,
 X.f 125 126 (.move (X.s 9)),
 X.f 125 127 (.move (X.s 11)),
 X.f 125 128 (.call F.power_Grid_Phase [X.s 126, X.s 127]),
 X.f 125 129 (.bin .neq (X.s 128) (.cst (.int .u8 99))),
 X.o 130 (.pick (X.s 125) (.cst (.bool true)) (X.s 129)),
 X.m 131 130,
 X.f 131 132 (.move (X.s 12)),
 X.f 131 133 (.len (X.s 132)),
 X.f 131 134 (.bin .gtr (X.s 133) (X.i 1)),
 X.f 131 135 (.move (X.s 134)),
 X.t 135 136 (.move (X.s 9)),
 X.t 135 137 (.move (X.s 12)),
 X.t 135 138 (.idxAddr 1 (X.s 137) (X.i 0)),
 X.t 135 139 (.load1 (X.s 138)),
 X.t 135 140 (.call F.power_Grid_Down [X.s 136, X.s 139, .cst (.bool false)]),
 X.t 135 141 (.bin .neq (X.s 140) (X.i 7)),
 X.f 131 142 (.pick (X.s 135) (X.s 141) (.cst (.bool false))),
 X.f 131 143 (.move (X.s 142)),
 X.t 143 144 (.move (X.s 9)),
 X.t 143 145 (.move (X.s 12)),
 X.t 143 146 (.idxAddr 1 (X.s 145) (X.i 0)),
 X.t 143 147 (.load1 (X.s 146)),
 X.t 143 148 (.call F.power_Grid_Phase [X.s 144, X.s 147]),
 X.t 143 149 (.bin .neq (X.s 148) (.cst (.int .u8 49))),
 X.f 131 150 (.pick (X.s 143) (X.s 149) (.cst (.bool false))),
 X.o 151 (.pick (X.s 131) (.cst (.bool true)) (X.s 150))]
def C.catnaplaw7_PowerTakes_r16 : List IOper := C.catnaplaw7_PowerTakes_r16_b
def C.catnaplaw7_PowerTakes_r16_w := @aopsE _ _ C.catnaplaw7_PowerTakes_r16.eq_1
def C.catnaplaw7_PowerTakes_c11 : ICode := .keep [2, 8, 9, 11, 12, 14] (.seq (.seq (.region C.catnaplaw7_PowerTakes_r16) C.catnaplaw7_PowerTakes_c10) C.catnaplaw7_PowerTakes_c8)
def C.catnaplaw7_PowerTakes_c11_w := @awpE _ _ C.catnaplaw7_PowerTakes_c11.eq_1
def C.catnaplaw7_PowerTakes_r15_b : List IOper := [
 X.m 115 14,
 X.o 116 (.bin .eql (X.s 115) (X.i 1)),
 X.m 117 116,
 X.t 117 118 (.move (X.s 9)),
 X.t 117 119 (.move (X.s 11)),
 X.t 117 120 (.call F.power_Grid_Phase [X.s 118, X.s 119]),
 X.t 117 121 (.bin .eql (X.s 120) (.cst (.int .u8 49))),
 X.o 122 (.pick (X.s 117) (X.s 121) (.cst (.bool false))),
 X.m 6 122]
def C.catnaplaw7_PowerTakes_r15 : List IOper := C.catnaplaw7_PowerTakes_r15_b
def C.catnaplaw7_PowerTakes_r15_w := @aopsE _ _ C.catnaplaw7_PowerTakes_r15.eq_1
def C.catnaplaw7_PowerTakes_c12 : ICode := .seq (.region C.catnaplaw7_PowerTakes_r15) .ret
def C.catnaplaw7_PowerTakes_c12_w := @awpE _ _ C.catnaplaw7_PowerTakes_c12.eq_1
def C.catnaplaw7_PowerTakes_c13 : ICode := .keep [2, 8, 9, 11, 12, 14, 114] (.cond (X.s 114) C.catnaplaw7_PowerTakes_c12 .skip)
def C.catnaplaw7_PowerTakes_c13_w := @awpE _ _ C.catnaplaw7_PowerTakes_c13.eq_1
def C.catnaplaw7_PowerTakes_r14_b : List IOper := [
 X.m 105 2,
 X.m 106 105,
 X.t 106 107 (.fldAddr 1 (X.s 8)),
 X.t 106 108 (.load1 (X.s 107)),
 X.t 106 109 (.move (X.s 11)),
 X.t 106 110 (.idxAddr 3 (X.s 108) (X.s 109)),
 X.t 106 111 (.fldAddr 2 (X.s 110)),
 X.t 106 112 (.load1 (X.s 111)),
 X.t 106 113 (.un .not (X.s 112)),
 X.o 114 (.pick (X.s 106) (X.s 113) (.cst (.bool false)))]
def C.catnaplaw7_PowerTakes_r14 : List IOper := C.catnaplaw7_PowerTakes_r14_b
def C.catnaplaw7_PowerTakes_r14_w := @aopsE _ _ C.catnaplaw7_PowerTakes_r14.eq_1
def C.catnaplaw7_PowerTakes_c14 : ICode := .keep [2, 8, 9, 11, 12, 14] (.seq (.seq (.region C.catnaplaw7_PowerTakes_r14) C.catnaplaw7_PowerTakes_c13) C.catnaplaw7_PowerTakes_c11)
def C.catnaplaw7_PowerTakes_c14_w := @awpE _ _ C.catnaplaw7_PowerTakes_c14.eq_1
def C.catnaplaw7_PowerTakes_r13_b : List IOper := [
 X.m 101 9,
 X.m 102 11,
 X.m 103 2,
 X.o 104 (.call F.power_Grid_Down [X.s 101, X.s 102, X.s 103]),
 X.m 14 104]
def C.catnaplaw7_PowerTakes_r13 : List IOper := C.catnaplaw7_PowerTakes_r13_b
def C.catnaplaw7_PowerTakes_r13_w := @aopsE _ _ C.catnaplaw7_PowerTakes_r13.eq_1
def C.catnaplaw7_PowerTakes_c15 : ICode := .keep [2, 8, 9, 11, 12] (.seq (.region C.catnaplaw7_PowerTakes_r13) C.catnaplaw7_PowerTakes_c14)
def C.catnaplaw7_PowerTakes_c15_w := @awpE _ _ C.catnaplaw7_PowerTakes_c15.eq_1
def C.catnaplaw7_PowerTakes_r10_b : List IOper := [
 X.m 48 13,
 X.o 49 (.bin .add (X.s 48) (X.i 1)),
 X.m 13 49]
def C.catnaplaw7_PowerTakes_r10 : List IOper := C.catnaplaw7_PowerTakes_r10_b
def C.catnaplaw7_PowerTakes_r10_w := @aopsE _ _ C.catnaplaw7_PowerTakes_r10.eq_1
def C.catnaplaw7_PowerTakes_c16 : ICode := .keep [2, 8, 9, 11, 12, 13] (.region C.catnaplaw7_PowerTakes_r10)
def C.catnaplaw7_PowerTakes_c16_w := @awpE _ _ C.catnaplaw7_PowerTakes_c16.eq_1
def C.catnaplaw7_PowerTakes_r12_b : List IOper := [
 X.o 6 (.move (.cst (.bool false)))]
def C.catnaplaw7_PowerTakes_r12 : List IOper := C.catnaplaw7_PowerTakes_r12_b
def C.catnaplaw7_PowerTakes_r12_w := @aopsE _ _ C.catnaplaw7_PowerTakes_r12.eq_1
def C.catnaplaw7_PowerTakes_c17 : ICode := .seq (.region C.catnaplaw7_PowerTakes_r12) .ret
def C.catnaplaw7_PowerTakes_c17_w := @awpE _ _ C.catnaplaw7_PowerTakes_c17.eq_1
def C.catnaplaw7_PowerTakes_c18 : ICode := .keep [2, 8, 9, 11, 12, 13, 100] (.cond (X.s 100) C.catnaplaw7_PowerTakes_c17 .skip)
def C.catnaplaw7_PowerTakes_c18_w := @awpE _ _ C.catnaplaw7_PowerTakes_c18.eq_1
def C.catnaplaw7_PowerTakes_r11_b : List IOper := [
 X.m 50 13,
 X.o 51 (.bin .add (X.s 50) (X.i 1)),
 X.m 52 12,
 X.o 53 (.len (X.s 52)),
 X.o 54 (.bin .lss (X.s 51) (X.s 53)),
 X.m 55 54,
 X.t 55 56 (.move (X.s 9)),
 X.t 55 57 (.move (X.s 12)),
 X.t 55 58 (.move (X.s 13)),
 X.t 55 59 (.bin .add (X.s 58) (X.i 1)),
 X.t 55 60 (.idxAddr 1 (X.s 57) (X.s 59)),
 X.t 55 61 (.load1 (X.s 60)),
 X.t 55 62 (.call F.power_Grid_Up [X.s 56, X.s 61]),
 X.t 55 63 (.bin .neq (X.s 62) (X.i 6)),
 X.o 64 (.pick (X.s 55) (X.s 63) (.cst (.bool false))),
 X.m 65 64,
 X.f 65 66 (.move (X.s 9)),
 X.f 65 67 (.move (X.s 12)),
 X.f 65 68 (.move (X.s 13)),
 X.f 65 69 (.idxAddr 1 (X.s 67) (X.s 68)),
 X.f 65 70 (.load1 (X.s 69)),
 X.f 65 71 (.call F.power_Grid_Up [X.s 66, X.s 70]),
 X.f 65 72 (.bin .neq (X.s 71) (X.i 0)),
 X.o 73 (.pick (X.s 65) (.cst (.bool true)) (X.s 72)),
 X.m 74 73,
 X.f 74 75 (.move (X.s 9)),
 X.f 74 76 (.move (X.s 12)),
 X.f 74 77 (.move (X.s 13)),
 X.f 74 78 (.idxAddr 1 (X.s 76) (X.s 77)),
 X.f 74 79 (.load1 (X.s 78)),
 X.f 74 80 (.call F.power_Grid_Up [X.s 75, X.s 79]),
 X.f 74 81 (.bin .neq (X.s 80) (X.i 6)),
 X.o 82 (.pick (X.s 74) (.cst (.bool true)) (X.s 81)),
 X.m 83 82,
 X.f 83 84 (.move (X.s 9)),
 X.f 83 85 (.move (X.s 12)),
 X.f 83 86 (.move (X.s 13)),
 X.f 83 87 (.idxAddr 1 (X.s 85) (X.s 86)),
 X.f 83 88 (.load1 (X.s 87)),
 X.f 83 89 (.fldAddr 1 (X.s 8)),
 X.f 83 90 (.load1 (X.s 89)),
 X.f 83 91 (.move (X.s 12)),
 X.f 83 92 (.move (X.s 13)),
 X.f 83 93 (.idxAddr 1 (X.s 91) (X.s 92)),
 X.f 83 94 (.load1 (X.s 93)),
 X.f 83 95 (.idxAddr 3 (X.s 90) (X.s 94)),
 X.f 83 96 (.fldAddr 1 (X.s 95)),
 X.f 83 97 (.load1 (X.s 96)),
 X.f 83 98 (.call F.catnaplaw7_risen [X.s 84, X.s 88, X.s 97, .cst (.int .u8 110)]),
 X.f 83 99 (.un .not (X.s 98)),
 X.o 100 (.pick (X.s 83) (.cst (.bool true)) (X.s 99))]
def C.catnaplaw7_PowerTakes_r11 : List IOper := C.catnaplaw7_PowerTakes_r11_b
def C.catnaplaw7_PowerTakes_r11_w := @aopsE _ _ C.catnaplaw7_PowerTakes_r11.eq_1
def C.catnaplaw7_PowerTakes_b19 : ICode := .seq (.region C.catnaplaw7_PowerTakes_r11) C.catnaplaw7_PowerTakes_c18
def C.catnaplaw7_PowerTakes_b19_w := @awpE _ _ C.catnaplaw7_PowerTakes_b19.eq_1
def C.catnaplaw7_PowerTakes_c20 : ICode := .keep [2, 8, 9, 11, 12, 13] (.seq (.block 1 C.catnaplaw7_PowerTakes_b19) C.catnaplaw7_PowerTakes_c16)
def C.catnaplaw7_PowerTakes_c20_w := @awpE _ _ C.catnaplaw7_PowerTakes_c20.eq_1
def C.catnaplaw7_PowerTakes_c21 : ICode := .keep [2, 8, 9, 11, 12, 13, 47] (.cond (X.s 47) .skip (.exit 0))
def C.catnaplaw7_PowerTakes_c21_w := @awpE _ _ C.catnaplaw7_PowerTakes_c21.eq_1
def C.catnaplaw7_PowerTakes_r9_b : List IOper := [
 X.m 44 13,
 X.m 45 12,
 X.o 46 (.len (X.s 45)),
 X.o 47 (.bin .lss (X.s 44) (X.s 46))]
def C.catnaplaw7_PowerTakes_r9 : List IOper := C.catnaplaw7_PowerTakes_r9_b
def C.catnaplaw7_PowerTakes_r9_w := @aopsE _ _ C.catnaplaw7_PowerTakes_r9.eq_1
def C.catnaplaw7_PowerTakes_l22 : ICode := .keep [2, 8, 9, 11, 12, 13] (.seq (.seq (.region C.catnaplaw7_PowerTakes_r9) C.catnaplaw7_PowerTakes_c21) C.catnaplaw7_PowerTakes_c20)
def C.catnaplaw7_PowerTakes_l22_w := @awpE _ _ C.catnaplaw7_PowerTakes_l22.eq_1
def C.catnaplaw7_PowerTakes_b23 : ICode := .loop C.catnaplaw7_PowerTakes_l22
def C.catnaplaw7_PowerTakes_b23_w := @awpE _ _ C.catnaplaw7_PowerTakes_b23.eq_1
def C.catnaplaw7_PowerTakes_c24 : ICode := .keep [2, 8, 9, 11, 12, 13] (.block 0 C.catnaplaw7_PowerTakes_b23)
def C.catnaplaw7_PowerTakes_c24_w := @awpE _ _ C.catnaplaw7_PowerTakes_c24.eq_1
def C.catnaplaw7_PowerTakes_r8_b : List IOper := [
 X.o 13 (.move (X.i 0))]
def C.catnaplaw7_PowerTakes_r8 : List IOper := C.catnaplaw7_PowerTakes_r8_b
def C.catnaplaw7_PowerTakes_r8_w := @aopsE _ _ C.catnaplaw7_PowerTakes_r8.eq_1
def C.catnaplaw7_PowerTakes_c25 : ICode := .keep [2, 8, 9, 11, 12] (.seq (.seq (.region C.catnaplaw7_PowerTakes_r8) C.catnaplaw7_PowerTakes_c24) C.catnaplaw7_PowerTakes_c15)
def C.catnaplaw7_PowerTakes_c25_w := @awpE _ _ C.catnaplaw7_PowerTakes_c25.eq_1
def C.catnaplaw7_PowerTakes_r7_b : List IOper := [
 X.m 41 9,
 X.m 42 11,
 X.o 43 (.call F.power_Grid_Chain [X.s 41, X.s 42]),
 X.m 12 43]
def C.catnaplaw7_PowerTakes_r7 : List IOper := C.catnaplaw7_PowerTakes_r7_b
def C.catnaplaw7_PowerTakes_r7_w := @aopsE _ _ C.catnaplaw7_PowerTakes_r7.eq_1
def C.catnaplaw7_PowerTakes_c26 : ICode := .keep [2, 8, 9, 11] (.seq (.region C.catnaplaw7_PowerTakes_r7) C.catnaplaw7_PowerTakes_c25)
def C.catnaplaw7_PowerTakes_c26_w := @awpE _ _ C.catnaplaw7_PowerTakes_c26.eq_1
def C.catnaplaw7_PowerTakes_r6_b : List IOper := [
 X.m 36 1,
 X.o 37 (.fldAddr 1 (X.s 8)),
 X.o 38 (.load1 (X.s 37)),
 X.o 39 (.len (X.s 38)),
 X.o 40 (.call F.catnaplaw7_pick [X.s 36, X.s 39]),
 X.m 11 40]
def C.catnaplaw7_PowerTakes_r6 : List IOper := C.catnaplaw7_PowerTakes_r6_b
def C.catnaplaw7_PowerTakes_r6_w := @aopsE _ _ C.catnaplaw7_PowerTakes_r6.eq_1
def C.catnaplaw7_PowerTakes_c27 : ICode := .keep [1, 2, 8, 9] (.seq (.region C.catnaplaw7_PowerTakes_r6) C.catnaplaw7_PowerTakes_c26)
def C.catnaplaw7_PowerTakes_c27_w := @awpE _ _ C.catnaplaw7_PowerTakes_c27.eq_1
def C.catnaplaw7_PowerTakes_r5_b : List IOper := [
 X.o 6 (.move (.cst (.bool false)))]
def C.catnaplaw7_PowerTakes_r5 : List IOper := C.catnaplaw7_PowerTakes_r5_b
def C.catnaplaw7_PowerTakes_r5_w := @aopsE _ _ C.catnaplaw7_PowerTakes_r5.eq_1
def C.catnaplaw7_PowerTakes_c28 : ICode := .seq (.region C.catnaplaw7_PowerTakes_r5) .ret
def C.catnaplaw7_PowerTakes_c28_w := @awpE _ _ C.catnaplaw7_PowerTakes_c28.eq_1
def C.catnaplaw7_PowerTakes_c29 : ICode := .keep [1, 2, 8, 9, 35] (.cond (X.s 35) C.catnaplaw7_PowerTakes_c28 .skip)
def C.catnaplaw7_PowerTakes_c29_w := @awpE _ _ C.catnaplaw7_PowerTakes_c29.eq_1
def C.catnaplaw7_PowerTakes_r4_b : List IOper := [
 X.m 26 7,
 X.o 27 (.un .not (X.s 26)),
 X.m 28 27,
 X.f 28 29 (.move (X.s 9)),
 X.f 28 30 (.eqP 0 false (X.s 29) (.cst (.nilp))),
 X.o 31 (.pick (X.s 28) (.cst (.bool true)) (X.s 30)),
 X.m 32 31,
 X.f 32 33 (.move (X.s 10)),
 X.f 32 34 (.bin .neq (X.s 33) (X.i 0)),
 X.o 35 (.pick (X.s 32) (.cst (.bool true)) (X.s 34))]
def C.catnaplaw7_PowerTakes_r4 : List IOper := C.catnaplaw7_PowerTakes_r4_b
def C.catnaplaw7_PowerTakes_r4_w := @aopsE _ _ C.catnaplaw7_PowerTakes_r4.eq_1
def C.catnaplaw7_PowerTakes_c30 : ICode := .keep [1, 2, 7, 8, 9, 10] (.seq (.seq (.region C.catnaplaw7_PowerTakes_r4) C.catnaplaw7_PowerTakes_c29) C.catnaplaw7_PowerTakes_c27)
def C.catnaplaw7_PowerTakes_c30_w := @awpE _ _ C.catnaplaw7_PowerTakes_c30.eq_1
def C.catnaplaw7_PowerTakes_r3_b : List IOper := [
 X.o 22 (.loadN 4 (X.s 8)),
 X.o 23 (.call F.power_New [X.s 22]),
 X.m 21 23,
 X.o 24 (.extract (X.s 21) 0),
 X.o 25 (.extract (X.s 21) 1),
 X.m 9 24,
 X.m 10 25]
def C.catnaplaw7_PowerTakes_r3 : List IOper := C.catnaplaw7_PowerTakes_r3_b
def C.catnaplaw7_PowerTakes_r3_w := @aopsE _ _ C.catnaplaw7_PowerTakes_r3.eq_1
def C.catnaplaw7_PowerTakes_c31 : ICode := .keep [1, 2, 7, 8] (.seq (.region C.catnaplaw7_PowerTakes_r3) C.catnaplaw7_PowerTakes_c30)
def C.catnaplaw7_PowerTakes_c31_w := @awpE _ _ C.catnaplaw7_PowerTakes_c31.eq_1
def C.catnaplaw7_PowerTakes_r2_b : List IOper := [
 X.m 19 0,
 X.o 20 (.call F.catnaplaw7_chip [X.s 19]),
 X.o 8 (.alloc [.nils, .nils, .nils, .nils]),
 X.n (.storeN 4 (X.s 8) (X.s 20))]
def C.catnaplaw7_PowerTakes_r2 : List IOper := C.catnaplaw7_PowerTakes_r2_b
def C.catnaplaw7_PowerTakes_r2_w := @aopsE _ _ C.catnaplaw7_PowerTakes_r2.eq_1
def C.catnaplaw7_PowerTakes_c32 : ICode := .keep [0, 1, 2, 7] (.seq (.region C.catnaplaw7_PowerTakes_r2) C.catnaplaw7_PowerTakes_c31)
def C.catnaplaw7_PowerTakes_c32_w := @awpE _ _ C.catnaplaw7_PowerTakes_c32.eq_1
def C.catnaplaw7_PowerTakes_r1_b : List IOper := [
 X.o 18 (.call F.catnaplaw7_shown []),
 X.m 7 18]
def C.catnaplaw7_PowerTakes_r1 : List IOper := C.catnaplaw7_PowerTakes_r1_b
def C.catnaplaw7_PowerTakes_r1_w := @aopsE _ _ C.catnaplaw7_PowerTakes_r1.eq_1
def C.catnaplaw7_PowerTakes_c33 : ICode := .keep [0, 1, 2] (.seq (.region C.catnaplaw7_PowerTakes_r1) C.catnaplaw7_PowerTakes_c32)
def C.catnaplaw7_PowerTakes_c33_w := @awpE _ _ C.catnaplaw7_PowerTakes_c33.eq_1
def C.catnaplaw7_PowerTakes_r0_b : List IOper := [
 X.o 6 (.move (.cst (.bool false)))]
def C.catnaplaw7_PowerTakes_r0 : List IOper := C.catnaplaw7_PowerTakes_r0_b
def C.catnaplaw7_PowerTakes_r0_w := @aopsE _ _ C.catnaplaw7_PowerTakes_r0.eq_1
def C.catnaplaw7_PowerTakes : IFunc := ⟨3, [.slot 6], .seq (.region C.catnaplaw7_PowerTakes_r0) C.catnaplaw7_PowerTakes_c33⟩
def C.catnaplaw7_PowerTakes_W := And.intro (And.intro (And.intro (And.intro (And.intro @C.catnaplaw7_PowerTakes_r24_w (And.intro @C.catnaplaw7_PowerTakes_c1_w @C.catnaplaw7_PowerTakes_r23_w)) (And.intro (And.intro @C.catnaplaw7_PowerTakes_c2_w @C.catnaplaw7_PowerTakes_r22_w) (And.intro @C.catnaplaw7_PowerTakes_c3_w @C.catnaplaw7_PowerTakes_c4_w))) (And.intro (And.intro @C.catnaplaw7_PowerTakes_r21_w (And.intro @C.catnaplaw7_PowerTakes_c5_w @C.catnaplaw7_PowerTakes_r20_w)) (And.intro (And.intro @C.catnaplaw7_PowerTakes_c6_w @C.catnaplaw7_PowerTakes_r19_w) (And.intro @C.catnaplaw7_PowerTakes_c7_w @C.catnaplaw7_PowerTakes_r18_w)))) (And.intro (And.intro (And.intro @C.catnaplaw7_PowerTakes_c8_w (And.intro @C.catnaplaw7_PowerTakes_r17_w @C.catnaplaw7_PowerTakes_c9_w)) (And.intro (And.intro @C.catnaplaw7_PowerTakes_c10_w @C.catnaplaw7_PowerTakes_r16_w) (And.intro @C.catnaplaw7_PowerTakes_c11_w @C.catnaplaw7_PowerTakes_r15_w))) (And.intro (And.intro @C.catnaplaw7_PowerTakes_c12_w (And.intro @C.catnaplaw7_PowerTakes_c13_w @C.catnaplaw7_PowerTakes_r14_w)) (And.intro (And.intro @C.catnaplaw7_PowerTakes_c14_w @C.catnaplaw7_PowerTakes_r13_w) (And.intro @C.catnaplaw7_PowerTakes_c15_w @C.catnaplaw7_PowerTakes_r10_w))))) (And.intro (And.intro (And.intro (And.intro @C.catnaplaw7_PowerTakes_c16_w (And.intro @C.catnaplaw7_PowerTakes_r12_w @C.catnaplaw7_PowerTakes_c17_w)) (And.intro (And.intro @C.catnaplaw7_PowerTakes_c18_w @C.catnaplaw7_PowerTakes_r11_w) (And.intro @C.catnaplaw7_PowerTakes_b19_w @C.catnaplaw7_PowerTakes_c20_w))) (And.intro (And.intro @C.catnaplaw7_PowerTakes_c21_w (And.intro @C.catnaplaw7_PowerTakes_r9_w @C.catnaplaw7_PowerTakes_b23_w)) (And.intro (And.intro @C.catnaplaw7_PowerTakes_c24_w @C.catnaplaw7_PowerTakes_r8_w) (And.intro @C.catnaplaw7_PowerTakes_c25_w @C.catnaplaw7_PowerTakes_r7_w)))) (And.intro (And.intro (And.intro @C.catnaplaw7_PowerTakes_c26_w (And.intro @C.catnaplaw7_PowerTakes_r6_w @C.catnaplaw7_PowerTakes_c27_w)) (And.intro (And.intro @C.catnaplaw7_PowerTakes_r5_w @C.catnaplaw7_PowerTakes_c28_w) (And.intro @C.catnaplaw7_PowerTakes_c29_w @C.catnaplaw7_PowerTakes_r4_w))) (And.intro (And.intro (And.intro @C.catnaplaw7_PowerTakes_c30_w @C.catnaplaw7_PowerTakes_r3_w) (And.intro @C.catnaplaw7_PowerTakes_c31_w @C.catnaplaw7_PowerTakes_r2_w)) (And.intro (And.intro @C.catnaplaw7_PowerTakes_c32_w @C.catnaplaw7_PowerTakes_r1_w) (And.intro @C.catnaplaw7_PowerTakes_c33_w @C.catnaplaw7_PowerTakes_r0_w)))))
def C.catnaplaw7_PowerTakes_B := And.intro (And.intro (And.intro (And.intro @C.catnaplaw7_PowerTakes_r24_b.eq_1 (And.intro @C.catnaplaw7_PowerTakes_r23_b.eq_1 @C.catnaplaw7_PowerTakes_r22_b.eq_1)) (And.intro @C.catnaplaw7_PowerTakes_r21_b.eq_1 (And.intro @C.catnaplaw7_PowerTakes_r20_b.eq_1 @C.catnaplaw7_PowerTakes_r19_b.eq_1))) (And.intro (And.intro @C.catnaplaw7_PowerTakes_r18_b.eq_1 (And.intro @C.catnaplaw7_PowerTakes_r17_b.eq_1 @C.catnaplaw7_PowerTakes_r16_b.eq_1)) (And.intro @C.catnaplaw7_PowerTakes_r15_b.eq_1 (And.intro @C.catnaplaw7_PowerTakes_r14_b.eq_1 @C.catnaplaw7_PowerTakes_r13_b.eq_1)))) (And.intro (And.intro (And.intro @C.catnaplaw7_PowerTakes_r10_b.eq_1 (And.intro @C.catnaplaw7_PowerTakes_r12_b.eq_1 @C.catnaplaw7_PowerTakes_r11_b.eq_1)) (And.intro @C.catnaplaw7_PowerTakes_r9_b.eq_1 (And.intro @C.catnaplaw7_PowerTakes_r8_b.eq_1 @C.catnaplaw7_PowerTakes_r7_b.eq_1))) (And.intro (And.intro @C.catnaplaw7_PowerTakes_r6_b.eq_1 (And.intro @C.catnaplaw7_PowerTakes_r5_b.eq_1 @C.catnaplaw7_PowerTakes_r4_b.eq_1)) (And.intro (And.intro @C.catnaplaw7_PowerTakes_r3_b.eq_1 @C.catnaplaw7_PowerTakes_r2_b.eq_1) (And.intro @C.catnaplaw7_PowerTakes_r1_b.eq_1 @C.catnaplaw7_PowerTakes_r0_b.eq_1))))

def C.catnaplaw7_shown_r6_b : List IOper := [
 X.m 32 3,
 X.o 33 (.len (X.s 32)),
 X.o 34 (.bin .eql (X.s 33) (X.i 1)),
 X.m 35 34,
 X.t 35 36 (.move (X.s 3)),
 X.t 35 37 (.idxAddr 2 (X.s 36) (X.i 0)),
 X.t 35 38 (.fldAddr 0 (X.s 37)),
 X.t 35 39 (.load1 (X.s 38)),
 X.t 35 40 (.bin .eql (X.s 39) (.cst (.int .u8 110))),
 X.o 41 (.pick (X.s 35) (X.s 40) (.cst (.bool false))),
 X.m 42 41,
 X.t 42 43 (.move (X.s 4)),
 X.t 42 44 (.len (X.s 43)),
 X.t 42 45 (.bin .eql (X.s 44) (X.i 1)),
 X.o 46 (.pick (X.s 42) (X.s 45) (.cst (.bool false))),
 X.m 47 46,
 X.t 47 48 (.move (X.s 4)),
 X.t 47 49 (.idxAddr 2 (X.s 48) (X.i 0)),
 X.t 47 50 (.fldAddr 0 (X.s 49)),
 X.t 47 51 (.load1 (X.s 50)),
 X.t 47 52 (.bin .eql (X.s 51) (.cst (.int .u8 111))),
 X.o 53 (.pick (X.s 47) (X.s 52) (.cst (.bool false))),
 X.m 54 53,
 X.t 54 55 (.move (X.s 1)),
 X.t 54 56 (.call F.power_Grid_Phase [X.s 55, X.i 0]),
 X.t 54 57 (.bin .eql (X.s 56) (.cst (.int .u8 49))),
 X.o 58 (.pick (X.s 54) (X.s 57) (.cst (.bool false))),
 X.m 0 58]
def C.catnaplaw7_shown_r6 : List IOper := C.catnaplaw7_shown_r6_b
def C.catnaplaw7_shown_r6_w := @aopsE _ _ C.catnaplaw7_shown_r6.eq_1
def C.catnaplaw7_shown_c1 : ICode := .keep [1, 3, 4] (.seq (.region C.catnaplaw7_shown_r6) .ret)
def C.catnaplaw7_shown_c1_w := @awpE _ _ C.catnaplaw7_shown_c1.eq_1
def C.catnaplaw7_shown_r5_b : List IOper := [
 X.m 30 1,
 X.o 31 (.call F.power_Grid_Tick [X.s 30]),
 X.m 4 31]
def C.catnaplaw7_shown_r5 : List IOper := C.catnaplaw7_shown_r5_b
def C.catnaplaw7_shown_r5_w := @aopsE _ _ C.catnaplaw7_shown_r5.eq_1
def C.catnaplaw7_shown_c2 : ICode := .keep [1, 3] (.seq (.region C.catnaplaw7_shown_r5) C.catnaplaw7_shown_c1)
def C.catnaplaw7_shown_c2_w := @awpE _ _ C.catnaplaw7_shown_c2.eq_1
def C.catnaplaw7_shown_r4_b : List IOper := [
 X.m 28 1,
 X.o 29 (.call F.power_Grid_Tick [X.s 28]),
 X.m 3 29]
def C.catnaplaw7_shown_r4 : List IOper := C.catnaplaw7_shown_r4_b
def C.catnaplaw7_shown_r4_w := @aopsE _ _ C.catnaplaw7_shown_r4.eq_1
def C.catnaplaw7_shown_c3 : ICode := .keep [1] (.seq (.region C.catnaplaw7_shown_r4) C.catnaplaw7_shown_c2)
def C.catnaplaw7_shown_c3_w := @awpE _ _ C.catnaplaw7_shown_c3.eq_1
def C.catnaplaw7_shown_r3_b : List IOper := [
 X.o 0 (.move (.cst (.bool false)))]
def C.catnaplaw7_shown_r3 : List IOper := C.catnaplaw7_shown_r3_b
def C.catnaplaw7_shown_r3_w := @aopsE _ _ C.catnaplaw7_shown_r3.eq_1
def C.catnaplaw7_shown_c4 : ICode := .seq (.region C.catnaplaw7_shown_r3) .ret
def C.catnaplaw7_shown_c4_w := @awpE _ _ C.catnaplaw7_shown_c4.eq_1
def C.catnaplaw7_shown_c5 : ICode := .keep [1, 27] (.cond (X.s 27) C.catnaplaw7_shown_c4 .skip)
def C.catnaplaw7_shown_c5_w := @awpE _ _ C.catnaplaw7_shown_c5.eq_1
def C.catnaplaw7_shown_r2_b : List IOper := [
 X.m 12 1,
 X.o 13 (.eqP 0 false (X.s 12) (.cst (.nilp))),
 X.m 14 13,
 X.f 14 15 (.move (X.s 2)),
 X.f 14 16 (.bin .neq (X.s 15) (X.i 0)),
 X.o 17 (.pick (X.s 14) (.cst (.bool true)) (X.s 16)),
 X.m 18 17,
 X.f 18 19 (.move (X.s 1)),
 X.f 18 20 (.call F.power_Grid_Phase [X.s 19, X.i 0]),
 X.f 18 21 (.bin .neq (X.s 20) (.cst (.int .u8 48))),
 X.o 22 (.pick (X.s 18) (.cst (.bool true)) (X.s 21)),
 X.m 23 22,
 X.f 23 24 (.move (X.s 1)),
 X.f 23 25 (.call F.power_Grid_Up [X.s 24, X.i 0]),
 X.f 23 26 (.bin .neq (X.s 25) (X.i 0)),
 X.o 27 (.pick (X.s 23) (.cst (.bool true)) (X.s 26))]
def C.catnaplaw7_shown_r2 : List IOper := C.catnaplaw7_shown_r2_b
def C.catnaplaw7_shown_r2_w := @aopsE _ _ C.catnaplaw7_shown_r2.eq_1
def C.catnaplaw7_shown_c6 : ICode := .keep [1, 2] (.seq (.seq (.region C.catnaplaw7_shown_r2) C.catnaplaw7_shown_c5) C.catnaplaw7_shown_c3)
def C.catnaplaw7_shown_c6_w := @awpE _ _ C.catnaplaw7_shown_c6.eq_1
def C.catnaplaw7_shown_r1_b : List IOper := [
 X.o 6 (.build [.int .i64 0, .int .i64 0, .bool false] [(0, 1, X.i (-1))]),
 X.o 7 (.buildSlice 3 1 [.int .i64 0, .int .i64 0, .bool false] [(0, 3, X.s 6)]),
 X.o 8 (.build [.nils, .nils, .nils, .nils] [(1, 1, X.s 7)]),
 X.o 9 (.call F.power_New [X.s 8]),
 X.m 5 9,
 X.o 10 (.extract (X.s 5) 0),
 X.o 11 (.extract (X.s 5) 1),
 X.m 1 10,
 X.m 2 11]
def C.catnaplaw7_shown_r1 : List IOper := C.catnaplaw7_shown_r1_b
def C.catnaplaw7_shown_r1_w := @aopsE _ _ C.catnaplaw7_shown_r1.eq_1
def C.catnaplaw7_shown_c7 : ICode := .keep [] (.seq (.region C.catnaplaw7_shown_r1) C.catnaplaw7_shown_c6)
def C.catnaplaw7_shown_c7_w := @awpE _ _ C.catnaplaw7_shown_c7.eq_1
def C.catnaplaw7_shown_r0_b : List IOper := [
 X.o 0 (.move (.cst (.bool false)))]
def C.catnaplaw7_shown_r0 : List IOper := C.catnaplaw7_shown_r0_b
def C.catnaplaw7_shown_r0_w := @aopsE _ _ C.catnaplaw7_shown_r0.eq_1
def C.catnaplaw7_shown : IFunc := ⟨0, [.slot 0], .seq (.region C.catnaplaw7_shown_r0) C.catnaplaw7_shown_c7⟩
def C.catnaplaw7_shown_W := And.intro (And.intro (And.intro @C.catnaplaw7_shown_r6_w (And.intro @C.catnaplaw7_shown_c1_w @C.catnaplaw7_shown_r5_w)) (And.intro (And.intro @C.catnaplaw7_shown_c2_w @C.catnaplaw7_shown_r4_w) (And.intro @C.catnaplaw7_shown_c3_w @C.catnaplaw7_shown_r3_w))) (And.intro (And.intro @C.catnaplaw7_shown_c4_w (And.intro @C.catnaplaw7_shown_c5_w @C.catnaplaw7_shown_r2_w)) (And.intro (And.intro @C.catnaplaw7_shown_c6_w @C.catnaplaw7_shown_r1_w) (And.intro @C.catnaplaw7_shown_c7_w @C.catnaplaw7_shown_r0_w)))
def C.catnaplaw7_shown_B := And.intro (And.intro @C.catnaplaw7_shown_r6_b.eq_1 (And.intro @C.catnaplaw7_shown_r5_b.eq_1 @C.catnaplaw7_shown_r4_b.eq_1)) (And.intro (And.intro @C.catnaplaw7_shown_r3_b.eq_1 @C.catnaplaw7_shown_r2_b.eq_1) (And.intro @C.catnaplaw7_shown_r1_b.eq_1 @C.catnaplaw7_shown_r0_b.eq_1))

def C.catnaplaw7_chip_r50_b : List IOper := [
 X.o 351 (.loadN 4 (X.s 6)),
 X.n (.storeN 4 (X.s 2) (X.s 351))]
def C.catnaplaw7_chip_r50 : List IOper := C.catnaplaw7_chip_r50_b
def C.catnaplaw7_chip_r50_w := @aopsE _ _ C.catnaplaw7_chip_r50.eq_1
def C.catnaplaw7_chip_c1 : ICode := .keep [2, 6] (.seq (.region C.catnaplaw7_chip_r50) .ret)
def C.catnaplaw7_chip_c1_w := @awpE _ _ C.catnaplaw7_chip_c1.eq_1
def C.catnaplaw7_chip_r38_b : List IOper := [
 X.m 224 14,
 X.o 225 (.bin .add (X.s 224) (X.i 1)),
 X.m 14 225]
def C.catnaplaw7_chip_r38 : List IOper := C.catnaplaw7_chip_r38_b
def C.catnaplaw7_chip_r38_w := @aopsE _ _ C.catnaplaw7_chip_r38.eq_1
def C.catnaplaw7_chip_c2 : ICode := .keep [2, 4, 6, 14] (.region C.catnaplaw7_chip_r38)
def C.catnaplaw7_chip_c2_w := @awpE _ _ C.catnaplaw7_chip_c2.eq_1
def C.catnaplaw7_chip_r49_b : List IOper := [
 X.o 345 (.fldAddr 3 (X.s 6)),
 X.o 346 (.load1 (X.s 345)),
 X.o 347 (.loadN 6 (X.s 16)),
 X.o 348 (.buildSlice 6 1 [.int .i64 0, .int .i64 0, .int .i64 0, .int .u32 0, .nils, .nils] [(0, 6, X.s 347)]),
 X.o 349 (.append 6 80 (X.s 346) (X.s 348)),
 X.o 350 (.fldAddr 3 (X.s 6)),
 X.n (.store1 (X.s 350) (X.s 349))]
def C.catnaplaw7_chip_r49 : List IOper := C.catnaplaw7_chip_r49_b
def C.catnaplaw7_chip_r49_w := @aopsE _ _ C.catnaplaw7_chip_r49.eq_1
def C.catnaplaw7_chip_c3 : ICode := .keep [2, 4, 6, 14, 16] (.region C.catnaplaw7_chip_r49)
def C.catnaplaw7_chip_c3_w := @awpE _ _ C.catnaplaw7_chip_c3.eq_1
def C.catnaplaw7_chip_r48_b : List IOper := [
 X.o 332 (.fldAddr 5 (X.s 16)),
 X.o 333 (.load1 (X.s 332)),
 X.m 334 4,
 X.m 335 15,
 X.o 336 (.bin .add (X.s 335) (X.i 11)),
 X.o 337 (.idxAddr 1 (X.s 334) (X.s 336)),
 X.o 338 (.load1 (X.s 337)),
 X.o 339 (.bin .quo (X.s 338) (X.i 3)),
 X.m 340 14,
 X.o 341 (.bin .rem (X.s 339) (X.s 340)),
 X.o 342 (.buildSlice 1 1 [.int .i64 0] [(0, 1, X.s 341)]),
 X.o 343 (.append 1 8 (X.s 333) (X.s 342)),
 X.o 344 (.fldAddr 5 (X.s 16)),
 X.n (.store1 (X.s 344) (X.s 343))]
def C.catnaplaw7_chip_r48 : List IOper := C.catnaplaw7_chip_r48_b
def C.catnaplaw7_chip_r48_w := @aopsE _ _ C.catnaplaw7_chip_r48.eq_1
def C.catnaplaw7_chip_c4 : ICode := .keep [2, 4, 6, 14, 15, 16, 331] (.cond (X.s 331) (.region C.catnaplaw7_chip_r48) .skip)
def C.catnaplaw7_chip_c4_w := @awpE _ _ C.catnaplaw7_chip_c4.eq_1
def C.catnaplaw7_chip_r47_b : List IOper := [
 X.m 321 14,
 X.o 322 (.bin .gtr (X.s 321) (X.i 1)),
 X.m 323 322,
 X.t 323 324 (.move (X.s 4)),
 X.t 323 325 (.move (X.s 15)),
 X.t 323 326 (.bin .add (X.s 325) (X.i 11)),
 X.t 323 327 (.idxAddr 1 (X.s 324) (X.s 326)),
 X.t 323 328 (.load1 (X.s 327)),
 X.t 323 329 (.bin .rem (X.s 328) (X.i 3)),
 X.t 323 330 (.bin .eql (X.s 329) (X.i 1)),
 X.o 331 (.pick (X.s 323) (X.s 330) (.cst (.bool false)))]
def C.catnaplaw7_chip_r47 : List IOper := C.catnaplaw7_chip_r47_b
def C.catnaplaw7_chip_r47_w := @aopsE _ _ C.catnaplaw7_chip_r47.eq_1
def C.catnaplaw7_chip_c5 : ICode := .keep [2, 4, 6, 14, 15, 16] (.seq (.seq (.region C.catnaplaw7_chip_r47) C.catnaplaw7_chip_c4) C.catnaplaw7_chip_c3)
def C.catnaplaw7_chip_c5_w := @awpE _ _ C.catnaplaw7_chip_c5.eq_1
def C.catnaplaw7_chip_r46_b : List IOper := [
 X.o 309 (.fldAddr 5 (X.s 16)),
 X.o 310 (.load1 (X.s 309)),
 X.m 311 4,
 X.m 312 15,
 X.o 313 (.bin .add (X.s 312) (X.i 10)),
 X.o 314 (.idxAddr 1 (X.s 311) (X.s 313)),
 X.o 315 (.load1 (X.s 314)),
 X.m 316 14,
 X.o 317 (.bin .rem (X.s 315) (X.s 316)),
 X.o 318 (.buildSlice 1 1 [.int .i64 0] [(0, 1, X.s 317)]),
 X.o 319 (.append 1 8 (X.s 310) (X.s 318)),
 X.o 320 (.fldAddr 5 (X.s 16)),
 X.n (.store1 (X.s 320) (X.s 319))]
def C.catnaplaw7_chip_r46 : List IOper := C.catnaplaw7_chip_r46_b
def C.catnaplaw7_chip_r46_w := @aopsE _ _ C.catnaplaw7_chip_r46.eq_1
def C.catnaplaw7_chip_c6 : ICode := .keep [2, 4, 6, 14, 15, 16, 308] (.cond (X.s 308) (.region C.catnaplaw7_chip_r46) .skip)
def C.catnaplaw7_chip_c6_w := @awpE _ _ C.catnaplaw7_chip_c6.eq_1
def C.catnaplaw7_chip_r45_b : List IOper := [
 X.m 298 14,
 X.o 299 (.bin .gtr (X.s 298) (X.i 0)),
 X.m 300 299,
 X.t 300 301 (.move (X.s 4)),
 X.t 300 302 (.move (X.s 15)),
 X.t 300 303 (.bin .add (X.s 302) (X.i 9)),
 X.t 300 304 (.idxAddr 1 (X.s 301) (X.s 303)),
 X.t 300 305 (.load1 (X.s 304)),
 X.t 300 306 (.bin .rem (X.s 305) (X.i 2)),
 X.t 300 307 (.bin .eql (X.s 306) (X.i 1)),
 X.o 308 (.pick (X.s 300) (X.s 307) (.cst (.bool false)))]
def C.catnaplaw7_chip_r45 : List IOper := C.catnaplaw7_chip_r45_b
def C.catnaplaw7_chip_r45_w := @aopsE _ _ C.catnaplaw7_chip_r45.eq_1
def C.catnaplaw7_chip_c7 : ICode := .keep [2, 4, 6, 14, 15, 16] (.seq (.seq (.region C.catnaplaw7_chip_r45) C.catnaplaw7_chip_c6) C.catnaplaw7_chip_c5)
def C.catnaplaw7_chip_c7_w := @awpE _ _ C.catnaplaw7_chip_c7.eq_1
def C.catnaplaw7_chip_r43_b : List IOper := [
 X.m 271 17,
 X.o 272 (.bin .add (X.s 271) (X.i 1)),
 X.m 17 272]
def C.catnaplaw7_chip_r43 : List IOper := C.catnaplaw7_chip_r43_b
def C.catnaplaw7_chip_r43_w := @aopsE _ _ C.catnaplaw7_chip_r43.eq_1
def C.catnaplaw7_chip_c8 : ICode := .keep [2, 4, 6, 14, 15, 16, 17] (.region C.catnaplaw7_chip_r43)
def C.catnaplaw7_chip_c8_w := @awpE _ _ C.catnaplaw7_chip_c8.eq_1
def C.catnaplaw7_chip_r44_b : List IOper := [
 X.o 273 (.fldAddr 4 (X.s 16)),
 X.o 274 (.load1 (X.s 273)),
 X.m 275 4,
 X.m 276 15,
 X.o 277 (.bin .add (X.s 276) (X.i 5)),
 X.m 278 17,
 X.o 279 (.bin .add (X.s 277) (X.s 278)),
 X.o 280 (.idxAddr 1 (X.s 275) (X.s 279)),
 X.o 281 (.load1 (X.s 280)),
 X.o 282 (.bin .rem (X.s 281) (X.i 7)),
 X.o 283 (.conv .u32 (X.s 282)),
 X.m 284 4,
 X.m 285 15,
 X.o 286 (.bin .add (X.s 285) (X.i 5)),
 X.m 287 17,
 X.o 288 (.bin .add (X.s 286) (X.s 287)),
 X.o 289 (.idxAddr 1 (X.s 284) (X.s 288)),
 X.o 290 (.load1 (X.s 289)),
 X.o 291 (.bin .quo (X.s 290) (X.i 7)),
 X.o 292 (.bin .rem (X.s 291) (X.i 2)),
 X.o 293 (.bin .eql (X.s 292) (X.i 0)),
 X.o 294 (.build [.int .u32 0, .bool false] [(0, 1, X.s 283), (1, 1, X.s 293)]),
 X.o 295 (.buildSlice 2 1 [.int .u32 0, .bool false] [(0, 2, X.s 294)]),
 X.o 296 (.append 2 8 (X.s 274) (X.s 295)),
 X.o 297 (.fldAddr 4 (X.s 16)),
 X.n (.store1 (X.s 297) (X.s 296))]
def C.catnaplaw7_chip_r44 : List IOper := C.catnaplaw7_chip_r44_b
def C.catnaplaw7_chip_r44_w := @aopsE _ _ C.catnaplaw7_chip_r44.eq_1
def C.catnaplaw7_chip_b9 : ICode := .region C.catnaplaw7_chip_r44
def C.catnaplaw7_chip_b9_w := @awpE _ _ C.catnaplaw7_chip_b9.eq_1
def C.catnaplaw7_chip_c10 : ICode := .keep [2, 4, 6, 14, 15, 16, 17] (.seq (.block 12 C.catnaplaw7_chip_b9) C.catnaplaw7_chip_c8)
def C.catnaplaw7_chip_c10_w := @awpE _ _ C.catnaplaw7_chip_c10.eq_1
def C.catnaplaw7_chip_c11 : ICode := .keep [2, 4, 6, 14, 15, 16, 17, 270] (.cond (X.s 270) .skip (.exit 11))
def C.catnaplaw7_chip_c11_w := @awpE _ _ C.catnaplaw7_chip_c11.eq_1
def C.catnaplaw7_chip_r42_b : List IOper := [
 X.m 263 17,
 X.m 264 4,
 X.m 265 15,
 X.o 266 (.bin .add (X.s 265) (X.i 4)),
 X.o 267 (.idxAddr 1 (X.s 264) (X.s 266)),
 X.o 268 (.load1 (X.s 267)),
 X.o 269 (.bin .rem (X.s 268) (X.i 5)),
 X.o 270 (.bin .lss (X.s 263) (X.s 269))]
def C.catnaplaw7_chip_r42 : List IOper := C.catnaplaw7_chip_r42_b
def C.catnaplaw7_chip_r42_w := @aopsE _ _ C.catnaplaw7_chip_r42.eq_1
def C.catnaplaw7_chip_l12 : ICode := .keep [2, 4, 6, 14, 15, 16, 17] (.seq (.seq (.region C.catnaplaw7_chip_r42) C.catnaplaw7_chip_c11) C.catnaplaw7_chip_c10)
def C.catnaplaw7_chip_l12_w := @awpE _ _ C.catnaplaw7_chip_l12.eq_1
def C.catnaplaw7_chip_b13 : ICode := .loop C.catnaplaw7_chip_l12
def C.catnaplaw7_chip_b13_w := @awpE _ _ C.catnaplaw7_chip_b13.eq_1
def C.catnaplaw7_chip_c14 : ICode := .keep [2, 4, 6, 14, 15, 16, 17] (.block 11 C.catnaplaw7_chip_b13)
def C.catnaplaw7_chip_c14_w := @awpE _ _ C.catnaplaw7_chip_c14.eq_1
def C.catnaplaw7_chip_r41_b : List IOper := [
 X.o 17 (.move (X.i 0))]
def C.catnaplaw7_chip_r41 : List IOper := C.catnaplaw7_chip_r41_b
def C.catnaplaw7_chip_r41_w := @aopsE _ _ C.catnaplaw7_chip_r41.eq_1
def C.catnaplaw7_chip_c15 : ICode := .keep [2, 4, 6, 14, 15, 16] (.seq (.seq (.region C.catnaplaw7_chip_r41) C.catnaplaw7_chip_c14) C.catnaplaw7_chip_c7)
def C.catnaplaw7_chip_c15_w := @awpE _ _ C.catnaplaw7_chip_c15.eq_1
def C.catnaplaw7_chip_r40_b : List IOper := [
 X.m 229 4,
 X.m 230 15,
 X.o 231 (.idxAddr 1 (X.s 229) (X.s 230)),
 X.o 232 (.load1 (X.s 231)),
 X.o 233 (.fldAddr 0 (X.s 6)),
 X.o 234 (.load1 (X.s 233)),
 X.o 235 (.len (X.s 234)),
 X.o 236 (.bin .rem (X.s 232) (X.s 235)),
 X.m 237 4,
 X.m 238 15,
 X.o 239 (.bin .add (X.s 238) (X.i 1)),
 X.o 240 (.idxAddr 1 (X.s 237) (X.s 239)),
 X.o 241 (.load1 (X.s 240)),
 X.o 242 (.fldAddr 1 (X.s 6)),
 X.o 243 (.load1 (X.s 242)),
 X.o 244 (.len (X.s 243)),
 X.o 245 (.bin .rem (X.s 241) (X.s 244)),
 X.m 246 4,
 X.m 247 15,
 X.o 248 (.bin .add (X.s 247) (X.i 2)),
 X.o 249 (.idxAddr 1 (X.s 246) (X.s 248)),
 X.o 250 (.load1 (X.s 249)),
 X.o 251 (.fldAddr 2 (X.s 6)),
 X.o 252 (.load1 (X.s 251)),
 X.o 253 (.len (X.s 252)),
 X.o 254 (.bin .rem (X.s 250) (X.s 253)),
 X.m 255 4,
 X.m 256 15,
 X.o 257 (.bin .add (X.s 256) (X.i 3)),
 X.o 258 (.idxAddr 1 (X.s 255) (X.s 257)),
 X.o 259 (.load1 (X.s 258)),
 X.o 260 (.bin .rem (X.s 259) (X.i 3)),
 X.o 261 (.conv .u32 (X.s 260)),
 X.o 262 (.build [.int .i64 0, .int .i64 0, .int .i64 0, .int .u32 0, .nils, .nils] [(0, 1, X.s 236), (1, 1, X.s 245), (2, 1, X.s 254), (3, 1, X.s 261)]),
 X.o 16 (.alloc [.int .i64 0, .int .i64 0, .int .i64 0, .int .u32 0, .nils, .nils]),
 X.n (.storeN 6 (X.s 16) (X.s 262))]
def C.catnaplaw7_chip_r40 : List IOper := C.catnaplaw7_chip_r40_b
def C.catnaplaw7_chip_r40_w := @aopsE _ _ C.catnaplaw7_chip_r40.eq_1
def C.catnaplaw7_chip_c16 : ICode := .keep [2, 4, 6, 14, 15] (.seq (.region C.catnaplaw7_chip_r40) C.catnaplaw7_chip_c15)
def C.catnaplaw7_chip_c16_w := @awpE _ _ C.catnaplaw7_chip_c16.eq_1
def C.catnaplaw7_chip_r39_b : List IOper := [
 X.m 226 14,
 X.o 227 (.bin .mul (X.i 12) (X.s 226)),
 X.o 228 (.bin .add (X.i 60) (X.s 227)),
 X.m 15 228]
def C.catnaplaw7_chip_r39 : List IOper := C.catnaplaw7_chip_r39_b
def C.catnaplaw7_chip_r39_w := @aopsE _ _ C.catnaplaw7_chip_r39.eq_1
def C.catnaplaw7_chip_b17 : ICode := .seq (.region C.catnaplaw7_chip_r39) C.catnaplaw7_chip_c16
def C.catnaplaw7_chip_b17_w := @awpE _ _ C.catnaplaw7_chip_b17.eq_1
def C.catnaplaw7_chip_c18 : ICode := .keep [2, 4, 6, 14] (.seq (.block 10 C.catnaplaw7_chip_b17) C.catnaplaw7_chip_c2)
def C.catnaplaw7_chip_c18_w := @awpE _ _ C.catnaplaw7_chip_c18.eq_1
def C.catnaplaw7_chip_c19 : ICode := .keep [2, 4, 6, 14, 223] (.cond (X.s 223) .skip (.exit 9))
def C.catnaplaw7_chip_c19_w := @awpE _ _ C.catnaplaw7_chip_c19.eq_1
def C.catnaplaw7_chip_r37_b : List IOper := [
 X.m 217 14,
 X.m 218 4,
 X.o 219 (.idxAddr 1 (X.s 218) (X.i 4)),
 X.o 220 (.load1 (X.s 219)),
 X.o 221 (.bin .rem (X.s 220) (X.i 4)),
 X.o 222 (.bin .add (X.i 1) (X.s 221)),
 X.o 223 (.bin .lss (X.s 217) (X.s 222))]
def C.catnaplaw7_chip_r37 : List IOper := C.catnaplaw7_chip_r37_b
def C.catnaplaw7_chip_r37_w := @aopsE _ _ C.catnaplaw7_chip_r37.eq_1
def C.catnaplaw7_chip_l20 : ICode := .keep [2, 4, 6, 14] (.seq (.seq (.region C.catnaplaw7_chip_r37) C.catnaplaw7_chip_c19) C.catnaplaw7_chip_c18)
def C.catnaplaw7_chip_l20_w := @awpE _ _ C.catnaplaw7_chip_l20.eq_1
def C.catnaplaw7_chip_b21 : ICode := .loop C.catnaplaw7_chip_l20
def C.catnaplaw7_chip_b21_w := @awpE _ _ C.catnaplaw7_chip_b21.eq_1
def C.catnaplaw7_chip_c22 : ICode := .keep [2, 4, 6, 14] (.block 9 C.catnaplaw7_chip_b21)
def C.catnaplaw7_chip_c22_w := @awpE _ _ C.catnaplaw7_chip_c22.eq_1
def C.catnaplaw7_chip_r36_b : List IOper := [
 X.o 14 (.move (X.i 0))]
def C.catnaplaw7_chip_r36 : List IOper := C.catnaplaw7_chip_r36_b
def C.catnaplaw7_chip_r36_w := @aopsE _ _ C.catnaplaw7_chip_r36.eq_1
def C.catnaplaw7_chip_c23 : ICode := .keep [2, 4, 6] (.seq (.seq (.region C.catnaplaw7_chip_r36) C.catnaplaw7_chip_c22) C.catnaplaw7_chip_c1)
def C.catnaplaw7_chip_c23_w := @awpE _ _ C.catnaplaw7_chip_c23.eq_1
def C.catnaplaw7_chip_r34_b : List IOper := [
 X.m 203 13,
 X.o 204 (.bin .add (X.s 203) (X.i 1)),
 X.m 13 204]
def C.catnaplaw7_chip_r34 : List IOper := C.catnaplaw7_chip_r34_b
def C.catnaplaw7_chip_r34_w := @aopsE _ _ C.catnaplaw7_chip_r34.eq_1
def C.catnaplaw7_chip_c24 : ICode := .keep [2, 4, 6, 13] (.region C.catnaplaw7_chip_r34)
def C.catnaplaw7_chip_c24_w := @awpE _ _ C.catnaplaw7_chip_c24.eq_1
def C.catnaplaw7_chip_r35_b : List IOper := [
 X.o 205 (.fldAddr 2 (X.s 6)),
 X.o 206 (.load1 (X.s 205)),
 X.m 207 4,
 X.m 208 13,
 X.o 209 (.bin .add (X.i 50) (X.s 208)),
 X.o 210 (.idxAddr 1 (X.s 207) (X.s 209)),
 X.o 211 (.load1 (X.s 210)),
 X.o 212 (.bin .rem (X.s 211) (X.i 4)),
 X.o 213 (.build [.int .i64 0] [(0, 1, X.s 212)]),
 X.o 214 (.buildSlice 1 1 [.int .i64 0] [(0, 1, X.s 213)]),
 X.o 215 (.append 1 8 (X.s 206) (X.s 214)),
 X.o 216 (.fldAddr 2 (X.s 6)),
 X.n (.store1 (X.s 216) (X.s 215))]
def C.catnaplaw7_chip_r35 : List IOper := C.catnaplaw7_chip_r35_b
def C.catnaplaw7_chip_r35_w := @aopsE _ _ C.catnaplaw7_chip_r35.eq_1
def C.catnaplaw7_chip_b25 : ICode := .region C.catnaplaw7_chip_r35
def C.catnaplaw7_chip_b25_w := @awpE _ _ C.catnaplaw7_chip_b25.eq_1
def C.catnaplaw7_chip_c26 : ICode := .keep [2, 4, 6, 13] (.seq (.block 8 C.catnaplaw7_chip_b25) C.catnaplaw7_chip_c24)
def C.catnaplaw7_chip_c26_w := @awpE _ _ C.catnaplaw7_chip_c26.eq_1
def C.catnaplaw7_chip_c27 : ICode := .keep [2, 4, 6, 13, 202] (.cond (X.s 202) .skip (.exit 7))
def C.catnaplaw7_chip_c27_w := @awpE _ _ C.catnaplaw7_chip_c27.eq_1
def C.catnaplaw7_chip_r33_b : List IOper := [
 X.m 196 13,
 X.m 197 4,
 X.o 198 (.idxAddr 1 (X.s 197) (X.i 3)),
 X.o 199 (.load1 (X.s 198)),
 X.o 200 (.bin .rem (X.s 199) (X.i 3)),
 X.o 201 (.bin .add (X.i 1) (X.s 200)),
 X.o 202 (.bin .lss (X.s 196) (X.s 201))]
def C.catnaplaw7_chip_r33 : List IOper := C.catnaplaw7_chip_r33_b
def C.catnaplaw7_chip_r33_w := @aopsE _ _ C.catnaplaw7_chip_r33.eq_1
def C.catnaplaw7_chip_l28 : ICode := .keep [2, 4, 6, 13] (.seq (.seq (.region C.catnaplaw7_chip_r33) C.catnaplaw7_chip_c27) C.catnaplaw7_chip_c26)
def C.catnaplaw7_chip_l28_w := @awpE _ _ C.catnaplaw7_chip_l28.eq_1
def C.catnaplaw7_chip_b29 : ICode := .loop C.catnaplaw7_chip_l28
def C.catnaplaw7_chip_b29_w := @awpE _ _ C.catnaplaw7_chip_b29.eq_1
def C.catnaplaw7_chip_c30 : ICode := .keep [2, 4, 6, 13] (.block 7 C.catnaplaw7_chip_b29)
def C.catnaplaw7_chip_c30_w := @awpE _ _ C.catnaplaw7_chip_c30.eq_1
def C.catnaplaw7_chip_r32_b : List IOper := [
 X.o 13 (.move (X.i 0))]
def C.catnaplaw7_chip_r32 : List IOper := C.catnaplaw7_chip_r32_b
def C.catnaplaw7_chip_r32_w := @aopsE _ _ C.catnaplaw7_chip_r32.eq_1
def C.catnaplaw7_chip_c31 : ICode := .keep [2, 4, 6] (.seq (.seq (.region C.catnaplaw7_chip_r32) C.catnaplaw7_chip_c30) C.catnaplaw7_chip_c23)
def C.catnaplaw7_chip_c31_w := @awpE _ _ C.catnaplaw7_chip_c31.eq_1
def C.catnaplaw7_chip_r27_b : List IOper := [
 X.m 153 11,
 X.o 154 (.bin .add (X.s 153) (X.i 1)),
 X.m 11 154]
def C.catnaplaw7_chip_r27 : List IOper := C.catnaplaw7_chip_r27_b
def C.catnaplaw7_chip_r27_w := @aopsE _ _ C.catnaplaw7_chip_r27.eq_1
def C.catnaplaw7_chip_c32 : ICode := .keep [2, 4, 6, 11] (.region C.catnaplaw7_chip_r27)
def C.catnaplaw7_chip_c32_w := @awpE _ _ C.catnaplaw7_chip_c32.eq_1
def C.catnaplaw7_chip_r31_b : List IOper := [
 X.o 190 (.fldAddr 1 (X.s 6)),
 X.o 191 (.load1 (X.s 190)),
 X.o 192 (.loadN 3 (X.s 12)),
 X.o 193 (.buildSlice 3 1 [.int .i64 0, .int .i64 0, .bool false] [(0, 3, X.s 192)]),
 X.o 194 (.append 3 24 (X.s 191) (X.s 193)),
 X.o 195 (.fldAddr 1 (X.s 6)),
 X.n (.store1 (X.s 195) (X.s 194))]
def C.catnaplaw7_chip_r31 : List IOper := C.catnaplaw7_chip_r31_b
def C.catnaplaw7_chip_r31_w := @aopsE _ _ C.catnaplaw7_chip_r31.eq_1
def C.catnaplaw7_chip_c33 : ICode := .keep [2, 4, 6, 11, 12] (.region C.catnaplaw7_chip_r31)
def C.catnaplaw7_chip_c33_w := @awpE _ _ C.catnaplaw7_chip_c33.eq_1
def C.catnaplaw7_chip_r30_b : List IOper := [
 X.m 181 4,
 X.m 182 11,
 X.o 183 (.bin .add (X.i 44) (X.s 182)),
 X.o 184 (.idxAddr 1 (X.s 181) (X.s 183)),
 X.o 185 (.load1 (X.s 184)),
 X.o 186 (.bin .quo (X.s 185) (X.i 3)),
 X.m 187 11,
 X.o 188 (.bin .rem (X.s 186) (X.s 187)),
 X.o 189 (.fldAddr 0 (X.s 12)),
 X.n (.store1 (X.s 189) (X.s 188))]
def C.catnaplaw7_chip_r30 : List IOper := C.catnaplaw7_chip_r30_b
def C.catnaplaw7_chip_r30_w := @aopsE _ _ C.catnaplaw7_chip_r30.eq_1
def C.catnaplaw7_chip_c34 : ICode := .keep [2, 4, 6, 11, 12, 180] (.cond (X.s 180) (.region C.catnaplaw7_chip_r30) .skip)
def C.catnaplaw7_chip_c34_w := @awpE _ _ C.catnaplaw7_chip_c34.eq_1
def C.catnaplaw7_chip_r29_b : List IOper := [
 X.m 170 11,
 X.o 171 (.bin .gtr (X.s 170) (X.i 0)),
 X.m 172 171,
 X.t 172 173 (.move (X.s 4)),
 X.t 172 174 (.move (X.s 11)),
 X.t 172 175 (.bin .add (X.i 44) (X.s 174)),
 X.t 172 176 (.idxAddr 1 (X.s 173) (X.s 175)),
 X.t 172 177 (.load1 (X.s 176)),
 X.t 172 178 (.bin .rem (X.s 177) (X.i 3)),
 X.t 172 179 (.bin .gtr (X.s 178) (X.i 0)),
 X.o 180 (.pick (X.s 172) (X.s 179) (.cst (.bool false)))]
def C.catnaplaw7_chip_r29 : List IOper := C.catnaplaw7_chip_r29_b
def C.catnaplaw7_chip_r29_w := @aopsE _ _ C.catnaplaw7_chip_r29.eq_1
def C.catnaplaw7_chip_c35 : ICode := .keep [2, 4, 6, 11, 12] (.seq (.seq (.region C.catnaplaw7_chip_r29) C.catnaplaw7_chip_c34) C.catnaplaw7_chip_c33)
def C.catnaplaw7_chip_c35_w := @awpE _ _ C.catnaplaw7_chip_c35.eq_1
def C.catnaplaw7_chip_r28_b : List IOper := [
 X.m 155 4,
 X.m 156 11,
 X.o 157 (.bin .add (X.i 40) (X.s 156)),
 X.o 158 (.idxAddr 1 (X.s 155) (X.s 157)),
 X.o 159 (.load1 (X.s 158)),
 X.o 160 (.bin .rem (X.s 159) (X.i 4)),
 X.m 161 4,
 X.m 162 11,
 X.o 163 (.bin .add (X.i 40) (X.s 162)),
 X.o 164 (.idxAddr 1 (X.s 161) (X.s 163)),
 X.o 165 (.load1 (X.s 164)),
 X.o 166 (.bin .quo (X.s 165) (X.i 4)),
 X.o 167 (.bin .rem (X.s 166) (X.i 2)),
 X.o 168 (.bin .eql (X.s 167) (X.i 1)),
 X.o 169 (.build [.int .i64 0, .int .i64 0, .bool false] [(0, 1, X.i (-1)), (1, 1, X.s 160), (2, 1, X.s 168)]),
 X.o 12 (.alloc [.int .i64 0, .int .i64 0, .bool false]),
 X.n (.storeN 3 (X.s 12) (X.s 169))]
def C.catnaplaw7_chip_r28 : List IOper := C.catnaplaw7_chip_r28_b
def C.catnaplaw7_chip_r28_w := @aopsE _ _ C.catnaplaw7_chip_r28.eq_1
def C.catnaplaw7_chip_b36 : ICode := .seq (.region C.catnaplaw7_chip_r28) C.catnaplaw7_chip_c35
def C.catnaplaw7_chip_b36_w := @awpE _ _ C.catnaplaw7_chip_b36.eq_1
def C.catnaplaw7_chip_c37 : ICode := .keep [2, 4, 6, 11] (.seq (.block 6 C.catnaplaw7_chip_b36) C.catnaplaw7_chip_c32)
def C.catnaplaw7_chip_c37_w := @awpE _ _ C.catnaplaw7_chip_c37.eq_1
def C.catnaplaw7_chip_c38 : ICode := .keep [2, 4, 6, 11, 152] (.cond (X.s 152) .skip (.exit 5))
def C.catnaplaw7_chip_c38_w := @awpE _ _ C.catnaplaw7_chip_c38.eq_1
def C.catnaplaw7_chip_r26_b : List IOper := [
 X.m 146 11,
 X.m 147 4,
 X.o 148 (.idxAddr 1 (X.s 147) (X.i 2)),
 X.o 149 (.load1 (X.s 148)),
 X.o 150 (.bin .rem (X.s 149) (X.i 4)),
 X.o 151 (.bin .add (X.i 1) (X.s 150)),
 X.o 152 (.bin .lss (X.s 146) (X.s 151))]
def C.catnaplaw7_chip_r26 : List IOper := C.catnaplaw7_chip_r26_b
def C.catnaplaw7_chip_r26_w := @aopsE _ _ C.catnaplaw7_chip_r26.eq_1
def C.catnaplaw7_chip_l39 : ICode := .keep [2, 4, 6, 11] (.seq (.seq (.region C.catnaplaw7_chip_r26) C.catnaplaw7_chip_c38) C.catnaplaw7_chip_c37)
def C.catnaplaw7_chip_l39_w := @awpE _ _ C.catnaplaw7_chip_l39.eq_1
def C.catnaplaw7_chip_b40 : ICode := .loop C.catnaplaw7_chip_l39
def C.catnaplaw7_chip_b40_w := @awpE _ _ C.catnaplaw7_chip_b40.eq_1
def C.catnaplaw7_chip_c41 : ICode := .keep [2, 4, 6, 11] (.block 5 C.catnaplaw7_chip_b40)
def C.catnaplaw7_chip_c41_w := @awpE _ _ C.catnaplaw7_chip_c41.eq_1
def C.catnaplaw7_chip_r25_b : List IOper := [
 X.o 11 (.move (X.i 0))]
def C.catnaplaw7_chip_r25 : List IOper := C.catnaplaw7_chip_r25_b
def C.catnaplaw7_chip_r25_w := @aopsE _ _ C.catnaplaw7_chip_r25.eq_1
def C.catnaplaw7_chip_c42 : ICode := .keep [2, 4, 6] (.seq (.seq (.region C.catnaplaw7_chip_r25) C.catnaplaw7_chip_c41) C.catnaplaw7_chip_c31)
def C.catnaplaw7_chip_c42_w := @awpE _ _ C.catnaplaw7_chip_c42.eq_1
def C.catnaplaw7_chip_r12_b : List IOper := [
 X.m 62 8,
 X.o 63 (.bin .add (X.s 62) (X.i 1)),
 X.m 8 63]
def C.catnaplaw7_chip_r12 : List IOper := C.catnaplaw7_chip_r12_b
def C.catnaplaw7_chip_r12_w := @aopsE _ _ C.catnaplaw7_chip_r12.eq_1
def C.catnaplaw7_chip_c43 : ICode := .keep [2, 3, 4, 6, 7, 8] (.region C.catnaplaw7_chip_r12)
def C.catnaplaw7_chip_c43_w := @awpE _ _ C.catnaplaw7_chip_c43.eq_1
def C.catnaplaw7_chip_r24_b : List IOper := [
 X.o 140 (.fldAddr 0 (X.s 6)),
 X.o 141 (.load1 (X.s 140)),
 X.o 142 (.loadN 6 (X.s 10)),
 X.o 143 (.buildSlice 6 1 [.int .u8 0, .nils, .int .u64 0, .int .i64 0, .int .i64 0, .int .i64 0] [(0, 6, X.s 142)]),
 X.o 144 (.append 6 64 (X.s 141) (X.s 143)),
 X.o 145 (.fldAddr 0 (X.s 6)),
 X.n (.store1 (X.s 145) (X.s 144))]
def C.catnaplaw7_chip_r24 : List IOper := C.catnaplaw7_chip_r24_b
def C.catnaplaw7_chip_r24_w := @aopsE _ _ C.catnaplaw7_chip_r24.eq_1
def C.catnaplaw7_chip_c44 : ICode := .keep [2, 3, 4, 6, 7, 8, 10] (.region C.catnaplaw7_chip_r24)
def C.catnaplaw7_chip_c44_w := @awpE _ _ C.catnaplaw7_chip_c44.eq_1
def C.catnaplaw7_chip_r19_b : List IOper := [
 X.m 106 4,
 X.m 107 9,
 X.o 108 (.bin .add (X.s 107) (X.i 2)),
 X.o 109 (.idxAddr 1 (X.s 106) (X.s 108)),
 X.o 110 (.load1 (X.s 109)),
 X.o 111 (.bin .quo (X.s 110) (X.i 32)),
 X.o 112 (.bin .rem (X.s 111) (X.i 4)),
 X.o 113 (.fldAddr 5 (X.s 10)),
 X.n (.store1 (X.s 113) (X.s 112))]
def C.catnaplaw7_chip_r19 : List IOper := C.catnaplaw7_chip_r19_b
def C.catnaplaw7_chip_r19_w := @aopsE _ _ C.catnaplaw7_chip_r19.eq_1
def C.catnaplaw7_chip_c45 : ICode := .keep [2, 3, 4, 6, 7, 8, 9, 10] (.region C.catnaplaw7_chip_r19)
def C.catnaplaw7_chip_c45_w := @awpE _ _ C.catnaplaw7_chip_c45.eq_1
def C.catnaplaw7_chip_r18_b : List IOper := [
 X.m 97 4,
 X.m 98 9,
 X.o 99 (.bin .add (X.s 98) (X.i 2)),
 X.o 100 (.idxAddr 1 (X.s 97) (X.s 99)),
 X.o 101 (.load1 (X.s 100)),
 X.o 102 (.bin .quo (X.s 101) (X.i 8)),
 X.o 103 (.bin .rem (X.s 102) (X.i 4)),
 X.o 104 (.bin .add (X.i 1) (X.s 103)),
 X.o 105 (.fldAddr 4 (X.s 10)),
 X.n (.store1 (X.s 105) (X.s 104))]
def C.catnaplaw7_chip_r18 : List IOper := C.catnaplaw7_chip_r18_b
def C.catnaplaw7_chip_r18_w := @aopsE _ _ C.catnaplaw7_chip_r18.eq_1
def C.catnaplaw7_chip_c46 : ICode := .keep [2, 3, 4, 6, 7, 8, 9, 10] (.seq (.region C.catnaplaw7_chip_r18) C.catnaplaw7_chip_c45)
def C.catnaplaw7_chip_c46_w := @awpE _ _ C.catnaplaw7_chip_c46.eq_1
def C.catnaplaw7_chip_r17_b : List IOper := [
 X.m 89 4,
 X.m 90 9,
 X.o 91 (.bin .add (X.s 90) (X.i 2)),
 X.o 92 (.idxAddr 1 (X.s 89) (X.s 91)),
 X.o 93 (.load1 (X.s 92)),
 X.o 94 (.bin .rem (X.s 93) (X.i 8)),
 X.o 95 (.bin .add (X.i 1) (X.s 94)),
 X.o 96 (.fldAddr 3 (X.s 10)),
 X.n (.store1 (X.s 96) (X.s 95))]
def C.catnaplaw7_chip_r17 : List IOper := C.catnaplaw7_chip_r17_b
def C.catnaplaw7_chip_r17_w := @aopsE _ _ C.catnaplaw7_chip_r17.eq_1
def C.catnaplaw7_chip_r21_b : List IOper := [
 X.m 116 4,
 X.m 117 9,
 X.o 118 (.bin .add (X.s 117) (X.i 2)),
 X.o 119 (.idxAddr 1 (X.s 116) (X.s 118)),
 X.o 120 (.load1 (X.s 119)),
 X.o 121 (.bin .rem (X.s 120) (X.i 8)),
 X.o 122 (.bin .add (X.i 1) (X.s 121)),
 X.o 123 (.fldAddr 4 (X.s 10)),
 X.n (.store1 (X.s 123) (X.s 122))]
def C.catnaplaw7_chip_r21 : List IOper := C.catnaplaw7_chip_r21_b
def C.catnaplaw7_chip_r21_w := @aopsE _ _ C.catnaplaw7_chip_r21.eq_1
def C.catnaplaw7_chip_r23_b : List IOper := [
 X.o 126 (.fldAddr 1 (X.s 10)),
 X.o 127 (.load1 (X.s 126)),
 X.m 128 4,
 X.m 129 9,
 X.o 130 (.bin .add (X.s 129) (X.i 2)),
 X.o 131 (.idxAddr 1 (X.s 128) (X.s 130)),
 X.o 132 (.load1 (X.s 131)),
 X.o 133 (.fldAddr 0 (X.s 6)),
 X.o 134 (.load1 (X.s 133)),
 X.o 135 (.len (X.s 134)),
 X.o 136 (.bin .rem (X.s 132) (X.s 135)),
 X.o 137 (.buildSlice 1 1 [.int .i64 0] [(0, 1, X.s 136)]),
 X.o 138 (.append 1 8 (X.s 127) (X.s 137)),
 X.o 139 (.fldAddr 1 (X.s 10)),
 X.n (.store1 (X.s 139) (X.s 138))]
def C.catnaplaw7_chip_r23 : List IOper := C.catnaplaw7_chip_r23_b
def C.catnaplaw7_chip_r23_w := @aopsE _ _ C.catnaplaw7_chip_r23.eq_1
def C.catnaplaw7_chip_c47 : ICode := .keep [2, 3, 4, 6, 7, 8, 9, 10, 124] (.cond (X.s 124) (.region C.catnaplaw7_chip_r23) .skip)
def C.catnaplaw7_chip_c47_w := @awpE _ _ C.catnaplaw7_chip_c47.eq_1
def C.catnaplaw7_chip_r22_b : List IOper := [
 X.o 125 (.bin .eql (X.s 86) (.cst (.int .u8 109))),
 X.m 124 125]
def C.catnaplaw7_chip_r22 : List IOper := C.catnaplaw7_chip_r22_b
def C.catnaplaw7_chip_r22_w := @aopsE _ _ C.catnaplaw7_chip_r22.eq_1
def C.catnaplaw7_chip_c48 : ICode := .seq (.region C.catnaplaw7_chip_r22) C.catnaplaw7_chip_c47
def C.catnaplaw7_chip_c48_w := @awpE _ _ C.catnaplaw7_chip_c48.eq_1
def C.catnaplaw7_chip_c49 : ICode := .keep [2, 3, 4, 6, 7, 8, 9, 10, 86, 114] (.cond (X.s 114) (.region C.catnaplaw7_chip_r21) C.catnaplaw7_chip_c48)
def C.catnaplaw7_chip_c49_w := @awpE _ _ C.catnaplaw7_chip_c49.eq_1
def C.catnaplaw7_chip_r20_b : List IOper := [
 X.o 115 (.bin .eql (X.s 86) (.cst (.int .u8 100))),
 X.m 114 115]
def C.catnaplaw7_chip_r20 : List IOper := C.catnaplaw7_chip_r20_b
def C.catnaplaw7_chip_r20_w := @aopsE _ _ C.catnaplaw7_chip_r20.eq_1
def C.catnaplaw7_chip_c50 : ICode := .seq (.region C.catnaplaw7_chip_r17) C.catnaplaw7_chip_c46
def C.catnaplaw7_chip_c50_w := @awpE _ _ C.catnaplaw7_chip_c50.eq_1
def C.catnaplaw7_chip_c51 : ICode := .seq (.region C.catnaplaw7_chip_r20) C.catnaplaw7_chip_c49
def C.catnaplaw7_chip_c51_w := @awpE _ _ C.catnaplaw7_chip_c51.eq_1
def C.catnaplaw7_chip_c52 : ICode := .keep [2, 3, 4, 6, 7, 8, 9, 10, 86, 87] (.cond (X.s 87) C.catnaplaw7_chip_c50 C.catnaplaw7_chip_c51)
def C.catnaplaw7_chip_c52_w := @awpE _ _ C.catnaplaw7_chip_c52.eq_1
def C.catnaplaw7_chip_r16_b : List IOper := [
 X.o 88 (.bin .eql (X.s 86) (.cst (.int .u8 112))),
 X.m 87 88]
def C.catnaplaw7_chip_r16 : List IOper := C.catnaplaw7_chip_r16_b
def C.catnaplaw7_chip_r16_w := @aopsE _ _ C.catnaplaw7_chip_r16.eq_1
def C.catnaplaw7_chip_b53 : ICode := .seq (.region C.catnaplaw7_chip_r16) C.catnaplaw7_chip_c52
def C.catnaplaw7_chip_b53_w := @awpE _ _ C.catnaplaw7_chip_b53.eq_1
def C.catnaplaw7_chip_c54 : ICode := .keep [2, 3, 4, 6, 7, 8, 9, 10, 86] (.block 4 C.catnaplaw7_chip_b53)
def C.catnaplaw7_chip_c54_w := @awpE _ _ C.catnaplaw7_chip_c54.eq_1
def C.catnaplaw7_chip_r15_b : List IOper := [
 X.o 85 (.fldAddr 0 (X.s 10)),
 X.o 86 (.load1 (X.s 85))]
def C.catnaplaw7_chip_r15 : List IOper := C.catnaplaw7_chip_r15_b
def C.catnaplaw7_chip_r15_w := @aopsE _ _ C.catnaplaw7_chip_r15.eq_1
def C.catnaplaw7_chip_c55 : ICode := .keep [2, 3, 4, 6, 7, 8, 9, 10] (.seq (.seq (.region C.catnaplaw7_chip_r15) C.catnaplaw7_chip_c54) C.catnaplaw7_chip_c44)
def C.catnaplaw7_chip_c55_w := @awpE _ _ C.catnaplaw7_chip_c55.eq_1
def C.catnaplaw7_chip_r14_b : List IOper := [
 X.m 67 7,
 X.m 68 4,
 X.m 69 9,
 X.o 70 (.idxAddr 1 (X.s 68) (X.s 69)),
 X.o 71 (.load1 (X.s 70)),
 X.o 72 (.bin .rem (X.s 71) (X.i 5)),
 X.o 73 (.strIdx (X.s 67) (X.s 72)),
 X.m 74 4,
 X.m 75 9,
 X.o 76 (.bin .add (X.s 75) (X.i 1)),
 X.o 77 (.idxAddr 1 (X.s 74) (X.s 76)),
 X.o 78 (.load1 (X.s 77)),
 X.o 79 (.fldAddr 0 (X.s 6)),
 X.o 80 (.load1 (X.s 79)),
 X.o 81 (.len (X.s 80)),
 X.o 82 (.bin .rem (X.s 78) (X.s 81)),
 X.o 83 (.buildSlice 1 1 [.int .i64 0] [(0, 1, X.s 82)]),
 X.o 84 (.build [.int .u8 0, .nils, .int .u64 0, .int .i64 0, .int .i64 0, .int .i64 0] [(0, 1, X.s 73), (1, 1, X.s 83)]),
 X.o 10 (.alloc [.int .u8 0, .nils, .int .u64 0, .int .i64 0, .int .i64 0, .int .i64 0]),
 X.n (.storeN 6 (X.s 10) (X.s 84))]
def C.catnaplaw7_chip_r14 : List IOper := C.catnaplaw7_chip_r14_b
def C.catnaplaw7_chip_r14_w := @aopsE _ _ C.catnaplaw7_chip_r14.eq_1
def C.catnaplaw7_chip_c56 : ICode := .keep [2, 3, 4, 6, 7, 8, 9] (.seq (.region C.catnaplaw7_chip_r14) C.catnaplaw7_chip_c55)
def C.catnaplaw7_chip_c56_w := @awpE _ _ C.catnaplaw7_chip_c56.eq_1
def C.catnaplaw7_chip_r13_b : List IOper := [
 X.m 64 8,
 X.o 65 (.bin .mul (X.i 3) (X.s 64)),
 X.o 66 (.bin .add (X.i 10) (X.s 65)),
 X.m 9 66]
def C.catnaplaw7_chip_r13 : List IOper := C.catnaplaw7_chip_r13_b
def C.catnaplaw7_chip_r13_w := @aopsE _ _ C.catnaplaw7_chip_r13.eq_1
def C.catnaplaw7_chip_b57 : ICode := .seq (.region C.catnaplaw7_chip_r13) C.catnaplaw7_chip_c56
def C.catnaplaw7_chip_b57_w := @awpE _ _ C.catnaplaw7_chip_b57.eq_1
def C.catnaplaw7_chip_c58 : ICode := .keep [2, 3, 4, 6, 7, 8] (.seq (.block 3 C.catnaplaw7_chip_b57) C.catnaplaw7_chip_c43)
def C.catnaplaw7_chip_c58_w := @awpE _ _ C.catnaplaw7_chip_c58.eq_1
def C.catnaplaw7_chip_c59 : ICode := .keep [2, 3, 4, 6, 7, 8, 61] (.cond (X.s 61) .skip (.exit 2))
def C.catnaplaw7_chip_c59_w := @awpE _ _ C.catnaplaw7_chip_c59.eq_1
def C.catnaplaw7_chip_r11_b : List IOper := [
 X.m 55 8,
 X.m 56 4,
 X.m 57 3,
 X.o 58 (.idxAddr 1 (X.s 56) (X.s 57)),
 X.o 59 (.load1 (X.s 58)),
 X.o 60 (.bin .rem (X.s 59) (X.i 9)),
 X.o 61 (.bin .lss (X.s 55) (X.s 60))]
def C.catnaplaw7_chip_r11 : List IOper := C.catnaplaw7_chip_r11_b
def C.catnaplaw7_chip_r11_w := @aopsE _ _ C.catnaplaw7_chip_r11.eq_1
def C.catnaplaw7_chip_l60 : ICode := .keep [2, 3, 4, 6, 7, 8] (.seq (.seq (.region C.catnaplaw7_chip_r11) C.catnaplaw7_chip_c59) C.catnaplaw7_chip_c58)
def C.catnaplaw7_chip_l60_w := @awpE _ _ C.catnaplaw7_chip_l60.eq_1
def C.catnaplaw7_chip_b61 : ICode := .loop C.catnaplaw7_chip_l60
def C.catnaplaw7_chip_b61_w := @awpE _ _ C.catnaplaw7_chip_b61.eq_1
def C.catnaplaw7_chip_c62 : ICode := .keep [2, 3, 4, 6, 7, 8] (.block 2 C.catnaplaw7_chip_b61)
def C.catnaplaw7_chip_c62_w := @awpE _ _ C.catnaplaw7_chip_c62.eq_1
def C.catnaplaw7_chip_r10_b : List IOper := [
 X.o 8 (.move (X.i 0))]
def C.catnaplaw7_chip_r10 : List IOper := C.catnaplaw7_chip_r10_b
def C.catnaplaw7_chip_r10_w := @aopsE _ _ C.catnaplaw7_chip_r10.eq_1
def C.catnaplaw7_chip_c63 : ICode := .keep [2, 3, 4, 6, 7] (.seq (.seq (.region C.catnaplaw7_chip_r10) C.catnaplaw7_chip_c62) C.catnaplaw7_chip_c42)
def C.catnaplaw7_chip_c63_w := @awpE _ _ C.catnaplaw7_chip_c63.eq_1
def C.catnaplaw7_chip_r9_b : List IOper := [
 X.o 7 (.move (.cst (.str [112, 100, 103, 109, 103])))]
def C.catnaplaw7_chip_r9 : List IOper := C.catnaplaw7_chip_r9_b
def C.catnaplaw7_chip_r9_w := @aopsE _ _ C.catnaplaw7_chip_r9.eq_1
def C.catnaplaw7_chip_c64 : ICode := .keep [2, 3, 4, 6] (.seq (.region C.catnaplaw7_chip_r9) C.catnaplaw7_chip_c63)
def C.catnaplaw7_chip_c64_w := @awpE _ _ C.catnaplaw7_chip_c64.eq_1
def C.catnaplaw7_chip_r8_b : List IOper := [
 X.o 3 (.move (X.i 1))]
def C.catnaplaw7_chip_r8 : List IOper := C.catnaplaw7_chip_r8_b
def C.catnaplaw7_chip_r8_w := @aopsE _ _ C.catnaplaw7_chip_r8.eq_1
def C.catnaplaw7_chip_c65 : ICode := .keep [2, 4, 6] (.seq (.region C.catnaplaw7_chip_r8) C.catnaplaw7_chip_c64)
def C.catnaplaw7_chip_c65_w := @awpE _ _ C.catnaplaw7_chip_c65.eq_1
def C.catnaplaw7_chip_r7_b : List IOper := [
 X.m 47 4,
 X.o 48 (.idxAddr 1 (X.s 47) (X.i 0)),
 X.o 49 (.load1 (X.s 48)),
 X.o 50 (.bin .add (X.i 1) (X.s 49)),
 X.o 51 (.conv .u64 (X.s 50)),
 X.o 52 (.build [.int .u8 0, .nils, .int .u64 0, .int .i64 0, .int .i64 0, .int .i64 0] [(0, 1, .cst (.int .u8 111)), (2, 1, X.s 51)]),
 X.o 53 (.buildSlice 6 1 [.int .u8 0, .nils, .int .u64 0, .int .i64 0, .int .i64 0, .int .i64 0] [(0, 6, X.s 52)]),
 X.o 54 (.build [.nils, .nils, .nils, .nils] [(0, 1, X.s 53)]),
 X.o 6 (.alloc [.nils, .nils, .nils, .nils]),
 X.n (.storeN 4 (X.s 6) (X.s 54))]
def C.catnaplaw7_chip_r7 : List IOper := C.catnaplaw7_chip_r7_b
def C.catnaplaw7_chip_r7_w := @aopsE _ _ C.catnaplaw7_chip_r7.eq_1
def C.catnaplaw7_chip_c66 : ICode := .keep [2, 4] (.seq (.region C.catnaplaw7_chip_r7) C.catnaplaw7_chip_c65)
def C.catnaplaw7_chip_c66_w := @awpE _ _ C.catnaplaw7_chip_c66.eq_1
def C.catnaplaw7_chip_r5_b : List IOper := [
 X.m 28 5,
 X.o 29 (.bin .add (X.s 28) (X.i 1)),
 X.m 5 29]
def C.catnaplaw7_chip_r5 : List IOper := C.catnaplaw7_chip_r5_b
def C.catnaplaw7_chip_r5_w := @aopsE _ _ C.catnaplaw7_chip_r5.eq_1
def C.catnaplaw7_chip_c67 : ICode := .keep [0, 2, 4, 5] (.region C.catnaplaw7_chip_r5)
def C.catnaplaw7_chip_c67_w := @awpE _ _ C.catnaplaw7_chip_c67.eq_1
def C.catnaplaw7_chip_r6_b : List IOper := [
 X.m 30 4,
 X.m 31 5,
 X.m 32 0,
 X.m 33 5,
 X.m 34 0,
 X.o 35 (.len (X.s 34)),
 X.o 36 (.bin .rem (X.s 33) (X.s 35)),
 X.o 37 (.idxAddr 1 (X.s 32) (X.s 36)),
 X.o 38 (.load1 (X.s 37)),
 X.m 39 5,
 X.m 40 0,
 X.o 41 (.len (X.s 40)),
 X.o 42 (.bin .quo (X.s 39) (X.s 41)),
 X.o 43 (.bin .add (X.i 1) (X.s 42)),
 X.o 44 (.bin .quo (X.s 38) (X.s 43)),
 X.o 45 (.call F.catnaplaw7_pick [X.s 44, X.i 1000000]),
 X.o 46 (.idxAddr 1 (X.s 30) (X.s 31)),
 X.n (.store1 (X.s 46) (X.s 45))]
def C.catnaplaw7_chip_r6 : List IOper := C.catnaplaw7_chip_r6_b
def C.catnaplaw7_chip_r6_w := @aopsE _ _ C.catnaplaw7_chip_r6.eq_1
def C.catnaplaw7_chip_b68 : ICode := .region C.catnaplaw7_chip_r6
def C.catnaplaw7_chip_b68_w := @awpE _ _ C.catnaplaw7_chip_b68.eq_1
def C.catnaplaw7_chip_c69 : ICode := .keep [0, 2, 4, 5] (.seq (.block 1 C.catnaplaw7_chip_b68) C.catnaplaw7_chip_c67)
def C.catnaplaw7_chip_c69_w := @awpE _ _ C.catnaplaw7_chip_c69.eq_1
def C.catnaplaw7_chip_c70 : ICode := .keep [0, 2, 4, 5, 27] (.cond (X.s 27) .skip (.exit 0))
def C.catnaplaw7_chip_c70_w := @awpE _ _ C.catnaplaw7_chip_c70.eq_1
def C.catnaplaw7_chip_r4_b : List IOper := [
 X.m 19 5,
 X.m 20 4,
 X.o 21 (.len (X.s 20)),
 X.o 22 (.bin .lss (X.s 19) (X.s 21)),
 X.m 23 22,
 X.t 23 24 (.move (X.s 0)),
 X.t 23 25 (.len (X.s 24)),
 X.t 23 26 (.bin .gtr (X.s 25) (X.i 0)),
 X.o 27 (.pick (X.s 23) (X.s 26) (.cst (.bool false)))]
def C.catnaplaw7_chip_r4 : List IOper := C.catnaplaw7_chip_r4_b
def C.catnaplaw7_chip_r4_w := @aopsE _ _ C.catnaplaw7_chip_r4.eq_1
def C.catnaplaw7_chip_l71 : ICode := .keep [0, 2, 4, 5] (.seq (.seq (.region C.catnaplaw7_chip_r4) C.catnaplaw7_chip_c70) C.catnaplaw7_chip_c69)
def C.catnaplaw7_chip_l71_w := @awpE _ _ C.catnaplaw7_chip_l71.eq_1
def C.catnaplaw7_chip_b72 : ICode := .loop C.catnaplaw7_chip_l71
def C.catnaplaw7_chip_b72_w := @awpE _ _ C.catnaplaw7_chip_b72.eq_1
def C.catnaplaw7_chip_c73 : ICode := .keep [0, 2, 4, 5] (.block 0 C.catnaplaw7_chip_b72)
def C.catnaplaw7_chip_c73_w := @awpE _ _ C.catnaplaw7_chip_c73.eq_1
def C.catnaplaw7_chip_r3_b : List IOper := [
 X.o 5 (.move (X.i 0))]
def C.catnaplaw7_chip_r3 : List IOper := C.catnaplaw7_chip_r3_b
def C.catnaplaw7_chip_r3_w := @aopsE _ _ C.catnaplaw7_chip_r3.eq_1
def C.catnaplaw7_chip_c74 : ICode := .keep [0, 2, 4] (.seq (.seq (.region C.catnaplaw7_chip_r3) C.catnaplaw7_chip_c73) C.catnaplaw7_chip_c66)
def C.catnaplaw7_chip_c74_w := @awpE _ _ C.catnaplaw7_chip_c74.eq_1
def C.catnaplaw7_chip_r2_b : List IOper := [
 X.o 18 (.makeSlice 1 8 [.int .i64 0] (X.i 120) (X.i 120)),
 X.m 4 18]
def C.catnaplaw7_chip_r2 : List IOper := C.catnaplaw7_chip_r2_b
def C.catnaplaw7_chip_r2_w := @aopsE _ _ C.catnaplaw7_chip_r2.eq_1
def C.catnaplaw7_chip_c75 : ICode := .keep [0, 2] (.seq (.region C.catnaplaw7_chip_r2) C.catnaplaw7_chip_c74)
def C.catnaplaw7_chip_c75_w := @awpE _ _ C.catnaplaw7_chip_c75.eq_1
def C.catnaplaw7_chip_r1_b : List IOper := [
 X.o 3 (.move (X.i 0))]
def C.catnaplaw7_chip_r1 : List IOper := C.catnaplaw7_chip_r1_b
def C.catnaplaw7_chip_r1_w := @aopsE _ _ C.catnaplaw7_chip_r1.eq_1
def C.catnaplaw7_chip_c76 : ICode := .keep [0, 2] (.seq (.region C.catnaplaw7_chip_r1) C.catnaplaw7_chip_c75)
def C.catnaplaw7_chip_c76_w := @awpE _ _ C.catnaplaw7_chip_c76.eq_1
def C.catnaplaw7_chip_r0_b : List IOper := [
 X.o 2 (.alloc [.nils, .nils, .nils, .nils])]
def C.catnaplaw7_chip_r0 : List IOper := C.catnaplaw7_chip_r0_b
def C.catnaplaw7_chip_r0_w := @aopsE _ _ C.catnaplaw7_chip_r0.eq_1
def C.catnaplaw7_chip : IFunc := ⟨1, [.cellN 2 4], .seq (.region C.catnaplaw7_chip_r0) C.catnaplaw7_chip_c76⟩
def C.catnaplaw7_chip_W := And.intro (And.intro (And.intro (And.intro (And.intro (And.intro @C.catnaplaw7_chip_r50_w (And.intro @C.catnaplaw7_chip_c1_w @C.catnaplaw7_chip_r38_w)) (And.intro (And.intro @C.catnaplaw7_chip_c2_w @C.catnaplaw7_chip_r49_w) (And.intro @C.catnaplaw7_chip_c3_w @C.catnaplaw7_chip_r48_w))) (And.intro (And.intro (And.intro @C.catnaplaw7_chip_c4_w @C.catnaplaw7_chip_r47_w) (And.intro @C.catnaplaw7_chip_c5_w @C.catnaplaw7_chip_r46_w)) (And.intro (And.intro @C.catnaplaw7_chip_c6_w @C.catnaplaw7_chip_r45_w) (And.intro @C.catnaplaw7_chip_c7_w @C.catnaplaw7_chip_r43_w)))) (And.intro (And.intro (And.intro @C.catnaplaw7_chip_c8_w (And.intro @C.catnaplaw7_chip_r44_w @C.catnaplaw7_chip_b9_w)) (And.intro (And.intro @C.catnaplaw7_chip_c10_w @C.catnaplaw7_chip_c11_w) (And.intro @C.catnaplaw7_chip_r42_w @C.catnaplaw7_chip_b13_w))) (And.intro (And.intro (And.intro @C.catnaplaw7_chip_c14_w @C.catnaplaw7_chip_r41_w) (And.intro @C.catnaplaw7_chip_c15_w @C.catnaplaw7_chip_r40_w)) (And.intro (And.intro @C.catnaplaw7_chip_c16_w @C.catnaplaw7_chip_r39_w) (And.intro @C.catnaplaw7_chip_b17_w @C.catnaplaw7_chip_c18_w))))) (And.intro (And.intro (And.intro (And.intro @C.catnaplaw7_chip_c19_w (And.intro @C.catnaplaw7_chip_r37_w @C.catnaplaw7_chip_b21_w)) (And.intro (And.intro @C.catnaplaw7_chip_c22_w @C.catnaplaw7_chip_r36_w) (And.intro @C.catnaplaw7_chip_c23_w @C.catnaplaw7_chip_r34_w))) (And.intro (And.intro (And.intro @C.catnaplaw7_chip_c24_w @C.catnaplaw7_chip_r35_w) (And.intro @C.catnaplaw7_chip_b25_w @C.catnaplaw7_chip_c26_w)) (And.intro (And.intro @C.catnaplaw7_chip_c27_w @C.catnaplaw7_chip_r33_w) (And.intro @C.catnaplaw7_chip_b29_w @C.catnaplaw7_chip_c30_w)))) (And.intro (And.intro (And.intro @C.catnaplaw7_chip_r32_w (And.intro @C.catnaplaw7_chip_c31_w @C.catnaplaw7_chip_r27_w)) (And.intro (And.intro @C.catnaplaw7_chip_c32_w @C.catnaplaw7_chip_r31_w) (And.intro @C.catnaplaw7_chip_c33_w @C.catnaplaw7_chip_r30_w))) (And.intro (And.intro (And.intro @C.catnaplaw7_chip_c34_w @C.catnaplaw7_chip_r29_w) (And.intro @C.catnaplaw7_chip_c35_w @C.catnaplaw7_chip_r28_w)) (And.intro (And.intro @C.catnaplaw7_chip_b36_w @C.catnaplaw7_chip_c37_w) (And.intro @C.catnaplaw7_chip_c38_w @C.catnaplaw7_chip_r26_w)))))) (And.intro (And.intro (And.intro (And.intro (And.intro @C.catnaplaw7_chip_b40_w (And.intro @C.catnaplaw7_chip_c41_w @C.catnaplaw7_chip_r25_w)) (And.intro (And.intro @C.catnaplaw7_chip_c42_w @C.catnaplaw7_chip_r12_w) (And.intro @C.catnaplaw7_chip_c43_w @C.catnaplaw7_chip_r24_w))) (And.intro (And.intro (And.intro @C.catnaplaw7_chip_c44_w @C.catnaplaw7_chip_r19_w) (And.intro @C.catnaplaw7_chip_c45_w @C.catnaplaw7_chip_r18_w)) (And.intro (And.intro @C.catnaplaw7_chip_c46_w @C.catnaplaw7_chip_r17_w) (And.intro @C.catnaplaw7_chip_r21_w @C.catnaplaw7_chip_r23_w)))) (And.intro (And.intro (And.intro @C.catnaplaw7_chip_c47_w (And.intro @C.catnaplaw7_chip_r22_w @C.catnaplaw7_chip_c48_w)) (And.intro (And.intro @C.catnaplaw7_chip_c49_w @C.catnaplaw7_chip_r20_w) (And.intro @C.catnaplaw7_chip_c50_w @C.catnaplaw7_chip_c51_w))) (And.intro (And.intro (And.intro @C.catnaplaw7_chip_c52_w @C.catnaplaw7_chip_r16_w) (And.intro @C.catnaplaw7_chip_b53_w @C.catnaplaw7_chip_c54_w)) (And.intro (And.intro @C.catnaplaw7_chip_r15_w @C.catnaplaw7_chip_c55_w) (And.intro @C.catnaplaw7_chip_r14_w @C.catnaplaw7_chip_c56_w))))) (And.intro (And.intro (And.intro (And.intro @C.catnaplaw7_chip_r13_w (And.intro @C.catnaplaw7_chip_b57_w @C.catnaplaw7_chip_c58_w)) (And.intro (And.intro @C.catnaplaw7_chip_c59_w @C.catnaplaw7_chip_r11_w) (And.intro @C.catnaplaw7_chip_b61_w @C.catnaplaw7_chip_c62_w))) (And.intro (And.intro (And.intro @C.catnaplaw7_chip_r10_w @C.catnaplaw7_chip_c63_w) (And.intro @C.catnaplaw7_chip_r9_w @C.catnaplaw7_chip_c64_w)) (And.intro (And.intro @C.catnaplaw7_chip_r8_w @C.catnaplaw7_chip_c65_w) (And.intro @C.catnaplaw7_chip_r7_w @C.catnaplaw7_chip_c66_w)))) (And.intro (And.intro (And.intro (And.intro @C.catnaplaw7_chip_r5_w @C.catnaplaw7_chip_c67_w) (And.intro @C.catnaplaw7_chip_r6_w @C.catnaplaw7_chip_b68_w)) (And.intro (And.intro @C.catnaplaw7_chip_c69_w @C.catnaplaw7_chip_c70_w) (And.intro @C.catnaplaw7_chip_r4_w @C.catnaplaw7_chip_b72_w))) (And.intro (And.intro (And.intro @C.catnaplaw7_chip_c73_w @C.catnaplaw7_chip_r3_w) (And.intro @C.catnaplaw7_chip_c74_w @C.catnaplaw7_chip_r2_w)) (And.intro (And.intro @C.catnaplaw7_chip_c75_w @C.catnaplaw7_chip_r1_w) (And.intro @C.catnaplaw7_chip_c76_w @C.catnaplaw7_chip_r0_w))))))
def C.catnaplaw7_chip_B := And.intro (And.intro (And.intro (And.intro (And.intro @C.catnaplaw7_chip_r50_b.eq_1 (And.intro @C.catnaplaw7_chip_r38_b.eq_1 @C.catnaplaw7_chip_r49_b.eq_1)) (And.intro @C.catnaplaw7_chip_r48_b.eq_1 (And.intro @C.catnaplaw7_chip_r47_b.eq_1 @C.catnaplaw7_chip_r46_b.eq_1))) (And.intro (And.intro @C.catnaplaw7_chip_r45_b.eq_1 (And.intro @C.catnaplaw7_chip_r43_b.eq_1 @C.catnaplaw7_chip_r44_b.eq_1)) (And.intro @C.catnaplaw7_chip_r42_b.eq_1 (And.intro @C.catnaplaw7_chip_r41_b.eq_1 @C.catnaplaw7_chip_r40_b.eq_1)))) (And.intro (And.intro (And.intro @C.catnaplaw7_chip_r39_b.eq_1 (And.intro @C.catnaplaw7_chip_r37_b.eq_1 @C.catnaplaw7_chip_r36_b.eq_1)) (And.intro @C.catnaplaw7_chip_r34_b.eq_1 (And.intro @C.catnaplaw7_chip_r35_b.eq_1 @C.catnaplaw7_chip_r33_b.eq_1))) (And.intro (And.intro @C.catnaplaw7_chip_r32_b.eq_1 (And.intro @C.catnaplaw7_chip_r27_b.eq_1 @C.catnaplaw7_chip_r31_b.eq_1)) (And.intro (And.intro @C.catnaplaw7_chip_r30_b.eq_1 @C.catnaplaw7_chip_r29_b.eq_1) (And.intro @C.catnaplaw7_chip_r28_b.eq_1 @C.catnaplaw7_chip_r26_b.eq_1))))) (And.intro (And.intro (And.intro (And.intro @C.catnaplaw7_chip_r25_b.eq_1 (And.intro @C.catnaplaw7_chip_r12_b.eq_1 @C.catnaplaw7_chip_r24_b.eq_1)) (And.intro @C.catnaplaw7_chip_r19_b.eq_1 (And.intro @C.catnaplaw7_chip_r18_b.eq_1 @C.catnaplaw7_chip_r17_b.eq_1))) (And.intro (And.intro @C.catnaplaw7_chip_r21_b.eq_1 (And.intro @C.catnaplaw7_chip_r23_b.eq_1 @C.catnaplaw7_chip_r22_b.eq_1)) (And.intro (And.intro @C.catnaplaw7_chip_r20_b.eq_1 @C.catnaplaw7_chip_r16_b.eq_1) (And.intro @C.catnaplaw7_chip_r15_b.eq_1 @C.catnaplaw7_chip_r14_b.eq_1)))) (And.intro (And.intro (And.intro @C.catnaplaw7_chip_r13_b.eq_1 (And.intro @C.catnaplaw7_chip_r11_b.eq_1 @C.catnaplaw7_chip_r10_b.eq_1)) (And.intro @C.catnaplaw7_chip_r9_b.eq_1 (And.intro @C.catnaplaw7_chip_r8_b.eq_1 @C.catnaplaw7_chip_r7_b.eq_1))) (And.intro (And.intro @C.catnaplaw7_chip_r5_b.eq_1 (And.intro @C.catnaplaw7_chip_r6_b.eq_1 @C.catnaplaw7_chip_r4_b.eq_1)) (And.intro (And.intro @C.catnaplaw7_chip_r3_b.eq_1 @C.catnaplaw7_chip_r2_b.eq_1) (And.intro @C.catnaplaw7_chip_r1_b.eq_1 @C.catnaplaw7_chip_r0_b.eq_1)))))

end Go.Proofs.Ytgfpnfnjnakoaaa.Cn
