/- The intermediate code of the functions, printed by a program out of the loaded program; that it is theirs is checked in the text of links. -/
import Derived.Test.YtkioaemhdbcfaaaCnL2
set_option linter.defProp false
namespace Go.Proofs.Ytkioaemhdbcfaaa.Cn
open Go
variable {P : Program} {Q : IExit → AFr → ASt → Prop} {fr : AFr} {st : ASt}

abbrev F.main_main : Nat := 0
abbrev F.gosem_cut : Nat := 1
abbrev F.gosem_cut_init : Nat := 2
abbrev F.catnaplaw6_ClockErrs : Nat := 3
abbrev F.catnaplaw6_ClockLost : Nat := 4
abbrev F.catnaplaw6_ClockOff : Nat := 5
abbrev F.catnaplaw6_ClockKeeps : Nat := 6
abbrev F.catnaplaw6_ClockLocks : Nat := 7
abbrev F.catnaplaw6_ClockGlitches : Nat := 8
abbrev F.catnaplaw6_ClockRates : Nat := 9
abbrev F.catnaplaw6_shown : Nat := 10
abbrev F.clock_New : Nat := 11
abbrev F.conf_Check : Nat := 12
abbrev F.catnaplaw6_pick : Nat := 13
abbrev F.clock_Tree_On : Nat := 14
abbrev F.clock_Tree_Running : Nat := 15
abbrev F.clock_Tree_Left : Nat := 16
abbrev F.clock_Tree_Tick : Nat := 17
abbrev F.clock_Tree_Rate : Nat := 18
abbrev F.catnaplaw6_chip : Nat := 19
abbrev F.clock_Tree_Chain : Nat := 20
abbrev F.clock_Tree_Select : Nat := 21
abbrev F.clock_Tree_Divide : Nat := 22
abbrev F.rate_Scale : Nat := 23
abbrev F.conf_Copy : Nat := 24
abbrev F.conf_first : Nat := 25
abbrev F.conf_Check_1 : Nat := 26
abbrev F.conf_full : Nat := 27
abbrev F.conf_Check_2 : Nat := 28
abbrev F.conf_each_api_Clock : Nat := 29
abbrev F.conf_Check_2_1 : Nat := 30
abbrev F.conf_clock : Nat := 31
abbrev F.conf_Check_3 : Nat := 32
abbrev F.conf_cycle : Nat := 33
abbrev F.conf_Clocks : Nat := 34
abbrev F.conf_Check_4 : Nat := 35
abbrev F.conf_each_api_Domain : Nat := 36
abbrev F.conf_Check_4_1 : Nat := 37
abbrev F.conf_domain : Nat := 38
abbrev F.conf_Check_5 : Nat := 39
abbrev F.conf_Domains : Nat := 40
abbrev F.conf_Check_6 : Nat := 41
abbrev F.conf_each_api_Reset : Nat := 42
abbrev F.conf_reset : Nat := 43
abbrev F.conf_Check_7 : Nat := 44
abbrev F.conf_each_api_Device : Nat := 45
abbrev F.conf_Check_7_1 : Nat := 46
abbrev F.conf_device : Nat := 47
abbrev F.conf_Check_8 : Nat := 48
abbrev F.conf_Needs : Nat := 49
abbrev F.clock_Tree_at : Nat := 50
abbrev F.clock_Tree_Running_1 : Nat := 51
abbrev F.clock_Tree_source : Nat := 52
abbrev F.clock_Tree_Rate_1 : Nat := 53
abbrev F.slices_Reverse_int_int : Nat := 54
abbrev F.rate_factor : Nat := 55
abbrev F.conf_own_api_Clock : Nat := 56
abbrev F.conf_own_api_Domain : Nat := 57
abbrev F.conf_own_api_Reset : Nat := 58
abbrev F.conf_own_api_Device : Nat := 59
abbrev F.conf_own_int : Nat := 60
abbrev F.conf_own_api_Reg : Nat := 61
abbrev F.conf_full_1 : Nat := 62
abbrev F.conf_when : Nat := 63
abbrev F.conf_clock_1 : Nat := 64
abbrev F.conf_shape : Nat := 65
abbrev F.conf_clock_2 : Nat := 66
abbrev F.conf_each_int : Nat := 67
abbrev F.conf_clock_2_1 : Nat := 68
abbrev F.conf_within : Nat := 69
abbrev F.conf_clock_3 : Nat := 70
abbrev F.conf_numbers : Nat := 71
abbrev F.graph_Check : Nat := 72
abbrev F.conf_domain_1 : Nat := 73
abbrev F.conf_domain_2 : Nat := 74
abbrev F.conf_device_1 : Nat := 75
abbrev F.conf_device_2 : Nat := 76
abbrev F.conf_device_3 : Nat := 77
abbrev F.conf_device_4 : Nat := 78
abbrev F.conf_device_4_1 : Nat := 79
abbrev F.graph_Order : Nat := 80
abbrev F.graph_numbers : Nat := 81
abbrev F.graph_hang : Nat := 82
abbrev F.graph_marks_has : Nat := 83
abbrev F.graph_marks_add : Nat := 84
abbrev F.runtime_boundsError_Error : Nat := 85
abbrev F.runtime_boundsError_RuntimeError : Nat := 86
abbrev F.runtime_errorString_Error : Nat := 87
abbrev F.runtime_errorString_RuntimeError : Nat := 88
abbrev F.runtime_plainError_Error : Nat := 89
abbrev F.runtime_plainError_RuntimeError : Nat := 90
abbrev F.runtime_errorAddressString_Error : Nat := 91
abbrev F.runtime_errorAddressString_RuntimeError : Nat := 92
abbrev F.runtime_TypeAssertionError_Error : Nat := 93
abbrev F.runtime_TypeAssertionError_RuntimeError : Nat := 94
abbrev F.runtime_PanicNilError_Error : Nat := 95
abbrev F.runtime_PanicNilError_RuntimeError : Nat := 96
abbrev F.internal_abi_Type_Align : Nat := 97
abbrev F.internal_runtime_maps_unhashableTypeError_Error : Nat := 98
abbrev F.internal_runtime_maps_unhashableTypeError_RuntimeError : Nat := 99
abbrev F.api_Errno_Error : Nat := 100
abbrev F.internal_abi_Kind_String : Nat := 101

def C.catnaplaw6_ClockRates_r43_b : List IOper := [
 X.o 4 (.move (.cst (.bool true)))]
def C.catnaplaw6_ClockRates_r43 : List IOper := C.catnaplaw6_ClockRates_r43_b
def C.catnaplaw6_ClockRates_r43_w := @aopsE _ _ C.catnaplaw6_ClockRates_r43.eq_1
def C.catnaplaw6_ClockRates_c1 : ICode := .keep [] (.seq (.region C.catnaplaw6_ClockRates_r43) .ret)
def C.catnaplaw6_ClockRates_c1_w := @awpE _ _ C.catnaplaw6_ClockRates_c1.eq_1
def C.catnaplaw6_ClockRates_r13_b : List IOper := [
 X.m 74 11,
 X.o 75 (.bin .add (X.s 74) (X.i 1)),
 X.m 11 75]
def C.catnaplaw6_ClockRates_r13 : List IOper := C.catnaplaw6_ClockRates_r13_b
def C.catnaplaw6_ClockRates_r13_w := @aopsE _ _ C.catnaplaw6_ClockRates_r13.eq_1
def C.catnaplaw6_ClockRates_c2 : ICode := .keep [1, 6, 7, 9, 11] (.region C.catnaplaw6_ClockRates_r13)
def C.catnaplaw6_ClockRates_c2_w := @awpE _ _ C.catnaplaw6_ClockRates_c2.eq_1
def C.catnaplaw6_ClockRates_r42_b : List IOper := [
 X.o 4 (.move (.cst (.bool false)))]
def C.catnaplaw6_ClockRates_r42 : List IOper := C.catnaplaw6_ClockRates_r42_b
def C.catnaplaw6_ClockRates_r42_w := @aopsE _ _ C.catnaplaw6_ClockRates_r42.eq_1
def C.catnaplaw6_ClockRates_c3 : ICode := .seq (.region C.catnaplaw6_ClockRates_r42) .ret
def C.catnaplaw6_ClockRates_c3_w := @awpE _ _ C.catnaplaw6_ClockRates_c3.eq_1
def C.catnaplaw6_ClockRates_c4 : ICode := .keep [1, 6, 7, 9, 11, 203] (.cond (X.s 203) C.catnaplaw6_ClockRates_c3 .skip)
def C.catnaplaw6_ClockRates_c4_w := @awpE _ _ C.catnaplaw6_ClockRates_c4.eq_1
def C.catnaplaw6_ClockRates_r41_b : List IOper := [
 X.m 199 7,
 X.m 200 12,
 X.o 201 (.call F.clock_Tree_Rate [X.s 199, X.s 200]),
 X.m 202 15,
 X.o 203 (.bin .neq (X.s 201) (X.s 202))]
def C.catnaplaw6_ClockRates_r41 : List IOper := C.catnaplaw6_ClockRates_r41_b
def C.catnaplaw6_ClockRates_r41_w := @aopsE _ _ C.catnaplaw6_ClockRates_r41.eq_1
def C.catnaplaw6_ClockRates_c5 : ICode := .keep [1, 6, 7, 9, 11, 12, 15] (.seq (.region C.catnaplaw6_ClockRates_r41) C.catnaplaw6_ClockRates_c4)
def C.catnaplaw6_ClockRates_c5_w := @awpE _ _ C.catnaplaw6_ClockRates_c5.eq_1
def C.catnaplaw6_ClockRates_r40_b : List IOper := [
 X.o 15 (.move (.cst (.int .u64 0)))]
def C.catnaplaw6_ClockRates_r40 : List IOper := C.catnaplaw6_ClockRates_r40_b
def C.catnaplaw6_ClockRates_r40_w := @aopsE _ _ C.catnaplaw6_ClockRates_r40.eq_1
def C.catnaplaw6_ClockRates_c6 : ICode := .region C.catnaplaw6_ClockRates_r40
def C.catnaplaw6_ClockRates_c6_w := @awpE _ _ C.catnaplaw6_ClockRates_c6.eq_1
def C.catnaplaw6_ClockRates_c7 : ICode := .keep [1, 6, 7, 9, 11, 12, 15, 198] (.cond (X.s 198) C.catnaplaw6_ClockRates_c6 .skip)
def C.catnaplaw6_ClockRates_c7_w := @awpE _ _ C.catnaplaw6_ClockRates_c7.eq_1
def C.catnaplaw6_ClockRates_r39_b : List IOper := [
 X.m 195 7,
 X.m 196 12,
 X.o 197 (.call F.clock_Tree_Running [X.s 195, X.s 196]),
 X.o 198 (.un .not (X.s 197))]
def C.catnaplaw6_ClockRates_r39 : List IOper := C.catnaplaw6_ClockRates_r39_b
def C.catnaplaw6_ClockRates_r39_w := @aopsE _ _ C.catnaplaw6_ClockRates_r39.eq_1
def C.catnaplaw6_ClockRates_c8 : ICode := .keep [1, 6, 7, 9, 11, 12, 15] (.seq (.seq (.region C.catnaplaw6_ClockRates_r39) C.catnaplaw6_ClockRates_c7) C.catnaplaw6_ClockRates_c5)
def C.catnaplaw6_ClockRates_c8_w := @awpE _ _ C.catnaplaw6_ClockRates_c8.eq_1
def C.catnaplaw6_ClockRates_r33_b : List IOper := [
 X.m 166 14,
 X.m 167 9,
 X.m 168 12,
 X.o 169 (.idxAddr 1 (X.s 167) (X.s 168)),
 X.o 170 (.load1 (X.s 169)),
 X.o 171 (.conv .u64 (X.s 170)),
 X.o 172 (.bin .quo (X.s 166) (X.s 171)),
 X.m 15 172]
def C.catnaplaw6_ClockRates_r33 : List IOper := C.catnaplaw6_ClockRates_r33_b
def C.catnaplaw6_ClockRates_r33_w := @aopsE _ _ C.catnaplaw6_ClockRates_r33.eq_1
def C.catnaplaw6_ClockRates_r38_b : List IOper := [
 X.o 15 (.move (.cst (.int .u64 1099511627776)))]
def C.catnaplaw6_ClockRates_r38 : List IOper := C.catnaplaw6_ClockRates_r38_b
def C.catnaplaw6_ClockRates_r38_w := @aopsE _ _ C.catnaplaw6_ClockRates_r38.eq_1
def C.catnaplaw6_ClockRates_c9 : ICode := .region C.catnaplaw6_ClockRates_r38
def C.catnaplaw6_ClockRates_c9_w := @awpE _ _ C.catnaplaw6_ClockRates_c9.eq_1
def C.catnaplaw6_ClockRates_c10 : ICode := .keep [1, 6, 7, 9, 11, 12, 15, 194] (.cond (X.s 194) C.catnaplaw6_ClockRates_c9 .skip)
def C.catnaplaw6_ClockRates_c10_w := @awpE _ _ C.catnaplaw6_ClockRates_c10.eq_1
def C.catnaplaw6_ClockRates_r37_b : List IOper := [
 X.m 193 17,
 X.o 194 (.bin .neq (X.s 193) (X.i 0))]
def C.catnaplaw6_ClockRates_r37 : List IOper := C.catnaplaw6_ClockRates_r37_b
def C.catnaplaw6_ClockRates_r37_w := @aopsE _ _ C.catnaplaw6_ClockRates_r37.eq_1
def C.catnaplaw6_ClockRates_c11 : ICode := .keep [1, 6, 7, 9, 11, 12, 15, 17] (.seq (.region C.catnaplaw6_ClockRates_r37) C.catnaplaw6_ClockRates_c10)
def C.catnaplaw6_ClockRates_c11_w := @awpE _ _ C.catnaplaw6_ClockRates_c11.eq_1
def C.catnaplaw6_ClockRates_r36_b : List IOper := [
 X.m 192 16,
 X.m 15 192]
def C.catnaplaw6_ClockRates_r36 : List IOper := C.catnaplaw6_ClockRates_r36_b
def C.catnaplaw6_ClockRates_r36_w := @aopsE _ _ C.catnaplaw6_ClockRates_r36.eq_1
def C.catnaplaw6_ClockRates_c12 : ICode := .keep [1, 6, 7, 9, 11, 12, 16, 17] (.seq (.region C.catnaplaw6_ClockRates_r36) C.catnaplaw6_ClockRates_c11)
def C.catnaplaw6_ClockRates_c12_w := @awpE _ _ C.catnaplaw6_ClockRates_c12.eq_1
def C.catnaplaw6_ClockRates_r35_b : List IOper := [
 X.m 176 14,
 X.o 177 (.fldAddr 0 (X.s 6)),
 X.o 178 (.load1 (X.s 177)),
 X.m 179 12,
 X.o 180 (.idxAddr 6 (X.s 178) (X.s 179)),
 X.o 181 (.fldAddr 3 (X.s 180)),
 X.o 182 (.load1 (X.s 181)),
 X.o 183 (.fldAddr 0 (X.s 6)),
 X.o 184 (.load1 (X.s 183)),
 X.m 185 12,
 X.o 186 (.idxAddr 6 (X.s 184) (X.s 185)),
 X.o 187 (.fldAddr 4 (X.s 186)),
 X.o 188 (.load1 (X.s 187)),
 X.o 189 (.call F.rate_Scale [X.s 176, X.s 182, X.s 188]),
 X.m 175 189,
 X.o 190 (.extract (X.s 175) 0),
 X.o 191 (.extract (X.s 175) 1),
 X.m 16 190,
 X.m 17 191]
def C.catnaplaw6_ClockRates_r35 : List IOper := C.catnaplaw6_ClockRates_r35_b
def C.catnaplaw6_ClockRates_r35_w := @aopsE _ _ C.catnaplaw6_ClockRates_r35.eq_1
def C.catnaplaw6_ClockRates_c13 : ICode := .seq (.region C.catnaplaw6_ClockRates_r35) C.catnaplaw6_ClockRates_c12
def C.catnaplaw6_ClockRates_c13_w := @awpE _ _ C.catnaplaw6_ClockRates_c13.eq_1
def C.catnaplaw6_ClockRates_c14 : ICode := .keep [1, 6, 7, 9, 11, 12, 14, 15, 173] (.cond (X.s 173) C.catnaplaw6_ClockRates_c13 .skip)
def C.catnaplaw6_ClockRates_c14_w := @awpE _ _ C.catnaplaw6_ClockRates_c14.eq_1
def C.catnaplaw6_ClockRates_r34_b : List IOper := [
 X.o 174 (.bin .eql (X.s 163) (.cst (.int .u8 112))),
 X.m 173 174]
def C.catnaplaw6_ClockRates_r34 : List IOper := C.catnaplaw6_ClockRates_r34_b
def C.catnaplaw6_ClockRates_r34_w := @aopsE _ _ C.catnaplaw6_ClockRates_r34.eq_1
def C.catnaplaw6_ClockRates_c15 : ICode := .region C.catnaplaw6_ClockRates_r33
def C.catnaplaw6_ClockRates_c15_w := @awpE _ _ C.catnaplaw6_ClockRates_c15.eq_1
def C.catnaplaw6_ClockRates_c16 : ICode := .seq (.region C.catnaplaw6_ClockRates_r34) C.catnaplaw6_ClockRates_c14
def C.catnaplaw6_ClockRates_c16_w := @awpE _ _ C.catnaplaw6_ClockRates_c16.eq_1
def C.catnaplaw6_ClockRates_c17 : ICode := .keep [1, 6, 7, 9, 11, 12, 14, 15, 163, 164] (.cond (X.s 164) C.catnaplaw6_ClockRates_c15 C.catnaplaw6_ClockRates_c16)
def C.catnaplaw6_ClockRates_c17_w := @awpE _ _ C.catnaplaw6_ClockRates_c17.eq_1
def C.catnaplaw6_ClockRates_r32_b : List IOper := [
 X.o 165 (.bin .eql (X.s 163) (.cst (.int .u8 100))),
 X.m 164 165]
def C.catnaplaw6_ClockRates_r32 : List IOper := C.catnaplaw6_ClockRates_r32_b
def C.catnaplaw6_ClockRates_r32_w := @aopsE _ _ C.catnaplaw6_ClockRates_r32.eq_1
def C.catnaplaw6_ClockRates_b18 : ICode := .seq (.region C.catnaplaw6_ClockRates_r32) C.catnaplaw6_ClockRates_c17
def C.catnaplaw6_ClockRates_b18_w := @awpE _ _ C.catnaplaw6_ClockRates_b18.eq_1
def C.catnaplaw6_ClockRates_c19 : ICode := .keep [1, 6, 7, 9, 11, 12, 14, 15, 163] (.block 5 C.catnaplaw6_ClockRates_b18)
def C.catnaplaw6_ClockRates_c19_w := @awpE _ _ C.catnaplaw6_ClockRates_c19.eq_1
def C.catnaplaw6_ClockRates_r31_b : List IOper := [
 X.o 158 (.fldAddr 0 (X.s 6)),
 X.o 159 (.load1 (X.s 158)),
 X.m 160 12,
 X.o 161 (.idxAddr 6 (X.s 159) (X.s 160)),
 X.o 162 (.fldAddr 0 (X.s 161)),
 X.o 163 (.load1 (X.s 162))]
def C.catnaplaw6_ClockRates_r31 : List IOper := C.catnaplaw6_ClockRates_r31_b
def C.catnaplaw6_ClockRates_r31_w := @aopsE _ _ C.catnaplaw6_ClockRates_r31.eq_1
def C.catnaplaw6_ClockRates_c20 : ICode := .keep [1, 6, 7, 9, 11, 12, 14, 15] (.seq (.seq (.region C.catnaplaw6_ClockRates_r31) C.catnaplaw6_ClockRates_c19) C.catnaplaw6_ClockRates_c8)
def C.catnaplaw6_ClockRates_c20_w := @awpE _ _ C.catnaplaw6_ClockRates_c20.eq_1
def C.catnaplaw6_ClockRates_r30_b : List IOper := [
 X.m 157 14,
 X.m 15 157]
def C.catnaplaw6_ClockRates_r30 : List IOper := C.catnaplaw6_ClockRates_r30_b
def C.catnaplaw6_ClockRates_r30_w := @aopsE _ _ C.catnaplaw6_ClockRates_r30.eq_1
def C.catnaplaw6_ClockRates_c21 : ICode := .keep [1, 6, 7, 9, 11, 12, 14] (.seq (.region C.catnaplaw6_ClockRates_r30) C.catnaplaw6_ClockRates_c20)
def C.catnaplaw6_ClockRates_c21_w := @awpE _ _ C.catnaplaw6_ClockRates_c21.eq_1
def C.catnaplaw6_ClockRates_r29_b : List IOper := [
 X.m 149 7,
 X.m 150 13,
 X.m 151 13,
 X.o 152 (.len (X.s 151)),
 X.o 153 (.bin .sub (X.s 152) (X.i 2)),
 X.o 154 (.idxAddr 1 (X.s 150) (X.s 153)),
 X.o 155 (.load1 (X.s 154)),
 X.o 156 (.call F.clock_Tree_Rate [X.s 149, X.s 155]),
 X.m 14 156]
def C.catnaplaw6_ClockRates_r29 : List IOper := C.catnaplaw6_ClockRates_r29_b
def C.catnaplaw6_ClockRates_r29_w := @aopsE _ _ C.catnaplaw6_ClockRates_r29.eq_1
def C.catnaplaw6_ClockRates_c22 : ICode := .keep [1, 6, 7, 9, 11, 12, 13] (.seq (.region C.catnaplaw6_ClockRates_r29) C.catnaplaw6_ClockRates_c21)
def C.catnaplaw6_ClockRates_c22_w := @awpE _ _ C.catnaplaw6_ClockRates_c22.eq_1
def C.catnaplaw6_ClockRates_r28_b : List IOper := [
 X.o 4 (.move (.cst (.bool false)))]
def C.catnaplaw6_ClockRates_r28 : List IOper := C.catnaplaw6_ClockRates_r28_b
def C.catnaplaw6_ClockRates_r28_w := @aopsE _ _ C.catnaplaw6_ClockRates_r28.eq_1
def C.catnaplaw6_ClockRates_c23 : ICode := .seq (.region C.catnaplaw6_ClockRates_r28) .ret
def C.catnaplaw6_ClockRates_c23_w := @awpE _ _ C.catnaplaw6_ClockRates_c23.eq_1
def C.catnaplaw6_ClockRates_c24 : ICode := .keep [1, 6, 7, 9, 11, 148] (.cond (X.s 148) C.catnaplaw6_ClockRates_c23 .skip)
def C.catnaplaw6_ClockRates_c24_w := @awpE _ _ C.catnaplaw6_ClockRates_c24.eq_1
def C.catnaplaw6_ClockRates_r27_b : List IOper := [
 X.m 139 7,
 X.m 140 12,
 X.o 142 (.fldAddr 0 (X.s 6)),
 X.o 143 (.load1 (X.s 142)),
 X.m 144 12,
 X.o 145 (.idxAddr 6 (X.s 143) (X.s 144)),
 X.o 146 (.fldAddr 2 (X.s 145)),
 X.o 147 (.load1 (X.s 146)),
 ⟨some 141, .call F.clock_Tree_Rate [X.s 139, X.s 140], none, [⟨.load1 (X.s 142), 143, none⟩, ⟨.load1 (X.s 146), 147, none⟩], []⟩,
 X.o 148 (.bin .neq (X.s 141) (X.s 147))]
def C.catnaplaw6_ClockRates_r27 : List IOper := C.catnaplaw6_ClockRates_r27_b
def C.catnaplaw6_ClockRates_r27_w := @aopsE _ _ C.catnaplaw6_ClockRates_r27.eq_1
def C.catnaplaw6_ClockRates_c25 : ICode := .seq (.seq (.region C.catnaplaw6_ClockRates_r27) C.catnaplaw6_ClockRates_c24) (.exit 3)
def C.catnaplaw6_ClockRates_c25_w := @awpE _ _ C.catnaplaw6_ClockRates_c25.eq_1
def C.catnaplaw6_ClockRates_c26 : ICode := .keep [1, 6, 7, 9, 11, 12, 13, 138] (.cond (X.s 138) C.catnaplaw6_ClockRates_c25 .skip)
def C.catnaplaw6_ClockRates_c26_w := @awpE _ _ C.catnaplaw6_ClockRates_c26.eq_1
def C.catnaplaw6_ClockRates_r26_b : List IOper := [
 X.m 136 13,
 X.o 137 (.len (X.s 136)),
 X.o 138 (.bin .lss (X.s 137) (X.i 2))]
def C.catnaplaw6_ClockRates_r26 : List IOper := C.catnaplaw6_ClockRates_r26_b
def C.catnaplaw6_ClockRates_r26_w := @aopsE _ _ C.catnaplaw6_ClockRates_r26.eq_1
def C.catnaplaw6_ClockRates_c27 : ICode := .keep [1, 6, 7, 9, 11, 12, 13] (.seq (.seq (.region C.catnaplaw6_ClockRates_r26) C.catnaplaw6_ClockRates_c26) C.catnaplaw6_ClockRates_c22)
def C.catnaplaw6_ClockRates_c27_w := @awpE _ _ C.catnaplaw6_ClockRates_c27.eq_1
def C.catnaplaw6_ClockRates_r25_b : List IOper := [
 X.m 133 7,
 X.m 134 12,
 X.o 135 (.call F.clock_Tree_Chain [X.s 133, X.s 134]),
 X.m 13 135]
def C.catnaplaw6_ClockRates_r25 : List IOper := C.catnaplaw6_ClockRates_r25_b
def C.catnaplaw6_ClockRates_r25_w := @aopsE _ _ C.catnaplaw6_ClockRates_r25.eq_1
def C.catnaplaw6_ClockRates_c28 : ICode := .keep [1, 6, 7, 9, 11, 12] (.seq (.region C.catnaplaw6_ClockRates_r25) C.catnaplaw6_ClockRates_c27)
def C.catnaplaw6_ClockRates_c28_w := @awpE _ _ C.catnaplaw6_ClockRates_c28.eq_1
def C.catnaplaw6_ClockRates_r19_b : List IOper := [
 X.m 96 7,
 X.m 97 12,
 X.o 98 (.call F.clock_Tree_On [X.s 96, X.s 97, .cst (.bool true)])]
def C.catnaplaw6_ClockRates_r19 : List IOper := C.catnaplaw6_ClockRates_r19_b
def C.catnaplaw6_ClockRates_r19_w := @aopsE _ _ C.catnaplaw6_ClockRates_r19.eq_1
def C.catnaplaw6_ClockRates_r22_b : List IOper := [
 X.m 112 9,
 X.m 113 12,
 X.m 114 1,
 X.m 115 11,
 X.o 116 (.idxAddr 3 (X.s 114) (X.s 115)),
 X.o 117 (.fldAddr 2 (X.s 116)),
 X.o 118 (.load1 (X.s 117)),
 X.o 119 (.call F.catnaplaw6_pick [X.s 118, X.i 1000]),
 X.o 120 (.bin .add (X.i 1) (X.s 119)),
 X.o 121 (.idxAddr 1 (X.s 112) (X.s 113)),
 X.n (.store1 (X.s 121) (X.s 120))]
def C.catnaplaw6_ClockRates_r22 : List IOper := C.catnaplaw6_ClockRates_r22_b
def C.catnaplaw6_ClockRates_r22_w := @aopsE _ _ C.catnaplaw6_ClockRates_r22.eq_1
def C.catnaplaw6_ClockRates_c29 : ICode := .region C.catnaplaw6_ClockRates_r22
def C.catnaplaw6_ClockRates_c29_w := @awpE _ _ C.catnaplaw6_ClockRates_c29.eq_1
def C.catnaplaw6_ClockRates_c30 : ICode := .keep [1, 6, 7, 9, 11, 12, 111] (.cond (X.s 111) C.catnaplaw6_ClockRates_c29 .skip)
def C.catnaplaw6_ClockRates_c30_w := @awpE _ _ C.catnaplaw6_ClockRates_c30.eq_1
def C.catnaplaw6_ClockRates_r21_b : List IOper := [
 X.m 101 7,
 X.m 102 12,
 X.m 103 1,
 X.m 104 11,
 X.o 105 (.idxAddr 3 (X.s 103) (X.s 104)),
 X.o 106 (.fldAddr 2 (X.s 105)),
 X.o 107 (.load1 (X.s 106)),
 X.o 108 (.call F.catnaplaw6_pick [X.s 107, X.i 1000]),
 X.o 109 (.bin .add (X.i 1) (X.s 108)),
 X.o 110 (.call F.clock_Tree_Divide [X.s 101, X.s 102, X.s 109]),
 X.o 111 (.bin .eql (X.s 110) (X.i 0))]
def C.catnaplaw6_ClockRates_r21 : List IOper := C.catnaplaw6_ClockRates_r21_b
def C.catnaplaw6_ClockRates_r21_w := @aopsE _ _ C.catnaplaw6_ClockRates_r21.eq_1
def C.catnaplaw6_ClockRates_r24_b : List IOper := [
 X.m 124 7,
 X.m 125 12,
 X.m 126 1,
 X.m 127 11,
 X.o 128 (.idxAddr 3 (X.s 126) (X.s 127)),
 X.o 129 (.fldAddr 2 (X.s 128)),
 X.o 130 (.load1 (X.s 129)),
 X.o 131 (.call F.catnaplaw6_pick [X.s 130, X.i 2]),
 X.o 132 (.call F.clock_Tree_Select [X.s 124, X.s 125, X.s 131])]
def C.catnaplaw6_ClockRates_r24 : List IOper := C.catnaplaw6_ClockRates_r24_b
def C.catnaplaw6_ClockRates_r24_w := @aopsE _ _ C.catnaplaw6_ClockRates_r24.eq_1
def C.catnaplaw6_ClockRates_r16_b : List IOper := [
 X.m 91 7,
 X.o 92 (.call F.clock_Tree_Tick [X.s 91])]
def C.catnaplaw6_ClockRates_r16 : List IOper := C.catnaplaw6_ClockRates_r16_b
def C.catnaplaw6_ClockRates_r16_w := @aopsE _ _ C.catnaplaw6_ClockRates_r16.eq_1
def C.catnaplaw6_ClockRates_c31 : ICode := .region C.catnaplaw6_ClockRates_r24
def C.catnaplaw6_ClockRates_c31_w := @awpE _ _ C.catnaplaw6_ClockRates_c31.eq_1
def C.catnaplaw6_ClockRates_c32 : ICode := .region C.catnaplaw6_ClockRates_r16
def C.catnaplaw6_ClockRates_c32_w := @awpE _ _ C.catnaplaw6_ClockRates_c32.eq_1
def C.catnaplaw6_ClockRates_c33 : ICode := .keep [1, 6, 7, 9, 11, 12, 122] (.cond (X.s 122) C.catnaplaw6_ClockRates_c31 C.catnaplaw6_ClockRates_c32)
def C.catnaplaw6_ClockRates_c33_w := @awpE _ _ C.catnaplaw6_ClockRates_c33.eq_1
def C.catnaplaw6_ClockRates_r23_b : List IOper := [
 X.o 123 (.bin .eql (X.s 90) (X.i 3)),
 X.m 122 123]
def C.catnaplaw6_ClockRates_r23 : List IOper := C.catnaplaw6_ClockRates_r23_b
def C.catnaplaw6_ClockRates_r23_w := @aopsE _ _ C.catnaplaw6_ClockRates_r23.eq_1
def C.catnaplaw6_ClockRates_c34 : ICode := .seq (.region C.catnaplaw6_ClockRates_r21) C.catnaplaw6_ClockRates_c30
def C.catnaplaw6_ClockRates_c34_w := @awpE _ _ C.catnaplaw6_ClockRates_c34.eq_1
def C.catnaplaw6_ClockRates_c35 : ICode := .seq (.region C.catnaplaw6_ClockRates_r23) C.catnaplaw6_ClockRates_c33
def C.catnaplaw6_ClockRates_c35_w := @awpE _ _ C.catnaplaw6_ClockRates_c35.eq_1
def C.catnaplaw6_ClockRates_c36 : ICode := .keep [1, 6, 7, 9, 11, 12, 90, 99] (.cond (X.s 99) C.catnaplaw6_ClockRates_c34 C.catnaplaw6_ClockRates_c35)
def C.catnaplaw6_ClockRates_c36_w := @awpE _ _ C.catnaplaw6_ClockRates_c36.eq_1
def C.catnaplaw6_ClockRates_r20_b : List IOper := [
 X.o 100 (.bin .eql (X.s 90) (X.i 2)),
 X.m 99 100]
def C.catnaplaw6_ClockRates_r20 : List IOper := C.catnaplaw6_ClockRates_r20_b
def C.catnaplaw6_ClockRates_r20_w := @aopsE _ _ C.catnaplaw6_ClockRates_r20.eq_1
def C.catnaplaw6_ClockRates_c37 : ICode := .region C.catnaplaw6_ClockRates_r19
def C.catnaplaw6_ClockRates_c37_w := @awpE _ _ C.catnaplaw6_ClockRates_c37.eq_1
def C.catnaplaw6_ClockRates_c38 : ICode := .seq (.region C.catnaplaw6_ClockRates_r20) C.catnaplaw6_ClockRates_c36
def C.catnaplaw6_ClockRates_c38_w := @awpE _ _ C.catnaplaw6_ClockRates_c38.eq_1
def C.catnaplaw6_ClockRates_c39 : ICode := .keep [1, 6, 7, 9, 11, 12, 90, 93] (.cond (X.s 93) C.catnaplaw6_ClockRates_c37 C.catnaplaw6_ClockRates_c38)
def C.catnaplaw6_ClockRates_c39_w := @awpE _ _ C.catnaplaw6_ClockRates_c39.eq_1
def C.catnaplaw6_ClockRates_r18_b : List IOper := [
 X.o 95 (.bin .eql (X.s 90) (X.i 1)),
 X.m 93 95]
def C.catnaplaw6_ClockRates_r18 : List IOper := C.catnaplaw6_ClockRates_r18_b
def C.catnaplaw6_ClockRates_r18_w := @aopsE _ _ C.catnaplaw6_ClockRates_r18.eq_1
def C.catnaplaw6_ClockRates_c40 : ICode := .region C.catnaplaw6_ClockRates_r18
def C.catnaplaw6_ClockRates_c40_w := @awpE _ _ C.catnaplaw6_ClockRates_c40.eq_1
def C.catnaplaw6_ClockRates_c41 : ICode := .keep [1, 6, 7, 9, 11, 12, 90, 93] (.cond (X.s 93) .skip C.catnaplaw6_ClockRates_c40)
def C.catnaplaw6_ClockRates_c41_w := @awpE _ _ C.catnaplaw6_ClockRates_c41.eq_1
def C.catnaplaw6_ClockRates_r17_b : List IOper := [
 X.o 94 (.bin .eql (X.s 90) (X.i 0)),
 X.m 93 94]
def C.catnaplaw6_ClockRates_r17 : List IOper := C.catnaplaw6_ClockRates_r17_b
def C.catnaplaw6_ClockRates_r17_w := @aopsE _ _ C.catnaplaw6_ClockRates_r17.eq_1
def C.catnaplaw6_ClockRates_b42 : ICode := .seq (.seq (.region C.catnaplaw6_ClockRates_r17) C.catnaplaw6_ClockRates_c41) C.catnaplaw6_ClockRates_c39
def C.catnaplaw6_ClockRates_b42_w := @awpE _ _ C.catnaplaw6_ClockRates_b42.eq_1
def C.catnaplaw6_ClockRates_c43 : ICode := .keep [1, 6, 7, 9, 11, 12, 90] (.block 4 C.catnaplaw6_ClockRates_b42)
def C.catnaplaw6_ClockRates_c43_w := @awpE _ _ C.catnaplaw6_ClockRates_c43.eq_1
def C.catnaplaw6_ClockRates_r15_b : List IOper := [
 X.m 85 1,
 X.m 86 11,
 X.o 87 (.idxAddr 3 (X.s 85) (X.s 86)),
 X.o 88 (.fldAddr 0 (X.s 87)),
 X.o 89 (.load1 (X.s 88)),
 X.o 90 (.call F.catnaplaw6_pick [X.s 89, X.i 5])]
def C.catnaplaw6_ClockRates_r15 : List IOper := C.catnaplaw6_ClockRates_r15_b
def C.catnaplaw6_ClockRates_r15_w := @aopsE _ _ C.catnaplaw6_ClockRates_r15.eq_1
def C.catnaplaw6_ClockRates_c44 : ICode := .keep [1, 6, 7, 9, 11, 12] (.seq (.seq (.region C.catnaplaw6_ClockRates_r15) C.catnaplaw6_ClockRates_c43) C.catnaplaw6_ClockRates_c28)
def C.catnaplaw6_ClockRates_c44_w := @awpE _ _ C.catnaplaw6_ClockRates_c44.eq_1
def C.catnaplaw6_ClockRates_r14_b : List IOper := [
 X.m 76 1,
 X.m 77 11,
 X.o 78 (.idxAddr 3 (X.s 76) (X.s 77)),
 X.o 79 (.fldAddr 1 (X.s 78)),
 X.o 80 (.load1 (X.s 79)),
 X.o 81 (.fldAddr 0 (X.s 6)),
 X.o 82 (.load1 (X.s 81)),
 X.o 83 (.len (X.s 82)),
 X.o 84 (.call F.catnaplaw6_pick [X.s 80, X.s 83]),
 X.m 12 84]
def C.catnaplaw6_ClockRates_r14 : List IOper := C.catnaplaw6_ClockRates_r14_b
def C.catnaplaw6_ClockRates_r14_w := @aopsE _ _ C.catnaplaw6_ClockRates_r14.eq_1
def C.catnaplaw6_ClockRates_b45 : ICode := .seq (.region C.catnaplaw6_ClockRates_r14) C.catnaplaw6_ClockRates_c44
def C.catnaplaw6_ClockRates_b45_w := @awpE _ _ C.catnaplaw6_ClockRates_b45.eq_1
def C.catnaplaw6_ClockRates_c46 : ICode := .keep [1, 6, 7, 9, 11] (.seq (.block 3 C.catnaplaw6_ClockRates_b45) C.catnaplaw6_ClockRates_c2)
def C.catnaplaw6_ClockRates_c46_w := @awpE _ _ C.catnaplaw6_ClockRates_c46.eq_1
def C.catnaplaw6_ClockRates_c47 : ICode := .keep [1, 6, 7, 9, 11, 73] (.cond (X.s 73) .skip (.exit 2))
def C.catnaplaw6_ClockRates_c47_w := @awpE _ _ C.catnaplaw6_ClockRates_c47.eq_1
def C.catnaplaw6_ClockRates_r12_b : List IOper := [
 X.m 70 11,
 X.m 71 1,
 X.o 72 (.len (X.s 71)),
 X.o 73 (.bin .lss (X.s 70) (X.s 72))]
def C.catnaplaw6_ClockRates_r12 : List IOper := C.catnaplaw6_ClockRates_r12_b
def C.catnaplaw6_ClockRates_r12_w := @aopsE _ _ C.catnaplaw6_ClockRates_r12.eq_1
def C.catnaplaw6_ClockRates_l48 : ICode := .keep [1, 6, 7, 9, 11] (.seq (.seq (.region C.catnaplaw6_ClockRates_r12) C.catnaplaw6_ClockRates_c47) C.catnaplaw6_ClockRates_c46)
def C.catnaplaw6_ClockRates_l48_w := @awpE _ _ C.catnaplaw6_ClockRates_l48.eq_1
def C.catnaplaw6_ClockRates_b49 : ICode := .loop C.catnaplaw6_ClockRates_l48
def C.catnaplaw6_ClockRates_b49_w := @awpE _ _ C.catnaplaw6_ClockRates_b49.eq_1
def C.catnaplaw6_ClockRates_c50 : ICode := .keep [1, 6, 7, 9, 11] (.block 2 C.catnaplaw6_ClockRates_b49)
def C.catnaplaw6_ClockRates_c50_w := @awpE _ _ C.catnaplaw6_ClockRates_c50.eq_1
def C.catnaplaw6_ClockRates_r11_b : List IOper := [
 X.o 11 (.move (X.i 0))]
def C.catnaplaw6_ClockRates_r11 : List IOper := C.catnaplaw6_ClockRates_r11_b
def C.catnaplaw6_ClockRates_r11_w := @aopsE _ _ C.catnaplaw6_ClockRates_r11.eq_1
def C.catnaplaw6_ClockRates_c51 : ICode := .keep [1, 6, 7, 9] (.seq (.seq (.region C.catnaplaw6_ClockRates_r11) C.catnaplaw6_ClockRates_c50) C.catnaplaw6_ClockRates_c1)
def C.catnaplaw6_ClockRates_c51_w := @awpE _ _ C.catnaplaw6_ClockRates_c51.eq_1
def C.catnaplaw6_ClockRates_r9_b : List IOper := [
 X.m 59 10,
 X.o 60 (.bin .add (X.s 59) (X.i 1)),
 X.m 10 60]
def C.catnaplaw6_ClockRates_r9 : List IOper := C.catnaplaw6_ClockRates_r9_b
def C.catnaplaw6_ClockRates_r9_w := @aopsE _ _ C.catnaplaw6_ClockRates_r9.eq_1
def C.catnaplaw6_ClockRates_c52 : ICode := .keep [1, 6, 7, 9, 10] (.region C.catnaplaw6_ClockRates_r9)
def C.catnaplaw6_ClockRates_c52_w := @awpE _ _ C.catnaplaw6_ClockRates_c52.eq_1
def C.catnaplaw6_ClockRates_r10_b : List IOper := [
 X.m 61 9,
 X.m 62 10,
 X.o 63 (.fldAddr 0 (X.s 6)),
 X.o 64 (.load1 (X.s 63)),
 X.m 65 10,
 X.o 66 (.idxAddr 6 (X.s 64) (X.s 65)),
 X.o 67 (.fldAddr 4 (X.s 66)),
 X.o 68 (.load1 (X.s 67)),
 X.o 69 (.idxAddr 1 (X.s 61) (X.s 62)),
 X.n (.store1 (X.s 69) (X.s 68))]
def C.catnaplaw6_ClockRates_r10 : List IOper := C.catnaplaw6_ClockRates_r10_b
def C.catnaplaw6_ClockRates_r10_w := @aopsE _ _ C.catnaplaw6_ClockRates_r10.eq_1
def C.catnaplaw6_ClockRates_b53 : ICode := .region C.catnaplaw6_ClockRates_r10
def C.catnaplaw6_ClockRates_b53_w := @awpE _ _ C.catnaplaw6_ClockRates_b53.eq_1
def C.catnaplaw6_ClockRates_c54 : ICode := .keep [1, 6, 7, 9, 10] (.seq (.block 1 C.catnaplaw6_ClockRates_b53) C.catnaplaw6_ClockRates_c52)
def C.catnaplaw6_ClockRates_c54_w := @awpE _ _ C.catnaplaw6_ClockRates_c54.eq_1
def C.catnaplaw6_ClockRates_c55 : ICode := .keep [1, 6, 7, 9, 10, 58] (.cond (X.s 58) .skip (.exit 0))
def C.catnaplaw6_ClockRates_c55_w := @awpE _ _ C.catnaplaw6_ClockRates_c55.eq_1
def C.catnaplaw6_ClockRates_r8_b : List IOper := [
 X.m 54 10,
 X.o 55 (.fldAddr 0 (X.s 6)),
 X.o 56 (.load1 (X.s 55)),
 X.o 57 (.len (X.s 56)),
 X.o 58 (.bin .lss (X.s 54) (X.s 57))]
def C.catnaplaw6_ClockRates_r8 : List IOper := C.catnaplaw6_ClockRates_r8_b
def C.catnaplaw6_ClockRates_r8_w := @aopsE _ _ C.catnaplaw6_ClockRates_r8.eq_1
def C.catnaplaw6_ClockRates_l56 : ICode := .keep [1, 6, 7, 9, 10] (.seq (.seq (.region C.catnaplaw6_ClockRates_r8) C.catnaplaw6_ClockRates_c55) C.catnaplaw6_ClockRates_c54)
def C.catnaplaw6_ClockRates_l56_w := @awpE _ _ C.catnaplaw6_ClockRates_l56.eq_1
def C.catnaplaw6_ClockRates_b57 : ICode := .loop C.catnaplaw6_ClockRates_l56
def C.catnaplaw6_ClockRates_b57_w := @awpE _ _ C.catnaplaw6_ClockRates_b57.eq_1
def C.catnaplaw6_ClockRates_c58 : ICode := .keep [1, 6, 7, 9, 10] (.block 0 C.catnaplaw6_ClockRates_b57)
def C.catnaplaw6_ClockRates_c58_w := @awpE _ _ C.catnaplaw6_ClockRates_c58.eq_1
def C.catnaplaw6_ClockRates_r7_b : List IOper := [
 X.o 10 (.move (X.i 0))]
def C.catnaplaw6_ClockRates_r7 : List IOper := C.catnaplaw6_ClockRates_r7_b
def C.catnaplaw6_ClockRates_r7_w := @aopsE _ _ C.catnaplaw6_ClockRates_r7.eq_1
def C.catnaplaw6_ClockRates_c59 : ICode := .keep [1, 6, 7, 9] (.seq (.seq (.region C.catnaplaw6_ClockRates_r7) C.catnaplaw6_ClockRates_c58) C.catnaplaw6_ClockRates_c51)
def C.catnaplaw6_ClockRates_c59_w := @awpE _ _ C.catnaplaw6_ClockRates_c59.eq_1
def C.catnaplaw6_ClockRates_r6_b : List IOper := [
 X.o 50 (.fldAddr 0 (X.s 6)),
 X.o 51 (.load1 (X.s 50)),
 X.o 52 (.len (X.s 51)),
 X.o 53 (.makeSlice 1 8 [.int .i64 0] (X.s 52) (X.s 52)),
 X.m 9 53]
def C.catnaplaw6_ClockRates_r6 : List IOper := C.catnaplaw6_ClockRates_r6_b
def C.catnaplaw6_ClockRates_r6_w := @aopsE _ _ C.catnaplaw6_ClockRates_r6.eq_1
def C.catnaplaw6_ClockRates_c60 : ICode := .keep [1, 6, 7] (.seq (.region C.catnaplaw6_ClockRates_r6) C.catnaplaw6_ClockRates_c59)
def C.catnaplaw6_ClockRates_c60_w := @awpE _ _ C.catnaplaw6_ClockRates_c60.eq_1
def C.catnaplaw6_ClockRates_r5_b : List IOper := [
 X.m 41 5,
 X.m 42 41,
 X.t 42 43 (.move (X.s 7)),
 X.t 42 44 (.eqP 0 true (X.s 43) (.cst (.nilp))),
 X.o 45 (.pick (X.s 42) (X.s 44) (.cst (.bool false))),
 X.m 46 45,
 X.t 46 47 (.move (X.s 8)),
 X.t 46 48 (.bin .eql (X.s 47) (X.i 0)),
 X.o 49 (.pick (X.s 46) (X.s 48) (.cst (.bool false))),
 X.m 4 49]
def C.catnaplaw6_ClockRates_r5 : List IOper := C.catnaplaw6_ClockRates_r5_b
def C.catnaplaw6_ClockRates_r5_w := @aopsE _ _ C.catnaplaw6_ClockRates_r5.eq_1
def C.catnaplaw6_ClockRates_c61 : ICode := .seq (.region C.catnaplaw6_ClockRates_r5) .ret
def C.catnaplaw6_ClockRates_c61_w := @awpE _ _ C.catnaplaw6_ClockRates_c61.eq_1
def C.catnaplaw6_ClockRates_c62 : ICode := .keep [1, 5, 6, 7, 8, 40] (.cond (X.s 40) C.catnaplaw6_ClockRates_c61 .skip)
def C.catnaplaw6_ClockRates_c62_w := @awpE _ _ C.catnaplaw6_ClockRates_c62.eq_1
def C.catnaplaw6_ClockRates_r4_b : List IOper := [
 X.m 26 5,
 X.o 27 (.un .not (X.s 26)),
 X.m 28 27,
 X.f 28 29 (.move (X.s 7)),
 X.f 28 30 (.eqP 0 false (X.s 29) (.cst (.nilp))),
 X.o 31 (.pick (X.s 28) (.cst (.bool true)) (X.s 30)),
 X.m 32 31,
 X.f 32 33 (.move (X.s 8)),
 X.f 32 34 (.bin .neq (X.s 33) (X.i 0)),
 X.o 35 (.pick (X.s 32) (.cst (.bool true)) (X.s 34)),
 X.m 36 35,
 X.f 36 37 (.move (X.s 1)),
 X.f 36 38 (.len (X.s 37)),
 X.f 36 39 (.bin .gtr (X.s 38) (X.i 80)),
 X.o 40 (.pick (X.s 36) (.cst (.bool true)) (X.s 39))]
def C.catnaplaw6_ClockRates_r4 : List IOper := C.catnaplaw6_ClockRates_r4_b
def C.catnaplaw6_ClockRates_r4_w := @aopsE _ _ C.catnaplaw6_ClockRates_r4.eq_1
def C.catnaplaw6_ClockRates_c63 : ICode := .keep [1, 5, 6, 7, 8] (.seq (.seq (.region C.catnaplaw6_ClockRates_r4) C.catnaplaw6_ClockRates_c62) C.catnaplaw6_ClockRates_c60)
def C.catnaplaw6_ClockRates_c63_w := @awpE _ _ C.catnaplaw6_ClockRates_c63.eq_1
def C.catnaplaw6_ClockRates_r3_b : List IOper := [
 X.o 22 (.loadN 4 (X.s 6)),
 X.o 23 (.call F.clock_New [X.s 22]),
 X.m 21 23,
 X.o 24 (.extract (X.s 21) 0),
 X.o 25 (.extract (X.s 21) 1),
 X.m 7 24,
 X.m 8 25]
def C.catnaplaw6_ClockRates_r3 : List IOper := C.catnaplaw6_ClockRates_r3_b
def C.catnaplaw6_ClockRates_r3_w := @aopsE _ _ C.catnaplaw6_ClockRates_r3.eq_1
def C.catnaplaw6_ClockRates_c64 : ICode := .keep [1, 5, 6] (.seq (.region C.catnaplaw6_ClockRates_r3) C.catnaplaw6_ClockRates_c63)
def C.catnaplaw6_ClockRates_c64_w := @awpE _ _ C.catnaplaw6_ClockRates_c64.eq_1
def C.catnaplaw6_ClockRates_r2_b : List IOper := [
 X.m 19 0,
 X.o 20 (.call F.catnaplaw6_chip [X.s 19]),
 X.o 6 (.alloc [.nils, .nils, .nils, .nils]),
 X.n (.storeN 4 (X.s 6) (X.s 20))]
def C.catnaplaw6_ClockRates_r2 : List IOper := C.catnaplaw6_ClockRates_r2_b
def C.catnaplaw6_ClockRates_r2_w := @aopsE _ _ C.catnaplaw6_ClockRates_r2.eq_1
def C.catnaplaw6_ClockRates_c65 : ICode := .keep [0, 1, 5] (.seq (.region C.catnaplaw6_ClockRates_r2) C.catnaplaw6_ClockRates_c64)
def C.catnaplaw6_ClockRates_c65_w := @awpE _ _ C.catnaplaw6_ClockRates_c65.eq_1
def C.catnaplaw6_ClockRates_r1_b : List IOper := [
 X.o 18 (.call F.catnaplaw6_shown []),
 X.m 5 18]
def C.catnaplaw6_ClockRates_r1 : List IOper := C.catnaplaw6_ClockRates_r1_b
def C.catnaplaw6_ClockRates_r1_w := @aopsE _ _ C.catnaplaw6_ClockRates_r1.eq_1
def C.catnaplaw6_ClockRates_c66 : ICode := .keep [0, 1] (.seq (.region C.catnaplaw6_ClockRates_r1) C.catnaplaw6_ClockRates_c65)
def C.catnaplaw6_ClockRates_c66_w := @awpE _ _ C.catnaplaw6_ClockRates_c66.eq_1
def C.catnaplaw6_ClockRates_r0_b : List IOper := [
 X.o 4 (.move (.cst (.bool false)))]
def C.catnaplaw6_ClockRates_r0 : List IOper := C.catnaplaw6_ClockRates_r0_b
def C.catnaplaw6_ClockRates_r0_w := @aopsE _ _ C.catnaplaw6_ClockRates_r0.eq_1
def C.catnaplaw6_ClockRates : IFunc := ⟨2, [.slot 4], .seq (.region C.catnaplaw6_ClockRates_r0) C.catnaplaw6_ClockRates_c66⟩
def C.catnaplaw6_ClockRates_W := And.intro (And.intro (And.intro (And.intro (And.intro (And.intro @C.catnaplaw6_ClockRates_r43_w (And.intro @C.catnaplaw6_ClockRates_c1_w @C.catnaplaw6_ClockRates_r13_w)) (And.intro @C.catnaplaw6_ClockRates_c2_w (And.intro @C.catnaplaw6_ClockRates_r42_w @C.catnaplaw6_ClockRates_c3_w))) (And.intro (And.intro @C.catnaplaw6_ClockRates_c4_w (And.intro @C.catnaplaw6_ClockRates_r41_w @C.catnaplaw6_ClockRates_c5_w)) (And.intro (And.intro @C.catnaplaw6_ClockRates_r40_w @C.catnaplaw6_ClockRates_c6_w) (And.intro @C.catnaplaw6_ClockRates_c7_w @C.catnaplaw6_ClockRates_r39_w)))) (And.intro (And.intro (And.intro @C.catnaplaw6_ClockRates_c8_w (And.intro @C.catnaplaw6_ClockRates_r33_w @C.catnaplaw6_ClockRates_r38_w)) (And.intro (And.intro @C.catnaplaw6_ClockRates_c9_w @C.catnaplaw6_ClockRates_c10_w) (And.intro @C.catnaplaw6_ClockRates_r37_w @C.catnaplaw6_ClockRates_c11_w))) (And.intro (And.intro @C.catnaplaw6_ClockRates_r36_w (And.intro @C.catnaplaw6_ClockRates_c12_w @C.catnaplaw6_ClockRates_r35_w)) (And.intro (And.intro @C.catnaplaw6_ClockRates_c13_w @C.catnaplaw6_ClockRates_c14_w) (And.intro @C.catnaplaw6_ClockRates_r34_w @C.catnaplaw6_ClockRates_c15_w))))) (And.intro (And.intro (And.intro (And.intro @C.catnaplaw6_ClockRates_c16_w (And.intro @C.catnaplaw6_ClockRates_c17_w @C.catnaplaw6_ClockRates_r32_w)) (And.intro @C.catnaplaw6_ClockRates_b18_w (And.intro @C.catnaplaw6_ClockRates_c19_w @C.catnaplaw6_ClockRates_r31_w))) (And.intro (And.intro @C.catnaplaw6_ClockRates_c20_w (And.intro @C.catnaplaw6_ClockRates_r30_w @C.catnaplaw6_ClockRates_c21_w)) (And.intro (And.intro @C.catnaplaw6_ClockRates_r29_w @C.catnaplaw6_ClockRates_c22_w) (And.intro @C.catnaplaw6_ClockRates_r28_w @C.catnaplaw6_ClockRates_c23_w)))) (And.intro (And.intro (And.intro @C.catnaplaw6_ClockRates_c24_w (And.intro @C.catnaplaw6_ClockRates_r27_w @C.catnaplaw6_ClockRates_c25_w)) (And.intro (And.intro @C.catnaplaw6_ClockRates_c26_w @C.catnaplaw6_ClockRates_r26_w) (And.intro @C.catnaplaw6_ClockRates_c27_w @C.catnaplaw6_ClockRates_r25_w))) (And.intro (And.intro @C.catnaplaw6_ClockRates_c28_w (And.intro @C.catnaplaw6_ClockRates_r19_w @C.catnaplaw6_ClockRates_r22_w)) (And.intro (And.intro @C.catnaplaw6_ClockRates_c29_w @C.catnaplaw6_ClockRates_c30_w) (And.intro @C.catnaplaw6_ClockRates_r21_w @C.catnaplaw6_ClockRates_r24_w)))))) (And.intro (And.intro (And.intro (And.intro (And.intro @C.catnaplaw6_ClockRates_r16_w (And.intro @C.catnaplaw6_ClockRates_c31_w @C.catnaplaw6_ClockRates_c32_w)) (And.intro @C.catnaplaw6_ClockRates_c33_w (And.intro @C.catnaplaw6_ClockRates_r23_w @C.catnaplaw6_ClockRates_c34_w))) (And.intro (And.intro @C.catnaplaw6_ClockRates_c35_w (And.intro @C.catnaplaw6_ClockRates_c36_w @C.catnaplaw6_ClockRates_r20_w)) (And.intro (And.intro @C.catnaplaw6_ClockRates_c37_w @C.catnaplaw6_ClockRates_c38_w) (And.intro @C.catnaplaw6_ClockRates_c39_w @C.catnaplaw6_ClockRates_r18_w)))) (And.intro (And.intro (And.intro @C.catnaplaw6_ClockRates_c40_w (And.intro @C.catnaplaw6_ClockRates_c41_w @C.catnaplaw6_ClockRates_r17_w)) (And.intro (And.intro @C.catnaplaw6_ClockRates_b42_w @C.catnaplaw6_ClockRates_c43_w) (And.intro @C.catnaplaw6_ClockRates_r15_w @C.catnaplaw6_ClockRates_c44_w))) (And.intro (And.intro @C.catnaplaw6_ClockRates_r14_w (And.intro @C.catnaplaw6_ClockRates_b45_w @C.catnaplaw6_ClockRates_c46_w)) (And.intro (And.intro @C.catnaplaw6_ClockRates_c47_w @C.catnaplaw6_ClockRates_r12_w) (And.intro @C.catnaplaw6_ClockRates_b49_w @C.catnaplaw6_ClockRates_c50_w))))) (And.intro (And.intro (And.intro (And.intro @C.catnaplaw6_ClockRates_r11_w (And.intro @C.catnaplaw6_ClockRates_c51_w @C.catnaplaw6_ClockRates_r9_w)) (And.intro @C.catnaplaw6_ClockRates_c52_w (And.intro @C.catnaplaw6_ClockRates_r10_w @C.catnaplaw6_ClockRates_b53_w))) (And.intro (And.intro @C.catnaplaw6_ClockRates_c54_w (And.intro @C.catnaplaw6_ClockRates_c55_w @C.catnaplaw6_ClockRates_r8_w)) (And.intro (And.intro @C.catnaplaw6_ClockRates_b57_w @C.catnaplaw6_ClockRates_c58_w) (And.intro @C.catnaplaw6_ClockRates_r7_w @C.catnaplaw6_ClockRates_c59_w)))) (And.intro (And.intro (And.intro @C.catnaplaw6_ClockRates_r6_w (And.intro @C.catnaplaw6_ClockRates_c60_w @C.catnaplaw6_ClockRates_r5_w)) (And.intro (And.intro @C.catnaplaw6_ClockRates_c61_w @C.catnaplaw6_ClockRates_c62_w) (And.intro @C.catnaplaw6_ClockRates_r4_w @C.catnaplaw6_ClockRates_c63_w))) (And.intro (And.intro @C.catnaplaw6_ClockRates_r3_w (And.intro @C.catnaplaw6_ClockRates_c64_w @C.catnaplaw6_ClockRates_r2_w)) (And.intro (And.intro @C.catnaplaw6_ClockRates_c65_w @C.catnaplaw6_ClockRates_r1_w) (And.intro @C.catnaplaw6_ClockRates_c66_w @C.catnaplaw6_ClockRates_r0_w))))))
def C.catnaplaw6_ClockRates_B := And.intro (And.intro (And.intro (And.intro (And.intro @C.catnaplaw6_ClockRates_r43_b.eq_1 @C.catnaplaw6_ClockRates_r13_b.eq_1) (And.intro @C.catnaplaw6_ClockRates_r42_b.eq_1 (And.intro @C.catnaplaw6_ClockRates_r41_b.eq_1 @C.catnaplaw6_ClockRates_r40_b.eq_1))) (And.intro (And.intro @C.catnaplaw6_ClockRates_r39_b.eq_1 (And.intro @C.catnaplaw6_ClockRates_r33_b.eq_1 @C.catnaplaw6_ClockRates_r38_b.eq_1)) (And.intro @C.catnaplaw6_ClockRates_r37_b.eq_1 (And.intro @C.catnaplaw6_ClockRates_r36_b.eq_1 @C.catnaplaw6_ClockRates_r35_b.eq_1)))) (And.intro (And.intro (And.intro @C.catnaplaw6_ClockRates_r34_b.eq_1 @C.catnaplaw6_ClockRates_r32_b.eq_1) (And.intro @C.catnaplaw6_ClockRates_r31_b.eq_1 (And.intro @C.catnaplaw6_ClockRates_r30_b.eq_1 @C.catnaplaw6_ClockRates_r29_b.eq_1))) (And.intro (And.intro @C.catnaplaw6_ClockRates_r28_b.eq_1 (And.intro @C.catnaplaw6_ClockRates_r27_b.eq_1 @C.catnaplaw6_ClockRates_r26_b.eq_1)) (And.intro @C.catnaplaw6_ClockRates_r25_b.eq_1 (And.intro @C.catnaplaw6_ClockRates_r19_b.eq_1 @C.catnaplaw6_ClockRates_r22_b.eq_1))))) (And.intro (And.intro (And.intro (And.intro @C.catnaplaw6_ClockRates_r21_b.eq_1 @C.catnaplaw6_ClockRates_r24_b.eq_1) (And.intro @C.catnaplaw6_ClockRates_r16_b.eq_1 (And.intro @C.catnaplaw6_ClockRates_r23_b.eq_1 @C.catnaplaw6_ClockRates_r20_b.eq_1))) (And.intro (And.intro @C.catnaplaw6_ClockRates_r18_b.eq_1 (And.intro @C.catnaplaw6_ClockRates_r17_b.eq_1 @C.catnaplaw6_ClockRates_r15_b.eq_1)) (And.intro @C.catnaplaw6_ClockRates_r14_b.eq_1 (And.intro @C.catnaplaw6_ClockRates_r12_b.eq_1 @C.catnaplaw6_ClockRates_r11_b.eq_1)))) (And.intro (And.intro (And.intro @C.catnaplaw6_ClockRates_r9_b.eq_1 @C.catnaplaw6_ClockRates_r10_b.eq_1) (And.intro @C.catnaplaw6_ClockRates_r8_b.eq_1 (And.intro @C.catnaplaw6_ClockRates_r7_b.eq_1 @C.catnaplaw6_ClockRates_r6_b.eq_1))) (And.intro (And.intro @C.catnaplaw6_ClockRates_r5_b.eq_1 (And.intro @C.catnaplaw6_ClockRates_r4_b.eq_1 @C.catnaplaw6_ClockRates_r3_b.eq_1)) (And.intro @C.catnaplaw6_ClockRates_r2_b.eq_1 (And.intro @C.catnaplaw6_ClockRates_r1_b.eq_1 @C.catnaplaw6_ClockRates_r0_b.eq_1)))))

def C.catnaplaw6_shown_r2_b : List IOper := [
 X.m 12 1,
 X.o 13 (.eqP 0 true (X.s 12) (.cst (.nilp))),
 X.m 14 13,
 X.t 14 15 (.move (X.s 2)),
 X.t 14 16 (.bin .eql (X.s 15) (X.i 0)),
 X.o 17 (.pick (X.s 14) (X.s 16) (.cst (.bool false))),
 X.m 18 17,
 X.t 18 19 (.move (X.s 1)),
 X.t 18 20 (.call F.clock_Tree_Running [X.s 19, X.i 1]),
 X.t 18 21 (.un .not (X.s 20)),
 X.o 22 (.pick (X.s 18) (X.s 21) (.cst (.bool false))),
 X.m 23 22,
 X.t 23 24 (.move (X.s 1)),
 X.t 23 25 (.call F.clock_Tree_On [X.s 24, X.i 1, .cst (.bool true)]),
 X.t 23 26 (.bin .eql (X.s 25) (X.i 0)),
 X.o 27 (.pick (X.s 23) (X.s 26) (.cst (.bool false))),
 X.m 28 27,
 X.t 28 29 (.move (X.s 1)),
 X.t 28 30 (.call F.clock_Tree_Running [X.s 29, X.i 1]),
 X.o 31 (.pick (X.s 28) (X.s 30) (.cst (.bool false))),
 X.m 32 31,
 X.t 32 33 (.move (X.s 1)),
 X.t 32 34 (.call F.clock_Tree_Rate [X.s 33, X.i 1]),
 X.t 32 35 (.bin .eql (X.s 34) (.cst (.int .u64 7))),
 X.o 36 (.pick (X.s 32) (X.s 35) (.cst (.bool false))),
 X.m 0 36]
def C.catnaplaw6_shown_r2 : List IOper := C.catnaplaw6_shown_r2_b
def C.catnaplaw6_shown_r2_w := @aopsE _ _ C.catnaplaw6_shown_r2.eq_1
def C.catnaplaw6_shown_c1 : ICode := .keep [1, 2] (.seq (.region C.catnaplaw6_shown_r2) .ret)
def C.catnaplaw6_shown_c1_w := @awpE _ _ C.catnaplaw6_shown_c1.eq_1
def C.catnaplaw6_shown_r1_b : List IOper := [
 X.o 4 (.build [.int .u8 0, .nils, .int .u64 0, .int .i64 0, .int .i64 0, .int .i64 0] [(0, 1, .cst (.int .u8 111)), (2, 1, .cst (.int .u64 7))]),
 X.o 5 (.buildSlice 1 1 [.int .i64 0] [(0, 1, X.i 0)]),
 X.o 6 (.build [.int .u8 0, .nils, .int .u64 0, .int .i64 0, .int .i64 0, .int .i64 0] [(0, 1, .cst (.int .u8 103)), (1, 1, X.s 5)]),
 X.o 7 (.buildSlice 6 2 [.int .u8 0, .nils, .int .u64 0, .int .i64 0, .int .i64 0, .int .i64 0] [(0, 6, X.s 4), (6, 6, X.s 6)]),
 X.o 8 (.build [.nils, .nils, .nils, .nils] [(0, 1, X.s 7)]),
 X.o 9 (.call F.clock_New [X.s 8]),
 X.m 3 9,
 X.o 10 (.extract (X.s 3) 0),
 X.o 11 (.extract (X.s 3) 1),
 X.m 1 10,
 X.m 2 11]
def C.catnaplaw6_shown_r1 : List IOper := C.catnaplaw6_shown_r1_b
def C.catnaplaw6_shown_r1_w := @aopsE _ _ C.catnaplaw6_shown_r1.eq_1
def C.catnaplaw6_shown_c2 : ICode := .keep [] (.seq (.region C.catnaplaw6_shown_r1) C.catnaplaw6_shown_c1)
def C.catnaplaw6_shown_c2_w := @awpE _ _ C.catnaplaw6_shown_c2.eq_1
def C.catnaplaw6_shown_r0_b : List IOper := [
 X.o 0 (.move (.cst (.bool false)))]
def C.catnaplaw6_shown_r0 : List IOper := C.catnaplaw6_shown_r0_b
def C.catnaplaw6_shown_r0_w := @aopsE _ _ C.catnaplaw6_shown_r0.eq_1
def C.catnaplaw6_shown : IFunc := ⟨0, [.slot 0], .seq (.region C.catnaplaw6_shown_r0) C.catnaplaw6_shown_c2⟩
def C.catnaplaw6_shown_W := And.intro (And.intro @C.catnaplaw6_shown_r2_w @C.catnaplaw6_shown_c1_w) (And.intro @C.catnaplaw6_shown_r1_w (And.intro @C.catnaplaw6_shown_c2_w @C.catnaplaw6_shown_r0_w))
def C.catnaplaw6_shown_B := And.intro @C.catnaplaw6_shown_r2_b.eq_1 (And.intro @C.catnaplaw6_shown_r1_b.eq_1 @C.catnaplaw6_shown_r0_b.eq_1)

def C.clock_New_r16_b : List IOper := [
 X.m 49 5,
 X.m 2 49,
 X.o 3 (.move (X.i 0))]
def C.clock_New_r16 : List IOper := C.clock_New_r16_b
def C.clock_New_r16_w := @aopsE _ _ C.clock_New_r16.eq_1
def C.clock_New_c1 : ICode := .keep [5] (.seq (.region C.clock_New_r16) .ret)
def C.clock_New_c1_w := @awpE _ _ C.clock_New_c1.eq_1
def C.clock_New_r15_b : List IOper := [
 X.o 48 (.bin .add (X.s 20) (X.i 1)),
 X.m 20 48]
def C.clock_New_r15 : List IOper := C.clock_New_r15_b
def C.clock_New_r15_w := @aopsE _ _ C.clock_New_r15.eq_1
def C.clock_New_c2 : ICode := .keep [5, 18, 19, 20] (.region C.clock_New_r15)
def C.clock_New_c2_w := @awpE _ _ C.clock_New_c2.eq_1
def C.clock_New_r14_b : List IOper := [
 X.m 38 5,
 X.m 39 5,
 X.o 40 (.nilchk (X.s 39)),
 X.o 41 (.fldAddr 0 (X.s 40)),
 X.o 42 (.load1 (X.s 41)),
 X.o 43 (.loadN 11 (X.s 8)),
 X.o 44 (.buildSlice 11 1 [.int .u8 0, .nils, .int .u64 0, .int .i64 0, .int .i64 0, .int .i64 0, .bool false, .int .i64 0, .int .i64 0, .int .i64 0, .int .i64 0] [(0, 11, X.s 43)]),
 X.o 45 (.append 11 104 (X.s 42) (X.s 44)),
 X.o 46 (.nilchk (X.s 38)),
 X.o 47 (.fldAddr 0 (X.s 46)),
 X.n (.store1 (X.s 47) (X.s 45))]
def C.clock_New_r14 : List IOper := C.clock_New_r14_b
def C.clock_New_r14_w := @aopsE _ _ C.clock_New_r14.eq_1
def C.clock_New_c3 : ICode := .keep [5, 8, 18, 19, 20] (.region C.clock_New_r14)
def C.clock_New_c3_w := @awpE _ _ C.clock_New_c3.eq_1
def C.clock_New_r11_b : List IOper := [
 X.o 30 (.fldAddr 5 (X.s 7)),
 X.o 31 (.load1 (X.s 30)),
 X.o 32 (.fldAddr 7 (X.s 8)),
 X.n (.store1 (X.s 32) (X.s 31))]
def C.clock_New_r11 : List IOper := C.clock_New_r11_b
def C.clock_New_r11_w := @aopsE _ _ C.clock_New_r11.eq_1
def C.clock_New_r13_b : List IOper := [
 X.o 35 (.fldAddr 4 (X.s 7)),
 X.o 36 (.load1 (X.s 35)),
 X.o 37 (.fldAddr 10 (X.s 8)),
 X.n (.store1 (X.s 37) (X.s 36))]
def C.clock_New_r13 : List IOper := C.clock_New_r13_b
def C.clock_New_r13_w := @aopsE _ _ C.clock_New_r13.eq_1
def C.clock_New_c4 : ICode := .keep [5, 7, 8, 18, 19, 20, 33] (.cond (X.s 33) (.region C.clock_New_r13) .skip)
def C.clock_New_c4_w := @awpE _ _ C.clock_New_c4.eq_1
def C.clock_New_r12_b : List IOper := [
 X.o 34 (.bin .eql (X.s 27) (.cst (.int .u8 100))),
 X.m 33 34]
def C.clock_New_r12 : List IOper := C.clock_New_r12_b
def C.clock_New_r12_w := @aopsE _ _ C.clock_New_r12.eq_1
def C.clock_New_c5 : ICode := .seq (.region C.clock_New_r12) C.clock_New_c4
def C.clock_New_c5_w := @awpE _ _ C.clock_New_c5.eq_1
def C.clock_New_c6 : ICode := .keep [5, 7, 8, 18, 19, 20, 27, 28] (.cond (X.s 28) (.region C.clock_New_r11) C.clock_New_c5)
def C.clock_New_c6_w := @awpE _ _ C.clock_New_c6.eq_1
def C.clock_New_r10_b : List IOper := [
 X.o 29 (.bin .eql (X.s 27) (.cst (.int .u8 112))),
 X.m 28 29]
def C.clock_New_r10 : List IOper := C.clock_New_r10_b
def C.clock_New_r10_w := @aopsE _ _ C.clock_New_r10.eq_1
def C.clock_New_b7 : ICode := .seq (.region C.clock_New_r10) C.clock_New_c6
def C.clock_New_b7_w := @awpE _ _ C.clock_New_b7.eq_1
def C.clock_New_c8 : ICode := .keep [5, 7, 8, 18, 19, 20, 27] (.block 2 C.clock_New_b7)
def C.clock_New_c8_w := @awpE _ _ C.clock_New_c8.eq_1
def C.clock_New_r9_b : List IOper := [
 X.o 26 (.fldAddr 0 (X.s 7)),
 X.o 27 (.load1 (X.s 26))]
def C.clock_New_r9 : List IOper := C.clock_New_r9_b
def C.clock_New_r9_w := @aopsE _ _ C.clock_New_r9.eq_1
def C.clock_New_c9 : ICode := .keep [5, 7, 8, 18, 19, 20] (.seq (.seq (.region C.clock_New_r9) C.clock_New_c8) C.clock_New_c3)
def C.clock_New_c9_w := @awpE _ _ C.clock_New_c9.eq_1
def C.clock_New_r8_b : List IOper := [
 X.o 24 (.loadN 6 (X.s 7)),
 X.o 25 (.build [.int .u8 0, .nils, .int .u64 0, .int .i64 0, .int .i64 0, .int .i64 0, .bool false, .int .i64 0, .int .i64 0, .int .i64 0, .int .i64 0] [(0, 6, X.s 24)]),
 X.o 8 (.alloc [.int .u8 0, .nils, .int .u64 0, .int .i64 0, .int .i64 0, .int .i64 0, .bool false, .int .i64 0, .int .i64 0, .int .i64 0, .int .i64 0]),
 X.n (.storeN 11 (X.s 8) (X.s 25))]
def C.clock_New_r8 : List IOper := C.clock_New_r8_b
def C.clock_New_r8_w := @aopsE _ _ C.clock_New_r8.eq_1
def C.clock_New_c10 : ICode := .keep [5, 7, 18, 19, 20] (.seq (.region C.clock_New_r8) C.clock_New_c9)
def C.clock_New_c10_w := @awpE _ _ C.clock_New_c10.eq_1
def C.clock_New_r7_b : List IOper := [
 X.o 22 (.idxAddr 6 (X.s 18) (X.s 20)),
 X.o 23 (.loadN 6 (X.s 22)),
 X.o 7 (.alloc [.int .u8 0, .nils, .int .u64 0, .int .i64 0, .int .i64 0, .int .i64 0]),
 X.n (.storeN 6 (X.s 7) (X.s 23))]
def C.clock_New_r7 : List IOper := C.clock_New_r7_b
def C.clock_New_r7_w := @aopsE _ _ C.clock_New_r7.eq_1
def C.clock_New_b11 : ICode := .seq (.region C.clock_New_r7) C.clock_New_c10
def C.clock_New_b11_w := @awpE _ _ C.clock_New_b11.eq_1
def C.clock_New_c12 : ICode := .keep [5, 18, 19, 20] (.seq (.block 1 C.clock_New_b11) C.clock_New_c2)
def C.clock_New_c12_w := @awpE _ _ C.clock_New_c12.eq_1
def C.clock_New_c13 : ICode := .keep [5, 18, 19, 20, 21] (.seq (.cond (X.s 21) .skip (.exit 0)) C.clock_New_c12)
def C.clock_New_c13_w := @awpE _ _ C.clock_New_c13.eq_1
def C.clock_New_r6_b : List IOper := [
 X.o 21 (.bin .lss (X.s 20) (X.s 19))]
def C.clock_New_r6 : List IOper := C.clock_New_r6_b
def C.clock_New_r6_w := @aopsE _ _ C.clock_New_r6.eq_1
def C.clock_New_l14 : ICode := .keep [5, 18, 19, 20] (.seq (.region C.clock_New_r6) C.clock_New_c13)
def C.clock_New_l14_w := @awpE _ _ C.clock_New_l14.eq_1
def C.clock_New_b15 : ICode := .loop C.clock_New_l14
def C.clock_New_b15_w := @awpE _ _ C.clock_New_b15.eq_1
def C.clock_New_c16 : ICode := .keep [5, 18, 19, 20] (.block 0 C.clock_New_b15)
def C.clock_New_c16_w := @awpE _ _ C.clock_New_c16.eq_1
def C.clock_New_r5_b : List IOper := [
 X.o 16 (.loadN 4 (X.s 1)),
 X.o 17 (.call F.conf_Copy [X.s 16]),
 X.o 18 (.field1 0 (X.s 17)),
 X.o 19 (.len (X.s 18)),
 X.o 20 (.move (X.i 0))]
def C.clock_New_r5 : List IOper := C.clock_New_r5_b
def C.clock_New_r5_w := @aopsE _ _ C.clock_New_r5.eq_1
def C.clock_New_c17 : ICode := .keep [1, 5] (.seq (.seq (.region C.clock_New_r5) C.clock_New_c16) C.clock_New_c1)
def C.clock_New_c17_w := @awpE _ _ C.clock_New_c17.eq_1
def C.clock_New_r4_b : List IOper := [
 X.o 14 (.build [.nils] []),
 X.o 15 (.boxN (X.s 14)),
 X.m 5 15]
def C.clock_New_r4 : List IOper := C.clock_New_r4_b
def C.clock_New_r4_w := @aopsE _ _ C.clock_New_r4.eq_1
def C.clock_New_c18 : ICode := .keep [1] (.seq (.region C.clock_New_r4) C.clock_New_c17)
def C.clock_New_c18_w := @awpE _ _ C.clock_New_c18.eq_1
def C.clock_New_r3_b : List IOper := [
 X.m 13 4,
 X.o 2 (.move (.cst (.nilp))),
 X.m 3 13]
def C.clock_New_r3 : List IOper := C.clock_New_r3_b
def C.clock_New_r3_w := @aopsE _ _ C.clock_New_r3.eq_1
def C.clock_New_c19 : ICode := .seq (.region C.clock_New_r3) .ret
def C.clock_New_c19_w := @awpE _ _ C.clock_New_c19.eq_1
def C.clock_New_c20 : ICode := .keep [1, 4, 12] (.cond (X.s 12) C.clock_New_c19 .skip)
def C.clock_New_c20_w := @awpE _ _ C.clock_New_c20.eq_1
def C.clock_New_r2_b : List IOper := [
 X.m 11 4,
 X.o 12 (.bin .neq (X.s 11) (X.i 0))]
def C.clock_New_r2 : List IOper := C.clock_New_r2_b
def C.clock_New_r2_w := @aopsE _ _ C.clock_New_r2.eq_1
def C.clock_New_c21 : ICode := .keep [1, 4] (.seq (.region C.clock_New_r2) C.clock_New_c20)
def C.clock_New_c21_w := @awpE _ _ C.clock_New_c21.eq_1
def C.clock_New_r1_b : List IOper := [
 X.o 9 (.loadN 4 (X.s 1)),
 X.o 10 (.call F.conf_Check [X.s 9]),
 X.m 4 10]
def C.clock_New_r1 : List IOper := C.clock_New_r1_b
def C.clock_New_r1_w := @aopsE _ _ C.clock_New_r1.eq_1
def C.clock_New_c22 : ICode := .keep [1] (.seq (.seq (.region C.clock_New_r1) C.clock_New_c21) C.clock_New_c18)
def C.clock_New_c22_w := @awpE _ _ C.clock_New_c22.eq_1
def C.clock_New_r0_b : List IOper := [
 X.o 1 (.boxN (X.s 0)),
 X.o 2 (.move (.cst (.nilp))),
 X.o 3 (.move (X.i 0))]
def C.clock_New_r0 : List IOper := C.clock_New_r0_b
def C.clock_New_r0_w := @aopsE _ _ C.clock_New_r0.eq_1
def C.clock_New : IFunc := ⟨1, [.slot 2, .slot 3], .seq (.region C.clock_New_r0) C.clock_New_c22⟩
def C.clock_New_W := And.intro (And.intro (And.intro (And.intro (And.intro @C.clock_New_r16_w @C.clock_New_c1_w) (And.intro @C.clock_New_r15_w @C.clock_New_c2_w)) (And.intro (And.intro @C.clock_New_r14_w @C.clock_New_c3_w) (And.intro @C.clock_New_r11_w (And.intro @C.clock_New_r13_w @C.clock_New_c4_w)))) (And.intro (And.intro (And.intro @C.clock_New_r12_w @C.clock_New_c5_w) (And.intro @C.clock_New_c6_w (And.intro @C.clock_New_r10_w @C.clock_New_b7_w))) (And.intro (And.intro @C.clock_New_c8_w @C.clock_New_r9_w) (And.intro @C.clock_New_c9_w (And.intro @C.clock_New_r8_w @C.clock_New_c10_w))))) (And.intro (And.intro (And.intro (And.intro @C.clock_New_r7_w @C.clock_New_b11_w) (And.intro @C.clock_New_c12_w @C.clock_New_c13_w)) (And.intro (And.intro @C.clock_New_r6_w @C.clock_New_b15_w) (And.intro @C.clock_New_c16_w (And.intro @C.clock_New_r5_w @C.clock_New_c17_w)))) (And.intro (And.intro (And.intro @C.clock_New_r4_w @C.clock_New_c18_w) (And.intro @C.clock_New_r3_w (And.intro @C.clock_New_c19_w @C.clock_New_c20_w))) (And.intro (And.intro @C.clock_New_r2_w @C.clock_New_c21_w) (And.intro @C.clock_New_r1_w (And.intro @C.clock_New_c22_w @C.clock_New_r0_w)))))
def C.clock_New_B := And.intro (And.intro (And.intro (And.intro @C.clock_New_r16_b.eq_1 @C.clock_New_r15_b.eq_1) (And.intro @C.clock_New_r14_b.eq_1 @C.clock_New_r11_b.eq_1)) (And.intro (And.intro @C.clock_New_r13_b.eq_1 @C.clock_New_r12_b.eq_1) (And.intro @C.clock_New_r10_b.eq_1 @C.clock_New_r9_b.eq_1))) (And.intro (And.intro (And.intro @C.clock_New_r8_b.eq_1 @C.clock_New_r7_b.eq_1) (And.intro @C.clock_New_r6_b.eq_1 @C.clock_New_r5_b.eq_1)) (And.intro (And.intro @C.clock_New_r4_b.eq_1 @C.clock_New_r3_b.eq_1) (And.intro @C.clock_New_r2_b.eq_1 (And.intro @C.clock_New_r1_b.eq_1 @C.clock_New_r0_b.eq_1))))

def C.conf_Check_r1_b : List IOper := [
 X.o 3 (.makeFunc F.conf_Check_1 [X.s 1]),
 X.o 4 (.makeFunc F.conf_Check_2 [X.s 1]),
 X.o 5 (.makeFunc F.conf_Check_3 [X.s 1]),
 X.o 6 (.makeFunc F.conf_Check_4 [X.s 1]),
 X.o 7 (.makeFunc F.conf_Check_5 [X.s 1]),
 X.o 8 (.makeFunc F.conf_Check_6 [X.s 1]),
 X.o 9 (.makeFunc F.conf_Check_7 [X.s 1]),
 X.o 10 (.makeFunc F.conf_Check_8 [X.s 1]),
 X.o 11 (.buildSlice 1 8 [.nilf] [(0, 1, X.s 3), (1, 1, X.s 4), (2, 1, X.s 5), (3, 1, X.s 6), (4, 1, X.s 7), (5, 1, X.s 8), (6, 1, X.s 9), (7, 1, X.s 10)]),
 X.o 12 (.call F.conf_first [X.s 11]),
 X.m 2 12]
def C.conf_Check_r1 : List IOper := C.conf_Check_r1_b
def C.conf_Check_r1_w := @aopsE _ _ C.conf_Check_r1.eq_1
def C.conf_Check_c1 : ICode := .keep [1] (.seq (.region C.conf_Check_r1) .ret)
def C.conf_Check_c1_w := @awpE _ _ C.conf_Check_c1.eq_1
def C.conf_Check_r0_b : List IOper := [
 X.o 1 (.boxN (X.s 0)),
 X.o 2 (.move (X.i 0))]
def C.conf_Check_r0 : List IOper := C.conf_Check_r0_b
def C.conf_Check_r0_w := @aopsE _ _ C.conf_Check_r0.eq_1
def C.conf_Check : IFunc := ⟨1, [.slot 2], .seq (.region C.conf_Check_r0) C.conf_Check_c1⟩
def C.conf_Check_W := And.intro @C.conf_Check_r1_w (And.intro @C.conf_Check_c1_w @C.conf_Check_r0_w)
def C.conf_Check_B := And.intro @C.conf_Check_r1_b.eq_1 @C.conf_Check_r0_b.eq_1

def C.catnaplaw6_pick_r3_b : List IOper := [
 X.m 10 0,
 X.m 11 1,
 X.o 12 (.bin .rem (X.s 10) (X.s 11)),
 X.m 4 12]
def C.catnaplaw6_pick_r3 : List IOper := C.catnaplaw6_pick_r3_b
def C.catnaplaw6_pick_r3_w := @aopsE _ _ C.catnaplaw6_pick_r3.eq_1
def C.catnaplaw6_pick_c1 : ICode := .keep [0, 1] (.seq (.region C.catnaplaw6_pick_r3) .ret)
def C.catnaplaw6_pick_c1_w := @awpE _ _ C.catnaplaw6_pick_c1.eq_1
def C.catnaplaw6_pick_r2_b : List IOper := [
 X.m 7 0,
 X.o 8 (.bin .add (X.s 7) (X.i 1)),
 X.o 9 (.un .neg (X.s 8)),
 X.m 0 9]
def C.catnaplaw6_pick_r2 : List IOper := C.catnaplaw6_pick_r2_b
def C.catnaplaw6_pick_r2_w := @aopsE _ _ C.catnaplaw6_pick_r2.eq_1
def C.catnaplaw6_pick_c2 : ICode := .keep [0, 1, 6] (.cond (X.s 6) (.region C.catnaplaw6_pick_r2) .skip)
def C.catnaplaw6_pick_c2_w := @awpE _ _ C.catnaplaw6_pick_c2.eq_1
def C.catnaplaw6_pick_r1_b : List IOper := [
 X.m 5 0,
 X.o 6 (.bin .lss (X.s 5) (X.i 0))]
def C.catnaplaw6_pick_r1 : List IOper := C.catnaplaw6_pick_r1_b
def C.catnaplaw6_pick_r1_w := @aopsE _ _ C.catnaplaw6_pick_r1.eq_1
def C.catnaplaw6_pick_c3 : ICode := .keep [0, 1] (.seq (.seq (.region C.catnaplaw6_pick_r1) C.catnaplaw6_pick_c2) C.catnaplaw6_pick_c1)
def C.catnaplaw6_pick_c3_w := @awpE _ _ C.catnaplaw6_pick_c3.eq_1
def C.catnaplaw6_pick_r0_b : List IOper := [
 X.o 4 (.move (X.i 0))]
def C.catnaplaw6_pick_r0 : List IOper := C.catnaplaw6_pick_r0_b
def C.catnaplaw6_pick_r0_w := @aopsE _ _ C.catnaplaw6_pick_r0.eq_1
def C.catnaplaw6_pick : IFunc := ⟨2, [.slot 4], .seq (.region C.catnaplaw6_pick_r0) C.catnaplaw6_pick_c3⟩
def C.catnaplaw6_pick_W := And.intro (And.intro @C.catnaplaw6_pick_r3_w (And.intro @C.catnaplaw6_pick_c1_w @C.catnaplaw6_pick_r2_w)) (And.intro (And.intro @C.catnaplaw6_pick_c2_w @C.catnaplaw6_pick_r1_w) (And.intro @C.catnaplaw6_pick_c3_w @C.catnaplaw6_pick_r0_w))
def C.catnaplaw6_pick_B := And.intro (And.intro @C.catnaplaw6_pick_r3_b.eq_1 @C.catnaplaw6_pick_r2_b.eq_1) (And.intro @C.catnaplaw6_pick_r1_b.eq_1 @C.catnaplaw6_pick_r0_b.eq_1)

def C.clock_Tree_On_r9_b : List IOper := [
 X.o 6 (.move (X.i 0))]
def C.clock_Tree_On_r9 : List IOper := C.clock_Tree_On_r9_b
def C.clock_Tree_On_r9_w := @aopsE _ _ C.clock_Tree_On_r9.eq_1
def C.clock_Tree_On_c1 : ICode := .keep [] (.seq (.region C.clock_Tree_On_r9) .ret)
def C.clock_Tree_On_c1_w := @awpE _ _ C.clock_Tree_On_c1.eq_1
def C.clock_Tree_On_r8_b : List IOper := [
 X.m 41 7,
 X.m 42 7,
 X.o 43 (.nilchk (X.s 42)),
 X.o 44 (.fldAddr 0 (X.s 43)),
 X.o 45 (.fldAddr 5 (X.s 44)),
 X.o 46 (.load1 (X.s 45)),
 X.o 47 (.nilchk (X.s 41)),
 X.o 48 (.fldAddr 7 (X.s 47)),
 X.n (.store1 (X.s 48) (X.s 46))]
def C.clock_Tree_On_r8 : List IOper := C.clock_Tree_On_r8_b
def C.clock_Tree_On_r8_w := @aopsE _ _ C.clock_Tree_On_r8.eq_1
def C.clock_Tree_On_c2 : ICode := .keep [7, 40] (.cond (X.s 40) (.region C.clock_Tree_On_r8) .skip)
def C.clock_Tree_On_c2_w := @awpE _ _ C.clock_Tree_On_c2.eq_1
def C.clock_Tree_On_r7_b : List IOper := [
 X.m 31 7,
 X.o 32 (.nilchk (X.s 31)),
 X.o 33 (.fldAddr 0 (X.s 32)),
 X.o 34 (.fldAddr 0 (X.s 33)),
 X.o 35 (.load1 (X.s 34)),
 X.o 36 (.bin .eql (X.s 35) (.cst (.int .u8 112))),
 X.m 37 36,
 X.t 37 38 (.move (X.s 2)),
 X.t 37 39 (.un .not (X.s 38)),
 X.o 40 (.pick (X.s 37) (X.s 39) (.cst (.bool false)))]
def C.clock_Tree_On_r7 : List IOper := C.clock_Tree_On_r7_b
def C.clock_Tree_On_r7_w := @aopsE _ _ C.clock_Tree_On_r7.eq_1
def C.clock_Tree_On_c3 : ICode := .keep [2, 7] (.seq (.seq (.region C.clock_Tree_On_r7) C.clock_Tree_On_c2) C.clock_Tree_On_c1)
def C.clock_Tree_On_c3_w := @awpE _ _ C.clock_Tree_On_c3.eq_1
def C.clock_Tree_On_r6_b : List IOper := [
 X.m 27 7,
 X.m 28 2,
 X.o 29 (.nilchk (X.s 27)),
 X.o 30 (.fldAddr 6 (X.s 29)),
 X.n (.store1 (X.s 30) (X.s 28))]
def C.clock_Tree_On_r6 : List IOper := C.clock_Tree_On_r6_b
def C.clock_Tree_On_r6_w := @aopsE _ _ C.clock_Tree_On_r6.eq_1
def C.clock_Tree_On_c4 : ICode := .keep [2, 7] (.seq (.region C.clock_Tree_On_r6) C.clock_Tree_On_c3)
def C.clock_Tree_On_c4_w := @awpE _ _ C.clock_Tree_On_c4.eq_1
def C.clock_Tree_On_r5_b : List IOper := [
 X.o 6 (.move (X.i 1))]
def C.clock_Tree_On_r5 : List IOper := C.clock_Tree_On_r5_b
def C.clock_Tree_On_r5_w := @aopsE _ _ C.clock_Tree_On_r5.eq_1
def C.clock_Tree_On_c5 : ICode := .seq (.region C.clock_Tree_On_r5) .ret
def C.clock_Tree_On_c5_w := @awpE _ _ C.clock_Tree_On_c5.eq_1
def C.clock_Tree_On_c6 : ICode := .keep [2, 7, 26] (.cond (X.s 26) C.clock_Tree_On_c5 .skip)
def C.clock_Tree_On_c6_w := @awpE _ _ C.clock_Tree_On_c6.eq_1
def C.clock_Tree_On_r4_b : List IOper := [
 X.m 13 7,
 X.o 14 (.nilchk (X.s 13)),
 X.o 15 (.fldAddr 0 (X.s 14)),
 X.o 16 (.fldAddr 0 (X.s 15)),
 X.o 17 (.load1 (X.s 16)),
 X.o 18 (.bin .neq (X.s 17) (.cst (.int .u8 112))),
 X.m 19 18,
 X.t 19 20 (.move (X.s 7)),
 X.t 19 21 (.nilchk (X.s 20)),
 X.t 19 22 (.fldAddr 0 (X.s 21)),
 X.t 19 23 (.fldAddr 0 (X.s 22)),
 X.t 19 24 (.load1 (X.s 23)),
 X.t 19 25 (.bin .neq (X.s 24) (.cst (.int .u8 103))),
 X.o 26 (.pick (X.s 19) (X.s 25) (.cst (.bool false)))]
def C.clock_Tree_On_r4 : List IOper := C.clock_Tree_On_r4_b
def C.clock_Tree_On_r4_w := @aopsE _ _ C.clock_Tree_On_r4.eq_1
def C.clock_Tree_On_c7 : ICode := .keep [2, 7] (.seq (.seq (.region C.clock_Tree_On_r4) C.clock_Tree_On_c6) C.clock_Tree_On_c4)
def C.clock_Tree_On_c7_w := @awpE _ _ C.clock_Tree_On_c7.eq_1
def C.clock_Tree_On_r3_b : List IOper := [
 X.o 6 (.move (X.i 4))]
def C.clock_Tree_On_r3 : List IOper := C.clock_Tree_On_r3_b
def C.clock_Tree_On_r3_w := @aopsE _ _ C.clock_Tree_On_r3.eq_1
def C.clock_Tree_On_c8 : ICode := .seq (.region C.clock_Tree_On_r3) .ret
def C.clock_Tree_On_c8_w := @awpE _ _ C.clock_Tree_On_c8.eq_1
def C.clock_Tree_On_c9 : ICode := .keep [2, 7, 12] (.cond (X.s 12) C.clock_Tree_On_c8 .skip)
def C.clock_Tree_On_c9_w := @awpE _ _ C.clock_Tree_On_c9.eq_1
def C.clock_Tree_On_r2_b : List IOper := [
 X.m 11 7,
 X.o 12 (.eqP 0 false (X.s 11) (.cst (.nilp)))]
def C.clock_Tree_On_r2 : List IOper := C.clock_Tree_On_r2_b
def C.clock_Tree_On_r2_w := @aopsE _ _ C.clock_Tree_On_r2.eq_1
def C.clock_Tree_On_c10 : ICode := .keep [2, 7] (.seq (.seq (.region C.clock_Tree_On_r2) C.clock_Tree_On_c9) C.clock_Tree_On_c7)
def C.clock_Tree_On_c10_w := @awpE _ _ C.clock_Tree_On_c10.eq_1
def C.clock_Tree_On_r1_b : List IOper := [
 X.m 8 0,
 X.m 9 1,
 X.o 10 (.call F.clock_Tree_at [X.s 8, X.s 9]),
 X.m 7 10]
def C.clock_Tree_On_r1 : List IOper := C.clock_Tree_On_r1_b
def C.clock_Tree_On_r1_w := @aopsE _ _ C.clock_Tree_On_r1.eq_1
def C.clock_Tree_On_c11 : ICode := .keep [0, 1, 2] (.seq (.region C.clock_Tree_On_r1) C.clock_Tree_On_c10)
def C.clock_Tree_On_c11_w := @awpE _ _ C.clock_Tree_On_c11.eq_1
def C.clock_Tree_On_r0_b : List IOper := [
 X.o 6 (.move (X.i 0))]
def C.clock_Tree_On_r0 : List IOper := C.clock_Tree_On_r0_b
def C.clock_Tree_On_r0_w := @aopsE _ _ C.clock_Tree_On_r0.eq_1
def C.clock_Tree_On : IFunc := ⟨3, [.slot 6], .seq (.region C.clock_Tree_On_r0) C.clock_Tree_On_c11⟩
def C.clock_Tree_On_W := And.intro (And.intro (And.intro (And.intro @C.clock_Tree_On_r9_w @C.clock_Tree_On_c1_w) (And.intro @C.clock_Tree_On_r8_w (And.intro @C.clock_Tree_On_c2_w @C.clock_Tree_On_r7_w))) (And.intro (And.intro @C.clock_Tree_On_c3_w @C.clock_Tree_On_r6_w) (And.intro @C.clock_Tree_On_c4_w (And.intro @C.clock_Tree_On_r5_w @C.clock_Tree_On_c5_w)))) (And.intro (And.intro (And.intro @C.clock_Tree_On_c6_w @C.clock_Tree_On_r4_w) (And.intro @C.clock_Tree_On_c7_w (And.intro @C.clock_Tree_On_r3_w @C.clock_Tree_On_c8_w))) (And.intro (And.intro @C.clock_Tree_On_c9_w (And.intro @C.clock_Tree_On_r2_w @C.clock_Tree_On_c10_w)) (And.intro @C.clock_Tree_On_r1_w (And.intro @C.clock_Tree_On_c11_w @C.clock_Tree_On_r0_w))))
def C.clock_Tree_On_B := And.intro (And.intro (And.intro @C.clock_Tree_On_r9_b.eq_1 @C.clock_Tree_On_r8_b.eq_1) (And.intro @C.clock_Tree_On_r7_b.eq_1 (And.intro @C.clock_Tree_On_r6_b.eq_1 @C.clock_Tree_On_r5_b.eq_1))) (And.intro (And.intro @C.clock_Tree_On_r4_b.eq_1 @C.clock_Tree_On_r3_b.eq_1) (And.intro @C.clock_Tree_On_r2_b.eq_1 (And.intro @C.clock_Tree_On_r1_b.eq_1 @C.clock_Tree_On_r0_b.eq_1)))

def C.clock_Tree_Running_r5_b : List IOper := [
 X.o 11 (.load1 (X.s 5)),
 X.m 12 1,
 X.o 13 (.callv (X.s 11) [X.s 12]),
 X.m 4 13]
def C.clock_Tree_Running_r5 : List IOper := C.clock_Tree_Running_r5_b
def C.clock_Tree_Running_r5_w := @aopsE _ _ C.clock_Tree_Running_r5.eq_1
def C.clock_Tree_Running_c1 : ICode := .keep [1, 5] (.seq (.region C.clock_Tree_Running_r5) .ret)
def C.clock_Tree_Running_c1_w := @awpE _ _ C.clock_Tree_Running_c1.eq_1
def C.clock_Tree_Running_r4_b : List IOper := [
 X.o 10 (.makeFunc F.clock_Tree_Running_1 [X.s 2, X.s 5]),
 X.n (.store1 (X.s 5) (X.s 10))]
def C.clock_Tree_Running_r4 : List IOper := C.clock_Tree_Running_r4_b
def C.clock_Tree_Running_r4_w := @aopsE _ _ C.clock_Tree_Running_r4.eq_1
def C.clock_Tree_Running_c2 : ICode := .keep [1, 2, 5] (.seq (.region C.clock_Tree_Running_r4) C.clock_Tree_Running_c1)
def C.clock_Tree_Running_c2_w := @awpE _ _ C.clock_Tree_Running_c2.eq_1
def C.clock_Tree_Running_r3_b : List IOper := [
 X.o 5 (.alloc [.nilf])]
def C.clock_Tree_Running_r3 : List IOper := C.clock_Tree_Running_r3_b
def C.clock_Tree_Running_r3_w := @aopsE _ _ C.clock_Tree_Running_r3.eq_1
def C.clock_Tree_Running_c3 : ICode := .keep [1, 2] (.seq (.region C.clock_Tree_Running_r3) C.clock_Tree_Running_c2)
def C.clock_Tree_Running_c3_w := @awpE _ _ C.clock_Tree_Running_c3.eq_1
def C.clock_Tree_Running_r2_b : List IOper := [
 X.o 4 (.move (.cst (.bool false)))]
def C.clock_Tree_Running_r2 : List IOper := C.clock_Tree_Running_r2_b
def C.clock_Tree_Running_r2_w := @aopsE _ _ C.clock_Tree_Running_r2.eq_1
def C.clock_Tree_Running_c4 : ICode := .seq (.region C.clock_Tree_Running_r2) .ret
def C.clock_Tree_Running_c4_w := @awpE _ _ C.clock_Tree_Running_c4.eq_1
def C.clock_Tree_Running_c5 : ICode := .keep [1, 2, 9] (.cond (X.s 9) C.clock_Tree_Running_c4 .skip)
def C.clock_Tree_Running_c5_w := @awpE _ _ C.clock_Tree_Running_c5.eq_1
def C.clock_Tree_Running_r1_b : List IOper := [
 X.o 6 (.load1 (X.s 2)),
 X.m 7 1,
 X.o 8 (.call F.clock_Tree_at [X.s 6, X.s 7]),
 X.o 9 (.eqP 0 false (X.s 8) (.cst (.nilp)))]
def C.clock_Tree_Running_r1 : List IOper := C.clock_Tree_Running_r1_b
def C.clock_Tree_Running_r1_w := @aopsE _ _ C.clock_Tree_Running_r1.eq_1
def C.clock_Tree_Running_c6 : ICode := .keep [1, 2] (.seq (.seq (.region C.clock_Tree_Running_r1) C.clock_Tree_Running_c5) C.clock_Tree_Running_c3)
def C.clock_Tree_Running_c6_w := @awpE _ _ C.clock_Tree_Running_c6.eq_1
def C.clock_Tree_Running_r0_b : List IOper := [
 X.o 2 (.box1 (X.s 0)),
 X.o 4 (.move (.cst (.bool false)))]
def C.clock_Tree_Running_r0 : List IOper := C.clock_Tree_Running_r0_b
def C.clock_Tree_Running_r0_w := @aopsE _ _ C.clock_Tree_Running_r0.eq_1
def C.clock_Tree_Running : IFunc := ⟨2, [.slot 4], .seq (.region C.clock_Tree_Running_r0) C.clock_Tree_Running_c6⟩
def C.clock_Tree_Running_W := And.intro (And.intro (And.intro @C.clock_Tree_Running_r5_w (And.intro @C.clock_Tree_Running_c1_w @C.clock_Tree_Running_r4_w)) (And.intro @C.clock_Tree_Running_c2_w (And.intro @C.clock_Tree_Running_r3_w @C.clock_Tree_Running_c3_w))) (And.intro (And.intro @C.clock_Tree_Running_r2_w (And.intro @C.clock_Tree_Running_c4_w @C.clock_Tree_Running_c5_w)) (And.intro @C.clock_Tree_Running_r1_w (And.intro @C.clock_Tree_Running_c6_w @C.clock_Tree_Running_r0_w)))
def C.clock_Tree_Running_B := And.intro (And.intro @C.clock_Tree_Running_r5_b.eq_1 (And.intro @C.clock_Tree_Running_r4_b.eq_1 @C.clock_Tree_Running_r3_b.eq_1)) (And.intro @C.clock_Tree_Running_r2_b.eq_1 (And.intro @C.clock_Tree_Running_r1_b.eq_1 @C.clock_Tree_Running_r0_b.eq_1))

def C.clock_Tree_Left_r4_b : List IOper := [
 X.m 11 5,
 X.o 12 (.nilchk (X.s 11)),
 X.o 13 (.fldAddr 7 (X.s 12)),
 X.o 14 (.load1 (X.s 13)),
 X.m 4 14]
def C.clock_Tree_Left_r4 : List IOper := C.clock_Tree_Left_r4_b
def C.clock_Tree_Left_r4_w := @aopsE _ _ C.clock_Tree_Left_r4.eq_1
def C.clock_Tree_Left_c1 : ICode := .keep [5] (.seq (.region C.clock_Tree_Left_r4) .ret)
def C.clock_Tree_Left_c1_w := @awpE _ _ C.clock_Tree_Left_c1.eq_1
def C.clock_Tree_Left_r3_b : List IOper := [
 X.o 4 (.move (X.i 0))]
def C.clock_Tree_Left_r3 : List IOper := C.clock_Tree_Left_r3_b
def C.clock_Tree_Left_r3_w := @aopsE _ _ C.clock_Tree_Left_r3.eq_1
def C.clock_Tree_Left_c2 : ICode := .seq (.region C.clock_Tree_Left_r3) .ret
def C.clock_Tree_Left_c2_w := @awpE _ _ C.clock_Tree_Left_c2.eq_1
def C.clock_Tree_Left_c3 : ICode := .keep [5, 10] (.cond (X.s 10) C.clock_Tree_Left_c2 .skip)
def C.clock_Tree_Left_c3_w := @awpE _ _ C.clock_Tree_Left_c3.eq_1
def C.clock_Tree_Left_r2_b : List IOper := [
 X.m 9 5,
 X.o 10 (.eqP 0 false (X.s 9) (.cst (.nilp)))]
def C.clock_Tree_Left_r2 : List IOper := C.clock_Tree_Left_r2_b
def C.clock_Tree_Left_r2_w := @aopsE _ _ C.clock_Tree_Left_r2.eq_1
def C.clock_Tree_Left_c4 : ICode := .keep [5] (.seq (.seq (.region C.clock_Tree_Left_r2) C.clock_Tree_Left_c3) C.clock_Tree_Left_c1)
def C.clock_Tree_Left_c4_w := @awpE _ _ C.clock_Tree_Left_c4.eq_1
def C.clock_Tree_Left_r1_b : List IOper := [
 X.m 6 0,
 X.m 7 1,
 X.o 8 (.call F.clock_Tree_at [X.s 6, X.s 7]),
 X.m 5 8]
def C.clock_Tree_Left_r1 : List IOper := C.clock_Tree_Left_r1_b
def C.clock_Tree_Left_r1_w := @aopsE _ _ C.clock_Tree_Left_r1.eq_1
def C.clock_Tree_Left_c5 : ICode := .keep [0, 1] (.seq (.region C.clock_Tree_Left_r1) C.clock_Tree_Left_c4)
def C.clock_Tree_Left_c5_w := @awpE _ _ C.clock_Tree_Left_c5.eq_1
def C.clock_Tree_Left_r0_b : List IOper := [
 X.o 4 (.move (X.i 0))]
def C.clock_Tree_Left_r0 : List IOper := C.clock_Tree_Left_r0_b
def C.clock_Tree_Left_r0_w := @aopsE _ _ C.clock_Tree_Left_r0.eq_1
def C.clock_Tree_Left : IFunc := ⟨2, [.slot 4], .seq (.region C.clock_Tree_Left_r0) C.clock_Tree_Left_c5⟩
def C.clock_Tree_Left_W := And.intro (And.intro (And.intro @C.clock_Tree_Left_r4_w @C.clock_Tree_Left_c1_w) (And.intro @C.clock_Tree_Left_r3_w (And.intro @C.clock_Tree_Left_c2_w @C.clock_Tree_Left_c3_w))) (And.intro (And.intro @C.clock_Tree_Left_r2_w @C.clock_Tree_Left_c4_w) (And.intro @C.clock_Tree_Left_r1_w (And.intro @C.clock_Tree_Left_c5_w @C.clock_Tree_Left_r0_w)))
def C.clock_Tree_Left_B := And.intro (And.intro @C.clock_Tree_Left_r4_b.eq_1 @C.clock_Tree_Left_r3_b.eq_1) (And.intro @C.clock_Tree_Left_r2_b.eq_1 (And.intro @C.clock_Tree_Left_r1_b.eq_1 @C.clock_Tree_Left_r0_b.eq_1))

def C.clock_Tree_Tick_r17_b : List IOper := [
 X.o 158 (.bin .add (X.s 34) (X.i 1)),
 X.m 34 158]
def C.clock_Tree_Tick_r17 : List IOper := C.clock_Tree_Tick_r17_b
def C.clock_Tree_Tick_r17_w := @aopsE _ _ C.clock_Tree_Tick_r17.eq_1
def C.clock_Tree_Tick_c1 : ICode := .keep [0, 2, 33, 34] (.region C.clock_Tree_Tick_r17)
def C.clock_Tree_Tick_c1_w := @awpE _ _ C.clock_Tree_Tick_c1.eq_1
def C.clock_Tree_Tick_r12_b : List IOper := [
 X.m 65 5,
 X.m 66 5,
 X.o 67 (.nilchk (X.s 66)),
 X.o 68 (.fldAddr 0 (X.s 67)),
 X.o 69 (.fldAddr 5 (X.s 68)),
 X.o 70 (.load1 (X.s 69)),
 X.o 71 (.nilchk (X.s 65)),
 X.o 72 (.fldAddr 7 (X.s 71)),
 X.n (.store1 (X.s 72) (X.s 70))]
def C.clock_Tree_Tick_r12 : List IOper := C.clock_Tree_Tick_r12_b
def C.clock_Tree_Tick_r12_w := @aopsE _ _ C.clock_Tree_Tick_r12.eq_1
def C.clock_Tree_Tick_r14_b : List IOper := [
 X.m 93 5,
 X.o 94 (.nilchk (X.s 93)),
 X.o 95 (.fldAddr 7 (X.s 94)),
 X.o 96 (.load1 (X.s 95)),
 X.o 97 (.bin .sub (X.s 96) (X.i 1)),
 X.o 98 (.nilchk (X.s 93)),
 X.o 99 (.fldAddr 7 (X.s 98)),
 X.n (.store1 (X.s 99) (X.s 97))]
def C.clock_Tree_Tick_r14 : List IOper := C.clock_Tree_Tick_r14_b
def C.clock_Tree_Tick_r14_w := @aopsE _ _ C.clock_Tree_Tick_r14.eq_1
def C.clock_Tree_Tick_r16_b : List IOper := [
 X.m 151 5,
 X.m 152 5,
 X.o 153 (.nilchk (X.s 152)),
 X.o 154 (.fldAddr 9 (X.s 153)),
 X.o 155 (.load1 (X.s 154)),
 X.o 156 (.nilchk (X.s 151)),
 X.o 157 (.fldAddr 8 (X.s 156)),
 X.n (.store1 (X.s 157) (X.s 155))]
def C.clock_Tree_Tick_r16 : List IOper := C.clock_Tree_Tick_r16_b
def C.clock_Tree_Tick_r16_w := @aopsE _ _ C.clock_Tree_Tick_r16.eq_1
def C.clock_Tree_Tick_c2 : ICode := .keep [0, 2, 5, 33, 34, 100] (.cond (X.s 100) (.region C.clock_Tree_Tick_r16) .skip)
def C.clock_Tree_Tick_c2_w := @awpE _ _ C.clock_Tree_Tick_c2.eq_1
def C.clock_Tree_Tick_r15_b : List IOper := [
 X.m 101 5,
 X.o 102 (.nilchk (X.s 101)),
 X.o 103 (.fldAddr 0 (X.s 102)),
 X.o 104 (.fldAddr 0 (X.s 103)),
 X.o 105 (.load1 (X.s 104)),
 X.o 106 (.bin .eql (X.s 105) (.cst (.int .u8 109))),
 X.m 107 106,
 X.t 107 108 (.move (X.s 5)),
 X.t 107 109 (.nilchk (X.s 108)),
 X.t 107 110 (.fldAddr 9 (X.s 109)),
 X.t 107 111 (.load1 (X.s 110)),
 X.t 107 112 (.move (X.s 5)),
 X.t 107 113 (.nilchk (X.s 112)),
 X.t 107 114 (.fldAddr 8 (X.s 113)),
 X.t 107 115 (.load1 (X.s 114)),
 X.t 107 116 (.bin .neq (X.s 111) (X.s 115)),
 X.o 117 (.pick (X.s 107) (X.s 116) (.cst (.bool false))),
 X.m 118 117,
 X.t 118 119 (.move (X.s 2)),
 X.t 118 120 (.move (X.s 5)),
 X.t 118 121 (.nilchk (X.s 120)),
 X.t 118 122 (.fldAddr 0 (X.s 121)),
 X.t 118 123 (.fldAddr 1 (X.s 122)),
 X.t 118 124 (.load1 (X.s 123)),
 X.t 118 125 (.move (X.s 5)),
 X.t 118 126 (.nilchk (X.s 125)),
 X.t 118 127 (.fldAddr 9 (X.s 126)),
 X.t 118 128 (.load1 (X.s 127)),
 X.t 118 129 (.idxAddr 1 (X.s 124) (X.s 128)),
 X.t 118 130 (.load1 (X.s 129)),
 X.t 118 131 (.idxAddr 1 (X.s 119) (X.s 130)),
 X.t 118 132 (.load1 (X.s 131)),
 X.t 118 133 (.move (X.s 132)),
 X.f 133 134 (.move (X.s 2)),
 X.f 133 135 (.move (X.s 5)),
 X.f 133 136 (.nilchk (X.s 135)),
 X.f 133 137 (.fldAddr 0 (X.s 136)),
 X.f 133 138 (.fldAddr 1 (X.s 137)),
 X.f 133 139 (.load1 (X.s 138)),
 X.f 133 140 (.move (X.s 5)),
 X.f 133 141 (.nilchk (X.s 140)),
 X.f 133 142 (.fldAddr 8 (X.s 141)),
 X.f 133 143 (.load1 (X.s 142)),
 X.f 133 144 (.idxAddr 1 (X.s 139) (X.s 143)),
 X.f 133 145 (.load1 (X.s 144)),
 X.f 133 146 (.idxAddr 1 (X.s 134) (X.s 145)),
 X.f 133 147 (.load1 (X.s 146)),
 X.f 133 148 (.un .not (X.s 147)),
 X.t 118 149 (.pick (X.s 133) (.cst (.bool true)) (X.s 148)),
 X.o 150 (.pick (X.s 118) (X.s 149) (.cst (.bool false))),
 X.m 100 150]
def C.clock_Tree_Tick_r15 : List IOper := C.clock_Tree_Tick_r15_b
def C.clock_Tree_Tick_r15_w := @aopsE _ _ C.clock_Tree_Tick_r15.eq_1
def C.clock_Tree_Tick_c3 : ICode := .seq (.region C.clock_Tree_Tick_r15) C.clock_Tree_Tick_c2
def C.clock_Tree_Tick_c3_w := @awpE _ _ C.clock_Tree_Tick_c3.eq_1
def C.clock_Tree_Tick_c4 : ICode := .keep [0, 2, 5, 33, 34, 73] (.cond (X.s 73) (.region C.clock_Tree_Tick_r14) C.clock_Tree_Tick_c3)
def C.clock_Tree_Tick_c4_w := @awpE _ _ C.clock_Tree_Tick_c4.eq_1
def C.clock_Tree_Tick_r13_b : List IOper := [
 X.m 74 5,
 X.o 75 (.nilchk (X.s 74)),
 X.o 76 (.fldAddr 0 (X.s 75)),
 X.o 77 (.fldAddr 0 (X.s 76)),
 X.o 78 (.load1 (X.s 77)),
 X.o 79 (.bin .eql (X.s 78) (.cst (.int .u8 112))),
 X.m 80 79,
 X.t 80 81 (.move (X.s 5)),
 X.t 80 82 (.nilchk (X.s 81)),
 X.t 80 83 (.fldAddr 6 (X.s 82)),
 X.t 80 84 (.load1 (X.s 83)),
 X.o 85 (.pick (X.s 80) (X.s 84) (.cst (.bool false))),
 X.m 86 85,
 X.t 86 87 (.move (X.s 5)),
 X.t 86 88 (.nilchk (X.s 87)),
 X.t 86 89 (.fldAddr 7 (X.s 88)),
 X.t 86 90 (.load1 (X.s 89)),
 X.t 86 91 (.bin .gtr (X.s 90) (X.i 0)),
 X.o 92 (.pick (X.s 86) (X.s 91) (.cst (.bool false))),
 X.m 73 92]
def C.clock_Tree_Tick_r13 : List IOper := C.clock_Tree_Tick_r13_b
def C.clock_Tree_Tick_r13_w := @aopsE _ _ C.clock_Tree_Tick_r13.eq_1
def C.clock_Tree_Tick_c5 : ICode := .seq (.region C.clock_Tree_Tick_r13) C.clock_Tree_Tick_c4
def C.clock_Tree_Tick_c5_w := @awpE _ _ C.clock_Tree_Tick_c5.eq_1
def C.clock_Tree_Tick_c6 : ICode := .keep [0, 2, 5, 33, 34, 43] (.cond (X.s 43) (.region C.clock_Tree_Tick_r12) C.clock_Tree_Tick_c5)
def C.clock_Tree_Tick_c6_w := @awpE _ _ C.clock_Tree_Tick_c6.eq_1
def C.clock_Tree_Tick_r11_b : List IOper := [
 X.m 44 5,
 X.o 45 (.nilchk (X.s 44)),
 X.o 46 (.fldAddr 0 (X.s 45)),
 X.o 47 (.fldAddr 0 (X.s 46)),
 X.o 48 (.load1 (X.s 47)),
 X.o 49 (.bin .eql (X.s 48) (.cst (.int .u8 112))),
 X.m 50 49,
 X.t 50 51 (.move (X.s 5)),
 X.t 50 52 (.nilchk (X.s 51)),
 X.t 50 53 (.fldAddr 6 (X.s 52)),
 X.t 50 54 (.load1 (X.s 53)),
 X.o 55 (.pick (X.s 50) (X.s 54) (.cst (.bool false))),
 X.m 56 55,
 X.t 56 57 (.move (X.s 2)),
 X.t 56 58 (.move (X.s 0)),
 X.t 56 59 (.move (X.s 4)),
 X.t 56 60 (.call F.clock_Tree_source [X.s 58, X.s 59]),
 X.t 56 61 (.idxAddr 1 (X.s 57) (X.s 60)),
 X.t 56 62 (.load1 (X.s 61)),
 X.t 56 63 (.un .not (X.s 62)),
 X.o 64 (.pick (X.s 56) (X.s 63) (.cst (.bool false))),
 X.m 43 64]
def C.clock_Tree_Tick_r11 : List IOper := C.clock_Tree_Tick_r11_b
def C.clock_Tree_Tick_r11_w := @aopsE _ _ C.clock_Tree_Tick_r11.eq_1
def C.clock_Tree_Tick_b7 : ICode := .seq (.region C.clock_Tree_Tick_r11) C.clock_Tree_Tick_c6
def C.clock_Tree_Tick_b7_w := @awpE _ _ C.clock_Tree_Tick_b7.eq_1
def C.clock_Tree_Tick_c8 : ICode := .keep [0, 2, 4, 5, 33, 34] (.block 4 C.clock_Tree_Tick_b7)
def C.clock_Tree_Tick_c8_w := @awpE _ _ C.clock_Tree_Tick_c8.eq_1
def C.clock_Tree_Tick_r10_b : List IOper := [
 X.m 37 0,
 X.o 38 (.nilchk (X.s 37)),
 X.o 39 (.fldAddr 0 (X.s 38)),
 X.o 40 (.load1 (X.s 39)),
 X.m 41 4,
 X.o 42 (.idxAddr 11 (X.s 40) (X.s 41)),
 X.m 5 42]
def C.clock_Tree_Tick_r10 : List IOper := C.clock_Tree_Tick_r10_b
def C.clock_Tree_Tick_r10_w := @aopsE _ _ C.clock_Tree_Tick_r10.eq_1
def C.clock_Tree_Tick_c9 : ICode := .keep [0, 2, 4, 33, 34] (.seq (.region C.clock_Tree_Tick_r10) C.clock_Tree_Tick_c8)
def C.clock_Tree_Tick_c9_w := @awpE _ _ C.clock_Tree_Tick_c9.eq_1
def C.clock_Tree_Tick_r9_b : List IOper := [
 X.m 36 34,
 X.m 4 36]
def C.clock_Tree_Tick_r9 : List IOper := C.clock_Tree_Tick_r9_b
def C.clock_Tree_Tick_r9_w := @aopsE _ _ C.clock_Tree_Tick_r9.eq_1
def C.clock_Tree_Tick_b10 : ICode := .seq (.region C.clock_Tree_Tick_r9) C.clock_Tree_Tick_c9
def C.clock_Tree_Tick_b10_w := @awpE _ _ C.clock_Tree_Tick_b10.eq_1
def C.clock_Tree_Tick_c11 : ICode := .keep [0, 2, 33, 34] (.seq (.block 3 C.clock_Tree_Tick_b10) C.clock_Tree_Tick_c1)
def C.clock_Tree_Tick_c11_w := @awpE _ _ C.clock_Tree_Tick_c11.eq_1
def C.clock_Tree_Tick_c12 : ICode := .keep [0, 2, 33, 34, 35] (.seq (.cond (X.s 35) .skip (.exit 2)) C.clock_Tree_Tick_c11)
def C.clock_Tree_Tick_c12_w := @awpE _ _ C.clock_Tree_Tick_c12.eq_1
def C.clock_Tree_Tick_r8_b : List IOper := [
 X.o 35 (.bin .lss (X.s 34) (X.s 33))]
def C.clock_Tree_Tick_r8 : List IOper := C.clock_Tree_Tick_r8_b
def C.clock_Tree_Tick_r8_w := @aopsE _ _ C.clock_Tree_Tick_r8.eq_1
def C.clock_Tree_Tick_l13 : ICode := .keep [0, 2, 33, 34] (.seq (.region C.clock_Tree_Tick_r8) C.clock_Tree_Tick_c12)
def C.clock_Tree_Tick_l13_w := @awpE _ _ C.clock_Tree_Tick_l13.eq_1
def C.clock_Tree_Tick_b14 : ICode := .loop C.clock_Tree_Tick_l13
def C.clock_Tree_Tick_b14_w := @awpE _ _ C.clock_Tree_Tick_b14.eq_1
def C.clock_Tree_Tick_c15 : ICode := .keep [0, 2, 33, 34] (.block 2 C.clock_Tree_Tick_b14)
def C.clock_Tree_Tick_c15_w := @awpE _ _ C.clock_Tree_Tick_c15.eq_1
def C.clock_Tree_Tick_r7_b : List IOper := [
 X.m 29 0,
 X.o 30 (.nilchk (X.s 29)),
 X.o 31 (.fldAddr 0 (X.s 30)),
 X.o 32 (.load1 (X.s 31)),
 X.o 33 (.len (X.s 32)),
 X.o 34 (.move (X.i 0))]
def C.clock_Tree_Tick_r7 : List IOper := C.clock_Tree_Tick_r7_b
def C.clock_Tree_Tick_r7_w := @aopsE _ _ C.clock_Tree_Tick_r7.eq_1
def C.clock_Tree_Tick_c16 : ICode := .keep [0, 2] (.seq (.region C.clock_Tree_Tick_r7) C.clock_Tree_Tick_c15)
def C.clock_Tree_Tick_c16_w := @awpE _ _ C.clock_Tree_Tick_c16.eq_1
def C.clock_Tree_Tick_r6_b : List IOper := [
 X.o 28 (.bin .add (X.s 19) (X.i 1)),
 X.m 19 28]
def C.clock_Tree_Tick_r6 : List IOper := C.clock_Tree_Tick_r6_b
def C.clock_Tree_Tick_r6_w := @aopsE _ _ C.clock_Tree_Tick_r6.eq_1
def C.clock_Tree_Tick_c17 : ICode := .keep [0, 2, 18, 19] (.region C.clock_Tree_Tick_r6)
def C.clock_Tree_Tick_c17_w := @awpE _ _ C.clock_Tree_Tick_c17.eq_1
def C.clock_Tree_Tick_r5_b : List IOper := [
 X.m 22 2,
 X.m 23 3,
 X.m 24 0,
 X.m 25 3,
 X.o 26 (.call F.clock_Tree_Running [X.s 24, X.s 25]),
 X.o 27 (.idxAddr 1 (X.s 22) (X.s 23)),
 X.n (.store1 (X.s 27) (X.s 26))]
def C.clock_Tree_Tick_r5 : List IOper := C.clock_Tree_Tick_r5_b
def C.clock_Tree_Tick_r5_w := @aopsE _ _ C.clock_Tree_Tick_r5.eq_1
def C.clock_Tree_Tick_c18 : ICode := .keep [0, 2, 3, 18, 19] (.region C.clock_Tree_Tick_r5)
def C.clock_Tree_Tick_c18_w := @awpE _ _ C.clock_Tree_Tick_c18.eq_1
def C.clock_Tree_Tick_r4_b : List IOper := [
 X.m 21 19,
 X.m 3 21]
def C.clock_Tree_Tick_r4 : List IOper := C.clock_Tree_Tick_r4_b
def C.clock_Tree_Tick_r4_w := @aopsE _ _ C.clock_Tree_Tick_r4.eq_1
def C.clock_Tree_Tick_b19 : ICode := .seq (.region C.clock_Tree_Tick_r4) C.clock_Tree_Tick_c18
def C.clock_Tree_Tick_b19_w := @awpE _ _ C.clock_Tree_Tick_b19.eq_1
def C.clock_Tree_Tick_c20 : ICode := .keep [0, 2, 18, 19] (.seq (.block 1 C.clock_Tree_Tick_b19) C.clock_Tree_Tick_c17)
def C.clock_Tree_Tick_c20_w := @awpE _ _ C.clock_Tree_Tick_c20.eq_1
def C.clock_Tree_Tick_c21 : ICode := .keep [0, 2, 18, 19, 20] (.seq (.cond (X.s 20) .skip (.exit 0)) C.clock_Tree_Tick_c20)
def C.clock_Tree_Tick_c21_w := @awpE _ _ C.clock_Tree_Tick_c21.eq_1
def C.clock_Tree_Tick_r3_b : List IOper := [
 X.o 20 (.bin .lss (X.s 19) (X.s 18))]
def C.clock_Tree_Tick_r3 : List IOper := C.clock_Tree_Tick_r3_b
def C.clock_Tree_Tick_r3_w := @aopsE _ _ C.clock_Tree_Tick_r3.eq_1
def C.clock_Tree_Tick_l22 : ICode := .keep [0, 2, 18, 19] (.seq (.region C.clock_Tree_Tick_r3) C.clock_Tree_Tick_c21)
def C.clock_Tree_Tick_l22_w := @awpE _ _ C.clock_Tree_Tick_l22.eq_1
def C.clock_Tree_Tick_b23 : ICode := .loop C.clock_Tree_Tick_l22
def C.clock_Tree_Tick_b23_w := @awpE _ _ C.clock_Tree_Tick_b23.eq_1
def C.clock_Tree_Tick_c24 : ICode := .keep [0, 2, 18, 19] (.block 0 C.clock_Tree_Tick_b23)
def C.clock_Tree_Tick_c24_w := @awpE _ _ C.clock_Tree_Tick_c24.eq_1
def C.clock_Tree_Tick_r2_b : List IOper := [
 X.m 14 0,
 X.o 15 (.nilchk (X.s 14)),
 X.o 16 (.fldAddr 0 (X.s 15)),
 X.o 17 (.load1 (X.s 16)),
 X.o 18 (.len (X.s 17)),
 X.o 19 (.move (X.i 0))]
def C.clock_Tree_Tick_r2 : List IOper := C.clock_Tree_Tick_r2_b
def C.clock_Tree_Tick_r2_w := @aopsE _ _ C.clock_Tree_Tick_r2.eq_1
def C.clock_Tree_Tick_c25 : ICode := .keep [0, 2] (.seq (.seq (.region C.clock_Tree_Tick_r2) C.clock_Tree_Tick_c24) C.clock_Tree_Tick_c16)
def C.clock_Tree_Tick_c25_w := @awpE _ _ C.clock_Tree_Tick_c25.eq_1
def C.clock_Tree_Tick_r1_b : List IOper := [
 X.m 8 0,
 X.o 9 (.nilchk (X.s 8)),
 X.o 10 (.fldAddr 0 (X.s 9)),
 X.o 11 (.load1 (X.s 10)),
 X.o 12 (.len (X.s 11)),
 X.o 13 (.makeSlice 1 1 [.bool false] (X.s 12) (X.s 12)),
 X.m 2 13]
def C.clock_Tree_Tick_r1 : List IOper := C.clock_Tree_Tick_r1_b
def C.clock_Tree_Tick_r1_w := @aopsE _ _ C.clock_Tree_Tick_r1.eq_1
def C.clock_Tree_Tick_c26 : ICode := .keep [0] (.seq (.region C.clock_Tree_Tick_r1) C.clock_Tree_Tick_c25)
def C.clock_Tree_Tick_c26_w := @awpE _ _ C.clock_Tree_Tick_c26.eq_1
def C.clock_Tree_Tick_c27 : ICode := .keep [0, 7] (.cond (X.s 7) .ret .skip)
def C.clock_Tree_Tick_c27_w := @awpE _ _ C.clock_Tree_Tick_c27.eq_1
def C.clock_Tree_Tick_r0_b : List IOper := [
 X.m 6 0,
 X.o 7 (.eqP 0 false (X.s 6) (.cst (.nilp)))]
def C.clock_Tree_Tick_r0 : List IOper := C.clock_Tree_Tick_r0_b
def C.clock_Tree_Tick_r0_w := @aopsE _ _ C.clock_Tree_Tick_r0.eq_1
def C.clock_Tree_Tick : IFunc := ⟨1, [], .seq (.seq (.region C.clock_Tree_Tick_r0) C.clock_Tree_Tick_c27) C.clock_Tree_Tick_c26⟩
def C.clock_Tree_Tick_W := And.intro (And.intro (And.intro (And.intro (And.intro @C.clock_Tree_Tick_r17_w @C.clock_Tree_Tick_c1_w) (And.intro @C.clock_Tree_Tick_r12_w (And.intro @C.clock_Tree_Tick_r14_w @C.clock_Tree_Tick_r16_w))) (And.intro (And.intro @C.clock_Tree_Tick_c2_w @C.clock_Tree_Tick_r15_w) (And.intro @C.clock_Tree_Tick_c3_w (And.intro @C.clock_Tree_Tick_c4_w @C.clock_Tree_Tick_r13_w)))) (And.intro (And.intro (And.intro @C.clock_Tree_Tick_c5_w @C.clock_Tree_Tick_c6_w) (And.intro @C.clock_Tree_Tick_r11_w (And.intro @C.clock_Tree_Tick_b7_w @C.clock_Tree_Tick_c8_w))) (And.intro (And.intro @C.clock_Tree_Tick_r10_w (And.intro @C.clock_Tree_Tick_c9_w @C.clock_Tree_Tick_r9_w)) (And.intro @C.clock_Tree_Tick_b10_w (And.intro @C.clock_Tree_Tick_c11_w @C.clock_Tree_Tick_c12_w))))) (And.intro (And.intro (And.intro (And.intro @C.clock_Tree_Tick_r8_w @C.clock_Tree_Tick_b14_w) (And.intro @C.clock_Tree_Tick_c15_w (And.intro @C.clock_Tree_Tick_r7_w @C.clock_Tree_Tick_c16_w))) (And.intro (And.intro @C.clock_Tree_Tick_r6_w (And.intro @C.clock_Tree_Tick_c17_w @C.clock_Tree_Tick_r5_w)) (And.intro @C.clock_Tree_Tick_c18_w (And.intro @C.clock_Tree_Tick_r4_w @C.clock_Tree_Tick_b19_w)))) (And.intro (And.intro (And.intro @C.clock_Tree_Tick_c20_w @C.clock_Tree_Tick_c21_w) (And.intro @C.clock_Tree_Tick_r3_w (And.intro @C.clock_Tree_Tick_b23_w @C.clock_Tree_Tick_c24_w))) (And.intro (And.intro @C.clock_Tree_Tick_r2_w (And.intro @C.clock_Tree_Tick_c25_w @C.clock_Tree_Tick_r1_w)) (And.intro @C.clock_Tree_Tick_c26_w (And.intro @C.clock_Tree_Tick_c27_w @C.clock_Tree_Tick_r0_w)))))
def C.clock_Tree_Tick_B := And.intro (And.intro (And.intro (And.intro @C.clock_Tree_Tick_r17_b.eq_1 @C.clock_Tree_Tick_r12_b.eq_1) (And.intro @C.clock_Tree_Tick_r14_b.eq_1 @C.clock_Tree_Tick_r16_b.eq_1)) (And.intro (And.intro @C.clock_Tree_Tick_r15_b.eq_1 @C.clock_Tree_Tick_r13_b.eq_1) (And.intro @C.clock_Tree_Tick_r11_b.eq_1 (And.intro @C.clock_Tree_Tick_r10_b.eq_1 @C.clock_Tree_Tick_r9_b.eq_1)))) (And.intro (And.intro (And.intro @C.clock_Tree_Tick_r8_b.eq_1 @C.clock_Tree_Tick_r7_b.eq_1) (And.intro @C.clock_Tree_Tick_r6_b.eq_1 @C.clock_Tree_Tick_r5_b.eq_1)) (And.intro (And.intro @C.clock_Tree_Tick_r4_b.eq_1 @C.clock_Tree_Tick_r3_b.eq_1) (And.intro @C.clock_Tree_Tick_r2_b.eq_1 (And.intro @C.clock_Tree_Tick_r1_b.eq_1 @C.clock_Tree_Tick_r0_b.eq_1))))

def C.clock_Tree_Rate_r5_b : List IOper := [
 X.o 11 (.load1 (X.s 5)),
 X.m 12 1,
 X.o 13 (.callv (X.s 11) [X.s 12]),
 X.m 4 13]
def C.clock_Tree_Rate_r5 : List IOper := C.clock_Tree_Rate_r5_b
def C.clock_Tree_Rate_r5_w := @aopsE _ _ C.clock_Tree_Rate_r5.eq_1
def C.clock_Tree_Rate_c1 : ICode := .keep [1, 5] (.seq (.region C.clock_Tree_Rate_r5) .ret)
def C.clock_Tree_Rate_c1_w := @awpE _ _ C.clock_Tree_Rate_c1.eq_1
def C.clock_Tree_Rate_r4_b : List IOper := [
 X.o 10 (.makeFunc F.clock_Tree_Rate_1 [X.s 2, X.s 5]),
 X.n (.store1 (X.s 5) (X.s 10))]
def C.clock_Tree_Rate_r4 : List IOper := C.clock_Tree_Rate_r4_b
def C.clock_Tree_Rate_r4_w := @aopsE _ _ C.clock_Tree_Rate_r4.eq_1
def C.clock_Tree_Rate_c2 : ICode := .keep [1, 2, 5] (.seq (.region C.clock_Tree_Rate_r4) C.clock_Tree_Rate_c1)
def C.clock_Tree_Rate_c2_w := @awpE _ _ C.clock_Tree_Rate_c2.eq_1
def C.clock_Tree_Rate_r3_b : List IOper := [
 X.o 5 (.alloc [.nilf])]
def C.clock_Tree_Rate_r3 : List IOper := C.clock_Tree_Rate_r3_b
def C.clock_Tree_Rate_r3_w := @aopsE _ _ C.clock_Tree_Rate_r3.eq_1
def C.clock_Tree_Rate_c3 : ICode := .keep [1, 2] (.seq (.region C.clock_Tree_Rate_r3) C.clock_Tree_Rate_c2)
def C.clock_Tree_Rate_c3_w := @awpE _ _ C.clock_Tree_Rate_c3.eq_1
def C.clock_Tree_Rate_r2_b : List IOper := [
 X.o 4 (.move (.cst (.int .u64 0)))]
def C.clock_Tree_Rate_r2 : List IOper := C.clock_Tree_Rate_r2_b
def C.clock_Tree_Rate_r2_w := @aopsE _ _ C.clock_Tree_Rate_r2.eq_1
def C.clock_Tree_Rate_c4 : ICode := .seq (.region C.clock_Tree_Rate_r2) .ret
def C.clock_Tree_Rate_c4_w := @awpE _ _ C.clock_Tree_Rate_c4.eq_1
def C.clock_Tree_Rate_c5 : ICode := .keep [1, 2, 9] (.cond (X.s 9) C.clock_Tree_Rate_c4 .skip)
def C.clock_Tree_Rate_c5_w := @awpE _ _ C.clock_Tree_Rate_c5.eq_1
def C.clock_Tree_Rate_r1_b : List IOper := [
 X.o 6 (.load1 (X.s 2)),
 X.m 7 1,
 X.o 8 (.call F.clock_Tree_Running [X.s 6, X.s 7]),
 X.o 9 (.un .not (X.s 8))]
def C.clock_Tree_Rate_r1 : List IOper := C.clock_Tree_Rate_r1_b
def C.clock_Tree_Rate_r1_w := @aopsE _ _ C.clock_Tree_Rate_r1.eq_1
def C.clock_Tree_Rate_c6 : ICode := .keep [1, 2] (.seq (.seq (.region C.clock_Tree_Rate_r1) C.clock_Tree_Rate_c5) C.clock_Tree_Rate_c3)
def C.clock_Tree_Rate_c6_w := @awpE _ _ C.clock_Tree_Rate_c6.eq_1
def C.clock_Tree_Rate_r0_b : List IOper := [
 X.o 2 (.box1 (X.s 0)),
 X.o 4 (.move (.cst (.int .u64 0)))]
def C.clock_Tree_Rate_r0 : List IOper := C.clock_Tree_Rate_r0_b
def C.clock_Tree_Rate_r0_w := @aopsE _ _ C.clock_Tree_Rate_r0.eq_1
def C.clock_Tree_Rate : IFunc := ⟨2, [.slot 4], .seq (.region C.clock_Tree_Rate_r0) C.clock_Tree_Rate_c6⟩
def C.clock_Tree_Rate_W := And.intro (And.intro (And.intro @C.clock_Tree_Rate_r5_w (And.intro @C.clock_Tree_Rate_c1_w @C.clock_Tree_Rate_r4_w)) (And.intro @C.clock_Tree_Rate_c2_w (And.intro @C.clock_Tree_Rate_r3_w @C.clock_Tree_Rate_c3_w))) (And.intro (And.intro @C.clock_Tree_Rate_r2_w (And.intro @C.clock_Tree_Rate_c4_w @C.clock_Tree_Rate_c5_w)) (And.intro @C.clock_Tree_Rate_r1_w (And.intro @C.clock_Tree_Rate_c6_w @C.clock_Tree_Rate_r0_w)))
def C.clock_Tree_Rate_B := And.intro (And.intro @C.clock_Tree_Rate_r5_b.eq_1 (And.intro @C.clock_Tree_Rate_r4_b.eq_1 @C.clock_Tree_Rate_r3_b.eq_1)) (And.intro @C.clock_Tree_Rate_r2_b.eq_1 (And.intro @C.clock_Tree_Rate_r1_b.eq_1 @C.clock_Tree_Rate_r0_b.eq_1))

def C.catnaplaw6_chip_r50_b : List IOper := [
 X.o 351 (.loadN 4 (X.s 6)),
 X.n (.storeN 4 (X.s 2) (X.s 351))]
def C.catnaplaw6_chip_r50 : List IOper := C.catnaplaw6_chip_r50_b
def C.catnaplaw6_chip_r50_w := @aopsE _ _ C.catnaplaw6_chip_r50.eq_1
def C.catnaplaw6_chip_c1 : ICode := .keep [2, 6] (.seq (.region C.catnaplaw6_chip_r50) .ret)
def C.catnaplaw6_chip_c1_w := @awpE _ _ C.catnaplaw6_chip_c1.eq_1
def C.catnaplaw6_chip_r38_b : List IOper := [
 X.m 224 14,
 X.o 225 (.bin .add (X.s 224) (X.i 1)),
 X.m 14 225]
def C.catnaplaw6_chip_r38 : List IOper := C.catnaplaw6_chip_r38_b
def C.catnaplaw6_chip_r38_w := @aopsE _ _ C.catnaplaw6_chip_r38.eq_1
def C.catnaplaw6_chip_c2 : ICode := .keep [2, 4, 6, 14] (.region C.catnaplaw6_chip_r38)
def C.catnaplaw6_chip_c2_w := @awpE _ _ C.catnaplaw6_chip_c2.eq_1
def C.catnaplaw6_chip_r49_b : List IOper := [
 X.o 345 (.fldAddr 3 (X.s 6)),
 X.o 346 (.load1 (X.s 345)),
 X.o 347 (.loadN 6 (X.s 16)),
 X.o 348 (.buildSlice 6 1 [.int .i64 0, .int .i64 0, .int .i64 0, .int .u32 0, .nils, .nils] [(0, 6, X.s 347)]),
 X.o 349 (.append 6 80 (X.s 346) (X.s 348)),
 X.o 350 (.fldAddr 3 (X.s 6)),
 X.n (.store1 (X.s 350) (X.s 349))]
def C.catnaplaw6_chip_r49 : List IOper := C.catnaplaw6_chip_r49_b
def C.catnaplaw6_chip_r49_w := @aopsE _ _ C.catnaplaw6_chip_r49.eq_1
def C.catnaplaw6_chip_c3 : ICode := .keep [2, 4, 6, 14, 16] (.region C.catnaplaw6_chip_r49)
def C.catnaplaw6_chip_c3_w := @awpE _ _ C.catnaplaw6_chip_c3.eq_1
def C.catnaplaw6_chip_r48_b : List IOper := [
 X.o 332 (.fldAddr 5 (X.s 16)),
 X.o 333 (.load1 (X.s 332)),
 X.m 334 4,
 X.m 335 15,
 X.o 336 (.bin .add (X.s 335) (X.i 11)),
 X.o 337 (.idxAddr 1 (X.s 334) (X.s 336)),
 X.o 338 (.load1 (X.s 337)),
 X.o 339 (.bin .quo (X.s 338) (X.i 3)),
 X.m 340 14,
 X.o 341 (.bin .rem (X.s 339) (X.s 340)),
 X.o 342 (.buildSlice 1 1 [.int .i64 0] [(0, 1, X.s 341)]),
 X.o 343 (.append 1 8 (X.s 333) (X.s 342)),
 X.o 344 (.fldAddr 5 (X.s 16)),
 X.n (.store1 (X.s 344) (X.s 343))]
def C.catnaplaw6_chip_r48 : List IOper := C.catnaplaw6_chip_r48_b
def C.catnaplaw6_chip_r48_w := @aopsE _ _ C.catnaplaw6_chip_r48.eq_1
def C.catnaplaw6_chip_c4 : ICode := .keep [2, 4, 6, 14, 15, 16, 331] (.cond (X.s 331) (.region C.catnaplaw6_chip_r48) .skip)
def C.catnaplaw6_chip_c4_w := @awpE _ _ C.catnaplaw6_chip_c4.eq_1
def C.catnaplaw6_chip_r47_b : List IOper := [
 X.m 321 14,
 X.o 322 (.bin .gtr (X.s 321) (X.i 1)),
 X.m 323 322,
 X.t 323 324 (.move (X.s 4)),
 X.t 323 325 (.move (X.s 15)),
 X.t 323 326 (.bin .add (X.s 325) (X.i 11)),
 X.t 323 327 (.idxAddr 1 (X.s 324) (X.s 326)),
 X.t 323 328 (.load1 (X.s 327)),
 X.t 323 329 (.bin .rem (X.s 328) (X.i 3)),
 X.t 323 330 (.bin .eql (X.s 329) (X.i 1)),
 X.o 331 (.pick (X.s 323) (X.s 330) (.cst (.bool false)))]
def C.catnaplaw6_chip_r47 : List IOper := C.catnaplaw6_chip_r47_b
def C.catnaplaw6_chip_r47_w := @aopsE _ _ C.catnaplaw6_chip_r47.eq_1
def C.catnaplaw6_chip_c5 : ICode := .keep [2, 4, 6, 14, 15, 16] (.seq (.seq (.region C.catnaplaw6_chip_r47) C.catnaplaw6_chip_c4) C.catnaplaw6_chip_c3)
def C.catnaplaw6_chip_c5_w := @awpE _ _ C.catnaplaw6_chip_c5.eq_1
def C.catnaplaw6_chip_r46_b : List IOper := [
 X.o 309 (.fldAddr 5 (X.s 16)),
 X.o 310 (.load1 (X.s 309)),
 X.m 311 4,
 X.m 312 15,
 X.o 313 (.bin .add (X.s 312) (X.i 10)),
 X.o 314 (.idxAddr 1 (X.s 311) (X.s 313)),
 X.o 315 (.load1 (X.s 314)),
 X.m 316 14,
 X.o 317 (.bin .rem (X.s 315) (X.s 316)),
 X.o 318 (.buildSlice 1 1 [.int .i64 0] [(0, 1, X.s 317)]),
 X.o 319 (.append 1 8 (X.s 310) (X.s 318)),
 X.o 320 (.fldAddr 5 (X.s 16)),
 X.n (.store1 (X.s 320) (X.s 319))]
def C.catnaplaw6_chip_r46 : List IOper := C.catnaplaw6_chip_r46_b
def C.catnaplaw6_chip_r46_w := @aopsE _ _ C.catnaplaw6_chip_r46.eq_1
def C.catnaplaw6_chip_c6 : ICode := .keep [2, 4, 6, 14, 15, 16, 308] (.cond (X.s 308) (.region C.catnaplaw6_chip_r46) .skip)
def C.catnaplaw6_chip_c6_w := @awpE _ _ C.catnaplaw6_chip_c6.eq_1
def C.catnaplaw6_chip_r45_b : List IOper := [
 X.m 298 14,
 X.o 299 (.bin .gtr (X.s 298) (X.i 0)),
 X.m 300 299,
 X.t 300 301 (.move (X.s 4)),
 X.t 300 302 (.move (X.s 15)),
 X.t 300 303 (.bin .add (X.s 302) (X.i 9)),
 X.t 300 304 (.idxAddr 1 (X.s 301) (X.s 303)),
 X.t 300 305 (.load1 (X.s 304)),
 X.t 300 306 (.bin .rem (X.s 305) (X.i 2)),
 X.t 300 307 (.bin .eql (X.s 306) (X.i 1)),
 X.o 308 (.pick (X.s 300) (X.s 307) (.cst (.bool false)))]
def C.catnaplaw6_chip_r45 : List IOper := C.catnaplaw6_chip_r45_b
def C.catnaplaw6_chip_r45_w := @aopsE _ _ C.catnaplaw6_chip_r45.eq_1
def C.catnaplaw6_chip_c7 : ICode := .keep [2, 4, 6, 14, 15, 16] (.seq (.seq (.region C.catnaplaw6_chip_r45) C.catnaplaw6_chip_c6) C.catnaplaw6_chip_c5)
def C.catnaplaw6_chip_c7_w := @awpE _ _ C.catnaplaw6_chip_c7.eq_1
def C.catnaplaw6_chip_r43_b : List IOper := [
 X.m 271 17,
 X.o 272 (.bin .add (X.s 271) (X.i 1)),
 X.m 17 272]
def C.catnaplaw6_chip_r43 : List IOper := C.catnaplaw6_chip_r43_b
def C.catnaplaw6_chip_r43_w := @aopsE _ _ C.catnaplaw6_chip_r43.eq_1
def C.catnaplaw6_chip_c8 : ICode := .keep [2, 4, 6, 14, 15, 16, 17] (.region C.catnaplaw6_chip_r43)
def C.catnaplaw6_chip_c8_w := @awpE _ _ C.catnaplaw6_chip_c8.eq_1
def C.catnaplaw6_chip_r44_b : List IOper := [
 X.o 273 (.fldAddr 4 (X.s 16)),
 X.o 274 (.load1 (X.s 273)),
 X.m 275 4,
 X.m 276 15,
 X.o 277 (.bin .add (X.s 276) (X.i 5)),
 X.m 278 17,
 X.o 279 (.bin .add (X.s 277) (X.s 278)),
 X.o 280 (.idxAddr 1 (X.s 275) (X.s 279)),
 X.o 281 (.load1 (X.s 280)),
 X.o 282 (.bin .rem (X.s 281) (X.i 7)),
 X.o 283 (.conv .u32 (X.s 282)),
 X.m 284 4,
 X.m 285 15,
 X.o 286 (.bin .add (X.s 285) (X.i 5)),
 X.m 287 17,
 X.o 288 (.bin .add (X.s 286) (X.s 287)),
 X.o 289 (.idxAddr 1 (X.s 284) (X.s 288)),
 X.o 290 (.load1 (X.s 289)),
 X.o 291 (.bin .quo (X.s 290) (X.i 7)),
 X.o 292 (.bin .rem (X.s 291) (X.i 2)),
 X.o 293 (.bin .eql (X.s 292) (X.i 0)),
 X.o 294 (.build [.int .u32 0, .bool false] [(0, 1, X.s 283), (1, 1, X.s 293)]),
 X.o 295 (.buildSlice 2 1 [.int .u32 0, .bool false] [(0, 2, X.s 294)]),
 X.o 296 (.append 2 8 (X.s 274) (X.s 295)),
 X.o 297 (.fldAddr 4 (X.s 16)),
 X.n (.store1 (X.s 297) (X.s 296))]
def C.catnaplaw6_chip_r44 : List IOper := C.catnaplaw6_chip_r44_b
def C.catnaplaw6_chip_r44_w := @aopsE _ _ C.catnaplaw6_chip_r44.eq_1
def C.catnaplaw6_chip_b9 : ICode := .region C.catnaplaw6_chip_r44
def C.catnaplaw6_chip_b9_w := @awpE _ _ C.catnaplaw6_chip_b9.eq_1
def C.catnaplaw6_chip_c10 : ICode := .keep [2, 4, 6, 14, 15, 16, 17] (.seq (.block 12 C.catnaplaw6_chip_b9) C.catnaplaw6_chip_c8)
def C.catnaplaw6_chip_c10_w := @awpE _ _ C.catnaplaw6_chip_c10.eq_1
def C.catnaplaw6_chip_c11 : ICode := .keep [2, 4, 6, 14, 15, 16, 17, 270] (.cond (X.s 270) .skip (.exit 11))
def C.catnaplaw6_chip_c11_w := @awpE _ _ C.catnaplaw6_chip_c11.eq_1
def C.catnaplaw6_chip_r42_b : List IOper := [
 X.m 263 17,
 X.m 264 4,
 X.m 265 15,
 X.o 266 (.bin .add (X.s 265) (X.i 4)),
 X.o 267 (.idxAddr 1 (X.s 264) (X.s 266)),
 X.o 268 (.load1 (X.s 267)),
 X.o 269 (.bin .rem (X.s 268) (X.i 5)),
 X.o 270 (.bin .lss (X.s 263) (X.s 269))]
def C.catnaplaw6_chip_r42 : List IOper := C.catnaplaw6_chip_r42_b
def C.catnaplaw6_chip_r42_w := @aopsE _ _ C.catnaplaw6_chip_r42.eq_1
def C.catnaplaw6_chip_l12 : ICode := .keep [2, 4, 6, 14, 15, 16, 17] (.seq (.seq (.region C.catnaplaw6_chip_r42) C.catnaplaw6_chip_c11) C.catnaplaw6_chip_c10)
def C.catnaplaw6_chip_l12_w := @awpE _ _ C.catnaplaw6_chip_l12.eq_1
def C.catnaplaw6_chip_b13 : ICode := .loop C.catnaplaw6_chip_l12
def C.catnaplaw6_chip_b13_w := @awpE _ _ C.catnaplaw6_chip_b13.eq_1
def C.catnaplaw6_chip_c14 : ICode := .keep [2, 4, 6, 14, 15, 16, 17] (.block 11 C.catnaplaw6_chip_b13)
def C.catnaplaw6_chip_c14_w := @awpE _ _ C.catnaplaw6_chip_c14.eq_1
def C.catnaplaw6_chip_r41_b : List IOper := [
 X.o 17 (.move (X.i 0))]
def C.catnaplaw6_chip_r41 : List IOper := C.catnaplaw6_chip_r41_b
def C.catnaplaw6_chip_r41_w := @aopsE _ _ C.catnaplaw6_chip_r41.eq_1
def C.catnaplaw6_chip_c15 : ICode := .keep [2, 4, 6, 14, 15, 16] (.seq (.seq (.region C.catnaplaw6_chip_r41) C.catnaplaw6_chip_c14) C.catnaplaw6_chip_c7)
def C.catnaplaw6_chip_c15_w := @awpE _ _ C.catnaplaw6_chip_c15.eq_1
def C.catnaplaw6_chip_r40_b : List IOper := [
 X.m 229 4,
 X.m 230 15,
 X.o 231 (.idxAddr 1 (X.s 229) (X.s 230)),
 X.o 232 (.load1 (X.s 231)),
 X.o 233 (.fldAddr 0 (X.s 6)),
 X.o 234 (.load1 (X.s 233)),
 X.o 235 (.len (X.s 234)),
 X.o 236 (.bin .rem (X.s 232) (X.s 235)),
 X.m 237 4,
 X.m 238 15,
 X.o 239 (.bin .add (X.s 238) (X.i 1)),
 X.o 240 (.idxAddr 1 (X.s 237) (X.s 239)),
 X.o 241 (.load1 (X.s 240)),
 X.o 242 (.fldAddr 1 (X.s 6)),
 X.o 243 (.load1 (X.s 242)),
 X.o 244 (.len (X.s 243)),
 X.o 245 (.bin .rem (X.s 241) (X.s 244)),
 X.m 246 4,
 X.m 247 15,
 X.o 248 (.bin .add (X.s 247) (X.i 2)),
 X.o 249 (.idxAddr 1 (X.s 246) (X.s 248)),
 X.o 250 (.load1 (X.s 249)),
 X.o 251 (.fldAddr 2 (X.s 6)),
 X.o 252 (.load1 (X.s 251)),
 X.o 253 (.len (X.s 252)),
 X.o 254 (.bin .rem (X.s 250) (X.s 253)),
 X.m 255 4,
 X.m 256 15,
 X.o 257 (.bin .add (X.s 256) (X.i 3)),
 X.o 258 (.idxAddr 1 (X.s 255) (X.s 257)),
 X.o 259 (.load1 (X.s 258)),
 X.o 260 (.bin .rem (X.s 259) (X.i 3)),
 X.o 261 (.conv .u32 (X.s 260)),
 X.o 262 (.build [.int .i64 0, .int .i64 0, .int .i64 0, .int .u32 0, .nils, .nils] [(0, 1, X.s 236), (1, 1, X.s 245), (2, 1, X.s 254), (3, 1, X.s 261)]),
 X.o 16 (.alloc [.int .i64 0, .int .i64 0, .int .i64 0, .int .u32 0, .nils, .nils]),
 X.n (.storeN 6 (X.s 16) (X.s 262))]
def C.catnaplaw6_chip_r40 : List IOper := C.catnaplaw6_chip_r40_b
def C.catnaplaw6_chip_r40_w := @aopsE _ _ C.catnaplaw6_chip_r40.eq_1
def C.catnaplaw6_chip_c16 : ICode := .keep [2, 4, 6, 14, 15] (.seq (.region C.catnaplaw6_chip_r40) C.catnaplaw6_chip_c15)
def C.catnaplaw6_chip_c16_w := @awpE _ _ C.catnaplaw6_chip_c16.eq_1
def C.catnaplaw6_chip_r39_b : List IOper := [
 X.m 226 14,
 X.o 227 (.bin .mul (X.i 12) (X.s 226)),
 X.o 228 (.bin .add (X.i 60) (X.s 227)),
 X.m 15 228]
def C.catnaplaw6_chip_r39 : List IOper := C.catnaplaw6_chip_r39_b
def C.catnaplaw6_chip_r39_w := @aopsE _ _ C.catnaplaw6_chip_r39.eq_1
def C.catnaplaw6_chip_b17 : ICode := .seq (.region C.catnaplaw6_chip_r39) C.catnaplaw6_chip_c16
def C.catnaplaw6_chip_b17_w := @awpE _ _ C.catnaplaw6_chip_b17.eq_1
def C.catnaplaw6_chip_c18 : ICode := .keep [2, 4, 6, 14] (.seq (.block 10 C.catnaplaw6_chip_b17) C.catnaplaw6_chip_c2)
def C.catnaplaw6_chip_c18_w := @awpE _ _ C.catnaplaw6_chip_c18.eq_1
def C.catnaplaw6_chip_c19 : ICode := .keep [2, 4, 6, 14, 223] (.cond (X.s 223) .skip (.exit 9))
def C.catnaplaw6_chip_c19_w := @awpE _ _ C.catnaplaw6_chip_c19.eq_1
def C.catnaplaw6_chip_r37_b : List IOper := [
 X.m 217 14,
 X.m 218 4,
 X.o 219 (.idxAddr 1 (X.s 218) (X.i 4)),
 X.o 220 (.load1 (X.s 219)),
 X.o 221 (.bin .rem (X.s 220) (X.i 4)),
 X.o 222 (.bin .add (X.i 1) (X.s 221)),
 X.o 223 (.bin .lss (X.s 217) (X.s 222))]
def C.catnaplaw6_chip_r37 : List IOper := C.catnaplaw6_chip_r37_b
def C.catnaplaw6_chip_r37_w := @aopsE _ _ C.catnaplaw6_chip_r37.eq_1
def C.catnaplaw6_chip_l20 : ICode := .keep [2, 4, 6, 14] (.seq (.seq (.region C.catnaplaw6_chip_r37) C.catnaplaw6_chip_c19) C.catnaplaw6_chip_c18)
def C.catnaplaw6_chip_l20_w := @awpE _ _ C.catnaplaw6_chip_l20.eq_1
def C.catnaplaw6_chip_b21 : ICode := .loop C.catnaplaw6_chip_l20
def C.catnaplaw6_chip_b21_w := @awpE _ _ C.catnaplaw6_chip_b21.eq_1
def C.catnaplaw6_chip_c22 : ICode := .keep [2, 4, 6, 14] (.block 9 C.catnaplaw6_chip_b21)
def C.catnaplaw6_chip_c22_w := @awpE _ _ C.catnaplaw6_chip_c22.eq_1
def C.catnaplaw6_chip_r36_b : List IOper := [
 X.o 14 (.move (X.i 0))]
def C.catnaplaw6_chip_r36 : List IOper := C.catnaplaw6_chip_r36_b
def C.catnaplaw6_chip_r36_w := @aopsE _ _ C.catnaplaw6_chip_r36.eq_1
def C.catnaplaw6_chip_c23 : ICode := .keep [2, 4, 6] (.seq (.seq (.region C.catnaplaw6_chip_r36) C.catnaplaw6_chip_c22) C.catnaplaw6_chip_c1)
def C.catnaplaw6_chip_c23_w := @awpE _ _ C.catnaplaw6_chip_c23.eq_1
def C.catnaplaw6_chip_r34_b : List IOper := [
 X.m 203 13,
 X.o 204 (.bin .add (X.s 203) (X.i 1)),
 X.m 13 204]
def C.catnaplaw6_chip_r34 : List IOper := C.catnaplaw6_chip_r34_b
def C.catnaplaw6_chip_r34_w := @aopsE _ _ C.catnaplaw6_chip_r34.eq_1
def C.catnaplaw6_chip_c24 : ICode := .keep [2, 4, 6, 13] (.region C.catnaplaw6_chip_r34)
def C.catnaplaw6_chip_c24_w := @awpE _ _ C.catnaplaw6_chip_c24.eq_1
def C.catnaplaw6_chip_r35_b : List IOper := [
 X.o 205 (.fldAddr 2 (X.s 6)),
 X.o 206 (.load1 (X.s 205)),
 X.m 207 4,
 X.m 208 13,
 X.o 209 (.bin .add (X.i 50) (X.s 208)),
 X.o 210 (.idxAddr 1 (X.s 207) (X.s 209)),
 X.o 211 (.load1 (X.s 210)),
 X.o 212 (.bin .rem (X.s 211) (X.i 4)),
 X.o 213 (.build [.int .i64 0] [(0, 1, X.s 212)]),
 X.o 214 (.buildSlice 1 1 [.int .i64 0] [(0, 1, X.s 213)]),
 X.o 215 (.append 1 8 (X.s 206) (X.s 214)),
 X.o 216 (.fldAddr 2 (X.s 6)),
 X.n (.store1 (X.s 216) (X.s 215))]
def C.catnaplaw6_chip_r35 : List IOper := C.catnaplaw6_chip_r35_b
def C.catnaplaw6_chip_r35_w := @aopsE _ _ C.catnaplaw6_chip_r35.eq_1
def C.catnaplaw6_chip_b25 : ICode := .region C.catnaplaw6_chip_r35
def C.catnaplaw6_chip_b25_w := @awpE _ _ C.catnaplaw6_chip_b25.eq_1
def C.catnaplaw6_chip_c26 : ICode := .keep [2, 4, 6, 13] (.seq (.block 8 C.catnaplaw6_chip_b25) C.catnaplaw6_chip_c24)
def C.catnaplaw6_chip_c26_w := @awpE _ _ C.catnaplaw6_chip_c26.eq_1
def C.catnaplaw6_chip_c27 : ICode := .keep [2, 4, 6, 13, 202] (.cond (X.s 202) .skip (.exit 7))
def C.catnaplaw6_chip_c27_w := @awpE _ _ C.catnaplaw6_chip_c27.eq_1
def C.catnaplaw6_chip_r33_b : List IOper := [
 X.m 196 13,
 X.m 197 4,
 X.o 198 (.idxAddr 1 (X.s 197) (X.i 3)),
 X.o 199 (.load1 (X.s 198)),
 X.o 200 (.bin .rem (X.s 199) (X.i 3)),
 X.o 201 (.bin .add (X.i 1) (X.s 200)),
 X.o 202 (.bin .lss (X.s 196) (X.s 201))]
def C.catnaplaw6_chip_r33 : List IOper := C.catnaplaw6_chip_r33_b
def C.catnaplaw6_chip_r33_w := @aopsE _ _ C.catnaplaw6_chip_r33.eq_1
def C.catnaplaw6_chip_l28 : ICode := .keep [2, 4, 6, 13] (.seq (.seq (.region C.catnaplaw6_chip_r33) C.catnaplaw6_chip_c27) C.catnaplaw6_chip_c26)
def C.catnaplaw6_chip_l28_w := @awpE _ _ C.catnaplaw6_chip_l28.eq_1
def C.catnaplaw6_chip_b29 : ICode := .loop C.catnaplaw6_chip_l28
def C.catnaplaw6_chip_b29_w := @awpE _ _ C.catnaplaw6_chip_b29.eq_1
def C.catnaplaw6_chip_c30 : ICode := .keep [2, 4, 6, 13] (.block 7 C.catnaplaw6_chip_b29)
def C.catnaplaw6_chip_c30_w := @awpE _ _ C.catnaplaw6_chip_c30.eq_1
def C.catnaplaw6_chip_r32_b : List IOper := [
 X.o 13 (.move (X.i 0))]
def C.catnaplaw6_chip_r32 : List IOper := C.catnaplaw6_chip_r32_b
def C.catnaplaw6_chip_r32_w := @aopsE _ _ C.catnaplaw6_chip_r32.eq_1
def C.catnaplaw6_chip_c31 : ICode := .keep [2, 4, 6] (.seq (.seq (.region C.catnaplaw6_chip_r32) C.catnaplaw6_chip_c30) C.catnaplaw6_chip_c23)
def C.catnaplaw6_chip_c31_w := @awpE _ _ C.catnaplaw6_chip_c31.eq_1
def C.catnaplaw6_chip_r27_b : List IOper := [
 X.m 153 11,
 X.o 154 (.bin .add (X.s 153) (X.i 1)),
 X.m 11 154]
def C.catnaplaw6_chip_r27 : List IOper := C.catnaplaw6_chip_r27_b
def C.catnaplaw6_chip_r27_w := @aopsE _ _ C.catnaplaw6_chip_r27.eq_1
def C.catnaplaw6_chip_c32 : ICode := .keep [2, 4, 6, 11] (.region C.catnaplaw6_chip_r27)
def C.catnaplaw6_chip_c32_w := @awpE _ _ C.catnaplaw6_chip_c32.eq_1
def C.catnaplaw6_chip_r31_b : List IOper := [
 X.o 190 (.fldAddr 1 (X.s 6)),
 X.o 191 (.load1 (X.s 190)),
 X.o 192 (.loadN 3 (X.s 12)),
 X.o 193 (.buildSlice 3 1 [.int .i64 0, .int .i64 0, .bool false] [(0, 3, X.s 192)]),
 X.o 194 (.append 3 24 (X.s 191) (X.s 193)),
 X.o 195 (.fldAddr 1 (X.s 6)),
 X.n (.store1 (X.s 195) (X.s 194))]
def C.catnaplaw6_chip_r31 : List IOper := C.catnaplaw6_chip_r31_b
def C.catnaplaw6_chip_r31_w := @aopsE _ _ C.catnaplaw6_chip_r31.eq_1
def C.catnaplaw6_chip_c33 : ICode := .keep [2, 4, 6, 11, 12] (.region C.catnaplaw6_chip_r31)
def C.catnaplaw6_chip_c33_w := @awpE _ _ C.catnaplaw6_chip_c33.eq_1
def C.catnaplaw6_chip_r30_b : List IOper := [
 X.m 181 4,
 X.m 182 11,
 X.o 183 (.bin .add (X.i 44) (X.s 182)),
 X.o 184 (.idxAddr 1 (X.s 181) (X.s 183)),
 X.o 185 (.load1 (X.s 184)),
 X.o 186 (.bin .quo (X.s 185) (X.i 3)),
 X.m 187 11,
 X.o 188 (.bin .rem (X.s 186) (X.s 187)),
 X.o 189 (.fldAddr 0 (X.s 12)),
 X.n (.store1 (X.s 189) (X.s 188))]
def C.catnaplaw6_chip_r30 : List IOper := C.catnaplaw6_chip_r30_b
def C.catnaplaw6_chip_r30_w := @aopsE _ _ C.catnaplaw6_chip_r30.eq_1
def C.catnaplaw6_chip_c34 : ICode := .keep [2, 4, 6, 11, 12, 180] (.cond (X.s 180) (.region C.catnaplaw6_chip_r30) .skip)
def C.catnaplaw6_chip_c34_w := @awpE _ _ C.catnaplaw6_chip_c34.eq_1
def C.catnaplaw6_chip_r29_b : List IOper := [
 X.m 170 11,
 X.o 171 (.bin .gtr (X.s 170) (X.i 0)),
 X.m 172 171,
 X.t 172 173 (.move (X.s 4)),
 X.t 172 174 (.move (X.s 11)),
 X.t 172 175 (.bin .add (X.i 44) (X.s 174)),
 X.t 172 176 (.idxAddr 1 (X.s 173) (X.s 175)),
 X.t 172 177 (.load1 (X.s 176)),
 X.t 172 178 (.bin .rem (X.s 177) (X.i 3)),
 X.t 172 179 (.bin .gtr (X.s 178) (X.i 0)),
 X.o 180 (.pick (X.s 172) (X.s 179) (.cst (.bool false)))]
def C.catnaplaw6_chip_r29 : List IOper := C.catnaplaw6_chip_r29_b
def C.catnaplaw6_chip_r29_w := @aopsE _ _ C.catnaplaw6_chip_r29.eq_1
def C.catnaplaw6_chip_c35 : ICode := .keep [2, 4, 6, 11, 12] (.seq (.seq (.region C.catnaplaw6_chip_r29) C.catnaplaw6_chip_c34) C.catnaplaw6_chip_c33)
def C.catnaplaw6_chip_c35_w := @awpE _ _ C.catnaplaw6_chip_c35.eq_1
def C.catnaplaw6_chip_r28_b : List IOper := [
 X.m 155 4,
 X.m 156 11,
 X.o 157 (.bin .add (X.i 40) (X.s 156)),
 X.o 158 (.idxAddr 1 (X.s 155) (X.s 157)),
 X.o 159 (.load1 (X.s 158)),
 X.o 160 (.bin .rem (X.s 159) (X.i 4)),
 X.m 161 4,
 X.m 162 11,
 X.o 163 (.bin .add (X.i 40) (X.s 162)),
 X.o 164 (.idxAddr 1 (X.s 161) (X.s 163)),
 X.o 165 (.load1 (X.s 164)),
 X.o 166 (.bin .quo (X.s 165) (X.i 4)),
 X.o 167 (.bin .rem (X.s 166) (X.i 2)),
 X.o 168 (.bin .eql (X.s 167) (X.i 1)),
 X.o 169 (.build [.int .i64 0, .int .i64 0, .bool false] [(0, 1, X.i (-1)), (1, 1, X.s 160), (2, 1, X.s 168)]),
 X.o 12 (.alloc [.int .i64 0, .int .i64 0, .bool false]),
 X.n (.storeN 3 (X.s 12) (X.s 169))]
def C.catnaplaw6_chip_r28 : List IOper := C.catnaplaw6_chip_r28_b
def C.catnaplaw6_chip_r28_w := @aopsE _ _ C.catnaplaw6_chip_r28.eq_1
def C.catnaplaw6_chip_b36 : ICode := .seq (.region C.catnaplaw6_chip_r28) C.catnaplaw6_chip_c35
def C.catnaplaw6_chip_b36_w := @awpE _ _ C.catnaplaw6_chip_b36.eq_1
def C.catnaplaw6_chip_c37 : ICode := .keep [2, 4, 6, 11] (.seq (.block 6 C.catnaplaw6_chip_b36) C.catnaplaw6_chip_c32)
def C.catnaplaw6_chip_c37_w := @awpE _ _ C.catnaplaw6_chip_c37.eq_1
def C.catnaplaw6_chip_c38 : ICode := .keep [2, 4, 6, 11, 152] (.cond (X.s 152) .skip (.exit 5))
def C.catnaplaw6_chip_c38_w := @awpE _ _ C.catnaplaw6_chip_c38.eq_1
def C.catnaplaw6_chip_r26_b : List IOper := [
 X.m 146 11,
 X.m 147 4,
 X.o 148 (.idxAddr 1 (X.s 147) (X.i 2)),
 X.o 149 (.load1 (X.s 148)),
 X.o 150 (.bin .rem (X.s 149) (X.i 4)),
 X.o 151 (.bin .add (X.i 1) (X.s 150)),
 X.o 152 (.bin .lss (X.s 146) (X.s 151))]
def C.catnaplaw6_chip_r26 : List IOper := C.catnaplaw6_chip_r26_b
def C.catnaplaw6_chip_r26_w := @aopsE _ _ C.catnaplaw6_chip_r26.eq_1
def C.catnaplaw6_chip_l39 : ICode := .keep [2, 4, 6, 11] (.seq (.seq (.region C.catnaplaw6_chip_r26) C.catnaplaw6_chip_c38) C.catnaplaw6_chip_c37)
def C.catnaplaw6_chip_l39_w := @awpE _ _ C.catnaplaw6_chip_l39.eq_1
def C.catnaplaw6_chip_b40 : ICode := .loop C.catnaplaw6_chip_l39
def C.catnaplaw6_chip_b40_w := @awpE _ _ C.catnaplaw6_chip_b40.eq_1
def C.catnaplaw6_chip_c41 : ICode := .keep [2, 4, 6, 11] (.block 5 C.catnaplaw6_chip_b40)
def C.catnaplaw6_chip_c41_w := @awpE _ _ C.catnaplaw6_chip_c41.eq_1
def C.catnaplaw6_chip_r25_b : List IOper := [
 X.o 11 (.move (X.i 0))]
def C.catnaplaw6_chip_r25 : List IOper := C.catnaplaw6_chip_r25_b
def C.catnaplaw6_chip_r25_w := @aopsE _ _ C.catnaplaw6_chip_r25.eq_1
def C.catnaplaw6_chip_c42 : ICode := .keep [2, 4, 6] (.seq (.seq (.region C.catnaplaw6_chip_r25) C.catnaplaw6_chip_c41) C.catnaplaw6_chip_c31)
def C.catnaplaw6_chip_c42_w := @awpE _ _ C.catnaplaw6_chip_c42.eq_1
def C.catnaplaw6_chip_r12_b : List IOper := [
 X.m 62 8,
 X.o 63 (.bin .add (X.s 62) (X.i 1)),
 X.m 8 63]
def C.catnaplaw6_chip_r12 : List IOper := C.catnaplaw6_chip_r12_b
def C.catnaplaw6_chip_r12_w := @aopsE _ _ C.catnaplaw6_chip_r12.eq_1
def C.catnaplaw6_chip_c43 : ICode := .keep [2, 3, 4, 6, 7, 8] (.region C.catnaplaw6_chip_r12)
def C.catnaplaw6_chip_c43_w := @awpE _ _ C.catnaplaw6_chip_c43.eq_1
def C.catnaplaw6_chip_r24_b : List IOper := [
 X.o 140 (.fldAddr 0 (X.s 6)),
 X.o 141 (.load1 (X.s 140)),
 X.o 142 (.loadN 6 (X.s 10)),
 X.o 143 (.buildSlice 6 1 [.int .u8 0, .nils, .int .u64 0, .int .i64 0, .int .i64 0, .int .i64 0] [(0, 6, X.s 142)]),
 X.o 144 (.append 6 64 (X.s 141) (X.s 143)),
 X.o 145 (.fldAddr 0 (X.s 6)),
 X.n (.store1 (X.s 145) (X.s 144))]
def C.catnaplaw6_chip_r24 : List IOper := C.catnaplaw6_chip_r24_b
def C.catnaplaw6_chip_r24_w := @aopsE _ _ C.catnaplaw6_chip_r24.eq_1
def C.catnaplaw6_chip_c44 : ICode := .keep [2, 3, 4, 6, 7, 8, 10] (.region C.catnaplaw6_chip_r24)
def C.catnaplaw6_chip_c44_w := @awpE _ _ C.catnaplaw6_chip_c44.eq_1
def C.catnaplaw6_chip_r19_b : List IOper := [
 X.m 106 4,
 X.m 107 9,
 X.o 108 (.bin .add (X.s 107) (X.i 2)),
 X.o 109 (.idxAddr 1 (X.s 106) (X.s 108)),
 X.o 110 (.load1 (X.s 109)),
 X.o 111 (.bin .quo (X.s 110) (X.i 32)),
 X.o 112 (.bin .rem (X.s 111) (X.i 4)),
 X.o 113 (.fldAddr 5 (X.s 10)),
 X.n (.store1 (X.s 113) (X.s 112))]
def C.catnaplaw6_chip_r19 : List IOper := C.catnaplaw6_chip_r19_b
def C.catnaplaw6_chip_r19_w := @aopsE _ _ C.catnaplaw6_chip_r19.eq_1
def C.catnaplaw6_chip_c45 : ICode := .keep [2, 3, 4, 6, 7, 8, 9, 10] (.region C.catnaplaw6_chip_r19)
def C.catnaplaw6_chip_c45_w := @awpE _ _ C.catnaplaw6_chip_c45.eq_1
def C.catnaplaw6_chip_r18_b : List IOper := [
 X.m 97 4,
 X.m 98 9,
 X.o 99 (.bin .add (X.s 98) (X.i 2)),
 X.o 100 (.idxAddr 1 (X.s 97) (X.s 99)),
 X.o 101 (.load1 (X.s 100)),
 X.o 102 (.bin .quo (X.s 101) (X.i 8)),
 X.o 103 (.bin .rem (X.s 102) (X.i 4)),
 X.o 104 (.bin .add (X.i 1) (X.s 103)),
 X.o 105 (.fldAddr 4 (X.s 10)),
 X.n (.store1 (X.s 105) (X.s 104))]
def C.catnaplaw6_chip_r18 : List IOper := C.catnaplaw6_chip_r18_b
def C.catnaplaw6_chip_r18_w := @aopsE _ _ C.catnaplaw6_chip_r18.eq_1
def C.catnaplaw6_chip_c46 : ICode := .keep [2, 3, 4, 6, 7, 8, 9, 10] (.seq (.region C.catnaplaw6_chip_r18) C.catnaplaw6_chip_c45)
def C.catnaplaw6_chip_c46_w := @awpE _ _ C.catnaplaw6_chip_c46.eq_1
def C.catnaplaw6_chip_r17_b : List IOper := [
 X.m 89 4,
 X.m 90 9,
 X.o 91 (.bin .add (X.s 90) (X.i 2)),
 X.o 92 (.idxAddr 1 (X.s 89) (X.s 91)),
 X.o 93 (.load1 (X.s 92)),
 X.o 94 (.bin .rem (X.s 93) (X.i 8)),
 X.o 95 (.bin .add (X.i 1) (X.s 94)),
 X.o 96 (.fldAddr 3 (X.s 10)),
 X.n (.store1 (X.s 96) (X.s 95))]
def C.catnaplaw6_chip_r17 : List IOper := C.catnaplaw6_chip_r17_b
def C.catnaplaw6_chip_r17_w := @aopsE _ _ C.catnaplaw6_chip_r17.eq_1
def C.catnaplaw6_chip_r21_b : List IOper := [
 X.m 116 4,
 X.m 117 9,
 X.o 118 (.bin .add (X.s 117) (X.i 2)),
 X.o 119 (.idxAddr 1 (X.s 116) (X.s 118)),
 X.o 120 (.load1 (X.s 119)),
 X.o 121 (.bin .rem (X.s 120) (X.i 8)),
 X.o 122 (.bin .add (X.i 1) (X.s 121)),
 X.o 123 (.fldAddr 4 (X.s 10)),
 X.n (.store1 (X.s 123) (X.s 122))]
def C.catnaplaw6_chip_r21 : List IOper := C.catnaplaw6_chip_r21_b
def C.catnaplaw6_chip_r21_w := @aopsE _ _ C.catnaplaw6_chip_r21.eq_1
def C.catnaplaw6_chip_r23_b : List IOper := [
 X.o 126 (.fldAddr 1 (X.s 10)),
 X.o 127 (.load1 (X.s 126)),
 X.m 128 4,
 X.m 129 9,
 X.o 130 (.bin .add (X.s 129) (X.i 2)),
 X.o 131 (.idxAddr 1 (X.s 128) (X.s 130)),
 X.o 132 (.load1 (X.s 131)),
 X.o 133 (.fldAddr 0 (X.s 6)),
 X.o 134 (.load1 (X.s 133)),
 X.o 135 (.len (X.s 134)),
 X.o 136 (.bin .rem (X.s 132) (X.s 135)),
 X.o 137 (.buildSlice 1 1 [.int .i64 0] [(0, 1, X.s 136)]),
 X.o 138 (.append 1 8 (X.s 127) (X.s 137)),
 X.o 139 (.fldAddr 1 (X.s 10)),
 X.n (.store1 (X.s 139) (X.s 138))]
def C.catnaplaw6_chip_r23 : List IOper := C.catnaplaw6_chip_r23_b
def C.catnaplaw6_chip_r23_w := @aopsE _ _ C.catnaplaw6_chip_r23.eq_1
def C.catnaplaw6_chip_c47 : ICode := .keep [2, 3, 4, 6, 7, 8, 9, 10, 124] (.cond (X.s 124) (.region C.catnaplaw6_chip_r23) .skip)
def C.catnaplaw6_chip_c47_w := @awpE _ _ C.catnaplaw6_chip_c47.eq_1
def C.catnaplaw6_chip_r22_b : List IOper := [
 X.o 125 (.bin .eql (X.s 86) (.cst (.int .u8 109))),
 X.m 124 125]
def C.catnaplaw6_chip_r22 : List IOper := C.catnaplaw6_chip_r22_b
def C.catnaplaw6_chip_r22_w := @aopsE _ _ C.catnaplaw6_chip_r22.eq_1
def C.catnaplaw6_chip_c48 : ICode := .seq (.region C.catnaplaw6_chip_r22) C.catnaplaw6_chip_c47
def C.catnaplaw6_chip_c48_w := @awpE _ _ C.catnaplaw6_chip_c48.eq_1
def C.catnaplaw6_chip_c49 : ICode := .keep [2, 3, 4, 6, 7, 8, 9, 10, 86, 114] (.cond (X.s 114) (.region C.catnaplaw6_chip_r21) C.catnaplaw6_chip_c48)
def C.catnaplaw6_chip_c49_w := @awpE _ _ C.catnaplaw6_chip_c49.eq_1
def C.catnaplaw6_chip_r20_b : List IOper := [
 X.o 115 (.bin .eql (X.s 86) (.cst (.int .u8 100))),
 X.m 114 115]
def C.catnaplaw6_chip_r20 : List IOper := C.catnaplaw6_chip_r20_b
def C.catnaplaw6_chip_r20_w := @aopsE _ _ C.catnaplaw6_chip_r20.eq_1
def C.catnaplaw6_chip_c50 : ICode := .seq (.region C.catnaplaw6_chip_r17) C.catnaplaw6_chip_c46
def C.catnaplaw6_chip_c50_w := @awpE _ _ C.catnaplaw6_chip_c50.eq_1
def C.catnaplaw6_chip_c51 : ICode := .seq (.region C.catnaplaw6_chip_r20) C.catnaplaw6_chip_c49
def C.catnaplaw6_chip_c51_w := @awpE _ _ C.catnaplaw6_chip_c51.eq_1
def C.catnaplaw6_chip_c52 : ICode := .keep [2, 3, 4, 6, 7, 8, 9, 10, 86, 87] (.cond (X.s 87) C.catnaplaw6_chip_c50 C.catnaplaw6_chip_c51)
def C.catnaplaw6_chip_c52_w := @awpE _ _ C.catnaplaw6_chip_c52.eq_1
def C.catnaplaw6_chip_r16_b : List IOper := [
 X.o 88 (.bin .eql (X.s 86) (.cst (.int .u8 112))),
 X.m 87 88]
def C.catnaplaw6_chip_r16 : List IOper := C.catnaplaw6_chip_r16_b
def C.catnaplaw6_chip_r16_w := @aopsE _ _ C.catnaplaw6_chip_r16.eq_1
def C.catnaplaw6_chip_b53 : ICode := .seq (.region C.catnaplaw6_chip_r16) C.catnaplaw6_chip_c52
def C.catnaplaw6_chip_b53_w := @awpE _ _ C.catnaplaw6_chip_b53.eq_1
def C.catnaplaw6_chip_c54 : ICode := .keep [2, 3, 4, 6, 7, 8, 9, 10, 86] (.block 4 C.catnaplaw6_chip_b53)
def C.catnaplaw6_chip_c54_w := @awpE _ _ C.catnaplaw6_chip_c54.eq_1
def C.catnaplaw6_chip_r15_b : List IOper := [
 X.o 85 (.fldAddr 0 (X.s 10)),
 X.o 86 (.load1 (X.s 85))]
def C.catnaplaw6_chip_r15 : List IOper := C.catnaplaw6_chip_r15_b
def C.catnaplaw6_chip_r15_w := @aopsE _ _ C.catnaplaw6_chip_r15.eq_1
def C.catnaplaw6_chip_c55 : ICode := .keep [2, 3, 4, 6, 7, 8, 9, 10] (.seq (.seq (.region C.catnaplaw6_chip_r15) C.catnaplaw6_chip_c54) C.catnaplaw6_chip_c44)
def C.catnaplaw6_chip_c55_w := @awpE _ _ C.catnaplaw6_chip_c55.eq_1
def C.catnaplaw6_chip_r14_b : List IOper := [
 X.m 67 7,
 X.m 68 4,
 X.m 69 9,
 X.o 70 (.idxAddr 1 (X.s 68) (X.s 69)),
 X.o 71 (.load1 (X.s 70)),
 X.o 72 (.bin .rem (X.s 71) (X.i 5)),
 X.o 73 (.strIdx (X.s 67) (X.s 72)),
 X.m 74 4,
 X.m 75 9,
 X.o 76 (.bin .add (X.s 75) (X.i 1)),
 X.o 77 (.idxAddr 1 (X.s 74) (X.s 76)),
 X.o 78 (.load1 (X.s 77)),
 X.o 79 (.fldAddr 0 (X.s 6)),
 X.o 80 (.load1 (X.s 79)),
 X.o 81 (.len (X.s 80)),
 X.o 82 (.bin .rem (X.s 78) (X.s 81)),
 X.o 83 (.buildSlice 1 1 [.int .i64 0] [(0, 1, X.s 82)]),
 X.o 84 (.build [.int .u8 0, .nils, .int .u64 0, .int .i64 0, .int .i64 0, .int .i64 0] [(0, 1, X.s 73), (1, 1, X.s 83)]),
 X.o 10 (.alloc [.int .u8 0, .nils, .int .u64 0, .int .i64 0, .int .i64 0, .int .i64 0]),
 X.n (.storeN 6 (X.s 10) (X.s 84))]
def C.catnaplaw6_chip_r14 : List IOper := C.catnaplaw6_chip_r14_b
def C.catnaplaw6_chip_r14_w := @aopsE _ _ C.catnaplaw6_chip_r14.eq_1
def C.catnaplaw6_chip_c56 : ICode := .keep [2, 3, 4, 6, 7, 8, 9] (.seq (.region C.catnaplaw6_chip_r14) C.catnaplaw6_chip_c55)
def C.catnaplaw6_chip_c56_w := @awpE _ _ C.catnaplaw6_chip_c56.eq_1
def C.catnaplaw6_chip_r13_b : List IOper := [
 X.m 64 8,
 X.o 65 (.bin .mul (X.i 3) (X.s 64)),
 X.o 66 (.bin .add (X.i 10) (X.s 65)),
 X.m 9 66]
def C.catnaplaw6_chip_r13 : List IOper := C.catnaplaw6_chip_r13_b
def C.catnaplaw6_chip_r13_w := @aopsE _ _ C.catnaplaw6_chip_r13.eq_1
def C.catnaplaw6_chip_b57 : ICode := .seq (.region C.catnaplaw6_chip_r13) C.catnaplaw6_chip_c56
def C.catnaplaw6_chip_b57_w := @awpE _ _ C.catnaplaw6_chip_b57.eq_1
def C.catnaplaw6_chip_c58 : ICode := .keep [2, 3, 4, 6, 7, 8] (.seq (.block 3 C.catnaplaw6_chip_b57) C.catnaplaw6_chip_c43)
def C.catnaplaw6_chip_c58_w := @awpE _ _ C.catnaplaw6_chip_c58.eq_1
def C.catnaplaw6_chip_c59 : ICode := .keep [2, 3, 4, 6, 7, 8, 61] (.cond (X.s 61) .skip (.exit 2))
def C.catnaplaw6_chip_c59_w := @awpE _ _ C.catnaplaw6_chip_c59.eq_1
def C.catnaplaw6_chip_r11_b : List IOper := [
 X.m 55 8,
 X.m 56 4,
 X.m 57 3,
 X.o 58 (.idxAddr 1 (X.s 56) (X.s 57)),
 X.o 59 (.load1 (X.s 58)),
 X.o 60 (.bin .rem (X.s 59) (X.i 9)),
 X.o 61 (.bin .lss (X.s 55) (X.s 60))]
def C.catnaplaw6_chip_r11 : List IOper := C.catnaplaw6_chip_r11_b
def C.catnaplaw6_chip_r11_w := @aopsE _ _ C.catnaplaw6_chip_r11.eq_1
def C.catnaplaw6_chip_l60 : ICode := .keep [2, 3, 4, 6, 7, 8] (.seq (.seq (.region C.catnaplaw6_chip_r11) C.catnaplaw6_chip_c59) C.catnaplaw6_chip_c58)
def C.catnaplaw6_chip_l60_w := @awpE _ _ C.catnaplaw6_chip_l60.eq_1
def C.catnaplaw6_chip_b61 : ICode := .loop C.catnaplaw6_chip_l60
def C.catnaplaw6_chip_b61_w := @awpE _ _ C.catnaplaw6_chip_b61.eq_1
def C.catnaplaw6_chip_c62 : ICode := .keep [2, 3, 4, 6, 7, 8] (.block 2 C.catnaplaw6_chip_b61)
def C.catnaplaw6_chip_c62_w := @awpE _ _ C.catnaplaw6_chip_c62.eq_1
def C.catnaplaw6_chip_r10_b : List IOper := [
 X.o 8 (.move (X.i 0))]
def C.catnaplaw6_chip_r10 : List IOper := C.catnaplaw6_chip_r10_b
def C.catnaplaw6_chip_r10_w := @aopsE _ _ C.catnaplaw6_chip_r10.eq_1
def C.catnaplaw6_chip_c63 : ICode := .keep [2, 3, 4, 6, 7] (.seq (.seq (.region C.catnaplaw6_chip_r10) C.catnaplaw6_chip_c62) C.catnaplaw6_chip_c42)
def C.catnaplaw6_chip_c63_w := @awpE _ _ C.catnaplaw6_chip_c63.eq_1
def C.catnaplaw6_chip_r9_b : List IOper := [
 X.o 7 (.move (.cst (.str [112, 100, 103, 109, 103])))]
def C.catnaplaw6_chip_r9 : List IOper := C.catnaplaw6_chip_r9_b
def C.catnaplaw6_chip_r9_w := @aopsE _ _ C.catnaplaw6_chip_r9.eq_1
def C.catnaplaw6_chip_c64 : ICode := .keep [2, 3, 4, 6] (.seq (.region C.catnaplaw6_chip_r9) C.catnaplaw6_chip_c63)
def C.catnaplaw6_chip_c64_w := @awpE _ _ C.catnaplaw6_chip_c64.eq_1
def C.catnaplaw6_chip_r8_b : List IOper := [
 X.o 3 (.move (X.i 1))]
def C.catnaplaw6_chip_r8 : List IOper := C.catnaplaw6_chip_r8_b
def C.catnaplaw6_chip_r8_w := @aopsE _ _ C.catnaplaw6_chip_r8.eq_1
def C.catnaplaw6_chip_c65 : ICode := .keep [2, 4, 6] (.seq (.region C.catnaplaw6_chip_r8) C.catnaplaw6_chip_c64)
def C.catnaplaw6_chip_c65_w := @awpE _ _ C.catnaplaw6_chip_c65.eq_1
def C.catnaplaw6_chip_r7_b : List IOper := [
 X.m 47 4,
 X.o 48 (.idxAddr 1 (X.s 47) (X.i 0)),
 X.o 49 (.load1 (X.s 48)),
 X.o 50 (.bin .add (X.i 1) (X.s 49)),
 X.o 51 (.conv .u64 (X.s 50)),
 X.o 52 (.build [.int .u8 0, .nils, .int .u64 0, .int .i64 0, .int .i64 0, .int .i64 0] [(0, 1, .cst (.int .u8 111)), (2, 1, X.s 51)]),
 X.o 53 (.buildSlice 6 1 [.int .u8 0, .nils, .int .u64 0, .int .i64 0, .int .i64 0, .int .i64 0] [(0, 6, X.s 52)]),
 X.o 54 (.build [.nils, .nils, .nils, .nils] [(0, 1, X.s 53)]),
 X.o 6 (.alloc [.nils, .nils, .nils, .nils]),
 X.n (.storeN 4 (X.s 6) (X.s 54))]
def C.catnaplaw6_chip_r7 : List IOper := C.catnaplaw6_chip_r7_b
def C.catnaplaw6_chip_r7_w := @aopsE _ _ C.catnaplaw6_chip_r7.eq_1
def C.catnaplaw6_chip_c66 : ICode := .keep [2, 4] (.seq (.region C.catnaplaw6_chip_r7) C.catnaplaw6_chip_c65)
def C.catnaplaw6_chip_c66_w := @awpE _ _ C.catnaplaw6_chip_c66.eq_1
def C.catnaplaw6_chip_r5_b : List IOper := [
 X.m 28 5,
 X.o 29 (.bin .add (X.s 28) (X.i 1)),
 X.m 5 29]
def C.catnaplaw6_chip_r5 : List IOper := C.catnaplaw6_chip_r5_b
def C.catnaplaw6_chip_r5_w := @aopsE _ _ C.catnaplaw6_chip_r5.eq_1
def C.catnaplaw6_chip_c67 : ICode := .keep [0, 2, 4, 5] (.region C.catnaplaw6_chip_r5)
def C.catnaplaw6_chip_c67_w := @awpE _ _ C.catnaplaw6_chip_c67.eq_1
def C.catnaplaw6_chip_r6_b : List IOper := [
 X.m 30 4,
 X.m 31 5,
 X.m 32 0,
 X.m 33 5,
 X.m 34 0,
 X.o 35 (.len (X.s 34)),
 X.o 36 (.bin .rem (X.s 33) (X.s 35)),
 X.o 37 (.idxAddr 1 (X.s 32) (X.s 36)),
 X.o 38 (.load1 (X.s 37)),
 X.m 39 5,
 X.m 40 0,
 X.o 41 (.len (X.s 40)),
 X.o 42 (.bin .quo (X.s 39) (X.s 41)),
 X.o 43 (.bin .add (X.i 1) (X.s 42)),
 X.o 44 (.bin .quo (X.s 38) (X.s 43)),
 X.o 45 (.call F.catnaplaw6_pick [X.s 44, X.i 1000000]),
 X.o 46 (.idxAddr 1 (X.s 30) (X.s 31)),
 X.n (.store1 (X.s 46) (X.s 45))]
def C.catnaplaw6_chip_r6 : List IOper := C.catnaplaw6_chip_r6_b
def C.catnaplaw6_chip_r6_w := @aopsE _ _ C.catnaplaw6_chip_r6.eq_1
def C.catnaplaw6_chip_b68 : ICode := .region C.catnaplaw6_chip_r6
def C.catnaplaw6_chip_b68_w := @awpE _ _ C.catnaplaw6_chip_b68.eq_1
def C.catnaplaw6_chip_c69 : ICode := .keep [0, 2, 4, 5] (.seq (.block 1 C.catnaplaw6_chip_b68) C.catnaplaw6_chip_c67)
def C.catnaplaw6_chip_c69_w := @awpE _ _ C.catnaplaw6_chip_c69.eq_1
def C.catnaplaw6_chip_c70 : ICode := .keep [0, 2, 4, 5, 27] (.cond (X.s 27) .skip (.exit 0))
def C.catnaplaw6_chip_c70_w := @awpE _ _ C.catnaplaw6_chip_c70.eq_1
def C.catnaplaw6_chip_r4_b : List IOper := [
 X.m 19 5,
 X.m 20 4,
 X.o 21 (.len (X.s 20)),
 X.o 22 (.bin .lss (X.s 19) (X.s 21)),
 X.m 23 22,
 X.t 23 24 (.move (X.s 0)),
 X.t 23 25 (.len (X.s 24)),
 X.t 23 26 (.bin .gtr (X.s 25) (X.i 0)),
 X.o 27 (.pick (X.s 23) (X.s 26) (.cst (.bool false)))]
def C.catnaplaw6_chip_r4 : List IOper := C.catnaplaw6_chip_r4_b
def C.catnaplaw6_chip_r4_w := @aopsE _ _ C.catnaplaw6_chip_r4.eq_1
def C.catnaplaw6_chip_l71 : ICode := .keep [0, 2, 4, 5] (.seq (.seq (.region C.catnaplaw6_chip_r4) C.catnaplaw6_chip_c70) C.catnaplaw6_chip_c69)
def C.catnaplaw6_chip_l71_w := @awpE _ _ C.catnaplaw6_chip_l71.eq_1
def C.catnaplaw6_chip_b72 : ICode := .loop C.catnaplaw6_chip_l71
def C.catnaplaw6_chip_b72_w := @awpE _ _ C.catnaplaw6_chip_b72.eq_1
def C.catnaplaw6_chip_c73 : ICode := .keep [0, 2, 4, 5] (.block 0 C.catnaplaw6_chip_b72)
def C.catnaplaw6_chip_c73_w := @awpE _ _ C.catnaplaw6_chip_c73.eq_1
def C.catnaplaw6_chip_r3_b : List IOper := [
 X.o 5 (.move (X.i 0))]
def C.catnaplaw6_chip_r3 : List IOper := C.catnaplaw6_chip_r3_b
def C.catnaplaw6_chip_r3_w := @aopsE _ _ C.catnaplaw6_chip_r3.eq_1
def C.catnaplaw6_chip_c74 : ICode := .keep [0, 2, 4] (.seq (.seq (.region C.catnaplaw6_chip_r3) C.catnaplaw6_chip_c73) C.catnaplaw6_chip_c66)
def C.catnaplaw6_chip_c74_w := @awpE _ _ C.catnaplaw6_chip_c74.eq_1
def C.catnaplaw6_chip_r2_b : List IOper := [
 X.o 18 (.makeSlice 1 8 [.int .i64 0] (X.i 120) (X.i 120)),
 X.m 4 18]
def C.catnaplaw6_chip_r2 : List IOper := C.catnaplaw6_chip_r2_b
def C.catnaplaw6_chip_r2_w := @aopsE _ _ C.catnaplaw6_chip_r2.eq_1
def C.catnaplaw6_chip_c75 : ICode := .keep [0, 2] (.seq (.region C.catnaplaw6_chip_r2) C.catnaplaw6_chip_c74)
def C.catnaplaw6_chip_c75_w := @awpE _ _ C.catnaplaw6_chip_c75.eq_1
def C.catnaplaw6_chip_r1_b : List IOper := [
 X.o 3 (.move (X.i 0))]
def C.catnaplaw6_chip_r1 : List IOper := C.catnaplaw6_chip_r1_b
def C.catnaplaw6_chip_r1_w := @aopsE _ _ C.catnaplaw6_chip_r1.eq_1
def C.catnaplaw6_chip_c76 : ICode := .keep [0, 2] (.seq (.region C.catnaplaw6_chip_r1) C.catnaplaw6_chip_c75)
def C.catnaplaw6_chip_c76_w := @awpE _ _ C.catnaplaw6_chip_c76.eq_1
def C.catnaplaw6_chip_r0_b : List IOper := [
 X.o 2 (.alloc [.nils, .nils, .nils, .nils])]
def C.catnaplaw6_chip_r0 : List IOper := C.catnaplaw6_chip_r0_b
def C.catnaplaw6_chip_r0_w := @aopsE _ _ C.catnaplaw6_chip_r0.eq_1
def C.catnaplaw6_chip : IFunc := ⟨1, [.cellN 2 4], .seq (.region C.catnaplaw6_chip_r0) C.catnaplaw6_chip_c76⟩
def C.catnaplaw6_chip_W := And.intro (And.intro (And.intro (And.intro (And.intro (And.intro @C.catnaplaw6_chip_r50_w (And.intro @C.catnaplaw6_chip_c1_w @C.catnaplaw6_chip_r38_w)) (And.intro (And.intro @C.catnaplaw6_chip_c2_w @C.catnaplaw6_chip_r49_w) (And.intro @C.catnaplaw6_chip_c3_w @C.catnaplaw6_chip_r48_w))) (And.intro (And.intro (And.intro @C.catnaplaw6_chip_c4_w @C.catnaplaw6_chip_r47_w) (And.intro @C.catnaplaw6_chip_c5_w @C.catnaplaw6_chip_r46_w)) (And.intro (And.intro @C.catnaplaw6_chip_c6_w @C.catnaplaw6_chip_r45_w) (And.intro @C.catnaplaw6_chip_c7_w @C.catnaplaw6_chip_r43_w)))) (And.intro (And.intro (And.intro @C.catnaplaw6_chip_c8_w (And.intro @C.catnaplaw6_chip_r44_w @C.catnaplaw6_chip_b9_w)) (And.intro (And.intro @C.catnaplaw6_chip_c10_w @C.catnaplaw6_chip_c11_w) (And.intro @C.catnaplaw6_chip_r42_w @C.catnaplaw6_chip_b13_w))) (And.intro (And.intro (And.intro @C.catnaplaw6_chip_c14_w @C.catnaplaw6_chip_r41_w) (And.intro @C.catnaplaw6_chip_c15_w @C.catnaplaw6_chip_r40_w)) (And.intro (And.intro @C.catnaplaw6_chip_c16_w @C.catnaplaw6_chip_r39_w) (And.intro @C.catnaplaw6_chip_b17_w @C.catnaplaw6_chip_c18_w))))) (And.intro (And.intro (And.intro (And.intro @C.catnaplaw6_chip_c19_w (And.intro @C.catnaplaw6_chip_r37_w @C.catnaplaw6_chip_b21_w)) (And.intro (And.intro @C.catnaplaw6_chip_c22_w @C.catnaplaw6_chip_r36_w) (And.intro @C.catnaplaw6_chip_c23_w @C.catnaplaw6_chip_r34_w))) (And.intro (And.intro (And.intro @C.catnaplaw6_chip_c24_w @C.catnaplaw6_chip_r35_w) (And.intro @C.catnaplaw6_chip_b25_w @C.catnaplaw6_chip_c26_w)) (And.intro (And.intro @C.catnaplaw6_chip_c27_w @C.catnaplaw6_chip_r33_w) (And.intro @C.catnaplaw6_chip_b29_w @C.catnaplaw6_chip_c30_w)))) (And.intro (And.intro (And.intro @C.catnaplaw6_chip_r32_w (And.intro @C.catnaplaw6_chip_c31_w @C.catnaplaw6_chip_r27_w)) (And.intro (And.intro @C.catnaplaw6_chip_c32_w @C.catnaplaw6_chip_r31_w) (And.intro @C.catnaplaw6_chip_c33_w @C.catnaplaw6_chip_r30_w))) (And.intro (And.intro (And.intro @C.catnaplaw6_chip_c34_w @C.catnaplaw6_chip_r29_w) (And.intro @C.catnaplaw6_chip_c35_w @C.catnaplaw6_chip_r28_w)) (And.intro (And.intro @C.catnaplaw6_chip_b36_w @C.catnaplaw6_chip_c37_w) (And.intro @C.catnaplaw6_chip_c38_w @C.catnaplaw6_chip_r26_w)))))) (And.intro (And.intro (And.intro (And.intro (And.intro @C.catnaplaw6_chip_b40_w (And.intro @C.catnaplaw6_chip_c41_w @C.catnaplaw6_chip_r25_w)) (And.intro (And.intro @C.catnaplaw6_chip_c42_w @C.catnaplaw6_chip_r12_w) (And.intro @C.catnaplaw6_chip_c43_w @C.catnaplaw6_chip_r24_w))) (And.intro (And.intro (And.intro @C.catnaplaw6_chip_c44_w @C.catnaplaw6_chip_r19_w) (And.intro @C.catnaplaw6_chip_c45_w @C.catnaplaw6_chip_r18_w)) (And.intro (And.intro @C.catnaplaw6_chip_c46_w @C.catnaplaw6_chip_r17_w) (And.intro @C.catnaplaw6_chip_r21_w @C.catnaplaw6_chip_r23_w)))) (And.intro (And.intro (And.intro @C.catnaplaw6_chip_c47_w (And.intro @C.catnaplaw6_chip_r22_w @C.catnaplaw6_chip_c48_w)) (And.intro (And.intro @C.catnaplaw6_chip_c49_w @C.catnaplaw6_chip_r20_w) (And.intro @C.catnaplaw6_chip_c50_w @C.catnaplaw6_chip_c51_w))) (And.intro (And.intro (And.intro @C.catnaplaw6_chip_c52_w @C.catnaplaw6_chip_r16_w) (And.intro @C.catnaplaw6_chip_b53_w @C.catnaplaw6_chip_c54_w)) (And.intro (And.intro @C.catnaplaw6_chip_r15_w @C.catnaplaw6_chip_c55_w) (And.intro @C.catnaplaw6_chip_r14_w @C.catnaplaw6_chip_c56_w))))) (And.intro (And.intro (And.intro (And.intro @C.catnaplaw6_chip_r13_w (And.intro @C.catnaplaw6_chip_b57_w @C.catnaplaw6_chip_c58_w)) (And.intro (And.intro @C.catnaplaw6_chip_c59_w @C.catnaplaw6_chip_r11_w) (And.intro @C.catnaplaw6_chip_b61_w @C.catnaplaw6_chip_c62_w))) (And.intro (And.intro (And.intro @C.catnaplaw6_chip_r10_w @C.catnaplaw6_chip_c63_w) (And.intro @C.catnaplaw6_chip_r9_w @C.catnaplaw6_chip_c64_w)) (And.intro (And.intro @C.catnaplaw6_chip_r8_w @C.catnaplaw6_chip_c65_w) (And.intro @C.catnaplaw6_chip_r7_w @C.catnaplaw6_chip_c66_w)))) (And.intro (And.intro (And.intro (And.intro @C.catnaplaw6_chip_r5_w @C.catnaplaw6_chip_c67_w) (And.intro @C.catnaplaw6_chip_r6_w @C.catnaplaw6_chip_b68_w)) (And.intro (And.intro @C.catnaplaw6_chip_c69_w @C.catnaplaw6_chip_c70_w) (And.intro @C.catnaplaw6_chip_r4_w @C.catnaplaw6_chip_b72_w))) (And.intro (And.intro (And.intro @C.catnaplaw6_chip_c73_w @C.catnaplaw6_chip_r3_w) (And.intro @C.catnaplaw6_chip_c74_w @C.catnaplaw6_chip_r2_w)) (And.intro (And.intro @C.catnaplaw6_chip_c75_w @C.catnaplaw6_chip_r1_w) (And.intro @C.catnaplaw6_chip_c76_w @C.catnaplaw6_chip_r0_w))))))
def C.catnaplaw6_chip_B := And.intro (And.intro (And.intro (And.intro (And.intro @C.catnaplaw6_chip_r50_b.eq_1 (And.intro @C.catnaplaw6_chip_r38_b.eq_1 @C.catnaplaw6_chip_r49_b.eq_1)) (And.intro @C.catnaplaw6_chip_r48_b.eq_1 (And.intro @C.catnaplaw6_chip_r47_b.eq_1 @C.catnaplaw6_chip_r46_b.eq_1))) (And.intro (And.intro @C.catnaplaw6_chip_r45_b.eq_1 (And.intro @C.catnaplaw6_chip_r43_b.eq_1 @C.catnaplaw6_chip_r44_b.eq_1)) (And.intro @C.catnaplaw6_chip_r42_b.eq_1 (And.intro @C.catnaplaw6_chip_r41_b.eq_1 @C.catnaplaw6_chip_r40_b.eq_1)))) (And.intro (And.intro (And.intro @C.catnaplaw6_chip_r39_b.eq_1 (And.intro @C.catnaplaw6_chip_r37_b.eq_1 @C.catnaplaw6_chip_r36_b.eq_1)) (And.intro @C.catnaplaw6_chip_r34_b.eq_1 (And.intro @C.catnaplaw6_chip_r35_b.eq_1 @C.catnaplaw6_chip_r33_b.eq_1))) (And.intro (And.intro @C.catnaplaw6_chip_r32_b.eq_1 (And.intro @C.catnaplaw6_chip_r27_b.eq_1 @C.catnaplaw6_chip_r31_b.eq_1)) (And.intro (And.intro @C.catnaplaw6_chip_r30_b.eq_1 @C.catnaplaw6_chip_r29_b.eq_1) (And.intro @C.catnaplaw6_chip_r28_b.eq_1 @C.catnaplaw6_chip_r26_b.eq_1))))) (And.intro (And.intro (And.intro (And.intro @C.catnaplaw6_chip_r25_b.eq_1 (And.intro @C.catnaplaw6_chip_r12_b.eq_1 @C.catnaplaw6_chip_r24_b.eq_1)) (And.intro @C.catnaplaw6_chip_r19_b.eq_1 (And.intro @C.catnaplaw6_chip_r18_b.eq_1 @C.catnaplaw6_chip_r17_b.eq_1))) (And.intro (And.intro @C.catnaplaw6_chip_r21_b.eq_1 (And.intro @C.catnaplaw6_chip_r23_b.eq_1 @C.catnaplaw6_chip_r22_b.eq_1)) (And.intro (And.intro @C.catnaplaw6_chip_r20_b.eq_1 @C.catnaplaw6_chip_r16_b.eq_1) (And.intro @C.catnaplaw6_chip_r15_b.eq_1 @C.catnaplaw6_chip_r14_b.eq_1)))) (And.intro (And.intro (And.intro @C.catnaplaw6_chip_r13_b.eq_1 (And.intro @C.catnaplaw6_chip_r11_b.eq_1 @C.catnaplaw6_chip_r10_b.eq_1)) (And.intro @C.catnaplaw6_chip_r9_b.eq_1 (And.intro @C.catnaplaw6_chip_r8_b.eq_1 @C.catnaplaw6_chip_r7_b.eq_1))) (And.intro (And.intro @C.catnaplaw6_chip_r5_b.eq_1 (And.intro @C.catnaplaw6_chip_r6_b.eq_1 @C.catnaplaw6_chip_r4_b.eq_1)) (And.intro (And.intro @C.catnaplaw6_chip_r3_b.eq_1 @C.catnaplaw6_chip_r2_b.eq_1) (And.intro @C.catnaplaw6_chip_r1_b.eq_1 @C.catnaplaw6_chip_r0_b.eq_1)))))

def C.clock_Tree_Chain_r8_b : List IOper := [
 X.m 21 5,
 X.m 4 21]
def C.clock_Tree_Chain_r8 : List IOper := C.clock_Tree_Chain_r8_b
def C.clock_Tree_Chain_r8_w := @aopsE _ _ C.clock_Tree_Chain_r8.eq_1
def C.clock_Tree_Chain_c1 : ICode := .keep [5] (.seq (.region C.clock_Tree_Chain_r8) .ret)
def C.clock_Tree_Chain_c1_w := @awpE _ _ C.clock_Tree_Chain_c1.eq_1
def C.clock_Tree_Chain_r7_b : List IOper := [
 X.m 19 5,
 X.o 20 (.call F.slices_Reverse_int_int [X.s 19])]
def C.clock_Tree_Chain_r7 : List IOper := C.clock_Tree_Chain_r7_b
def C.clock_Tree_Chain_r7_w := @aopsE _ _ C.clock_Tree_Chain_r7.eq_1
def C.clock_Tree_Chain_c2 : ICode := .keep [5] (.seq (.region C.clock_Tree_Chain_r7) C.clock_Tree_Chain_c1)
def C.clock_Tree_Chain_c2_w := @awpE _ _ C.clock_Tree_Chain_c2.eq_1
def C.clock_Tree_Chain_r5_b : List IOper := [
 X.m 12 0,
 X.m 13 1,
 X.o 14 (.call F.clock_Tree_source [X.s 12, X.s 13]),
 X.m 1 14]
def C.clock_Tree_Chain_r5 : List IOper := C.clock_Tree_Chain_r5_b
def C.clock_Tree_Chain_r5_w := @aopsE _ _ C.clock_Tree_Chain_r5.eq_1
def C.clock_Tree_Chain_c3 : ICode := .keep [0, 1, 5] (.region C.clock_Tree_Chain_r5)
def C.clock_Tree_Chain_c3_w := @awpE _ _ C.clock_Tree_Chain_c3.eq_1
def C.clock_Tree_Chain_r6_b : List IOper := [
 X.m 15 5,
 X.m 16 1,
 X.o 17 (.buildSlice 1 1 [.int .i64 0] [(0, 1, X.s 16)]),
 X.o 18 (.append 1 8 (X.s 15) (X.s 17)),
 X.m 5 18]
def C.clock_Tree_Chain_r6 : List IOper := C.clock_Tree_Chain_r6_b
def C.clock_Tree_Chain_r6_w := @aopsE _ _ C.clock_Tree_Chain_r6.eq_1
def C.clock_Tree_Chain_b4 : ICode := .region C.clock_Tree_Chain_r6
def C.clock_Tree_Chain_b4_w := @awpE _ _ C.clock_Tree_Chain_b4.eq_1
def C.clock_Tree_Chain_c5 : ICode := .keep [0, 1, 5] (.seq (.block 1 C.clock_Tree_Chain_b4) C.clock_Tree_Chain_c3)
def C.clock_Tree_Chain_c5_w := @awpE _ _ C.clock_Tree_Chain_c5.eq_1
def C.clock_Tree_Chain_c6 : ICode := .keep [0, 1, 5, 11] (.cond (X.s 11) .skip (.exit 0))
def C.clock_Tree_Chain_c6_w := @awpE _ _ C.clock_Tree_Chain_c6.eq_1
def C.clock_Tree_Chain_r4_b : List IOper := [
 X.m 10 1,
 X.o 11 (.bin .neq (X.s 10) (X.i (-1)))]
def C.clock_Tree_Chain_r4 : List IOper := C.clock_Tree_Chain_r4_b
def C.clock_Tree_Chain_r4_w := @aopsE _ _ C.clock_Tree_Chain_r4.eq_1
def C.clock_Tree_Chain_l7 : ICode := .keep [0, 1, 5] (.seq (.seq (.region C.clock_Tree_Chain_r4) C.clock_Tree_Chain_c6) C.clock_Tree_Chain_c5)
def C.clock_Tree_Chain_l7_w := @awpE _ _ C.clock_Tree_Chain_l7.eq_1
def C.clock_Tree_Chain_b8 : ICode := .loop C.clock_Tree_Chain_l7
def C.clock_Tree_Chain_b8_w := @awpE _ _ C.clock_Tree_Chain_b8.eq_1
def C.clock_Tree_Chain_c9 : ICode := .keep [0, 1, 5] (.seq (.block 0 C.clock_Tree_Chain_b8) C.clock_Tree_Chain_c2)
def C.clock_Tree_Chain_c9_w := @awpE _ _ C.clock_Tree_Chain_c9.eq_1
def C.clock_Tree_Chain_r3_b : List IOper := [
 X.o 5 (.move (.cst (.nils)))]
def C.clock_Tree_Chain_r3 : List IOper := C.clock_Tree_Chain_r3_b
def C.clock_Tree_Chain_r3_w := @aopsE _ _ C.clock_Tree_Chain_r3.eq_1
def C.clock_Tree_Chain_c10 : ICode := .keep [0, 1] (.seq (.region C.clock_Tree_Chain_r3) C.clock_Tree_Chain_c9)
def C.clock_Tree_Chain_c10_w := @awpE _ _ C.clock_Tree_Chain_c10.eq_1
def C.clock_Tree_Chain_r2_b : List IOper := [
 X.o 4 (.move (.cst (.nils)))]
def C.clock_Tree_Chain_r2 : List IOper := C.clock_Tree_Chain_r2_b
def C.clock_Tree_Chain_r2_w := @aopsE _ _ C.clock_Tree_Chain_r2.eq_1
def C.clock_Tree_Chain_c11 : ICode := .seq (.region C.clock_Tree_Chain_r2) .ret
def C.clock_Tree_Chain_c11_w := @awpE _ _ C.clock_Tree_Chain_c11.eq_1
def C.clock_Tree_Chain_c12 : ICode := .keep [0, 1, 9] (.cond (X.s 9) C.clock_Tree_Chain_c11 .skip)
def C.clock_Tree_Chain_c12_w := @awpE _ _ C.clock_Tree_Chain_c12.eq_1
def C.clock_Tree_Chain_r1_b : List IOper := [
 X.m 6 0,
 X.m 7 1,
 X.o 8 (.call F.clock_Tree_at [X.s 6, X.s 7]),
 X.o 9 (.eqP 0 false (X.s 8) (.cst (.nilp)))]
def C.clock_Tree_Chain_r1 : List IOper := C.clock_Tree_Chain_r1_b
def C.clock_Tree_Chain_r1_w := @aopsE _ _ C.clock_Tree_Chain_r1.eq_1
def C.clock_Tree_Chain_c13 : ICode := .keep [0, 1] (.seq (.seq (.region C.clock_Tree_Chain_r1) C.clock_Tree_Chain_c12) C.clock_Tree_Chain_c10)
def C.clock_Tree_Chain_c13_w := @awpE _ _ C.clock_Tree_Chain_c13.eq_1
def C.clock_Tree_Chain_r0_b : List IOper := [
 X.o 4 (.move (.cst (.nils)))]
def C.clock_Tree_Chain_r0 : List IOper := C.clock_Tree_Chain_r0_b
def C.clock_Tree_Chain_r0_w := @aopsE _ _ C.clock_Tree_Chain_r0.eq_1
def C.clock_Tree_Chain : IFunc := ⟨2, [.slot 4], .seq (.region C.clock_Tree_Chain_r0) C.clock_Tree_Chain_c13⟩
def C.clock_Tree_Chain_W := And.intro (And.intro (And.intro (And.intro @C.clock_Tree_Chain_r8_w @C.clock_Tree_Chain_c1_w) (And.intro @C.clock_Tree_Chain_r7_w (And.intro @C.clock_Tree_Chain_c2_w @C.clock_Tree_Chain_r5_w))) (And.intro (And.intro @C.clock_Tree_Chain_c3_w @C.clock_Tree_Chain_r6_w) (And.intro @C.clock_Tree_Chain_b4_w (And.intro @C.clock_Tree_Chain_c5_w @C.clock_Tree_Chain_c6_w)))) (And.intro (And.intro (And.intro @C.clock_Tree_Chain_r4_w @C.clock_Tree_Chain_b8_w) (And.intro @C.clock_Tree_Chain_c9_w (And.intro @C.clock_Tree_Chain_r3_w @C.clock_Tree_Chain_c10_w))) (And.intro (And.intro @C.clock_Tree_Chain_r2_w (And.intro @C.clock_Tree_Chain_c11_w @C.clock_Tree_Chain_c12_w)) (And.intro @C.clock_Tree_Chain_r1_w (And.intro @C.clock_Tree_Chain_c13_w @C.clock_Tree_Chain_r0_w))))
def C.clock_Tree_Chain_B := And.intro (And.intro (And.intro @C.clock_Tree_Chain_r8_b.eq_1 @C.clock_Tree_Chain_r7_b.eq_1) (And.intro @C.clock_Tree_Chain_r5_b.eq_1 @C.clock_Tree_Chain_r6_b.eq_1)) (And.intro (And.intro @C.clock_Tree_Chain_r4_b.eq_1 @C.clock_Tree_Chain_r3_b.eq_1) (And.intro @C.clock_Tree_Chain_r2_b.eq_1 (And.intro @C.clock_Tree_Chain_r1_b.eq_1 @C.clock_Tree_Chain_r0_b.eq_1)))

def C.clock_Tree_Select_r7_b : List IOper := [
 X.o 6 (.move (X.i 0))]
def C.clock_Tree_Select_r7 : List IOper := C.clock_Tree_Select_r7_b
def C.clock_Tree_Select_r7_w := @aopsE _ _ C.clock_Tree_Select_r7.eq_1
def C.clock_Tree_Select_c1 : ICode := .keep [] (.seq (.region C.clock_Tree_Select_r7) .ret)
def C.clock_Tree_Select_c1_w := @awpE _ _ C.clock_Tree_Select_c1.eq_1
def C.clock_Tree_Select_r6_b : List IOper := [
 X.m 33 7,
 X.m 34 2,
 X.o 35 (.nilchk (X.s 33)),
 X.o 36 (.fldAddr 9 (X.s 35)),
 X.n (.store1 (X.s 36) (X.s 34))]
def C.clock_Tree_Select_r6 : List IOper := C.clock_Tree_Select_r6_b
def C.clock_Tree_Select_r6_w := @aopsE _ _ C.clock_Tree_Select_r6.eq_1
def C.clock_Tree_Select_c2 : ICode := .keep [2, 7] (.seq (.region C.clock_Tree_Select_r6) C.clock_Tree_Select_c1)
def C.clock_Tree_Select_c2_w := @awpE _ _ C.clock_Tree_Select_c2.eq_1
def C.clock_Tree_Select_r5_b : List IOper := [
 X.o 6 (.move (X.i 1))]
def C.clock_Tree_Select_r5 : List IOper := C.clock_Tree_Select_r5_b
def C.clock_Tree_Select_r5_w := @aopsE _ _ C.clock_Tree_Select_r5.eq_1
def C.clock_Tree_Select_c3 : ICode := .seq (.region C.clock_Tree_Select_r5) .ret
def C.clock_Tree_Select_c3_w := @awpE _ _ C.clock_Tree_Select_c3.eq_1
def C.clock_Tree_Select_c4 : ICode := .keep [2, 7, 32] (.cond (X.s 32) C.clock_Tree_Select_c3 .skip)
def C.clock_Tree_Select_c4_w := @awpE _ _ C.clock_Tree_Select_c4.eq_1
def C.clock_Tree_Select_r4_b : List IOper := [
 X.m 13 7,
 X.o 14 (.nilchk (X.s 13)),
 X.o 15 (.fldAddr 0 (X.s 14)),
 X.o 16 (.fldAddr 0 (X.s 15)),
 X.o 17 (.load1 (X.s 16)),
 X.o 18 (.bin .neq (X.s 17) (.cst (.int .u8 109))),
 X.m 19 18,
 X.f 19 20 (.move (X.s 2)),
 X.f 19 21 (.bin .lss (X.s 20) (X.i 0)),
 X.o 22 (.pick (X.s 19) (.cst (.bool true)) (X.s 21)),
 X.m 23 22,
 X.f 23 24 (.move (X.s 2)),
 X.f 23 25 (.move (X.s 7)),
 X.f 23 26 (.nilchk (X.s 25)),
 X.f 23 27 (.fldAddr 0 (X.s 26)),
 X.f 23 28 (.fldAddr 1 (X.s 27)),
 X.f 23 29 (.load1 (X.s 28)),
 X.f 23 30 (.len (X.s 29)),
 X.f 23 31 (.bin .geq (X.s 24) (X.s 30)),
 X.o 32 (.pick (X.s 23) (.cst (.bool true)) (X.s 31))]
def C.clock_Tree_Select_r4 : List IOper := C.clock_Tree_Select_r4_b
def C.clock_Tree_Select_r4_w := @aopsE _ _ C.clock_Tree_Select_r4.eq_1
def C.clock_Tree_Select_c5 : ICode := .keep [2, 7] (.seq (.seq (.region C.clock_Tree_Select_r4) C.clock_Tree_Select_c4) C.clock_Tree_Select_c2)
def C.clock_Tree_Select_c5_w := @awpE _ _ C.clock_Tree_Select_c5.eq_1
def C.clock_Tree_Select_r3_b : List IOper := [
 X.o 6 (.move (X.i 4))]
def C.clock_Tree_Select_r3 : List IOper := C.clock_Tree_Select_r3_b
def C.clock_Tree_Select_r3_w := @aopsE _ _ C.clock_Tree_Select_r3.eq_1
def C.clock_Tree_Select_c6 : ICode := .seq (.region C.clock_Tree_Select_r3) .ret
def C.clock_Tree_Select_c6_w := @awpE _ _ C.clock_Tree_Select_c6.eq_1
def C.clock_Tree_Select_c7 : ICode := .keep [2, 7, 12] (.cond (X.s 12) C.clock_Tree_Select_c6 .skip)
def C.clock_Tree_Select_c7_w := @awpE _ _ C.clock_Tree_Select_c7.eq_1
def C.clock_Tree_Select_r2_b : List IOper := [
 X.m 11 7,
 X.o 12 (.eqP 0 false (X.s 11) (.cst (.nilp)))]
def C.clock_Tree_Select_r2 : List IOper := C.clock_Tree_Select_r2_b
def C.clock_Tree_Select_r2_w := @aopsE _ _ C.clock_Tree_Select_r2.eq_1
def C.clock_Tree_Select_c8 : ICode := .keep [2, 7] (.seq (.seq (.region C.clock_Tree_Select_r2) C.clock_Tree_Select_c7) C.clock_Tree_Select_c5)
def C.clock_Tree_Select_c8_w := @awpE _ _ C.clock_Tree_Select_c8.eq_1
def C.clock_Tree_Select_r1_b : List IOper := [
 X.m 8 0,
 X.m 9 1,
 X.o 10 (.call F.clock_Tree_at [X.s 8, X.s 9]),
 X.m 7 10]
def C.clock_Tree_Select_r1 : List IOper := C.clock_Tree_Select_r1_b
def C.clock_Tree_Select_r1_w := @aopsE _ _ C.clock_Tree_Select_r1.eq_1
def C.clock_Tree_Select_c9 : ICode := .keep [0, 1, 2] (.seq (.region C.clock_Tree_Select_r1) C.clock_Tree_Select_c8)
def C.clock_Tree_Select_c9_w := @awpE _ _ C.clock_Tree_Select_c9.eq_1
def C.clock_Tree_Select_r0_b : List IOper := [
 X.o 6 (.move (X.i 0))]
def C.clock_Tree_Select_r0 : List IOper := C.clock_Tree_Select_r0_b
def C.clock_Tree_Select_r0_w := @aopsE _ _ C.clock_Tree_Select_r0.eq_1
def C.clock_Tree_Select : IFunc := ⟨3, [.slot 6], .seq (.region C.clock_Tree_Select_r0) C.clock_Tree_Select_c9⟩
def C.clock_Tree_Select_W := And.intro (And.intro (And.intro (And.intro @C.clock_Tree_Select_r7_w @C.clock_Tree_Select_c1_w) (And.intro @C.clock_Tree_Select_r6_w @C.clock_Tree_Select_c2_w)) (And.intro (And.intro @C.clock_Tree_Select_r5_w @C.clock_Tree_Select_c3_w) (And.intro @C.clock_Tree_Select_c4_w @C.clock_Tree_Select_r4_w))) (And.intro (And.intro (And.intro @C.clock_Tree_Select_c5_w @C.clock_Tree_Select_r3_w) (And.intro @C.clock_Tree_Select_c6_w @C.clock_Tree_Select_c7_w)) (And.intro (And.intro @C.clock_Tree_Select_r2_w @C.clock_Tree_Select_c8_w) (And.intro @C.clock_Tree_Select_r1_w (And.intro @C.clock_Tree_Select_c9_w @C.clock_Tree_Select_r0_w))))
def C.clock_Tree_Select_B := And.intro (And.intro (And.intro @C.clock_Tree_Select_r7_b.eq_1 @C.clock_Tree_Select_r6_b.eq_1) (And.intro @C.clock_Tree_Select_r5_b.eq_1 @C.clock_Tree_Select_r4_b.eq_1)) (And.intro (And.intro @C.clock_Tree_Select_r3_b.eq_1 @C.clock_Tree_Select_r2_b.eq_1) (And.intro @C.clock_Tree_Select_r1_b.eq_1 @C.clock_Tree_Select_r0_b.eq_1))

def C.clock_Tree_Divide_r7_b : List IOper := [
 X.o 6 (.move (X.i 0))]
def C.clock_Tree_Divide_r7 : List IOper := C.clock_Tree_Divide_r7_b
def C.clock_Tree_Divide_r7_w := @aopsE _ _ C.clock_Tree_Divide_r7.eq_1
def C.clock_Tree_Divide_c1 : ICode := .keep [] (.seq (.region C.clock_Tree_Divide_r7) .ret)
def C.clock_Tree_Divide_c1_w := @awpE _ _ C.clock_Tree_Divide_c1.eq_1
def C.clock_Tree_Divide_r6_b : List IOper := [
 X.m 27 7,
 X.m 28 2,
 X.o 29 (.nilchk (X.s 27)),
 X.o 30 (.fldAddr 10 (X.s 29)),
 X.n (.store1 (X.s 30) (X.s 28))]
def C.clock_Tree_Divide_r6 : List IOper := C.clock_Tree_Divide_r6_b
def C.clock_Tree_Divide_r6_w := @aopsE _ _ C.clock_Tree_Divide_r6.eq_1
def C.clock_Tree_Divide_c2 : ICode := .keep [2, 7] (.seq (.region C.clock_Tree_Divide_r6) C.clock_Tree_Divide_c1)
def C.clock_Tree_Divide_c2_w := @awpE _ _ C.clock_Tree_Divide_c2.eq_1
def C.clock_Tree_Divide_r5_b : List IOper := [
 X.o 6 (.move (X.i 1))]
def C.clock_Tree_Divide_r5 : List IOper := C.clock_Tree_Divide_r5_b
def C.clock_Tree_Divide_r5_w := @aopsE _ _ C.clock_Tree_Divide_r5.eq_1
def C.clock_Tree_Divide_c3 : ICode := .seq (.region C.clock_Tree_Divide_r5) .ret
def C.clock_Tree_Divide_c3_w := @awpE _ _ C.clock_Tree_Divide_c3.eq_1
def C.clock_Tree_Divide_c4 : ICode := .keep [2, 7, 26] (.cond (X.s 26) C.clock_Tree_Divide_c3 .skip)
def C.clock_Tree_Divide_c4_w := @awpE _ _ C.clock_Tree_Divide_c4.eq_1
def C.clock_Tree_Divide_r4_b : List IOper := [
 X.m 13 7,
 X.o 14 (.nilchk (X.s 13)),
 X.o 15 (.fldAddr 0 (X.s 14)),
 X.o 16 (.fldAddr 0 (X.s 15)),
 X.o 17 (.load1 (X.s 16)),
 X.o 18 (.bin .neq (X.s 17) (.cst (.int .u8 100))),
 X.m 19 18,
 X.f 19 20 (.move (X.s 2)),
 X.f 19 21 (.bin .lss (X.s 20) (X.i 1)),
 X.o 22 (.pick (X.s 19) (.cst (.bool true)) (X.s 21)),
 X.m 23 22,
 X.f 23 24 (.move (X.s 2)),
 X.f 23 25 (.bin .gtr (X.s 24) (X.i 1000)),
 X.o 26 (.pick (X.s 23) (.cst (.bool true)) (X.s 25))]
def C.clock_Tree_Divide_r4 : List IOper := C.clock_Tree_Divide_r4_b
def C.clock_Tree_Divide_r4_w := @aopsE _ _ C.clock_Tree_Divide_r4.eq_1
def C.clock_Tree_Divide_c5 : ICode := .keep [2, 7] (.seq (.seq (.region C.clock_Tree_Divide_r4) C.clock_Tree_Divide_c4) C.clock_Tree_Divide_c2)
def C.clock_Tree_Divide_c5_w := @awpE _ _ C.clock_Tree_Divide_c5.eq_1
def C.clock_Tree_Divide_r3_b : List IOper := [
 X.o 6 (.move (X.i 4))]
def C.clock_Tree_Divide_r3 : List IOper := C.clock_Tree_Divide_r3_b
def C.clock_Tree_Divide_r3_w := @aopsE _ _ C.clock_Tree_Divide_r3.eq_1
def C.clock_Tree_Divide_c6 : ICode := .seq (.region C.clock_Tree_Divide_r3) .ret
def C.clock_Tree_Divide_c6_w := @awpE _ _ C.clock_Tree_Divide_c6.eq_1
def C.clock_Tree_Divide_c7 : ICode := .keep [2, 7, 12] (.cond (X.s 12) C.clock_Tree_Divide_c6 .skip)
def C.clock_Tree_Divide_c7_w := @awpE _ _ C.clock_Tree_Divide_c7.eq_1
def C.clock_Tree_Divide_r2_b : List IOper := [
 X.m 11 7,
 X.o 12 (.eqP 0 false (X.s 11) (.cst (.nilp)))]
def C.clock_Tree_Divide_r2 : List IOper := C.clock_Tree_Divide_r2_b
def C.clock_Tree_Divide_r2_w := @aopsE _ _ C.clock_Tree_Divide_r2.eq_1
def C.clock_Tree_Divide_c8 : ICode := .keep [2, 7] (.seq (.seq (.region C.clock_Tree_Divide_r2) C.clock_Tree_Divide_c7) C.clock_Tree_Divide_c5)
def C.clock_Tree_Divide_c8_w := @awpE _ _ C.clock_Tree_Divide_c8.eq_1
def C.clock_Tree_Divide_r1_b : List IOper := [
 X.m 8 0,
 X.m 9 1,
 X.o 10 (.call F.clock_Tree_at [X.s 8, X.s 9]),
 X.m 7 10]
def C.clock_Tree_Divide_r1 : List IOper := C.clock_Tree_Divide_r1_b
def C.clock_Tree_Divide_r1_w := @aopsE _ _ C.clock_Tree_Divide_r1.eq_1
def C.clock_Tree_Divide_c9 : ICode := .keep [0, 1, 2] (.seq (.region C.clock_Tree_Divide_r1) C.clock_Tree_Divide_c8)
def C.clock_Tree_Divide_c9_w := @awpE _ _ C.clock_Tree_Divide_c9.eq_1
def C.clock_Tree_Divide_r0_b : List IOper := [
 X.o 6 (.move (X.i 0))]
def C.clock_Tree_Divide_r0 : List IOper := C.clock_Tree_Divide_r0_b
def C.clock_Tree_Divide_r0_w := @aopsE _ _ C.clock_Tree_Divide_r0.eq_1
def C.clock_Tree_Divide : IFunc := ⟨3, [.slot 6], .seq (.region C.clock_Tree_Divide_r0) C.clock_Tree_Divide_c9⟩
def C.clock_Tree_Divide_W := And.intro (And.intro (And.intro (And.intro @C.clock_Tree_Divide_r7_w @C.clock_Tree_Divide_c1_w) (And.intro @C.clock_Tree_Divide_r6_w @C.clock_Tree_Divide_c2_w)) (And.intro (And.intro @C.clock_Tree_Divide_r5_w @C.clock_Tree_Divide_c3_w) (And.intro @C.clock_Tree_Divide_c4_w @C.clock_Tree_Divide_r4_w))) (And.intro (And.intro (And.intro @C.clock_Tree_Divide_c5_w @C.clock_Tree_Divide_r3_w) (And.intro @C.clock_Tree_Divide_c6_w @C.clock_Tree_Divide_c7_w)) (And.intro (And.intro @C.clock_Tree_Divide_r2_w @C.clock_Tree_Divide_c8_w) (And.intro @C.clock_Tree_Divide_r1_w (And.intro @C.clock_Tree_Divide_c9_w @C.clock_Tree_Divide_r0_w))))
def C.clock_Tree_Divide_B := And.intro (And.intro (And.intro @C.clock_Tree_Divide_r7_b.eq_1 @C.clock_Tree_Divide_r6_b.eq_1) (And.intro @C.clock_Tree_Divide_r5_b.eq_1 @C.clock_Tree_Divide_r4_b.eq_1)) (And.intro (And.intro @C.clock_Tree_Divide_r3_b.eq_1 @C.clock_Tree_Divide_r2_b.eq_1) (And.intro @C.clock_Tree_Divide_r1_b.eq_1 @C.clock_Tree_Divide_r0_b.eq_1))

end Go.Proofs.Ytkioaemhdbcfaaa.Cn
