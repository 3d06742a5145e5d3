/- The intermediate code of the functions, printed by a program out of the loaded program; that it is theirs is checked in the text of links. -/
import Derived.Test.YthmdiljjkogghaaCnCode
set_option linter.defProp false
namespace Go.Proofs.Ythmdiljjkogghaa.Cn
open Go
variable {P : Program} {Q : IExit → AFr → ASt → Prop} {fr : AFr} {st : ASt}

abbrev F.main_main : Nat := 0
abbrev F.gosem_cut : Nat := 1
abbrev F.gosem_cut_init : Nat := 2
abbrev F.catnaplaw3_GraphOrders : Nat := 3
abbrev F.catnaplaw3_GraphJoins : Nat := 4
abbrev F.catnaplaw3_GraphLess : Nat := 5
abbrev F.catnaplaw3_GraphNumbers : Nat := 6
abbrev F.catnaplaw3_GraphChains : Nat := 7
abbrev F.catnaplaw3_GraphTells : Nat := 8
abbrev F.catnaplaw3_GraphSides : Nat := 9
abbrev F.catnaplaw3_shown : Nat := 10
abbrev F.catnaplaw3_pick : Nat := 11
abbrev F.catnaplaw3_falling : Nat := 12
abbrev F.graph_Order : Nat := 13
abbrev F.graph_Check : Nat := 14
abbrev F.graph_Above : Nat := 15
abbrev F.catnaplaw3_same : Nat := 16
abbrev F.catnapref3_Has : Nat := 17
abbrev F.graph_Under : Nat := 18
abbrev F.catnaplaw3_light : Nat := 19
abbrev F.catnapref3_Order : Nat := 20
abbrev F.catnapref3_Above : Nat := 21
abbrev F.catnapref3_Under : Nat := 22
abbrev F.catnapref3_Check : Nat := 23
abbrev F.graph_numbers : Nat := 24
abbrev F.graph_hang : Nat := 25
abbrev F.graph_marks_has : Nat := 26
abbrev F.graph_marks_add : Nat := 27
abbrev F.graph_ordered : Nat := 28
abbrev F.graph_others : Nat := 29
abbrev F.catnapref3_order : Nat := 30
abbrev F.catnapref3_some : Nat := 31
abbrev F.runtime_boundsError_Error : Nat := 32
abbrev F.runtime_boundsError_RuntimeError : Nat := 33
abbrev F.runtime_errorString_Error : Nat := 34
abbrev F.runtime_errorString_RuntimeError : Nat := 35
abbrev F.runtime_plainError_Error : Nat := 36
abbrev F.runtime_plainError_RuntimeError : Nat := 37
abbrev F.runtime_errorAddressString_Error : Nat := 38
abbrev F.runtime_errorAddressString_RuntimeError : Nat := 39
abbrev F.runtime_TypeAssertionError_Error : Nat := 40
abbrev F.runtime_TypeAssertionError_RuntimeError : Nat := 41
abbrev F.runtime_PanicNilError_Error : Nat := 42
abbrev F.runtime_PanicNilError_RuntimeError : Nat := 43
abbrev F.internal_abi_Type_Align : Nat := 44
abbrev F.internal_runtime_maps_unhashableTypeError_Error : Nat := 45
abbrev F.internal_runtime_maps_unhashableTypeError_RuntimeError : Nat := 46
abbrev F.api_Errno_Error : Nat := 47
abbrev F.internal_abi_Kind_String : Nat := 48

def C.catnaplaw3_GraphOrders_r35_b : List IOper := [
  ⟨some 6, .move (.cst (.bool true)), none, [], []⟩]
def C.catnaplaw3_GraphOrders_r35 : List IOper := C.catnaplaw3_GraphOrders_r35_b
theorem C.catnaplaw3_GraphOrders_r35_w {k : AFr → ASt → Prop} : aops P C.catnaplaw3_GraphOrders_r35 k fr st = aops P C.catnaplaw3_GraphOrders_r35_b k fr st := rfl
def C.catnaplaw3_GraphOrders_c1 : ICode := .keep [] (.seq (.region C.catnaplaw3_GraphOrders_r35) .ret)
theorem C.catnaplaw3_GraphOrders_c1_w : awp P C.catnaplaw3_GraphOrders_c1 Q fr st = awp P (.keep [] (.seq (.region C.catnaplaw3_GraphOrders_r35) .ret)) Q fr st := rfl
def C.catnaplaw3_GraphOrders_r22_b : List IOper := [
  ⟨some 94, .move (.slot 15), none, [], []⟩,
  ⟨some 95, .bin .add (.slot 94) (.cst (.int .i64 1)), none, [], []⟩,
  ⟨some 15, .move (.slot 95), none, [], []⟩]
def C.catnaplaw3_GraphOrders_r22 : List IOper := C.catnaplaw3_GraphOrders_r22_b
theorem C.catnaplaw3_GraphOrders_r22_w {k : AFr → ASt → Prop} : aops P C.catnaplaw3_GraphOrders_r22 k fr st = aops P C.catnaplaw3_GraphOrders_r22_b k fr st := rfl
def C.catnaplaw3_GraphOrders_c2 : ICode := .keep [8, 9, 10, 12, 15] (.region C.catnaplaw3_GraphOrders_r22)
theorem C.catnaplaw3_GraphOrders_c2_w : awp P C.catnaplaw3_GraphOrders_c2 Q fr st = awp P (.keep [8, 9, 10, 12, 15] (.region C.catnaplaw3_GraphOrders_r22)) Q fr st := rfl
def C.catnaplaw3_GraphOrders_r32_b : List IOper := [
  ⟨some 140, .move (.slot 18), none, [], []⟩,
  ⟨some 141, .bin .add (.slot 140) (.cst (.int .i64 1)), none, [], []⟩,
  ⟨some 18, .move (.slot 141), none, [], []⟩]
def C.catnaplaw3_GraphOrders_r32 : List IOper := C.catnaplaw3_GraphOrders_r32_b
theorem C.catnaplaw3_GraphOrders_r32_w {k : AFr → ASt → Prop} : aops P C.catnaplaw3_GraphOrders_r32 k fr st = aops P C.catnaplaw3_GraphOrders_r32_b k fr st := rfl
def C.catnaplaw3_GraphOrders_c3 : ICode := .keep [8, 9, 10, 12, 15, 18] (.region C.catnaplaw3_GraphOrders_r32)
theorem C.catnaplaw3_GraphOrders_c3_w : awp P C.catnaplaw3_GraphOrders_c3 Q fr st = awp P (.keep [8, 9, 10, 12, 15, 18] (.region C.catnaplaw3_GraphOrders_r32)) Q fr st := rfl
def C.catnaplaw3_GraphOrders_r34_b : List IOper := [
  ⟨some 6, .move (.cst (.bool false)), none, [], []⟩]
def C.catnaplaw3_GraphOrders_r34 : List IOper := C.catnaplaw3_GraphOrders_r34_b
theorem C.catnaplaw3_GraphOrders_r34_w {k : AFr → ASt → Prop} : aops P C.catnaplaw3_GraphOrders_r34 k fr st = aops P C.catnaplaw3_GraphOrders_r34_b k fr st := rfl
def C.catnaplaw3_GraphOrders_c4 : ICode := .seq (.region C.catnaplaw3_GraphOrders_r34) .ret
theorem C.catnaplaw3_GraphOrders_c4_w : awp P C.catnaplaw3_GraphOrders_c4 Q fr st = awp P (.seq (.region C.catnaplaw3_GraphOrders_r34) .ret) Q fr st := rfl
def C.catnaplaw3_GraphOrders_c5 : ICode := .keep [8, 9, 10, 12, 15, 18, 147] (.cond (.slot 147) C.catnaplaw3_GraphOrders_c4 .skip)
theorem C.catnaplaw3_GraphOrders_c5_w : awp P C.catnaplaw3_GraphOrders_c5 Q fr st = awp P (.keep [8, 9, 10, 12, 15, 18, 147] (.cond (.slot 147) C.catnaplaw3_GraphOrders_c4 .skip)) Q fr st := rfl
def C.catnaplaw3_GraphOrders_r33_b : List IOper := [
  ⟨some 142, .move (.slot 10), none, [], []⟩,
  ⟨some 143, .move (.slot 18), none, [], []⟩,
  ⟨some 144, .idxAddr 1 (.slot 142) (.slot 143), none, [], []⟩,
  ⟨some 145, .load1 (.slot 144), none, [], []⟩,
  ⟨some 146, .move (.slot 15), none, [], []⟩,
  ⟨some 147, .bin .gtr (.slot 145) (.slot 146), none, [], []⟩]
def C.catnaplaw3_GraphOrders_r33 : List IOper := C.catnaplaw3_GraphOrders_r33_b
theorem C.catnaplaw3_GraphOrders_r33_w {k : AFr → ASt → Prop} : aops P C.catnaplaw3_GraphOrders_r33 k fr st = aops P C.catnaplaw3_GraphOrders_r33_b k fr st := rfl
def C.catnaplaw3_GraphOrders_b6 : ICode := .seq (.region C.catnaplaw3_GraphOrders_r33) C.catnaplaw3_GraphOrders_c5
theorem C.catnaplaw3_GraphOrders_b6_w : awp P C.catnaplaw3_GraphOrders_b6 Q fr st = awp P (.seq (.region C.catnaplaw3_GraphOrders_r33) C.catnaplaw3_GraphOrders_c5) Q fr st := rfl
def C.catnaplaw3_GraphOrders_c7 : ICode := .keep [8, 9, 10, 12, 15, 18] (.seq (.block 9 C.catnaplaw3_GraphOrders_b6) C.catnaplaw3_GraphOrders_c3)
theorem C.catnaplaw3_GraphOrders_c7_w : awp P C.catnaplaw3_GraphOrders_c7 Q fr st = awp P (.keep [8, 9, 10, 12, 15, 18] (.seq (.block 9 C.catnaplaw3_GraphOrders_b6) C.catnaplaw3_GraphOrders_c3)) Q fr st := rfl
def C.catnaplaw3_GraphOrders_c8 : ICode := .keep [8, 9, 10, 12, 15, 18, 139] (.cond (.slot 139) .skip (.exit 8))
theorem C.catnaplaw3_GraphOrders_c8_w : awp P C.catnaplaw3_GraphOrders_c8 Q fr st = awp P (.keep [8, 9, 10, 12, 15, 18, 139] (.cond (.slot 139) .skip (.exit 8))) Q fr st := rfl
def C.catnaplaw3_GraphOrders_r31_b : List IOper := [
  ⟨some 134, .move (.slot 18), none, [], []⟩,
  ⟨some 135, .move (.slot 12), none, [], []⟩,
  ⟨some 136, .move (.slot 15), none, [], []⟩,
  ⟨some 137, .idxAddr 1 (.slot 135) (.slot 136), none, [], []⟩,
  ⟨some 138, .load1 (.slot 137), none, [], []⟩,
  ⟨some 139, .bin .lss (.slot 134) (.slot 138), none, [], []⟩]
def C.catnaplaw3_GraphOrders_r31 : List IOper := C.catnaplaw3_GraphOrders_r31_b
theorem C.catnaplaw3_GraphOrders_r31_w {k : AFr → ASt → Prop} : aops P C.catnaplaw3_GraphOrders_r31 k fr st = aops P C.catnaplaw3_GraphOrders_r31_b k fr st := rfl
def C.catnaplaw3_GraphOrders_l9 : ICode := .keep [8, 9, 10, 12, 15, 18] (.seq (.seq (.region C.catnaplaw3_GraphOrders_r31) C.catnaplaw3_GraphOrders_c8) C.catnaplaw3_GraphOrders_c7)
theorem C.catnaplaw3_GraphOrders_l9_w : awp P C.catnaplaw3_GraphOrders_l9 Q fr st = awp P (.keep [8, 9, 10, 12, 15, 18] (.seq (.seq (.region C.catnaplaw3_GraphOrders_r31) C.catnaplaw3_GraphOrders_c8) C.catnaplaw3_GraphOrders_c7)) Q fr st := rfl
def C.catnaplaw3_GraphOrders_b10 : ICode := .loop C.catnaplaw3_GraphOrders_l9
theorem C.catnaplaw3_GraphOrders_b10_w : awp P C.catnaplaw3_GraphOrders_b10 Q fr st = awp P (.loop C.catnaplaw3_GraphOrders_l9) Q fr st := rfl
def C.catnaplaw3_GraphOrders_c11 : ICode := .keep [8, 9, 10, 12, 15, 18] (.block 8 C.catnaplaw3_GraphOrders_b10)
theorem C.catnaplaw3_GraphOrders_c11_w : awp P C.catnaplaw3_GraphOrders_c11 Q fr st = awp P (.keep [8, 9, 10, 12, 15, 18] (.block 8 C.catnaplaw3_GraphOrders_b10)) Q fr st := rfl
def C.catnaplaw3_GraphOrders_r30_b : List IOper := [
  ⟨some 133, .move (.slot 16), none, [], []⟩,
  ⟨some 18, .move (.slot 133), none, [], []⟩]
def C.catnaplaw3_GraphOrders_r30 : List IOper := C.catnaplaw3_GraphOrders_r30_b
theorem C.catnaplaw3_GraphOrders_r30_w {k : AFr → ASt → Prop} : aops P C.catnaplaw3_GraphOrders_r30 k fr st = aops P C.catnaplaw3_GraphOrders_r30_b k fr st := rfl
def C.catnaplaw3_GraphOrders_c12 : ICode := .keep [8, 9, 10, 12, 15, 16] (.seq (.region C.catnaplaw3_GraphOrders_r30) C.catnaplaw3_GraphOrders_c11)
theorem C.catnaplaw3_GraphOrders_c12_w : awp P C.catnaplaw3_GraphOrders_c12 Q fr st = awp P (.keep [8, 9, 10, 12, 15, 16] (.seq (.region C.catnaplaw3_GraphOrders_r30) C.catnaplaw3_GraphOrders_c11)) Q fr st := rfl
def C.catnaplaw3_GraphOrders_r26_b : List IOper := [
  ⟨some 103, .move (.slot 17), none, [], []⟩,
  ⟨some 104, .bin .add (.slot 103) (.cst (.int .i64 1)), none, [], []⟩,
  ⟨some 17, .move (.slot 104), none, [], []⟩]
def C.catnaplaw3_GraphOrders_r26 : List IOper := C.catnaplaw3_GraphOrders_r26_b
theorem C.catnaplaw3_GraphOrders_r26_w {k : AFr → ASt → Prop} : aops P C.catnaplaw3_GraphOrders_r26 k fr st = aops P C.catnaplaw3_GraphOrders_r26_b k fr st := rfl
def C.catnaplaw3_GraphOrders_c13 : ICode := .keep [8, 9, 10, 12, 15, 16, 17] (.region C.catnaplaw3_GraphOrders_r26)
theorem C.catnaplaw3_GraphOrders_c13_w : awp P C.catnaplaw3_GraphOrders_c13 Q fr st = awp P (.keep [8, 9, 10, 12, 15, 16, 17] (.region C.catnaplaw3_GraphOrders_r26)) Q fr st := rfl
def C.catnaplaw3_GraphOrders_r29_b : List IOper := [
  ⟨some 120, .move (.slot 16), none, [], []⟩,
  ⟨some 121, .move (.slot 12), none, [], []⟩,
  ⟨some 122, .move (.slot 9), none, [], []⟩,
  ⟨some 123, .move (.slot 15), none, [], []⟩,
  ⟨some 124, .idxAddr 1 (.slot 122) (.slot 123), none, [], []⟩,
  ⟨some 125, .load1 (.slot 124), none, [], []⟩,
  ⟨some 126, .move (.slot 17), none, [], []⟩,
  ⟨some 127, .idxAddr 1 (.slot 125) (.slot 126), none, [], []⟩,
  ⟨some 128, .load1 (.slot 127), none, [], []⟩,
  ⟨some 129, .idxAddr 1 (.slot 121) (.slot 128), none, [], []⟩,
  ⟨some 130, .load1 (.slot 129), none, [], []⟩,
  ⟨some 131, .bin .add (.slot 130) (.cst (.int .i64 1)), none, [], []⟩,
  ⟨some 132, .minmax true (.slot 120) (.slot 131), none, [], []⟩,
  ⟨some 16, .move (.slot 132), none, [], []⟩]
def C.catnaplaw3_GraphOrders_r29 : List IOper := C.catnaplaw3_GraphOrders_r29_b
theorem C.catnaplaw3_GraphOrders_r29_w {k : AFr → ASt → Prop} : aops P C.catnaplaw3_GraphOrders_r29 k fr st = aops P C.catnaplaw3_GraphOrders_r29_b k fr st := rfl
def C.catnaplaw3_GraphOrders_c14 : ICode := .keep [8, 9, 10, 12, 15, 16, 17] (.region C.catnaplaw3_GraphOrders_r29)
theorem C.catnaplaw3_GraphOrders_c14_w : awp P C.catnaplaw3_GraphOrders_c14 Q fr st = awp P (.keep [8, 9, 10, 12, 15, 16, 17] (.region C.catnaplaw3_GraphOrders_r29)) Q fr st := rfl
def C.catnaplaw3_GraphOrders_r28_b : List IOper := [
  ⟨some 6, .move (.cst (.bool false)), none, [], []⟩]
def C.catnaplaw3_GraphOrders_r28 : List IOper := C.catnaplaw3_GraphOrders_r28_b
theorem C.catnaplaw3_GraphOrders_r28_w {k : AFr → ASt → Prop} : aops P C.catnaplaw3_GraphOrders_r28 k fr st = aops P C.catnaplaw3_GraphOrders_r28_b k fr st := rfl
def C.catnaplaw3_GraphOrders_c15 : ICode := .seq (.region C.catnaplaw3_GraphOrders_r28) .ret
theorem C.catnaplaw3_GraphOrders_c15_w : awp P C.catnaplaw3_GraphOrders_c15 Q fr st = awp P (.seq (.region C.catnaplaw3_GraphOrders_r28) .ret) Q fr st := rfl
def C.catnaplaw3_GraphOrders_c16 : ICode := .keep [8, 9, 10, 12, 15, 16, 17, 119] (.cond (.slot 119) C.catnaplaw3_GraphOrders_c15 .skip)
theorem C.catnaplaw3_GraphOrders_c16_w : awp P C.catnaplaw3_GraphOrders_c16 Q fr st = awp P (.keep [8, 9, 10, 12, 15, 16, 17, 119] (.cond (.slot 119) C.catnaplaw3_GraphOrders_c15 .skip)) Q fr st := rfl
def C.catnaplaw3_GraphOrders_r27_b : List IOper := [
  ⟨some 105, .move (.slot 12), none, [], []⟩,
  ⟨some 106, .move (.slot 9), none, [], []⟩,
  ⟨some 107, .move (.slot 15), none, [], []⟩,
  ⟨some 108, .idxAddr 1 (.slot 106) (.slot 107), none, [], []⟩,
  ⟨some 109, .load1 (.slot 108), none, [], []⟩,
  ⟨some 110, .move (.slot 17), none, [], []⟩,
  ⟨some 111, .idxAddr 1 (.slot 109) (.slot 110), none, [], []⟩,
  ⟨some 112, .load1 (.slot 111), none, [], []⟩,
  ⟨some 113, .idxAddr 1 (.slot 105) (.slot 112), none, [], []⟩,
  ⟨some 114, .load1 (.slot 113), none, [], []⟩,
  ⟨some 115, .move (.slot 12), none, [], []⟩,
  ⟨some 116, .move (.slot 15), none, [], []⟩,
  ⟨some 117, .idxAddr 1 (.slot 115) (.slot 116), none, [], []⟩,
  ⟨some 118, .load1 (.slot 117), none, [], []⟩,
  ⟨some 119, .bin .geq (.slot 114) (.slot 118), none, [], []⟩]
def C.catnaplaw3_GraphOrders_r27 : List IOper := C.catnaplaw3_GraphOrders_r27_b
theorem C.catnaplaw3_GraphOrders_r27_w {k : AFr → ASt → Prop} : aops P C.catnaplaw3_GraphOrders_r27 k fr st = aops P C.catnaplaw3_GraphOrders_r27_b k fr st := rfl
def C.catnaplaw3_GraphOrders_b17 : ICode := .seq (.seq (.region C.catnaplaw3_GraphOrders_r27) C.catnaplaw3_GraphOrders_c16) C.catnaplaw3_GraphOrders_c14
theorem C.catnaplaw3_GraphOrders_b17_w : awp P C.catnaplaw3_GraphOrders_b17 Q fr st = awp P (.seq (.seq (.region C.catnaplaw3_GraphOrders_r27) C.catnaplaw3_GraphOrders_c16) C.catnaplaw3_GraphOrders_c14) Q fr st := rfl
def C.catnaplaw3_GraphOrders_c18 : ICode := .keep [8, 9, 10, 12, 15, 16, 17] (.seq (.block 7 C.catnaplaw3_GraphOrders_b17) C.catnaplaw3_GraphOrders_c13)
theorem C.catnaplaw3_GraphOrders_c18_w : awp P C.catnaplaw3_GraphOrders_c18 Q fr st = awp P (.keep [8, 9, 10, 12, 15, 16, 17] (.seq (.block 7 C.catnaplaw3_GraphOrders_b17) C.catnaplaw3_GraphOrders_c13)) Q fr st := rfl
def C.catnaplaw3_GraphOrders_c19 : ICode := .keep [8, 9, 10, 12, 15, 16, 17, 102] (.cond (.slot 102) .skip (.exit 6))
theorem C.catnaplaw3_GraphOrders_c19_w : awp P C.catnaplaw3_GraphOrders_c19 Q fr st = awp P (.keep [8, 9, 10, 12, 15, 16, 17, 102] (.cond (.slot 102) .skip (.exit 6))) Q fr st := rfl
def C.catnaplaw3_GraphOrders_r25_b : List IOper := [
  ⟨some 96, .move (.slot 17), none, [], []⟩,
  ⟨some 97, .move (.slot 9), none, [], []⟩,
  ⟨some 98, .move (.slot 15), none, [], []⟩,
  ⟨some 99, .idxAddr 1 (.slot 97) (.slot 98), none, [], []⟩,
  ⟨some 100, .load1 (.slot 99), none, [], []⟩,
  ⟨some 101, .len (.slot 100), none, [], []⟩,
  ⟨some 102, .bin .lss (.slot 96) (.slot 101), none, [], []⟩]
def C.catnaplaw3_GraphOrders_r25 : List IOper := C.catnaplaw3_GraphOrders_r25_b
theorem C.catnaplaw3_GraphOrders_r25_w {k : AFr → ASt → Prop} : aops P C.catnaplaw3_GraphOrders_r25 k fr st = aops P C.catnaplaw3_GraphOrders_r25_b k fr st := rfl
def C.catnaplaw3_GraphOrders_l20 : ICode := .keep [8, 9, 10, 12, 15, 16, 17] (.seq (.seq (.region C.catnaplaw3_GraphOrders_r25) C.catnaplaw3_GraphOrders_c19) C.catnaplaw3_GraphOrders_c18)
theorem C.catnaplaw3_GraphOrders_l20_w : awp P C.catnaplaw3_GraphOrders_l20 Q fr st = awp P (.keep [8, 9, 10, 12, 15, 16, 17] (.seq (.seq (.region C.catnaplaw3_GraphOrders_r25) C.catnaplaw3_GraphOrders_c19) C.catnaplaw3_GraphOrders_c18)) Q fr st := rfl
def C.catnaplaw3_GraphOrders_b21 : ICode := .loop C.catnaplaw3_GraphOrders_l20
theorem C.catnaplaw3_GraphOrders_b21_w : awp P C.catnaplaw3_GraphOrders_b21 Q fr st = awp P (.loop C.catnaplaw3_GraphOrders_l20) Q fr st := rfl
def C.catnaplaw3_GraphOrders_c22 : ICode := .keep [8, 9, 10, 12, 15, 16, 17] (.block 6 C.catnaplaw3_GraphOrders_b21)
theorem C.catnaplaw3_GraphOrders_c22_w : awp P C.catnaplaw3_GraphOrders_c22 Q fr st = awp P (.keep [8, 9, 10, 12, 15, 16, 17] (.block 6 C.catnaplaw3_GraphOrders_b21)) Q fr st := rfl
def C.catnaplaw3_GraphOrders_r24_b : List IOper := [
  ⟨some 17, .move (.cst (.int .i64 0)), none, [], []⟩]
def C.catnaplaw3_GraphOrders_r24 : List IOper := C.catnaplaw3_GraphOrders_r24_b
theorem C.catnaplaw3_GraphOrders_r24_w {k : AFr → ASt → Prop} : aops P C.catnaplaw3_GraphOrders_r24 k fr st = aops P C.catnaplaw3_GraphOrders_r24_b k fr st := rfl
def C.catnaplaw3_GraphOrders_c23 : ICode := .keep [8, 9, 10, 12, 15, 16] (.seq (.seq (.region C.catnaplaw3_GraphOrders_r24) C.catnaplaw3_GraphOrders_c22) C.catnaplaw3_GraphOrders_c12)
theorem C.catnaplaw3_GraphOrders_c23_w : awp P C.catnaplaw3_GraphOrders_c23 Q fr st = awp P (.keep [8, 9, 10, 12, 15, 16] (.seq (.seq (.region C.catnaplaw3_GraphOrders_r24) C.catnaplaw3_GraphOrders_c22) C.catnaplaw3_GraphOrders_c12)) Q fr st := rfl
def C.catnaplaw3_GraphOrders_r23_b : List IOper := [
  ⟨some 16, .move (.cst (.int .i64 0)), none, [], []⟩]
def C.catnaplaw3_GraphOrders_r23 : List IOper := C.catnaplaw3_GraphOrders_r23_b
theorem C.catnaplaw3_GraphOrders_r23_w {k : AFr → ASt → Prop} : aops P C.catnaplaw3_GraphOrders_r23 k fr st = aops P C.catnaplaw3_GraphOrders_r23_b k fr st := rfl
def C.catnaplaw3_GraphOrders_b24 : ICode := .seq (.region C.catnaplaw3_GraphOrders_r23) C.catnaplaw3_GraphOrders_c23
theorem C.catnaplaw3_GraphOrders_b24_w : awp P C.catnaplaw3_GraphOrders_b24 Q fr st = awp P (.seq (.region C.catnaplaw3_GraphOrders_r23) C.catnaplaw3_GraphOrders_c23) Q fr st := rfl
def C.catnaplaw3_GraphOrders_c25 : ICode := .keep [8, 9, 10, 12, 15] (.seq (.block 5 C.catnaplaw3_GraphOrders_b24) C.catnaplaw3_GraphOrders_c2)
theorem C.catnaplaw3_GraphOrders_c25_w : awp P C.catnaplaw3_GraphOrders_c25 Q fr st = awp P (.keep [8, 9, 10, 12, 15] (.seq (.block 5 C.catnaplaw3_GraphOrders_b24) C.catnaplaw3_GraphOrders_c2)) Q fr st := rfl
def C.catnaplaw3_GraphOrders_c26 : ICode := .keep [8, 9, 10, 12, 15, 93] (.cond (.slot 93) .skip (.exit 4))
theorem C.catnaplaw3_GraphOrders_c26_w : awp P C.catnaplaw3_GraphOrders_c26 Q fr st = awp P (.keep [8, 9, 10, 12, 15, 93] (.cond (.slot 93) .skip (.exit 4))) Q fr st := rfl
def C.catnaplaw3_GraphOrders_r21_b : List IOper := [
  ⟨some 91, .move (.slot 15), none, [], []⟩,
  ⟨some 92, .move (.slot 8), none, [], []⟩,
  ⟨some 93, .bin .lss (.slot 91) (.slot 92), none, [], []⟩]
def C.catnaplaw3_GraphOrders_r21 : List IOper := C.catnaplaw3_GraphOrders_r21_b
theorem C.catnaplaw3_GraphOrders_r21_w {k : AFr → ASt → Prop} : aops P C.catnaplaw3_GraphOrders_r21 k fr st = aops P C.catnaplaw3_GraphOrders_r21_b k fr st := rfl
def C.catnaplaw3_GraphOrders_l27 : ICode := .keep [8, 9, 10, 12, 15] (.seq (.seq (.region C.catnaplaw3_GraphOrders_r21) C.catnaplaw3_GraphOrders_c26) C.catnaplaw3_GraphOrders_c25)
theorem C.catnaplaw3_GraphOrders_l27_w : awp P C.catnaplaw3_GraphOrders_l27 Q fr st = awp P (.keep [8, 9, 10, 12, 15] (.seq (.seq (.region C.catnaplaw3_GraphOrders_r21) C.catnaplaw3_GraphOrders_c26) C.catnaplaw3_GraphOrders_c25)) Q fr st := rfl
def C.catnaplaw3_GraphOrders_b28 : ICode := .loop C.catnaplaw3_GraphOrders_l27
theorem C.catnaplaw3_GraphOrders_b28_w : awp P C.catnaplaw3_GraphOrders_b28 Q fr st = awp P (.loop C.catnaplaw3_GraphOrders_l27) Q fr st := rfl
def C.catnaplaw3_GraphOrders_c29 : ICode := .keep [8, 9, 10, 12, 15] (.block 4 C.catnaplaw3_GraphOrders_b28)
theorem C.catnaplaw3_GraphOrders_c29_w : awp P C.catnaplaw3_GraphOrders_c29 Q fr st = awp P (.keep [8, 9, 10, 12, 15] (.block 4 C.catnaplaw3_GraphOrders_b28)) Q fr st := rfl
def C.catnaplaw3_GraphOrders_r20_b : List IOper := [
  ⟨some 15, .move (.cst (.int .i64 0)), none, [], []⟩]
def C.catnaplaw3_GraphOrders_r20 : List IOper := C.catnaplaw3_GraphOrders_r20_b
theorem C.catnaplaw3_GraphOrders_r20_w {k : AFr → ASt → Prop} : aops P C.catnaplaw3_GraphOrders_r20 k fr st = aops P C.catnaplaw3_GraphOrders_r20_b k fr st := rfl
def C.catnaplaw3_GraphOrders_c30 : ICode := .keep [8, 9, 10, 12] (.seq (.seq (.region C.catnaplaw3_GraphOrders_r20) C.catnaplaw3_GraphOrders_c29) C.catnaplaw3_GraphOrders_c1)
theorem C.catnaplaw3_GraphOrders_c30_w : awp P C.catnaplaw3_GraphOrders_c30 Q fr st = awp P (.keep [8, 9, 10, 12] (.seq (.seq (.region C.catnaplaw3_GraphOrders_r20) C.catnaplaw3_GraphOrders_c29) C.catnaplaw3_GraphOrders_c1)) Q fr st := rfl
def C.catnaplaw3_GraphOrders_r16_b : List IOper := [
  ⟨some 59, .move (.slot 14), none, [], []⟩,
  ⟨some 60, .bin .add (.slot 59) (.cst (.int .i64 1)), none, [], []⟩,
  ⟨some 14, .move (.slot 60), none, [], []⟩]
def C.catnaplaw3_GraphOrders_r16 : List IOper := C.catnaplaw3_GraphOrders_r16_b
theorem C.catnaplaw3_GraphOrders_r16_w {k : AFr → ASt → Prop} : aops P C.catnaplaw3_GraphOrders_r16 k fr st = aops P C.catnaplaw3_GraphOrders_r16_b k fr st := rfl
def C.catnaplaw3_GraphOrders_c31 : ICode := .keep [8, 9, 10, 12, 14] (.region C.catnaplaw3_GraphOrders_r16)
theorem C.catnaplaw3_GraphOrders_c31_w : awp P C.catnaplaw3_GraphOrders_c31 Q fr st = awp P (.keep [8, 9, 10, 12, 14] (.region C.catnaplaw3_GraphOrders_r16)) Q fr st := rfl
def C.catnaplaw3_GraphOrders_r19_b : List IOper := [
  ⟨some 84, .move (.slot 12), none, [], []⟩,
  ⟨some 85, .move (.slot 10), none, [], []⟩,
  ⟨some 86, .move (.slot 14), none, [], []⟩,
  ⟨some 87, .idxAddr 1 (.slot 85) (.slot 86), none, [], []⟩,
  ⟨some 88, .load1 (.slot 87), none, [], []⟩,
  ⟨some 89, .move (.slot 14), none, [], []⟩,
  ⟨some 90, .idxAddr 1 (.slot 84) (.slot 88), none, [], []⟩,
  ⟨none, .store1 (.slot 90) (.slot 89), none, [], []⟩]
def C.catnaplaw3_GraphOrders_r19 : List IOper := C.catnaplaw3_GraphOrders_r19_b
theorem C.catnaplaw3_GraphOrders_r19_w {k : AFr → ASt → Prop} : aops P C.catnaplaw3_GraphOrders_r19 k fr st = aops P C.catnaplaw3_GraphOrders_r19_b k fr st := rfl
def C.catnaplaw3_GraphOrders_c32 : ICode := .keep [8, 9, 10, 12, 14] (.region C.catnaplaw3_GraphOrders_r19)
theorem C.catnaplaw3_GraphOrders_c32_w : awp P C.catnaplaw3_GraphOrders_c32 Q fr st = awp P (.keep [8, 9, 10, 12, 14] (.region C.catnaplaw3_GraphOrders_r19)) Q fr st := rfl
def C.catnaplaw3_GraphOrders_r18_b : List IOper := [
  ⟨some 6, .move (.cst (.bool false)), none, [], []⟩]
def C.catnaplaw3_GraphOrders_r18 : List IOper := C.catnaplaw3_GraphOrders_r18_b
theorem C.catnaplaw3_GraphOrders_r18_w {k : AFr → ASt → Prop} : aops P C.catnaplaw3_GraphOrders_r18 k fr st = aops P C.catnaplaw3_GraphOrders_r18_b k fr st := rfl
def C.catnaplaw3_GraphOrders_c33 : ICode := .seq (.region C.catnaplaw3_GraphOrders_r18) .ret
theorem C.catnaplaw3_GraphOrders_c33_w : awp P C.catnaplaw3_GraphOrders_c33 Q fr st = awp P (.seq (.region C.catnaplaw3_GraphOrders_r18) .ret) Q fr st := rfl
def C.catnaplaw3_GraphOrders_c34 : ICode := .keep [8, 9, 10, 12, 14, 83] (.cond (.slot 83) C.catnaplaw3_GraphOrders_c33 .skip)
theorem C.catnaplaw3_GraphOrders_c34_w : awp P C.catnaplaw3_GraphOrders_c34 Q fr st = awp P (.keep [8, 9, 10, 12, 14, 83] (.cond (.slot 83) C.catnaplaw3_GraphOrders_c33 .skip)) Q fr st := rfl
def C.catnaplaw3_GraphOrders_r17_b : List IOper := [
  ⟨some 61, .move (.slot 10), none, [], []⟩,
  ⟨some 62, .move (.slot 14), none, [], []⟩,
  ⟨some 63, .idxAddr 1 (.slot 61) (.slot 62), none, [], []⟩,
  ⟨some 64, .load1 (.slot 63), none, [], []⟩,
  ⟨some 65, .bin .lss (.slot 64) (.cst (.int .i64 0)), none, [], []⟩,
  ⟨some 66, .move (.slot 65), none, [], []⟩,
  ⟨some 67, .move (.slot 10), some (66, false), [], []⟩,
  ⟨some 68, .move (.slot 14), some (66, false), [], []⟩,
  ⟨some 69, .idxAddr 1 (.slot 67) (.slot 68), some (66, false), [], []⟩,
  ⟨some 70, .load1 (.slot 69), some (66, false), [], []⟩,
  ⟨some 71, .move (.slot 8), some (66, false), [], []⟩,
  ⟨some 72, .bin .geq (.slot 70) (.slot 71), some (66, false), [], []⟩,
  ⟨some 73, .pick (.slot 66) (.cst (.bool true)) (.slot 72), none, [], []⟩,
  ⟨some 74, .move (.slot 73), none, [], []⟩,
  ⟨some 75, .move (.slot 12), some (74, false), [], []⟩,
  ⟨some 76, .move (.slot 10), some (74, false), [], []⟩,
  ⟨some 77, .move (.slot 14), some (74, false), [], []⟩,
  ⟨some 78, .idxAddr 1 (.slot 76) (.slot 77), some (74, false), [], []⟩,
  ⟨some 79, .load1 (.slot 78), some (74, false), [], []⟩,
  ⟨some 80, .idxAddr 1 (.slot 75) (.slot 79), some (74, false), [], []⟩,
  ⟨some 81, .load1 (.slot 80), some (74, false), [], []⟩,
  ⟨some 82, .bin .geq (.slot 81) (.cst (.int .i64 0)), some (74, false), [], []⟩,
  ⟨some 83, .pick (.slot 74) (.cst (.bool true)) (.slot 82), none, [], []⟩]
def C.catnaplaw3_GraphOrders_r17 : List IOper := C.catnaplaw3_GraphOrders_r17_b
theorem C.catnaplaw3_GraphOrders_r17_w {k : AFr → ASt → Prop} : aops P C.catnaplaw3_GraphOrders_r17 k fr st = aops P C.catnaplaw3_GraphOrders_r17_b k fr st := rfl
def C.catnaplaw3_GraphOrders_b35 : ICode := .seq (.seq (.region C.catnaplaw3_GraphOrders_r17) C.catnaplaw3_GraphOrders_c34) C.catnaplaw3_GraphOrders_c32
theorem C.catnaplaw3_GraphOrders_b35_w : awp P C.catnaplaw3_GraphOrders_b35 Q fr st = awp P (.seq (.seq (.region C.catnaplaw3_GraphOrders_r17) C.catnaplaw3_GraphOrders_c34) C.catnaplaw3_GraphOrders_c32) Q fr st := rfl
def C.catnaplaw3_GraphOrders_c36 : ICode := .keep [8, 9, 10, 12, 14] (.seq (.block 3 C.catnaplaw3_GraphOrders_b35) C.catnaplaw3_GraphOrders_c31)
theorem C.catnaplaw3_GraphOrders_c36_w : awp P C.catnaplaw3_GraphOrders_c36 Q fr st = awp P (.keep [8, 9, 10, 12, 14] (.seq (.block 3 C.catnaplaw3_GraphOrders_b35) C.catnaplaw3_GraphOrders_c31)) Q fr st := rfl
def C.catnaplaw3_GraphOrders_c37 : ICode := .keep [8, 9, 10, 12, 14, 58] (.cond (.slot 58) .skip (.exit 2))
theorem C.catnaplaw3_GraphOrders_c37_w : awp P C.catnaplaw3_GraphOrders_c37 Q fr st = awp P (.keep [8, 9, 10, 12, 14, 58] (.cond (.slot 58) .skip (.exit 2))) Q fr st := rfl
def C.catnaplaw3_GraphOrders_r15_b : List IOper := [
  ⟨some 56, .move (.slot 14), none, [], []⟩,
  ⟨some 57, .move (.slot 8), none, [], []⟩,
  ⟨some 58, .bin .lss (.slot 56) (.slot 57), none, [], []⟩]
def C.catnaplaw3_GraphOrders_r15 : List IOper := C.catnaplaw3_GraphOrders_r15_b
theorem C.catnaplaw3_GraphOrders_r15_w {k : AFr → ASt → Prop} : aops P C.catnaplaw3_GraphOrders_r15 k fr st = aops P C.catnaplaw3_GraphOrders_r15_b k fr st := rfl
def C.catnaplaw3_GraphOrders_l38 : ICode := .keep [8, 9, 10, 12, 14] (.seq (.seq (.region C.catnaplaw3_GraphOrders_r15) C.catnaplaw3_GraphOrders_c37) C.catnaplaw3_GraphOrders_c36)
theorem C.catnaplaw3_GraphOrders_l38_w : awp P C.catnaplaw3_GraphOrders_l38 Q fr st = awp P (.keep [8, 9, 10, 12, 14] (.seq (.seq (.region C.catnaplaw3_GraphOrders_r15) C.catnaplaw3_GraphOrders_c37) C.catnaplaw3_GraphOrders_c36)) Q fr st := rfl
def C.catnaplaw3_GraphOrders_b39 : ICode := .loop C.catnaplaw3_GraphOrders_l38
theorem C.catnaplaw3_GraphOrders_b39_w : awp P C.catnaplaw3_GraphOrders_b39 Q fr st = awp P (.loop C.catnaplaw3_GraphOrders_l38) Q fr st := rfl
def C.catnaplaw3_GraphOrders_c40 : ICode := .keep [8, 9, 10, 12, 14] (.block 2 C.catnaplaw3_GraphOrders_b39)
theorem C.catnaplaw3_GraphOrders_c40_w : awp P C.catnaplaw3_GraphOrders_c40 Q fr st = awp P (.keep [8, 9, 10, 12, 14] (.block 2 C.catnaplaw3_GraphOrders_b39)) Q fr st := rfl
def C.catnaplaw3_GraphOrders_r14_b : List IOper := [
  ⟨some 14, .move (.cst (.int .i64 0)), none, [], []⟩]
def C.catnaplaw3_GraphOrders_r14 : List IOper := C.catnaplaw3_GraphOrders_r14_b
theorem C.catnaplaw3_GraphOrders_r14_w {k : AFr → ASt → Prop} : aops P C.catnaplaw3_GraphOrders_r14 k fr st = aops P C.catnaplaw3_GraphOrders_r14_b k fr st := rfl
def C.catnaplaw3_GraphOrders_c41 : ICode := .keep [8, 9, 10, 12] (.seq (.seq (.region C.catnaplaw3_GraphOrders_r14) C.catnaplaw3_GraphOrders_c40) C.catnaplaw3_GraphOrders_c30)
theorem C.catnaplaw3_GraphOrders_c41_w : awp P C.catnaplaw3_GraphOrders_c41 Q fr st = awp P (.keep [8, 9, 10, 12] (.seq (.seq (.region C.catnaplaw3_GraphOrders_r14) C.catnaplaw3_GraphOrders_c40) C.catnaplaw3_GraphOrders_c30)) Q fr st := rfl
def C.catnaplaw3_GraphOrders_r12_b : List IOper := [
  ⟨some 51, .move (.slot 13), none, [], []⟩,
  ⟨some 52, .bin .add (.slot 51) (.cst (.int .i64 1)), none, [], []⟩,
  ⟨some 13, .move (.slot 52), none, [], []⟩]
def C.catnaplaw3_GraphOrders_r12 : List IOper := C.catnaplaw3_GraphOrders_r12_b
theorem C.catnaplaw3_GraphOrders_r12_w {k : AFr → ASt → Prop} : aops P C.catnaplaw3_GraphOrders_r12 k fr st = aops P C.catnaplaw3_GraphOrders_r12_b k fr st := rfl
def C.catnaplaw3_GraphOrders_c42 : ICode := .keep [8, 9, 10, 12, 13] (.region C.catnaplaw3_GraphOrders_r12)
theorem C.catnaplaw3_GraphOrders_c42_w : awp P C.catnaplaw3_GraphOrders_c42 Q fr st = awp P (.keep [8, 9, 10, 12, 13] (.region C.catnaplaw3_GraphOrders_r12)) Q fr st := rfl
def C.catnaplaw3_GraphOrders_r13_b : List IOper := [
  ⟨some 53, .move (.slot 12), none, [], []⟩,
  ⟨some 54, .move (.slot 13), none, [], []⟩,
  ⟨some 55, .idxAddr 1 (.slot 53) (.slot 54), none, [], []⟩,
  ⟨none, .store1 (.slot 55) (.cst (.int .i64 (-1))), none, [], []⟩]
def C.catnaplaw3_GraphOrders_r13 : List IOper := C.catnaplaw3_GraphOrders_r13_b
theorem C.catnaplaw3_GraphOrders_r13_w {k : AFr → ASt → Prop} : aops P C.catnaplaw3_GraphOrders_r13 k fr st = aops P C.catnaplaw3_GraphOrders_r13_b k fr st := rfl
def C.catnaplaw3_GraphOrders_b43 : ICode := .region C.catnaplaw3_GraphOrders_r13
theorem C.catnaplaw3_GraphOrders_b43_w : awp P C.catnaplaw3_GraphOrders_b43 Q fr st = awp P (.region C.catnaplaw3_GraphOrders_r13) Q fr st := rfl
def C.catnaplaw3_GraphOrders_c44 : ICode := .keep [8, 9, 10, 12, 13] (.seq (.block 1 C.catnaplaw3_GraphOrders_b43) C.catnaplaw3_GraphOrders_c42)
theorem C.catnaplaw3_GraphOrders_c44_w : awp P C.catnaplaw3_GraphOrders_c44 Q fr st = awp P (.keep [8, 9, 10, 12, 13] (.seq (.block 1 C.catnaplaw3_GraphOrders_b43) C.catnaplaw3_GraphOrders_c42)) Q fr st := rfl
def C.catnaplaw3_GraphOrders_c45 : ICode := .keep [8, 9, 10, 12, 13, 50] (.cond (.slot 50) .skip (.exit 0))
theorem C.catnaplaw3_GraphOrders_c45_w : awp P C.catnaplaw3_GraphOrders_c45 Q fr st = awp P (.keep [8, 9, 10, 12, 13, 50] (.cond (.slot 50) .skip (.exit 0))) Q fr st := rfl
def C.catnaplaw3_GraphOrders_r11_b : List IOper := [
  ⟨some 48, .move (.slot 13), none, [], []⟩,
  ⟨some 49, .move (.slot 8), none, [], []⟩,
  ⟨some 50, .bin .lss (.slot 48) (.slot 49), none, [], []⟩]
def C.catnaplaw3_GraphOrders_r11 : List IOper := C.catnaplaw3_GraphOrders_r11_b
theorem C.catnaplaw3_GraphOrders_r11_w {k : AFr → ASt → Prop} : aops P C.catnaplaw3_GraphOrders_r11 k fr st = aops P C.catnaplaw3_GraphOrders_r11_b k fr st := rfl
def C.catnaplaw3_GraphOrders_l46 : ICode := .keep [8, 9, 10, 12, 13] (.seq (.seq (.region C.catnaplaw3_GraphOrders_r11) C.catnaplaw3_GraphOrders_c45) C.catnaplaw3_GraphOrders_c44)
theorem C.catnaplaw3_GraphOrders_l46_w : awp P C.catnaplaw3_GraphOrders_l46 Q fr st = awp P (.keep [8, 9, 10, 12, 13] (.seq (.seq (.region C.catnaplaw3_GraphOrders_r11) C.catnaplaw3_GraphOrders_c45) C.catnaplaw3_GraphOrders_c44)) Q fr st := rfl
def C.catnaplaw3_GraphOrders_b47 : ICode := .loop C.catnaplaw3_GraphOrders_l46
theorem C.catnaplaw3_GraphOrders_b47_w : awp P C.catnaplaw3_GraphOrders_b47 Q fr st = awp P (.loop C.catnaplaw3_GraphOrders_l46) Q fr st := rfl
def C.catnaplaw3_GraphOrders_c48 : ICode := .keep [8, 9, 10, 12, 13] (.block 0 C.catnaplaw3_GraphOrders_b47)
theorem C.catnaplaw3_GraphOrders_c48_w : awp P C.catnaplaw3_GraphOrders_c48 Q fr st = awp P (.keep [8, 9, 10, 12, 13] (.block 0 C.catnaplaw3_GraphOrders_b47)) Q fr st := rfl
def C.catnaplaw3_GraphOrders_r10_b : List IOper := [
  ⟨some 13, .move (.cst (.int .i64 0)), none, [], []⟩]
def C.catnaplaw3_GraphOrders_r10 : List IOper := C.catnaplaw3_GraphOrders_r10_b
theorem C.catnaplaw3_GraphOrders_r10_w {k : AFr → ASt → Prop} : aops P C.catnaplaw3_GraphOrders_r10 k fr st = aops P C.catnaplaw3_GraphOrders_r10_b k fr st := rfl
def C.catnaplaw3_GraphOrders_c49 : ICode := .keep [8, 9, 10, 12] (.seq (.seq (.region C.catnaplaw3_GraphOrders_r10) C.catnaplaw3_GraphOrders_c48) C.catnaplaw3_GraphOrders_c41)
theorem C.catnaplaw3_GraphOrders_c49_w : awp P C.catnaplaw3_GraphOrders_c49 Q fr st = awp P (.keep [8, 9, 10, 12] (.seq (.seq (.region C.catnaplaw3_GraphOrders_r10) C.catnaplaw3_GraphOrders_c48) C.catnaplaw3_GraphOrders_c41)) Q fr st := rfl
def C.catnaplaw3_GraphOrders_r9_b : List IOper := [
  ⟨some 46, .move (.slot 8), none, [], []⟩,
  ⟨some 47, .makeSlice 1 8 [.int .i64 0] (.slot 46) (.slot 46), none, [], []⟩,
  ⟨some 12, .move (.slot 47), none, [], []⟩]
def C.catnaplaw3_GraphOrders_r9 : List IOper := C.catnaplaw3_GraphOrders_r9_b
theorem C.catnaplaw3_GraphOrders_r9_w {k : AFr → ASt → Prop} : aops P C.catnaplaw3_GraphOrders_r9 k fr st = aops P C.catnaplaw3_GraphOrders_r9_b k fr st := rfl
def C.catnaplaw3_GraphOrders_c50 : ICode := .keep [8, 9, 10] (.seq (.region C.catnaplaw3_GraphOrders_r9) C.catnaplaw3_GraphOrders_c49)
theorem C.catnaplaw3_GraphOrders_c50_w : awp P C.catnaplaw3_GraphOrders_c50 Q fr st = awp P (.keep [8, 9, 10] (.seq (.region C.catnaplaw3_GraphOrders_r9) C.catnaplaw3_GraphOrders_c49)) Q fr st := rfl
def C.catnaplaw3_GraphOrders_r8_b : List IOper := [
  ⟨some 6, .move (.cst (.bool false)), none, [], []⟩]
def C.catnaplaw3_GraphOrders_r8 : List IOper := C.catnaplaw3_GraphOrders_r8_b
theorem C.catnaplaw3_GraphOrders_r8_w {k : AFr → ASt → Prop} : aops P C.catnaplaw3_GraphOrders_r8 k fr st = aops P C.catnaplaw3_GraphOrders_r8_b k fr st := rfl
def C.catnaplaw3_GraphOrders_c51 : ICode := .seq (.region C.catnaplaw3_GraphOrders_r8) .ret
theorem C.catnaplaw3_GraphOrders_c51_w : awp P C.catnaplaw3_GraphOrders_c51 Q fr st = awp P (.seq (.region C.catnaplaw3_GraphOrders_r8) .ret) Q fr st := rfl
def C.catnaplaw3_GraphOrders_c52 : ICode := .keep [8, 9, 10, 45] (.cond (.slot 45) C.catnaplaw3_GraphOrders_c51 .skip)
theorem C.catnaplaw3_GraphOrders_c52_w : awp P C.catnaplaw3_GraphOrders_c52 Q fr st = awp P (.keep [8, 9, 10, 45] (.cond (.slot 45) C.catnaplaw3_GraphOrders_c51 .skip)) Q fr st := rfl
def C.catnaplaw3_GraphOrders_r7_b : List IOper := [
  ⟨some 33, .move (.slot 11), none, [], []⟩,
  ⟨some 34, .bin .neq (.slot 33) (.cst (.int .i64 0)), none, [], []⟩,
  ⟨some 35, .move (.slot 34), none, [], []⟩,
  ⟨some 36, .move (.slot 9), some (35, false), [], []⟩,
  ⟨some 37, .call F.graph_Check [.slot 36], some (35, false), [], []⟩,
  ⟨some 38, .bin .neq (.slot 37) (.cst (.int .i64 0)), some (35, false), [], []⟩,
  ⟨some 39, .pick (.slot 35) (.cst (.bool true)) (.slot 38), none, [], []⟩,
  ⟨some 40, .move (.slot 39), none, [], []⟩,
  ⟨some 41, .move (.slot 10), some (40, false), [], []⟩,
  ⟨some 42, .len (.slot 41), some (40, false), [], []⟩,
  ⟨some 43, .move (.slot 8), some (40, false), [], []⟩,
  ⟨some 44, .bin .neq (.slot 42) (.slot 43), some (40, false), [], []⟩,
  ⟨some 45, .pick (.slot 40) (.cst (.bool true)) (.slot 44), none, [], []⟩]
def C.catnaplaw3_GraphOrders_r7 : List IOper := C.catnaplaw3_GraphOrders_r7_b
theorem C.catnaplaw3_GraphOrders_r7_w {k : AFr → ASt → Prop} : aops P C.catnaplaw3_GraphOrders_r7 k fr st = aops P C.catnaplaw3_GraphOrders_r7_b k fr st := rfl
def C.catnaplaw3_GraphOrders_c53 : ICode := .keep [8, 9, 10, 11] (.seq (.seq (.region C.catnaplaw3_GraphOrders_r7) C.catnaplaw3_GraphOrders_c52) C.catnaplaw3_GraphOrders_c50)
theorem C.catnaplaw3_GraphOrders_c53_w : awp P C.catnaplaw3_GraphOrders_c53 Q fr st = awp P (.keep [8, 9, 10, 11] (.seq (.seq (.region C.catnaplaw3_GraphOrders_r7) C.catnaplaw3_GraphOrders_c52) C.catnaplaw3_GraphOrders_c50)) Q fr st := rfl
def C.catnaplaw3_GraphOrders_r6_b : List IOper := [
  ⟨some 29, .move (.slot 9), none, [], []⟩,
  ⟨some 30, .call F.graph_Order [.slot 29], none, [], []⟩,
  ⟨some 28, .move (.slot 30), none, [], []⟩,
  ⟨some 31, .extract (.slot 28) 0, none, [], []⟩,
  ⟨some 32, .extract (.slot 28) 1, none, [], []⟩,
  ⟨some 10, .move (.slot 31), none, [], []⟩,
  ⟨some 11, .move (.slot 32), none, [], []⟩]
def C.catnaplaw3_GraphOrders_r6 : List IOper := C.catnaplaw3_GraphOrders_r6_b
theorem C.catnaplaw3_GraphOrders_r6_w {k : AFr → ASt → Prop} : aops P C.catnaplaw3_GraphOrders_r6 k fr st = aops P C.catnaplaw3_GraphOrders_r6_b k fr st := rfl
def C.catnaplaw3_GraphOrders_c54 : ICode := .keep [8, 9] (.seq (.region C.catnaplaw3_GraphOrders_r6) C.catnaplaw3_GraphOrders_c53)
theorem C.catnaplaw3_GraphOrders_c54_w : awp P C.catnaplaw3_GraphOrders_c54 Q fr st = awp P (.keep [8, 9] (.seq (.region C.catnaplaw3_GraphOrders_r6) C.catnaplaw3_GraphOrders_c53)) Q fr st := rfl
def C.catnaplaw3_GraphOrders_r5_b : List IOper := [
  ⟨some 24, .move (.slot 8), none, [], []⟩,
  ⟨some 25, .move (.slot 1), none, [], []⟩,
  ⟨some 26, .move (.slot 2), none, [], []⟩,
  ⟨some 27, .call F.catnaplaw3_falling [.slot 24, .slot 25, .slot 26], none, [], []⟩,
  ⟨some 9, .move (.slot 27), none, [], []⟩]
def C.catnaplaw3_GraphOrders_r5 : List IOper := C.catnaplaw3_GraphOrders_r5_b
theorem C.catnaplaw3_GraphOrders_r5_w {k : AFr → ASt → Prop} : aops P C.catnaplaw3_GraphOrders_r5 k fr st = aops P C.catnaplaw3_GraphOrders_r5_b k fr st := rfl
def C.catnaplaw3_GraphOrders_c55 : ICode := .keep [1, 2, 8] (.seq (.region C.catnaplaw3_GraphOrders_r5) C.catnaplaw3_GraphOrders_c54)
theorem C.catnaplaw3_GraphOrders_c55_w : awp P C.catnaplaw3_GraphOrders_c55 Q fr st = awp P (.keep [1, 2, 8] (.seq (.region C.catnaplaw3_GraphOrders_r5) C.catnaplaw3_GraphOrders_c54)) Q fr st := rfl
def C.catnaplaw3_GraphOrders_r4_b : List IOper := [
  ⟨some 22, .move (.slot 0), none, [], []⟩,
  ⟨some 23, .call F.catnaplaw3_pick [.slot 22, .cst (.int .i64 12)], none, [], []⟩,
  ⟨some 8, .move (.slot 23), none, [], []⟩]
def C.catnaplaw3_GraphOrders_r4 : List IOper := C.catnaplaw3_GraphOrders_r4_b
theorem C.catnaplaw3_GraphOrders_r4_w {k : AFr → ASt → Prop} : aops P C.catnaplaw3_GraphOrders_r4 k fr st = aops P C.catnaplaw3_GraphOrders_r4_b k fr st := rfl
def C.catnaplaw3_GraphOrders_c56 : ICode := .keep [0, 1, 2] (.seq (.region C.catnaplaw3_GraphOrders_r4) C.catnaplaw3_GraphOrders_c55)
theorem C.catnaplaw3_GraphOrders_c56_w : awp P C.catnaplaw3_GraphOrders_c56 Q fr st = awp P (.keep [0, 1, 2] (.seq (.region C.catnaplaw3_GraphOrders_r4) C.catnaplaw3_GraphOrders_c55)) Q fr st := rfl
def C.catnaplaw3_GraphOrders_r3_b : List IOper := [
  ⟨some 6, .move (.cst (.bool false)), none, [], []⟩]
def C.catnaplaw3_GraphOrders_r3 : List IOper := C.catnaplaw3_GraphOrders_r3_b
theorem C.catnaplaw3_GraphOrders_r3_w {k : AFr → ASt → Prop} : aops P C.catnaplaw3_GraphOrders_r3 k fr st = aops P C.catnaplaw3_GraphOrders_r3_b k fr st := rfl
def C.catnaplaw3_GraphOrders_c57 : ICode := .seq (.region C.catnaplaw3_GraphOrders_r3) .ret
theorem C.catnaplaw3_GraphOrders_c57_w : awp P C.catnaplaw3_GraphOrders_c57 Q fr st = awp P (.seq (.region C.catnaplaw3_GraphOrders_r3) .ret) Q fr st := rfl
def C.catnaplaw3_GraphOrders_c58 : ICode := .keep [0, 1, 2, 21] (.cond (.slot 21) C.catnaplaw3_GraphOrders_c57 .skip)
theorem C.catnaplaw3_GraphOrders_c58_w : awp P C.catnaplaw3_GraphOrders_c58 Q fr st = awp P (.keep [0, 1, 2, 21] (.cond (.slot 21) C.catnaplaw3_GraphOrders_c57 .skip)) Q fr st := rfl
def C.catnaplaw3_GraphOrders_r2_b : List IOper := [
  ⟨some 20, .move (.slot 7), none, [], []⟩,
  ⟨some 21, .un .not (.slot 20), none, [], []⟩]
def C.catnaplaw3_GraphOrders_r2 : List IOper := C.catnaplaw3_GraphOrders_r2_b
theorem C.catnaplaw3_GraphOrders_r2_w {k : AFr → ASt → Prop} : aops P C.catnaplaw3_GraphOrders_r2 k fr st = aops P C.catnaplaw3_GraphOrders_r2_b k fr st := rfl
def C.catnaplaw3_GraphOrders_c59 : ICode := .keep [0, 1, 2, 7] (.seq (.seq (.region C.catnaplaw3_GraphOrders_r2) C.catnaplaw3_GraphOrders_c58) C.catnaplaw3_GraphOrders_c56)
theorem C.catnaplaw3_GraphOrders_c59_w : awp P C.catnaplaw3_GraphOrders_c59 Q fr st = awp P (.keep [0, 1, 2, 7] (.seq (.seq (.region C.catnaplaw3_GraphOrders_r2) C.catnaplaw3_GraphOrders_c58) C.catnaplaw3_GraphOrders_c56)) Q fr st := rfl
def C.catnaplaw3_GraphOrders_r1_b : List IOper := [
  ⟨some 19, .call F.catnaplaw3_shown [], none, [], []⟩,
  ⟨some 7, .move (.slot 19), none, [], []⟩]
def C.catnaplaw3_GraphOrders_r1 : List IOper := C.catnaplaw3_GraphOrders_r1_b
theorem C.catnaplaw3_GraphOrders_r1_w {k : AFr → ASt → Prop} : aops P C.catnaplaw3_GraphOrders_r1 k fr st = aops P C.catnaplaw3_GraphOrders_r1_b k fr st := rfl
def C.catnaplaw3_GraphOrders_c60 : ICode := .keep [0, 1, 2] (.seq (.region C.catnaplaw3_GraphOrders_r1) C.catnaplaw3_GraphOrders_c59)
theorem C.catnaplaw3_GraphOrders_c60_w : awp P C.catnaplaw3_GraphOrders_c60 Q fr st = awp P (.keep [0, 1, 2] (.seq (.region C.catnaplaw3_GraphOrders_r1) C.catnaplaw3_GraphOrders_c59)) Q fr st := rfl
def C.catnaplaw3_GraphOrders_r0_b : List IOper := [
  ⟨some 6, .move (.cst (.bool false)), none, [], []⟩]
def C.catnaplaw3_GraphOrders_r0 : List IOper := C.catnaplaw3_GraphOrders_r0_b
theorem C.catnaplaw3_GraphOrders_r0_w {k : AFr → ASt → Prop} : aops P C.catnaplaw3_GraphOrders_r0 k fr st = aops P C.catnaplaw3_GraphOrders_r0_b k fr st := rfl
def C.catnaplaw3_GraphOrders : IFunc := ⟨3, [.slot 6], .seq (.region C.catnaplaw3_GraphOrders_r0) C.catnaplaw3_GraphOrders_c60⟩
def C.catnaplaw3_GraphOrders_W := And.intro (And.intro (And.intro (And.intro (And.intro (And.intro @C.catnaplaw3_GraphOrders_r35_w @C.catnaplaw3_GraphOrders_c1_w) (And.intro @C.catnaplaw3_GraphOrders_r22_w (And.intro @C.catnaplaw3_GraphOrders_c2_w @C.catnaplaw3_GraphOrders_r32_w))) (And.intro (And.intro @C.catnaplaw3_GraphOrders_c3_w (And.intro @C.catnaplaw3_GraphOrders_r34_w @C.catnaplaw3_GraphOrders_c4_w)) (And.intro @C.catnaplaw3_GraphOrders_c5_w (And.intro @C.catnaplaw3_GraphOrders_r33_w @C.catnaplaw3_GraphOrders_b6_w)))) (And.intro (And.intro (And.intro @C.catnaplaw3_GraphOrders_c7_w @C.catnaplaw3_GraphOrders_c8_w) (And.intro @C.catnaplaw3_GraphOrders_r31_w (And.intro @C.catnaplaw3_GraphOrders_b10_w @C.catnaplaw3_GraphOrders_c11_w))) (And.intro (And.intro @C.catnaplaw3_GraphOrders_r30_w (And.intro @C.catnaplaw3_GraphOrders_c12_w @C.catnaplaw3_GraphOrders_r26_w)) (And.intro @C.catnaplaw3_GraphOrders_c13_w (And.intro @C.catnaplaw3_GraphOrders_r29_w @C.catnaplaw3_GraphOrders_c14_w))))) (And.intro (And.intro (And.intro (And.intro @C.catnaplaw3_GraphOrders_r28_w @C.catnaplaw3_GraphOrders_c15_w) (And.intro @C.catnaplaw3_GraphOrders_c16_w (And.intro @C.catnaplaw3_GraphOrders_r27_w @C.catnaplaw3_GraphOrders_b17_w))) (And.intro (And.intro @C.catnaplaw3_GraphOrders_c18_w (And.intro @C.catnaplaw3_GraphOrders_c19_w @C.catnaplaw3_GraphOrders_r25_w)) (And.intro @C.catnaplaw3_GraphOrders_b21_w (And.intro @C.catnaplaw3_GraphOrders_c22_w @C.catnaplaw3_GraphOrders_r24_w)))) (And.intro (And.intro (And.intro @C.catnaplaw3_GraphOrders_c23_w (And.intro @C.catnaplaw3_GraphOrders_r23_w @C.catnaplaw3_GraphOrders_b24_w)) (And.intro @C.catnaplaw3_GraphOrders_c25_w (And.intro @C.catnaplaw3_GraphOrders_c26_w @C.catnaplaw3_GraphOrders_r21_w))) (And.intro (And.intro @C.catnaplaw3_GraphOrders_b28_w (And.intro @C.catnaplaw3_GraphOrders_c29_w @C.catnaplaw3_GraphOrders_r20_w)) (And.intro @C.catnaplaw3_GraphOrders_c30_w (And.intro @C.catnaplaw3_GraphOrders_r16_w @C.catnaplaw3_GraphOrders_c31_w)))))) (And.intro (And.intro (And.intro (And.intro (And.intro @C.catnaplaw3_GraphOrders_r19_w @C.catnaplaw3_GraphOrders_c32_w) (And.intro @C.catnaplaw3_GraphOrders_r18_w (And.intro @C.catnaplaw3_GraphOrders_c33_w @C.catnaplaw3_GraphOrders_c34_w))) (And.intro (And.intro @C.catnaplaw3_GraphOrders_r17_w (And.intro @C.catnaplaw3_GraphOrders_b35_w @C.catnaplaw3_GraphOrders_c36_w)) (And.intro @C.catnaplaw3_GraphOrders_c37_w (And.intro @C.catnaplaw3_GraphOrders_r15_w @C.catnaplaw3_GraphOrders_b39_w)))) (And.intro (And.intro (And.intro @C.catnaplaw3_GraphOrders_c40_w (And.intro @C.catnaplaw3_GraphOrders_r14_w @C.catnaplaw3_GraphOrders_c41_w)) (And.intro @C.catnaplaw3_GraphOrders_r12_w (And.intro @C.catnaplaw3_GraphOrders_c42_w @C.catnaplaw3_GraphOrders_r13_w))) (And.intro (And.intro @C.catnaplaw3_GraphOrders_b43_w (And.intro @C.catnaplaw3_GraphOrders_c44_w @C.catnaplaw3_GraphOrders_c45_w)) (And.intro @C.catnaplaw3_GraphOrders_r11_w (And.intro @C.catnaplaw3_GraphOrders_b47_w @C.catnaplaw3_GraphOrders_c48_w))))) (And.intro (And.intro (And.intro (And.intro @C.catnaplaw3_GraphOrders_r10_w @C.catnaplaw3_GraphOrders_c49_w) (And.intro @C.catnaplaw3_GraphOrders_r9_w (And.intro @C.catnaplaw3_GraphOrders_c50_w @C.catnaplaw3_GraphOrders_r8_w))) (And.intro (And.intro @C.catnaplaw3_GraphOrders_c51_w (And.intro @C.catnaplaw3_GraphOrders_c52_w @C.catnaplaw3_GraphOrders_r7_w)) (And.intro @C.catnaplaw3_GraphOrders_c53_w (And.intro @C.catnaplaw3_GraphOrders_r6_w @C.catnaplaw3_GraphOrders_c54_w)))) (And.intro (And.intro (And.intro @C.catnaplaw3_GraphOrders_r5_w (And.intro @C.catnaplaw3_GraphOrders_c55_w @C.catnaplaw3_GraphOrders_r4_w)) (And.intro @C.catnaplaw3_GraphOrders_c56_w (And.intro @C.catnaplaw3_GraphOrders_r3_w @C.catnaplaw3_GraphOrders_c57_w))) (And.intro (And.intro @C.catnaplaw3_GraphOrders_c58_w (And.intro @C.catnaplaw3_GraphOrders_r2_w @C.catnaplaw3_GraphOrders_c59_w)) (And.intro @C.catnaplaw3_GraphOrders_r1_w (And.intro @C.catnaplaw3_GraphOrders_c60_w @C.catnaplaw3_GraphOrders_r0_w))))))
def C.catnaplaw3_GraphOrders_B := And.intro (And.intro (And.intro (And.intro (And.intro @C.catnaplaw3_GraphOrders_r35_b.eq_1 @C.catnaplaw3_GraphOrders_r22_b.eq_1) (And.intro @C.catnaplaw3_GraphOrders_r32_b.eq_1 @C.catnaplaw3_GraphOrders_r34_b.eq_1)) (And.intro (And.intro @C.catnaplaw3_GraphOrders_r33_b.eq_1 @C.catnaplaw3_GraphOrders_r31_b.eq_1) (And.intro @C.catnaplaw3_GraphOrders_r30_b.eq_1 (And.intro @C.catnaplaw3_GraphOrders_r26_b.eq_1 @C.catnaplaw3_GraphOrders_r29_b.eq_1)))) (And.intro (And.intro (And.intro @C.catnaplaw3_GraphOrders_r28_b.eq_1 @C.catnaplaw3_GraphOrders_r27_b.eq_1) (And.intro @C.catnaplaw3_GraphOrders_r25_b.eq_1 @C.catnaplaw3_GraphOrders_r24_b.eq_1)) (And.intro (And.intro @C.catnaplaw3_GraphOrders_r23_b.eq_1 @C.catnaplaw3_GraphOrders_r21_b.eq_1) (And.intro @C.catnaplaw3_GraphOrders_r20_b.eq_1 (And.intro @C.catnaplaw3_GraphOrders_r16_b.eq_1 @C.catnaplaw3_GraphOrders_r19_b.eq_1))))) (And.intro (And.intro (And.intro (And.intro @C.catnaplaw3_GraphOrders_r18_b.eq_1 @C.catnaplaw3_GraphOrders_r17_b.eq_1) (And.intro @C.catnaplaw3_GraphOrders_r15_b.eq_1 @C.catnaplaw3_GraphOrders_r14_b.eq_1)) (And.intro (And.intro @C.catnaplaw3_GraphOrders_r12_b.eq_1 @C.catnaplaw3_GraphOrders_r13_b.eq_1) (And.intro @C.catnaplaw3_GraphOrders_r11_b.eq_1 (And.intro @C.catnaplaw3_GraphOrders_r10_b.eq_1 @C.catnaplaw3_GraphOrders_r9_b.eq_1)))) (And.intro (And.intro (And.intro @C.catnaplaw3_GraphOrders_r8_b.eq_1 @C.catnaplaw3_GraphOrders_r7_b.eq_1) (And.intro @C.catnaplaw3_GraphOrders_r6_b.eq_1 @C.catnaplaw3_GraphOrders_r5_b.eq_1)) (And.intro (And.intro @C.catnaplaw3_GraphOrders_r4_b.eq_1 @C.catnaplaw3_GraphOrders_r3_b.eq_1) (And.intro @C.catnaplaw3_GraphOrders_r2_b.eq_1 (And.intro @C.catnaplaw3_GraphOrders_r1_b.eq_1 @C.catnaplaw3_GraphOrders_r0_b.eq_1)))))

def C.catnaplaw3_GraphJoins_r27_b : List IOper := [
  ⟨some 132, .move (.slot 23), none, [], []⟩,
  ⟨some 133, .bin .eql (.slot 132) (.cst (.int .i64 0)), none, [], []⟩,
  ⟨some 134, .move (.slot 133), none, [], []⟩,
  ⟨some 135, .move (.slot 25), some (134, true), [], []⟩,
  ⟨some 136, .bin .eql (.slot 135) (.cst (.int .i64 0)), some (134, true), [], []⟩,
  ⟨some 137, .pick (.slot 134) (.slot 136) (.cst (.bool false)), none, [], []⟩,
  ⟨some 138, .move (.slot 137), none, [], []⟩,
  ⟨some 139, .move (.slot 24), some (138, true), [], []⟩,
  ⟨some 140, .len (.slot 139), some (138, true), [], []⟩,
  ⟨some 141, .move (.slot 22), some (138, true), [], []⟩,
  ⟨some 142, .len (.slot 141), some (138, true), [], []⟩,
  ⟨some 143, .move (.slot 18), some (138, true), [], []⟩,
  ⟨some 144, .len (.slot 143), some (138, true), [], []⟩,
  ⟨some 145, .bin .add (.slot 142) (.slot 144), some (138, true), [], []⟩,
  ⟨some 146, .bin .add (.slot 145) (.cst (.int .i64 1)), some (138, true), [], []⟩,
  ⟨some 147, .bin .eql (.slot 140) (.slot 146), some (138, true), [], []⟩,
  ⟨some 148, .pick (.slot 138) (.slot 147) (.cst (.bool false)), none, [], []⟩,
  ⟨some 149, .move (.slot 148), none, [], []⟩,
  ⟨some 150, .move (.slot 24), some (149, true), [], []⟩,
  ⟨some 151, .move (.slot 16), some (149, true), [], []⟩,
  ⟨some 152, .call F.catnapref3_Has [.slot 150, .slot 151], some (149, true), [], []⟩,
  ⟨some 153, .pick (.slot 149) (.slot 152) (.cst (.bool false)), none, [], []⟩,
  ⟨some 8, .move (.slot 153), none, [], []⟩]
def C.catnaplaw3_GraphJoins_r27 : List IOper := C.catnaplaw3_GraphJoins_r27_b
theorem C.catnaplaw3_GraphJoins_r27_w {k : AFr → ASt → Prop} : aops P C.catnaplaw3_GraphJoins_r27 k fr st = aops P C.catnaplaw3_GraphJoins_r27_b k fr st := rfl
def C.catnaplaw3_GraphJoins_c1 : ICode := .keep [16, 18, 22, 23, 24, 25] (.seq (.region C.catnaplaw3_GraphJoins_r27) .ret)
theorem C.catnaplaw3_GraphJoins_c1_w : awp P C.catnaplaw3_GraphJoins_c1 Q fr st = awp P (.keep [16, 18, 22, 23, 24, 25] (.seq (.region C.catnaplaw3_GraphJoins_r27) .ret)) Q fr st := rfl
def C.catnaplaw3_GraphJoins_r26_b : List IOper := [
  ⟨some 126, .move (.slot 12), none, [], []⟩,
  ⟨some 127, .move (.slot 17), none, [], []⟩,
  ⟨some 128, .bin .add (.cst (.int .i64 6)) (.slot 127), none, [], []⟩,
  ⟨some 129, .call F.graph_Above [.slot 126, .slot 128], none, [], []⟩,
  ⟨some 125, .move (.slot 129), none, [], []⟩,
  ⟨some 130, .extract (.slot 125) 0, none, [], []⟩,
  ⟨some 131, .extract (.slot 125) 1, none, [], []⟩,
  ⟨some 24, .move (.slot 130), none, [], []⟩,
  ⟨some 25, .move (.slot 131), none, [], []⟩]
def C.catnaplaw3_GraphJoins_r26 : List IOper := C.catnaplaw3_GraphJoins_r26_b
theorem C.catnaplaw3_GraphJoins_r26_w {k : AFr → ASt → Prop} : aops P C.catnaplaw3_GraphJoins_r26 k fr st = aops P C.catnaplaw3_GraphJoins_r26_b k fr st := rfl
def C.catnaplaw3_GraphJoins_c2 : ICode := .keep [12, 16, 17, 18, 22, 23] (.seq (.region C.catnaplaw3_GraphJoins_r26) C.catnaplaw3_GraphJoins_c1)
theorem C.catnaplaw3_GraphJoins_c2_w : awp P C.catnaplaw3_GraphJoins_c2 Q fr st = awp P (.keep [12, 16, 17, 18, 22, 23] (.seq (.region C.catnaplaw3_GraphJoins_r26) C.catnaplaw3_GraphJoins_c1)) Q fr st := rfl
def C.catnaplaw3_GraphJoins_r25_b : List IOper := [
  ⟨some 111, .move (.slot 12), none, [], []⟩,
  ⟨some 112, .move (.slot 17), none, [], []⟩,
  ⟨some 113, .bin .add (.cst (.int .i64 6)) (.slot 112), none, [], []⟩,
  ⟨some 114, .buildSlice 1 0 [.int .i64 0] [], none, [], []⟩,
  ⟨some 115, .move (.slot 12), none, [], []⟩,
  ⟨some 116, .move (.slot 17), none, [], []⟩,
  ⟨some 117, .bin .add (.cst (.int .i64 6)) (.slot 116), none, [], []⟩,
  ⟨some 118, .idxAddr 1 (.slot 115) (.slot 117), none, [], []⟩,
  ⟨some 119, .load1 (.slot 118), none, [], []⟩,
  ⟨some 120, .append 1 8 (.slot 114) (.slot 119), none, [], []⟩,
  ⟨some 121, .move (.slot 16), none, [], []⟩,
  ⟨some 122, .buildSlice 1 1 [.int .i64 0] [(0, 1, .slot 121)], none, [], []⟩,
  ⟨some 123, .append 1 8 (.slot 120) (.slot 122), none, [], []⟩,
  ⟨some 124, .idxAddr 1 (.slot 111) (.slot 113), none, [], []⟩,
  ⟨none, .store1 (.slot 124) (.slot 123), none, [], []⟩]
def C.catnaplaw3_GraphJoins_r25 : List IOper := C.catnaplaw3_GraphJoins_r25_b
theorem C.catnaplaw3_GraphJoins_r25_w {k : AFr → ASt → Prop} : aops P C.catnaplaw3_GraphJoins_r25 k fr st = aops P C.catnaplaw3_GraphJoins_r25_b k fr st := rfl
def C.catnaplaw3_GraphJoins_c3 : ICode := .keep [12, 16, 17, 18, 22, 23] (.seq (.region C.catnaplaw3_GraphJoins_r25) C.catnaplaw3_GraphJoins_c2)
theorem C.catnaplaw3_GraphJoins_c3_w : awp P C.catnaplaw3_GraphJoins_c3 Q fr st = awp P (.keep [12, 16, 17, 18, 22, 23] (.seq (.region C.catnaplaw3_GraphJoins_r25) C.catnaplaw3_GraphJoins_c2)) Q fr st := rfl
def C.catnaplaw3_GraphJoins_r24_b : List IOper := [
  ⟨some 106, .move (.slot 11), none, [], []⟩,
  ⟨some 107, .move (.slot 17), none, [], []⟩,
  ⟨some 108, .call F.graph_Above [.slot 106, .slot 107], none, [], []⟩,
  ⟨some 105, .move (.slot 108), none, [], []⟩,
  ⟨some 109, .extract (.slot 105) 0, none, [], []⟩,
  ⟨some 110, .extract (.slot 105) 1, none, [], []⟩,
  ⟨some 22, .move (.slot 109), none, [], []⟩,
  ⟨some 23, .move (.slot 110), none, [], []⟩]
def C.catnaplaw3_GraphJoins_r24 : List IOper := C.catnaplaw3_GraphJoins_r24_b
theorem C.catnaplaw3_GraphJoins_r24_w {k : AFr → ASt → Prop} : aops P C.catnaplaw3_GraphJoins_r24 k fr st = aops P C.catnaplaw3_GraphJoins_r24_b k fr st := rfl
def C.catnaplaw3_GraphJoins_c4 : ICode := .keep [11, 12, 16, 17, 18] (.seq (.region C.catnaplaw3_GraphJoins_r24) C.catnaplaw3_GraphJoins_c3)
theorem C.catnaplaw3_GraphJoins_c4_w : awp P C.catnaplaw3_GraphJoins_c4 Q fr st = awp P (.keep [11, 12, 16, 17, 18] (.seq (.region C.catnaplaw3_GraphJoins_r24) C.catnaplaw3_GraphJoins_c3)) Q fr st := rfl
def C.catnaplaw3_GraphJoins_r23_b : List IOper := [
  ⟨some 8, .move (.cst (.bool false)), none, [], []⟩]
def C.catnaplaw3_GraphJoins_r23 : List IOper := C.catnaplaw3_GraphJoins_r23_b
theorem C.catnaplaw3_GraphJoins_r23_w {k : AFr → ASt → Prop} : aops P C.catnaplaw3_GraphJoins_r23 k fr st = aops P C.catnaplaw3_GraphJoins_r23_b k fr st := rfl
def C.catnaplaw3_GraphJoins_c5 : ICode := .seq (.region C.catnaplaw3_GraphJoins_r23) .ret
theorem C.catnaplaw3_GraphJoins_c5_w : awp P C.catnaplaw3_GraphJoins_c5 Q fr st = awp P (.seq (.region C.catnaplaw3_GraphJoins_r23) .ret) Q fr st := rfl
def C.catnaplaw3_GraphJoins_c6 : ICode := .keep [11, 12, 16, 17, 18, 104] (.cond (.slot 104) C.catnaplaw3_GraphJoins_c5 .skip)
theorem C.catnaplaw3_GraphJoins_c6_w : awp P C.catnaplaw3_GraphJoins_c6 Q fr st = awp P (.keep [11, 12, 16, 17, 18, 104] (.cond (.slot 104) C.catnaplaw3_GraphJoins_c5 .skip)) Q fr st := rfl
def C.catnaplaw3_GraphJoins_r22_b : List IOper := [
  ⟨some 93, .move (.slot 19), none, [], []⟩,
  ⟨some 94, .bin .neq (.slot 93) (.cst (.int .i64 0)), none, [], []⟩,
  ⟨some 95, .move (.slot 94), none, [], []⟩,
  ⟨some 96, .move (.slot 21), some (95, false), [], []⟩,
  ⟨some 97, .bin .neq (.slot 96) (.cst (.int .i64 0)), some (95, false), [], []⟩,
  ⟨some 98, .pick (.slot 95) (.cst (.bool true)) (.slot 97), none, [], []⟩,
  ⟨some 99, .move (.slot 98), none, [], []⟩,
  ⟨some 100, .move (.slot 18), some (99, false), [], []⟩,
  ⟨some 101, .move (.slot 20), some (99, false), [], []⟩,
  ⟨some 102, .call F.catnaplaw3_same [.slot 100, .slot 101], some (99, false), [], []⟩,
  ⟨some 103, .un .not (.slot 102), some (99, false), [], []⟩,
  ⟨some 104, .pick (.slot 99) (.cst (.bool true)) (.slot 103), none, [], []⟩]
def C.catnaplaw3_GraphJoins_r22 : List IOper := C.catnaplaw3_GraphJoins_r22_b
theorem C.catnaplaw3_GraphJoins_r22_w {k : AFr → ASt → Prop} : aops P C.catnaplaw3_GraphJoins_r22 k fr st = aops P C.catnaplaw3_GraphJoins_r22_b k fr st := rfl
def C.catnaplaw3_GraphJoins_c7 : ICode := .keep [11, 12, 16, 17, 18, 19, 20, 21] (.seq (.seq (.region C.catnaplaw3_GraphJoins_r22) C.catnaplaw3_GraphJoins_c6) C.catnaplaw3_GraphJoins_c4)
theorem C.catnaplaw3_GraphJoins_c7_w : awp P C.catnaplaw3_GraphJoins_c7 Q fr st = awp P (.keep [11, 12, 16, 17, 18, 19, 20, 21] (.seq (.seq (.region C.catnaplaw3_GraphJoins_r22) C.catnaplaw3_GraphJoins_c6) C.catnaplaw3_GraphJoins_c4)) Q fr st := rfl
def C.catnaplaw3_GraphJoins_r21_b : List IOper := [
  ⟨some 88, .move (.slot 12), none, [], []⟩,
  ⟨some 89, .move (.slot 16), none, [], []⟩,
  ⟨some 90, .call F.graph_Above [.slot 88, .slot 89], none, [], []⟩,
  ⟨some 87, .move (.slot 90), none, [], []⟩,
  ⟨some 91, .extract (.slot 87) 0, none, [], []⟩,
  ⟨some 92, .extract (.slot 87) 1, none, [], []⟩,
  ⟨some 20, .move (.slot 91), none, [], []⟩,
  ⟨some 21, .move (.slot 92), none, [], []⟩]
def C.catnaplaw3_GraphJoins_r21 : List IOper := C.catnaplaw3_GraphJoins_r21_b
theorem C.catnaplaw3_GraphJoins_r21_w {k : AFr → ASt → Prop} : aops P C.catnaplaw3_GraphJoins_r21 k fr st = aops P C.catnaplaw3_GraphJoins_r21_b k fr st := rfl
def C.catnaplaw3_GraphJoins_c8 : ICode := .keep [11, 12, 16, 17, 18, 19] (.seq (.region C.catnaplaw3_GraphJoins_r21) C.catnaplaw3_GraphJoins_c7)
theorem C.catnaplaw3_GraphJoins_c8_w : awp P C.catnaplaw3_GraphJoins_c8 Q fr st = awp P (.keep [11, 12, 16, 17, 18, 19] (.seq (.region C.catnaplaw3_GraphJoins_r21) C.catnaplaw3_GraphJoins_c7)) Q fr st := rfl
def C.catnaplaw3_GraphJoins_r20_b : List IOper := [
  ⟨some 82, .move (.slot 10), none, [], []⟩,
  ⟨some 83, .move (.slot 16), none, [], []⟩,
  ⟨some 84, .call F.graph_Above [.slot 82, .slot 83], none, [], []⟩,
  ⟨some 81, .move (.slot 84), none, [], []⟩,
  ⟨some 85, .extract (.slot 81) 0, none, [], []⟩,
  ⟨some 86, .extract (.slot 81) 1, none, [], []⟩,
  ⟨some 18, .move (.slot 85), none, [], []⟩,
  ⟨some 19, .move (.slot 86), none, [], []⟩]
def C.catnaplaw3_GraphJoins_r20 : List IOper := C.catnaplaw3_GraphJoins_r20_b
theorem C.catnaplaw3_GraphJoins_r20_w {k : AFr → ASt → Prop} : aops P C.catnaplaw3_GraphJoins_r20 k fr st = aops P C.catnaplaw3_GraphJoins_r20_b k fr st := rfl
def C.catnaplaw3_GraphJoins_c9 : ICode := .keep [10, 11, 12, 16, 17] (.seq (.region C.catnaplaw3_GraphJoins_r20) C.catnaplaw3_GraphJoins_c8)
theorem C.catnaplaw3_GraphJoins_c9_w : awp P C.catnaplaw3_GraphJoins_c9 Q fr st = awp P (.keep [10, 11, 12, 16, 17] (.seq (.region C.catnaplaw3_GraphJoins_r20) C.catnaplaw3_GraphJoins_c8)) Q fr st := rfl
def C.catnaplaw3_GraphJoins_r19_b : List IOper := [
  ⟨some 79, .move (.slot 3), none, [], []⟩,
  ⟨some 80, .call F.catnaplaw3_pick [.slot 79, .cst (.int .i64 5)], none, [], []⟩,
  ⟨some 17, .move (.slot 80), none, [], []⟩]
def C.catnaplaw3_GraphJoins_r19 : List IOper := C.catnaplaw3_GraphJoins_r19_b
theorem C.catnaplaw3_GraphJoins_r19_w {k : AFr → ASt → Prop} : aops P C.catnaplaw3_GraphJoins_r19 k fr st = aops P C.catnaplaw3_GraphJoins_r19_b k fr st := rfl
def C.catnaplaw3_GraphJoins_c10 : ICode := .keep [3, 10, 11, 12, 16] (.seq (.region C.catnaplaw3_GraphJoins_r19) C.catnaplaw3_GraphJoins_c9)
theorem C.catnaplaw3_GraphJoins_c10_w : awp P C.catnaplaw3_GraphJoins_c10 Q fr st = awp P (.keep [3, 10, 11, 12, 16] (.seq (.region C.catnaplaw3_GraphJoins_r19) C.catnaplaw3_GraphJoins_c9)) Q fr st := rfl
def C.catnaplaw3_GraphJoins_r18_b : List IOper := [
  ⟨some 77, .move (.slot 2), none, [], []⟩,
  ⟨some 78, .call F.catnaplaw3_pick [.slot 77, .cst (.int .i64 6)], none, [], []⟩,
  ⟨some 16, .move (.slot 78), none, [], []⟩]
def C.catnaplaw3_GraphJoins_r18 : List IOper := C.catnaplaw3_GraphJoins_r18_b
theorem C.catnaplaw3_GraphJoins_r18_w {k : AFr → ASt → Prop} : aops P C.catnaplaw3_GraphJoins_r18 k fr st = aops P C.catnaplaw3_GraphJoins_r18_b k fr st := rfl
def C.catnaplaw3_GraphJoins_c11 : ICode := .keep [2, 3, 10, 11, 12] (.ghost (.seq (.region C.catnaplaw3_GraphJoins_r18) C.catnaplaw3_GraphJoins_c10))
theorem C.catnaplaw3_GraphJoins_c11_w : awp P C.catnaplaw3_GraphJoins_c11 Q fr st = awp P (.keep [2, 3, 10, 11, 12] (.ghost (.seq (.region C.catnaplaw3_GraphJoins_r18) C.catnaplaw3_GraphJoins_c10))) Q fr st := rfl
def C.catnaplaw3_GraphJoins_r13_b : List IOper := [
  ⟨some 47, .move (.slot 14), none, [], []⟩,
  ⟨some 48, .bin .add (.slot 47) (.cst (.int .i64 1)), none, [], []⟩,
  ⟨some 14, .move (.slot 48), none, [], []⟩]
def C.catnaplaw3_GraphJoins_r13 : List IOper := C.catnaplaw3_GraphJoins_r13_b
theorem C.catnaplaw3_GraphJoins_r13_w {k : AFr → ASt → Prop} : aops P C.catnaplaw3_GraphJoins_r13 k fr st = aops P C.catnaplaw3_GraphJoins_r13_b k fr st := rfl
def C.catnaplaw3_GraphJoins_c12 : ICode := .keep [2, 3, 10, 11, 12, 14] (.region C.catnaplaw3_GraphJoins_r13)
theorem C.catnaplaw3_GraphJoins_c12_w : awp P C.catnaplaw3_GraphJoins_c12 Q fr st = awp P (.keep [2, 3, 10, 11, 12, 14] (.region C.catnaplaw3_GraphJoins_r13)) Q fr st := rfl
def C.catnaplaw3_GraphJoins_r16_b : List IOper := [
  ⟨some 56, .move (.slot 15), none, [], []⟩,
  ⟨some 57, .bin .add (.slot 56) (.cst (.int .i64 1)), none, [], []⟩,
  ⟨some 15, .move (.slot 57), none, [], []⟩]
def C.catnaplaw3_GraphJoins_r16 : List IOper := C.catnaplaw3_GraphJoins_r16_b
theorem C.catnaplaw3_GraphJoins_r16_w {k : AFr → ASt → Prop} : aops P C.catnaplaw3_GraphJoins_r16 k fr st = aops P C.catnaplaw3_GraphJoins_r16_b k fr st := rfl
def C.catnaplaw3_GraphJoins_c13 : ICode := .keep [2, 3, 10, 11, 12, 14, 15] (.region C.catnaplaw3_GraphJoins_r16)
theorem C.catnaplaw3_GraphJoins_c13_w : awp P C.catnaplaw3_GraphJoins_c13 Q fr st = awp P (.keep [2, 3, 10, 11, 12, 14, 15] (.region C.catnaplaw3_GraphJoins_r16)) Q fr st := rfl
def C.catnaplaw3_GraphJoins_r17_b : List IOper := [
  ⟨some 58, .move (.slot 12), none, [], []⟩,
  ⟨some 59, .move (.slot 14), none, [], []⟩,
  ⟨some 60, .bin .add (.cst (.int .i64 6)) (.slot 59), none, [], []⟩,
  ⟨some 61, .move (.slot 12), none, [], []⟩,
  ⟨some 62, .move (.slot 14), none, [], []⟩,
  ⟨some 63, .bin .add (.cst (.int .i64 6)) (.slot 62), none, [], []⟩,
  ⟨some 64, .idxAddr 1 (.slot 61) (.slot 63), none, [], []⟩,
  ⟨some 65, .load1 (.slot 64), none, [], []⟩,
  ⟨some 66, .move (.slot 11), none, [], []⟩,
  ⟨some 67, .move (.slot 14), none, [], []⟩,
  ⟨some 68, .idxAddr 1 (.slot 66) (.slot 67), none, [], []⟩,
  ⟨some 69, .load1 (.slot 68), none, [], []⟩,
  ⟨some 70, .move (.slot 15), none, [], []⟩,
  ⟨some 71, .idxAddr 1 (.slot 69) (.slot 70), none, [], []⟩,
  ⟨some 72, .load1 (.slot 71), none, [], []⟩,
  ⟨some 73, .bin .add (.cst (.int .i64 6)) (.slot 72), none, [], []⟩,
  ⟨some 74, .buildSlice 1 1 [.int .i64 0] [(0, 1, .slot 73)], none, [], []⟩,
  ⟨some 75, .append 1 8 (.slot 65) (.slot 74), none, [], []⟩,
  ⟨some 76, .idxAddr 1 (.slot 58) (.slot 60), none, [], []⟩,
  ⟨none, .store1 (.slot 76) (.slot 75), none, [], []⟩]
def C.catnaplaw3_GraphJoins_r17 : List IOper := C.catnaplaw3_GraphJoins_r17_b
theorem C.catnaplaw3_GraphJoins_r17_w {k : AFr → ASt → Prop} : aops P C.catnaplaw3_GraphJoins_r17 k fr st = aops P C.catnaplaw3_GraphJoins_r17_b k fr st := rfl
def C.catnaplaw3_GraphJoins_b14 : ICode := .region C.catnaplaw3_GraphJoins_r17
theorem C.catnaplaw3_GraphJoins_b14_w : awp P C.catnaplaw3_GraphJoins_b14 Q fr st = awp P (.region C.catnaplaw3_GraphJoins_r17) Q fr st := rfl
def C.catnaplaw3_GraphJoins_c15 : ICode := .keep [2, 3, 10, 11, 12, 14, 15] (.seq (.block 5 C.catnaplaw3_GraphJoins_b14) C.catnaplaw3_GraphJoins_c13)
theorem C.catnaplaw3_GraphJoins_c15_w : awp P C.catnaplaw3_GraphJoins_c15 Q fr st = awp P (.keep [2, 3, 10, 11, 12, 14, 15] (.seq (.block 5 C.catnaplaw3_GraphJoins_b14) C.catnaplaw3_GraphJoins_c13)) Q fr st := rfl
def C.catnaplaw3_GraphJoins_c16 : ICode := .keep [2, 3, 10, 11, 12, 14, 15, 55] (.cond (.slot 55) .skip (.exit 4))
theorem C.catnaplaw3_GraphJoins_c16_w : awp P C.catnaplaw3_GraphJoins_c16 Q fr st = awp P (.keep [2, 3, 10, 11, 12, 14, 15, 55] (.cond (.slot 55) .skip (.exit 4))) Q fr st := rfl
def C.catnaplaw3_GraphJoins_r15_b : List IOper := [
  ⟨some 49, .move (.slot 15), none, [], []⟩,
  ⟨some 50, .move (.slot 11), none, [], []⟩,
  ⟨some 51, .move (.slot 14), none, [], []⟩,
  ⟨some 52, .idxAddr 1 (.slot 50) (.slot 51), none, [], []⟩,
  ⟨some 53, .load1 (.slot 52), none, [], []⟩,
  ⟨some 54, .len (.slot 53), none, [], []⟩,
  ⟨some 55, .bin .lss (.slot 49) (.slot 54), none, [], []⟩]
def C.catnaplaw3_GraphJoins_r15 : List IOper := C.catnaplaw3_GraphJoins_r15_b
theorem C.catnaplaw3_GraphJoins_r15_w {k : AFr → ASt → Prop} : aops P C.catnaplaw3_GraphJoins_r15 k fr st = aops P C.catnaplaw3_GraphJoins_r15_b k fr st := rfl
def C.catnaplaw3_GraphJoins_l17 : ICode := .keep [2, 3, 10, 11, 12, 14, 15] (.seq (.seq (.region C.catnaplaw3_GraphJoins_r15) C.catnaplaw3_GraphJoins_c16) C.catnaplaw3_GraphJoins_c15)
theorem C.catnaplaw3_GraphJoins_l17_w : awp P C.catnaplaw3_GraphJoins_l17 Q fr st = awp P (.keep [2, 3, 10, 11, 12, 14, 15] (.seq (.seq (.region C.catnaplaw3_GraphJoins_r15) C.catnaplaw3_GraphJoins_c16) C.catnaplaw3_GraphJoins_c15)) Q fr st := rfl
def C.catnaplaw3_GraphJoins_b18 : ICode := .loop C.catnaplaw3_GraphJoins_l17
theorem C.catnaplaw3_GraphJoins_b18_w : awp P C.catnaplaw3_GraphJoins_b18 Q fr st = awp P (.loop C.catnaplaw3_GraphJoins_l17) Q fr st := rfl
def C.catnaplaw3_GraphJoins_c19 : ICode := .keep [2, 3, 10, 11, 12, 14, 15] (.block 4 C.catnaplaw3_GraphJoins_b18)
theorem C.catnaplaw3_GraphJoins_c19_w : awp P C.catnaplaw3_GraphJoins_c19 Q fr st = awp P (.keep [2, 3, 10, 11, 12, 14, 15] (.block 4 C.catnaplaw3_GraphJoins_b18)) Q fr st := rfl
def C.catnaplaw3_GraphJoins_r14_b : List IOper := [
  ⟨some 15, .move (.cst (.int .i64 0)), none, [], []⟩]
def C.catnaplaw3_GraphJoins_r14 : List IOper := C.catnaplaw3_GraphJoins_r14_b
theorem C.catnaplaw3_GraphJoins_r14_w {k : AFr → ASt → Prop} : aops P C.catnaplaw3_GraphJoins_r14 k fr st = aops P C.catnaplaw3_GraphJoins_r14_b k fr st := rfl
def C.catnaplaw3_GraphJoins_b20 : ICode := .seq (.region C.catnaplaw3_GraphJoins_r14) C.catnaplaw3_GraphJoins_c19
theorem C.catnaplaw3_GraphJoins_b20_w : awp P C.catnaplaw3_GraphJoins_b20 Q fr st = awp P (.seq (.region C.catnaplaw3_GraphJoins_r14) C.catnaplaw3_GraphJoins_c19) Q fr st := rfl
def C.catnaplaw3_GraphJoins_c21 : ICode := .keep [2, 3, 10, 11, 12, 14] (.seq (.block 3 C.catnaplaw3_GraphJoins_b20) C.catnaplaw3_GraphJoins_c12)
theorem C.catnaplaw3_GraphJoins_c21_w : awp P C.catnaplaw3_GraphJoins_c21 Q fr st = awp P (.keep [2, 3, 10, 11, 12, 14] (.seq (.block 3 C.catnaplaw3_GraphJoins_b20) C.catnaplaw3_GraphJoins_c12)) Q fr st := rfl
def C.catnaplaw3_GraphJoins_c22 : ICode := .keep [2, 3, 10, 11, 12, 14, 46] (.cond (.slot 46) .skip (.exit 2))
theorem C.catnaplaw3_GraphJoins_c22_w : awp P C.catnaplaw3_GraphJoins_c22 Q fr st = awp P (.keep [2, 3, 10, 11, 12, 14, 46] (.cond (.slot 46) .skip (.exit 2))) Q fr st := rfl
def C.catnaplaw3_GraphJoins_r12_b : List IOper := [
  ⟨some 45, .move (.slot 14), none, [], []⟩,
  ⟨some 46, .bin .lss (.slot 45) (.cst (.int .i64 5)), none, [], []⟩]
def C.catnaplaw3_GraphJoins_r12 : List IOper := C.catnaplaw3_GraphJoins_r12_b
theorem C.catnaplaw3_GraphJoins_r12_w {k : AFr → ASt → Prop} : aops P C.catnaplaw3_GraphJoins_r12 k fr st = aops P C.catnaplaw3_GraphJoins_r12_b k fr st := rfl
def C.catnaplaw3_GraphJoins_l23 : ICode := .keep [2, 3, 10, 11, 12, 14] (.seq (.seq (.region C.catnaplaw3_GraphJoins_r12) C.catnaplaw3_GraphJoins_c22) C.catnaplaw3_GraphJoins_c21)
theorem C.catnaplaw3_GraphJoins_l23_w : awp P C.catnaplaw3_GraphJoins_l23 Q fr st = awp P (.keep [2, 3, 10, 11, 12, 14] (.seq (.seq (.region C.catnaplaw3_GraphJoins_r12) C.catnaplaw3_GraphJoins_c22) C.catnaplaw3_GraphJoins_c21)) Q fr st := rfl
def C.catnaplaw3_GraphJoins_b24 : ICode := .loop C.catnaplaw3_GraphJoins_l23
theorem C.catnaplaw3_GraphJoins_b24_w : awp P C.catnaplaw3_GraphJoins_b24 Q fr st = awp P (.loop C.catnaplaw3_GraphJoins_l23) Q fr st := rfl
def C.catnaplaw3_GraphJoins_c25 : ICode := .keep [2, 3, 10, 11, 12, 14] (.block 2 C.catnaplaw3_GraphJoins_b24)
theorem C.catnaplaw3_GraphJoins_c25_w : awp P C.catnaplaw3_GraphJoins_c25 Q fr st = awp P (.keep [2, 3, 10, 11, 12, 14] (.block 2 C.catnaplaw3_GraphJoins_b24)) Q fr st := rfl
def C.catnaplaw3_GraphJoins_r11_b : List IOper := [
  ⟨some 14, .move (.cst (.int .i64 0)), none, [], []⟩]
def C.catnaplaw3_GraphJoins_r11 : List IOper := C.catnaplaw3_GraphJoins_r11_b
theorem C.catnaplaw3_GraphJoins_r11_w {k : AFr → ASt → Prop} : aops P C.catnaplaw3_GraphJoins_r11 k fr st = aops P C.catnaplaw3_GraphJoins_r11_b k fr st := rfl
def C.catnaplaw3_GraphJoins_c26 : ICode := .keep [2, 3, 10, 11, 12] (.seq (.seq (.region C.catnaplaw3_GraphJoins_r11) C.catnaplaw3_GraphJoins_c25) C.catnaplaw3_GraphJoins_c11)
theorem C.catnaplaw3_GraphJoins_c26_w : awp P C.catnaplaw3_GraphJoins_c26 Q fr st = awp P (.keep [2, 3, 10, 11, 12] (.seq (.seq (.region C.catnaplaw3_GraphJoins_r11) C.catnaplaw3_GraphJoins_c25) C.catnaplaw3_GraphJoins_c11)) Q fr st := rfl
def C.catnaplaw3_GraphJoins_r9_b : List IOper := [
  ⟨some 36, .move (.slot 13), none, [], []⟩,
  ⟨some 37, .bin .add (.slot 36) (.cst (.int .i64 1)), none, [], []⟩,
  ⟨some 13, .move (.slot 37), none, [], []⟩]
def C.catnaplaw3_GraphJoins_r9 : List IOper := C.catnaplaw3_GraphJoins_r9_b
theorem C.catnaplaw3_GraphJoins_r9_w {k : AFr → ASt → Prop} : aops P C.catnaplaw3_GraphJoins_r9 k fr st = aops P C.catnaplaw3_GraphJoins_r9_b k fr st := rfl
def C.catnaplaw3_GraphJoins_c27 : ICode := .keep [2, 3, 10, 11, 12, 13] (.region C.catnaplaw3_GraphJoins_r9)
theorem C.catnaplaw3_GraphJoins_c27_w : awp P C.catnaplaw3_GraphJoins_c27 Q fr st = awp P (.keep [2, 3, 10, 11, 12, 13] (.region C.catnaplaw3_GraphJoins_r9)) Q fr st := rfl
def C.catnaplaw3_GraphJoins_r10_b : List IOper := [
  ⟨some 38, .move (.slot 12), none, [], []⟩,
  ⟨some 39, .move (.slot 13), none, [], []⟩,
  ⟨some 40, .move (.slot 10), none, [], []⟩,
  ⟨some 41, .move (.slot 13), none, [], []⟩,
  ⟨some 42, .idxAddr 1 (.slot 40) (.slot 41), none, [], []⟩,
  ⟨some 43, .load1 (.slot 42), none, [], []⟩,
  ⟨some 44, .idxAddr 1 (.slot 38) (.slot 39), none, [], []⟩,
  ⟨none, .store1 (.slot 44) (.slot 43), none, [], []⟩]
def C.catnaplaw3_GraphJoins_r10 : List IOper := C.catnaplaw3_GraphJoins_r10_b
theorem C.catnaplaw3_GraphJoins_r10_w {k : AFr → ASt → Prop} : aops P C.catnaplaw3_GraphJoins_r10 k fr st = aops P C.catnaplaw3_GraphJoins_r10_b k fr st := rfl
def C.catnaplaw3_GraphJoins_b28 : ICode := .region C.catnaplaw3_GraphJoins_r10
theorem C.catnaplaw3_GraphJoins_b28_w : awp P C.catnaplaw3_GraphJoins_b28 Q fr st = awp P (.region C.catnaplaw3_GraphJoins_r10) Q fr st := rfl
def C.catnaplaw3_GraphJoins_c29 : ICode := .keep [2, 3, 10, 11, 12, 13] (.seq (.block 1 C.catnaplaw3_GraphJoins_b28) C.catnaplaw3_GraphJoins_c27)
theorem C.catnaplaw3_GraphJoins_c29_w : awp P C.catnaplaw3_GraphJoins_c29 Q fr st = awp P (.keep [2, 3, 10, 11, 12, 13] (.seq (.block 1 C.catnaplaw3_GraphJoins_b28) C.catnaplaw3_GraphJoins_c27)) Q fr st := rfl
def C.catnaplaw3_GraphJoins_c30 : ICode := .keep [2, 3, 10, 11, 12, 13, 35] (.cond (.slot 35) .skip (.exit 0))
theorem C.catnaplaw3_GraphJoins_c30_w : awp P C.catnaplaw3_GraphJoins_c30 Q fr st = awp P (.keep [2, 3, 10, 11, 12, 13, 35] (.cond (.slot 35) .skip (.exit 0))) Q fr st := rfl
def C.catnaplaw3_GraphJoins_r8_b : List IOper := [
  ⟨some 34, .move (.slot 13), none, [], []⟩,
  ⟨some 35, .bin .lss (.slot 34) (.cst (.int .i64 6)), none, [], []⟩]
def C.catnaplaw3_GraphJoins_r8 : List IOper := C.catnaplaw3_GraphJoins_r8_b
theorem C.catnaplaw3_GraphJoins_r8_w {k : AFr → ASt → Prop} : aops P C.catnaplaw3_GraphJoins_r8 k fr st = aops P C.catnaplaw3_GraphJoins_r8_b k fr st := rfl
def C.catnaplaw3_GraphJoins_l31 : ICode := .keep [2, 3, 10, 11, 12, 13] (.seq (.seq (.region C.catnaplaw3_GraphJoins_r8) C.catnaplaw3_GraphJoins_c30) C.catnaplaw3_GraphJoins_c29)
theorem C.catnaplaw3_GraphJoins_l31_w : awp P C.catnaplaw3_GraphJoins_l31 Q fr st = awp P (.keep [2, 3, 10, 11, 12, 13] (.seq (.seq (.region C.catnaplaw3_GraphJoins_r8) C.catnaplaw3_GraphJoins_c30) C.catnaplaw3_GraphJoins_c29)) Q fr st := rfl
def C.catnaplaw3_GraphJoins_b32 : ICode := .loop C.catnaplaw3_GraphJoins_l31
theorem C.catnaplaw3_GraphJoins_b32_w : awp P C.catnaplaw3_GraphJoins_b32 Q fr st = awp P (.loop C.catnaplaw3_GraphJoins_l31) Q fr st := rfl
def C.catnaplaw3_GraphJoins_c33 : ICode := .keep [2, 3, 10, 11, 12, 13] (.block 0 C.catnaplaw3_GraphJoins_b32)
theorem C.catnaplaw3_GraphJoins_c33_w : awp P C.catnaplaw3_GraphJoins_c33 Q fr st = awp P (.keep [2, 3, 10, 11, 12, 13] (.block 0 C.catnaplaw3_GraphJoins_b32)) Q fr st := rfl
def C.catnaplaw3_GraphJoins_r7_b : List IOper := [
  ⟨some 13, .move (.cst (.int .i64 0)), none, [], []⟩]
def C.catnaplaw3_GraphJoins_r7 : List IOper := C.catnaplaw3_GraphJoins_r7_b
theorem C.catnaplaw3_GraphJoins_r7_w {k : AFr → ASt → Prop} : aops P C.catnaplaw3_GraphJoins_r7 k fr st = aops P C.catnaplaw3_GraphJoins_r7_b k fr st := rfl
def C.catnaplaw3_GraphJoins_c34 : ICode := .keep [2, 3, 10, 11, 12] (.seq (.seq (.region C.catnaplaw3_GraphJoins_r7) C.catnaplaw3_GraphJoins_c33) C.catnaplaw3_GraphJoins_c26)
theorem C.catnaplaw3_GraphJoins_c34_w : awp P C.catnaplaw3_GraphJoins_c34 Q fr st = awp P (.keep [2, 3, 10, 11, 12] (.seq (.seq (.region C.catnaplaw3_GraphJoins_r7) C.catnaplaw3_GraphJoins_c33) C.catnaplaw3_GraphJoins_c26)) Q fr st := rfl
def C.catnaplaw3_GraphJoins_r6_b : List IOper := [
  ⟨some 33, .makeSlice 1 24 [.nils] (.cst (.int .i64 11)) (.cst (.int .i64 11)), none, [], []⟩,
  ⟨some 12, .move (.slot 33), none, [], []⟩]
def C.catnaplaw3_GraphJoins_r6 : List IOper := C.catnaplaw3_GraphJoins_r6_b
theorem C.catnaplaw3_GraphJoins_r6_w {k : AFr → ASt → Prop} : aops P C.catnaplaw3_GraphJoins_r6 k fr st = aops P C.catnaplaw3_GraphJoins_r6_b k fr st := rfl
def C.catnaplaw3_GraphJoins_c35 : ICode := .keep [2, 3, 10, 11] (.seq (.region C.catnaplaw3_GraphJoins_r6) C.catnaplaw3_GraphJoins_c34)
theorem C.catnaplaw3_GraphJoins_c35_w : awp P C.catnaplaw3_GraphJoins_c35 Q fr st = awp P (.keep [2, 3, 10, 11] (.seq (.region C.catnaplaw3_GraphJoins_r6) C.catnaplaw3_GraphJoins_c34)) Q fr st := rfl
def C.catnaplaw3_GraphJoins_r5_b : List IOper := [
  ⟨some 31, .move (.slot 1), none, [], []⟩,
  ⟨some 32, .call F.catnaplaw3_falling [.cst (.int .i64 5), .slot 31, .cst (.bool true)], none, [], []⟩,
  ⟨some 11, .move (.slot 32), none, [], []⟩]
def C.catnaplaw3_GraphJoins_r5 : List IOper := C.catnaplaw3_GraphJoins_r5_b
theorem C.catnaplaw3_GraphJoins_r5_w {k : AFr → ASt → Prop} : aops P C.catnaplaw3_GraphJoins_r5 k fr st = aops P C.catnaplaw3_GraphJoins_r5_b k fr st := rfl
def C.catnaplaw3_GraphJoins_c36 : ICode := .keep [1, 2, 3, 10] (.seq (.region C.catnaplaw3_GraphJoins_r5) C.catnaplaw3_GraphJoins_c35)
theorem C.catnaplaw3_GraphJoins_c36_w : awp P C.catnaplaw3_GraphJoins_c36 Q fr st = awp P (.keep [1, 2, 3, 10] (.seq (.region C.catnaplaw3_GraphJoins_r5) C.catnaplaw3_GraphJoins_c35)) Q fr st := rfl
def C.catnaplaw3_GraphJoins_r4_b : List IOper := [
  ⟨some 29, .move (.slot 0), none, [], []⟩,
  ⟨some 30, .call F.catnaplaw3_falling [.cst (.int .i64 6), .slot 29, .cst (.bool false)], none, [], []⟩,
  ⟨some 10, .move (.slot 30), none, [], []⟩]
def C.catnaplaw3_GraphJoins_r4 : List IOper := C.catnaplaw3_GraphJoins_r4_b
theorem C.catnaplaw3_GraphJoins_r4_w {k : AFr → ASt → Prop} : aops P C.catnaplaw3_GraphJoins_r4 k fr st = aops P C.catnaplaw3_GraphJoins_r4_b k fr st := rfl
def C.catnaplaw3_GraphJoins_c37 : ICode := .keep [0, 1, 2, 3] (.seq (.region C.catnaplaw3_GraphJoins_r4) C.catnaplaw3_GraphJoins_c36)
theorem C.catnaplaw3_GraphJoins_c37_w : awp P C.catnaplaw3_GraphJoins_c37 Q fr st = awp P (.keep [0, 1, 2, 3] (.seq (.region C.catnaplaw3_GraphJoins_r4) C.catnaplaw3_GraphJoins_c36)) Q fr st := rfl
def C.catnaplaw3_GraphJoins_r3_b : List IOper := [
  ⟨some 8, .move (.cst (.bool false)), none, [], []⟩]
def C.catnaplaw3_GraphJoins_r3 : List IOper := C.catnaplaw3_GraphJoins_r3_b
theorem C.catnaplaw3_GraphJoins_r3_w {k : AFr → ASt → Prop} : aops P C.catnaplaw3_GraphJoins_r3 k fr st = aops P C.catnaplaw3_GraphJoins_r3_b k fr st := rfl
def C.catnaplaw3_GraphJoins_c38 : ICode := .seq (.region C.catnaplaw3_GraphJoins_r3) .ret
theorem C.catnaplaw3_GraphJoins_c38_w : awp P C.catnaplaw3_GraphJoins_c38 Q fr st = awp P (.seq (.region C.catnaplaw3_GraphJoins_r3) .ret) Q fr st := rfl
def C.catnaplaw3_GraphJoins_c39 : ICode := .keep [0, 1, 2, 3, 28] (.cond (.slot 28) C.catnaplaw3_GraphJoins_c38 .skip)
theorem C.catnaplaw3_GraphJoins_c39_w : awp P C.catnaplaw3_GraphJoins_c39 Q fr st = awp P (.keep [0, 1, 2, 3, 28] (.cond (.slot 28) C.catnaplaw3_GraphJoins_c38 .skip)) Q fr st := rfl
def C.catnaplaw3_GraphJoins_r2_b : List IOper := [
  ⟨some 27, .move (.slot 9), none, [], []⟩,
  ⟨some 28, .un .not (.slot 27), none, [], []⟩]
def C.catnaplaw3_GraphJoins_r2 : List IOper := C.catnaplaw3_GraphJoins_r2_b
theorem C.catnaplaw3_GraphJoins_r2_w {k : AFr → ASt → Prop} : aops P C.catnaplaw3_GraphJoins_r2 k fr st = aops P C.catnaplaw3_GraphJoins_r2_b k fr st := rfl
def C.catnaplaw3_GraphJoins_c40 : ICode := .keep [0, 1, 2, 3, 9] (.seq (.seq (.region C.catnaplaw3_GraphJoins_r2) C.catnaplaw3_GraphJoins_c39) C.catnaplaw3_GraphJoins_c37)
theorem C.catnaplaw3_GraphJoins_c40_w : awp P C.catnaplaw3_GraphJoins_c40 Q fr st = awp P (.keep [0, 1, 2, 3, 9] (.seq (.seq (.region C.catnaplaw3_GraphJoins_r2) C.catnaplaw3_GraphJoins_c39) C.catnaplaw3_GraphJoins_c37)) Q fr st := rfl
def C.catnaplaw3_GraphJoins_r1_b : List IOper := [
  ⟨some 26, .call F.catnaplaw3_shown [], none, [], []⟩,
  ⟨some 9, .move (.slot 26), none, [], []⟩]
def C.catnaplaw3_GraphJoins_r1 : List IOper := C.catnaplaw3_GraphJoins_r1_b
theorem C.catnaplaw3_GraphJoins_r1_w {k : AFr → ASt → Prop} : aops P C.catnaplaw3_GraphJoins_r1 k fr st = aops P C.catnaplaw3_GraphJoins_r1_b k fr st := rfl
def C.catnaplaw3_GraphJoins_c41 : ICode := .keep [0, 1, 2, 3] (.seq (.region C.catnaplaw3_GraphJoins_r1) C.catnaplaw3_GraphJoins_c40)
theorem C.catnaplaw3_GraphJoins_c41_w : awp P C.catnaplaw3_GraphJoins_c41 Q fr st = awp P (.keep [0, 1, 2, 3] (.seq (.region C.catnaplaw3_GraphJoins_r1) C.catnaplaw3_GraphJoins_c40)) Q fr st := rfl
def C.catnaplaw3_GraphJoins_r0_b : List IOper := [
  ⟨some 8, .move (.cst (.bool false)), none, [], []⟩]
def C.catnaplaw3_GraphJoins_r0 : List IOper := C.catnaplaw3_GraphJoins_r0_b
theorem C.catnaplaw3_GraphJoins_r0_w {k : AFr → ASt → Prop} : aops P C.catnaplaw3_GraphJoins_r0 k fr st = aops P C.catnaplaw3_GraphJoins_r0_b k fr st := rfl
def C.catnaplaw3_GraphJoins : IFunc := ⟨4, [.slot 8], .seq (.region C.catnaplaw3_GraphJoins_r0) C.catnaplaw3_GraphJoins_c41⟩
def C.catnaplaw3_GraphJoins_W := And.intro (And.intro (And.intro (And.intro (And.intro (And.intro @C.catnaplaw3_GraphJoins_r27_w @C.catnaplaw3_GraphJoins_c1_w) (And.intro @C.catnaplaw3_GraphJoins_r26_w @C.catnaplaw3_GraphJoins_c2_w)) (And.intro (And.intro @C.catnaplaw3_GraphJoins_r25_w @C.catnaplaw3_GraphJoins_c3_w) (And.intro @C.catnaplaw3_GraphJoins_r24_w @C.catnaplaw3_GraphJoins_c4_w))) (And.intro (And.intro (And.intro @C.catnaplaw3_GraphJoins_r23_w @C.catnaplaw3_GraphJoins_c5_w) (And.intro @C.catnaplaw3_GraphJoins_c6_w @C.catnaplaw3_GraphJoins_r22_w)) (And.intro (And.intro @C.catnaplaw3_GraphJoins_c7_w @C.catnaplaw3_GraphJoins_r21_w) (And.intro @C.catnaplaw3_GraphJoins_c8_w @C.catnaplaw3_GraphJoins_r20_w)))) (And.intro (And.intro (And.intro (And.intro @C.catnaplaw3_GraphJoins_c9_w @C.catnaplaw3_GraphJoins_r19_w) (And.intro @C.catnaplaw3_GraphJoins_c10_w @C.catnaplaw3_GraphJoins_r18_w)) (And.intro (And.intro @C.catnaplaw3_GraphJoins_c11_w @C.catnaplaw3_GraphJoins_r13_w) (And.intro @C.catnaplaw3_GraphJoins_c12_w @C.catnaplaw3_GraphJoins_r16_w))) (And.intro (And.intro (And.intro @C.catnaplaw3_GraphJoins_c13_w @C.catnaplaw3_GraphJoins_r17_w) (And.intro @C.catnaplaw3_GraphJoins_b14_w @C.catnaplaw3_GraphJoins_c15_w)) (And.intro (And.intro @C.catnaplaw3_GraphJoins_c16_w @C.catnaplaw3_GraphJoins_r15_w) (And.intro @C.catnaplaw3_GraphJoins_b18_w (And.intro @C.catnaplaw3_GraphJoins_c19_w @C.catnaplaw3_GraphJoins_r14_w)))))) (And.intro (And.intro (And.intro (And.intro (And.intro @C.catnaplaw3_GraphJoins_b20_w @C.catnaplaw3_GraphJoins_c21_w) (And.intro @C.catnaplaw3_GraphJoins_c22_w @C.catnaplaw3_GraphJoins_r12_w)) (And.intro (And.intro @C.catnaplaw3_GraphJoins_b24_w @C.catnaplaw3_GraphJoins_c25_w) (And.intro @C.catnaplaw3_GraphJoins_r11_w @C.catnaplaw3_GraphJoins_c26_w))) (And.intro (And.intro (And.intro @C.catnaplaw3_GraphJoins_r9_w @C.catnaplaw3_GraphJoins_c27_w) (And.intro @C.catnaplaw3_GraphJoins_r10_w @C.catnaplaw3_GraphJoins_b28_w)) (And.intro (And.intro @C.catnaplaw3_GraphJoins_c29_w @C.catnaplaw3_GraphJoins_c30_w) (And.intro @C.catnaplaw3_GraphJoins_r8_w @C.catnaplaw3_GraphJoins_b32_w)))) (And.intro (And.intro (And.intro (And.intro @C.catnaplaw3_GraphJoins_c33_w @C.catnaplaw3_GraphJoins_r7_w) (And.intro @C.catnaplaw3_GraphJoins_c34_w @C.catnaplaw3_GraphJoins_r6_w)) (And.intro (And.intro @C.catnaplaw3_GraphJoins_c35_w @C.catnaplaw3_GraphJoins_r5_w) (And.intro @C.catnaplaw3_GraphJoins_c36_w @C.catnaplaw3_GraphJoins_r4_w))) (And.intro (And.intro (And.intro @C.catnaplaw3_GraphJoins_c37_w @C.catnaplaw3_GraphJoins_r3_w) (And.intro @C.catnaplaw3_GraphJoins_c38_w @C.catnaplaw3_GraphJoins_c39_w)) (And.intro (And.intro @C.catnaplaw3_GraphJoins_r2_w @C.catnaplaw3_GraphJoins_c40_w) (And.intro @C.catnaplaw3_GraphJoins_r1_w (And.intro @C.catnaplaw3_GraphJoins_c41_w @C.catnaplaw3_GraphJoins_r0_w))))))
def C.catnaplaw3_GraphJoins_B := And.intro (And.intro (And.intro (And.intro @C.catnaplaw3_GraphJoins_r27_b.eq_1 (And.intro @C.catnaplaw3_GraphJoins_r26_b.eq_1 @C.catnaplaw3_GraphJoins_r25_b.eq_1)) (And.intro (And.intro @C.catnaplaw3_GraphJoins_r24_b.eq_1 @C.catnaplaw3_GraphJoins_r23_b.eq_1) (And.intro @C.catnaplaw3_GraphJoins_r22_b.eq_1 @C.catnaplaw3_GraphJoins_r21_b.eq_1))) (And.intro (And.intro @C.catnaplaw3_GraphJoins_r20_b.eq_1 (And.intro @C.catnaplaw3_GraphJoins_r19_b.eq_1 @C.catnaplaw3_GraphJoins_r18_b.eq_1)) (And.intro (And.intro @C.catnaplaw3_GraphJoins_r13_b.eq_1 @C.catnaplaw3_GraphJoins_r16_b.eq_1) (And.intro @C.catnaplaw3_GraphJoins_r17_b.eq_1 @C.catnaplaw3_GraphJoins_r15_b.eq_1)))) (And.intro (And.intro (And.intro @C.catnaplaw3_GraphJoins_r14_b.eq_1 (And.intro @C.catnaplaw3_GraphJoins_r12_b.eq_1 @C.catnaplaw3_GraphJoins_r11_b.eq_1)) (And.intro (And.intro @C.catnaplaw3_GraphJoins_r9_b.eq_1 @C.catnaplaw3_GraphJoins_r10_b.eq_1) (And.intro @C.catnaplaw3_GraphJoins_r8_b.eq_1 @C.catnaplaw3_GraphJoins_r7_b.eq_1))) (And.intro (And.intro @C.catnaplaw3_GraphJoins_r6_b.eq_1 (And.intro @C.catnaplaw3_GraphJoins_r5_b.eq_1 @C.catnaplaw3_GraphJoins_r4_b.eq_1)) (And.intro (And.intro @C.catnaplaw3_GraphJoins_r3_b.eq_1 @C.catnaplaw3_GraphJoins_r2_b.eq_1) (And.intro @C.catnaplaw3_GraphJoins_r1_b.eq_1 @C.catnaplaw3_GraphJoins_r0_b.eq_1))))

def C.catnaplaw3_GraphLess_r20_b : List IOper := [
  ⟨some 10, .move (.cst (.bool true)), none, [], []⟩]
def C.catnaplaw3_GraphLess_r20 : List IOper := C.catnaplaw3_GraphLess_r20_b
theorem C.catnaplaw3_GraphLess_r20_w {k : AFr → ASt → Prop} : aops P C.catnaplaw3_GraphLess_r20 k fr st = aops P C.catnaplaw3_GraphLess_r20_b k fr st := rfl
def C.catnaplaw3_GraphLess_c1 : ICode := .keep [] (.seq (.region C.catnaplaw3_GraphLess_r20) .ret)
theorem C.catnaplaw3_GraphLess_c1_w : awp P C.catnaplaw3_GraphLess_c1 Q fr st = awp P (.keep [] (.seq (.region C.catnaplaw3_GraphLess_r20) .ret)) Q fr st := rfl
def C.catnaplaw3_GraphLess_r17_b : List IOper := [
  ⟨some 82, .move (.slot 20), none, [], []⟩,
  ⟨some 83, .bin .add (.slot 82) (.cst (.int .i64 1)), none, [], []⟩,
  ⟨some 20, .move (.slot 83), none, [], []⟩]
def C.catnaplaw3_GraphLess_r17 : List IOper := C.catnaplaw3_GraphLess_r17_b
theorem C.catnaplaw3_GraphLess_r17_w {k : AFr → ASt → Prop} : aops P C.catnaplaw3_GraphLess_r17 k fr st = aops P C.catnaplaw3_GraphLess_r17_b k fr st := rfl
def C.catnaplaw3_GraphLess_c2 : ICode := .keep [15, 18, 20] (.region C.catnaplaw3_GraphLess_r17)
theorem C.catnaplaw3_GraphLess_c2_w : awp P C.catnaplaw3_GraphLess_c2 Q fr st = awp P (.keep [15, 18, 20] (.region C.catnaplaw3_GraphLess_r17)) Q fr st := rfl
def C.catnaplaw3_GraphLess_r19_b : List IOper := [
  ⟨some 10, .move (.cst (.bool false)), none, [], []⟩]
def C.catnaplaw3_GraphLess_r19 : List IOper := C.catnaplaw3_GraphLess_r19_b
theorem C.catnaplaw3_GraphLess_r19_w {k : AFr → ASt → Prop} : aops P C.catnaplaw3_GraphLess_r19 k fr st = aops P C.catnaplaw3_GraphLess_r19_b k fr st := rfl
def C.catnaplaw3_GraphLess_c3 : ICode := .seq (.region C.catnaplaw3_GraphLess_r19) .ret
theorem C.catnaplaw3_GraphLess_c3_w : awp P C.catnaplaw3_GraphLess_c3 Q fr st = awp P (.seq (.region C.catnaplaw3_GraphLess_r19) .ret) Q fr st := rfl
def C.catnaplaw3_GraphLess_c4 : ICode := .keep [15, 18, 20, 90] (.cond (.slot 90) C.catnaplaw3_GraphLess_c3 .skip)
theorem C.catnaplaw3_GraphLess_c4_w : awp P C.catnaplaw3_GraphLess_c4 Q fr st = awp P (.keep [15, 18, 20, 90] (.cond (.slot 90) C.catnaplaw3_GraphLess_c3 .skip)) Q fr st := rfl
def C.catnaplaw3_GraphLess_r18_b : List IOper := [
  ⟨some 84, .move (.slot 15), none, [], []⟩,
  ⟨some 85, .move (.slot 18), none, [], []⟩,
  ⟨some 86, .move (.slot 20), none, [], []⟩,
  ⟨some 87, .idxAddr 1 (.slot 85) (.slot 86), none, [], []⟩,
  ⟨some 88, .load1 (.slot 87), none, [], []⟩,
  ⟨some 89, .call F.catnapref3_Has [.slot 84, .slot 88], none, [], []⟩,
  ⟨some 90, .un .not (.slot 89), none, [], []⟩]
def C.catnaplaw3_GraphLess_r18 : List IOper := C.catnaplaw3_GraphLess_r18_b
theorem C.catnaplaw3_GraphLess_r18_w {k : AFr → ASt → Prop} : aops P C.catnaplaw3_GraphLess_r18 k fr st = aops P C.catnaplaw3_GraphLess_r18_b k fr st := rfl
def C.catnaplaw3_GraphLess_b5 : ICode := .seq (.region C.catnaplaw3_GraphLess_r18) C.catnaplaw3_GraphLess_c4
theorem C.catnaplaw3_GraphLess_b5_w : awp P C.catnaplaw3_GraphLess_b5 Q fr st = awp P (.seq (.region C.catnaplaw3_GraphLess_r18) C.catnaplaw3_GraphLess_c4) Q fr st := rfl
def C.catnaplaw3_GraphLess_c6 : ICode := .keep [15, 18, 20] (.seq (.block 1 C.catnaplaw3_GraphLess_b5) C.catnaplaw3_GraphLess_c2)
theorem C.catnaplaw3_GraphLess_c6_w : awp P C.catnaplaw3_GraphLess_c6 Q fr st = awp P (.keep [15, 18, 20] (.seq (.block 1 C.catnaplaw3_GraphLess_b5) C.catnaplaw3_GraphLess_c2)) Q fr st := rfl
def C.catnaplaw3_GraphLess_c7 : ICode := .keep [15, 18, 20, 81] (.cond (.slot 81) .skip (.exit 0))
theorem C.catnaplaw3_GraphLess_c7_w : awp P C.catnaplaw3_GraphLess_c7 Q fr st = awp P (.keep [15, 18, 20, 81] (.cond (.slot 81) .skip (.exit 0))) Q fr st := rfl
def C.catnaplaw3_GraphLess_r16_b : List IOper := [
  ⟨some 78, .move (.slot 20), none, [], []⟩,
  ⟨some 79, .move (.slot 18), none, [], []⟩,
  ⟨some 80, .len (.slot 79), none, [], []⟩,
  ⟨some 81, .bin .lss (.slot 78) (.slot 80), none, [], []⟩]
def C.catnaplaw3_GraphLess_r16 : List IOper := C.catnaplaw3_GraphLess_r16_b
theorem C.catnaplaw3_GraphLess_r16_w {k : AFr → ASt → Prop} : aops P C.catnaplaw3_GraphLess_r16 k fr st = aops P C.catnaplaw3_GraphLess_r16_b k fr st := rfl
def C.catnaplaw3_GraphLess_l8 : ICode := .keep [15, 18, 20] (.seq (.seq (.region C.catnaplaw3_GraphLess_r16) C.catnaplaw3_GraphLess_c7) C.catnaplaw3_GraphLess_c6)
theorem C.catnaplaw3_GraphLess_l8_w : awp P C.catnaplaw3_GraphLess_l8 Q fr st = awp P (.keep [15, 18, 20] (.seq (.seq (.region C.catnaplaw3_GraphLess_r16) C.catnaplaw3_GraphLess_c7) C.catnaplaw3_GraphLess_c6)) Q fr st := rfl
def C.catnaplaw3_GraphLess_b9 : ICode := .loop C.catnaplaw3_GraphLess_l8
theorem C.catnaplaw3_GraphLess_b9_w : awp P C.catnaplaw3_GraphLess_b9 Q fr st = awp P (.loop C.catnaplaw3_GraphLess_l8) Q fr st := rfl
def C.catnaplaw3_GraphLess_c10 : ICode := .keep [15, 18, 20] (.block 0 C.catnaplaw3_GraphLess_b9)
theorem C.catnaplaw3_GraphLess_c10_w : awp P C.catnaplaw3_GraphLess_c10 Q fr st = awp P (.keep [15, 18, 20] (.block 0 C.catnaplaw3_GraphLess_b9)) Q fr st := rfl
def C.catnaplaw3_GraphLess_r15_b : List IOper := [
  ⟨some 20, .move (.cst (.int .i64 0)), none, [], []⟩]
def C.catnaplaw3_GraphLess_r15 : List IOper := C.catnaplaw3_GraphLess_r15_b
theorem C.catnaplaw3_GraphLess_r15_w {k : AFr → ASt → Prop} : aops P C.catnaplaw3_GraphLess_r15 k fr st = aops P C.catnaplaw3_GraphLess_r15_b k fr st := rfl
def C.catnaplaw3_GraphLess_c11 : ICode := .keep [15, 18] (.seq (.seq (.region C.catnaplaw3_GraphLess_r15) C.catnaplaw3_GraphLess_c10) C.catnaplaw3_GraphLess_c1)
theorem C.catnaplaw3_GraphLess_c11_w : awp P C.catnaplaw3_GraphLess_c11 Q fr st = awp P (.keep [15, 18] (.seq (.seq (.region C.catnaplaw3_GraphLess_r15) C.catnaplaw3_GraphLess_c10) C.catnaplaw3_GraphLess_c1)) Q fr st := rfl
def C.catnaplaw3_GraphLess_r14_b : List IOper := [
  ⟨some 10, .move (.cst (.bool false)), none, [], []⟩]
def C.catnaplaw3_GraphLess_r14 : List IOper := C.catnaplaw3_GraphLess_r14_b
theorem C.catnaplaw3_GraphLess_r14_w {k : AFr → ASt → Prop} : aops P C.catnaplaw3_GraphLess_r14 k fr st = aops P C.catnaplaw3_GraphLess_r14_b k fr st := rfl
def C.catnaplaw3_GraphLess_c12 : ICode := .seq (.region C.catnaplaw3_GraphLess_r14) .ret
theorem C.catnaplaw3_GraphLess_c12_w : awp P C.catnaplaw3_GraphLess_c12 Q fr st = awp P (.seq (.region C.catnaplaw3_GraphLess_r14) .ret) Q fr st := rfl
def C.catnaplaw3_GraphLess_c13 : ICode := .keep [15, 18, 77] (.cond (.slot 77) C.catnaplaw3_GraphLess_c12 .skip)
theorem C.catnaplaw3_GraphLess_c13_w : awp P C.catnaplaw3_GraphLess_c13 Q fr st = awp P (.keep [15, 18, 77] (.cond (.slot 77) C.catnaplaw3_GraphLess_c12 .skip)) Q fr st := rfl
def C.catnaplaw3_GraphLess_r13_b : List IOper := [
  ⟨some 65, .move (.slot 16), none, [], []⟩,
  ⟨some 66, .bin .neq (.slot 65) (.cst (.int .i64 0)), none, [], []⟩,
  ⟨some 67, .move (.slot 66), none, [], []⟩,
  ⟨some 68, .move (.slot 19), some (67, false), [], []⟩,
  ⟨some 69, .bin .neq (.slot 68) (.cst (.int .i64 0)), some (67, false), [], []⟩,
  ⟨some 70, .pick (.slot 67) (.cst (.bool true)) (.slot 69), none, [], []⟩,
  ⟨some 71, .move (.slot 70), none, [], []⟩,
  ⟨some 72, .move (.slot 18), some (71, false), [], []⟩,
  ⟨some 73, .len (.slot 72), some (71, false), [], []⟩,
  ⟨some 74, .move (.slot 15), some (71, false), [], []⟩,
  ⟨some 75, .len (.slot 74), some (71, false), [], []⟩,
  ⟨some 76, .bin .gtr (.slot 73) (.slot 75), some (71, false), [], []⟩,
  ⟨some 77, .pick (.slot 71) (.cst (.bool true)) (.slot 76), none, [], []⟩]
def C.catnaplaw3_GraphLess_r13 : List IOper := C.catnaplaw3_GraphLess_r13_b
theorem C.catnaplaw3_GraphLess_r13_w {k : AFr → ASt → Prop} : aops P C.catnaplaw3_GraphLess_r13 k fr st = aops P C.catnaplaw3_GraphLess_r13_b k fr st := rfl
def C.catnaplaw3_GraphLess_c14 : ICode := .keep [15, 16, 18, 19] (.seq (.seq (.region C.catnaplaw3_GraphLess_r13) C.catnaplaw3_GraphLess_c13) C.catnaplaw3_GraphLess_c11)
theorem C.catnaplaw3_GraphLess_c14_w : awp P C.catnaplaw3_GraphLess_c14 Q fr st = awp P (.keep [15, 16, 18, 19] (.seq (.seq (.region C.catnaplaw3_GraphLess_r13) C.catnaplaw3_GraphLess_c13) C.catnaplaw3_GraphLess_c11)) Q fr st := rfl
def C.catnaplaw3_GraphLess_r12_b : List IOper := [
  ⟨some 60, .move (.slot 13), none, [], []⟩,
  ⟨some 61, .move (.slot 14), none, [], []⟩,
  ⟨some 62, .call F.graph_Above [.slot 60, .slot 61], none, [], []⟩,
  ⟨some 59, .move (.slot 62), none, [], []⟩,
  ⟨some 63, .extract (.slot 59) 0, none, [], []⟩,
  ⟨some 64, .extract (.slot 59) 1, none, [], []⟩,
  ⟨some 18, .move (.slot 63), none, [], []⟩,
  ⟨some 19, .move (.slot 64), none, [], []⟩]
def C.catnaplaw3_GraphLess_r12 : List IOper := C.catnaplaw3_GraphLess_r12_b
theorem C.catnaplaw3_GraphLess_r12_w {k : AFr → ASt → Prop} : aops P C.catnaplaw3_GraphLess_r12 k fr st = aops P C.catnaplaw3_GraphLess_r12_b k fr st := rfl
def C.catnaplaw3_GraphLess_c15 : ICode := .keep [13, 14, 15, 16] (.seq (.region C.catnaplaw3_GraphLess_r12) C.catnaplaw3_GraphLess_c14)
theorem C.catnaplaw3_GraphLess_c15_w : awp P C.catnaplaw3_GraphLess_c15 Q fr st = awp P (.keep [13, 14, 15, 16] (.seq (.region C.catnaplaw3_GraphLess_r12) C.catnaplaw3_GraphLess_c14)) Q fr st := rfl
def C.catnaplaw3_GraphLess_r11_b : List IOper := [
  ⟨some 51, .move (.slot 13), none, [], []⟩,
  ⟨some 52, .move (.slot 17), none, [], []⟩,
  ⟨some 53, .move (.slot 13), none, [], []⟩,
  ⟨some 54, .move (.slot 17), none, [], []⟩,
  ⟨some 55, .idxAddr 1 (.slot 53) (.slot 54), none, [], []⟩,
  ⟨some 56, .load1 (.slot 55), none, [], []⟩,
  ⟨some 57, .slice 1 (.slot 56) (some (.cst (.int .i64 1))) none none, none, [], []⟩,
  ⟨some 58, .idxAddr 1 (.slot 51) (.slot 52), none, [], []⟩,
  ⟨none, .store1 (.slot 58) (.slot 57), none, [], []⟩]
def C.catnaplaw3_GraphLess_r11 : List IOper := C.catnaplaw3_GraphLess_r11_b
theorem C.catnaplaw3_GraphLess_r11_w {k : AFr → ASt → Prop} : aops P C.catnaplaw3_GraphLess_r11 k fr st = aops P C.catnaplaw3_GraphLess_r11_b k fr st := rfl
def C.catnaplaw3_GraphLess_c16 : ICode := .keep [13, 14, 15, 16, 17] (.seq (.region C.catnaplaw3_GraphLess_r11) C.catnaplaw3_GraphLess_c15)
theorem C.catnaplaw3_GraphLess_c16_w : awp P C.catnaplaw3_GraphLess_c16 Q fr st = awp P (.keep [13, 14, 15, 16, 17] (.seq (.region C.catnaplaw3_GraphLess_r11) C.catnaplaw3_GraphLess_c15)) Q fr st := rfl
def C.catnaplaw3_GraphLess_r10_b : List IOper := [
  ⟨some 49, .move (.slot 16), none, [], []⟩,
  ⟨some 50, .bin .eql (.slot 49) (.cst (.int .i64 0)), none, [], []⟩,
  ⟨some 10, .move (.slot 50), none, [], []⟩]
def C.catnaplaw3_GraphLess_r10 : List IOper := C.catnaplaw3_GraphLess_r10_b
theorem C.catnaplaw3_GraphLess_r10_w {k : AFr → ASt → Prop} : aops P C.catnaplaw3_GraphLess_r10 k fr st = aops P C.catnaplaw3_GraphLess_r10_b k fr st := rfl
def C.catnaplaw3_GraphLess_c17 : ICode := .seq (.region C.catnaplaw3_GraphLess_r10) .ret
theorem C.catnaplaw3_GraphLess_c17_w : awp P C.catnaplaw3_GraphLess_c17 Q fr st = awp P (.seq (.region C.catnaplaw3_GraphLess_r10) .ret) Q fr st := rfl
def C.catnaplaw3_GraphLess_c18 : ICode := .keep [13, 14, 15, 16, 17, 48] (.cond (.slot 48) C.catnaplaw3_GraphLess_c17 .skip)
theorem C.catnaplaw3_GraphLess_c18_w : awp P C.catnaplaw3_GraphLess_c18 Q fr st = awp P (.keep [13, 14, 15, 16, 17, 48] (.cond (.slot 48) C.catnaplaw3_GraphLess_c17 .skip)) Q fr st := rfl
def C.catnaplaw3_GraphLess_r9_b : List IOper := [
  ⟨some 43, .move (.slot 13), none, [], []⟩,
  ⟨some 44, .move (.slot 17), none, [], []⟩,
  ⟨some 45, .idxAddr 1 (.slot 43) (.slot 44), none, [], []⟩,
  ⟨some 46, .load1 (.slot 45), none, [], []⟩,
  ⟨some 47, .len (.slot 46), none, [], []⟩,
  ⟨some 48, .bin .eql (.slot 47) (.cst (.int .i64 0)), none, [], []⟩]
def C.catnaplaw3_GraphLess_r9 : List IOper := C.catnaplaw3_GraphLess_r9_b
theorem C.catnaplaw3_GraphLess_r9_w {k : AFr → ASt → Prop} : aops P C.catnaplaw3_GraphLess_r9 k fr st = aops P C.catnaplaw3_GraphLess_r9_b k fr st := rfl
def C.catnaplaw3_GraphLess_c19 : ICode := .keep [13, 14, 15, 16, 17] (.seq (.seq (.region C.catnaplaw3_GraphLess_r9) C.catnaplaw3_GraphLess_c18) C.catnaplaw3_GraphLess_c16)
theorem C.catnaplaw3_GraphLess_c19_w : awp P C.catnaplaw3_GraphLess_c19 Q fr st = awp P (.keep [13, 14, 15, 16, 17] (.seq (.seq (.region C.catnaplaw3_GraphLess_r9) C.catnaplaw3_GraphLess_c18) C.catnaplaw3_GraphLess_c16)) Q fr st := rfl
def C.catnaplaw3_GraphLess_r8_b : List IOper := [
  ⟨some 40, .move (.slot 3), none, [], []⟩,
  ⟨some 41, .move (.slot 12), none, [], []⟩,
  ⟨some 42, .call F.catnaplaw3_pick [.slot 40, .slot 41], none, [], []⟩,
  ⟨some 17, .move (.slot 42), none, [], []⟩]
def C.catnaplaw3_GraphLess_r8 : List IOper := C.catnaplaw3_GraphLess_r8_b
theorem C.catnaplaw3_GraphLess_r8_w {k : AFr → ASt → Prop} : aops P C.catnaplaw3_GraphLess_r8 k fr st = aops P C.catnaplaw3_GraphLess_r8_b k fr st := rfl
def C.catnaplaw3_GraphLess_c20 : ICode := .keep [3, 12, 13, 14, 15, 16] (.seq (.region C.catnaplaw3_GraphLess_r8) C.catnaplaw3_GraphLess_c19)
theorem C.catnaplaw3_GraphLess_c20_w : awp P C.catnaplaw3_GraphLess_c20 Q fr st = awp P (.keep [3, 12, 13, 14, 15, 16] (.seq (.region C.catnaplaw3_GraphLess_r8) C.catnaplaw3_GraphLess_c19)) Q fr st := rfl
def C.catnaplaw3_GraphLess_r7_b : List IOper := [
  ⟨some 35, .move (.slot 13), none, [], []⟩,
  ⟨some 36, .move (.slot 14), none, [], []⟩,
  ⟨some 37, .call F.graph_Above [.slot 35, .slot 36], none, [], []⟩,
  ⟨some 34, .move (.slot 37), none, [], []⟩,
  ⟨some 38, .extract (.slot 34) 0, none, [], []⟩,
  ⟨some 39, .extract (.slot 34) 1, none, [], []⟩,
  ⟨some 15, .move (.slot 38), none, [], []⟩,
  ⟨some 16, .move (.slot 39), none, [], []⟩]
def C.catnaplaw3_GraphLess_r7 : List IOper := C.catnaplaw3_GraphLess_r7_b
theorem C.catnaplaw3_GraphLess_r7_w {k : AFr → ASt → Prop} : aops P C.catnaplaw3_GraphLess_r7 k fr st = aops P C.catnaplaw3_GraphLess_r7_b k fr st := rfl
def C.catnaplaw3_GraphLess_c21 : ICode := .keep [3, 12, 13, 14] (.seq (.region C.catnaplaw3_GraphLess_r7) C.catnaplaw3_GraphLess_c20)
theorem C.catnaplaw3_GraphLess_c21_w : awp P C.catnaplaw3_GraphLess_c21 Q fr st = awp P (.keep [3, 12, 13, 14] (.seq (.region C.catnaplaw3_GraphLess_r7) C.catnaplaw3_GraphLess_c20)) Q fr st := rfl
def C.catnaplaw3_GraphLess_r6_b : List IOper := [
  ⟨some 31, .move (.slot 4), none, [], []⟩,
  ⟨some 32, .move (.slot 12), none, [], []⟩,
  ⟨some 33, .call F.catnaplaw3_pick [.slot 31, .slot 32], none, [], []⟩,
  ⟨some 14, .move (.slot 33), none, [], []⟩]
def C.catnaplaw3_GraphLess_r6 : List IOper := C.catnaplaw3_GraphLess_r6_b
theorem C.catnaplaw3_GraphLess_r6_w {k : AFr → ASt → Prop} : aops P C.catnaplaw3_GraphLess_r6 k fr st = aops P C.catnaplaw3_GraphLess_r6_b k fr st := rfl
def C.catnaplaw3_GraphLess_c22 : ICode := .keep [3, 4, 12, 13] (.seq (.region C.catnaplaw3_GraphLess_r6) C.catnaplaw3_GraphLess_c21)
theorem C.catnaplaw3_GraphLess_c22_w : awp P C.catnaplaw3_GraphLess_c22 Q fr st = awp P (.keep [3, 4, 12, 13] (.seq (.region C.catnaplaw3_GraphLess_r6) C.catnaplaw3_GraphLess_c21)) Q fr st := rfl
def C.catnaplaw3_GraphLess_r5_b : List IOper := [
  ⟨some 27, .move (.slot 12), none, [], []⟩,
  ⟨some 28, .move (.slot 1), none, [], []⟩,
  ⟨some 29, .move (.slot 2), none, [], []⟩,
  ⟨some 30, .call F.catnaplaw3_falling [.slot 27, .slot 28, .slot 29], none, [], []⟩,
  ⟨some 13, .move (.slot 30), none, [], []⟩]
def C.catnaplaw3_GraphLess_r5 : List IOper := C.catnaplaw3_GraphLess_r5_b
theorem C.catnaplaw3_GraphLess_r5_w {k : AFr → ASt → Prop} : aops P C.catnaplaw3_GraphLess_r5 k fr st = aops P C.catnaplaw3_GraphLess_r5_b k fr st := rfl
def C.catnaplaw3_GraphLess_c23 : ICode := .keep [1, 2, 3, 4, 12] (.seq (.region C.catnaplaw3_GraphLess_r5) C.catnaplaw3_GraphLess_c22)
theorem C.catnaplaw3_GraphLess_c23_w : awp P C.catnaplaw3_GraphLess_c23 Q fr st = awp P (.keep [1, 2, 3, 4, 12] (.seq (.region C.catnaplaw3_GraphLess_r5) C.catnaplaw3_GraphLess_c22)) Q fr st := rfl
def C.catnaplaw3_GraphLess_r4_b : List IOper := [
  ⟨some 24, .move (.slot 0), none, [], []⟩,
  ⟨some 25, .call F.catnaplaw3_pick [.slot 24, .cst (.int .i64 10)], none, [], []⟩,
  ⟨some 26, .bin .add (.cst (.int .i64 2)) (.slot 25), none, [], []⟩,
  ⟨some 12, .move (.slot 26), none, [], []⟩]
def C.catnaplaw3_GraphLess_r4 : List IOper := C.catnaplaw3_GraphLess_r4_b
theorem C.catnaplaw3_GraphLess_r4_w {k : AFr → ASt → Prop} : aops P C.catnaplaw3_GraphLess_r4 k fr st = aops P C.catnaplaw3_GraphLess_r4_b k fr st := rfl
def C.catnaplaw3_GraphLess_c24 : ICode := .keep [0, 1, 2, 3, 4] (.seq (.region C.catnaplaw3_GraphLess_r4) C.catnaplaw3_GraphLess_c23)
theorem C.catnaplaw3_GraphLess_c24_w : awp P C.catnaplaw3_GraphLess_c24 Q fr st = awp P (.keep [0, 1, 2, 3, 4] (.seq (.region C.catnaplaw3_GraphLess_r4) C.catnaplaw3_GraphLess_c23)) Q fr st := rfl
def C.catnaplaw3_GraphLess_r3_b : List IOper := [
  ⟨some 10, .move (.cst (.bool false)), none, [], []⟩]
def C.catnaplaw3_GraphLess_r3 : List IOper := C.catnaplaw3_GraphLess_r3_b
theorem C.catnaplaw3_GraphLess_r3_w {k : AFr → ASt → Prop} : aops P C.catnaplaw3_GraphLess_r3 k fr st = aops P C.catnaplaw3_GraphLess_r3_b k fr st := rfl
def C.catnaplaw3_GraphLess_c25 : ICode := .seq (.region C.catnaplaw3_GraphLess_r3) .ret
theorem C.catnaplaw3_GraphLess_c25_w : awp P C.catnaplaw3_GraphLess_c25 Q fr st = awp P (.seq (.region C.catnaplaw3_GraphLess_r3) .ret) Q fr st := rfl
def C.catnaplaw3_GraphLess_c26 : ICode := .keep [0, 1, 2, 3, 4, 23] (.cond (.slot 23) C.catnaplaw3_GraphLess_c25 .skip)
theorem C.catnaplaw3_GraphLess_c26_w : awp P C.catnaplaw3_GraphLess_c26 Q fr st = awp P (.keep [0, 1, 2, 3, 4, 23] (.cond (.slot 23) C.catnaplaw3_GraphLess_c25 .skip)) Q fr st := rfl
def C.catnaplaw3_GraphLess_r2_b : List IOper := [
  ⟨some 22, .move (.slot 11), none, [], []⟩,
  ⟨some 23, .un .not (.slot 22), none, [], []⟩]
def C.catnaplaw3_GraphLess_r2 : List IOper := C.catnaplaw3_GraphLess_r2_b
theorem C.catnaplaw3_GraphLess_r2_w {k : AFr → ASt → Prop} : aops P C.catnaplaw3_GraphLess_r2 k fr st = aops P C.catnaplaw3_GraphLess_r2_b k fr st := rfl
def C.catnaplaw3_GraphLess_c27 : ICode := .keep [0, 1, 2, 3, 4, 11] (.seq (.seq (.region C.catnaplaw3_GraphLess_r2) C.catnaplaw3_GraphLess_c26) C.catnaplaw3_GraphLess_c24)
theorem C.catnaplaw3_GraphLess_c27_w : awp P C.catnaplaw3_GraphLess_c27 Q fr st = awp P (.keep [0, 1, 2, 3, 4, 11] (.seq (.seq (.region C.catnaplaw3_GraphLess_r2) C.catnaplaw3_GraphLess_c26) C.catnaplaw3_GraphLess_c24)) Q fr st := rfl
def C.catnaplaw3_GraphLess_r1_b : List IOper := [
  ⟨some 21, .call F.catnaplaw3_shown [], none, [], []⟩,
  ⟨some 11, .move (.slot 21), none, [], []⟩]
def C.catnaplaw3_GraphLess_r1 : List IOper := C.catnaplaw3_GraphLess_r1_b
theorem C.catnaplaw3_GraphLess_r1_w {k : AFr → ASt → Prop} : aops P C.catnaplaw3_GraphLess_r1 k fr st = aops P C.catnaplaw3_GraphLess_r1_b k fr st := rfl
def C.catnaplaw3_GraphLess_c28 : ICode := .keep [0, 1, 2, 3, 4] (.seq (.region C.catnaplaw3_GraphLess_r1) C.catnaplaw3_GraphLess_c27)
theorem C.catnaplaw3_GraphLess_c28_w : awp P C.catnaplaw3_GraphLess_c28 Q fr st = awp P (.keep [0, 1, 2, 3, 4] (.seq (.region C.catnaplaw3_GraphLess_r1) C.catnaplaw3_GraphLess_c27)) Q fr st := rfl
def C.catnaplaw3_GraphLess_r0_b : List IOper := [
  ⟨some 10, .move (.cst (.bool false)), none, [], []⟩]
def C.catnaplaw3_GraphLess_r0 : List IOper := C.catnaplaw3_GraphLess_r0_b
theorem C.catnaplaw3_GraphLess_r0_w {k : AFr → ASt → Prop} : aops P C.catnaplaw3_GraphLess_r0 k fr st = aops P C.catnaplaw3_GraphLess_r0_b k fr st := rfl
def C.catnaplaw3_GraphLess : IFunc := ⟨5, [.slot 10], .seq (.region C.catnaplaw3_GraphLess_r0) C.catnaplaw3_GraphLess_c28⟩
def C.catnaplaw3_GraphLess_W := And.intro (And.intro (And.intro (And.intro (And.intro @C.catnaplaw3_GraphLess_r20_w (And.intro @C.catnaplaw3_GraphLess_c1_w @C.catnaplaw3_GraphLess_r17_w)) (And.intro @C.catnaplaw3_GraphLess_c2_w (And.intro @C.catnaplaw3_GraphLess_r19_w @C.catnaplaw3_GraphLess_c3_w))) (And.intro (And.intro @C.catnaplaw3_GraphLess_c4_w (And.intro @C.catnaplaw3_GraphLess_r18_w @C.catnaplaw3_GraphLess_b5_w)) (And.intro @C.catnaplaw3_GraphLess_c6_w (And.intro @C.catnaplaw3_GraphLess_c7_w @C.catnaplaw3_GraphLess_r16_w)))) (And.intro (And.intro (And.intro @C.catnaplaw3_GraphLess_b9_w (And.intro @C.catnaplaw3_GraphLess_c10_w @C.catnaplaw3_GraphLess_r15_w)) (And.intro @C.catnaplaw3_GraphLess_c11_w (And.intro @C.catnaplaw3_GraphLess_r14_w @C.catnaplaw3_GraphLess_c12_w))) (And.intro (And.intro @C.catnaplaw3_GraphLess_c13_w (And.intro @C.catnaplaw3_GraphLess_r13_w @C.catnaplaw3_GraphLess_c14_w)) (And.intro @C.catnaplaw3_GraphLess_r12_w (And.intro @C.catnaplaw3_GraphLess_c15_w @C.catnaplaw3_GraphLess_r11_w))))) (And.intro (And.intro (And.intro (And.intro @C.catnaplaw3_GraphLess_c16_w (And.intro @C.catnaplaw3_GraphLess_r10_w @C.catnaplaw3_GraphLess_c17_w)) (And.intro @C.catnaplaw3_GraphLess_c18_w (And.intro @C.catnaplaw3_GraphLess_r9_w @C.catnaplaw3_GraphLess_c19_w))) (And.intro (And.intro @C.catnaplaw3_GraphLess_r8_w (And.intro @C.catnaplaw3_GraphLess_c20_w @C.catnaplaw3_GraphLess_r7_w)) (And.intro @C.catnaplaw3_GraphLess_c21_w (And.intro @C.catnaplaw3_GraphLess_r6_w @C.catnaplaw3_GraphLess_c22_w)))) (And.intro (And.intro (And.intro @C.catnaplaw3_GraphLess_r5_w (And.intro @C.catnaplaw3_GraphLess_c23_w @C.catnaplaw3_GraphLess_r4_w)) (And.intro @C.catnaplaw3_GraphLess_c24_w (And.intro @C.catnaplaw3_GraphLess_r3_w @C.catnaplaw3_GraphLess_c25_w))) (And.intro (And.intro @C.catnaplaw3_GraphLess_c26_w (And.intro @C.catnaplaw3_GraphLess_r2_w @C.catnaplaw3_GraphLess_c27_w)) (And.intro @C.catnaplaw3_GraphLess_r1_w (And.intro @C.catnaplaw3_GraphLess_c28_w @C.catnaplaw3_GraphLess_r0_w)))))
def C.catnaplaw3_GraphLess_B := And.intro (And.intro (And.intro (And.intro @C.catnaplaw3_GraphLess_r20_b.eq_1 @C.catnaplaw3_GraphLess_r17_b.eq_1) (And.intro @C.catnaplaw3_GraphLess_r19_b.eq_1 (And.intro @C.catnaplaw3_GraphLess_r18_b.eq_1 @C.catnaplaw3_GraphLess_r16_b.eq_1))) (And.intro (And.intro @C.catnaplaw3_GraphLess_r15_b.eq_1 @C.catnaplaw3_GraphLess_r14_b.eq_1) (And.intro @C.catnaplaw3_GraphLess_r13_b.eq_1 (And.intro @C.catnaplaw3_GraphLess_r12_b.eq_1 @C.catnaplaw3_GraphLess_r11_b.eq_1)))) (And.intro (And.intro (And.intro @C.catnaplaw3_GraphLess_r10_b.eq_1 @C.catnaplaw3_GraphLess_r9_b.eq_1) (And.intro @C.catnaplaw3_GraphLess_r8_b.eq_1 (And.intro @C.catnaplaw3_GraphLess_r7_b.eq_1 @C.catnaplaw3_GraphLess_r6_b.eq_1))) (And.intro (And.intro @C.catnaplaw3_GraphLess_r5_b.eq_1 (And.intro @C.catnaplaw3_GraphLess_r4_b.eq_1 @C.catnaplaw3_GraphLess_r3_b.eq_1)) (And.intro @C.catnaplaw3_GraphLess_r2_b.eq_1 (And.intro @C.catnaplaw3_GraphLess_r1_b.eq_1 @C.catnaplaw3_GraphLess_r0_b.eq_1))))

def C.catnaplaw3_GraphNumbers_r25_b : List IOper := [
  ⟨some 10, .move (.cst (.bool true)), none, [], []⟩]
def C.catnaplaw3_GraphNumbers_r25 : List IOper := C.catnaplaw3_GraphNumbers_r25_b
theorem C.catnaplaw3_GraphNumbers_r25_w {k : AFr → ASt → Prop} : aops P C.catnaplaw3_GraphNumbers_r25 k fr st = aops P C.catnaplaw3_GraphNumbers_r25_b k fr st := rfl
def C.catnaplaw3_GraphNumbers_c1 : ICode := .keep [] (.seq (.region C.catnaplaw3_GraphNumbers_r25) .ret)
theorem C.catnaplaw3_GraphNumbers_c1_w : awp P C.catnaplaw3_GraphNumbers_c1 Q fr st = awp P (.keep [] (.seq (.region C.catnaplaw3_GraphNumbers_r25) .ret)) Q fr st := rfl
def C.catnaplaw3_GraphNumbers_r22_b : List IOper := [
  ⟨some 122, .move (.slot 23), none, [], []⟩,
  ⟨some 123, .bin .add (.slot 122) (.cst (.int .i64 1)), none, [], []⟩,
  ⟨some 23, .move (.slot 123), none, [], []⟩]
def C.catnaplaw3_GraphNumbers_r22 : List IOper := C.catnaplaw3_GraphNumbers_r22_b
theorem C.catnaplaw3_GraphNumbers_r22_w {k : AFr → ASt → Prop} : aops P C.catnaplaw3_GraphNumbers_r22 k fr st = aops P C.catnaplaw3_GraphNumbers_r22_b k fr st := rfl
def C.catnaplaw3_GraphNumbers_c2 : ICode := .keep [12, 14, 19, 21, 23] (.region C.catnaplaw3_GraphNumbers_r22)
theorem C.catnaplaw3_GraphNumbers_c2_w : awp P C.catnaplaw3_GraphNumbers_c2 Q fr st = awp P (.keep [12, 14, 19, 21, 23] (.region C.catnaplaw3_GraphNumbers_r22)) Q fr st := rfl
def C.catnaplaw3_GraphNumbers_r24_b : List IOper := [
  ⟨some 10, .move (.cst (.bool false)), none, [], []⟩]
def C.catnaplaw3_GraphNumbers_r24 : List IOper := C.catnaplaw3_GraphNumbers_r24_b
theorem C.catnaplaw3_GraphNumbers_r24_w {k : AFr → ASt → Prop} : aops P C.catnaplaw3_GraphNumbers_r24 k fr st = aops P C.catnaplaw3_GraphNumbers_r24_b k fr st := rfl
def C.catnaplaw3_GraphNumbers_c3 : ICode := .seq (.region C.catnaplaw3_GraphNumbers_r24) .ret
theorem C.catnaplaw3_GraphNumbers_c3_w : awp P C.catnaplaw3_GraphNumbers_c3 Q fr st = awp P (.seq (.region C.catnaplaw3_GraphNumbers_r24) .ret) Q fr st := rfl
def C.catnaplaw3_GraphNumbers_c4 : ICode := .keep [12, 14, 19, 21, 23, 134] (.cond (.slot 134) C.catnaplaw3_GraphNumbers_c3 .skip)
theorem C.catnaplaw3_GraphNumbers_c4_w : awp P C.catnaplaw3_GraphNumbers_c4 Q fr st = awp P (.keep [12, 14, 19, 21, 23, 134] (.cond (.slot 134) C.catnaplaw3_GraphNumbers_c3 .skip)) Q fr st := rfl
def C.catnaplaw3_GraphNumbers_r23_b : List IOper := [
  ⟨some 124, .move (.slot 21), none, [], []⟩,
  ⟨some 125, .move (.slot 19), none, [], []⟩,
  ⟨some 126, .move (.slot 23), none, [], []⟩,
  ⟨some 127, .idxAddr 1 (.slot 125) (.slot 126), none, [], []⟩,
  ⟨some 128, .load1 (.slot 127), none, [], []⟩,
  ⟨some 129, .move (.slot 14), none, [], []⟩,
  ⟨some 130, .bin .add (.slot 128) (.slot 129), none, [], []⟩,
  ⟨some 131, .move (.slot 12), none, [], []⟩,
  ⟨some 132, .bin .rem (.slot 130) (.slot 131), none, [], []⟩,
  ⟨some 133, .call F.catnapref3_Has [.slot 124, .slot 132], none, [], []⟩,
  ⟨some 134, .un .not (.slot 133), none, [], []⟩]
def C.catnaplaw3_GraphNumbers_r23 : List IOper := C.catnaplaw3_GraphNumbers_r23_b
theorem C.catnaplaw3_GraphNumbers_r23_w {k : AFr → ASt → Prop} : aops P C.catnaplaw3_GraphNumbers_r23 k fr st = aops P C.catnaplaw3_GraphNumbers_r23_b k fr st := rfl
def C.catnaplaw3_GraphNumbers_b5 : ICode := .seq (.region C.catnaplaw3_GraphNumbers_r23) C.catnaplaw3_GraphNumbers_c4
theorem C.catnaplaw3_GraphNumbers_b5_w : awp P C.catnaplaw3_GraphNumbers_b5 Q fr st = awp P (.seq (.region C.catnaplaw3_GraphNumbers_r23) C.catnaplaw3_GraphNumbers_c4) Q fr st := rfl
def C.catnaplaw3_GraphNumbers_c6 : ICode := .keep [12, 14, 19, 21, 23] (.seq (.block 5 C.catnaplaw3_GraphNumbers_b5) C.catnaplaw3_GraphNumbers_c2)
theorem C.catnaplaw3_GraphNumbers_c6_w : awp P C.catnaplaw3_GraphNumbers_c6 Q fr st = awp P (.keep [12, 14, 19, 21, 23] (.seq (.block 5 C.catnaplaw3_GraphNumbers_b5) C.catnaplaw3_GraphNumbers_c2)) Q fr st := rfl
def C.catnaplaw3_GraphNumbers_c7 : ICode := .keep [12, 14, 19, 21, 23, 121] (.cond (.slot 121) .skip (.exit 4))
theorem C.catnaplaw3_GraphNumbers_c7_w : awp P C.catnaplaw3_GraphNumbers_c7 Q fr st = awp P (.keep [12, 14, 19, 21, 23, 121] (.cond (.slot 121) .skip (.exit 4))) Q fr st := rfl
def C.catnaplaw3_GraphNumbers_r21_b : List IOper := [
  ⟨some 118, .move (.slot 23), none, [], []⟩,
  ⟨some 119, .move (.slot 19), none, [], []⟩,
  ⟨some 120, .len (.slot 119), none, [], []⟩,
  ⟨some 121, .bin .lss (.slot 118) (.slot 120), none, [], []⟩]
def C.catnaplaw3_GraphNumbers_r21 : List IOper := C.catnaplaw3_GraphNumbers_r21_b
theorem C.catnaplaw3_GraphNumbers_r21_w {k : AFr → ASt → Prop} : aops P C.catnaplaw3_GraphNumbers_r21 k fr st = aops P C.catnaplaw3_GraphNumbers_r21_b k fr st := rfl
def C.catnaplaw3_GraphNumbers_l8 : ICode := .keep [12, 14, 19, 21, 23] (.seq (.seq (.region C.catnaplaw3_GraphNumbers_r21) C.catnaplaw3_GraphNumbers_c7) C.catnaplaw3_GraphNumbers_c6)
theorem C.catnaplaw3_GraphNumbers_l8_w : awp P C.catnaplaw3_GraphNumbers_l8 Q fr st = awp P (.keep [12, 14, 19, 21, 23] (.seq (.seq (.region C.catnaplaw3_GraphNumbers_r21) C.catnaplaw3_GraphNumbers_c7) C.catnaplaw3_GraphNumbers_c6)) Q fr st := rfl
def C.catnaplaw3_GraphNumbers_b9 : ICode := .loop C.catnaplaw3_GraphNumbers_l8
theorem C.catnaplaw3_GraphNumbers_b9_w : awp P C.catnaplaw3_GraphNumbers_b9 Q fr st = awp P (.loop C.catnaplaw3_GraphNumbers_l8) Q fr st := rfl
def C.catnaplaw3_GraphNumbers_c10 : ICode := .keep [12, 14, 19, 21, 23] (.block 4 C.catnaplaw3_GraphNumbers_b9)
theorem C.catnaplaw3_GraphNumbers_c10_w : awp P C.catnaplaw3_GraphNumbers_c10 Q fr st = awp P (.keep [12, 14, 19, 21, 23] (.block 4 C.catnaplaw3_GraphNumbers_b9)) Q fr st := rfl
def C.catnaplaw3_GraphNumbers_r20_b : List IOper := [
  ⟨some 23, .move (.cst (.int .i64 0)), none, [], []⟩]
def C.catnaplaw3_GraphNumbers_r20 : List IOper := C.catnaplaw3_GraphNumbers_r20_b
theorem C.catnaplaw3_GraphNumbers_r20_w {k : AFr → ASt → Prop} : aops P C.catnaplaw3_GraphNumbers_r20 k fr st = aops P C.catnaplaw3_GraphNumbers_r20_b k fr st := rfl
def C.catnaplaw3_GraphNumbers_c11 : ICode := .keep [12, 14, 19, 21] (.seq (.seq (.region C.catnaplaw3_GraphNumbers_r20) C.catnaplaw3_GraphNumbers_c10) C.catnaplaw3_GraphNumbers_c1)
theorem C.catnaplaw3_GraphNumbers_c11_w : awp P C.catnaplaw3_GraphNumbers_c11 Q fr st = awp P (.keep [12, 14, 19, 21] (.seq (.seq (.region C.catnaplaw3_GraphNumbers_r20) C.catnaplaw3_GraphNumbers_c10) C.catnaplaw3_GraphNumbers_c1)) Q fr st := rfl
def C.catnaplaw3_GraphNumbers_r19_b : List IOper := [
  ⟨some 10, .move (.cst (.bool false)), none, [], []⟩]
def C.catnaplaw3_GraphNumbers_r19 : List IOper := C.catnaplaw3_GraphNumbers_r19_b
theorem C.catnaplaw3_GraphNumbers_r19_w {k : AFr → ASt → Prop} : aops P C.catnaplaw3_GraphNumbers_r19 k fr st = aops P C.catnaplaw3_GraphNumbers_r19_b k fr st := rfl
def C.catnaplaw3_GraphNumbers_c12 : ICode := .seq (.region C.catnaplaw3_GraphNumbers_r19) .ret
theorem C.catnaplaw3_GraphNumbers_c12_w : awp P C.catnaplaw3_GraphNumbers_c12 Q fr st = awp P (.seq (.region C.catnaplaw3_GraphNumbers_r19) .ret) Q fr st := rfl
def C.catnaplaw3_GraphNumbers_c13 : ICode := .keep [12, 14, 19, 21, 117] (.cond (.slot 117) C.catnaplaw3_GraphNumbers_c12 .skip)
theorem C.catnaplaw3_GraphNumbers_c13_w : awp P C.catnaplaw3_GraphNumbers_c13 Q fr st = awp P (.keep [12, 14, 19, 21, 117] (.cond (.slot 117) C.catnaplaw3_GraphNumbers_c12 .skip)) Q fr st := rfl
def C.catnaplaw3_GraphNumbers_r18_b : List IOper := [
  ⟨some 100, .move (.slot 15), none, [], []⟩,
  ⟨some 101, .call F.graph_Check [.slot 100], none, [], []⟩,
  ⟨some 102, .bin .neq (.slot 101) (.cst (.int .i64 0)), none, [], []⟩,
  ⟨some 103, .move (.slot 102), none, [], []⟩,
  ⟨some 104, .move (.slot 20), some (103, false), [], []⟩,
  ⟨some 105, .bin .neq (.slot 104) (.cst (.int .i64 0)), some (103, false), [], []⟩,
  ⟨some 106, .pick (.slot 103) (.cst (.bool true)) (.slot 105), none, [], []⟩,
  ⟨some 107, .move (.slot 106), none, [], []⟩,
  ⟨some 108, .move (.slot 22), some (107, false), [], []⟩,
  ⟨some 109, .bin .neq (.slot 108) (.cst (.int .i64 0)), some (107, false), [], []⟩,
  ⟨some 110, .pick (.slot 107) (.cst (.bool true)) (.slot 109), none, [], []⟩,
  ⟨some 111, .move (.slot 110), none, [], []⟩,
  ⟨some 112, .move (.slot 19), some (111, false), [], []⟩,
  ⟨some 113, .len (.slot 112), some (111, false), [], []⟩,
  ⟨some 114, .move (.slot 21), some (111, false), [], []⟩,
  ⟨some 115, .len (.slot 114), some (111, false), [], []⟩,
  ⟨some 116, .bin .neq (.slot 113) (.slot 115), some (111, false), [], []⟩,
  ⟨some 117, .pick (.slot 111) (.cst (.bool true)) (.slot 116), none, [], []⟩]
def C.catnaplaw3_GraphNumbers_r18 : List IOper := C.catnaplaw3_GraphNumbers_r18_b
theorem C.catnaplaw3_GraphNumbers_r18_w {k : AFr → ASt → Prop} : aops P C.catnaplaw3_GraphNumbers_r18 k fr st = aops P C.catnaplaw3_GraphNumbers_r18_b k fr st := rfl
def C.catnaplaw3_GraphNumbers_c14 : ICode := .keep [12, 14, 15, 19, 20, 21, 22] (.seq (.seq (.region C.catnaplaw3_GraphNumbers_r18) C.catnaplaw3_GraphNumbers_c13) C.catnaplaw3_GraphNumbers_c11)
theorem C.catnaplaw3_GraphNumbers_c14_w : awp P C.catnaplaw3_GraphNumbers_c14 Q fr st = awp P (.keep [12, 14, 15, 19, 20, 21, 22] (.seq (.seq (.region C.catnaplaw3_GraphNumbers_r18) C.catnaplaw3_GraphNumbers_c13) C.catnaplaw3_GraphNumbers_c11)) Q fr st := rfl
def C.catnaplaw3_GraphNumbers_r17_b : List IOper := [
  ⟨some 91, .move (.slot 15), none, [], []⟩,
  ⟨some 92, .move (.slot 18), none, [], []⟩,
  ⟨some 93, .move (.slot 14), none, [], []⟩,
  ⟨some 94, .bin .add (.slot 92) (.slot 93), none, [], []⟩,
  ⟨some 95, .move (.slot 12), none, [], []⟩,
  ⟨some 96, .bin .rem (.slot 94) (.slot 95), none, [], []⟩,
  ⟨some 97, .call F.graph_Above [.slot 91, .slot 96], none, [], []⟩,
  ⟨some 90, .move (.slot 97), none, [], []⟩,
  ⟨some 98, .extract (.slot 90) 0, none, [], []⟩,
  ⟨some 99, .extract (.slot 90) 1, none, [], []⟩,
  ⟨some 21, .move (.slot 98), none, [], []⟩,
  ⟨some 22, .move (.slot 99), none, [], []⟩]
def C.catnaplaw3_GraphNumbers_r17 : List IOper := C.catnaplaw3_GraphNumbers_r17_b
theorem C.catnaplaw3_GraphNumbers_r17_w {k : AFr → ASt → Prop} : aops P C.catnaplaw3_GraphNumbers_r17 k fr st = aops P C.catnaplaw3_GraphNumbers_r17_b k fr st := rfl
def C.catnaplaw3_GraphNumbers_c15 : ICode := .keep [12, 14, 15, 18, 19, 20] (.seq (.region C.catnaplaw3_GraphNumbers_r17) C.catnaplaw3_GraphNumbers_c14)
theorem C.catnaplaw3_GraphNumbers_c15_w : awp P C.catnaplaw3_GraphNumbers_c15 Q fr st = awp P (.keep [12, 14, 15, 18, 19, 20] (.seq (.region C.catnaplaw3_GraphNumbers_r17) C.catnaplaw3_GraphNumbers_c14)) Q fr st := rfl
def C.catnaplaw3_GraphNumbers_r16_b : List IOper := [
  ⟨some 85, .move (.slot 13), none, [], []⟩,
  ⟨some 86, .move (.slot 18), none, [], []⟩,
  ⟨some 87, .call F.graph_Above [.slot 85, .slot 86], none, [], []⟩,
  ⟨some 84, .move (.slot 87), none, [], []⟩,
  ⟨some 88, .extract (.slot 84) 0, none, [], []⟩,
  ⟨some 89, .extract (.slot 84) 1, none, [], []⟩,
  ⟨some 19, .move (.slot 88), none, [], []⟩,
  ⟨some 20, .move (.slot 89), none, [], []⟩]
def C.catnaplaw3_GraphNumbers_r16 : List IOper := C.catnaplaw3_GraphNumbers_r16_b
theorem C.catnaplaw3_GraphNumbers_r16_w {k : AFr → ASt → Prop} : aops P C.catnaplaw3_GraphNumbers_r16 k fr st = aops P C.catnaplaw3_GraphNumbers_r16_b k fr st := rfl
def C.catnaplaw3_GraphNumbers_c16 : ICode := .keep [12, 13, 14, 15, 18] (.seq (.region C.catnaplaw3_GraphNumbers_r16) C.catnaplaw3_GraphNumbers_c15)
theorem C.catnaplaw3_GraphNumbers_c16_w : awp P C.catnaplaw3_GraphNumbers_c16 Q fr st = awp P (.keep [12, 13, 14, 15, 18] (.seq (.region C.catnaplaw3_GraphNumbers_r16) C.catnaplaw3_GraphNumbers_c15)) Q fr st := rfl
def C.catnaplaw3_GraphNumbers_r15_b : List IOper := [
  ⟨some 81, .move (.slot 4), none, [], []⟩,
  ⟨some 82, .move (.slot 12), none, [], []⟩,
  ⟨some 83, .call F.catnaplaw3_pick [.slot 81, .slot 82], none, [], []⟩,
  ⟨some 18, .move (.slot 83), none, [], []⟩]
def C.catnaplaw3_GraphNumbers_r15 : List IOper := C.catnaplaw3_GraphNumbers_r15_b
theorem C.catnaplaw3_GraphNumbers_r15_w {k : AFr → ASt → Prop} : aops P C.catnaplaw3_GraphNumbers_r15 k fr st = aops P C.catnaplaw3_GraphNumbers_r15_b k fr st := rfl
def C.catnaplaw3_GraphNumbers_c17 : ICode := .keep [4, 12, 13, 14, 15] (.seq (.region C.catnaplaw3_GraphNumbers_r15) C.catnaplaw3_GraphNumbers_c16)
theorem C.catnaplaw3_GraphNumbers_c17_w : awp P C.catnaplaw3_GraphNumbers_c17 Q fr st = awp P (.keep [4, 12, 13, 14, 15] (.seq (.region C.catnaplaw3_GraphNumbers_r15) C.catnaplaw3_GraphNumbers_c16)) Q fr st := rfl
def C.catnaplaw3_GraphNumbers_r10_b : List IOper := [
  ⟨some 42, .move (.slot 16), none, [], []⟩,
  ⟨some 43, .bin .add (.slot 42) (.cst (.int .i64 1)), none, [], []⟩,
  ⟨some 16, .move (.slot 43), none, [], []⟩]
def C.catnaplaw3_GraphNumbers_r10 : List IOper := C.catnaplaw3_GraphNumbers_r10_b
theorem C.catnaplaw3_GraphNumbers_r10_w {k : AFr → ASt → Prop} : aops P C.catnaplaw3_GraphNumbers_r10 k fr st = aops P C.catnaplaw3_GraphNumbers_r10_b k fr st := rfl
def C.catnaplaw3_GraphNumbers_c18 : ICode := .keep [4, 12, 13, 14, 15, 16] (.region C.catnaplaw3_GraphNumbers_r10)
theorem C.catnaplaw3_GraphNumbers_c18_w : awp P C.catnaplaw3_GraphNumbers_c18 Q fr st = awp P (.keep [4, 12, 13, 14, 15, 16] (.region C.catnaplaw3_GraphNumbers_r10)) Q fr st := rfl
def C.catnaplaw3_GraphNumbers_r13_b : List IOper := [
  ⟨some 51, .move (.slot 17), none, [], []⟩,
  ⟨some 52, .bin .add (.slot 51) (.cst (.int .i64 1)), none, [], []⟩,
  ⟨some 17, .move (.slot 52), none, [], []⟩]
def C.catnaplaw3_GraphNumbers_r13 : List IOper := C.catnaplaw3_GraphNumbers_r13_b
theorem C.catnaplaw3_GraphNumbers_r13_w {k : AFr → ASt → Prop} : aops P C.catnaplaw3_GraphNumbers_r13 k fr st = aops P C.catnaplaw3_GraphNumbers_r13_b k fr st := rfl
def C.catnaplaw3_GraphNumbers_c19 : ICode := .keep [4, 12, 13, 14, 15, 16, 17] (.region C.catnaplaw3_GraphNumbers_r13)
theorem C.catnaplaw3_GraphNumbers_c19_w : awp P C.catnaplaw3_GraphNumbers_c19 Q fr st = awp P (.keep [4, 12, 13, 14, 15, 16, 17] (.region C.catnaplaw3_GraphNumbers_r13)) Q fr st := rfl
def C.catnaplaw3_GraphNumbers_r14_b : List IOper := [
  ⟨some 53, .move (.slot 15), none, [], []⟩,
  ⟨some 54, .move (.slot 16), none, [], []⟩,
  ⟨some 55, .move (.slot 14), none, [], []⟩,
  ⟨some 56, .bin .add (.slot 54) (.slot 55), none, [], []⟩,
  ⟨some 57, .move (.slot 12), none, [], []⟩,
  ⟨some 58, .bin .rem (.slot 56) (.slot 57), none, [], []⟩,
  ⟨some 59, .move (.slot 15), none, [], []⟩,
  ⟨some 60, .move (.slot 16), none, [], []⟩,
  ⟨some 61, .move (.slot 14), none, [], []⟩,
  ⟨some 62, .bin .add (.slot 60) (.slot 61), none, [], []⟩,
  ⟨some 63, .move (.slot 12), none, [], []⟩,
  ⟨some 64, .bin .rem (.slot 62) (.slot 63), none, [], []⟩,
  ⟨some 65, .idxAddr 1 (.slot 59) (.slot 64), none, [], []⟩,
  ⟨some 66, .load1 (.slot 65), none, [], []⟩,
  ⟨some 67, .move (.slot 13), none, [], []⟩,
  ⟨some 68, .move (.slot 16), none, [], []⟩,
  ⟨some 69, .idxAddr 1 (.slot 67) (.slot 68), none, [], []⟩,
  ⟨some 70, .load1 (.slot 69), none, [], []⟩,
  ⟨some 71, .move (.slot 17), none, [], []⟩,
  ⟨some 72, .idxAddr 1 (.slot 70) (.slot 71), none, [], []⟩,
  ⟨some 73, .load1 (.slot 72), none, [], []⟩,
  ⟨some 74, .move (.slot 14), none, [], []⟩,
  ⟨some 75, .bin .add (.slot 73) (.slot 74), none, [], []⟩,
  ⟨some 76, .move (.slot 12), none, [], []⟩,
  ⟨some 77, .bin .rem (.slot 75) (.slot 76), none, [], []⟩,
  ⟨some 78, .buildSlice 1 1 [.int .i64 0] [(0, 1, .slot 77)], none, [], []⟩,
  ⟨some 79, .append 1 8 (.slot 66) (.slot 78), none, [], []⟩,
  ⟨some 80, .idxAddr 1 (.slot 53) (.slot 58), none, [], []⟩,
  ⟨none, .store1 (.slot 80) (.slot 79), none, [], []⟩]
def C.catnaplaw3_GraphNumbers_r14 : List IOper := C.catnaplaw3_GraphNumbers_r14_b
theorem C.catnaplaw3_GraphNumbers_r14_w {k : AFr → ASt → Prop} : aops P C.catnaplaw3_GraphNumbers_r14 k fr st = aops P C.catnaplaw3_GraphNumbers_r14_b k fr st := rfl
def C.catnaplaw3_GraphNumbers_b20 : ICode := .region C.catnaplaw3_GraphNumbers_r14
theorem C.catnaplaw3_GraphNumbers_b20_w : awp P C.catnaplaw3_GraphNumbers_b20 Q fr st = awp P (.region C.catnaplaw3_GraphNumbers_r14) Q fr st := rfl
def C.catnaplaw3_GraphNumbers_c21 : ICode := .keep [4, 12, 13, 14, 15, 16, 17] (.seq (.block 3 C.catnaplaw3_GraphNumbers_b20) C.catnaplaw3_GraphNumbers_c19)
theorem C.catnaplaw3_GraphNumbers_c21_w : awp P C.catnaplaw3_GraphNumbers_c21 Q fr st = awp P (.keep [4, 12, 13, 14, 15, 16, 17] (.seq (.block 3 C.catnaplaw3_GraphNumbers_b20) C.catnaplaw3_GraphNumbers_c19)) Q fr st := rfl
def C.catnaplaw3_GraphNumbers_c22 : ICode := .keep [4, 12, 13, 14, 15, 16, 17, 50] (.cond (.slot 50) .skip (.exit 2))
theorem C.catnaplaw3_GraphNumbers_c22_w : awp P C.catnaplaw3_GraphNumbers_c22 Q fr st = awp P (.keep [4, 12, 13, 14, 15, 16, 17, 50] (.cond (.slot 50) .skip (.exit 2))) Q fr st := rfl
def C.catnaplaw3_GraphNumbers_r12_b : List IOper := [
  ⟨some 44, .move (.slot 17), none, [], []⟩,
  ⟨some 45, .move (.slot 13), none, [], []⟩,
  ⟨some 46, .move (.slot 16), none, [], []⟩,
  ⟨some 47, .idxAddr 1 (.slot 45) (.slot 46), none, [], []⟩,
  ⟨some 48, .load1 (.slot 47), none, [], []⟩,
  ⟨some 49, .len (.slot 48), none, [], []⟩,
  ⟨some 50, .bin .lss (.slot 44) (.slot 49), none, [], []⟩]
def C.catnaplaw3_GraphNumbers_r12 : List IOper := C.catnaplaw3_GraphNumbers_r12_b
theorem C.catnaplaw3_GraphNumbers_r12_w {k : AFr → ASt → Prop} : aops P C.catnaplaw3_GraphNumbers_r12 k fr st = aops P C.catnaplaw3_GraphNumbers_r12_b k fr st := rfl
def C.catnaplaw3_GraphNumbers_l23 : ICode := .keep [4, 12, 13, 14, 15, 16, 17] (.seq (.seq (.region C.catnaplaw3_GraphNumbers_r12) C.catnaplaw3_GraphNumbers_c22) C.catnaplaw3_GraphNumbers_c21)
theorem C.catnaplaw3_GraphNumbers_l23_w : awp P C.catnaplaw3_GraphNumbers_l23 Q fr st = awp P (.keep [4, 12, 13, 14, 15, 16, 17] (.seq (.seq (.region C.catnaplaw3_GraphNumbers_r12) C.catnaplaw3_GraphNumbers_c22) C.catnaplaw3_GraphNumbers_c21)) Q fr st := rfl
def C.catnaplaw3_GraphNumbers_b24 : ICode := .loop C.catnaplaw3_GraphNumbers_l23
theorem C.catnaplaw3_GraphNumbers_b24_w : awp P C.catnaplaw3_GraphNumbers_b24 Q fr st = awp P (.loop C.catnaplaw3_GraphNumbers_l23) Q fr st := rfl
def C.catnaplaw3_GraphNumbers_c25 : ICode := .keep [4, 12, 13, 14, 15, 16, 17] (.block 2 C.catnaplaw3_GraphNumbers_b24)
theorem C.catnaplaw3_GraphNumbers_c25_w : awp P C.catnaplaw3_GraphNumbers_c25 Q fr st = awp P (.keep [4, 12, 13, 14, 15, 16, 17] (.block 2 C.catnaplaw3_GraphNumbers_b24)) Q fr st := rfl
def C.catnaplaw3_GraphNumbers_r11_b : List IOper := [
  ⟨some 17, .move (.cst (.int .i64 0)), none, [], []⟩]
def C.catnaplaw3_GraphNumbers_r11 : List IOper := C.catnaplaw3_GraphNumbers_r11_b
theorem C.catnaplaw3_GraphNumbers_r11_w {k : AFr → ASt → Prop} : aops P C.catnaplaw3_GraphNumbers_r11 k fr st = aops P C.catnaplaw3_GraphNumbers_r11_b k fr st := rfl
def C.catnaplaw3_GraphNumbers_b26 : ICode := .seq (.region C.catnaplaw3_GraphNumbers_r11) C.catnaplaw3_GraphNumbers_c25
theorem C.catnaplaw3_GraphNumbers_b26_w : awp P C.catnaplaw3_GraphNumbers_b26 Q fr st = awp P (.seq (.region C.catnaplaw3_GraphNumbers_r11) C.catnaplaw3_GraphNumbers_c25) Q fr st := rfl
def C.catnaplaw3_GraphNumbers_c27 : ICode := .keep [4, 12, 13, 14, 15, 16] (.seq (.block 1 C.catnaplaw3_GraphNumbers_b26) C.catnaplaw3_GraphNumbers_c18)
theorem C.catnaplaw3_GraphNumbers_c27_w : awp P C.catnaplaw3_GraphNumbers_c27 Q fr st = awp P (.keep [4, 12, 13, 14, 15, 16] (.seq (.block 1 C.catnaplaw3_GraphNumbers_b26) C.catnaplaw3_GraphNumbers_c18)) Q fr st := rfl
def C.catnaplaw3_GraphNumbers_c28 : ICode := .keep [4, 12, 13, 14, 15, 16, 41] (.cond (.slot 41) .skip (.exit 0))
theorem C.catnaplaw3_GraphNumbers_c28_w : awp P C.catnaplaw3_GraphNumbers_c28 Q fr st = awp P (.keep [4, 12, 13, 14, 15, 16, 41] (.cond (.slot 41) .skip (.exit 0))) Q fr st := rfl
def C.catnaplaw3_GraphNumbers_r9_b : List IOper := [
  ⟨some 39, .move (.slot 16), none, [], []⟩,
  ⟨some 40, .move (.slot 12), none, [], []⟩,
  ⟨some 41, .bin .lss (.slot 39) (.slot 40), none, [], []⟩]
def C.catnaplaw3_GraphNumbers_r9 : List IOper := C.catnaplaw3_GraphNumbers_r9_b
theorem C.catnaplaw3_GraphNumbers_r9_w {k : AFr → ASt → Prop} : aops P C.catnaplaw3_GraphNumbers_r9 k fr st = aops P C.catnaplaw3_GraphNumbers_r9_b k fr st := rfl
def C.catnaplaw3_GraphNumbers_l29 : ICode := .keep [4, 12, 13, 14, 15, 16] (.seq (.seq (.region C.catnaplaw3_GraphNumbers_r9) C.catnaplaw3_GraphNumbers_c28) C.catnaplaw3_GraphNumbers_c27)
theorem C.catnaplaw3_GraphNumbers_l29_w : awp P C.catnaplaw3_GraphNumbers_l29 Q fr st = awp P (.keep [4, 12, 13, 14, 15, 16] (.seq (.seq (.region C.catnaplaw3_GraphNumbers_r9) C.catnaplaw3_GraphNumbers_c28) C.catnaplaw3_GraphNumbers_c27)) Q fr st := rfl
def C.catnaplaw3_GraphNumbers_b30 : ICode := .loop C.catnaplaw3_GraphNumbers_l29
theorem C.catnaplaw3_GraphNumbers_b30_w : awp P C.catnaplaw3_GraphNumbers_b30 Q fr st = awp P (.loop C.catnaplaw3_GraphNumbers_l29) Q fr st := rfl
def C.catnaplaw3_GraphNumbers_c31 : ICode := .keep [4, 12, 13, 14, 15, 16] (.block 0 C.catnaplaw3_GraphNumbers_b30)
theorem C.catnaplaw3_GraphNumbers_c31_w : awp P C.catnaplaw3_GraphNumbers_c31 Q fr st = awp P (.keep [4, 12, 13, 14, 15, 16] (.block 0 C.catnaplaw3_GraphNumbers_b30)) Q fr st := rfl
def C.catnaplaw3_GraphNumbers_r8_b : List IOper := [
  ⟨some 16, .move (.cst (.int .i64 0)), none, [], []⟩]
def C.catnaplaw3_GraphNumbers_r8 : List IOper := C.catnaplaw3_GraphNumbers_r8_b
theorem C.catnaplaw3_GraphNumbers_r8_w {k : AFr → ASt → Prop} : aops P C.catnaplaw3_GraphNumbers_r8 k fr st = aops P C.catnaplaw3_GraphNumbers_r8_b k fr st := rfl
def C.catnaplaw3_GraphNumbers_c32 : ICode := .keep [4, 12, 13, 14, 15] (.seq (.seq (.region C.catnaplaw3_GraphNumbers_r8) C.catnaplaw3_GraphNumbers_c31) C.catnaplaw3_GraphNumbers_c17)
theorem C.catnaplaw3_GraphNumbers_c32_w : awp P C.catnaplaw3_GraphNumbers_c32 Q fr st = awp P (.keep [4, 12, 13, 14, 15] (.seq (.seq (.region C.catnaplaw3_GraphNumbers_r8) C.catnaplaw3_GraphNumbers_c31) C.catnaplaw3_GraphNumbers_c17)) Q fr st := rfl
def C.catnaplaw3_GraphNumbers_r7_b : List IOper := [
  ⟨some 37, .move (.slot 12), none, [], []⟩,
  ⟨some 38, .makeSlice 1 24 [.nils] (.slot 37) (.slot 37), none, [], []⟩,
  ⟨some 15, .move (.slot 38), none, [], []⟩]
def C.catnaplaw3_GraphNumbers_r7 : List IOper := C.catnaplaw3_GraphNumbers_r7_b
theorem C.catnaplaw3_GraphNumbers_r7_w {k : AFr → ASt → Prop} : aops P C.catnaplaw3_GraphNumbers_r7 k fr st = aops P C.catnaplaw3_GraphNumbers_r7_b k fr st := rfl
def C.catnaplaw3_GraphNumbers_c33 : ICode := .keep [4, 12, 13, 14] (.seq (.region C.catnaplaw3_GraphNumbers_r7) C.catnaplaw3_GraphNumbers_c32)
theorem C.catnaplaw3_GraphNumbers_c33_w : awp P C.catnaplaw3_GraphNumbers_c33 Q fr st = awp P (.keep [4, 12, 13, 14] (.seq (.region C.catnaplaw3_GraphNumbers_r7) C.catnaplaw3_GraphNumbers_c32)) Q fr st := rfl
def C.catnaplaw3_GraphNumbers_r6_b : List IOper := [
  ⟨some 34, .move (.slot 3), none, [], []⟩,
  ⟨some 35, .move (.slot 12), none, [], []⟩,
  ⟨some 36, .call F.catnaplaw3_pick [.slot 34, .slot 35], none, [], []⟩,
  ⟨some 14, .move (.slot 36), none, [], []⟩]
def C.catnaplaw3_GraphNumbers_r6 : List IOper := C.catnaplaw3_GraphNumbers_r6_b
theorem C.catnaplaw3_GraphNumbers_r6_w {k : AFr → ASt → Prop} : aops P C.catnaplaw3_GraphNumbers_r6 k fr st = aops P C.catnaplaw3_GraphNumbers_r6_b k fr st := rfl
def C.catnaplaw3_GraphNumbers_c34 : ICode := .keep [3, 4, 12, 13] (.seq (.region C.catnaplaw3_GraphNumbers_r6) C.catnaplaw3_GraphNumbers_c33)
theorem C.catnaplaw3_GraphNumbers_c34_w : awp P C.catnaplaw3_GraphNumbers_c34 Q fr st = awp P (.keep [3, 4, 12, 13] (.seq (.region C.catnaplaw3_GraphNumbers_r6) C.catnaplaw3_GraphNumbers_c33)) Q fr st := rfl
def C.catnaplaw3_GraphNumbers_r5_b : List IOper := [
  ⟨some 30, .move (.slot 12), none, [], []⟩,
  ⟨some 31, .move (.slot 1), none, [], []⟩,
  ⟨some 32, .move (.slot 2), none, [], []⟩,
  ⟨some 33, .call F.catnaplaw3_falling [.slot 30, .slot 31, .slot 32], none, [], []⟩,
  ⟨some 13, .move (.slot 33), none, [], []⟩]
def C.catnaplaw3_GraphNumbers_r5 : List IOper := C.catnaplaw3_GraphNumbers_r5_b
theorem C.catnaplaw3_GraphNumbers_r5_w {k : AFr → ASt → Prop} : aops P C.catnaplaw3_GraphNumbers_r5 k fr st = aops P C.catnaplaw3_GraphNumbers_r5_b k fr st := rfl
def C.catnaplaw3_GraphNumbers_c35 : ICode := .keep [1, 2, 3, 4, 12] (.seq (.region C.catnaplaw3_GraphNumbers_r5) C.catnaplaw3_GraphNumbers_c34)
theorem C.catnaplaw3_GraphNumbers_c35_w : awp P C.catnaplaw3_GraphNumbers_c35 Q fr st = awp P (.keep [1, 2, 3, 4, 12] (.seq (.region C.catnaplaw3_GraphNumbers_r5) C.catnaplaw3_GraphNumbers_c34)) Q fr st := rfl
def C.catnaplaw3_GraphNumbers_r4_b : List IOper := [
  ⟨some 27, .move (.slot 0), none, [], []⟩,
  ⟨some 28, .call F.catnaplaw3_pick [.slot 27, .cst (.int .i64 12)], none, [], []⟩,
  ⟨some 29, .bin .add (.cst (.int .i64 1)) (.slot 28), none, [], []⟩,
  ⟨some 12, .move (.slot 29), none, [], []⟩]
def C.catnaplaw3_GraphNumbers_r4 : List IOper := C.catnaplaw3_GraphNumbers_r4_b
theorem C.catnaplaw3_GraphNumbers_r4_w {k : AFr → ASt → Prop} : aops P C.catnaplaw3_GraphNumbers_r4 k fr st = aops P C.catnaplaw3_GraphNumbers_r4_b k fr st := rfl
def C.catnaplaw3_GraphNumbers_c36 : ICode := .keep [0, 1, 2, 3, 4] (.seq (.region C.catnaplaw3_GraphNumbers_r4) C.catnaplaw3_GraphNumbers_c35)
theorem C.catnaplaw3_GraphNumbers_c36_w : awp P C.catnaplaw3_GraphNumbers_c36 Q fr st = awp P (.keep [0, 1, 2, 3, 4] (.seq (.region C.catnaplaw3_GraphNumbers_r4) C.catnaplaw3_GraphNumbers_c35)) Q fr st := rfl
def C.catnaplaw3_GraphNumbers_r3_b : List IOper := [
  ⟨some 10, .move (.cst (.bool false)), none, [], []⟩]
def C.catnaplaw3_GraphNumbers_r3 : List IOper := C.catnaplaw3_GraphNumbers_r3_b
theorem C.catnaplaw3_GraphNumbers_r3_w {k : AFr → ASt → Prop} : aops P C.catnaplaw3_GraphNumbers_r3 k fr st = aops P C.catnaplaw3_GraphNumbers_r3_b k fr st := rfl
def C.catnaplaw3_GraphNumbers_c37 : ICode := .seq (.region C.catnaplaw3_GraphNumbers_r3) .ret
theorem C.catnaplaw3_GraphNumbers_c37_w : awp P C.catnaplaw3_GraphNumbers_c37 Q fr st = awp P (.seq (.region C.catnaplaw3_GraphNumbers_r3) .ret) Q fr st := rfl
def C.catnaplaw3_GraphNumbers_c38 : ICode := .keep [0, 1, 2, 3, 4, 26] (.cond (.slot 26) C.catnaplaw3_GraphNumbers_c37 .skip)
theorem C.catnaplaw3_GraphNumbers_c38_w : awp P C.catnaplaw3_GraphNumbers_c38 Q fr st = awp P (.keep [0, 1, 2, 3, 4, 26] (.cond (.slot 26) C.catnaplaw3_GraphNumbers_c37 .skip)) Q fr st := rfl
def C.catnaplaw3_GraphNumbers_r2_b : List IOper := [
  ⟨some 25, .move (.slot 11), none, [], []⟩,
  ⟨some 26, .un .not (.slot 25), none, [], []⟩]
def C.catnaplaw3_GraphNumbers_r2 : List IOper := C.catnaplaw3_GraphNumbers_r2_b
theorem C.catnaplaw3_GraphNumbers_r2_w {k : AFr → ASt → Prop} : aops P C.catnaplaw3_GraphNumbers_r2 k fr st = aops P C.catnaplaw3_GraphNumbers_r2_b k fr st := rfl
def C.catnaplaw3_GraphNumbers_c39 : ICode := .keep [0, 1, 2, 3, 4, 11] (.seq (.seq (.region C.catnaplaw3_GraphNumbers_r2) C.catnaplaw3_GraphNumbers_c38) C.catnaplaw3_GraphNumbers_c36)
theorem C.catnaplaw3_GraphNumbers_c39_w : awp P C.catnaplaw3_GraphNumbers_c39 Q fr st = awp P (.keep [0, 1, 2, 3, 4, 11] (.seq (.seq (.region C.catnaplaw3_GraphNumbers_r2) C.catnaplaw3_GraphNumbers_c38) C.catnaplaw3_GraphNumbers_c36)) Q fr st := rfl
def C.catnaplaw3_GraphNumbers_r1_b : List IOper := [
  ⟨some 24, .call F.catnaplaw3_shown [], none, [], []⟩,
  ⟨some 11, .move (.slot 24), none, [], []⟩]
def C.catnaplaw3_GraphNumbers_r1 : List IOper := C.catnaplaw3_GraphNumbers_r1_b
theorem C.catnaplaw3_GraphNumbers_r1_w {k : AFr → ASt → Prop} : aops P C.catnaplaw3_GraphNumbers_r1 k fr st = aops P C.catnaplaw3_GraphNumbers_r1_b k fr st := rfl
def C.catnaplaw3_GraphNumbers_c40 : ICode := .keep [0, 1, 2, 3, 4] (.seq (.region C.catnaplaw3_GraphNumbers_r1) C.catnaplaw3_GraphNumbers_c39)
theorem C.catnaplaw3_GraphNumbers_c40_w : awp P C.catnaplaw3_GraphNumbers_c40 Q fr st = awp P (.keep [0, 1, 2, 3, 4] (.seq (.region C.catnaplaw3_GraphNumbers_r1) C.catnaplaw3_GraphNumbers_c39)) Q fr st := rfl
def C.catnaplaw3_GraphNumbers_r0_b : List IOper := [
  ⟨some 10, .move (.cst (.bool false)), none, [], []⟩]
def C.catnaplaw3_GraphNumbers_r0 : List IOper := C.catnaplaw3_GraphNumbers_r0_b
theorem C.catnaplaw3_GraphNumbers_r0_w {k : AFr → ASt → Prop} : aops P C.catnaplaw3_GraphNumbers_r0 k fr st = aops P C.catnaplaw3_GraphNumbers_r0_b k fr st := rfl
def C.catnaplaw3_GraphNumbers : IFunc := ⟨5, [.slot 10], .seq (.region C.catnaplaw3_GraphNumbers_r0) C.catnaplaw3_GraphNumbers_c40⟩
def C.catnaplaw3_GraphNumbers_W := And.intro (And.intro (And.intro (And.intro (And.intro @C.catnaplaw3_GraphNumbers_r25_w (And.intro @C.catnaplaw3_GraphNumbers_c1_w @C.catnaplaw3_GraphNumbers_r22_w)) (And.intro (And.intro @C.catnaplaw3_GraphNumbers_c2_w @C.catnaplaw3_GraphNumbers_r24_w) (And.intro @C.catnaplaw3_GraphNumbers_c3_w @C.catnaplaw3_GraphNumbers_c4_w))) (And.intro (And.intro (And.intro @C.catnaplaw3_GraphNumbers_r23_w @C.catnaplaw3_GraphNumbers_b5_w) (And.intro @C.catnaplaw3_GraphNumbers_c6_w @C.catnaplaw3_GraphNumbers_c7_w)) (And.intro (And.intro @C.catnaplaw3_GraphNumbers_r21_w @C.catnaplaw3_GraphNumbers_b9_w) (And.intro @C.catnaplaw3_GraphNumbers_c10_w @C.catnaplaw3_GraphNumbers_r20_w)))) (And.intro (And.intro (And.intro (And.intro @C.catnaplaw3_GraphNumbers_c11_w @C.catnaplaw3_GraphNumbers_r19_w) (And.intro @C.catnaplaw3_GraphNumbers_c12_w @C.catnaplaw3_GraphNumbers_c13_w)) (And.intro (And.intro @C.catnaplaw3_GraphNumbers_r18_w @C.catnaplaw3_GraphNumbers_c14_w) (And.intro @C.catnaplaw3_GraphNumbers_r17_w @C.catnaplaw3_GraphNumbers_c15_w))) (And.intro (And.intro (And.intro @C.catnaplaw3_GraphNumbers_r16_w @C.catnaplaw3_GraphNumbers_c16_w) (And.intro @C.catnaplaw3_GraphNumbers_r15_w @C.catnaplaw3_GraphNumbers_c17_w)) (And.intro (And.intro @C.catnaplaw3_GraphNumbers_r10_w @C.catnaplaw3_GraphNumbers_c18_w) (And.intro @C.catnaplaw3_GraphNumbers_r13_w @C.catnaplaw3_GraphNumbers_c19_w))))) (And.intro (And.intro (And.intro (And.intro (And.intro @C.catnaplaw3_GraphNumbers_r14_w @C.catnaplaw3_GraphNumbers_b20_w) (And.intro @C.catnaplaw3_GraphNumbers_c21_w @C.catnaplaw3_GraphNumbers_c22_w)) (And.intro (And.intro @C.catnaplaw3_GraphNumbers_r12_w @C.catnaplaw3_GraphNumbers_b24_w) (And.intro @C.catnaplaw3_GraphNumbers_c25_w @C.catnaplaw3_GraphNumbers_r11_w))) (And.intro (And.intro (And.intro @C.catnaplaw3_GraphNumbers_b26_w @C.catnaplaw3_GraphNumbers_c27_w) (And.intro @C.catnaplaw3_GraphNumbers_c28_w @C.catnaplaw3_GraphNumbers_r9_w)) (And.intro (And.intro @C.catnaplaw3_GraphNumbers_b30_w @C.catnaplaw3_GraphNumbers_c31_w) (And.intro @C.catnaplaw3_GraphNumbers_r8_w @C.catnaplaw3_GraphNumbers_c32_w)))) (And.intro (And.intro (And.intro (And.intro @C.catnaplaw3_GraphNumbers_r7_w @C.catnaplaw3_GraphNumbers_c33_w) (And.intro @C.catnaplaw3_GraphNumbers_r6_w @C.catnaplaw3_GraphNumbers_c34_w)) (And.intro (And.intro @C.catnaplaw3_GraphNumbers_r5_w @C.catnaplaw3_GraphNumbers_c35_w) (And.intro @C.catnaplaw3_GraphNumbers_r4_w @C.catnaplaw3_GraphNumbers_c36_w))) (And.intro (And.intro (And.intro @C.catnaplaw3_GraphNumbers_r3_w @C.catnaplaw3_GraphNumbers_c37_w) (And.intro @C.catnaplaw3_GraphNumbers_c38_w @C.catnaplaw3_GraphNumbers_r2_w)) (And.intro (And.intro @C.catnaplaw3_GraphNumbers_c39_w @C.catnaplaw3_GraphNumbers_r1_w) (And.intro @C.catnaplaw3_GraphNumbers_c40_w @C.catnaplaw3_GraphNumbers_r0_w)))))
def C.catnaplaw3_GraphNumbers_B := And.intro (And.intro (And.intro (And.intro @C.catnaplaw3_GraphNumbers_r25_b.eq_1 (And.intro @C.catnaplaw3_GraphNumbers_r22_b.eq_1 @C.catnaplaw3_GraphNumbers_r24_b.eq_1)) (And.intro @C.catnaplaw3_GraphNumbers_r23_b.eq_1 (And.intro @C.catnaplaw3_GraphNumbers_r21_b.eq_1 @C.catnaplaw3_GraphNumbers_r20_b.eq_1))) (And.intro (And.intro @C.catnaplaw3_GraphNumbers_r19_b.eq_1 (And.intro @C.catnaplaw3_GraphNumbers_r18_b.eq_1 @C.catnaplaw3_GraphNumbers_r17_b.eq_1)) (And.intro (And.intro @C.catnaplaw3_GraphNumbers_r16_b.eq_1 @C.catnaplaw3_GraphNumbers_r15_b.eq_1) (And.intro @C.catnaplaw3_GraphNumbers_r10_b.eq_1 @C.catnaplaw3_GraphNumbers_r13_b.eq_1)))) (And.intro (And.intro (And.intro @C.catnaplaw3_GraphNumbers_r14_b.eq_1 (And.intro @C.catnaplaw3_GraphNumbers_r12_b.eq_1 @C.catnaplaw3_GraphNumbers_r11_b.eq_1)) (And.intro @C.catnaplaw3_GraphNumbers_r9_b.eq_1 (And.intro @C.catnaplaw3_GraphNumbers_r8_b.eq_1 @C.catnaplaw3_GraphNumbers_r7_b.eq_1))) (And.intro (And.intro @C.catnaplaw3_GraphNumbers_r6_b.eq_1 (And.intro @C.catnaplaw3_GraphNumbers_r5_b.eq_1 @C.catnaplaw3_GraphNumbers_r4_b.eq_1)) (And.intro (And.intro @C.catnaplaw3_GraphNumbers_r3_b.eq_1 @C.catnaplaw3_GraphNumbers_r2_b.eq_1) (And.intro @C.catnaplaw3_GraphNumbers_r1_b.eq_1 @C.catnaplaw3_GraphNumbers_r0_b.eq_1))))

def C.catnaplaw3_GraphChains_r31_b : List IOper := [
  ⟨some 4, .move (.cst (.bool true)), none, [], []⟩]
def C.catnaplaw3_GraphChains_r31 : List IOper := C.catnaplaw3_GraphChains_r31_b
theorem C.catnaplaw3_GraphChains_r31_w {k : AFr → ASt → Prop} : aops P C.catnaplaw3_GraphChains_r31 k fr st = aops P C.catnaplaw3_GraphChains_r31_b k fr st := rfl
def C.catnaplaw3_GraphChains_c1 : ICode := .keep [] (.seq (.region C.catnaplaw3_GraphChains_r31) .ret)
theorem C.catnaplaw3_GraphChains_c1_w : awp P C.catnaplaw3_GraphChains_c1 Q fr st = awp P (.keep [] (.seq (.region C.catnaplaw3_GraphChains_r31) .ret)) Q fr st := rfl
def C.catnaplaw3_GraphChains_r28_b : List IOper := [
  ⟨some 123, .move (.slot 18), none, [], []⟩,
  ⟨some 124, .bin .add (.slot 123) (.cst (.int .i64 1)), none, [], []⟩,
  ⟨some 18, .move (.slot 124), none, [], []⟩]
def C.catnaplaw3_GraphChains_r28 : List IOper := C.catnaplaw3_GraphChains_r28_b
theorem C.catnaplaw3_GraphChains_r28_w {k : AFr → ASt → Prop} : aops P C.catnaplaw3_GraphChains_r28 k fr st = aops P C.catnaplaw3_GraphChains_r28_b k fr st := rfl
def C.catnaplaw3_GraphChains_c2 : ICode := .keep [9, 14, 18] (.region C.catnaplaw3_GraphChains_r28)
theorem C.catnaplaw3_GraphChains_c2_w : awp P C.catnaplaw3_GraphChains_c2 Q fr st = awp P (.keep [9, 14, 18] (.region C.catnaplaw3_GraphChains_r28)) Q fr st := rfl
def C.catnaplaw3_GraphChains_r30_b : List IOper := [
  ⟨some 4, .move (.cst (.bool false)), none, [], []⟩]
def C.catnaplaw3_GraphChains_r30 : List IOper := C.catnaplaw3_GraphChains_r30_b
theorem C.catnaplaw3_GraphChains_r30_w {k : AFr → ASt → Prop} : aops P C.catnaplaw3_GraphChains_r30 k fr st = aops P C.catnaplaw3_GraphChains_r30_b k fr st := rfl
def C.catnaplaw3_GraphChains_c3 : ICode := .seq (.region C.catnaplaw3_GraphChains_r30) .ret
theorem C.catnaplaw3_GraphChains_c3_w : awp P C.catnaplaw3_GraphChains_c3 Q fr st = awp P (.seq (.region C.catnaplaw3_GraphChains_r30) .ret) Q fr st := rfl
def C.catnaplaw3_GraphChains_c4 : ICode := .keep [9, 14, 18, 133] (.cond (.slot 133) C.catnaplaw3_GraphChains_c3 .skip)
theorem C.catnaplaw3_GraphChains_c4_w : awp P C.catnaplaw3_GraphChains_c4 Q fr st = awp P (.keep [9, 14, 18, 133] (.cond (.slot 133) C.catnaplaw3_GraphChains_c3 .skip)) Q fr st := rfl
def C.catnaplaw3_GraphChains_r29_b : List IOper := [
  ⟨some 125, .move (.slot 14), none, [], []⟩,
  ⟨some 126, .move (.slot 18), none, [], []⟩,
  ⟨some 127, .idxAddr 1 (.slot 125) (.slot 126), none, [], []⟩,
  ⟨some 128, .load1 (.slot 127), none, [], []⟩,
  ⟨some 129, .move (.slot 9), none, [], []⟩,
  ⟨some 130, .bin .sub (.slot 129) (.cst (.int .i64 1)), none, [], []⟩,
  ⟨some 131, .move (.slot 18), none, [], []⟩,
  ⟨some 132, .bin .sub (.slot 130) (.slot 131), none, [], []⟩,
  ⟨some 133, .bin .neq (.slot 128) (.slot 132), none, [], []⟩]
def C.catnaplaw3_GraphChains_r29 : List IOper := C.catnaplaw3_GraphChains_r29_b
theorem C.catnaplaw3_GraphChains_r29_w {k : AFr → ASt → Prop} : aops P C.catnaplaw3_GraphChains_r29 k fr st = aops P C.catnaplaw3_GraphChains_r29_b k fr st := rfl
def C.catnaplaw3_GraphChains_b5 : ICode := .seq (.region C.catnaplaw3_GraphChains_r29) C.catnaplaw3_GraphChains_c4
theorem C.catnaplaw3_GraphChains_b5_w : awp P C.catnaplaw3_GraphChains_b5 Q fr st = awp P (.seq (.region C.catnaplaw3_GraphChains_r29) C.catnaplaw3_GraphChains_c4) Q fr st := rfl
def C.catnaplaw3_GraphChains_c6 : ICode := .keep [9, 14, 18] (.seq (.block 7 C.catnaplaw3_GraphChains_b5) C.catnaplaw3_GraphChains_c2)
theorem C.catnaplaw3_GraphChains_c6_w : awp P C.catnaplaw3_GraphChains_c6 Q fr st = awp P (.keep [9, 14, 18] (.seq (.block 7 C.catnaplaw3_GraphChains_b5) C.catnaplaw3_GraphChains_c2)) Q fr st := rfl
def C.catnaplaw3_GraphChains_c7 : ICode := .keep [9, 14, 18, 122] (.cond (.slot 122) .skip (.exit 6))
theorem C.catnaplaw3_GraphChains_c7_w : awp P C.catnaplaw3_GraphChains_c7 Q fr st = awp P (.keep [9, 14, 18, 122] (.cond (.slot 122) .skip (.exit 6))) Q fr st := rfl
def C.catnaplaw3_GraphChains_r27_b : List IOper := [
  ⟨some 119, .move (.slot 18), none, [], []⟩,
  ⟨some 120, .move (.slot 14), none, [], []⟩,
  ⟨some 121, .len (.slot 120), none, [], []⟩,
  ⟨some 122, .bin .lss (.slot 119) (.slot 121), none, [], []⟩]
def C.catnaplaw3_GraphChains_r27 : List IOper := C.catnaplaw3_GraphChains_r27_b
theorem C.catnaplaw3_GraphChains_r27_w {k : AFr → ASt → Prop} : aops P C.catnaplaw3_GraphChains_r27 k fr st = aops P C.catnaplaw3_GraphChains_r27_b k fr st := rfl
def C.catnaplaw3_GraphChains_l8 : ICode := .keep [9, 14, 18] (.seq (.seq (.region C.catnaplaw3_GraphChains_r27) C.catnaplaw3_GraphChains_c7) C.catnaplaw3_GraphChains_c6)
theorem C.catnaplaw3_GraphChains_l8_w : awp P C.catnaplaw3_GraphChains_l8 Q fr st = awp P (.keep [9, 14, 18] (.seq (.seq (.region C.catnaplaw3_GraphChains_r27) C.catnaplaw3_GraphChains_c7) C.catnaplaw3_GraphChains_c6)) Q fr st := rfl
def C.catnaplaw3_GraphChains_b9 : ICode := .loop C.catnaplaw3_GraphChains_l8
theorem C.catnaplaw3_GraphChains_b9_w : awp P C.catnaplaw3_GraphChains_b9 Q fr st = awp P (.loop C.catnaplaw3_GraphChains_l8) Q fr st := rfl
def C.catnaplaw3_GraphChains_c10 : ICode := .keep [9, 14, 18] (.block 6 C.catnaplaw3_GraphChains_b9)
theorem C.catnaplaw3_GraphChains_c10_w : awp P C.catnaplaw3_GraphChains_c10 Q fr st = awp P (.keep [9, 14, 18] (.block 6 C.catnaplaw3_GraphChains_b9)) Q fr st := rfl
def C.catnaplaw3_GraphChains_r26_b : List IOper := [
  ⟨some 18, .move (.cst (.int .i64 0)), none, [], []⟩]
def C.catnaplaw3_GraphChains_r26 : List IOper := C.catnaplaw3_GraphChains_r26_b
theorem C.catnaplaw3_GraphChains_r26_w {k : AFr → ASt → Prop} : aops P C.catnaplaw3_GraphChains_r26 k fr st = aops P C.catnaplaw3_GraphChains_r26_b k fr st := rfl
def C.catnaplaw3_GraphChains_c11 : ICode := .keep [9, 14] (.seq (.seq (.region C.catnaplaw3_GraphChains_r26) C.catnaplaw3_GraphChains_c10) C.catnaplaw3_GraphChains_c1)
theorem C.catnaplaw3_GraphChains_c11_w : awp P C.catnaplaw3_GraphChains_c11 Q fr st = awp P (.keep [9, 14] (.seq (.seq (.region C.catnaplaw3_GraphChains_r26) C.catnaplaw3_GraphChains_c10) C.catnaplaw3_GraphChains_c1)) Q fr st := rfl
def C.catnaplaw3_GraphChains_r23_b : List IOper := [
  ⟨some 108, .move (.slot 17), none, [], []⟩,
  ⟨some 109, .bin .add (.slot 108) (.cst (.int .i64 1)), none, [], []⟩,
  ⟨some 17, .move (.slot 109), none, [], []⟩]
def C.catnaplaw3_GraphChains_r23 : List IOper := C.catnaplaw3_GraphChains_r23_b
theorem C.catnaplaw3_GraphChains_r23_w {k : AFr → ASt → Prop} : aops P C.catnaplaw3_GraphChains_r23 k fr st = aops P C.catnaplaw3_GraphChains_r23_b k fr st := rfl
def C.catnaplaw3_GraphChains_c12 : ICode := .keep [6, 9, 12, 14, 17] (.region C.catnaplaw3_GraphChains_r23)
theorem C.catnaplaw3_GraphChains_c12_w : awp P C.catnaplaw3_GraphChains_c12 Q fr st = awp P (.keep [6, 9, 12, 14, 17] (.region C.catnaplaw3_GraphChains_r23)) Q fr st := rfl
def C.catnaplaw3_GraphChains_r25_b : List IOper := [
  ⟨some 4, .move (.cst (.bool false)), none, [], []⟩]
def C.catnaplaw3_GraphChains_r25 : List IOper := C.catnaplaw3_GraphChains_r25_b
theorem C.catnaplaw3_GraphChains_r25_w {k : AFr → ASt → Prop} : aops P C.catnaplaw3_GraphChains_r25 k fr st = aops P C.catnaplaw3_GraphChains_r25_b k fr st := rfl
def C.catnaplaw3_GraphChains_c13 : ICode := .seq (.region C.catnaplaw3_GraphChains_r25) .ret
theorem C.catnaplaw3_GraphChains_c13_w : awp P C.catnaplaw3_GraphChains_c13 Q fr st = awp P (.seq (.region C.catnaplaw3_GraphChains_r25) .ret) Q fr st := rfl
def C.catnaplaw3_GraphChains_c14 : ICode := .keep [6, 9, 12, 14, 17, 118] (.cond (.slot 118) C.catnaplaw3_GraphChains_c13 .skip)
theorem C.catnaplaw3_GraphChains_c14_w : awp P C.catnaplaw3_GraphChains_c14 Q fr st = awp P (.keep [6, 9, 12, 14, 17, 118] (.cond (.slot 118) C.catnaplaw3_GraphChains_c13 .skip)) Q fr st := rfl
def C.catnaplaw3_GraphChains_r24_b : List IOper := [
  ⟨some 110, .move (.slot 12), none, [], []⟩,
  ⟨some 111, .move (.slot 17), none, [], []⟩,
  ⟨some 112, .idxAddr 1 (.slot 110) (.slot 111), none, [], []⟩,
  ⟨some 113, .load1 (.slot 112), none, [], []⟩,
  ⟨some 114, .move (.slot 6), none, [], []⟩,
  ⟨some 115, .bin .sub (.slot 114) (.cst (.int .i64 1)), none, [], []⟩,
  ⟨some 116, .move (.slot 17), none, [], []⟩,
  ⟨some 117, .bin .sub (.slot 115) (.slot 116), none, [], []⟩,
  ⟨some 118, .bin .neq (.slot 113) (.slot 117), none, [], []⟩]
def C.catnaplaw3_GraphChains_r24 : List IOper := C.catnaplaw3_GraphChains_r24_b
theorem C.catnaplaw3_GraphChains_r24_w {k : AFr → ASt → Prop} : aops P C.catnaplaw3_GraphChains_r24 k fr st = aops P C.catnaplaw3_GraphChains_r24_b k fr st := rfl
def C.catnaplaw3_GraphChains_b15 : ICode := .seq (.region C.catnaplaw3_GraphChains_r24) C.catnaplaw3_GraphChains_c14
theorem C.catnaplaw3_GraphChains_b15_w : awp P C.catnaplaw3_GraphChains_b15 Q fr st = awp P (.seq (.region C.catnaplaw3_GraphChains_r24) C.catnaplaw3_GraphChains_c14) Q fr st := rfl
def C.catnaplaw3_GraphChains_c16 : ICode := .keep [6, 9, 12, 14, 17] (.seq (.block 5 C.catnaplaw3_GraphChains_b15) C.catnaplaw3_GraphChains_c12)
theorem C.catnaplaw3_GraphChains_c16_w : awp P C.catnaplaw3_GraphChains_c16 Q fr st = awp P (.keep [6, 9, 12, 14, 17] (.seq (.block 5 C.catnaplaw3_GraphChains_b15) C.catnaplaw3_GraphChains_c12)) Q fr st := rfl
def C.catnaplaw3_GraphChains_c17 : ICode := .keep [6, 9, 12, 14, 17, 107] (.cond (.slot 107) .skip (.exit 4))
theorem C.catnaplaw3_GraphChains_c17_w : awp P C.catnaplaw3_GraphChains_c17 Q fr st = awp P (.keep [6, 9, 12, 14, 17, 107] (.cond (.slot 107) .skip (.exit 4))) Q fr st := rfl
def C.catnaplaw3_GraphChains_r22_b : List IOper := [
  ⟨some 104, .move (.slot 17), none, [], []⟩,
  ⟨some 105, .move (.slot 12), none, [], []⟩,
  ⟨some 106, .len (.slot 105), none, [], []⟩,
  ⟨some 107, .bin .lss (.slot 104) (.slot 106), none, [], []⟩]
def C.catnaplaw3_GraphChains_r22 : List IOper := C.catnaplaw3_GraphChains_r22_b
theorem C.catnaplaw3_GraphChains_r22_w {k : AFr → ASt → Prop} : aops P C.catnaplaw3_GraphChains_r22 k fr st = aops P C.catnaplaw3_GraphChains_r22_b k fr st := rfl
def C.catnaplaw3_GraphChains_l18 : ICode := .keep [6, 9, 12, 14, 17] (.seq (.seq (.region C.catnaplaw3_GraphChains_r22) C.catnaplaw3_GraphChains_c17) C.catnaplaw3_GraphChains_c16)
theorem C.catnaplaw3_GraphChains_l18_w : awp P C.catnaplaw3_GraphChains_l18 Q fr st = awp P (.keep [6, 9, 12, 14, 17] (.seq (.seq (.region C.catnaplaw3_GraphChains_r22) C.catnaplaw3_GraphChains_c17) C.catnaplaw3_GraphChains_c16)) Q fr st := rfl
def C.catnaplaw3_GraphChains_b19 : ICode := .loop C.catnaplaw3_GraphChains_l18
theorem C.catnaplaw3_GraphChains_b19_w : awp P C.catnaplaw3_GraphChains_b19 Q fr st = awp P (.loop C.catnaplaw3_GraphChains_l18) Q fr st := rfl
def C.catnaplaw3_GraphChains_c20 : ICode := .keep [6, 9, 12, 14, 17] (.block 4 C.catnaplaw3_GraphChains_b19)
theorem C.catnaplaw3_GraphChains_c20_w : awp P C.catnaplaw3_GraphChains_c20 Q fr st = awp P (.keep [6, 9, 12, 14, 17] (.block 4 C.catnaplaw3_GraphChains_b19)) Q fr st := rfl
def C.catnaplaw3_GraphChains_r21_b : List IOper := [
  ⟨some 17, .move (.cst (.int .i64 0)), none, [], []⟩]
def C.catnaplaw3_GraphChains_r21 : List IOper := C.catnaplaw3_GraphChains_r21_b
theorem C.catnaplaw3_GraphChains_r21_w {k : AFr → ASt → Prop} : aops P C.catnaplaw3_GraphChains_r21 k fr st = aops P C.catnaplaw3_GraphChains_r21_b k fr st := rfl
def C.catnaplaw3_GraphChains_c21 : ICode := .keep [6, 9, 12, 14] (.seq (.seq (.region C.catnaplaw3_GraphChains_r21) C.catnaplaw3_GraphChains_c20) C.catnaplaw3_GraphChains_c11)
theorem C.catnaplaw3_GraphChains_c21_w : awp P C.catnaplaw3_GraphChains_c21 Q fr st = awp P (.keep [6, 9, 12, 14] (.seq (.seq (.region C.catnaplaw3_GraphChains_r21) C.catnaplaw3_GraphChains_c20) C.catnaplaw3_GraphChains_c11)) Q fr st := rfl
def C.catnaplaw3_GraphChains_r18_b : List IOper := [
  ⟨some 93, .move (.slot 16), none, [], []⟩,
  ⟨some 94, .bin .add (.slot 93) (.cst (.int .i64 1)), none, [], []⟩,
  ⟨some 16, .move (.slot 94), none, [], []⟩]
def C.catnaplaw3_GraphChains_r18 : List IOper := C.catnaplaw3_GraphChains_r18_b
theorem C.catnaplaw3_GraphChains_r18_w {k : AFr → ASt → Prop} : aops P C.catnaplaw3_GraphChains_r18 k fr st = aops P C.catnaplaw3_GraphChains_r18_b k fr st := rfl
def C.catnaplaw3_GraphChains_c22 : ICode := .keep [6, 9, 10, 12, 14, 16] (.region C.catnaplaw3_GraphChains_r18)
theorem C.catnaplaw3_GraphChains_c22_w : awp P C.catnaplaw3_GraphChains_c22 Q fr st = awp P (.keep [6, 9, 10, 12, 14, 16] (.region C.catnaplaw3_GraphChains_r18)) Q fr st := rfl
def C.catnaplaw3_GraphChains_r20_b : List IOper := [
  ⟨some 4, .move (.cst (.bool false)), none, [], []⟩]
def C.catnaplaw3_GraphChains_r20 : List IOper := C.catnaplaw3_GraphChains_r20_b
theorem C.catnaplaw3_GraphChains_r20_w {k : AFr → ASt → Prop} : aops P C.catnaplaw3_GraphChains_r20 k fr st = aops P C.catnaplaw3_GraphChains_r20_b k fr st := rfl
def C.catnaplaw3_GraphChains_c23 : ICode := .seq (.region C.catnaplaw3_GraphChains_r20) .ret
theorem C.catnaplaw3_GraphChains_c23_w : awp P C.catnaplaw3_GraphChains_c23 Q fr st = awp P (.seq (.region C.catnaplaw3_GraphChains_r20) .ret) Q fr st := rfl
def C.catnaplaw3_GraphChains_c24 : ICode := .keep [6, 9, 10, 12, 14, 16, 103] (.cond (.slot 103) C.catnaplaw3_GraphChains_c23 .skip)
theorem C.catnaplaw3_GraphChains_c24_w : awp P C.catnaplaw3_GraphChains_c24 Q fr st = awp P (.keep [6, 9, 10, 12, 14, 16, 103] (.cond (.slot 103) C.catnaplaw3_GraphChains_c23 .skip)) Q fr st := rfl
def C.catnaplaw3_GraphChains_r19_b : List IOper := [
  ⟨some 95, .move (.slot 10), none, [], []⟩,
  ⟨some 96, .move (.slot 16), none, [], []⟩,
  ⟨some 97, .idxAddr 1 (.slot 95) (.slot 96), none, [], []⟩,
  ⟨some 98, .load1 (.slot 97), none, [], []⟩,
  ⟨some 99, .move (.slot 6), none, [], []⟩,
  ⟨some 100, .bin .sub (.slot 99) (.cst (.int .i64 1)), none, [], []⟩,
  ⟨some 101, .move (.slot 16), none, [], []⟩,
  ⟨some 102, .bin .sub (.slot 100) (.slot 101), none, [], []⟩,
  ⟨some 103, .bin .neq (.slot 98) (.slot 102), none, [], []⟩]
def C.catnaplaw3_GraphChains_r19 : List IOper := C.catnaplaw3_GraphChains_r19_b
theorem C.catnaplaw3_GraphChains_r19_w {k : AFr → ASt → Prop} : aops P C.catnaplaw3_GraphChains_r19 k fr st = aops P C.catnaplaw3_GraphChains_r19_b k fr st := rfl
def C.catnaplaw3_GraphChains_b25 : ICode := .seq (.region C.catnaplaw3_GraphChains_r19) C.catnaplaw3_GraphChains_c24
theorem C.catnaplaw3_GraphChains_b25_w : awp P C.catnaplaw3_GraphChains_b25 Q fr st = awp P (.seq (.region C.catnaplaw3_GraphChains_r19) C.catnaplaw3_GraphChains_c24) Q fr st := rfl
def C.catnaplaw3_GraphChains_c26 : ICode := .keep [6, 9, 10, 12, 14, 16] (.seq (.block 3 C.catnaplaw3_GraphChains_b25) C.catnaplaw3_GraphChains_c22)
theorem C.catnaplaw3_GraphChains_c26_w : awp P C.catnaplaw3_GraphChains_c26 Q fr st = awp P (.keep [6, 9, 10, 12, 14, 16] (.seq (.block 3 C.catnaplaw3_GraphChains_b25) C.catnaplaw3_GraphChains_c22)) Q fr st := rfl
def C.catnaplaw3_GraphChains_c27 : ICode := .keep [6, 9, 10, 12, 14, 16, 92] (.cond (.slot 92) .skip (.exit 2))
theorem C.catnaplaw3_GraphChains_c27_w : awp P C.catnaplaw3_GraphChains_c27 Q fr st = awp P (.keep [6, 9, 10, 12, 14, 16, 92] (.cond (.slot 92) .skip (.exit 2))) Q fr st := rfl
def C.catnaplaw3_GraphChains_r17_b : List IOper := [
  ⟨some 90, .move (.slot 16), none, [], []⟩,
  ⟨some 91, .move (.slot 6), none, [], []⟩,
  ⟨some 92, .bin .lss (.slot 90) (.slot 91), none, [], []⟩]
def C.catnaplaw3_GraphChains_r17 : List IOper := C.catnaplaw3_GraphChains_r17_b
theorem C.catnaplaw3_GraphChains_r17_w {k : AFr → ASt → Prop} : aops P C.catnaplaw3_GraphChains_r17 k fr st = aops P C.catnaplaw3_GraphChains_r17_b k fr st := rfl
def C.catnaplaw3_GraphChains_l28 : ICode := .keep [6, 9, 10, 12, 14, 16] (.seq (.seq (.region C.catnaplaw3_GraphChains_r17) C.catnaplaw3_GraphChains_c27) C.catnaplaw3_GraphChains_c26)
theorem C.catnaplaw3_GraphChains_l28_w : awp P C.catnaplaw3_GraphChains_l28 Q fr st = awp P (.keep [6, 9, 10, 12, 14, 16] (.seq (.seq (.region C.catnaplaw3_GraphChains_r17) C.catnaplaw3_GraphChains_c27) C.catnaplaw3_GraphChains_c26)) Q fr st := rfl
def C.catnaplaw3_GraphChains_b29 : ICode := .loop C.catnaplaw3_GraphChains_l28
theorem C.catnaplaw3_GraphChains_b29_w : awp P C.catnaplaw3_GraphChains_b29 Q fr st = awp P (.loop C.catnaplaw3_GraphChains_l28) Q fr st := rfl
def C.catnaplaw3_GraphChains_c30 : ICode := .keep [6, 9, 10, 12, 14, 16] (.block 2 C.catnaplaw3_GraphChains_b29)
theorem C.catnaplaw3_GraphChains_c30_w : awp P C.catnaplaw3_GraphChains_c30 Q fr st = awp P (.keep [6, 9, 10, 12, 14, 16] (.block 2 C.catnaplaw3_GraphChains_b29)) Q fr st := rfl
def C.catnaplaw3_GraphChains_r16_b : List IOper := [
  ⟨some 16, .move (.cst (.int .i64 0)), none, [], []⟩]
def C.catnaplaw3_GraphChains_r16 : List IOper := C.catnaplaw3_GraphChains_r16_b
theorem C.catnaplaw3_GraphChains_r16_w {k : AFr → ASt → Prop} : aops P C.catnaplaw3_GraphChains_r16 k fr st = aops P C.catnaplaw3_GraphChains_r16_b k fr st := rfl
def C.catnaplaw3_GraphChains_c31 : ICode := .keep [6, 9, 10, 12, 14] (.seq (.seq (.region C.catnaplaw3_GraphChains_r16) C.catnaplaw3_GraphChains_c30) C.catnaplaw3_GraphChains_c21)
theorem C.catnaplaw3_GraphChains_c31_w : awp P C.catnaplaw3_GraphChains_c31 Q fr st = awp P (.keep [6, 9, 10, 12, 14] (.seq (.seq (.region C.catnaplaw3_GraphChains_r16) C.catnaplaw3_GraphChains_c30) C.catnaplaw3_GraphChains_c21)) Q fr st := rfl
def C.catnaplaw3_GraphChains_r15_b : List IOper := [
  ⟨some 4, .move (.cst (.bool false)), none, [], []⟩]
def C.catnaplaw3_GraphChains_r15 : List IOper := C.catnaplaw3_GraphChains_r15_b
theorem C.catnaplaw3_GraphChains_r15_w {k : AFr → ASt → Prop} : aops P C.catnaplaw3_GraphChains_r15 k fr st = aops P C.catnaplaw3_GraphChains_r15_b k fr st := rfl
def C.catnaplaw3_GraphChains_c32 : ICode := .seq (.region C.catnaplaw3_GraphChains_r15) .ret
theorem C.catnaplaw3_GraphChains_c32_w : awp P C.catnaplaw3_GraphChains_c32 Q fr st = awp P (.seq (.region C.catnaplaw3_GraphChains_r15) .ret) Q fr st := rfl
def C.catnaplaw3_GraphChains_c33 : ICode := .keep [6, 9, 10, 12, 14, 89] (.cond (.slot 89) C.catnaplaw3_GraphChains_c32 .skip)
theorem C.catnaplaw3_GraphChains_c33_w : awp P C.catnaplaw3_GraphChains_c33 Q fr st = awp P (.keep [6, 9, 10, 12, 14, 89] (.cond (.slot 89) C.catnaplaw3_GraphChains_c32 .skip)) Q fr st := rfl
def C.catnaplaw3_GraphChains_r14_b : List IOper := [
  ⟨some 59, .move (.slot 11), none, [], []⟩,
  ⟨some 60, .bin .neq (.slot 59) (.cst (.int .i64 0)), none, [], []⟩,
  ⟨some 61, .move (.slot 60), none, [], []⟩,
  ⟨some 62, .move (.slot 13), some (61, false), [], []⟩,
  ⟨some 63, .bin .neq (.slot 62) (.cst (.int .i64 0)), some (61, false), [], []⟩,
  ⟨some 64, .pick (.slot 61) (.cst (.bool true)) (.slot 63), none, [], []⟩,
  ⟨some 65, .move (.slot 64), none, [], []⟩,
  ⟨some 66, .move (.slot 15), some (65, false), [], []⟩,
  ⟨some 67, .bin .neq (.slot 66) (.cst (.int .i64 0)), some (65, false), [], []⟩,
  ⟨some 68, .pick (.slot 65) (.cst (.bool true)) (.slot 67), none, [], []⟩,
  ⟨some 69, .move (.slot 68), none, [], []⟩,
  ⟨some 70, .move (.slot 10), some (69, false), [], []⟩,
  ⟨some 71, .len (.slot 70), some (69, false), [], []⟩,
  ⟨some 72, .move (.slot 6), some (69, false), [], []⟩,
  ⟨some 73, .bin .neq (.slot 71) (.slot 72), some (69, false), [], []⟩,
  ⟨some 74, .pick (.slot 69) (.cst (.bool true)) (.slot 73), none, [], []⟩,
  ⟨some 75, .move (.slot 74), none, [], []⟩,
  ⟨some 76, .move (.slot 12), some (75, false), [], []⟩,
  ⟨some 77, .len (.slot 76), some (75, false), [], []⟩,
  ⟨some 78, .move (.slot 6), some (75, false), [], []⟩,
  ⟨some 79, .bin .sub (.slot 78) (.cst (.int .i64 1)), some (75, false), [], []⟩,
  ⟨some 80, .move (.slot 9), some (75, false), [], []⟩,
  ⟨some 81, .bin .sub (.slot 79) (.slot 80), some (75, false), [], []⟩,
  ⟨some 82, .bin .neq (.slot 77) (.slot 81), some (75, false), [], []⟩,
  ⟨some 83, .pick (.slot 75) (.cst (.bool true)) (.slot 82), none, [], []⟩,
  ⟨some 84, .move (.slot 83), none, [], []⟩,
  ⟨some 85, .move (.slot 14), some (84, false), [], []⟩,
  ⟨some 86, .len (.slot 85), some (84, false), [], []⟩,
  ⟨some 87, .move (.slot 9), some (84, false), [], []⟩,
  ⟨some 88, .bin .neq (.slot 86) (.slot 87), some (84, false), [], []⟩,
  ⟨some 89, .pick (.slot 84) (.cst (.bool true)) (.slot 88), none, [], []⟩]
def C.catnaplaw3_GraphChains_r14 : List IOper := C.catnaplaw3_GraphChains_r14_b
theorem C.catnaplaw3_GraphChains_r14_w {k : AFr → ASt → Prop} : aops P C.catnaplaw3_GraphChains_r14 k fr st = aops P C.catnaplaw3_GraphChains_r14_b k fr st := rfl
def C.catnaplaw3_GraphChains_c34 : ICode := .keep [6, 9, 10, 11, 12, 13, 14, 15] (.seq (.seq (.region C.catnaplaw3_GraphChains_r14) C.catnaplaw3_GraphChains_c33) C.catnaplaw3_GraphChains_c31)
theorem C.catnaplaw3_GraphChains_c34_w : awp P C.catnaplaw3_GraphChains_c34 Q fr st = awp P (.keep [6, 9, 10, 11, 12, 13, 14, 15] (.seq (.seq (.region C.catnaplaw3_GraphChains_r14) C.catnaplaw3_GraphChains_c33) C.catnaplaw3_GraphChains_c31)) Q fr st := rfl
def C.catnaplaw3_GraphChains_r13_b : List IOper := [
  ⟨some 54, .move (.slot 7), none, [], []⟩,
  ⟨some 55, .move (.slot 9), none, [], []⟩,
  ⟨some 56, .call F.graph_Under [.slot 54, .slot 55], none, [], []⟩,
  ⟨some 53, .move (.slot 56), none, [], []⟩,
  ⟨some 57, .extract (.slot 53) 0, none, [], []⟩,
  ⟨some 58, .extract (.slot 53) 1, none, [], []⟩,
  ⟨some 14, .move (.slot 57), none, [], []⟩,
  ⟨some 15, .move (.slot 58), none, [], []⟩]
def C.catnaplaw3_GraphChains_r13 : List IOper := C.catnaplaw3_GraphChains_r13_b
theorem C.catnaplaw3_GraphChains_r13_w {k : AFr → ASt → Prop} : aops P C.catnaplaw3_GraphChains_r13 k fr st = aops P C.catnaplaw3_GraphChains_r13_b k fr st := rfl
def C.catnaplaw3_GraphChains_c35 : ICode := .keep [6, 7, 9, 10, 11, 12, 13] (.seq (.region C.catnaplaw3_GraphChains_r13) C.catnaplaw3_GraphChains_c34)
theorem C.catnaplaw3_GraphChains_c35_w : awp P C.catnaplaw3_GraphChains_c35 Q fr st = awp P (.keep [6, 7, 9, 10, 11, 12, 13] (.seq (.region C.catnaplaw3_GraphChains_r13) C.catnaplaw3_GraphChains_c34)) Q fr st := rfl
def C.catnaplaw3_GraphChains_r12_b : List IOper := [
  ⟨some 48, .move (.slot 7), none, [], []⟩,
  ⟨some 49, .move (.slot 9), none, [], []⟩,
  ⟨some 50, .call F.graph_Above [.slot 48, .slot 49], none, [], []⟩,
  ⟨some 47, .move (.slot 50), none, [], []⟩,
  ⟨some 51, .extract (.slot 47) 0, none, [], []⟩,
  ⟨some 52, .extract (.slot 47) 1, none, [], []⟩,
  ⟨some 12, .move (.slot 51), none, [], []⟩,
  ⟨some 13, .move (.slot 52), none, [], []⟩]
def C.catnaplaw3_GraphChains_r12 : List IOper := C.catnaplaw3_GraphChains_r12_b
theorem C.catnaplaw3_GraphChains_r12_w {k : AFr → ASt → Prop} : aops P C.catnaplaw3_GraphChains_r12 k fr st = aops P C.catnaplaw3_GraphChains_r12_b k fr st := rfl
def C.catnaplaw3_GraphChains_c36 : ICode := .keep [6, 7, 9, 10, 11] (.seq (.region C.catnaplaw3_GraphChains_r12) C.catnaplaw3_GraphChains_c35)
theorem C.catnaplaw3_GraphChains_c36_w : awp P C.catnaplaw3_GraphChains_c36 Q fr st = awp P (.keep [6, 7, 9, 10, 11] (.seq (.region C.catnaplaw3_GraphChains_r12) C.catnaplaw3_GraphChains_c35)) Q fr st := rfl
def C.catnaplaw3_GraphChains_r11_b : List IOper := [
  ⟨some 43, .move (.slot 7), none, [], []⟩,
  ⟨some 44, .call F.graph_Order [.slot 43], none, [], []⟩,
  ⟨some 42, .move (.slot 44), none, [], []⟩,
  ⟨some 45, .extract (.slot 42) 0, none, [], []⟩,
  ⟨some 46, .extract (.slot 42) 1, none, [], []⟩,
  ⟨some 10, .move (.slot 45), none, [], []⟩,
  ⟨some 11, .move (.slot 46), none, [], []⟩]
def C.catnaplaw3_GraphChains_r11 : List IOper := C.catnaplaw3_GraphChains_r11_b
theorem C.catnaplaw3_GraphChains_r11_w {k : AFr → ASt → Prop} : aops P C.catnaplaw3_GraphChains_r11 k fr st = aops P C.catnaplaw3_GraphChains_r11_b k fr st := rfl
def C.catnaplaw3_GraphChains_c37 : ICode := .keep [6, 7, 9] (.seq (.region C.catnaplaw3_GraphChains_r11) C.catnaplaw3_GraphChains_c36)
theorem C.catnaplaw3_GraphChains_c37_w : awp P C.catnaplaw3_GraphChains_c37 Q fr st = awp P (.keep [6, 7, 9] (.seq (.region C.catnaplaw3_GraphChains_r11) C.catnaplaw3_GraphChains_c36)) Q fr st := rfl
def C.catnaplaw3_GraphChains_r10_b : List IOper := [
  ⟨some 39, .move (.slot 1), none, [], []⟩,
  ⟨some 40, .move (.slot 6), none, [], []⟩,
  ⟨some 41, .call F.catnaplaw3_pick [.slot 39, .slot 40], none, [], []⟩,
  ⟨some 9, .move (.slot 41), none, [], []⟩]
def C.catnaplaw3_GraphChains_r10 : List IOper := C.catnaplaw3_GraphChains_r10_b
theorem C.catnaplaw3_GraphChains_r10_w {k : AFr → ASt → Prop} : aops P C.catnaplaw3_GraphChains_r10 k fr st = aops P C.catnaplaw3_GraphChains_r10_b k fr st := rfl
def C.catnaplaw3_GraphChains_c38 : ICode := .keep [1, 6, 7] (.seq (.region C.catnaplaw3_GraphChains_r10) C.catnaplaw3_GraphChains_c37)
theorem C.catnaplaw3_GraphChains_c38_w : awp P C.catnaplaw3_GraphChains_c38 Q fr st = awp P (.keep [1, 6, 7] (.seq (.region C.catnaplaw3_GraphChains_r10) C.catnaplaw3_GraphChains_c37)) Q fr st := rfl
def C.catnaplaw3_GraphChains_r8_b : List IOper := [
  ⟨some 31, .move (.slot 8), none, [], []⟩,
  ⟨some 32, .bin .add (.slot 31) (.cst (.int .i64 1)), none, [], []⟩,
  ⟨some 8, .move (.slot 32), none, [], []⟩]
def C.catnaplaw3_GraphChains_r8 : List IOper := C.catnaplaw3_GraphChains_r8_b
theorem C.catnaplaw3_GraphChains_r8_w {k : AFr → ASt → Prop} : aops P C.catnaplaw3_GraphChains_r8 k fr st = aops P C.catnaplaw3_GraphChains_r8_b k fr st := rfl
def C.catnaplaw3_GraphChains_c39 : ICode := .keep [1, 6, 7, 8] (.region C.catnaplaw3_GraphChains_r8)
theorem C.catnaplaw3_GraphChains_c39_w : awp P C.catnaplaw3_GraphChains_c39 Q fr st = awp P (.keep [1, 6, 7, 8] (.region C.catnaplaw3_GraphChains_r8)) Q fr st := rfl
def C.catnaplaw3_GraphChains_r9_b : List IOper := [
  ⟨some 33, .move (.slot 7), none, [], []⟩,
  ⟨some 34, .move (.slot 8), none, [], []⟩,
  ⟨some 35, .move (.slot 8), none, [], []⟩,
  ⟨some 36, .bin .add (.slot 35) (.cst (.int .i64 1)), none, [], []⟩,
  ⟨some 37, .buildSlice 1 1 [.int .i64 0] [(0, 1, .slot 36)], none, [], []⟩,
  ⟨some 38, .idxAddr 1 (.slot 33) (.slot 34), none, [], []⟩,
  ⟨none, .store1 (.slot 38) (.slot 37), none, [], []⟩]
def C.catnaplaw3_GraphChains_r9 : List IOper := C.catnaplaw3_GraphChains_r9_b
theorem C.catnaplaw3_GraphChains_r9_w {k : AFr → ASt → Prop} : aops P C.catnaplaw3_GraphChains_r9 k fr st = aops P C.catnaplaw3_GraphChains_r9_b k fr st := rfl
def C.catnaplaw3_GraphChains_b40 : ICode := .region C.catnaplaw3_GraphChains_r9
theorem C.catnaplaw3_GraphChains_b40_w : awp P C.catnaplaw3_GraphChains_b40 Q fr st = awp P (.region C.catnaplaw3_GraphChains_r9) Q fr st := rfl
def C.catnaplaw3_GraphChains_c41 : ICode := .keep [1, 6, 7, 8] (.seq (.block 1 C.catnaplaw3_GraphChains_b40) C.catnaplaw3_GraphChains_c39)
theorem C.catnaplaw3_GraphChains_c41_w : awp P C.catnaplaw3_GraphChains_c41 Q fr st = awp P (.keep [1, 6, 7, 8] (.seq (.block 1 C.catnaplaw3_GraphChains_b40) C.catnaplaw3_GraphChains_c39)) Q fr st := rfl
def C.catnaplaw3_GraphChains_c42 : ICode := .keep [1, 6, 7, 8, 30] (.cond (.slot 30) .skip (.exit 0))
theorem C.catnaplaw3_GraphChains_c42_w : awp P C.catnaplaw3_GraphChains_c42 Q fr st = awp P (.keep [1, 6, 7, 8, 30] (.cond (.slot 30) .skip (.exit 0))) Q fr st := rfl
def C.catnaplaw3_GraphChains_r7_b : List IOper := [
  ⟨some 27, .move (.slot 8), none, [], []⟩,
  ⟨some 28, .bin .add (.slot 27) (.cst (.int .i64 1)), none, [], []⟩,
  ⟨some 29, .move (.slot 6), none, [], []⟩,
  ⟨some 30, .bin .lss (.slot 28) (.slot 29), none, [], []⟩]
def C.catnaplaw3_GraphChains_r7 : List IOper := C.catnaplaw3_GraphChains_r7_b
theorem C.catnaplaw3_GraphChains_r7_w {k : AFr → ASt → Prop} : aops P C.catnaplaw3_GraphChains_r7 k fr st = aops P C.catnaplaw3_GraphChains_r7_b k fr st := rfl
def C.catnaplaw3_GraphChains_l43 : ICode := .keep [1, 6, 7, 8] (.seq (.seq (.region C.catnaplaw3_GraphChains_r7) C.catnaplaw3_GraphChains_c42) C.catnaplaw3_GraphChains_c41)
theorem C.catnaplaw3_GraphChains_l43_w : awp P C.catnaplaw3_GraphChains_l43 Q fr st = awp P (.keep [1, 6, 7, 8] (.seq (.seq (.region C.catnaplaw3_GraphChains_r7) C.catnaplaw3_GraphChains_c42) C.catnaplaw3_GraphChains_c41)) Q fr st := rfl
def C.catnaplaw3_GraphChains_b44 : ICode := .loop C.catnaplaw3_GraphChains_l43
theorem C.catnaplaw3_GraphChains_b44_w : awp P C.catnaplaw3_GraphChains_b44 Q fr st = awp P (.loop C.catnaplaw3_GraphChains_l43) Q fr st := rfl
def C.catnaplaw3_GraphChains_c45 : ICode := .keep [1, 6, 7, 8] (.block 0 C.catnaplaw3_GraphChains_b44)
theorem C.catnaplaw3_GraphChains_c45_w : awp P C.catnaplaw3_GraphChains_c45 Q fr st = awp P (.keep [1, 6, 7, 8] (.block 0 C.catnaplaw3_GraphChains_b44)) Q fr st := rfl
def C.catnaplaw3_GraphChains_r6_b : List IOper := [
  ⟨some 8, .move (.cst (.int .i64 0)), none, [], []⟩]
def C.catnaplaw3_GraphChains_r6 : List IOper := C.catnaplaw3_GraphChains_r6_b
theorem C.catnaplaw3_GraphChains_r6_w {k : AFr → ASt → Prop} : aops P C.catnaplaw3_GraphChains_r6 k fr st = aops P C.catnaplaw3_GraphChains_r6_b k fr st := rfl
def C.catnaplaw3_GraphChains_c46 : ICode := .keep [1, 6, 7] (.seq (.seq (.region C.catnaplaw3_GraphChains_r6) C.catnaplaw3_GraphChains_c45) C.catnaplaw3_GraphChains_c38)
theorem C.catnaplaw3_GraphChains_c46_w : awp P C.catnaplaw3_GraphChains_c46 Q fr st = awp P (.keep [1, 6, 7] (.seq (.seq (.region C.catnaplaw3_GraphChains_r6) C.catnaplaw3_GraphChains_c45) C.catnaplaw3_GraphChains_c38)) Q fr st := rfl
def C.catnaplaw3_GraphChains_r5_b : List IOper := [
  ⟨some 25, .move (.slot 6), none, [], []⟩,
  ⟨some 26, .makeSlice 1 24 [.nils] (.slot 25) (.slot 25), none, [], []⟩,
  ⟨some 7, .move (.slot 26), none, [], []⟩]
def C.catnaplaw3_GraphChains_r5 : List IOper := C.catnaplaw3_GraphChains_r5_b
theorem C.catnaplaw3_GraphChains_r5_w {k : AFr → ASt → Prop} : aops P C.catnaplaw3_GraphChains_r5 k fr st = aops P C.catnaplaw3_GraphChains_r5_b k fr st := rfl
def C.catnaplaw3_GraphChains_c47 : ICode := .keep [1, 6] (.seq (.region C.catnaplaw3_GraphChains_r5) C.catnaplaw3_GraphChains_c46)
theorem C.catnaplaw3_GraphChains_c47_w : awp P C.catnaplaw3_GraphChains_c47 Q fr st = awp P (.keep [1, 6] (.seq (.region C.catnaplaw3_GraphChains_r5) C.catnaplaw3_GraphChains_c46)) Q fr st := rfl
def C.catnaplaw3_GraphChains_r4_b : List IOper := [
  ⟨some 22, .move (.slot 0), none, [], []⟩,
  ⟨some 23, .call F.catnaplaw3_pick [.slot 22, .cst (.int .i64 100)], none, [], []⟩,
  ⟨some 24, .bin .add (.cst (.int .i64 1)) (.slot 23), none, [], []⟩,
  ⟨some 6, .move (.slot 24), none, [], []⟩]
def C.catnaplaw3_GraphChains_r4 : List IOper := C.catnaplaw3_GraphChains_r4_b
theorem C.catnaplaw3_GraphChains_r4_w {k : AFr → ASt → Prop} : aops P C.catnaplaw3_GraphChains_r4 k fr st = aops P C.catnaplaw3_GraphChains_r4_b k fr st := rfl
def C.catnaplaw3_GraphChains_c48 : ICode := .keep [0, 1] (.seq (.region C.catnaplaw3_GraphChains_r4) C.catnaplaw3_GraphChains_c47)
theorem C.catnaplaw3_GraphChains_c48_w : awp P C.catnaplaw3_GraphChains_c48 Q fr st = awp P (.keep [0, 1] (.seq (.region C.catnaplaw3_GraphChains_r4) C.catnaplaw3_GraphChains_c47)) Q fr st := rfl
def C.catnaplaw3_GraphChains_r3_b : List IOper := [
  ⟨some 4, .move (.cst (.bool false)), none, [], []⟩]
def C.catnaplaw3_GraphChains_r3 : List IOper := C.catnaplaw3_GraphChains_r3_b
theorem C.catnaplaw3_GraphChains_r3_w {k : AFr → ASt → Prop} : aops P C.catnaplaw3_GraphChains_r3 k fr st = aops P C.catnaplaw3_GraphChains_r3_b k fr st := rfl
def C.catnaplaw3_GraphChains_c49 : ICode := .seq (.region C.catnaplaw3_GraphChains_r3) .ret
theorem C.catnaplaw3_GraphChains_c49_w : awp P C.catnaplaw3_GraphChains_c49 Q fr st = awp P (.seq (.region C.catnaplaw3_GraphChains_r3) .ret) Q fr st := rfl
def C.catnaplaw3_GraphChains_c50 : ICode := .keep [0, 1, 21] (.cond (.slot 21) C.catnaplaw3_GraphChains_c49 .skip)
theorem C.catnaplaw3_GraphChains_c50_w : awp P C.catnaplaw3_GraphChains_c50 Q fr st = awp P (.keep [0, 1, 21] (.cond (.slot 21) C.catnaplaw3_GraphChains_c49 .skip)) Q fr st := rfl
def C.catnaplaw3_GraphChains_r2_b : List IOper := [
  ⟨some 20, .move (.slot 5), none, [], []⟩,
  ⟨some 21, .un .not (.slot 20), none, [], []⟩]
def C.catnaplaw3_GraphChains_r2 : List IOper := C.catnaplaw3_GraphChains_r2_b
theorem C.catnaplaw3_GraphChains_r2_w {k : AFr → ASt → Prop} : aops P C.catnaplaw3_GraphChains_r2 k fr st = aops P C.catnaplaw3_GraphChains_r2_b k fr st := rfl
def C.catnaplaw3_GraphChains_c51 : ICode := .keep [0, 1, 5] (.seq (.seq (.region C.catnaplaw3_GraphChains_r2) C.catnaplaw3_GraphChains_c50) C.catnaplaw3_GraphChains_c48)
theorem C.catnaplaw3_GraphChains_c51_w : awp P C.catnaplaw3_GraphChains_c51 Q fr st = awp P (.keep [0, 1, 5] (.seq (.seq (.region C.catnaplaw3_GraphChains_r2) C.catnaplaw3_GraphChains_c50) C.catnaplaw3_GraphChains_c48)) Q fr st := rfl
def C.catnaplaw3_GraphChains_r1_b : List IOper := [
  ⟨some 19, .call F.catnaplaw3_shown [], none, [], []⟩,
  ⟨some 5, .move (.slot 19), none, [], []⟩]
def C.catnaplaw3_GraphChains_r1 : List IOper := C.catnaplaw3_GraphChains_r1_b
theorem C.catnaplaw3_GraphChains_r1_w {k : AFr → ASt → Prop} : aops P C.catnaplaw3_GraphChains_r1 k fr st = aops P C.catnaplaw3_GraphChains_r1_b k fr st := rfl
def C.catnaplaw3_GraphChains_c52 : ICode := .keep [0, 1] (.seq (.region C.catnaplaw3_GraphChains_r1) C.catnaplaw3_GraphChains_c51)
theorem C.catnaplaw3_GraphChains_c52_w : awp P C.catnaplaw3_GraphChains_c52 Q fr st = awp P (.keep [0, 1] (.seq (.region C.catnaplaw3_GraphChains_r1) C.catnaplaw3_GraphChains_c51)) Q fr st := rfl
def C.catnaplaw3_GraphChains_r0_b : List IOper := [
  ⟨some 4, .move (.cst (.bool false)), none, [], []⟩]
def C.catnaplaw3_GraphChains_r0 : List IOper := C.catnaplaw3_GraphChains_r0_b
theorem C.catnaplaw3_GraphChains_r0_w {k : AFr → ASt → Prop} : aops P C.catnaplaw3_GraphChains_r0 k fr st = aops P C.catnaplaw3_GraphChains_r0_b k fr st := rfl
def C.catnaplaw3_GraphChains : IFunc := ⟨2, [.slot 4], .seq (.region C.catnaplaw3_GraphChains_r0) C.catnaplaw3_GraphChains_c52⟩
def C.catnaplaw3_GraphChains_W := And.intro (And.intro (And.intro (And.intro (And.intro (And.intro @C.catnaplaw3_GraphChains_r31_w @C.catnaplaw3_GraphChains_c1_w) (And.intro @C.catnaplaw3_GraphChains_r28_w (And.intro @C.catnaplaw3_GraphChains_c2_w @C.catnaplaw3_GraphChains_r30_w))) (And.intro (And.intro @C.catnaplaw3_GraphChains_c3_w @C.catnaplaw3_GraphChains_c4_w) (And.intro @C.catnaplaw3_GraphChains_r29_w (And.intro @C.catnaplaw3_GraphChains_b5_w @C.catnaplaw3_GraphChains_c6_w)))) (And.intro (And.intro (And.intro @C.catnaplaw3_GraphChains_c7_w @C.catnaplaw3_GraphChains_r27_w) (And.intro @C.catnaplaw3_GraphChains_b9_w (And.intro @C.catnaplaw3_GraphChains_c10_w @C.catnaplaw3_GraphChains_r26_w))) (And.intro (And.intro @C.catnaplaw3_GraphChains_c11_w @C.catnaplaw3_GraphChains_r23_w) (And.intro @C.catnaplaw3_GraphChains_c12_w (And.intro @C.catnaplaw3_GraphChains_r25_w @C.catnaplaw3_GraphChains_c13_w))))) (And.intro (And.intro (And.intro (And.intro @C.catnaplaw3_GraphChains_c14_w @C.catnaplaw3_GraphChains_r24_w) (And.intro @C.catnaplaw3_GraphChains_b15_w (And.intro @C.catnaplaw3_GraphChains_c16_w @C.catnaplaw3_GraphChains_c17_w))) (And.intro (And.intro @C.catnaplaw3_GraphChains_r22_w @C.catnaplaw3_GraphChains_b19_w) (And.intro @C.catnaplaw3_GraphChains_c20_w (And.intro @C.catnaplaw3_GraphChains_r21_w @C.catnaplaw3_GraphChains_c21_w)))) (And.intro (And.intro (And.intro @C.catnaplaw3_GraphChains_r18_w @C.catnaplaw3_GraphChains_c22_w) (And.intro @C.catnaplaw3_GraphChains_r20_w (And.intro @C.catnaplaw3_GraphChains_c23_w @C.catnaplaw3_GraphChains_c24_w))) (And.intro (And.intro @C.catnaplaw3_GraphChains_r19_w @C.catnaplaw3_GraphChains_b25_w) (And.intro @C.catnaplaw3_GraphChains_c26_w (And.intro @C.catnaplaw3_GraphChains_c27_w @C.catnaplaw3_GraphChains_r17_w)))))) (And.intro (And.intro (And.intro (And.intro (And.intro @C.catnaplaw3_GraphChains_b29_w @C.catnaplaw3_GraphChains_c30_w) (And.intro @C.catnaplaw3_GraphChains_r16_w (And.intro @C.catnaplaw3_GraphChains_c31_w @C.catnaplaw3_GraphChains_r15_w))) (And.intro (And.intro @C.catnaplaw3_GraphChains_c32_w @C.catnaplaw3_GraphChains_c33_w) (And.intro @C.catnaplaw3_GraphChains_r14_w (And.intro @C.catnaplaw3_GraphChains_c34_w @C.catnaplaw3_GraphChains_r13_w)))) (And.intro (And.intro (And.intro @C.catnaplaw3_GraphChains_c35_w @C.catnaplaw3_GraphChains_r12_w) (And.intro @C.catnaplaw3_GraphChains_c36_w (And.intro @C.catnaplaw3_GraphChains_r11_w @C.catnaplaw3_GraphChains_c37_w))) (And.intro (And.intro @C.catnaplaw3_GraphChains_r10_w @C.catnaplaw3_GraphChains_c38_w) (And.intro @C.catnaplaw3_GraphChains_r8_w (And.intro @C.catnaplaw3_GraphChains_c39_w @C.catnaplaw3_GraphChains_r9_w))))) (And.intro (And.intro (And.intro (And.intro @C.catnaplaw3_GraphChains_b40_w @C.catnaplaw3_GraphChains_c41_w) (And.intro @C.catnaplaw3_GraphChains_c42_w (And.intro @C.catnaplaw3_GraphChains_r7_w @C.catnaplaw3_GraphChains_b44_w))) (And.intro (And.intro @C.catnaplaw3_GraphChains_c45_w @C.catnaplaw3_GraphChains_r6_w) (And.intro @C.catnaplaw3_GraphChains_c46_w (And.intro @C.catnaplaw3_GraphChains_r5_w @C.catnaplaw3_GraphChains_c47_w)))) (And.intro (And.intro (And.intro @C.catnaplaw3_GraphChains_r4_w @C.catnaplaw3_GraphChains_c48_w) (And.intro @C.catnaplaw3_GraphChains_r3_w (And.intro @C.catnaplaw3_GraphChains_c49_w @C.catnaplaw3_GraphChains_c50_w))) (And.intro (And.intro @C.catnaplaw3_GraphChains_r2_w @C.catnaplaw3_GraphChains_c51_w) (And.intro @C.catnaplaw3_GraphChains_r1_w (And.intro @C.catnaplaw3_GraphChains_c52_w @C.catnaplaw3_GraphChains_r0_w))))))
def C.catnaplaw3_GraphChains_B := And.intro (And.intro (And.intro (And.intro (And.intro @C.catnaplaw3_GraphChains_r31_b.eq_1 @C.catnaplaw3_GraphChains_r28_b.eq_1) (And.intro @C.catnaplaw3_GraphChains_r30_b.eq_1 @C.catnaplaw3_GraphChains_r29_b.eq_1)) (And.intro (And.intro @C.catnaplaw3_GraphChains_r27_b.eq_1 @C.catnaplaw3_GraphChains_r26_b.eq_1) (And.intro @C.catnaplaw3_GraphChains_r23_b.eq_1 @C.catnaplaw3_GraphChains_r25_b.eq_1))) (And.intro (And.intro (And.intro @C.catnaplaw3_GraphChains_r24_b.eq_1 @C.catnaplaw3_GraphChains_r22_b.eq_1) (And.intro @C.catnaplaw3_GraphChains_r21_b.eq_1 @C.catnaplaw3_GraphChains_r18_b.eq_1)) (And.intro (And.intro @C.catnaplaw3_GraphChains_r20_b.eq_1 @C.catnaplaw3_GraphChains_r19_b.eq_1) (And.intro @C.catnaplaw3_GraphChains_r17_b.eq_1 @C.catnaplaw3_GraphChains_r16_b.eq_1)))) (And.intro (And.intro (And.intro (And.intro @C.catnaplaw3_GraphChains_r15_b.eq_1 @C.catnaplaw3_GraphChains_r14_b.eq_1) (And.intro @C.catnaplaw3_GraphChains_r13_b.eq_1 @C.catnaplaw3_GraphChains_r12_b.eq_1)) (And.intro (And.intro @C.catnaplaw3_GraphChains_r11_b.eq_1 @C.catnaplaw3_GraphChains_r10_b.eq_1) (And.intro @C.catnaplaw3_GraphChains_r8_b.eq_1 @C.catnaplaw3_GraphChains_r9_b.eq_1))) (And.intro (And.intro (And.intro @C.catnaplaw3_GraphChains_r7_b.eq_1 @C.catnaplaw3_GraphChains_r6_b.eq_1) (And.intro @C.catnaplaw3_GraphChains_r5_b.eq_1 @C.catnaplaw3_GraphChains_r4_b.eq_1)) (And.intro (And.intro @C.catnaplaw3_GraphChains_r3_b.eq_1 @C.catnaplaw3_GraphChains_r2_b.eq_1) (And.intro @C.catnaplaw3_GraphChains_r1_b.eq_1 @C.catnaplaw3_GraphChains_r0_b.eq_1))))

def C.catnaplaw3_GraphTells_r11_b : List IOper := [
  ⟨some 63, .move (.slot 0), none, [], []⟩,
  ⟨some 64, .call F.graph_Check [.slot 63], none, [], []⟩,
  ⟨some 65, .move (.slot 0), none, [], []⟩,
  ⟨some 66, .call F.catnapref3_Check [.slot 65], none, [], []⟩,
  ⟨some 67, .bin .eql (.slot 64) (.slot 66), none, [], []⟩,
  ⟨some 68, .move (.slot 67), none, [], []⟩,
  ⟨some 69, .move (.slot 7), some (68, true), [], []⟩,
  ⟨some 70, .move (.slot 9), some (68, true), [], []⟩,
  ⟨some 71, .call F.catnaplaw3_same [.slot 69, .slot 70], some (68, true), [], []⟩,
  ⟨some 72, .pick (.slot 68) (.slot 71) (.cst (.bool false)), none, [], []⟩,
  ⟨some 73, .move (.slot 72), none, [], []⟩,
  ⟨some 74, .move (.slot 8), some (73, true), [], []⟩,
  ⟨some 75, .move (.slot 10), some (73, true), [], []⟩,
  ⟨some 76, .bin .eql (.slot 74) (.slot 75), some (73, true), [], []⟩,
  ⟨some 77, .pick (.slot 73) (.slot 76) (.cst (.bool false)), none, [], []⟩,
  ⟨some 78, .move (.slot 77), none, [], []⟩,
  ⟨some 79, .move (.slot 11), some (78, true), [], []⟩,
  ⟨some 80, .move (.slot 13), some (78, true), [], []⟩,
  ⟨some 81, .call F.catnaplaw3_same [.slot 79, .slot 80], some (78, true), [], []⟩,
  ⟨some 82, .pick (.slot 78) (.slot 81) (.cst (.bool false)), none, [], []⟩,
  ⟨some 83, .move (.slot 82), none, [], []⟩,
  ⟨some 84, .move (.slot 12), some (83, true), [], []⟩,
  ⟨some 85, .move (.slot 14), some (83, true), [], []⟩,
  ⟨some 86, .bin .eql (.slot 84) (.slot 85), some (83, true), [], []⟩,
  ⟨some 87, .pick (.slot 83) (.slot 86) (.cst (.bool false)), none, [], []⟩,
  ⟨some 88, .move (.slot 87), none, [], []⟩,
  ⟨some 89, .move (.slot 15), some (88, true), [], []⟩,
  ⟨some 90, .move (.slot 17), some (88, true), [], []⟩,
  ⟨some 91, .call F.catnaplaw3_same [.slot 89, .slot 90], some (88, true), [], []⟩,
  ⟨some 92, .pick (.slot 88) (.slot 91) (.cst (.bool false)), none, [], []⟩,
  ⟨some 93, .move (.slot 92), none, [], []⟩,
  ⟨some 94, .move (.slot 16), some (93, true), [], []⟩,
  ⟨some 95, .move (.slot 18), some (93, true), [], []⟩,
  ⟨some 96, .bin .eql (.slot 94) (.slot 95), some (93, true), [], []⟩,
  ⟨some 97, .pick (.slot 93) (.slot 96) (.cst (.bool false)), none, [], []⟩,
  ⟨some 4, .move (.slot 97), none, [], []⟩]
def C.catnaplaw3_GraphTells_r11 : List IOper := C.catnaplaw3_GraphTells_r11_b
theorem C.catnaplaw3_GraphTells_r11_w {k : AFr → ASt → Prop} : aops P C.catnaplaw3_GraphTells_r11 k fr st = aops P C.catnaplaw3_GraphTells_r11_b k fr st := rfl
def C.catnaplaw3_GraphTells_c1 : ICode := .keep [0, 7, 8, 9, 10, 11, 12, 13, 14, 15, 16, 17, 18] (.seq (.region C.catnaplaw3_GraphTells_r11) .ret)
theorem C.catnaplaw3_GraphTells_c1_w : awp P C.catnaplaw3_GraphTells_c1 Q fr st = awp P (.keep [0, 7, 8, 9, 10, 11, 12, 13, 14, 15, 16, 17, 18] (.seq (.region C.catnaplaw3_GraphTells_r11) .ret)) Q fr st := rfl
def C.catnaplaw3_GraphTells_r10_b : List IOper := [
  ⟨some 58, .move (.slot 0), none, [], []⟩,
  ⟨some 59, .move (.slot 1), none, [], []⟩,
  ⟨some 60, .call F.catnapref3_Under [.slot 58, .slot 59], none, [], []⟩,
  ⟨some 57, .move (.slot 60), none, [], []⟩,
  ⟨some 61, .extract (.slot 57) 0, none, [], []⟩,
  ⟨some 62, .extract (.slot 57) 1, none, [], []⟩,
  ⟨some 17, .move (.slot 61), none, [], []⟩,
  ⟨some 18, .move (.slot 62), none, [], []⟩]
def C.catnaplaw3_GraphTells_r10 : List IOper := C.catnaplaw3_GraphTells_r10_b
theorem C.catnaplaw3_GraphTells_r10_w {k : AFr → ASt → Prop} : aops P C.catnaplaw3_GraphTells_r10 k fr st = aops P C.catnaplaw3_GraphTells_r10_b k fr st := rfl
def C.catnaplaw3_GraphTells_c2 : ICode := .keep [0, 1, 7, 8, 9, 10, 11, 12, 13, 14, 15, 16] (.seq (.region C.catnaplaw3_GraphTells_r10) C.catnaplaw3_GraphTells_c1)
theorem C.catnaplaw3_GraphTells_c2_w : awp P C.catnaplaw3_GraphTells_c2 Q fr st = awp P (.keep [0, 1, 7, 8, 9, 10, 11, 12, 13, 14, 15, 16] (.seq (.region C.catnaplaw3_GraphTells_r10) C.catnaplaw3_GraphTells_c1)) Q fr st := rfl
def C.catnaplaw3_GraphTells_r9_b : List IOper := [
  ⟨some 52, .move (.slot 0), none, [], []⟩,
  ⟨some 53, .move (.slot 1), none, [], []⟩,
  ⟨some 54, .call F.graph_Under [.slot 52, .slot 53], none, [], []⟩,
  ⟨some 51, .move (.slot 54), none, [], []⟩,
  ⟨some 55, .extract (.slot 51) 0, none, [], []⟩,
  ⟨some 56, .extract (.slot 51) 1, none, [], []⟩,
  ⟨some 15, .move (.slot 55), none, [], []⟩,
  ⟨some 16, .move (.slot 56), none, [], []⟩]
def C.catnaplaw3_GraphTells_r9 : List IOper := C.catnaplaw3_GraphTells_r9_b
theorem C.catnaplaw3_GraphTells_r9_w {k : AFr → ASt → Prop} : aops P C.catnaplaw3_GraphTells_r9 k fr st = aops P C.catnaplaw3_GraphTells_r9_b k fr st := rfl
def C.catnaplaw3_GraphTells_c3 : ICode := .keep [0, 1, 7, 8, 9, 10, 11, 12, 13, 14] (.seq (.region C.catnaplaw3_GraphTells_r9) C.catnaplaw3_GraphTells_c2)
theorem C.catnaplaw3_GraphTells_c3_w : awp P C.catnaplaw3_GraphTells_c3 Q fr st = awp P (.keep [0, 1, 7, 8, 9, 10, 11, 12, 13, 14] (.seq (.region C.catnaplaw3_GraphTells_r9) C.catnaplaw3_GraphTells_c2)) Q fr st := rfl
def C.catnaplaw3_GraphTells_r8_b : List IOper := [
  ⟨some 46, .move (.slot 0), none, [], []⟩,
  ⟨some 47, .move (.slot 1), none, [], []⟩,
  ⟨some 48, .call F.catnapref3_Above [.slot 46, .slot 47], none, [], []⟩,
  ⟨some 45, .move (.slot 48), none, [], []⟩,
  ⟨some 49, .extract (.slot 45) 0, none, [], []⟩,
  ⟨some 50, .extract (.slot 45) 1, none, [], []⟩,
  ⟨some 13, .move (.slot 49), none, [], []⟩,
  ⟨some 14, .move (.slot 50), none, [], []⟩]
def C.catnaplaw3_GraphTells_r8 : List IOper := C.catnaplaw3_GraphTells_r8_b
theorem C.catnaplaw3_GraphTells_r8_w {k : AFr → ASt → Prop} : aops P C.catnaplaw3_GraphTells_r8 k fr st = aops P C.catnaplaw3_GraphTells_r8_b k fr st := rfl
def C.catnaplaw3_GraphTells_c4 : ICode := .keep [0, 1, 7, 8, 9, 10, 11, 12] (.seq (.region C.catnaplaw3_GraphTells_r8) C.catnaplaw3_GraphTells_c3)
theorem C.catnaplaw3_GraphTells_c4_w : awp P C.catnaplaw3_GraphTells_c4 Q fr st = awp P (.keep [0, 1, 7, 8, 9, 10, 11, 12] (.seq (.region C.catnaplaw3_GraphTells_r8) C.catnaplaw3_GraphTells_c3)) Q fr st := rfl
def C.catnaplaw3_GraphTells_r7_b : List IOper := [
  ⟨some 40, .move (.slot 0), none, [], []⟩,
  ⟨some 41, .move (.slot 1), none, [], []⟩,
  ⟨some 42, .call F.graph_Above [.slot 40, .slot 41], none, [], []⟩,
  ⟨some 39, .move (.slot 42), none, [], []⟩,
  ⟨some 43, .extract (.slot 39) 0, none, [], []⟩,
  ⟨some 44, .extract (.slot 39) 1, none, [], []⟩,
  ⟨some 11, .move (.slot 43), none, [], []⟩,
  ⟨some 12, .move (.slot 44), none, [], []⟩]
def C.catnaplaw3_GraphTells_r7 : List IOper := C.catnaplaw3_GraphTells_r7_b
theorem C.catnaplaw3_GraphTells_r7_w {k : AFr → ASt → Prop} : aops P C.catnaplaw3_GraphTells_r7 k fr st = aops P C.catnaplaw3_GraphTells_r7_b k fr st := rfl
def C.catnaplaw3_GraphTells_c5 : ICode := .keep [0, 1, 7, 8, 9, 10] (.seq (.region C.catnaplaw3_GraphTells_r7) C.catnaplaw3_GraphTells_c4)
theorem C.catnaplaw3_GraphTells_c5_w : awp P C.catnaplaw3_GraphTells_c5 Q fr st = awp P (.keep [0, 1, 7, 8, 9, 10] (.seq (.region C.catnaplaw3_GraphTells_r7) C.catnaplaw3_GraphTells_c4)) Q fr st := rfl
def C.catnaplaw3_GraphTells_r6_b : List IOper := [
  ⟨some 35, .move (.slot 0), none, [], []⟩,
  ⟨some 36, .call F.catnapref3_Order [.slot 35], none, [], []⟩,
  ⟨some 34, .move (.slot 36), none, [], []⟩,
  ⟨some 37, .extract (.slot 34) 0, none, [], []⟩,
  ⟨some 38, .extract (.slot 34) 1, none, [], []⟩,
  ⟨some 9, .move (.slot 37), none, [], []⟩,
  ⟨some 10, .move (.slot 38), none, [], []⟩]
def C.catnaplaw3_GraphTells_r6 : List IOper := C.catnaplaw3_GraphTells_r6_b
theorem C.catnaplaw3_GraphTells_r6_w {k : AFr → ASt → Prop} : aops P C.catnaplaw3_GraphTells_r6 k fr st = aops P C.catnaplaw3_GraphTells_r6_b k fr st := rfl
def C.catnaplaw3_GraphTells_c6 : ICode := .keep [0, 1, 7, 8] (.seq (.region C.catnaplaw3_GraphTells_r6) C.catnaplaw3_GraphTells_c5)
theorem C.catnaplaw3_GraphTells_c6_w : awp P C.catnaplaw3_GraphTells_c6 Q fr st = awp P (.keep [0, 1, 7, 8] (.seq (.region C.catnaplaw3_GraphTells_r6) C.catnaplaw3_GraphTells_c5)) Q fr st := rfl
def C.catnaplaw3_GraphTells_r5_b : List IOper := [
  ⟨some 30, .move (.slot 0), none, [], []⟩,
  ⟨some 31, .call F.graph_Order [.slot 30], none, [], []⟩,
  ⟨some 29, .move (.slot 31), none, [], []⟩,
  ⟨some 32, .extract (.slot 29) 0, none, [], []⟩,
  ⟨some 33, .extract (.slot 29) 1, none, [], []⟩,
  ⟨some 7, .move (.slot 32), none, [], []⟩,
  ⟨some 8, .move (.slot 33), none, [], []⟩]
def C.catnaplaw3_GraphTells_r5 : List IOper := C.catnaplaw3_GraphTells_r5_b
theorem C.catnaplaw3_GraphTells_r5_w {k : AFr → ASt → Prop} : aops P C.catnaplaw3_GraphTells_r5 k fr st = aops P C.catnaplaw3_GraphTells_r5_b k fr st := rfl
def C.catnaplaw3_GraphTells_c7 : ICode := .keep [0, 1] (.seq (.region C.catnaplaw3_GraphTells_r5) C.catnaplaw3_GraphTells_c6)
theorem C.catnaplaw3_GraphTells_c7_w : awp P C.catnaplaw3_GraphTells_c7 Q fr st = awp P (.keep [0, 1] (.seq (.region C.catnaplaw3_GraphTells_r5) C.catnaplaw3_GraphTells_c6)) Q fr st := rfl
def C.catnaplaw3_GraphTells_r4_b : List IOper := [
  ⟨some 28, .move (.slot 5), none, [], []⟩,
  ⟨some 4, .move (.slot 28), none, [], []⟩]
def C.catnaplaw3_GraphTells_r4 : List IOper := C.catnaplaw3_GraphTells_r4_b
theorem C.catnaplaw3_GraphTells_r4_w {k : AFr → ASt → Prop} : aops P C.catnaplaw3_GraphTells_r4 k fr st = aops P C.catnaplaw3_GraphTells_r4_b k fr st := rfl
def C.catnaplaw3_GraphTells_c8 : ICode := .seq (.region C.catnaplaw3_GraphTells_r4) .ret
theorem C.catnaplaw3_GraphTells_c8_w : awp P C.catnaplaw3_GraphTells_c8 Q fr st = awp P (.seq (.region C.catnaplaw3_GraphTells_r4) .ret) Q fr st := rfl
def C.catnaplaw3_GraphTells_c9 : ICode := .keep [0, 1, 5, 27] (.cond (.slot 27) C.catnaplaw3_GraphTells_c8 .skip)
theorem C.catnaplaw3_GraphTells_c9_w : awp P C.catnaplaw3_GraphTells_c9 Q fr st = awp P (.keep [0, 1, 5, 27] (.cond (.slot 27) C.catnaplaw3_GraphTells_c8 .skip)) Q fr st := rfl
def C.catnaplaw3_GraphTells_r3_b : List IOper := [
  ⟨some 22, .move (.slot 5), none, [], []⟩,
  ⟨some 23, .un .not (.slot 22), none, [], []⟩,
  ⟨some 24, .move (.slot 23), none, [], []⟩,
  ⟨some 25, .move (.slot 6), some (24, false), [], []⟩,
  ⟨some 26, .un .not (.slot 25), some (24, false), [], []⟩,
  ⟨some 27, .pick (.slot 24) (.cst (.bool true)) (.slot 26), none, [], []⟩]
def C.catnaplaw3_GraphTells_r3 : List IOper := C.catnaplaw3_GraphTells_r3_b
theorem C.catnaplaw3_GraphTells_r3_w {k : AFr → ASt → Prop} : aops P C.catnaplaw3_GraphTells_r3 k fr st = aops P C.catnaplaw3_GraphTells_r3_b k fr st := rfl
def C.catnaplaw3_GraphTells_c10 : ICode := .keep [0, 1, 5, 6] (.seq (.seq (.region C.catnaplaw3_GraphTells_r3) C.catnaplaw3_GraphTells_c9) C.catnaplaw3_GraphTells_c7)
theorem C.catnaplaw3_GraphTells_c10_w : awp P C.catnaplaw3_GraphTells_c10 Q fr st = awp P (.keep [0, 1, 5, 6] (.seq (.seq (.region C.catnaplaw3_GraphTells_r3) C.catnaplaw3_GraphTells_c9) C.catnaplaw3_GraphTells_c7)) Q fr st := rfl
def C.catnaplaw3_GraphTells_r2_b : List IOper := [
  ⟨some 20, .move (.slot 0), none, [], []⟩,
  ⟨some 21, .call F.catnaplaw3_light [.slot 20], none, [], []⟩,
  ⟨some 6, .move (.slot 21), none, [], []⟩]
def C.catnaplaw3_GraphTells_r2 : List IOper := C.catnaplaw3_GraphTells_r2_b
theorem C.catnaplaw3_GraphTells_r2_w {k : AFr → ASt → Prop} : aops P C.catnaplaw3_GraphTells_r2 k fr st = aops P C.catnaplaw3_GraphTells_r2_b k fr st := rfl
def C.catnaplaw3_GraphTells_c11 : ICode := .keep [0, 1, 5] (.seq (.region C.catnaplaw3_GraphTells_r2) C.catnaplaw3_GraphTells_c10)
theorem C.catnaplaw3_GraphTells_c11_w : awp P C.catnaplaw3_GraphTells_c11 Q fr st = awp P (.keep [0, 1, 5] (.seq (.region C.catnaplaw3_GraphTells_r2) C.catnaplaw3_GraphTells_c10)) Q fr st := rfl
def C.catnaplaw3_GraphTells_r1_b : List IOper := [
  ⟨some 19, .call F.catnaplaw3_shown [], none, [], []⟩,
  ⟨some 5, .move (.slot 19), none, [], []⟩]
def C.catnaplaw3_GraphTells_r1 : List IOper := C.catnaplaw3_GraphTells_r1_b
theorem C.catnaplaw3_GraphTells_r1_w {k : AFr → ASt → Prop} : aops P C.catnaplaw3_GraphTells_r1 k fr st = aops P C.catnaplaw3_GraphTells_r1_b k fr st := rfl
def C.catnaplaw3_GraphTells_c12 : ICode := .keep [0, 1] (.seq (.region C.catnaplaw3_GraphTells_r1) C.catnaplaw3_GraphTells_c11)
theorem C.catnaplaw3_GraphTells_c12_w : awp P C.catnaplaw3_GraphTells_c12 Q fr st = awp P (.keep [0, 1] (.seq (.region C.catnaplaw3_GraphTells_r1) C.catnaplaw3_GraphTells_c11)) Q fr st := rfl
def C.catnaplaw3_GraphTells_r0_b : List IOper := [
  ⟨some 4, .move (.cst (.bool false)), none, [], []⟩]
def C.catnaplaw3_GraphTells_r0 : List IOper := C.catnaplaw3_GraphTells_r0_b
theorem C.catnaplaw3_GraphTells_r0_w {k : AFr → ASt → Prop} : aops P C.catnaplaw3_GraphTells_r0 k fr st = aops P C.catnaplaw3_GraphTells_r0_b k fr st := rfl
def C.catnaplaw3_GraphTells : IFunc := ⟨2, [.slot 4], .seq (.region C.catnaplaw3_GraphTells_r0) C.catnaplaw3_GraphTells_c12⟩
def C.catnaplaw3_GraphTells_W := And.intro (And.intro (And.intro (And.intro @C.catnaplaw3_GraphTells_r11_w (And.intro @C.catnaplaw3_GraphTells_c1_w @C.catnaplaw3_GraphTells_r10_w)) (And.intro @C.catnaplaw3_GraphTells_c2_w (And.intro @C.catnaplaw3_GraphTells_r9_w @C.catnaplaw3_GraphTells_c3_w))) (And.intro (And.intro @C.catnaplaw3_GraphTells_r8_w (And.intro @C.catnaplaw3_GraphTells_c4_w @C.catnaplaw3_GraphTells_r7_w)) (And.intro @C.catnaplaw3_GraphTells_c5_w (And.intro @C.catnaplaw3_GraphTells_r6_w @C.catnaplaw3_GraphTells_c6_w)))) (And.intro (And.intro (And.intro @C.catnaplaw3_GraphTells_r5_w (And.intro @C.catnaplaw3_GraphTells_c7_w @C.catnaplaw3_GraphTells_r4_w)) (And.intro @C.catnaplaw3_GraphTells_c8_w (And.intro @C.catnaplaw3_GraphTells_c9_w @C.catnaplaw3_GraphTells_r3_w))) (And.intro (And.intro @C.catnaplaw3_GraphTells_c10_w (And.intro @C.catnaplaw3_GraphTells_r2_w @C.catnaplaw3_GraphTells_c11_w)) (And.intro @C.catnaplaw3_GraphTells_r1_w (And.intro @C.catnaplaw3_GraphTells_c12_w @C.catnaplaw3_GraphTells_r0_w))))
def C.catnaplaw3_GraphTells_B := And.intro (And.intro (And.intro @C.catnaplaw3_GraphTells_r11_b.eq_1 (And.intro @C.catnaplaw3_GraphTells_r10_b.eq_1 @C.catnaplaw3_GraphTells_r9_b.eq_1)) (And.intro @C.catnaplaw3_GraphTells_r8_b.eq_1 (And.intro @C.catnaplaw3_GraphTells_r7_b.eq_1 @C.catnaplaw3_GraphTells_r6_b.eq_1))) (And.intro (And.intro @C.catnaplaw3_GraphTells_r5_b.eq_1 (And.intro @C.catnaplaw3_GraphTells_r4_b.eq_1 @C.catnaplaw3_GraphTells_r3_b.eq_1)) (And.intro @C.catnaplaw3_GraphTells_r2_b.eq_1 (And.intro @C.catnaplaw3_GraphTells_r1_b.eq_1 @C.catnaplaw3_GraphTells_r0_b.eq_1)))

def C.catnaplaw3_GraphSides_r27_b : List IOper := [
  ⟨some 176, .move (.slot 13), none, [], []⟩,
  ⟨some 177, .call F.graph_Check [.slot 176], none, [], []⟩,
  ⟨some 178, .bin .eql (.slot 177) (.cst (.int .i64 5)), none, [], []⟩,
  ⟨some 179, .move (.slot 26), none, [], []⟩,
  ⟨some 180, .eqB false (.slot 178) (.slot 179), none, [], []⟩,
  ⟨some 181, .move (.slot 180), none, [], []⟩,
  ⟨some 182, .move (.slot 26), some (181, true), [], []⟩,
  ⟨some 183, .move (.slot 182), some (181, true), [], []⟩,
  ⟨some 184, .move (.slot 13), some (183, false), [], []⟩,
  ⟨some 185, .call F.graph_Check [.slot 184], some (183, false), [], []⟩,
  ⟨some 186, .bin .eql (.slot 185) (.cst (.int .i64 0)), some (183, false), [], []⟩,
  ⟨some 187, .pick (.slot 183) (.cst (.bool true)) (.slot 186), some (181, true), [], []⟩,
  ⟨some 188, .pick (.slot 181) (.slot 187) (.cst (.bool false)), none, [], []⟩,
  ⟨some 189, .move (.slot 188), none, [], []⟩,
  ⟨some 190, .move (.slot 28), some (189, true), [], []⟩,
  ⟨some 191, .bin .eql (.slot 190) (.cst (.int .i64 4)), some (189, true), [], []⟩,
  ⟨some 192, .move (.slot 191), some (189, true), [], []⟩,
  ⟨some 193, .move (.slot 26), some (192, false), [], []⟩,
  ⟨some 194, .move (.slot 193), some (192, false), [], []⟩,
  ⟨some 195, .move (.slot 28), some (194, true), [], []⟩,
  ⟨some 196, .bin .eql (.slot 195) (.cst (.int .i64 5)), some (194, true), [], []⟩,
  ⟨some 197, .pick (.slot 194) (.slot 196) (.cst (.bool false)), some (192, false), [], []⟩,
  ⟨some 198, .pick (.slot 192) (.cst (.bool true)) (.slot 197), some (189, true), [], []⟩,
  ⟨some 199, .pick (.slot 189) (.slot 198) (.cst (.bool false)), none, [], []⟩,
  ⟨some 10, .move (.slot 199), none, [], []⟩]
def C.catnaplaw3_GraphSides_r27 : List IOper := C.catnaplaw3_GraphSides_r27_b
theorem C.catnaplaw3_GraphSides_r27_w {k : AFr → ASt → Prop} : aops P C.catnaplaw3_GraphSides_r27 k fr st = aops P C.catnaplaw3_GraphSides_r27_b k fr st := rfl
def C.catnaplaw3_GraphSides_c1 : ICode := .keep [13, 26, 28] (.seq (.region C.catnaplaw3_GraphSides_r27) .ret)
theorem C.catnaplaw3_GraphSides_c1_w : awp P C.catnaplaw3_GraphSides_c1 Q fr st = awp P (.keep [13, 26, 28] (.seq (.region C.catnaplaw3_GraphSides_r27) .ret)) Q fr st := rfl
def C.catnaplaw3_GraphSides_r26_b : List IOper := [
  ⟨some 171, .move (.slot 13), none, [], []⟩,
  ⟨some 172, .move (.slot 12), none, [], []⟩,
  ⟨some 173, .call F.graph_Above [.slot 171, .slot 172], none, [], []⟩,
  ⟨some 170, .move (.slot 173), none, [], []⟩,
  ⟨some 174, .extract (.slot 170) 0, none, [], []⟩,
  ⟨some 175, .extract (.slot 170) 1, none, [], []⟩,
  ⟨some 27, .move (.slot 174), none, [], []⟩,
  ⟨some 28, .move (.slot 175), none, [], []⟩]
def C.catnaplaw3_GraphSides_r26 : List IOper := C.catnaplaw3_GraphSides_r26_b
theorem C.catnaplaw3_GraphSides_r26_w {k : AFr → ASt → Prop} : aops P C.catnaplaw3_GraphSides_r26 k fr st = aops P C.catnaplaw3_GraphSides_r26_b k fr st := rfl
def C.catnaplaw3_GraphSides_c2 : ICode := .keep [12, 13, 26] (.seq (.region C.catnaplaw3_GraphSides_r26) C.catnaplaw3_GraphSides_c1)
theorem C.catnaplaw3_GraphSides_c2_w : awp P C.catnaplaw3_GraphSides_c2 Q fr st = awp P (.keep [12, 13, 26] (.seq (.region C.catnaplaw3_GraphSides_r26) C.catnaplaw3_GraphSides_c1)) Q fr st := rfl
def C.catnaplaw3_GraphSides_r25_b : List IOper := [
  ⟨some 158, .move (.slot 13), none, [], []⟩,
  ⟨some 159, .move (.slot 14), none, [], []⟩,
  ⟨some 160, .buildSlice 1 0 [.int .i64 0] [], none, [], []⟩,
  ⟨some 161, .move (.slot 13), none, [], []⟩,
  ⟨some 162, .move (.slot 14), none, [], []⟩,
  ⟨some 163, .idxAddr 1 (.slot 161) (.slot 162), none, [], []⟩,
  ⟨some 164, .load1 (.slot 163), none, [], []⟩,
  ⟨some 165, .append 1 8 (.slot 160) (.slot 164), none, [], []⟩,
  ⟨some 166, .move (.slot 15), none, [], []⟩,
  ⟨some 167, .buildSlice 1 1 [.int .i64 0] [(0, 1, .slot 166)], none, [], []⟩,
  ⟨some 168, .append 1 8 (.slot 165) (.slot 167), none, [], []⟩,
  ⟨some 169, .idxAddr 1 (.slot 158) (.slot 159), none, [], []⟩,
  ⟨none, .store1 (.slot 169) (.slot 168), none, [], []⟩]
def C.catnaplaw3_GraphSides_r25 : List IOper := C.catnaplaw3_GraphSides_r25_b
theorem C.catnaplaw3_GraphSides_r25_w {k : AFr → ASt → Prop} : aops P C.catnaplaw3_GraphSides_r25 k fr st = aops P C.catnaplaw3_GraphSides_r25_b k fr st := rfl
def C.catnaplaw3_GraphSides_c3 : ICode := .keep [12, 13, 14, 15, 26] (.seq (.region C.catnaplaw3_GraphSides_r25) C.catnaplaw3_GraphSides_c2)
theorem C.catnaplaw3_GraphSides_c3_w : awp P C.catnaplaw3_GraphSides_c3 Q fr st = awp P (.keep [12, 13, 14, 15, 26] (.seq (.region C.catnaplaw3_GraphSides_r25) C.catnaplaw3_GraphSides_c2)) Q fr st := rfl
def C.catnaplaw3_GraphSides_r24_b : List IOper := [
  ⟨some 150, .move (.slot 15), none, [], []⟩,
  ⟨some 151, .move (.slot 14), none, [], []⟩,
  ⟨some 152, .bin .eql (.slot 150) (.slot 151), none, [], []⟩,
  ⟨some 153, .move (.slot 152), none, [], []⟩,
  ⟨some 154, .move (.slot 18), some (153, false), [], []⟩,
  ⟨some 155, .move (.slot 15), some (153, false), [], []⟩,
  ⟨some 156, .call F.catnapref3_Has [.slot 154, .slot 155], some (153, false), [], []⟩,
  ⟨some 157, .pick (.slot 153) (.cst (.bool true)) (.slot 156), none, [], []⟩,
  ⟨some 26, .move (.slot 157), none, [], []⟩]
def C.catnaplaw3_GraphSides_r24 : List IOper := C.catnaplaw3_GraphSides_r24_b
theorem C.catnaplaw3_GraphSides_r24_w {k : AFr → ASt → Prop} : aops P C.catnaplaw3_GraphSides_r24 k fr st = aops P C.catnaplaw3_GraphSides_r24_b k fr st := rfl
def C.catnaplaw3_GraphSides_c4 : ICode := .keep [12, 13, 14, 15, 18] (.seq (.region C.catnaplaw3_GraphSides_r24) C.catnaplaw3_GraphSides_c3)
theorem C.catnaplaw3_GraphSides_c4_w : awp P C.catnaplaw3_GraphSides_c4 Q fr st = awp P (.keep [12, 13, 14, 15, 18] (.seq (.region C.catnaplaw3_GraphSides_r24) C.catnaplaw3_GraphSides_c3)) Q fr st := rfl
def C.catnaplaw3_GraphSides_r15_b : List IOper := [
  ⟨some 109, .move (.slot 22), none, [], []⟩,
  ⟨some 110, .bin .add (.slot 109) (.cst (.int .i64 1)), none, [], []⟩,
  ⟨some 22, .move (.slot 110), none, [], []⟩]
def C.catnaplaw3_GraphSides_r15 : List IOper := C.catnaplaw3_GraphSides_r15_b
theorem C.catnaplaw3_GraphSides_r15_w {k : AFr → ASt → Prop} : aops P C.catnaplaw3_GraphSides_r15 k fr st = aops P C.catnaplaw3_GraphSides_r15_b k fr st := rfl
def C.catnaplaw3_GraphSides_c5 : ICode := .keep [12, 13, 14, 15, 16, 18, 22] (.region C.catnaplaw3_GraphSides_r15)
theorem C.catnaplaw3_GraphSides_c5_w : awp P C.catnaplaw3_GraphSides_c5 Q fr st = awp P (.keep [12, 13, 14, 15, 16, 18, 22] (.region C.catnaplaw3_GraphSides_r15)) Q fr st := rfl
def C.catnaplaw3_GraphSides_r21_b : List IOper := [
  ⟨some 141, .move (.slot 25), none, [], []⟩,
  ⟨some 142, .bin .add (.slot 141) (.cst (.int .i64 1)), none, [], []⟩,
  ⟨some 25, .move (.slot 142), none, [], []⟩]
def C.catnaplaw3_GraphSides_r21 : List IOper := C.catnaplaw3_GraphSides_r21_b
theorem C.catnaplaw3_GraphSides_r21_w {k : AFr → ASt → Prop} : aops P C.catnaplaw3_GraphSides_r21 k fr st = aops P C.catnaplaw3_GraphSides_r21_b k fr st := rfl
def C.catnaplaw3_GraphSides_c6 : ICode := .keep [12, 13, 14, 15, 16, 18, 22, 23, 25] (.region C.catnaplaw3_GraphSides_r21)
theorem C.catnaplaw3_GraphSides_c6_w : awp P C.catnaplaw3_GraphSides_c6 Q fr st = awp P (.keep [12, 13, 14, 15, 16, 18, 22, 23, 25] (.region C.catnaplaw3_GraphSides_r21)) Q fr st := rfl
def C.catnaplaw3_GraphSides_r23_b : List IOper := [
  ⟨some 10, .move (.cst (.bool false)), none, [], []⟩]
def C.catnaplaw3_GraphSides_r23 : List IOper := C.catnaplaw3_GraphSides_r23_b
theorem C.catnaplaw3_GraphSides_r23_w {k : AFr → ASt → Prop} : aops P C.catnaplaw3_GraphSides_r23 k fr st = aops P C.catnaplaw3_GraphSides_r23_b k fr st := rfl
def C.catnaplaw3_GraphSides_c7 : ICode := .seq (.region C.catnaplaw3_GraphSides_r23) .ret
theorem C.catnaplaw3_GraphSides_c7_w : awp P C.catnaplaw3_GraphSides_c7 Q fr st = awp P (.seq (.region C.catnaplaw3_GraphSides_r23) .ret) Q fr st := rfl
def C.catnaplaw3_GraphSides_c8 : ICode := .keep [12, 13, 14, 15, 16, 18, 22, 23, 25, 149] (.cond (.slot 149) C.catnaplaw3_GraphSides_c7 .skip)
theorem C.catnaplaw3_GraphSides_c8_w : awp P C.catnaplaw3_GraphSides_c8 Q fr st = awp P (.keep [12, 13, 14, 15, 16, 18, 22, 23, 25, 149] (.cond (.slot 149) C.catnaplaw3_GraphSides_c7 .skip)) Q fr st := rfl
def C.catnaplaw3_GraphSides_r22_b : List IOper := [
  ⟨some 143, .move (.slot 16), none, [], []⟩,
  ⟨some 144, .move (.slot 23), none, [], []⟩,
  ⟨some 145, .move (.slot 25), none, [], []⟩,
  ⟨some 146, .idxAddr 1 (.slot 144) (.slot 145), none, [], []⟩,
  ⟨some 147, .load1 (.slot 146), none, [], []⟩,
  ⟨some 148, .call F.catnapref3_Has [.slot 143, .slot 147], none, [], []⟩,
  ⟨some 149, .un .not (.slot 148), none, [], []⟩]
def C.catnaplaw3_GraphSides_r22 : List IOper := C.catnaplaw3_GraphSides_r22_b
theorem C.catnaplaw3_GraphSides_r22_w {k : AFr → ASt → Prop} : aops P C.catnaplaw3_GraphSides_r22 k fr st = aops P C.catnaplaw3_GraphSides_r22_b k fr st := rfl
def C.catnaplaw3_GraphSides_b9 : ICode := .seq (.region C.catnaplaw3_GraphSides_r22) C.catnaplaw3_GraphSides_c8
theorem C.catnaplaw3_GraphSides_b9_w : awp P C.catnaplaw3_GraphSides_b9 Q fr st = awp P (.seq (.region C.catnaplaw3_GraphSides_r22) C.catnaplaw3_GraphSides_c8) Q fr st := rfl
def C.catnaplaw3_GraphSides_c10 : ICode := .keep [12, 13, 14, 15, 16, 18, 22, 23, 25] (.seq (.block 3 C.catnaplaw3_GraphSides_b9) C.catnaplaw3_GraphSides_c6)
theorem C.catnaplaw3_GraphSides_c10_w : awp P C.catnaplaw3_GraphSides_c10 Q fr st = awp P (.keep [12, 13, 14, 15, 16, 18, 22, 23, 25] (.seq (.block 3 C.catnaplaw3_GraphSides_b9) C.catnaplaw3_GraphSides_c6)) Q fr st := rfl
def C.catnaplaw3_GraphSides_c11 : ICode := .keep [12, 13, 14, 15, 16, 18, 22, 23, 25, 140] (.cond (.slot 140) .skip (.exit 2))
theorem C.catnaplaw3_GraphSides_c11_w : awp P C.catnaplaw3_GraphSides_c11 Q fr st = awp P (.keep [12, 13, 14, 15, 16, 18, 22, 23, 25, 140] (.cond (.slot 140) .skip (.exit 2))) Q fr st := rfl
def C.catnaplaw3_GraphSides_r20_b : List IOper := [
  ⟨some 137, .move (.slot 25), none, [], []⟩,
  ⟨some 138, .move (.slot 23), none, [], []⟩,
  ⟨some 139, .len (.slot 138), none, [], []⟩,
  ⟨some 140, .bin .lss (.slot 137) (.slot 139), none, [], []⟩]
def C.catnaplaw3_GraphSides_r20 : List IOper := C.catnaplaw3_GraphSides_r20_b
theorem C.catnaplaw3_GraphSides_r20_w {k : AFr → ASt → Prop} : aops P C.catnaplaw3_GraphSides_r20 k fr st = aops P C.catnaplaw3_GraphSides_r20_b k fr st := rfl
def C.catnaplaw3_GraphSides_l12 : ICode := .keep [12, 13, 14, 15, 16, 18, 22, 23, 25] (.seq (.seq (.region C.catnaplaw3_GraphSides_r20) C.catnaplaw3_GraphSides_c11) C.catnaplaw3_GraphSides_c10)
theorem C.catnaplaw3_GraphSides_l12_w : awp P C.catnaplaw3_GraphSides_l12 Q fr st = awp P (.keep [12, 13, 14, 15, 16, 18, 22, 23, 25] (.seq (.seq (.region C.catnaplaw3_GraphSides_r20) C.catnaplaw3_GraphSides_c11) C.catnaplaw3_GraphSides_c10)) Q fr st := rfl
def C.catnaplaw3_GraphSides_b13 : ICode := .loop C.catnaplaw3_GraphSides_l12
theorem C.catnaplaw3_GraphSides_b13_w : awp P C.catnaplaw3_GraphSides_b13 Q fr st = awp P (.loop C.catnaplaw3_GraphSides_l12) Q fr st := rfl
def C.catnaplaw3_GraphSides_c14 : ICode := .keep [12, 13, 14, 15, 16, 18, 22, 23, 25] (.block 2 C.catnaplaw3_GraphSides_b13)
theorem C.catnaplaw3_GraphSides_c14_w : awp P C.catnaplaw3_GraphSides_c14 Q fr st = awp P (.keep [12, 13, 14, 15, 16, 18, 22, 23, 25] (.block 2 C.catnaplaw3_GraphSides_b13)) Q fr st := rfl
def C.catnaplaw3_GraphSides_r19_b : List IOper := [
  ⟨some 25, .move (.cst (.int .i64 0)), none, [], []⟩]
def C.catnaplaw3_GraphSides_r19 : List IOper := C.catnaplaw3_GraphSides_r19_b
theorem C.catnaplaw3_GraphSides_r19_w {k : AFr → ASt → Prop} : aops P C.catnaplaw3_GraphSides_r19 k fr st = aops P C.catnaplaw3_GraphSides_r19_b k fr st := rfl
def C.catnaplaw3_GraphSides_c15 : ICode := .keep [12, 13, 14, 15, 16, 18, 22, 23] (.seq (.region C.catnaplaw3_GraphSides_r19) C.catnaplaw3_GraphSides_c14)
theorem C.catnaplaw3_GraphSides_c15_w : awp P C.catnaplaw3_GraphSides_c15 Q fr st = awp P (.keep [12, 13, 14, 15, 16, 18, 22, 23] (.seq (.region C.catnaplaw3_GraphSides_r19) C.catnaplaw3_GraphSides_c14)) Q fr st := rfl
def C.catnaplaw3_GraphSides_r18_b : List IOper := [
  ⟨some 10, .move (.cst (.bool false)), none, [], []⟩]
def C.catnaplaw3_GraphSides_r18 : List IOper := C.catnaplaw3_GraphSides_r18_b
theorem C.catnaplaw3_GraphSides_r18_w {k : AFr → ASt → Prop} : aops P C.catnaplaw3_GraphSides_r18 k fr st = aops P C.catnaplaw3_GraphSides_r18_b k fr st := rfl
def C.catnaplaw3_GraphSides_c16 : ICode := .seq (.region C.catnaplaw3_GraphSides_r18) .ret
theorem C.catnaplaw3_GraphSides_c16_w : awp P C.catnaplaw3_GraphSides_c16 Q fr st = awp P (.seq (.region C.catnaplaw3_GraphSides_r18) .ret) Q fr st := rfl
def C.catnaplaw3_GraphSides_c17 : ICode := .keep [12, 13, 14, 15, 16, 18, 22, 23, 136] (.cond (.slot 136) C.catnaplaw3_GraphSides_c16 .skip)
theorem C.catnaplaw3_GraphSides_c17_w : awp P C.catnaplaw3_GraphSides_c17 Q fr st = awp P (.keep [12, 13, 14, 15, 16, 18, 22, 23, 136] (.cond (.slot 136) C.catnaplaw3_GraphSides_c16 .skip)) Q fr st := rfl
def C.catnaplaw3_GraphSides_r17_b : List IOper := [
  ⟨some 123, .move (.slot 24), none, [], []⟩,
  ⟨some 124, .bin .neq (.slot 123) (.cst (.int .i64 0)), none, [], []⟩,
  ⟨some 125, .move (.slot 124), none, [], []⟩,
  ⟨some 126, .move (.slot 16), some (125, false), [], []⟩,
  ⟨some 127, .move (.slot 13), some (125, false), [], []⟩,
  ⟨some 128, .move (.slot 14), some (125, false), [], []⟩,
  ⟨some 129, .idxAddr 1 (.slot 127) (.slot 128), some (125, false), [], []⟩,
  ⟨some 130, .load1 (.slot 129), some (125, false), [], []⟩,
  ⟨some 131, .move (.slot 22), some (125, false), [], []⟩,
  ⟨some 132, .idxAddr 1 (.slot 130) (.slot 131), some (125, false), [], []⟩,
  ⟨some 133, .load1 (.slot 132), some (125, false), [], []⟩,
  ⟨some 134, .call F.catnapref3_Has [.slot 126, .slot 133], some (125, false), [], []⟩,
  ⟨some 135, .un .not (.slot 134), some (125, false), [], []⟩,
  ⟨some 136, .pick (.slot 125) (.cst (.bool true)) (.slot 135), none, [], []⟩]
def C.catnaplaw3_GraphSides_r17 : List IOper := C.catnaplaw3_GraphSides_r17_b
theorem C.catnaplaw3_GraphSides_r17_w {k : AFr → ASt → Prop} : aops P C.catnaplaw3_GraphSides_r17 k fr st = aops P C.catnaplaw3_GraphSides_r17_b k fr st := rfl
def C.catnaplaw3_GraphSides_c18 : ICode := .keep [12, 13, 14, 15, 16, 18, 22, 23, 24] (.seq (.seq (.region C.catnaplaw3_GraphSides_r17) C.catnaplaw3_GraphSides_c17) C.catnaplaw3_GraphSides_c15)
theorem C.catnaplaw3_GraphSides_c18_w : awp P C.catnaplaw3_GraphSides_c18 Q fr st = awp P (.keep [12, 13, 14, 15, 16, 18, 22, 23, 24] (.seq (.seq (.region C.catnaplaw3_GraphSides_r17) C.catnaplaw3_GraphSides_c17) C.catnaplaw3_GraphSides_c15)) Q fr st := rfl
def C.catnaplaw3_GraphSides_r16_b : List IOper := [
  ⟨some 112, .move (.slot 13), none, [], []⟩,
  ⟨some 113, .move (.slot 13), none, [], []⟩,
  ⟨some 114, .move (.slot 14), none, [], []⟩,
  ⟨some 115, .idxAddr 1 (.slot 113) (.slot 114), none, [], []⟩,
  ⟨some 116, .load1 (.slot 115), none, [], []⟩,
  ⟨some 117, .move (.slot 22), none, [], []⟩,
  ⟨some 118, .idxAddr 1 (.slot 116) (.slot 117), none, [], []⟩,
  ⟨some 119, .load1 (.slot 118), none, [], []⟩,
  ⟨some 120, .call F.graph_Above [.slot 112, .slot 119], none, [], []⟩,
  ⟨some 111, .move (.slot 120), none, [], []⟩,
  ⟨some 121, .extract (.slot 111) 0, none, [], []⟩,
  ⟨some 122, .extract (.slot 111) 1, none, [], []⟩,
  ⟨some 23, .move (.slot 121), none, [], []⟩,
  ⟨some 24, .move (.slot 122), none, [], []⟩]
def C.catnaplaw3_GraphSides_r16 : List IOper := C.catnaplaw3_GraphSides_r16_b
theorem C.catnaplaw3_GraphSides_r16_w {k : AFr → ASt → Prop} : aops P C.catnaplaw3_GraphSides_r16 k fr st = aops P C.catnaplaw3_GraphSides_r16_b k fr st := rfl
def C.catnaplaw3_GraphSides_b19 : ICode := .seq (.region C.catnaplaw3_GraphSides_r16) C.catnaplaw3_GraphSides_c18
theorem C.catnaplaw3_GraphSides_b19_w : awp P C.catnaplaw3_GraphSides_b19 Q fr st = awp P (.seq (.region C.catnaplaw3_GraphSides_r16) C.catnaplaw3_GraphSides_c18) Q fr st := rfl
def C.catnaplaw3_GraphSides_c20 : ICode := .keep [12, 13, 14, 15, 16, 18, 22] (.seq (.block 1 C.catnaplaw3_GraphSides_b19) C.catnaplaw3_GraphSides_c5)
theorem C.catnaplaw3_GraphSides_c20_w : awp P C.catnaplaw3_GraphSides_c20 Q fr st = awp P (.keep [12, 13, 14, 15, 16, 18, 22] (.seq (.block 1 C.catnaplaw3_GraphSides_b19) C.catnaplaw3_GraphSides_c5)) Q fr st := rfl
def C.catnaplaw3_GraphSides_c21 : ICode := .keep [12, 13, 14, 15, 16, 18, 22, 108] (.cond (.slot 108) .skip (.exit 0))
theorem C.catnaplaw3_GraphSides_c21_w : awp P C.catnaplaw3_GraphSides_c21 Q fr st = awp P (.keep [12, 13, 14, 15, 16, 18, 22, 108] (.cond (.slot 108) .skip (.exit 0))) Q fr st := rfl
def C.catnaplaw3_GraphSides_r14_b : List IOper := [
  ⟨some 102, .move (.slot 22), none, [], []⟩,
  ⟨some 103, .move (.slot 13), none, [], []⟩,
  ⟨some 104, .move (.slot 14), none, [], []⟩,
  ⟨some 105, .idxAddr 1 (.slot 103) (.slot 104), none, [], []⟩,
  ⟨some 106, .load1 (.slot 105), none, [], []⟩,
  ⟨some 107, .len (.slot 106), none, [], []⟩,
  ⟨some 108, .bin .lss (.slot 102) (.slot 107), none, [], []⟩]
def C.catnaplaw3_GraphSides_r14 : List IOper := C.catnaplaw3_GraphSides_r14_b
theorem C.catnaplaw3_GraphSides_r14_w {k : AFr → ASt → Prop} : aops P C.catnaplaw3_GraphSides_r14 k fr st = aops P C.catnaplaw3_GraphSides_r14_b k fr st := rfl
def C.catnaplaw3_GraphSides_l22 : ICode := .keep [12, 13, 14, 15, 16, 18, 22] (.seq (.seq (.region C.catnaplaw3_GraphSides_r14) C.catnaplaw3_GraphSides_c21) C.catnaplaw3_GraphSides_c20)
theorem C.catnaplaw3_GraphSides_l22_w : awp P C.catnaplaw3_GraphSides_l22 Q fr st = awp P (.keep [12, 13, 14, 15, 16, 18, 22] (.seq (.seq (.region C.catnaplaw3_GraphSides_r14) C.catnaplaw3_GraphSides_c21) C.catnaplaw3_GraphSides_c20)) Q fr st := rfl
def C.catnaplaw3_GraphSides_b23 : ICode := .loop C.catnaplaw3_GraphSides_l22
theorem C.catnaplaw3_GraphSides_b23_w : awp P C.catnaplaw3_GraphSides_b23 Q fr st = awp P (.loop C.catnaplaw3_GraphSides_l22) Q fr st := rfl
def C.catnaplaw3_GraphSides_c24 : ICode := .keep [12, 13, 14, 15, 16, 18, 22] (.block 0 C.catnaplaw3_GraphSides_b23)
theorem C.catnaplaw3_GraphSides_c24_w : awp P C.catnaplaw3_GraphSides_c24 Q fr st = awp P (.keep [12, 13, 14, 15, 16, 18, 22] (.block 0 C.catnaplaw3_GraphSides_b23)) Q fr st := rfl
def C.catnaplaw3_GraphSides_r13_b : List IOper := [
  ⟨some 22, .move (.cst (.int .i64 0)), none, [], []⟩]
def C.catnaplaw3_GraphSides_r13 : List IOper := C.catnaplaw3_GraphSides_r13_b
theorem C.catnaplaw3_GraphSides_r13_w {k : AFr → ASt → Prop} : aops P C.catnaplaw3_GraphSides_r13 k fr st = aops P C.catnaplaw3_GraphSides_r13_b k fr st := rfl
def C.catnaplaw3_GraphSides_c25 : ICode := .keep [12, 13, 14, 15, 16, 18] (.seq (.seq (.region C.catnaplaw3_GraphSides_r13) C.catnaplaw3_GraphSides_c24) C.catnaplaw3_GraphSides_c4)
theorem C.catnaplaw3_GraphSides_c25_w : awp P C.catnaplaw3_GraphSides_c25 Q fr st = awp P (.keep [12, 13, 14, 15, 16, 18] (.seq (.seq (.region C.catnaplaw3_GraphSides_r13) C.catnaplaw3_GraphSides_c24) C.catnaplaw3_GraphSides_c4)) Q fr st := rfl
def C.catnaplaw3_GraphSides_r12_b : List IOper := [
  ⟨some 10, .move (.cst (.bool false)), none, [], []⟩]
def C.catnaplaw3_GraphSides_r12 : List IOper := C.catnaplaw3_GraphSides_r12_b
theorem C.catnaplaw3_GraphSides_r12_w {k : AFr → ASt → Prop} : aops P C.catnaplaw3_GraphSides_r12 k fr st = aops P C.catnaplaw3_GraphSides_r12_b k fr st := rfl
def C.catnaplaw3_GraphSides_c26 : ICode := .seq (.region C.catnaplaw3_GraphSides_r12) .ret
theorem C.catnaplaw3_GraphSides_c26_w : awp P C.catnaplaw3_GraphSides_c26 Q fr st = awp P (.seq (.region C.catnaplaw3_GraphSides_r12) .ret) Q fr st := rfl
def C.catnaplaw3_GraphSides_c27 : ICode := .keep [12, 13, 14, 15, 16, 18, 101] (.cond (.slot 101) C.catnaplaw3_GraphSides_c26 .skip)
theorem C.catnaplaw3_GraphSides_c27_w : awp P C.catnaplaw3_GraphSides_c27 Q fr st = awp P (.keep [12, 13, 14, 15, 16, 18, 101] (.cond (.slot 101) C.catnaplaw3_GraphSides_c26 .skip)) Q fr st := rfl
def C.catnaplaw3_GraphSides_r11_b : List IOper := [
  ⟨some 63, .move (.slot 17), none, [], []⟩,
  ⟨some 64, .bin .neq (.slot 63) (.cst (.int .i64 0)), none, [], []⟩,
  ⟨some 65, .move (.slot 64), none, [], []⟩,
  ⟨some 66, .move (.slot 19), some (65, false), [], []⟩,
  ⟨some 67, .bin .neq (.slot 66) (.cst (.int .i64 0)), some (65, false), [], []⟩,
  ⟨some 68, .pick (.slot 65) (.cst (.bool true)) (.slot 67), none, [], []⟩,
  ⟨some 69, .move (.slot 68), none, [], []⟩,
  ⟨some 70, .move (.slot 21), some (69, false), [], []⟩,
  ⟨some 71, .bin .neq (.slot 70) (.cst (.int .i64 0)), some (69, false), [], []⟩,
  ⟨some 72, .pick (.slot 69) (.cst (.bool true)) (.slot 71), none, [], []⟩,
  ⟨some 73, .move (.slot 72), none, [], []⟩,
  ⟨some 74, .move (.slot 16), some (73, false), [], []⟩,
  ⟨some 75, .move (.slot 14), some (73, false), [], []⟩,
  ⟨some 76, .call F.catnapref3_Has [.slot 74, .slot 75], some (73, false), [], []⟩,
  ⟨some 77, .pick (.slot 73) (.cst (.bool true)) (.slot 76), none, [], []⟩,
  ⟨some 78, .move (.slot 77), none, [], []⟩,
  ⟨some 79, .move (.slot 18), some (78, false), [], []⟩,
  ⟨some 80, .move (.slot 14), some (78, false), [], []⟩,
  ⟨some 81, .call F.catnapref3_Has [.slot 79, .slot 80], some (78, false), [], []⟩,
  ⟨some 82, .pick (.slot 78) (.cst (.bool true)) (.slot 81), none, [], []⟩,
  ⟨some 83, .move (.slot 82), none, [], []⟩,
  ⟨some 84, .move (.slot 16), some (83, false), [], []⟩,
  ⟨some 85, .move (.slot 15), some (83, false), [], []⟩,
  ⟨some 86, .call F.catnapref3_Has [.slot 84, .slot 85], some (83, false), [], []⟩,
  ⟨some 87, .move (.slot 20), some (83, false), [], []⟩,
  ⟨some 88, .move (.slot 14), some (83, false), [], []⟩,
  ⟨some 89, .call F.catnapref3_Has [.slot 87, .slot 88], some (83, false), [], []⟩,
  ⟨some 90, .eqB true (.slot 86) (.slot 89), some (83, false), [], []⟩,
  ⟨some 91, .pick (.slot 83) (.cst (.bool true)) (.slot 90), none, [], []⟩,
  ⟨some 92, .move (.slot 91), none, [], []⟩,
  ⟨some 93, .move (.slot 16), some (92, false), [], []⟩,
  ⟨some 94, .move (.slot 15), some (92, false), [], []⟩,
  ⟨some 95, .call F.catnapref3_Has [.slot 93, .slot 94], some (92, false), [], []⟩,
  ⟨some 96, .move (.slot 95), some (92, false), [], []⟩,
  ⟨some 97, .move (.slot 18), some (96, true), [], []⟩,
  ⟨some 98, .move (.slot 15), some (96, true), [], []⟩,
  ⟨some 99, .call F.catnapref3_Has [.slot 97, .slot 98], some (96, true), [], []⟩,
  ⟨some 100, .pick (.slot 96) (.slot 99) (.cst (.bool false)), some (92, false), [], []⟩,
  ⟨some 101, .pick (.slot 92) (.cst (.bool true)) (.slot 100), none, [], []⟩]
def C.catnaplaw3_GraphSides_r11 : List IOper := C.catnaplaw3_GraphSides_r11_b
theorem C.catnaplaw3_GraphSides_r11_w {k : AFr → ASt → Prop} : aops P C.catnaplaw3_GraphSides_r11 k fr st = aops P C.catnaplaw3_GraphSides_r11_b k fr st := rfl
def C.catnaplaw3_GraphSides_c28 : ICode := .keep [12, 13, 14, 15, 16, 17, 18, 19, 20, 21] (.seq (.seq (.region C.catnaplaw3_GraphSides_r11) C.catnaplaw3_GraphSides_c27) C.catnaplaw3_GraphSides_c25)
theorem C.catnaplaw3_GraphSides_c28_w : awp P C.catnaplaw3_GraphSides_c28 Q fr st = awp P (.keep [12, 13, 14, 15, 16, 17, 18, 19, 20, 21] (.seq (.seq (.region C.catnaplaw3_GraphSides_r11) C.catnaplaw3_GraphSides_c27) C.catnaplaw3_GraphSides_c25)) Q fr st := rfl
def C.catnaplaw3_GraphSides_r10_b : List IOper := [
  ⟨some 58, .move (.slot 13), none, [], []⟩,
  ⟨some 59, .move (.slot 15), none, [], []⟩,
  ⟨some 60, .call F.graph_Under [.slot 58, .slot 59], none, [], []⟩,
  ⟨some 57, .move (.slot 60), none, [], []⟩,
  ⟨some 61, .extract (.slot 57) 0, none, [], []⟩,
  ⟨some 62, .extract (.slot 57) 1, none, [], []⟩,
  ⟨some 20, .move (.slot 61), none, [], []⟩,
  ⟨some 21, .move (.slot 62), none, [], []⟩]
def C.catnaplaw3_GraphSides_r10 : List IOper := C.catnaplaw3_GraphSides_r10_b
theorem C.catnaplaw3_GraphSides_r10_w {k : AFr → ASt → Prop} : aops P C.catnaplaw3_GraphSides_r10 k fr st = aops P C.catnaplaw3_GraphSides_r10_b k fr st := rfl
def C.catnaplaw3_GraphSides_c29 : ICode := .keep [12, 13, 14, 15, 16, 17, 18, 19] (.seq (.region C.catnaplaw3_GraphSides_r10) C.catnaplaw3_GraphSides_c28)
theorem C.catnaplaw3_GraphSides_c29_w : awp P C.catnaplaw3_GraphSides_c29 Q fr st = awp P (.keep [12, 13, 14, 15, 16, 17, 18, 19] (.seq (.region C.catnaplaw3_GraphSides_r10) C.catnaplaw3_GraphSides_c28)) Q fr st := rfl
def C.catnaplaw3_GraphSides_r9_b : List IOper := [
  ⟨some 52, .move (.slot 13), none, [], []⟩,
  ⟨some 53, .move (.slot 14), none, [], []⟩,
  ⟨some 54, .call F.graph_Under [.slot 52, .slot 53], none, [], []⟩,
  ⟨some 51, .move (.slot 54), none, [], []⟩,
  ⟨some 55, .extract (.slot 51) 0, none, [], []⟩,
  ⟨some 56, .extract (.slot 51) 1, none, [], []⟩,
  ⟨some 18, .move (.slot 55), none, [], []⟩,
  ⟨some 19, .move (.slot 56), none, [], []⟩]
def C.catnaplaw3_GraphSides_r9 : List IOper := C.catnaplaw3_GraphSides_r9_b
theorem C.catnaplaw3_GraphSides_r9_w {k : AFr → ASt → Prop} : aops P C.catnaplaw3_GraphSides_r9 k fr st = aops P C.catnaplaw3_GraphSides_r9_b k fr st := rfl
def C.catnaplaw3_GraphSides_c30 : ICode := .keep [12, 13, 14, 15, 16, 17] (.seq (.region C.catnaplaw3_GraphSides_r9) C.catnaplaw3_GraphSides_c29)
theorem C.catnaplaw3_GraphSides_c30_w : awp P C.catnaplaw3_GraphSides_c30 Q fr st = awp P (.keep [12, 13, 14, 15, 16, 17] (.seq (.region C.catnaplaw3_GraphSides_r9) C.catnaplaw3_GraphSides_c29)) Q fr st := rfl
def C.catnaplaw3_GraphSides_r8_b : List IOper := [
  ⟨some 46, .move (.slot 13), none, [], []⟩,
  ⟨some 47, .move (.slot 14), none, [], []⟩,
  ⟨some 48, .call F.graph_Above [.slot 46, .slot 47], none, [], []⟩,
  ⟨some 45, .move (.slot 48), none, [], []⟩,
  ⟨some 49, .extract (.slot 45) 0, none, [], []⟩,
  ⟨some 50, .extract (.slot 45) 1, none, [], []⟩,
  ⟨some 16, .move (.slot 49), none, [], []⟩,
  ⟨some 17, .move (.slot 50), none, [], []⟩]
def C.catnaplaw3_GraphSides_r8 : List IOper := C.catnaplaw3_GraphSides_r8_b
theorem C.catnaplaw3_GraphSides_r8_w {k : AFr → ASt → Prop} : aops P C.catnaplaw3_GraphSides_r8 k fr st = aops P C.catnaplaw3_GraphSides_r8_b k fr st := rfl
def C.catnaplaw3_GraphSides_c31 : ICode := .keep [12, 13, 14, 15] (.seq (.region C.catnaplaw3_GraphSides_r8) C.catnaplaw3_GraphSides_c30)
theorem C.catnaplaw3_GraphSides_c31_w : awp P C.catnaplaw3_GraphSides_c31 Q fr st = awp P (.keep [12, 13, 14, 15] (.seq (.region C.catnaplaw3_GraphSides_r8) C.catnaplaw3_GraphSides_c30)) Q fr st := rfl
def C.catnaplaw3_GraphSides_r7_b : List IOper := [
  ⟨some 42, .move (.slot 4), none, [], []⟩,
  ⟨some 43, .move (.slot 12), none, [], []⟩,
  ⟨some 44, .call F.catnaplaw3_pick [.slot 42, .slot 43], none, [], []⟩,
  ⟨some 15, .move (.slot 44), none, [], []⟩]
def C.catnaplaw3_GraphSides_r7 : List IOper := C.catnaplaw3_GraphSides_r7_b
theorem C.catnaplaw3_GraphSides_r7_w {k : AFr → ASt → Prop} : aops P C.catnaplaw3_GraphSides_r7 k fr st = aops P C.catnaplaw3_GraphSides_r7_b k fr st := rfl
def C.catnaplaw3_GraphSides_c32 : ICode := .keep [4, 12, 13, 14] (.seq (.region C.catnaplaw3_GraphSides_r7) C.catnaplaw3_GraphSides_c31)
theorem C.catnaplaw3_GraphSides_c32_w : awp P C.catnaplaw3_GraphSides_c32 Q fr st = awp P (.keep [4, 12, 13, 14] (.seq (.region C.catnaplaw3_GraphSides_r7) C.catnaplaw3_GraphSides_c31)) Q fr st := rfl
def C.catnaplaw3_GraphSides_r6_b : List IOper := [
  ⟨some 39, .move (.slot 3), none, [], []⟩,
  ⟨some 40, .move (.slot 12), none, [], []⟩,
  ⟨some 41, .call F.catnaplaw3_pick [.slot 39, .slot 40], none, [], []⟩,
  ⟨some 14, .move (.slot 41), none, [], []⟩]
def C.catnaplaw3_GraphSides_r6 : List IOper := C.catnaplaw3_GraphSides_r6_b
theorem C.catnaplaw3_GraphSides_r6_w {k : AFr → ASt → Prop} : aops P C.catnaplaw3_GraphSides_r6 k fr st = aops P C.catnaplaw3_GraphSides_r6_b k fr st := rfl
def C.catnaplaw3_GraphSides_c33 : ICode := .keep [3, 4, 12, 13] (.seq (.region C.catnaplaw3_GraphSides_r6) C.catnaplaw3_GraphSides_c32)
theorem C.catnaplaw3_GraphSides_c33_w : awp P C.catnaplaw3_GraphSides_c33 Q fr st = awp P (.keep [3, 4, 12, 13] (.seq (.region C.catnaplaw3_GraphSides_r6) C.catnaplaw3_GraphSides_c32)) Q fr st := rfl
def C.catnaplaw3_GraphSides_r5_b : List IOper := [
  ⟨some 35, .move (.slot 12), none, [], []⟩,
  ⟨some 36, .move (.slot 1), none, [], []⟩,
  ⟨some 37, .move (.slot 2), none, [], []⟩,
  ⟨some 38, .call F.catnaplaw3_falling [.slot 35, .slot 36, .slot 37], none, [], []⟩,
  ⟨some 13, .move (.slot 38), none, [], []⟩]
def C.catnaplaw3_GraphSides_r5 : List IOper := C.catnaplaw3_GraphSides_r5_b
theorem C.catnaplaw3_GraphSides_r5_w {k : AFr → ASt → Prop} : aops P C.catnaplaw3_GraphSides_r5 k fr st = aops P C.catnaplaw3_GraphSides_r5_b k fr st := rfl
def C.catnaplaw3_GraphSides_c34 : ICode := .keep [1, 2, 3, 4, 12] (.seq (.region C.catnaplaw3_GraphSides_r5) C.catnaplaw3_GraphSides_c33)
theorem C.catnaplaw3_GraphSides_c34_w : awp P C.catnaplaw3_GraphSides_c34 Q fr st = awp P (.keep [1, 2, 3, 4, 12] (.seq (.region C.catnaplaw3_GraphSides_r5) C.catnaplaw3_GraphSides_c33)) Q fr st := rfl
def C.catnaplaw3_GraphSides_r4_b : List IOper := [
  ⟨some 32, .move (.slot 0), none, [], []⟩,
  ⟨some 33, .call F.catnaplaw3_pick [.slot 32, .cst (.int .i64 12)], none, [], []⟩,
  ⟨some 34, .bin .add (.cst (.int .i64 1)) (.slot 33), none, [], []⟩,
  ⟨some 12, .move (.slot 34), none, [], []⟩]
def C.catnaplaw3_GraphSides_r4 : List IOper := C.catnaplaw3_GraphSides_r4_b
theorem C.catnaplaw3_GraphSides_r4_w {k : AFr → ASt → Prop} : aops P C.catnaplaw3_GraphSides_r4 k fr st = aops P C.catnaplaw3_GraphSides_r4_b k fr st := rfl
def C.catnaplaw3_GraphSides_c35 : ICode := .keep [0, 1, 2, 3, 4] (.seq (.region C.catnaplaw3_GraphSides_r4) C.catnaplaw3_GraphSides_c34)
theorem C.catnaplaw3_GraphSides_c35_w : awp P C.catnaplaw3_GraphSides_c35 Q fr st = awp P (.keep [0, 1, 2, 3, 4] (.seq (.region C.catnaplaw3_GraphSides_r4) C.catnaplaw3_GraphSides_c34)) Q fr st := rfl
def C.catnaplaw3_GraphSides_r3_b : List IOper := [
  ⟨some 10, .move (.cst (.bool false)), none, [], []⟩]
def C.catnaplaw3_GraphSides_r3 : List IOper := C.catnaplaw3_GraphSides_r3_b
theorem C.catnaplaw3_GraphSides_r3_w {k : AFr → ASt → Prop} : aops P C.catnaplaw3_GraphSides_r3 k fr st = aops P C.catnaplaw3_GraphSides_r3_b k fr st := rfl
def C.catnaplaw3_GraphSides_c36 : ICode := .seq (.region C.catnaplaw3_GraphSides_r3) .ret
theorem C.catnaplaw3_GraphSides_c36_w : awp P C.catnaplaw3_GraphSides_c36 Q fr st = awp P (.seq (.region C.catnaplaw3_GraphSides_r3) .ret) Q fr st := rfl
def C.catnaplaw3_GraphSides_c37 : ICode := .keep [0, 1, 2, 3, 4, 31] (.cond (.slot 31) C.catnaplaw3_GraphSides_c36 .skip)
theorem C.catnaplaw3_GraphSides_c37_w : awp P C.catnaplaw3_GraphSides_c37 Q fr st = awp P (.keep [0, 1, 2, 3, 4, 31] (.cond (.slot 31) C.catnaplaw3_GraphSides_c36 .skip)) Q fr st := rfl
def C.catnaplaw3_GraphSides_r2_b : List IOper := [
  ⟨some 30, .move (.slot 11), none, [], []⟩,
  ⟨some 31, .un .not (.slot 30), none, [], []⟩]
def C.catnaplaw3_GraphSides_r2 : List IOper := C.catnaplaw3_GraphSides_r2_b
theorem C.catnaplaw3_GraphSides_r2_w {k : AFr → ASt → Prop} : aops P C.catnaplaw3_GraphSides_r2 k fr st = aops P C.catnaplaw3_GraphSides_r2_b k fr st := rfl
def C.catnaplaw3_GraphSides_c38 : ICode := .keep [0, 1, 2, 3, 4, 11] (.seq (.seq (.region C.catnaplaw3_GraphSides_r2) C.catnaplaw3_GraphSides_c37) C.catnaplaw3_GraphSides_c35)
theorem C.catnaplaw3_GraphSides_c38_w : awp P C.catnaplaw3_GraphSides_c38 Q fr st = awp P (.keep [0, 1, 2, 3, 4, 11] (.seq (.seq (.region C.catnaplaw3_GraphSides_r2) C.catnaplaw3_GraphSides_c37) C.catnaplaw3_GraphSides_c35)) Q fr st := rfl
def C.catnaplaw3_GraphSides_r1_b : List IOper := [
  ⟨some 29, .call F.catnaplaw3_shown [], none, [], []⟩,
  ⟨some 11, .move (.slot 29), none, [], []⟩]
def C.catnaplaw3_GraphSides_r1 : List IOper := C.catnaplaw3_GraphSides_r1_b
theorem C.catnaplaw3_GraphSides_r1_w {k : AFr → ASt → Prop} : aops P C.catnaplaw3_GraphSides_r1 k fr st = aops P C.catnaplaw3_GraphSides_r1_b k fr st := rfl
def C.catnaplaw3_GraphSides_c39 : ICode := .keep [0, 1, 2, 3, 4] (.seq (.region C.catnaplaw3_GraphSides_r1) C.catnaplaw3_GraphSides_c38)
theorem C.catnaplaw3_GraphSides_c39_w : awp P C.catnaplaw3_GraphSides_c39 Q fr st = awp P (.keep [0, 1, 2, 3, 4] (.seq (.region C.catnaplaw3_GraphSides_r1) C.catnaplaw3_GraphSides_c38)) Q fr st := rfl
def C.catnaplaw3_GraphSides_r0_b : List IOper := [
  ⟨some 10, .move (.cst (.bool false)), none, [], []⟩]
def C.catnaplaw3_GraphSides_r0 : List IOper := C.catnaplaw3_GraphSides_r0_b
theorem C.catnaplaw3_GraphSides_r0_w {k : AFr → ASt → Prop} : aops P C.catnaplaw3_GraphSides_r0 k fr st = aops P C.catnaplaw3_GraphSides_r0_b k fr st := rfl
def C.catnaplaw3_GraphSides : IFunc := ⟨5, [.slot 10], .seq (.region C.catnaplaw3_GraphSides_r0) C.catnaplaw3_GraphSides_c39⟩
def C.catnaplaw3_GraphSides_W := And.intro (And.intro (And.intro (And.intro (And.intro (And.intro @C.catnaplaw3_GraphSides_r27_w @C.catnaplaw3_GraphSides_c1_w) (And.intro @C.catnaplaw3_GraphSides_r26_w @C.catnaplaw3_GraphSides_c2_w)) (And.intro (And.intro @C.catnaplaw3_GraphSides_r25_w @C.catnaplaw3_GraphSides_c3_w) (And.intro @C.catnaplaw3_GraphSides_r24_w @C.catnaplaw3_GraphSides_c4_w))) (And.intro (And.intro (And.intro @C.catnaplaw3_GraphSides_r15_w @C.catnaplaw3_GraphSides_c5_w) (And.intro @C.catnaplaw3_GraphSides_r21_w @C.catnaplaw3_GraphSides_c6_w)) (And.intro (And.intro @C.catnaplaw3_GraphSides_r23_w @C.catnaplaw3_GraphSides_c7_w) (And.intro @C.catnaplaw3_GraphSides_c8_w @C.catnaplaw3_GraphSides_r22_w)))) (And.intro (And.intro (And.intro (And.intro @C.catnaplaw3_GraphSides_b9_w @C.catnaplaw3_GraphSides_c10_w) (And.intro @C.catnaplaw3_GraphSides_c11_w @C.catnaplaw3_GraphSides_r20_w)) (And.intro (And.intro @C.catnaplaw3_GraphSides_b13_w @C.catnaplaw3_GraphSides_c14_w) (And.intro @C.catnaplaw3_GraphSides_r19_w @C.catnaplaw3_GraphSides_c15_w))) (And.intro (And.intro (And.intro @C.catnaplaw3_GraphSides_r18_w @C.catnaplaw3_GraphSides_c16_w) (And.intro @C.catnaplaw3_GraphSides_c17_w @C.catnaplaw3_GraphSides_r17_w)) (And.intro (And.intro @C.catnaplaw3_GraphSides_c18_w @C.catnaplaw3_GraphSides_r16_w) (And.intro @C.catnaplaw3_GraphSides_b19_w @C.catnaplaw3_GraphSides_c20_w))))) (And.intro (And.intro (And.intro (And.intro (And.intro @C.catnaplaw3_GraphSides_c21_w @C.catnaplaw3_GraphSides_r14_w) (And.intro @C.catnaplaw3_GraphSides_b23_w @C.catnaplaw3_GraphSides_c24_w)) (And.intro (And.intro @C.catnaplaw3_GraphSides_r13_w @C.catnaplaw3_GraphSides_c25_w) (And.intro @C.catnaplaw3_GraphSides_r12_w @C.catnaplaw3_GraphSides_c26_w))) (And.intro (And.intro (And.intro @C.catnaplaw3_GraphSides_c27_w @C.catnaplaw3_GraphSides_r11_w) (And.intro @C.catnaplaw3_GraphSides_c28_w @C.catnaplaw3_GraphSides_r10_w)) (And.intro (And.intro @C.catnaplaw3_GraphSides_c29_w @C.catnaplaw3_GraphSides_r9_w) (And.intro @C.catnaplaw3_GraphSides_c30_w @C.catnaplaw3_GraphSides_r8_w)))) (And.intro (And.intro (And.intro (And.intro @C.catnaplaw3_GraphSides_c31_w @C.catnaplaw3_GraphSides_r7_w) (And.intro @C.catnaplaw3_GraphSides_c32_w @C.catnaplaw3_GraphSides_r6_w)) (And.intro (And.intro @C.catnaplaw3_GraphSides_c33_w @C.catnaplaw3_GraphSides_r5_w) (And.intro @C.catnaplaw3_GraphSides_c34_w @C.catnaplaw3_GraphSides_r4_w))) (And.intro (And.intro (And.intro @C.catnaplaw3_GraphSides_c35_w @C.catnaplaw3_GraphSides_r3_w) (And.intro @C.catnaplaw3_GraphSides_c36_w @C.catnaplaw3_GraphSides_c37_w)) (And.intro (And.intro @C.catnaplaw3_GraphSides_r2_w @C.catnaplaw3_GraphSides_c38_w) (And.intro @C.catnaplaw3_GraphSides_r1_w (And.intro @C.catnaplaw3_GraphSides_c39_w @C.catnaplaw3_GraphSides_r0_w))))))
def C.catnaplaw3_GraphSides_B := And.intro (And.intro (And.intro (And.intro @C.catnaplaw3_GraphSides_r27_b.eq_1 (And.intro @C.catnaplaw3_GraphSides_r26_b.eq_1 @C.catnaplaw3_GraphSides_r25_b.eq_1)) (And.intro (And.intro @C.catnaplaw3_GraphSides_r24_b.eq_1 @C.catnaplaw3_GraphSides_r15_b.eq_1) (And.intro @C.catnaplaw3_GraphSides_r21_b.eq_1 @C.catnaplaw3_GraphSides_r23_b.eq_1))) (And.intro (And.intro @C.catnaplaw3_GraphSides_r22_b.eq_1 (And.intro @C.catnaplaw3_GraphSides_r20_b.eq_1 @C.catnaplaw3_GraphSides_r19_b.eq_1)) (And.intro (And.intro @C.catnaplaw3_GraphSides_r18_b.eq_1 @C.catnaplaw3_GraphSides_r17_b.eq_1) (And.intro @C.catnaplaw3_GraphSides_r16_b.eq_1 @C.catnaplaw3_GraphSides_r14_b.eq_1)))) (And.intro (And.intro (And.intro @C.catnaplaw3_GraphSides_r13_b.eq_1 (And.intro @C.catnaplaw3_GraphSides_r12_b.eq_1 @C.catnaplaw3_GraphSides_r11_b.eq_1)) (And.intro (And.intro @C.catnaplaw3_GraphSides_r10_b.eq_1 @C.catnaplaw3_GraphSides_r9_b.eq_1) (And.intro @C.catnaplaw3_GraphSides_r8_b.eq_1 @C.catnaplaw3_GraphSides_r7_b.eq_1))) (And.intro (And.intro @C.catnaplaw3_GraphSides_r6_b.eq_1 (And.intro @C.catnaplaw3_GraphSides_r5_b.eq_1 @C.catnaplaw3_GraphSides_r4_b.eq_1)) (And.intro (And.intro @C.catnaplaw3_GraphSides_r3_b.eq_1 @C.catnaplaw3_GraphSides_r2_b.eq_1) (And.intro @C.catnaplaw3_GraphSides_r1_b.eq_1 @C.catnaplaw3_GraphSides_r0_b.eq_1))))

def C.catnaplaw3_shown_r2_b : List IOper := [
  ⟨some 11, .move (.slot 2), none, [], []⟩,
  ⟨some 12, .bin .eql (.slot 11) (.cst (.int .i64 0)), none, [], []⟩,
  ⟨some 13, .move (.slot 12), none, [], []⟩,
  ⟨some 14, .move (.slot 1), some (13, true), [], []⟩,
  ⟨some 15, .buildSlice 1 3 [.int .i64 0] [(0, 1, .cst (.int .i64 1)), (1, 1, .cst (.int .i64 2)), (2, 1, .cst (.int .i64 0))], some (13, true), [], []⟩,
  ⟨some 16, .call F.catnaplaw3_same [.slot 14, .slot 15], some (13, true), [], []⟩,
  ⟨some 17, .pick (.slot 13) (.slot 16) (.cst (.bool false)), none, [], []⟩,
  ⟨some 0, .move (.slot 17), none, [], []⟩]
def C.catnaplaw3_shown_r2 : List IOper := C.catnaplaw3_shown_r2_b
theorem C.catnaplaw3_shown_r2_w {k : AFr → ASt → Prop} : aops P C.catnaplaw3_shown_r2 k fr st = aops P C.catnaplaw3_shown_r2_b k fr st := rfl
def C.catnaplaw3_shown_c1 : ICode := .keep [1, 2] (.seq (.region C.catnaplaw3_shown_r2) .ret)
theorem C.catnaplaw3_shown_c1_w : awp P C.catnaplaw3_shown_c1 Q fr st = awp P (.keep [1, 2] (.seq (.region C.catnaplaw3_shown_r2) .ret)) Q fr st := rfl
def C.catnaplaw3_shown_r1_b : List IOper := [
  ⟨some 4, .buildSlice 1 1 [.int .i64 0] [(0, 1, .cst (.int .i64 2))], none, [], []⟩,
  ⟨some 5, .buildSlice 1 0 [.int .i64 0] [], none, [], []⟩,
  ⟨some 6, .buildSlice 1 1 [.int .i64 0] [(0, 1, .cst (.int .i64 1))], none, [], []⟩,
  ⟨some 7, .buildSlice 1 3 [.nils] [(0, 1, .slot 4), (1, 1, .slot 5), (2, 1, .slot 6)], none, [], []⟩,
  ⟨some 8, .call F.graph_Order [.slot 7], none, [], []⟩,
  ⟨some 3, .move (.slot 8), none, [], []⟩,
  ⟨some 9, .extract (.slot 3) 0, none, [], []⟩,
  ⟨some 10, .extract (.slot 3) 1, none, [], []⟩,
  ⟨some 1, .move (.slot 9), none, [], []⟩,
  ⟨some 2, .move (.slot 10), none, [], []⟩]
def C.catnaplaw3_shown_r1 : List IOper := C.catnaplaw3_shown_r1_b
theorem C.catnaplaw3_shown_r1_w {k : AFr → ASt → Prop} : aops P C.catnaplaw3_shown_r1 k fr st = aops P C.catnaplaw3_shown_r1_b k fr st := rfl
def C.catnaplaw3_shown_c2 : ICode := .keep [] (.seq (.region C.catnaplaw3_shown_r1) C.catnaplaw3_shown_c1)
theorem C.catnaplaw3_shown_c2_w : awp P C.catnaplaw3_shown_c2 Q fr st = awp P (.keep [] (.seq (.region C.catnaplaw3_shown_r1) C.catnaplaw3_shown_c1)) Q fr st := rfl
def C.catnaplaw3_shown_r0_b : List IOper := [
  ⟨some 0, .move (.cst (.bool false)), none, [], []⟩]
def C.catnaplaw3_shown_r0 : List IOper := C.catnaplaw3_shown_r0_b
theorem C.catnaplaw3_shown_r0_w {k : AFr → ASt → Prop} : aops P C.catnaplaw3_shown_r0 k fr st = aops P C.catnaplaw3_shown_r0_b k fr st := rfl
def C.catnaplaw3_shown : IFunc := ⟨0, [.slot 0], .seq (.region C.catnaplaw3_shown_r0) C.catnaplaw3_shown_c2⟩
def C.catnaplaw3_shown_W := And.intro (And.intro @C.catnaplaw3_shown_r2_w @C.catnaplaw3_shown_c1_w) (And.intro @C.catnaplaw3_shown_r1_w (And.intro @C.catnaplaw3_shown_c2_w @C.catnaplaw3_shown_r0_w))
def C.catnaplaw3_shown_B := And.intro @C.catnaplaw3_shown_r2_b.eq_1 (And.intro @C.catnaplaw3_shown_r1_b.eq_1 @C.catnaplaw3_shown_r0_b.eq_1)

def C.catnaplaw3_pick_r3_b : List IOper := [
  ⟨some 10, .move (.slot 0), none, [], []⟩,
  ⟨some 11, .move (.slot 1), none, [], []⟩,
  ⟨some 12, .bin .rem (.slot 10) (.slot 11), none, [], []⟩,
  ⟨some 4, .move (.slot 12), none, [], []⟩]
def C.catnaplaw3_pick_r3 : List IOper := C.catnaplaw3_pick_r3_b
theorem C.catnaplaw3_pick_r3_w {k : AFr → ASt → Prop} : aops P C.catnaplaw3_pick_r3 k fr st = aops P C.catnaplaw3_pick_r3_b k fr st := rfl
def C.catnaplaw3_pick_c1 : ICode := .keep [0, 1] (.seq (.region C.catnaplaw3_pick_r3) .ret)
theorem C.catnaplaw3_pick_c1_w : awp P C.catnaplaw3_pick_c1 Q fr st = awp P (.keep [0, 1] (.seq (.region C.catnaplaw3_pick_r3) .ret)) Q fr st := rfl
def C.catnaplaw3_pick_r2_b : List IOper := [
  ⟨some 7, .move (.slot 0), none, [], []⟩,
  ⟨some 8, .bin .add (.slot 7) (.cst (.int .i64 1)), none, [], []⟩,
  ⟨some 9, .un .neg (.slot 8), none, [], []⟩,
  ⟨some 0, .move (.slot 9), none, [], []⟩]
def C.catnaplaw3_pick_r2 : List IOper := C.catnaplaw3_pick_r2_b
theorem C.catnaplaw3_pick_r2_w {k : AFr → ASt → Prop} : aops P C.catnaplaw3_pick_r2 k fr st = aops P C.catnaplaw3_pick_r2_b k fr st := rfl
def C.catnaplaw3_pick_c2 : ICode := .keep [0, 1, 6] (.cond (.slot 6) (.region C.catnaplaw3_pick_r2) .skip)
theorem C.catnaplaw3_pick_c2_w : awp P C.catnaplaw3_pick_c2 Q fr st = awp P (.keep [0, 1, 6] (.cond (.slot 6) (.region C.catnaplaw3_pick_r2) .skip)) Q fr st := rfl
def C.catnaplaw3_pick_r1_b : List IOper := [
  ⟨some 5, .move (.slot 0), none, [], []⟩,
  ⟨some 6, .bin .lss (.slot 5) (.cst (.int .i64 0)), none, [], []⟩]
def C.catnaplaw3_pick_r1 : List IOper := C.catnaplaw3_pick_r1_b
theorem C.catnaplaw3_pick_r1_w {k : AFr → ASt → Prop} : aops P C.catnaplaw3_pick_r1 k fr st = aops P C.catnaplaw3_pick_r1_b k fr st := rfl
def C.catnaplaw3_pick_c3 : ICode := .keep [0, 1] (.seq (.seq (.region C.catnaplaw3_pick_r1) C.catnaplaw3_pick_c2) C.catnaplaw3_pick_c1)
theorem C.catnaplaw3_pick_c3_w : awp P C.catnaplaw3_pick_c3 Q fr st = awp P (.keep [0, 1] (.seq (.seq (.region C.catnaplaw3_pick_r1) C.catnaplaw3_pick_c2) C.catnaplaw3_pick_c1)) Q fr st := rfl
def C.catnaplaw3_pick_r0_b : List IOper := [
  ⟨some 4, .move (.cst (.int .i64 0)), none, [], []⟩]
def C.catnaplaw3_pick_r0 : List IOper := C.catnaplaw3_pick_r0_b
theorem C.catnaplaw3_pick_r0_w {k : AFr → ASt → Prop} : aops P C.catnaplaw3_pick_r0 k fr st = aops P C.catnaplaw3_pick_r0_b k fr st := rfl
def C.catnaplaw3_pick : IFunc := ⟨2, [.slot 4], .seq (.region C.catnaplaw3_pick_r0) C.catnaplaw3_pick_c3⟩
def C.catnaplaw3_pick_W := And.intro (And.intro @C.catnaplaw3_pick_r3_w (And.intro @C.catnaplaw3_pick_c1_w @C.catnaplaw3_pick_r2_w)) (And.intro (And.intro @C.catnaplaw3_pick_c2_w @C.catnaplaw3_pick_r1_w) (And.intro @C.catnaplaw3_pick_c3_w @C.catnaplaw3_pick_r0_w))
def C.catnaplaw3_pick_B := And.intro (And.intro @C.catnaplaw3_pick_r3_b.eq_1 @C.catnaplaw3_pick_r2_b.eq_1) (And.intro @C.catnaplaw3_pick_r1_b.eq_1 @C.catnaplaw3_pick_r0_b.eq_1)

def C.catnaplaw3_falling_r10_b : List IOper := [
  ⟨some 73, .move (.slot 7), none, [], []⟩,
  ⟨some 6, .move (.slot 73), none, [], []⟩]
def C.catnaplaw3_falling_r10 : List IOper := C.catnaplaw3_falling_r10_b
theorem C.catnaplaw3_falling_r10_w {k : AFr → ASt → Prop} : aops P C.catnaplaw3_falling_r10 k fr st = aops P C.catnaplaw3_falling_r10_b k fr st := rfl
def C.catnaplaw3_falling_c1 : ICode := .keep [7] (.seq (.region C.catnaplaw3_falling_r10) .ret)
theorem C.catnaplaw3_falling_c1_w : awp P C.catnaplaw3_falling_c1 Q fr st = awp P (.keep [7] (.seq (.region C.catnaplaw3_falling_r10) .ret)) Q fr st := rfl
def C.catnaplaw3_falling_r4_b : List IOper := [
  ⟨some 25, .move (.slot 8), none, [], []⟩,
  ⟨some 26, .bin .add (.slot 25) (.cst (.int .i64 1)), none, [], []⟩,
  ⟨some 8, .move (.slot 26), none, [], []⟩]
def C.catnaplaw3_falling_r4 : List IOper := C.catnaplaw3_falling_r4_b
theorem C.catnaplaw3_falling_r4_w {k : AFr → ASt → Prop} : aops P C.catnaplaw3_falling_r4 k fr st = aops P C.catnaplaw3_falling_r4_b k fr st := rfl
def C.catnaplaw3_falling_c2 : ICode := .keep [0, 1, 2, 7, 8] (.region C.catnaplaw3_falling_r4)
theorem C.catnaplaw3_falling_c2_w : awp P C.catnaplaw3_falling_c2 Q fr st = awp P (.keep [0, 1, 2, 7, 8] (.region C.catnaplaw3_falling_r4)) Q fr st := rfl
def C.catnaplaw3_falling_r8_b : List IOper := [
  ⟨some 44, .move (.slot 7), none, [], []⟩,
  ⟨some 45, .move (.slot 0), none, [], []⟩,
  ⟨some 46, .bin .sub (.slot 45) (.cst (.int .i64 1)), none, [], []⟩,
  ⟨some 47, .move (.slot 9), none, [], []⟩,
  ⟨some 48, .bin .sub (.slot 46) (.slot 47), none, [], []⟩,
  ⟨some 49, .move (.slot 7), none, [], []⟩,
  ⟨some 50, .move (.slot 0), none, [], []⟩,
  ⟨some 51, .bin .sub (.slot 50) (.cst (.int .i64 1)), none, [], []⟩,
  ⟨some 52, .move (.slot 9), none, [], []⟩,
  ⟨some 53, .bin .sub (.slot 51) (.slot 52), none, [], []⟩,
  ⟨some 54, .idxAddr 1 (.slot 49) (.slot 53), none, [], []⟩,
  ⟨some 55, .load1 (.slot 54), none, [], []⟩,
  ⟨some 56, .move (.slot 0), none, [], []⟩,
  ⟨some 57, .bin .sub (.slot 56) (.cst (.int .i64 1)), none, [], []⟩,
  ⟨some 58, .move (.slot 10), none, [], []⟩,
  ⟨some 59, .bin .sub (.slot 57) (.slot 58), none, [], []⟩,
  ⟨some 60, .buildSlice 1 1 [.int .i64 0] [(0, 1, .slot 59)], none, [], []⟩,
  ⟨some 61, .append 1 8 (.slot 55) (.slot 60), none, [], []⟩,
  ⟨some 62, .idxAddr 1 (.slot 44) (.slot 48), none, [], []⟩,
  ⟨none, .store1 (.slot 62) (.slot 61), none, [], []⟩]
def C.catnaplaw3_falling_r8 : List IOper := C.catnaplaw3_falling_r8_b
theorem C.catnaplaw3_falling_r8_w {k : AFr → ASt → Prop} : aops P C.catnaplaw3_falling_r8 k fr st = aops P C.catnaplaw3_falling_r8_b k fr st := rfl
def C.catnaplaw3_falling_r9_b : List IOper := [
  ⟨some 63, .move (.slot 7), none, [], []⟩,
  ⟨some 64, .move (.slot 9), none, [], []⟩,
  ⟨some 65, .move (.slot 7), none, [], []⟩,
  ⟨some 66, .move (.slot 9), none, [], []⟩,
  ⟨some 67, .idxAddr 1 (.slot 65) (.slot 66), none, [], []⟩,
  ⟨some 68, .load1 (.slot 67), none, [], []⟩,
  ⟨some 69, .move (.slot 10), none, [], []⟩,
  ⟨some 70, .buildSlice 1 1 [.int .i64 0] [(0, 1, .slot 69)], none, [], []⟩,
  ⟨some 71, .append 1 8 (.slot 68) (.slot 70), none, [], []⟩,
  ⟨some 72, .idxAddr 1 (.slot 63) (.slot 64), none, [], []⟩,
  ⟨none, .store1 (.slot 72) (.slot 71), none, [], []⟩]
def C.catnaplaw3_falling_r9 : List IOper := C.catnaplaw3_falling_r9_b
theorem C.catnaplaw3_falling_r9_w {k : AFr → ASt → Prop} : aops P C.catnaplaw3_falling_r9 k fr st = aops P C.catnaplaw3_falling_r9_b k fr st := rfl
def C.catnaplaw3_falling_c3 : ICode := .region C.catnaplaw3_falling_r8
theorem C.catnaplaw3_falling_c3_w : awp P C.catnaplaw3_falling_c3 Q fr st = awp P (.region C.catnaplaw3_falling_r8) Q fr st := rfl
def C.catnaplaw3_falling_c4 : ICode := .region C.catnaplaw3_falling_r9
theorem C.catnaplaw3_falling_c4_w : awp P C.catnaplaw3_falling_c4 Q fr st = awp P (.region C.catnaplaw3_falling_r9) Q fr st := rfl
def C.catnaplaw3_falling_c5 : ICode := .keep [0, 1, 2, 7, 8, 9, 10, 43] (.cond (.slot 43) C.catnaplaw3_falling_c3 C.catnaplaw3_falling_c4)
theorem C.catnaplaw3_falling_c5_w : awp P C.catnaplaw3_falling_c5 Q fr st = awp P (.keep [0, 1, 2, 7, 8, 9, 10, 43] (.cond (.slot 43) C.catnaplaw3_falling_c3 C.catnaplaw3_falling_c4)) Q fr st := rfl
def C.catnaplaw3_falling_r7_b : List IOper := [
  ⟨some 43, .move (.slot 2), none, [], []⟩]
def C.catnaplaw3_falling_r7 : List IOper := C.catnaplaw3_falling_r7_b
theorem C.catnaplaw3_falling_r7_w {k : AFr → ASt → Prop} : aops P C.catnaplaw3_falling_r7 k fr st = aops P C.catnaplaw3_falling_r7_b k fr st := rfl
def C.catnaplaw3_falling_c6 : ICode := .keep [0, 1, 2, 7, 8, 9, 10] (.seq (.region C.catnaplaw3_falling_r7) C.catnaplaw3_falling_c5)
theorem C.catnaplaw3_falling_c6_w : awp P C.catnaplaw3_falling_c6 Q fr st = awp P (.keep [0, 1, 2, 7, 8, 9, 10] (.seq (.region C.catnaplaw3_falling_r7) C.catnaplaw3_falling_c5)) Q fr st := rfl
def C.catnaplaw3_falling_r6_b : List IOper := [
  ⟨some 35, .move (.slot 1), none, [], []⟩,
  ⟨some 36, .move (.slot 8), none, [], []⟩,
  ⟨some 37, .idxAddr 1 (.slot 35) (.slot 36), none, [], []⟩,
  ⟨some 38, .load1 (.slot 37), none, [], []⟩,
  ⟨some 39, .move (.slot 0), none, [], []⟩,
  ⟨some 40, .bin .quo (.slot 38) (.slot 39), none, [], []⟩,
  ⟨some 41, .move (.slot 9), none, [], []⟩,
  ⟨some 42, .call F.catnaplaw3_pick [.slot 40, .slot 41], none, [], []⟩,
  ⟨some 10, .move (.slot 42), none, [], []⟩]
def C.catnaplaw3_falling_r6 : List IOper := C.catnaplaw3_falling_r6_b
theorem C.catnaplaw3_falling_r6_w {k : AFr → ASt → Prop} : aops P C.catnaplaw3_falling_r6 k fr st = aops P C.catnaplaw3_falling_r6_b k fr st := rfl
def C.catnaplaw3_falling_c7 : ICode := .keep [0, 1, 2, 7, 8, 9] (.seq (.region C.catnaplaw3_falling_r6) C.catnaplaw3_falling_c6)
theorem C.catnaplaw3_falling_c7_w : awp P C.catnaplaw3_falling_c7 Q fr st = awp P (.keep [0, 1, 2, 7, 8, 9] (.seq (.region C.catnaplaw3_falling_r6) C.catnaplaw3_falling_c6)) Q fr st := rfl
def C.catnaplaw3_falling_r5_b : List IOper := [
  ⟨some 27, .move (.slot 1), none, [], []⟩,
  ⟨some 28, .move (.slot 8), none, [], []⟩,
  ⟨some 29, .idxAddr 1 (.slot 27) (.slot 28), none, [], []⟩,
  ⟨some 30, .load1 (.slot 29), none, [], []⟩,
  ⟨some 31, .move (.slot 0), none, [], []⟩,
  ⟨some 32, .bin .sub (.slot 31) (.cst (.int .i64 1)), none, [], []⟩,
  ⟨some 33, .call F.catnaplaw3_pick [.slot 30, .slot 32], none, [], []⟩,
  ⟨some 34, .bin .add (.cst (.int .i64 1)) (.slot 33), none, [], []⟩,
  ⟨some 9, .move (.slot 34), none, [], []⟩]
def C.catnaplaw3_falling_r5 : List IOper := C.catnaplaw3_falling_r5_b
theorem C.catnaplaw3_falling_r5_w {k : AFr → ASt → Prop} : aops P C.catnaplaw3_falling_r5 k fr st = aops P C.catnaplaw3_falling_r5_b k fr st := rfl
def C.catnaplaw3_falling_b8 : ICode := .seq (.region C.catnaplaw3_falling_r5) C.catnaplaw3_falling_c7
theorem C.catnaplaw3_falling_b8_w : awp P C.catnaplaw3_falling_b8 Q fr st = awp P (.seq (.region C.catnaplaw3_falling_r5) C.catnaplaw3_falling_c7) Q fr st := rfl
def C.catnaplaw3_falling_c9 : ICode := .keep [0, 1, 2, 7, 8] (.seq (.block 1 C.catnaplaw3_falling_b8) C.catnaplaw3_falling_c2)
theorem C.catnaplaw3_falling_c9_w : awp P C.catnaplaw3_falling_c9 Q fr st = awp P (.keep [0, 1, 2, 7, 8] (.seq (.block 1 C.catnaplaw3_falling_b8) C.catnaplaw3_falling_c2)) Q fr st := rfl
def C.catnaplaw3_falling_c10 : ICode := .keep [0, 1, 2, 7, 8, 24] (.cond (.slot 24) .skip (.exit 0))
theorem C.catnaplaw3_falling_c10_w : awp P C.catnaplaw3_falling_c10 Q fr st = awp P (.keep [0, 1, 2, 7, 8, 24] (.cond (.slot 24) .skip (.exit 0))) Q fr st := rfl
def C.catnaplaw3_falling_r3_b : List IOper := [
  ⟨some 13, .move (.slot 8), none, [], []⟩,
  ⟨some 14, .move (.slot 1), none, [], []⟩,
  ⟨some 15, .len (.slot 14), none, [], []⟩,
  ⟨some 16, .bin .lss (.slot 13) (.slot 15), none, [], []⟩,
  ⟨some 17, .move (.slot 16), none, [], []⟩,
  ⟨some 18, .move (.slot 8), some (17, true), [], []⟩,
  ⟨some 19, .bin .lss (.slot 18) (.cst (.int .i64 40)), some (17, true), [], []⟩,
  ⟨some 20, .pick (.slot 17) (.slot 19) (.cst (.bool false)), none, [], []⟩,
  ⟨some 21, .move (.slot 20), none, [], []⟩,
  ⟨some 22, .move (.slot 0), some (21, true), [], []⟩,
  ⟨some 23, .bin .gtr (.slot 22) (.cst (.int .i64 1)), some (21, true), [], []⟩,
  ⟨some 24, .pick (.slot 21) (.slot 23) (.cst (.bool false)), none, [], []⟩]
def C.catnaplaw3_falling_r3 : List IOper := C.catnaplaw3_falling_r3_b
theorem C.catnaplaw3_falling_r3_w {k : AFr → ASt → Prop} : aops P C.catnaplaw3_falling_r3 k fr st = aops P C.catnaplaw3_falling_r3_b k fr st := rfl
def C.catnaplaw3_falling_l11 : ICode := .keep [0, 1, 2, 7, 8] (.seq (.seq (.region C.catnaplaw3_falling_r3) C.catnaplaw3_falling_c10) C.catnaplaw3_falling_c9)
theorem C.catnaplaw3_falling_l11_w : awp P C.catnaplaw3_falling_l11 Q fr st = awp P (.keep [0, 1, 2, 7, 8] (.seq (.seq (.region C.catnaplaw3_falling_r3) C.catnaplaw3_falling_c10) C.catnaplaw3_falling_c9)) Q fr st := rfl
def C.catnaplaw3_falling_b12 : ICode := .loop C.catnaplaw3_falling_l11
theorem C.catnaplaw3_falling_b12_w : awp P C.catnaplaw3_falling_b12 Q fr st = awp P (.loop C.catnaplaw3_falling_l11) Q fr st := rfl
def C.catnaplaw3_falling_c13 : ICode := .keep [0, 1, 2, 7, 8] (.block 0 C.catnaplaw3_falling_b12)
theorem C.catnaplaw3_falling_c13_w : awp P C.catnaplaw3_falling_c13 Q fr st = awp P (.keep [0, 1, 2, 7, 8] (.block 0 C.catnaplaw3_falling_b12)) Q fr st := rfl
def C.catnaplaw3_falling_r2_b : List IOper := [
  ⟨some 8, .move (.cst (.int .i64 0)), none, [], []⟩]
def C.catnaplaw3_falling_r2 : List IOper := C.catnaplaw3_falling_r2_b
theorem C.catnaplaw3_falling_r2_w {k : AFr → ASt → Prop} : aops P C.catnaplaw3_falling_r2 k fr st = aops P C.catnaplaw3_falling_r2_b k fr st := rfl
def C.catnaplaw3_falling_c14 : ICode := .keep [0, 1, 2, 7] (.seq (.seq (.region C.catnaplaw3_falling_r2) C.catnaplaw3_falling_c13) C.catnaplaw3_falling_c1)
theorem C.catnaplaw3_falling_c14_w : awp P C.catnaplaw3_falling_c14 Q fr st = awp P (.keep [0, 1, 2, 7] (.seq (.seq (.region C.catnaplaw3_falling_r2) C.catnaplaw3_falling_c13) C.catnaplaw3_falling_c1)) Q fr st := rfl
def C.catnaplaw3_falling_r1_b : List IOper := [
  ⟨some 11, .move (.slot 0), none, [], []⟩,
  ⟨some 12, .makeSlice 1 24 [.nils] (.slot 11) (.slot 11), none, [], []⟩,
  ⟨some 7, .move (.slot 12), none, [], []⟩]
def C.catnaplaw3_falling_r1 : List IOper := C.catnaplaw3_falling_r1_b
theorem C.catnaplaw3_falling_r1_w {k : AFr → ASt → Prop} : aops P C.catnaplaw3_falling_r1 k fr st = aops P C.catnaplaw3_falling_r1_b k fr st := rfl
def C.catnaplaw3_falling_c15 : ICode := .keep [0, 1, 2] (.seq (.region C.catnaplaw3_falling_r1) C.catnaplaw3_falling_c14)
theorem C.catnaplaw3_falling_c15_w : awp P C.catnaplaw3_falling_c15 Q fr st = awp P (.keep [0, 1, 2] (.seq (.region C.catnaplaw3_falling_r1) C.catnaplaw3_falling_c14)) Q fr st := rfl
def C.catnaplaw3_falling_r0_b : List IOper := [
  ⟨some 6, .move (.cst (.nils)), none, [], []⟩]
def C.catnaplaw3_falling_r0 : List IOper := C.catnaplaw3_falling_r0_b
theorem C.catnaplaw3_falling_r0_w {k : AFr → ASt → Prop} : aops P C.catnaplaw3_falling_r0 k fr st = aops P C.catnaplaw3_falling_r0_b k fr st := rfl
def C.catnaplaw3_falling : IFunc := ⟨3, [.slot 6], .seq (.region C.catnaplaw3_falling_r0) C.catnaplaw3_falling_c15⟩
def C.catnaplaw3_falling_W := And.intro (And.intro (And.intro (And.intro @C.catnaplaw3_falling_r10_w (And.intro @C.catnaplaw3_falling_c1_w @C.catnaplaw3_falling_r4_w)) (And.intro @C.catnaplaw3_falling_c2_w (And.intro @C.catnaplaw3_falling_r8_w @C.catnaplaw3_falling_r9_w))) (And.intro (And.intro @C.catnaplaw3_falling_c3_w (And.intro @C.catnaplaw3_falling_c4_w @C.catnaplaw3_falling_c5_w)) (And.intro @C.catnaplaw3_falling_r7_w (And.intro @C.catnaplaw3_falling_c6_w @C.catnaplaw3_falling_r6_w)))) (And.intro (And.intro (And.intro @C.catnaplaw3_falling_c7_w (And.intro @C.catnaplaw3_falling_r5_w @C.catnaplaw3_falling_b8_w)) (And.intro @C.catnaplaw3_falling_c9_w (And.intro @C.catnaplaw3_falling_c10_w @C.catnaplaw3_falling_r3_w))) (And.intro (And.intro @C.catnaplaw3_falling_b12_w (And.intro @C.catnaplaw3_falling_c13_w @C.catnaplaw3_falling_r2_w)) (And.intro (And.intro @C.catnaplaw3_falling_c14_w @C.catnaplaw3_falling_r1_w) (And.intro @C.catnaplaw3_falling_c15_w @C.catnaplaw3_falling_r0_w))))
def C.catnaplaw3_falling_B := And.intro (And.intro (And.intro @C.catnaplaw3_falling_r10_b.eq_1 @C.catnaplaw3_falling_r4_b.eq_1) (And.intro @C.catnaplaw3_falling_r8_b.eq_1 (And.intro @C.catnaplaw3_falling_r9_b.eq_1 @C.catnaplaw3_falling_r7_b.eq_1))) (And.intro (And.intro @C.catnaplaw3_falling_r6_b.eq_1 (And.intro @C.catnaplaw3_falling_r5_b.eq_1 @C.catnaplaw3_falling_r3_b.eq_1)) (And.intro @C.catnaplaw3_falling_r2_b.eq_1 (And.intro @C.catnaplaw3_falling_r1_b.eq_1 @C.catnaplaw3_falling_r0_b.eq_1)))

end Go.Proofs.Ythmdiljjkogghaa.Cn
