/- The intermediate code of the functions, printed by a program out of the loaded program; that it is theirs is checked in the text of links. -/
import Derived.Test.YtlnhljcfcnmglaaCnCode
set_option linter.defProp false
namespace Go.Proofs.Ytlnhljcfcnmglaa.Cn
open Go
variable {P : Program} {Q : IExit → AFr → ASt → Prop} {fr : AFr} {st : ASt}

abbrev F.main_main : Nat := 0
abbrev F.gosem_cut : Nat := 1
abbrev F.gosem_cut_init : Nat := 2
abbrev F.catnaplaw9_RegsPlay : Nat := 3
abbrev F.catnaplaw9_RegsKeep : Nat := 4
abbrev F.catnaplaw9_RegsAlone : Nat := 5
abbrev F.catnaplaw9_RegsTwice : Nat := 6
abbrev F.catnaplaw9_RegsLast : Nat := 7
abbrev F.catnaplaw9_RegsClears : Nat := 8
abbrev F.catnaplaw9_shown : Nat := 9
abbrev F.regs_New : Nat := 10
abbrev F.catnapref9_New : Nat := 11
abbrev F.catnaplaw9_pick : Nat := 12
abbrev F.regs_File_Write : Nat := 13
abbrev F.catnapref9_File_Write : Nat := 14
abbrev F.regs_File_Save : Nat := 15
abbrev F.catnapref9_File_Save : Nat := 16
abbrev F.regs_File_Restore : Nat := 17
abbrev F.catnapref9_File_Restore : Nat := 18
abbrev F.regs_File_Clear : Nat := 19
abbrev F.catnapref9_File_Clear : Nat := 20
abbrev F.regs_File_Read : Nat := 21
abbrev F.catnapref9_File_Read : Nat := 22
abbrev F.regs_File_Many : Nat := 23
abbrev F.catnaplaw9_all : Nat := 24
abbrev F.catnaplaw9_does : Nat := 25
abbrev F.slices_Clone_api_Reg_api_Reg : Nat := 26
abbrev F.regs_File_each : Nat := 27
abbrev F.regs_File_Save_1 : Nat := 28
abbrev F.regs_File_become : Nat := 29
abbrev F.regs_File_Restore_1 : Nat := 30
abbrev F.regs_File_Clear_1 : Nat := 31
abbrev F.regs_File_become_1 : Nat := 32
abbrev F.runtime_boundsError_Error : Nat := 33
abbrev F.runtime_boundsError_RuntimeError : Nat := 34
abbrev F.runtime_errorString_Error : Nat := 35
abbrev F.runtime_errorString_RuntimeError : Nat := 36
abbrev F.runtime_plainError_Error : Nat := 37
abbrev F.runtime_plainError_RuntimeError : Nat := 38
abbrev F.runtime_errorAddressString_Error : Nat := 39
abbrev F.runtime_errorAddressString_RuntimeError : Nat := 40
abbrev F.runtime_TypeAssertionError_Error : Nat := 41
abbrev F.runtime_TypeAssertionError_RuntimeError : Nat := 42
abbrev F.runtime_PanicNilError_Error : Nat := 43
abbrev F.runtime_PanicNilError_RuntimeError : Nat := 44
abbrev F.internal_abi_Type_Align : Nat := 45
abbrev F.internal_runtime_maps_unhashableTypeError_Error : Nat := 46
abbrev F.internal_runtime_maps_unhashableTypeError_RuntimeError : Nat := 47
abbrev F.api_Errno_Error : Nat := 48
abbrev F.internal_abi_Kind_String : Nat := 49

def C.catnaplaw9_RegsPlay_r33_b : List IOper := [
  ⟨some 143, .move (.slot 6), none, [], []⟩,
  ⟨some 144, .call F.regs_File_Many [.slot 143], none, [], []⟩,
  ⟨some 145, .move (.slot 0), none, [], []⟩,
  ⟨some 146, .len (.slot 145), none, [], []⟩,
  ⟨some 147, .bin .eql (.slot 144) (.slot 146), none, [], []⟩,
  ⟨some 148, .move (.slot 147), none, [], []⟩,
  ⟨some 149, .move (.slot 7), some (148, true), [], []⟩,
  ⟨some 150, .move (.slot 9), some (148, true), [], []⟩,
  ⟨some 151, .bin .eql (.slot 149) (.slot 150), some (148, true), [], []⟩,
  ⟨some 152, .pick (.slot 148) (.slot 151) (.cst (.bool false)), none, [], []⟩,
  ⟨some 4, .move (.slot 152), none, [], []⟩]
def C.catnaplaw9_RegsPlay_r33 : List IOper := C.catnaplaw9_RegsPlay_r33_b
theorem C.catnaplaw9_RegsPlay_r33_w {k : AFr → ASt → Prop} : aops P C.catnaplaw9_RegsPlay_r33 k fr st = aops P C.catnaplaw9_RegsPlay_r33_b k fr st := rfl
def C.catnaplaw9_RegsPlay_c1 : ICode := .keep [0, 6, 7, 9] (.seq (.region C.catnaplaw9_RegsPlay_r33) .ret)
theorem C.catnaplaw9_RegsPlay_c1_w : awp P C.catnaplaw9_RegsPlay_c1 Q fr st = awp P (.keep [0, 6, 7, 9] (.seq (.region C.catnaplaw9_RegsPlay_r33) .ret)) Q fr st := rfl
def C.catnaplaw9_RegsPlay_r10_b : List IOper := [
  ⟨some 62, .move (.slot 10), none, [], []⟩,
  ⟨some 63, .bin .add (.slot 62) (.cst (.int .i64 1)), none, [], []⟩,
  ⟨some 10, .move (.slot 63), none, [], []⟩]
def C.catnaplaw9_RegsPlay_r10 : List IOper := C.catnaplaw9_RegsPlay_r10_b
theorem C.catnaplaw9_RegsPlay_r10_w {k : AFr → ASt → Prop} : aops P C.catnaplaw9_RegsPlay_r10 k fr st = aops P C.catnaplaw9_RegsPlay_r10_b k fr st := rfl
def C.catnaplaw9_RegsPlay_c2 : ICode := .keep [0, 1, 6, 7, 8, 9, 10] (.region C.catnaplaw9_RegsPlay_r10)
theorem C.catnaplaw9_RegsPlay_c2_w : awp P C.catnaplaw9_RegsPlay_c2 Q fr st = awp P (.keep [0, 1, 6, 7, 8, 9, 10] (.region C.catnaplaw9_RegsPlay_r10)) Q fr st := rfl
def C.catnaplaw9_RegsPlay_r28_b : List IOper := [
  ⟨some 121, .move (.slot 12), none, [], []⟩,
  ⟨some 122, .bin .add (.slot 121) (.cst (.int .i64 1)), none, [], []⟩,
  ⟨some 12, .move (.slot 122), none, [], []⟩]
def C.catnaplaw9_RegsPlay_r28 : List IOper := C.catnaplaw9_RegsPlay_r28_b
theorem C.catnaplaw9_RegsPlay_r28_w {k : AFr → ASt → Prop} : aops P C.catnaplaw9_RegsPlay_r28 k fr st = aops P C.catnaplaw9_RegsPlay_r28_b k fr st := rfl
def C.catnaplaw9_RegsPlay_c3 : ICode := .keep [0, 1, 6, 7, 8, 9, 10, 12] (.region C.catnaplaw9_RegsPlay_r28)
theorem C.catnaplaw9_RegsPlay_c3_w : awp P C.catnaplaw9_RegsPlay_c3 Q fr st = awp P (.keep [0, 1, 6, 7, 8, 9, 10, 12] (.region C.catnaplaw9_RegsPlay_r28)) Q fr st := rfl
def C.catnaplaw9_RegsPlay_r32_b : List IOper := [
  ⟨some 4, .move (.cst (.bool false)), none, [], []⟩]
def C.catnaplaw9_RegsPlay_r32 : List IOper := C.catnaplaw9_RegsPlay_r32_b
theorem C.catnaplaw9_RegsPlay_r32_w {k : AFr → ASt → Prop} : aops P C.catnaplaw9_RegsPlay_r32 k fr st = aops P C.catnaplaw9_RegsPlay_r32_b k fr st := rfl
def C.catnaplaw9_RegsPlay_c4 : ICode := .seq (.region C.catnaplaw9_RegsPlay_r32) .ret
theorem C.catnaplaw9_RegsPlay_c4_w : awp P C.catnaplaw9_RegsPlay_c4 Q fr st = awp P (.seq (.region C.catnaplaw9_RegsPlay_r32) .ret) Q fr st := rfl
def C.catnaplaw9_RegsPlay_c5 : ICode := .keep [0, 1, 6, 7, 8, 9, 10, 12, 142] (.cond (.slot 142) C.catnaplaw9_RegsPlay_c4 .skip)
theorem C.catnaplaw9_RegsPlay_c5_w : awp P C.catnaplaw9_RegsPlay_c5 Q fr st = awp P (.keep [0, 1, 6, 7, 8, 9, 10, 12, 142] (.cond (.slot 142) C.catnaplaw9_RegsPlay_c4 .skip)) Q fr st := rfl
def C.catnaplaw9_RegsPlay_r31_b : List IOper := [
  ⟨some 135, .move (.slot 13), none, [], []⟩,
  ⟨some 136, .move (.slot 15), none, [], []⟩,
  ⟨some 137, .bin .neq (.slot 135) (.slot 136), none, [], []⟩,
  ⟨some 138, .move (.slot 137), none, [], []⟩,
  ⟨some 139, .move (.slot 14), some (138, false), [], []⟩,
  ⟨some 140, .move (.slot 16), some (138, false), [], []⟩,
  ⟨some 141, .bin .neq (.slot 139) (.slot 140), some (138, false), [], []⟩,
  ⟨some 142, .pick (.slot 138) (.cst (.bool true)) (.slot 141), none, [], []⟩]
def C.catnaplaw9_RegsPlay_r31 : List IOper := C.catnaplaw9_RegsPlay_r31_b
theorem C.catnaplaw9_RegsPlay_r31_w {k : AFr → ASt → Prop} : aops P C.catnaplaw9_RegsPlay_r31 k fr st = aops P C.catnaplaw9_RegsPlay_r31_b k fr st := rfl
def C.catnaplaw9_RegsPlay_c6 : ICode := .keep [0, 1, 6, 7, 8, 9, 10, 12, 13, 14, 15, 16] (.seq (.region C.catnaplaw9_RegsPlay_r31) C.catnaplaw9_RegsPlay_c5)
theorem C.catnaplaw9_RegsPlay_c6_w : awp P C.catnaplaw9_RegsPlay_c6 Q fr st = awp P (.keep [0, 1, 6, 7, 8, 9, 10, 12, 13, 14, 15, 16] (.seq (.region C.catnaplaw9_RegsPlay_r31) C.catnaplaw9_RegsPlay_c5)) Q fr st := rfl
def C.catnaplaw9_RegsPlay_r30_b : List IOper := [
  ⟨some 130, .move (.slot 8), none, [], []⟩,
  ⟨some 131, .move (.slot 12), none, [], []⟩,
  ⟨some 132, .call F.catnapref9_File_Read [.slot 130, .slot 131], none, [], []⟩,
  ⟨some 129, .move (.slot 132), none, [], []⟩,
  ⟨some 133, .extract (.slot 129) 0, none, [], []⟩,
  ⟨some 134, .extract (.slot 129) 1, none, [], []⟩,
  ⟨some 15, .move (.slot 133), none, [], []⟩,
  ⟨some 16, .move (.slot 134), none, [], []⟩]
def C.catnaplaw9_RegsPlay_r30 : List IOper := C.catnaplaw9_RegsPlay_r30_b
theorem C.catnaplaw9_RegsPlay_r30_w {k : AFr → ASt → Prop} : aops P C.catnaplaw9_RegsPlay_r30 k fr st = aops P C.catnaplaw9_RegsPlay_r30_b k fr st := rfl
def C.catnaplaw9_RegsPlay_c7 : ICode := .keep [0, 1, 6, 7, 8, 9, 10, 12, 13, 14] (.seq (.region C.catnaplaw9_RegsPlay_r30) C.catnaplaw9_RegsPlay_c6)
theorem C.catnaplaw9_RegsPlay_c7_w : awp P C.catnaplaw9_RegsPlay_c7 Q fr st = awp P (.keep [0, 1, 6, 7, 8, 9, 10, 12, 13, 14] (.seq (.region C.catnaplaw9_RegsPlay_r30) C.catnaplaw9_RegsPlay_c6)) Q fr st := rfl
def C.catnaplaw9_RegsPlay_r29_b : List IOper := [
  ⟨some 124, .move (.slot 6), none, [], []⟩,
  ⟨some 125, .move (.slot 12), none, [], []⟩,
  ⟨some 126, .call F.regs_File_Read [.slot 124, .slot 125], none, [], []⟩,
  ⟨some 123, .move (.slot 126), none, [], []⟩,
  ⟨some 127, .extract (.slot 123) 0, none, [], []⟩,
  ⟨some 128, .extract (.slot 123) 1, none, [], []⟩,
  ⟨some 13, .move (.slot 127), none, [], []⟩,
  ⟨some 14, .move (.slot 128), none, [], []⟩]
def C.catnaplaw9_RegsPlay_r29 : List IOper := C.catnaplaw9_RegsPlay_r29_b
theorem C.catnaplaw9_RegsPlay_r29_w {k : AFr → ASt → Prop} : aops P C.catnaplaw9_RegsPlay_r29 k fr st = aops P C.catnaplaw9_RegsPlay_r29_b k fr st := rfl
def C.catnaplaw9_RegsPlay_b8 : ICode := .seq (.region C.catnaplaw9_RegsPlay_r29) C.catnaplaw9_RegsPlay_c7
theorem C.catnaplaw9_RegsPlay_b8_w : awp P C.catnaplaw9_RegsPlay_b8 Q fr st = awp P (.seq (.region C.catnaplaw9_RegsPlay_r29) C.catnaplaw9_RegsPlay_c7) Q fr st := rfl
def C.catnaplaw9_RegsPlay_c9 : ICode := .keep [0, 1, 6, 7, 8, 9, 10, 12] (.seq (.block 4 C.catnaplaw9_RegsPlay_b8) C.catnaplaw9_RegsPlay_c3)
theorem C.catnaplaw9_RegsPlay_c9_w : awp P C.catnaplaw9_RegsPlay_c9 Q fr st = awp P (.keep [0, 1, 6, 7, 8, 9, 10, 12] (.seq (.block 4 C.catnaplaw9_RegsPlay_b8) C.catnaplaw9_RegsPlay_c3)) Q fr st := rfl
def C.catnaplaw9_RegsPlay_c10 : ICode := .keep [0, 1, 6, 7, 8, 9, 10, 12, 120] (.cond (.slot 120) .skip (.exit 3))
theorem C.catnaplaw9_RegsPlay_c10_w : awp P C.catnaplaw9_RegsPlay_c10 Q fr st = awp P (.keep [0, 1, 6, 7, 8, 9, 10, 12, 120] (.cond (.slot 120) .skip (.exit 3))) Q fr st := rfl
def C.catnaplaw9_RegsPlay_r27_b : List IOper := [
  ⟨some 117, .move (.slot 12), none, [], []⟩,
  ⟨some 118, .move (.slot 0), none, [], []⟩,
  ⟨some 119, .len (.slot 118), none, [], []⟩,
  ⟨some 120, .bin .leq (.slot 117) (.slot 119), none, [], []⟩]
def C.catnaplaw9_RegsPlay_r27 : List IOper := C.catnaplaw9_RegsPlay_r27_b
theorem C.catnaplaw9_RegsPlay_r27_w {k : AFr → ASt → Prop} : aops P C.catnaplaw9_RegsPlay_r27 k fr st = aops P C.catnaplaw9_RegsPlay_r27_b k fr st := rfl
def C.catnaplaw9_RegsPlay_l11 : ICode := .keep [0, 1, 6, 7, 8, 9, 10, 12] (.seq (.seq (.region C.catnaplaw9_RegsPlay_r27) C.catnaplaw9_RegsPlay_c10) C.catnaplaw9_RegsPlay_c9)
theorem C.catnaplaw9_RegsPlay_l11_w : awp P C.catnaplaw9_RegsPlay_l11 Q fr st = awp P (.keep [0, 1, 6, 7, 8, 9, 10, 12] (.seq (.seq (.region C.catnaplaw9_RegsPlay_r27) C.catnaplaw9_RegsPlay_c10) C.catnaplaw9_RegsPlay_c9)) Q fr st := rfl
def C.catnaplaw9_RegsPlay_b12 : ICode := .loop C.catnaplaw9_RegsPlay_l11
theorem C.catnaplaw9_RegsPlay_b12_w : awp P C.catnaplaw9_RegsPlay_b12 Q fr st = awp P (.loop C.catnaplaw9_RegsPlay_l11) Q fr st := rfl
def C.catnaplaw9_RegsPlay_c13 : ICode := .keep [0, 1, 6, 7, 8, 9, 10, 12] (.block 3 C.catnaplaw9_RegsPlay_b12)
theorem C.catnaplaw9_RegsPlay_c13_w : awp P C.catnaplaw9_RegsPlay_c13 Q fr st = awp P (.keep [0, 1, 6, 7, 8, 9, 10, 12] (.block 3 C.catnaplaw9_RegsPlay_b12)) Q fr st := rfl
def C.catnaplaw9_RegsPlay_r26_b : List IOper := [
  ⟨some 12, .move (.cst (.int .i64 (-1))), none, [], []⟩]
def C.catnaplaw9_RegsPlay_r26 : List IOper := C.catnaplaw9_RegsPlay_r26_b
theorem C.catnaplaw9_RegsPlay_r26_w {k : AFr → ASt → Prop} : aops P C.catnaplaw9_RegsPlay_r26 k fr st = aops P C.catnaplaw9_RegsPlay_r26_b k fr st := rfl
def C.catnaplaw9_RegsPlay_c14 : ICode := .keep [0, 1, 6, 7, 8, 9, 10] (.seq (.region C.catnaplaw9_RegsPlay_r26) C.catnaplaw9_RegsPlay_c13)
theorem C.catnaplaw9_RegsPlay_c14_w : awp P C.catnaplaw9_RegsPlay_c14 Q fr st = awp P (.keep [0, 1, 6, 7, 8, 9, 10] (.seq (.region C.catnaplaw9_RegsPlay_r26) C.catnaplaw9_RegsPlay_c13)) Q fr st := rfl
def C.catnaplaw9_RegsPlay_r19_b : List IOper := [
  ⟨some 4, .move (.cst (.bool false)), none, [], []⟩]
def C.catnaplaw9_RegsPlay_r19 : List IOper := C.catnaplaw9_RegsPlay_r19_b
theorem C.catnaplaw9_RegsPlay_r19_w {k : AFr → ASt → Prop} : aops P C.catnaplaw9_RegsPlay_r19 k fr st = aops P C.catnaplaw9_RegsPlay_r19_b k fr st := rfl
def C.catnaplaw9_RegsPlay_c15 : ICode := .seq (.region C.catnaplaw9_RegsPlay_r19) .ret
theorem C.catnaplaw9_RegsPlay_c15_w : awp P C.catnaplaw9_RegsPlay_c15 Q fr st = awp P (.seq (.region C.catnaplaw9_RegsPlay_r19) .ret) Q fr st := rfl
def C.catnaplaw9_RegsPlay_c16 : ICode := .keep [0, 1, 6, 7, 8, 9, 10, 104] (.cond (.slot 104) C.catnaplaw9_RegsPlay_c15 .skip)
theorem C.catnaplaw9_RegsPlay_c16_w : awp P C.catnaplaw9_RegsPlay_c16 Q fr st = awp P (.keep [0, 1, 6, 7, 8, 9, 10, 104] (.cond (.slot 104) C.catnaplaw9_RegsPlay_c15 .skip)) Q fr st := rfl
def C.catnaplaw9_RegsPlay_r18_b : List IOper := [
  ⟨some 88, .move (.slot 6), none, [], []⟩,
  ⟨some 89, .move (.slot 11), none, [], []⟩,
  ⟨some 90, .move (.slot 1), none, [], []⟩,
  ⟨some 91, .move (.slot 10), none, [], []⟩,
  ⟨some 92, .idxAddr 3 (.slot 90) (.slot 91), none, [], []⟩,
  ⟨some 93, .fldAddr 2 (.slot 92), none, [], []⟩,
  ⟨some 94, .load1 (.slot 93), none, [], []⟩,
  ⟨some 96, .move (.slot 8), none, [], []⟩,
  ⟨some 97, .move (.slot 11), none, [], []⟩,
  ⟨some 98, .move (.slot 1), none, [], []⟩,
  ⟨some 99, .move (.slot 10), none, [], []⟩,
  ⟨some 100, .idxAddr 3 (.slot 98) (.slot 99), none, [], []⟩,
  ⟨some 101, .fldAddr 2 (.slot 100), none, [], []⟩,
  ⟨some 102, .load1 (.slot 101), none, [], []⟩,
  ⟨some 95, .call F.regs_File_Write [.slot 88, .slot 89, .slot 94], none, [⟨.load1 (.slot 101), 102, none⟩], []⟩,
  ⟨some 103, .call F.catnapref9_File_Write [.slot 96, .slot 97, .slot 102], none, [], []⟩,
  ⟨some 104, .bin .neq (.slot 95) (.slot 103), none, [], []⟩]
def C.catnaplaw9_RegsPlay_r18 : List IOper := C.catnaplaw9_RegsPlay_r18_b
theorem C.catnaplaw9_RegsPlay_r18_w {k : AFr → ASt → Prop} : aops P C.catnaplaw9_RegsPlay_r18 k fr st = aops P C.catnaplaw9_RegsPlay_r18_b k fr st := rfl
def C.catnaplaw9_RegsPlay_r22_b : List IOper := [
  ⟨some 109, .move (.slot 8), none, [], []⟩,
  ⟨some 110, .call F.catnapref9_File_Save [.slot 109], none, [], []⟩]
def C.catnaplaw9_RegsPlay_r22 : List IOper := C.catnaplaw9_RegsPlay_r22_b
theorem C.catnaplaw9_RegsPlay_r22_w {k : AFr → ASt → Prop} : aops P C.catnaplaw9_RegsPlay_r22 k fr st = aops P C.catnaplaw9_RegsPlay_r22_b k fr st := rfl
def C.catnaplaw9_RegsPlay_c17 : ICode := .keep [0, 1, 6, 7, 8, 9, 10] (.region C.catnaplaw9_RegsPlay_r22)
theorem C.catnaplaw9_RegsPlay_c17_w : awp P C.catnaplaw9_RegsPlay_c17 Q fr st = awp P (.keep [0, 1, 6, 7, 8, 9, 10] (.region C.catnaplaw9_RegsPlay_r22)) Q fr st := rfl
def C.catnaplaw9_RegsPlay_r21_b : List IOper := [
  ⟨some 107, .move (.slot 6), none, [], []⟩,
  ⟨some 108, .call F.regs_File_Save [.slot 107], none, [], []⟩]
def C.catnaplaw9_RegsPlay_r21 : List IOper := C.catnaplaw9_RegsPlay_r21_b
theorem C.catnaplaw9_RegsPlay_r21_w {k : AFr → ASt → Prop} : aops P C.catnaplaw9_RegsPlay_r21 k fr st = aops P C.catnaplaw9_RegsPlay_r21_b k fr st := rfl
def C.catnaplaw9_RegsPlay_r25_b : List IOper := [
  ⟨some 115, .move (.slot 8), none, [], []⟩,
  ⟨some 116, .call F.catnapref9_File_Restore [.slot 115], none, [], []⟩]
def C.catnaplaw9_RegsPlay_r25 : List IOper := C.catnaplaw9_RegsPlay_r25_b
theorem C.catnaplaw9_RegsPlay_r25_w {k : AFr → ASt → Prop} : aops P C.catnaplaw9_RegsPlay_r25 k fr st = aops P C.catnaplaw9_RegsPlay_r25_b k fr st := rfl
def C.catnaplaw9_RegsPlay_c18 : ICode := .keep [0, 1, 6, 7, 8, 9, 10] (.region C.catnaplaw9_RegsPlay_r25)
theorem C.catnaplaw9_RegsPlay_c18_w : awp P C.catnaplaw9_RegsPlay_c18 Q fr st = awp P (.keep [0, 1, 6, 7, 8, 9, 10] (.region C.catnaplaw9_RegsPlay_r25)) Q fr st := rfl
def C.catnaplaw9_RegsPlay_r24_b : List IOper := [
  ⟨some 113, .move (.slot 6), none, [], []⟩,
  ⟨some 114, .call F.regs_File_Restore [.slot 113], none, [], []⟩]
def C.catnaplaw9_RegsPlay_r24 : List IOper := C.catnaplaw9_RegsPlay_r24_b
theorem C.catnaplaw9_RegsPlay_r24_w {k : AFr → ASt → Prop} : aops P C.catnaplaw9_RegsPlay_r24 k fr st = aops P C.catnaplaw9_RegsPlay_r24_b k fr st := rfl
def C.catnaplaw9_RegsPlay_r14_b : List IOper := [
  ⟨some 82, .move (.slot 8), none, [], []⟩,
  ⟨some 83, .call F.catnapref9_File_Clear [.slot 82], none, [], []⟩]
def C.catnaplaw9_RegsPlay_r14 : List IOper := C.catnaplaw9_RegsPlay_r14_b
theorem C.catnaplaw9_RegsPlay_r14_w {k : AFr → ASt → Prop} : aops P C.catnaplaw9_RegsPlay_r14 k fr st = aops P C.catnaplaw9_RegsPlay_r14_b k fr st := rfl
def C.catnaplaw9_RegsPlay_c19 : ICode := .keep [0, 1, 6, 7, 8, 9, 10] (.region C.catnaplaw9_RegsPlay_r14)
theorem C.catnaplaw9_RegsPlay_c19_w : awp P C.catnaplaw9_RegsPlay_c19 Q fr st = awp P (.keep [0, 1, 6, 7, 8, 9, 10] (.region C.catnaplaw9_RegsPlay_r14)) Q fr st := rfl
def C.catnaplaw9_RegsPlay_r13_b : List IOper := [
  ⟨some 80, .move (.slot 6), none, [], []⟩,
  ⟨some 81, .call F.regs_File_Clear [.slot 80], none, [], []⟩]
def C.catnaplaw9_RegsPlay_r13 : List IOper := C.catnaplaw9_RegsPlay_r13_b
theorem C.catnaplaw9_RegsPlay_r13_w {k : AFr → ASt → Prop} : aops P C.catnaplaw9_RegsPlay_r13 k fr st = aops P C.catnaplaw9_RegsPlay_r13_b k fr st := rfl
def C.catnaplaw9_RegsPlay_c20 : ICode := .seq (.region C.catnaplaw9_RegsPlay_r24) C.catnaplaw9_RegsPlay_c18
theorem C.catnaplaw9_RegsPlay_c20_w : awp P C.catnaplaw9_RegsPlay_c20 Q fr st = awp P (.seq (.region C.catnaplaw9_RegsPlay_r24) C.catnaplaw9_RegsPlay_c18) Q fr st := rfl
def C.catnaplaw9_RegsPlay_c21 : ICode := .seq (.region C.catnaplaw9_RegsPlay_r13) C.catnaplaw9_RegsPlay_c19
theorem C.catnaplaw9_RegsPlay_c21_w : awp P C.catnaplaw9_RegsPlay_c21 Q fr st = awp P (.seq (.region C.catnaplaw9_RegsPlay_r13) C.catnaplaw9_RegsPlay_c19) Q fr st := rfl
def C.catnaplaw9_RegsPlay_c22 : ICode := .keep [0, 1, 6, 7, 8, 9, 10, 111] (.cond (.slot 111) C.catnaplaw9_RegsPlay_c20 C.catnaplaw9_RegsPlay_c21)
theorem C.catnaplaw9_RegsPlay_c22_w : awp P C.catnaplaw9_RegsPlay_c22 Q fr st = awp P (.keep [0, 1, 6, 7, 8, 9, 10, 111] (.cond (.slot 111) C.catnaplaw9_RegsPlay_c20 C.catnaplaw9_RegsPlay_c21)) Q fr st := rfl
def C.catnaplaw9_RegsPlay_r23_b : List IOper := [
  ⟨some 112, .bin .eql (.slot 79) (.cst (.int .i64 4)), none, [], []⟩,
  ⟨some 111, .move (.slot 112), none, [], []⟩]
def C.catnaplaw9_RegsPlay_r23 : List IOper := C.catnaplaw9_RegsPlay_r23_b
theorem C.catnaplaw9_RegsPlay_r23_w {k : AFr → ASt → Prop} : aops P C.catnaplaw9_RegsPlay_r23 k fr st = aops P C.catnaplaw9_RegsPlay_r23_b k fr st := rfl
def C.catnaplaw9_RegsPlay_c23 : ICode := .seq (.region C.catnaplaw9_RegsPlay_r21) C.catnaplaw9_RegsPlay_c17
theorem C.catnaplaw9_RegsPlay_c23_w : awp P C.catnaplaw9_RegsPlay_c23 Q fr st = awp P (.seq (.region C.catnaplaw9_RegsPlay_r21) C.catnaplaw9_RegsPlay_c17) Q fr st := rfl
def C.catnaplaw9_RegsPlay_c24 : ICode := .seq (.region C.catnaplaw9_RegsPlay_r23) C.catnaplaw9_RegsPlay_c22
theorem C.catnaplaw9_RegsPlay_c24_w : awp P C.catnaplaw9_RegsPlay_c24 Q fr st = awp P (.seq (.region C.catnaplaw9_RegsPlay_r23) C.catnaplaw9_RegsPlay_c22) Q fr st := rfl
def C.catnaplaw9_RegsPlay_c25 : ICode := .keep [0, 1, 6, 7, 8, 9, 10, 79, 105] (.cond (.slot 105) C.catnaplaw9_RegsPlay_c23 C.catnaplaw9_RegsPlay_c24)
theorem C.catnaplaw9_RegsPlay_c25_w : awp P C.catnaplaw9_RegsPlay_c25 Q fr st = awp P (.keep [0, 1, 6, 7, 8, 9, 10, 79, 105] (.cond (.slot 105) C.catnaplaw9_RegsPlay_c23 C.catnaplaw9_RegsPlay_c24)) Q fr st := rfl
def C.catnaplaw9_RegsPlay_r20_b : List IOper := [
  ⟨some 106, .bin .eql (.slot 79) (.cst (.int .i64 3)), none, [], []⟩,
  ⟨some 105, .move (.slot 106), none, [], []⟩]
def C.catnaplaw9_RegsPlay_r20 : List IOper := C.catnaplaw9_RegsPlay_r20_b
theorem C.catnaplaw9_RegsPlay_r20_w {k : AFr → ASt → Prop} : aops P C.catnaplaw9_RegsPlay_r20 k fr st = aops P C.catnaplaw9_RegsPlay_r20_b k fr st := rfl
def C.catnaplaw9_RegsPlay_c26 : ICode := .seq (.region C.catnaplaw9_RegsPlay_r18) C.catnaplaw9_RegsPlay_c16
theorem C.catnaplaw9_RegsPlay_c26_w : awp P C.catnaplaw9_RegsPlay_c26 Q fr st = awp P (.seq (.region C.catnaplaw9_RegsPlay_r18) C.catnaplaw9_RegsPlay_c16) Q fr st := rfl
def C.catnaplaw9_RegsPlay_c27 : ICode := .seq (.region C.catnaplaw9_RegsPlay_r20) C.catnaplaw9_RegsPlay_c25
theorem C.catnaplaw9_RegsPlay_c27_w : awp P C.catnaplaw9_RegsPlay_c27 Q fr st = awp P (.seq (.region C.catnaplaw9_RegsPlay_r20) C.catnaplaw9_RegsPlay_c25) Q fr st := rfl
def C.catnaplaw9_RegsPlay_c28 : ICode := .keep [0, 1, 6, 7, 8, 9, 10, 11, 79, 84] (.cond (.slot 84) C.catnaplaw9_RegsPlay_c26 C.catnaplaw9_RegsPlay_c27)
theorem C.catnaplaw9_RegsPlay_c28_w : awp P C.catnaplaw9_RegsPlay_c28 Q fr st = awp P (.keep [0, 1, 6, 7, 8, 9, 10, 11, 79, 84] (.cond (.slot 84) C.catnaplaw9_RegsPlay_c26 C.catnaplaw9_RegsPlay_c27)) Q fr st := rfl
def C.catnaplaw9_RegsPlay_r17_b : List IOper := [
  ⟨some 87, .bin .eql (.slot 79) (.cst (.int .i64 2)), none, [], []⟩,
  ⟨some 84, .move (.slot 87), none, [], []⟩]
def C.catnaplaw9_RegsPlay_r17 : List IOper := C.catnaplaw9_RegsPlay_r17_b
theorem C.catnaplaw9_RegsPlay_r17_w {k : AFr → ASt → Prop} : aops P C.catnaplaw9_RegsPlay_r17 k fr st = aops P C.catnaplaw9_RegsPlay_r17_b k fr st := rfl
def C.catnaplaw9_RegsPlay_c29 : ICode := .region C.catnaplaw9_RegsPlay_r17
theorem C.catnaplaw9_RegsPlay_c29_w : awp P C.catnaplaw9_RegsPlay_c29 Q fr st = awp P (.region C.catnaplaw9_RegsPlay_r17) Q fr st := rfl
def C.catnaplaw9_RegsPlay_c30 : ICode := .keep [0, 1, 6, 7, 8, 9, 10, 11, 79, 84] (.cond (.slot 84) .skip C.catnaplaw9_RegsPlay_c29)
theorem C.catnaplaw9_RegsPlay_c30_w : awp P C.catnaplaw9_RegsPlay_c30 Q fr st = awp P (.keep [0, 1, 6, 7, 8, 9, 10, 11, 79, 84] (.cond (.slot 84) .skip C.catnaplaw9_RegsPlay_c29)) Q fr st := rfl
def C.catnaplaw9_RegsPlay_r16_b : List IOper := [
  ⟨some 86, .bin .eql (.slot 79) (.cst (.int .i64 1)), none, [], []⟩,
  ⟨some 84, .move (.slot 86), none, [], []⟩]
def C.catnaplaw9_RegsPlay_r16 : List IOper := C.catnaplaw9_RegsPlay_r16_b
theorem C.catnaplaw9_RegsPlay_r16_w {k : AFr → ASt → Prop} : aops P C.catnaplaw9_RegsPlay_r16 k fr st = aops P C.catnaplaw9_RegsPlay_r16_b k fr st := rfl
def C.catnaplaw9_RegsPlay_c31 : ICode := .seq (.region C.catnaplaw9_RegsPlay_r16) C.catnaplaw9_RegsPlay_c30
theorem C.catnaplaw9_RegsPlay_c31_w : awp P C.catnaplaw9_RegsPlay_c31 Q fr st = awp P (.seq (.region C.catnaplaw9_RegsPlay_r16) C.catnaplaw9_RegsPlay_c30) Q fr st := rfl
def C.catnaplaw9_RegsPlay_c32 : ICode := .keep [0, 1, 6, 7, 8, 9, 10, 11, 79, 84] (.cond (.slot 84) .skip C.catnaplaw9_RegsPlay_c31)
theorem C.catnaplaw9_RegsPlay_c32_w : awp P C.catnaplaw9_RegsPlay_c32 Q fr st = awp P (.keep [0, 1, 6, 7, 8, 9, 10, 11, 79, 84] (.cond (.slot 84) .skip C.catnaplaw9_RegsPlay_c31)) Q fr st := rfl
def C.catnaplaw9_RegsPlay_r15_b : List IOper := [
  ⟨some 85, .bin .eql (.slot 79) (.cst (.int .i64 0)), none, [], []⟩,
  ⟨some 84, .move (.slot 85), none, [], []⟩]
def C.catnaplaw9_RegsPlay_r15 : List IOper := C.catnaplaw9_RegsPlay_r15_b
theorem C.catnaplaw9_RegsPlay_r15_w {k : AFr → ASt → Prop} : aops P C.catnaplaw9_RegsPlay_r15 k fr st = aops P C.catnaplaw9_RegsPlay_r15_b k fr st := rfl
def C.catnaplaw9_RegsPlay_b33 : ICode := .seq (.seq (.region C.catnaplaw9_RegsPlay_r15) C.catnaplaw9_RegsPlay_c32) C.catnaplaw9_RegsPlay_c28
theorem C.catnaplaw9_RegsPlay_b33_w : awp P C.catnaplaw9_RegsPlay_b33 Q fr st = awp P (.seq (.seq (.region C.catnaplaw9_RegsPlay_r15) C.catnaplaw9_RegsPlay_c32) C.catnaplaw9_RegsPlay_c28) Q fr st := rfl
def C.catnaplaw9_RegsPlay_c34 : ICode := .keep [0, 1, 6, 7, 8, 9, 10, 11, 79] (.block 2 C.catnaplaw9_RegsPlay_b33)
theorem C.catnaplaw9_RegsPlay_c34_w : awp P C.catnaplaw9_RegsPlay_c34 Q fr st = awp P (.keep [0, 1, 6, 7, 8, 9, 10, 11, 79] (.block 2 C.catnaplaw9_RegsPlay_b33)) Q fr st := rfl
def C.catnaplaw9_RegsPlay_r12_b : List IOper := [
  ⟨some 74, .move (.slot 1), none, [], []⟩,
  ⟨some 75, .move (.slot 10), none, [], []⟩,
  ⟨some 76, .idxAddr 3 (.slot 74) (.slot 75), none, [], []⟩,
  ⟨some 77, .fldAddr 0 (.slot 76), none, [], []⟩,
  ⟨some 78, .load1 (.slot 77), none, [], []⟩,
  ⟨some 79, .call F.catnaplaw9_pick [.slot 78, .cst (.int .i64 6)], none, [], []⟩]
def C.catnaplaw9_RegsPlay_r12 : List IOper := C.catnaplaw9_RegsPlay_r12_b
theorem C.catnaplaw9_RegsPlay_r12_w {k : AFr → ASt → Prop} : aops P C.catnaplaw9_RegsPlay_r12 k fr st = aops P C.catnaplaw9_RegsPlay_r12_b k fr st := rfl
def C.catnaplaw9_RegsPlay_c35 : ICode := .keep [0, 1, 6, 7, 8, 9, 10, 11] (.seq (.seq (.region C.catnaplaw9_RegsPlay_r12) C.catnaplaw9_RegsPlay_c34) C.catnaplaw9_RegsPlay_c14)
theorem C.catnaplaw9_RegsPlay_c35_w : awp P C.catnaplaw9_RegsPlay_c35 Q fr st = awp P (.keep [0, 1, 6, 7, 8, 9, 10, 11] (.seq (.seq (.region C.catnaplaw9_RegsPlay_r12) C.catnaplaw9_RegsPlay_c34) C.catnaplaw9_RegsPlay_c14)) Q fr st := rfl
def C.catnaplaw9_RegsPlay_r11_b : List IOper := [
  ⟨some 64, .move (.slot 1), none, [], []⟩,
  ⟨some 65, .move (.slot 10), none, [], []⟩,
  ⟨some 66, .idxAddr 3 (.slot 64) (.slot 65), none, [], []⟩,
  ⟨some 67, .fldAddr 1 (.slot 66), none, [], []⟩,
  ⟨some 68, .load1 (.slot 67), none, [], []⟩,
  ⟨some 69, .move (.slot 0), none, [], []⟩,
  ⟨some 70, .len (.slot 69), none, [], []⟩,
  ⟨some 71, .bin .add (.slot 70) (.cst (.int .i64 2)), none, [], []⟩,
  ⟨some 72, .call F.catnaplaw9_pick [.slot 68, .slot 71], none, [], []⟩,
  ⟨some 73, .bin .sub (.slot 72) (.cst (.int .i64 1)), none, [], []⟩,
  ⟨some 11, .move (.slot 73), none, [], []⟩]
def C.catnaplaw9_RegsPlay_r11 : List IOper := C.catnaplaw9_RegsPlay_r11_b
theorem C.catnaplaw9_RegsPlay_r11_w {k : AFr → ASt → Prop} : aops P C.catnaplaw9_RegsPlay_r11 k fr st = aops P C.catnaplaw9_RegsPlay_r11_b k fr st := rfl
def C.catnaplaw9_RegsPlay_b36 : ICode := .seq (.region C.catnaplaw9_RegsPlay_r11) C.catnaplaw9_RegsPlay_c35
theorem C.catnaplaw9_RegsPlay_b36_w : awp P C.catnaplaw9_RegsPlay_b36 Q fr st = awp P (.seq (.region C.catnaplaw9_RegsPlay_r11) C.catnaplaw9_RegsPlay_c35) Q fr st := rfl
def C.catnaplaw9_RegsPlay_c37 : ICode := .keep [0, 1, 6, 7, 8, 9, 10] (.seq (.block 1 C.catnaplaw9_RegsPlay_b36) C.catnaplaw9_RegsPlay_c2)
theorem C.catnaplaw9_RegsPlay_c37_w : awp P C.catnaplaw9_RegsPlay_c37 Q fr st = awp P (.keep [0, 1, 6, 7, 8, 9, 10] (.seq (.block 1 C.catnaplaw9_RegsPlay_b36) C.catnaplaw9_RegsPlay_c2)) Q fr st := rfl
def C.catnaplaw9_RegsPlay_c38 : ICode := .keep [0, 1, 6, 7, 8, 9, 10, 61] (.cond (.slot 61) .skip (.exit 0))
theorem C.catnaplaw9_RegsPlay_c38_w : awp P C.catnaplaw9_RegsPlay_c38 Q fr st = awp P (.keep [0, 1, 6, 7, 8, 9, 10, 61] (.cond (.slot 61) .skip (.exit 0))) Q fr st := rfl
def C.catnaplaw9_RegsPlay_r9_b : List IOper := [
  ⟨some 58, .move (.slot 10), none, [], []⟩,
  ⟨some 59, .move (.slot 1), none, [], []⟩,
  ⟨some 60, .len (.slot 59), none, [], []⟩,
  ⟨some 61, .bin .lss (.slot 58) (.slot 60), none, [], []⟩]
def C.catnaplaw9_RegsPlay_r9 : List IOper := C.catnaplaw9_RegsPlay_r9_b
theorem C.catnaplaw9_RegsPlay_r9_w {k : AFr → ASt → Prop} : aops P C.catnaplaw9_RegsPlay_r9 k fr st = aops P C.catnaplaw9_RegsPlay_r9_b k fr st := rfl
def C.catnaplaw9_RegsPlay_l39 : ICode := .keep [0, 1, 6, 7, 8, 9, 10] (.seq (.seq (.region C.catnaplaw9_RegsPlay_r9) C.catnaplaw9_RegsPlay_c38) C.catnaplaw9_RegsPlay_c37)
theorem C.catnaplaw9_RegsPlay_l39_w : awp P C.catnaplaw9_RegsPlay_l39 Q fr st = awp P (.keep [0, 1, 6, 7, 8, 9, 10] (.seq (.seq (.region C.catnaplaw9_RegsPlay_r9) C.catnaplaw9_RegsPlay_c38) C.catnaplaw9_RegsPlay_c37)) Q fr st := rfl
def C.catnaplaw9_RegsPlay_b40 : ICode := .loop C.catnaplaw9_RegsPlay_l39
theorem C.catnaplaw9_RegsPlay_b40_w : awp P C.catnaplaw9_RegsPlay_b40 Q fr st = awp P (.loop C.catnaplaw9_RegsPlay_l39) Q fr st := rfl
def C.catnaplaw9_RegsPlay_c41 : ICode := .keep [0, 1, 6, 7, 8, 9, 10] (.block 0 C.catnaplaw9_RegsPlay_b40)
theorem C.catnaplaw9_RegsPlay_c41_w : awp P C.catnaplaw9_RegsPlay_c41 Q fr st = awp P (.keep [0, 1, 6, 7, 8, 9, 10] (.block 0 C.catnaplaw9_RegsPlay_b40)) Q fr st := rfl
def C.catnaplaw9_RegsPlay_r8_b : List IOper := [
  ⟨some 10, .move (.cst (.int .i64 0)), none, [], []⟩]
def C.catnaplaw9_RegsPlay_r8 : List IOper := C.catnaplaw9_RegsPlay_r8_b
theorem C.catnaplaw9_RegsPlay_r8_w {k : AFr → ASt → Prop} : aops P C.catnaplaw9_RegsPlay_r8 k fr st = aops P C.catnaplaw9_RegsPlay_r8_b k fr st := rfl
def C.catnaplaw9_RegsPlay_c42 : ICode := .keep [0, 1, 6, 7, 8, 9] (.seq (.seq (.region C.catnaplaw9_RegsPlay_r8) C.catnaplaw9_RegsPlay_c41) C.catnaplaw9_RegsPlay_c1)
theorem C.catnaplaw9_RegsPlay_c42_w : awp P C.catnaplaw9_RegsPlay_c42 Q fr st = awp P (.keep [0, 1, 6, 7, 8, 9] (.seq (.seq (.region C.catnaplaw9_RegsPlay_r8) C.catnaplaw9_RegsPlay_c41) C.catnaplaw9_RegsPlay_c1)) Q fr st := rfl
def C.catnaplaw9_RegsPlay_r7_b : List IOper := [
  ⟨some 47, .move (.slot 6), none, [], []⟩,
  ⟨some 48, .eqP 0 false (.slot 47) (.cst (.nilp)), none, [], []⟩,
  ⟨some 49, .move (.slot 48), none, [], []⟩,
  ⟨some 50, .move (.slot 8), some (49, true), [], []⟩,
  ⟨some 51, .eqP 0 false (.slot 50) (.cst (.nilp)), some (49, true), [], []⟩,
  ⟨some 52, .pick (.slot 49) (.slot 51) (.cst (.bool false)), none, [], []⟩,
  ⟨some 53, .move (.slot 52), none, [], []⟩,
  ⟨some 54, .move (.slot 7), some (53, true), [], []⟩,
  ⟨some 55, .move (.slot 9), some (53, true), [], []⟩,
  ⟨some 56, .bin .eql (.slot 54) (.slot 55), some (53, true), [], []⟩,
  ⟨some 57, .pick (.slot 53) (.slot 56) (.cst (.bool false)), none, [], []⟩,
  ⟨some 4, .move (.slot 57), none, [], []⟩]
def C.catnaplaw9_RegsPlay_r7 : List IOper := C.catnaplaw9_RegsPlay_r7_b
theorem C.catnaplaw9_RegsPlay_r7_w {k : AFr → ASt → Prop} : aops P C.catnaplaw9_RegsPlay_r7 k fr st = aops P C.catnaplaw9_RegsPlay_r7_b k fr st := rfl
def C.catnaplaw9_RegsPlay_c43 : ICode := .seq (.region C.catnaplaw9_RegsPlay_r7) .ret
theorem C.catnaplaw9_RegsPlay_c43_w : awp P C.catnaplaw9_RegsPlay_c43 Q fr st = awp P (.seq (.region C.catnaplaw9_RegsPlay_r7) .ret) Q fr st := rfl
def C.catnaplaw9_RegsPlay_c44 : ICode := .keep [0, 1, 6, 7, 8, 9, 46] (.cond (.slot 46) C.catnaplaw9_RegsPlay_c43 .skip)
theorem C.catnaplaw9_RegsPlay_c44_w : awp P C.catnaplaw9_RegsPlay_c44 Q fr st = awp P (.keep [0, 1, 6, 7, 8, 9, 46] (.cond (.slot 46) C.catnaplaw9_RegsPlay_c43 .skip)) Q fr st := rfl
def C.catnaplaw9_RegsPlay_r6_b : List IOper := [
  ⟨some 41, .move (.slot 6), none, [], []⟩,
  ⟨some 42, .eqP 0 false (.slot 41) (.cst (.nilp)), none, [], []⟩,
  ⟨some 43, .move (.slot 42), none, [], []⟩,
  ⟨some 44, .move (.slot 8), some (43, false), [], []⟩,
  ⟨some 45, .eqP 0 false (.slot 44) (.cst (.nilp)), some (43, false), [], []⟩,
  ⟨some 46, .pick (.slot 43) (.cst (.bool true)) (.slot 45), none, [], []⟩]
def C.catnaplaw9_RegsPlay_r6 : List IOper := C.catnaplaw9_RegsPlay_r6_b
theorem C.catnaplaw9_RegsPlay_r6_w {k : AFr → ASt → Prop} : aops P C.catnaplaw9_RegsPlay_r6 k fr st = aops P C.catnaplaw9_RegsPlay_r6_b k fr st := rfl
def C.catnaplaw9_RegsPlay_c45 : ICode := .keep [0, 1, 6, 7, 8, 9] (.seq (.seq (.region C.catnaplaw9_RegsPlay_r6) C.catnaplaw9_RegsPlay_c44) C.catnaplaw9_RegsPlay_c42)
theorem C.catnaplaw9_RegsPlay_c45_w : awp P C.catnaplaw9_RegsPlay_c45 Q fr st = awp P (.keep [0, 1, 6, 7, 8, 9] (.seq (.seq (.region C.catnaplaw9_RegsPlay_r6) C.catnaplaw9_RegsPlay_c44) C.catnaplaw9_RegsPlay_c42)) Q fr st := rfl
def C.catnaplaw9_RegsPlay_r5_b : List IOper := [
  ⟨some 37, .move (.slot 0), none, [], []⟩,
  ⟨some 38, .call F.catnapref9_New [.slot 37], none, [], []⟩,
  ⟨some 36, .move (.slot 38), none, [], []⟩,
  ⟨some 39, .extract (.slot 36) 0, none, [], []⟩,
  ⟨some 40, .extract (.slot 36) 1, none, [], []⟩,
  ⟨some 8, .move (.slot 39), none, [], []⟩,
  ⟨some 9, .move (.slot 40), none, [], []⟩]
def C.catnaplaw9_RegsPlay_r5 : List IOper := C.catnaplaw9_RegsPlay_r5_b
theorem C.catnaplaw9_RegsPlay_r5_w {k : AFr → ASt → Prop} : aops P C.catnaplaw9_RegsPlay_r5 k fr st = aops P C.catnaplaw9_RegsPlay_r5_b k fr st := rfl
def C.catnaplaw9_RegsPlay_c46 : ICode := .keep [0, 1, 6, 7] (.seq (.region C.catnaplaw9_RegsPlay_r5) C.catnaplaw9_RegsPlay_c45)
theorem C.catnaplaw9_RegsPlay_c46_w : awp P C.catnaplaw9_RegsPlay_c46 Q fr st = awp P (.keep [0, 1, 6, 7] (.seq (.region C.catnaplaw9_RegsPlay_r5) C.catnaplaw9_RegsPlay_c45)) Q fr st := rfl
def C.catnaplaw9_RegsPlay_r4_b : List IOper := [
  ⟨some 32, .move (.slot 0), none, [], []⟩,
  ⟨some 33, .call F.regs_New [.slot 32], none, [], []⟩,
  ⟨some 31, .move (.slot 33), none, [], []⟩,
  ⟨some 34, .extract (.slot 31) 0, none, [], []⟩,
  ⟨some 35, .extract (.slot 31) 1, none, [], []⟩,
  ⟨some 6, .move (.slot 34), none, [], []⟩,
  ⟨some 7, .move (.slot 35), none, [], []⟩]
def C.catnaplaw9_RegsPlay_r4 : List IOper := C.catnaplaw9_RegsPlay_r4_b
theorem C.catnaplaw9_RegsPlay_r4_w {k : AFr → ASt → Prop} : aops P C.catnaplaw9_RegsPlay_r4 k fr st = aops P C.catnaplaw9_RegsPlay_r4_b k fr st := rfl
def C.catnaplaw9_RegsPlay_c47 : ICode := .keep [0, 1] (.seq (.region C.catnaplaw9_RegsPlay_r4) C.catnaplaw9_RegsPlay_c46)
theorem C.catnaplaw9_RegsPlay_c47_w : awp P C.catnaplaw9_RegsPlay_c47 Q fr st = awp P (.keep [0, 1] (.seq (.region C.catnaplaw9_RegsPlay_r4) C.catnaplaw9_RegsPlay_c46)) Q fr st := rfl
def C.catnaplaw9_RegsPlay_r3_b : List IOper := [
  ⟨some 30, .move (.slot 5), none, [], []⟩,
  ⟨some 4, .move (.slot 30), none, [], []⟩]
def C.catnaplaw9_RegsPlay_r3 : List IOper := C.catnaplaw9_RegsPlay_r3_b
theorem C.catnaplaw9_RegsPlay_r3_w {k : AFr → ASt → Prop} : aops P C.catnaplaw9_RegsPlay_r3 k fr st = aops P C.catnaplaw9_RegsPlay_r3_b k fr st := rfl
def C.catnaplaw9_RegsPlay_c48 : ICode := .seq (.region C.catnaplaw9_RegsPlay_r3) .ret
theorem C.catnaplaw9_RegsPlay_c48_w : awp P C.catnaplaw9_RegsPlay_c48 Q fr st = awp P (.seq (.region C.catnaplaw9_RegsPlay_r3) .ret) Q fr st := rfl
def C.catnaplaw9_RegsPlay_c49 : ICode := .keep [0, 1, 5, 29] (.cond (.slot 29) C.catnaplaw9_RegsPlay_c48 .skip)
theorem C.catnaplaw9_RegsPlay_c49_w : awp P C.catnaplaw9_RegsPlay_c49 Q fr st = awp P (.keep [0, 1, 5, 29] (.cond (.slot 29) C.catnaplaw9_RegsPlay_c48 .skip)) Q fr st := rfl
def C.catnaplaw9_RegsPlay_r2_b : List IOper := [
  ⟨some 18, .move (.slot 5), none, [], []⟩,
  ⟨some 19, .un .not (.slot 18), none, [], []⟩,
  ⟨some 20, .move (.slot 19), none, [], []⟩,
  ⟨some 21, .move (.slot 1), some (20, false), [], []⟩,
  ⟨some 22, .len (.slot 21), some (20, false), [], []⟩,
  ⟨some 23, .bin .gtr (.slot 22) (.cst (.int .i64 150)), some (20, false), [], []⟩,
  ⟨some 24, .pick (.slot 20) (.cst (.bool true)) (.slot 23), none, [], []⟩,
  ⟨some 25, .move (.slot 24), none, [], []⟩,
  ⟨some 26, .move (.slot 0), some (25, false), [], []⟩,
  ⟨some 27, .len (.slot 26), some (25, false), [], []⟩,
  ⟨some 28, .bin .gtr (.slot 27) (.cst (.int .i64 40)), some (25, false), [], []⟩,
  ⟨some 29, .pick (.slot 25) (.cst (.bool true)) (.slot 28), none, [], []⟩]
def C.catnaplaw9_RegsPlay_r2 : List IOper := C.catnaplaw9_RegsPlay_r2_b
theorem C.catnaplaw9_RegsPlay_r2_w {k : AFr → ASt → Prop} : aops P C.catnaplaw9_RegsPlay_r2 k fr st = aops P C.catnaplaw9_RegsPlay_r2_b k fr st := rfl
def C.catnaplaw9_RegsPlay_c50 : ICode := .keep [0, 1, 5] (.seq (.seq (.region C.catnaplaw9_RegsPlay_r2) C.catnaplaw9_RegsPlay_c49) C.catnaplaw9_RegsPlay_c47)
theorem C.catnaplaw9_RegsPlay_c50_w : awp P C.catnaplaw9_RegsPlay_c50 Q fr st = awp P (.keep [0, 1, 5] (.seq (.seq (.region C.catnaplaw9_RegsPlay_r2) C.catnaplaw9_RegsPlay_c49) C.catnaplaw9_RegsPlay_c47)) Q fr st := rfl
def C.catnaplaw9_RegsPlay_r1_b : List IOper := [
  ⟨some 17, .call F.catnaplaw9_shown [], none, [], []⟩,
  ⟨some 5, .move (.slot 17), none, [], []⟩]
def C.catnaplaw9_RegsPlay_r1 : List IOper := C.catnaplaw9_RegsPlay_r1_b
theorem C.catnaplaw9_RegsPlay_r1_w {k : AFr → ASt → Prop} : aops P C.catnaplaw9_RegsPlay_r1 k fr st = aops P C.catnaplaw9_RegsPlay_r1_b k fr st := rfl
def C.catnaplaw9_RegsPlay_c51 : ICode := .keep [0, 1] (.seq (.region C.catnaplaw9_RegsPlay_r1) C.catnaplaw9_RegsPlay_c50)
theorem C.catnaplaw9_RegsPlay_c51_w : awp P C.catnaplaw9_RegsPlay_c51 Q fr st = awp P (.keep [0, 1] (.seq (.region C.catnaplaw9_RegsPlay_r1) C.catnaplaw9_RegsPlay_c50)) Q fr st := rfl
def C.catnaplaw9_RegsPlay_r0_b : List IOper := [
  ⟨some 4, .move (.cst (.bool false)), none, [], []⟩]
def C.catnaplaw9_RegsPlay_r0 : List IOper := C.catnaplaw9_RegsPlay_r0_b
theorem C.catnaplaw9_RegsPlay_r0_w {k : AFr → ASt → Prop} : aops P C.catnaplaw9_RegsPlay_r0 k fr st = aops P C.catnaplaw9_RegsPlay_r0_b k fr st := rfl
def C.catnaplaw9_RegsPlay : IFunc := ⟨2, [.slot 4], .seq (.region C.catnaplaw9_RegsPlay_r0) C.catnaplaw9_RegsPlay_c51⟩
def C.catnaplaw9_RegsPlay_W := And.intro (And.intro (And.intro (And.intro (And.intro (And.intro @C.catnaplaw9_RegsPlay_r33_w @C.catnaplaw9_RegsPlay_c1_w) (And.intro @C.catnaplaw9_RegsPlay_r10_w (And.intro @C.catnaplaw9_RegsPlay_c2_w @C.catnaplaw9_RegsPlay_r28_w))) (And.intro (And.intro @C.catnaplaw9_RegsPlay_c3_w @C.catnaplaw9_RegsPlay_r32_w) (And.intro @C.catnaplaw9_RegsPlay_c4_w (And.intro @C.catnaplaw9_RegsPlay_c5_w @C.catnaplaw9_RegsPlay_r31_w)))) (And.intro (And.intro (And.intro @C.catnaplaw9_RegsPlay_c6_w @C.catnaplaw9_RegsPlay_r30_w) (And.intro @C.catnaplaw9_RegsPlay_c7_w (And.intro @C.catnaplaw9_RegsPlay_r29_w @C.catnaplaw9_RegsPlay_b8_w))) (And.intro (And.intro @C.catnaplaw9_RegsPlay_c9_w @C.catnaplaw9_RegsPlay_c10_w) (And.intro @C.catnaplaw9_RegsPlay_r27_w (And.intro @C.catnaplaw9_RegsPlay_b12_w @C.catnaplaw9_RegsPlay_c13_w))))) (And.intro (And.intro (And.intro (And.intro @C.catnaplaw9_RegsPlay_r26_w @C.catnaplaw9_RegsPlay_c14_w) (And.intro @C.catnaplaw9_RegsPlay_r19_w (And.intro @C.catnaplaw9_RegsPlay_c15_w @C.catnaplaw9_RegsPlay_c16_w))) (And.intro (And.intro @C.catnaplaw9_RegsPlay_r18_w @C.catnaplaw9_RegsPlay_r22_w) (And.intro @C.catnaplaw9_RegsPlay_c17_w (And.intro @C.catnaplaw9_RegsPlay_r21_w @C.catnaplaw9_RegsPlay_r25_w)))) (And.intro (And.intro (And.intro @C.catnaplaw9_RegsPlay_c18_w @C.catnaplaw9_RegsPlay_r24_w) (And.intro @C.catnaplaw9_RegsPlay_r14_w (And.intro @C.catnaplaw9_RegsPlay_c19_w @C.catnaplaw9_RegsPlay_r13_w))) (And.intro (And.intro @C.catnaplaw9_RegsPlay_c20_w (And.intro @C.catnaplaw9_RegsPlay_c21_w @C.catnaplaw9_RegsPlay_c22_w)) (And.intro @C.catnaplaw9_RegsPlay_r23_w (And.intro @C.catnaplaw9_RegsPlay_c23_w @C.catnaplaw9_RegsPlay_c24_w)))))) (And.intro (And.intro (And.intro (And.intro (And.intro @C.catnaplaw9_RegsPlay_c25_w @C.catnaplaw9_RegsPlay_r20_w) (And.intro @C.catnaplaw9_RegsPlay_c26_w (And.intro @C.catnaplaw9_RegsPlay_c27_w @C.catnaplaw9_RegsPlay_c28_w))) (And.intro (And.intro @C.catnaplaw9_RegsPlay_r17_w @C.catnaplaw9_RegsPlay_c29_w) (And.intro @C.catnaplaw9_RegsPlay_c30_w (And.intro @C.catnaplaw9_RegsPlay_r16_w @C.catnaplaw9_RegsPlay_c31_w)))) (And.intro (And.intro (And.intro @C.catnaplaw9_RegsPlay_c32_w @C.catnaplaw9_RegsPlay_r15_w) (And.intro @C.catnaplaw9_RegsPlay_b33_w (And.intro @C.catnaplaw9_RegsPlay_c34_w @C.catnaplaw9_RegsPlay_r12_w))) (And.intro (And.intro @C.catnaplaw9_RegsPlay_c35_w (And.intro @C.catnaplaw9_RegsPlay_r11_w @C.catnaplaw9_RegsPlay_b36_w)) (And.intro @C.catnaplaw9_RegsPlay_c37_w (And.intro @C.catnaplaw9_RegsPlay_c38_w @C.catnaplaw9_RegsPlay_r9_w))))) (And.intro (And.intro (And.intro (And.intro @C.catnaplaw9_RegsPlay_b40_w @C.catnaplaw9_RegsPlay_c41_w) (And.intro @C.catnaplaw9_RegsPlay_r8_w (And.intro @C.catnaplaw9_RegsPlay_c42_w @C.catnaplaw9_RegsPlay_r7_w))) (And.intro (And.intro @C.catnaplaw9_RegsPlay_c43_w @C.catnaplaw9_RegsPlay_c44_w) (And.intro @C.catnaplaw9_RegsPlay_r6_w (And.intro @C.catnaplaw9_RegsPlay_c45_w @C.catnaplaw9_RegsPlay_r5_w)))) (And.intro (And.intro (And.intro @C.catnaplaw9_RegsPlay_c46_w @C.catnaplaw9_RegsPlay_r4_w) (And.intro @C.catnaplaw9_RegsPlay_c47_w (And.intro @C.catnaplaw9_RegsPlay_r3_w @C.catnaplaw9_RegsPlay_c48_w))) (And.intro (And.intro @C.catnaplaw9_RegsPlay_c49_w (And.intro @C.catnaplaw9_RegsPlay_r2_w @C.catnaplaw9_RegsPlay_c50_w)) (And.intro @C.catnaplaw9_RegsPlay_r1_w (And.intro @C.catnaplaw9_RegsPlay_c51_w @C.catnaplaw9_RegsPlay_r0_w))))))
def C.catnaplaw9_RegsPlay_B := And.intro (And.intro (And.intro (And.intro (And.intro @C.catnaplaw9_RegsPlay_r33_b.eq_1 @C.catnaplaw9_RegsPlay_r10_b.eq_1) (And.intro @C.catnaplaw9_RegsPlay_r28_b.eq_1 @C.catnaplaw9_RegsPlay_r32_b.eq_1)) (And.intro (And.intro @C.catnaplaw9_RegsPlay_r31_b.eq_1 @C.catnaplaw9_RegsPlay_r30_b.eq_1) (And.intro @C.catnaplaw9_RegsPlay_r29_b.eq_1 @C.catnaplaw9_RegsPlay_r27_b.eq_1))) (And.intro (And.intro (And.intro @C.catnaplaw9_RegsPlay_r26_b.eq_1 @C.catnaplaw9_RegsPlay_r19_b.eq_1) (And.intro @C.catnaplaw9_RegsPlay_r18_b.eq_1 @C.catnaplaw9_RegsPlay_r22_b.eq_1)) (And.intro (And.intro @C.catnaplaw9_RegsPlay_r21_b.eq_1 @C.catnaplaw9_RegsPlay_r25_b.eq_1) (And.intro @C.catnaplaw9_RegsPlay_r24_b.eq_1 (And.intro @C.catnaplaw9_RegsPlay_r14_b.eq_1 @C.catnaplaw9_RegsPlay_r13_b.eq_1))))) (And.intro (And.intro (And.intro (And.intro @C.catnaplaw9_RegsPlay_r23_b.eq_1 @C.catnaplaw9_RegsPlay_r20_b.eq_1) (And.intro @C.catnaplaw9_RegsPlay_r17_b.eq_1 @C.catnaplaw9_RegsPlay_r16_b.eq_1)) (And.intro (And.intro @C.catnaplaw9_RegsPlay_r15_b.eq_1 @C.catnaplaw9_RegsPlay_r12_b.eq_1) (And.intro @C.catnaplaw9_RegsPlay_r11_b.eq_1 @C.catnaplaw9_RegsPlay_r9_b.eq_1))) (And.intro (And.intro (And.intro @C.catnaplaw9_RegsPlay_r8_b.eq_1 @C.catnaplaw9_RegsPlay_r7_b.eq_1) (And.intro @C.catnaplaw9_RegsPlay_r6_b.eq_1 @C.catnaplaw9_RegsPlay_r5_b.eq_1)) (And.intro (And.intro @C.catnaplaw9_RegsPlay_r4_b.eq_1 @C.catnaplaw9_RegsPlay_r3_b.eq_1) (And.intro @C.catnaplaw9_RegsPlay_r2_b.eq_1 (And.intro @C.catnaplaw9_RegsPlay_r1_b.eq_1 @C.catnaplaw9_RegsPlay_r0_b.eq_1)))))

def C.catnaplaw9_RegsKeep_r35_b : List IOper := [
  ⟨some 152, .move (.slot 20), none, [], []⟩,
  ⟨some 153, .bin .eql (.slot 152) (.cst (.int .i64 4)), none, [], []⟩,
  ⟨some 154, .move (.slot 153), none, [], []⟩,
  ⟨some 155, .move (.slot 8), some (154, true), [], []⟩,
  ⟨some 156, .call F.regs_File_Write [.slot 155, .cst (.int .i64 (-1)), .cst (.int .u32 0)], some (154, true), [], []⟩,
  ⟨some 157, .bin .eql (.slot 156) (.cst (.int .i64 4)), some (154, true), [], []⟩,
  ⟨some 158, .pick (.slot 154) (.slot 157) (.cst (.bool false)), none, [], []⟩,
  ⟨some 6, .move (.slot 158), none, [], []⟩]
def C.catnaplaw9_RegsKeep_r35 : List IOper := C.catnaplaw9_RegsKeep_r35_b
theorem C.catnaplaw9_RegsKeep_r35_w {k : AFr → ASt → Prop} : aops P C.catnaplaw9_RegsKeep_r35 k fr st = aops P C.catnaplaw9_RegsKeep_r35_b k fr st := rfl
def C.catnaplaw9_RegsKeep_c1 : ICode := .keep [8, 20] (.seq (.region C.catnaplaw9_RegsKeep_r35) .ret)
theorem C.catnaplaw9_RegsKeep_c1_w : awp P C.catnaplaw9_RegsKeep_c1 Q fr st = awp P (.keep [8, 20] (.seq (.region C.catnaplaw9_RegsKeep_r35) .ret)) Q fr st := rfl
def C.catnaplaw9_RegsKeep_r34_b : List IOper := [
  ⟨some 146, .move (.slot 8), none, [], []⟩,
  ⟨some 147, .move (.slot 0), none, [], []⟩,
  ⟨some 148, .len (.slot 147), none, [], []⟩,
  ⟨some 149, .call F.regs_File_Read [.slot 146, .slot 148], none, [], []⟩,
  ⟨some 145, .move (.slot 149), none, [], []⟩,
  ⟨some 150, .extract (.slot 145) 0, none, [], []⟩,
  ⟨some 151, .extract (.slot 145) 1, none, [], []⟩,
  ⟨some 19, .move (.slot 150), none, [], []⟩,
  ⟨some 20, .move (.slot 151), none, [], []⟩]
def C.catnaplaw9_RegsKeep_r34 : List IOper := C.catnaplaw9_RegsKeep_r34_b
theorem C.catnaplaw9_RegsKeep_r34_w {k : AFr → ASt → Prop} : aops P C.catnaplaw9_RegsKeep_r34 k fr st = aops P C.catnaplaw9_RegsKeep_r34_b k fr st := rfl
def C.catnaplaw9_RegsKeep_c2 : ICode := .keep [0, 8] (.seq (.region C.catnaplaw9_RegsKeep_r34) C.catnaplaw9_RegsKeep_c1)
theorem C.catnaplaw9_RegsKeep_c2_w : awp P C.catnaplaw9_RegsKeep_c2 Q fr st = awp P (.keep [0, 8] (.seq (.region C.catnaplaw9_RegsKeep_r34) C.catnaplaw9_RegsKeep_c1)) Q fr st := rfl
def C.catnaplaw9_RegsKeep_r30_b : List IOper := [
  ⟨some 130, .move (.slot 16), none, [], []⟩,
  ⟨some 131, .bin .add (.slot 130) (.cst (.int .i64 1)), none, [], []⟩,
  ⟨some 16, .move (.slot 131), none, [], []⟩]
def C.catnaplaw9_RegsKeep_r30 : List IOper := C.catnaplaw9_RegsKeep_r30_b
theorem C.catnaplaw9_RegsKeep_r30_w {k : AFr → ASt → Prop} : aops P C.catnaplaw9_RegsKeep_r30 k fr st = aops P C.catnaplaw9_RegsKeep_r30_b k fr st := rfl
def C.catnaplaw9_RegsKeep_c3 : ICode := .keep [0, 8, 16] (.region C.catnaplaw9_RegsKeep_r30)
theorem C.catnaplaw9_RegsKeep_c3_w : awp P C.catnaplaw9_RegsKeep_c3 Q fr st = awp P (.keep [0, 8, 16] (.region C.catnaplaw9_RegsKeep_r30)) Q fr st := rfl
def C.catnaplaw9_RegsKeep_r33_b : List IOper := [
  ⟨some 6, .move (.cst (.bool false)), none, [], []⟩]
def C.catnaplaw9_RegsKeep_r33 : List IOper := C.catnaplaw9_RegsKeep_r33_b
theorem C.catnaplaw9_RegsKeep_r33_w {k : AFr → ASt → Prop} : aops P C.catnaplaw9_RegsKeep_r33 k fr st = aops P C.catnaplaw9_RegsKeep_r33_b k fr st := rfl
def C.catnaplaw9_RegsKeep_c4 : ICode := .seq (.region C.catnaplaw9_RegsKeep_r33) .ret
theorem C.catnaplaw9_RegsKeep_c4_w : awp P C.catnaplaw9_RegsKeep_c4 Q fr st = awp P (.seq (.region C.catnaplaw9_RegsKeep_r33) .ret) Q fr st := rfl
def C.catnaplaw9_RegsKeep_c5 : ICode := .keep [0, 8, 16, 144] (.cond (.slot 144) C.catnaplaw9_RegsKeep_c4 .skip)
theorem C.catnaplaw9_RegsKeep_c5_w : awp P C.catnaplaw9_RegsKeep_c5 Q fr st = awp P (.keep [0, 8, 16, 144] (.cond (.slot 144) C.catnaplaw9_RegsKeep_c4 .skip)) Q fr st := rfl
def C.catnaplaw9_RegsKeep_r32_b : List IOper := [
  ⟨some 138, .move (.slot 17), none, [], []⟩,
  ⟨some 139, .move (.slot 0), none, [], []⟩,
  ⟨some 140, .move (.slot 16), none, [], []⟩,
  ⟨some 141, .idxAddr 2 (.slot 139) (.slot 140), none, [], []⟩,
  ⟨some 142, .fldAddr 0 (.slot 141), none, [], []⟩,
  ⟨some 143, .load1 (.slot 142), none, [], []⟩,
  ⟨some 144, .bin .neq (.slot 138) (.slot 143), none, [], []⟩]
def C.catnaplaw9_RegsKeep_r32 : List IOper := C.catnaplaw9_RegsKeep_r32_b
theorem C.catnaplaw9_RegsKeep_r32_w {k : AFr → ASt → Prop} : aops P C.catnaplaw9_RegsKeep_r32 k fr st = aops P C.catnaplaw9_RegsKeep_r32_b k fr st := rfl
def C.catnaplaw9_RegsKeep_c6 : ICode := .keep [0, 8, 16, 17] (.seq (.region C.catnaplaw9_RegsKeep_r32) C.catnaplaw9_RegsKeep_c5)
theorem C.catnaplaw9_RegsKeep_c6_w : awp P C.catnaplaw9_RegsKeep_c6 Q fr st = awp P (.keep [0, 8, 16, 17] (.seq (.region C.catnaplaw9_RegsKeep_r32) C.catnaplaw9_RegsKeep_c5)) Q fr st := rfl
def C.catnaplaw9_RegsKeep_r31_b : List IOper := [
  ⟨some 133, .move (.slot 8), none, [], []⟩,
  ⟨some 134, .move (.slot 16), none, [], []⟩,
  ⟨some 135, .call F.regs_File_Read [.slot 133, .slot 134], none, [], []⟩,
  ⟨some 132, .move (.slot 135), none, [], []⟩,
  ⟨some 136, .extract (.slot 132) 0, none, [], []⟩,
  ⟨some 137, .extract (.slot 132) 1, none, [], []⟩,
  ⟨some 17, .move (.slot 136), none, [], []⟩,
  ⟨some 18, .move (.slot 137), none, [], []⟩]
def C.catnaplaw9_RegsKeep_r31 : List IOper := C.catnaplaw9_RegsKeep_r31_b
theorem C.catnaplaw9_RegsKeep_r31_w {k : AFr → ASt → Prop} : aops P C.catnaplaw9_RegsKeep_r31 k fr st = aops P C.catnaplaw9_RegsKeep_r31_b k fr st := rfl
def C.catnaplaw9_RegsKeep_b7 : ICode := .seq (.region C.catnaplaw9_RegsKeep_r31) C.catnaplaw9_RegsKeep_c6
theorem C.catnaplaw9_RegsKeep_b7_w : awp P C.catnaplaw9_RegsKeep_b7 Q fr st = awp P (.seq (.region C.catnaplaw9_RegsKeep_r31) C.catnaplaw9_RegsKeep_c6) Q fr st := rfl
def C.catnaplaw9_RegsKeep_c8 : ICode := .keep [0, 8, 16] (.seq (.block 7 C.catnaplaw9_RegsKeep_b7) C.catnaplaw9_RegsKeep_c3)
theorem C.catnaplaw9_RegsKeep_c8_w : awp P C.catnaplaw9_RegsKeep_c8 Q fr st = awp P (.keep [0, 8, 16] (.seq (.block 7 C.catnaplaw9_RegsKeep_b7) C.catnaplaw9_RegsKeep_c3)) Q fr st := rfl
def C.catnaplaw9_RegsKeep_c9 : ICode := .keep [0, 8, 16, 129] (.cond (.slot 129) .skip (.exit 6))
theorem C.catnaplaw9_RegsKeep_c9_w : awp P C.catnaplaw9_RegsKeep_c9 Q fr st = awp P (.keep [0, 8, 16, 129] (.cond (.slot 129) .skip (.exit 6))) Q fr st := rfl
def C.catnaplaw9_RegsKeep_r29_b : List IOper := [
  ⟨some 126, .move (.slot 16), none, [], []⟩,
  ⟨some 127, .move (.slot 0), none, [], []⟩,
  ⟨some 128, .len (.slot 127), none, [], []⟩,
  ⟨some 129, .bin .lss (.slot 126) (.slot 128), none, [], []⟩]
def C.catnaplaw9_RegsKeep_r29 : List IOper := C.catnaplaw9_RegsKeep_r29_b
theorem C.catnaplaw9_RegsKeep_r29_w {k : AFr → ASt → Prop} : aops P C.catnaplaw9_RegsKeep_r29 k fr st = aops P C.catnaplaw9_RegsKeep_r29_b k fr st := rfl
def C.catnaplaw9_RegsKeep_l10 : ICode := .keep [0, 8, 16] (.seq (.seq (.region C.catnaplaw9_RegsKeep_r29) C.catnaplaw9_RegsKeep_c9) C.catnaplaw9_RegsKeep_c8)
theorem C.catnaplaw9_RegsKeep_l10_w : awp P C.catnaplaw9_RegsKeep_l10 Q fr st = awp P (.keep [0, 8, 16] (.seq (.seq (.region C.catnaplaw9_RegsKeep_r29) C.catnaplaw9_RegsKeep_c9) C.catnaplaw9_RegsKeep_c8)) Q fr st := rfl
def C.catnaplaw9_RegsKeep_b11 : ICode := .loop C.catnaplaw9_RegsKeep_l10
theorem C.catnaplaw9_RegsKeep_b11_w : awp P C.catnaplaw9_RegsKeep_b11 Q fr st = awp P (.loop C.catnaplaw9_RegsKeep_l10) Q fr st := rfl
def C.catnaplaw9_RegsKeep_c12 : ICode := .keep [0, 8, 16] (.block 6 C.catnaplaw9_RegsKeep_b11)
theorem C.catnaplaw9_RegsKeep_c12_w : awp P C.catnaplaw9_RegsKeep_c12 Q fr st = awp P (.keep [0, 8, 16] (.block 6 C.catnaplaw9_RegsKeep_b11)) Q fr st := rfl
def C.catnaplaw9_RegsKeep_r28_b : List IOper := [
  ⟨some 16, .move (.cst (.int .i64 0)), none, [], []⟩]
def C.catnaplaw9_RegsKeep_r28 : List IOper := C.catnaplaw9_RegsKeep_r28_b
theorem C.catnaplaw9_RegsKeep_r28_w {k : AFr → ASt → Prop} : aops P C.catnaplaw9_RegsKeep_r28 k fr st = aops P C.catnaplaw9_RegsKeep_r28_b k fr st := rfl
def C.catnaplaw9_RegsKeep_c13 : ICode := .keep [0, 8] (.seq (.seq (.region C.catnaplaw9_RegsKeep_r28) C.catnaplaw9_RegsKeep_c12) C.catnaplaw9_RegsKeep_c2)
theorem C.catnaplaw9_RegsKeep_c13_w : awp P C.catnaplaw9_RegsKeep_c13 Q fr st = awp P (.keep [0, 8] (.seq (.seq (.region C.catnaplaw9_RegsKeep_r28) C.catnaplaw9_RegsKeep_c12) C.catnaplaw9_RegsKeep_c2)) Q fr st := rfl
def C.catnaplaw9_RegsKeep_r27_b : List IOper := [
  ⟨some 124, .move (.slot 8), none, [], []⟩,
  ⟨some 125, .call F.regs_File_Restore [.slot 124], none, [], []⟩]
def C.catnaplaw9_RegsKeep_r27 : List IOper := C.catnaplaw9_RegsKeep_r27_b
theorem C.catnaplaw9_RegsKeep_r27_w {k : AFr → ASt → Prop} : aops P C.catnaplaw9_RegsKeep_r27 k fr st = aops P C.catnaplaw9_RegsKeep_r27_b k fr st := rfl
def C.catnaplaw9_RegsKeep_c14 : ICode := .keep [0, 8] (.seq (.region C.catnaplaw9_RegsKeep_r27) C.catnaplaw9_RegsKeep_c13)
theorem C.catnaplaw9_RegsKeep_c14_w : awp P C.catnaplaw9_RegsKeep_c14 Q fr st = awp P (.keep [0, 8] (.seq (.region C.catnaplaw9_RegsKeep_r27) C.catnaplaw9_RegsKeep_c13)) Q fr st := rfl
def C.catnaplaw9_RegsKeep_r26_b : List IOper := [
  ⟨some 122, .move (.slot 8), none, [], []⟩,
  ⟨some 123, .call F.regs_File_Clear [.slot 122], none, [], []⟩]
def C.catnaplaw9_RegsKeep_r26 : List IOper := C.catnaplaw9_RegsKeep_r26_b
theorem C.catnaplaw9_RegsKeep_r26_w {k : AFr → ASt → Prop} : aops P C.catnaplaw9_RegsKeep_r26 k fr st = aops P C.catnaplaw9_RegsKeep_r26_b k fr st := rfl
def C.catnaplaw9_RegsKeep_c15 : ICode := .keep [0, 8] (.seq (.region C.catnaplaw9_RegsKeep_r26) C.catnaplaw9_RegsKeep_c14)
theorem C.catnaplaw9_RegsKeep_c15_w : awp P C.catnaplaw9_RegsKeep_c15 Q fr st = awp P (.keep [0, 8] (.seq (.region C.catnaplaw9_RegsKeep_r26) C.catnaplaw9_RegsKeep_c14)) Q fr st := rfl
def C.catnaplaw9_RegsKeep_r19_b : List IOper := [
  ⟨some 87, .move (.slot 12), none, [], []⟩,
  ⟨some 88, .bin .add (.slot 87) (.cst (.int .i64 1)), none, [], []⟩,
  ⟨some 12, .move (.slot 88), none, [], []⟩]
def C.catnaplaw9_RegsKeep_r19 : List IOper := C.catnaplaw9_RegsKeep_r19_b
theorem C.catnaplaw9_RegsKeep_r19_w {k : AFr → ASt → Prop} : aops P C.catnaplaw9_RegsKeep_r19 k fr st = aops P C.catnaplaw9_RegsKeep_r19_b k fr st := rfl
def C.catnaplaw9_RegsKeep_c16 : ICode := .keep [0, 1, 8, 12] (.region C.catnaplaw9_RegsKeep_r19)
theorem C.catnaplaw9_RegsKeep_c16_w : awp P C.catnaplaw9_RegsKeep_c16 Q fr st = awp P (.keep [0, 1, 8, 12] (.region C.catnaplaw9_RegsKeep_r19)) Q fr st := rfl
def C.catnaplaw9_RegsKeep_r25_b : List IOper := [
  ⟨some 6, .move (.cst (.bool false)), none, [], []⟩]
def C.catnaplaw9_RegsKeep_r25 : List IOper := C.catnaplaw9_RegsKeep_r25_b
theorem C.catnaplaw9_RegsKeep_r25_w {k : AFr → ASt → Prop} : aops P C.catnaplaw9_RegsKeep_r25 k fr st = aops P C.catnaplaw9_RegsKeep_r25_b k fr st := rfl
def C.catnaplaw9_RegsKeep_c17 : ICode := .seq (.region C.catnaplaw9_RegsKeep_r25) .ret
theorem C.catnaplaw9_RegsKeep_c17_w : awp P C.catnaplaw9_RegsKeep_c17 Q fr st = awp P (.seq (.region C.catnaplaw9_RegsKeep_r25) .ret) Q fr st := rfl
def C.catnaplaw9_RegsKeep_c18 : ICode := .keep [0, 1, 8, 12, 121] (.cond (.slot 121) C.catnaplaw9_RegsKeep_c17 .skip)
theorem C.catnaplaw9_RegsKeep_c18_w : awp P C.catnaplaw9_RegsKeep_c18 Q fr st = awp P (.keep [0, 1, 8, 12, 121] (.cond (.slot 121) C.catnaplaw9_RegsKeep_c17 .skip)) Q fr st := rfl
def C.catnaplaw9_RegsKeep_r24_b : List IOper := [
  ⟨some 115, .move (.slot 14), none, [], []⟩,
  ⟨some 116, .move (.slot 13), none, [], []⟩,
  ⟨some 117, .bin .neq (.slot 115) (.slot 116), none, [], []⟩,
  ⟨some 118, .move (.slot 117), none, [], []⟩,
  ⟨some 119, .move (.slot 15), some (118, false), [], []⟩,
  ⟨some 120, .bin .neq (.slot 119) (.cst (.int .i64 0)), some (118, false), [], []⟩,
  ⟨some 121, .pick (.slot 118) (.cst (.bool true)) (.slot 120), none, [], []⟩]
def C.catnaplaw9_RegsKeep_r24 : List IOper := C.catnaplaw9_RegsKeep_r24_b
theorem C.catnaplaw9_RegsKeep_r24_w {k : AFr → ASt → Prop} : aops P C.catnaplaw9_RegsKeep_r24 k fr st = aops P C.catnaplaw9_RegsKeep_r24_b k fr st := rfl
def C.catnaplaw9_RegsKeep_c19 : ICode := .keep [0, 1, 8, 12, 13, 14, 15] (.seq (.region C.catnaplaw9_RegsKeep_r24) C.catnaplaw9_RegsKeep_c18)
theorem C.catnaplaw9_RegsKeep_c19_w : awp P C.catnaplaw9_RegsKeep_c19 Q fr st = awp P (.keep [0, 1, 8, 12, 13, 14, 15] (.seq (.region C.catnaplaw9_RegsKeep_r24) C.catnaplaw9_RegsKeep_c18)) Q fr st := rfl
def C.catnaplaw9_RegsKeep_r23_b : List IOper := [
  ⟨some 110, .move (.slot 8), none, [], []⟩,
  ⟨some 111, .move (.slot 12), none, [], []⟩,
  ⟨some 112, .call F.regs_File_Read [.slot 110, .slot 111], none, [], []⟩,
  ⟨some 109, .move (.slot 112), none, [], []⟩,
  ⟨some 113, .extract (.slot 109) 0, none, [], []⟩,
  ⟨some 114, .extract (.slot 109) 1, none, [], []⟩,
  ⟨some 14, .move (.slot 113), none, [], []⟩,
  ⟨some 15, .move (.slot 114), none, [], []⟩]
def C.catnaplaw9_RegsKeep_r23 : List IOper := C.catnaplaw9_RegsKeep_r23_b
theorem C.catnaplaw9_RegsKeep_r23_w {k : AFr → ASt → Prop} : aops P C.catnaplaw9_RegsKeep_r23 k fr st = aops P C.catnaplaw9_RegsKeep_r23_b k fr st := rfl
def C.catnaplaw9_RegsKeep_c20 : ICode := .keep [0, 1, 8, 12, 13] (.seq (.region C.catnaplaw9_RegsKeep_r23) C.catnaplaw9_RegsKeep_c19)
theorem C.catnaplaw9_RegsKeep_c20_w : awp P C.catnaplaw9_RegsKeep_c20 Q fr st = awp P (.keep [0, 1, 8, 12, 13] (.seq (.region C.catnaplaw9_RegsKeep_r23) C.catnaplaw9_RegsKeep_c19)) Q fr st := rfl
def C.catnaplaw9_RegsKeep_r22_b : List IOper := [
  ⟨some 105, .move (.slot 1), none, [], []⟩,
  ⟨some 106, .move (.slot 12), none, [], []⟩,
  ⟨some 107, .idxAddr 1 (.slot 105) (.slot 106), none, [], []⟩,
  ⟨some 108, .load1 (.slot 107), none, [], []⟩,
  ⟨some 13, .move (.slot 108), none, [], []⟩]
def C.catnaplaw9_RegsKeep_r22 : List IOper := C.catnaplaw9_RegsKeep_r22_b
theorem C.catnaplaw9_RegsKeep_r22_w {k : AFr → ASt → Prop} : aops P C.catnaplaw9_RegsKeep_r22 k fr st = aops P C.catnaplaw9_RegsKeep_r22_b k fr st := rfl
def C.catnaplaw9_RegsKeep_c21 : ICode := .region C.catnaplaw9_RegsKeep_r22
theorem C.catnaplaw9_RegsKeep_c21_w : awp P C.catnaplaw9_RegsKeep_c21 Q fr st = awp P (.region C.catnaplaw9_RegsKeep_r22) Q fr st := rfl
def C.catnaplaw9_RegsKeep_c22 : ICode := .keep [0, 1, 8, 12, 13, 104] (.cond (.slot 104) C.catnaplaw9_RegsKeep_c21 .skip)
theorem C.catnaplaw9_RegsKeep_c22_w : awp P C.catnaplaw9_RegsKeep_c22 Q fr st = awp P (.keep [0, 1, 8, 12, 13, 104] (.cond (.slot 104) C.catnaplaw9_RegsKeep_c21 .skip)) Q fr st := rfl
def C.catnaplaw9_RegsKeep_r21_b : List IOper := [
  ⟨some 94, .move (.slot 0), none, [], []⟩,
  ⟨some 95, .move (.slot 12), none, [], []⟩,
  ⟨some 96, .idxAddr 2 (.slot 94) (.slot 95), none, [], []⟩,
  ⟨some 97, .fldAddr 1 (.slot 96), none, [], []⟩,
  ⟨some 98, .load1 (.slot 97), none, [], []⟩,
  ⟨some 99, .move (.slot 98), none, [], []⟩,
  ⟨some 100, .move (.slot 12), some (99, true), [], []⟩,
  ⟨some 101, .move (.slot 1), some (99, true), [], []⟩,
  ⟨some 102, .len (.slot 101), some (99, true), [], []⟩,
  ⟨some 103, .bin .lss (.slot 100) (.slot 102), some (99, true), [], []⟩,
  ⟨some 104, .pick (.slot 99) (.slot 103) (.cst (.bool false)), none, [], []⟩]
def C.catnaplaw9_RegsKeep_r21 : List IOper := C.catnaplaw9_RegsKeep_r21_b
theorem C.catnaplaw9_RegsKeep_r21_w {k : AFr → ASt → Prop} : aops P C.catnaplaw9_RegsKeep_r21 k fr st = aops P C.catnaplaw9_RegsKeep_r21_b k fr st := rfl
def C.catnaplaw9_RegsKeep_c23 : ICode := .keep [0, 1, 8, 12, 13] (.seq (.seq (.region C.catnaplaw9_RegsKeep_r21) C.catnaplaw9_RegsKeep_c22) C.catnaplaw9_RegsKeep_c20)
theorem C.catnaplaw9_RegsKeep_c23_w : awp P C.catnaplaw9_RegsKeep_c23 Q fr st = awp P (.keep [0, 1, 8, 12, 13] (.seq (.seq (.region C.catnaplaw9_RegsKeep_r21) C.catnaplaw9_RegsKeep_c22) C.catnaplaw9_RegsKeep_c20)) Q fr st := rfl
def C.catnaplaw9_RegsKeep_r20_b : List IOper := [
  ⟨some 89, .move (.slot 0), none, [], []⟩,
  ⟨some 90, .move (.slot 12), none, [], []⟩,
  ⟨some 91, .idxAddr 2 (.slot 89) (.slot 90), none, [], []⟩,
  ⟨some 92, .fldAddr 0 (.slot 91), none, [], []⟩,
  ⟨some 93, .load1 (.slot 92), none, [], []⟩,
  ⟨some 13, .move (.slot 93), none, [], []⟩]
def C.catnaplaw9_RegsKeep_r20 : List IOper := C.catnaplaw9_RegsKeep_r20_b
theorem C.catnaplaw9_RegsKeep_r20_w {k : AFr → ASt → Prop} : aops P C.catnaplaw9_RegsKeep_r20 k fr st = aops P C.catnaplaw9_RegsKeep_r20_b k fr st := rfl
def C.catnaplaw9_RegsKeep_b24 : ICode := .seq (.region C.catnaplaw9_RegsKeep_r20) C.catnaplaw9_RegsKeep_c23
theorem C.catnaplaw9_RegsKeep_b24_w : awp P C.catnaplaw9_RegsKeep_b24 Q fr st = awp P (.seq (.region C.catnaplaw9_RegsKeep_r20) C.catnaplaw9_RegsKeep_c23) Q fr st := rfl
def C.catnaplaw9_RegsKeep_c25 : ICode := .keep [0, 1, 8, 12] (.seq (.block 5 C.catnaplaw9_RegsKeep_b24) C.catnaplaw9_RegsKeep_c16)
theorem C.catnaplaw9_RegsKeep_c25_w : awp P C.catnaplaw9_RegsKeep_c25 Q fr st = awp P (.keep [0, 1, 8, 12] (.seq (.block 5 C.catnaplaw9_RegsKeep_b24) C.catnaplaw9_RegsKeep_c16)) Q fr st := rfl
def C.catnaplaw9_RegsKeep_c26 : ICode := .keep [0, 1, 8, 12, 86] (.cond (.slot 86) .skip (.exit 4))
theorem C.catnaplaw9_RegsKeep_c26_w : awp P C.catnaplaw9_RegsKeep_c26 Q fr st = awp P (.keep [0, 1, 8, 12, 86] (.cond (.slot 86) .skip (.exit 4))) Q fr st := rfl
def C.catnaplaw9_RegsKeep_r18_b : List IOper := [
  ⟨some 83, .move (.slot 12), none, [], []⟩,
  ⟨some 84, .move (.slot 0), none, [], []⟩,
  ⟨some 85, .len (.slot 84), none, [], []⟩,
  ⟨some 86, .bin .lss (.slot 83) (.slot 85), none, [], []⟩]
def C.catnaplaw9_RegsKeep_r18 : List IOper := C.catnaplaw9_RegsKeep_r18_b
theorem C.catnaplaw9_RegsKeep_r18_w {k : AFr → ASt → Prop} : aops P C.catnaplaw9_RegsKeep_r18 k fr st = aops P C.catnaplaw9_RegsKeep_r18_b k fr st := rfl
def C.catnaplaw9_RegsKeep_l27 : ICode := .keep [0, 1, 8, 12] (.seq (.seq (.region C.catnaplaw9_RegsKeep_r18) C.catnaplaw9_RegsKeep_c26) C.catnaplaw9_RegsKeep_c25)
theorem C.catnaplaw9_RegsKeep_l27_w : awp P C.catnaplaw9_RegsKeep_l27 Q fr st = awp P (.keep [0, 1, 8, 12] (.seq (.seq (.region C.catnaplaw9_RegsKeep_r18) C.catnaplaw9_RegsKeep_c26) C.catnaplaw9_RegsKeep_c25)) Q fr st := rfl
def C.catnaplaw9_RegsKeep_b28 : ICode := .loop C.catnaplaw9_RegsKeep_l27
theorem C.catnaplaw9_RegsKeep_b28_w : awp P C.catnaplaw9_RegsKeep_b28 Q fr st = awp P (.loop C.catnaplaw9_RegsKeep_l27) Q fr st := rfl
def C.catnaplaw9_RegsKeep_c29 : ICode := .keep [0, 1, 8, 12] (.block 4 C.catnaplaw9_RegsKeep_b28)
theorem C.catnaplaw9_RegsKeep_c29_w : awp P C.catnaplaw9_RegsKeep_c29 Q fr st = awp P (.keep [0, 1, 8, 12] (.block 4 C.catnaplaw9_RegsKeep_b28)) Q fr st := rfl
def C.catnaplaw9_RegsKeep_r17_b : List IOper := [
  ⟨some 12, .move (.cst (.int .i64 0)), none, [], []⟩]
def C.catnaplaw9_RegsKeep_r17 : List IOper := C.catnaplaw9_RegsKeep_r17_b
theorem C.catnaplaw9_RegsKeep_r17_w {k : AFr → ASt → Prop} : aops P C.catnaplaw9_RegsKeep_r17 k fr st = aops P C.catnaplaw9_RegsKeep_r17_b k fr st := rfl
def C.catnaplaw9_RegsKeep_c30 : ICode := .keep [0, 1, 8] (.seq (.seq (.region C.catnaplaw9_RegsKeep_r17) C.catnaplaw9_RegsKeep_c29) C.catnaplaw9_RegsKeep_c15)
theorem C.catnaplaw9_RegsKeep_c30_w : awp P C.catnaplaw9_RegsKeep_c30 Q fr st = awp P (.keep [0, 1, 8] (.seq (.seq (.region C.catnaplaw9_RegsKeep_r17) C.catnaplaw9_RegsKeep_c29) C.catnaplaw9_RegsKeep_c15)) Q fr st := rfl
def C.catnaplaw9_RegsKeep_r16_b : List IOper := [
  ⟨some 81, .move (.slot 8), none, [], []⟩,
  ⟨some 82, .call F.regs_File_Restore [.slot 81], none, [], []⟩]
def C.catnaplaw9_RegsKeep_r16 : List IOper := C.catnaplaw9_RegsKeep_r16_b
theorem C.catnaplaw9_RegsKeep_r16_w {k : AFr → ASt → Prop} : aops P C.catnaplaw9_RegsKeep_r16 k fr st = aops P C.catnaplaw9_RegsKeep_r16_b k fr st := rfl
def C.catnaplaw9_RegsKeep_c31 : ICode := .keep [0, 1, 8] (.seq (.region C.catnaplaw9_RegsKeep_r16) C.catnaplaw9_RegsKeep_c30)
theorem C.catnaplaw9_RegsKeep_c31_w : awp P C.catnaplaw9_RegsKeep_c31 Q fr st = awp P (.keep [0, 1, 8] (.seq (.region C.catnaplaw9_RegsKeep_r16) C.catnaplaw9_RegsKeep_c30)) Q fr st := rfl
def C.catnaplaw9_RegsKeep_r14_b : List IOper := [
  ⟨some 72, .move (.slot 11), none, [], []⟩,
  ⟨some 73, .bin .add (.slot 72) (.cst (.int .i64 1)), none, [], []⟩,
  ⟨some 11, .move (.slot 73), none, [], []⟩]
def C.catnaplaw9_RegsKeep_r14 : List IOper := C.catnaplaw9_RegsKeep_r14_b
theorem C.catnaplaw9_RegsKeep_r14_w {k : AFr → ASt → Prop} : aops P C.catnaplaw9_RegsKeep_r14 k fr st = aops P C.catnaplaw9_RegsKeep_r14_b k fr st := rfl
def C.catnaplaw9_RegsKeep_c32 : ICode := .keep [0, 1, 2, 8, 11] (.region C.catnaplaw9_RegsKeep_r14)
theorem C.catnaplaw9_RegsKeep_c32_w : awp P C.catnaplaw9_RegsKeep_c32 Q fr st = awp P (.keep [0, 1, 2, 8, 11] (.region C.catnaplaw9_RegsKeep_r14)) Q fr st := rfl
def C.catnaplaw9_RegsKeep_r15_b : List IOper := [
  ⟨some 74, .move (.slot 8), none, [], []⟩,
  ⟨some 75, .move (.slot 11), none, [], []⟩,
  ⟨some 76, .move (.slot 2), none, [], []⟩,
  ⟨some 77, .move (.slot 11), none, [], []⟩,
  ⟨some 78, .idxAddr 1 (.slot 76) (.slot 77), none, [], []⟩,
  ⟨some 79, .load1 (.slot 78), none, [], []⟩,
  ⟨some 80, .call F.regs_File_Write [.slot 74, .slot 75, .slot 79], none, [], []⟩]
def C.catnaplaw9_RegsKeep_r15 : List IOper := C.catnaplaw9_RegsKeep_r15_b
theorem C.catnaplaw9_RegsKeep_r15_w {k : AFr → ASt → Prop} : aops P C.catnaplaw9_RegsKeep_r15 k fr st = aops P C.catnaplaw9_RegsKeep_r15_b k fr st := rfl
def C.catnaplaw9_RegsKeep_b33 : ICode := .region C.catnaplaw9_RegsKeep_r15
theorem C.catnaplaw9_RegsKeep_b33_w : awp P C.catnaplaw9_RegsKeep_b33 Q fr st = awp P (.region C.catnaplaw9_RegsKeep_r15) Q fr st := rfl
def C.catnaplaw9_RegsKeep_c34 : ICode := .keep [0, 1, 2, 8, 11] (.seq (.block 3 C.catnaplaw9_RegsKeep_b33) C.catnaplaw9_RegsKeep_c32)
theorem C.catnaplaw9_RegsKeep_c34_w : awp P C.catnaplaw9_RegsKeep_c34 Q fr st = awp P (.keep [0, 1, 2, 8, 11] (.seq (.block 3 C.catnaplaw9_RegsKeep_b33) C.catnaplaw9_RegsKeep_c32)) Q fr st := rfl
def C.catnaplaw9_RegsKeep_c35 : ICode := .keep [0, 1, 2, 8, 11, 71] (.cond (.slot 71) .skip (.exit 2))
theorem C.catnaplaw9_RegsKeep_c35_w : awp P C.catnaplaw9_RegsKeep_c35 Q fr st = awp P (.keep [0, 1, 2, 8, 11, 71] (.cond (.slot 71) .skip (.exit 2))) Q fr st := rfl
def C.catnaplaw9_RegsKeep_r13_b : List IOper := [
  ⟨some 62, .move (.slot 11), none, [], []⟩,
  ⟨some 63, .move (.slot 0), none, [], []⟩,
  ⟨some 64, .len (.slot 63), none, [], []⟩,
  ⟨some 65, .bin .lss (.slot 62) (.slot 64), none, [], []⟩,
  ⟨some 66, .move (.slot 65), none, [], []⟩,
  ⟨some 67, .move (.slot 11), some (66, true), [], []⟩,
  ⟨some 68, .move (.slot 2), some (66, true), [], []⟩,
  ⟨some 69, .len (.slot 68), some (66, true), [], []⟩,
  ⟨some 70, .bin .lss (.slot 67) (.slot 69), some (66, true), [], []⟩,
  ⟨some 71, .pick (.slot 66) (.slot 70) (.cst (.bool false)), none, [], []⟩]
def C.catnaplaw9_RegsKeep_r13 : List IOper := C.catnaplaw9_RegsKeep_r13_b
theorem C.catnaplaw9_RegsKeep_r13_w {k : AFr → ASt → Prop} : aops P C.catnaplaw9_RegsKeep_r13 k fr st = aops P C.catnaplaw9_RegsKeep_r13_b k fr st := rfl
def C.catnaplaw9_RegsKeep_l36 : ICode := .keep [0, 1, 2, 8, 11] (.seq (.seq (.region C.catnaplaw9_RegsKeep_r13) C.catnaplaw9_RegsKeep_c35) C.catnaplaw9_RegsKeep_c34)
theorem C.catnaplaw9_RegsKeep_l36_w : awp P C.catnaplaw9_RegsKeep_l36 Q fr st = awp P (.keep [0, 1, 2, 8, 11] (.seq (.seq (.region C.catnaplaw9_RegsKeep_r13) C.catnaplaw9_RegsKeep_c35) C.catnaplaw9_RegsKeep_c34)) Q fr st := rfl
def C.catnaplaw9_RegsKeep_b37 : ICode := .loop C.catnaplaw9_RegsKeep_l36
theorem C.catnaplaw9_RegsKeep_b37_w : awp P C.catnaplaw9_RegsKeep_b37 Q fr st = awp P (.loop C.catnaplaw9_RegsKeep_l36) Q fr st := rfl
def C.catnaplaw9_RegsKeep_c38 : ICode := .keep [0, 1, 2, 8, 11] (.block 2 C.catnaplaw9_RegsKeep_b37)
theorem C.catnaplaw9_RegsKeep_c38_w : awp P C.catnaplaw9_RegsKeep_c38 Q fr st = awp P (.keep [0, 1, 2, 8, 11] (.block 2 C.catnaplaw9_RegsKeep_b37)) Q fr st := rfl
def C.catnaplaw9_RegsKeep_r12_b : List IOper := [
  ⟨some 11, .move (.cst (.int .i64 0)), none, [], []⟩]
def C.catnaplaw9_RegsKeep_r12 : List IOper := C.catnaplaw9_RegsKeep_r12_b
theorem C.catnaplaw9_RegsKeep_r12_w {k : AFr → ASt → Prop} : aops P C.catnaplaw9_RegsKeep_r12 k fr st = aops P C.catnaplaw9_RegsKeep_r12_b k fr st := rfl
def C.catnaplaw9_RegsKeep_c39 : ICode := .keep [0, 1, 2, 8] (.seq (.seq (.region C.catnaplaw9_RegsKeep_r12) C.catnaplaw9_RegsKeep_c38) C.catnaplaw9_RegsKeep_c31)
theorem C.catnaplaw9_RegsKeep_c39_w : awp P C.catnaplaw9_RegsKeep_c39 Q fr st = awp P (.keep [0, 1, 2, 8] (.seq (.seq (.region C.catnaplaw9_RegsKeep_r12) C.catnaplaw9_RegsKeep_c38) C.catnaplaw9_RegsKeep_c31)) Q fr st := rfl
def C.catnaplaw9_RegsKeep_r11_b : List IOper := [
  ⟨some 60, .move (.slot 8), none, [], []⟩,
  ⟨some 61, .call F.regs_File_Save [.slot 60], none, [], []⟩]
def C.catnaplaw9_RegsKeep_r11 : List IOper := C.catnaplaw9_RegsKeep_r11_b
theorem C.catnaplaw9_RegsKeep_r11_w {k : AFr → ASt → Prop} : aops P C.catnaplaw9_RegsKeep_r11 k fr st = aops P C.catnaplaw9_RegsKeep_r11_b k fr st := rfl
def C.catnaplaw9_RegsKeep_c40 : ICode := .keep [0, 1, 2, 8] (.seq (.region C.catnaplaw9_RegsKeep_r11) C.catnaplaw9_RegsKeep_c39)
theorem C.catnaplaw9_RegsKeep_c40_w : awp P C.catnaplaw9_RegsKeep_c40 Q fr st = awp P (.keep [0, 1, 2, 8] (.seq (.region C.catnaplaw9_RegsKeep_r11) C.catnaplaw9_RegsKeep_c39)) Q fr st := rfl
def C.catnaplaw9_RegsKeep_r9_b : List IOper := [
  ⟨some 51, .move (.slot 10), none, [], []⟩,
  ⟨some 52, .bin .add (.slot 51) (.cst (.int .i64 1)), none, [], []⟩,
  ⟨some 10, .move (.slot 52), none, [], []⟩]
def C.catnaplaw9_RegsKeep_r9 : List IOper := C.catnaplaw9_RegsKeep_r9_b
theorem C.catnaplaw9_RegsKeep_r9_w {k : AFr → ASt → Prop} : aops P C.catnaplaw9_RegsKeep_r9 k fr st = aops P C.catnaplaw9_RegsKeep_r9_b k fr st := rfl
def C.catnaplaw9_RegsKeep_c41 : ICode := .keep [0, 1, 2, 8, 10] (.region C.catnaplaw9_RegsKeep_r9)
theorem C.catnaplaw9_RegsKeep_c41_w : awp P C.catnaplaw9_RegsKeep_c41 Q fr st = awp P (.keep [0, 1, 2, 8, 10] (.region C.catnaplaw9_RegsKeep_r9)) Q fr st := rfl
def C.catnaplaw9_RegsKeep_r10_b : List IOper := [
  ⟨some 53, .move (.slot 8), none, [], []⟩,
  ⟨some 54, .move (.slot 10), none, [], []⟩,
  ⟨some 55, .move (.slot 1), none, [], []⟩,
  ⟨some 56, .move (.slot 10), none, [], []⟩,
  ⟨some 57, .idxAddr 1 (.slot 55) (.slot 56), none, [], []⟩,
  ⟨some 58, .load1 (.slot 57), none, [], []⟩,
  ⟨some 59, .call F.regs_File_Write [.slot 53, .slot 54, .slot 58], none, [], []⟩]
def C.catnaplaw9_RegsKeep_r10 : List IOper := C.catnaplaw9_RegsKeep_r10_b
theorem C.catnaplaw9_RegsKeep_r10_w {k : AFr → ASt → Prop} : aops P C.catnaplaw9_RegsKeep_r10 k fr st = aops P C.catnaplaw9_RegsKeep_r10_b k fr st := rfl
def C.catnaplaw9_RegsKeep_b42 : ICode := .region C.catnaplaw9_RegsKeep_r10
theorem C.catnaplaw9_RegsKeep_b42_w : awp P C.catnaplaw9_RegsKeep_b42 Q fr st = awp P (.region C.catnaplaw9_RegsKeep_r10) Q fr st := rfl
def C.catnaplaw9_RegsKeep_c43 : ICode := .keep [0, 1, 2, 8, 10] (.seq (.block 1 C.catnaplaw9_RegsKeep_b42) C.catnaplaw9_RegsKeep_c41)
theorem C.catnaplaw9_RegsKeep_c43_w : awp P C.catnaplaw9_RegsKeep_c43 Q fr st = awp P (.keep [0, 1, 2, 8, 10] (.seq (.block 1 C.catnaplaw9_RegsKeep_b42) C.catnaplaw9_RegsKeep_c41)) Q fr st := rfl
def C.catnaplaw9_RegsKeep_c44 : ICode := .keep [0, 1, 2, 8, 10, 50] (.cond (.slot 50) .skip (.exit 0))
theorem C.catnaplaw9_RegsKeep_c44_w : awp P C.catnaplaw9_RegsKeep_c44 Q fr st = awp P (.keep [0, 1, 2, 8, 10, 50] (.cond (.slot 50) .skip (.exit 0))) Q fr st := rfl
def C.catnaplaw9_RegsKeep_r8_b : List IOper := [
  ⟨some 41, .move (.slot 10), none, [], []⟩,
  ⟨some 42, .move (.slot 0), none, [], []⟩,
  ⟨some 43, .len (.slot 42), none, [], []⟩,
  ⟨some 44, .bin .lss (.slot 41) (.slot 43), none, [], []⟩,
  ⟨some 45, .move (.slot 44), none, [], []⟩,
  ⟨some 46, .move (.slot 10), some (45, true), [], []⟩,
  ⟨some 47, .move (.slot 1), some (45, true), [], []⟩,
  ⟨some 48, .len (.slot 47), some (45, true), [], []⟩,
  ⟨some 49, .bin .lss (.slot 46) (.slot 48), some (45, true), [], []⟩,
  ⟨some 50, .pick (.slot 45) (.slot 49) (.cst (.bool false)), none, [], []⟩]
def C.catnaplaw9_RegsKeep_r8 : List IOper := C.catnaplaw9_RegsKeep_r8_b
theorem C.catnaplaw9_RegsKeep_r8_w {k : AFr → ASt → Prop} : aops P C.catnaplaw9_RegsKeep_r8 k fr st = aops P C.catnaplaw9_RegsKeep_r8_b k fr st := rfl
def C.catnaplaw9_RegsKeep_l45 : ICode := .keep [0, 1, 2, 8, 10] (.seq (.seq (.region C.catnaplaw9_RegsKeep_r8) C.catnaplaw9_RegsKeep_c44) C.catnaplaw9_RegsKeep_c43)
theorem C.catnaplaw9_RegsKeep_l45_w : awp P C.catnaplaw9_RegsKeep_l45 Q fr st = awp P (.keep [0, 1, 2, 8, 10] (.seq (.seq (.region C.catnaplaw9_RegsKeep_r8) C.catnaplaw9_RegsKeep_c44) C.catnaplaw9_RegsKeep_c43)) Q fr st := rfl
def C.catnaplaw9_RegsKeep_b46 : ICode := .loop C.catnaplaw9_RegsKeep_l45
theorem C.catnaplaw9_RegsKeep_b46_w : awp P C.catnaplaw9_RegsKeep_b46 Q fr st = awp P (.loop C.catnaplaw9_RegsKeep_l45) Q fr st := rfl
def C.catnaplaw9_RegsKeep_c47 : ICode := .keep [0, 1, 2, 8, 10] (.block 0 C.catnaplaw9_RegsKeep_b46)
theorem C.catnaplaw9_RegsKeep_c47_w : awp P C.catnaplaw9_RegsKeep_c47 Q fr st = awp P (.keep [0, 1, 2, 8, 10] (.block 0 C.catnaplaw9_RegsKeep_b46)) Q fr st := rfl
def C.catnaplaw9_RegsKeep_r7_b : List IOper := [
  ⟨some 10, .move (.cst (.int .i64 0)), none, [], []⟩]
def C.catnaplaw9_RegsKeep_r7 : List IOper := C.catnaplaw9_RegsKeep_r7_b
theorem C.catnaplaw9_RegsKeep_r7_w {k : AFr → ASt → Prop} : aops P C.catnaplaw9_RegsKeep_r7 k fr st = aops P C.catnaplaw9_RegsKeep_r7_b k fr st := rfl
def C.catnaplaw9_RegsKeep_c48 : ICode := .keep [0, 1, 2, 8] (.seq (.seq (.region C.catnaplaw9_RegsKeep_r7) C.catnaplaw9_RegsKeep_c47) C.catnaplaw9_RegsKeep_c40)
theorem C.catnaplaw9_RegsKeep_c48_w : awp P C.catnaplaw9_RegsKeep_c48 Q fr st = awp P (.keep [0, 1, 2, 8] (.seq (.seq (.region C.catnaplaw9_RegsKeep_r7) C.catnaplaw9_RegsKeep_c47) C.catnaplaw9_RegsKeep_c40)) Q fr st := rfl
def C.catnaplaw9_RegsKeep_r6_b : List IOper := [
  ⟨some 6, .move (.cst (.bool false)), none, [], []⟩]
def C.catnaplaw9_RegsKeep_r6 : List IOper := C.catnaplaw9_RegsKeep_r6_b
theorem C.catnaplaw9_RegsKeep_r6_w {k : AFr → ASt → Prop} : aops P C.catnaplaw9_RegsKeep_r6 k fr st = aops P C.catnaplaw9_RegsKeep_r6_b k fr st := rfl
def C.catnaplaw9_RegsKeep_c49 : ICode := .seq (.region C.catnaplaw9_RegsKeep_r6) .ret
theorem C.catnaplaw9_RegsKeep_c49_w : awp P C.catnaplaw9_RegsKeep_c49 Q fr st = awp P (.seq (.region C.catnaplaw9_RegsKeep_r6) .ret) Q fr st := rfl
def C.catnaplaw9_RegsKeep_c50 : ICode := .keep [0, 1, 2, 8, 40] (.cond (.slot 40) C.catnaplaw9_RegsKeep_c49 .skip)
theorem C.catnaplaw9_RegsKeep_c50_w : awp P C.catnaplaw9_RegsKeep_c50 Q fr st = awp P (.keep [0, 1, 2, 8, 40] (.cond (.slot 40) C.catnaplaw9_RegsKeep_c49 .skip)) Q fr st := rfl
def C.catnaplaw9_RegsKeep_r5_b : List IOper := [
  ⟨some 35, .move (.slot 8), none, [], []⟩,
  ⟨some 36, .eqP 0 false (.slot 35) (.cst (.nilp)), none, [], []⟩,
  ⟨some 37, .move (.slot 36), none, [], []⟩,
  ⟨some 38, .move (.slot 9), some (37, false), [], []⟩,
  ⟨some 39, .bin .neq (.slot 38) (.cst (.int .i64 0)), some (37, false), [], []⟩,
  ⟨some 40, .pick (.slot 37) (.cst (.bool true)) (.slot 39), none, [], []⟩]
def C.catnaplaw9_RegsKeep_r5 : List IOper := C.catnaplaw9_RegsKeep_r5_b
theorem C.catnaplaw9_RegsKeep_r5_w {k : AFr → ASt → Prop} : aops P C.catnaplaw9_RegsKeep_r5 k fr st = aops P C.catnaplaw9_RegsKeep_r5_b k fr st := rfl
def C.catnaplaw9_RegsKeep_c51 : ICode := .keep [0, 1, 2, 8, 9] (.seq (.seq (.region C.catnaplaw9_RegsKeep_r5) C.catnaplaw9_RegsKeep_c50) C.catnaplaw9_RegsKeep_c48)
theorem C.catnaplaw9_RegsKeep_c51_w : awp P C.catnaplaw9_RegsKeep_c51 Q fr st = awp P (.keep [0, 1, 2, 8, 9] (.seq (.seq (.region C.catnaplaw9_RegsKeep_r5) C.catnaplaw9_RegsKeep_c50) C.catnaplaw9_RegsKeep_c48)) Q fr st := rfl
def C.catnaplaw9_RegsKeep_r4_b : List IOper := [
  ⟨some 31, .move (.slot 0), none, [], []⟩,
  ⟨some 32, .call F.regs_New [.slot 31], none, [], []⟩,
  ⟨some 30, .move (.slot 32), none, [], []⟩,
  ⟨some 33, .extract (.slot 30) 0, none, [], []⟩,
  ⟨some 34, .extract (.slot 30) 1, none, [], []⟩,
  ⟨some 8, .move (.slot 33), none, [], []⟩,
  ⟨some 9, .move (.slot 34), none, [], []⟩]
def C.catnaplaw9_RegsKeep_r4 : List IOper := C.catnaplaw9_RegsKeep_r4_b
theorem C.catnaplaw9_RegsKeep_r4_w {k : AFr → ASt → Prop} : aops P C.catnaplaw9_RegsKeep_r4 k fr st = aops P C.catnaplaw9_RegsKeep_r4_b k fr st := rfl
def C.catnaplaw9_RegsKeep_c52 : ICode := .keep [0, 1, 2] (.seq (.region C.catnaplaw9_RegsKeep_r4) C.catnaplaw9_RegsKeep_c51)
theorem C.catnaplaw9_RegsKeep_c52_w : awp P C.catnaplaw9_RegsKeep_c52 Q fr st = awp P (.keep [0, 1, 2] (.seq (.region C.catnaplaw9_RegsKeep_r4) C.catnaplaw9_RegsKeep_c51)) Q fr st := rfl
def C.catnaplaw9_RegsKeep_r3_b : List IOper := [
  ⟨some 29, .move (.slot 7), none, [], []⟩,
  ⟨some 6, .move (.slot 29), none, [], []⟩]
def C.catnaplaw9_RegsKeep_r3 : List IOper := C.catnaplaw9_RegsKeep_r3_b
theorem C.catnaplaw9_RegsKeep_r3_w {k : AFr → ASt → Prop} : aops P C.catnaplaw9_RegsKeep_r3 k fr st = aops P C.catnaplaw9_RegsKeep_r3_b k fr st := rfl
def C.catnaplaw9_RegsKeep_c53 : ICode := .seq (.region C.catnaplaw9_RegsKeep_r3) .ret
theorem C.catnaplaw9_RegsKeep_c53_w : awp P C.catnaplaw9_RegsKeep_c53 Q fr st = awp P (.seq (.region C.catnaplaw9_RegsKeep_r3) .ret) Q fr st := rfl
def C.catnaplaw9_RegsKeep_c54 : ICode := .keep [0, 1, 2, 7, 28] (.cond (.slot 28) C.catnaplaw9_RegsKeep_c53 .skip)
theorem C.catnaplaw9_RegsKeep_c54_w : awp P C.catnaplaw9_RegsKeep_c54 Q fr st = awp P (.keep [0, 1, 2, 7, 28] (.cond (.slot 28) C.catnaplaw9_RegsKeep_c53 .skip)) Q fr st := rfl
def C.catnaplaw9_RegsKeep_r2_b : List IOper := [
  ⟨some 22, .move (.slot 7), none, [], []⟩,
  ⟨some 23, .un .not (.slot 22), none, [], []⟩,
  ⟨some 24, .move (.slot 23), none, [], []⟩,
  ⟨some 25, .move (.slot 0), some (24, false), [], []⟩,
  ⟨some 26, .len (.slot 25), some (24, false), [], []⟩,
  ⟨some 27, .bin .gtr (.slot 26) (.cst (.int .i64 8)), some (24, false), [], []⟩,
  ⟨some 28, .pick (.slot 24) (.cst (.bool true)) (.slot 27), none, [], []⟩]
def C.catnaplaw9_RegsKeep_r2 : List IOper := C.catnaplaw9_RegsKeep_r2_b
theorem C.catnaplaw9_RegsKeep_r2_w {k : AFr → ASt → Prop} : aops P C.catnaplaw9_RegsKeep_r2 k fr st = aops P C.catnaplaw9_RegsKeep_r2_b k fr st := rfl
def C.catnaplaw9_RegsKeep_c55 : ICode := .keep [0, 1, 2, 7] (.seq (.seq (.region C.catnaplaw9_RegsKeep_r2) C.catnaplaw9_RegsKeep_c54) C.catnaplaw9_RegsKeep_c52)
theorem C.catnaplaw9_RegsKeep_c55_w : awp P C.catnaplaw9_RegsKeep_c55 Q fr st = awp P (.keep [0, 1, 2, 7] (.seq (.seq (.region C.catnaplaw9_RegsKeep_r2) C.catnaplaw9_RegsKeep_c54) C.catnaplaw9_RegsKeep_c52)) Q fr st := rfl
def C.catnaplaw9_RegsKeep_r1_b : List IOper := [
  ⟨some 21, .call F.catnaplaw9_shown [], none, [], []⟩,
  ⟨some 7, .move (.slot 21), none, [], []⟩]
def C.catnaplaw9_RegsKeep_r1 : List IOper := C.catnaplaw9_RegsKeep_r1_b
theorem C.catnaplaw9_RegsKeep_r1_w {k : AFr → ASt → Prop} : aops P C.catnaplaw9_RegsKeep_r1 k fr st = aops P C.catnaplaw9_RegsKeep_r1_b k fr st := rfl
def C.catnaplaw9_RegsKeep_c56 : ICode := .keep [0, 1, 2] (.seq (.region C.catnaplaw9_RegsKeep_r1) C.catnaplaw9_RegsKeep_c55)
theorem C.catnaplaw9_RegsKeep_c56_w : awp P C.catnaplaw9_RegsKeep_c56 Q fr st = awp P (.keep [0, 1, 2] (.seq (.region C.catnaplaw9_RegsKeep_r1) C.catnaplaw9_RegsKeep_c55)) Q fr st := rfl
def C.catnaplaw9_RegsKeep_r0_b : List IOper := [
  ⟨some 6, .move (.cst (.bool false)), none, [], []⟩]
def C.catnaplaw9_RegsKeep_r0 : List IOper := C.catnaplaw9_RegsKeep_r0_b
theorem C.catnaplaw9_RegsKeep_r0_w {k : AFr → ASt → Prop} : aops P C.catnaplaw9_RegsKeep_r0 k fr st = aops P C.catnaplaw9_RegsKeep_r0_b k fr st := rfl
def C.catnaplaw9_RegsKeep : IFunc := ⟨3, [.slot 6], .seq (.region C.catnaplaw9_RegsKeep_r0) C.catnaplaw9_RegsKeep_c56⟩
def C.catnaplaw9_RegsKeep_W := And.intro (And.intro (And.intro (And.intro (And.intro (And.intro @C.catnaplaw9_RegsKeep_r35_w @C.catnaplaw9_RegsKeep_c1_w) (And.intro @C.catnaplaw9_RegsKeep_r34_w (And.intro @C.catnaplaw9_RegsKeep_c2_w @C.catnaplaw9_RegsKeep_r30_w))) (And.intro (And.intro @C.catnaplaw9_RegsKeep_c3_w (And.intro @C.catnaplaw9_RegsKeep_r33_w @C.catnaplaw9_RegsKeep_c4_w)) (And.intro @C.catnaplaw9_RegsKeep_c5_w (And.intro @C.catnaplaw9_RegsKeep_r32_w @C.catnaplaw9_RegsKeep_c6_w)))) (And.intro (And.intro (And.intro @C.catnaplaw9_RegsKeep_r31_w @C.catnaplaw9_RegsKeep_b7_w) (And.intro @C.catnaplaw9_RegsKeep_c8_w (And.intro @C.catnaplaw9_RegsKeep_c9_w @C.catnaplaw9_RegsKeep_r29_w))) (And.intro (And.intro @C.catnaplaw9_RegsKeep_b11_w (And.intro @C.catnaplaw9_RegsKeep_c12_w @C.catnaplaw9_RegsKeep_r28_w)) (And.intro @C.catnaplaw9_RegsKeep_c13_w (And.intro @C.catnaplaw9_RegsKeep_r27_w @C.catnaplaw9_RegsKeep_c14_w))))) (And.intro (And.intro (And.intro (And.intro @C.catnaplaw9_RegsKeep_r26_w @C.catnaplaw9_RegsKeep_c15_w) (And.intro @C.catnaplaw9_RegsKeep_r19_w (And.intro @C.catnaplaw9_RegsKeep_c16_w @C.catnaplaw9_RegsKeep_r25_w))) (And.intro (And.intro @C.catnaplaw9_RegsKeep_c17_w (And.intro @C.catnaplaw9_RegsKeep_c18_w @C.catnaplaw9_RegsKeep_r24_w)) (And.intro @C.catnaplaw9_RegsKeep_c19_w (And.intro @C.catnaplaw9_RegsKeep_r23_w @C.catnaplaw9_RegsKeep_c20_w)))) (And.intro (And.intro (And.intro @C.catnaplaw9_RegsKeep_r22_w @C.catnaplaw9_RegsKeep_c21_w) (And.intro @C.catnaplaw9_RegsKeep_c22_w (And.intro @C.catnaplaw9_RegsKeep_r21_w @C.catnaplaw9_RegsKeep_c23_w))) (And.intro (And.intro @C.catnaplaw9_RegsKeep_r20_w (And.intro @C.catnaplaw9_RegsKeep_b24_w @C.catnaplaw9_RegsKeep_c25_w)) (And.intro @C.catnaplaw9_RegsKeep_c26_w (And.intro @C.catnaplaw9_RegsKeep_r18_w @C.catnaplaw9_RegsKeep_b28_w)))))) (And.intro (And.intro (And.intro (And.intro (And.intro @C.catnaplaw9_RegsKeep_c29_w @C.catnaplaw9_RegsKeep_r17_w) (And.intro @C.catnaplaw9_RegsKeep_c30_w (And.intro @C.catnaplaw9_RegsKeep_r16_w @C.catnaplaw9_RegsKeep_c31_w))) (And.intro (And.intro @C.catnaplaw9_RegsKeep_r14_w (And.intro @C.catnaplaw9_RegsKeep_c32_w @C.catnaplaw9_RegsKeep_r15_w)) (And.intro @C.catnaplaw9_RegsKeep_b33_w (And.intro @C.catnaplaw9_RegsKeep_c34_w @C.catnaplaw9_RegsKeep_c35_w)))) (And.intro (And.intro (And.intro @C.catnaplaw9_RegsKeep_r13_w @C.catnaplaw9_RegsKeep_b37_w) (And.intro @C.catnaplaw9_RegsKeep_c38_w (And.intro @C.catnaplaw9_RegsKeep_r12_w @C.catnaplaw9_RegsKeep_c39_w))) (And.intro (And.intro @C.catnaplaw9_RegsKeep_r11_w (And.intro @C.catnaplaw9_RegsKeep_c40_w @C.catnaplaw9_RegsKeep_r9_w)) (And.intro @C.catnaplaw9_RegsKeep_c41_w (And.intro @C.catnaplaw9_RegsKeep_r10_w @C.catnaplaw9_RegsKeep_b42_w))))) (And.intro (And.intro (And.intro (And.intro @C.catnaplaw9_RegsKeep_c43_w @C.catnaplaw9_RegsKeep_c44_w) (And.intro @C.catnaplaw9_RegsKeep_r8_w (And.intro @C.catnaplaw9_RegsKeep_b46_w @C.catnaplaw9_RegsKeep_c47_w))) (And.intro (And.intro @C.catnaplaw9_RegsKeep_r7_w (And.intro @C.catnaplaw9_RegsKeep_c48_w @C.catnaplaw9_RegsKeep_r6_w)) (And.intro @C.catnaplaw9_RegsKeep_c49_w (And.intro @C.catnaplaw9_RegsKeep_c50_w @C.catnaplaw9_RegsKeep_r5_w)))) (And.intro (And.intro (And.intro @C.catnaplaw9_RegsKeep_c51_w @C.catnaplaw9_RegsKeep_r4_w) (And.intro @C.catnaplaw9_RegsKeep_c52_w (And.intro @C.catnaplaw9_RegsKeep_r3_w @C.catnaplaw9_RegsKeep_c53_w))) (And.intro (And.intro @C.catnaplaw9_RegsKeep_c54_w (And.intro @C.catnaplaw9_RegsKeep_r2_w @C.catnaplaw9_RegsKeep_c55_w)) (And.intro @C.catnaplaw9_RegsKeep_r1_w (And.intro @C.catnaplaw9_RegsKeep_c56_w @C.catnaplaw9_RegsKeep_r0_w))))))
def C.catnaplaw9_RegsKeep_B := And.intro (And.intro (And.intro (And.intro (And.intro @C.catnaplaw9_RegsKeep_r35_b.eq_1 @C.catnaplaw9_RegsKeep_r34_b.eq_1) (And.intro @C.catnaplaw9_RegsKeep_r30_b.eq_1 @C.catnaplaw9_RegsKeep_r33_b.eq_1)) (And.intro (And.intro @C.catnaplaw9_RegsKeep_r32_b.eq_1 @C.catnaplaw9_RegsKeep_r31_b.eq_1) (And.intro @C.catnaplaw9_RegsKeep_r29_b.eq_1 (And.intro @C.catnaplaw9_RegsKeep_r28_b.eq_1 @C.catnaplaw9_RegsKeep_r27_b.eq_1)))) (And.intro (And.intro (And.intro @C.catnaplaw9_RegsKeep_r26_b.eq_1 @C.catnaplaw9_RegsKeep_r19_b.eq_1) (And.intro @C.catnaplaw9_RegsKeep_r25_b.eq_1 @C.catnaplaw9_RegsKeep_r24_b.eq_1)) (And.intro (And.intro @C.catnaplaw9_RegsKeep_r23_b.eq_1 @C.catnaplaw9_RegsKeep_r22_b.eq_1) (And.intro @C.catnaplaw9_RegsKeep_r21_b.eq_1 (And.intro @C.catnaplaw9_RegsKeep_r20_b.eq_1 @C.catnaplaw9_RegsKeep_r18_b.eq_1))))) (And.intro (And.intro (And.intro (And.intro @C.catnaplaw9_RegsKeep_r17_b.eq_1 @C.catnaplaw9_RegsKeep_r16_b.eq_1) (And.intro @C.catnaplaw9_RegsKeep_r14_b.eq_1 @C.catnaplaw9_RegsKeep_r15_b.eq_1)) (And.intro (And.intro @C.catnaplaw9_RegsKeep_r13_b.eq_1 @C.catnaplaw9_RegsKeep_r12_b.eq_1) (And.intro @C.catnaplaw9_RegsKeep_r11_b.eq_1 (And.intro @C.catnaplaw9_RegsKeep_r9_b.eq_1 @C.catnaplaw9_RegsKeep_r10_b.eq_1)))) (And.intro (And.intro (And.intro @C.catnaplaw9_RegsKeep_r8_b.eq_1 @C.catnaplaw9_RegsKeep_r7_b.eq_1) (And.intro @C.catnaplaw9_RegsKeep_r6_b.eq_1 @C.catnaplaw9_RegsKeep_r5_b.eq_1)) (And.intro (And.intro @C.catnaplaw9_RegsKeep_r4_b.eq_1 @C.catnaplaw9_RegsKeep_r3_b.eq_1) (And.intro @C.catnaplaw9_RegsKeep_r2_b.eq_1 (And.intro @C.catnaplaw9_RegsKeep_r1_b.eq_1 @C.catnaplaw9_RegsKeep_r0_b.eq_1)))))

def C.catnaplaw9_RegsAlone_r25_b : List IOper := [
  ⟨some 129, .move (.slot 17), none, [], []⟩,
  ⟨some 130, .bin .eql (.slot 129) (.cst (.int .i64 0)), none, [], []⟩,
  ⟨some 131, .move (.slot 130), none, [], []⟩,
  ⟨some 132, .move (.slot 16), some (131, true), [], []⟩,
  ⟨some 133, .move (.slot 2), some (131, true), [], []⟩,
  ⟨some 134, .bin .eql (.slot 132) (.slot 133), some (131, true), [], []⟩,
  ⟨some 135, .move (.slot 134), some (131, true), [], []⟩,
  ⟨some 136, .move (.slot 0), some (135, false), [], []⟩,
  ⟨some 137, .move (.slot 11), some (135, false), [], []⟩,
  ⟨some 138, .idxAddr 2 (.slot 136) (.slot 137), some (135, false), [], []⟩,
  ⟨some 139, .fldAddr 1 (.slot 138), some (135, false), [], []⟩,
  ⟨some 140, .load1 (.slot 139), some (135, false), [], []⟩,
  ⟨some 141, .un .not (.slot 140), some (135, false), [], []⟩,
  ⟨some 142, .move (.slot 141), some (135, false), [], []⟩,
  ⟨some 143, .move (.slot 16), some (142, true), [], []⟩,
  ⟨some 144, .move (.slot 0), some (142, true), [], []⟩,
  ⟨some 145, .move (.slot 11), some (142, true), [], []⟩,
  ⟨some 146, .idxAddr 2 (.slot 144) (.slot 145), some (142, true), [], []⟩,
  ⟨some 147, .fldAddr 0 (.slot 146), some (142, true), [], []⟩,
  ⟨some 148, .load1 (.slot 147), some (142, true), [], []⟩,
  ⟨some 149, .bin .eql (.slot 143) (.slot 148), some (142, true), [], []⟩,
  ⟨some 150, .pick (.slot 142) (.slot 149) (.cst (.bool false)), some (135, false), [], []⟩,
  ⟨some 151, .pick (.slot 135) (.cst (.bool true)) (.slot 150), some (131, true), [], []⟩,
  ⟨some 152, .pick (.slot 131) (.slot 151) (.cst (.bool false)), none, [], []⟩,
  ⟨some 153, .move (.slot 152), none, [], []⟩,
  ⟨some 154, .move (.slot 0), some (153, true), [], []⟩,
  ⟨some 155, .move (.slot 11), some (153, true), [], []⟩,
  ⟨some 156, .idxAddr 2 (.slot 154) (.slot 155), some (153, true), [], []⟩,
  ⟨some 157, .fldAddr 1 (.slot 156), some (153, true), [], []⟩,
  ⟨some 158, .load1 (.slot 157), some (153, true), [], []⟩,
  ⟨some 159, .move (.slot 158), some (153, true), [], []⟩,
  ⟨some 160, .move (.slot 16), some (159, false), [], []⟩,
  ⟨some 161, .move (.slot 0), some (159, false), [], []⟩,
  ⟨some 162, .move (.slot 11), some (159, false), [], []⟩,
  ⟨some 163, .idxAddr 2 (.slot 161) (.slot 162), some (159, false), [], []⟩,
  ⟨some 164, .fldAddr 0 (.slot 163), some (159, false), [], []⟩,
  ⟨some 165, .load1 (.slot 164), some (159, false), [], []⟩,
  ⟨some 166, .bin .eql (.slot 160) (.slot 165), some (159, false), [], []⟩,
  ⟨some 167, .pick (.slot 159) (.cst (.bool true)) (.slot 166), some (153, true), [], []⟩,
  ⟨some 168, .pick (.slot 153) (.slot 167) (.cst (.bool false)), none, [], []⟩,
  ⟨some 6, .move (.slot 168), none, [], []⟩]
def C.catnaplaw9_RegsAlone_r25 : List IOper := C.catnaplaw9_RegsAlone_r25_b
theorem C.catnaplaw9_RegsAlone_r25_w {k : AFr → ASt → Prop} : aops P C.catnaplaw9_RegsAlone_r25 k fr st = aops P C.catnaplaw9_RegsAlone_r25_b k fr st := rfl
def C.catnaplaw9_RegsAlone_c1 : ICode := .keep [0, 2, 11, 16, 17] (.seq (.region C.catnaplaw9_RegsAlone_r25) .ret)
theorem C.catnaplaw9_RegsAlone_c1_w : awp P C.catnaplaw9_RegsAlone_c1 Q fr st = awp P (.keep [0, 2, 11, 16, 17] (.seq (.region C.catnaplaw9_RegsAlone_r25) .ret)) Q fr st := rfl
def C.catnaplaw9_RegsAlone_r24_b : List IOper := [
  ⟨some 124, .move (.slot 9), none, [], []⟩,
  ⟨some 125, .move (.slot 11), none, [], []⟩,
  ⟨some 126, .call F.regs_File_Read [.slot 124, .slot 125], none, [], []⟩,
  ⟨some 123, .move (.slot 126), none, [], []⟩,
  ⟨some 127, .extract (.slot 123) 0, none, [], []⟩,
  ⟨some 128, .extract (.slot 123) 1, none, [], []⟩,
  ⟨some 16, .move (.slot 127), none, [], []⟩,
  ⟨some 17, .move (.slot 128), none, [], []⟩]
def C.catnaplaw9_RegsAlone_r24 : List IOper := C.catnaplaw9_RegsAlone_r24_b
theorem C.catnaplaw9_RegsAlone_r24_w {k : AFr → ASt → Prop} : aops P C.catnaplaw9_RegsAlone_r24 k fr st = aops P C.catnaplaw9_RegsAlone_r24_b k fr st := rfl
def C.catnaplaw9_RegsAlone_c2 : ICode := .keep [0, 2, 9, 11] (.seq (.region C.catnaplaw9_RegsAlone_r24) C.catnaplaw9_RegsAlone_c1)
theorem C.catnaplaw9_RegsAlone_c2_w : awp P C.catnaplaw9_RegsAlone_c2 Q fr st = awp P (.keep [0, 2, 9, 11] (.seq (.region C.catnaplaw9_RegsAlone_r24) C.catnaplaw9_RegsAlone_c1)) Q fr st := rfl
def C.catnaplaw9_RegsAlone_r23_b : List IOper := [
  ⟨some 121, .move (.slot 9), none, [], []⟩,
  ⟨some 122, .call F.regs_File_Restore [.slot 121], none, [], []⟩]
def C.catnaplaw9_RegsAlone_r23 : List IOper := C.catnaplaw9_RegsAlone_r23_b
theorem C.catnaplaw9_RegsAlone_r23_w {k : AFr → ASt → Prop} : aops P C.catnaplaw9_RegsAlone_r23 k fr st = aops P C.catnaplaw9_RegsAlone_r23_b k fr st := rfl
def C.catnaplaw9_RegsAlone_c3 : ICode := .keep [0, 2, 9, 11] (.seq (.region C.catnaplaw9_RegsAlone_r23) C.catnaplaw9_RegsAlone_c2)
theorem C.catnaplaw9_RegsAlone_c3_w : awp P C.catnaplaw9_RegsAlone_c3 Q fr st = awp P (.keep [0, 2, 9, 11] (.seq (.region C.catnaplaw9_RegsAlone_r23) C.catnaplaw9_RegsAlone_c2)) Q fr st := rfl
def C.catnaplaw9_RegsAlone_r22_b : List IOper := [
  ⟨some 119, .move (.slot 9), none, [], []⟩,
  ⟨some 120, .call F.regs_File_Save [.slot 119], none, [], []⟩]
def C.catnaplaw9_RegsAlone_r22 : List IOper := C.catnaplaw9_RegsAlone_r22_b
theorem C.catnaplaw9_RegsAlone_r22_w {k : AFr → ASt → Prop} : aops P C.catnaplaw9_RegsAlone_r22 k fr st = aops P C.catnaplaw9_RegsAlone_r22_b k fr st := rfl
def C.catnaplaw9_RegsAlone_c4 : ICode := .keep [0, 2, 9, 11] (.seq (.region C.catnaplaw9_RegsAlone_r22) C.catnaplaw9_RegsAlone_c3)
theorem C.catnaplaw9_RegsAlone_c4_w : awp P C.catnaplaw9_RegsAlone_c4 Q fr st = awp P (.keep [0, 2, 9, 11] (.seq (.region C.catnaplaw9_RegsAlone_r22) C.catnaplaw9_RegsAlone_c3)) Q fr st := rfl
def C.catnaplaw9_RegsAlone_r18_b : List IOper := [
  ⟨some 85, .move (.slot 13), none, [], []⟩,
  ⟨some 86, .bin .add (.slot 85) (.cst (.int .i64 1)), none, [], []⟩,
  ⟨some 13, .move (.slot 86), none, [], []⟩]
def C.catnaplaw9_RegsAlone_r18 : List IOper := C.catnaplaw9_RegsAlone_r18_b
theorem C.catnaplaw9_RegsAlone_r18_w {k : AFr → ASt → Prop} : aops P C.catnaplaw9_RegsAlone_r18 k fr st = aops P C.catnaplaw9_RegsAlone_r18_b k fr st := rfl
def C.catnaplaw9_RegsAlone_c5 : ICode := .keep [0, 2, 9, 11, 13] (.region C.catnaplaw9_RegsAlone_r18)
theorem C.catnaplaw9_RegsAlone_c5_w : awp P C.catnaplaw9_RegsAlone_c5 Q fr st = awp P (.keep [0, 2, 9, 11, 13] (.region C.catnaplaw9_RegsAlone_r18)) Q fr st := rfl
def C.catnaplaw9_RegsAlone_r21_b : List IOper := [
  ⟨some 6, .move (.cst (.bool false)), none, [], []⟩]
def C.catnaplaw9_RegsAlone_r21 : List IOper := C.catnaplaw9_RegsAlone_r21_b
theorem C.catnaplaw9_RegsAlone_r21_w {k : AFr → ASt → Prop} : aops P C.catnaplaw9_RegsAlone_r21 k fr st = aops P C.catnaplaw9_RegsAlone_r21_b k fr st := rfl
def C.catnaplaw9_RegsAlone_c6 : ICode := .seq (.region C.catnaplaw9_RegsAlone_r21) .ret
theorem C.catnaplaw9_RegsAlone_c6_w : awp P C.catnaplaw9_RegsAlone_c6 Q fr st = awp P (.seq (.region C.catnaplaw9_RegsAlone_r21) .ret) Q fr st := rfl
def C.catnaplaw9_RegsAlone_c7 : ICode := .keep [0, 2, 9, 11, 13, 118] (.cond (.slot 118) C.catnaplaw9_RegsAlone_c6 .skip)
theorem C.catnaplaw9_RegsAlone_c7_w : awp P C.catnaplaw9_RegsAlone_c7 Q fr st = awp P (.keep [0, 2, 9, 11, 13, 118] (.cond (.slot 118) C.catnaplaw9_RegsAlone_c6 .skip)) Q fr st := rfl
def C.catnaplaw9_RegsAlone_r20_b : List IOper := [
  ⟨some 93, .move (.slot 15), none, [], []⟩,
  ⟨some 94, .bin .neq (.slot 93) (.cst (.int .i64 0)), none, [], []⟩,
  ⟨some 95, .move (.slot 94), none, [], []⟩,
  ⟨some 96, .move (.slot 13), some (95, false), [], []⟩,
  ⟨some 97, .move (.slot 11), some (95, false), [], []⟩,
  ⟨some 98, .bin .eql (.slot 96) (.slot 97), some (95, false), [], []⟩,
  ⟨some 99, .move (.slot 98), some (95, false), [], []⟩,
  ⟨some 100, .move (.slot 14), some (99, true), [], []⟩,
  ⟨some 101, .move (.slot 2), some (99, true), [], []⟩,
  ⟨some 102, .bin .neq (.slot 100) (.slot 101), some (99, true), [], []⟩,
  ⟨some 103, .pick (.slot 99) (.slot 102) (.cst (.bool false)), some (95, false), [], []⟩,
  ⟨some 104, .pick (.slot 95) (.cst (.bool true)) (.slot 103), none, [], []⟩,
  ⟨some 105, .move (.slot 104), none, [], []⟩,
  ⟨some 106, .move (.slot 13), some (105, false), [], []⟩,
  ⟨some 107, .move (.slot 11), some (105, false), [], []⟩,
  ⟨some 108, .bin .neq (.slot 106) (.slot 107), some (105, false), [], []⟩,
  ⟨some 109, .move (.slot 108), some (105, false), [], []⟩,
  ⟨some 110, .move (.slot 14), some (109, true), [], []⟩,
  ⟨some 111, .move (.slot 0), some (109, true), [], []⟩,
  ⟨some 112, .move (.slot 13), some (109, true), [], []⟩,
  ⟨some 113, .idxAddr 2 (.slot 111) (.slot 112), some (109, true), [], []⟩,
  ⟨some 114, .fldAddr 0 (.slot 113), some (109, true), [], []⟩,
  ⟨some 115, .load1 (.slot 114), some (109, true), [], []⟩,
  ⟨some 116, .bin .neq (.slot 110) (.slot 115), some (109, true), [], []⟩,
  ⟨some 117, .pick (.slot 109) (.slot 116) (.cst (.bool false)), some (105, false), [], []⟩,
  ⟨some 118, .pick (.slot 105) (.cst (.bool true)) (.slot 117), none, [], []⟩]
def C.catnaplaw9_RegsAlone_r20 : List IOper := C.catnaplaw9_RegsAlone_r20_b
theorem C.catnaplaw9_RegsAlone_r20_w {k : AFr → ASt → Prop} : aops P C.catnaplaw9_RegsAlone_r20 k fr st = aops P C.catnaplaw9_RegsAlone_r20_b k fr st := rfl
def C.catnaplaw9_RegsAlone_c8 : ICode := .keep [0, 2, 9, 11, 13, 14, 15] (.seq (.region C.catnaplaw9_RegsAlone_r20) C.catnaplaw9_RegsAlone_c7)
theorem C.catnaplaw9_RegsAlone_c8_w : awp P C.catnaplaw9_RegsAlone_c8 Q fr st = awp P (.keep [0, 2, 9, 11, 13, 14, 15] (.seq (.region C.catnaplaw9_RegsAlone_r20) C.catnaplaw9_RegsAlone_c7)) Q fr st := rfl
def C.catnaplaw9_RegsAlone_r19_b : List IOper := [
  ⟨some 88, .move (.slot 9), none, [], []⟩,
  ⟨some 89, .move (.slot 13), none, [], []⟩,
  ⟨some 90, .call F.regs_File_Read [.slot 88, .slot 89], none, [], []⟩,
  ⟨some 87, .move (.slot 90), none, [], []⟩,
  ⟨some 91, .extract (.slot 87) 0, none, [], []⟩,
  ⟨some 92, .extract (.slot 87) 1, none, [], []⟩,
  ⟨some 14, .move (.slot 91), none, [], []⟩,
  ⟨some 15, .move (.slot 92), none, [], []⟩]
def C.catnaplaw9_RegsAlone_r19 : List IOper := C.catnaplaw9_RegsAlone_r19_b
theorem C.catnaplaw9_RegsAlone_r19_w {k : AFr → ASt → Prop} : aops P C.catnaplaw9_RegsAlone_r19 k fr st = aops P C.catnaplaw9_RegsAlone_r19_b k fr st := rfl
def C.catnaplaw9_RegsAlone_b9 : ICode := .seq (.region C.catnaplaw9_RegsAlone_r19) C.catnaplaw9_RegsAlone_c8
theorem C.catnaplaw9_RegsAlone_b9_w : awp P C.catnaplaw9_RegsAlone_b9 Q fr st = awp P (.seq (.region C.catnaplaw9_RegsAlone_r19) C.catnaplaw9_RegsAlone_c8) Q fr st := rfl
def C.catnaplaw9_RegsAlone_c10 : ICode := .keep [0, 2, 9, 11, 13] (.seq (.block 3 C.catnaplaw9_RegsAlone_b9) C.catnaplaw9_RegsAlone_c5)
theorem C.catnaplaw9_RegsAlone_c10_w : awp P C.catnaplaw9_RegsAlone_c10 Q fr st = awp P (.keep [0, 2, 9, 11, 13] (.seq (.block 3 C.catnaplaw9_RegsAlone_b9) C.catnaplaw9_RegsAlone_c5)) Q fr st := rfl
def C.catnaplaw9_RegsAlone_c11 : ICode := .keep [0, 2, 9, 11, 13, 84] (.cond (.slot 84) .skip (.exit 2))
theorem C.catnaplaw9_RegsAlone_c11_w : awp P C.catnaplaw9_RegsAlone_c11 Q fr st = awp P (.keep [0, 2, 9, 11, 13, 84] (.cond (.slot 84) .skip (.exit 2))) Q fr st := rfl
def C.catnaplaw9_RegsAlone_r17_b : List IOper := [
  ⟨some 81, .move (.slot 13), none, [], []⟩,
  ⟨some 82, .move (.slot 0), none, [], []⟩,
  ⟨some 83, .len (.slot 82), none, [], []⟩,
  ⟨some 84, .bin .lss (.slot 81) (.slot 83), none, [], []⟩]
def C.catnaplaw9_RegsAlone_r17 : List IOper := C.catnaplaw9_RegsAlone_r17_b
theorem C.catnaplaw9_RegsAlone_r17_w {k : AFr → ASt → Prop} : aops P C.catnaplaw9_RegsAlone_r17 k fr st = aops P C.catnaplaw9_RegsAlone_r17_b k fr st := rfl
def C.catnaplaw9_RegsAlone_l12 : ICode := .keep [0, 2, 9, 11, 13] (.seq (.seq (.region C.catnaplaw9_RegsAlone_r17) C.catnaplaw9_RegsAlone_c11) C.catnaplaw9_RegsAlone_c10)
theorem C.catnaplaw9_RegsAlone_l12_w : awp P C.catnaplaw9_RegsAlone_l12 Q fr st = awp P (.keep [0, 2, 9, 11, 13] (.seq (.seq (.region C.catnaplaw9_RegsAlone_r17) C.catnaplaw9_RegsAlone_c11) C.catnaplaw9_RegsAlone_c10)) Q fr st := rfl
def C.catnaplaw9_RegsAlone_b13 : ICode := .loop C.catnaplaw9_RegsAlone_l12
theorem C.catnaplaw9_RegsAlone_b13_w : awp P C.catnaplaw9_RegsAlone_b13 Q fr st = awp P (.loop C.catnaplaw9_RegsAlone_l12) Q fr st := rfl
def C.catnaplaw9_RegsAlone_c14 : ICode := .keep [0, 2, 9, 11, 13] (.block 2 C.catnaplaw9_RegsAlone_b13)
theorem C.catnaplaw9_RegsAlone_c14_w : awp P C.catnaplaw9_RegsAlone_c14 Q fr st = awp P (.keep [0, 2, 9, 11, 13] (.block 2 C.catnaplaw9_RegsAlone_b13)) Q fr st := rfl
def C.catnaplaw9_RegsAlone_r16_b : List IOper := [
  ⟨some 13, .move (.cst (.int .i64 0)), none, [], []⟩]
def C.catnaplaw9_RegsAlone_r16 : List IOper := C.catnaplaw9_RegsAlone_r16_b
theorem C.catnaplaw9_RegsAlone_r16_w {k : AFr → ASt → Prop} : aops P C.catnaplaw9_RegsAlone_r16 k fr st = aops P C.catnaplaw9_RegsAlone_r16_b k fr st := rfl
def C.catnaplaw9_RegsAlone_c15 : ICode := .keep [0, 2, 9, 11] (.seq (.seq (.region C.catnaplaw9_RegsAlone_r16) C.catnaplaw9_RegsAlone_c14) C.catnaplaw9_RegsAlone_c4)
theorem C.catnaplaw9_RegsAlone_c15_w : awp P C.catnaplaw9_RegsAlone_c15 Q fr st = awp P (.keep [0, 2, 9, 11] (.seq (.seq (.region C.catnaplaw9_RegsAlone_r16) C.catnaplaw9_RegsAlone_c14) C.catnaplaw9_RegsAlone_c4)) Q fr st := rfl
def C.catnaplaw9_RegsAlone_r15_b : List IOper := [
  ⟨some 6, .move (.cst (.bool false)), none, [], []⟩]
def C.catnaplaw9_RegsAlone_r15 : List IOper := C.catnaplaw9_RegsAlone_r15_b
theorem C.catnaplaw9_RegsAlone_r15_w {k : AFr → ASt → Prop} : aops P C.catnaplaw9_RegsAlone_r15 k fr st = aops P C.catnaplaw9_RegsAlone_r15_b k fr st := rfl
def C.catnaplaw9_RegsAlone_c16 : ICode := .seq (.region C.catnaplaw9_RegsAlone_r15) .ret
theorem C.catnaplaw9_RegsAlone_c16_w : awp P C.catnaplaw9_RegsAlone_c16 Q fr st = awp P (.seq (.region C.catnaplaw9_RegsAlone_r15) .ret) Q fr st := rfl
def C.catnaplaw9_RegsAlone_c17 : ICode := .keep [0, 2, 9, 11, 80] (.cond (.slot 80) C.catnaplaw9_RegsAlone_c16 .skip)
theorem C.catnaplaw9_RegsAlone_c17_w : awp P C.catnaplaw9_RegsAlone_c17 Q fr st = awp P (.keep [0, 2, 9, 11, 80] (.cond (.slot 80) C.catnaplaw9_RegsAlone_c16 .skip)) Q fr st := rfl
def C.catnaplaw9_RegsAlone_r14_b : List IOper := [
  ⟨some 76, .move (.slot 9), none, [], []⟩,
  ⟨some 77, .move (.slot 11), none, [], []⟩,
  ⟨some 78, .move (.slot 2), none, [], []⟩,
  ⟨some 79, .call F.regs_File_Write [.slot 76, .slot 77, .slot 78], none, [], []⟩,
  ⟨some 80, .bin .neq (.slot 79) (.cst (.int .i64 0)), none, [], []⟩]
def C.catnaplaw9_RegsAlone_r14 : List IOper := C.catnaplaw9_RegsAlone_r14_b
theorem C.catnaplaw9_RegsAlone_r14_w {k : AFr → ASt → Prop} : aops P C.catnaplaw9_RegsAlone_r14 k fr st = aops P C.catnaplaw9_RegsAlone_r14_b k fr st := rfl
def C.catnaplaw9_RegsAlone_c18 : ICode := .keep [0, 2, 9, 11] (.seq (.seq (.region C.catnaplaw9_RegsAlone_r14) C.catnaplaw9_RegsAlone_c17) C.catnaplaw9_RegsAlone_c15)
theorem C.catnaplaw9_RegsAlone_c18_w : awp P C.catnaplaw9_RegsAlone_c18 Q fr st = awp P (.keep [0, 2, 9, 11] (.seq (.seq (.region C.catnaplaw9_RegsAlone_r14) C.catnaplaw9_RegsAlone_c17) C.catnaplaw9_RegsAlone_c15)) Q fr st := rfl
def C.catnaplaw9_RegsAlone_r11_b : List IOper := [
  ⟨some 54, .move (.slot 12), none, [], []⟩,
  ⟨some 55, .bin .add (.slot 54) (.cst (.int .i64 1)), none, [], []⟩,
  ⟨some 12, .move (.slot 55), none, [], []⟩]
def C.catnaplaw9_RegsAlone_r11 : List IOper := C.catnaplaw9_RegsAlone_r11_b
theorem C.catnaplaw9_RegsAlone_r11_w {k : AFr → ASt → Prop} : aops P C.catnaplaw9_RegsAlone_r11 k fr st = aops P C.catnaplaw9_RegsAlone_r11_b k fr st := rfl
def C.catnaplaw9_RegsAlone_c19 : ICode := .keep [0, 2, 8, 9, 11, 12] (.region C.catnaplaw9_RegsAlone_r11)
theorem C.catnaplaw9_RegsAlone_c19_w : awp P C.catnaplaw9_RegsAlone_c19 Q fr st = awp P (.keep [0, 2, 8, 9, 11, 12] (.region C.catnaplaw9_RegsAlone_r11)) Q fr st := rfl
def C.catnaplaw9_RegsAlone_r13_b : List IOper := [
  ⟨some 66, .move (.slot 8), none, [], []⟩,
  ⟨some 67, .move (.slot 12), none, [], []⟩,
  ⟨some 68, .move (.slot 8), none, [], []⟩,
  ⟨some 69, .move (.slot 12), none, [], []⟩,
  ⟨some 70, .idxAddr 2 (.slot 68) (.slot 69), none, [], []⟩,
  ⟨some 71, .fldAddr 1 (.slot 70), none, [], []⟩,
  ⟨some 72, .load1 (.slot 71), none, [], []⟩,
  ⟨some 73, .un .not (.slot 72), none, [], []⟩,
  ⟨some 74, .idxAddr 2 (.slot 66) (.slot 67), none, [], []⟩,
  ⟨some 75, .fldAddr 1 (.slot 74), none, [], []⟩,
  ⟨none, .store1 (.slot 75) (.slot 73), none, [], []⟩]
def C.catnaplaw9_RegsAlone_r13 : List IOper := C.catnaplaw9_RegsAlone_r13_b
theorem C.catnaplaw9_RegsAlone_r13_w {k : AFr → ASt → Prop} : aops P C.catnaplaw9_RegsAlone_r13 k fr st = aops P C.catnaplaw9_RegsAlone_r13_b k fr st := rfl
def C.catnaplaw9_RegsAlone_c20 : ICode := .keep [0, 2, 8, 9, 11, 12] (.region C.catnaplaw9_RegsAlone_r13)
theorem C.catnaplaw9_RegsAlone_c20_w : awp P C.catnaplaw9_RegsAlone_c20 Q fr st = awp P (.keep [0, 2, 8, 9, 11, 12] (.region C.catnaplaw9_RegsAlone_r13)) Q fr st := rfl
def C.catnaplaw9_RegsAlone_r12_b : List IOper := [
  ⟨some 56, .move (.slot 8), none, [], []⟩,
  ⟨some 57, .move (.slot 12), none, [], []⟩,
  ⟨some 58, .move (.slot 8), none, [], []⟩,
  ⟨some 59, .move (.slot 12), none, [], []⟩,
  ⟨some 60, .idxAddr 2 (.slot 58) (.slot 59), none, [], []⟩,
  ⟨some 61, .fldAddr 0 (.slot 60), none, [], []⟩,
  ⟨some 62, .load1 (.slot 61), none, [], []⟩,
  ⟨some 63, .bin .add (.slot 62) (.cst (.int .u32 1)), none, [], []⟩,
  ⟨some 64, .idxAddr 2 (.slot 56) (.slot 57), none, [], []⟩,
  ⟨some 65, .fldAddr 0 (.slot 64), none, [], []⟩,
  ⟨none, .store1 (.slot 65) (.slot 63), none, [], []⟩]
def C.catnaplaw9_RegsAlone_r12 : List IOper := C.catnaplaw9_RegsAlone_r12_b
theorem C.catnaplaw9_RegsAlone_r12_w {k : AFr → ASt → Prop} : aops P C.catnaplaw9_RegsAlone_r12 k fr st = aops P C.catnaplaw9_RegsAlone_r12_b k fr st := rfl
def C.catnaplaw9_RegsAlone_b21 : ICode := .seq (.region C.catnaplaw9_RegsAlone_r12) C.catnaplaw9_RegsAlone_c20
theorem C.catnaplaw9_RegsAlone_b21_w : awp P C.catnaplaw9_RegsAlone_b21 Q fr st = awp P (.seq (.region C.catnaplaw9_RegsAlone_r12) C.catnaplaw9_RegsAlone_c20) Q fr st := rfl
def C.catnaplaw9_RegsAlone_c22 : ICode := .keep [0, 2, 8, 9, 11, 12] (.seq (.block 1 C.catnaplaw9_RegsAlone_b21) C.catnaplaw9_RegsAlone_c19)
theorem C.catnaplaw9_RegsAlone_c22_w : awp P C.catnaplaw9_RegsAlone_c22 Q fr st = awp P (.keep [0, 2, 8, 9, 11, 12] (.seq (.block 1 C.catnaplaw9_RegsAlone_b21) C.catnaplaw9_RegsAlone_c19)) Q fr st := rfl
def C.catnaplaw9_RegsAlone_c23 : ICode := .keep [0, 2, 8, 9, 11, 12, 53] (.cond (.slot 53) .skip (.exit 0))
theorem C.catnaplaw9_RegsAlone_c23_w : awp P C.catnaplaw9_RegsAlone_c23 Q fr st = awp P (.keep [0, 2, 8, 9, 11, 12, 53] (.cond (.slot 53) .skip (.exit 0))) Q fr st := rfl
def C.catnaplaw9_RegsAlone_r10_b : List IOper := [
  ⟨some 50, .move (.slot 12), none, [], []⟩,
  ⟨some 51, .move (.slot 8), none, [], []⟩,
  ⟨some 52, .len (.slot 51), none, [], []⟩,
  ⟨some 53, .bin .lss (.slot 50) (.slot 52), none, [], []⟩]
def C.catnaplaw9_RegsAlone_r10 : List IOper := C.catnaplaw9_RegsAlone_r10_b
theorem C.catnaplaw9_RegsAlone_r10_w {k : AFr → ASt → Prop} : aops P C.catnaplaw9_RegsAlone_r10 k fr st = aops P C.catnaplaw9_RegsAlone_r10_b k fr st := rfl
def C.catnaplaw9_RegsAlone_l24 : ICode := .keep [0, 2, 8, 9, 11, 12] (.seq (.seq (.region C.catnaplaw9_RegsAlone_r10) C.catnaplaw9_RegsAlone_c23) C.catnaplaw9_RegsAlone_c22)
theorem C.catnaplaw9_RegsAlone_l24_w : awp P C.catnaplaw9_RegsAlone_l24 Q fr st = awp P (.keep [0, 2, 8, 9, 11, 12] (.seq (.seq (.region C.catnaplaw9_RegsAlone_r10) C.catnaplaw9_RegsAlone_c23) C.catnaplaw9_RegsAlone_c22)) Q fr st := rfl
def C.catnaplaw9_RegsAlone_b25 : ICode := .loop C.catnaplaw9_RegsAlone_l24
theorem C.catnaplaw9_RegsAlone_b25_w : awp P C.catnaplaw9_RegsAlone_b25 Q fr st = awp P (.loop C.catnaplaw9_RegsAlone_l24) Q fr st := rfl
def C.catnaplaw9_RegsAlone_c26 : ICode := .keep [0, 2, 8, 9, 11, 12] (.block 0 C.catnaplaw9_RegsAlone_b25)
theorem C.catnaplaw9_RegsAlone_c26_w : awp P C.catnaplaw9_RegsAlone_c26 Q fr st = awp P (.keep [0, 2, 8, 9, 11, 12] (.block 0 C.catnaplaw9_RegsAlone_b25)) Q fr st := rfl
def C.catnaplaw9_RegsAlone_r9_b : List IOper := [
  ⟨some 12, .move (.cst (.int .i64 0)), none, [], []⟩]
def C.catnaplaw9_RegsAlone_r9 : List IOper := C.catnaplaw9_RegsAlone_r9_b
theorem C.catnaplaw9_RegsAlone_r9_w {k : AFr → ASt → Prop} : aops P C.catnaplaw9_RegsAlone_r9 k fr st = aops P C.catnaplaw9_RegsAlone_r9_b k fr st := rfl
def C.catnaplaw9_RegsAlone_c27 : ICode := .keep [0, 2, 8, 9, 11] (.seq (.seq (.region C.catnaplaw9_RegsAlone_r9) C.catnaplaw9_RegsAlone_c26) C.catnaplaw9_RegsAlone_c18)
theorem C.catnaplaw9_RegsAlone_c27_w : awp P C.catnaplaw9_RegsAlone_c27 Q fr st = awp P (.keep [0, 2, 8, 9, 11] (.seq (.seq (.region C.catnaplaw9_RegsAlone_r9) C.catnaplaw9_RegsAlone_c26) C.catnaplaw9_RegsAlone_c18)) Q fr st := rfl
def C.catnaplaw9_RegsAlone_r8_b : List IOper := [
  ⟨some 46, .move (.slot 1), none, [], []⟩,
  ⟨some 47, .move (.slot 0), none, [], []⟩,
  ⟨some 48, .len (.slot 47), none, [], []⟩,
  ⟨some 49, .call F.catnaplaw9_pick [.slot 46, .slot 48], none, [], []⟩,
  ⟨some 11, .move (.slot 49), none, [], []⟩]
def C.catnaplaw9_RegsAlone_r8 : List IOper := C.catnaplaw9_RegsAlone_r8_b
theorem C.catnaplaw9_RegsAlone_r8_w {k : AFr → ASt → Prop} : aops P C.catnaplaw9_RegsAlone_r8 k fr st = aops P C.catnaplaw9_RegsAlone_r8_b k fr st := rfl
def C.catnaplaw9_RegsAlone_c28 : ICode := .keep [0, 1, 2, 8, 9] (.seq (.region C.catnaplaw9_RegsAlone_r8) C.catnaplaw9_RegsAlone_c27)
theorem C.catnaplaw9_RegsAlone_c28_w : awp P C.catnaplaw9_RegsAlone_c28 Q fr st = awp P (.keep [0, 1, 2, 8, 9] (.seq (.region C.catnaplaw9_RegsAlone_r8) C.catnaplaw9_RegsAlone_c27)) Q fr st := rfl
def C.catnaplaw9_RegsAlone_r7_b : List IOper := [
  ⟨some 6, .move (.cst (.bool false)), none, [], []⟩]
def C.catnaplaw9_RegsAlone_r7 : List IOper := C.catnaplaw9_RegsAlone_r7_b
theorem C.catnaplaw9_RegsAlone_r7_w {k : AFr → ASt → Prop} : aops P C.catnaplaw9_RegsAlone_r7 k fr st = aops P C.catnaplaw9_RegsAlone_r7_b k fr st := rfl
def C.catnaplaw9_RegsAlone_c29 : ICode := .seq (.region C.catnaplaw9_RegsAlone_r7) .ret
theorem C.catnaplaw9_RegsAlone_c29_w : awp P C.catnaplaw9_RegsAlone_c29 Q fr st = awp P (.seq (.region C.catnaplaw9_RegsAlone_r7) .ret) Q fr st := rfl
def C.catnaplaw9_RegsAlone_c30 : ICode := .keep [0, 1, 2, 8, 9, 45] (.cond (.slot 45) C.catnaplaw9_RegsAlone_c29 .skip)
theorem C.catnaplaw9_RegsAlone_c30_w : awp P C.catnaplaw9_RegsAlone_c30 Q fr st = awp P (.keep [0, 1, 2, 8, 9, 45] (.cond (.slot 45) C.catnaplaw9_RegsAlone_c29 .skip)) Q fr st := rfl
def C.catnaplaw9_RegsAlone_r6_b : List IOper := [
  ⟨some 40, .move (.slot 9), none, [], []⟩,
  ⟨some 41, .eqP 0 false (.slot 40) (.cst (.nilp)), none, [], []⟩,
  ⟨some 42, .move (.slot 41), none, [], []⟩,
  ⟨some 43, .move (.slot 10), some (42, false), [], []⟩,
  ⟨some 44, .bin .neq (.slot 43) (.cst (.int .i64 0)), some (42, false), [], []⟩,
  ⟨some 45, .pick (.slot 42) (.cst (.bool true)) (.slot 44), none, [], []⟩]
def C.catnaplaw9_RegsAlone_r6 : List IOper := C.catnaplaw9_RegsAlone_r6_b
theorem C.catnaplaw9_RegsAlone_r6_w {k : AFr → ASt → Prop} : aops P C.catnaplaw9_RegsAlone_r6 k fr st = aops P C.catnaplaw9_RegsAlone_r6_b k fr st := rfl
def C.catnaplaw9_RegsAlone_c31 : ICode := .keep [0, 1, 2, 8, 9, 10] (.seq (.seq (.region C.catnaplaw9_RegsAlone_r6) C.catnaplaw9_RegsAlone_c30) C.catnaplaw9_RegsAlone_c28)
theorem C.catnaplaw9_RegsAlone_c31_w : awp P C.catnaplaw9_RegsAlone_c31 Q fr st = awp P (.keep [0, 1, 2, 8, 9, 10] (.seq (.seq (.region C.catnaplaw9_RegsAlone_r6) C.catnaplaw9_RegsAlone_c30) C.catnaplaw9_RegsAlone_c28)) Q fr st := rfl
def C.catnaplaw9_RegsAlone_r5_b : List IOper := [
  ⟨some 36, .move (.slot 8), none, [], []⟩,
  ⟨some 37, .call F.regs_New [.slot 36], none, [], []⟩,
  ⟨some 35, .move (.slot 37), none, [], []⟩,
  ⟨some 38, .extract (.slot 35) 0, none, [], []⟩,
  ⟨some 39, .extract (.slot 35) 1, none, [], []⟩,
  ⟨some 9, .move (.slot 38), none, [], []⟩,
  ⟨some 10, .move (.slot 39), none, [], []⟩]
def C.catnaplaw9_RegsAlone_r5 : List IOper := C.catnaplaw9_RegsAlone_r5_b
theorem C.catnaplaw9_RegsAlone_r5_w {k : AFr → ASt → Prop} : aops P C.catnaplaw9_RegsAlone_r5 k fr st = aops P C.catnaplaw9_RegsAlone_r5_b k fr st := rfl
def C.catnaplaw9_RegsAlone_c32 : ICode := .keep [0, 1, 2, 8] (.seq (.region C.catnaplaw9_RegsAlone_r5) C.catnaplaw9_RegsAlone_c31)
theorem C.catnaplaw9_RegsAlone_c32_w : awp P C.catnaplaw9_RegsAlone_c32 Q fr st = awp P (.keep [0, 1, 2, 8] (.seq (.region C.catnaplaw9_RegsAlone_r5) C.catnaplaw9_RegsAlone_c31)) Q fr st := rfl
def C.catnaplaw9_RegsAlone_r4_b : List IOper := [
  ⟨some 32, .buildSlice 2 0 [.int .u32 0, .bool false] [], none, [], []⟩,
  ⟨some 33, .move (.slot 0), none, [], []⟩,
  ⟨some 34, .append 2 8 (.slot 32) (.slot 33), none, [], []⟩,
  ⟨some 8, .move (.slot 34), none, [], []⟩]
def C.catnaplaw9_RegsAlone_r4 : List IOper := C.catnaplaw9_RegsAlone_r4_b
theorem C.catnaplaw9_RegsAlone_r4_w {k : AFr → ASt → Prop} : aops P C.catnaplaw9_RegsAlone_r4 k fr st = aops P C.catnaplaw9_RegsAlone_r4_b k fr st := rfl
def C.catnaplaw9_RegsAlone_c33 : ICode := .keep [0, 1, 2] (.seq (.region C.catnaplaw9_RegsAlone_r4) C.catnaplaw9_RegsAlone_c32)
theorem C.catnaplaw9_RegsAlone_c33_w : awp P C.catnaplaw9_RegsAlone_c33 Q fr st = awp P (.keep [0, 1, 2] (.seq (.region C.catnaplaw9_RegsAlone_r4) C.catnaplaw9_RegsAlone_c32)) Q fr st := rfl
def C.catnaplaw9_RegsAlone_r3_b : List IOper := [
  ⟨some 31, .move (.slot 7), none, [], []⟩,
  ⟨some 6, .move (.slot 31), none, [], []⟩]
def C.catnaplaw9_RegsAlone_r3 : List IOper := C.catnaplaw9_RegsAlone_r3_b
theorem C.catnaplaw9_RegsAlone_r3_w {k : AFr → ASt → Prop} : aops P C.catnaplaw9_RegsAlone_r3 k fr st = aops P C.catnaplaw9_RegsAlone_r3_b k fr st := rfl
def C.catnaplaw9_RegsAlone_c34 : ICode := .seq (.region C.catnaplaw9_RegsAlone_r3) .ret
theorem C.catnaplaw9_RegsAlone_c34_w : awp P C.catnaplaw9_RegsAlone_c34 Q fr st = awp P (.seq (.region C.catnaplaw9_RegsAlone_r3) .ret) Q fr st := rfl
def C.catnaplaw9_RegsAlone_c35 : ICode := .keep [0, 1, 2, 7, 30] (.cond (.slot 30) C.catnaplaw9_RegsAlone_c34 .skip)
theorem C.catnaplaw9_RegsAlone_c35_w : awp P C.catnaplaw9_RegsAlone_c35 Q fr st = awp P (.keep [0, 1, 2, 7, 30] (.cond (.slot 30) C.catnaplaw9_RegsAlone_c34 .skip)) Q fr st := rfl
def C.catnaplaw9_RegsAlone_r2_b : List IOper := [
  ⟨some 19, .move (.slot 7), none, [], []⟩,
  ⟨some 20, .un .not (.slot 19), none, [], []⟩,
  ⟨some 21, .move (.slot 20), none, [], []⟩,
  ⟨some 22, .move (.slot 0), some (21, false), [], []⟩,
  ⟨some 23, .len (.slot 22), some (21, false), [], []⟩,
  ⟨some 24, .bin .gtr (.slot 23) (.cst (.int .i64 8)), some (21, false), [], []⟩,
  ⟨some 25, .pick (.slot 21) (.cst (.bool true)) (.slot 24), none, [], []⟩,
  ⟨some 26, .move (.slot 25), none, [], []⟩,
  ⟨some 27, .move (.slot 0), some (26, false), [], []⟩,
  ⟨some 28, .len (.slot 27), some (26, false), [], []⟩,
  ⟨some 29, .bin .eql (.slot 28) (.cst (.int .i64 0)), some (26, false), [], []⟩,
  ⟨some 30, .pick (.slot 26) (.cst (.bool true)) (.slot 29), none, [], []⟩]
def C.catnaplaw9_RegsAlone_r2 : List IOper := C.catnaplaw9_RegsAlone_r2_b
theorem C.catnaplaw9_RegsAlone_r2_w {k : AFr → ASt → Prop} : aops P C.catnaplaw9_RegsAlone_r2 k fr st = aops P C.catnaplaw9_RegsAlone_r2_b k fr st := rfl
def C.catnaplaw9_RegsAlone_c36 : ICode := .keep [0, 1, 2, 7] (.seq (.seq (.region C.catnaplaw9_RegsAlone_r2) C.catnaplaw9_RegsAlone_c35) C.catnaplaw9_RegsAlone_c33)
theorem C.catnaplaw9_RegsAlone_c36_w : awp P C.catnaplaw9_RegsAlone_c36 Q fr st = awp P (.keep [0, 1, 2, 7] (.seq (.seq (.region C.catnaplaw9_RegsAlone_r2) C.catnaplaw9_RegsAlone_c35) C.catnaplaw9_RegsAlone_c33)) Q fr st := rfl
def C.catnaplaw9_RegsAlone_r1_b : List IOper := [
  ⟨some 18, .call F.catnaplaw9_shown [], none, [], []⟩,
  ⟨some 7, .move (.slot 18), none, [], []⟩]
def C.catnaplaw9_RegsAlone_r1 : List IOper := C.catnaplaw9_RegsAlone_r1_b
theorem C.catnaplaw9_RegsAlone_r1_w {k : AFr → ASt → Prop} : aops P C.catnaplaw9_RegsAlone_r1 k fr st = aops P C.catnaplaw9_RegsAlone_r1_b k fr st := rfl
def C.catnaplaw9_RegsAlone_c37 : ICode := .keep [0, 1, 2] (.seq (.region C.catnaplaw9_RegsAlone_r1) C.catnaplaw9_RegsAlone_c36)
theorem C.catnaplaw9_RegsAlone_c37_w : awp P C.catnaplaw9_RegsAlone_c37 Q fr st = awp P (.keep [0, 1, 2] (.seq (.region C.catnaplaw9_RegsAlone_r1) C.catnaplaw9_RegsAlone_c36)) Q fr st := rfl
def C.catnaplaw9_RegsAlone_r0_b : List IOper := [
  ⟨some 6, .move (.cst (.bool false)), none, [], []⟩]
def C.catnaplaw9_RegsAlone_r0 : List IOper := C.catnaplaw9_RegsAlone_r0_b
theorem C.catnaplaw9_RegsAlone_r0_w {k : AFr → ASt → Prop} : aops P C.catnaplaw9_RegsAlone_r0 k fr st = aops P C.catnaplaw9_RegsAlone_r0_b k fr st := rfl
def C.catnaplaw9_RegsAlone : IFunc := ⟨3, [.slot 6], .seq (.region C.catnaplaw9_RegsAlone_r0) C.catnaplaw9_RegsAlone_c37⟩
def C.catnaplaw9_RegsAlone_W := And.intro (And.intro (And.intro (And.intro (And.intro @C.catnaplaw9_RegsAlone_r25_w (And.intro @C.catnaplaw9_RegsAlone_c1_w @C.catnaplaw9_RegsAlone_r24_w)) (And.intro (And.intro @C.catnaplaw9_RegsAlone_c2_w @C.catnaplaw9_RegsAlone_r23_w) (And.intro @C.catnaplaw9_RegsAlone_c3_w @C.catnaplaw9_RegsAlone_r22_w))) (And.intro (And.intro (And.intro @C.catnaplaw9_RegsAlone_c4_w @C.catnaplaw9_RegsAlone_r18_w) (And.intro @C.catnaplaw9_RegsAlone_c5_w @C.catnaplaw9_RegsAlone_r21_w)) (And.intro (And.intro @C.catnaplaw9_RegsAlone_c6_w @C.catnaplaw9_RegsAlone_c7_w) (And.intro @C.catnaplaw9_RegsAlone_r20_w @C.catnaplaw9_RegsAlone_c8_w)))) (And.intro (And.intro (And.intro @C.catnaplaw9_RegsAlone_r19_w (And.intro @C.catnaplaw9_RegsAlone_b9_w @C.catnaplaw9_RegsAlone_c10_w)) (And.intro (And.intro @C.catnaplaw9_RegsAlone_c11_w @C.catnaplaw9_RegsAlone_r17_w) (And.intro @C.catnaplaw9_RegsAlone_b13_w @C.catnaplaw9_RegsAlone_c14_w))) (And.intro (And.intro (And.intro @C.catnaplaw9_RegsAlone_r16_w @C.catnaplaw9_RegsAlone_c15_w) (And.intro @C.catnaplaw9_RegsAlone_r15_w @C.catnaplaw9_RegsAlone_c16_w)) (And.intro (And.intro @C.catnaplaw9_RegsAlone_c17_w @C.catnaplaw9_RegsAlone_r14_w) (And.intro @C.catnaplaw9_RegsAlone_c18_w @C.catnaplaw9_RegsAlone_r11_w))))) (And.intro (And.intro (And.intro (And.intro @C.catnaplaw9_RegsAlone_c19_w (And.intro @C.catnaplaw9_RegsAlone_r13_w @C.catnaplaw9_RegsAlone_c20_w)) (And.intro (And.intro @C.catnaplaw9_RegsAlone_r12_w @C.catnaplaw9_RegsAlone_b21_w) (And.intro @C.catnaplaw9_RegsAlone_c22_w @C.catnaplaw9_RegsAlone_c23_w))) (And.intro (And.intro (And.intro @C.catnaplaw9_RegsAlone_r10_w @C.catnaplaw9_RegsAlone_b25_w) (And.intro @C.catnaplaw9_RegsAlone_c26_w @C.catnaplaw9_RegsAlone_r9_w)) (And.intro (And.intro @C.catnaplaw9_RegsAlone_c27_w @C.catnaplaw9_RegsAlone_r8_w) (And.intro @C.catnaplaw9_RegsAlone_c28_w @C.catnaplaw9_RegsAlone_r7_w)))) (And.intro (And.intro (And.intro (And.intro @C.catnaplaw9_RegsAlone_c29_w @C.catnaplaw9_RegsAlone_c30_w) (And.intro @C.catnaplaw9_RegsAlone_r6_w @C.catnaplaw9_RegsAlone_c31_w)) (And.intro (And.intro @C.catnaplaw9_RegsAlone_r5_w @C.catnaplaw9_RegsAlone_c32_w) (And.intro @C.catnaplaw9_RegsAlone_r4_w @C.catnaplaw9_RegsAlone_c33_w))) (And.intro (And.intro (And.intro @C.catnaplaw9_RegsAlone_r3_w @C.catnaplaw9_RegsAlone_c34_w) (And.intro @C.catnaplaw9_RegsAlone_c35_w @C.catnaplaw9_RegsAlone_r2_w)) (And.intro (And.intro @C.catnaplaw9_RegsAlone_c36_w @C.catnaplaw9_RegsAlone_r1_w) (And.intro @C.catnaplaw9_RegsAlone_c37_w @C.catnaplaw9_RegsAlone_r0_w)))))
def C.catnaplaw9_RegsAlone_B := And.intro (And.intro (And.intro (And.intro @C.catnaplaw9_RegsAlone_r25_b.eq_1 (And.intro @C.catnaplaw9_RegsAlone_r24_b.eq_1 @C.catnaplaw9_RegsAlone_r23_b.eq_1)) (And.intro @C.catnaplaw9_RegsAlone_r22_b.eq_1 (And.intro @C.catnaplaw9_RegsAlone_r18_b.eq_1 @C.catnaplaw9_RegsAlone_r21_b.eq_1))) (And.intro (And.intro @C.catnaplaw9_RegsAlone_r20_b.eq_1 (And.intro @C.catnaplaw9_RegsAlone_r19_b.eq_1 @C.catnaplaw9_RegsAlone_r17_b.eq_1)) (And.intro (And.intro @C.catnaplaw9_RegsAlone_r16_b.eq_1 @C.catnaplaw9_RegsAlone_r15_b.eq_1) (And.intro @C.catnaplaw9_RegsAlone_r14_b.eq_1 @C.catnaplaw9_RegsAlone_r11_b.eq_1)))) (And.intro (And.intro (And.intro @C.catnaplaw9_RegsAlone_r13_b.eq_1 (And.intro @C.catnaplaw9_RegsAlone_r12_b.eq_1 @C.catnaplaw9_RegsAlone_r10_b.eq_1)) (And.intro @C.catnaplaw9_RegsAlone_r9_b.eq_1 (And.intro @C.catnaplaw9_RegsAlone_r8_b.eq_1 @C.catnaplaw9_RegsAlone_r7_b.eq_1))) (And.intro (And.intro @C.catnaplaw9_RegsAlone_r6_b.eq_1 (And.intro @C.catnaplaw9_RegsAlone_r5_b.eq_1 @C.catnaplaw9_RegsAlone_r4_b.eq_1)) (And.intro (And.intro @C.catnaplaw9_RegsAlone_r3_b.eq_1 @C.catnaplaw9_RegsAlone_r2_b.eq_1) (And.intro @C.catnaplaw9_RegsAlone_r1_b.eq_1 @C.catnaplaw9_RegsAlone_r0_b.eq_1))))

def C.catnaplaw9_RegsTwice_r42_b : List IOper := [
  ⟨some 6, .move (.cst (.bool true)), none, [], []⟩]
def C.catnaplaw9_RegsTwice_r42 : List IOper := C.catnaplaw9_RegsTwice_r42_b
theorem C.catnaplaw9_RegsTwice_r42_w {k : AFr → ASt → Prop} : aops P C.catnaplaw9_RegsTwice_r42 k fr st = aops P C.catnaplaw9_RegsTwice_r42_b k fr st := rfl
def C.catnaplaw9_RegsTwice_c1 : ICode := .keep [] (.seq (.region C.catnaplaw9_RegsTwice_r42) .ret)
theorem C.catnaplaw9_RegsTwice_c1_w : awp P C.catnaplaw9_RegsTwice_c1 Q fr st = awp P (.keep [] (.seq (.region C.catnaplaw9_RegsTwice_r42) .ret)) Q fr st := rfl
def C.catnaplaw9_RegsTwice_r34_b : List IOper := [
  ⟨some 116, .move (.slot 17), none, [], []⟩,
  ⟨some 117, .bin .add (.slot 116) (.cst (.int .i64 1)), none, [], []⟩,
  ⟨some 17, .move (.slot 117), none, [], []⟩]
def C.catnaplaw9_RegsTwice_r34 : List IOper := C.catnaplaw9_RegsTwice_r34_b
theorem C.catnaplaw9_RegsTwice_r34_w {k : AFr → ASt → Prop} : aops P C.catnaplaw9_RegsTwice_r34 k fr st = aops P C.catnaplaw9_RegsTwice_r34_b k fr st := rfl
def C.catnaplaw9_RegsTwice_c2 : ICode := .keep [0, 1, 2, 13, 14, 16, 17] (.region C.catnaplaw9_RegsTwice_r34)
theorem C.catnaplaw9_RegsTwice_c2_w : awp P C.catnaplaw9_RegsTwice_c2 Q fr st = awp P (.keep [0, 1, 2, 13, 14, 16, 17] (.region C.catnaplaw9_RegsTwice_r34)) Q fr st := rfl
def C.catnaplaw9_RegsTwice_r41_b : List IOper := [
  ⟨some 6, .move (.cst (.bool false)), none, [], []⟩]
def C.catnaplaw9_RegsTwice_r41 : List IOper := C.catnaplaw9_RegsTwice_r41_b
theorem C.catnaplaw9_RegsTwice_r41_w {k : AFr → ASt → Prop} : aops P C.catnaplaw9_RegsTwice_r41 k fr st = aops P C.catnaplaw9_RegsTwice_r41_b k fr st := rfl
def C.catnaplaw9_RegsTwice_c3 : ICode := .seq (.region C.catnaplaw9_RegsTwice_r41) .ret
theorem C.catnaplaw9_RegsTwice_c3_w : awp P C.catnaplaw9_RegsTwice_c3 Q fr st = awp P (.seq (.region C.catnaplaw9_RegsTwice_r41) .ret) Q fr st := rfl
def C.catnaplaw9_RegsTwice_c4 : ICode := .keep [0, 1, 2, 13, 14, 16, 17, 178] (.cond (.slot 178) C.catnaplaw9_RegsTwice_c3 .skip)
theorem C.catnaplaw9_RegsTwice_c4_w : awp P C.catnaplaw9_RegsTwice_c4 Q fr st = awp P (.keep [0, 1, 2, 13, 14, 16, 17, 178] (.cond (.slot 178) C.catnaplaw9_RegsTwice_c3 .skip)) Q fr st := rfl
def C.catnaplaw9_RegsTwice_r40_b : List IOper := [
  ⟨some 153, .move (.slot 13), none, [], []⟩,
  ⟨some 154, .move (.slot 17), none, [], []⟩,
  ⟨some 155, .idxAddr 1 (.slot 153) (.slot 154), none, [], []⟩,
  ⟨some 156, .load1 (.slot 155), none, [], []⟩,
  ⟨some 157, .move (.slot 18), none, [], []⟩,
  ⟨some 158, .bin .neq (.slot 156) (.slot 157), none, [], []⟩,
  ⟨some 159, .move (.slot 158), none, [], []⟩,
  ⟨some 160, .move (.slot 14), some (159, false), [], []⟩,
  ⟨some 161, .move (.slot 17), some (159, false), [], []⟩,
  ⟨some 162, .idxAddr 1 (.slot 160) (.slot 161), some (159, false), [], []⟩,
  ⟨some 163, .load1 (.slot 162), some (159, false), [], []⟩,
  ⟨some 164, .move (.slot 18), some (159, false), [], []⟩,
  ⟨some 165, .bin .neq (.slot 163) (.slot 164), some (159, false), [], []⟩,
  ⟨some 166, .pick (.slot 159) (.cst (.bool true)) (.slot 165), none, [], []⟩,
  ⟨some 167, .move (.slot 166), none, [], []⟩,
  ⟨some 168, .move (.slot 16), some (167, false), [], []⟩,
  ⟨some 169, .move (.slot 17), some (167, false), [], []⟩,
  ⟨some 170, .idxAddr 1 (.slot 168) (.slot 169), some (167, false), [], []⟩,
  ⟨some 171, .load1 (.slot 170), some (167, false), [], []⟩,
  ⟨some 172, .move (.slot 0), some (167, false), [], []⟩,
  ⟨some 173, .move (.slot 17), some (167, false), [], []⟩,
  ⟨some 174, .idxAddr 2 (.slot 172) (.slot 173), some (167, false), [], []⟩,
  ⟨some 175, .fldAddr 0 (.slot 174), some (167, false), [], []⟩,
  ⟨some 176, .load1 (.slot 175), some (167, false), [], []⟩,
  ⟨some 177, .bin .neq (.slot 171) (.slot 176), some (167, false), [], []⟩,
  ⟨some 178, .pick (.slot 167) (.cst (.bool true)) (.slot 177), none, [], []⟩]
def C.catnaplaw9_RegsTwice_r40 : List IOper := C.catnaplaw9_RegsTwice_r40_b
theorem C.catnaplaw9_RegsTwice_r40_w {k : AFr → ASt → Prop} : aops P C.catnaplaw9_RegsTwice_r40 k fr st = aops P C.catnaplaw9_RegsTwice_r40_b k fr st := rfl
def C.catnaplaw9_RegsTwice_c5 : ICode := .keep [0, 1, 2, 13, 14, 16, 17, 18] (.seq (.region C.catnaplaw9_RegsTwice_r40) C.catnaplaw9_RegsTwice_c4)
theorem C.catnaplaw9_RegsTwice_c5_w : awp P C.catnaplaw9_RegsTwice_c5 Q fr st = awp P (.keep [0, 1, 2, 13, 14, 16, 17, 18] (.seq (.region C.catnaplaw9_RegsTwice_r40) C.catnaplaw9_RegsTwice_c4)) Q fr st := rfl
def C.catnaplaw9_RegsTwice_r39_b : List IOper := [
  ⟨some 149, .move (.slot 2), none, [], []⟩,
  ⟨some 150, .move (.slot 17), none, [], []⟩,
  ⟨some 151, .idxAddr 1 (.slot 149) (.slot 150), none, [], []⟩,
  ⟨some 152, .load1 (.slot 151), none, [], []⟩,
  ⟨some 18, .move (.slot 152), none, [], []⟩]
def C.catnaplaw9_RegsTwice_r39 : List IOper := C.catnaplaw9_RegsTwice_r39_b
theorem C.catnaplaw9_RegsTwice_r39_w {k : AFr → ASt → Prop} : aops P C.catnaplaw9_RegsTwice_r39 k fr st = aops P C.catnaplaw9_RegsTwice_r39_b k fr st := rfl
def C.catnaplaw9_RegsTwice_c6 : ICode := .region C.catnaplaw9_RegsTwice_r39
theorem C.catnaplaw9_RegsTwice_c6_w : awp P C.catnaplaw9_RegsTwice_c6 Q fr st = awp P (.region C.catnaplaw9_RegsTwice_r39) Q fr st := rfl
def C.catnaplaw9_RegsTwice_c7 : ICode := .keep [0, 1, 2, 13, 14, 16, 17, 18, 148] (.cond (.slot 148) C.catnaplaw9_RegsTwice_c6 .skip)
theorem C.catnaplaw9_RegsTwice_c7_w : awp P C.catnaplaw9_RegsTwice_c7 Q fr st = awp P (.keep [0, 1, 2, 13, 14, 16, 17, 18, 148] (.cond (.slot 148) C.catnaplaw9_RegsTwice_c6 .skip)) Q fr st := rfl
def C.catnaplaw9_RegsTwice_r38_b : List IOper := [
  ⟨some 138, .move (.slot 0), none, [], []⟩,
  ⟨some 139, .move (.slot 17), none, [], []⟩,
  ⟨some 140, .idxAddr 2 (.slot 138) (.slot 139), none, [], []⟩,
  ⟨some 141, .fldAddr 1 (.slot 140), none, [], []⟩,
  ⟨some 142, .load1 (.slot 141), none, [], []⟩,
  ⟨some 143, .move (.slot 142), none, [], []⟩,
  ⟨some 144, .move (.slot 17), some (143, true), [], []⟩,
  ⟨some 145, .move (.slot 2), some (143, true), [], []⟩,
  ⟨some 146, .len (.slot 145), some (143, true), [], []⟩,
  ⟨some 147, .bin .lss (.slot 144) (.slot 146), some (143, true), [], []⟩,
  ⟨some 148, .pick (.slot 143) (.slot 147) (.cst (.bool false)), none, [], []⟩]
def C.catnaplaw9_RegsTwice_r38 : List IOper := C.catnaplaw9_RegsTwice_r38_b
theorem C.catnaplaw9_RegsTwice_r38_w {k : AFr → ASt → Prop} : aops P C.catnaplaw9_RegsTwice_r38 k fr st = aops P C.catnaplaw9_RegsTwice_r38_b k fr st := rfl
def C.catnaplaw9_RegsTwice_c8 : ICode := .keep [0, 1, 2, 13, 14, 16, 17, 18] (.seq (.seq (.region C.catnaplaw9_RegsTwice_r38) C.catnaplaw9_RegsTwice_c7) C.catnaplaw9_RegsTwice_c5)
theorem C.catnaplaw9_RegsTwice_c8_w : awp P C.catnaplaw9_RegsTwice_c8 Q fr st = awp P (.keep [0, 1, 2, 13, 14, 16, 17, 18] (.seq (.seq (.region C.catnaplaw9_RegsTwice_r38) C.catnaplaw9_RegsTwice_c7) C.catnaplaw9_RegsTwice_c5)) Q fr st := rfl
def C.catnaplaw9_RegsTwice_r37_b : List IOper := [
  ⟨some 134, .move (.slot 1), none, [], []⟩,
  ⟨some 135, .move (.slot 17), none, [], []⟩,
  ⟨some 136, .idxAddr 1 (.slot 134) (.slot 135), none, [], []⟩,
  ⟨some 137, .load1 (.slot 136), none, [], []⟩,
  ⟨some 18, .move (.slot 137), none, [], []⟩]
def C.catnaplaw9_RegsTwice_r37 : List IOper := C.catnaplaw9_RegsTwice_r37_b
theorem C.catnaplaw9_RegsTwice_r37_w {k : AFr → ASt → Prop} : aops P C.catnaplaw9_RegsTwice_r37 k fr st = aops P C.catnaplaw9_RegsTwice_r37_b k fr st := rfl
def C.catnaplaw9_RegsTwice_c9 : ICode := .region C.catnaplaw9_RegsTwice_r37
theorem C.catnaplaw9_RegsTwice_c9_w : awp P C.catnaplaw9_RegsTwice_c9 Q fr st = awp P (.region C.catnaplaw9_RegsTwice_r37) Q fr st := rfl
def C.catnaplaw9_RegsTwice_c10 : ICode := .keep [0, 1, 2, 13, 14, 16, 17, 18, 133] (.cond (.slot 133) C.catnaplaw9_RegsTwice_c9 .skip)
theorem C.catnaplaw9_RegsTwice_c10_w : awp P C.catnaplaw9_RegsTwice_c10 Q fr st = awp P (.keep [0, 1, 2, 13, 14, 16, 17, 18, 133] (.cond (.slot 133) C.catnaplaw9_RegsTwice_c9 .skip)) Q fr st := rfl
def C.catnaplaw9_RegsTwice_r36_b : List IOper := [
  ⟨some 123, .move (.slot 0), none, [], []⟩,
  ⟨some 124, .move (.slot 17), none, [], []⟩,
  ⟨some 125, .idxAddr 2 (.slot 123) (.slot 124), none, [], []⟩,
  ⟨some 126, .fldAddr 1 (.slot 125), none, [], []⟩,
  ⟨some 127, .load1 (.slot 126), none, [], []⟩,
  ⟨some 128, .move (.slot 127), none, [], []⟩,
  ⟨some 129, .move (.slot 17), some (128, true), [], []⟩,
  ⟨some 130, .move (.slot 1), some (128, true), [], []⟩,
  ⟨some 131, .len (.slot 130), some (128, true), [], []⟩,
  ⟨some 132, .bin .lss (.slot 129) (.slot 131), some (128, true), [], []⟩,
  ⟨some 133, .pick (.slot 128) (.slot 132) (.cst (.bool false)), none, [], []⟩]
def C.catnaplaw9_RegsTwice_r36 : List IOper := C.catnaplaw9_RegsTwice_r36_b
theorem C.catnaplaw9_RegsTwice_r36_w {k : AFr → ASt → Prop} : aops P C.catnaplaw9_RegsTwice_r36 k fr st = aops P C.catnaplaw9_RegsTwice_r36_b k fr st := rfl
def C.catnaplaw9_RegsTwice_c11 : ICode := .keep [0, 1, 2, 13, 14, 16, 17, 18] (.seq (.seq (.region C.catnaplaw9_RegsTwice_r36) C.catnaplaw9_RegsTwice_c10) C.catnaplaw9_RegsTwice_c8)
theorem C.catnaplaw9_RegsTwice_c11_w : awp P C.catnaplaw9_RegsTwice_c11 Q fr st = awp P (.keep [0, 1, 2, 13, 14, 16, 17, 18] (.seq (.seq (.region C.catnaplaw9_RegsTwice_r36) C.catnaplaw9_RegsTwice_c10) C.catnaplaw9_RegsTwice_c8)) Q fr st := rfl
def C.catnaplaw9_RegsTwice_r35_b : List IOper := [
  ⟨some 118, .move (.slot 0), none, [], []⟩,
  ⟨some 119, .move (.slot 17), none, [], []⟩,
  ⟨some 120, .idxAddr 2 (.slot 118) (.slot 119), none, [], []⟩,
  ⟨some 121, .fldAddr 0 (.slot 120), none, [], []⟩,
  ⟨some 122, .load1 (.slot 121), none, [], []⟩,
  ⟨some 18, .move (.slot 122), none, [], []⟩]
def C.catnaplaw9_RegsTwice_r35 : List IOper := C.catnaplaw9_RegsTwice_r35_b
theorem C.catnaplaw9_RegsTwice_r35_w {k : AFr → ASt → Prop} : aops P C.catnaplaw9_RegsTwice_r35 k fr st = aops P C.catnaplaw9_RegsTwice_r35_b k fr st := rfl
def C.catnaplaw9_RegsTwice_b12 : ICode := .seq (.region C.catnaplaw9_RegsTwice_r35) C.catnaplaw9_RegsTwice_c11
theorem C.catnaplaw9_RegsTwice_b12_w : awp P C.catnaplaw9_RegsTwice_b12 Q fr st = awp P (.seq (.region C.catnaplaw9_RegsTwice_r35) C.catnaplaw9_RegsTwice_c11) Q fr st := rfl
def C.catnaplaw9_RegsTwice_c13 : ICode := .keep [0, 1, 2, 13, 14, 16, 17] (.seq (.block 7 C.catnaplaw9_RegsTwice_b12) C.catnaplaw9_RegsTwice_c2)
theorem C.catnaplaw9_RegsTwice_c13_w : awp P C.catnaplaw9_RegsTwice_c13 Q fr st = awp P (.keep [0, 1, 2, 13, 14, 16, 17] (.seq (.block 7 C.catnaplaw9_RegsTwice_b12) C.catnaplaw9_RegsTwice_c2)) Q fr st := rfl
def C.catnaplaw9_RegsTwice_c14 : ICode := .keep [0, 1, 2, 13, 14, 16, 17, 115] (.cond (.slot 115) .skip (.exit 6))
theorem C.catnaplaw9_RegsTwice_c14_w : awp P C.catnaplaw9_RegsTwice_c14 Q fr st = awp P (.keep [0, 1, 2, 13, 14, 16, 17, 115] (.cond (.slot 115) .skip (.exit 6))) Q fr st := rfl
def C.catnaplaw9_RegsTwice_r33_b : List IOper := [
  ⟨some 112, .move (.slot 17), none, [], []⟩,
  ⟨some 113, .move (.slot 0), none, [], []⟩,
  ⟨some 114, .len (.slot 113), none, [], []⟩,
  ⟨some 115, .bin .lss (.slot 112) (.slot 114), none, [], []⟩]
def C.catnaplaw9_RegsTwice_r33 : List IOper := C.catnaplaw9_RegsTwice_r33_b
theorem C.catnaplaw9_RegsTwice_r33_w {k : AFr → ASt → Prop} : aops P C.catnaplaw9_RegsTwice_r33 k fr st = aops P C.catnaplaw9_RegsTwice_r33_b k fr st := rfl
def C.catnaplaw9_RegsTwice_l15 : ICode := .keep [0, 1, 2, 13, 14, 16, 17] (.seq (.seq (.region C.catnaplaw9_RegsTwice_r33) C.catnaplaw9_RegsTwice_c14) C.catnaplaw9_RegsTwice_c13)
theorem C.catnaplaw9_RegsTwice_l15_w : awp P C.catnaplaw9_RegsTwice_l15 Q fr st = awp P (.keep [0, 1, 2, 13, 14, 16, 17] (.seq (.seq (.region C.catnaplaw9_RegsTwice_r33) C.catnaplaw9_RegsTwice_c14) C.catnaplaw9_RegsTwice_c13)) Q fr st := rfl
def C.catnaplaw9_RegsTwice_b16 : ICode := .loop C.catnaplaw9_RegsTwice_l15
theorem C.catnaplaw9_RegsTwice_b16_w : awp P C.catnaplaw9_RegsTwice_b16 Q fr st = awp P (.loop C.catnaplaw9_RegsTwice_l15) Q fr st := rfl
def C.catnaplaw9_RegsTwice_c17 : ICode := .keep [0, 1, 2, 13, 14, 16, 17] (.block 6 C.catnaplaw9_RegsTwice_b16)
theorem C.catnaplaw9_RegsTwice_c17_w : awp P C.catnaplaw9_RegsTwice_c17 Q fr st = awp P (.keep [0, 1, 2, 13, 14, 16, 17] (.block 6 C.catnaplaw9_RegsTwice_b16)) Q fr st := rfl
def C.catnaplaw9_RegsTwice_r32_b : List IOper := [
  ⟨some 17, .move (.cst (.int .i64 0)), none, [], []⟩]
def C.catnaplaw9_RegsTwice_r32 : List IOper := C.catnaplaw9_RegsTwice_r32_b
theorem C.catnaplaw9_RegsTwice_r32_w {k : AFr → ASt → Prop} : aops P C.catnaplaw9_RegsTwice_r32 k fr st = aops P C.catnaplaw9_RegsTwice_r32_b k fr st := rfl
def C.catnaplaw9_RegsTwice_c18 : ICode := .keep [0, 1, 2, 13, 14, 16] (.seq (.seq (.region C.catnaplaw9_RegsTwice_r32) C.catnaplaw9_RegsTwice_c17) C.catnaplaw9_RegsTwice_c1)
theorem C.catnaplaw9_RegsTwice_c18_w : awp P C.catnaplaw9_RegsTwice_c18 Q fr st = awp P (.keep [0, 1, 2, 13, 14, 16] (.seq (.seq (.region C.catnaplaw9_RegsTwice_r32) C.catnaplaw9_RegsTwice_c17) C.catnaplaw9_RegsTwice_c1)) Q fr st := rfl
def C.catnaplaw9_RegsTwice_r31_b : List IOper := [
  ⟨some 6, .move (.cst (.bool false)), none, [], []⟩]
def C.catnaplaw9_RegsTwice_r31 : List IOper := C.catnaplaw9_RegsTwice_r31_b
theorem C.catnaplaw9_RegsTwice_r31_w {k : AFr → ASt → Prop} : aops P C.catnaplaw9_RegsTwice_r31 k fr st = aops P C.catnaplaw9_RegsTwice_r31_b k fr st := rfl
def C.catnaplaw9_RegsTwice_c19 : ICode := .seq (.region C.catnaplaw9_RegsTwice_r31) .ret
theorem C.catnaplaw9_RegsTwice_c19_w : awp P C.catnaplaw9_RegsTwice_c19 Q fr st = awp P (.seq (.region C.catnaplaw9_RegsTwice_r31) .ret) Q fr st := rfl
def C.catnaplaw9_RegsTwice_c20 : ICode := .keep [0, 1, 2, 13, 14, 16, 111] (.cond (.slot 111) C.catnaplaw9_RegsTwice_c19 .skip)
theorem C.catnaplaw9_RegsTwice_c20_w : awp P C.catnaplaw9_RegsTwice_c20 Q fr st = awp P (.keep [0, 1, 2, 13, 14, 16, 111] (.cond (.slot 111) C.catnaplaw9_RegsTwice_c19 .skip)) Q fr st := rfl
def C.catnaplaw9_RegsTwice_r30_b : List IOper := [
  ⟨some 93, .move (.slot 13), none, [], []⟩,
  ⟨some 94, .len (.slot 93), none, [], []⟩,
  ⟨some 95, .move (.slot 0), none, [], []⟩,
  ⟨some 96, .len (.slot 95), none, [], []⟩,
  ⟨some 97, .bin .neq (.slot 94) (.slot 96), none, [], []⟩,
  ⟨some 98, .move (.slot 97), none, [], []⟩,
  ⟨some 99, .move (.slot 14), some (98, false), [], []⟩,
  ⟨some 100, .len (.slot 99), some (98, false), [], []⟩,
  ⟨some 101, .move (.slot 0), some (98, false), [], []⟩,
  ⟨some 102, .len (.slot 101), some (98, false), [], []⟩,
  ⟨some 103, .bin .neq (.slot 100) (.slot 102), some (98, false), [], []⟩,
  ⟨some 104, .pick (.slot 98) (.cst (.bool true)) (.slot 103), none, [], []⟩,
  ⟨some 105, .move (.slot 104), none, [], []⟩,
  ⟨some 106, .move (.slot 16), some (105, false), [], []⟩,
  ⟨some 107, .len (.slot 106), some (105, false), [], []⟩,
  ⟨some 108, .move (.slot 0), some (105, false), [], []⟩,
  ⟨some 109, .len (.slot 108), some (105, false), [], []⟩,
  ⟨some 110, .bin .neq (.slot 107) (.slot 109), some (105, false), [], []⟩,
  ⟨some 111, .pick (.slot 105) (.cst (.bool true)) (.slot 110), none, [], []⟩]
def C.catnaplaw9_RegsTwice_r30 : List IOper := C.catnaplaw9_RegsTwice_r30_b
theorem C.catnaplaw9_RegsTwice_r30_w {k : AFr → ASt → Prop} : aops P C.catnaplaw9_RegsTwice_r30 k fr st = aops P C.catnaplaw9_RegsTwice_r30_b k fr st := rfl
def C.catnaplaw9_RegsTwice_c21 : ICode := .keep [0, 1, 2, 13, 14, 16] (.seq (.seq (.region C.catnaplaw9_RegsTwice_r30) C.catnaplaw9_RegsTwice_c20) C.catnaplaw9_RegsTwice_c18)
theorem C.catnaplaw9_RegsTwice_c21_w : awp P C.catnaplaw9_RegsTwice_c21 Q fr st = awp P (.keep [0, 1, 2, 13, 14, 16] (.seq (.seq (.region C.catnaplaw9_RegsTwice_r30) C.catnaplaw9_RegsTwice_c20) C.catnaplaw9_RegsTwice_c18)) Q fr st := rfl
def C.catnaplaw9_RegsTwice_r29_b : List IOper := [
  ⟨some 91, .move (.slot 8), none, [], []⟩,
  ⟨some 92, .call F.catnaplaw9_all [.slot 91], none, [], []⟩,
  ⟨some 16, .move (.slot 92), none, [], []⟩]
def C.catnaplaw9_RegsTwice_r29 : List IOper := C.catnaplaw9_RegsTwice_r29_b
theorem C.catnaplaw9_RegsTwice_r29_w {k : AFr → ASt → Prop} : aops P C.catnaplaw9_RegsTwice_r29 k fr st = aops P C.catnaplaw9_RegsTwice_r29_b k fr st := rfl
def C.catnaplaw9_RegsTwice_c22 : ICode := .keep [0, 1, 2, 8, 13, 14] (.seq (.region C.catnaplaw9_RegsTwice_r29) C.catnaplaw9_RegsTwice_c21)
theorem C.catnaplaw9_RegsTwice_c22_w : awp P C.catnaplaw9_RegsTwice_c22 Q fr st = awp P (.keep [0, 1, 2, 8, 13, 14] (.seq (.region C.catnaplaw9_RegsTwice_r29) C.catnaplaw9_RegsTwice_c21)) Q fr st := rfl
def C.catnaplaw9_RegsTwice_r28_b : List IOper := [
  ⟨some 89, .move (.slot 8), none, [], []⟩,
  ⟨some 90, .call F.regs_File_Restore [.slot 89], none, [], []⟩]
def C.catnaplaw9_RegsTwice_r28 : List IOper := C.catnaplaw9_RegsTwice_r28_b
theorem C.catnaplaw9_RegsTwice_r28_w {k : AFr → ASt → Prop} : aops P C.catnaplaw9_RegsTwice_r28 k fr st = aops P C.catnaplaw9_RegsTwice_r28_b k fr st := rfl
def C.catnaplaw9_RegsTwice_c23 : ICode := .keep [0, 1, 2, 8, 13, 14] (.seq (.region C.catnaplaw9_RegsTwice_r28) C.catnaplaw9_RegsTwice_c22)
theorem C.catnaplaw9_RegsTwice_c23_w : awp P C.catnaplaw9_RegsTwice_c23 Q fr st = awp P (.keep [0, 1, 2, 8, 13, 14] (.seq (.region C.catnaplaw9_RegsTwice_r28) C.catnaplaw9_RegsTwice_c22)) Q fr st := rfl
def C.catnaplaw9_RegsTwice_r26_b : List IOper := [
  ⟨some 84, .move (.slot 15), none, [], []⟩,
  ⟨some 85, .bin .add (.slot 84) (.cst (.int .i64 1)), none, [], []⟩,
  ⟨some 15, .move (.slot 85), none, [], []⟩]
def C.catnaplaw9_RegsTwice_r26 : List IOper := C.catnaplaw9_RegsTwice_r26_b
theorem C.catnaplaw9_RegsTwice_r26_w {k : AFr → ASt → Prop} : aops P C.catnaplaw9_RegsTwice_r26 k fr st = aops P C.catnaplaw9_RegsTwice_r26_b k fr st := rfl
def C.catnaplaw9_RegsTwice_c24 : ICode := .keep [0, 1, 2, 8, 13, 14, 15] (.region C.catnaplaw9_RegsTwice_r26)
theorem C.catnaplaw9_RegsTwice_c24_w : awp P C.catnaplaw9_RegsTwice_c24 Q fr st = awp P (.keep [0, 1, 2, 8, 13, 14, 15] (.region C.catnaplaw9_RegsTwice_r26)) Q fr st := rfl
def C.catnaplaw9_RegsTwice_r27_b : List IOper := [
  ⟨some 86, .move (.slot 8), none, [], []⟩,
  ⟨some 87, .move (.slot 15), none, [], []⟩,
  ⟨some 88, .call F.regs_File_Write [.slot 86, .slot 87, .cst (.int .u32 12345)], none, [], []⟩]
def C.catnaplaw9_RegsTwice_r27 : List IOper := C.catnaplaw9_RegsTwice_r27_b
theorem C.catnaplaw9_RegsTwice_r27_w {k : AFr → ASt → Prop} : aops P C.catnaplaw9_RegsTwice_r27 k fr st = aops P C.catnaplaw9_RegsTwice_r27_b k fr st := rfl
def C.catnaplaw9_RegsTwice_b25 : ICode := .region C.catnaplaw9_RegsTwice_r27
theorem C.catnaplaw9_RegsTwice_b25_w : awp P C.catnaplaw9_RegsTwice_b25 Q fr st = awp P (.region C.catnaplaw9_RegsTwice_r27) Q fr st := rfl
def C.catnaplaw9_RegsTwice_c26 : ICode := .keep [0, 1, 2, 8, 13, 14, 15] (.seq (.block 5 C.catnaplaw9_RegsTwice_b25) C.catnaplaw9_RegsTwice_c24)
theorem C.catnaplaw9_RegsTwice_c26_w : awp P C.catnaplaw9_RegsTwice_c26 Q fr st = awp P (.keep [0, 1, 2, 8, 13, 14, 15] (.seq (.block 5 C.catnaplaw9_RegsTwice_b25) C.catnaplaw9_RegsTwice_c24)) Q fr st := rfl
def C.catnaplaw9_RegsTwice_c27 : ICode := .keep [0, 1, 2, 8, 13, 14, 15, 83] (.cond (.slot 83) .skip (.exit 4))
theorem C.catnaplaw9_RegsTwice_c27_w : awp P C.catnaplaw9_RegsTwice_c27 Q fr st = awp P (.keep [0, 1, 2, 8, 13, 14, 15, 83] (.cond (.slot 83) .skip (.exit 4))) Q fr st := rfl
def C.catnaplaw9_RegsTwice_r25_b : List IOper := [
  ⟨some 80, .move (.slot 15), none, [], []⟩,
  ⟨some 81, .move (.slot 0), none, [], []⟩,
  ⟨some 82, .len (.slot 81), none, [], []⟩,
  ⟨some 83, .bin .lss (.slot 80) (.slot 82), none, [], []⟩]
def C.catnaplaw9_RegsTwice_r25 : List IOper := C.catnaplaw9_RegsTwice_r25_b
theorem C.catnaplaw9_RegsTwice_r25_w {k : AFr → ASt → Prop} : aops P C.catnaplaw9_RegsTwice_r25 k fr st = aops P C.catnaplaw9_RegsTwice_r25_b k fr st := rfl
def C.catnaplaw9_RegsTwice_l28 : ICode := .keep [0, 1, 2, 8, 13, 14, 15] (.seq (.seq (.region C.catnaplaw9_RegsTwice_r25) C.catnaplaw9_RegsTwice_c27) C.catnaplaw9_RegsTwice_c26)
theorem C.catnaplaw9_RegsTwice_l28_w : awp P C.catnaplaw9_RegsTwice_l28 Q fr st = awp P (.keep [0, 1, 2, 8, 13, 14, 15] (.seq (.seq (.region C.catnaplaw9_RegsTwice_r25) C.catnaplaw9_RegsTwice_c27) C.catnaplaw9_RegsTwice_c26)) Q fr st := rfl
def C.catnaplaw9_RegsTwice_b29 : ICode := .loop C.catnaplaw9_RegsTwice_l28
theorem C.catnaplaw9_RegsTwice_b29_w : awp P C.catnaplaw9_RegsTwice_b29 Q fr st = awp P (.loop C.catnaplaw9_RegsTwice_l28) Q fr st := rfl
def C.catnaplaw9_RegsTwice_c30 : ICode := .keep [0, 1, 2, 8, 13, 14, 15] (.block 4 C.catnaplaw9_RegsTwice_b29)
theorem C.catnaplaw9_RegsTwice_c30_w : awp P C.catnaplaw9_RegsTwice_c30 Q fr st = awp P (.keep [0, 1, 2, 8, 13, 14, 15] (.block 4 C.catnaplaw9_RegsTwice_b29)) Q fr st := rfl
def C.catnaplaw9_RegsTwice_r24_b : List IOper := [
  ⟨some 15, .move (.cst (.int .i64 0)), none, [], []⟩]
def C.catnaplaw9_RegsTwice_r24 : List IOper := C.catnaplaw9_RegsTwice_r24_b
theorem C.catnaplaw9_RegsTwice_r24_w {k : AFr → ASt → Prop} : aops P C.catnaplaw9_RegsTwice_r24 k fr st = aops P C.catnaplaw9_RegsTwice_r24_b k fr st := rfl
def C.catnaplaw9_RegsTwice_c31 : ICode := .keep [0, 1, 2, 8, 13, 14] (.seq (.seq (.region C.catnaplaw9_RegsTwice_r24) C.catnaplaw9_RegsTwice_c30) C.catnaplaw9_RegsTwice_c23)
theorem C.catnaplaw9_RegsTwice_c31_w : awp P C.catnaplaw9_RegsTwice_c31 Q fr st = awp P (.keep [0, 1, 2, 8, 13, 14] (.seq (.seq (.region C.catnaplaw9_RegsTwice_r24) C.catnaplaw9_RegsTwice_c30) C.catnaplaw9_RegsTwice_c23)) Q fr st := rfl
def C.catnaplaw9_RegsTwice_r23_b : List IOper := [
  ⟨some 78, .move (.slot 8), none, [], []⟩,
  ⟨some 79, .call F.regs_File_Save [.slot 78], none, [], []⟩]
def C.catnaplaw9_RegsTwice_r23 : List IOper := C.catnaplaw9_RegsTwice_r23_b
theorem C.catnaplaw9_RegsTwice_r23_w {k : AFr → ASt → Prop} : aops P C.catnaplaw9_RegsTwice_r23 k fr st = aops P C.catnaplaw9_RegsTwice_r23_b k fr st := rfl
def C.catnaplaw9_RegsTwice_c32 : ICode := .keep [0, 1, 2, 8, 13, 14] (.seq (.region C.catnaplaw9_RegsTwice_r23) C.catnaplaw9_RegsTwice_c31)
theorem C.catnaplaw9_RegsTwice_c32_w : awp P C.catnaplaw9_RegsTwice_c32 Q fr st = awp P (.keep [0, 1, 2, 8, 13, 14] (.seq (.region C.catnaplaw9_RegsTwice_r23) C.catnaplaw9_RegsTwice_c31)) Q fr st := rfl
def C.catnaplaw9_RegsTwice_r22_b : List IOper := [
  ⟨some 76, .move (.slot 8), none, [], []⟩,
  ⟨some 77, .call F.regs_File_Clear [.slot 76], none, [], []⟩]
def C.catnaplaw9_RegsTwice_r22 : List IOper := C.catnaplaw9_RegsTwice_r22_b
theorem C.catnaplaw9_RegsTwice_r22_w {k : AFr → ASt → Prop} : aops P C.catnaplaw9_RegsTwice_r22 k fr st = aops P C.catnaplaw9_RegsTwice_r22_b k fr st := rfl
def C.catnaplaw9_RegsTwice_c33 : ICode := .keep [0, 1, 2, 8, 13, 14] (.seq (.region C.catnaplaw9_RegsTwice_r22) C.catnaplaw9_RegsTwice_c32)
theorem C.catnaplaw9_RegsTwice_c33_w : awp P C.catnaplaw9_RegsTwice_c33 Q fr st = awp P (.keep [0, 1, 2, 8, 13, 14] (.seq (.region C.catnaplaw9_RegsTwice_r22) C.catnaplaw9_RegsTwice_c32)) Q fr st := rfl
def C.catnaplaw9_RegsTwice_r21_b : List IOper := [
  ⟨some 74, .move (.slot 8), none, [], []⟩,
  ⟨some 75, .call F.catnaplaw9_all [.slot 74], none, [], []⟩,
  ⟨some 14, .move (.slot 75), none, [], []⟩]
def C.catnaplaw9_RegsTwice_r21 : List IOper := C.catnaplaw9_RegsTwice_r21_b
theorem C.catnaplaw9_RegsTwice_r21_w {k : AFr → ASt → Prop} : aops P C.catnaplaw9_RegsTwice_r21 k fr st = aops P C.catnaplaw9_RegsTwice_r21_b k fr st := rfl
def C.catnaplaw9_RegsTwice_c34 : ICode := .keep [0, 1, 2, 8, 13] (.seq (.region C.catnaplaw9_RegsTwice_r21) C.catnaplaw9_RegsTwice_c33)
theorem C.catnaplaw9_RegsTwice_c34_w : awp P C.catnaplaw9_RegsTwice_c34 Q fr st = awp P (.keep [0, 1, 2, 8, 13] (.seq (.region C.catnaplaw9_RegsTwice_r21) C.catnaplaw9_RegsTwice_c33)) Q fr st := rfl
def C.catnaplaw9_RegsTwice_r20_b : List IOper := [
  ⟨some 72, .move (.slot 8), none, [], []⟩,
  ⟨some 73, .call F.regs_File_Restore [.slot 72], none, [], []⟩]
def C.catnaplaw9_RegsTwice_r20 : List IOper := C.catnaplaw9_RegsTwice_r20_b
theorem C.catnaplaw9_RegsTwice_r20_w {k : AFr → ASt → Prop} : aops P C.catnaplaw9_RegsTwice_r20 k fr st = aops P C.catnaplaw9_RegsTwice_r20_b k fr st := rfl
def C.catnaplaw9_RegsTwice_c35 : ICode := .keep [0, 1, 2, 8, 13] (.seq (.region C.catnaplaw9_RegsTwice_r20) C.catnaplaw9_RegsTwice_c34)
theorem C.catnaplaw9_RegsTwice_c35_w : awp P C.catnaplaw9_RegsTwice_c35 Q fr st = awp P (.keep [0, 1, 2, 8, 13] (.seq (.region C.catnaplaw9_RegsTwice_r20) C.catnaplaw9_RegsTwice_c34)) Q fr st := rfl
def C.catnaplaw9_RegsTwice_r19_b : List IOper := [
  ⟨some 70, .move (.slot 8), none, [], []⟩,
  ⟨some 71, .call F.catnaplaw9_all [.slot 70], none, [], []⟩,
  ⟨some 13, .move (.slot 71), none, [], []⟩]
def C.catnaplaw9_RegsTwice_r19 : List IOper := C.catnaplaw9_RegsTwice_r19_b
theorem C.catnaplaw9_RegsTwice_r19_w {k : AFr → ASt → Prop} : aops P C.catnaplaw9_RegsTwice_r19 k fr st = aops P C.catnaplaw9_RegsTwice_r19_b k fr st := rfl
def C.catnaplaw9_RegsTwice_c36 : ICode := .keep [0, 1, 2, 8] (.seq (.region C.catnaplaw9_RegsTwice_r19) C.catnaplaw9_RegsTwice_c35)
theorem C.catnaplaw9_RegsTwice_c36_w : awp P C.catnaplaw9_RegsTwice_c36 Q fr st = awp P (.keep [0, 1, 2, 8] (.seq (.region C.catnaplaw9_RegsTwice_r19) C.catnaplaw9_RegsTwice_c35)) Q fr st := rfl
def C.catnaplaw9_RegsTwice_r18_b : List IOper := [
  ⟨some 68, .move (.slot 8), none, [], []⟩,
  ⟨some 69, .call F.regs_File_Restore [.slot 68], none, [], []⟩]
def C.catnaplaw9_RegsTwice_r18 : List IOper := C.catnaplaw9_RegsTwice_r18_b
theorem C.catnaplaw9_RegsTwice_r18_w {k : AFr → ASt → Prop} : aops P C.catnaplaw9_RegsTwice_r18 k fr st = aops P C.catnaplaw9_RegsTwice_r18_b k fr st := rfl
def C.catnaplaw9_RegsTwice_c37 : ICode := .keep [0, 1, 2, 8] (.seq (.region C.catnaplaw9_RegsTwice_r18) C.catnaplaw9_RegsTwice_c36)
theorem C.catnaplaw9_RegsTwice_c37_w : awp P C.catnaplaw9_RegsTwice_c37 Q fr st = awp P (.keep [0, 1, 2, 8] (.seq (.region C.catnaplaw9_RegsTwice_r18) C.catnaplaw9_RegsTwice_c36)) Q fr st := rfl
def C.catnaplaw9_RegsTwice_r9_b : List IOper := [
  ⟨some 41, .move (.slot 10), none, [], []⟩,
  ⟨some 42, .bin .add (.slot 41) (.cst (.int .i64 1)), none, [], []⟩,
  ⟨some 10, .move (.slot 42), none, [], []⟩]
def C.catnaplaw9_RegsTwice_r9 : List IOper := C.catnaplaw9_RegsTwice_r9_b
theorem C.catnaplaw9_RegsTwice_r9_w {k : AFr → ASt → Prop} : aops P C.catnaplaw9_RegsTwice_r9 k fr st = aops P C.catnaplaw9_RegsTwice_r9_b k fr st := rfl
def C.catnaplaw9_RegsTwice_c38 : ICode := .keep [0, 1, 2, 8, 10] (.region C.catnaplaw9_RegsTwice_r9)
theorem C.catnaplaw9_RegsTwice_c38_w : awp P C.catnaplaw9_RegsTwice_c38 Q fr st = awp P (.keep [0, 1, 2, 8, 10] (.region C.catnaplaw9_RegsTwice_r9)) Q fr st := rfl
def C.catnaplaw9_RegsTwice_r17_b : List IOper := [
  ⟨some 66, .move (.slot 8), none, [], []⟩,
  ⟨some 67, .call F.regs_File_Save [.slot 66], none, [], []⟩]
def C.catnaplaw9_RegsTwice_r17 : List IOper := C.catnaplaw9_RegsTwice_r17_b
theorem C.catnaplaw9_RegsTwice_r17_w {k : AFr → ASt → Prop} : aops P C.catnaplaw9_RegsTwice_r17 k fr st = aops P C.catnaplaw9_RegsTwice_r17_b k fr st := rfl
def C.catnaplaw9_RegsTwice_c39 : ICode := .keep [0, 1, 2, 8, 10] (.region C.catnaplaw9_RegsTwice_r17)
theorem C.catnaplaw9_RegsTwice_c39_w : awp P C.catnaplaw9_RegsTwice_c39 Q fr st = awp P (.keep [0, 1, 2, 8, 10] (.region C.catnaplaw9_RegsTwice_r17)) Q fr st := rfl
def C.catnaplaw9_RegsTwice_r15_b : List IOper := [
  ⟨some 57, .move (.slot 12), none, [], []⟩,
  ⟨some 58, .bin .add (.slot 57) (.cst (.int .i64 1)), none, [], []⟩,
  ⟨some 12, .move (.slot 58), none, [], []⟩]
def C.catnaplaw9_RegsTwice_r15 : List IOper := C.catnaplaw9_RegsTwice_r15_b
theorem C.catnaplaw9_RegsTwice_r15_w {k : AFr → ASt → Prop} : aops P C.catnaplaw9_RegsTwice_r15 k fr st = aops P C.catnaplaw9_RegsTwice_r15_b k fr st := rfl
def C.catnaplaw9_RegsTwice_c40 : ICode := .keep [0, 1, 2, 8, 10, 11, 12] (.region C.catnaplaw9_RegsTwice_r15)
theorem C.catnaplaw9_RegsTwice_c40_w : awp P C.catnaplaw9_RegsTwice_c40 Q fr st = awp P (.keep [0, 1, 2, 8, 10, 11, 12] (.region C.catnaplaw9_RegsTwice_r15)) Q fr st := rfl
def C.catnaplaw9_RegsTwice_r16_b : List IOper := [
  ⟨some 59, .move (.slot 8), none, [], []⟩,
  ⟨some 60, .move (.slot 12), none, [], []⟩,
  ⟨some 61, .move (.slot 11), none, [], []⟩,
  ⟨some 62, .move (.slot 12), none, [], []⟩,
  ⟨some 63, .idxAddr 1 (.slot 61) (.slot 62), none, [], []⟩,
  ⟨some 64, .load1 (.slot 63), none, [], []⟩,
  ⟨some 65, .call F.regs_File_Write [.slot 59, .slot 60, .slot 64], none, [], []⟩]
def C.catnaplaw9_RegsTwice_r16 : List IOper := C.catnaplaw9_RegsTwice_r16_b
theorem C.catnaplaw9_RegsTwice_r16_w {k : AFr → ASt → Prop} : aops P C.catnaplaw9_RegsTwice_r16 k fr st = aops P C.catnaplaw9_RegsTwice_r16_b k fr st := rfl
def C.catnaplaw9_RegsTwice_b41 : ICode := .region C.catnaplaw9_RegsTwice_r16
theorem C.catnaplaw9_RegsTwice_b41_w : awp P C.catnaplaw9_RegsTwice_b41 Q fr st = awp P (.region C.catnaplaw9_RegsTwice_r16) Q fr st := rfl
def C.catnaplaw9_RegsTwice_c42 : ICode := .keep [0, 1, 2, 8, 10, 11, 12] (.seq (.block 3 C.catnaplaw9_RegsTwice_b41) C.catnaplaw9_RegsTwice_c40)
theorem C.catnaplaw9_RegsTwice_c42_w : awp P C.catnaplaw9_RegsTwice_c42 Q fr st = awp P (.keep [0, 1, 2, 8, 10, 11, 12] (.seq (.block 3 C.catnaplaw9_RegsTwice_b41) C.catnaplaw9_RegsTwice_c40)) Q fr st := rfl
def C.catnaplaw9_RegsTwice_c43 : ICode := .keep [0, 1, 2, 8, 10, 11, 12, 56] (.cond (.slot 56) .skip (.exit 2))
theorem C.catnaplaw9_RegsTwice_c43_w : awp P C.catnaplaw9_RegsTwice_c43 Q fr st = awp P (.keep [0, 1, 2, 8, 10, 11, 12, 56] (.cond (.slot 56) .skip (.exit 2))) Q fr st := rfl
def C.catnaplaw9_RegsTwice_r14_b : List IOper := [
  ⟨some 47, .move (.slot 12), none, [], []⟩,
  ⟨some 48, .move (.slot 0), none, [], []⟩,
  ⟨some 49, .len (.slot 48), none, [], []⟩,
  ⟨some 50, .bin .lss (.slot 47) (.slot 49), none, [], []⟩,
  ⟨some 51, .move (.slot 50), none, [], []⟩,
  ⟨some 52, .move (.slot 12), some (51, true), [], []⟩,
  ⟨some 53, .move (.slot 11), some (51, true), [], []⟩,
  ⟨some 54, .len (.slot 53), some (51, true), [], []⟩,
  ⟨some 55, .bin .lss (.slot 52) (.slot 54), some (51, true), [], []⟩,
  ⟨some 56, .pick (.slot 51) (.slot 55) (.cst (.bool false)), none, [], []⟩]
def C.catnaplaw9_RegsTwice_r14 : List IOper := C.catnaplaw9_RegsTwice_r14_b
theorem C.catnaplaw9_RegsTwice_r14_w {k : AFr → ASt → Prop} : aops P C.catnaplaw9_RegsTwice_r14 k fr st = aops P C.catnaplaw9_RegsTwice_r14_b k fr st := rfl
def C.catnaplaw9_RegsTwice_l44 : ICode := .keep [0, 1, 2, 8, 10, 11, 12] (.seq (.seq (.region C.catnaplaw9_RegsTwice_r14) C.catnaplaw9_RegsTwice_c43) C.catnaplaw9_RegsTwice_c42)
theorem C.catnaplaw9_RegsTwice_l44_w : awp P C.catnaplaw9_RegsTwice_l44 Q fr st = awp P (.keep [0, 1, 2, 8, 10, 11, 12] (.seq (.seq (.region C.catnaplaw9_RegsTwice_r14) C.catnaplaw9_RegsTwice_c43) C.catnaplaw9_RegsTwice_c42)) Q fr st := rfl
def C.catnaplaw9_RegsTwice_b45 : ICode := .loop C.catnaplaw9_RegsTwice_l44
theorem C.catnaplaw9_RegsTwice_b45_w : awp P C.catnaplaw9_RegsTwice_b45 Q fr st = awp P (.loop C.catnaplaw9_RegsTwice_l44) Q fr st := rfl
def C.catnaplaw9_RegsTwice_c46 : ICode := .keep [0, 1, 2, 8, 10, 11, 12] (.block 2 C.catnaplaw9_RegsTwice_b45)
theorem C.catnaplaw9_RegsTwice_c46_w : awp P C.catnaplaw9_RegsTwice_c46 Q fr st = awp P (.keep [0, 1, 2, 8, 10, 11, 12] (.block 2 C.catnaplaw9_RegsTwice_b45)) Q fr st := rfl
def C.catnaplaw9_RegsTwice_r13_b : List IOper := [
  ⟨some 12, .move (.cst (.int .i64 0)), none, [], []⟩]
def C.catnaplaw9_RegsTwice_r13 : List IOper := C.catnaplaw9_RegsTwice_r13_b
theorem C.catnaplaw9_RegsTwice_r13_w {k : AFr → ASt → Prop} : aops P C.catnaplaw9_RegsTwice_r13 k fr st = aops P C.catnaplaw9_RegsTwice_r13_b k fr st := rfl
def C.catnaplaw9_RegsTwice_c47 : ICode := .keep [0, 1, 2, 8, 10, 11] (.seq (.seq (.region C.catnaplaw9_RegsTwice_r13) C.catnaplaw9_RegsTwice_c46) C.catnaplaw9_RegsTwice_c39)
theorem C.catnaplaw9_RegsTwice_c47_w : awp P C.catnaplaw9_RegsTwice_c47 Q fr st = awp P (.keep [0, 1, 2, 8, 10, 11] (.seq (.seq (.region C.catnaplaw9_RegsTwice_r13) C.catnaplaw9_RegsTwice_c46) C.catnaplaw9_RegsTwice_c39)) Q fr st := rfl
def C.catnaplaw9_RegsTwice_r12_b : List IOper := [
  ⟨some 46, .move (.slot 2), none, [], []⟩,
  ⟨some 11, .move (.slot 46), none, [], []⟩]
def C.catnaplaw9_RegsTwice_r12 : List IOper := C.catnaplaw9_RegsTwice_r12_b
theorem C.catnaplaw9_RegsTwice_r12_w {k : AFr → ASt → Prop} : aops P C.catnaplaw9_RegsTwice_r12 k fr st = aops P C.catnaplaw9_RegsTwice_r12_b k fr st := rfl
def C.catnaplaw9_RegsTwice_c48 : ICode := .region C.catnaplaw9_RegsTwice_r12
theorem C.catnaplaw9_RegsTwice_c48_w : awp P C.catnaplaw9_RegsTwice_c48 Q fr st = awp P (.region C.catnaplaw9_RegsTwice_r12) Q fr st := rfl
def C.catnaplaw9_RegsTwice_c49 : ICode := .keep [0, 1, 2, 8, 10, 11, 45] (.cond (.slot 45) C.catnaplaw9_RegsTwice_c48 .skip)
theorem C.catnaplaw9_RegsTwice_c49_w : awp P C.catnaplaw9_RegsTwice_c49 Q fr st = awp P (.keep [0, 1, 2, 8, 10, 11, 45] (.cond (.slot 45) C.catnaplaw9_RegsTwice_c48 .skip)) Q fr st := rfl
def C.catnaplaw9_RegsTwice_r11_b : List IOper := [
  ⟨some 44, .move (.slot 10), none, [], []⟩,
  ⟨some 45, .bin .eql (.slot 44) (.cst (.int .i64 1)), none, [], []⟩]
def C.catnaplaw9_RegsTwice_r11 : List IOper := C.catnaplaw9_RegsTwice_r11_b
theorem C.catnaplaw9_RegsTwice_r11_w {k : AFr → ASt → Prop} : aops P C.catnaplaw9_RegsTwice_r11 k fr st = aops P C.catnaplaw9_RegsTwice_r11_b k fr st := rfl
def C.catnaplaw9_RegsTwice_c50 : ICode := .keep [0, 1, 2, 8, 10, 11] (.seq (.seq (.region C.catnaplaw9_RegsTwice_r11) C.catnaplaw9_RegsTwice_c49) C.catnaplaw9_RegsTwice_c47)
theorem C.catnaplaw9_RegsTwice_c50_w : awp P C.catnaplaw9_RegsTwice_c50 Q fr st = awp P (.keep [0, 1, 2, 8, 10, 11] (.seq (.seq (.region C.catnaplaw9_RegsTwice_r11) C.catnaplaw9_RegsTwice_c49) C.catnaplaw9_RegsTwice_c47)) Q fr st := rfl
def C.catnaplaw9_RegsTwice_r10_b : List IOper := [
  ⟨some 43, .move (.slot 1), none, [], []⟩,
  ⟨some 11, .move (.slot 43), none, [], []⟩]
def C.catnaplaw9_RegsTwice_r10 : List IOper := C.catnaplaw9_RegsTwice_r10_b
theorem C.catnaplaw9_RegsTwice_r10_w {k : AFr → ASt → Prop} : aops P C.catnaplaw9_RegsTwice_r10 k fr st = aops P C.catnaplaw9_RegsTwice_r10_b k fr st := rfl
def C.catnaplaw9_RegsTwice_b51 : ICode := .seq (.region C.catnaplaw9_RegsTwice_r10) C.catnaplaw9_RegsTwice_c50
theorem C.catnaplaw9_RegsTwice_b51_w : awp P C.catnaplaw9_RegsTwice_b51 Q fr st = awp P (.seq (.region C.catnaplaw9_RegsTwice_r10) C.catnaplaw9_RegsTwice_c50) Q fr st := rfl
def C.catnaplaw9_RegsTwice_c52 : ICode := .keep [0, 1, 2, 8, 10] (.seq (.block 1 C.catnaplaw9_RegsTwice_b51) C.catnaplaw9_RegsTwice_c38)
theorem C.catnaplaw9_RegsTwice_c52_w : awp P C.catnaplaw9_RegsTwice_c52 Q fr st = awp P (.keep [0, 1, 2, 8, 10] (.seq (.block 1 C.catnaplaw9_RegsTwice_b51) C.catnaplaw9_RegsTwice_c38)) Q fr st := rfl
def C.catnaplaw9_RegsTwice_c53 : ICode := .keep [0, 1, 2, 8, 10, 40] (.cond (.slot 40) .skip (.exit 0))
theorem C.catnaplaw9_RegsTwice_c53_w : awp P C.catnaplaw9_RegsTwice_c53 Q fr st = awp P (.keep [0, 1, 2, 8, 10, 40] (.cond (.slot 40) .skip (.exit 0))) Q fr st := rfl
def C.catnaplaw9_RegsTwice_r8_b : List IOper := [
  ⟨some 39, .move (.slot 10), none, [], []⟩,
  ⟨some 40, .bin .lss (.slot 39) (.cst (.int .i64 2)), none, [], []⟩]
def C.catnaplaw9_RegsTwice_r8 : List IOper := C.catnaplaw9_RegsTwice_r8_b
theorem C.catnaplaw9_RegsTwice_r8_w {k : AFr → ASt → Prop} : aops P C.catnaplaw9_RegsTwice_r8 k fr st = aops P C.catnaplaw9_RegsTwice_r8_b k fr st := rfl
def C.catnaplaw9_RegsTwice_l54 : ICode := .keep [0, 1, 2, 8, 10] (.seq (.seq (.region C.catnaplaw9_RegsTwice_r8) C.catnaplaw9_RegsTwice_c53) C.catnaplaw9_RegsTwice_c52)
theorem C.catnaplaw9_RegsTwice_l54_w : awp P C.catnaplaw9_RegsTwice_l54 Q fr st = awp P (.keep [0, 1, 2, 8, 10] (.seq (.seq (.region C.catnaplaw9_RegsTwice_r8) C.catnaplaw9_RegsTwice_c53) C.catnaplaw9_RegsTwice_c52)) Q fr st := rfl
def C.catnaplaw9_RegsTwice_b55 : ICode := .loop C.catnaplaw9_RegsTwice_l54
theorem C.catnaplaw9_RegsTwice_b55_w : awp P C.catnaplaw9_RegsTwice_b55 Q fr st = awp P (.loop C.catnaplaw9_RegsTwice_l54) Q fr st := rfl
def C.catnaplaw9_RegsTwice_c56 : ICode := .keep [0, 1, 2, 8, 10] (.block 0 C.catnaplaw9_RegsTwice_b55)
theorem C.catnaplaw9_RegsTwice_c56_w : awp P C.catnaplaw9_RegsTwice_c56 Q fr st = awp P (.keep [0, 1, 2, 8, 10] (.block 0 C.catnaplaw9_RegsTwice_b55)) Q fr st := rfl
def C.catnaplaw9_RegsTwice_r7_b : List IOper := [
  ⟨some 10, .move (.cst (.int .i64 0)), none, [], []⟩]
def C.catnaplaw9_RegsTwice_r7 : List IOper := C.catnaplaw9_RegsTwice_r7_b
theorem C.catnaplaw9_RegsTwice_r7_w {k : AFr → ASt → Prop} : aops P C.catnaplaw9_RegsTwice_r7 k fr st = aops P C.catnaplaw9_RegsTwice_r7_b k fr st := rfl
def C.catnaplaw9_RegsTwice_c57 : ICode := .keep [0, 1, 2, 8] (.seq (.seq (.region C.catnaplaw9_RegsTwice_r7) C.catnaplaw9_RegsTwice_c56) C.catnaplaw9_RegsTwice_c37)
theorem C.catnaplaw9_RegsTwice_c57_w : awp P C.catnaplaw9_RegsTwice_c57 Q fr st = awp P (.keep [0, 1, 2, 8] (.seq (.seq (.region C.catnaplaw9_RegsTwice_r7) C.catnaplaw9_RegsTwice_c56) C.catnaplaw9_RegsTwice_c37)) Q fr st := rfl
def C.catnaplaw9_RegsTwice_r6_b : List IOper := [
  ⟨some 6, .move (.cst (.bool false)), none, [], []⟩]
def C.catnaplaw9_RegsTwice_r6 : List IOper := C.catnaplaw9_RegsTwice_r6_b
theorem C.catnaplaw9_RegsTwice_r6_w {k : AFr → ASt → Prop} : aops P C.catnaplaw9_RegsTwice_r6 k fr st = aops P C.catnaplaw9_RegsTwice_r6_b k fr st := rfl
def C.catnaplaw9_RegsTwice_c58 : ICode := .seq (.region C.catnaplaw9_RegsTwice_r6) .ret
theorem C.catnaplaw9_RegsTwice_c58_w : awp P C.catnaplaw9_RegsTwice_c58 Q fr st = awp P (.seq (.region C.catnaplaw9_RegsTwice_r6) .ret) Q fr st := rfl
def C.catnaplaw9_RegsTwice_c59 : ICode := .keep [0, 1, 2, 8, 38] (.cond (.slot 38) C.catnaplaw9_RegsTwice_c58 .skip)
theorem C.catnaplaw9_RegsTwice_c59_w : awp P C.catnaplaw9_RegsTwice_c59 Q fr st = awp P (.keep [0, 1, 2, 8, 38] (.cond (.slot 38) C.catnaplaw9_RegsTwice_c58 .skip)) Q fr st := rfl
def C.catnaplaw9_RegsTwice_r5_b : List IOper := [
  ⟨some 33, .move (.slot 8), none, [], []⟩,
  ⟨some 34, .eqP 0 false (.slot 33) (.cst (.nilp)), none, [], []⟩,
  ⟨some 35, .move (.slot 34), none, [], []⟩,
  ⟨some 36, .move (.slot 9), some (35, false), [], []⟩,
  ⟨some 37, .bin .neq (.slot 36) (.cst (.int .i64 0)), some (35, false), [], []⟩,
  ⟨some 38, .pick (.slot 35) (.cst (.bool true)) (.slot 37), none, [], []⟩]
def C.catnaplaw9_RegsTwice_r5 : List IOper := C.catnaplaw9_RegsTwice_r5_b
theorem C.catnaplaw9_RegsTwice_r5_w {k : AFr → ASt → Prop} : aops P C.catnaplaw9_RegsTwice_r5 k fr st = aops P C.catnaplaw9_RegsTwice_r5_b k fr st := rfl
def C.catnaplaw9_RegsTwice_c60 : ICode := .keep [0, 1, 2, 8, 9] (.seq (.seq (.region C.catnaplaw9_RegsTwice_r5) C.catnaplaw9_RegsTwice_c59) C.catnaplaw9_RegsTwice_c57)
theorem C.catnaplaw9_RegsTwice_c60_w : awp P C.catnaplaw9_RegsTwice_c60 Q fr st = awp P (.keep [0, 1, 2, 8, 9] (.seq (.seq (.region C.catnaplaw9_RegsTwice_r5) C.catnaplaw9_RegsTwice_c59) C.catnaplaw9_RegsTwice_c57)) Q fr st := rfl
def C.catnaplaw9_RegsTwice_r4_b : List IOper := [
  ⟨some 29, .move (.slot 0), none, [], []⟩,
  ⟨some 30, .call F.regs_New [.slot 29], none, [], []⟩,
  ⟨some 28, .move (.slot 30), none, [], []⟩,
  ⟨some 31, .extract (.slot 28) 0, none, [], []⟩,
  ⟨some 32, .extract (.slot 28) 1, none, [], []⟩,
  ⟨some 8, .move (.slot 31), none, [], []⟩,
  ⟨some 9, .move (.slot 32), none, [], []⟩]
def C.catnaplaw9_RegsTwice_r4 : List IOper := C.catnaplaw9_RegsTwice_r4_b
theorem C.catnaplaw9_RegsTwice_r4_w {k : AFr → ASt → Prop} : aops P C.catnaplaw9_RegsTwice_r4 k fr st = aops P C.catnaplaw9_RegsTwice_r4_b k fr st := rfl
def C.catnaplaw9_RegsTwice_c61 : ICode := .keep [0, 1, 2] (.seq (.region C.catnaplaw9_RegsTwice_r4) C.catnaplaw9_RegsTwice_c60)
theorem C.catnaplaw9_RegsTwice_c61_w : awp P C.catnaplaw9_RegsTwice_c61 Q fr st = awp P (.keep [0, 1, 2] (.seq (.region C.catnaplaw9_RegsTwice_r4) C.catnaplaw9_RegsTwice_c60)) Q fr st := rfl
def C.catnaplaw9_RegsTwice_r3_b : List IOper := [
  ⟨some 27, .move (.slot 7), none, [], []⟩,
  ⟨some 6, .move (.slot 27), none, [], []⟩]
def C.catnaplaw9_RegsTwice_r3 : List IOper := C.catnaplaw9_RegsTwice_r3_b
theorem C.catnaplaw9_RegsTwice_r3_w {k : AFr → ASt → Prop} : aops P C.catnaplaw9_RegsTwice_r3 k fr st = aops P C.catnaplaw9_RegsTwice_r3_b k fr st := rfl
def C.catnaplaw9_RegsTwice_c62 : ICode := .seq (.region C.catnaplaw9_RegsTwice_r3) .ret
theorem C.catnaplaw9_RegsTwice_c62_w : awp P C.catnaplaw9_RegsTwice_c62 Q fr st = awp P (.seq (.region C.catnaplaw9_RegsTwice_r3) .ret) Q fr st := rfl
def C.catnaplaw9_RegsTwice_c63 : ICode := .keep [0, 1, 2, 7, 26] (.cond (.slot 26) C.catnaplaw9_RegsTwice_c62 .skip)
theorem C.catnaplaw9_RegsTwice_c63_w : awp P C.catnaplaw9_RegsTwice_c63 Q fr st = awp P (.keep [0, 1, 2, 7, 26] (.cond (.slot 26) C.catnaplaw9_RegsTwice_c62 .skip)) Q fr st := rfl
def C.catnaplaw9_RegsTwice_r2_b : List IOper := [
  ⟨some 20, .move (.slot 7), none, [], []⟩,
  ⟨some 21, .un .not (.slot 20), none, [], []⟩,
  ⟨some 22, .move (.slot 21), none, [], []⟩,
  ⟨some 23, .move (.slot 0), some (22, false), [], []⟩,
  ⟨some 24, .len (.slot 23), some (22, false), [], []⟩,
  ⟨some 25, .bin .gtr (.slot 24) (.cst (.int .i64 8)), some (22, false), [], []⟩,
  ⟨some 26, .pick (.slot 22) (.cst (.bool true)) (.slot 25), none, [], []⟩]
def C.catnaplaw9_RegsTwice_r2 : List IOper := C.catnaplaw9_RegsTwice_r2_b
theorem C.catnaplaw9_RegsTwice_r2_w {k : AFr → ASt → Prop} : aops P C.catnaplaw9_RegsTwice_r2 k fr st = aops P C.catnaplaw9_RegsTwice_r2_b k fr st := rfl
def C.catnaplaw9_RegsTwice_c64 : ICode := .keep [0, 1, 2, 7] (.seq (.seq (.region C.catnaplaw9_RegsTwice_r2) C.catnaplaw9_RegsTwice_c63) C.catnaplaw9_RegsTwice_c61)
theorem C.catnaplaw9_RegsTwice_c64_w : awp P C.catnaplaw9_RegsTwice_c64 Q fr st = awp P (.keep [0, 1, 2, 7] (.seq (.seq (.region C.catnaplaw9_RegsTwice_r2) C.catnaplaw9_RegsTwice_c63) C.catnaplaw9_RegsTwice_c61)) Q fr st := rfl
def C.catnaplaw9_RegsTwice_r1_b : List IOper := [
  ⟨some 19, .call F.catnaplaw9_shown [], none, [], []⟩,
  ⟨some 7, .move (.slot 19), none, [], []⟩]
def C.catnaplaw9_RegsTwice_r1 : List IOper := C.catnaplaw9_RegsTwice_r1_b
theorem C.catnaplaw9_RegsTwice_r1_w {k : AFr → ASt → Prop} : aops P C.catnaplaw9_RegsTwice_r1 k fr st = aops P C.catnaplaw9_RegsTwice_r1_b k fr st := rfl
def C.catnaplaw9_RegsTwice_c65 : ICode := .keep [0, 1, 2] (.seq (.region C.catnaplaw9_RegsTwice_r1) C.catnaplaw9_RegsTwice_c64)
theorem C.catnaplaw9_RegsTwice_c65_w : awp P C.catnaplaw9_RegsTwice_c65 Q fr st = awp P (.keep [0, 1, 2] (.seq (.region C.catnaplaw9_RegsTwice_r1) C.catnaplaw9_RegsTwice_c64)) Q fr st := rfl
def C.catnaplaw9_RegsTwice_r0_b : List IOper := [
  ⟨some 6, .move (.cst (.bool false)), none, [], []⟩]
def C.catnaplaw9_RegsTwice_r0 : List IOper := C.catnaplaw9_RegsTwice_r0_b
theorem C.catnaplaw9_RegsTwice_r0_w {k : AFr → ASt → Prop} : aops P C.catnaplaw9_RegsTwice_r0 k fr st = aops P C.catnaplaw9_RegsTwice_r0_b k fr st := rfl
def C.catnaplaw9_RegsTwice : IFunc := ⟨3, [.slot 6], .seq (.region C.catnaplaw9_RegsTwice_r0) C.catnaplaw9_RegsTwice_c65⟩
def C.catnaplaw9_RegsTwice_W := And.intro (And.intro (And.intro (And.intro (And.intro (And.intro @C.catnaplaw9_RegsTwice_r42_w (And.intro @C.catnaplaw9_RegsTwice_c1_w @C.catnaplaw9_RegsTwice_r34_w)) (And.intro @C.catnaplaw9_RegsTwice_c2_w (And.intro @C.catnaplaw9_RegsTwice_r41_w @C.catnaplaw9_RegsTwice_c3_w))) (And.intro (And.intro @C.catnaplaw9_RegsTwice_c4_w (And.intro @C.catnaplaw9_RegsTwice_r40_w @C.catnaplaw9_RegsTwice_c5_w)) (And.intro (And.intro @C.catnaplaw9_RegsTwice_r39_w @C.catnaplaw9_RegsTwice_c6_w) (And.intro @C.catnaplaw9_RegsTwice_c7_w @C.catnaplaw9_RegsTwice_r38_w)))) (And.intro (And.intro (And.intro @C.catnaplaw9_RegsTwice_c8_w (And.intro @C.catnaplaw9_RegsTwice_r37_w @C.catnaplaw9_RegsTwice_c9_w)) (And.intro @C.catnaplaw9_RegsTwice_c10_w (And.intro @C.catnaplaw9_RegsTwice_r36_w @C.catnaplaw9_RegsTwice_c11_w))) (And.intro (And.intro @C.catnaplaw9_RegsTwice_r35_w (And.intro @C.catnaplaw9_RegsTwice_b12_w @C.catnaplaw9_RegsTwice_c13_w)) (And.intro (And.intro @C.catnaplaw9_RegsTwice_c14_w @C.catnaplaw9_RegsTwice_r33_w) (And.intro @C.catnaplaw9_RegsTwice_b16_w @C.catnaplaw9_RegsTwice_c17_w))))) (And.intro (And.intro (And.intro (And.intro @C.catnaplaw9_RegsTwice_r32_w (And.intro @C.catnaplaw9_RegsTwice_c18_w @C.catnaplaw9_RegsTwice_r31_w)) (And.intro @C.catnaplaw9_RegsTwice_c19_w (And.intro @C.catnaplaw9_RegsTwice_c20_w @C.catnaplaw9_RegsTwice_r30_w))) (And.intro (And.intro @C.catnaplaw9_RegsTwice_c21_w (And.intro @C.catnaplaw9_RegsTwice_r29_w @C.catnaplaw9_RegsTwice_c22_w)) (And.intro (And.intro @C.catnaplaw9_RegsTwice_r28_w @C.catnaplaw9_RegsTwice_c23_w) (And.intro @C.catnaplaw9_RegsTwice_r26_w @C.catnaplaw9_RegsTwice_c24_w)))) (And.intro (And.intro (And.intro @C.catnaplaw9_RegsTwice_r27_w (And.intro @C.catnaplaw9_RegsTwice_b25_w @C.catnaplaw9_RegsTwice_c26_w)) (And.intro @C.catnaplaw9_RegsTwice_c27_w (And.intro @C.catnaplaw9_RegsTwice_r25_w @C.catnaplaw9_RegsTwice_b29_w))) (And.intro (And.intro @C.catnaplaw9_RegsTwice_c30_w (And.intro @C.catnaplaw9_RegsTwice_r24_w @C.catnaplaw9_RegsTwice_c31_w)) (And.intro (And.intro @C.catnaplaw9_RegsTwice_r23_w @C.catnaplaw9_RegsTwice_c32_w) (And.intro @C.catnaplaw9_RegsTwice_r22_w @C.catnaplaw9_RegsTwice_c33_w)))))) (And.intro (And.intro (And.intro (And.intro (And.intro @C.catnaplaw9_RegsTwice_r21_w (And.intro @C.catnaplaw9_RegsTwice_c34_w @C.catnaplaw9_RegsTwice_r20_w)) (And.intro @C.catnaplaw9_RegsTwice_c35_w (And.intro @C.catnaplaw9_RegsTwice_r19_w @C.catnaplaw9_RegsTwice_c36_w))) (And.intro (And.intro @C.catnaplaw9_RegsTwice_r18_w (And.intro @C.catnaplaw9_RegsTwice_c37_w @C.catnaplaw9_RegsTwice_r9_w)) (And.intro (And.intro @C.catnaplaw9_RegsTwice_c38_w @C.catnaplaw9_RegsTwice_r17_w) (And.intro @C.catnaplaw9_RegsTwice_c39_w @C.catnaplaw9_RegsTwice_r15_w)))) (And.intro (And.intro (And.intro @C.catnaplaw9_RegsTwice_c40_w (And.intro @C.catnaplaw9_RegsTwice_r16_w @C.catnaplaw9_RegsTwice_b41_w)) (And.intro @C.catnaplaw9_RegsTwice_c42_w (And.intro @C.catnaplaw9_RegsTwice_c43_w @C.catnaplaw9_RegsTwice_r14_w))) (And.intro (And.intro @C.catnaplaw9_RegsTwice_b45_w (And.intro @C.catnaplaw9_RegsTwice_c46_w @C.catnaplaw9_RegsTwice_r13_w)) (And.intro (And.intro @C.catnaplaw9_RegsTwice_c47_w @C.catnaplaw9_RegsTwice_r12_w) (And.intro @C.catnaplaw9_RegsTwice_c48_w @C.catnaplaw9_RegsTwice_c49_w))))) (And.intro (And.intro (And.intro (And.intro @C.catnaplaw9_RegsTwice_r11_w (And.intro @C.catnaplaw9_RegsTwice_c50_w @C.catnaplaw9_RegsTwice_r10_w)) (And.intro @C.catnaplaw9_RegsTwice_b51_w (And.intro @C.catnaplaw9_RegsTwice_c52_w @C.catnaplaw9_RegsTwice_c53_w))) (And.intro (And.intro @C.catnaplaw9_RegsTwice_r8_w (And.intro @C.catnaplaw9_RegsTwice_b55_w @C.catnaplaw9_RegsTwice_c56_w)) (And.intro (And.intro @C.catnaplaw9_RegsTwice_r7_w @C.catnaplaw9_RegsTwice_c57_w) (And.intro @C.catnaplaw9_RegsTwice_r6_w @C.catnaplaw9_RegsTwice_c58_w)))) (And.intro (And.intro (And.intro @C.catnaplaw9_RegsTwice_c59_w (And.intro @C.catnaplaw9_RegsTwice_r5_w @C.catnaplaw9_RegsTwice_c60_w)) (And.intro @C.catnaplaw9_RegsTwice_r4_w (And.intro @C.catnaplaw9_RegsTwice_c61_w @C.catnaplaw9_RegsTwice_r3_w))) (And.intro (And.intro @C.catnaplaw9_RegsTwice_c62_w (And.intro @C.catnaplaw9_RegsTwice_c63_w @C.catnaplaw9_RegsTwice_r2_w)) (And.intro (And.intro @C.catnaplaw9_RegsTwice_c64_w @C.catnaplaw9_RegsTwice_r1_w) (And.intro @C.catnaplaw9_RegsTwice_c65_w @C.catnaplaw9_RegsTwice_r0_w))))))
def C.catnaplaw9_RegsTwice_B := And.intro (And.intro (And.intro (And.intro (And.intro @C.catnaplaw9_RegsTwice_r42_b.eq_1 @C.catnaplaw9_RegsTwice_r34_b.eq_1) (And.intro @C.catnaplaw9_RegsTwice_r41_b.eq_1 (And.intro @C.catnaplaw9_RegsTwice_r40_b.eq_1 @C.catnaplaw9_RegsTwice_r39_b.eq_1))) (And.intro (And.intro @C.catnaplaw9_RegsTwice_r38_b.eq_1 @C.catnaplaw9_RegsTwice_r37_b.eq_1) (And.intro @C.catnaplaw9_RegsTwice_r36_b.eq_1 (And.intro @C.catnaplaw9_RegsTwice_r35_b.eq_1 @C.catnaplaw9_RegsTwice_r33_b.eq_1)))) (And.intro (And.intro (And.intro @C.catnaplaw9_RegsTwice_r32_b.eq_1 @C.catnaplaw9_RegsTwice_r31_b.eq_1) (And.intro @C.catnaplaw9_RegsTwice_r30_b.eq_1 (And.intro @C.catnaplaw9_RegsTwice_r29_b.eq_1 @C.catnaplaw9_RegsTwice_r28_b.eq_1))) (And.intro (And.intro @C.catnaplaw9_RegsTwice_r26_b.eq_1 (And.intro @C.catnaplaw9_RegsTwice_r27_b.eq_1 @C.catnaplaw9_RegsTwice_r25_b.eq_1)) (And.intro @C.catnaplaw9_RegsTwice_r24_b.eq_1 (And.intro @C.catnaplaw9_RegsTwice_r23_b.eq_1 @C.catnaplaw9_RegsTwice_r22_b.eq_1))))) (And.intro (And.intro (And.intro (And.intro @C.catnaplaw9_RegsTwice_r21_b.eq_1 @C.catnaplaw9_RegsTwice_r20_b.eq_1) (And.intro @C.catnaplaw9_RegsTwice_r19_b.eq_1 (And.intro @C.catnaplaw9_RegsTwice_r18_b.eq_1 @C.catnaplaw9_RegsTwice_r9_b.eq_1))) (And.intro (And.intro @C.catnaplaw9_RegsTwice_r17_b.eq_1 (And.intro @C.catnaplaw9_RegsTwice_r15_b.eq_1 @C.catnaplaw9_RegsTwice_r16_b.eq_1)) (And.intro @C.catnaplaw9_RegsTwice_r14_b.eq_1 (And.intro @C.catnaplaw9_RegsTwice_r13_b.eq_1 @C.catnaplaw9_RegsTwice_r12_b.eq_1)))) (And.intro (And.intro (And.intro @C.catnaplaw9_RegsTwice_r11_b.eq_1 @C.catnaplaw9_RegsTwice_r10_b.eq_1) (And.intro @C.catnaplaw9_RegsTwice_r8_b.eq_1 (And.intro @C.catnaplaw9_RegsTwice_r7_b.eq_1 @C.catnaplaw9_RegsTwice_r6_b.eq_1))) (And.intro (And.intro @C.catnaplaw9_RegsTwice_r5_b.eq_1 (And.intro @C.catnaplaw9_RegsTwice_r4_b.eq_1 @C.catnaplaw9_RegsTwice_r3_b.eq_1)) (And.intro @C.catnaplaw9_RegsTwice_r2_b.eq_1 (And.intro @C.catnaplaw9_RegsTwice_r1_b.eq_1 @C.catnaplaw9_RegsTwice_r0_b.eq_1)))))

def C.catnaplaw9_RegsLast_r26_b : List IOper := [
  ⟨some 119, .move (.slot 8), none, [], []⟩,
  ⟨some 120, .call F.regs_File_Many [.slot 119], none, [], []⟩,
  ⟨some 121, .move (.slot 0), none, [], []⟩,
  ⟨some 122, .len (.slot 121), none, [], []⟩,
  ⟨some 123, .bin .eql (.slot 120) (.slot 122), none, [], []⟩,
  ⟨some 6, .move (.slot 123), none, [], []⟩]
def C.catnaplaw9_RegsLast_r26 : List IOper := C.catnaplaw9_RegsLast_r26_b
theorem C.catnaplaw9_RegsLast_r26_w {k : AFr → ASt → Prop} : aops P C.catnaplaw9_RegsLast_r26 k fr st = aops P C.catnaplaw9_RegsLast_r26_b k fr st := rfl
def C.catnaplaw9_RegsLast_c1 : ICode := .keep [0, 8] (.seq (.region C.catnaplaw9_RegsLast_r26) .ret)
theorem C.catnaplaw9_RegsLast_c1_w : awp P C.catnaplaw9_RegsLast_c1 Q fr st = awp P (.keep [0, 8] (.seq (.region C.catnaplaw9_RegsLast_r26) .ret)) Q fr st := rfl
def C.catnaplaw9_RegsLast_r22_b : List IOper := [
  ⟨some 101, .move (.slot 14), none, [], []⟩,
  ⟨some 102, .bin .add (.slot 101) (.cst (.int .i64 1)), none, [], []⟩,
  ⟨some 14, .move (.slot 102), none, [], []⟩]
def C.catnaplaw9_RegsLast_r22 : List IOper := C.catnaplaw9_RegsLast_r22_b
theorem C.catnaplaw9_RegsLast_r22_w {k : AFr → ASt → Prop} : aops P C.catnaplaw9_RegsLast_r22 k fr st = aops P C.catnaplaw9_RegsLast_r22_b k fr st := rfl
def C.catnaplaw9_RegsLast_c2 : ICode := .keep [0, 8, 10, 14] (.region C.catnaplaw9_RegsLast_r22)
theorem C.catnaplaw9_RegsLast_c2_w : awp P C.catnaplaw9_RegsLast_c2 Q fr st = awp P (.keep [0, 8, 10, 14] (.region C.catnaplaw9_RegsLast_r22)) Q fr st := rfl
def C.catnaplaw9_RegsLast_r25_b : List IOper := [
  ⟨some 6, .move (.cst (.bool false)), none, [], []⟩]
def C.catnaplaw9_RegsLast_r25 : List IOper := C.catnaplaw9_RegsLast_r25_b
theorem C.catnaplaw9_RegsLast_r25_w {k : AFr → ASt → Prop} : aops P C.catnaplaw9_RegsLast_r25 k fr st = aops P C.catnaplaw9_RegsLast_r25_b k fr st := rfl
def C.catnaplaw9_RegsLast_c3 : ICode := .seq (.region C.catnaplaw9_RegsLast_r25) .ret
theorem C.catnaplaw9_RegsLast_c3_w : awp P C.catnaplaw9_RegsLast_c3 Q fr st = awp P (.seq (.region C.catnaplaw9_RegsLast_r25) .ret) Q fr st := rfl
def C.catnaplaw9_RegsLast_c4 : ICode := .keep [0, 8, 10, 14, 118] (.cond (.slot 118) C.catnaplaw9_RegsLast_c3 .skip)
theorem C.catnaplaw9_RegsLast_c4_w : awp P C.catnaplaw9_RegsLast_c4 Q fr st = awp P (.keep [0, 8, 10, 14, 118] (.cond (.slot 118) C.catnaplaw9_RegsLast_c3 .skip)) Q fr st := rfl
def C.catnaplaw9_RegsLast_r24_b : List IOper := [
  ⟨some 109, .move (.slot 16), none, [], []⟩,
  ⟨some 110, .bin .neq (.slot 109) (.cst (.int .i64 0)), none, [], []⟩,
  ⟨some 111, .move (.slot 110), none, [], []⟩,
  ⟨some 112, .move (.slot 15), some (111, false), [], []⟩,
  ⟨some 113, .move (.slot 10), some (111, false), [], []⟩,
  ⟨some 114, .move (.slot 14), some (111, false), [], []⟩,
  ⟨some 115, .idxAddr 1 (.slot 113) (.slot 114), some (111, false), [], []⟩,
  ⟨some 116, .load1 (.slot 115), some (111, false), [], []⟩,
  ⟨some 117, .bin .neq (.slot 112) (.slot 116), some (111, false), [], []⟩,
  ⟨some 118, .pick (.slot 111) (.cst (.bool true)) (.slot 117), none, [], []⟩]
def C.catnaplaw9_RegsLast_r24 : List IOper := C.catnaplaw9_RegsLast_r24_b
theorem C.catnaplaw9_RegsLast_r24_w {k : AFr → ASt → Prop} : aops P C.catnaplaw9_RegsLast_r24 k fr st = aops P C.catnaplaw9_RegsLast_r24_b k fr st := rfl
def C.catnaplaw9_RegsLast_c5 : ICode := .keep [0, 8, 10, 14, 15, 16] (.seq (.region C.catnaplaw9_RegsLast_r24) C.catnaplaw9_RegsLast_c4)
theorem C.catnaplaw9_RegsLast_c5_w : awp P C.catnaplaw9_RegsLast_c5 Q fr st = awp P (.keep [0, 8, 10, 14, 15, 16] (.seq (.region C.catnaplaw9_RegsLast_r24) C.catnaplaw9_RegsLast_c4)) Q fr st := rfl
def C.catnaplaw9_RegsLast_r23_b : List IOper := [
  ⟨some 104, .move (.slot 8), none, [], []⟩,
  ⟨some 105, .move (.slot 14), none, [], []⟩,
  ⟨some 106, .call F.regs_File_Read [.slot 104, .slot 105], none, [], []⟩,
  ⟨some 103, .move (.slot 106), none, [], []⟩,
  ⟨some 107, .extract (.slot 103) 0, none, [], []⟩,
  ⟨some 108, .extract (.slot 103) 1, none, [], []⟩,
  ⟨some 15, .move (.slot 107), none, [], []⟩,
  ⟨some 16, .move (.slot 108), none, [], []⟩]
def C.catnaplaw9_RegsLast_r23 : List IOper := C.catnaplaw9_RegsLast_r23_b
theorem C.catnaplaw9_RegsLast_r23_w {k : AFr → ASt → Prop} : aops P C.catnaplaw9_RegsLast_r23 k fr st = aops P C.catnaplaw9_RegsLast_r23_b k fr st := rfl
def C.catnaplaw9_RegsLast_b6 : ICode := .seq (.region C.catnaplaw9_RegsLast_r23) C.catnaplaw9_RegsLast_c5
theorem C.catnaplaw9_RegsLast_b6_w : awp P C.catnaplaw9_RegsLast_b6 Q fr st = awp P (.seq (.region C.catnaplaw9_RegsLast_r23) C.catnaplaw9_RegsLast_c5) Q fr st := rfl
def C.catnaplaw9_RegsLast_c7 : ICode := .keep [0, 8, 10, 14] (.seq (.block 5 C.catnaplaw9_RegsLast_b6) C.catnaplaw9_RegsLast_c2)
theorem C.catnaplaw9_RegsLast_c7_w : awp P C.catnaplaw9_RegsLast_c7 Q fr st = awp P (.keep [0, 8, 10, 14] (.seq (.block 5 C.catnaplaw9_RegsLast_b6) C.catnaplaw9_RegsLast_c2)) Q fr st := rfl
def C.catnaplaw9_RegsLast_c8 : ICode := .keep [0, 8, 10, 14, 100] (.cond (.slot 100) .skip (.exit 4))
theorem C.catnaplaw9_RegsLast_c8_w : awp P C.catnaplaw9_RegsLast_c8 Q fr st = awp P (.keep [0, 8, 10, 14, 100] (.cond (.slot 100) .skip (.exit 4))) Q fr st := rfl
def C.catnaplaw9_RegsLast_r21_b : List IOper := [
  ⟨some 97, .move (.slot 14), none, [], []⟩,
  ⟨some 98, .move (.slot 0), none, [], []⟩,
  ⟨some 99, .len (.slot 98), none, [], []⟩,
  ⟨some 100, .bin .lss (.slot 97) (.slot 99), none, [], []⟩]
def C.catnaplaw9_RegsLast_r21 : List IOper := C.catnaplaw9_RegsLast_r21_b
theorem C.catnaplaw9_RegsLast_r21_w {k : AFr → ASt → Prop} : aops P C.catnaplaw9_RegsLast_r21 k fr st = aops P C.catnaplaw9_RegsLast_r21_b k fr st := rfl
def C.catnaplaw9_RegsLast_l9 : ICode := .keep [0, 8, 10, 14] (.seq (.seq (.region C.catnaplaw9_RegsLast_r21) C.catnaplaw9_RegsLast_c8) C.catnaplaw9_RegsLast_c7)
theorem C.catnaplaw9_RegsLast_l9_w : awp P C.catnaplaw9_RegsLast_l9 Q fr st = awp P (.keep [0, 8, 10, 14] (.seq (.seq (.region C.catnaplaw9_RegsLast_r21) C.catnaplaw9_RegsLast_c8) C.catnaplaw9_RegsLast_c7)) Q fr st := rfl
def C.catnaplaw9_RegsLast_b10 : ICode := .loop C.catnaplaw9_RegsLast_l9
theorem C.catnaplaw9_RegsLast_b10_w : awp P C.catnaplaw9_RegsLast_b10 Q fr st = awp P (.loop C.catnaplaw9_RegsLast_l9) Q fr st := rfl
def C.catnaplaw9_RegsLast_c11 : ICode := .keep [0, 8, 10, 14] (.block 4 C.catnaplaw9_RegsLast_b10)
theorem C.catnaplaw9_RegsLast_c11_w : awp P C.catnaplaw9_RegsLast_c11 Q fr st = awp P (.keep [0, 8, 10, 14] (.block 4 C.catnaplaw9_RegsLast_b10)) Q fr st := rfl
def C.catnaplaw9_RegsLast_r20_b : List IOper := [
  ⟨some 14, .move (.cst (.int .i64 0)), none, [], []⟩]
def C.catnaplaw9_RegsLast_r20 : List IOper := C.catnaplaw9_RegsLast_r20_b
theorem C.catnaplaw9_RegsLast_r20_w {k : AFr → ASt → Prop} : aops P C.catnaplaw9_RegsLast_r20 k fr st = aops P C.catnaplaw9_RegsLast_r20_b k fr st := rfl
def C.catnaplaw9_RegsLast_c12 : ICode := .keep [0, 8, 10] (.seq (.seq (.region C.catnaplaw9_RegsLast_r20) C.catnaplaw9_RegsLast_c11) C.catnaplaw9_RegsLast_c1)
theorem C.catnaplaw9_RegsLast_c12_w : awp P C.catnaplaw9_RegsLast_c12 Q fr st = awp P (.keep [0, 8, 10] (.seq (.seq (.region C.catnaplaw9_RegsLast_r20) C.catnaplaw9_RegsLast_c11) C.catnaplaw9_RegsLast_c1)) Q fr st := rfl
def C.catnaplaw9_RegsLast_r14_b : List IOper := [
  ⟨some 71, .move (.slot 12), none, [], []⟩,
  ⟨some 72, .bin .add (.slot 71) (.cst (.int .i64 1)), none, [], []⟩,
  ⟨some 12, .move (.slot 72), none, [], []⟩]
def C.catnaplaw9_RegsLast_r14 : List IOper := C.catnaplaw9_RegsLast_r14_b
theorem C.catnaplaw9_RegsLast_r14_w {k : AFr → ASt → Prop} : aops P C.catnaplaw9_RegsLast_r14 k fr st = aops P C.catnaplaw9_RegsLast_r14_b k fr st := rfl
def C.catnaplaw9_RegsLast_c13 : ICode := .keep [0, 1, 2, 8, 10, 12] (.region C.catnaplaw9_RegsLast_r14)
theorem C.catnaplaw9_RegsLast_c13_w : awp P C.catnaplaw9_RegsLast_c13 Q fr st = awp P (.keep [0, 1, 2, 8, 10, 12] (.region C.catnaplaw9_RegsLast_r14)) Q fr st := rfl
def C.catnaplaw9_RegsLast_r19_b : List IOper := [
  ⟨some 95, .move (.slot 8), none, [], []⟩,
  ⟨some 96, .call F.regs_File_Save [.slot 95], none, [], []⟩]
def C.catnaplaw9_RegsLast_r19 : List IOper := C.catnaplaw9_RegsLast_r19_b
theorem C.catnaplaw9_RegsLast_r19_w {k : AFr → ASt → Prop} : aops P C.catnaplaw9_RegsLast_r19 k fr st = aops P C.catnaplaw9_RegsLast_r19_b k fr st := rfl
def C.catnaplaw9_RegsLast_c14 : ICode := .keep [0, 1, 2, 8, 10, 12] (.region C.catnaplaw9_RegsLast_r19)
theorem C.catnaplaw9_RegsLast_c14_w : awp P C.catnaplaw9_RegsLast_c14 Q fr st = awp P (.keep [0, 1, 2, 8, 10, 12] (.region C.catnaplaw9_RegsLast_r19)) Q fr st := rfl
def C.catnaplaw9_RegsLast_r18_b : List IOper := [
  ⟨some 88, .move (.slot 10), none, [], []⟩,
  ⟨some 89, .move (.slot 13), none, [], []⟩,
  ⟨some 90, .move (.slot 2), none, [], []⟩,
  ⟨some 91, .move (.slot 12), none, [], []⟩,
  ⟨some 92, .idxAddr 1 (.slot 90) (.slot 91), none, [], []⟩,
  ⟨some 93, .load1 (.slot 92), none, [], []⟩,
  ⟨some 94, .idxAddr 1 (.slot 88) (.slot 89), none, [], []⟩,
  ⟨none, .store1 (.slot 94) (.slot 93), none, [], []⟩]
def C.catnaplaw9_RegsLast_r18 : List IOper := C.catnaplaw9_RegsLast_r18_b
theorem C.catnaplaw9_RegsLast_r18_w {k : AFr → ASt → Prop} : aops P C.catnaplaw9_RegsLast_r18 k fr st = aops P C.catnaplaw9_RegsLast_r18_b k fr st := rfl
def C.catnaplaw9_RegsLast_c15 : ICode := .keep [0, 1, 2, 8, 10, 12, 13] (.seq (.region C.catnaplaw9_RegsLast_r18) C.catnaplaw9_RegsLast_c14)
theorem C.catnaplaw9_RegsLast_c15_w : awp P C.catnaplaw9_RegsLast_c15 Q fr st = awp P (.keep [0, 1, 2, 8, 10, 12, 13] (.seq (.region C.catnaplaw9_RegsLast_r18) C.catnaplaw9_RegsLast_c14)) Q fr st := rfl
def C.catnaplaw9_RegsLast_r17_b : List IOper := [
  ⟨some 6, .move (.cst (.bool false)), none, [], []⟩]
def C.catnaplaw9_RegsLast_r17 : List IOper := C.catnaplaw9_RegsLast_r17_b
theorem C.catnaplaw9_RegsLast_r17_w {k : AFr → ASt → Prop} : aops P C.catnaplaw9_RegsLast_r17 k fr st = aops P C.catnaplaw9_RegsLast_r17_b k fr st := rfl
def C.catnaplaw9_RegsLast_c16 : ICode := .seq (.region C.catnaplaw9_RegsLast_r17) .ret
theorem C.catnaplaw9_RegsLast_c16_w : awp P C.catnaplaw9_RegsLast_c16 Q fr st = awp P (.seq (.region C.catnaplaw9_RegsLast_r17) .ret) Q fr st := rfl
def C.catnaplaw9_RegsLast_c17 : ICode := .keep [0, 1, 2, 8, 10, 12, 13, 87] (.cond (.slot 87) C.catnaplaw9_RegsLast_c16 .skip)
theorem C.catnaplaw9_RegsLast_c17_w : awp P C.catnaplaw9_RegsLast_c17 Q fr st = awp P (.keep [0, 1, 2, 8, 10, 12, 13, 87] (.cond (.slot 87) C.catnaplaw9_RegsLast_c16 .skip)) Q fr st := rfl
def C.catnaplaw9_RegsLast_r16_b : List IOper := [
  ⟨some 80, .move (.slot 8), none, [], []⟩,
  ⟨some 81, .move (.slot 13), none, [], []⟩,
  ⟨some 82, .move (.slot 2), none, [], []⟩,
  ⟨some 83, .move (.slot 12), none, [], []⟩,
  ⟨some 84, .idxAddr 1 (.slot 82) (.slot 83), none, [], []⟩,
  ⟨some 85, .load1 (.slot 84), none, [], []⟩,
  ⟨some 86, .call F.regs_File_Write [.slot 80, .slot 81, .slot 85], none, [], []⟩,
  ⟨some 87, .bin .neq (.slot 86) (.cst (.int .i64 0)), none, [], []⟩]
def C.catnaplaw9_RegsLast_r16 : List IOper := C.catnaplaw9_RegsLast_r16_b
theorem C.catnaplaw9_RegsLast_r16_w {k : AFr → ASt → Prop} : aops P C.catnaplaw9_RegsLast_r16 k fr st = aops P C.catnaplaw9_RegsLast_r16_b k fr st := rfl
def C.catnaplaw9_RegsLast_c18 : ICode := .keep [0, 1, 2, 8, 10, 12, 13] (.seq (.seq (.region C.catnaplaw9_RegsLast_r16) C.catnaplaw9_RegsLast_c17) C.catnaplaw9_RegsLast_c15)
theorem C.catnaplaw9_RegsLast_c18_w : awp P C.catnaplaw9_RegsLast_c18 Q fr st = awp P (.keep [0, 1, 2, 8, 10, 12, 13] (.seq (.seq (.region C.catnaplaw9_RegsLast_r16) C.catnaplaw9_RegsLast_c17) C.catnaplaw9_RegsLast_c15)) Q fr st := rfl
def C.catnaplaw9_RegsLast_r15_b : List IOper := [
  ⟨some 73, .move (.slot 1), none, [], []⟩,
  ⟨some 74, .move (.slot 12), none, [], []⟩,
  ⟨some 75, .idxAddr 1 (.slot 73) (.slot 74), none, [], []⟩,
  ⟨some 76, .load1 (.slot 75), none, [], []⟩,
  ⟨some 77, .move (.slot 0), none, [], []⟩,
  ⟨some 78, .len (.slot 77), none, [], []⟩,
  ⟨some 79, .call F.catnaplaw9_pick [.slot 76, .slot 78], none, [], []⟩,
  ⟨some 13, .move (.slot 79), none, [], []⟩]
def C.catnaplaw9_RegsLast_r15 : List IOper := C.catnaplaw9_RegsLast_r15_b
theorem C.catnaplaw9_RegsLast_r15_w {k : AFr → ASt → Prop} : aops P C.catnaplaw9_RegsLast_r15 k fr st = aops P C.catnaplaw9_RegsLast_r15_b k fr st := rfl
def C.catnaplaw9_RegsLast_b19 : ICode := .seq (.region C.catnaplaw9_RegsLast_r15) C.catnaplaw9_RegsLast_c18
theorem C.catnaplaw9_RegsLast_b19_w : awp P C.catnaplaw9_RegsLast_b19 Q fr st = awp P (.seq (.region C.catnaplaw9_RegsLast_r15) C.catnaplaw9_RegsLast_c18) Q fr st := rfl
def C.catnaplaw9_RegsLast_c20 : ICode := .keep [0, 1, 2, 8, 10, 12] (.seq (.block 3 C.catnaplaw9_RegsLast_b19) C.catnaplaw9_RegsLast_c13)
theorem C.catnaplaw9_RegsLast_c20_w : awp P C.catnaplaw9_RegsLast_c20 Q fr st = awp P (.keep [0, 1, 2, 8, 10, 12] (.seq (.block 3 C.catnaplaw9_RegsLast_b19) C.catnaplaw9_RegsLast_c13)) Q fr st := rfl
def C.catnaplaw9_RegsLast_c21 : ICode := .keep [0, 1, 2, 8, 10, 12, 70] (.cond (.slot 70) .skip (.exit 2))
theorem C.catnaplaw9_RegsLast_c21_w : awp P C.catnaplaw9_RegsLast_c21 Q fr st = awp P (.keep [0, 1, 2, 8, 10, 12, 70] (.cond (.slot 70) .skip (.exit 2))) Q fr st := rfl
def C.catnaplaw9_RegsLast_r13_b : List IOper := [
  ⟨some 61, .move (.slot 12), none, [], []⟩,
  ⟨some 62, .move (.slot 1), none, [], []⟩,
  ⟨some 63, .len (.slot 62), none, [], []⟩,
  ⟨some 64, .bin .lss (.slot 61) (.slot 63), none, [], []⟩,
  ⟨some 65, .move (.slot 64), none, [], []⟩,
  ⟨some 66, .move (.slot 12), some (65, true), [], []⟩,
  ⟨some 67, .move (.slot 2), some (65, true), [], []⟩,
  ⟨some 68, .len (.slot 67), some (65, true), [], []⟩,
  ⟨some 69, .bin .lss (.slot 66) (.slot 68), some (65, true), [], []⟩,
  ⟨some 70, .pick (.slot 65) (.slot 69) (.cst (.bool false)), none, [], []⟩]
def C.catnaplaw9_RegsLast_r13 : List IOper := C.catnaplaw9_RegsLast_r13_b
theorem C.catnaplaw9_RegsLast_r13_w {k : AFr → ASt → Prop} : aops P C.catnaplaw9_RegsLast_r13 k fr st = aops P C.catnaplaw9_RegsLast_r13_b k fr st := rfl
def C.catnaplaw9_RegsLast_l22 : ICode := .keep [0, 1, 2, 8, 10, 12] (.seq (.seq (.region C.catnaplaw9_RegsLast_r13) C.catnaplaw9_RegsLast_c21) C.catnaplaw9_RegsLast_c20)
theorem C.catnaplaw9_RegsLast_l22_w : awp P C.catnaplaw9_RegsLast_l22 Q fr st = awp P (.keep [0, 1, 2, 8, 10, 12] (.seq (.seq (.region C.catnaplaw9_RegsLast_r13) C.catnaplaw9_RegsLast_c21) C.catnaplaw9_RegsLast_c20)) Q fr st := rfl
def C.catnaplaw9_RegsLast_b23 : ICode := .loop C.catnaplaw9_RegsLast_l22
theorem C.catnaplaw9_RegsLast_b23_w : awp P C.catnaplaw9_RegsLast_b23 Q fr st = awp P (.loop C.catnaplaw9_RegsLast_l22) Q fr st := rfl
def C.catnaplaw9_RegsLast_c24 : ICode := .keep [0, 1, 2, 8, 10, 12] (.block 2 C.catnaplaw9_RegsLast_b23)
theorem C.catnaplaw9_RegsLast_c24_w : awp P C.catnaplaw9_RegsLast_c24 Q fr st = awp P (.keep [0, 1, 2, 8, 10, 12] (.block 2 C.catnaplaw9_RegsLast_b23)) Q fr st := rfl
def C.catnaplaw9_RegsLast_r12_b : List IOper := [
  ⟨some 12, .move (.cst (.int .i64 0)), none, [], []⟩]
def C.catnaplaw9_RegsLast_r12 : List IOper := C.catnaplaw9_RegsLast_r12_b
theorem C.catnaplaw9_RegsLast_r12_w {k : AFr → ASt → Prop} : aops P C.catnaplaw9_RegsLast_r12 k fr st = aops P C.catnaplaw9_RegsLast_r12_b k fr st := rfl
def C.catnaplaw9_RegsLast_c25 : ICode := .keep [0, 1, 2, 8, 10] (.seq (.seq (.region C.catnaplaw9_RegsLast_r12) C.catnaplaw9_RegsLast_c24) C.catnaplaw9_RegsLast_c12)
theorem C.catnaplaw9_RegsLast_c25_w : awp P C.catnaplaw9_RegsLast_c25 Q fr st = awp P (.keep [0, 1, 2, 8, 10] (.seq (.seq (.region C.catnaplaw9_RegsLast_r12) C.catnaplaw9_RegsLast_c24) C.catnaplaw9_RegsLast_c12)) Q fr st := rfl
def C.catnaplaw9_RegsLast_r10_b : List IOper := [
  ⟨some 51, .move (.slot 11), none, [], []⟩,
  ⟨some 52, .bin .add (.slot 51) (.cst (.int .i64 1)), none, [], []⟩,
  ⟨some 11, .move (.slot 52), none, [], []⟩]
def C.catnaplaw9_RegsLast_r10 : List IOper := C.catnaplaw9_RegsLast_r10_b
theorem C.catnaplaw9_RegsLast_r10_w {k : AFr → ASt → Prop} : aops P C.catnaplaw9_RegsLast_r10 k fr st = aops P C.catnaplaw9_RegsLast_r10_b k fr st := rfl
def C.catnaplaw9_RegsLast_c26 : ICode := .keep [0, 1, 2, 8, 10, 11] (.region C.catnaplaw9_RegsLast_r10)
theorem C.catnaplaw9_RegsLast_c26_w : awp P C.catnaplaw9_RegsLast_c26 Q fr st = awp P (.keep [0, 1, 2, 8, 10, 11] (.region C.catnaplaw9_RegsLast_r10)) Q fr st := rfl
def C.catnaplaw9_RegsLast_r11_b : List IOper := [
  ⟨some 53, .move (.slot 10), none, [], []⟩,
  ⟨some 54, .move (.slot 0), none, [], []⟩,
  ⟨some 55, .move (.slot 11), none, [], []⟩,
  ⟨some 56, .idxAddr 2 (.slot 54) (.slot 55), none, [], []⟩,
  ⟨some 57, .fldAddr 0 (.slot 56), none, [], []⟩,
  ⟨some 58, .load1 (.slot 57), none, [], []⟩,
  ⟨some 59, .buildSlice 1 1 [.int .u32 0] [(0, 1, .slot 58)], none, [], []⟩,
  ⟨some 60, .append 1 4 (.slot 53) (.slot 59), none, [], []⟩,
  ⟨some 10, .move (.slot 60), none, [], []⟩]
def C.catnaplaw9_RegsLast_r11 : List IOper := C.catnaplaw9_RegsLast_r11_b
theorem C.catnaplaw9_RegsLast_r11_w {k : AFr → ASt → Prop} : aops P C.catnaplaw9_RegsLast_r11 k fr st = aops P C.catnaplaw9_RegsLast_r11_b k fr st := rfl
def C.catnaplaw9_RegsLast_b27 : ICode := .region C.catnaplaw9_RegsLast_r11
theorem C.catnaplaw9_RegsLast_b27_w : awp P C.catnaplaw9_RegsLast_b27 Q fr st = awp P (.region C.catnaplaw9_RegsLast_r11) Q fr st := rfl
def C.catnaplaw9_RegsLast_c28 : ICode := .keep [0, 1, 2, 8, 10, 11] (.seq (.block 1 C.catnaplaw9_RegsLast_b27) C.catnaplaw9_RegsLast_c26)
theorem C.catnaplaw9_RegsLast_c28_w : awp P C.catnaplaw9_RegsLast_c28 Q fr st = awp P (.keep [0, 1, 2, 8, 10, 11] (.seq (.block 1 C.catnaplaw9_RegsLast_b27) C.catnaplaw9_RegsLast_c26)) Q fr st := rfl
def C.catnaplaw9_RegsLast_c29 : ICode := .keep [0, 1, 2, 8, 10, 11, 50] (.cond (.slot 50) .skip (.exit 0))
theorem C.catnaplaw9_RegsLast_c29_w : awp P C.catnaplaw9_RegsLast_c29 Q fr st = awp P (.keep [0, 1, 2, 8, 10, 11, 50] (.cond (.slot 50) .skip (.exit 0))) Q fr st := rfl
def C.catnaplaw9_RegsLast_r9_b : List IOper := [
  ⟨some 47, .move (.slot 11), none, [], []⟩,
  ⟨some 48, .move (.slot 0), none, [], []⟩,
  ⟨some 49, .len (.slot 48), none, [], []⟩,
  ⟨some 50, .bin .lss (.slot 47) (.slot 49), none, [], []⟩]
def C.catnaplaw9_RegsLast_r9 : List IOper := C.catnaplaw9_RegsLast_r9_b
theorem C.catnaplaw9_RegsLast_r9_w {k : AFr → ASt → Prop} : aops P C.catnaplaw9_RegsLast_r9 k fr st = aops P C.catnaplaw9_RegsLast_r9_b k fr st := rfl
def C.catnaplaw9_RegsLast_l30 : ICode := .keep [0, 1, 2, 8, 10, 11] (.seq (.seq (.region C.catnaplaw9_RegsLast_r9) C.catnaplaw9_RegsLast_c29) C.catnaplaw9_RegsLast_c28)
theorem C.catnaplaw9_RegsLast_l30_w : awp P C.catnaplaw9_RegsLast_l30 Q fr st = awp P (.keep [0, 1, 2, 8, 10, 11] (.seq (.seq (.region C.catnaplaw9_RegsLast_r9) C.catnaplaw9_RegsLast_c29) C.catnaplaw9_RegsLast_c28)) Q fr st := rfl
def C.catnaplaw9_RegsLast_b31 : ICode := .loop C.catnaplaw9_RegsLast_l30
theorem C.catnaplaw9_RegsLast_b31_w : awp P C.catnaplaw9_RegsLast_b31 Q fr st = awp P (.loop C.catnaplaw9_RegsLast_l30) Q fr st := rfl
def C.catnaplaw9_RegsLast_c32 : ICode := .keep [0, 1, 2, 8, 10, 11] (.block 0 C.catnaplaw9_RegsLast_b31)
theorem C.catnaplaw9_RegsLast_c32_w : awp P C.catnaplaw9_RegsLast_c32 Q fr st = awp P (.keep [0, 1, 2, 8, 10, 11] (.block 0 C.catnaplaw9_RegsLast_b31)) Q fr st := rfl
def C.catnaplaw9_RegsLast_r8_b : List IOper := [
  ⟨some 11, .move (.cst (.int .i64 0)), none, [], []⟩]
def C.catnaplaw9_RegsLast_r8 : List IOper := C.catnaplaw9_RegsLast_r8_b
theorem C.catnaplaw9_RegsLast_r8_w {k : AFr → ASt → Prop} : aops P C.catnaplaw9_RegsLast_r8 k fr st = aops P C.catnaplaw9_RegsLast_r8_b k fr st := rfl
def C.catnaplaw9_RegsLast_c33 : ICode := .keep [0, 1, 2, 8, 10] (.seq (.seq (.region C.catnaplaw9_RegsLast_r8) C.catnaplaw9_RegsLast_c32) C.catnaplaw9_RegsLast_c25)
theorem C.catnaplaw9_RegsLast_c33_w : awp P C.catnaplaw9_RegsLast_c33 Q fr st = awp P (.keep [0, 1, 2, 8, 10] (.seq (.seq (.region C.catnaplaw9_RegsLast_r8) C.catnaplaw9_RegsLast_c32) C.catnaplaw9_RegsLast_c25)) Q fr st := rfl
def C.catnaplaw9_RegsLast_r7_b : List IOper := [
  ⟨some 10, .move (.cst (.nils)), none, [], []⟩]
def C.catnaplaw9_RegsLast_r7 : List IOper := C.catnaplaw9_RegsLast_r7_b
theorem C.catnaplaw9_RegsLast_r7_w {k : AFr → ASt → Prop} : aops P C.catnaplaw9_RegsLast_r7 k fr st = aops P C.catnaplaw9_RegsLast_r7_b k fr st := rfl
def C.catnaplaw9_RegsLast_c34 : ICode := .keep [0, 1, 2, 8] (.seq (.region C.catnaplaw9_RegsLast_r7) C.catnaplaw9_RegsLast_c33)
theorem C.catnaplaw9_RegsLast_c34_w : awp P C.catnaplaw9_RegsLast_c34 Q fr st = awp P (.keep [0, 1, 2, 8] (.seq (.region C.catnaplaw9_RegsLast_r7) C.catnaplaw9_RegsLast_c33)) Q fr st := rfl
def C.catnaplaw9_RegsLast_r6_b : List IOper := [
  ⟨some 6, .move (.cst (.bool false)), none, [], []⟩]
def C.catnaplaw9_RegsLast_r6 : List IOper := C.catnaplaw9_RegsLast_r6_b
theorem C.catnaplaw9_RegsLast_r6_w {k : AFr → ASt → Prop} : aops P C.catnaplaw9_RegsLast_r6 k fr st = aops P C.catnaplaw9_RegsLast_r6_b k fr st := rfl
def C.catnaplaw9_RegsLast_c35 : ICode := .seq (.region C.catnaplaw9_RegsLast_r6) .ret
theorem C.catnaplaw9_RegsLast_c35_w : awp P C.catnaplaw9_RegsLast_c35 Q fr st = awp P (.seq (.region C.catnaplaw9_RegsLast_r6) .ret) Q fr st := rfl
def C.catnaplaw9_RegsLast_c36 : ICode := .keep [0, 1, 2, 8, 46] (.cond (.slot 46) C.catnaplaw9_RegsLast_c35 .skip)
theorem C.catnaplaw9_RegsLast_c36_w : awp P C.catnaplaw9_RegsLast_c36 Q fr st = awp P (.keep [0, 1, 2, 8, 46] (.cond (.slot 46) C.catnaplaw9_RegsLast_c35 .skip)) Q fr st := rfl
def C.catnaplaw9_RegsLast_r5_b : List IOper := [
  ⟨some 41, .move (.slot 8), none, [], []⟩,
  ⟨some 42, .eqP 0 false (.slot 41) (.cst (.nilp)), none, [], []⟩,
  ⟨some 43, .move (.slot 42), none, [], []⟩,
  ⟨some 44, .move (.slot 9), some (43, false), [], []⟩,
  ⟨some 45, .bin .neq (.slot 44) (.cst (.int .i64 0)), some (43, false), [], []⟩,
  ⟨some 46, .pick (.slot 43) (.cst (.bool true)) (.slot 45), none, [], []⟩]
def C.catnaplaw9_RegsLast_r5 : List IOper := C.catnaplaw9_RegsLast_r5_b
theorem C.catnaplaw9_RegsLast_r5_w {k : AFr → ASt → Prop} : aops P C.catnaplaw9_RegsLast_r5 k fr st = aops P C.catnaplaw9_RegsLast_r5_b k fr st := rfl
def C.catnaplaw9_RegsLast_c37 : ICode := .keep [0, 1, 2, 8, 9] (.seq (.seq (.region C.catnaplaw9_RegsLast_r5) C.catnaplaw9_RegsLast_c36) C.catnaplaw9_RegsLast_c34)
theorem C.catnaplaw9_RegsLast_c37_w : awp P C.catnaplaw9_RegsLast_c37 Q fr st = awp P (.keep [0, 1, 2, 8, 9] (.seq (.seq (.region C.catnaplaw9_RegsLast_r5) C.catnaplaw9_RegsLast_c36) C.catnaplaw9_RegsLast_c34)) Q fr st := rfl
def C.catnaplaw9_RegsLast_r4_b : List IOper := [
  ⟨some 37, .move (.slot 0), none, [], []⟩,
  ⟨some 38, .call F.regs_New [.slot 37], none, [], []⟩,
  ⟨some 36, .move (.slot 38), none, [], []⟩,
  ⟨some 39, .extract (.slot 36) 0, none, [], []⟩,
  ⟨some 40, .extract (.slot 36) 1, none, [], []⟩,
  ⟨some 8, .move (.slot 39), none, [], []⟩,
  ⟨some 9, .move (.slot 40), none, [], []⟩]
def C.catnaplaw9_RegsLast_r4 : List IOper := C.catnaplaw9_RegsLast_r4_b
theorem C.catnaplaw9_RegsLast_r4_w {k : AFr → ASt → Prop} : aops P C.catnaplaw9_RegsLast_r4 k fr st = aops P C.catnaplaw9_RegsLast_r4_b k fr st := rfl
def C.catnaplaw9_RegsLast_c38 : ICode := .keep [0, 1, 2] (.seq (.region C.catnaplaw9_RegsLast_r4) C.catnaplaw9_RegsLast_c37)
theorem C.catnaplaw9_RegsLast_c38_w : awp P C.catnaplaw9_RegsLast_c38 Q fr st = awp P (.keep [0, 1, 2] (.seq (.region C.catnaplaw9_RegsLast_r4) C.catnaplaw9_RegsLast_c37)) Q fr st := rfl
def C.catnaplaw9_RegsLast_r3_b : List IOper := [
  ⟨some 35, .move (.slot 7), none, [], []⟩,
  ⟨some 6, .move (.slot 35), none, [], []⟩]
def C.catnaplaw9_RegsLast_r3 : List IOper := C.catnaplaw9_RegsLast_r3_b
theorem C.catnaplaw9_RegsLast_r3_w {k : AFr → ASt → Prop} : aops P C.catnaplaw9_RegsLast_r3 k fr st = aops P C.catnaplaw9_RegsLast_r3_b k fr st := rfl
def C.catnaplaw9_RegsLast_c39 : ICode := .seq (.region C.catnaplaw9_RegsLast_r3) .ret
theorem C.catnaplaw9_RegsLast_c39_w : awp P C.catnaplaw9_RegsLast_c39 Q fr st = awp P (.seq (.region C.catnaplaw9_RegsLast_r3) .ret) Q fr st := rfl
def C.catnaplaw9_RegsLast_c40 : ICode := .keep [0, 1, 2, 7, 34] (.cond (.slot 34) C.catnaplaw9_RegsLast_c39 .skip)
theorem C.catnaplaw9_RegsLast_c40_w : awp P C.catnaplaw9_RegsLast_c40 Q fr st = awp P (.keep [0, 1, 2, 7, 34] (.cond (.slot 34) C.catnaplaw9_RegsLast_c39 .skip)) Q fr st := rfl
def C.catnaplaw9_RegsLast_r2_b : List IOper := [
  ⟨some 18, .move (.slot 7), none, [], []⟩,
  ⟨some 19, .un .not (.slot 18), none, [], []⟩,
  ⟨some 20, .move (.slot 19), none, [], []⟩,
  ⟨some 21, .move (.slot 0), some (20, false), [], []⟩,
  ⟨some 22, .len (.slot 21), some (20, false), [], []⟩,
  ⟨some 23, .bin .gtr (.slot 22) (.cst (.int .i64 8)), some (20, false), [], []⟩,
  ⟨some 24, .pick (.slot 20) (.cst (.bool true)) (.slot 23), none, [], []⟩,
  ⟨some 25, .move (.slot 24), none, [], []⟩,
  ⟨some 26, .move (.slot 0), some (25, false), [], []⟩,
  ⟨some 27, .len (.slot 26), some (25, false), [], []⟩,
  ⟨some 28, .bin .eql (.slot 27) (.cst (.int .i64 0)), some (25, false), [], []⟩,
  ⟨some 29, .pick (.slot 25) (.cst (.bool true)) (.slot 28), none, [], []⟩,
  ⟨some 30, .move (.slot 29), none, [], []⟩,
  ⟨some 31, .move (.slot 1), some (30, false), [], []⟩,
  ⟨some 32, .len (.slot 31), some (30, false), [], []⟩,
  ⟨some 33, .bin .gtr (.slot 32) (.cst (.int .i64 100)), some (30, false), [], []⟩,
  ⟨some 34, .pick (.slot 30) (.cst (.bool true)) (.slot 33), none, [], []⟩]
def C.catnaplaw9_RegsLast_r2 : List IOper := C.catnaplaw9_RegsLast_r2_b
theorem C.catnaplaw9_RegsLast_r2_w {k : AFr → ASt → Prop} : aops P C.catnaplaw9_RegsLast_r2 k fr st = aops P C.catnaplaw9_RegsLast_r2_b k fr st := rfl
def C.catnaplaw9_RegsLast_c41 : ICode := .keep [0, 1, 2, 7] (.seq (.seq (.region C.catnaplaw9_RegsLast_r2) C.catnaplaw9_RegsLast_c40) C.catnaplaw9_RegsLast_c38)
theorem C.catnaplaw9_RegsLast_c41_w : awp P C.catnaplaw9_RegsLast_c41 Q fr st = awp P (.keep [0, 1, 2, 7] (.seq (.seq (.region C.catnaplaw9_RegsLast_r2) C.catnaplaw9_RegsLast_c40) C.catnaplaw9_RegsLast_c38)) Q fr st := rfl
def C.catnaplaw9_RegsLast_r1_b : List IOper := [
  ⟨some 17, .call F.catnaplaw9_shown [], none, [], []⟩,
  ⟨some 7, .move (.slot 17), none, [], []⟩]
def C.catnaplaw9_RegsLast_r1 : List IOper := C.catnaplaw9_RegsLast_r1_b
theorem C.catnaplaw9_RegsLast_r1_w {k : AFr → ASt → Prop} : aops P C.catnaplaw9_RegsLast_r1 k fr st = aops P C.catnaplaw9_RegsLast_r1_b k fr st := rfl
def C.catnaplaw9_RegsLast_c42 : ICode := .keep [0, 1, 2] (.seq (.region C.catnaplaw9_RegsLast_r1) C.catnaplaw9_RegsLast_c41)
theorem C.catnaplaw9_RegsLast_c42_w : awp P C.catnaplaw9_RegsLast_c42 Q fr st = awp P (.keep [0, 1, 2] (.seq (.region C.catnaplaw9_RegsLast_r1) C.catnaplaw9_RegsLast_c41)) Q fr st := rfl
def C.catnaplaw9_RegsLast_r0_b : List IOper := [
  ⟨some 6, .move (.cst (.bool false)), none, [], []⟩]
def C.catnaplaw9_RegsLast_r0 : List IOper := C.catnaplaw9_RegsLast_r0_b
theorem C.catnaplaw9_RegsLast_r0_w {k : AFr → ASt → Prop} : aops P C.catnaplaw9_RegsLast_r0 k fr st = aops P C.catnaplaw9_RegsLast_r0_b k fr st := rfl
def C.catnaplaw9_RegsLast : IFunc := ⟨3, [.slot 6], .seq (.region C.catnaplaw9_RegsLast_r0) C.catnaplaw9_RegsLast_c42⟩
def C.catnaplaw9_RegsLast_W := And.intro (And.intro (And.intro (And.intro (And.intro (And.intro @C.catnaplaw9_RegsLast_r26_w @C.catnaplaw9_RegsLast_c1_w) (And.intro @C.catnaplaw9_RegsLast_r22_w @C.catnaplaw9_RegsLast_c2_w)) (And.intro (And.intro @C.catnaplaw9_RegsLast_r25_w @C.catnaplaw9_RegsLast_c3_w) (And.intro @C.catnaplaw9_RegsLast_c4_w @C.catnaplaw9_RegsLast_r24_w))) (And.intro (And.intro (And.intro @C.catnaplaw9_RegsLast_c5_w @C.catnaplaw9_RegsLast_r23_w) (And.intro @C.catnaplaw9_RegsLast_b6_w @C.catnaplaw9_RegsLast_c7_w)) (And.intro (And.intro @C.catnaplaw9_RegsLast_c8_w @C.catnaplaw9_RegsLast_r21_w) (And.intro @C.catnaplaw9_RegsLast_b10_w @C.catnaplaw9_RegsLast_c11_w)))) (And.intro (And.intro (And.intro (And.intro @C.catnaplaw9_RegsLast_r20_w @C.catnaplaw9_RegsLast_c12_w) (And.intro @C.catnaplaw9_RegsLast_r14_w @C.catnaplaw9_RegsLast_c13_w)) (And.intro (And.intro @C.catnaplaw9_RegsLast_r19_w @C.catnaplaw9_RegsLast_c14_w) (And.intro @C.catnaplaw9_RegsLast_r18_w @C.catnaplaw9_RegsLast_c15_w))) (And.intro (And.intro (And.intro @C.catnaplaw9_RegsLast_r17_w @C.catnaplaw9_RegsLast_c16_w) (And.intro @C.catnaplaw9_RegsLast_c17_w @C.catnaplaw9_RegsLast_r16_w)) (And.intro (And.intro @C.catnaplaw9_RegsLast_c18_w @C.catnaplaw9_RegsLast_r15_w) (And.intro @C.catnaplaw9_RegsLast_b19_w (And.intro @C.catnaplaw9_RegsLast_c20_w @C.catnaplaw9_RegsLast_c21_w)))))) (And.intro (And.intro (And.intro (And.intro (And.intro @C.catnaplaw9_RegsLast_r13_w @C.catnaplaw9_RegsLast_b23_w) (And.intro @C.catnaplaw9_RegsLast_c24_w @C.catnaplaw9_RegsLast_r12_w)) (And.intro (And.intro @C.catnaplaw9_RegsLast_c25_w @C.catnaplaw9_RegsLast_r10_w) (And.intro @C.catnaplaw9_RegsLast_c26_w @C.catnaplaw9_RegsLast_r11_w))) (And.intro (And.intro (And.intro @C.catnaplaw9_RegsLast_b27_w @C.catnaplaw9_RegsLast_c28_w) (And.intro @C.catnaplaw9_RegsLast_c29_w @C.catnaplaw9_RegsLast_r9_w)) (And.intro (And.intro @C.catnaplaw9_RegsLast_b31_w @C.catnaplaw9_RegsLast_c32_w) (And.intro @C.catnaplaw9_RegsLast_r8_w @C.catnaplaw9_RegsLast_c33_w)))) (And.intro (And.intro (And.intro (And.intro @C.catnaplaw9_RegsLast_r7_w @C.catnaplaw9_RegsLast_c34_w) (And.intro @C.catnaplaw9_RegsLast_r6_w @C.catnaplaw9_RegsLast_c35_w)) (And.intro (And.intro @C.catnaplaw9_RegsLast_c36_w @C.catnaplaw9_RegsLast_r5_w) (And.intro @C.catnaplaw9_RegsLast_c37_w @C.catnaplaw9_RegsLast_r4_w))) (And.intro (And.intro (And.intro @C.catnaplaw9_RegsLast_c38_w @C.catnaplaw9_RegsLast_r3_w) (And.intro @C.catnaplaw9_RegsLast_c39_w @C.catnaplaw9_RegsLast_c40_w)) (And.intro (And.intro @C.catnaplaw9_RegsLast_r2_w @C.catnaplaw9_RegsLast_c41_w) (And.intro @C.catnaplaw9_RegsLast_r1_w (And.intro @C.catnaplaw9_RegsLast_c42_w @C.catnaplaw9_RegsLast_r0_w))))))
def C.catnaplaw9_RegsLast_B := And.intro (And.intro (And.intro (And.intro @C.catnaplaw9_RegsLast_r26_b.eq_1 (And.intro @C.catnaplaw9_RegsLast_r22_b.eq_1 @C.catnaplaw9_RegsLast_r25_b.eq_1)) (And.intro @C.catnaplaw9_RegsLast_r24_b.eq_1 (And.intro @C.catnaplaw9_RegsLast_r23_b.eq_1 @C.catnaplaw9_RegsLast_r21_b.eq_1))) (And.intro (And.intro @C.catnaplaw9_RegsLast_r20_b.eq_1 (And.intro @C.catnaplaw9_RegsLast_r14_b.eq_1 @C.catnaplaw9_RegsLast_r19_b.eq_1)) (And.intro (And.intro @C.catnaplaw9_RegsLast_r18_b.eq_1 @C.catnaplaw9_RegsLast_r17_b.eq_1) (And.intro @C.catnaplaw9_RegsLast_r16_b.eq_1 @C.catnaplaw9_RegsLast_r15_b.eq_1)))) (And.intro (And.intro (And.intro @C.catnaplaw9_RegsLast_r13_b.eq_1 (And.intro @C.catnaplaw9_RegsLast_r12_b.eq_1 @C.catnaplaw9_RegsLast_r10_b.eq_1)) (And.intro (And.intro @C.catnaplaw9_RegsLast_r11_b.eq_1 @C.catnaplaw9_RegsLast_r9_b.eq_1) (And.intro @C.catnaplaw9_RegsLast_r8_b.eq_1 @C.catnaplaw9_RegsLast_r7_b.eq_1))) (And.intro (And.intro @C.catnaplaw9_RegsLast_r6_b.eq_1 (And.intro @C.catnaplaw9_RegsLast_r5_b.eq_1 @C.catnaplaw9_RegsLast_r4_b.eq_1)) (And.intro (And.intro @C.catnaplaw9_RegsLast_r3_b.eq_1 @C.catnaplaw9_RegsLast_r2_b.eq_1) (And.intro @C.catnaplaw9_RegsLast_r1_b.eq_1 @C.catnaplaw9_RegsLast_r0_b.eq_1))))

def C.catnaplaw9_RegsClears_r25_b : List IOper := [
  ⟨some 6, .move (.cst (.bool true)), none, [], []⟩]
def C.catnaplaw9_RegsClears_r25 : List IOper := C.catnaplaw9_RegsClears_r25_b
theorem C.catnaplaw9_RegsClears_r25_w {k : AFr → ASt → Prop} : aops P C.catnaplaw9_RegsClears_r25 k fr st = aops P C.catnaplaw9_RegsClears_r25_b k fr st := rfl
def C.catnaplaw9_RegsClears_c1 : ICode := .keep [] (.seq (.region C.catnaplaw9_RegsClears_r25) .ret)
theorem C.catnaplaw9_RegsClears_c1_w : awp P C.catnaplaw9_RegsClears_c1 Q fr st = awp P (.keep [] (.seq (.region C.catnaplaw9_RegsClears_r25) .ret)) Q fr st := rfl
def C.catnaplaw9_RegsClears_r15_b : List IOper := [
  ⟨some 82, .move (.slot 13), none, [], []⟩,
  ⟨some 83, .bin .add (.slot 82) (.cst (.int .i64 1)), none, [], []⟩,
  ⟨some 13, .move (.slot 83), none, [], []⟩]
def C.catnaplaw9_RegsClears_r15 : List IOper := C.catnaplaw9_RegsClears_r15_b
theorem C.catnaplaw9_RegsClears_r15_w {k : AFr → ASt → Prop} : aops P C.catnaplaw9_RegsClears_r15 k fr st = aops P C.catnaplaw9_RegsClears_r15_b k fr st := rfl
def C.catnaplaw9_RegsClears_c2 : ICode := .keep [0, 2, 8, 10, 13] (.region C.catnaplaw9_RegsClears_r15)
theorem C.catnaplaw9_RegsClears_c2_w : awp P C.catnaplaw9_RegsClears_c2 Q fr st = awp P (.keep [0, 2, 8, 10, 13] (.region C.catnaplaw9_RegsClears_r15)) Q fr st := rfl
def C.catnaplaw9_RegsClears_r20_b : List IOper := [
  ⟨some 105, .move (.slot 14), none, [], []⟩,
  ⟨some 106, .bin .add (.slot 105) (.cst (.int .i64 1)), none, [], []⟩,
  ⟨some 14, .move (.slot 106), none, [], []⟩]
def C.catnaplaw9_RegsClears_r20 : List IOper := C.catnaplaw9_RegsClears_r20_b
theorem C.catnaplaw9_RegsClears_r20_w {k : AFr → ASt → Prop} : aops P C.catnaplaw9_RegsClears_r20 k fr st = aops P C.catnaplaw9_RegsClears_r20_b k fr st := rfl
def C.catnaplaw9_RegsClears_c3 : ICode := .keep [0, 2, 8, 10, 13, 14] (.region C.catnaplaw9_RegsClears_r20)
theorem C.catnaplaw9_RegsClears_c3_w : awp P C.catnaplaw9_RegsClears_c3 Q fr st = awp P (.keep [0, 2, 8, 10, 13, 14] (.region C.catnaplaw9_RegsClears_r20)) Q fr st := rfl
def C.catnaplaw9_RegsClears_r24_b : List IOper := [
  ⟨some 6, .move (.cst (.bool false)), none, [], []⟩]
def C.catnaplaw9_RegsClears_r24 : List IOper := C.catnaplaw9_RegsClears_r24_b
theorem C.catnaplaw9_RegsClears_r24_w {k : AFr → ASt → Prop} : aops P C.catnaplaw9_RegsClears_r24 k fr st = aops P C.catnaplaw9_RegsClears_r24_b k fr st := rfl
def C.catnaplaw9_RegsClears_c4 : ICode := .seq (.region C.catnaplaw9_RegsClears_r24) .ret
theorem C.catnaplaw9_RegsClears_c4_w : awp P C.catnaplaw9_RegsClears_c4 Q fr st = awp P (.seq (.region C.catnaplaw9_RegsClears_r24) .ret) Q fr st := rfl
def C.catnaplaw9_RegsClears_c5 : ICode := .keep [0, 2, 8, 10, 13, 14, 121] (.cond (.slot 121) C.catnaplaw9_RegsClears_c4 .skip)
theorem C.catnaplaw9_RegsClears_c5_w : awp P C.catnaplaw9_RegsClears_c5 Q fr st = awp P (.keep [0, 2, 8, 10, 13, 14, 121] (.cond (.slot 121) C.catnaplaw9_RegsClears_c4 .skip)) Q fr st := rfl
def C.catnaplaw9_RegsClears_r23_b : List IOper := [
  ⟨some 119, .move (.slot 15), none, [], []⟩,
  ⟨some 120, .move (.slot 17), none, [], []⟩,
  ⟨some 121, .bin .neq (.slot 119) (.slot 120), none, [], []⟩]
def C.catnaplaw9_RegsClears_r23 : List IOper := C.catnaplaw9_RegsClears_r23_b
theorem C.catnaplaw9_RegsClears_r23_w {k : AFr → ASt → Prop} : aops P C.catnaplaw9_RegsClears_r23 k fr st = aops P C.catnaplaw9_RegsClears_r23_b k fr st := rfl
def C.catnaplaw9_RegsClears_c6 : ICode := .keep [0, 2, 8, 10, 13, 14, 15, 17] (.seq (.region C.catnaplaw9_RegsClears_r23) C.catnaplaw9_RegsClears_c5)
theorem C.catnaplaw9_RegsClears_c6_w : awp P C.catnaplaw9_RegsClears_c6 Q fr st = awp P (.keep [0, 2, 8, 10, 13, 14, 15, 17] (.seq (.region C.catnaplaw9_RegsClears_r23) C.catnaplaw9_RegsClears_c5)) Q fr st := rfl
def C.catnaplaw9_RegsClears_r22_b : List IOper := [
  ⟨some 114, .move (.slot 10), none, [], []⟩,
  ⟨some 115, .move (.slot 14), none, [], []⟩,
  ⟨some 116, .call F.regs_File_Read [.slot 114, .slot 115], none, [], []⟩,
  ⟨some 113, .move (.slot 116), none, [], []⟩,
  ⟨some 117, .extract (.slot 113) 0, none, [], []⟩,
  ⟨some 118, .extract (.slot 113) 1, none, [], []⟩,
  ⟨some 17, .move (.slot 117), none, [], []⟩,
  ⟨some 18, .move (.slot 118), none, [], []⟩]
def C.catnaplaw9_RegsClears_r22 : List IOper := C.catnaplaw9_RegsClears_r22_b
theorem C.catnaplaw9_RegsClears_r22_w {k : AFr → ASt → Prop} : aops P C.catnaplaw9_RegsClears_r22 k fr st = aops P C.catnaplaw9_RegsClears_r22_b k fr st := rfl
def C.catnaplaw9_RegsClears_c7 : ICode := .keep [0, 2, 8, 10, 13, 14, 15] (.seq (.region C.catnaplaw9_RegsClears_r22) C.catnaplaw9_RegsClears_c6)
theorem C.catnaplaw9_RegsClears_c7_w : awp P C.catnaplaw9_RegsClears_c7 Q fr st = awp P (.keep [0, 2, 8, 10, 13, 14, 15] (.seq (.region C.catnaplaw9_RegsClears_r22) C.catnaplaw9_RegsClears_c6)) Q fr st := rfl
def C.catnaplaw9_RegsClears_r21_b : List IOper := [
  ⟨some 108, .move (.slot 8), none, [], []⟩,
  ⟨some 109, .move (.slot 14), none, [], []⟩,
  ⟨some 110, .call F.regs_File_Read [.slot 108, .slot 109], none, [], []⟩,
  ⟨some 107, .move (.slot 110), none, [], []⟩,
  ⟨some 111, .extract (.slot 107) 0, none, [], []⟩,
  ⟨some 112, .extract (.slot 107) 1, none, [], []⟩,
  ⟨some 15, .move (.slot 111), none, [], []⟩,
  ⟨some 16, .move (.slot 112), none, [], []⟩]
def C.catnaplaw9_RegsClears_r21 : List IOper := C.catnaplaw9_RegsClears_r21_b
theorem C.catnaplaw9_RegsClears_r21_w {k : AFr → ASt → Prop} : aops P C.catnaplaw9_RegsClears_r21 k fr st = aops P C.catnaplaw9_RegsClears_r21_b k fr st := rfl
def C.catnaplaw9_RegsClears_b8 : ICode := .seq (.region C.catnaplaw9_RegsClears_r21) C.catnaplaw9_RegsClears_c7
theorem C.catnaplaw9_RegsClears_b8_w : awp P C.catnaplaw9_RegsClears_b8 Q fr st = awp P (.seq (.region C.catnaplaw9_RegsClears_r21) C.catnaplaw9_RegsClears_c7) Q fr st := rfl
def C.catnaplaw9_RegsClears_c9 : ICode := .keep [0, 2, 8, 10, 13, 14] (.seq (.block 5 C.catnaplaw9_RegsClears_b8) C.catnaplaw9_RegsClears_c3)
theorem C.catnaplaw9_RegsClears_c9_w : awp P C.catnaplaw9_RegsClears_c9 Q fr st = awp P (.keep [0, 2, 8, 10, 13, 14] (.seq (.block 5 C.catnaplaw9_RegsClears_b8) C.catnaplaw9_RegsClears_c3)) Q fr st := rfl
def C.catnaplaw9_RegsClears_c10 : ICode := .keep [0, 2, 8, 10, 13, 14, 104] (.cond (.slot 104) .skip (.exit 4))
theorem C.catnaplaw9_RegsClears_c10_w : awp P C.catnaplaw9_RegsClears_c10 Q fr st = awp P (.keep [0, 2, 8, 10, 13, 14, 104] (.cond (.slot 104) .skip (.exit 4))) Q fr st := rfl
def C.catnaplaw9_RegsClears_r19_b : List IOper := [
  ⟨some 101, .move (.slot 14), none, [], []⟩,
  ⟨some 102, .move (.slot 0), none, [], []⟩,
  ⟨some 103, .len (.slot 102), none, [], []⟩,
  ⟨some 104, .bin .lss (.slot 101) (.slot 103), none, [], []⟩]
def C.catnaplaw9_RegsClears_r19 : List IOper := C.catnaplaw9_RegsClears_r19_b
theorem C.catnaplaw9_RegsClears_r19_w {k : AFr → ASt → Prop} : aops P C.catnaplaw9_RegsClears_r19 k fr st = aops P C.catnaplaw9_RegsClears_r19_b k fr st := rfl
def C.catnaplaw9_RegsClears_l11 : ICode := .keep [0, 2, 8, 10, 13, 14] (.seq (.seq (.region C.catnaplaw9_RegsClears_r19) C.catnaplaw9_RegsClears_c10) C.catnaplaw9_RegsClears_c9)
theorem C.catnaplaw9_RegsClears_l11_w : awp P C.catnaplaw9_RegsClears_l11 Q fr st = awp P (.keep [0, 2, 8, 10, 13, 14] (.seq (.seq (.region C.catnaplaw9_RegsClears_r19) C.catnaplaw9_RegsClears_c10) C.catnaplaw9_RegsClears_c9)) Q fr st := rfl
def C.catnaplaw9_RegsClears_b12 : ICode := .loop C.catnaplaw9_RegsClears_l11
theorem C.catnaplaw9_RegsClears_b12_w : awp P C.catnaplaw9_RegsClears_b12 Q fr st = awp P (.loop C.catnaplaw9_RegsClears_l11) Q fr st := rfl
def C.catnaplaw9_RegsClears_c13 : ICode := .keep [0, 2, 8, 10, 13, 14] (.block 4 C.catnaplaw9_RegsClears_b12)
theorem C.catnaplaw9_RegsClears_c13_w : awp P C.catnaplaw9_RegsClears_c13 Q fr st = awp P (.keep [0, 2, 8, 10, 13, 14] (.block 4 C.catnaplaw9_RegsClears_b12)) Q fr st := rfl
def C.catnaplaw9_RegsClears_r18_b : List IOper := [
  ⟨some 14, .move (.cst (.int .i64 0)), none, [], []⟩]
def C.catnaplaw9_RegsClears_r18 : List IOper := C.catnaplaw9_RegsClears_r18_b
theorem C.catnaplaw9_RegsClears_r18_w {k : AFr → ASt → Prop} : aops P C.catnaplaw9_RegsClears_r18 k fr st = aops P C.catnaplaw9_RegsClears_r18_b k fr st := rfl
def C.catnaplaw9_RegsClears_c14 : ICode := .keep [0, 2, 8, 10, 13] (.seq (.region C.catnaplaw9_RegsClears_r18) C.catnaplaw9_RegsClears_c13)
theorem C.catnaplaw9_RegsClears_c14_w : awp P C.catnaplaw9_RegsClears_c14 Q fr st = awp P (.keep [0, 2, 8, 10, 13] (.seq (.region C.catnaplaw9_RegsClears_r18) C.catnaplaw9_RegsClears_c13)) Q fr st := rfl
def C.catnaplaw9_RegsClears_r17_b : List IOper := [
  ⟨some 6, .move (.cst (.bool false)), none, [], []⟩]
def C.catnaplaw9_RegsClears_r17 : List IOper := C.catnaplaw9_RegsClears_r17_b
theorem C.catnaplaw9_RegsClears_r17_w {k : AFr → ASt → Prop} : aops P C.catnaplaw9_RegsClears_r17 k fr st = aops P C.catnaplaw9_RegsClears_r17_b k fr st := rfl
def C.catnaplaw9_RegsClears_c15 : ICode := .seq (.region C.catnaplaw9_RegsClears_r17) .ret
theorem C.catnaplaw9_RegsClears_c15_w : awp P C.catnaplaw9_RegsClears_c15 Q fr st = awp P (.seq (.region C.catnaplaw9_RegsClears_r17) .ret) Q fr st := rfl
def C.catnaplaw9_RegsClears_c16 : ICode := .keep [0, 2, 8, 10, 13, 100] (.cond (.slot 100) C.catnaplaw9_RegsClears_c15 .skip)
theorem C.catnaplaw9_RegsClears_c16_w : awp P C.catnaplaw9_RegsClears_c16 Q fr st = awp P (.keep [0, 2, 8, 10, 13, 100] (.cond (.slot 100) C.catnaplaw9_RegsClears_c15 .skip)) Q fr st := rfl
def C.catnaplaw9_RegsClears_r16_b : List IOper := [
  ⟨some 84, .move (.slot 8), none, [], []⟩,
  ⟨some 85, .move (.slot 2), none, [], []⟩,
  ⟨some 86, .move (.slot 13), none, [], []⟩,
  ⟨some 87, .idxAddr 3 (.slot 85) (.slot 86), none, [], []⟩,
  ⟨some 88, .loadN 3 (.slot 87), none, [], []⟩,
  ⟨some 89, .move (.slot 0), none, [], []⟩,
  ⟨some 90, .len (.slot 89), none, [], []⟩,
  ⟨some 92, .move (.slot 10), none, [], []⟩,
  ⟨some 93, .move (.slot 2), none, [], []⟩,
  ⟨some 94, .move (.slot 13), none, [], []⟩,
  ⟨some 95, .idxAddr 3 (.slot 93) (.slot 94), none, [], []⟩,
  ⟨some 96, .loadN 3 (.slot 95), none, [], []⟩,
  ⟨some 97, .move (.slot 0), none, [], []⟩,
  ⟨some 98, .len (.slot 97), none, [], []⟩,
  ⟨some 91, .call F.catnaplaw9_does [.slot 84, .slot 88, .slot 90], none, [⟨.loadN 3 (.slot 95), 96, none⟩], []⟩,
  ⟨some 99, .call F.catnaplaw9_does [.slot 92, .slot 96, .slot 98], none, [], []⟩,
  ⟨some 100, .bin .neq (.slot 91) (.slot 99), none, [], []⟩]
def C.catnaplaw9_RegsClears_r16 : List IOper := C.catnaplaw9_RegsClears_r16_b
theorem C.catnaplaw9_RegsClears_r16_w {k : AFr → ASt → Prop} : aops P C.catnaplaw9_RegsClears_r16 k fr st = aops P C.catnaplaw9_RegsClears_r16_b k fr st := rfl
def C.catnaplaw9_RegsClears_b17 : ICode := .seq (.seq (.region C.catnaplaw9_RegsClears_r16) C.catnaplaw9_RegsClears_c16) C.catnaplaw9_RegsClears_c14
theorem C.catnaplaw9_RegsClears_b17_w : awp P C.catnaplaw9_RegsClears_b17 Q fr st = awp P (.seq (.seq (.region C.catnaplaw9_RegsClears_r16) C.catnaplaw9_RegsClears_c16) C.catnaplaw9_RegsClears_c14) Q fr st := rfl
def C.catnaplaw9_RegsClears_c18 : ICode := .keep [0, 2, 8, 10, 13] (.seq (.block 3 C.catnaplaw9_RegsClears_b17) C.catnaplaw9_RegsClears_c2)
theorem C.catnaplaw9_RegsClears_c18_w : awp P C.catnaplaw9_RegsClears_c18 Q fr st = awp P (.keep [0, 2, 8, 10, 13] (.seq (.block 3 C.catnaplaw9_RegsClears_b17) C.catnaplaw9_RegsClears_c2)) Q fr st := rfl
def C.catnaplaw9_RegsClears_c19 : ICode := .keep [0, 2, 8, 10, 13, 81] (.cond (.slot 81) .skip (.exit 2))
theorem C.catnaplaw9_RegsClears_c19_w : awp P C.catnaplaw9_RegsClears_c19 Q fr st = awp P (.keep [0, 2, 8, 10, 13, 81] (.cond (.slot 81) .skip (.exit 2))) Q fr st := rfl
def C.catnaplaw9_RegsClears_r14_b : List IOper := [
  ⟨some 78, .move (.slot 13), none, [], []⟩,
  ⟨some 79, .move (.slot 2), none, [], []⟩,
  ⟨some 80, .len (.slot 79), none, [], []⟩,
  ⟨some 81, .bin .lss (.slot 78) (.slot 80), none, [], []⟩]
def C.catnaplaw9_RegsClears_r14 : List IOper := C.catnaplaw9_RegsClears_r14_b
theorem C.catnaplaw9_RegsClears_r14_w {k : AFr → ASt → Prop} : aops P C.catnaplaw9_RegsClears_r14 k fr st = aops P C.catnaplaw9_RegsClears_r14_b k fr st := rfl
def C.catnaplaw9_RegsClears_l20 : ICode := .keep [0, 2, 8, 10, 13] (.seq (.seq (.region C.catnaplaw9_RegsClears_r14) C.catnaplaw9_RegsClears_c19) C.catnaplaw9_RegsClears_c18)
theorem C.catnaplaw9_RegsClears_l20_w : awp P C.catnaplaw9_RegsClears_l20 Q fr st = awp P (.keep [0, 2, 8, 10, 13] (.seq (.seq (.region C.catnaplaw9_RegsClears_r14) C.catnaplaw9_RegsClears_c19) C.catnaplaw9_RegsClears_c18)) Q fr st := rfl
def C.catnaplaw9_RegsClears_b21 : ICode := .loop C.catnaplaw9_RegsClears_l20
theorem C.catnaplaw9_RegsClears_b21_w : awp P C.catnaplaw9_RegsClears_b21 Q fr st = awp P (.loop C.catnaplaw9_RegsClears_l20) Q fr st := rfl
def C.catnaplaw9_RegsClears_c22 : ICode := .keep [0, 2, 8, 10, 13] (.block 2 C.catnaplaw9_RegsClears_b21)
theorem C.catnaplaw9_RegsClears_c22_w : awp P C.catnaplaw9_RegsClears_c22 Q fr st = awp P (.keep [0, 2, 8, 10, 13] (.block 2 C.catnaplaw9_RegsClears_b21)) Q fr st := rfl
def C.catnaplaw9_RegsClears_r13_b : List IOper := [
  ⟨some 13, .move (.cst (.int .i64 0)), none, [], []⟩]
def C.catnaplaw9_RegsClears_r13 : List IOper := C.catnaplaw9_RegsClears_r13_b
theorem C.catnaplaw9_RegsClears_r13_w {k : AFr → ASt → Prop} : aops P C.catnaplaw9_RegsClears_r13 k fr st = aops P C.catnaplaw9_RegsClears_r13_b k fr st := rfl
def C.catnaplaw9_RegsClears_c23 : ICode := .keep [0, 2, 8, 10] (.seq (.seq (.region C.catnaplaw9_RegsClears_r13) C.catnaplaw9_RegsClears_c22) C.catnaplaw9_RegsClears_c1)
theorem C.catnaplaw9_RegsClears_c23_w : awp P C.catnaplaw9_RegsClears_c23 Q fr st = awp P (.keep [0, 2, 8, 10] (.seq (.seq (.region C.catnaplaw9_RegsClears_r13) C.catnaplaw9_RegsClears_c22) C.catnaplaw9_RegsClears_c1)) Q fr st := rfl
def C.catnaplaw9_RegsClears_r12_b : List IOper := [
  ⟨some 76, .move (.slot 8), none, [], []⟩,
  ⟨some 77, .call F.regs_File_Clear [.slot 76], none, [], []⟩]
def C.catnaplaw9_RegsClears_r12 : List IOper := C.catnaplaw9_RegsClears_r12_b
theorem C.catnaplaw9_RegsClears_r12_w {k : AFr → ASt → Prop} : aops P C.catnaplaw9_RegsClears_r12 k fr st = aops P C.catnaplaw9_RegsClears_r12_b k fr st := rfl
def C.catnaplaw9_RegsClears_c24 : ICode := .keep [0, 2, 8, 10] (.seq (.region C.catnaplaw9_RegsClears_r12) C.catnaplaw9_RegsClears_c23)
theorem C.catnaplaw9_RegsClears_c24_w : awp P C.catnaplaw9_RegsClears_c24 Q fr st = awp P (.keep [0, 2, 8, 10] (.seq (.region C.catnaplaw9_RegsClears_r12) C.catnaplaw9_RegsClears_c23)) Q fr st := rfl
def C.catnaplaw9_RegsClears_r10_b : List IOper := [
  ⟨some 66, .move (.slot 12), none, [], []⟩,
  ⟨some 67, .bin .add (.slot 66) (.cst (.int .i64 1)), none, [], []⟩,
  ⟨some 12, .move (.slot 67), none, [], []⟩]
def C.catnaplaw9_RegsClears_r10 : List IOper := C.catnaplaw9_RegsClears_r10_b
theorem C.catnaplaw9_RegsClears_r10_w {k : AFr → ASt → Prop} : aops P C.catnaplaw9_RegsClears_r10 k fr st = aops P C.catnaplaw9_RegsClears_r10_b k fr st := rfl
def C.catnaplaw9_RegsClears_c25 : ICode := .keep [0, 1, 2, 8, 10, 12] (.region C.catnaplaw9_RegsClears_r10)
theorem C.catnaplaw9_RegsClears_c25_w : awp P C.catnaplaw9_RegsClears_c25 Q fr st = awp P (.keep [0, 1, 2, 8, 10, 12] (.region C.catnaplaw9_RegsClears_r10)) Q fr st := rfl
def C.catnaplaw9_RegsClears_r11_b : List IOper := [
  ⟨some 68, .move (.slot 8), none, [], []⟩,
  ⟨some 69, .move (.slot 1), none, [], []⟩,
  ⟨some 70, .move (.slot 12), none, [], []⟩,
  ⟨some 71, .idxAddr 3 (.slot 69) (.slot 70), none, [], []⟩,
  ⟨some 72, .loadN 3 (.slot 71), none, [], []⟩,
  ⟨some 73, .move (.slot 0), none, [], []⟩,
  ⟨some 74, .len (.slot 73), none, [], []⟩,
  ⟨some 75, .call F.catnaplaw9_does [.slot 68, .slot 72, .slot 74], none, [], []⟩]
def C.catnaplaw9_RegsClears_r11 : List IOper := C.catnaplaw9_RegsClears_r11_b
theorem C.catnaplaw9_RegsClears_r11_w {k : AFr → ASt → Prop} : aops P C.catnaplaw9_RegsClears_r11 k fr st = aops P C.catnaplaw9_RegsClears_r11_b k fr st := rfl
def C.catnaplaw9_RegsClears_b26 : ICode := .region C.catnaplaw9_RegsClears_r11
theorem C.catnaplaw9_RegsClears_b26_w : awp P C.catnaplaw9_RegsClears_b26 Q fr st = awp P (.region C.catnaplaw9_RegsClears_r11) Q fr st := rfl
def C.catnaplaw9_RegsClears_c27 : ICode := .keep [0, 1, 2, 8, 10, 12] (.seq (.block 1 C.catnaplaw9_RegsClears_b26) C.catnaplaw9_RegsClears_c25)
theorem C.catnaplaw9_RegsClears_c27_w : awp P C.catnaplaw9_RegsClears_c27 Q fr st = awp P (.keep [0, 1, 2, 8, 10, 12] (.seq (.block 1 C.catnaplaw9_RegsClears_b26) C.catnaplaw9_RegsClears_c25)) Q fr st := rfl
def C.catnaplaw9_RegsClears_c28 : ICode := .keep [0, 1, 2, 8, 10, 12, 65] (.cond (.slot 65) .skip (.exit 0))
theorem C.catnaplaw9_RegsClears_c28_w : awp P C.catnaplaw9_RegsClears_c28 Q fr st = awp P (.keep [0, 1, 2, 8, 10, 12, 65] (.cond (.slot 65) .skip (.exit 0))) Q fr st := rfl
def C.catnaplaw9_RegsClears_r9_b : List IOper := [
  ⟨some 62, .move (.slot 12), none, [], []⟩,
  ⟨some 63, .move (.slot 1), none, [], []⟩,
  ⟨some 64, .len (.slot 63), none, [], []⟩,
  ⟨some 65, .bin .lss (.slot 62) (.slot 64), none, [], []⟩]
def C.catnaplaw9_RegsClears_r9 : List IOper := C.catnaplaw9_RegsClears_r9_b
theorem C.catnaplaw9_RegsClears_r9_w {k : AFr → ASt → Prop} : aops P C.catnaplaw9_RegsClears_r9 k fr st = aops P C.catnaplaw9_RegsClears_r9_b k fr st := rfl
def C.catnaplaw9_RegsClears_l29 : ICode := .keep [0, 1, 2, 8, 10, 12] (.seq (.seq (.region C.catnaplaw9_RegsClears_r9) C.catnaplaw9_RegsClears_c28) C.catnaplaw9_RegsClears_c27)
theorem C.catnaplaw9_RegsClears_l29_w : awp P C.catnaplaw9_RegsClears_l29 Q fr st = awp P (.keep [0, 1, 2, 8, 10, 12] (.seq (.seq (.region C.catnaplaw9_RegsClears_r9) C.catnaplaw9_RegsClears_c28) C.catnaplaw9_RegsClears_c27)) Q fr st := rfl
def C.catnaplaw9_RegsClears_b30 : ICode := .loop C.catnaplaw9_RegsClears_l29
theorem C.catnaplaw9_RegsClears_b30_w : awp P C.catnaplaw9_RegsClears_b30 Q fr st = awp P (.loop C.catnaplaw9_RegsClears_l29) Q fr st := rfl
def C.catnaplaw9_RegsClears_c31 : ICode := .keep [0, 1, 2, 8, 10, 12] (.block 0 C.catnaplaw9_RegsClears_b30)
theorem C.catnaplaw9_RegsClears_c31_w : awp P C.catnaplaw9_RegsClears_c31 Q fr st = awp P (.keep [0, 1, 2, 8, 10, 12] (.block 0 C.catnaplaw9_RegsClears_b30)) Q fr st := rfl
def C.catnaplaw9_RegsClears_r8_b : List IOper := [
  ⟨some 12, .move (.cst (.int .i64 0)), none, [], []⟩]
def C.catnaplaw9_RegsClears_r8 : List IOper := C.catnaplaw9_RegsClears_r8_b
theorem C.catnaplaw9_RegsClears_r8_w {k : AFr → ASt → Prop} : aops P C.catnaplaw9_RegsClears_r8 k fr st = aops P C.catnaplaw9_RegsClears_r8_b k fr st := rfl
def C.catnaplaw9_RegsClears_c32 : ICode := .keep [0, 1, 2, 8, 10] (.seq (.seq (.region C.catnaplaw9_RegsClears_r8) C.catnaplaw9_RegsClears_c31) C.catnaplaw9_RegsClears_c24)
theorem C.catnaplaw9_RegsClears_c32_w : awp P C.catnaplaw9_RegsClears_c32 Q fr st = awp P (.keep [0, 1, 2, 8, 10] (.seq (.seq (.region C.catnaplaw9_RegsClears_r8) C.catnaplaw9_RegsClears_c31) C.catnaplaw9_RegsClears_c24)) Q fr st := rfl
def C.catnaplaw9_RegsClears_r7_b : List IOper := [
  ⟨some 6, .move (.cst (.bool false)), none, [], []⟩]
def C.catnaplaw9_RegsClears_r7 : List IOper := C.catnaplaw9_RegsClears_r7_b
theorem C.catnaplaw9_RegsClears_r7_w {k : AFr → ASt → Prop} : aops P C.catnaplaw9_RegsClears_r7 k fr st = aops P C.catnaplaw9_RegsClears_r7_b k fr st := rfl
def C.catnaplaw9_RegsClears_c33 : ICode := .seq (.region C.catnaplaw9_RegsClears_r7) .ret
theorem C.catnaplaw9_RegsClears_c33_w : awp P C.catnaplaw9_RegsClears_c33 Q fr st = awp P (.seq (.region C.catnaplaw9_RegsClears_r7) .ret) Q fr st := rfl
def C.catnaplaw9_RegsClears_c34 : ICode := .keep [0, 1, 2, 8, 10, 61] (.cond (.slot 61) C.catnaplaw9_RegsClears_c33 .skip)
theorem C.catnaplaw9_RegsClears_c34_w : awp P C.catnaplaw9_RegsClears_c34 Q fr st = awp P (.keep [0, 1, 2, 8, 10, 61] (.cond (.slot 61) C.catnaplaw9_RegsClears_c33 .skip)) Q fr st := rfl
def C.catnaplaw9_RegsClears_r6_b : List IOper := [
  ⟨some 48, .move (.slot 8), none, [], []⟩,
  ⟨some 49, .eqP 0 false (.slot 48) (.cst (.nilp)), none, [], []⟩,
  ⟨some 50, .move (.slot 49), none, [], []⟩,
  ⟨some 51, .move (.slot 10), some (50, false), [], []⟩,
  ⟨some 52, .eqP 0 false (.slot 51) (.cst (.nilp)), some (50, false), [], []⟩,
  ⟨some 53, .pick (.slot 50) (.cst (.bool true)) (.slot 52), none, [], []⟩,
  ⟨some 54, .move (.slot 53), none, [], []⟩,
  ⟨some 55, .move (.slot 9), some (54, false), [], []⟩,
  ⟨some 56, .bin .neq (.slot 55) (.cst (.int .i64 0)), some (54, false), [], []⟩,
  ⟨some 57, .pick (.slot 54) (.cst (.bool true)) (.slot 56), none, [], []⟩,
  ⟨some 58, .move (.slot 57), none, [], []⟩,
  ⟨some 59, .move (.slot 11), some (58, false), [], []⟩,
  ⟨some 60, .bin .neq (.slot 59) (.cst (.int .i64 0)), some (58, false), [], []⟩,
  ⟨some 61, .pick (.slot 58) (.cst (.bool true)) (.slot 60), none, [], []⟩]
def C.catnaplaw9_RegsClears_r6 : List IOper := C.catnaplaw9_RegsClears_r6_b
theorem C.catnaplaw9_RegsClears_r6_w {k : AFr → ASt → Prop} : aops P C.catnaplaw9_RegsClears_r6 k fr st = aops P C.catnaplaw9_RegsClears_r6_b k fr st := rfl
def C.catnaplaw9_RegsClears_c35 : ICode := .keep [0, 1, 2, 8, 9, 10, 11] (.seq (.seq (.region C.catnaplaw9_RegsClears_r6) C.catnaplaw9_RegsClears_c34) C.catnaplaw9_RegsClears_c32)
theorem C.catnaplaw9_RegsClears_c35_w : awp P C.catnaplaw9_RegsClears_c35 Q fr st = awp P (.keep [0, 1, 2, 8, 9, 10, 11] (.seq (.seq (.region C.catnaplaw9_RegsClears_r6) C.catnaplaw9_RegsClears_c34) C.catnaplaw9_RegsClears_c32)) Q fr st := rfl
def C.catnaplaw9_RegsClears_r5_b : List IOper := [
  ⟨some 44, .move (.slot 0), none, [], []⟩,
  ⟨some 45, .call F.regs_New [.slot 44], none, [], []⟩,
  ⟨some 43, .move (.slot 45), none, [], []⟩,
  ⟨some 46, .extract (.slot 43) 0, none, [], []⟩,
  ⟨some 47, .extract (.slot 43) 1, none, [], []⟩,
  ⟨some 10, .move (.slot 46), none, [], []⟩,
  ⟨some 11, .move (.slot 47), none, [], []⟩]
def C.catnaplaw9_RegsClears_r5 : List IOper := C.catnaplaw9_RegsClears_r5_b
theorem C.catnaplaw9_RegsClears_r5_w {k : AFr → ASt → Prop} : aops P C.catnaplaw9_RegsClears_r5 k fr st = aops P C.catnaplaw9_RegsClears_r5_b k fr st := rfl
def C.catnaplaw9_RegsClears_c36 : ICode := .keep [0, 1, 2, 8, 9] (.seq (.region C.catnaplaw9_RegsClears_r5) C.catnaplaw9_RegsClears_c35)
theorem C.catnaplaw9_RegsClears_c36_w : awp P C.catnaplaw9_RegsClears_c36 Q fr st = awp P (.keep [0, 1, 2, 8, 9] (.seq (.region C.catnaplaw9_RegsClears_r5) C.catnaplaw9_RegsClears_c35)) Q fr st := rfl
def C.catnaplaw9_RegsClears_r4_b : List IOper := [
  ⟨some 39, .move (.slot 0), none, [], []⟩,
  ⟨some 40, .call F.regs_New [.slot 39], none, [], []⟩,
  ⟨some 38, .move (.slot 40), none, [], []⟩,
  ⟨some 41, .extract (.slot 38) 0, none, [], []⟩,
  ⟨some 42, .extract (.slot 38) 1, none, [], []⟩,
  ⟨some 8, .move (.slot 41), none, [], []⟩,
  ⟨some 9, .move (.slot 42), none, [], []⟩]
def C.catnaplaw9_RegsClears_r4 : List IOper := C.catnaplaw9_RegsClears_r4_b
theorem C.catnaplaw9_RegsClears_r4_w {k : AFr → ASt → Prop} : aops P C.catnaplaw9_RegsClears_r4 k fr st = aops P C.catnaplaw9_RegsClears_r4_b k fr st := rfl
def C.catnaplaw9_RegsClears_c37 : ICode := .keep [0, 1, 2] (.seq (.region C.catnaplaw9_RegsClears_r4) C.catnaplaw9_RegsClears_c36)
theorem C.catnaplaw9_RegsClears_c37_w : awp P C.catnaplaw9_RegsClears_c37 Q fr st = awp P (.keep [0, 1, 2] (.seq (.region C.catnaplaw9_RegsClears_r4) C.catnaplaw9_RegsClears_c36)) Q fr st := rfl
def C.catnaplaw9_RegsClears_r3_b : List IOper := [
  ⟨some 37, .move (.slot 7), none, [], []⟩,
  ⟨some 6, .move (.slot 37), none, [], []⟩]
def C.catnaplaw9_RegsClears_r3 : List IOper := C.catnaplaw9_RegsClears_r3_b
theorem C.catnaplaw9_RegsClears_r3_w {k : AFr → ASt → Prop} : aops P C.catnaplaw9_RegsClears_r3 k fr st = aops P C.catnaplaw9_RegsClears_r3_b k fr st := rfl
def C.catnaplaw9_RegsClears_c38 : ICode := .seq (.region C.catnaplaw9_RegsClears_r3) .ret
theorem C.catnaplaw9_RegsClears_c38_w : awp P C.catnaplaw9_RegsClears_c38 Q fr st = awp P (.seq (.region C.catnaplaw9_RegsClears_r3) .ret) Q fr st := rfl
def C.catnaplaw9_RegsClears_c39 : ICode := .keep [0, 1, 2, 7, 36] (.cond (.slot 36) C.catnaplaw9_RegsClears_c38 .skip)
theorem C.catnaplaw9_RegsClears_c39_w : awp P C.catnaplaw9_RegsClears_c39 Q fr st = awp P (.keep [0, 1, 2, 7, 36] (.cond (.slot 36) C.catnaplaw9_RegsClears_c38 .skip)) Q fr st := rfl
def C.catnaplaw9_RegsClears_r2_b : List IOper := [
  ⟨some 20, .move (.slot 7), none, [], []⟩,
  ⟨some 21, .un .not (.slot 20), none, [], []⟩,
  ⟨some 22, .move (.slot 21), none, [], []⟩,
  ⟨some 23, .move (.slot 0), some (22, false), [], []⟩,
  ⟨some 24, .len (.slot 23), some (22, false), [], []⟩,
  ⟨some 25, .bin .gtr (.slot 24) (.cst (.int .i64 8)), some (22, false), [], []⟩,
  ⟨some 26, .pick (.slot 22) (.cst (.bool true)) (.slot 25), none, [], []⟩,
  ⟨some 27, .move (.slot 26), none, [], []⟩,
  ⟨some 28, .move (.slot 1), some (27, false), [], []⟩,
  ⟨some 29, .len (.slot 28), some (27, false), [], []⟩,
  ⟨some 30, .bin .gtr (.slot 29) (.cst (.int .i64 100)), some (27, false), [], []⟩,
  ⟨some 31, .pick (.slot 27) (.cst (.bool true)) (.slot 30), none, [], []⟩,
  ⟨some 32, .move (.slot 31), none, [], []⟩,
  ⟨some 33, .move (.slot 2), some (32, false), [], []⟩,
  ⟨some 34, .len (.slot 33), some (32, false), [], []⟩,
  ⟨some 35, .bin .gtr (.slot 34) (.cst (.int .i64 100)), some (32, false), [], []⟩,
  ⟨some 36, .pick (.slot 32) (.cst (.bool true)) (.slot 35), none, [], []⟩]
def C.catnaplaw9_RegsClears_r2 : List IOper := C.catnaplaw9_RegsClears_r2_b
theorem C.catnaplaw9_RegsClears_r2_w {k : AFr → ASt → Prop} : aops P C.catnaplaw9_RegsClears_r2 k fr st = aops P C.catnaplaw9_RegsClears_r2_b k fr st := rfl
def C.catnaplaw9_RegsClears_c40 : ICode := .keep [0, 1, 2, 7] (.seq (.seq (.region C.catnaplaw9_RegsClears_r2) C.catnaplaw9_RegsClears_c39) C.catnaplaw9_RegsClears_c37)
theorem C.catnaplaw9_RegsClears_c40_w : awp P C.catnaplaw9_RegsClears_c40 Q fr st = awp P (.keep [0, 1, 2, 7] (.seq (.seq (.region C.catnaplaw9_RegsClears_r2) C.catnaplaw9_RegsClears_c39) C.catnaplaw9_RegsClears_c37)) Q fr st := rfl
def C.catnaplaw9_RegsClears_r1_b : List IOper := [
  ⟨some 19, .call F.catnaplaw9_shown [], none, [], []⟩,
  ⟨some 7, .move (.slot 19), none, [], []⟩]
def C.catnaplaw9_RegsClears_r1 : List IOper := C.catnaplaw9_RegsClears_r1_b
theorem C.catnaplaw9_RegsClears_r1_w {k : AFr → ASt → Prop} : aops P C.catnaplaw9_RegsClears_r1 k fr st = aops P C.catnaplaw9_RegsClears_r1_b k fr st := rfl
def C.catnaplaw9_RegsClears_c41 : ICode := .keep [0, 1, 2] (.seq (.region C.catnaplaw9_RegsClears_r1) C.catnaplaw9_RegsClears_c40)
theorem C.catnaplaw9_RegsClears_c41_w : awp P C.catnaplaw9_RegsClears_c41 Q fr st = awp P (.keep [0, 1, 2] (.seq (.region C.catnaplaw9_RegsClears_r1) C.catnaplaw9_RegsClears_c40)) Q fr st := rfl
def C.catnaplaw9_RegsClears_r0_b : List IOper := [
  ⟨some 6, .move (.cst (.bool false)), none, [], []⟩]
def C.catnaplaw9_RegsClears_r0 : List IOper := C.catnaplaw9_RegsClears_r0_b
theorem C.catnaplaw9_RegsClears_r0_w {k : AFr → ASt → Prop} : aops P C.catnaplaw9_RegsClears_r0 k fr st = aops P C.catnaplaw9_RegsClears_r0_b k fr st := rfl
def C.catnaplaw9_RegsClears : IFunc := ⟨3, [.slot 6], .seq (.region C.catnaplaw9_RegsClears_r0) C.catnaplaw9_RegsClears_c41⟩
def C.catnaplaw9_RegsClears_W := And.intro (And.intro (And.intro (And.intro (And.intro (And.intro @C.catnaplaw9_RegsClears_r25_w @C.catnaplaw9_RegsClears_c1_w) (And.intro @C.catnaplaw9_RegsClears_r15_w @C.catnaplaw9_RegsClears_c2_w)) (And.intro (And.intro @C.catnaplaw9_RegsClears_r20_w @C.catnaplaw9_RegsClears_c3_w) (And.intro @C.catnaplaw9_RegsClears_r24_w @C.catnaplaw9_RegsClears_c4_w))) (And.intro (And.intro (And.intro @C.catnaplaw9_RegsClears_c5_w @C.catnaplaw9_RegsClears_r23_w) (And.intro @C.catnaplaw9_RegsClears_c6_w @C.catnaplaw9_RegsClears_r22_w)) (And.intro (And.intro @C.catnaplaw9_RegsClears_c7_w @C.catnaplaw9_RegsClears_r21_w) (And.intro @C.catnaplaw9_RegsClears_b8_w @C.catnaplaw9_RegsClears_c9_w)))) (And.intro (And.intro (And.intro (And.intro @C.catnaplaw9_RegsClears_c10_w @C.catnaplaw9_RegsClears_r19_w) (And.intro @C.catnaplaw9_RegsClears_b12_w @C.catnaplaw9_RegsClears_c13_w)) (And.intro (And.intro @C.catnaplaw9_RegsClears_r18_w @C.catnaplaw9_RegsClears_c14_w) (And.intro @C.catnaplaw9_RegsClears_r17_w @C.catnaplaw9_RegsClears_c15_w))) (And.intro (And.intro (And.intro @C.catnaplaw9_RegsClears_c16_w @C.catnaplaw9_RegsClears_r16_w) (And.intro @C.catnaplaw9_RegsClears_b17_w @C.catnaplaw9_RegsClears_c18_w)) (And.intro (And.intro @C.catnaplaw9_RegsClears_c19_w @C.catnaplaw9_RegsClears_r14_w) (And.intro @C.catnaplaw9_RegsClears_b21_w @C.catnaplaw9_RegsClears_c22_w))))) (And.intro (And.intro (And.intro (And.intro (And.intro @C.catnaplaw9_RegsClears_r13_w @C.catnaplaw9_RegsClears_c23_w) (And.intro @C.catnaplaw9_RegsClears_r12_w @C.catnaplaw9_RegsClears_c24_w)) (And.intro (And.intro @C.catnaplaw9_RegsClears_r10_w @C.catnaplaw9_RegsClears_c25_w) (And.intro @C.catnaplaw9_RegsClears_r11_w @C.catnaplaw9_RegsClears_b26_w))) (And.intro (And.intro (And.intro @C.catnaplaw9_RegsClears_c27_w @C.catnaplaw9_RegsClears_c28_w) (And.intro @C.catnaplaw9_RegsClears_r9_w @C.catnaplaw9_RegsClears_b30_w)) (And.intro (And.intro @C.catnaplaw9_RegsClears_c31_w @C.catnaplaw9_RegsClears_r8_w) (And.intro @C.catnaplaw9_RegsClears_c32_w @C.catnaplaw9_RegsClears_r7_w)))) (And.intro (And.intro (And.intro (And.intro @C.catnaplaw9_RegsClears_c33_w @C.catnaplaw9_RegsClears_c34_w) (And.intro @C.catnaplaw9_RegsClears_r6_w @C.catnaplaw9_RegsClears_c35_w)) (And.intro (And.intro @C.catnaplaw9_RegsClears_r5_w @C.catnaplaw9_RegsClears_c36_w) (And.intro @C.catnaplaw9_RegsClears_r4_w @C.catnaplaw9_RegsClears_c37_w))) (And.intro (And.intro (And.intro @C.catnaplaw9_RegsClears_r3_w @C.catnaplaw9_RegsClears_c38_w) (And.intro @C.catnaplaw9_RegsClears_c39_w @C.catnaplaw9_RegsClears_r2_w)) (And.intro (And.intro @C.catnaplaw9_RegsClears_c40_w @C.catnaplaw9_RegsClears_r1_w) (And.intro @C.catnaplaw9_RegsClears_c41_w @C.catnaplaw9_RegsClears_r0_w)))))
def C.catnaplaw9_RegsClears_B := And.intro (And.intro (And.intro (And.intro @C.catnaplaw9_RegsClears_r25_b.eq_1 (And.intro @C.catnaplaw9_RegsClears_r15_b.eq_1 @C.catnaplaw9_RegsClears_r20_b.eq_1)) (And.intro @C.catnaplaw9_RegsClears_r24_b.eq_1 (And.intro @C.catnaplaw9_RegsClears_r23_b.eq_1 @C.catnaplaw9_RegsClears_r22_b.eq_1))) (And.intro (And.intro @C.catnaplaw9_RegsClears_r21_b.eq_1 (And.intro @C.catnaplaw9_RegsClears_r19_b.eq_1 @C.catnaplaw9_RegsClears_r18_b.eq_1)) (And.intro (And.intro @C.catnaplaw9_RegsClears_r17_b.eq_1 @C.catnaplaw9_RegsClears_r16_b.eq_1) (And.intro @C.catnaplaw9_RegsClears_r14_b.eq_1 @C.catnaplaw9_RegsClears_r13_b.eq_1)))) (And.intro (And.intro (And.intro @C.catnaplaw9_RegsClears_r12_b.eq_1 (And.intro @C.catnaplaw9_RegsClears_r10_b.eq_1 @C.catnaplaw9_RegsClears_r11_b.eq_1)) (And.intro @C.catnaplaw9_RegsClears_r9_b.eq_1 (And.intro @C.catnaplaw9_RegsClears_r8_b.eq_1 @C.catnaplaw9_RegsClears_r7_b.eq_1))) (And.intro (And.intro @C.catnaplaw9_RegsClears_r6_b.eq_1 (And.intro @C.catnaplaw9_RegsClears_r5_b.eq_1 @C.catnaplaw9_RegsClears_r4_b.eq_1)) (And.intro (And.intro @C.catnaplaw9_RegsClears_r3_b.eq_1 @C.catnaplaw9_RegsClears_r2_b.eq_1) (And.intro @C.catnaplaw9_RegsClears_r1_b.eq_1 @C.catnaplaw9_RegsClears_r0_b.eq_1))))

def C.catnaplaw9_shown_r8_b : List IOper := [
  ⟨some 33, .move (.slot 3), none, [], []⟩,
  ⟨some 34, .bin .eql (.slot 33) (.cst (.int .u32 7)), none, [], []⟩,
  ⟨some 35, .move (.slot 34), none, [], []⟩,
  ⟨some 36, .move (.slot 4), some (35, true), [], []⟩,
  ⟨some 37, .bin .eql (.slot 36) (.cst (.int .i64 0)), some (35, true), [], []⟩,
  ⟨some 38, .pick (.slot 35) (.slot 37) (.cst (.bool false)), none, [], []⟩,
  ⟨some 0, .move (.slot 38), none, [], []⟩]
def C.catnaplaw9_shown_r8 : List IOper := C.catnaplaw9_shown_r8_b
theorem C.catnaplaw9_shown_r8_w {k : AFr → ASt → Prop} : aops P C.catnaplaw9_shown_r8 k fr st = aops P C.catnaplaw9_shown_r8_b k fr st := rfl
def C.catnaplaw9_shown_c1 : ICode := .keep [3, 4] (.seq (.region C.catnaplaw9_shown_r8) .ret)
theorem C.catnaplaw9_shown_c1_w : awp P C.catnaplaw9_shown_c1 Q fr st = awp P (.keep [3, 4] (.seq (.region C.catnaplaw9_shown_r8) .ret)) Q fr st := rfl
def C.catnaplaw9_shown_r7_b : List IOper := [
  ⟨some 29, .move (.slot 1), none, [], []⟩,
  ⟨some 30, .call F.regs_File_Read [.slot 29, .cst (.int .i64 0)], none, [], []⟩,
  ⟨some 28, .move (.slot 30), none, [], []⟩,
  ⟨some 31, .extract (.slot 28) 0, none, [], []⟩,
  ⟨some 32, .extract (.slot 28) 1, none, [], []⟩,
  ⟨some 3, .move (.slot 31), none, [], []⟩,
  ⟨some 4, .move (.slot 32), none, [], []⟩]
def C.catnaplaw9_shown_r7 : List IOper := C.catnaplaw9_shown_r7_b
theorem C.catnaplaw9_shown_r7_w {k : AFr → ASt → Prop} : aops P C.catnaplaw9_shown_r7 k fr st = aops P C.catnaplaw9_shown_r7_b k fr st := rfl
def C.catnaplaw9_shown_c2 : ICode := .keep [1] (.seq (.region C.catnaplaw9_shown_r7) C.catnaplaw9_shown_c1)
theorem C.catnaplaw9_shown_c2_w : awp P C.catnaplaw9_shown_c2 Q fr st = awp P (.keep [1] (.seq (.region C.catnaplaw9_shown_r7) C.catnaplaw9_shown_c1)) Q fr st := rfl
def C.catnaplaw9_shown_r6_b : List IOper := [
  ⟨some 26, .move (.slot 1), none, [], []⟩,
  ⟨some 27, .call F.regs_File_Restore [.slot 26], none, [], []⟩]
def C.catnaplaw9_shown_r6 : List IOper := C.catnaplaw9_shown_r6_b
theorem C.catnaplaw9_shown_r6_w {k : AFr → ASt → Prop} : aops P C.catnaplaw9_shown_r6 k fr st = aops P C.catnaplaw9_shown_r6_b k fr st := rfl
def C.catnaplaw9_shown_c3 : ICode := .keep [1] (.seq (.region C.catnaplaw9_shown_r6) C.catnaplaw9_shown_c2)
theorem C.catnaplaw9_shown_c3_w : awp P C.catnaplaw9_shown_c3 Q fr st = awp P (.keep [1] (.seq (.region C.catnaplaw9_shown_r6) C.catnaplaw9_shown_c2)) Q fr st := rfl
def C.catnaplaw9_shown_r5_b : List IOper := [
  ⟨some 24, .move (.slot 1), none, [], []⟩,
  ⟨some 25, .call F.regs_File_Write [.slot 24, .cst (.int .i64 0), .cst (.int .u32 9)], none, [], []⟩]
def C.catnaplaw9_shown_r5 : List IOper := C.catnaplaw9_shown_r5_b
theorem C.catnaplaw9_shown_r5_w {k : AFr → ASt → Prop} : aops P C.catnaplaw9_shown_r5 k fr st = aops P C.catnaplaw9_shown_r5_b k fr st := rfl
def C.catnaplaw9_shown_c4 : ICode := .keep [1] (.seq (.region C.catnaplaw9_shown_r5) C.catnaplaw9_shown_c3)
theorem C.catnaplaw9_shown_c4_w : awp P C.catnaplaw9_shown_c4 Q fr st = awp P (.keep [1] (.seq (.region C.catnaplaw9_shown_r5) C.catnaplaw9_shown_c3)) Q fr st := rfl
def C.catnaplaw9_shown_r4_b : List IOper := [
  ⟨some 22, .move (.slot 1), none, [], []⟩,
  ⟨some 23, .call F.regs_File_Save [.slot 22], none, [], []⟩]
def C.catnaplaw9_shown_r4 : List IOper := C.catnaplaw9_shown_r4_b
theorem C.catnaplaw9_shown_r4_w {k : AFr → ASt → Prop} : aops P C.catnaplaw9_shown_r4 k fr st = aops P C.catnaplaw9_shown_r4_b k fr st := rfl
def C.catnaplaw9_shown_c5 : ICode := .keep [1] (.seq (.region C.catnaplaw9_shown_r4) C.catnaplaw9_shown_c4)
theorem C.catnaplaw9_shown_c5_w : awp P C.catnaplaw9_shown_c5 Q fr st = awp P (.keep [1] (.seq (.region C.catnaplaw9_shown_r4) C.catnaplaw9_shown_c4)) Q fr st := rfl
def C.catnaplaw9_shown_r3_b : List IOper := [
  ⟨some 0, .move (.cst (.bool false)), none, [], []⟩]
def C.catnaplaw9_shown_r3 : List IOper := C.catnaplaw9_shown_r3_b
theorem C.catnaplaw9_shown_r3_w {k : AFr → ASt → Prop} : aops P C.catnaplaw9_shown_r3 k fr st = aops P C.catnaplaw9_shown_r3_b k fr st := rfl
def C.catnaplaw9_shown_c6 : ICode := .seq (.region C.catnaplaw9_shown_r3) .ret
theorem C.catnaplaw9_shown_c6_w : awp P C.catnaplaw9_shown_c6 Q fr st = awp P (.seq (.region C.catnaplaw9_shown_r3) .ret) Q fr st := rfl
def C.catnaplaw9_shown_c7 : ICode := .keep [1, 21] (.cond (.slot 21) C.catnaplaw9_shown_c6 .skip)
theorem C.catnaplaw9_shown_c7_w : awp P C.catnaplaw9_shown_c7 Q fr st = awp P (.keep [1, 21] (.cond (.slot 21) C.catnaplaw9_shown_c6 .skip)) Q fr st := rfl
def C.catnaplaw9_shown_r2_b : List IOper := [
  ⟨some 11, .move (.slot 1), none, [], []⟩,
  ⟨some 12, .eqP 0 false (.slot 11) (.cst (.nilp)), none, [], []⟩,
  ⟨some 13, .move (.slot 12), none, [], []⟩,
  ⟨some 14, .move (.slot 2), some (13, false), [], []⟩,
  ⟨some 15, .bin .neq (.slot 14) (.cst (.int .i64 0)), some (13, false), [], []⟩,
  ⟨some 16, .pick (.slot 13) (.cst (.bool true)) (.slot 15), none, [], []⟩,
  ⟨some 17, .move (.slot 16), none, [], []⟩,
  ⟨some 18, .move (.slot 1), some (17, false), [], []⟩,
  ⟨some 19, .call F.regs_File_Write [.slot 18, .cst (.int .i64 0), .cst (.int .u32 7)], some (17, false), [], []⟩,
  ⟨some 20, .bin .neq (.slot 19) (.cst (.int .i64 0)), some (17, false), [], []⟩,
  ⟨some 21, .pick (.slot 17) (.cst (.bool true)) (.slot 20), none, [], []⟩]
def C.catnaplaw9_shown_r2 : List IOper := C.catnaplaw9_shown_r2_b
theorem C.catnaplaw9_shown_r2_w {k : AFr → ASt → Prop} : aops P C.catnaplaw9_shown_r2 k fr st = aops P C.catnaplaw9_shown_r2_b k fr st := rfl
def C.catnaplaw9_shown_c8 : ICode := .keep [1, 2] (.seq (.seq (.region C.catnaplaw9_shown_r2) C.catnaplaw9_shown_c7) C.catnaplaw9_shown_c5)
theorem C.catnaplaw9_shown_c8_w : awp P C.catnaplaw9_shown_c8 Q fr st = awp P (.keep [1, 2] (.seq (.seq (.region C.catnaplaw9_shown_r2) C.catnaplaw9_shown_c7) C.catnaplaw9_shown_c5)) Q fr st := rfl
def C.catnaplaw9_shown_r1_b : List IOper := [
  ⟨some 6, .build [.int .u32 0, .bool false] [(0, 1, .cst (.int .u32 5)), (1, 1, .cst (.bool true))], none, [], []⟩,
  ⟨some 7, .buildSlice 2 1 [.int .u32 0, .bool false] [(0, 2, .slot 6)], none, [], []⟩,
  ⟨some 8, .call F.regs_New [.slot 7], none, [], []⟩,
  ⟨some 5, .move (.slot 8), none, [], []⟩,
  ⟨some 9, .extract (.slot 5) 0, none, [], []⟩,
  ⟨some 10, .extract (.slot 5) 1, none, [], []⟩,
  ⟨some 1, .move (.slot 9), none, [], []⟩,
  ⟨some 2, .move (.slot 10), none, [], []⟩]
def C.catnaplaw9_shown_r1 : List IOper := C.catnaplaw9_shown_r1_b
theorem C.catnaplaw9_shown_r1_w {k : AFr → ASt → Prop} : aops P C.catnaplaw9_shown_r1 k fr st = aops P C.catnaplaw9_shown_r1_b k fr st := rfl
def C.catnaplaw9_shown_c9 : ICode := .keep [] (.seq (.region C.catnaplaw9_shown_r1) C.catnaplaw9_shown_c8)
theorem C.catnaplaw9_shown_c9_w : awp P C.catnaplaw9_shown_c9 Q fr st = awp P (.keep [] (.seq (.region C.catnaplaw9_shown_r1) C.catnaplaw9_shown_c8)) Q fr st := rfl
def C.catnaplaw9_shown_r0_b : List IOper := [
  ⟨some 0, .move (.cst (.bool false)), none, [], []⟩]
def C.catnaplaw9_shown_r0 : List IOper := C.catnaplaw9_shown_r0_b
theorem C.catnaplaw9_shown_r0_w {k : AFr → ASt → Prop} : aops P C.catnaplaw9_shown_r0 k fr st = aops P C.catnaplaw9_shown_r0_b k fr st := rfl
def C.catnaplaw9_shown : IFunc := ⟨0, [.slot 0], .seq (.region C.catnaplaw9_shown_r0) C.catnaplaw9_shown_c9⟩
def C.catnaplaw9_shown_W := And.intro (And.intro (And.intro (And.intro @C.catnaplaw9_shown_r8_w @C.catnaplaw9_shown_c1_w) (And.intro @C.catnaplaw9_shown_r7_w @C.catnaplaw9_shown_c2_w)) (And.intro (And.intro @C.catnaplaw9_shown_r6_w @C.catnaplaw9_shown_c3_w) (And.intro @C.catnaplaw9_shown_r5_w (And.intro @C.catnaplaw9_shown_c4_w @C.catnaplaw9_shown_r4_w)))) (And.intro (And.intro (And.intro @C.catnaplaw9_shown_c5_w @C.catnaplaw9_shown_r3_w) (And.intro @C.catnaplaw9_shown_c6_w @C.catnaplaw9_shown_c7_w)) (And.intro (And.intro @C.catnaplaw9_shown_r2_w @C.catnaplaw9_shown_c8_w) (And.intro @C.catnaplaw9_shown_r1_w (And.intro @C.catnaplaw9_shown_c9_w @C.catnaplaw9_shown_r0_w))))
def C.catnaplaw9_shown_B := And.intro (And.intro (And.intro @C.catnaplaw9_shown_r8_b.eq_1 @C.catnaplaw9_shown_r7_b.eq_1) (And.intro @C.catnaplaw9_shown_r6_b.eq_1 @C.catnaplaw9_shown_r5_b.eq_1)) (And.intro (And.intro @C.catnaplaw9_shown_r4_b.eq_1 @C.catnaplaw9_shown_r3_b.eq_1) (And.intro @C.catnaplaw9_shown_r2_b.eq_1 (And.intro @C.catnaplaw9_shown_r1_b.eq_1 @C.catnaplaw9_shown_r0_b.eq_1)))

def C.regs_New_r5_b : List IOper := [
  ⟨some 20, .move (.slot 4), none, [], []⟩,
  ⟨some 2, .move (.slot 20), none, [], []⟩,
  ⟨some 3, .move (.cst (.int .i64 0)), none, [], []⟩]
def C.regs_New_r5 : List IOper := C.regs_New_r5_b
theorem C.regs_New_r5_w {k : AFr → ASt → Prop} : aops P C.regs_New_r5 k fr st = aops P C.regs_New_r5_b k fr st := rfl
def C.regs_New_c1 : ICode := .keep [4] (.seq (.region C.regs_New_r5) .ret)
theorem C.regs_New_c1_w : awp P C.regs_New_c1 Q fr st = awp P (.keep [4] (.seq (.region C.regs_New_r5) .ret)) Q fr st := rfl
def C.regs_New_r4_b : List IOper := [
  ⟨some 18, .move (.slot 4), none, [], []⟩,
  ⟨some 19, .call F.regs_File_Clear [.slot 18], none, [], []⟩]
def C.regs_New_r4 : List IOper := C.regs_New_r4_b
theorem C.regs_New_r4_w {k : AFr → ASt → Prop} : aops P C.regs_New_r4 k fr st = aops P C.regs_New_r4_b k fr st := rfl
def C.regs_New_c2 : ICode := .keep [4] (.seq (.region C.regs_New_r4) C.regs_New_c1)
theorem C.regs_New_c2_w : awp P C.regs_New_c2 Q fr st = awp P (.keep [4] (.seq (.region C.regs_New_r4) C.regs_New_c1)) Q fr st := rfl
def C.regs_New_r3_b : List IOper := [
  ⟨some 8, .move (.slot 0), none, [], []⟩,
  ⟨some 10, .move (.slot 0), none, [], []⟩,
  ⟨some 11, .len (.slot 10), none, [], []⟩,
  ⟨some 13, .move (.slot 0), none, [], []⟩,
  ⟨some 14, .len (.slot 13), none, [], []⟩,
  ⟨some 9, .call F.slices_Clone_api_Reg_api_Reg [.slot 8], none, [], [(.slot 11, .slot 11), (.slot 14, .slot 14)]⟩,
  ⟨some 12, .makeSlice 1 4 [.int .u32 0] (.slot 11) (.slot 11), none, [], [(.slot 14, .slot 14)]⟩,
  ⟨some 15, .makeSlice 1 4 [.int .u32 0] (.slot 14) (.slot 14), none, [], []⟩,
  ⟨some 16, .build [.nils, .nils, .nils, .bool false] [(0, 1, .slot 9), (1, 1, .slot 12), (2, 1, .slot 15)], none, [], []⟩,
  ⟨some 17, .boxN (.slot 16), none, [], []⟩,
  ⟨some 4, .move (.slot 17), none, [], []⟩]
def C.regs_New_r3 : List IOper := C.regs_New_r3_b
theorem C.regs_New_r3_w {k : AFr → ASt → Prop} : aops P C.regs_New_r3 k fr st = aops P C.regs_New_r3_b k fr st := rfl
def C.regs_New_c3 : ICode := .keep [0] (.seq (.region C.regs_New_r3) C.regs_New_c2)
theorem C.regs_New_c3_w : awp P C.regs_New_c3 Q fr st = awp P (.keep [0] (.seq (.region C.regs_New_r3) C.regs_New_c2)) Q fr st := rfl
def C.regs_New_r2_b : List IOper := [
  ⟨some 2, .move (.cst (.nilp)), none, [], []⟩,
  ⟨some 3, .move (.cst (.int .i64 8)), none, [], []⟩]
def C.regs_New_r2 : List IOper := C.regs_New_r2_b
theorem C.regs_New_r2_w {k : AFr → ASt → Prop} : aops P C.regs_New_r2 k fr st = aops P C.regs_New_r2_b k fr st := rfl
def C.regs_New_c4 : ICode := .seq (.region C.regs_New_r2) .ret
theorem C.regs_New_c4_w : awp P C.regs_New_c4 Q fr st = awp P (.seq (.region C.regs_New_r2) .ret) Q fr st := rfl
def C.regs_New_c5 : ICode := .keep [0, 7] (.cond (.slot 7) C.regs_New_c4 .skip)
theorem C.regs_New_c5_w : awp P C.regs_New_c5 Q fr st = awp P (.keep [0, 7] (.cond (.slot 7) C.regs_New_c4 .skip)) Q fr st := rfl
def C.regs_New_r1_b : List IOper := [
  ⟨some 5, .move (.slot 0), none, [], []⟩,
  ⟨some 6, .len (.slot 5), none, [], []⟩,
  ⟨some 7, .bin .gtr (.slot 6) (.cst (.int .i64 8)), none, [], []⟩]
def C.regs_New_r1 : List IOper := C.regs_New_r1_b
theorem C.regs_New_r1_w {k : AFr → ASt → Prop} : aops P C.regs_New_r1 k fr st = aops P C.regs_New_r1_b k fr st := rfl
def C.regs_New_c6 : ICode := .keep [0] (.seq (.seq (.region C.regs_New_r1) C.regs_New_c5) C.regs_New_c3)
theorem C.regs_New_c6_w : awp P C.regs_New_c6 Q fr st = awp P (.keep [0] (.seq (.seq (.region C.regs_New_r1) C.regs_New_c5) C.regs_New_c3)) Q fr st := rfl
def C.regs_New_r0_b : List IOper := [
  ⟨some 2, .move (.cst (.nilp)), none, [], []⟩,
  ⟨some 3, .move (.cst (.int .i64 0)), none, [], []⟩]
def C.regs_New_r0 : List IOper := C.regs_New_r0_b
theorem C.regs_New_r0_w {k : AFr → ASt → Prop} : aops P C.regs_New_r0 k fr st = aops P C.regs_New_r0_b k fr st := rfl
def C.regs_New : IFunc := ⟨1, [.slot 2, .slot 3], .seq (.region C.regs_New_r0) C.regs_New_c6⟩
def C.regs_New_W := And.intro (And.intro (And.intro @C.regs_New_r5_w (And.intro @C.regs_New_c1_w @C.regs_New_r4_w)) (And.intro @C.regs_New_c2_w (And.intro @C.regs_New_r3_w @C.regs_New_c3_w))) (And.intro (And.intro @C.regs_New_r2_w (And.intro @C.regs_New_c4_w @C.regs_New_c5_w)) (And.intro @C.regs_New_r1_w (And.intro @C.regs_New_c6_w @C.regs_New_r0_w)))
def C.regs_New_B := And.intro (And.intro @C.regs_New_r5_b.eq_1 (And.intro @C.regs_New_r4_b.eq_1 @C.regs_New_r3_b.eq_1)) (And.intro @C.regs_New_r2_b.eq_1 (And.intro @C.regs_New_r1_b.eq_1 @C.regs_New_r0_b.eq_1))

end Go.Proofs.Ytlnhljcfcnmglaa.Cn
