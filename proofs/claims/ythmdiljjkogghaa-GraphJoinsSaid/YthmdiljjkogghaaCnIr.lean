/- The intermediate code of the functions, printed by a program out of the loaded program; that it is theirs is checked in the text of links. -/
import Derived.Test.YthmdiljjkogghaaCnIr1
set_option linter.defProp false
namespace Go.Proofs.Ythmdiljjkogghaa.Cn
open Go
variable {P : Program} {Q : IExit → AFr → ASt → Prop} {fr : AFr} {st : ASt}


def C.graph_Order_r20_b : List IOper := [
  ⟨some 73, .move (.slot 8), none, [], []⟩,
  ⟨some 2, .move (.slot 73), none, [], []⟩,
  ⟨some 3, .move (.cst (.int .i64 0)), none, [], []⟩]
def C.graph_Order_r20 : List IOper := C.graph_Order_r20_b
theorem C.graph_Order_r20_w {k : AFr → ASt → Prop} : aops P C.graph_Order_r20 k fr st = aops P C.graph_Order_r20_b k fr st := rfl
def C.graph_Order_c1 : ICode := .keep [8] (.seq (.region C.graph_Order_r20) .ret)
theorem C.graph_Order_c1_w : awp P C.graph_Order_c1 Q fr st = awp P (.keep [8] (.seq (.region C.graph_Order_r20) .ret)) Q fr st := rfl
def C.graph_Order_r19_b : List IOper := [
  ⟨some 72, .bin .add (.slot 62) (.cst (.int .i64 1)), none, [], []⟩,
  ⟨some 62, .move (.slot 72), none, [], []⟩]
def C.graph_Order_r19 : List IOper := C.graph_Order_r19_b
theorem C.graph_Order_r19_w {k : AFr → ASt → Prop} : aops P C.graph_Order_r19 k fr st = aops P C.graph_Order_r19_b k fr st := rfl
def C.graph_Order_c2 : ICode := .keep [0, 5, 6, 7, 8, 60, 61, 62] (.region C.graph_Order_r19)
theorem C.graph_Order_c2_w : awp P C.graph_Order_c2 Q fr st = awp P (.keep [0, 5, 6, 7, 8, 60, 61, 62] (.region C.graph_Order_r19)) Q fr st := rfl
def C.graph_Order_r18_b : List IOper := [
  ⟨some 66, .move (.slot 5), none, [], []⟩,
  ⟨some 67, .move (.slot 11), none, [], []⟩,
  ⟨some 68, .idxAddr 1 (.slot 66) (.slot 67), none, [], []⟩,
  ⟨some 69, .load1 (.slot 68), none, [], []⟩,
  ⟨some 70, .bin .sub (.slot 69) (.cst (.int .i64 1)), none, [], []⟩,
  ⟨some 71, .idxAddr 1 (.slot 66) (.slot 67), none, [], []⟩,
  ⟨none, .store1 (.slot 71) (.slot 70), none, [], []⟩]
def C.graph_Order_r18 : List IOper := C.graph_Order_r18_b
theorem C.graph_Order_r18_w {k : AFr → ASt → Prop} : aops P C.graph_Order_r18 k fr st = aops P C.graph_Order_r18_b k fr st := rfl
def C.graph_Order_c3 : ICode := .keep [0, 5, 6, 7, 8, 11, 60, 61, 62] (.region C.graph_Order_r18)
theorem C.graph_Order_c3_w : awp P C.graph_Order_c3 Q fr st = awp P (.keep [0, 5, 6, 7, 8, 11, 60, 61, 62] (.region C.graph_Order_r18)) Q fr st := rfl
def C.graph_Order_r17_b : List IOper := [
  ⟨some 64, .idxAddr 1 (.slot 60) (.slot 62), none, [], []⟩,
  ⟨some 65, .load1 (.slot 64), none, [], []⟩,
  ⟨some 11, .move (.slot 65), none, [], []⟩]
def C.graph_Order_r17 : List IOper := C.graph_Order_r17_b
theorem C.graph_Order_r17_w {k : AFr → ASt → Prop} : aops P C.graph_Order_r17 k fr st = aops P C.graph_Order_r17_b k fr st := rfl
def C.graph_Order_b4 : ICode := .seq (.region C.graph_Order_r17) C.graph_Order_c3
theorem C.graph_Order_b4_w : awp P C.graph_Order_b4 Q fr st = awp P (.seq (.region C.graph_Order_r17) C.graph_Order_c3) Q fr st := rfl
def C.graph_Order_c5 : ICode := .keep [0, 5, 6, 7, 8, 60, 61, 62] (.seq (.block 5 C.graph_Order_b4) C.graph_Order_c2)
theorem C.graph_Order_c5_w : awp P C.graph_Order_c5 Q fr st = awp P (.keep [0, 5, 6, 7, 8, 60, 61, 62] (.seq (.block 5 C.graph_Order_b4) C.graph_Order_c2)) Q fr st := rfl
def C.graph_Order_c6 : ICode := .keep [0, 5, 6, 7, 8, 60, 61, 62, 63] (.seq (.cond (.slot 63) .skip (.exit 4)) C.graph_Order_c5)
theorem C.graph_Order_c6_w : awp P C.graph_Order_c6 Q fr st = awp P (.keep [0, 5, 6, 7, 8, 60, 61, 62, 63] (.seq (.cond (.slot 63) .skip (.exit 4)) C.graph_Order_c5)) Q fr st := rfl
def C.graph_Order_r16_b : List IOper := [
  ⟨some 63, .bin .lss (.slot 62) (.slot 61), none, [], []⟩]
def C.graph_Order_r16 : List IOper := C.graph_Order_r16_b
theorem C.graph_Order_r16_w {k : AFr → ASt → Prop} : aops P C.graph_Order_r16 k fr st = aops P C.graph_Order_r16_b k fr st := rfl
def C.graph_Order_l7 : ICode := .keep [0, 5, 6, 7, 8, 60, 61, 62] (.seq (.region C.graph_Order_r16) C.graph_Order_c6)
theorem C.graph_Order_l7_w : awp P C.graph_Order_l7 Q fr st = awp P (.keep [0, 5, 6, 7, 8, 60, 61, 62] (.seq (.region C.graph_Order_r16) C.graph_Order_c6)) Q fr st := rfl
def C.graph_Order_b8 : ICode := .loop C.graph_Order_l7
theorem C.graph_Order_b8_w : awp P C.graph_Order_b8 Q fr st = awp P (.loop C.graph_Order_l7) Q fr st := rfl
def C.graph_Order_c9 : ICode := .keep [0, 5, 6, 7, 8, 60, 61, 62] (.block 4 C.graph_Order_b8)
theorem C.graph_Order_c9_w : awp P C.graph_Order_c9 Q fr st = awp P (.keep [0, 5, 6, 7, 8, 60, 61, 62] (.block 4 C.graph_Order_b8)) Q fr st := rfl
def C.graph_Order_r15_b : List IOper := [
  ⟨some 57, .move (.slot 6), none, [], []⟩,
  ⟨some 58, .move (.slot 9), none, [], []⟩,
  ⟨some 59, .idxAddr 1 (.slot 57) (.slot 58), none, [], []⟩,
  ⟨some 60, .load1 (.slot 59), none, [], []⟩,
  ⟨some 61, .len (.slot 60), none, [], []⟩,
  ⟨some 62, .move (.cst (.int .i64 0)), none, [], []⟩]
def C.graph_Order_r15 : List IOper := C.graph_Order_r15_b
theorem C.graph_Order_r15_w {k : AFr → ASt → Prop} : aops P C.graph_Order_r15 k fr st = aops P C.graph_Order_r15_b k fr st := rfl
def C.graph_Order_c10 : ICode := .keep [0, 5, 6, 7, 8, 9] (.seq (.region C.graph_Order_r15) C.graph_Order_c9)
theorem C.graph_Order_c10_w : awp P C.graph_Order_c10 Q fr st = awp P (.keep [0, 5, 6, 7, 8, 9] (.seq (.region C.graph_Order_r15) C.graph_Order_c9)) Q fr st := rfl
def C.graph_Order_r14_b : List IOper := [
  ⟨some 53, .move (.slot 8), none, [], []⟩,
  ⟨some 54, .move (.slot 9), none, [], []⟩,
  ⟨some 55, .buildSlice 1 1 [.int .i64 0] [(0, 1, .slot 54)], none, [], []⟩,
  ⟨some 56, .append 1 8 (.slot 53) (.slot 55), none, [], []⟩,
  ⟨some 8, .move (.slot 56), none, [], []⟩]
def C.graph_Order_r14 : List IOper := C.graph_Order_r14_b
theorem C.graph_Order_r14_w {k : AFr → ASt → Prop} : aops P C.graph_Order_r14 k fr st = aops P C.graph_Order_r14_b k fr st := rfl
def C.graph_Order_c11 : ICode := .keep [0, 5, 6, 7, 8, 9] (.seq (.region C.graph_Order_r14) C.graph_Order_c10)
theorem C.graph_Order_c11_w : awp P C.graph_Order_c11 Q fr st = awp P (.keep [0, 5, 6, 7, 8, 9] (.seq (.region C.graph_Order_r14) C.graph_Order_c10)) Q fr st := rfl
def C.graph_Order_r13_b : List IOper := [
  ⟨some 50, .move (.slot 7), none, [], []⟩,
  ⟨some 51, .move (.slot 9), none, [], []⟩,
  ⟨some 52, .call F.graph_marks_add [.slot 50, .slot 51], none, [], []⟩]
def C.graph_Order_r13 : List IOper := C.graph_Order_r13_b
theorem C.graph_Order_r13_w {k : AFr → ASt → Prop} : aops P C.graph_Order_r13 k fr st = aops P C.graph_Order_r13_b k fr st := rfl
def C.graph_Order_c12 : ICode := .keep [0, 5, 6, 7, 8, 9] (.seq (.region C.graph_Order_r13) C.graph_Order_c11)
theorem C.graph_Order_c12_w : awp P C.graph_Order_c12 Q fr st = awp P (.keep [0, 5, 6, 7, 8, 9] (.seq (.region C.graph_Order_r13) C.graph_Order_c11)) Q fr st := rfl
def C.graph_Order_r12_b : List IOper := [
  ⟨some 2, .move (.cst (.nils)), none, [], []⟩,
  ⟨some 3, .move (.cst (.int .i64 5)), none, [], []⟩]
def C.graph_Order_r12 : List IOper := C.graph_Order_r12_b
theorem C.graph_Order_r12_w {k : AFr → ASt → Prop} : aops P C.graph_Order_r12 k fr st = aops P C.graph_Order_r12_b k fr st := rfl
def C.graph_Order_c13 : ICode := .seq (.region C.graph_Order_r12) .ret
theorem C.graph_Order_c13_w : awp P C.graph_Order_c13 Q fr st = awp P (.seq (.region C.graph_Order_r12) .ret) Q fr st := rfl
def C.graph_Order_c14 : ICode := .keep [0, 5, 6, 7, 8, 9, 49] (.cond (.slot 49) C.graph_Order_c13 .skip)
theorem C.graph_Order_c14_w : awp P C.graph_Order_c14 Q fr st = awp P (.keep [0, 5, 6, 7, 8, 9, 49] (.cond (.slot 49) C.graph_Order_c13 .skip)) Q fr st := rfl
def C.graph_Order_r11_b : List IOper := [
  ⟨some 46, .move (.slot 9), none, [], []⟩,
  ⟨some 47, .move (.slot 0), none, [], []⟩,
  ⟨some 48, .len (.slot 47), none, [], []⟩,
  ⟨some 49, .bin .eql (.slot 46) (.slot 48), none, [], []⟩]
def C.graph_Order_r11 : List IOper := C.graph_Order_r11_b
theorem C.graph_Order_r11_w {k : AFr → ASt → Prop} : aops P C.graph_Order_r11 k fr st = aops P C.graph_Order_r11_b k fr st := rfl
def C.graph_Order_c15 : ICode := .keep [0, 5, 6, 7, 8, 9] (.seq (.seq (.region C.graph_Order_r11) C.graph_Order_c14) C.graph_Order_c12)
theorem C.graph_Order_c15_w : awp P C.graph_Order_c15 Q fr st = awp P (.keep [0, 5, 6, 7, 8, 9] (.seq (.seq (.region C.graph_Order_r11) C.graph_Order_c14) C.graph_Order_c12)) Q fr st := rfl
def C.graph_Order_r10_b : List IOper := [
  ⟨some 44, .move (.slot 9), none, [], []⟩,
  ⟨some 45, .bin .add (.slot 44) (.cst (.int .i64 1)), none, [], []⟩,
  ⟨some 9, .move (.slot 45), none, [], []⟩]
def C.graph_Order_r10 : List IOper := C.graph_Order_r10_b
theorem C.graph_Order_r10_w {k : AFr → ASt → Prop} : aops P C.graph_Order_r10 k fr st = aops P C.graph_Order_r10_b k fr st := rfl
def C.graph_Order_b16 : ICode := .region C.graph_Order_r10
theorem C.graph_Order_b16_w : awp P C.graph_Order_b16 Q fr st = awp P (.region C.graph_Order_r10) Q fr st := rfl
def C.graph_Order_c17 : ICode := .keep [0, 5, 6, 7, 8, 9] (.block 3 C.graph_Order_b16)
theorem C.graph_Order_c17_w : awp P C.graph_Order_c17 Q fr st = awp P (.keep [0, 5, 6, 7, 8, 9] (.block 3 C.graph_Order_b16)) Q fr st := rfl
def C.graph_Order_c18 : ICode := .keep [0, 5, 6, 7, 8, 9, 43] (.cond (.slot 43) .skip (.exit 2))
theorem C.graph_Order_c18_w : awp P C.graph_Order_c18 Q fr st = awp P (.keep [0, 5, 6, 7, 8, 9, 43] (.cond (.slot 43) .skip (.exit 2))) Q fr st := rfl
def C.graph_Order_r9_b : List IOper := [
  ⟨some 28, .move (.slot 9), none, [], []⟩,
  ⟨some 29, .move (.slot 0), none, [], []⟩,
  ⟨some 30, .len (.slot 29), none, [], []⟩,
  ⟨some 31, .bin .lss (.slot 28) (.slot 30), none, [], []⟩,
  ⟨some 32, .move (.slot 31), none, [], []⟩,
  ⟨some 33, .move (.slot 7), some (32, true), [], []⟩,
  ⟨some 34, .move (.slot 9), some (32, true), [], []⟩,
  ⟨some 35, .call F.graph_marks_has [.slot 33, .slot 34], some (32, true), [], []⟩,
  ⟨some 36, .move (.slot 35), some (32, true), [], []⟩,
  ⟨some 37, .move (.slot 5), some (36, false), [], []⟩,
  ⟨some 38, .move (.slot 9), some (36, false), [], []⟩,
  ⟨some 39, .idxAddr 1 (.slot 37) (.slot 38), some (36, false), [], []⟩,
  ⟨some 40, .load1 (.slot 39), some (36, false), [], []⟩,
  ⟨some 41, .bin .gtr (.slot 40) (.cst (.int .i64 0)), some (36, false), [], []⟩,
  ⟨some 42, .pick (.slot 36) (.cst (.bool true)) (.slot 41), some (32, true), [], []⟩,
  ⟨some 43, .pick (.slot 32) (.slot 42) (.cst (.bool false)), none, [], []⟩]
def C.graph_Order_r9 : List IOper := C.graph_Order_r9_b
theorem C.graph_Order_r9_w {k : AFr → ASt → Prop} : aops P C.graph_Order_r9 k fr st = aops P C.graph_Order_r9_b k fr st := rfl
def C.graph_Order_l19 : ICode := .keep [0, 5, 6, 7, 8, 9] (.seq (.seq (.region C.graph_Order_r9) C.graph_Order_c18) C.graph_Order_c17)
theorem C.graph_Order_l19_w : awp P C.graph_Order_l19 Q fr st = awp P (.keep [0, 5, 6, 7, 8, 9] (.seq (.seq (.region C.graph_Order_r9) C.graph_Order_c18) C.graph_Order_c17)) Q fr st := rfl
def C.graph_Order_b20 : ICode := .loop C.graph_Order_l19
theorem C.graph_Order_b20_w : awp P C.graph_Order_b20 Q fr st = awp P (.loop C.graph_Order_l19) Q fr st := rfl
def C.graph_Order_c21 : ICode := .keep [0, 5, 6, 7, 8, 9] (.seq (.block 2 C.graph_Order_b20) C.graph_Order_c15)
theorem C.graph_Order_c21_w : awp P C.graph_Order_c21 Q fr st = awp P (.keep [0, 5, 6, 7, 8, 9] (.seq (.block 2 C.graph_Order_b20) C.graph_Order_c15)) Q fr st := rfl
def C.graph_Order_r8_b : List IOper := [
  ⟨some 9, .move (.cst (.int .i64 0)), none, [], []⟩]
def C.graph_Order_r8 : List IOper := C.graph_Order_r8_b
theorem C.graph_Order_r8_w {k : AFr → ASt → Prop} : aops P C.graph_Order_r8 k fr st = aops P C.graph_Order_r8_b k fr st := rfl
def C.graph_Order_b22 : ICode := .seq (.region C.graph_Order_r8) C.graph_Order_c21
theorem C.graph_Order_b22_w : awp P C.graph_Order_b22 Q fr st = awp P (.seq (.region C.graph_Order_r8) C.graph_Order_c21) Q fr st := rfl
def C.graph_Order_c23 : ICode := .keep [0, 5, 6, 7, 8] (.block 1 C.graph_Order_b22)
theorem C.graph_Order_c23_w : awp P C.graph_Order_c23 Q fr st = awp P (.keep [0, 5, 6, 7, 8] (.block 1 C.graph_Order_b22)) Q fr st := rfl
def C.graph_Order_c24 : ICode := .keep [0, 5, 6, 7, 8, 27] (.cond (.slot 27) .skip (.exit 0))
theorem C.graph_Order_c24_w : awp P C.graph_Order_c24 Q fr st = awp P (.keep [0, 5, 6, 7, 8, 27] (.cond (.slot 27) .skip (.exit 0))) Q fr st := rfl
def C.graph_Order_r7_b : List IOper := [
  ⟨some 23, .move (.slot 8), none, [], []⟩,
  ⟨some 24, .len (.slot 23), none, [], []⟩,
  ⟨some 25, .move (.slot 0), none, [], []⟩,
  ⟨some 26, .len (.slot 25), none, [], []⟩,
  ⟨some 27, .bin .lss (.slot 24) (.slot 26), none, [], []⟩]
def C.graph_Order_r7 : List IOper := C.graph_Order_r7_b
theorem C.graph_Order_r7_w {k : AFr → ASt → Prop} : aops P C.graph_Order_r7 k fr st = aops P C.graph_Order_r7_b k fr st := rfl
def C.graph_Order_l25 : ICode := .keep [0, 5, 6, 7, 8] (.seq (.seq (.region C.graph_Order_r7) C.graph_Order_c24) C.graph_Order_c23)
theorem C.graph_Order_l25_w : awp P C.graph_Order_l25 Q fr st = awp P (.keep [0, 5, 6, 7, 8] (.seq (.seq (.region C.graph_Order_r7) C.graph_Order_c24) C.graph_Order_c23)) Q fr st := rfl
def C.graph_Order_b26 : ICode := .loop C.graph_Order_l25
theorem C.graph_Order_b26_w : awp P C.graph_Order_b26 Q fr st = awp P (.loop C.graph_Order_l25) Q fr st := rfl
def C.graph_Order_c27 : ICode := .keep [0, 5, 6, 7, 8] (.seq (.block 0 C.graph_Order_b26) C.graph_Order_c1)
theorem C.graph_Order_c27_w : awp P C.graph_Order_c27 Q fr st = awp P (.keep [0, 5, 6, 7, 8] (.seq (.block 0 C.graph_Order_b26) C.graph_Order_c1)) Q fr st := rfl
def C.graph_Order_r6_b : List IOper := [
  ⟨some 8, .move (.cst (.nils)), none, [], []⟩]
def C.graph_Order_r6 : List IOper := C.graph_Order_r6_b
theorem C.graph_Order_r6_w {k : AFr → ASt → Prop} : aops P C.graph_Order_r6 k fr st = aops P C.graph_Order_r6_b k fr st := rfl
def C.graph_Order_c28 : ICode := .keep [0, 5, 6, 7] (.seq (.region C.graph_Order_r6) C.graph_Order_c27)
theorem C.graph_Order_c28_w : awp P C.graph_Order_c28 Q fr st = awp P (.keep [0, 5, 6, 7] (.seq (.region C.graph_Order_r6) C.graph_Order_c27)) Q fr st := rfl
def C.graph_Order_r5_b : List IOper := [
  ⟨some 22, .makeMap none, none, [], []⟩,
  ⟨some 7, .move (.slot 22), none, [], []⟩]
def C.graph_Order_r5 : List IOper := C.graph_Order_r5_b
theorem C.graph_Order_r5_w {k : AFr → ASt → Prop} : aops P C.graph_Order_r5 k fr st = aops P C.graph_Order_r5_b k fr st := rfl
def C.graph_Order_c29 : ICode := .keep [0, 5, 6] (.seq (.region C.graph_Order_r5) C.graph_Order_c28)
theorem C.graph_Order_c29_w : awp P C.graph_Order_c29 Q fr st = awp P (.keep [0, 5, 6] (.seq (.region C.graph_Order_r5) C.graph_Order_c28)) Q fr st := rfl
def C.graph_Order_r4_b : List IOper := [
  ⟨some 18, .move (.slot 0), none, [], []⟩,
  ⟨some 19, .call F.graph_hang [.slot 18], none, [], []⟩,
  ⟨some 17, .move (.slot 19), none, [], []⟩,
  ⟨some 20, .extract (.slot 17) 0, none, [], []⟩,
  ⟨some 21, .extract (.slot 17) 1, none, [], []⟩,
  ⟨some 5, .move (.slot 20), none, [], []⟩,
  ⟨some 6, .move (.slot 21), none, [], []⟩]
def C.graph_Order_r4 : List IOper := C.graph_Order_r4_b
theorem C.graph_Order_r4_w {k : AFr → ASt → Prop} : aops P C.graph_Order_r4 k fr st = aops P C.graph_Order_r4_b k fr st := rfl
def C.graph_Order_c30 : ICode := .keep [0] (.seq (.region C.graph_Order_r4) C.graph_Order_c29)
theorem C.graph_Order_c30_w : awp P C.graph_Order_c30 Q fr st = awp P (.keep [0] (.seq (.region C.graph_Order_r4) C.graph_Order_c29)) Q fr st := rfl
def C.graph_Order_r3_b : List IOper := [
  ⟨some 16, .move (.slot 4), none, [], []⟩,
  ⟨some 2, .move (.cst (.nils)), none, [], []⟩,
  ⟨some 3, .move (.slot 16), none, [], []⟩]
def C.graph_Order_r3 : List IOper := C.graph_Order_r3_b
theorem C.graph_Order_r3_w {k : AFr → ASt → Prop} : aops P C.graph_Order_r3 k fr st = aops P C.graph_Order_r3_b k fr st := rfl
def C.graph_Order_c31 : ICode := .seq (.region C.graph_Order_r3) .ret
theorem C.graph_Order_c31_w : awp P C.graph_Order_c31 Q fr st = awp P (.seq (.region C.graph_Order_r3) .ret) Q fr st := rfl
def C.graph_Order_c32 : ICode := .keep [0, 4, 15] (.cond (.slot 15) C.graph_Order_c31 .skip)
theorem C.graph_Order_c32_w : awp P C.graph_Order_c32 Q fr st = awp P (.keep [0, 4, 15] (.cond (.slot 15) C.graph_Order_c31 .skip)) Q fr st := rfl
def C.graph_Order_r2_b : List IOper := [
  ⟨some 14, .move (.slot 4), none, [], []⟩,
  ⟨some 15, .bin .neq (.slot 14) (.cst (.int .i64 0)), none, [], []⟩]
def C.graph_Order_r2 : List IOper := C.graph_Order_r2_b
theorem C.graph_Order_r2_w {k : AFr → ASt → Prop} : aops P C.graph_Order_r2 k fr st = aops P C.graph_Order_r2_b k fr st := rfl
def C.graph_Order_c33 : ICode := .keep [0, 4] (.seq (.region C.graph_Order_r2) C.graph_Order_c32)
theorem C.graph_Order_c33_w : awp P C.graph_Order_c33 Q fr st = awp P (.keep [0, 4] (.seq (.region C.graph_Order_r2) C.graph_Order_c32)) Q fr st := rfl
def C.graph_Order_r1_b : List IOper := [
  ⟨some 12, .move (.slot 0), none, [], []⟩,
  ⟨some 13, .call F.graph_numbers [.slot 12], none, [], []⟩,
  ⟨some 4, .move (.slot 13), none, [], []⟩]
def C.graph_Order_r1 : List IOper := C.graph_Order_r1_b
theorem C.graph_Order_r1_w {k : AFr → ASt → Prop} : aops P C.graph_Order_r1 k fr st = aops P C.graph_Order_r1_b k fr st := rfl
def C.graph_Order_c34 : ICode := .keep [0] (.seq (.seq (.region C.graph_Order_r1) C.graph_Order_c33) C.graph_Order_c30)
theorem C.graph_Order_c34_w : awp P C.graph_Order_c34 Q fr st = awp P (.keep [0] (.seq (.seq (.region C.graph_Order_r1) C.graph_Order_c33) C.graph_Order_c30)) Q fr st := rfl
def C.graph_Order_r0_b : List IOper := [
  ⟨some 2, .move (.cst (.nils)), none, [], []⟩,
  ⟨some 3, .move (.cst (.int .i64 0)), none, [], []⟩]
def C.graph_Order_r0 : List IOper := C.graph_Order_r0_b
theorem C.graph_Order_r0_w {k : AFr → ASt → Prop} : aops P C.graph_Order_r0 k fr st = aops P C.graph_Order_r0_b k fr st := rfl
def C.graph_Order : IFunc := ⟨1, [.slot 2, .slot 3], .seq (.region C.graph_Order_r0) C.graph_Order_c34⟩
def C.graph_Order_W := And.intro (And.intro (And.intro (And.intro (And.intro @C.graph_Order_r20_w (And.intro @C.graph_Order_c1_w @C.graph_Order_r19_w)) (And.intro @C.graph_Order_c2_w (And.intro @C.graph_Order_r18_w @C.graph_Order_c3_w))) (And.intro (And.intro @C.graph_Order_r17_w (And.intro @C.graph_Order_b4_w @C.graph_Order_c5_w)) (And.intro (And.intro @C.graph_Order_c6_w @C.graph_Order_r16_w) (And.intro @C.graph_Order_b8_w @C.graph_Order_c9_w)))) (And.intro (And.intro (And.intro @C.graph_Order_r15_w (And.intro @C.graph_Order_c10_w @C.graph_Order_r14_w)) (And.intro @C.graph_Order_c11_w (And.intro @C.graph_Order_r13_w @C.graph_Order_c12_w))) (And.intro (And.intro @C.graph_Order_r12_w (And.intro @C.graph_Order_c13_w @C.graph_Order_c14_w)) (And.intro (And.intro @C.graph_Order_r11_w @C.graph_Order_c15_w) (And.intro @C.graph_Order_r10_w @C.graph_Order_b16_w))))) (And.intro (And.intro (And.intro (And.intro @C.graph_Order_c17_w (And.intro @C.graph_Order_c18_w @C.graph_Order_r9_w)) (And.intro @C.graph_Order_b20_w (And.intro @C.graph_Order_c21_w @C.graph_Order_r8_w))) (And.intro (And.intro @C.graph_Order_b22_w (And.intro @C.graph_Order_c23_w @C.graph_Order_c24_w)) (And.intro (And.intro @C.graph_Order_r7_w @C.graph_Order_b26_w) (And.intro @C.graph_Order_c27_w @C.graph_Order_r6_w)))) (And.intro (And.intro (And.intro @C.graph_Order_c28_w (And.intro @C.graph_Order_r5_w @C.graph_Order_c29_w)) (And.intro @C.graph_Order_r4_w (And.intro @C.graph_Order_c30_w @C.graph_Order_r3_w))) (And.intro (And.intro @C.graph_Order_c31_w (And.intro @C.graph_Order_c32_w @C.graph_Order_r2_w)) (And.intro (And.intro @C.graph_Order_c33_w @C.graph_Order_r1_w) (And.intro @C.graph_Order_c34_w @C.graph_Order_r0_w)))))
def C.graph_Order_B := And.intro (And.intro (And.intro (And.intro @C.graph_Order_r20_b.eq_1 @C.graph_Order_r19_b.eq_1) (And.intro @C.graph_Order_r18_b.eq_1 (And.intro @C.graph_Order_r17_b.eq_1 @C.graph_Order_r16_b.eq_1))) (And.intro (And.intro @C.graph_Order_r15_b.eq_1 @C.graph_Order_r14_b.eq_1) (And.intro @C.graph_Order_r13_b.eq_1 (And.intro @C.graph_Order_r12_b.eq_1 @C.graph_Order_r11_b.eq_1)))) (And.intro (And.intro (And.intro @C.graph_Order_r10_b.eq_1 @C.graph_Order_r9_b.eq_1) (And.intro @C.graph_Order_r8_b.eq_1 (And.intro @C.graph_Order_r7_b.eq_1 @C.graph_Order_r6_b.eq_1))) (And.intro (And.intro @C.graph_Order_r5_b.eq_1 (And.intro @C.graph_Order_r4_b.eq_1 @C.graph_Order_r3_b.eq_1)) (And.intro @C.graph_Order_r2_b.eq_1 (And.intro @C.graph_Order_r1_b.eq_1 @C.graph_Order_r0_b.eq_1))))

def C.graph_Check_r2_b : List IOper := [
  ⟨some 10, .move (.slot 4), none, [], []⟩,
  ⟨some 2, .move (.slot 10), none, [], []⟩]
def C.graph_Check_r2 : List IOper := C.graph_Check_r2_b
theorem C.graph_Check_r2_w {k : AFr → ASt → Prop} : aops P C.graph_Check_r2 k fr st = aops P C.graph_Check_r2_b k fr st := rfl
def C.graph_Check_c1 : ICode := .keep [4] (.seq (.region C.graph_Check_r2) .ret)
theorem C.graph_Check_c1_w : awp P C.graph_Check_c1 Q fr st = awp P (.keep [4] (.seq (.region C.graph_Check_r2) .ret)) Q fr st := rfl
def C.graph_Check_r1_b : List IOper := [
  ⟨some 6, .move (.slot 0), none, [], []⟩,
  ⟨some 7, .call F.graph_Order [.slot 6], none, [], []⟩,
  ⟨some 5, .move (.slot 7), none, [], []⟩,
  ⟨some 8, .extract (.slot 5) 0, none, [], []⟩,
  ⟨some 9, .extract (.slot 5) 1, none, [], []⟩,
  ⟨some 3, .move (.slot 8), none, [], []⟩,
  ⟨some 4, .move (.slot 9), none, [], []⟩]
def C.graph_Check_r1 : List IOper := C.graph_Check_r1_b
theorem C.graph_Check_r1_w {k : AFr → ASt → Prop} : aops P C.graph_Check_r1 k fr st = aops P C.graph_Check_r1_b k fr st := rfl
def C.graph_Check_c2 : ICode := .keep [0] (.seq (.region C.graph_Check_r1) C.graph_Check_c1)
theorem C.graph_Check_c2_w : awp P C.graph_Check_c2 Q fr st = awp P (.keep [0] (.seq (.region C.graph_Check_r1) C.graph_Check_c1)) Q fr st := rfl
def C.graph_Check_r0_b : List IOper := [
  ⟨some 2, .move (.cst (.int .i64 0)), none, [], []⟩]
def C.graph_Check_r0 : List IOper := C.graph_Check_r0_b
theorem C.graph_Check_r0_w {k : AFr → ASt → Prop} : aops P C.graph_Check_r0 k fr st = aops P C.graph_Check_r0_b k fr st := rfl
def C.graph_Check : IFunc := ⟨1, [.slot 2], .seq (.region C.graph_Check_r0) C.graph_Check_c2⟩
def C.graph_Check_W := And.intro (And.intro @C.graph_Check_r2_w @C.graph_Check_c1_w) (And.intro @C.graph_Check_r1_w (And.intro @C.graph_Check_c2_w @C.graph_Check_r0_w))
def C.graph_Check_B := And.intro @C.graph_Check_r2_b.eq_1 (And.intro @C.graph_Check_r1_b.eq_1 @C.graph_Check_r0_b.eq_1)

def C.graph_Above_r15_b : List IOper := [
  ⟨some 55, .move (.slot 6), none, [], []⟩,
  ⟨some 56, .move (.slot 8), none, [], []⟩,
  ⟨some 57, .move (.slot 1), none, [], []⟩,
  ⟨some 58, .call F.graph_others [.slot 55, .slot 56, .slot 57], none, [], []⟩,
  ⟨some 4, .move (.slot 58), none, [], []⟩,
  ⟨some 5, .move (.cst (.int .i64 0)), none, [], []⟩]
def C.graph_Above_r15 : List IOper := C.graph_Above_r15_b
theorem C.graph_Above_r15_w {k : AFr → ASt → Prop} : aops P C.graph_Above_r15 k fr st = aops P C.graph_Above_r15_b k fr st := rfl
def C.graph_Above_c1 : ICode := .keep [1, 6, 8] (.seq (.region C.graph_Above_r15) .ret)
theorem C.graph_Above_c1_w : awp P C.graph_Above_c1 Q fr st = awp P (.keep [1, 6, 8] (.seq (.region C.graph_Above_r15) .ret)) Q fr st := rfl
def C.graph_Above_r8_b : List IOper := [
  ⟨some 30, .move (.slot 9), none, [], []⟩,
  ⟨some 31, .bin .sub (.slot 30) (.cst (.int .i64 1)), none, [], []⟩,
  ⟨some 9, .move (.slot 31), none, [], []⟩]
def C.graph_Above_r8 : List IOper := C.graph_Above_r8_b
theorem C.graph_Above_r8_w {k : AFr → ASt → Prop} : aops P C.graph_Above_r8 k fr st = aops P C.graph_Above_r8_b k fr st := rfl
def C.graph_Above_c2 : ICode := .keep [0, 1, 6, 8, 9] (.region C.graph_Above_r8)
theorem C.graph_Above_c2_w : awp P C.graph_Above_c2 Q fr st = awp P (.keep [0, 1, 6, 8, 9] (.region C.graph_Above_r8)) Q fr st := rfl
def C.graph_Above_r14_b : List IOper := [
  ⟨some 54, .bin .add (.slot 47) (.cst (.int .i64 1)), none, [], []⟩,
  ⟨some 47, .move (.slot 54), none, [], []⟩]
def C.graph_Above_r14 : List IOper := C.graph_Above_r14_b
theorem C.graph_Above_r14_w {k : AFr → ASt → Prop} : aops P C.graph_Above_r14 k fr st = aops P C.graph_Above_r14_b k fr st := rfl
def C.graph_Above_c3 : ICode := .keep [0, 1, 6, 8, 9, 45, 46, 47] (.region C.graph_Above_r14)
theorem C.graph_Above_c3_w : awp P C.graph_Above_c3 Q fr st = awp P (.keep [0, 1, 6, 8, 9, 45, 46, 47] (.region C.graph_Above_r14)) Q fr st := rfl
def C.graph_Above_r13_b : List IOper := [
  ⟨some 51, .move (.slot 8), none, [], []⟩,
  ⟨some 52, .move (.slot 11), none, [], []⟩,
  ⟨some 53, .call F.graph_marks_add [.slot 51, .slot 52], none, [], []⟩]
def C.graph_Above_r13 : List IOper := C.graph_Above_r13_b
theorem C.graph_Above_r13_w {k : AFr → ASt → Prop} : aops P C.graph_Above_r13 k fr st = aops P C.graph_Above_r13_b k fr st := rfl
def C.graph_Above_c4 : ICode := .keep [0, 1, 6, 8, 9, 11, 45, 46, 47] (.region C.graph_Above_r13)
theorem C.graph_Above_c4_w : awp P C.graph_Above_c4 Q fr st = awp P (.keep [0, 1, 6, 8, 9, 11, 45, 46, 47] (.region C.graph_Above_r13)) Q fr st := rfl
def C.graph_Above_r12_b : List IOper := [
  ⟨some 49, .idxAddr 1 (.slot 45) (.slot 47), none, [], []⟩,
  ⟨some 50, .load1 (.slot 49), none, [], []⟩,
  ⟨some 11, .move (.slot 50), none, [], []⟩]
def C.graph_Above_r12 : List IOper := C.graph_Above_r12_b
theorem C.graph_Above_r12_w {k : AFr → ASt → Prop} : aops P C.graph_Above_r12 k fr st = aops P C.graph_Above_r12_b k fr st := rfl
def C.graph_Above_b5 : ICode := .seq (.region C.graph_Above_r12) C.graph_Above_c4
theorem C.graph_Above_b5_w : awp P C.graph_Above_b5 Q fr st = awp P (.seq (.region C.graph_Above_r12) C.graph_Above_c4) Q fr st := rfl
def C.graph_Above_c6 : ICode := .keep [0, 1, 6, 8, 9, 45, 46, 47] (.seq (.block 3 C.graph_Above_b5) C.graph_Above_c3)
theorem C.graph_Above_c6_w : awp P C.graph_Above_c6 Q fr st = awp P (.keep [0, 1, 6, 8, 9, 45, 46, 47] (.seq (.block 3 C.graph_Above_b5) C.graph_Above_c3)) Q fr st := rfl
def C.graph_Above_c7 : ICode := .keep [0, 1, 6, 8, 9, 45, 46, 47, 48] (.seq (.cond (.slot 48) .skip (.exit 2)) C.graph_Above_c6)
theorem C.graph_Above_c7_w : awp P C.graph_Above_c7 Q fr st = awp P (.keep [0, 1, 6, 8, 9, 45, 46, 47, 48] (.seq (.cond (.slot 48) .skip (.exit 2)) C.graph_Above_c6)) Q fr st := rfl
def C.graph_Above_r11_b : List IOper := [
  ⟨some 48, .bin .lss (.slot 47) (.slot 46), none, [], []⟩]
def C.graph_Above_r11 : List IOper := C.graph_Above_r11_b
theorem C.graph_Above_r11_w {k : AFr → ASt → Prop} : aops P C.graph_Above_r11 k fr st = aops P C.graph_Above_r11_b k fr st := rfl
def C.graph_Above_l8 : ICode := .keep [0, 1, 6, 8, 9, 45, 46, 47] (.seq (.region C.graph_Above_r11) C.graph_Above_c7)
theorem C.graph_Above_l8_w : awp P C.graph_Above_l8 Q fr st = awp P (.keep [0, 1, 6, 8, 9, 45, 46, 47] (.seq (.region C.graph_Above_r11) C.graph_Above_c7)) Q fr st := rfl
def C.graph_Above_b9 : ICode := .loop C.graph_Above_l8
theorem C.graph_Above_b9_w : awp P C.graph_Above_b9 Q fr st = awp P (.loop C.graph_Above_l8) Q fr st := rfl
def C.graph_Above_c10 : ICode := .keep [0, 1, 6, 8, 9, 45, 46, 47] (.block 2 C.graph_Above_b9)
theorem C.graph_Above_c10_w : awp P C.graph_Above_c10 Q fr st = awp P (.keep [0, 1, 6, 8, 9, 45, 46, 47] (.block 2 C.graph_Above_b9)) Q fr st := rfl
def C.graph_Above_r10_b : List IOper := [
  ⟨some 39, .move (.slot 0), none, [], []⟩,
  ⟨some 40, .move (.slot 6), none, [], []⟩,
  ⟨some 41, .move (.slot 9), none, [], []⟩,
  ⟨some 42, .idxAddr 1 (.slot 40) (.slot 41), none, [], []⟩,
  ⟨some 43, .load1 (.slot 42), none, [], []⟩,
  ⟨some 44, .idxAddr 1 (.slot 39) (.slot 43), none, [], []⟩,
  ⟨some 45, .load1 (.slot 44), none, [], []⟩,
  ⟨some 46, .len (.slot 45), none, [], []⟩,
  ⟨some 47, .move (.cst (.int .i64 0)), none, [], []⟩]
def C.graph_Above_r10 : List IOper := C.graph_Above_r10_b
theorem C.graph_Above_r10_w {k : AFr → ASt → Prop} : aops P C.graph_Above_r10 k fr st = aops P C.graph_Above_r10_b k fr st := rfl
def C.graph_Above_c11 : ICode := .keep [0, 1, 6, 8, 9] (.seq (.region C.graph_Above_r10) C.graph_Above_c10)
theorem C.graph_Above_c11_w : awp P C.graph_Above_c11 Q fr st = awp P (.keep [0, 1, 6, 8, 9] (.seq (.region C.graph_Above_r10) C.graph_Above_c10)) Q fr st := rfl
def C.graph_Above_c12 : ICode := .keep [0, 1, 6, 8, 9, 38] (.cond (.slot 38) (.exit 1) .skip)
theorem C.graph_Above_c12_w : awp P C.graph_Above_c12 Q fr st = awp P (.keep [0, 1, 6, 8, 9, 38] (.cond (.slot 38) (.exit 1) .skip)) Q fr st := rfl
def C.graph_Above_r9_b : List IOper := [
  ⟨some 32, .move (.slot 8), none, [], []⟩,
  ⟨some 33, .move (.slot 6), none, [], []⟩,
  ⟨some 34, .move (.slot 9), none, [], []⟩,
  ⟨some 35, .idxAddr 1 (.slot 33) (.slot 34), none, [], []⟩,
  ⟨some 36, .load1 (.slot 35), none, [], []⟩,
  ⟨some 37, .call F.graph_marks_has [.slot 32, .slot 36], none, [], []⟩,
  ⟨some 38, .un .not (.slot 37), none, [], []⟩]
def C.graph_Above_r9 : List IOper := C.graph_Above_r9_b
theorem C.graph_Above_r9_w {k : AFr → ASt → Prop} : aops P C.graph_Above_r9 k fr st = aops P C.graph_Above_r9_b k fr st := rfl
def C.graph_Above_b13 : ICode := .seq (.seq (.region C.graph_Above_r9) C.graph_Above_c12) C.graph_Above_c11
theorem C.graph_Above_b13_w : awp P C.graph_Above_b13 Q fr st = awp P (.seq (.seq (.region C.graph_Above_r9) C.graph_Above_c12) C.graph_Above_c11) Q fr st := rfl
def C.graph_Above_c14 : ICode := .keep [0, 1, 6, 8, 9] (.seq (.block 1 C.graph_Above_b13) C.graph_Above_c2)
theorem C.graph_Above_c14_w : awp P C.graph_Above_c14 Q fr st = awp P (.keep [0, 1, 6, 8, 9] (.seq (.block 1 C.graph_Above_b13) C.graph_Above_c2)) Q fr st := rfl
def C.graph_Above_c15 : ICode := .keep [0, 1, 6, 8, 9, 29] (.cond (.slot 29) .skip (.exit 0))
theorem C.graph_Above_c15_w : awp P C.graph_Above_c15 Q fr st = awp P (.keep [0, 1, 6, 8, 9, 29] (.cond (.slot 29) .skip (.exit 0))) Q fr st := rfl
def C.graph_Above_r7_b : List IOper := [
  ⟨some 28, .move (.slot 9), none, [], []⟩,
  ⟨some 29, .bin .geq (.slot 28) (.cst (.int .i64 0)), none, [], []⟩]
def C.graph_Above_r7 : List IOper := C.graph_Above_r7_b
theorem C.graph_Above_r7_w {k : AFr → ASt → Prop} : aops P C.graph_Above_r7 k fr st = aops P C.graph_Above_r7_b k fr st := rfl
def C.graph_Above_l16 : ICode := .keep [0, 1, 6, 8, 9] (.seq (.seq (.region C.graph_Above_r7) C.graph_Above_c15) C.graph_Above_c14)
theorem C.graph_Above_l16_w : awp P C.graph_Above_l16 Q fr st = awp P (.keep [0, 1, 6, 8, 9] (.seq (.seq (.region C.graph_Above_r7) C.graph_Above_c15) C.graph_Above_c14)) Q fr st := rfl
def C.graph_Above_b17 : ICode := .loop C.graph_Above_l16
theorem C.graph_Above_b17_w : awp P C.graph_Above_b17 Q fr st = awp P (.loop C.graph_Above_l16) Q fr st := rfl
def C.graph_Above_c18 : ICode := .keep [0, 1, 6, 8, 9] (.block 0 C.graph_Above_b17)
theorem C.graph_Above_c18_w : awp P C.graph_Above_c18 Q fr st = awp P (.keep [0, 1, 6, 8, 9] (.block 0 C.graph_Above_b17)) Q fr st := rfl
def C.graph_Above_r6_b : List IOper := [
  ⟨some 25, .move (.slot 6), none, [], []⟩,
  ⟨some 26, .len (.slot 25), none, [], []⟩,
  ⟨some 27, .bin .sub (.slot 26) (.cst (.int .i64 1)), none, [], []⟩,
  ⟨some 9, .move (.slot 27), none, [], []⟩]
def C.graph_Above_r6 : List IOper := C.graph_Above_r6_b
theorem C.graph_Above_r6_w {k : AFr → ASt → Prop} : aops P C.graph_Above_r6 k fr st = aops P C.graph_Above_r6_b k fr st := rfl
def C.graph_Above_c19 : ICode := .keep [0, 1, 6, 8] (.seq (.seq (.region C.graph_Above_r6) C.graph_Above_c18) C.graph_Above_c1)
theorem C.graph_Above_c19_w : awp P C.graph_Above_c19 Q fr st = awp P (.keep [0, 1, 6, 8] (.seq (.seq (.region C.graph_Above_r6) C.graph_Above_c18) C.graph_Above_c1)) Q fr st := rfl
def C.graph_Above_r5_b : List IOper := [
  ⟨some 22, .move (.slot 8), none, [], []⟩,
  ⟨some 23, .move (.slot 1), none, [], []⟩,
  ⟨some 24, .call F.graph_marks_add [.slot 22, .slot 23], none, [], []⟩]
def C.graph_Above_r5 : List IOper := C.graph_Above_r5_b
theorem C.graph_Above_r5_w {k : AFr → ASt → Prop} : aops P C.graph_Above_r5 k fr st = aops P C.graph_Above_r5_b k fr st := rfl
def C.graph_Above_c20 : ICode := .keep [0, 1, 6, 8] (.seq (.region C.graph_Above_r5) C.graph_Above_c19)
theorem C.graph_Above_c20_w : awp P C.graph_Above_c20 Q fr st = awp P (.keep [0, 1, 6, 8] (.seq (.region C.graph_Above_r5) C.graph_Above_c19)) Q fr st := rfl
def C.graph_Above_r4_b : List IOper := [
  ⟨some 21, .makeMap none, none, [], []⟩,
  ⟨some 8, .move (.slot 21), none, [], []⟩]
def C.graph_Above_r4 : List IOper := C.graph_Above_r4_b
theorem C.graph_Above_r4_w {k : AFr → ASt → Prop} : aops P C.graph_Above_r4 k fr st = aops P C.graph_Above_r4_b k fr st := rfl
def C.graph_Above_c21 : ICode := .keep [0, 1, 6] (.seq (.region C.graph_Above_r4) C.graph_Above_c20)
theorem C.graph_Above_c21_w : awp P C.graph_Above_c21 Q fr st = awp P (.keep [0, 1, 6] (.seq (.region C.graph_Above_r4) C.graph_Above_c20)) Q fr st := rfl
def C.graph_Above_r3_b : List IOper := [
  ⟨some 20, .move (.slot 7), none, [], []⟩,
  ⟨some 4, .move (.cst (.nils)), none, [], []⟩,
  ⟨some 5, .move (.slot 20), none, [], []⟩]
def C.graph_Above_r3 : List IOper := C.graph_Above_r3_b
theorem C.graph_Above_r3_w {k : AFr → ASt → Prop} : aops P C.graph_Above_r3 k fr st = aops P C.graph_Above_r3_b k fr st := rfl
def C.graph_Above_c22 : ICode := .seq (.region C.graph_Above_r3) .ret
theorem C.graph_Above_c22_w : awp P C.graph_Above_c22 Q fr st = awp P (.seq (.region C.graph_Above_r3) .ret) Q fr st := rfl
def C.graph_Above_c23 : ICode := .keep [0, 1, 6, 7, 19] (.cond (.slot 19) C.graph_Above_c22 .skip)
theorem C.graph_Above_c23_w : awp P C.graph_Above_c23 Q fr st = awp P (.keep [0, 1, 6, 7, 19] (.cond (.slot 19) C.graph_Above_c22 .skip)) Q fr st := rfl
def C.graph_Above_r2_b : List IOper := [
  ⟨some 18, .move (.slot 7), none, [], []⟩,
  ⟨some 19, .bin .neq (.slot 18) (.cst (.int .i64 0)), none, [], []⟩]
def C.graph_Above_r2 : List IOper := C.graph_Above_r2_b
theorem C.graph_Above_r2_w {k : AFr → ASt → Prop} : aops P C.graph_Above_r2 k fr st = aops P C.graph_Above_r2_b k fr st := rfl
def C.graph_Above_c24 : ICode := .keep [0, 1, 6, 7] (.seq (.seq (.region C.graph_Above_r2) C.graph_Above_c23) C.graph_Above_c21)
theorem C.graph_Above_c24_w : awp P C.graph_Above_c24 Q fr st = awp P (.keep [0, 1, 6, 7] (.seq (.seq (.region C.graph_Above_r2) C.graph_Above_c23) C.graph_Above_c21)) Q fr st := rfl
def C.graph_Above_r1_b : List IOper := [
  ⟨some 13, .move (.slot 0), none, [], []⟩,
  ⟨some 14, .move (.slot 1), none, [], []⟩,
  ⟨some 15, .call F.graph_ordered [.slot 13, .slot 14], none, [], []⟩,
  ⟨some 12, .move (.slot 15), none, [], []⟩,
  ⟨some 16, .extract (.slot 12) 0, none, [], []⟩,
  ⟨some 17, .extract (.slot 12) 1, none, [], []⟩,
  ⟨some 6, .move (.slot 16), none, [], []⟩,
  ⟨some 7, .move (.slot 17), none, [], []⟩]
def C.graph_Above_r1 : List IOper := C.graph_Above_r1_b
theorem C.graph_Above_r1_w {k : AFr → ASt → Prop} : aops P C.graph_Above_r1 k fr st = aops P C.graph_Above_r1_b k fr st := rfl
def C.graph_Above_c25 : ICode := .keep [0, 1] (.seq (.region C.graph_Above_r1) C.graph_Above_c24)
theorem C.graph_Above_c25_w : awp P C.graph_Above_c25 Q fr st = awp P (.keep [0, 1] (.seq (.region C.graph_Above_r1) C.graph_Above_c24)) Q fr st := rfl
def C.graph_Above_r0_b : List IOper := [
  ⟨some 4, .move (.cst (.nils)), none, [], []⟩,
  ⟨some 5, .move (.cst (.int .i64 0)), none, [], []⟩]
def C.graph_Above_r0 : List IOper := C.graph_Above_r0_b
theorem C.graph_Above_r0_w {k : AFr → ASt → Prop} : aops P C.graph_Above_r0 k fr st = aops P C.graph_Above_r0_b k fr st := rfl
def C.graph_Above : IFunc := ⟨2, [.slot 4, .slot 5], .seq (.region C.graph_Above_r0) C.graph_Above_c25⟩
def C.graph_Above_W := And.intro (And.intro (And.intro (And.intro (And.intro @C.graph_Above_r15_w @C.graph_Above_c1_w) (And.intro @C.graph_Above_r8_w @C.graph_Above_c2_w)) (And.intro (And.intro @C.graph_Above_r14_w @C.graph_Above_c3_w) (And.intro @C.graph_Above_r13_w (And.intro @C.graph_Above_c4_w @C.graph_Above_r12_w)))) (And.intro (And.intro (And.intro @C.graph_Above_b5_w @C.graph_Above_c6_w) (And.intro @C.graph_Above_c7_w (And.intro @C.graph_Above_r11_w @C.graph_Above_b9_w))) (And.intro (And.intro @C.graph_Above_c10_w @C.graph_Above_r10_w) (And.intro @C.graph_Above_c11_w (And.intro @C.graph_Above_c12_w @C.graph_Above_r9_w))))) (And.intro (And.intro (And.intro (And.intro @C.graph_Above_b13_w @C.graph_Above_c14_w) (And.intro @C.graph_Above_c15_w (And.intro @C.graph_Above_r7_w @C.graph_Above_b17_w))) (And.intro (And.intro @C.graph_Above_c18_w @C.graph_Above_r6_w) (And.intro @C.graph_Above_c19_w (And.intro @C.graph_Above_r5_w @C.graph_Above_c20_w)))) (And.intro (And.intro (And.intro @C.graph_Above_r4_w @C.graph_Above_c21_w) (And.intro @C.graph_Above_r3_w (And.intro @C.graph_Above_c22_w @C.graph_Above_c23_w))) (And.intro (And.intro @C.graph_Above_r2_w @C.graph_Above_c24_w) (And.intro @C.graph_Above_r1_w (And.intro @C.graph_Above_c25_w @C.graph_Above_r0_w)))))
def C.graph_Above_B := And.intro (And.intro (And.intro (And.intro @C.graph_Above_r15_b.eq_1 @C.graph_Above_r8_b.eq_1) (And.intro @C.graph_Above_r14_b.eq_1 @C.graph_Above_r13_b.eq_1)) (And.intro (And.intro @C.graph_Above_r12_b.eq_1 @C.graph_Above_r11_b.eq_1) (And.intro @C.graph_Above_r10_b.eq_1 @C.graph_Above_r9_b.eq_1))) (And.intro (And.intro (And.intro @C.graph_Above_r7_b.eq_1 @C.graph_Above_r6_b.eq_1) (And.intro @C.graph_Above_r5_b.eq_1 @C.graph_Above_r4_b.eq_1)) (And.intro (And.intro @C.graph_Above_r3_b.eq_1 @C.graph_Above_r2_b.eq_1) (And.intro @C.graph_Above_r1_b.eq_1 @C.graph_Above_r0_b.eq_1)))

def C.catnaplaw3_same_r8_b : List IOper := [
  ⟨some 4, .move (.cst (.bool true)), none, [], []⟩]
def C.catnaplaw3_same_r8 : List IOper := C.catnaplaw3_same_r8_b
theorem C.catnaplaw3_same_r8_w {k : AFr → ASt → Prop} : aops P C.catnaplaw3_same_r8 k fr st = aops P C.catnaplaw3_same_r8_b k fr st := rfl
def C.catnaplaw3_same_c1 : ICode := .keep [] (.seq (.region C.catnaplaw3_same_r8) .ret)
theorem C.catnaplaw3_same_c1_w : awp P C.catnaplaw3_same_c1 Q fr st = awp P (.keep [] (.seq (.region C.catnaplaw3_same_r8) .ret)) Q fr st := rfl
def C.catnaplaw3_same_r5_b : List IOper := [
  ⟨some 15, .move (.slot 5), none, [], []⟩,
  ⟨some 16, .bin .add (.slot 15) (.cst (.int .i64 1)), none, [], []⟩,
  ⟨some 5, .move (.slot 16), none, [], []⟩]
def C.catnaplaw3_same_r5 : List IOper := C.catnaplaw3_same_r5_b
theorem C.catnaplaw3_same_r5_w {k : AFr → ASt → Prop} : aops P C.catnaplaw3_same_r5 k fr st = aops P C.catnaplaw3_same_r5_b k fr st := rfl
def C.catnaplaw3_same_c2 : ICode := .keep [0, 1, 5] (.region C.catnaplaw3_same_r5)
theorem C.catnaplaw3_same_c2_w : awp P C.catnaplaw3_same_c2 Q fr st = awp P (.keep [0, 1, 5] (.region C.catnaplaw3_same_r5)) Q fr st := rfl
def C.catnaplaw3_same_r7_b : List IOper := [
  ⟨some 4, .move (.cst (.bool false)), none, [], []⟩]
def C.catnaplaw3_same_r7 : List IOper := C.catnaplaw3_same_r7_b
theorem C.catnaplaw3_same_r7_w {k : AFr → ASt → Prop} : aops P C.catnaplaw3_same_r7 k fr st = aops P C.catnaplaw3_same_r7_b k fr st := rfl
def C.catnaplaw3_same_c3 : ICode := .seq (.region C.catnaplaw3_same_r7) .ret
theorem C.catnaplaw3_same_c3_w : awp P C.catnaplaw3_same_c3 Q fr st = awp P (.seq (.region C.catnaplaw3_same_r7) .ret) Q fr st := rfl
def C.catnaplaw3_same_c4 : ICode := .keep [0, 1, 5, 25] (.cond (.slot 25) C.catnaplaw3_same_c3 .skip)
theorem C.catnaplaw3_same_c4_w : awp P C.catnaplaw3_same_c4 Q fr st = awp P (.keep [0, 1, 5, 25] (.cond (.slot 25) C.catnaplaw3_same_c3 .skip)) Q fr st := rfl
def C.catnaplaw3_same_r6_b : List IOper := [
  ⟨some 17, .move (.slot 0), none, [], []⟩,
  ⟨some 18, .move (.slot 5), none, [], []⟩,
  ⟨some 19, .idxAddr 1 (.slot 17) (.slot 18), none, [], []⟩,
  ⟨some 20, .load1 (.slot 19), none, [], []⟩,
  ⟨some 21, .move (.slot 1), none, [], []⟩,
  ⟨some 22, .move (.slot 5), none, [], []⟩,
  ⟨some 23, .idxAddr 1 (.slot 21) (.slot 22), none, [], []⟩,
  ⟨some 24, .load1 (.slot 23), none, [], []⟩,
  ⟨some 25, .bin .neq (.slot 20) (.slot 24), none, [], []⟩]
def C.catnaplaw3_same_r6 : List IOper := C.catnaplaw3_same_r6_b
theorem C.catnaplaw3_same_r6_w {k : AFr → ASt → Prop} : aops P C.catnaplaw3_same_r6 k fr st = aops P C.catnaplaw3_same_r6_b k fr st := rfl
def C.catnaplaw3_same_b5 : ICode := .seq (.region C.catnaplaw3_same_r6) C.catnaplaw3_same_c4
theorem C.catnaplaw3_same_b5_w : awp P C.catnaplaw3_same_b5 Q fr st = awp P (.seq (.region C.catnaplaw3_same_r6) C.catnaplaw3_same_c4) Q fr st := rfl
def C.catnaplaw3_same_c6 : ICode := .keep [0, 1, 5] (.seq (.block 1 C.catnaplaw3_same_b5) C.catnaplaw3_same_c2)
theorem C.catnaplaw3_same_c6_w : awp P C.catnaplaw3_same_c6 Q fr st = awp P (.keep [0, 1, 5] (.seq (.block 1 C.catnaplaw3_same_b5) C.catnaplaw3_same_c2)) Q fr st := rfl
def C.catnaplaw3_same_c7 : ICode := .keep [0, 1, 5, 14] (.cond (.slot 14) .skip (.exit 0))
theorem C.catnaplaw3_same_c7_w : awp P C.catnaplaw3_same_c7 Q fr st = awp P (.keep [0, 1, 5, 14] (.cond (.slot 14) .skip (.exit 0))) Q fr st := rfl
def C.catnaplaw3_same_r4_b : List IOper := [
  ⟨some 11, .move (.slot 5), none, [], []⟩,
  ⟨some 12, .move (.slot 0), none, [], []⟩,
  ⟨some 13, .len (.slot 12), none, [], []⟩,
  ⟨some 14, .bin .lss (.slot 11) (.slot 13), none, [], []⟩]
def C.catnaplaw3_same_r4 : List IOper := C.catnaplaw3_same_r4_b
theorem C.catnaplaw3_same_r4_w {k : AFr → ASt → Prop} : aops P C.catnaplaw3_same_r4 k fr st = aops P C.catnaplaw3_same_r4_b k fr st := rfl
def C.catnaplaw3_same_l8 : ICode := .keep [0, 1, 5] (.seq (.seq (.region C.catnaplaw3_same_r4) C.catnaplaw3_same_c7) C.catnaplaw3_same_c6)
theorem C.catnaplaw3_same_l8_w : awp P C.catnaplaw3_same_l8 Q fr st = awp P (.keep [0, 1, 5] (.seq (.seq (.region C.catnaplaw3_same_r4) C.catnaplaw3_same_c7) C.catnaplaw3_same_c6)) Q fr st := rfl
def C.catnaplaw3_same_b9 : ICode := .loop C.catnaplaw3_same_l8
theorem C.catnaplaw3_same_b9_w : awp P C.catnaplaw3_same_b9 Q fr st = awp P (.loop C.catnaplaw3_same_l8) Q fr st := rfl
def C.catnaplaw3_same_c10 : ICode := .keep [0, 1, 5] (.block 0 C.catnaplaw3_same_b9)
theorem C.catnaplaw3_same_c10_w : awp P C.catnaplaw3_same_c10 Q fr st = awp P (.keep [0, 1, 5] (.block 0 C.catnaplaw3_same_b9)) Q fr st := rfl
def C.catnaplaw3_same_r3_b : List IOper := [
  ⟨some 5, .move (.cst (.int .i64 0)), none, [], []⟩]
def C.catnaplaw3_same_r3 : List IOper := C.catnaplaw3_same_r3_b
theorem C.catnaplaw3_same_r3_w {k : AFr → ASt → Prop} : aops P C.catnaplaw3_same_r3 k fr st = aops P C.catnaplaw3_same_r3_b k fr st := rfl
def C.catnaplaw3_same_c11 : ICode := .keep [0, 1] (.seq (.seq (.region C.catnaplaw3_same_r3) C.catnaplaw3_same_c10) C.catnaplaw3_same_c1)
theorem C.catnaplaw3_same_c11_w : awp P C.catnaplaw3_same_c11 Q fr st = awp P (.keep [0, 1] (.seq (.seq (.region C.catnaplaw3_same_r3) C.catnaplaw3_same_c10) C.catnaplaw3_same_c1)) Q fr st := rfl
def C.catnaplaw3_same_r2_b : List IOper := [
  ⟨some 4, .move (.cst (.bool false)), none, [], []⟩]
def C.catnaplaw3_same_r2 : List IOper := C.catnaplaw3_same_r2_b
theorem C.catnaplaw3_same_r2_w {k : AFr → ASt → Prop} : aops P C.catnaplaw3_same_r2 k fr st = aops P C.catnaplaw3_same_r2_b k fr st := rfl
def C.catnaplaw3_same_c12 : ICode := .seq (.region C.catnaplaw3_same_r2) .ret
theorem C.catnaplaw3_same_c12_w : awp P C.catnaplaw3_same_c12 Q fr st = awp P (.seq (.region C.catnaplaw3_same_r2) .ret) Q fr st := rfl
def C.catnaplaw3_same_c13 : ICode := .keep [0, 1, 10] (.cond (.slot 10) C.catnaplaw3_same_c12 .skip)
theorem C.catnaplaw3_same_c13_w : awp P C.catnaplaw3_same_c13 Q fr st = awp P (.keep [0, 1, 10] (.cond (.slot 10) C.catnaplaw3_same_c12 .skip)) Q fr st := rfl
def C.catnaplaw3_same_r1_b : List IOper := [
  ⟨some 6, .move (.slot 0), none, [], []⟩,
  ⟨some 7, .len (.slot 6), none, [], []⟩,
  ⟨some 8, .move (.slot 1), none, [], []⟩,
  ⟨some 9, .len (.slot 8), none, [], []⟩,
  ⟨some 10, .bin .neq (.slot 7) (.slot 9), none, [], []⟩]
def C.catnaplaw3_same_r1 : List IOper := C.catnaplaw3_same_r1_b
theorem C.catnaplaw3_same_r1_w {k : AFr → ASt → Prop} : aops P C.catnaplaw3_same_r1 k fr st = aops P C.catnaplaw3_same_r1_b k fr st := rfl
def C.catnaplaw3_same_c14 : ICode := .keep [0, 1] (.seq (.seq (.region C.catnaplaw3_same_r1) C.catnaplaw3_same_c13) C.catnaplaw3_same_c11)
theorem C.catnaplaw3_same_c14_w : awp P C.catnaplaw3_same_c14 Q fr st = awp P (.keep [0, 1] (.seq (.seq (.region C.catnaplaw3_same_r1) C.catnaplaw3_same_c13) C.catnaplaw3_same_c11)) Q fr st := rfl
def C.catnaplaw3_same_r0_b : List IOper := [
  ⟨some 4, .move (.cst (.bool false)), none, [], []⟩]
def C.catnaplaw3_same_r0 : List IOper := C.catnaplaw3_same_r0_b
theorem C.catnaplaw3_same_r0_w {k : AFr → ASt → Prop} : aops P C.catnaplaw3_same_r0 k fr st = aops P C.catnaplaw3_same_r0_b k fr st := rfl
def C.catnaplaw3_same : IFunc := ⟨2, [.slot 4], .seq (.region C.catnaplaw3_same_r0) C.catnaplaw3_same_c14⟩
def C.catnaplaw3_same_W := And.intro (And.intro (And.intro (And.intro @C.catnaplaw3_same_r8_w @C.catnaplaw3_same_c1_w) (And.intro @C.catnaplaw3_same_r5_w (And.intro @C.catnaplaw3_same_c2_w @C.catnaplaw3_same_r7_w))) (And.intro (And.intro @C.catnaplaw3_same_c3_w (And.intro @C.catnaplaw3_same_c4_w @C.catnaplaw3_same_r6_w)) (And.intro @C.catnaplaw3_same_b5_w (And.intro @C.catnaplaw3_same_c6_w @C.catnaplaw3_same_c7_w)))) (And.intro (And.intro (And.intro @C.catnaplaw3_same_r4_w @C.catnaplaw3_same_b9_w) (And.intro @C.catnaplaw3_same_c10_w (And.intro @C.catnaplaw3_same_r3_w @C.catnaplaw3_same_c11_w))) (And.intro (And.intro @C.catnaplaw3_same_r2_w (And.intro @C.catnaplaw3_same_c12_w @C.catnaplaw3_same_c13_w)) (And.intro @C.catnaplaw3_same_r1_w (And.intro @C.catnaplaw3_same_c14_w @C.catnaplaw3_same_r0_w))))
def C.catnaplaw3_same_B := And.intro (And.intro (And.intro @C.catnaplaw3_same_r8_b.eq_1 @C.catnaplaw3_same_r5_b.eq_1) (And.intro @C.catnaplaw3_same_r7_b.eq_1 @C.catnaplaw3_same_r6_b.eq_1)) (And.intro (And.intro @C.catnaplaw3_same_r4_b.eq_1 @C.catnaplaw3_same_r3_b.eq_1) (And.intro @C.catnaplaw3_same_r2_b.eq_1 (And.intro @C.catnaplaw3_same_r1_b.eq_1 @C.catnaplaw3_same_r0_b.eq_1)))

def C.catnapref3_Has_r6_b : List IOper := [
  ⟨some 4, .move (.cst (.bool false)), none, [], []⟩]
def C.catnapref3_Has_r6 : List IOper := C.catnapref3_Has_r6_b
theorem C.catnapref3_Has_r6_w {k : AFr → ASt → Prop} : aops P C.catnapref3_Has_r6 k fr st = aops P C.catnapref3_Has_r6_b k fr st := rfl
def C.catnapref3_Has_c1 : ICode := .keep [] (.seq (.region C.catnapref3_Has_r6) .ret)
theorem C.catnapref3_Has_c1_w : awp P C.catnapref3_Has_c1 Q fr st = awp P (.keep [] (.seq (.region C.catnapref3_Has_r6) .ret)) Q fr st := rfl
def C.catnapref3_Has_r3_b : List IOper := [
  ⟨some 10, .move (.slot 5), none, [], []⟩,
  ⟨some 11, .bin .add (.slot 10) (.cst (.int .i64 1)), none, [], []⟩,
  ⟨some 5, .move (.slot 11), none, [], []⟩]
def C.catnapref3_Has_r3 : List IOper := C.catnapref3_Has_r3_b
theorem C.catnapref3_Has_r3_w {k : AFr → ASt → Prop} : aops P C.catnapref3_Has_r3 k fr st = aops P C.catnapref3_Has_r3_b k fr st := rfl
def C.catnapref3_Has_c2 : ICode := .keep [0, 1, 5] (.region C.catnapref3_Has_r3)
theorem C.catnapref3_Has_c2_w : awp P C.catnapref3_Has_c2 Q fr st = awp P (.keep [0, 1, 5] (.region C.catnapref3_Has_r3)) Q fr st := rfl
def C.catnapref3_Has_r5_b : List IOper := [
  ⟨some 4, .move (.cst (.bool true)), none, [], []⟩]
def C.catnapref3_Has_r5 : List IOper := C.catnapref3_Has_r5_b
theorem C.catnapref3_Has_r5_w {k : AFr → ASt → Prop} : aops P C.catnapref3_Has_r5 k fr st = aops P C.catnapref3_Has_r5_b k fr st := rfl
def C.catnapref3_Has_c3 : ICode := .seq (.region C.catnapref3_Has_r5) .ret
theorem C.catnapref3_Has_c3_w : awp P C.catnapref3_Has_c3 Q fr st = awp P (.seq (.region C.catnapref3_Has_r5) .ret) Q fr st := rfl
def C.catnapref3_Has_c4 : ICode := .keep [0, 1, 5, 17] (.cond (.slot 17) C.catnapref3_Has_c3 .skip)
theorem C.catnapref3_Has_c4_w : awp P C.catnapref3_Has_c4 Q fr st = awp P (.keep [0, 1, 5, 17] (.cond (.slot 17) C.catnapref3_Has_c3 .skip)) Q fr st := rfl
def C.catnapref3_Has_r4_b : List IOper := [
  ⟨some 12, .move (.slot 0), none, [], []⟩,
  ⟨some 13, .move (.slot 5), none, [], []⟩,
  ⟨some 14, .idxAddr 1 (.slot 12) (.slot 13), none, [], []⟩,
  ⟨some 15, .load1 (.slot 14), none, [], []⟩,
  ⟨some 16, .move (.slot 1), none, [], []⟩,
  ⟨some 17, .bin .eql (.slot 15) (.slot 16), none, [], []⟩]
def C.catnapref3_Has_r4 : List IOper := C.catnapref3_Has_r4_b
theorem C.catnapref3_Has_r4_w {k : AFr → ASt → Prop} : aops P C.catnapref3_Has_r4 k fr st = aops P C.catnapref3_Has_r4_b k fr st := rfl
def C.catnapref3_Has_b5 : ICode := .seq (.region C.catnapref3_Has_r4) C.catnapref3_Has_c4
theorem C.catnapref3_Has_b5_w : awp P C.catnapref3_Has_b5 Q fr st = awp P (.seq (.region C.catnapref3_Has_r4) C.catnapref3_Has_c4) Q fr st := rfl
def C.catnapref3_Has_c6 : ICode := .keep [0, 1, 5] (.seq (.block 1 C.catnapref3_Has_b5) C.catnapref3_Has_c2)
theorem C.catnapref3_Has_c6_w : awp P C.catnapref3_Has_c6 Q fr st = awp P (.keep [0, 1, 5] (.seq (.block 1 C.catnapref3_Has_b5) C.catnapref3_Has_c2)) Q fr st := rfl
def C.catnapref3_Has_c7 : ICode := .keep [0, 1, 5, 9] (.cond (.slot 9) .skip (.exit 0))
theorem C.catnapref3_Has_c7_w : awp P C.catnapref3_Has_c7 Q fr st = awp P (.keep [0, 1, 5, 9] (.cond (.slot 9) .skip (.exit 0))) Q fr st := rfl
def C.catnapref3_Has_r2_b : List IOper := [
  ⟨some 6, .move (.slot 5), none, [], []⟩,
  ⟨some 7, .move (.slot 0), none, [], []⟩,
  ⟨some 8, .len (.slot 7), none, [], []⟩,
  ⟨some 9, .bin .lss (.slot 6) (.slot 8), none, [], []⟩]
def C.catnapref3_Has_r2 : List IOper := C.catnapref3_Has_r2_b
theorem C.catnapref3_Has_r2_w {k : AFr → ASt → Prop} : aops P C.catnapref3_Has_r2 k fr st = aops P C.catnapref3_Has_r2_b k fr st := rfl
def C.catnapref3_Has_l8 : ICode := .keep [0, 1, 5] (.seq (.seq (.region C.catnapref3_Has_r2) C.catnapref3_Has_c7) C.catnapref3_Has_c6)
theorem C.catnapref3_Has_l8_w : awp P C.catnapref3_Has_l8 Q fr st = awp P (.keep [0, 1, 5] (.seq (.seq (.region C.catnapref3_Has_r2) C.catnapref3_Has_c7) C.catnapref3_Has_c6)) Q fr st := rfl
def C.catnapref3_Has_b9 : ICode := .loop C.catnapref3_Has_l8
theorem C.catnapref3_Has_b9_w : awp P C.catnapref3_Has_b9 Q fr st = awp P (.loop C.catnapref3_Has_l8) Q fr st := rfl
def C.catnapref3_Has_c10 : ICode := .keep [0, 1, 5] (.block 0 C.catnapref3_Has_b9)
theorem C.catnapref3_Has_c10_w : awp P C.catnapref3_Has_c10 Q fr st = awp P (.keep [0, 1, 5] (.block 0 C.catnapref3_Has_b9)) Q fr st := rfl
def C.catnapref3_Has_r1_b : List IOper := [
  ⟨some 5, .move (.cst (.int .i64 0)), none, [], []⟩]
def C.catnapref3_Has_r1 : List IOper := C.catnapref3_Has_r1_b
theorem C.catnapref3_Has_r1_w {k : AFr → ASt → Prop} : aops P C.catnapref3_Has_r1 k fr st = aops P C.catnapref3_Has_r1_b k fr st := rfl
def C.catnapref3_Has_c11 : ICode := .keep [0, 1] (.seq (.seq (.region C.catnapref3_Has_r1) C.catnapref3_Has_c10) C.catnapref3_Has_c1)
theorem C.catnapref3_Has_c11_w : awp P C.catnapref3_Has_c11 Q fr st = awp P (.keep [0, 1] (.seq (.seq (.region C.catnapref3_Has_r1) C.catnapref3_Has_c10) C.catnapref3_Has_c1)) Q fr st := rfl
def C.catnapref3_Has_r0_b : List IOper := [
  ⟨some 4, .move (.cst (.bool false)), none, [], []⟩]
def C.catnapref3_Has_r0 : List IOper := C.catnapref3_Has_r0_b
theorem C.catnapref3_Has_r0_w {k : AFr → ASt → Prop} : aops P C.catnapref3_Has_r0 k fr st = aops P C.catnapref3_Has_r0_b k fr st := rfl
def C.catnapref3_Has : IFunc := ⟨2, [.slot 4], .seq (.region C.catnapref3_Has_r0) C.catnapref3_Has_c11⟩
def C.catnapref3_Has_W := And.intro (And.intro (And.intro (And.intro @C.catnapref3_Has_r6_w @C.catnapref3_Has_c1_w) (And.intro @C.catnapref3_Has_r3_w @C.catnapref3_Has_c2_w)) (And.intro (And.intro @C.catnapref3_Has_r5_w @C.catnapref3_Has_c3_w) (And.intro @C.catnapref3_Has_c4_w @C.catnapref3_Has_r4_w))) (And.intro (And.intro (And.intro @C.catnapref3_Has_b5_w @C.catnapref3_Has_c6_w) (And.intro @C.catnapref3_Has_c7_w @C.catnapref3_Has_r2_w)) (And.intro (And.intro @C.catnapref3_Has_b9_w @C.catnapref3_Has_c10_w) (And.intro @C.catnapref3_Has_r1_w (And.intro @C.catnapref3_Has_c11_w @C.catnapref3_Has_r0_w))))
def C.catnapref3_Has_B := And.intro (And.intro @C.catnapref3_Has_r6_b.eq_1 (And.intro @C.catnapref3_Has_r3_b.eq_1 @C.catnapref3_Has_r5_b.eq_1)) (And.intro (And.intro @C.catnapref3_Has_r4_b.eq_1 @C.catnapref3_Has_r2_b.eq_1) (And.intro @C.catnapref3_Has_r1_b.eq_1 @C.catnapref3_Has_r0_b.eq_1))

def C.graph_Under_r16_b : List IOper := [
  ⟨some 49, .move (.slot 6), none, [], []⟩,
  ⟨some 50, .move (.slot 8), none, [], []⟩,
  ⟨some 51, .move (.slot 1), none, [], []⟩,
  ⟨some 52, .call F.graph_others [.slot 49, .slot 50, .slot 51], none, [], []⟩,
  ⟨some 4, .move (.slot 52), none, [], []⟩,
  ⟨some 5, .move (.cst (.int .i64 0)), none, [], []⟩]
def C.graph_Under_r16 : List IOper := C.graph_Under_r16_b
theorem C.graph_Under_r16_w {k : AFr → ASt → Prop} : aops P C.graph_Under_r16 k fr st = aops P C.graph_Under_r16_b k fr st := rfl
def C.graph_Under_c1 : ICode := .keep [1, 6, 8] (.seq (.region C.graph_Under_r16) .ret)
theorem C.graph_Under_c1_w : awp P C.graph_Under_c1 Q fr st = awp P (.keep [1, 6, 8] (.seq (.region C.graph_Under_r16) .ret)) Q fr st := rfl
def C.graph_Under_r15_b : List IOper := [
  ⟨some 48, .bin .add (.slot 28) (.cst (.int .i64 1)), none, [], []⟩,
  ⟨some 28, .move (.slot 48), none, [], []⟩]
def C.graph_Under_r15 : List IOper := C.graph_Under_r15_b
theorem C.graph_Under_r15_w {k : AFr → ASt → Prop} : aops P C.graph_Under_r15 k fr st = aops P C.graph_Under_r15_b k fr st := rfl
def C.graph_Under_c2 : ICode := .keep [0, 1, 6, 8, 26, 27, 28] (.region C.graph_Under_r15)
theorem C.graph_Under_c2_w : awp P C.graph_Under_c2 Q fr st = awp P (.keep [0, 1, 6, 8, 26, 27, 28] (.region C.graph_Under_r15)) Q fr st := rfl
def C.graph_Under_r14_b : List IOper := [
  ⟨some 47, .bin .add (.slot 37) (.cst (.int .i64 1)), none, [], []⟩,
  ⟨some 37, .move (.slot 47), none, [], []⟩]
def C.graph_Under_r14 : List IOper := C.graph_Under_r14_b
theorem C.graph_Under_r14_w {k : AFr → ASt → Prop} : aops P C.graph_Under_r14 k fr st = aops P C.graph_Under_r14_b k fr st := rfl
def C.graph_Under_c3 : ICode := .keep [0, 1, 6, 8, 10, 26, 27, 28, 35, 36, 37] (.region C.graph_Under_r14)
theorem C.graph_Under_c3_w : awp P C.graph_Under_c3 Q fr st = awp P (.keep [0, 1, 6, 8, 10, 26, 27, 28, 35, 36, 37] (.region C.graph_Under_r14)) Q fr st := rfl
def C.graph_Under_r13_b : List IOper := [
  ⟨some 44, .move (.slot 8), none, [], []⟩,
  ⟨some 45, .move (.slot 10), none, [], []⟩,
  ⟨some 46, .call F.graph_marks_add [.slot 44, .slot 45], none, [], []⟩]
def C.graph_Under_r13 : List IOper := C.graph_Under_r13_b
theorem C.graph_Under_r13_w {k : AFr → ASt → Prop} : aops P C.graph_Under_r13 k fr st = aops P C.graph_Under_r13_b k fr st := rfl
def C.graph_Under_c4 : ICode := .seq (.region C.graph_Under_r13) (.exit 2)
theorem C.graph_Under_c4_w : awp P C.graph_Under_c4 Q fr st = awp P (.seq (.region C.graph_Under_r13) (.exit 2)) Q fr st := rfl
def C.graph_Under_c5 : ICode := .keep [0, 1, 6, 8, 10, 26, 27, 28, 35, 36, 37, 43] (.cond (.slot 43) C.graph_Under_c4 .skip)
theorem C.graph_Under_c5_w : awp P C.graph_Under_c5 Q fr st = awp P (.keep [0, 1, 6, 8, 10, 26, 27, 28, 35, 36, 37, 43] (.cond (.slot 43) C.graph_Under_c4 .skip)) Q fr st := rfl
def C.graph_Under_r12_b : List IOper := [
  ⟨some 41, .move (.slot 8), none, [], []⟩,
  ⟨some 42, .move (.slot 12), none, [], []⟩,
  ⟨some 43, .call F.graph_marks_has [.slot 41, .slot 42], none, [], []⟩]
def C.graph_Under_r12 : List IOper := C.graph_Under_r12_b
theorem C.graph_Under_r12_w {k : AFr → ASt → Prop} : aops P C.graph_Under_r12 k fr st = aops P C.graph_Under_r12_b k fr st := rfl
def C.graph_Under_c6 : ICode := .keep [0, 1, 6, 8, 10, 12, 26, 27, 28, 35, 36, 37] (.seq (.region C.graph_Under_r12) C.graph_Under_c5)
theorem C.graph_Under_c6_w : awp P C.graph_Under_c6 Q fr st = awp P (.keep [0, 1, 6, 8, 10, 12, 26, 27, 28, 35, 36, 37] (.seq (.region C.graph_Under_r12) C.graph_Under_c5)) Q fr st := rfl
def C.graph_Under_r11_b : List IOper := [
  ⟨some 39, .idxAddr 1 (.slot 35) (.slot 37), none, [], []⟩,
  ⟨some 40, .load1 (.slot 39), none, [], []⟩,
  ⟨some 12, .move (.slot 40), none, [], []⟩]
def C.graph_Under_r11 : List IOper := C.graph_Under_r11_b
theorem C.graph_Under_r11_w {k : AFr → ASt → Prop} : aops P C.graph_Under_r11 k fr st = aops P C.graph_Under_r11_b k fr st := rfl
def C.graph_Under_b7 : ICode := .seq (.region C.graph_Under_r11) C.graph_Under_c6
theorem C.graph_Under_b7_w : awp P C.graph_Under_b7 Q fr st = awp P (.seq (.region C.graph_Under_r11) C.graph_Under_c6) Q fr st := rfl
def C.graph_Under_c8 : ICode := .keep [0, 1, 6, 8, 10, 26, 27, 28, 35, 36, 37] (.seq (.block 3 C.graph_Under_b7) C.graph_Under_c3)
theorem C.graph_Under_c8_w : awp P C.graph_Under_c8 Q fr st = awp P (.keep [0, 1, 6, 8, 10, 26, 27, 28, 35, 36, 37] (.seq (.block 3 C.graph_Under_b7) C.graph_Under_c3)) Q fr st := rfl
def C.graph_Under_c9 : ICode := .keep [0, 1, 6, 8, 10, 26, 27, 28, 35, 36, 37, 38] (.seq (.cond (.slot 38) .skip (.exit 2)) C.graph_Under_c8)
theorem C.graph_Under_c9_w : awp P C.graph_Under_c9 Q fr st = awp P (.keep [0, 1, 6, 8, 10, 26, 27, 28, 35, 36, 37, 38] (.seq (.cond (.slot 38) .skip (.exit 2)) C.graph_Under_c8)) Q fr st := rfl
def C.graph_Under_r10_b : List IOper := [
  ⟨some 38, .bin .lss (.slot 37) (.slot 36), none, [], []⟩]
def C.graph_Under_r10 : List IOper := C.graph_Under_r10_b
theorem C.graph_Under_r10_w {k : AFr → ASt → Prop} : aops P C.graph_Under_r10 k fr st = aops P C.graph_Under_r10_b k fr st := rfl
def C.graph_Under_l10 : ICode := .keep [0, 1, 6, 8, 10, 26, 27, 28, 35, 36, 37] (.seq (.region C.graph_Under_r10) C.graph_Under_c9)
theorem C.graph_Under_l10_w : awp P C.graph_Under_l10 Q fr st = awp P (.keep [0, 1, 6, 8, 10, 26, 27, 28, 35, 36, 37] (.seq (.region C.graph_Under_r10) C.graph_Under_c9)) Q fr st := rfl
def C.graph_Under_b11 : ICode := .loop C.graph_Under_l10
theorem C.graph_Under_b11_w : awp P C.graph_Under_b11 Q fr st = awp P (.loop C.graph_Under_l10) Q fr st := rfl
def C.graph_Under_c12 : ICode := .keep [0, 1, 6, 8, 10, 26, 27, 28, 35, 36, 37] (.block 2 C.graph_Under_b11)
theorem C.graph_Under_c12_w : awp P C.graph_Under_c12 Q fr st = awp P (.keep [0, 1, 6, 8, 10, 26, 27, 28, 35, 36, 37] (.block 2 C.graph_Under_b11)) Q fr st := rfl
def C.graph_Under_r9_b : List IOper := [
  ⟨some 32, .move (.slot 0), none, [], []⟩,
  ⟨some 33, .move (.slot 10), none, [], []⟩,
  ⟨some 34, .idxAddr 1 (.slot 32) (.slot 33), none, [], []⟩,
  ⟨some 35, .load1 (.slot 34), none, [], []⟩,
  ⟨some 36, .len (.slot 35), none, [], []⟩,
  ⟨some 37, .move (.cst (.int .i64 0)), none, [], []⟩]
def C.graph_Under_r9 : List IOper := C.graph_Under_r9_b
theorem C.graph_Under_r9_w {k : AFr → ASt → Prop} : aops P C.graph_Under_r9 k fr st = aops P C.graph_Under_r9_b k fr st := rfl
def C.graph_Under_c13 : ICode := .keep [0, 1, 6, 8, 10, 26, 27, 28] (.seq (.region C.graph_Under_r9) C.graph_Under_c12)
theorem C.graph_Under_c13_w : awp P C.graph_Under_c13 Q fr st = awp P (.keep [0, 1, 6, 8, 10, 26, 27, 28] (.seq (.region C.graph_Under_r9) C.graph_Under_c12)) Q fr st := rfl
def C.graph_Under_r8_b : List IOper := [
  ⟨some 30, .idxAddr 1 (.slot 26) (.slot 28), none, [], []⟩,
  ⟨some 31, .load1 (.slot 30), none, [], []⟩,
  ⟨some 10, .move (.slot 31), none, [], []⟩]
def C.graph_Under_r8 : List IOper := C.graph_Under_r8_b
theorem C.graph_Under_r8_w {k : AFr → ASt → Prop} : aops P C.graph_Under_r8 k fr st = aops P C.graph_Under_r8_b k fr st := rfl
def C.graph_Under_b14 : ICode := .seq (.region C.graph_Under_r8) C.graph_Under_c13
theorem C.graph_Under_b14_w : awp P C.graph_Under_b14 Q fr st = awp P (.seq (.region C.graph_Under_r8) C.graph_Under_c13) Q fr st := rfl
def C.graph_Under_c15 : ICode := .keep [0, 1, 6, 8, 26, 27, 28] (.seq (.block 1 C.graph_Under_b14) C.graph_Under_c2)
theorem C.graph_Under_c15_w : awp P C.graph_Under_c15 Q fr st = awp P (.keep [0, 1, 6, 8, 26, 27, 28] (.seq (.block 1 C.graph_Under_b14) C.graph_Under_c2)) Q fr st := rfl
def C.graph_Under_c16 : ICode := .keep [0, 1, 6, 8, 26, 27, 28, 29] (.seq (.cond (.slot 29) .skip (.exit 0)) C.graph_Under_c15)
theorem C.graph_Under_c16_w : awp P C.graph_Under_c16 Q fr st = awp P (.keep [0, 1, 6, 8, 26, 27, 28, 29] (.seq (.cond (.slot 29) .skip (.exit 0)) C.graph_Under_c15)) Q fr st := rfl
def C.graph_Under_r7_b : List IOper := [
  ⟨some 29, .bin .lss (.slot 28) (.slot 27), none, [], []⟩]
def C.graph_Under_r7 : List IOper := C.graph_Under_r7_b
theorem C.graph_Under_r7_w {k : AFr → ASt → Prop} : aops P C.graph_Under_r7 k fr st = aops P C.graph_Under_r7_b k fr st := rfl
def C.graph_Under_l17 : ICode := .keep [0, 1, 6, 8, 26, 27, 28] (.seq (.region C.graph_Under_r7) C.graph_Under_c16)
theorem C.graph_Under_l17_w : awp P C.graph_Under_l17 Q fr st = awp P (.keep [0, 1, 6, 8, 26, 27, 28] (.seq (.region C.graph_Under_r7) C.graph_Under_c16)) Q fr st := rfl
def C.graph_Under_b18 : ICode := .loop C.graph_Under_l17
theorem C.graph_Under_b18_w : awp P C.graph_Under_b18 Q fr st = awp P (.loop C.graph_Under_l17) Q fr st := rfl
def C.graph_Under_c19 : ICode := .keep [0, 1, 6, 8, 26, 27, 28] (.block 0 C.graph_Under_b18)
theorem C.graph_Under_c19_w : awp P C.graph_Under_c19 Q fr st = awp P (.keep [0, 1, 6, 8, 26, 27, 28] (.block 0 C.graph_Under_b18)) Q fr st := rfl
def C.graph_Under_r6_b : List IOper := [
  ⟨some 26, .move (.slot 6), none, [], []⟩,
  ⟨some 27, .len (.slot 26), none, [], []⟩,
  ⟨some 28, .move (.cst (.int .i64 0)), none, [], []⟩]
def C.graph_Under_r6 : List IOper := C.graph_Under_r6_b
theorem C.graph_Under_r6_w {k : AFr → ASt → Prop} : aops P C.graph_Under_r6 k fr st = aops P C.graph_Under_r6_b k fr st := rfl
def C.graph_Under_c20 : ICode := .keep [0, 1, 6, 8] (.seq (.seq (.region C.graph_Under_r6) C.graph_Under_c19) C.graph_Under_c1)
theorem C.graph_Under_c20_w : awp P C.graph_Under_c20 Q fr st = awp P (.keep [0, 1, 6, 8] (.seq (.seq (.region C.graph_Under_r6) C.graph_Under_c19) C.graph_Under_c1)) Q fr st := rfl
def C.graph_Under_r5_b : List IOper := [
  ⟨some 23, .move (.slot 8), none, [], []⟩,
  ⟨some 24, .move (.slot 1), none, [], []⟩,
  ⟨some 25, .call F.graph_marks_add [.slot 23, .slot 24], none, [], []⟩]
def C.graph_Under_r5 : List IOper := C.graph_Under_r5_b
theorem C.graph_Under_r5_w {k : AFr → ASt → Prop} : aops P C.graph_Under_r5 k fr st = aops P C.graph_Under_r5_b k fr st := rfl
def C.graph_Under_c21 : ICode := .keep [0, 1, 6, 8] (.seq (.region C.graph_Under_r5) C.graph_Under_c20)
theorem C.graph_Under_c21_w : awp P C.graph_Under_c21 Q fr st = awp P (.keep [0, 1, 6, 8] (.seq (.region C.graph_Under_r5) C.graph_Under_c20)) Q fr st := rfl
def C.graph_Under_r4_b : List IOper := [
  ⟨some 22, .makeMap none, none, [], []⟩,
  ⟨some 8, .move (.slot 22), none, [], []⟩]
def C.graph_Under_r4 : List IOper := C.graph_Under_r4_b
theorem C.graph_Under_r4_w {k : AFr → ASt → Prop} : aops P C.graph_Under_r4 k fr st = aops P C.graph_Under_r4_b k fr st := rfl
def C.graph_Under_c22 : ICode := .keep [0, 1, 6] (.seq (.region C.graph_Under_r4) C.graph_Under_c21)
theorem C.graph_Under_c22_w : awp P C.graph_Under_c22 Q fr st = awp P (.keep [0, 1, 6] (.seq (.region C.graph_Under_r4) C.graph_Under_c21)) Q fr st := rfl
def C.graph_Under_r3_b : List IOper := [
  ⟨some 21, .move (.slot 7), none, [], []⟩,
  ⟨some 4, .move (.cst (.nils)), none, [], []⟩,
  ⟨some 5, .move (.slot 21), none, [], []⟩]
def C.graph_Under_r3 : List IOper := C.graph_Under_r3_b
theorem C.graph_Under_r3_w {k : AFr → ASt → Prop} : aops P C.graph_Under_r3 k fr st = aops P C.graph_Under_r3_b k fr st := rfl
def C.graph_Under_c23 : ICode := .seq (.region C.graph_Under_r3) .ret
theorem C.graph_Under_c23_w : awp P C.graph_Under_c23 Q fr st = awp P (.seq (.region C.graph_Under_r3) .ret) Q fr st := rfl
def C.graph_Under_c24 : ICode := .keep [0, 1, 6, 7, 20] (.cond (.slot 20) C.graph_Under_c23 .skip)
theorem C.graph_Under_c24_w : awp P C.graph_Under_c24 Q fr st = awp P (.keep [0, 1, 6, 7, 20] (.cond (.slot 20) C.graph_Under_c23 .skip)) Q fr st := rfl
def C.graph_Under_r2_b : List IOper := [
  ⟨some 19, .move (.slot 7), none, [], []⟩,
  ⟨some 20, .bin .neq (.slot 19) (.cst (.int .i64 0)), none, [], []⟩]
def C.graph_Under_r2 : List IOper := C.graph_Under_r2_b
theorem C.graph_Under_r2_w {k : AFr → ASt → Prop} : aops P C.graph_Under_r2 k fr st = aops P C.graph_Under_r2_b k fr st := rfl
def C.graph_Under_c25 : ICode := .keep [0, 1, 6, 7] (.seq (.seq (.region C.graph_Under_r2) C.graph_Under_c24) C.graph_Under_c22)
theorem C.graph_Under_c25_w : awp P C.graph_Under_c25 Q fr st = awp P (.keep [0, 1, 6, 7] (.seq (.seq (.region C.graph_Under_r2) C.graph_Under_c24) C.graph_Under_c22)) Q fr st := rfl
def C.graph_Under_r1_b : List IOper := [
  ⟨some 14, .move (.slot 0), none, [], []⟩,
  ⟨some 15, .move (.slot 1), none, [], []⟩,
  ⟨some 16, .call F.graph_ordered [.slot 14, .slot 15], none, [], []⟩,
  ⟨some 13, .move (.slot 16), none, [], []⟩,
  ⟨some 17, .extract (.slot 13) 0, none, [], []⟩,
  ⟨some 18, .extract (.slot 13) 1, none, [], []⟩,
  ⟨some 6, .move (.slot 17), none, [], []⟩,
  ⟨some 7, .move (.slot 18), none, [], []⟩]
def C.graph_Under_r1 : List IOper := C.graph_Under_r1_b
theorem C.graph_Under_r1_w {k : AFr → ASt → Prop} : aops P C.graph_Under_r1 k fr st = aops P C.graph_Under_r1_b k fr st := rfl
def C.graph_Under_c26 : ICode := .keep [0, 1] (.seq (.region C.graph_Under_r1) C.graph_Under_c25)
theorem C.graph_Under_c26_w : awp P C.graph_Under_c26 Q fr st = awp P (.keep [0, 1] (.seq (.region C.graph_Under_r1) C.graph_Under_c25)) Q fr st := rfl
def C.graph_Under_r0_b : List IOper := [
  ⟨some 4, .move (.cst (.nils)), none, [], []⟩,
  ⟨some 5, .move (.cst (.int .i64 0)), none, [], []⟩]
def C.graph_Under_r0 : List IOper := C.graph_Under_r0_b
theorem C.graph_Under_r0_w {k : AFr → ASt → Prop} : aops P C.graph_Under_r0 k fr st = aops P C.graph_Under_r0_b k fr st := rfl
def C.graph_Under : IFunc := ⟨2, [.slot 4, .slot 5], .seq (.region C.graph_Under_r0) C.graph_Under_c26⟩
def C.graph_Under_W := And.intro (And.intro (And.intro (And.intro (And.intro @C.graph_Under_r16_w @C.graph_Under_c1_w) (And.intro @C.graph_Under_r15_w (And.intro @C.graph_Under_c2_w @C.graph_Under_r14_w))) (And.intro (And.intro @C.graph_Under_c3_w @C.graph_Under_r13_w) (And.intro @C.graph_Under_c4_w (And.intro @C.graph_Under_c5_w @C.graph_Under_r12_w)))) (And.intro (And.intro (And.intro @C.graph_Under_c6_w @C.graph_Under_r11_w) (And.intro @C.graph_Under_b7_w (And.intro @C.graph_Under_c8_w @C.graph_Under_c9_w))) (And.intro (And.intro @C.graph_Under_r10_w @C.graph_Under_b11_w) (And.intro @C.graph_Under_c12_w (And.intro @C.graph_Under_r9_w @C.graph_Under_c13_w))))) (And.intro (And.intro (And.intro (And.intro @C.graph_Under_r8_w @C.graph_Under_b14_w) (And.intro @C.graph_Under_c15_w (And.intro @C.graph_Under_c16_w @C.graph_Under_r7_w))) (And.intro (And.intro @C.graph_Under_b18_w @C.graph_Under_c19_w) (And.intro @C.graph_Under_r6_w (And.intro @C.graph_Under_c20_w @C.graph_Under_r5_w)))) (And.intro (And.intro (And.intro @C.graph_Under_c21_w @C.graph_Under_r4_w) (And.intro @C.graph_Under_c22_w (And.intro @C.graph_Under_r3_w @C.graph_Under_c23_w))) (And.intro (And.intro @C.graph_Under_c24_w (And.intro @C.graph_Under_r2_w @C.graph_Under_c25_w)) (And.intro @C.graph_Under_r1_w (And.intro @C.graph_Under_c26_w @C.graph_Under_r0_w)))))
def C.graph_Under_B := And.intro (And.intro (And.intro (And.intro @C.graph_Under_r16_b.eq_1 @C.graph_Under_r15_b.eq_1) (And.intro @C.graph_Under_r14_b.eq_1 @C.graph_Under_r13_b.eq_1)) (And.intro (And.intro @C.graph_Under_r12_b.eq_1 @C.graph_Under_r11_b.eq_1) (And.intro @C.graph_Under_r10_b.eq_1 @C.graph_Under_r9_b.eq_1))) (And.intro (And.intro (And.intro @C.graph_Under_r8_b.eq_1 @C.graph_Under_r7_b.eq_1) (And.intro @C.graph_Under_r6_b.eq_1 @C.graph_Under_r5_b.eq_1)) (And.intro (And.intro @C.graph_Under_r4_b.eq_1 @C.graph_Under_r3_b.eq_1) (And.intro @C.graph_Under_r2_b.eq_1 (And.intro @C.graph_Under_r1_b.eq_1 @C.graph_Under_r0_b.eq_1))))

def C.catnaplaw3_light_r8_b : List IOper := [
  ⟨some 2, .move (.cst (.bool true)), none, [], []⟩]
def C.catnaplaw3_light_r8 : List IOper := C.catnaplaw3_light_r8_b
theorem C.catnaplaw3_light_r8_w {k : AFr → ASt → Prop} : aops P C.catnaplaw3_light_r8 k fr st = aops P C.catnaplaw3_light_r8_b k fr st := rfl
def C.catnaplaw3_light_c1 : ICode := .keep [] (.seq (.region C.catnaplaw3_light_r8) .ret)
theorem C.catnaplaw3_light_c1_w : awp P C.catnaplaw3_light_c1 Q fr st = awp P (.keep [] (.seq (.region C.catnaplaw3_light_r8) .ret)) Q fr st := rfl
def C.catnaplaw3_light_r5_b : List IOper := [
  ⟨some 11, .move (.slot 3), none, [], []⟩,
  ⟨some 12, .bin .add (.slot 11) (.cst (.int .i64 1)), none, [], []⟩,
  ⟨some 3, .move (.slot 12), none, [], []⟩]
def C.catnaplaw3_light_r5 : List IOper := C.catnaplaw3_light_r5_b
theorem C.catnaplaw3_light_r5_w {k : AFr → ASt → Prop} : aops P C.catnaplaw3_light_r5 k fr st = aops P C.catnaplaw3_light_r5_b k fr st := rfl
def C.catnaplaw3_light_c2 : ICode := .keep [0, 3] (.region C.catnaplaw3_light_r5)
theorem C.catnaplaw3_light_c2_w : awp P C.catnaplaw3_light_c2 Q fr st = awp P (.keep [0, 3] (.region C.catnaplaw3_light_r5)) Q fr st := rfl
def C.catnaplaw3_light_r7_b : List IOper := [
  ⟨some 2, .move (.cst (.bool false)), none, [], []⟩]
def C.catnaplaw3_light_r7 : List IOper := C.catnaplaw3_light_r7_b
theorem C.catnaplaw3_light_r7_w {k : AFr → ASt → Prop} : aops P C.catnaplaw3_light_r7 k fr st = aops P C.catnaplaw3_light_r7_b k fr st := rfl
def C.catnaplaw3_light_c3 : ICode := .seq (.region C.catnaplaw3_light_r7) .ret
theorem C.catnaplaw3_light_c3_w : awp P C.catnaplaw3_light_c3 Q fr st = awp P (.seq (.region C.catnaplaw3_light_r7) .ret) Q fr st := rfl
def C.catnaplaw3_light_c4 : ICode := .keep [0, 3, 18] (.cond (.slot 18) C.catnaplaw3_light_c3 .skip)
theorem C.catnaplaw3_light_c4_w : awp P C.catnaplaw3_light_c4 Q fr st = awp P (.keep [0, 3, 18] (.cond (.slot 18) C.catnaplaw3_light_c3 .skip)) Q fr st := rfl
def C.catnaplaw3_light_r6_b : List IOper := [
  ⟨some 13, .move (.slot 0), none, [], []⟩,
  ⟨some 14, .move (.slot 3), none, [], []⟩,
  ⟨some 15, .idxAddr 1 (.slot 13) (.slot 14), none, [], []⟩,
  ⟨some 16, .load1 (.slot 15), none, [], []⟩,
  ⟨some 17, .len (.slot 16), none, [], []⟩,
  ⟨some 18, .bin .gtr (.slot 17) (.cst (.int .i64 20)), none, [], []⟩]
def C.catnaplaw3_light_r6 : List IOper := C.catnaplaw3_light_r6_b
theorem C.catnaplaw3_light_r6_w {k : AFr → ASt → Prop} : aops P C.catnaplaw3_light_r6 k fr st = aops P C.catnaplaw3_light_r6_b k fr st := rfl
def C.catnaplaw3_light_b5 : ICode := .seq (.region C.catnaplaw3_light_r6) C.catnaplaw3_light_c4
theorem C.catnaplaw3_light_b5_w : awp P C.catnaplaw3_light_b5 Q fr st = awp P (.seq (.region C.catnaplaw3_light_r6) C.catnaplaw3_light_c4) Q fr st := rfl
def C.catnaplaw3_light_c6 : ICode := .keep [0, 3] (.seq (.block 1 C.catnaplaw3_light_b5) C.catnaplaw3_light_c2)
theorem C.catnaplaw3_light_c6_w : awp P C.catnaplaw3_light_c6 Q fr st = awp P (.keep [0, 3] (.seq (.block 1 C.catnaplaw3_light_b5) C.catnaplaw3_light_c2)) Q fr st := rfl
def C.catnaplaw3_light_c7 : ICode := .keep [0, 3, 10] (.cond (.slot 10) .skip (.exit 0))
theorem C.catnaplaw3_light_c7_w : awp P C.catnaplaw3_light_c7 Q fr st = awp P (.keep [0, 3, 10] (.cond (.slot 10) .skip (.exit 0))) Q fr st := rfl
def C.catnaplaw3_light_r4_b : List IOper := [
  ⟨some 7, .move (.slot 3), none, [], []⟩,
  ⟨some 8, .move (.slot 0), none, [], []⟩,
  ⟨some 9, .len (.slot 8), none, [], []⟩,
  ⟨some 10, .bin .lss (.slot 7) (.slot 9), none, [], []⟩]
def C.catnaplaw3_light_r4 : List IOper := C.catnaplaw3_light_r4_b
theorem C.catnaplaw3_light_r4_w {k : AFr → ASt → Prop} : aops P C.catnaplaw3_light_r4 k fr st = aops P C.catnaplaw3_light_r4_b k fr st := rfl
def C.catnaplaw3_light_l8 : ICode := .keep [0, 3] (.seq (.seq (.region C.catnaplaw3_light_r4) C.catnaplaw3_light_c7) C.catnaplaw3_light_c6)
theorem C.catnaplaw3_light_l8_w : awp P C.catnaplaw3_light_l8 Q fr st = awp P (.keep [0, 3] (.seq (.seq (.region C.catnaplaw3_light_r4) C.catnaplaw3_light_c7) C.catnaplaw3_light_c6)) Q fr st := rfl
def C.catnaplaw3_light_b9 : ICode := .loop C.catnaplaw3_light_l8
theorem C.catnaplaw3_light_b9_w : awp P C.catnaplaw3_light_b9 Q fr st = awp P (.loop C.catnaplaw3_light_l8) Q fr st := rfl
def C.catnaplaw3_light_c10 : ICode := .keep [0, 3] (.block 0 C.catnaplaw3_light_b9)
theorem C.catnaplaw3_light_c10_w : awp P C.catnaplaw3_light_c10 Q fr st = awp P (.keep [0, 3] (.block 0 C.catnaplaw3_light_b9)) Q fr st := rfl
def C.catnaplaw3_light_r3_b : List IOper := [
  ⟨some 3, .move (.cst (.int .i64 0)), none, [], []⟩]
def C.catnaplaw3_light_r3 : List IOper := C.catnaplaw3_light_r3_b
theorem C.catnaplaw3_light_r3_w {k : AFr → ASt → Prop} : aops P C.catnaplaw3_light_r3 k fr st = aops P C.catnaplaw3_light_r3_b k fr st := rfl
def C.catnaplaw3_light_c11 : ICode := .keep [0] (.seq (.seq (.region C.catnaplaw3_light_r3) C.catnaplaw3_light_c10) C.catnaplaw3_light_c1)
theorem C.catnaplaw3_light_c11_w : awp P C.catnaplaw3_light_c11 Q fr st = awp P (.keep [0] (.seq (.seq (.region C.catnaplaw3_light_r3) C.catnaplaw3_light_c10) C.catnaplaw3_light_c1)) Q fr st := rfl
def C.catnaplaw3_light_r2_b : List IOper := [
  ⟨some 2, .move (.cst (.bool false)), none, [], []⟩]
def C.catnaplaw3_light_r2 : List IOper := C.catnaplaw3_light_r2_b
theorem C.catnaplaw3_light_r2_w {k : AFr → ASt → Prop} : aops P C.catnaplaw3_light_r2 k fr st = aops P C.catnaplaw3_light_r2_b k fr st := rfl
def C.catnaplaw3_light_c12 : ICode := .seq (.region C.catnaplaw3_light_r2) .ret
theorem C.catnaplaw3_light_c12_w : awp P C.catnaplaw3_light_c12 Q fr st = awp P (.seq (.region C.catnaplaw3_light_r2) .ret) Q fr st := rfl
def C.catnaplaw3_light_c13 : ICode := .keep [0, 6] (.cond (.slot 6) C.catnaplaw3_light_c12 .skip)
theorem C.catnaplaw3_light_c13_w : awp P C.catnaplaw3_light_c13 Q fr st = awp P (.keep [0, 6] (.cond (.slot 6) C.catnaplaw3_light_c12 .skip)) Q fr st := rfl
def C.catnaplaw3_light_r1_b : List IOper := [
  ⟨some 4, .move (.slot 0), none, [], []⟩,
  ⟨some 5, .len (.slot 4), none, [], []⟩,
  ⟨some 6, .bin .gtr (.slot 5) (.cst (.int .i64 120)), none, [], []⟩]
def C.catnaplaw3_light_r1 : List IOper := C.catnaplaw3_light_r1_b
theorem C.catnaplaw3_light_r1_w {k : AFr → ASt → Prop} : aops P C.catnaplaw3_light_r1 k fr st = aops P C.catnaplaw3_light_r1_b k fr st := rfl
def C.catnaplaw3_light_c14 : ICode := .keep [0] (.seq (.seq (.region C.catnaplaw3_light_r1) C.catnaplaw3_light_c13) C.catnaplaw3_light_c11)
theorem C.catnaplaw3_light_c14_w : awp P C.catnaplaw3_light_c14 Q fr st = awp P (.keep [0] (.seq (.seq (.region C.catnaplaw3_light_r1) C.catnaplaw3_light_c13) C.catnaplaw3_light_c11)) Q fr st := rfl
def C.catnaplaw3_light_r0_b : List IOper := [
  ⟨some 2, .move (.cst (.bool false)), none, [], []⟩]
def C.catnaplaw3_light_r0 : List IOper := C.catnaplaw3_light_r0_b
theorem C.catnaplaw3_light_r0_w {k : AFr → ASt → Prop} : aops P C.catnaplaw3_light_r0 k fr st = aops P C.catnaplaw3_light_r0_b k fr st := rfl
def C.catnaplaw3_light : IFunc := ⟨1, [.slot 2], .seq (.region C.catnaplaw3_light_r0) C.catnaplaw3_light_c14⟩
def C.catnaplaw3_light_W := And.intro (And.intro (And.intro (And.intro @C.catnaplaw3_light_r8_w @C.catnaplaw3_light_c1_w) (And.intro @C.catnaplaw3_light_r5_w (And.intro @C.catnaplaw3_light_c2_w @C.catnaplaw3_light_r7_w))) (And.intro (And.intro @C.catnaplaw3_light_c3_w (And.intro @C.catnaplaw3_light_c4_w @C.catnaplaw3_light_r6_w)) (And.intro @C.catnaplaw3_light_b5_w (And.intro @C.catnaplaw3_light_c6_w @C.catnaplaw3_light_c7_w)))) (And.intro (And.intro (And.intro @C.catnaplaw3_light_r4_w @C.catnaplaw3_light_b9_w) (And.intro @C.catnaplaw3_light_c10_w (And.intro @C.catnaplaw3_light_r3_w @C.catnaplaw3_light_c11_w))) (And.intro (And.intro @C.catnaplaw3_light_r2_w (And.intro @C.catnaplaw3_light_c12_w @C.catnaplaw3_light_c13_w)) (And.intro @C.catnaplaw3_light_r1_w (And.intro @C.catnaplaw3_light_c14_w @C.catnaplaw3_light_r0_w))))
def C.catnaplaw3_light_B := And.intro (And.intro (And.intro @C.catnaplaw3_light_r8_b.eq_1 @C.catnaplaw3_light_r5_b.eq_1) (And.intro @C.catnaplaw3_light_r7_b.eq_1 @C.catnaplaw3_light_r6_b.eq_1)) (And.intro (And.intro @C.catnaplaw3_light_r4_b.eq_1 @C.catnaplaw3_light_r3_b.eq_1) (And.intro @C.catnaplaw3_light_r2_b.eq_1 (And.intro @C.catnaplaw3_light_r1_b.eq_1 @C.catnaplaw3_light_r0_b.eq_1)))

def C.catnapref3_Order_r4_b : List IOper := [
  ⟨some 10, .move (.slot 0), none, [], []⟩,
  ⟨some 11, .call F.catnapref3_order [.slot 10], none, [], []⟩,
  ⟨some 2, .move (.slot 11), none, [], []⟩,
  ⟨some 3, .move (.cst (.int .i64 0)), none, [], []⟩]
def C.catnapref3_Order_r4 : List IOper := C.catnapref3_Order_r4_b
theorem C.catnapref3_Order_r4_w {k : AFr → ASt → Prop} : aops P C.catnapref3_Order_r4 k fr st = aops P C.catnapref3_Order_r4_b k fr st := rfl
def C.catnapref3_Order_c1 : ICode := .keep [0] (.seq (.region C.catnapref3_Order_r4) .ret)
theorem C.catnapref3_Order_c1_w : awp P C.catnapref3_Order_c1 Q fr st = awp P (.keep [0] (.seq (.region C.catnapref3_Order_r4) .ret)) Q fr st := rfl
def C.catnapref3_Order_r3_b : List IOper := [
  ⟨some 9, .move (.slot 4), none, [], []⟩,
  ⟨some 2, .move (.cst (.nils)), none, [], []⟩,
  ⟨some 3, .move (.slot 9), none, [], []⟩]
def C.catnapref3_Order_r3 : List IOper := C.catnapref3_Order_r3_b
theorem C.catnapref3_Order_r3_w {k : AFr → ASt → Prop} : aops P C.catnapref3_Order_r3 k fr st = aops P C.catnapref3_Order_r3_b k fr st := rfl
def C.catnapref3_Order_c2 : ICode := .seq (.region C.catnapref3_Order_r3) .ret
theorem C.catnapref3_Order_c2_w : awp P C.catnapref3_Order_c2 Q fr st = awp P (.seq (.region C.catnapref3_Order_r3) .ret) Q fr st := rfl
def C.catnapref3_Order_c3 : ICode := .keep [0, 4, 8] (.cond (.slot 8) C.catnapref3_Order_c2 .skip)
theorem C.catnapref3_Order_c3_w : awp P C.catnapref3_Order_c3 Q fr st = awp P (.keep [0, 4, 8] (.cond (.slot 8) C.catnapref3_Order_c2 .skip)) Q fr st := rfl
def C.catnapref3_Order_r2_b : List IOper := [
  ⟨some 7, .move (.slot 4), none, [], []⟩,
  ⟨some 8, .bin .neq (.slot 7) (.cst (.int .i64 0)), none, [], []⟩]
def C.catnapref3_Order_r2 : List IOper := C.catnapref3_Order_r2_b
theorem C.catnapref3_Order_r2_w {k : AFr → ASt → Prop} : aops P C.catnapref3_Order_r2 k fr st = aops P C.catnapref3_Order_r2_b k fr st := rfl
def C.catnapref3_Order_c4 : ICode := .keep [0, 4] (.seq (.seq (.region C.catnapref3_Order_r2) C.catnapref3_Order_c3) C.catnapref3_Order_c1)
theorem C.catnapref3_Order_c4_w : awp P C.catnapref3_Order_c4 Q fr st = awp P (.keep [0, 4] (.seq (.seq (.region C.catnapref3_Order_r2) C.catnapref3_Order_c3) C.catnapref3_Order_c1)) Q fr st := rfl
def C.catnapref3_Order_r1_b : List IOper := [
  ⟨some 5, .move (.slot 0), none, [], []⟩,
  ⟨some 6, .call F.catnapref3_Check [.slot 5], none, [], []⟩,
  ⟨some 4, .move (.slot 6), none, [], []⟩]
def C.catnapref3_Order_r1 : List IOper := C.catnapref3_Order_r1_b
theorem C.catnapref3_Order_r1_w {k : AFr → ASt → Prop} : aops P C.catnapref3_Order_r1 k fr st = aops P C.catnapref3_Order_r1_b k fr st := rfl
def C.catnapref3_Order_c5 : ICode := .keep [0] (.seq (.region C.catnapref3_Order_r1) C.catnapref3_Order_c4)
theorem C.catnapref3_Order_c5_w : awp P C.catnapref3_Order_c5 Q fr st = awp P (.keep [0] (.seq (.region C.catnapref3_Order_r1) C.catnapref3_Order_c4)) Q fr st := rfl
def C.catnapref3_Order_r0_b : List IOper := [
  ⟨some 2, .move (.cst (.nils)), none, [], []⟩,
  ⟨some 3, .move (.cst (.int .i64 0)), none, [], []⟩]
def C.catnapref3_Order_r0 : List IOper := C.catnapref3_Order_r0_b
theorem C.catnapref3_Order_r0_w {k : AFr → ASt → Prop} : aops P C.catnapref3_Order_r0 k fr st = aops P C.catnapref3_Order_r0_b k fr st := rfl
def C.catnapref3_Order : IFunc := ⟨1, [.slot 2, .slot 3], .seq (.region C.catnapref3_Order_r0) C.catnapref3_Order_c5⟩
def C.catnapref3_Order_W := And.intro (And.intro (And.intro @C.catnapref3_Order_r4_w @C.catnapref3_Order_c1_w) (And.intro @C.catnapref3_Order_r3_w (And.intro @C.catnapref3_Order_c2_w @C.catnapref3_Order_c3_w))) (And.intro (And.intro @C.catnapref3_Order_r2_w @C.catnapref3_Order_c4_w) (And.intro @C.catnapref3_Order_r1_w (And.intro @C.catnapref3_Order_c5_w @C.catnapref3_Order_r0_w)))
def C.catnapref3_Order_B := And.intro (And.intro @C.catnapref3_Order_r4_b.eq_1 @C.catnapref3_Order_r3_b.eq_1) (And.intro @C.catnapref3_Order_r2_b.eq_1 (And.intro @C.catnapref3_Order_r1_b.eq_1 @C.catnapref3_Order_r0_b.eq_1))

def C.catnapref3_Above_r1_b : List IOper := [
  ⟨some 6, .move (.slot 0), none, [], []⟩,
  ⟨some 7, .move (.slot 1), none, [], []⟩,
  ⟨some 8, .call F.catnapref3_some [.slot 6, .slot 7, .cst (.bool true)], none, [], []⟩,
  ⟨some 9, .extract (.slot 8) 0, none, [], []⟩,
  ⟨some 10, .extract (.slot 8) 1, none, [], []⟩,
  ⟨some 4, .move (.slot 9), none, [], []⟩,
  ⟨some 5, .move (.slot 10), none, [], []⟩]
def C.catnapref3_Above_r1 : List IOper := C.catnapref3_Above_r1_b
theorem C.catnapref3_Above_r1_w {k : AFr → ASt → Prop} : aops P C.catnapref3_Above_r1 k fr st = aops P C.catnapref3_Above_r1_b k fr st := rfl
def C.catnapref3_Above_c1 : ICode := .keep [0, 1] (.seq (.region C.catnapref3_Above_r1) .ret)
theorem C.catnapref3_Above_c1_w : awp P C.catnapref3_Above_c1 Q fr st = awp P (.keep [0, 1] (.seq (.region C.catnapref3_Above_r1) .ret)) Q fr st := rfl
def C.catnapref3_Above_r0_b : List IOper := [
  ⟨some 4, .move (.cst (.nils)), none, [], []⟩,
  ⟨some 5, .move (.cst (.int .i64 0)), none, [], []⟩]
def C.catnapref3_Above_r0 : List IOper := C.catnapref3_Above_r0_b
theorem C.catnapref3_Above_r0_w {k : AFr → ASt → Prop} : aops P C.catnapref3_Above_r0 k fr st = aops P C.catnapref3_Above_r0_b k fr st := rfl
def C.catnapref3_Above : IFunc := ⟨2, [.slot 4, .slot 5], .seq (.region C.catnapref3_Above_r0) C.catnapref3_Above_c1⟩
def C.catnapref3_Above_W := And.intro @C.catnapref3_Above_r1_w (And.intro @C.catnapref3_Above_c1_w @C.catnapref3_Above_r0_w)
def C.catnapref3_Above_B := And.intro @C.catnapref3_Above_r1_b.eq_1 @C.catnapref3_Above_r0_b.eq_1

def C.catnapref3_Under_r1_b : List IOper := [
  ⟨some 6, .move (.slot 0), none, [], []⟩,
  ⟨some 7, .move (.slot 1), none, [], []⟩,
  ⟨some 8, .call F.catnapref3_some [.slot 6, .slot 7, .cst (.bool false)], none, [], []⟩,
  ⟨some 9, .extract (.slot 8) 0, none, [], []⟩,
  ⟨some 10, .extract (.slot 8) 1, none, [], []⟩,
  ⟨some 4, .move (.slot 9), none, [], []⟩,
  ⟨some 5, .move (.slot 10), none, [], []⟩]
def C.catnapref3_Under_r1 : List IOper := C.catnapref3_Under_r1_b
theorem C.catnapref3_Under_r1_w {k : AFr → ASt → Prop} : aops P C.catnapref3_Under_r1 k fr st = aops P C.catnapref3_Under_r1_b k fr st := rfl
def C.catnapref3_Under_c1 : ICode := .keep [0, 1] (.seq (.region C.catnapref3_Under_r1) .ret)
theorem C.catnapref3_Under_c1_w : awp P C.catnapref3_Under_c1 Q fr st = awp P (.keep [0, 1] (.seq (.region C.catnapref3_Under_r1) .ret)) Q fr st := rfl
def C.catnapref3_Under_r0_b : List IOper := [
  ⟨some 4, .move (.cst (.nils)), none, [], []⟩,
  ⟨some 5, .move (.cst (.int .i64 0)), none, [], []⟩]
def C.catnapref3_Under_r0 : List IOper := C.catnapref3_Under_r0_b
theorem C.catnapref3_Under_r0_w {k : AFr → ASt → Prop} : aops P C.catnapref3_Under_r0 k fr st = aops P C.catnapref3_Under_r0_b k fr st := rfl
def C.catnapref3_Under : IFunc := ⟨2, [.slot 4, .slot 5], .seq (.region C.catnapref3_Under_r0) C.catnapref3_Under_c1⟩
def C.catnapref3_Under_W := And.intro @C.catnapref3_Under_r1_w (And.intro @C.catnapref3_Under_c1_w @C.catnapref3_Under_r0_w)
def C.catnapref3_Under_B := And.intro @C.catnapref3_Under_r1_b.eq_1 @C.catnapref3_Under_r0_b.eq_1

def C.catnapref3_Check_r13_b : List IOper := [
  ⟨some 2, .move (.cst (.int .i64 0)), none, [], []⟩]
def C.catnapref3_Check_r13 : List IOper := C.catnapref3_Check_r13_b
theorem C.catnapref3_Check_r13_w {k : AFr → ASt → Prop} : aops P C.catnapref3_Check_r13 k fr st = aops P C.catnapref3_Check_r13_b k fr st := rfl
def C.catnapref3_Check_c1 : ICode := .keep [] (.seq (.region C.catnapref3_Check_r13) .ret)
theorem C.catnapref3_Check_c1_w : awp P C.catnapref3_Check_c1 Q fr st = awp P (.keep [] (.seq (.region C.catnapref3_Check_r13) .ret)) Q fr st := rfl
def C.catnapref3_Check_r12_b : List IOper := [
  ⟨some 2, .move (.cst (.int .i64 5)), none, [], []⟩]
def C.catnapref3_Check_r12 : List IOper := C.catnapref3_Check_r12_b
theorem C.catnapref3_Check_r12_w {k : AFr → ASt → Prop} : aops P C.catnapref3_Check_r12 k fr st = aops P C.catnapref3_Check_r12_b k fr st := rfl
def C.catnapref3_Check_c2 : ICode := .seq (.region C.catnapref3_Check_r12) .ret
theorem C.catnapref3_Check_c2_w : awp P C.catnapref3_Check_c2 Q fr st = awp P (.seq (.region C.catnapref3_Check_r12) .ret) Q fr st := rfl
def C.catnapref3_Check_c3 : ICode := .keep [48] (.cond (.slot 48) C.catnapref3_Check_c2 .skip)
theorem C.catnapref3_Check_c3_w : awp P C.catnapref3_Check_c3 Q fr st = awp P (.keep [48] (.cond (.slot 48) C.catnapref3_Check_c2 .skip)) Q fr st := rfl
def C.catnapref3_Check_r11_b : List IOper := [
  ⟨some 43, .move (.slot 0), none, [], []⟩,
  ⟨some 44, .call F.catnapref3_order [.slot 43], none, [], []⟩,
  ⟨some 45, .len (.slot 44), none, [], []⟩,
  ⟨some 46, .move (.slot 0), none, [], []⟩,
  ⟨some 47, .len (.slot 46), none, [], []⟩,
  ⟨some 48, .bin .lss (.slot 45) (.slot 47), none, [], []⟩]
def C.catnapref3_Check_r11 : List IOper := C.catnapref3_Check_r11_b
theorem C.catnapref3_Check_r11_w {k : AFr → ASt → Prop} : aops P C.catnapref3_Check_r11 k fr st = aops P C.catnapref3_Check_r11_b k fr st := rfl
def C.catnapref3_Check_c4 : ICode := .keep [0] (.seq (.seq (.region C.catnapref3_Check_r11) C.catnapref3_Check_c3) C.catnapref3_Check_c1)
theorem C.catnapref3_Check_c4_w : awp P C.catnapref3_Check_c4 Q fr st = awp P (.keep [0] (.seq (.seq (.region C.catnapref3_Check_r11) C.catnapref3_Check_c3) C.catnapref3_Check_c1)) Q fr st := rfl
def C.catnapref3_Check_r5_b : List IOper := [
  ⟨some 12, .move (.slot 3), none, [], []⟩,
  ⟨some 13, .bin .add (.slot 12) (.cst (.int .i64 1)), none, [], []⟩,
  ⟨some 3, .move (.slot 13), none, [], []⟩]
def C.catnapref3_Check_r5 : List IOper := C.catnapref3_Check_r5_b
theorem C.catnapref3_Check_r5_w {k : AFr → ASt → Prop} : aops P C.catnapref3_Check_r5 k fr st = aops P C.catnapref3_Check_r5_b k fr st := rfl
def C.catnapref3_Check_c5 : ICode := .keep [0, 3] (.region C.catnapref3_Check_r5)
theorem C.catnapref3_Check_c5_w : awp P C.catnapref3_Check_c5 Q fr st = awp P (.keep [0, 3] (.region C.catnapref3_Check_r5)) Q fr st := rfl
def C.catnapref3_Check_r8_b : List IOper := [
  ⟨some 21, .move (.slot 4), none, [], []⟩,
  ⟨some 22, .bin .add (.slot 21) (.cst (.int .i64 1)), none, [], []⟩,
  ⟨some 4, .move (.slot 22), none, [], []⟩]
def C.catnapref3_Check_r8 : List IOper := C.catnapref3_Check_r8_b
theorem C.catnapref3_Check_r8_w {k : AFr → ASt → Prop} : aops P C.catnapref3_Check_r8 k fr st = aops P C.catnapref3_Check_r8_b k fr st := rfl
def C.catnapref3_Check_c6 : ICode := .keep [0, 3, 4] (.region C.catnapref3_Check_r8)
theorem C.catnapref3_Check_c6_w : awp P C.catnapref3_Check_c6 Q fr st = awp P (.keep [0, 3, 4] (.region C.catnapref3_Check_r8)) Q fr st := rfl
def C.catnapref3_Check_r10_b : List IOper := [
  ⟨some 2, .move (.cst (.int .i64 4)), none, [], []⟩]
def C.catnapref3_Check_r10 : List IOper := C.catnapref3_Check_r10_b
theorem C.catnapref3_Check_r10_w {k : AFr → ASt → Prop} : aops P C.catnapref3_Check_r10 k fr st = aops P C.catnapref3_Check_r10_b k fr st := rfl
def C.catnapref3_Check_c7 : ICode := .seq (.region C.catnapref3_Check_r10) .ret
theorem C.catnapref3_Check_c7_w : awp P C.catnapref3_Check_c7 Q fr st = awp P (.seq (.region C.catnapref3_Check_r10) .ret) Q fr st := rfl
def C.catnapref3_Check_c8 : ICode := .keep [0, 3, 4, 42] (.cond (.slot 42) C.catnapref3_Check_c7 .skip)
theorem C.catnapref3_Check_c8_w : awp P C.catnapref3_Check_c8 Q fr st = awp P (.keep [0, 3, 4, 42] (.cond (.slot 42) C.catnapref3_Check_c7 .skip)) Q fr st := rfl
def C.catnapref3_Check_r9_b : List IOper := [
  ⟨some 23, .move (.slot 0), none, [], []⟩,
  ⟨some 24, .move (.slot 3), none, [], []⟩,
  ⟨some 25, .idxAddr 1 (.slot 23) (.slot 24), none, [], []⟩,
  ⟨some 26, .load1 (.slot 25), none, [], []⟩,
  ⟨some 27, .move (.slot 4), none, [], []⟩,
  ⟨some 28, .idxAddr 1 (.slot 26) (.slot 27), none, [], []⟩,
  ⟨some 29, .load1 (.slot 28), none, [], []⟩,
  ⟨some 30, .bin .lss (.slot 29) (.cst (.int .i64 0)), none, [], []⟩,
  ⟨some 31, .move (.slot 30), none, [], []⟩,
  ⟨some 32, .move (.slot 0), some (31, false), [], []⟩,
  ⟨some 33, .move (.slot 3), some (31, false), [], []⟩,
  ⟨some 34, .idxAddr 1 (.slot 32) (.slot 33), some (31, false), [], []⟩,
  ⟨some 35, .load1 (.slot 34), some (31, false), [], []⟩,
  ⟨some 36, .move (.slot 4), some (31, false), [], []⟩,
  ⟨some 37, .idxAddr 1 (.slot 35) (.slot 36), some (31, false), [], []⟩,
  ⟨some 38, .load1 (.slot 37), some (31, false), [], []⟩,
  ⟨some 39, .move (.slot 0), some (31, false), [], []⟩,
  ⟨some 40, .len (.slot 39), some (31, false), [], []⟩,
  ⟨some 41, .bin .geq (.slot 38) (.slot 40), some (31, false), [], []⟩,
  ⟨some 42, .pick (.slot 31) (.cst (.bool true)) (.slot 41), none, [], []⟩]
def C.catnapref3_Check_r9 : List IOper := C.catnapref3_Check_r9_b
theorem C.catnapref3_Check_r9_w {k : AFr → ASt → Prop} : aops P C.catnapref3_Check_r9 k fr st = aops P C.catnapref3_Check_r9_b k fr st := rfl
def C.catnapref3_Check_b9 : ICode := .seq (.region C.catnapref3_Check_r9) C.catnapref3_Check_c8
theorem C.catnapref3_Check_b9_w : awp P C.catnapref3_Check_b9 Q fr st = awp P (.seq (.region C.catnapref3_Check_r9) C.catnapref3_Check_c8) Q fr st := rfl
def C.catnapref3_Check_c10 : ICode := .keep [0, 3, 4] (.seq (.block 3 C.catnapref3_Check_b9) C.catnapref3_Check_c6)
theorem C.catnapref3_Check_c10_w : awp P C.catnapref3_Check_c10 Q fr st = awp P (.keep [0, 3, 4] (.seq (.block 3 C.catnapref3_Check_b9) C.catnapref3_Check_c6)) Q fr st := rfl
def C.catnapref3_Check_c11 : ICode := .keep [0, 3, 4, 20] (.cond (.slot 20) .skip (.exit 2))
theorem C.catnapref3_Check_c11_w : awp P C.catnapref3_Check_c11 Q fr st = awp P (.keep [0, 3, 4, 20] (.cond (.slot 20) .skip (.exit 2))) Q fr st := rfl
def C.catnapref3_Check_r7_b : List IOper := [
  ⟨some 14, .move (.slot 4), none, [], []⟩,
  ⟨some 15, .move (.slot 0), none, [], []⟩,
  ⟨some 16, .move (.slot 3), none, [], []⟩,
  ⟨some 17, .idxAddr 1 (.slot 15) (.slot 16), none, [], []⟩,
  ⟨some 18, .load1 (.slot 17), none, [], []⟩,
  ⟨some 19, .len (.slot 18), none, [], []⟩,
  ⟨some 20, .bin .lss (.slot 14) (.slot 19), none, [], []⟩]
def C.catnapref3_Check_r7 : List IOper := C.catnapref3_Check_r7_b
theorem C.catnapref3_Check_r7_w {k : AFr → ASt → Prop} : aops P C.catnapref3_Check_r7 k fr st = aops P C.catnapref3_Check_r7_b k fr st := rfl
def C.catnapref3_Check_l12 : ICode := .keep [0, 3, 4] (.seq (.seq (.region C.catnapref3_Check_r7) C.catnapref3_Check_c11) C.catnapref3_Check_c10)
theorem C.catnapref3_Check_l12_w : awp P C.catnapref3_Check_l12 Q fr st = awp P (.keep [0, 3, 4] (.seq (.seq (.region C.catnapref3_Check_r7) C.catnapref3_Check_c11) C.catnapref3_Check_c10)) Q fr st := rfl
def C.catnapref3_Check_b13 : ICode := .loop C.catnapref3_Check_l12
theorem C.catnapref3_Check_b13_w : awp P C.catnapref3_Check_b13 Q fr st = awp P (.loop C.catnapref3_Check_l12) Q fr st := rfl
def C.catnapref3_Check_c14 : ICode := .keep [0, 3, 4] (.block 2 C.catnapref3_Check_b13)
theorem C.catnapref3_Check_c14_w : awp P C.catnapref3_Check_c14 Q fr st = awp P (.keep [0, 3, 4] (.block 2 C.catnapref3_Check_b13)) Q fr st := rfl
def C.catnapref3_Check_r6_b : List IOper := [
  ⟨some 4, .move (.cst (.int .i64 0)), none, [], []⟩]
def C.catnapref3_Check_r6 : List IOper := C.catnapref3_Check_r6_b
theorem C.catnapref3_Check_r6_w {k : AFr → ASt → Prop} : aops P C.catnapref3_Check_r6 k fr st = aops P C.catnapref3_Check_r6_b k fr st := rfl
def C.catnapref3_Check_b15 : ICode := .seq (.region C.catnapref3_Check_r6) C.catnapref3_Check_c14
theorem C.catnapref3_Check_b15_w : awp P C.catnapref3_Check_b15 Q fr st = awp P (.seq (.region C.catnapref3_Check_r6) C.catnapref3_Check_c14) Q fr st := rfl
def C.catnapref3_Check_c16 : ICode := .keep [0, 3] (.seq (.block 1 C.catnapref3_Check_b15) C.catnapref3_Check_c5)
theorem C.catnapref3_Check_c16_w : awp P C.catnapref3_Check_c16 Q fr st = awp P (.keep [0, 3] (.seq (.block 1 C.catnapref3_Check_b15) C.catnapref3_Check_c5)) Q fr st := rfl
def C.catnapref3_Check_c17 : ICode := .keep [0, 3, 11] (.cond (.slot 11) .skip (.exit 0))
theorem C.catnapref3_Check_c17_w : awp P C.catnapref3_Check_c17 Q fr st = awp P (.keep [0, 3, 11] (.cond (.slot 11) .skip (.exit 0))) Q fr st := rfl
def C.catnapref3_Check_r4_b : List IOper := [
  ⟨some 8, .move (.slot 3), none, [], []⟩,
  ⟨some 9, .move (.slot 0), none, [], []⟩,
  ⟨some 10, .len (.slot 9), none, [], []⟩,
  ⟨some 11, .bin .lss (.slot 8) (.slot 10), none, [], []⟩]
def C.catnapref3_Check_r4 : List IOper := C.catnapref3_Check_r4_b
theorem C.catnapref3_Check_r4_w {k : AFr → ASt → Prop} : aops P C.catnapref3_Check_r4 k fr st = aops P C.catnapref3_Check_r4_b k fr st := rfl
def C.catnapref3_Check_l18 : ICode := .keep [0, 3] (.seq (.seq (.region C.catnapref3_Check_r4) C.catnapref3_Check_c17) C.catnapref3_Check_c16)
theorem C.catnapref3_Check_l18_w : awp P C.catnapref3_Check_l18 Q fr st = awp P (.keep [0, 3] (.seq (.seq (.region C.catnapref3_Check_r4) C.catnapref3_Check_c17) C.catnapref3_Check_c16)) Q fr st := rfl
def C.catnapref3_Check_b19 : ICode := .loop C.catnapref3_Check_l18
theorem C.catnapref3_Check_b19_w : awp P C.catnapref3_Check_b19 Q fr st = awp P (.loop C.catnapref3_Check_l18) Q fr st := rfl
def C.catnapref3_Check_c20 : ICode := .keep [0, 3] (.block 0 C.catnapref3_Check_b19)
theorem C.catnapref3_Check_c20_w : awp P C.catnapref3_Check_c20 Q fr st = awp P (.keep [0, 3] (.block 0 C.catnapref3_Check_b19)) Q fr st := rfl
def C.catnapref3_Check_r3_b : List IOper := [
  ⟨some 3, .move (.cst (.int .i64 0)), none, [], []⟩]
def C.catnapref3_Check_r3 : List IOper := C.catnapref3_Check_r3_b
theorem C.catnapref3_Check_r3_w {k : AFr → ASt → Prop} : aops P C.catnapref3_Check_r3 k fr st = aops P C.catnapref3_Check_r3_b k fr st := rfl
def C.catnapref3_Check_c21 : ICode := .keep [0] (.seq (.seq (.region C.catnapref3_Check_r3) C.catnapref3_Check_c20) C.catnapref3_Check_c4)
theorem C.catnapref3_Check_c21_w : awp P C.catnapref3_Check_c21 Q fr st = awp P (.keep [0] (.seq (.seq (.region C.catnapref3_Check_r3) C.catnapref3_Check_c20) C.catnapref3_Check_c4)) Q fr st := rfl
def C.catnapref3_Check_r2_b : List IOper := [
  ⟨some 2, .move (.cst (.int .i64 1)), none, [], []⟩]
def C.catnapref3_Check_r2 : List IOper := C.catnapref3_Check_r2_b
theorem C.catnapref3_Check_r2_w {k : AFr → ASt → Prop} : aops P C.catnapref3_Check_r2 k fr st = aops P C.catnapref3_Check_r2_b k fr st := rfl
def C.catnapref3_Check_c22 : ICode := .seq (.region C.catnapref3_Check_r2) .ret
theorem C.catnapref3_Check_c22_w : awp P C.catnapref3_Check_c22 Q fr st = awp P (.seq (.region C.catnapref3_Check_r2) .ret) Q fr st := rfl
def C.catnapref3_Check_c23 : ICode := .keep [0, 7] (.cond (.slot 7) C.catnapref3_Check_c22 .skip)
theorem C.catnapref3_Check_c23_w : awp P C.catnapref3_Check_c23 Q fr st = awp P (.keep [0, 7] (.cond (.slot 7) C.catnapref3_Check_c22 .skip)) Q fr st := rfl
def C.catnapref3_Check_r1_b : List IOper := [
  ⟨some 5, .move (.slot 0), none, [], []⟩,
  ⟨some 6, .len (.slot 5), none, [], []⟩,
  ⟨some 7, .bin .gtr (.slot 6) (.cst (.int .i64 100)), none, [], []⟩]
def C.catnapref3_Check_r1 : List IOper := C.catnapref3_Check_r1_b
theorem C.catnapref3_Check_r1_w {k : AFr → ASt → Prop} : aops P C.catnapref3_Check_r1 k fr st = aops P C.catnapref3_Check_r1_b k fr st := rfl
def C.catnapref3_Check_c24 : ICode := .keep [0] (.seq (.seq (.region C.catnapref3_Check_r1) C.catnapref3_Check_c23) C.catnapref3_Check_c21)
theorem C.catnapref3_Check_c24_w : awp P C.catnapref3_Check_c24 Q fr st = awp P (.keep [0] (.seq (.seq (.region C.catnapref3_Check_r1) C.catnapref3_Check_c23) C.catnapref3_Check_c21)) Q fr st := rfl
def C.catnapref3_Check_r0_b : List IOper := [
  ⟨some 2, .move (.cst (.int .i64 0)), none, [], []⟩]
def C.catnapref3_Check_r0 : List IOper := C.catnapref3_Check_r0_b
theorem C.catnapref3_Check_r0_w {k : AFr → ASt → Prop} : aops P C.catnapref3_Check_r0 k fr st = aops P C.catnapref3_Check_r0_b k fr st := rfl
def C.catnapref3_Check : IFunc := ⟨1, [.slot 2], .seq (.region C.catnapref3_Check_r0) C.catnapref3_Check_c24⟩
def C.catnapref3_Check_W := And.intro (And.intro (And.intro (And.intro (And.intro @C.catnapref3_Check_r13_w @C.catnapref3_Check_c1_w) (And.intro @C.catnapref3_Check_r12_w @C.catnapref3_Check_c2_w)) (And.intro (And.intro @C.catnapref3_Check_c3_w @C.catnapref3_Check_r11_w) (And.intro @C.catnapref3_Check_c4_w (And.intro @C.catnapref3_Check_r5_w @C.catnapref3_Check_c5_w)))) (And.intro (And.intro (And.intro @C.catnapref3_Check_r8_w @C.catnapref3_Check_c6_w) (And.intro @C.catnapref3_Check_r10_w @C.catnapref3_Check_c7_w)) (And.intro (And.intro @C.catnapref3_Check_c8_w @C.catnapref3_Check_r9_w) (And.intro @C.catnapref3_Check_b9_w (And.intro @C.catnapref3_Check_c10_w @C.catnapref3_Check_c11_w))))) (And.intro (And.intro (And.intro (And.intro @C.catnapref3_Check_r7_w @C.catnapref3_Check_b13_w) (And.intro @C.catnapref3_Check_c14_w @C.catnapref3_Check_r6_w)) (And.intro (And.intro @C.catnapref3_Check_b15_w @C.catnapref3_Check_c16_w) (And.intro @C.catnapref3_Check_c17_w (And.intro @C.catnapref3_Check_r4_w @C.catnapref3_Check_b19_w)))) (And.intro (And.intro (And.intro @C.catnapref3_Check_c20_w @C.catnapref3_Check_r3_w) (And.intro @C.catnapref3_Check_c21_w @C.catnapref3_Check_r2_w)) (And.intro (And.intro @C.catnapref3_Check_c22_w @C.catnapref3_Check_c23_w) (And.intro @C.catnapref3_Check_r1_w (And.intro @C.catnapref3_Check_c24_w @C.catnapref3_Check_r0_w)))))
def C.catnapref3_Check_B := And.intro (And.intro (And.intro @C.catnapref3_Check_r13_b.eq_1 (And.intro @C.catnapref3_Check_r12_b.eq_1 @C.catnapref3_Check_r11_b.eq_1)) (And.intro (And.intro @C.catnapref3_Check_r5_b.eq_1 @C.catnapref3_Check_r8_b.eq_1) (And.intro @C.catnapref3_Check_r10_b.eq_1 @C.catnapref3_Check_r9_b.eq_1))) (And.intro (And.intro @C.catnapref3_Check_r7_b.eq_1 (And.intro @C.catnapref3_Check_r6_b.eq_1 @C.catnapref3_Check_r4_b.eq_1)) (And.intro (And.intro @C.catnapref3_Check_r3_b.eq_1 @C.catnapref3_Check_r2_b.eq_1) (And.intro @C.catnapref3_Check_r1_b.eq_1 @C.catnapref3_Check_r0_b.eq_1)))

def C.graph_numbers_r13_b : List IOper := [
  ⟨some 2, .move (.cst (.int .i64 0)), none, [], []⟩]
def C.graph_numbers_r13 : List IOper := C.graph_numbers_r13_b
theorem C.graph_numbers_r13_w {k : AFr → ASt → Prop} : aops P C.graph_numbers_r13 k fr st = aops P C.graph_numbers_r13_b k fr st := rfl
def C.graph_numbers_c1 : ICode := .keep [] (.seq (.region C.graph_numbers_r13) .ret)
theorem C.graph_numbers_c1_w : awp P C.graph_numbers_c1 Q fr st = awp P (.keep [] (.seq (.region C.graph_numbers_r13) .ret)) Q fr st := rfl
def C.graph_numbers_r12_b : List IOper := [
  ⟨some 31, .bin .add (.slot 12) (.cst (.int .i64 1)), none, [], []⟩,
  ⟨some 12, .move (.slot 31), none, [], []⟩]
def C.graph_numbers_r12 : List IOper := C.graph_numbers_r12_b
theorem C.graph_numbers_r12_w {k : AFr → ASt → Prop} : aops P C.graph_numbers_r12 k fr st = aops P C.graph_numbers_r12_b k fr st := rfl
def C.graph_numbers_c2 : ICode := .keep [0, 10, 11, 12] (.region C.graph_numbers_r12)
theorem C.graph_numbers_c2_w : awp P C.graph_numbers_c2 Q fr st = awp P (.keep [0, 10, 11, 12] (.region C.graph_numbers_r12)) Q fr st := rfl
def C.graph_numbers_r11_b : List IOper := [
  ⟨some 30, .bin .add (.slot 18) (.cst (.int .i64 1)), none, [], []⟩,
  ⟨some 18, .move (.slot 30), none, [], []⟩]
def C.graph_numbers_r11 : List IOper := C.graph_numbers_r11_b
theorem C.graph_numbers_r11_w {k : AFr → ASt → Prop} : aops P C.graph_numbers_r11 k fr st = aops P C.graph_numbers_r11_b k fr st := rfl
def C.graph_numbers_c3 : ICode := .keep [0, 10, 11, 12, 16, 17, 18] (.region C.graph_numbers_r11)
theorem C.graph_numbers_c3_w : awp P C.graph_numbers_c3 Q fr st = awp P (.keep [0, 10, 11, 12, 16, 17, 18] (.region C.graph_numbers_r11)) Q fr st := rfl
def C.graph_numbers_r10_b : List IOper := [
  ⟨some 2, .move (.cst (.int .i64 4)), none, [], []⟩]
def C.graph_numbers_r10 : List IOper := C.graph_numbers_r10_b
theorem C.graph_numbers_r10_w {k : AFr → ASt → Prop} : aops P C.graph_numbers_r10 k fr st = aops P C.graph_numbers_r10_b k fr st := rfl
def C.graph_numbers_c4 : ICode := .seq (.region C.graph_numbers_r10) .ret
theorem C.graph_numbers_c4_w : awp P C.graph_numbers_c4 Q fr st = awp P (.seq (.region C.graph_numbers_r10) .ret) Q fr st := rfl
def C.graph_numbers_c5 : ICode := .keep [0, 10, 11, 12, 16, 17, 18, 29] (.cond (.slot 29) C.graph_numbers_c4 .skip)
theorem C.graph_numbers_c5_w : awp P C.graph_numbers_c5 Q fr st = awp P (.keep [0, 10, 11, 12, 16, 17, 18, 29] (.cond (.slot 29) C.graph_numbers_c4 .skip)) Q fr st := rfl
def C.graph_numbers_r9_b : List IOper := [
  ⟨some 22, .move (.slot 6), none, [], []⟩,
  ⟨some 23, .bin .lss (.slot 22) (.cst (.int .i64 0)), none, [], []⟩,
  ⟨some 24, .move (.slot 23), none, [], []⟩,
  ⟨some 25, .move (.slot 6), some (24, false), [], []⟩,
  ⟨some 26, .move (.slot 0), some (24, false), [], []⟩,
  ⟨some 27, .len (.slot 26), some (24, false), [], []⟩,
  ⟨some 28, .bin .geq (.slot 25) (.slot 27), some (24, false), [], []⟩,
  ⟨some 29, .pick (.slot 24) (.cst (.bool true)) (.slot 28), none, [], []⟩]
def C.graph_numbers_r9 : List IOper := C.graph_numbers_r9_b
theorem C.graph_numbers_r9_w {k : AFr → ASt → Prop} : aops P C.graph_numbers_r9 k fr st = aops P C.graph_numbers_r9_b k fr st := rfl
def C.graph_numbers_c6 : ICode := .keep [0, 6, 10, 11, 12, 16, 17, 18] (.seq (.region C.graph_numbers_r9) C.graph_numbers_c5)
theorem C.graph_numbers_c6_w : awp P C.graph_numbers_c6 Q fr st = awp P (.keep [0, 6, 10, 11, 12, 16, 17, 18] (.seq (.region C.graph_numbers_r9) C.graph_numbers_c5)) Q fr st := rfl
def C.graph_numbers_r8_b : List IOper := [
  ⟨some 20, .idxAddr 1 (.slot 16) (.slot 18), none, [], []⟩,
  ⟨some 21, .load1 (.slot 20), none, [], []⟩,
  ⟨some 6, .move (.slot 21), none, [], []⟩]
def C.graph_numbers_r8 : List IOper := C.graph_numbers_r8_b
theorem C.graph_numbers_r8_w {k : AFr → ASt → Prop} : aops P C.graph_numbers_r8 k fr st = aops P C.graph_numbers_r8_b k fr st := rfl
def C.graph_numbers_b7 : ICode := .seq (.region C.graph_numbers_r8) C.graph_numbers_c6
theorem C.graph_numbers_b7_w : awp P C.graph_numbers_b7 Q fr st = awp P (.seq (.region C.graph_numbers_r8) C.graph_numbers_c6) Q fr st := rfl
def C.graph_numbers_c8 : ICode := .keep [0, 10, 11, 12, 16, 17, 18] (.seq (.block 3 C.graph_numbers_b7) C.graph_numbers_c3)
theorem C.graph_numbers_c8_w : awp P C.graph_numbers_c8 Q fr st = awp P (.keep [0, 10, 11, 12, 16, 17, 18] (.seq (.block 3 C.graph_numbers_b7) C.graph_numbers_c3)) Q fr st := rfl
def C.graph_numbers_c9 : ICode := .keep [0, 10, 11, 12, 16, 17, 18, 19] (.seq (.cond (.slot 19) .skip (.exit 2)) C.graph_numbers_c8)
theorem C.graph_numbers_c9_w : awp P C.graph_numbers_c9 Q fr st = awp P (.keep [0, 10, 11, 12, 16, 17, 18, 19] (.seq (.cond (.slot 19) .skip (.exit 2)) C.graph_numbers_c8)) Q fr st := rfl
def C.graph_numbers_r7_b : List IOper := [
  ⟨some 19, .bin .lss (.slot 18) (.slot 17), none, [], []⟩]
def C.graph_numbers_r7 : List IOper := C.graph_numbers_r7_b
theorem C.graph_numbers_r7_w {k : AFr → ASt → Prop} : aops P C.graph_numbers_r7 k fr st = aops P C.graph_numbers_r7_b k fr st := rfl
def C.graph_numbers_l10 : ICode := .keep [0, 10, 11, 12, 16, 17, 18] (.seq (.region C.graph_numbers_r7) C.graph_numbers_c9)
theorem C.graph_numbers_l10_w : awp P C.graph_numbers_l10 Q fr st = awp P (.keep [0, 10, 11, 12, 16, 17, 18] (.seq (.region C.graph_numbers_r7) C.graph_numbers_c9)) Q fr st := rfl
def C.graph_numbers_b11 : ICode := .loop C.graph_numbers_l10
theorem C.graph_numbers_b11_w : awp P C.graph_numbers_b11 Q fr st = awp P (.loop C.graph_numbers_l10) Q fr st := rfl
def C.graph_numbers_c12 : ICode := .keep [0, 10, 11, 12, 16, 17, 18] (.block 2 C.graph_numbers_b11)
theorem C.graph_numbers_c12_w : awp P C.graph_numbers_c12 Q fr st = awp P (.keep [0, 10, 11, 12, 16, 17, 18] (.block 2 C.graph_numbers_b11)) Q fr st := rfl
def C.graph_numbers_r6_b : List IOper := [
  ⟨some 16, .move (.slot 4), none, [], []⟩,
  ⟨some 17, .len (.slot 16), none, [], []⟩,
  ⟨some 18, .move (.cst (.int .i64 0)), none, [], []⟩]
def C.graph_numbers_r6 : List IOper := C.graph_numbers_r6_b
theorem C.graph_numbers_r6_w {k : AFr → ASt → Prop} : aops P C.graph_numbers_r6 k fr st = aops P C.graph_numbers_r6_b k fr st := rfl
def C.graph_numbers_c13 : ICode := .keep [0, 4, 10, 11, 12] (.seq (.region C.graph_numbers_r6) C.graph_numbers_c12)
theorem C.graph_numbers_c13_w : awp P C.graph_numbers_c13 Q fr st = awp P (.keep [0, 4, 10, 11, 12] (.seq (.region C.graph_numbers_r6) C.graph_numbers_c12)) Q fr st := rfl
def C.graph_numbers_r5_b : List IOper := [
  ⟨some 14, .idxAddr 1 (.slot 10) (.slot 12), none, [], []⟩,
  ⟨some 15, .load1 (.slot 14), none, [], []⟩,
  ⟨some 4, .move (.slot 15), none, [], []⟩]
def C.graph_numbers_r5 : List IOper := C.graph_numbers_r5_b
theorem C.graph_numbers_r5_w {k : AFr → ASt → Prop} : aops P C.graph_numbers_r5 k fr st = aops P C.graph_numbers_r5_b k fr st := rfl
def C.graph_numbers_b14 : ICode := .seq (.region C.graph_numbers_r5) C.graph_numbers_c13
theorem C.graph_numbers_b14_w : awp P C.graph_numbers_b14 Q fr st = awp P (.seq (.region C.graph_numbers_r5) C.graph_numbers_c13) Q fr st := rfl
def C.graph_numbers_c15 : ICode := .keep [0, 10, 11, 12] (.seq (.block 1 C.graph_numbers_b14) C.graph_numbers_c2)
theorem C.graph_numbers_c15_w : awp P C.graph_numbers_c15 Q fr st = awp P (.keep [0, 10, 11, 12] (.seq (.block 1 C.graph_numbers_b14) C.graph_numbers_c2)) Q fr st := rfl
def C.graph_numbers_c16 : ICode := .keep [0, 10, 11, 12, 13] (.seq (.cond (.slot 13) .skip (.exit 0)) C.graph_numbers_c15)
theorem C.graph_numbers_c16_w : awp P C.graph_numbers_c16 Q fr st = awp P (.keep [0, 10, 11, 12, 13] (.seq (.cond (.slot 13) .skip (.exit 0)) C.graph_numbers_c15)) Q fr st := rfl
def C.graph_numbers_r4_b : List IOper := [
  ⟨some 13, .bin .lss (.slot 12) (.slot 11), none, [], []⟩]
def C.graph_numbers_r4 : List IOper := C.graph_numbers_r4_b
theorem C.graph_numbers_r4_w {k : AFr → ASt → Prop} : aops P C.graph_numbers_r4 k fr st = aops P C.graph_numbers_r4_b k fr st := rfl
def C.graph_numbers_l17 : ICode := .keep [0, 10, 11, 12] (.seq (.region C.graph_numbers_r4) C.graph_numbers_c16)
theorem C.graph_numbers_l17_w : awp P C.graph_numbers_l17 Q fr st = awp P (.keep [0, 10, 11, 12] (.seq (.region C.graph_numbers_r4) C.graph_numbers_c16)) Q fr st := rfl
def C.graph_numbers_b18 : ICode := .loop C.graph_numbers_l17
theorem C.graph_numbers_b18_w : awp P C.graph_numbers_b18 Q fr st = awp P (.loop C.graph_numbers_l17) Q fr st := rfl
def C.graph_numbers_c19 : ICode := .keep [0, 10, 11, 12] (.block 0 C.graph_numbers_b18)
theorem C.graph_numbers_c19_w : awp P C.graph_numbers_c19 Q fr st = awp P (.keep [0, 10, 11, 12] (.block 0 C.graph_numbers_b18)) Q fr st := rfl
def C.graph_numbers_r3_b : List IOper := [
  ⟨some 10, .move (.slot 0), none, [], []⟩,
  ⟨some 11, .len (.slot 10), none, [], []⟩,
  ⟨some 12, .move (.cst (.int .i64 0)), none, [], []⟩]
def C.graph_numbers_r3 : List IOper := C.graph_numbers_r3_b
theorem C.graph_numbers_r3_w {k : AFr → ASt → Prop} : aops P C.graph_numbers_r3 k fr st = aops P C.graph_numbers_r3_b k fr st := rfl
def C.graph_numbers_c20 : ICode := .keep [0] (.seq (.seq (.region C.graph_numbers_r3) C.graph_numbers_c19) C.graph_numbers_c1)
theorem C.graph_numbers_c20_w : awp P C.graph_numbers_c20 Q fr st = awp P (.keep [0] (.seq (.seq (.region C.graph_numbers_r3) C.graph_numbers_c19) C.graph_numbers_c1)) Q fr st := rfl
def C.graph_numbers_r2_b : List IOper := [
  ⟨some 2, .move (.cst (.int .i64 1)), none, [], []⟩]
def C.graph_numbers_r2 : List IOper := C.graph_numbers_r2_b
theorem C.graph_numbers_r2_w {k : AFr → ASt → Prop} : aops P C.graph_numbers_r2 k fr st = aops P C.graph_numbers_r2_b k fr st := rfl
def C.graph_numbers_c21 : ICode := .seq (.region C.graph_numbers_r2) .ret
theorem C.graph_numbers_c21_w : awp P C.graph_numbers_c21 Q fr st = awp P (.seq (.region C.graph_numbers_r2) .ret) Q fr st := rfl
def C.graph_numbers_c22 : ICode := .keep [0, 9] (.cond (.slot 9) C.graph_numbers_c21 .skip)
theorem C.graph_numbers_c22_w : awp P C.graph_numbers_c22 Q fr st = awp P (.keep [0, 9] (.cond (.slot 9) C.graph_numbers_c21 .skip)) Q fr st := rfl
def C.graph_numbers_r1_b : List IOper := [
  ⟨some 7, .move (.slot 0), none, [], []⟩,
  ⟨some 8, .len (.slot 7), none, [], []⟩,
  ⟨some 9, .bin .gtr (.slot 8) (.cst (.int .i64 100)), none, [], []⟩]
def C.graph_numbers_r1 : List IOper := C.graph_numbers_r1_b
theorem C.graph_numbers_r1_w {k : AFr → ASt → Prop} : aops P C.graph_numbers_r1 k fr st = aops P C.graph_numbers_r1_b k fr st := rfl
def C.graph_numbers_c23 : ICode := .keep [0] (.seq (.seq (.region C.graph_numbers_r1) C.graph_numbers_c22) C.graph_numbers_c20)
theorem C.graph_numbers_c23_w : awp P C.graph_numbers_c23 Q fr st = awp P (.keep [0] (.seq (.seq (.region C.graph_numbers_r1) C.graph_numbers_c22) C.graph_numbers_c20)) Q fr st := rfl
def C.graph_numbers_r0_b : List IOper := [
  ⟨some 2, .move (.cst (.int .i64 0)), none, [], []⟩]
def C.graph_numbers_r0 : List IOper := C.graph_numbers_r0_b
theorem C.graph_numbers_r0_w {k : AFr → ASt → Prop} : aops P C.graph_numbers_r0 k fr st = aops P C.graph_numbers_r0_b k fr st := rfl
def C.graph_numbers : IFunc := ⟨1, [.slot 2], .seq (.region C.graph_numbers_r0) C.graph_numbers_c23⟩
def C.graph_numbers_W := And.intro (And.intro (And.intro (And.intro (And.intro @C.graph_numbers_r13_w @C.graph_numbers_c1_w) (And.intro @C.graph_numbers_r12_w @C.graph_numbers_c2_w)) (And.intro (And.intro @C.graph_numbers_r11_w @C.graph_numbers_c3_w) (And.intro @C.graph_numbers_r10_w @C.graph_numbers_c4_w))) (And.intro (And.intro (And.intro @C.graph_numbers_c5_w @C.graph_numbers_r9_w) (And.intro @C.graph_numbers_c6_w @C.graph_numbers_r8_w)) (And.intro (And.intro @C.graph_numbers_b7_w @C.graph_numbers_c8_w) (And.intro @C.graph_numbers_c9_w (And.intro @C.graph_numbers_r7_w @C.graph_numbers_b11_w))))) (And.intro (And.intro (And.intro (And.intro @C.graph_numbers_c12_w @C.graph_numbers_r6_w) (And.intro @C.graph_numbers_c13_w @C.graph_numbers_r5_w)) (And.intro (And.intro @C.graph_numbers_b14_w @C.graph_numbers_c15_w) (And.intro @C.graph_numbers_c16_w (And.intro @C.graph_numbers_r4_w @C.graph_numbers_b18_w)))) (And.intro (And.intro (And.intro @C.graph_numbers_c19_w @C.graph_numbers_r3_w) (And.intro @C.graph_numbers_c20_w @C.graph_numbers_r2_w)) (And.intro (And.intro @C.graph_numbers_c21_w @C.graph_numbers_c22_w) (And.intro @C.graph_numbers_r1_w (And.intro @C.graph_numbers_c23_w @C.graph_numbers_r0_w)))))
def C.graph_numbers_B := And.intro (And.intro (And.intro @C.graph_numbers_r13_b.eq_1 (And.intro @C.graph_numbers_r12_b.eq_1 @C.graph_numbers_r11_b.eq_1)) (And.intro (And.intro @C.graph_numbers_r10_b.eq_1 @C.graph_numbers_r9_b.eq_1) (And.intro @C.graph_numbers_r8_b.eq_1 @C.graph_numbers_r7_b.eq_1))) (And.intro (And.intro @C.graph_numbers_r6_b.eq_1 (And.intro @C.graph_numbers_r5_b.eq_1 @C.graph_numbers_r4_b.eq_1)) (And.intro (And.intro @C.graph_numbers_r3_b.eq_1 @C.graph_numbers_r2_b.eq_1) (And.intro @C.graph_numbers_r1_b.eq_1 @C.graph_numbers_r0_b.eq_1)))

def C.graph_hang_r16_b : List IOper := [
  ⟨some 53, .move (.slot 2), none, [], []⟩,
  ⟨some 54, .move (.slot 3), none, [], []⟩,
  ⟨some 2, .move (.slot 53), none, [], []⟩,
  ⟨some 3, .move (.slot 54), none, [], []⟩]
def C.graph_hang_r16 : List IOper := C.graph_hang_r16_b
theorem C.graph_hang_r16_w {k : AFr → ASt → Prop} : aops P C.graph_hang_r16 k fr st = aops P C.graph_hang_r16_b k fr st := rfl
def C.graph_hang_c1 : ICode := .keep [2, 3] (.seq (.region C.graph_hang_r16) .ret)
theorem C.graph_hang_c1_w : awp P C.graph_hang_c1 Q fr st = awp P (.keep [2, 3] (.seq (.region C.graph_hang_r16) .ret)) Q fr st := rfl
def C.graph_hang_r15_b : List IOper := [
  ⟨some 52, .bin .add (.slot 17) (.cst (.int .i64 1)), none, [], []⟩,
  ⟨some 17, .move (.slot 52), none, [], []⟩]
def C.graph_hang_r15 : List IOper := C.graph_hang_r15_b
theorem C.graph_hang_r15_w {k : AFr → ASt → Prop} : aops P C.graph_hang_r15 k fr st = aops P C.graph_hang_r15_b k fr st := rfl
def C.graph_hang_c2 : ICode := .keep [2, 3, 15, 16, 17] (.region C.graph_hang_r15)
theorem C.graph_hang_c2_w : awp P C.graph_hang_c2 Q fr st = awp P (.keep [2, 3, 15, 16, 17] (.region C.graph_hang_r15)) Q fr st := rfl
def C.graph_hang_r14_b : List IOper := [
  ⟨some 51, .bin .add (.slot 25) (.cst (.int .i64 1)), none, [], []⟩,
  ⟨some 25, .move (.slot 51), none, [], []⟩]
def C.graph_hang_r14 : List IOper := C.graph_hang_r14_b
theorem C.graph_hang_r14_w {k : AFr → ASt → Prop} : aops P C.graph_hang_r14 k fr st = aops P C.graph_hang_r14_b k fr st := rfl
def C.graph_hang_c3 : ICode := .keep [2, 3, 4, 6, 15, 16, 17, 23, 24, 25] (.region C.graph_hang_r14)
theorem C.graph_hang_c3_w : awp P C.graph_hang_c3 Q fr st = awp P (.keep [2, 3, 4, 6, 15, 16, 17, 23, 24, 25] (.region C.graph_hang_r14)) Q fr st := rfl
def C.graph_hang_r13_b : List IOper := [
  ⟨some 41, .move (.slot 3), none, [], []⟩,
  ⟨some 42, .move (.slot 8), none, [], []⟩,
  ⟨some 43, .move (.slot 3), none, [], []⟩,
  ⟨some 44, .move (.slot 8), none, [], []⟩,
  ⟨some 45, .idxAddr 1 (.slot 43) (.slot 44), none, [], []⟩,
  ⟨some 46, .load1 (.slot 45), none, [], []⟩,
  ⟨some 47, .move (.slot 4), none, [], []⟩,
  ⟨some 48, .buildSlice 1 1 [.int .i64 0] [(0, 1, .slot 47)], none, [], []⟩,
  ⟨some 49, .append 1 8 (.slot 46) (.slot 48), none, [], []⟩,
  ⟨some 50, .idxAddr 1 (.slot 41) (.slot 42), none, [], []⟩,
  ⟨none, .store1 (.slot 50) (.slot 49), none, [], []⟩]
def C.graph_hang_r13 : List IOper := C.graph_hang_r13_b
theorem C.graph_hang_r13_w {k : AFr → ASt → Prop} : aops P C.graph_hang_r13 k fr st = aops P C.graph_hang_r13_b k fr st := rfl
def C.graph_hang_c4 : ICode := .keep [2, 3, 4, 6, 8, 15, 16, 17, 23, 24, 25] (.region C.graph_hang_r13)
theorem C.graph_hang_c4_w : awp P C.graph_hang_c4 Q fr st = awp P (.keep [2, 3, 4, 6, 8, 15, 16, 17, 23, 24, 25] (.region C.graph_hang_r13)) Q fr st := rfl
def C.graph_hang_r12_b : List IOper := [
  ⟨some 35, .move (.slot 2), none, [], []⟩,
  ⟨some 36, .move (.slot 4), none, [], []⟩,
  ⟨some 37, .idxAddr 1 (.slot 35) (.slot 36), none, [], []⟩,
  ⟨some 38, .load1 (.slot 37), none, [], []⟩,
  ⟨some 39, .bin .add (.slot 38) (.cst (.int .i64 1)), none, [], []⟩,
  ⟨some 40, .idxAddr 1 (.slot 35) (.slot 36), none, [], []⟩,
  ⟨none, .store1 (.slot 40) (.slot 39), none, [], []⟩]
def C.graph_hang_r12 : List IOper := C.graph_hang_r12_b
theorem C.graph_hang_r12_w {k : AFr → ASt → Prop} : aops P C.graph_hang_r12 k fr st = aops P C.graph_hang_r12_b k fr st := rfl
def C.graph_hang_c5 : ICode := .keep [2, 3, 4, 6, 8, 15, 16, 17, 23, 24, 25] (.seq (.region C.graph_hang_r12) C.graph_hang_c4)
theorem C.graph_hang_c5_w : awp P C.graph_hang_c5 Q fr st = awp P (.keep [2, 3, 4, 6, 8, 15, 16, 17, 23, 24, 25] (.seq (.region C.graph_hang_r12) C.graph_hang_c4)) Q fr st := rfl
def C.graph_hang_r11_b : List IOper := [
  ⟨some 32, .move (.slot 6), none, [], []⟩,
  ⟨some 33, .move (.slot 8), none, [], []⟩,
  ⟨some 34, .call F.graph_marks_add [.slot 32, .slot 33], none, [], []⟩]
def C.graph_hang_r11 : List IOper := C.graph_hang_r11_b
theorem C.graph_hang_r11_w {k : AFr → ASt → Prop} : aops P C.graph_hang_r11 k fr st = aops P C.graph_hang_r11_b k fr st := rfl
def C.graph_hang_c6 : ICode := .keep [2, 3, 4, 6, 8, 15, 16, 17, 23, 24, 25] (.seq (.region C.graph_hang_r11) C.graph_hang_c5)
theorem C.graph_hang_c6_w : awp P C.graph_hang_c6 Q fr st = awp P (.keep [2, 3, 4, 6, 8, 15, 16, 17, 23, 24, 25] (.seq (.region C.graph_hang_r11) C.graph_hang_c5)) Q fr st := rfl
def C.graph_hang_c7 : ICode := .keep [2, 3, 4, 6, 8, 15, 16, 17, 23, 24, 25, 31] (.cond (.slot 31) (.exit 3) .skip)
theorem C.graph_hang_c7_w : awp P C.graph_hang_c7 Q fr st = awp P (.keep [2, 3, 4, 6, 8, 15, 16, 17, 23, 24, 25, 31] (.cond (.slot 31) (.exit 3) .skip)) Q fr st := rfl
def C.graph_hang_r10_b : List IOper := [
  ⟨some 29, .move (.slot 6), none, [], []⟩,
  ⟨some 30, .move (.slot 8), none, [], []⟩,
  ⟨some 31, .call F.graph_marks_has [.slot 29, .slot 30], none, [], []⟩]
def C.graph_hang_r10 : List IOper := C.graph_hang_r10_b
theorem C.graph_hang_r10_w {k : AFr → ASt → Prop} : aops P C.graph_hang_r10 k fr st = aops P C.graph_hang_r10_b k fr st := rfl
def C.graph_hang_c8 : ICode := .keep [2, 3, 4, 6, 8, 15, 16, 17, 23, 24, 25] (.seq (.seq (.region C.graph_hang_r10) C.graph_hang_c7) C.graph_hang_c6)
theorem C.graph_hang_c8_w : awp P C.graph_hang_c8 Q fr st = awp P (.keep [2, 3, 4, 6, 8, 15, 16, 17, 23, 24, 25] (.seq (.seq (.region C.graph_hang_r10) C.graph_hang_c7) C.graph_hang_c6)) Q fr st := rfl
def C.graph_hang_r9_b : List IOper := [
  ⟨some 27, .idxAddr 1 (.slot 23) (.slot 25), none, [], []⟩,
  ⟨some 28, .load1 (.slot 27), none, [], []⟩,
  ⟨some 8, .move (.slot 28), none, [], []⟩]
def C.graph_hang_r9 : List IOper := C.graph_hang_r9_b
theorem C.graph_hang_r9_w {k : AFr → ASt → Prop} : aops P C.graph_hang_r9 k fr st = aops P C.graph_hang_r9_b k fr st := rfl
def C.graph_hang_b9 : ICode := .seq (.region C.graph_hang_r9) C.graph_hang_c8
theorem C.graph_hang_b9_w : awp P C.graph_hang_b9 Q fr st = awp P (.seq (.region C.graph_hang_r9) C.graph_hang_c8) Q fr st := rfl
def C.graph_hang_c10 : ICode := .keep [2, 3, 4, 6, 15, 16, 17, 23, 24, 25] (.seq (.block 3 C.graph_hang_b9) C.graph_hang_c3)
theorem C.graph_hang_c10_w : awp P C.graph_hang_c10 Q fr st = awp P (.keep [2, 3, 4, 6, 15, 16, 17, 23, 24, 25] (.seq (.block 3 C.graph_hang_b9) C.graph_hang_c3)) Q fr st := rfl
def C.graph_hang_c11 : ICode := .keep [2, 3, 4, 6, 15, 16, 17, 23, 24, 25, 26] (.seq (.cond (.slot 26) .skip (.exit 2)) C.graph_hang_c10)
theorem C.graph_hang_c11_w : awp P C.graph_hang_c11 Q fr st = awp P (.keep [2, 3, 4, 6, 15, 16, 17, 23, 24, 25, 26] (.seq (.cond (.slot 26) .skip (.exit 2)) C.graph_hang_c10)) Q fr st := rfl
def C.graph_hang_r8_b : List IOper := [
  ⟨some 26, .bin .lss (.slot 25) (.slot 24), none, [], []⟩]
def C.graph_hang_r8 : List IOper := C.graph_hang_r8_b
theorem C.graph_hang_r8_w {k : AFr → ASt → Prop} : aops P C.graph_hang_r8 k fr st = aops P C.graph_hang_r8_b k fr st := rfl
def C.graph_hang_l12 : ICode := .keep [2, 3, 4, 6, 15, 16, 17, 23, 24, 25] (.seq (.region C.graph_hang_r8) C.graph_hang_c11)
theorem C.graph_hang_l12_w : awp P C.graph_hang_l12 Q fr st = awp P (.keep [2, 3, 4, 6, 15, 16, 17, 23, 24, 25] (.seq (.region C.graph_hang_r8) C.graph_hang_c11)) Q fr st := rfl
def C.graph_hang_b13 : ICode := .loop C.graph_hang_l12
theorem C.graph_hang_b13_w : awp P C.graph_hang_b13 Q fr st = awp P (.loop C.graph_hang_l12) Q fr st := rfl
def C.graph_hang_c14 : ICode := .keep [2, 3, 4, 6, 15, 16, 17, 23, 24, 25] (.block 2 C.graph_hang_b13)
theorem C.graph_hang_c14_w : awp P C.graph_hang_c14 Q fr st = awp P (.keep [2, 3, 4, 6, 15, 16, 17, 23, 24, 25] (.block 2 C.graph_hang_b13)) Q fr st := rfl
def C.graph_hang_r7_b : List IOper := [
  ⟨some 23, .move (.slot 5), none, [], []⟩,
  ⟨some 24, .len (.slot 23), none, [], []⟩,
  ⟨some 25, .move (.cst (.int .i64 0)), none, [], []⟩]
def C.graph_hang_r7 : List IOper := C.graph_hang_r7_b
theorem C.graph_hang_r7_w {k : AFr → ASt → Prop} : aops P C.graph_hang_r7 k fr st = aops P C.graph_hang_r7_b k fr st := rfl
def C.graph_hang_c15 : ICode := .keep [2, 3, 4, 5, 6, 15, 16, 17] (.seq (.region C.graph_hang_r7) C.graph_hang_c14)
theorem C.graph_hang_c15_w : awp P C.graph_hang_c15 Q fr st = awp P (.keep [2, 3, 4, 5, 6, 15, 16, 17] (.seq (.region C.graph_hang_r7) C.graph_hang_c14)) Q fr st := rfl
def C.graph_hang_r6_b : List IOper := [
  ⟨some 22, .makeMap none, none, [], []⟩,
  ⟨some 6, .move (.slot 22), none, [], []⟩]
def C.graph_hang_r6 : List IOper := C.graph_hang_r6_b
theorem C.graph_hang_r6_w {k : AFr → ASt → Prop} : aops P C.graph_hang_r6 k fr st = aops P C.graph_hang_r6_b k fr st := rfl
def C.graph_hang_c16 : ICode := .keep [2, 3, 4, 5, 15, 16, 17] (.seq (.region C.graph_hang_r6) C.graph_hang_c15)
theorem C.graph_hang_c16_w : awp P C.graph_hang_c16 Q fr st = awp P (.keep [2, 3, 4, 5, 15, 16, 17] (.seq (.region C.graph_hang_r6) C.graph_hang_c15)) Q fr st := rfl
def C.graph_hang_r5_b : List IOper := [
  ⟨some 19, .move (.slot 17), none, [], []⟩,
  ⟨some 20, .idxAddr 1 (.slot 15) (.slot 17), none, [], []⟩,
  ⟨some 21, .load1 (.slot 20), none, [], []⟩,
  ⟨some 4, .move (.slot 19), none, [], []⟩,
  ⟨some 5, .move (.slot 21), none, [], []⟩]
def C.graph_hang_r5 : List IOper := C.graph_hang_r5_b
theorem C.graph_hang_r5_w {k : AFr → ASt → Prop} : aops P C.graph_hang_r5 k fr st = aops P C.graph_hang_r5_b k fr st := rfl
def C.graph_hang_b17 : ICode := .seq (.region C.graph_hang_r5) C.graph_hang_c16
theorem C.graph_hang_b17_w : awp P C.graph_hang_b17 Q fr st = awp P (.seq (.region C.graph_hang_r5) C.graph_hang_c16) Q fr st := rfl
def C.graph_hang_c18 : ICode := .keep [2, 3, 15, 16, 17] (.seq (.block 1 C.graph_hang_b17) C.graph_hang_c2)
theorem C.graph_hang_c18_w : awp P C.graph_hang_c18 Q fr st = awp P (.keep [2, 3, 15, 16, 17] (.seq (.block 1 C.graph_hang_b17) C.graph_hang_c2)) Q fr st := rfl
def C.graph_hang_c19 : ICode := .keep [2, 3, 15, 16, 17, 18] (.seq (.cond (.slot 18) .skip (.exit 0)) C.graph_hang_c18)
theorem C.graph_hang_c19_w : awp P C.graph_hang_c19 Q fr st = awp P (.keep [2, 3, 15, 16, 17, 18] (.seq (.cond (.slot 18) .skip (.exit 0)) C.graph_hang_c18)) Q fr st := rfl
def C.graph_hang_r4_b : List IOper := [
  ⟨some 18, .bin .lss (.slot 17) (.slot 16), none, [], []⟩]
def C.graph_hang_r4 : List IOper := C.graph_hang_r4_b
theorem C.graph_hang_r4_w {k : AFr → ASt → Prop} : aops P C.graph_hang_r4 k fr st = aops P C.graph_hang_r4_b k fr st := rfl
def C.graph_hang_l20 : ICode := .keep [2, 3, 15, 16, 17] (.seq (.region C.graph_hang_r4) C.graph_hang_c19)
theorem C.graph_hang_l20_w : awp P C.graph_hang_l20 Q fr st = awp P (.keep [2, 3, 15, 16, 17] (.seq (.region C.graph_hang_r4) C.graph_hang_c19)) Q fr st := rfl
def C.graph_hang_b21 : ICode := .loop C.graph_hang_l20
theorem C.graph_hang_b21_w : awp P C.graph_hang_b21 Q fr st = awp P (.loop C.graph_hang_l20) Q fr st := rfl
def C.graph_hang_c22 : ICode := .keep [2, 3, 15, 16, 17] (.block 0 C.graph_hang_b21)
theorem C.graph_hang_c22_w : awp P C.graph_hang_c22 Q fr st = awp P (.keep [2, 3, 15, 16, 17] (.block 0 C.graph_hang_b21)) Q fr st := rfl
def C.graph_hang_r3_b : List IOper := [
  ⟨some 15, .move (.slot 0), none, [], []⟩,
  ⟨some 16, .len (.slot 15), none, [], []⟩,
  ⟨some 17, .move (.cst (.int .i64 0)), none, [], []⟩]
def C.graph_hang_r3 : List IOper := C.graph_hang_r3_b
theorem C.graph_hang_r3_w {k : AFr → ASt → Prop} : aops P C.graph_hang_r3 k fr st = aops P C.graph_hang_r3_b k fr st := rfl
def C.graph_hang_c23 : ICode := .keep [0, 2, 3] (.seq (.seq (.region C.graph_hang_r3) C.graph_hang_c22) C.graph_hang_c1)
theorem C.graph_hang_c23_w : awp P C.graph_hang_c23 Q fr st = awp P (.keep [0, 2, 3] (.seq (.seq (.region C.graph_hang_r3) C.graph_hang_c22) C.graph_hang_c1)) Q fr st := rfl
def C.graph_hang_r2_b : List IOper := [
  ⟨some 12, .move (.slot 0), none, [], []⟩,
  ⟨some 13, .len (.slot 12), none, [], []⟩,
  ⟨some 14, .makeSlice 1 24 [.nils] (.slot 13) (.slot 13), none, [], []⟩,
  ⟨some 3, .move (.slot 14), none, [], []⟩]
def C.graph_hang_r2 : List IOper := C.graph_hang_r2_b
theorem C.graph_hang_r2_w {k : AFr → ASt → Prop} : aops P C.graph_hang_r2 k fr st = aops P C.graph_hang_r2_b k fr st := rfl
def C.graph_hang_c24 : ICode := .keep [0, 2] (.seq (.region C.graph_hang_r2) C.graph_hang_c23)
theorem C.graph_hang_c24_w : awp P C.graph_hang_c24 Q fr st = awp P (.keep [0, 2] (.seq (.region C.graph_hang_r2) C.graph_hang_c23)) Q fr st := rfl
def C.graph_hang_r1_b : List IOper := [
  ⟨some 9, .move (.slot 0), none, [], []⟩,
  ⟨some 10, .len (.slot 9), none, [], []⟩,
  ⟨some 11, .makeSlice 1 8 [.int .i64 0] (.slot 10) (.slot 10), none, [], []⟩,
  ⟨some 2, .move (.slot 11), none, [], []⟩]
def C.graph_hang_r1 : List IOper := C.graph_hang_r1_b
theorem C.graph_hang_r1_w {k : AFr → ASt → Prop} : aops P C.graph_hang_r1 k fr st = aops P C.graph_hang_r1_b k fr st := rfl
def C.graph_hang_c25 : ICode := .keep [0] (.seq (.region C.graph_hang_r1) C.graph_hang_c24)
theorem C.graph_hang_c25_w : awp P C.graph_hang_c25 Q fr st = awp P (.keep [0] (.seq (.region C.graph_hang_r1) C.graph_hang_c24)) Q fr st := rfl
def C.graph_hang_r0_b : List IOper := [
  ⟨some 2, .move (.cst (.nils)), none, [], []⟩,
  ⟨some 3, .move (.cst (.nils)), none, [], []⟩]
def C.graph_hang_r0 : List IOper := C.graph_hang_r0_b
theorem C.graph_hang_r0_w {k : AFr → ASt → Prop} : aops P C.graph_hang_r0 k fr st = aops P C.graph_hang_r0_b k fr st := rfl
def C.graph_hang : IFunc := ⟨1, [.slot 2, .slot 3], .seq (.region C.graph_hang_r0) C.graph_hang_c25⟩
def C.graph_hang_W := And.intro (And.intro (And.intro (And.intro (And.intro @C.graph_hang_r16_w @C.graph_hang_c1_w) (And.intro @C.graph_hang_r15_w (And.intro @C.graph_hang_c2_w @C.graph_hang_r14_w))) (And.intro (And.intro @C.graph_hang_c3_w @C.graph_hang_r13_w) (And.intro @C.graph_hang_c4_w (And.intro @C.graph_hang_r12_w @C.graph_hang_c5_w)))) (And.intro (And.intro (And.intro @C.graph_hang_r11_w @C.graph_hang_c6_w) (And.intro @C.graph_hang_c7_w (And.intro @C.graph_hang_r10_w @C.graph_hang_c8_w))) (And.intro (And.intro @C.graph_hang_r9_w @C.graph_hang_b9_w) (And.intro @C.graph_hang_c10_w (And.intro @C.graph_hang_c11_w @C.graph_hang_r8_w))))) (And.intro (And.intro (And.intro (And.intro @C.graph_hang_b13_w @C.graph_hang_c14_w) (And.intro @C.graph_hang_r7_w (And.intro @C.graph_hang_c15_w @C.graph_hang_r6_w))) (And.intro (And.intro @C.graph_hang_c16_w @C.graph_hang_r5_w) (And.intro @C.graph_hang_b17_w (And.intro @C.graph_hang_c18_w @C.graph_hang_c19_w)))) (And.intro (And.intro (And.intro @C.graph_hang_r4_w @C.graph_hang_b21_w) (And.intro @C.graph_hang_c22_w (And.intro @C.graph_hang_r3_w @C.graph_hang_c23_w))) (And.intro (And.intro @C.graph_hang_r2_w @C.graph_hang_c24_w) (And.intro @C.graph_hang_r1_w (And.intro @C.graph_hang_c25_w @C.graph_hang_r0_w)))))
def C.graph_hang_B := And.intro (And.intro (And.intro (And.intro @C.graph_hang_r16_b.eq_1 @C.graph_hang_r15_b.eq_1) (And.intro @C.graph_hang_r14_b.eq_1 @C.graph_hang_r13_b.eq_1)) (And.intro (And.intro @C.graph_hang_r12_b.eq_1 @C.graph_hang_r11_b.eq_1) (And.intro @C.graph_hang_r10_b.eq_1 @C.graph_hang_r9_b.eq_1))) (And.intro (And.intro (And.intro @C.graph_hang_r8_b.eq_1 @C.graph_hang_r7_b.eq_1) (And.intro @C.graph_hang_r6_b.eq_1 @C.graph_hang_r5_b.eq_1)) (And.intro (And.intro @C.graph_hang_r4_b.eq_1 @C.graph_hang_r3_b.eq_1) (And.intro @C.graph_hang_r2_b.eq_1 (And.intro @C.graph_hang_r1_b.eq_1 @C.graph_hang_r0_b.eq_1))))

def C.graph_marks_has_r2_b : List IOper := [
  ⟨some 13, .move (.slot 6), none, [], []⟩,
  ⟨some 4, .move (.slot 13), none, [], []⟩]
def C.graph_marks_has_r2 : List IOper := C.graph_marks_has_r2_b
theorem C.graph_marks_has_r2_w {k : AFr → ASt → Prop} : aops P C.graph_marks_has_r2 k fr st = aops P C.graph_marks_has_r2_b k fr st := rfl
def C.graph_marks_has_c1 : ICode := .keep [6] (.seq (.region C.graph_marks_has_r2) .ret)
theorem C.graph_marks_has_c1_w : awp P C.graph_marks_has_c1 Q fr st = awp P (.keep [6] (.seq (.region C.graph_marks_has_r2) .ret)) Q fr st := rfl
def C.graph_marks_has_r1_b : List IOper := [
  ⟨some 8, .move (.slot 0), none, [], []⟩,
  ⟨some 9, .move (.slot 1), none, [], []⟩,
  ⟨some 10, .lookup (.agg []) true (.slot 8) (.slot 9), none, [], []⟩,
  ⟨some 7, .move (.slot 10), none, [], []⟩,
  ⟨some 11, .extract (.slot 7) 0, none, [], []⟩,
  ⟨some 12, .extract (.slot 7) 1, none, [], []⟩,
  ⟨some 5, .alloc [], none, [], []⟩,
  ⟨none, .storeN 0 (.slot 5) (.slot 11), none, [], []⟩,
  ⟨some 6, .move (.slot 12), none, [], []⟩]
def C.graph_marks_has_r1 : List IOper := C.graph_marks_has_r1_b
theorem C.graph_marks_has_r1_w {k : AFr → ASt → Prop} : aops P C.graph_marks_has_r1 k fr st = aops P C.graph_marks_has_r1_b k fr st := rfl
def C.graph_marks_has_c2 : ICode := .keep [0, 1] (.seq (.region C.graph_marks_has_r1) C.graph_marks_has_c1)
theorem C.graph_marks_has_c2_w : awp P C.graph_marks_has_c2 Q fr st = awp P (.keep [0, 1] (.seq (.region C.graph_marks_has_r1) C.graph_marks_has_c1)) Q fr st := rfl
def C.graph_marks_has_r0_b : List IOper := [
  ⟨some 4, .move (.cst (.bool false)), none, [], []⟩]
def C.graph_marks_has_r0 : List IOper := C.graph_marks_has_r0_b
theorem C.graph_marks_has_r0_w {k : AFr → ASt → Prop} : aops P C.graph_marks_has_r0 k fr st = aops P C.graph_marks_has_r0_b k fr st := rfl
def C.graph_marks_has : IFunc := ⟨2, [.slot 4], .seq (.region C.graph_marks_has_r0) C.graph_marks_has_c2⟩
def C.graph_marks_has_W := And.intro (And.intro @C.graph_marks_has_r2_w @C.graph_marks_has_c1_w) (And.intro @C.graph_marks_has_r1_w (And.intro @C.graph_marks_has_c2_w @C.graph_marks_has_r0_w))
def C.graph_marks_has_B := And.intro @C.graph_marks_has_r2_b.eq_1 (And.intro @C.graph_marks_has_r1_b.eq_1 @C.graph_marks_has_r0_b.eq_1)

def C.graph_marks_add_r0_b : List IOper := [
  ⟨some 4, .move (.slot 0), none, [], []⟩,
  ⟨some 5, .move (.slot 1), none, [], []⟩,
  ⟨some 6, .build [] [], none, [], []⟩,
  ⟨none, .mapSet (.slot 4) (.slot 5) (.slot 6), none, [], []⟩]
def C.graph_marks_add_r0 : List IOper := C.graph_marks_add_r0_b
theorem C.graph_marks_add_r0_w {k : AFr → ASt → Prop} : aops P C.graph_marks_add_r0 k fr st = aops P C.graph_marks_add_r0_b k fr st := rfl
def C.graph_marks_add : IFunc := ⟨2, [], .region C.graph_marks_add_r0⟩
def C.graph_marks_add_W := @C.graph_marks_add_r0_w
def C.graph_marks_add_B := @C.graph_marks_add_r0_b.eq_1

def C.graph_ordered_r6_b : List IOper := [
  ⟨some 24, .move (.slot 6), none, [], []⟩,
  ⟨some 4, .move (.slot 24), none, [], []⟩,
  ⟨some 5, .move (.cst (.int .i64 0)), none, [], []⟩]
def C.graph_ordered_r6 : List IOper := C.graph_ordered_r6_b
theorem C.graph_ordered_r6_w {k : AFr → ASt → Prop} : aops P C.graph_ordered_r6 k fr st = aops P C.graph_ordered_r6_b k fr st := rfl
def C.graph_ordered_c1 : ICode := .keep [6] (.seq (.region C.graph_ordered_r6) .ret)
theorem C.graph_ordered_c1_w : awp P C.graph_ordered_c1 Q fr st = awp P (.keep [6] (.seq (.region C.graph_ordered_r6) .ret)) Q fr st := rfl
def C.graph_ordered_r5_b : List IOper := [
  ⟨some 4, .move (.cst (.nils)), none, [], []⟩,
  ⟨some 5, .move (.cst (.int .i64 4)), none, [], []⟩]
def C.graph_ordered_r5 : List IOper := C.graph_ordered_r5_b
theorem C.graph_ordered_r5_w {k : AFr → ASt → Prop} : aops P C.graph_ordered_r5 k fr st = aops P C.graph_ordered_r5_b k fr st := rfl
def C.graph_ordered_c2 : ICode := .seq (.region C.graph_ordered_r5) .ret
theorem C.graph_ordered_c2_w : awp P C.graph_ordered_c2 Q fr st = awp P (.seq (.region C.graph_ordered_r5) .ret) Q fr st := rfl
def C.graph_ordered_c3 : ICode := .keep [6, 23] (.cond (.slot 23) C.graph_ordered_c2 .skip)
theorem C.graph_ordered_c3_w : awp P C.graph_ordered_c3 Q fr st = awp P (.keep [6, 23] (.cond (.slot 23) C.graph_ordered_c2 .skip)) Q fr st := rfl
def C.graph_ordered_r4_b : List IOper := [
  ⟨some 16, .move (.slot 1), none, [], []⟩,
  ⟨some 17, .bin .lss (.slot 16) (.cst (.int .i64 0)), none, [], []⟩,
  ⟨some 18, .move (.slot 17), none, [], []⟩,
  ⟨some 19, .move (.slot 1), some (18, false), [], []⟩,
  ⟨some 20, .move (.slot 0), some (18, false), [], []⟩,
  ⟨some 21, .len (.slot 20), some (18, false), [], []⟩,
  ⟨some 22, .bin .geq (.slot 19) (.slot 21), some (18, false), [], []⟩,
  ⟨some 23, .pick (.slot 18) (.cst (.bool true)) (.slot 22), none, [], []⟩]
def C.graph_ordered_r4 : List IOper := C.graph_ordered_r4_b
theorem C.graph_ordered_r4_w {k : AFr → ASt → Prop} : aops P C.graph_ordered_r4 k fr st = aops P C.graph_ordered_r4_b k fr st := rfl
def C.graph_ordered_c4 : ICode := .keep [0, 1, 6] (.seq (.seq (.region C.graph_ordered_r4) C.graph_ordered_c3) C.graph_ordered_c1)
theorem C.graph_ordered_c4_w : awp P C.graph_ordered_c4 Q fr st = awp P (.keep [0, 1, 6] (.seq (.seq (.region C.graph_ordered_r4) C.graph_ordered_c3) C.graph_ordered_c1)) Q fr st := rfl
def C.graph_ordered_r3_b : List IOper := [
  ⟨some 15, .move (.slot 7), none, [], []⟩,
  ⟨some 4, .move (.cst (.nils)), none, [], []⟩,
  ⟨some 5, .move (.slot 15), none, [], []⟩]
def C.graph_ordered_r3 : List IOper := C.graph_ordered_r3_b
theorem C.graph_ordered_r3_w {k : AFr → ASt → Prop} : aops P C.graph_ordered_r3 k fr st = aops P C.graph_ordered_r3_b k fr st := rfl
def C.graph_ordered_c5 : ICode := .seq (.region C.graph_ordered_r3) .ret
theorem C.graph_ordered_c5_w : awp P C.graph_ordered_c5 Q fr st = awp P (.seq (.region C.graph_ordered_r3) .ret) Q fr st := rfl
def C.graph_ordered_c6 : ICode := .keep [0, 1, 6, 7, 14] (.cond (.slot 14) C.graph_ordered_c5 .skip)
theorem C.graph_ordered_c6_w : awp P C.graph_ordered_c6 Q fr st = awp P (.keep [0, 1, 6, 7, 14] (.cond (.slot 14) C.graph_ordered_c5 .skip)) Q fr st := rfl
def C.graph_ordered_r2_b : List IOper := [
  ⟨some 13, .move (.slot 7), none, [], []⟩,
  ⟨some 14, .bin .neq (.slot 13) (.cst (.int .i64 0)), none, [], []⟩]
def C.graph_ordered_r2 : List IOper := C.graph_ordered_r2_b
theorem C.graph_ordered_r2_w {k : AFr → ASt → Prop} : aops P C.graph_ordered_r2 k fr st = aops P C.graph_ordered_r2_b k fr st := rfl
def C.graph_ordered_c7 : ICode := .keep [0, 1, 6, 7] (.seq (.seq (.region C.graph_ordered_r2) C.graph_ordered_c6) C.graph_ordered_c4)
theorem C.graph_ordered_c7_w : awp P C.graph_ordered_c7 Q fr st = awp P (.keep [0, 1, 6, 7] (.seq (.seq (.region C.graph_ordered_r2) C.graph_ordered_c6) C.graph_ordered_c4)) Q fr st := rfl
def C.graph_ordered_r1_b : List IOper := [
  ⟨some 9, .move (.slot 0), none, [], []⟩,
  ⟨some 10, .call F.graph_Order [.slot 9], none, [], []⟩,
  ⟨some 8, .move (.slot 10), none, [], []⟩,
  ⟨some 11, .extract (.slot 8) 0, none, [], []⟩,
  ⟨some 12, .extract (.slot 8) 1, none, [], []⟩,
  ⟨some 6, .move (.slot 11), none, [], []⟩,
  ⟨some 7, .move (.slot 12), none, [], []⟩]
def C.graph_ordered_r1 : List IOper := C.graph_ordered_r1_b
theorem C.graph_ordered_r1_w {k : AFr → ASt → Prop} : aops P C.graph_ordered_r1 k fr st = aops P C.graph_ordered_r1_b k fr st := rfl
def C.graph_ordered_c8 : ICode := .keep [0, 1] (.seq (.region C.graph_ordered_r1) C.graph_ordered_c7)
theorem C.graph_ordered_c8_w : awp P C.graph_ordered_c8 Q fr st = awp P (.keep [0, 1] (.seq (.region C.graph_ordered_r1) C.graph_ordered_c7)) Q fr st := rfl
def C.graph_ordered_r0_b : List IOper := [
  ⟨some 4, .move (.cst (.nils)), none, [], []⟩,
  ⟨some 5, .move (.cst (.int .i64 0)), none, [], []⟩]
def C.graph_ordered_r0 : List IOper := C.graph_ordered_r0_b
theorem C.graph_ordered_r0_w {k : AFr → ASt → Prop} : aops P C.graph_ordered_r0 k fr st = aops P C.graph_ordered_r0_b k fr st := rfl
def C.graph_ordered : IFunc := ⟨2, [.slot 4, .slot 5], .seq (.region C.graph_ordered_r0) C.graph_ordered_c8⟩
def C.graph_ordered_W := And.intro (And.intro (And.intro @C.graph_ordered_r6_w (And.intro @C.graph_ordered_c1_w @C.graph_ordered_r5_w)) (And.intro (And.intro @C.graph_ordered_c2_w @C.graph_ordered_c3_w) (And.intro @C.graph_ordered_r4_w @C.graph_ordered_c4_w))) (And.intro (And.intro (And.intro @C.graph_ordered_r3_w @C.graph_ordered_c5_w) (And.intro @C.graph_ordered_c6_w @C.graph_ordered_r2_w)) (And.intro (And.intro @C.graph_ordered_c7_w @C.graph_ordered_r1_w) (And.intro @C.graph_ordered_c8_w @C.graph_ordered_r0_w)))
def C.graph_ordered_B := And.intro (And.intro @C.graph_ordered_r6_b.eq_1 (And.intro @C.graph_ordered_r5_b.eq_1 @C.graph_ordered_r4_b.eq_1)) (And.intro (And.intro @C.graph_ordered_r3_b.eq_1 @C.graph_ordered_r2_b.eq_1) (And.intro @C.graph_ordered_r1_b.eq_1 @C.graph_ordered_r0_b.eq_1))

def C.graph_others_r8_b : List IOper := [
  ⟨some 29, .move (.slot 7), none, [], []⟩,
  ⟨some 6, .move (.slot 29), none, [], []⟩]
def C.graph_others_r8 : List IOper := C.graph_others_r8_b
theorem C.graph_others_r8_w {k : AFr → ASt → Prop} : aops P C.graph_others_r8 k fr st = aops P C.graph_others_r8_b k fr st := rfl
def C.graph_others_c1 : ICode := .keep [7] (.seq (.region C.graph_others_r8) .ret)
theorem C.graph_others_c1_w : awp P C.graph_others_c1 Q fr st = awp P (.keep [7] (.seq (.region C.graph_others_r8) .ret)) Q fr st := rfl
def C.graph_others_r7_b : List IOper := [
  ⟨some 28, .bin .add (.slot 12) (.cst (.int .i64 1)), none, [], []⟩,
  ⟨some 12, .move (.slot 28), none, [], []⟩]
def C.graph_others_r7 : List IOper := C.graph_others_r7_b
theorem C.graph_others_r7_w {k : AFr → ASt → Prop} : aops P C.graph_others_r7 k fr st = aops P C.graph_others_r7_b k fr st := rfl
def C.graph_others_c2 : ICode := .keep [1, 2, 7, 10, 11, 12] (.region C.graph_others_r7)
theorem C.graph_others_c2_w : awp P C.graph_others_c2 Q fr st = awp P (.keep [1, 2, 7, 10, 11, 12] (.region C.graph_others_r7)) Q fr st := rfl
def C.graph_others_r6_b : List IOper := [
  ⟨some 24, .move (.slot 7), none, [], []⟩,
  ⟨some 25, .move (.slot 9), none, [], []⟩,
  ⟨some 26, .buildSlice 1 1 [.int .i64 0] [(0, 1, .slot 25)], none, [], []⟩,
  ⟨some 27, .append 1 8 (.slot 24) (.slot 26), none, [], []⟩,
  ⟨some 7, .move (.slot 27), none, [], []⟩]
def C.graph_others_r6 : List IOper := C.graph_others_r6_b
theorem C.graph_others_r6_w {k : AFr → ASt → Prop} : aops P C.graph_others_r6 k fr st = aops P C.graph_others_r6_b k fr st := rfl
def C.graph_others_c3 : ICode := .keep [1, 2, 7, 9, 10, 11, 12, 23] (.cond (.slot 23) (.region C.graph_others_r6) .skip)
theorem C.graph_others_c3_w : awp P C.graph_others_c3 Q fr st = awp P (.keep [1, 2, 7, 9, 10, 11, 12, 23] (.cond (.slot 23) (.region C.graph_others_r6) .skip)) Q fr st := rfl
def C.graph_others_r5_b : List IOper := [
  ⟨some 16, .move (.slot 9), none, [], []⟩,
  ⟨some 17, .move (.slot 2), none, [], []⟩,
  ⟨some 18, .bin .neq (.slot 16) (.slot 17), none, [], []⟩,
  ⟨some 19, .move (.slot 18), none, [], []⟩,
  ⟨some 20, .move (.slot 1), some (19, true), [], []⟩,
  ⟨some 21, .move (.slot 9), some (19, true), [], []⟩,
  ⟨some 22, .call F.graph_marks_has [.slot 20, .slot 21], some (19, true), [], []⟩,
  ⟨some 23, .pick (.slot 19) (.slot 22) (.cst (.bool false)), none, [], []⟩]
def C.graph_others_r5 : List IOper := C.graph_others_r5_b
theorem C.graph_others_r5_w {k : AFr → ASt → Prop} : aops P C.graph_others_r5 k fr st = aops P C.graph_others_r5_b k fr st := rfl
def C.graph_others_c4 : ICode := .keep [1, 2, 7, 9, 10, 11, 12] (.seq (.region C.graph_others_r5) C.graph_others_c3)
theorem C.graph_others_c4_w : awp P C.graph_others_c4 Q fr st = awp P (.keep [1, 2, 7, 9, 10, 11, 12] (.seq (.region C.graph_others_r5) C.graph_others_c3)) Q fr st := rfl
def C.graph_others_r4_b : List IOper := [
  ⟨some 14, .idxAddr 1 (.slot 10) (.slot 12), none, [], []⟩,
  ⟨some 15, .load1 (.slot 14), none, [], []⟩,
  ⟨some 9, .move (.slot 15), none, [], []⟩]
def C.graph_others_r4 : List IOper := C.graph_others_r4_b
theorem C.graph_others_r4_w {k : AFr → ASt → Prop} : aops P C.graph_others_r4 k fr st = aops P C.graph_others_r4_b k fr st := rfl
def C.graph_others_b5 : ICode := .seq (.region C.graph_others_r4) C.graph_others_c4
theorem C.graph_others_b5_w : awp P C.graph_others_b5 Q fr st = awp P (.seq (.region C.graph_others_r4) C.graph_others_c4) Q fr st := rfl
def C.graph_others_c6 : ICode := .keep [1, 2, 7, 10, 11, 12] (.seq (.block 1 C.graph_others_b5) C.graph_others_c2)
theorem C.graph_others_c6_w : awp P C.graph_others_c6 Q fr st = awp P (.keep [1, 2, 7, 10, 11, 12] (.seq (.block 1 C.graph_others_b5) C.graph_others_c2)) Q fr st := rfl
def C.graph_others_c7 : ICode := .keep [1, 2, 7, 10, 11, 12, 13] (.seq (.cond (.slot 13) .skip (.exit 0)) C.graph_others_c6)
theorem C.graph_others_c7_w : awp P C.graph_others_c7 Q fr st = awp P (.keep [1, 2, 7, 10, 11, 12, 13] (.seq (.cond (.slot 13) .skip (.exit 0)) C.graph_others_c6)) Q fr st := rfl
def C.graph_others_r3_b : List IOper := [
  ⟨some 13, .bin .lss (.slot 12) (.slot 11), none, [], []⟩]
def C.graph_others_r3 : List IOper := C.graph_others_r3_b
theorem C.graph_others_r3_w {k : AFr → ASt → Prop} : aops P C.graph_others_r3 k fr st = aops P C.graph_others_r3_b k fr st := rfl
def C.graph_others_l8 : ICode := .keep [1, 2, 7, 10, 11, 12] (.seq (.region C.graph_others_r3) C.graph_others_c7)
theorem C.graph_others_l8_w : awp P C.graph_others_l8 Q fr st = awp P (.keep [1, 2, 7, 10, 11, 12] (.seq (.region C.graph_others_r3) C.graph_others_c7)) Q fr st := rfl
def C.graph_others_b9 : ICode := .loop C.graph_others_l8
theorem C.graph_others_b9_w : awp P C.graph_others_b9 Q fr st = awp P (.loop C.graph_others_l8) Q fr st := rfl
def C.graph_others_c10 : ICode := .keep [1, 2, 7, 10, 11, 12] (.block 0 C.graph_others_b9)
theorem C.graph_others_c10_w : awp P C.graph_others_c10 Q fr st = awp P (.keep [1, 2, 7, 10, 11, 12] (.block 0 C.graph_others_b9)) Q fr st := rfl
def C.graph_others_r2_b : List IOper := [
  ⟨some 10, .move (.slot 0), none, [], []⟩,
  ⟨some 11, .len (.slot 10), none, [], []⟩,
  ⟨some 12, .move (.cst (.int .i64 0)), none, [], []⟩]
def C.graph_others_r2 : List IOper := C.graph_others_r2_b
theorem C.graph_others_r2_w {k : AFr → ASt → Prop} : aops P C.graph_others_r2 k fr st = aops P C.graph_others_r2_b k fr st := rfl
def C.graph_others_c11 : ICode := .keep [0, 1, 2, 7] (.seq (.seq (.region C.graph_others_r2) C.graph_others_c10) C.graph_others_c1)
theorem C.graph_others_c11_w : awp P C.graph_others_c11 Q fr st = awp P (.keep [0, 1, 2, 7] (.seq (.seq (.region C.graph_others_r2) C.graph_others_c10) C.graph_others_c1)) Q fr st := rfl
def C.graph_others_r1_b : List IOper := [
  ⟨some 7, .move (.cst (.nils)), none, [], []⟩]
def C.graph_others_r1 : List IOper := C.graph_others_r1_b
theorem C.graph_others_r1_w {k : AFr → ASt → Prop} : aops P C.graph_others_r1 k fr st = aops P C.graph_others_r1_b k fr st := rfl
def C.graph_others_c12 : ICode := .keep [0, 1, 2] (.seq (.region C.graph_others_r1) C.graph_others_c11)
theorem C.graph_others_c12_w : awp P C.graph_others_c12 Q fr st = awp P (.keep [0, 1, 2] (.seq (.region C.graph_others_r1) C.graph_others_c11)) Q fr st := rfl
def C.graph_others_r0_b : List IOper := [
  ⟨some 6, .move (.cst (.nils)), none, [], []⟩]
def C.graph_others_r0 : List IOper := C.graph_others_r0_b
theorem C.graph_others_r0_w {k : AFr → ASt → Prop} : aops P C.graph_others_r0 k fr st = aops P C.graph_others_r0_b k fr st := rfl
def C.graph_others : IFunc := ⟨3, [.slot 6], .seq (.region C.graph_others_r0) C.graph_others_c12⟩
def C.graph_others_W := And.intro (And.intro (And.intro (And.intro @C.graph_others_r8_w @C.graph_others_c1_w) (And.intro @C.graph_others_r7_w (And.intro @C.graph_others_c2_w @C.graph_others_r6_w))) (And.intro (And.intro @C.graph_others_c3_w @C.graph_others_r5_w) (And.intro @C.graph_others_c4_w (And.intro @C.graph_others_r4_w @C.graph_others_b5_w)))) (And.intro (And.intro (And.intro @C.graph_others_c6_w @C.graph_others_c7_w) (And.intro @C.graph_others_r3_w (And.intro @C.graph_others_b9_w @C.graph_others_c10_w))) (And.intro (And.intro @C.graph_others_r2_w @C.graph_others_c11_w) (And.intro @C.graph_others_r1_w (And.intro @C.graph_others_c12_w @C.graph_others_r0_w))))
def C.graph_others_B := And.intro (And.intro (And.intro @C.graph_others_r8_b.eq_1 @C.graph_others_r7_b.eq_1) (And.intro @C.graph_others_r6_b.eq_1 @C.graph_others_r5_b.eq_1)) (And.intro (And.intro @C.graph_others_r4_b.eq_1 @C.graph_others_r3_b.eq_1) (And.intro @C.graph_others_r2_b.eq_1 (And.intro @C.graph_others_r1_b.eq_1 @C.graph_others_r0_b.eq_1)))

def C.catnapref3_order_r18_b : List IOper := [
  ⟨some 58, .move (.slot 3), none, [], []⟩,
  ⟨some 2, .move (.slot 58), none, [], []⟩]
def C.catnapref3_order_r18 : List IOper := C.catnapref3_order_r18_b
theorem C.catnapref3_order_r18_w {k : AFr → ASt → Prop} : aops P C.catnapref3_order_r18 k fr st = aops P C.catnapref3_order_r18_b k fr st := rfl
def C.catnapref3_order_c1 : ICode := .keep [3] (.seq (.region C.catnapref3_order_r18) .ret)
theorem C.catnapref3_order_c1_w : awp P C.catnapref3_order_c1 Q fr st = awp P (.keep [3] (.seq (.region C.catnapref3_order_r18) .ret)) Q fr st := rfl
def C.catnapref3_order_r8_b : List IOper := [
  ⟨some 21, .move (.slot 6), none, [], []⟩,
  ⟨some 22, .bin .add (.slot 21) (.cst (.int .i64 1)), none, [], []⟩,
  ⟨some 6, .move (.slot 22), none, [], []⟩]
def C.catnapref3_order_r8 : List IOper := C.catnapref3_order_r8_b
theorem C.catnapref3_order_r8_w {k : AFr → ASt → Prop} : aops P C.catnapref3_order_r8 k fr st = aops P C.catnapref3_order_r8_b k fr st := rfl
def C.catnapref3_order_c2 : ICode := .keep [0, 3, 4, 5, 6] (.region C.catnapref3_order_r8)
theorem C.catnapref3_order_c2_w : awp P C.catnapref3_order_c2 Q fr st = awp P (.keep [0, 3, 4, 5, 6] (.region C.catnapref3_order_r8)) Q fr st := rfl
def C.catnapref3_order_r17_b : List IOper := [
  ⟨some 5, .move (.cst (.bool true)), none, [], []⟩]
def C.catnapref3_order_r17 : List IOper := C.catnapref3_order_r17_b
theorem C.catnapref3_order_r17_w {k : AFr → ASt → Prop} : aops P C.catnapref3_order_r17 k fr st = aops P C.catnapref3_order_r17_b k fr st := rfl
def C.catnapref3_order_c3 : ICode := .keep [0, 3, 4, 6] (.region C.catnapref3_order_r17)
theorem C.catnapref3_order_c3_w : awp P C.catnapref3_order_c3 Q fr st = awp P (.keep [0, 3, 4, 6] (.region C.catnapref3_order_r17)) Q fr st := rfl
def C.catnapref3_order_r16_b : List IOper := [
  ⟨some 54, .move (.slot 3), none, [], []⟩,
  ⟨some 55, .move (.slot 6), none, [], []⟩,
  ⟨some 56, .buildSlice 1 1 [.int .i64 0] [(0, 1, .slot 55)], none, [], []⟩,
  ⟨some 57, .append 1 8 (.slot 54) (.slot 56), none, [], []⟩,
  ⟨some 3, .move (.slot 57), none, [], []⟩]
def C.catnapref3_order_r16 : List IOper := C.catnapref3_order_r16_b
theorem C.catnapref3_order_r16_w {k : AFr → ASt → Prop} : aops P C.catnapref3_order_r16 k fr st = aops P C.catnapref3_order_r16_b k fr st := rfl
def C.catnapref3_order_c4 : ICode := .keep [0, 3, 4, 6] (.seq (.region C.catnapref3_order_r16) C.catnapref3_order_c3)
theorem C.catnapref3_order_c4_w : awp P C.catnapref3_order_c4 Q fr st = awp P (.keep [0, 3, 4, 6] (.seq (.region C.catnapref3_order_r16) C.catnapref3_order_c3)) Q fr st := rfl
def C.catnapref3_order_r15_b : List IOper := [
  ⟨some 51, .move (.slot 4), none, [], []⟩,
  ⟨some 52, .move (.slot 6), none, [], []⟩,
  ⟨some 53, .idxAddr 1 (.slot 51) (.slot 52), none, [], []⟩,
  ⟨none, .store1 (.slot 53) (.cst (.bool true)), none, [], []⟩]
def C.catnapref3_order_r15 : List IOper := C.catnapref3_order_r15_b
theorem C.catnapref3_order_r15_w {k : AFr → ASt → Prop} : aops P C.catnapref3_order_r15 k fr st = aops P C.catnapref3_order_r15_b k fr st := rfl
def C.catnapref3_order_c5 : ICode := .seq (.region C.catnapref3_order_r15) C.catnapref3_order_c4
theorem C.catnapref3_order_c5_w : awp P C.catnapref3_order_c5 Q fr st = awp P (.seq (.region C.catnapref3_order_r15) C.catnapref3_order_c4) Q fr st := rfl
def C.catnapref3_order_c6 : ICode := .keep [0, 3, 4, 5, 6, 50] (.cond (.slot 50) C.catnapref3_order_c5 .skip)
theorem C.catnapref3_order_c6_w : awp P C.catnapref3_order_c6 Q fr st = awp P (.keep [0, 3, 4, 5, 6, 50] (.cond (.slot 50) C.catnapref3_order_c5 .skip)) Q fr st := rfl
def C.catnapref3_order_r14_b : List IOper := [
  ⟨some 50, .move (.slot 7), none, [], []⟩]
def C.catnapref3_order_r14 : List IOper := C.catnapref3_order_r14_b
theorem C.catnapref3_order_r14_w {k : AFr → ASt → Prop} : aops P C.catnapref3_order_r14 k fr st = aops P C.catnapref3_order_r14_b k fr st := rfl
def C.catnapref3_order_c7 : ICode := .keep [0, 3, 4, 5, 6, 7] (.seq (.region C.catnapref3_order_r14) C.catnapref3_order_c6)
theorem C.catnapref3_order_c7_w : awp P C.catnapref3_order_c7 Q fr st = awp P (.keep [0, 3, 4, 5, 6, 7] (.seq (.region C.catnapref3_order_r14) C.catnapref3_order_c6)) Q fr st := rfl
def C.catnapref3_order_r12_b : List IOper := [
  ⟨some 35, .move (.slot 8), none, [], []⟩,
  ⟨some 36, .bin .add (.slot 35) (.cst (.int .i64 1)), none, [], []⟩,
  ⟨some 8, .move (.slot 36), none, [], []⟩]
def C.catnapref3_order_r12 : List IOper := C.catnapref3_order_r12_b
theorem C.catnapref3_order_r12_w {k : AFr → ASt → Prop} : aops P C.catnapref3_order_r12 k fr st = aops P C.catnapref3_order_r12_b k fr st := rfl
def C.catnapref3_order_c8 : ICode := .keep [0, 3, 4, 5, 6, 7, 8] (.region C.catnapref3_order_r12)
theorem C.catnapref3_order_c8_w : awp P C.catnapref3_order_c8 Q fr st = awp P (.keep [0, 3, 4, 5, 6, 7, 8] (.region C.catnapref3_order_r12)) Q fr st := rfl
def C.catnapref3_order_r13_b : List IOper := [
  ⟨some 37, .move (.slot 7), none, [], []⟩,
  ⟨some 38, .move (.slot 37), none, [], []⟩,
  ⟨some 39, .move (.slot 4), some (38, true), [], []⟩,
  ⟨some 40, .move (.slot 0), some (38, true), [], []⟩,
  ⟨some 41, .move (.slot 6), some (38, true), [], []⟩,
  ⟨some 42, .idxAddr 1 (.slot 40) (.slot 41), some (38, true), [], []⟩,
  ⟨some 43, .load1 (.slot 42), some (38, true), [], []⟩,
  ⟨some 44, .move (.slot 8), some (38, true), [], []⟩,
  ⟨some 45, .idxAddr 1 (.slot 43) (.slot 44), some (38, true), [], []⟩,
  ⟨some 46, .load1 (.slot 45), some (38, true), [], []⟩,
  ⟨some 47, .idxAddr 1 (.slot 39) (.slot 46), some (38, true), [], []⟩,
  ⟨some 48, .load1 (.slot 47), some (38, true), [], []⟩,
  ⟨some 49, .pick (.slot 38) (.slot 48) (.cst (.bool false)), none, [], []⟩,
  ⟨some 7, .move (.slot 49), none, [], []⟩]
def C.catnapref3_order_r13 : List IOper := C.catnapref3_order_r13_b
theorem C.catnapref3_order_r13_w {k : AFr → ASt → Prop} : aops P C.catnapref3_order_r13 k fr st = aops P C.catnapref3_order_r13_b k fr st := rfl
def C.catnapref3_order_b9 : ICode := .region C.catnapref3_order_r13
theorem C.catnapref3_order_b9_w : awp P C.catnapref3_order_b9 Q fr st = awp P (.region C.catnapref3_order_r13) Q fr st := rfl
def C.catnapref3_order_c10 : ICode := .keep [0, 3, 4, 5, 6, 7, 8] (.seq (.block 5 C.catnapref3_order_b9) C.catnapref3_order_c8)
theorem C.catnapref3_order_c10_w : awp P C.catnapref3_order_c10 Q fr st = awp P (.keep [0, 3, 4, 5, 6, 7, 8] (.seq (.block 5 C.catnapref3_order_b9) C.catnapref3_order_c8)) Q fr st := rfl
def C.catnapref3_order_c11 : ICode := .keep [0, 3, 4, 5, 6, 7, 8, 34] (.cond (.slot 34) .skip (.exit 4))
theorem C.catnapref3_order_c11_w : awp P C.catnapref3_order_c11 Q fr st = awp P (.keep [0, 3, 4, 5, 6, 7, 8, 34] (.cond (.slot 34) .skip (.exit 4))) Q fr st := rfl
def C.catnapref3_order_r11_b : List IOper := [
  ⟨some 28, .move (.slot 8), none, [], []⟩,
  ⟨some 29, .move (.slot 0), none, [], []⟩,
  ⟨some 30, .move (.slot 6), none, [], []⟩,
  ⟨some 31, .idxAddr 1 (.slot 29) (.slot 30), none, [], []⟩,
  ⟨some 32, .load1 (.slot 31), none, [], []⟩,
  ⟨some 33, .len (.slot 32), none, [], []⟩,
  ⟨some 34, .bin .lss (.slot 28) (.slot 33), none, [], []⟩]
def C.catnapref3_order_r11 : List IOper := C.catnapref3_order_r11_b
theorem C.catnapref3_order_r11_w {k : AFr → ASt → Prop} : aops P C.catnapref3_order_r11 k fr st = aops P C.catnapref3_order_r11_b k fr st := rfl
def C.catnapref3_order_l12 : ICode := .keep [0, 3, 4, 5, 6, 7, 8] (.seq (.seq (.region C.catnapref3_order_r11) C.catnapref3_order_c11) C.catnapref3_order_c10)
theorem C.catnapref3_order_l12_w : awp P C.catnapref3_order_l12 Q fr st = awp P (.keep [0, 3, 4, 5, 6, 7, 8] (.seq (.seq (.region C.catnapref3_order_r11) C.catnapref3_order_c11) C.catnapref3_order_c10)) Q fr st := rfl
def C.catnapref3_order_b13 : ICode := .loop C.catnapref3_order_l12
theorem C.catnapref3_order_b13_w : awp P C.catnapref3_order_b13 Q fr st = awp P (.loop C.catnapref3_order_l12) Q fr st := rfl
def C.catnapref3_order_c14 : ICode := .keep [0, 3, 4, 5, 6, 7, 8] (.block 4 C.catnapref3_order_b13)
theorem C.catnapref3_order_c14_w : awp P C.catnapref3_order_c14 Q fr st = awp P (.keep [0, 3, 4, 5, 6, 7, 8] (.block 4 C.catnapref3_order_b13)) Q fr st := rfl
def C.catnapref3_order_r10_b : List IOper := [
  ⟨some 8, .move (.cst (.int .i64 0)), none, [], []⟩]
def C.catnapref3_order_r10 : List IOper := C.catnapref3_order_r10_b
theorem C.catnapref3_order_r10_w {k : AFr → ASt → Prop} : aops P C.catnapref3_order_r10 k fr st = aops P C.catnapref3_order_r10_b k fr st := rfl
def C.catnapref3_order_c15 : ICode := .keep [0, 3, 4, 5, 6, 7] (.seq (.seq (.region C.catnapref3_order_r10) C.catnapref3_order_c14) C.catnapref3_order_c7)
theorem C.catnapref3_order_c15_w : awp P C.catnapref3_order_c15 Q fr st = awp P (.keep [0, 3, 4, 5, 6, 7] (.seq (.seq (.region C.catnapref3_order_r10) C.catnapref3_order_c14) C.catnapref3_order_c7)) Q fr st := rfl
def C.catnapref3_order_r9_b : List IOper := [
  ⟨some 23, .move (.slot 4), none, [], []⟩,
  ⟨some 24, .move (.slot 6), none, [], []⟩,
  ⟨some 25, .idxAddr 1 (.slot 23) (.slot 24), none, [], []⟩,
  ⟨some 26, .load1 (.slot 25), none, [], []⟩,
  ⟨some 27, .un .not (.slot 26), none, [], []⟩,
  ⟨some 7, .move (.slot 27), none, [], []⟩]
def C.catnapref3_order_r9 : List IOper := C.catnapref3_order_r9_b
theorem C.catnapref3_order_r9_w {k : AFr → ASt → Prop} : aops P C.catnapref3_order_r9 k fr st = aops P C.catnapref3_order_r9_b k fr st := rfl
def C.catnapref3_order_b16 : ICode := .seq (.region C.catnapref3_order_r9) C.catnapref3_order_c15
theorem C.catnapref3_order_b16_w : awp P C.catnapref3_order_b16 Q fr st = awp P (.seq (.region C.catnapref3_order_r9) C.catnapref3_order_c15) Q fr st := rfl
def C.catnapref3_order_c17 : ICode := .keep [0, 3, 4, 5, 6] (.seq (.block 3 C.catnapref3_order_b16) C.catnapref3_order_c2)
theorem C.catnapref3_order_c17_w : awp P C.catnapref3_order_c17 Q fr st = awp P (.keep [0, 3, 4, 5, 6] (.seq (.block 3 C.catnapref3_order_b16) C.catnapref3_order_c2)) Q fr st := rfl
def C.catnapref3_order_c18 : ICode := .keep [0, 3, 4, 5, 6, 20] (.cond (.slot 20) .skip (.exit 2))
theorem C.catnapref3_order_c18_w : awp P C.catnapref3_order_c18 Q fr st = awp P (.keep [0, 3, 4, 5, 6, 20] (.cond (.slot 20) .skip (.exit 2))) Q fr st := rfl
def C.catnapref3_order_r7_b : List IOper := [
  ⟨some 13, .move (.slot 6), none, [], []⟩,
  ⟨some 14, .move (.slot 0), none, [], []⟩,
  ⟨some 15, .len (.slot 14), none, [], []⟩,
  ⟨some 16, .bin .lss (.slot 13) (.slot 15), none, [], []⟩,
  ⟨some 17, .move (.slot 16), none, [], []⟩,
  ⟨some 18, .move (.slot 5), some (17, true), [], []⟩,
  ⟨some 19, .un .not (.slot 18), some (17, true), [], []⟩,
  ⟨some 20, .pick (.slot 17) (.slot 19) (.cst (.bool false)), none, [], []⟩]
def C.catnapref3_order_r7 : List IOper := C.catnapref3_order_r7_b
theorem C.catnapref3_order_r7_w {k : AFr → ASt → Prop} : aops P C.catnapref3_order_r7 k fr st = aops P C.catnapref3_order_r7_b k fr st := rfl
def C.catnapref3_order_l19 : ICode := .keep [0, 3, 4, 5, 6] (.seq (.seq (.region C.catnapref3_order_r7) C.catnapref3_order_c18) C.catnapref3_order_c17)
theorem C.catnapref3_order_l19_w : awp P C.catnapref3_order_l19 Q fr st = awp P (.keep [0, 3, 4, 5, 6] (.seq (.seq (.region C.catnapref3_order_r7) C.catnapref3_order_c18) C.catnapref3_order_c17)) Q fr st := rfl
def C.catnapref3_order_b20 : ICode := .loop C.catnapref3_order_l19
theorem C.catnapref3_order_b20_w : awp P C.catnapref3_order_b20 Q fr st = awp P (.loop C.catnapref3_order_l19) Q fr st := rfl
def C.catnapref3_order_c21 : ICode := .keep [0, 3, 4, 5, 6] (.block 2 C.catnapref3_order_b20)
theorem C.catnapref3_order_c21_w : awp P C.catnapref3_order_c21 Q fr st = awp P (.keep [0, 3, 4, 5, 6] (.block 2 C.catnapref3_order_b20)) Q fr st := rfl
def C.catnapref3_order_r6_b : List IOper := [
  ⟨some 6, .move (.cst (.int .i64 0)), none, [], []⟩]
def C.catnapref3_order_r6 : List IOper := C.catnapref3_order_r6_b
theorem C.catnapref3_order_r6_w {k : AFr → ASt → Prop} : aops P C.catnapref3_order_r6 k fr st = aops P C.catnapref3_order_r6_b k fr st := rfl
def C.catnapref3_order_c22 : ICode := .keep [0, 3, 4, 5] (.seq (.region C.catnapref3_order_r6) C.catnapref3_order_c21)
theorem C.catnapref3_order_c22_w : awp P C.catnapref3_order_c22 Q fr st = awp P (.keep [0, 3, 4, 5] (.seq (.region C.catnapref3_order_r6) C.catnapref3_order_c21)) Q fr st := rfl
def C.catnapref3_order_r5_b : List IOper := [
  ⟨some 5, .move (.cst (.bool false)), none, [], []⟩]
def C.catnapref3_order_r5 : List IOper := C.catnapref3_order_r5_b
theorem C.catnapref3_order_r5_w {k : AFr → ASt → Prop} : aops P C.catnapref3_order_r5 k fr st = aops P C.catnapref3_order_r5_b k fr st := rfl
def C.catnapref3_order_b23 : ICode := .seq (.region C.catnapref3_order_r5) C.catnapref3_order_c22
theorem C.catnapref3_order_b23_w : awp P C.catnapref3_order_b23 Q fr st = awp P (.seq (.region C.catnapref3_order_r5) C.catnapref3_order_c22) Q fr st := rfl
def C.catnapref3_order_c24 : ICode := .keep [0, 3, 4] (.block 1 C.catnapref3_order_b23)
theorem C.catnapref3_order_c24_w : awp P C.catnapref3_order_c24 Q fr st = awp P (.keep [0, 3, 4] (.block 1 C.catnapref3_order_b23)) Q fr st := rfl
def C.catnapref3_order_c25 : ICode := .keep [0, 3, 4, 12] (.cond (.slot 12) .skip (.exit 0))
theorem C.catnapref3_order_c25_w : awp P C.catnapref3_order_c25 Q fr st = awp P (.keep [0, 3, 4, 12] (.cond (.slot 12) .skip (.exit 0))) Q fr st := rfl
def C.catnapref3_order_r4_b : List IOper := [
  ⟨some 12, .move (.slot 5), none, [], []⟩]
def C.catnapref3_order_r4 : List IOper := C.catnapref3_order_r4_b
theorem C.catnapref3_order_r4_w {k : AFr → ASt → Prop} : aops P C.catnapref3_order_r4 k fr st = aops P C.catnapref3_order_r4_b k fr st := rfl
def C.catnapref3_order_l26 : ICode := .keep [0, 3, 4, 5] (.seq (.seq (.region C.catnapref3_order_r4) C.catnapref3_order_c25) C.catnapref3_order_c24)
theorem C.catnapref3_order_l26_w : awp P C.catnapref3_order_l26 Q fr st = awp P (.keep [0, 3, 4, 5] (.seq (.seq (.region C.catnapref3_order_r4) C.catnapref3_order_c25) C.catnapref3_order_c24)) Q fr st := rfl
def C.catnapref3_order_b27 : ICode := .loop C.catnapref3_order_l26
theorem C.catnapref3_order_b27_w : awp P C.catnapref3_order_b27 Q fr st = awp P (.loop C.catnapref3_order_l26) Q fr st := rfl
def C.catnapref3_order_c28 : ICode := .keep [0, 3, 4, 5] (.seq (.block 0 C.catnapref3_order_b27) C.catnapref3_order_c1)
theorem C.catnapref3_order_c28_w : awp P C.catnapref3_order_c28 Q fr st = awp P (.keep [0, 3, 4, 5] (.seq (.block 0 C.catnapref3_order_b27) C.catnapref3_order_c1)) Q fr st := rfl
def C.catnapref3_order_r3_b : List IOper := [
  ⟨some 5, .move (.cst (.bool true)), none, [], []⟩]
def C.catnapref3_order_r3 : List IOper := C.catnapref3_order_r3_b
theorem C.catnapref3_order_r3_w {k : AFr → ASt → Prop} : aops P C.catnapref3_order_r3 k fr st = aops P C.catnapref3_order_r3_b k fr st := rfl
def C.catnapref3_order_c29 : ICode := .keep [0, 3, 4] (.seq (.region C.catnapref3_order_r3) C.catnapref3_order_c28)
theorem C.catnapref3_order_c29_w : awp P C.catnapref3_order_c29 Q fr st = awp P (.keep [0, 3, 4] (.seq (.region C.catnapref3_order_r3) C.catnapref3_order_c28)) Q fr st := rfl
def C.catnapref3_order_r2_b : List IOper := [
  ⟨some 9, .move (.slot 0), none, [], []⟩,
  ⟨some 10, .len (.slot 9), none, [], []⟩,
  ⟨some 11, .makeSlice 1 1 [.bool false] (.slot 10) (.slot 10), none, [], []⟩,
  ⟨some 4, .move (.slot 11), none, [], []⟩]
def C.catnapref3_order_r2 : List IOper := C.catnapref3_order_r2_b
theorem C.catnapref3_order_r2_w {k : AFr → ASt → Prop} : aops P C.catnapref3_order_r2 k fr st = aops P C.catnapref3_order_r2_b k fr st := rfl
def C.catnapref3_order_c30 : ICode := .keep [0, 3] (.seq (.region C.catnapref3_order_r2) C.catnapref3_order_c29)
theorem C.catnapref3_order_c30_w : awp P C.catnapref3_order_c30 Q fr st = awp P (.keep [0, 3] (.seq (.region C.catnapref3_order_r2) C.catnapref3_order_c29)) Q fr st := rfl
def C.catnapref3_order_r1_b : List IOper := [
  ⟨some 3, .move (.cst (.nils)), none, [], []⟩]
def C.catnapref3_order_r1 : List IOper := C.catnapref3_order_r1_b
theorem C.catnapref3_order_r1_w {k : AFr → ASt → Prop} : aops P C.catnapref3_order_r1 k fr st = aops P C.catnapref3_order_r1_b k fr st := rfl
def C.catnapref3_order_c31 : ICode := .keep [0] (.seq (.region C.catnapref3_order_r1) C.catnapref3_order_c30)
theorem C.catnapref3_order_c31_w : awp P C.catnapref3_order_c31 Q fr st = awp P (.keep [0] (.seq (.region C.catnapref3_order_r1) C.catnapref3_order_c30)) Q fr st := rfl
def C.catnapref3_order_r0_b : List IOper := [
  ⟨some 2, .move (.cst (.nils)), none, [], []⟩]
def C.catnapref3_order_r0 : List IOper := C.catnapref3_order_r0_b
theorem C.catnapref3_order_r0_w {k : AFr → ASt → Prop} : aops P C.catnapref3_order_r0 k fr st = aops P C.catnapref3_order_r0_b k fr st := rfl
def C.catnapref3_order : IFunc := ⟨1, [.slot 2], .seq (.region C.catnapref3_order_r0) C.catnapref3_order_c31⟩
def C.catnapref3_order_W := And.intro (And.intro (And.intro (And.intro (And.intro @C.catnapref3_order_r18_w @C.catnapref3_order_c1_w) (And.intro @C.catnapref3_order_r8_w (And.intro @C.catnapref3_order_c2_w @C.catnapref3_order_r17_w))) (And.intro (And.intro @C.catnapref3_order_c3_w (And.intro @C.catnapref3_order_r16_w @C.catnapref3_order_c4_w)) (And.intro @C.catnapref3_order_r15_w (And.intro @C.catnapref3_order_c5_w @C.catnapref3_order_c6_w)))) (And.intro (And.intro (And.intro @C.catnapref3_order_r14_w (And.intro @C.catnapref3_order_c7_w @C.catnapref3_order_r12_w)) (And.intro @C.catnapref3_order_c8_w (And.intro @C.catnapref3_order_r13_w @C.catnapref3_order_b9_w))) (And.intro (And.intro @C.catnapref3_order_c10_w (And.intro @C.catnapref3_order_c11_w @C.catnapref3_order_r11_w)) (And.intro @C.catnapref3_order_b13_w (And.intro @C.catnapref3_order_c14_w @C.catnapref3_order_r10_w))))) (And.intro (And.intro (And.intro (And.intro @C.catnapref3_order_c15_w (And.intro @C.catnapref3_order_r9_w @C.catnapref3_order_b16_w)) (And.intro @C.catnapref3_order_c17_w (And.intro @C.catnapref3_order_c18_w @C.catnapref3_order_r7_w))) (And.intro (And.intro @C.catnapref3_order_b20_w (And.intro @C.catnapref3_order_c21_w @C.catnapref3_order_r6_w)) (And.intro @C.catnapref3_order_c22_w (And.intro @C.catnapref3_order_r5_w @C.catnapref3_order_b23_w)))) (And.intro (And.intro (And.intro @C.catnapref3_order_c24_w (And.intro @C.catnapref3_order_c25_w @C.catnapref3_order_r4_w)) (And.intro @C.catnapref3_order_b27_w (And.intro @C.catnapref3_order_c28_w @C.catnapref3_order_r3_w))) (And.intro (And.intro @C.catnapref3_order_c29_w (And.intro @C.catnapref3_order_r2_w @C.catnapref3_order_c30_w)) (And.intro @C.catnapref3_order_r1_w (And.intro @C.catnapref3_order_c31_w @C.catnapref3_order_r0_w)))))
def C.catnapref3_order_B := And.intro (And.intro (And.intro (And.intro @C.catnapref3_order_r18_b.eq_1 @C.catnapref3_order_r8_b.eq_1) (And.intro @C.catnapref3_order_r17_b.eq_1 @C.catnapref3_order_r16_b.eq_1)) (And.intro (And.intro @C.catnapref3_order_r15_b.eq_1 @C.catnapref3_order_r14_b.eq_1) (And.intro @C.catnapref3_order_r12_b.eq_1 (And.intro @C.catnapref3_order_r13_b.eq_1 @C.catnapref3_order_r11_b.eq_1)))) (And.intro (And.intro (And.intro @C.catnapref3_order_r10_b.eq_1 @C.catnapref3_order_r9_b.eq_1) (And.intro @C.catnapref3_order_r7_b.eq_1 (And.intro @C.catnapref3_order_r6_b.eq_1 @C.catnapref3_order_r5_b.eq_1))) (And.intro (And.intro @C.catnapref3_order_r4_b.eq_1 @C.catnapref3_order_r3_b.eq_1) (And.intro @C.catnapref3_order_r2_b.eq_1 (And.intro @C.catnapref3_order_r1_b.eq_1 @C.catnapref3_order_r0_b.eq_1))))

def C.catnapref3_some_r25_b : List IOper := [
  ⟨some 134, .move (.slot 14), none, [], []⟩,
  ⟨some 6, .move (.slot 134), none, [], []⟩,
  ⟨some 7, .move (.cst (.int .i64 0)), none, [], []⟩]
def C.catnapref3_some_r25 : List IOper := C.catnapref3_some_r25_b
theorem C.catnapref3_some_r25_w {k : AFr → ASt → Prop} : aops P C.catnapref3_some_r25 k fr st = aops P C.catnapref3_some_r25_b k fr st := rfl
def C.catnapref3_some_c1 : ICode := .keep [14] (.seq (.region C.catnapref3_some_r25) .ret)
theorem C.catnapref3_some_c1_w : awp P C.catnapref3_some_c1 Q fr st = awp P (.keep [14] (.seq (.region C.catnapref3_some_r25) .ret)) Q fr st := rfl
def C.catnapref3_some_r22_b : List IOper := [
  ⟨some 110, .move (.slot 15), none, [], []⟩,
  ⟨some 111, .bin .add (.slot 110) (.cst (.int .i64 1)), none, [], []⟩,
  ⟨some 15, .move (.slot 111), none, [], []⟩]
def C.catnapref3_some_r22 : List IOper := C.catnapref3_some_r22_b
theorem C.catnapref3_some_r22_w {k : AFr → ASt → Prop} : aops P C.catnapref3_some_r22 k fr st = aops P C.catnapref3_some_r22_b k fr st := rfl
def C.catnapref3_some_c2 : ICode := .keep [1, 8, 10, 14, 15] (.region C.catnapref3_some_r22)
theorem C.catnapref3_some_c2_w : awp P C.catnapref3_some_c2 Q fr st = awp P (.keep [1, 8, 10, 14, 15] (.region C.catnapref3_some_r22)) Q fr st := rfl
def C.catnapref3_some_r24_b : List IOper := [
  ⟨some 127, .move (.slot 14), none, [], []⟩,
  ⟨some 128, .move (.slot 8), none, [], []⟩,
  ⟨some 129, .move (.slot 15), none, [], []⟩,
  ⟨some 130, .idxAddr 1 (.slot 128) (.slot 129), none, [], []⟩,
  ⟨some 131, .load1 (.slot 130), none, [], []⟩,
  ⟨some 132, .buildSlice 1 1 [.int .i64 0] [(0, 1, .slot 131)], none, [], []⟩,
  ⟨some 133, .append 1 8 (.slot 127) (.slot 132), none, [], []⟩,
  ⟨some 14, .move (.slot 133), none, [], []⟩]
def C.catnapref3_some_r24 : List IOper := C.catnapref3_some_r24_b
theorem C.catnapref3_some_r24_w {k : AFr → ASt → Prop} : aops P C.catnapref3_some_r24 k fr st = aops P C.catnapref3_some_r24_b k fr st := rfl
def C.catnapref3_some_c3 : ICode := .keep [1, 8, 10, 14, 15, 126] (.cond (.slot 126) (.region C.catnapref3_some_r24) .skip)
theorem C.catnapref3_some_c3_w : awp P C.catnapref3_some_c3 Q fr st = awp P (.keep [1, 8, 10, 14, 15, 126] (.cond (.slot 126) (.region C.catnapref3_some_r24) .skip)) Q fr st := rfl
def C.catnapref3_some_r23_b : List IOper := [
  ⟨some 112, .move (.slot 8), none, [], []⟩,
  ⟨some 113, .move (.slot 15), none, [], []⟩,
  ⟨some 114, .idxAddr 1 (.slot 112) (.slot 113), none, [], []⟩,
  ⟨some 115, .load1 (.slot 114), none, [], []⟩,
  ⟨some 116, .move (.slot 1), none, [], []⟩,
  ⟨some 117, .bin .neq (.slot 115) (.slot 116), none, [], []⟩,
  ⟨some 118, .move (.slot 117), none, [], []⟩,
  ⟨some 119, .move (.slot 10), some (118, true), [], []⟩,
  ⟨some 120, .move (.slot 8), some (118, true), [], []⟩,
  ⟨some 121, .move (.slot 15), some (118, true), [], []⟩,
  ⟨some 122, .idxAddr 1 (.slot 120) (.slot 121), some (118, true), [], []⟩,
  ⟨some 123, .load1 (.slot 122), some (118, true), [], []⟩,
  ⟨some 124, .idxAddr 1 (.slot 119) (.slot 123), some (118, true), [], []⟩,
  ⟨some 125, .load1 (.slot 124), some (118, true), [], []⟩,
  ⟨some 126, .pick (.slot 118) (.slot 125) (.cst (.bool false)), none, [], []⟩]
def C.catnapref3_some_r23 : List IOper := C.catnapref3_some_r23_b
theorem C.catnapref3_some_r23_w {k : AFr → ASt → Prop} : aops P C.catnapref3_some_r23 k fr st = aops P C.catnapref3_some_r23_b k fr st := rfl
def C.catnapref3_some_b4 : ICode := .seq (.region C.catnapref3_some_r23) C.catnapref3_some_c3
theorem C.catnapref3_some_b4_w : awp P C.catnapref3_some_b4 Q fr st = awp P (.seq (.region C.catnapref3_some_r23) C.catnapref3_some_c3) Q fr st := rfl
def C.catnapref3_some_c5 : ICode := .keep [1, 8, 10, 14, 15] (.seq (.block 5 C.catnapref3_some_b4) C.catnapref3_some_c2)
theorem C.catnapref3_some_c5_w : awp P C.catnapref3_some_c5 Q fr st = awp P (.keep [1, 8, 10, 14, 15] (.seq (.block 5 C.catnapref3_some_b4) C.catnapref3_some_c2)) Q fr st := rfl
def C.catnapref3_some_c6 : ICode := .keep [1, 8, 10, 14, 15, 109] (.cond (.slot 109) .skip (.exit 4))
theorem C.catnapref3_some_c6_w : awp P C.catnapref3_some_c6 Q fr st = awp P (.keep [1, 8, 10, 14, 15, 109] (.cond (.slot 109) .skip (.exit 4))) Q fr st := rfl
def C.catnapref3_some_r21_b : List IOper := [
  ⟨some 106, .move (.slot 15), none, [], []⟩,
  ⟨some 107, .move (.slot 8), none, [], []⟩,
  ⟨some 108, .len (.slot 107), none, [], []⟩,
  ⟨some 109, .bin .lss (.slot 106) (.slot 108), none, [], []⟩]
def C.catnapref3_some_r21 : List IOper := C.catnapref3_some_r21_b
theorem C.catnapref3_some_r21_w {k : AFr → ASt → Prop} : aops P C.catnapref3_some_r21 k fr st = aops P C.catnapref3_some_r21_b k fr st := rfl
def C.catnapref3_some_l7 : ICode := .keep [1, 8, 10, 14, 15] (.seq (.seq (.region C.catnapref3_some_r21) C.catnapref3_some_c6) C.catnapref3_some_c5)
theorem C.catnapref3_some_l7_w : awp P C.catnapref3_some_l7 Q fr st = awp P (.keep [1, 8, 10, 14, 15] (.seq (.seq (.region C.catnapref3_some_r21) C.catnapref3_some_c6) C.catnapref3_some_c5)) Q fr st := rfl
def C.catnapref3_some_b8 : ICode := .loop C.catnapref3_some_l7
theorem C.catnapref3_some_b8_w : awp P C.catnapref3_some_b8 Q fr st = awp P (.loop C.catnapref3_some_l7) Q fr st := rfl
def C.catnapref3_some_c9 : ICode := .keep [1, 8, 10, 14, 15] (.block 4 C.catnapref3_some_b8)
theorem C.catnapref3_some_c9_w : awp P C.catnapref3_some_c9 Q fr st = awp P (.keep [1, 8, 10, 14, 15] (.block 4 C.catnapref3_some_b8)) Q fr st := rfl
def C.catnapref3_some_r20_b : List IOper := [
  ⟨some 15, .move (.cst (.int .i64 0)), none, [], []⟩]
def C.catnapref3_some_r20 : List IOper := C.catnapref3_some_r20_b
theorem C.catnapref3_some_r20_w {k : AFr → ASt → Prop} : aops P C.catnapref3_some_r20 k fr st = aops P C.catnapref3_some_r20_b k fr st := rfl
def C.catnapref3_some_c10 : ICode := .keep [1, 8, 10, 14] (.seq (.seq (.region C.catnapref3_some_r20) C.catnapref3_some_c9) C.catnapref3_some_c1)
theorem C.catnapref3_some_c10_w : awp P C.catnapref3_some_c10 Q fr st = awp P (.keep [1, 8, 10, 14] (.seq (.seq (.region C.catnapref3_some_r20) C.catnapref3_some_c9) C.catnapref3_some_c1)) Q fr st := rfl
def C.catnapref3_some_r19_b : List IOper := [
  ⟨some 14, .move (.cst (.nils)), none, [], []⟩]
def C.catnapref3_some_r19 : List IOper := C.catnapref3_some_r19_b
theorem C.catnapref3_some_r19_w {k : AFr → ASt → Prop} : aops P C.catnapref3_some_r19 k fr st = aops P C.catnapref3_some_r19_b k fr st := rfl
def C.catnapref3_some_c11 : ICode := .keep [1, 8, 10] (.seq (.region C.catnapref3_some_r19) C.catnapref3_some_c10)
theorem C.catnapref3_some_c11_w : awp P C.catnapref3_some_c11 Q fr st = awp P (.keep [1, 8, 10] (.seq (.region C.catnapref3_some_r19) C.catnapref3_some_c10)) Q fr st := rfl
def C.catnapref3_some_r10_b : List IOper := [
  ⟨some 46, .move (.slot 11), none, [], []⟩,
  ⟨some 47, .bin .add (.slot 46) (.cst (.int .i64 1)), none, [], []⟩,
  ⟨some 11, .move (.slot 47), none, [], []⟩]
def C.catnapref3_some_r10 : List IOper := C.catnapref3_some_r10_b
theorem C.catnapref3_some_r10_w {k : AFr → ASt → Prop} : aops P C.catnapref3_some_r10 k fr st = aops P C.catnapref3_some_r10_b k fr st := rfl
def C.catnapref3_some_c12 : ICode := .keep [0, 1, 2, 8, 10, 11] (.region C.catnapref3_some_r10)
theorem C.catnapref3_some_c12_w : awp P C.catnapref3_some_c12 Q fr st = awp P (.keep [0, 1, 2, 8, 10, 11] (.region C.catnapref3_some_r10)) Q fr st := rfl
def C.catnapref3_some_r16_b : List IOper := [
  ⟨some 59, .move (.slot 13), none, [], []⟩,
  ⟨some 60, .bin .add (.slot 59) (.cst (.int .i64 1)), none, [], []⟩,
  ⟨some 13, .move (.slot 60), none, [], []⟩]
def C.catnapref3_some_r16 : List IOper := C.catnapref3_some_r16_b
theorem C.catnapref3_some_r16_w {k : AFr → ASt → Prop} : aops P C.catnapref3_some_r16 k fr st = aops P C.catnapref3_some_r16_b k fr st := rfl
def C.catnapref3_some_c13 : ICode := .keep [0, 1, 2, 8, 10, 11, 12, 13] (.region C.catnapref3_some_r16)
theorem C.catnapref3_some_c13_w : awp P C.catnapref3_some_c13 Q fr st = awp P (.keep [0, 1, 2, 8, 10, 11, 12, 13] (.region C.catnapref3_some_r16)) Q fr st := rfl
def C.catnapref3_some_r18_b : List IOper := [
  ⟨some 100, .move (.slot 10), none, [], []⟩,
  ⟨some 101, .move (.slot 8), none, [], []⟩,
  ⟨some 102, .move (.slot 12), none, [], []⟩,
  ⟨some 103, .idxAddr 1 (.slot 101) (.slot 102), none, [], []⟩,
  ⟨some 104, .load1 (.slot 103), none, [], []⟩,
  ⟨some 105, .idxAddr 1 (.slot 100) (.slot 104), none, [], []⟩,
  ⟨none, .store1 (.slot 105) (.cst (.bool true)), none, [], []⟩]
def C.catnapref3_some_r18 : List IOper := C.catnapref3_some_r18_b
theorem C.catnapref3_some_r18_w {k : AFr → ASt → Prop} : aops P C.catnapref3_some_r18 k fr st = aops P C.catnapref3_some_r18_b k fr st := rfl
def C.catnapref3_some_c14 : ICode := .keep [0, 1, 2, 8, 10, 11, 12, 13, 99] (.cond (.slot 99) (.region C.catnapref3_some_r18) .skip)
theorem C.catnapref3_some_c14_w : awp P C.catnapref3_some_c14 Q fr st = awp P (.keep [0, 1, 2, 8, 10, 11, 12, 13, 99] (.cond (.slot 99) (.region C.catnapref3_some_r18) .skip)) Q fr st := rfl
def C.catnapref3_some_r17_b : List IOper := [
  ⟨some 61, .move (.slot 2), none, [], []⟩,
  ⟨some 62, .move (.slot 61), none, [], []⟩,
  ⟨some 63, .move (.slot 10), some (62, true), [], []⟩,
  ⟨some 64, .move (.slot 13), some (62, true), [], []⟩,
  ⟨some 65, .idxAddr 1 (.slot 63) (.slot 64), some (62, true), [], []⟩,
  ⟨some 66, .load1 (.slot 65), some (62, true), [], []⟩,
  ⟨some 67, .pick (.slot 62) (.slot 66) (.cst (.bool false)), none, [], []⟩,
  ⟨some 68, .move (.slot 67), none, [], []⟩,
  ⟨some 69, .move (.slot 0), some (68, true), [], []⟩,
  ⟨some 70, .move (.slot 13), some (68, true), [], []⟩,
  ⟨some 71, .idxAddr 1 (.slot 69) (.slot 70), some (68, true), [], []⟩,
  ⟨some 72, .load1 (.slot 71), some (68, true), [], []⟩,
  ⟨some 73, .move (.slot 8), some (68, true), [], []⟩,
  ⟨some 74, .move (.slot 12), some (68, true), [], []⟩,
  ⟨some 75, .idxAddr 1 (.slot 73) (.slot 74), some (68, true), [], []⟩,
  ⟨some 76, .load1 (.slot 75), some (68, true), [], []⟩,
  ⟨some 77, .call F.catnapref3_Has [.slot 72, .slot 76], some (68, true), [], []⟩,
  ⟨some 78, .pick (.slot 68) (.slot 77) (.cst (.bool false)), none, [], []⟩,
  ⟨some 79, .move (.slot 78), none, [], []⟩,
  ⟨some 80, .move (.slot 2), some (79, false), [], []⟩,
  ⟨some 81, .un .not (.slot 80), some (79, false), [], []⟩,
  ⟨some 82, .move (.slot 81), some (79, false), [], []⟩,
  ⟨some 83, .move (.slot 10), some (82, true), [], []⟩,
  ⟨some 84, .move (.slot 13), some (82, true), [], []⟩,
  ⟨some 85, .idxAddr 1 (.slot 83) (.slot 84), some (82, true), [], []⟩,
  ⟨some 86, .load1 (.slot 85), some (82, true), [], []⟩,
  ⟨some 87, .pick (.slot 82) (.slot 86) (.cst (.bool false)), some (79, false), [], []⟩,
  ⟨some 88, .move (.slot 87), some (79, false), [], []⟩,
  ⟨some 89, .move (.slot 0), some (88, true), [], []⟩,
  ⟨some 90, .move (.slot 8), some (88, true), [], []⟩,
  ⟨some 91, .move (.slot 12), some (88, true), [], []⟩,
  ⟨some 92, .idxAddr 1 (.slot 90) (.slot 91), some (88, true), [], []⟩,
  ⟨some 93, .load1 (.slot 92), some (88, true), [], []⟩,
  ⟨some 94, .idxAddr 1 (.slot 89) (.slot 93), some (88, true), [], []⟩,
  ⟨some 95, .load1 (.slot 94), some (88, true), [], []⟩,
  ⟨some 96, .move (.slot 13), some (88, true), [], []⟩,
  ⟨some 97, .call F.catnapref3_Has [.slot 95, .slot 96], some (88, true), [], []⟩,
  ⟨some 98, .pick (.slot 88) (.slot 97) (.cst (.bool false)), some (79, false), [], []⟩,
  ⟨some 99, .pick (.slot 79) (.cst (.bool true)) (.slot 98), none, [], []⟩]
def C.catnapref3_some_r17 : List IOper := C.catnapref3_some_r17_b
theorem C.catnapref3_some_r17_w {k : AFr → ASt → Prop} : aops P C.catnapref3_some_r17 k fr st = aops P C.catnapref3_some_r17_b k fr st := rfl
def C.catnapref3_some_b15 : ICode := .seq (.region C.catnapref3_some_r17) C.catnapref3_some_c14
theorem C.catnapref3_some_b15_w : awp P C.catnapref3_some_b15 Q fr st = awp P (.seq (.region C.catnapref3_some_r17) C.catnapref3_some_c14) Q fr st := rfl
def C.catnapref3_some_c16 : ICode := .keep [0, 1, 2, 8, 10, 11, 12, 13] (.seq (.block 3 C.catnapref3_some_b15) C.catnapref3_some_c13)
theorem C.catnapref3_some_c16_w : awp P C.catnapref3_some_c16 Q fr st = awp P (.keep [0, 1, 2, 8, 10, 11, 12, 13] (.seq (.block 3 C.catnapref3_some_b15) C.catnapref3_some_c13)) Q fr st := rfl
def C.catnapref3_some_c17 : ICode := .keep [0, 1, 2, 8, 10, 11, 12, 13, 58] (.cond (.slot 58) .skip (.exit 2))
theorem C.catnapref3_some_c17_w : awp P C.catnapref3_some_c17 Q fr st = awp P (.keep [0, 1, 2, 8, 10, 11, 12, 13, 58] (.cond (.slot 58) .skip (.exit 2))) Q fr st := rfl
def C.catnapref3_some_r15_b : List IOper := [
  ⟨some 55, .move (.slot 13), none, [], []⟩,
  ⟨some 56, .move (.slot 0), none, [], []⟩,
  ⟨some 57, .len (.slot 56), none, [], []⟩,
  ⟨some 58, .bin .lss (.slot 55) (.slot 57), none, [], []⟩]
def C.catnapref3_some_r15 : List IOper := C.catnapref3_some_r15_b
theorem C.catnapref3_some_r15_w {k : AFr → ASt → Prop} : aops P C.catnapref3_some_r15 k fr st = aops P C.catnapref3_some_r15_b k fr st := rfl
def C.catnapref3_some_l18 : ICode := .keep [0, 1, 2, 8, 10, 11, 12, 13] (.seq (.seq (.region C.catnapref3_some_r15) C.catnapref3_some_c17) C.catnapref3_some_c16)
theorem C.catnapref3_some_l18_w : awp P C.catnapref3_some_l18 Q fr st = awp P (.keep [0, 1, 2, 8, 10, 11, 12, 13] (.seq (.seq (.region C.catnapref3_some_r15) C.catnapref3_some_c17) C.catnapref3_some_c16)) Q fr st := rfl
def C.catnapref3_some_b19 : ICode := .loop C.catnapref3_some_l18
theorem C.catnapref3_some_b19_w : awp P C.catnapref3_some_b19 Q fr st = awp P (.loop C.catnapref3_some_l18) Q fr st := rfl
def C.catnapref3_some_c20 : ICode := .keep [0, 1, 2, 8, 10, 11, 12, 13] (.block 2 C.catnapref3_some_b19)
theorem C.catnapref3_some_c20_w : awp P C.catnapref3_some_c20 Q fr st = awp P (.keep [0, 1, 2, 8, 10, 11, 12, 13] (.block 2 C.catnapref3_some_b19)) Q fr st := rfl
def C.catnapref3_some_r14_b : List IOper := [
  ⟨some 13, .move (.cst (.int .i64 0)), none, [], []⟩]
def C.catnapref3_some_r14 : List IOper := C.catnapref3_some_r14_b
theorem C.catnapref3_some_r14_w {k : AFr → ASt → Prop} : aops P C.catnapref3_some_r14 k fr st = aops P C.catnapref3_some_r14_b k fr st := rfl
def C.catnapref3_some_c21 : ICode := .keep [0, 1, 2, 8, 10, 11, 12] (.seq (.region C.catnapref3_some_r14) C.catnapref3_some_c20)
theorem C.catnapref3_some_c21_w : awp P C.catnapref3_some_c21 Q fr st = awp P (.keep [0, 1, 2, 8, 10, 11, 12] (.seq (.region C.catnapref3_some_r14) C.catnapref3_some_c20)) Q fr st := rfl
def C.catnapref3_some_r13_b : List IOper := [
  ⟨some 50, .move (.slot 8), none, [], []⟩,
  ⟨some 51, .len (.slot 50), none, [], []⟩,
  ⟨some 52, .bin .sub (.slot 51) (.cst (.int .i64 1)), none, [], []⟩,
  ⟨some 53, .move (.slot 11), none, [], []⟩,
  ⟨some 54, .bin .sub (.slot 52) (.slot 53), none, [], []⟩,
  ⟨some 12, .move (.slot 54), none, [], []⟩]
def C.catnapref3_some_r13 : List IOper := C.catnapref3_some_r13_b
theorem C.catnapref3_some_r13_w {k : AFr → ASt → Prop} : aops P C.catnapref3_some_r13 k fr st = aops P C.catnapref3_some_r13_b k fr st := rfl
def C.catnapref3_some_c22 : ICode := .keep [0, 1, 2, 8, 10, 11, 12, 49] (.cond (.slot 49) (.region C.catnapref3_some_r13) .skip)
theorem C.catnapref3_some_c22_w : awp P C.catnapref3_some_c22 Q fr st = awp P (.keep [0, 1, 2, 8, 10, 11, 12, 49] (.cond (.slot 49) (.region C.catnapref3_some_r13) .skip)) Q fr st := rfl
def C.catnapref3_some_r12_b : List IOper := [
  ⟨some 49, .move (.slot 2), none, [], []⟩]
def C.catnapref3_some_r12 : List IOper := C.catnapref3_some_r12_b
theorem C.catnapref3_some_r12_w {k : AFr → ASt → Prop} : aops P C.catnapref3_some_r12 k fr st = aops P C.catnapref3_some_r12_b k fr st := rfl
def C.catnapref3_some_c23 : ICode := .keep [0, 1, 2, 8, 10, 11, 12] (.seq (.seq (.region C.catnapref3_some_r12) C.catnapref3_some_c22) C.catnapref3_some_c21)
theorem C.catnapref3_some_c23_w : awp P C.catnapref3_some_c23 Q fr st = awp P (.keep [0, 1, 2, 8, 10, 11, 12] (.seq (.seq (.region C.catnapref3_some_r12) C.catnapref3_some_c22) C.catnapref3_some_c21)) Q fr st := rfl
def C.catnapref3_some_r11_b : List IOper := [
  ⟨some 48, .move (.slot 11), none, [], []⟩,
  ⟨some 12, .move (.slot 48), none, [], []⟩]
def C.catnapref3_some_r11 : List IOper := C.catnapref3_some_r11_b
theorem C.catnapref3_some_r11_w {k : AFr → ASt → Prop} : aops P C.catnapref3_some_r11 k fr st = aops P C.catnapref3_some_r11_b k fr st := rfl
def C.catnapref3_some_b24 : ICode := .seq (.region C.catnapref3_some_r11) C.catnapref3_some_c23
theorem C.catnapref3_some_b24_w : awp P C.catnapref3_some_b24 Q fr st = awp P (.seq (.region C.catnapref3_some_r11) C.catnapref3_some_c23) Q fr st := rfl
def C.catnapref3_some_c25 : ICode := .keep [0, 1, 2, 8, 10, 11] (.seq (.block 1 C.catnapref3_some_b24) C.catnapref3_some_c12)
theorem C.catnapref3_some_c25_w : awp P C.catnapref3_some_c25 Q fr st = awp P (.keep [0, 1, 2, 8, 10, 11] (.seq (.block 1 C.catnapref3_some_b24) C.catnapref3_some_c12)) Q fr st := rfl
def C.catnapref3_some_c26 : ICode := .keep [0, 1, 2, 8, 10, 11, 45] (.cond (.slot 45) .skip (.exit 0))
theorem C.catnapref3_some_c26_w : awp P C.catnapref3_some_c26 Q fr st = awp P (.keep [0, 1, 2, 8, 10, 11, 45] (.cond (.slot 45) .skip (.exit 0))) Q fr st := rfl
def C.catnapref3_some_r9_b : List IOper := [
  ⟨some 42, .move (.slot 11), none, [], []⟩,
  ⟨some 43, .move (.slot 8), none, [], []⟩,
  ⟨some 44, .len (.slot 43), none, [], []⟩,
  ⟨some 45, .bin .lss (.slot 42) (.slot 44), none, [], []⟩]
def C.catnapref3_some_r9 : List IOper := C.catnapref3_some_r9_b
theorem C.catnapref3_some_r9_w {k : AFr → ASt → Prop} : aops P C.catnapref3_some_r9 k fr st = aops P C.catnapref3_some_r9_b k fr st := rfl
def C.catnapref3_some_l27 : ICode := .keep [0, 1, 2, 8, 10, 11] (.seq (.seq (.region C.catnapref3_some_r9) C.catnapref3_some_c26) C.catnapref3_some_c25)
theorem C.catnapref3_some_l27_w : awp P C.catnapref3_some_l27 Q fr st = awp P (.keep [0, 1, 2, 8, 10, 11] (.seq (.seq (.region C.catnapref3_some_r9) C.catnapref3_some_c26) C.catnapref3_some_c25)) Q fr st := rfl
def C.catnapref3_some_b28 : ICode := .loop C.catnapref3_some_l27
theorem C.catnapref3_some_b28_w : awp P C.catnapref3_some_b28 Q fr st = awp P (.loop C.catnapref3_some_l27) Q fr st := rfl
def C.catnapref3_some_c29 : ICode := .keep [0, 1, 2, 8, 10, 11] (.block 0 C.catnapref3_some_b28)
theorem C.catnapref3_some_c29_w : awp P C.catnapref3_some_c29 Q fr st = awp P (.keep [0, 1, 2, 8, 10, 11] (.block 0 C.catnapref3_some_b28)) Q fr st := rfl
def C.catnapref3_some_r8_b : List IOper := [
  ⟨some 11, .move (.cst (.int .i64 0)), none, [], []⟩]
def C.catnapref3_some_r8 : List IOper := C.catnapref3_some_r8_b
theorem C.catnapref3_some_r8_w {k : AFr → ASt → Prop} : aops P C.catnapref3_some_r8 k fr st = aops P C.catnapref3_some_r8_b k fr st := rfl
def C.catnapref3_some_c30 : ICode := .keep [0, 1, 2, 8, 10] (.seq (.seq (.region C.catnapref3_some_r8) C.catnapref3_some_c29) C.catnapref3_some_c11)
theorem C.catnapref3_some_c30_w : awp P C.catnapref3_some_c30 Q fr st = awp P (.keep [0, 1, 2, 8, 10] (.seq (.seq (.region C.catnapref3_some_r8) C.catnapref3_some_c29) C.catnapref3_some_c11)) Q fr st := rfl
def C.catnapref3_some_r7_b : List IOper := [
  ⟨some 39, .move (.slot 10), none, [], []⟩,
  ⟨some 40, .move (.slot 1), none, [], []⟩,
  ⟨some 41, .idxAddr 1 (.slot 39) (.slot 40), none, [], []⟩,
  ⟨none, .store1 (.slot 41) (.cst (.bool true)), none, [], []⟩]
def C.catnapref3_some_r7 : List IOper := C.catnapref3_some_r7_b
theorem C.catnapref3_some_r7_w {k : AFr → ASt → Prop} : aops P C.catnapref3_some_r7 k fr st = aops P C.catnapref3_some_r7_b k fr st := rfl
def C.catnapref3_some_c31 : ICode := .keep [0, 1, 2, 8, 10] (.seq (.region C.catnapref3_some_r7) C.catnapref3_some_c30)
theorem C.catnapref3_some_c31_w : awp P C.catnapref3_some_c31 Q fr st = awp P (.keep [0, 1, 2, 8, 10] (.seq (.region C.catnapref3_some_r7) C.catnapref3_some_c30)) Q fr st := rfl
def C.catnapref3_some_r6_b : List IOper := [
  ⟨some 36, .move (.slot 0), none, [], []⟩,
  ⟨some 37, .len (.slot 36), none, [], []⟩,
  ⟨some 38, .makeSlice 1 1 [.bool false] (.slot 37) (.slot 37), none, [], []⟩,
  ⟨some 10, .move (.slot 38), none, [], []⟩]
def C.catnapref3_some_r6 : List IOper := C.catnapref3_some_r6_b
theorem C.catnapref3_some_r6_w {k : AFr → ASt → Prop} : aops P C.catnapref3_some_r6 k fr st = aops P C.catnapref3_some_r6_b k fr st := rfl
def C.catnapref3_some_c32 : ICode := .keep [0, 1, 2, 8] (.seq (.region C.catnapref3_some_r6) C.catnapref3_some_c31)
theorem C.catnapref3_some_c32_w : awp P C.catnapref3_some_c32 Q fr st = awp P (.keep [0, 1, 2, 8] (.seq (.region C.catnapref3_some_r6) C.catnapref3_some_c31)) Q fr st := rfl
def C.catnapref3_some_r5_b : List IOper := [
  ⟨some 35, .move (.slot 9), none, [], []⟩,
  ⟨some 6, .move (.cst (.nils)), none, [], []⟩,
  ⟨some 7, .move (.slot 35), none, [], []⟩]
def C.catnapref3_some_r5 : List IOper := C.catnapref3_some_r5_b
theorem C.catnapref3_some_r5_w {k : AFr → ASt → Prop} : aops P C.catnapref3_some_r5 k fr st = aops P C.catnapref3_some_r5_b k fr st := rfl
def C.catnapref3_some_c33 : ICode := .seq (.region C.catnapref3_some_r5) .ret
theorem C.catnapref3_some_c33_w : awp P C.catnapref3_some_c33 Q fr st = awp P (.seq (.region C.catnapref3_some_r5) .ret) Q fr st := rfl
def C.catnapref3_some_c34 : ICode := .keep [0, 1, 2, 8, 9, 34] (.cond (.slot 34) C.catnapref3_some_c33 .skip)
theorem C.catnapref3_some_c34_w : awp P C.catnapref3_some_c34 Q fr st = awp P (.keep [0, 1, 2, 8, 9, 34] (.cond (.slot 34) C.catnapref3_some_c33 .skip)) Q fr st := rfl
def C.catnapref3_some_r4_b : List IOper := [
  ⟨some 33, .move (.slot 9), none, [], []⟩,
  ⟨some 34, .bin .neq (.slot 33) (.cst (.int .i64 0)), none, [], []⟩]
def C.catnapref3_some_r4 : List IOper := C.catnapref3_some_r4_b
theorem C.catnapref3_some_r4_w {k : AFr → ASt → Prop} : aops P C.catnapref3_some_r4 k fr st = aops P C.catnapref3_some_r4_b k fr st := rfl
def C.catnapref3_some_c35 : ICode := .keep [0, 1, 2, 8, 9] (.seq (.seq (.region C.catnapref3_some_r4) C.catnapref3_some_c34) C.catnapref3_some_c32)
theorem C.catnapref3_some_c35_w : awp P C.catnapref3_some_c35 Q fr st = awp P (.keep [0, 1, 2, 8, 9] (.seq (.seq (.region C.catnapref3_some_r4) C.catnapref3_some_c34) C.catnapref3_some_c32)) Q fr st := rfl
def C.catnapref3_some_r3_b : List IOper := [
  ⟨some 9, .move (.cst (.int .i64 4)), none, [], []⟩]
def C.catnapref3_some_r3 : List IOper := C.catnapref3_some_r3_b
theorem C.catnapref3_some_r3_w {k : AFr → ASt → Prop} : aops P C.catnapref3_some_r3 k fr st = aops P C.catnapref3_some_r3_b k fr st := rfl
def C.catnapref3_some_c36 : ICode := .keep [0, 1, 2, 8, 9, 32] (.cond (.slot 32) (.region C.catnapref3_some_r3) .skip)
theorem C.catnapref3_some_c36_w : awp P C.catnapref3_some_c36 Q fr st = awp P (.keep [0, 1, 2, 8, 9, 32] (.cond (.slot 32) (.region C.catnapref3_some_r3) .skip)) Q fr st := rfl
def C.catnapref3_some_r2_b : List IOper := [
  ⟨some 21, .move (.slot 9), none, [], []⟩,
  ⟨some 22, .bin .eql (.slot 21) (.cst (.int .i64 0)), none, [], []⟩,
  ⟨some 23, .move (.slot 22), none, [], []⟩,
  ⟨some 24, .move (.slot 1), some (23, true), [], []⟩,
  ⟨some 25, .bin .lss (.slot 24) (.cst (.int .i64 0)), some (23, true), [], []⟩,
  ⟨some 26, .move (.slot 25), some (23, true), [], []⟩,
  ⟨some 27, .move (.slot 1), some (26, false), [], []⟩,
  ⟨some 28, .move (.slot 0), some (26, false), [], []⟩,
  ⟨some 29, .len (.slot 28), some (26, false), [], []⟩,
  ⟨some 30, .bin .geq (.slot 27) (.slot 29), some (26, false), [], []⟩,
  ⟨some 31, .pick (.slot 26) (.cst (.bool true)) (.slot 30), some (23, true), [], []⟩,
  ⟨some 32, .pick (.slot 23) (.slot 31) (.cst (.bool false)), none, [], []⟩]
def C.catnapref3_some_r2 : List IOper := C.catnapref3_some_r2_b
theorem C.catnapref3_some_r2_w {k : AFr → ASt → Prop} : aops P C.catnapref3_some_r2 k fr st = aops P C.catnapref3_some_r2_b k fr st := rfl
def C.catnapref3_some_c37 : ICode := .keep [0, 1, 2, 8, 9] (.seq (.seq (.region C.catnapref3_some_r2) C.catnapref3_some_c36) C.catnapref3_some_c35)
theorem C.catnapref3_some_c37_w : awp P C.catnapref3_some_c37 Q fr st = awp P (.keep [0, 1, 2, 8, 9] (.seq (.seq (.region C.catnapref3_some_r2) C.catnapref3_some_c36) C.catnapref3_some_c35)) Q fr st := rfl
def C.catnapref3_some_r1_b : List IOper := [
  ⟨some 17, .move (.slot 0), none, [], []⟩,
  ⟨some 18, .call F.catnapref3_Order [.slot 17], none, [], []⟩,
  ⟨some 16, .move (.slot 18), none, [], []⟩,
  ⟨some 19, .extract (.slot 16) 0, none, [], []⟩,
  ⟨some 20, .extract (.slot 16) 1, none, [], []⟩,
  ⟨some 8, .move (.slot 19), none, [], []⟩,
  ⟨some 9, .move (.slot 20), none, [], []⟩]
def C.catnapref3_some_r1 : List IOper := C.catnapref3_some_r1_b
theorem C.catnapref3_some_r1_w {k : AFr → ASt → Prop} : aops P C.catnapref3_some_r1 k fr st = aops P C.catnapref3_some_r1_b k fr st := rfl
def C.catnapref3_some_c38 : ICode := .keep [0, 1, 2] (.seq (.region C.catnapref3_some_r1) C.catnapref3_some_c37)
theorem C.catnapref3_some_c38_w : awp P C.catnapref3_some_c38 Q fr st = awp P (.keep [0, 1, 2] (.seq (.region C.catnapref3_some_r1) C.catnapref3_some_c37)) Q fr st := rfl
def C.catnapref3_some_r0_b : List IOper := [
  ⟨some 6, .move (.cst (.nils)), none, [], []⟩,
  ⟨some 7, .move (.cst (.int .i64 0)), none, [], []⟩]
def C.catnapref3_some_r0 : List IOper := C.catnapref3_some_r0_b
theorem C.catnapref3_some_r0_w {k : AFr → ASt → Prop} : aops P C.catnapref3_some_r0 k fr st = aops P C.catnapref3_some_r0_b k fr st := rfl
def C.catnapref3_some : IFunc := ⟨3, [.slot 6, .slot 7], .seq (.region C.catnapref3_some_r0) C.catnapref3_some_c38⟩
def C.catnapref3_some_W := And.intro (And.intro (And.intro (And.intro (And.intro @C.catnapref3_some_r25_w (And.intro @C.catnapref3_some_c1_w @C.catnapref3_some_r22_w)) (And.intro (And.intro @C.catnapref3_some_c2_w @C.catnapref3_some_r24_w) (And.intro @C.catnapref3_some_c3_w @C.catnapref3_some_r23_w))) (And.intro (And.intro (And.intro @C.catnapref3_some_b4_w @C.catnapref3_some_c5_w) (And.intro @C.catnapref3_some_c6_w @C.catnapref3_some_r21_w)) (And.intro (And.intro @C.catnapref3_some_b8_w @C.catnapref3_some_c9_w) (And.intro @C.catnapref3_some_r20_w @C.catnapref3_some_c10_w)))) (And.intro (And.intro (And.intro @C.catnapref3_some_r19_w (And.intro @C.catnapref3_some_c11_w @C.catnapref3_some_r10_w)) (And.intro (And.intro @C.catnapref3_some_c12_w @C.catnapref3_some_r16_w) (And.intro @C.catnapref3_some_c13_w @C.catnapref3_some_r18_w))) (And.intro (And.intro (And.intro @C.catnapref3_some_c14_w @C.catnapref3_some_r17_w) (And.intro @C.catnapref3_some_b15_w @C.catnapref3_some_c16_w)) (And.intro (And.intro @C.catnapref3_some_c17_w @C.catnapref3_some_r15_w) (And.intro @C.catnapref3_some_b19_w @C.catnapref3_some_c20_w))))) (And.intro (And.intro (And.intro (And.intro @C.catnapref3_some_r14_w (And.intro @C.catnapref3_some_c21_w @C.catnapref3_some_r13_w)) (And.intro (And.intro @C.catnapref3_some_c22_w @C.catnapref3_some_r12_w) (And.intro @C.catnapref3_some_c23_w @C.catnapref3_some_r11_w))) (And.intro (And.intro (And.intro @C.catnapref3_some_b24_w @C.catnapref3_some_c25_w) (And.intro @C.catnapref3_some_c26_w @C.catnapref3_some_r9_w)) (And.intro (And.intro @C.catnapref3_some_b28_w @C.catnapref3_some_c29_w) (And.intro @C.catnapref3_some_r8_w @C.catnapref3_some_c30_w)))) (And.intro (And.intro (And.intro (And.intro @C.catnapref3_some_r7_w @C.catnapref3_some_c31_w) (And.intro @C.catnapref3_some_r6_w @C.catnapref3_some_c32_w)) (And.intro (And.intro @C.catnapref3_some_r5_w @C.catnapref3_some_c33_w) (And.intro @C.catnapref3_some_c34_w @C.catnapref3_some_r4_w))) (And.intro (And.intro (And.intro @C.catnapref3_some_c35_w @C.catnapref3_some_r3_w) (And.intro @C.catnapref3_some_c36_w @C.catnapref3_some_r2_w)) (And.intro (And.intro @C.catnapref3_some_c37_w @C.catnapref3_some_r1_w) (And.intro @C.catnapref3_some_c38_w @C.catnapref3_some_r0_w)))))
def C.catnapref3_some_B := And.intro (And.intro (And.intro (And.intro @C.catnapref3_some_r25_b.eq_1 (And.intro @C.catnapref3_some_r22_b.eq_1 @C.catnapref3_some_r24_b.eq_1)) (And.intro @C.catnapref3_some_r23_b.eq_1 (And.intro @C.catnapref3_some_r21_b.eq_1 @C.catnapref3_some_r20_b.eq_1))) (And.intro (And.intro @C.catnapref3_some_r19_b.eq_1 (And.intro @C.catnapref3_some_r10_b.eq_1 @C.catnapref3_some_r16_b.eq_1)) (And.intro (And.intro @C.catnapref3_some_r18_b.eq_1 @C.catnapref3_some_r17_b.eq_1) (And.intro @C.catnapref3_some_r15_b.eq_1 @C.catnapref3_some_r14_b.eq_1)))) (And.intro (And.intro (And.intro @C.catnapref3_some_r13_b.eq_1 (And.intro @C.catnapref3_some_r12_b.eq_1 @C.catnapref3_some_r11_b.eq_1)) (And.intro @C.catnapref3_some_r9_b.eq_1 (And.intro @C.catnapref3_some_r8_b.eq_1 @C.catnapref3_some_r7_b.eq_1))) (And.intro (And.intro @C.catnapref3_some_r6_b.eq_1 (And.intro @C.catnapref3_some_r5_b.eq_1 @C.catnapref3_some_r4_b.eq_1)) (And.intro (And.intro @C.catnapref3_some_r3_b.eq_1 @C.catnapref3_some_r2_b.eq_1) (And.intro @C.catnapref3_some_r1_b.eq_1 @C.catnapref3_some_r0_b.eq_1))))

end Go.Proofs.Ythmdiljjkogghaa.Cn
