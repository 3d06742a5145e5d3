/- The intermediate code of the functions, printed by a program out of the loaded program; that it is theirs is checked in the text of links. -/
import Derived.Test.YtlnhljcfcnmglaaCnIr1
set_option linter.defProp false
namespace Go.Proofs.Ytlnhljcfcnmglaa.Cn
open Go
variable {P : Program} {Q : IExit → AFr → ASt → Prop} {fr : AFr} {st : ASt}


def C.catnapref9_New_r5_b : List IOper := [
  ⟨some 15, .move (.slot 4), none, [], []⟩,
  ⟨some 2, .move (.slot 15), none, [], []⟩,
  ⟨some 3, .move (.cst (.int .i64 0)), none, [], []⟩]
def C.catnapref9_New_r5 : List IOper := C.catnapref9_New_r5_b
theorem C.catnapref9_New_r5_w {k : AFr → ASt → Prop} : aops P C.catnapref9_New_r5 k fr st = aops P C.catnapref9_New_r5_b k fr st := rfl
def C.catnapref9_New_c1 : ICode := .keep [4] (.seq (.region C.catnapref9_New_r5) .ret)
theorem C.catnapref9_New_c1_w : awp P C.catnapref9_New_c1 Q fr st = awp P (.keep [4] (.seq (.region C.catnapref9_New_r5) .ret)) Q fr st := rfl
def C.catnapref9_New_r4_b : List IOper := [
  ⟨some 13, .move (.slot 4), none, [], []⟩,
  ⟨some 14, .call F.catnapref9_File_Clear [.slot 13], none, [], []⟩]
def C.catnapref9_New_r4 : List IOper := C.catnapref9_New_r4_b
theorem C.catnapref9_New_r4_w {k : AFr → ASt → Prop} : aops P C.catnapref9_New_r4 k fr st = aops P C.catnapref9_New_r4_b k fr st := rfl
def C.catnapref9_New_c2 : ICode := .keep [4] (.seq (.region C.catnapref9_New_r4) C.catnapref9_New_c1)
theorem C.catnapref9_New_c2_w : awp P C.catnapref9_New_c2 Q fr st = awp P (.keep [4] (.seq (.region C.catnapref9_New_r4) C.catnapref9_New_c1)) Q fr st := rfl
def C.catnapref9_New_r3_b : List IOper := [
  ⟨some 8, .buildSlice 2 0 [.int .u32 0, .bool false] [], none, [], []⟩,
  ⟨some 9, .move (.slot 0), none, [], []⟩,
  ⟨some 10, .append 2 8 (.slot 8) (.slot 9), none, [], []⟩,
  ⟨some 11, .build [.nils, .nils, .nils, .bool false] [(0, 1, .slot 10)], none, [], []⟩,
  ⟨some 12, .boxN (.slot 11), none, [], []⟩,
  ⟨some 4, .move (.slot 12), none, [], []⟩]
def C.catnapref9_New_r3 : List IOper := C.catnapref9_New_r3_b
theorem C.catnapref9_New_r3_w {k : AFr → ASt → Prop} : aops P C.catnapref9_New_r3 k fr st = aops P C.catnapref9_New_r3_b k fr st := rfl
def C.catnapref9_New_c3 : ICode := .keep [0] (.seq (.region C.catnapref9_New_r3) C.catnapref9_New_c2)
theorem C.catnapref9_New_c3_w : awp P C.catnapref9_New_c3 Q fr st = awp P (.keep [0] (.seq (.region C.catnapref9_New_r3) C.catnapref9_New_c2)) Q fr st := rfl
def C.catnapref9_New_r2_b : List IOper := [
  ⟨some 2, .move (.cst (.nilp)), none, [], []⟩,
  ⟨some 3, .move (.cst (.int .i64 8)), none, [], []⟩]
def C.catnapref9_New_r2 : List IOper := C.catnapref9_New_r2_b
theorem C.catnapref9_New_r2_w {k : AFr → ASt → Prop} : aops P C.catnapref9_New_r2 k fr st = aops P C.catnapref9_New_r2_b k fr st := rfl
def C.catnapref9_New_c4 : ICode := .seq (.region C.catnapref9_New_r2) .ret
theorem C.catnapref9_New_c4_w : awp P C.catnapref9_New_c4 Q fr st = awp P (.seq (.region C.catnapref9_New_r2) .ret) Q fr st := rfl
def C.catnapref9_New_c5 : ICode := .keep [0, 7] (.cond (.slot 7) C.catnapref9_New_c4 .skip)
theorem C.catnapref9_New_c5_w : awp P C.catnapref9_New_c5 Q fr st = awp P (.keep [0, 7] (.cond (.slot 7) C.catnapref9_New_c4 .skip)) Q fr st := rfl
def C.catnapref9_New_r1_b : List IOper := [
  ⟨some 5, .move (.slot 0), none, [], []⟩,
  ⟨some 6, .len (.slot 5), none, [], []⟩,
  ⟨some 7, .bin .gtr (.slot 6) (.cst (.int .i64 8)), none, [], []⟩]
def C.catnapref9_New_r1 : List IOper := C.catnapref9_New_r1_b
theorem C.catnapref9_New_r1_w {k : AFr → ASt → Prop} : aops P C.catnapref9_New_r1 k fr st = aops P C.catnapref9_New_r1_b k fr st := rfl
def C.catnapref9_New_c6 : ICode := .keep [0] (.seq (.seq (.region C.catnapref9_New_r1) C.catnapref9_New_c5) C.catnapref9_New_c3)
theorem C.catnapref9_New_c6_w : awp P C.catnapref9_New_c6 Q fr st = awp P (.keep [0] (.seq (.seq (.region C.catnapref9_New_r1) C.catnapref9_New_c5) C.catnapref9_New_c3)) Q fr st := rfl
def C.catnapref9_New_r0_b : List IOper := [
  ⟨some 2, .move (.cst (.nilp)), none, [], []⟩,
  ⟨some 3, .move (.cst (.int .i64 0)), none, [], []⟩]
def C.catnapref9_New_r0 : List IOper := C.catnapref9_New_r0_b
theorem C.catnapref9_New_r0_w {k : AFr → ASt → Prop} : aops P C.catnapref9_New_r0 k fr st = aops P C.catnapref9_New_r0_b k fr st := rfl
def C.catnapref9_New : IFunc := ⟨1, [.slot 2, .slot 3], .seq (.region C.catnapref9_New_r0) C.catnapref9_New_c6⟩
def C.catnapref9_New_W := And.intro (And.intro (And.intro @C.catnapref9_New_r5_w (And.intro @C.catnapref9_New_c1_w @C.catnapref9_New_r4_w)) (And.intro @C.catnapref9_New_c2_w (And.intro @C.catnapref9_New_r3_w @C.catnapref9_New_c3_w))) (And.intro (And.intro @C.catnapref9_New_r2_w (And.intro @C.catnapref9_New_c4_w @C.catnapref9_New_c5_w)) (And.intro @C.catnapref9_New_r1_w (And.intro @C.catnapref9_New_c6_w @C.catnapref9_New_r0_w)))
def C.catnapref9_New_B := And.intro (And.intro @C.catnapref9_New_r5_b.eq_1 (And.intro @C.catnapref9_New_r4_b.eq_1 @C.catnapref9_New_r3_b.eq_1)) (And.intro @C.catnapref9_New_r2_b.eq_1 (And.intro @C.catnapref9_New_r1_b.eq_1 @C.catnapref9_New_r0_b.eq_1))

def C.catnaplaw9_pick_r3_b : List IOper := [
  ⟨some 10, .move (.slot 0), none, [], []⟩,
  ⟨some 11, .move (.slot 1), none, [], []⟩,
  ⟨some 12, .bin .rem (.slot 10) (.slot 11), none, [], []⟩,
  ⟨some 4, .move (.slot 12), none, [], []⟩]
def C.catnaplaw9_pick_r3 : List IOper := C.catnaplaw9_pick_r3_b
theorem C.catnaplaw9_pick_r3_w {k : AFr → ASt → Prop} : aops P C.catnaplaw9_pick_r3 k fr st = aops P C.catnaplaw9_pick_r3_b k fr st := rfl
def C.catnaplaw9_pick_c1 : ICode := .keep [0, 1] (.seq (.region C.catnaplaw9_pick_r3) .ret)
theorem C.catnaplaw9_pick_c1_w : awp P C.catnaplaw9_pick_c1 Q fr st = awp P (.keep [0, 1] (.seq (.region C.catnaplaw9_pick_r3) .ret)) Q fr st := rfl
def C.catnaplaw9_pick_r2_b : List IOper := [
  ⟨some 7, .move (.slot 0), none, [], []⟩,
  ⟨some 8, .bin .add (.slot 7) (.cst (.int .i64 1)), none, [], []⟩,
  ⟨some 9, .un .neg (.slot 8), none, [], []⟩,
  ⟨some 0, .move (.slot 9), none, [], []⟩]
def C.catnaplaw9_pick_r2 : List IOper := C.catnaplaw9_pick_r2_b
theorem C.catnaplaw9_pick_r2_w {k : AFr → ASt → Prop} : aops P C.catnaplaw9_pick_r2 k fr st = aops P C.catnaplaw9_pick_r2_b k fr st := rfl
def C.catnaplaw9_pick_c2 : ICode := .keep [0, 1, 6] (.cond (.slot 6) (.region C.catnaplaw9_pick_r2) .skip)
theorem C.catnaplaw9_pick_c2_w : awp P C.catnaplaw9_pick_c2 Q fr st = awp P (.keep [0, 1, 6] (.cond (.slot 6) (.region C.catnaplaw9_pick_r2) .skip)) Q fr st := rfl
def C.catnaplaw9_pick_r1_b : List IOper := [
  ⟨some 5, .move (.slot 0), none, [], []⟩,
  ⟨some 6, .bin .lss (.slot 5) (.cst (.int .i64 0)), none, [], []⟩]
def C.catnaplaw9_pick_r1 : List IOper := C.catnaplaw9_pick_r1_b
theorem C.catnaplaw9_pick_r1_w {k : AFr → ASt → Prop} : aops P C.catnaplaw9_pick_r1 k fr st = aops P C.catnaplaw9_pick_r1_b k fr st := rfl
def C.catnaplaw9_pick_c3 : ICode := .keep [0, 1] (.seq (.seq (.region C.catnaplaw9_pick_r1) C.catnaplaw9_pick_c2) C.catnaplaw9_pick_c1)
theorem C.catnaplaw9_pick_c3_w : awp P C.catnaplaw9_pick_c3 Q fr st = awp P (.keep [0, 1] (.seq (.seq (.region C.catnaplaw9_pick_r1) C.catnaplaw9_pick_c2) C.catnaplaw9_pick_c1)) Q fr st := rfl
def C.catnaplaw9_pick_r0_b : List IOper := [
  ⟨some 4, .move (.cst (.int .i64 0)), none, [], []⟩]
def C.catnaplaw9_pick_r0 : List IOper := C.catnaplaw9_pick_r0_b
theorem C.catnaplaw9_pick_r0_w {k : AFr → ASt → Prop} : aops P C.catnaplaw9_pick_r0 k fr st = aops P C.catnaplaw9_pick_r0_b k fr st := rfl
def C.catnaplaw9_pick : IFunc := ⟨2, [.slot 4], .seq (.region C.catnaplaw9_pick_r0) C.catnaplaw9_pick_c3⟩
def C.catnaplaw9_pick_W := And.intro (And.intro @C.catnaplaw9_pick_r3_w (And.intro @C.catnaplaw9_pick_c1_w @C.catnaplaw9_pick_r2_w)) (And.intro (And.intro @C.catnaplaw9_pick_c2_w @C.catnaplaw9_pick_r1_w) (And.intro @C.catnaplaw9_pick_c3_w @C.catnaplaw9_pick_r0_w))
def C.catnaplaw9_pick_B := And.intro (And.intro @C.catnaplaw9_pick_r3_b.eq_1 @C.catnaplaw9_pick_r2_b.eq_1) (And.intro @C.catnaplaw9_pick_r1_b.eq_1 @C.catnaplaw9_pick_r0_b.eq_1)

def C.regs_File_Write_r4_b : List IOper := [
  ⟨some 6, .move (.cst (.int .i64 0)), none, [], []⟩]
def C.regs_File_Write_r4 : List IOper := C.regs_File_Write_r4_b
theorem C.regs_File_Write_r4_w {k : AFr → ASt → Prop} : aops P C.regs_File_Write_r4 k fr st = aops P C.regs_File_Write_r4_b k fr st := rfl
def C.regs_File_Write_c1 : ICode := .keep [] (.seq (.region C.regs_File_Write_r4) .ret)
theorem C.regs_File_Write_c1_w : awp P C.regs_File_Write_c1 Q fr st = awp P (.keep [] (.seq (.region C.regs_File_Write_r4) .ret)) Q fr st := rfl
def C.regs_File_Write_r3_b : List IOper := [
  ⟨some 15, .move (.slot 0), none, [], []⟩,
  ⟨some 16, .nilchk (.slot 15), none, [], []⟩,
  ⟨some 17, .fldAddr 1 (.slot 16), none, [], []⟩,
  ⟨some 18, .load1 (.slot 17), none, [], []⟩,
  ⟨some 19, .move (.slot 1), none, [], []⟩,
  ⟨some 20, .move (.slot 2), none, [], []⟩,
  ⟨some 21, .idxAddr 1 (.slot 18) (.slot 19), none, [], []⟩,
  ⟨none, .store1 (.slot 21) (.slot 20), none, [], []⟩]
def C.regs_File_Write_r3 : List IOper := C.regs_File_Write_r3_b
theorem C.regs_File_Write_r3_w {k : AFr → ASt → Prop} : aops P C.regs_File_Write_r3 k fr st = aops P C.regs_File_Write_r3_b k fr st := rfl
def C.regs_File_Write_c2 : ICode := .keep [0, 1, 2] (.seq (.region C.regs_File_Write_r3) C.regs_File_Write_c1)
theorem C.regs_File_Write_c2_w : awp P C.regs_File_Write_c2 Q fr st = awp P (.keep [0, 1, 2] (.seq (.region C.regs_File_Write_r3) C.regs_File_Write_c1)) Q fr st := rfl
def C.regs_File_Write_r2_b : List IOper := [
  ⟨some 6, .move (.cst (.int .i64 4)), none, [], []⟩]
def C.regs_File_Write_r2 : List IOper := C.regs_File_Write_r2_b
theorem C.regs_File_Write_r2_w {k : AFr → ASt → Prop} : aops P C.regs_File_Write_r2 k fr st = aops P C.regs_File_Write_r2_b k fr st := rfl
def C.regs_File_Write_c3 : ICode := .seq (.region C.regs_File_Write_r2) .ret
theorem C.regs_File_Write_c3_w : awp P C.regs_File_Write_c3 Q fr st = awp P (.seq (.region C.regs_File_Write_r2) .ret) Q fr st := rfl
def C.regs_File_Write_c4 : ICode := .keep [0, 1, 2, 14] (.cond (.slot 14) C.regs_File_Write_c3 .skip)
theorem C.regs_File_Write_c4_w : awp P C.regs_File_Write_c4 Q fr st = awp P (.keep [0, 1, 2, 14] (.cond (.slot 14) C.regs_File_Write_c3 .skip)) Q fr st := rfl
def C.regs_File_Write_r1_b : List IOper := [
  ⟨some 7, .move (.slot 1), none, [], []⟩,
  ⟨some 8, .bin .lss (.slot 7) (.cst (.int .i64 0)), none, [], []⟩,
  ⟨some 9, .move (.slot 8), none, [], []⟩,
  ⟨some 10, .move (.slot 1), some (9, false), [], []⟩,
  ⟨some 11, .move (.slot 0), some (9, false), [], []⟩,
  ⟨some 12, .call F.regs_File_Many [.slot 11], some (9, false), [], []⟩,
  ⟨some 13, .bin .geq (.slot 10) (.slot 12), some (9, false), [], []⟩,
  ⟨some 14, .pick (.slot 9) (.cst (.bool true)) (.slot 13), none, [], []⟩]
def C.regs_File_Write_r1 : List IOper := C.regs_File_Write_r1_b
theorem C.regs_File_Write_r1_w {k : AFr → ASt → Prop} : aops P C.regs_File_Write_r1 k fr st = aops P C.regs_File_Write_r1_b k fr st := rfl
def C.regs_File_Write_c5 : ICode := .keep [0, 1, 2] (.seq (.seq (.region C.regs_File_Write_r1) C.regs_File_Write_c4) C.regs_File_Write_c2)
theorem C.regs_File_Write_c5_w : awp P C.regs_File_Write_c5 Q fr st = awp P (.keep [0, 1, 2] (.seq (.seq (.region C.regs_File_Write_r1) C.regs_File_Write_c4) C.regs_File_Write_c2)) Q fr st := rfl
def C.regs_File_Write_r0_b : List IOper := [
  ⟨some 6, .move (.cst (.int .i64 0)), none, [], []⟩]
def C.regs_File_Write_r0 : List IOper := C.regs_File_Write_r0_b
theorem C.regs_File_Write_r0_w {k : AFr → ASt → Prop} : aops P C.regs_File_Write_r0 k fr st = aops P C.regs_File_Write_r0_b k fr st := rfl
def C.regs_File_Write : IFunc := ⟨3, [.slot 6], .seq (.region C.regs_File_Write_r0) C.regs_File_Write_c5⟩
def C.regs_File_Write_W := And.intro (And.intro (And.intro @C.regs_File_Write_r4_w @C.regs_File_Write_c1_w) (And.intro @C.regs_File_Write_r3_w (And.intro @C.regs_File_Write_c2_w @C.regs_File_Write_r2_w))) (And.intro (And.intro @C.regs_File_Write_c3_w @C.regs_File_Write_c4_w) (And.intro @C.regs_File_Write_r1_w (And.intro @C.regs_File_Write_c5_w @C.regs_File_Write_r0_w)))
def C.regs_File_Write_B := And.intro (And.intro @C.regs_File_Write_r4_b.eq_1 @C.regs_File_Write_r3_b.eq_1) (And.intro @C.regs_File_Write_r2_b.eq_1 (And.intro @C.regs_File_Write_r1_b.eq_1 @C.regs_File_Write_r0_b.eq_1))

def C.catnapref9_File_Write_r4_b : List IOper := [
  ⟨some 6, .move (.cst (.int .i64 0)), none, [], []⟩]
def C.catnapref9_File_Write_r4 : List IOper := C.catnapref9_File_Write_r4_b
theorem C.catnapref9_File_Write_r4_w {k : AFr → ASt → Prop} : aops P C.catnapref9_File_Write_r4 k fr st = aops P C.catnapref9_File_Write_r4_b k fr st := rfl
def C.catnapref9_File_Write_c1 : ICode := .keep [] (.seq (.region C.catnapref9_File_Write_r4) .ret)
theorem C.catnapref9_File_Write_c1_w : awp P C.catnapref9_File_Write_c1 Q fr st = awp P (.keep [] (.seq (.region C.catnapref9_File_Write_r4) .ret)) Q fr st := rfl
def C.catnapref9_File_Write_r3_b : List IOper := [
  ⟨some 18, .move (.slot 0), none, [], []⟩,
  ⟨some 19, .nilchk (.slot 18), none, [], []⟩,
  ⟨some 20, .fldAddr 1 (.slot 19), none, [], []⟩,
  ⟨some 21, .load1 (.slot 20), none, [], []⟩,
  ⟨some 22, .move (.slot 1), none, [], []⟩,
  ⟨some 23, .move (.slot 2), none, [], []⟩,
  ⟨some 24, .idxAddr 1 (.slot 21) (.slot 22), none, [], []⟩,
  ⟨none, .store1 (.slot 24) (.slot 23), none, [], []⟩]
def C.catnapref9_File_Write_r3 : List IOper := C.catnapref9_File_Write_r3_b
theorem C.catnapref9_File_Write_r3_w {k : AFr → ASt → Prop} : aops P C.catnapref9_File_Write_r3 k fr st = aops P C.catnapref9_File_Write_r3_b k fr st := rfl
def C.catnapref9_File_Write_c2 : ICode := .keep [0, 1, 2] (.seq (.region C.catnapref9_File_Write_r3) C.catnapref9_File_Write_c1)
theorem C.catnapref9_File_Write_c2_w : awp P C.catnapref9_File_Write_c2 Q fr st = awp P (.keep [0, 1, 2] (.seq (.region C.catnapref9_File_Write_r3) C.catnapref9_File_Write_c1)) Q fr st := rfl
def C.catnapref9_File_Write_r2_b : List IOper := [
  ⟨some 6, .move (.cst (.int .i64 4)), none, [], []⟩]
def C.catnapref9_File_Write_r2 : List IOper := C.catnapref9_File_Write_r2_b
theorem C.catnapref9_File_Write_r2_w {k : AFr → ASt → Prop} : aops P C.catnapref9_File_Write_r2 k fr st = aops P C.catnapref9_File_Write_r2_b k fr st := rfl
def C.catnapref9_File_Write_c3 : ICode := .seq (.region C.catnapref9_File_Write_r2) .ret
theorem C.catnapref9_File_Write_c3_w : awp P C.catnapref9_File_Write_c3 Q fr st = awp P (.seq (.region C.catnapref9_File_Write_r2) .ret) Q fr st := rfl
def C.catnapref9_File_Write_c4 : ICode := .keep [0, 1, 2, 17] (.cond (.slot 17) C.catnapref9_File_Write_c3 .skip)
theorem C.catnapref9_File_Write_c4_w : awp P C.catnapref9_File_Write_c4 Q fr st = awp P (.keep [0, 1, 2, 17] (.cond (.slot 17) C.catnapref9_File_Write_c3 .skip)) Q fr st := rfl
def C.catnapref9_File_Write_r1_b : List IOper := [
  ⟨some 7, .move (.slot 1), none, [], []⟩,
  ⟨some 8, .bin .lss (.slot 7) (.cst (.int .i64 0)), none, [], []⟩,
  ⟨some 9, .move (.slot 8), none, [], []⟩,
  ⟨some 10, .move (.slot 1), some (9, false), [], []⟩,
  ⟨some 11, .move (.slot 0), some (9, false), [], []⟩,
  ⟨some 12, .nilchk (.slot 11), some (9, false), [], []⟩,
  ⟨some 13, .fldAddr 1 (.slot 12), some (9, false), [], []⟩,
  ⟨some 14, .load1 (.slot 13), some (9, false), [], []⟩,
  ⟨some 15, .len (.slot 14), some (9, false), [], []⟩,
  ⟨some 16, .bin .geq (.slot 10) (.slot 15), some (9, false), [], []⟩,
  ⟨some 17, .pick (.slot 9) (.cst (.bool true)) (.slot 16), none, [], []⟩]
def C.catnapref9_File_Write_r1 : List IOper := C.catnapref9_File_Write_r1_b
theorem C.catnapref9_File_Write_r1_w {k : AFr → ASt → Prop} : aops P C.catnapref9_File_Write_r1 k fr st = aops P C.catnapref9_File_Write_r1_b k fr st := rfl
def C.catnapref9_File_Write_c5 : ICode := .keep [0, 1, 2] (.seq (.seq (.region C.catnapref9_File_Write_r1) C.catnapref9_File_Write_c4) C.catnapref9_File_Write_c2)
theorem C.catnapref9_File_Write_c5_w : awp P C.catnapref9_File_Write_c5 Q fr st = awp P (.keep [0, 1, 2] (.seq (.seq (.region C.catnapref9_File_Write_r1) C.catnapref9_File_Write_c4) C.catnapref9_File_Write_c2)) Q fr st := rfl
def C.catnapref9_File_Write_r0_b : List IOper := [
  ⟨some 6, .move (.cst (.int .i64 0)), none, [], []⟩]
def C.catnapref9_File_Write_r0 : List IOper := C.catnapref9_File_Write_r0_b
theorem C.catnapref9_File_Write_r0_w {k : AFr → ASt → Prop} : aops P C.catnapref9_File_Write_r0 k fr st = aops P C.catnapref9_File_Write_r0_b k fr st := rfl
def C.catnapref9_File_Write : IFunc := ⟨3, [.slot 6], .seq (.region C.catnapref9_File_Write_r0) C.catnapref9_File_Write_c5⟩
def C.catnapref9_File_Write_W := And.intro (And.intro (And.intro @C.catnapref9_File_Write_r4_w @C.catnapref9_File_Write_c1_w) (And.intro @C.catnapref9_File_Write_r3_w (And.intro @C.catnapref9_File_Write_c2_w @C.catnapref9_File_Write_r2_w))) (And.intro (And.intro @C.catnapref9_File_Write_c3_w @C.catnapref9_File_Write_c4_w) (And.intro @C.catnapref9_File_Write_r1_w (And.intro @C.catnapref9_File_Write_c5_w @C.catnapref9_File_Write_r0_w)))
def C.catnapref9_File_Write_B := And.intro (And.intro @C.catnapref9_File_Write_r4_b.eq_1 @C.catnapref9_File_Write_r3_b.eq_1) (And.intro @C.catnapref9_File_Write_r2_b.eq_1 (And.intro @C.catnapref9_File_Write_r1_b.eq_1 @C.catnapref9_File_Write_r0_b.eq_1))

def C.regs_File_Save_r3_b : List IOper := [
  ⟨some 7, .load1 (.slot 1), none, [], []⟩,
  ⟨some 8, .nilchk (.slot 7), none, [], []⟩,
  ⟨some 9, .fldAddr 3 (.slot 8), none, [], []⟩,
  ⟨none, .store1 (.slot 9) (.cst (.bool true)), none, [], []⟩]
def C.regs_File_Save_r3 : List IOper := C.regs_File_Save_r3_b
theorem C.regs_File_Save_r3_w {k : AFr → ASt → Prop} : aops P C.regs_File_Save_r3 k fr st = aops P C.regs_File_Save_r3_b k fr st := rfl
def C.regs_File_Save_c1 : ICode := .keep [1] (.region C.regs_File_Save_r3)
theorem C.regs_File_Save_c1_w : awp P C.regs_File_Save_c1 Q fr st = awp P (.keep [1] (.region C.regs_File_Save_r3)) Q fr st := rfl
def C.regs_File_Save_r2_b : List IOper := [
  ⟨some 4, .load1 (.slot 1), none, [], []⟩,
  ⟨some 5, .makeFunc F.regs_File_Save_1 [.slot 1], none, [], []⟩,
  ⟨some 6, .call F.regs_File_each [.slot 4, .slot 5], none, [], []⟩]
def C.regs_File_Save_r2 : List IOper := C.regs_File_Save_r2_b
theorem C.regs_File_Save_r2_w {k : AFr → ASt → Prop} : aops P C.regs_File_Save_r2 k fr st = aops P C.regs_File_Save_r2_b k fr st := rfl
def C.regs_File_Save_c2 : ICode := .keep [1] (.seq (.region C.regs_File_Save_r2) C.regs_File_Save_c1)
theorem C.regs_File_Save_c2_w : awp P C.regs_File_Save_c2 Q fr st = awp P (.keep [1] (.seq (.region C.regs_File_Save_r2) C.regs_File_Save_c1)) Q fr st := rfl
def C.regs_File_Save_c3 : ICode := .keep [1, 3] (.cond (.slot 3) .ret .skip)
theorem C.regs_File_Save_c3_w : awp P C.regs_File_Save_c3 Q fr st = awp P (.keep [1, 3] (.cond (.slot 3) .ret .skip)) Q fr st := rfl
def C.regs_File_Save_r1_b : List IOper := [
  ⟨some 2, .load1 (.slot 1), none, [], []⟩,
  ⟨some 3, .eqP 0 false (.slot 2) (.cst (.nilp)), none, [], []⟩]
def C.regs_File_Save_r1 : List IOper := C.regs_File_Save_r1_b
theorem C.regs_File_Save_r1_w {k : AFr → ASt → Prop} : aops P C.regs_File_Save_r1 k fr st = aops P C.regs_File_Save_r1_b k fr st := rfl
def C.regs_File_Save_c4 : ICode := .keep [1] (.seq (.seq (.region C.regs_File_Save_r1) C.regs_File_Save_c3) C.regs_File_Save_c2)
theorem C.regs_File_Save_c4_w : awp P C.regs_File_Save_c4 Q fr st = awp P (.keep [1] (.seq (.seq (.region C.regs_File_Save_r1) C.regs_File_Save_c3) C.regs_File_Save_c2)) Q fr st := rfl
def C.regs_File_Save_r0_b : List IOper := [
  ⟨some 1, .box1 (.slot 0), none, [], []⟩]
def C.regs_File_Save_r0 : List IOper := C.regs_File_Save_r0_b
theorem C.regs_File_Save_r0_w {k : AFr → ASt → Prop} : aops P C.regs_File_Save_r0 k fr st = aops P C.regs_File_Save_r0_b k fr st := rfl
def C.regs_File_Save : IFunc := ⟨1, [], .seq (.region C.regs_File_Save_r0) C.regs_File_Save_c4⟩
def C.regs_File_Save_W := And.intro (And.intro (And.intro @C.regs_File_Save_r3_w @C.regs_File_Save_c1_w) (And.intro @C.regs_File_Save_r2_w @C.regs_File_Save_c2_w)) (And.intro (And.intro @C.regs_File_Save_c3_w @C.regs_File_Save_r1_w) (And.intro @C.regs_File_Save_c4_w @C.regs_File_Save_r0_w))
def C.regs_File_Save_B := And.intro (And.intro @C.regs_File_Save_r3_b.eq_1 @C.regs_File_Save_r2_b.eq_1) (And.intro @C.regs_File_Save_r1_b.eq_1 @C.regs_File_Save_r0_b.eq_1)

def C.catnapref9_File_Save_r1_b : List IOper := [
  ⟨some 11, .move (.slot 0), none, [], []⟩,
  ⟨some 12, .nilchk (.slot 11), none, [], []⟩,
  ⟨some 13, .fldAddr 3 (.slot 12), none, [], []⟩,
  ⟨none, .store1 (.slot 13) (.cst (.bool true)), none, [], []⟩]
def C.catnapref9_File_Save_r1 : List IOper := C.catnapref9_File_Save_r1_b
theorem C.catnapref9_File_Save_r1_w {k : AFr → ASt → Prop} : aops P C.catnapref9_File_Save_r1 k fr st = aops P C.catnapref9_File_Save_r1_b k fr st := rfl
def C.catnapref9_File_Save_c1 : ICode := .keep [0] (.region C.catnapref9_File_Save_r1)
theorem C.catnapref9_File_Save_c1_w : awp P C.catnapref9_File_Save_c1 Q fr st = awp P (.keep [0] (.region C.catnapref9_File_Save_r1)) Q fr st := rfl
def C.catnapref9_File_Save_r0_b : List IOper := [
  ⟨some 2, .move (.slot 0), none, [], []⟩,
  ⟨some 3, .buildSlice 1 0 [.int .u32 0] [], none, [], []⟩,
  ⟨some 4, .move (.slot 0), none, [], []⟩,
  ⟨some 5, .nilchk (.slot 4), none, [], []⟩,
  ⟨some 6, .fldAddr 1 (.slot 5), none, [], []⟩,
  ⟨some 7, .load1 (.slot 6), none, [], []⟩,
  ⟨some 8, .append 1 4 (.slot 3) (.slot 7), none, [], []⟩,
  ⟨some 9, .nilchk (.slot 2), none, [], []⟩,
  ⟨some 10, .fldAddr 2 (.slot 9), none, [], []⟩,
  ⟨none, .store1 (.slot 10) (.slot 8), none, [], []⟩]
def C.catnapref9_File_Save_r0 : List IOper := C.catnapref9_File_Save_r0_b
theorem C.catnapref9_File_Save_r0_w {k : AFr → ASt → Prop} : aops P C.catnapref9_File_Save_r0 k fr st = aops P C.catnapref9_File_Save_r0_b k fr st := rfl
def C.catnapref9_File_Save : IFunc := ⟨1, [], .seq (.region C.catnapref9_File_Save_r0) C.catnapref9_File_Save_c1⟩
def C.catnapref9_File_Save_W := And.intro @C.catnapref9_File_Save_r1_w (And.intro @C.catnapref9_File_Save_c1_w @C.catnapref9_File_Save_r0_w)
def C.catnapref9_File_Save_B := And.intro @C.catnapref9_File_Save_r1_b.eq_1 @C.catnapref9_File_Save_r0_b.eq_1

def C.regs_File_Restore_r2_b : List IOper := [
  ⟨some 4, .load1 (.slot 1), none, [], []⟩,
  ⟨some 5, .makeFunc F.regs_File_Restore_1 [.slot 1], none, [], []⟩,
  ⟨some 6, .call F.regs_File_become [.slot 4, .slot 5], none, [], []⟩]
def C.regs_File_Restore_r2 : List IOper := C.regs_File_Restore_r2_b
theorem C.regs_File_Restore_r2_w {k : AFr → ASt → Prop} : aops P C.regs_File_Restore_r2 k fr st = aops P C.regs_File_Restore_r2_b k fr st := rfl
def C.regs_File_Restore_c1 : ICode := .keep [1] (.region C.regs_File_Restore_r2)
theorem C.regs_File_Restore_c1_w : awp P C.regs_File_Restore_c1 Q fr st = awp P (.keep [1] (.region C.regs_File_Restore_r2)) Q fr st := rfl
def C.regs_File_Restore_c2 : ICode := .keep [1, 3] (.cond (.slot 3) .ret .skip)
theorem C.regs_File_Restore_c2_w : awp P C.regs_File_Restore_c2 Q fr st = awp P (.keep [1, 3] (.cond (.slot 3) .ret .skip)) Q fr st := rfl
def C.regs_File_Restore_r1_b : List IOper := [
  ⟨some 2, .load1 (.slot 1), none, [], []⟩,
  ⟨some 3, .eqP 0 false (.slot 2) (.cst (.nilp)), none, [], []⟩]
def C.regs_File_Restore_r1 : List IOper := C.regs_File_Restore_r1_b
theorem C.regs_File_Restore_r1_w {k : AFr → ASt → Prop} : aops P C.regs_File_Restore_r1 k fr st = aops P C.regs_File_Restore_r1_b k fr st := rfl
def C.regs_File_Restore_c3 : ICode := .keep [1] (.seq (.seq (.region C.regs_File_Restore_r1) C.regs_File_Restore_c2) C.regs_File_Restore_c1)
theorem C.regs_File_Restore_c3_w : awp P C.regs_File_Restore_c3 Q fr st = awp P (.keep [1] (.seq (.seq (.region C.regs_File_Restore_r1) C.regs_File_Restore_c2) C.regs_File_Restore_c1)) Q fr st := rfl
def C.regs_File_Restore_r0_b : List IOper := [
  ⟨some 1, .box1 (.slot 0), none, [], []⟩]
def C.regs_File_Restore_r0 : List IOper := C.regs_File_Restore_r0_b
theorem C.regs_File_Restore_r0_w {k : AFr → ASt → Prop} : aops P C.regs_File_Restore_r0 k fr st = aops P C.regs_File_Restore_r0_b k fr st := rfl
def C.regs_File_Restore : IFunc := ⟨1, [], .seq (.region C.regs_File_Restore_r0) C.regs_File_Restore_c3⟩
def C.regs_File_Restore_W := And.intro (And.intro @C.regs_File_Restore_r2_w (And.intro @C.regs_File_Restore_c1_w @C.regs_File_Restore_c2_w)) (And.intro @C.regs_File_Restore_r1_w (And.intro @C.regs_File_Restore_c3_w @C.regs_File_Restore_r0_w))
def C.regs_File_Restore_B := And.intro @C.regs_File_Restore_r2_b.eq_1 (And.intro @C.regs_File_Restore_r1_b.eq_1 @C.regs_File_Restore_r0_b.eq_1)

def C.catnapref9_File_Restore_r2_b : List IOper := [
  ⟨some 10, .move (.slot 2), none, [], []⟩,
  ⟨some 11, .bin .add (.slot 10) (.cst (.int .i64 1)), none, [], []⟩,
  ⟨some 2, .move (.slot 11), none, [], []⟩]
def C.catnapref9_File_Restore_r2 : List IOper := C.catnapref9_File_Restore_r2_b
theorem C.catnapref9_File_Restore_r2_w {k : AFr → ASt → Prop} : aops P C.catnapref9_File_Restore_r2 k fr st = aops P C.catnapref9_File_Restore_r2_b k fr st := rfl
def C.catnapref9_File_Restore_c1 : ICode := .keep [0, 2] (.region C.catnapref9_File_Restore_r2)
theorem C.catnapref9_File_Restore_c1_w : awp P C.catnapref9_File_Restore_c1 Q fr st = awp P (.keep [0, 2] (.region C.catnapref9_File_Restore_r2)) Q fr st := rfl
def C.catnapref9_File_Restore_r5_b : List IOper := [
  ⟨some 40, .move (.slot 0), none, [], []⟩,
  ⟨some 41, .nilchk (.slot 40), none, [], []⟩,
  ⟨some 42, .fldAddr 1 (.slot 41), none, [], []⟩,
  ⟨some 43, .load1 (.slot 42), none, [], []⟩,
  ⟨some 44, .move (.slot 2), none, [], []⟩,
  ⟨some 45, .move (.slot 0), none, [], []⟩,
  ⟨some 46, .nilchk (.slot 45), none, [], []⟩,
  ⟨some 47, .fldAddr 2 (.slot 46), none, [], []⟩,
  ⟨some 48, .load1 (.slot 47), none, [], []⟩,
  ⟨some 49, .move (.slot 2), none, [], []⟩,
  ⟨some 50, .idxAddr 1 (.slot 48) (.slot 49), none, [], []⟩,
  ⟨some 51, .load1 (.slot 50), none, [], []⟩,
  ⟨some 52, .idxAddr 1 (.slot 43) (.slot 44), none, [], []⟩,
  ⟨none, .store1 (.slot 52) (.slot 51), none, [], []⟩]
def C.catnapref9_File_Restore_r5 : List IOper := C.catnapref9_File_Restore_r5_b
theorem C.catnapref9_File_Restore_r5_w {k : AFr → ASt → Prop} : aops P C.catnapref9_File_Restore_r5 k fr st = aops P C.catnapref9_File_Restore_r5_b k fr st := rfl
def C.catnapref9_File_Restore_c2 : ICode := .region C.catnapref9_File_Restore_r5
theorem C.catnapref9_File_Restore_c2_w : awp P C.catnapref9_File_Restore_c2 Q fr st = awp P (.region C.catnapref9_File_Restore_r5) Q fr st := rfl
def C.catnapref9_File_Restore_c3 : ICode := .keep [0, 2, 39] (.cond (.slot 39) C.catnapref9_File_Restore_c2 .skip)
theorem C.catnapref9_File_Restore_c3_w : awp P C.catnapref9_File_Restore_c3 Q fr st = awp P (.keep [0, 2, 39] (.cond (.slot 39) C.catnapref9_File_Restore_c2 .skip)) Q fr st := rfl
def C.catnapref9_File_Restore_r4_b : List IOper := [
  ⟨some 26, .move (.slot 0), none, [], []⟩,
  ⟨some 27, .nilchk (.slot 26), none, [], []⟩,
  ⟨some 28, .fldAddr 3 (.slot 27), none, [], []⟩,
  ⟨some 29, .load1 (.slot 28), none, [], []⟩,
  ⟨some 30, .move (.slot 29), none, [], []⟩,
  ⟨some 31, .move (.slot 0), some (30, true), [], []⟩,
  ⟨some 32, .nilchk (.slot 31), some (30, true), [], []⟩,
  ⟨some 33, .fldAddr 0 (.slot 32), some (30, true), [], []⟩,
  ⟨some 34, .load1 (.slot 33), some (30, true), [], []⟩,
  ⟨some 35, .move (.slot 2), some (30, true), [], []⟩,
  ⟨some 36, .idxAddr 2 (.slot 34) (.slot 35), some (30, true), [], []⟩,
  ⟨some 37, .fldAddr 1 (.slot 36), some (30, true), [], []⟩,
  ⟨some 38, .load1 (.slot 37), some (30, true), [], []⟩,
  ⟨some 39, .pick (.slot 30) (.slot 38) (.cst (.bool false)), none, [], []⟩]
def C.catnapref9_File_Restore_r4 : List IOper := C.catnapref9_File_Restore_r4_b
theorem C.catnapref9_File_Restore_r4_w {k : AFr → ASt → Prop} : aops P C.catnapref9_File_Restore_r4 k fr st = aops P C.catnapref9_File_Restore_r4_b k fr st := rfl
def C.catnapref9_File_Restore_c4 : ICode := .keep [0, 2] (.seq (.region C.catnapref9_File_Restore_r4) C.catnapref9_File_Restore_c3)
theorem C.catnapref9_File_Restore_c4_w : awp P C.catnapref9_File_Restore_c4 Q fr st = awp P (.keep [0, 2] (.seq (.region C.catnapref9_File_Restore_r4) C.catnapref9_File_Restore_c3)) Q fr st := rfl
def C.catnapref9_File_Restore_r3_b : List IOper := [
  ⟨some 12, .move (.slot 0), none, [], []⟩,
  ⟨some 13, .nilchk (.slot 12), none, [], []⟩,
  ⟨some 14, .fldAddr 1 (.slot 13), none, [], []⟩,
  ⟨some 15, .load1 (.slot 14), none, [], []⟩,
  ⟨some 16, .move (.slot 2), none, [], []⟩,
  ⟨some 17, .move (.slot 0), none, [], []⟩,
  ⟨some 18, .nilchk (.slot 17), none, [], []⟩,
  ⟨some 19, .fldAddr 0 (.slot 18), none, [], []⟩,
  ⟨some 20, .load1 (.slot 19), none, [], []⟩,
  ⟨some 21, .move (.slot 2), none, [], []⟩,
  ⟨some 22, .idxAddr 2 (.slot 20) (.slot 21), none, [], []⟩,
  ⟨some 23, .fldAddr 0 (.slot 22), none, [], []⟩,
  ⟨some 24, .load1 (.slot 23), none, [], []⟩,
  ⟨some 25, .idxAddr 1 (.slot 15) (.slot 16), none, [], []⟩,
  ⟨none, .store1 (.slot 25) (.slot 24), none, [], []⟩]
def C.catnapref9_File_Restore_r3 : List IOper := C.catnapref9_File_Restore_r3_b
theorem C.catnapref9_File_Restore_r3_w {k : AFr → ASt → Prop} : aops P C.catnapref9_File_Restore_r3 k fr st = aops P C.catnapref9_File_Restore_r3_b k fr st := rfl
def C.catnapref9_File_Restore_b5 : ICode := .seq (.region C.catnapref9_File_Restore_r3) C.catnapref9_File_Restore_c4
theorem C.catnapref9_File_Restore_b5_w : awp P C.catnapref9_File_Restore_b5 Q fr st = awp P (.seq (.region C.catnapref9_File_Restore_r3) C.catnapref9_File_Restore_c4) Q fr st := rfl
def C.catnapref9_File_Restore_c6 : ICode := .keep [0, 2] (.seq (.block 1 C.catnapref9_File_Restore_b5) C.catnapref9_File_Restore_c1)
theorem C.catnapref9_File_Restore_c6_w : awp P C.catnapref9_File_Restore_c6 Q fr st = awp P (.keep [0, 2] (.seq (.block 1 C.catnapref9_File_Restore_b5) C.catnapref9_File_Restore_c1)) Q fr st := rfl
def C.catnapref9_File_Restore_c7 : ICode := .keep [0, 2, 9] (.cond (.slot 9) .skip (.exit 0))
theorem C.catnapref9_File_Restore_c7_w : awp P C.catnapref9_File_Restore_c7 Q fr st = awp P (.keep [0, 2, 9] (.cond (.slot 9) .skip (.exit 0))) Q fr st := rfl
def C.catnapref9_File_Restore_r1_b : List IOper := [
  ⟨some 3, .move (.slot 2), none, [], []⟩,
  ⟨some 4, .move (.slot 0), none, [], []⟩,
  ⟨some 5, .nilchk (.slot 4), none, [], []⟩,
  ⟨some 6, .fldAddr 0 (.slot 5), none, [], []⟩,
  ⟨some 7, .load1 (.slot 6), none, [], []⟩,
  ⟨some 8, .len (.slot 7), none, [], []⟩,
  ⟨some 9, .bin .lss (.slot 3) (.slot 8), none, [], []⟩]
def C.catnapref9_File_Restore_r1 : List IOper := C.catnapref9_File_Restore_r1_b
theorem C.catnapref9_File_Restore_r1_w {k : AFr → ASt → Prop} : aops P C.catnapref9_File_Restore_r1 k fr st = aops P C.catnapref9_File_Restore_r1_b k fr st := rfl
def C.catnapref9_File_Restore_l8 : ICode := .keep [0, 2] (.seq (.seq (.region C.catnapref9_File_Restore_r1) C.catnapref9_File_Restore_c7) C.catnapref9_File_Restore_c6)
theorem C.catnapref9_File_Restore_l8_w : awp P C.catnapref9_File_Restore_l8 Q fr st = awp P (.keep [0, 2] (.seq (.seq (.region C.catnapref9_File_Restore_r1) C.catnapref9_File_Restore_c7) C.catnapref9_File_Restore_c6)) Q fr st := rfl
def C.catnapref9_File_Restore_b9 : ICode := .loop C.catnapref9_File_Restore_l8
theorem C.catnapref9_File_Restore_b9_w : awp P C.catnapref9_File_Restore_b9 Q fr st = awp P (.loop C.catnapref9_File_Restore_l8) Q fr st := rfl
def C.catnapref9_File_Restore_c10 : ICode := .keep [0, 2] (.block 0 C.catnapref9_File_Restore_b9)
theorem C.catnapref9_File_Restore_c10_w : awp P C.catnapref9_File_Restore_c10 Q fr st = awp P (.keep [0, 2] (.block 0 C.catnapref9_File_Restore_b9)) Q fr st := rfl
def C.catnapref9_File_Restore_r0_b : List IOper := [
  ⟨some 2, .move (.cst (.int .i64 0)), none, [], []⟩]
def C.catnapref9_File_Restore_r0 : List IOper := C.catnapref9_File_Restore_r0_b
theorem C.catnapref9_File_Restore_r0_w {k : AFr → ASt → Prop} : aops P C.catnapref9_File_Restore_r0 k fr st = aops P C.catnapref9_File_Restore_r0_b k fr st := rfl
def C.catnapref9_File_Restore : IFunc := ⟨1, [], .seq (.region C.catnapref9_File_Restore_r0) C.catnapref9_File_Restore_c10⟩
def C.catnapref9_File_Restore_W := And.intro (And.intro (And.intro @C.catnapref9_File_Restore_r2_w (And.intro @C.catnapref9_File_Restore_c1_w @C.catnapref9_File_Restore_r5_w)) (And.intro (And.intro @C.catnapref9_File_Restore_c2_w @C.catnapref9_File_Restore_c3_w) (And.intro @C.catnapref9_File_Restore_r4_w @C.catnapref9_File_Restore_c4_w))) (And.intro (And.intro (And.intro @C.catnapref9_File_Restore_r3_w @C.catnapref9_File_Restore_b5_w) (And.intro @C.catnapref9_File_Restore_c6_w @C.catnapref9_File_Restore_c7_w)) (And.intro (And.intro @C.catnapref9_File_Restore_r1_w @C.catnapref9_File_Restore_b9_w) (And.intro @C.catnapref9_File_Restore_c10_w @C.catnapref9_File_Restore_r0_w)))
def C.catnapref9_File_Restore_B := And.intro (And.intro @C.catnapref9_File_Restore_r2_b.eq_1 (And.intro @C.catnapref9_File_Restore_r5_b.eq_1 @C.catnapref9_File_Restore_r4_b.eq_1)) (And.intro @C.catnapref9_File_Restore_r3_b.eq_1 (And.intro @C.catnapref9_File_Restore_r1_b.eq_1 @C.catnapref9_File_Restore_r0_b.eq_1))

def C.regs_File_Clear_r2_b : List IOper := [
  ⟨some 6, .move (.slot 0), none, [], []⟩,
  ⟨some 7, .nilchk (.slot 6), none, [], []⟩,
  ⟨some 8, .fldAddr 3 (.slot 7), none, [], []⟩,
  ⟨none, .store1 (.slot 8) (.cst (.bool false)), none, [], []⟩]
def C.regs_File_Clear_r2 : List IOper := C.regs_File_Clear_r2_b
theorem C.regs_File_Clear_r2_w {k : AFr → ASt → Prop} : aops P C.regs_File_Clear_r2 k fr st = aops P C.regs_File_Clear_r2_b k fr st := rfl
def C.regs_File_Clear_c1 : ICode := .keep [0] (.region C.regs_File_Clear_r2)
theorem C.regs_File_Clear_c1_w : awp P C.regs_File_Clear_c1 Q fr st = awp P (.keep [0] (.region C.regs_File_Clear_r2)) Q fr st := rfl
def C.regs_File_Clear_r1_b : List IOper := [
  ⟨some 4, .move (.slot 0), none, [], []⟩,
  ⟨some 5, .call F.regs_File_become [.slot 4, .fnc F.regs_File_Clear_1], none, [], []⟩]
def C.regs_File_Clear_r1 : List IOper := C.regs_File_Clear_r1_b
theorem C.regs_File_Clear_r1_w {k : AFr → ASt → Prop} : aops P C.regs_File_Clear_r1 k fr st = aops P C.regs_File_Clear_r1_b k fr st := rfl
def C.regs_File_Clear_c2 : ICode := .keep [0] (.seq (.region C.regs_File_Clear_r1) C.regs_File_Clear_c1)
theorem C.regs_File_Clear_c2_w : awp P C.regs_File_Clear_c2 Q fr st = awp P (.keep [0] (.seq (.region C.regs_File_Clear_r1) C.regs_File_Clear_c1)) Q fr st := rfl
def C.regs_File_Clear_c3 : ICode := .keep [0, 3] (.cond (.slot 3) .ret .skip)
theorem C.regs_File_Clear_c3_w : awp P C.regs_File_Clear_c3 Q fr st = awp P (.keep [0, 3] (.cond (.slot 3) .ret .skip)) Q fr st := rfl
def C.regs_File_Clear_r0_b : List IOper := [
  ⟨some 2, .move (.slot 0), none, [], []⟩,
  ⟨some 3, .eqP 0 false (.slot 2) (.cst (.nilp)), none, [], []⟩]
def C.regs_File_Clear_r0 : List IOper := C.regs_File_Clear_r0_b
theorem C.regs_File_Clear_r0_w {k : AFr → ASt → Prop} : aops P C.regs_File_Clear_r0 k fr st = aops P C.regs_File_Clear_r0_b k fr st := rfl
def C.regs_File_Clear : IFunc := ⟨1, [], .seq (.seq (.region C.regs_File_Clear_r0) C.regs_File_Clear_c3) C.regs_File_Clear_c2⟩
def C.regs_File_Clear_W := And.intro (And.intro @C.regs_File_Clear_r2_w (And.intro @C.regs_File_Clear_c1_w @C.regs_File_Clear_r1_w)) (And.intro @C.regs_File_Clear_c2_w (And.intro @C.regs_File_Clear_c3_w @C.regs_File_Clear_r0_w))
def C.regs_File_Clear_B := And.intro @C.regs_File_Clear_r2_b.eq_1 (And.intro @C.regs_File_Clear_r1_b.eq_1 @C.regs_File_Clear_r0_b.eq_1)

def C.catnapref9_File_Clear_r6_b : List IOper := [
  ⟨some 35, .move (.slot 0), none, [], []⟩,
  ⟨some 36, .nilchk (.slot 35), none, [], []⟩,
  ⟨some 37, .fldAddr 3 (.slot 36), none, [], []⟩,
  ⟨none, .store1 (.slot 37) (.cst (.bool false)), none, [], []⟩]
def C.catnapref9_File_Clear_r6 : List IOper := C.catnapref9_File_Clear_r6_b
theorem C.catnapref9_File_Clear_r6_w {k : AFr → ASt → Prop} : aops P C.catnapref9_File_Clear_r6 k fr st = aops P C.catnapref9_File_Clear_r6_b k fr st := rfl
def C.catnapref9_File_Clear_c1 : ICode := .keep [0] (.region C.catnapref9_File_Clear_r6)
theorem C.catnapref9_File_Clear_c1_w : awp P C.catnapref9_File_Clear_c1 Q fr st = awp P (.keep [0] (.region C.catnapref9_File_Clear_r6)) Q fr st := rfl
def C.catnapref9_File_Clear_r5_b : List IOper := [
  ⟨some 32, .move (.slot 0), none, [], []⟩,
  ⟨some 33, .nilchk (.slot 32), none, [], []⟩,
  ⟨some 34, .fldAddr 2 (.slot 33), none, [], []⟩,
  ⟨none, .store1 (.slot 34) (.cst (.nils)), none, [], []⟩]
def C.catnapref9_File_Clear_r5 : List IOper := C.catnapref9_File_Clear_r5_b
theorem C.catnapref9_File_Clear_r5_w {k : AFr → ASt → Prop} : aops P C.catnapref9_File_Clear_r5 k fr st = aops P C.catnapref9_File_Clear_r5_b k fr st := rfl
def C.catnapref9_File_Clear_c2 : ICode := .keep [0] (.seq (.region C.catnapref9_File_Clear_r5) C.catnapref9_File_Clear_c1)
theorem C.catnapref9_File_Clear_c2_w : awp P C.catnapref9_File_Clear_c2 Q fr st = awp P (.keep [0] (.seq (.region C.catnapref9_File_Clear_r5) C.catnapref9_File_Clear_c1)) Q fr st := rfl
def C.catnapref9_File_Clear_r3_b : List IOper := [
  ⟨some 13, .move (.slot 2), none, [], []⟩,
  ⟨some 14, .bin .add (.slot 13) (.cst (.int .i64 1)), none, [], []⟩,
  ⟨some 2, .move (.slot 14), none, [], []⟩]
def C.catnapref9_File_Clear_r3 : List IOper := C.catnapref9_File_Clear_r3_b
theorem C.catnapref9_File_Clear_r3_w {k : AFr → ASt → Prop} : aops P C.catnapref9_File_Clear_r3 k fr st = aops P C.catnapref9_File_Clear_r3_b k fr st := rfl
def C.catnapref9_File_Clear_c3 : ICode := .keep [0, 2] (.region C.catnapref9_File_Clear_r3)
theorem C.catnapref9_File_Clear_c3_w : awp P C.catnapref9_File_Clear_c3 Q fr st = awp P (.keep [0, 2] (.region C.catnapref9_File_Clear_r3)) Q fr st := rfl
def C.catnapref9_File_Clear_r4_b : List IOper := [
  ⟨some 15, .move (.slot 0), none, [], []⟩,
  ⟨some 16, .move (.slot 0), none, [], []⟩,
  ⟨some 17, .nilchk (.slot 16), none, [], []⟩,
  ⟨some 18, .fldAddr 1 (.slot 17), none, [], []⟩,
  ⟨some 19, .load1 (.slot 18), none, [], []⟩,
  ⟨some 20, .move (.slot 0), none, [], []⟩,
  ⟨some 21, .nilchk (.slot 20), none, [], []⟩,
  ⟨some 22, .fldAddr 0 (.slot 21), none, [], []⟩,
  ⟨some 23, .load1 (.slot 22), none, [], []⟩,
  ⟨some 24, .move (.slot 2), none, [], []⟩,
  ⟨some 25, .idxAddr 2 (.slot 23) (.slot 24), none, [], []⟩,
  ⟨some 26, .fldAddr 0 (.slot 25), none, [], []⟩,
  ⟨some 27, .load1 (.slot 26), none, [], []⟩,
  ⟨some 28, .buildSlice 1 1 [.int .u32 0] [(0, 1, .slot 27)], none, [], []⟩,
  ⟨some 29, .append 1 4 (.slot 19) (.slot 28), none, [], []⟩,
  ⟨some 30, .nilchk (.slot 15), none, [], []⟩,
  ⟨some 31, .fldAddr 1 (.slot 30), none, [], []⟩,
  ⟨none, .store1 (.slot 31) (.slot 29), none, [], []⟩]
def C.catnapref9_File_Clear_r4 : List IOper := C.catnapref9_File_Clear_r4_b
theorem C.catnapref9_File_Clear_r4_w {k : AFr → ASt → Prop} : aops P C.catnapref9_File_Clear_r4 k fr st = aops P C.catnapref9_File_Clear_r4_b k fr st := rfl
def C.catnapref9_File_Clear_b4 : ICode := .region C.catnapref9_File_Clear_r4
theorem C.catnapref9_File_Clear_b4_w : awp P C.catnapref9_File_Clear_b4 Q fr st = awp P (.region C.catnapref9_File_Clear_r4) Q fr st := rfl
def C.catnapref9_File_Clear_c5 : ICode := .keep [0, 2] (.seq (.block 1 C.catnapref9_File_Clear_b4) C.catnapref9_File_Clear_c3)
theorem C.catnapref9_File_Clear_c5_w : awp P C.catnapref9_File_Clear_c5 Q fr st = awp P (.keep [0, 2] (.seq (.block 1 C.catnapref9_File_Clear_b4) C.catnapref9_File_Clear_c3)) Q fr st := rfl
def C.catnapref9_File_Clear_c6 : ICode := .keep [0, 2, 12] (.cond (.slot 12) .skip (.exit 0))
theorem C.catnapref9_File_Clear_c6_w : awp P C.catnapref9_File_Clear_c6 Q fr st = awp P (.keep [0, 2, 12] (.cond (.slot 12) .skip (.exit 0))) Q fr st := rfl
def C.catnapref9_File_Clear_r2_b : List IOper := [
  ⟨some 6, .move (.slot 2), none, [], []⟩,
  ⟨some 7, .move (.slot 0), none, [], []⟩,
  ⟨some 8, .nilchk (.slot 7), none, [], []⟩,
  ⟨some 9, .fldAddr 0 (.slot 8), none, [], []⟩,
  ⟨some 10, .load1 (.slot 9), none, [], []⟩,
  ⟨some 11, .len (.slot 10), none, [], []⟩,
  ⟨some 12, .bin .lss (.slot 6) (.slot 11), none, [], []⟩]
def C.catnapref9_File_Clear_r2 : List IOper := C.catnapref9_File_Clear_r2_b
theorem C.catnapref9_File_Clear_r2_w {k : AFr → ASt → Prop} : aops P C.catnapref9_File_Clear_r2 k fr st = aops P C.catnapref9_File_Clear_r2_b k fr st := rfl
def C.catnapref9_File_Clear_l7 : ICode := .keep [0, 2] (.seq (.seq (.region C.catnapref9_File_Clear_r2) C.catnapref9_File_Clear_c6) C.catnapref9_File_Clear_c5)
theorem C.catnapref9_File_Clear_l7_w : awp P C.catnapref9_File_Clear_l7 Q fr st = awp P (.keep [0, 2] (.seq (.seq (.region C.catnapref9_File_Clear_r2) C.catnapref9_File_Clear_c6) C.catnapref9_File_Clear_c5)) Q fr st := rfl
def C.catnapref9_File_Clear_b8 : ICode := .loop C.catnapref9_File_Clear_l7
theorem C.catnapref9_File_Clear_b8_w : awp P C.catnapref9_File_Clear_b8 Q fr st = awp P (.loop C.catnapref9_File_Clear_l7) Q fr st := rfl
def C.catnapref9_File_Clear_c9 : ICode := .keep [0, 2] (.block 0 C.catnapref9_File_Clear_b8)
theorem C.catnapref9_File_Clear_c9_w : awp P C.catnapref9_File_Clear_c9 Q fr st = awp P (.keep [0, 2] (.block 0 C.catnapref9_File_Clear_b8)) Q fr st := rfl
def C.catnapref9_File_Clear_r1_b : List IOper := [
  ⟨some 2, .move (.cst (.int .i64 0)), none, [], []⟩]
def C.catnapref9_File_Clear_r1 : List IOper := C.catnapref9_File_Clear_r1_b
theorem C.catnapref9_File_Clear_r1_w {k : AFr → ASt → Prop} : aops P C.catnapref9_File_Clear_r1 k fr st = aops P C.catnapref9_File_Clear_r1_b k fr st := rfl
def C.catnapref9_File_Clear_c10 : ICode := .keep [0] (.seq (.seq (.region C.catnapref9_File_Clear_r1) C.catnapref9_File_Clear_c9) C.catnapref9_File_Clear_c2)
theorem C.catnapref9_File_Clear_c10_w : awp P C.catnapref9_File_Clear_c10 Q fr st = awp P (.keep [0] (.seq (.seq (.region C.catnapref9_File_Clear_r1) C.catnapref9_File_Clear_c9) C.catnapref9_File_Clear_c2)) Q fr st := rfl
def C.catnapref9_File_Clear_r0_b : List IOper := [
  ⟨some 3, .move (.slot 0), none, [], []⟩,
  ⟨some 4, .nilchk (.slot 3), none, [], []⟩,
  ⟨some 5, .fldAddr 1 (.slot 4), none, [], []⟩,
  ⟨none, .store1 (.slot 5) (.cst (.nils)), none, [], []⟩]
def C.catnapref9_File_Clear_r0 : List IOper := C.catnapref9_File_Clear_r0_b
theorem C.catnapref9_File_Clear_r0_w {k : AFr → ASt → Prop} : aops P C.catnapref9_File_Clear_r0 k fr st = aops P C.catnapref9_File_Clear_r0_b k fr st := rfl
def C.catnapref9_File_Clear : IFunc := ⟨1, [], .seq (.region C.catnapref9_File_Clear_r0) C.catnapref9_File_Clear_c10⟩
def C.catnapref9_File_Clear_W := And.intro (And.intro (And.intro (And.intro @C.catnapref9_File_Clear_r6_w @C.catnapref9_File_Clear_c1_w) (And.intro @C.catnapref9_File_Clear_r5_w @C.catnapref9_File_Clear_c2_w)) (And.intro (And.intro @C.catnapref9_File_Clear_r3_w @C.catnapref9_File_Clear_c3_w) (And.intro @C.catnapref9_File_Clear_r4_w @C.catnapref9_File_Clear_b4_w))) (And.intro (And.intro (And.intro @C.catnapref9_File_Clear_c5_w @C.catnapref9_File_Clear_c6_w) (And.intro @C.catnapref9_File_Clear_r2_w @C.catnapref9_File_Clear_b8_w)) (And.intro (And.intro @C.catnapref9_File_Clear_c9_w @C.catnapref9_File_Clear_r1_w) (And.intro @C.catnapref9_File_Clear_c10_w @C.catnapref9_File_Clear_r0_w)))
def C.catnapref9_File_Clear_B := And.intro (And.intro @C.catnapref9_File_Clear_r6_b.eq_1 (And.intro @C.catnapref9_File_Clear_r5_b.eq_1 @C.catnapref9_File_Clear_r3_b.eq_1)) (And.intro (And.intro @C.catnapref9_File_Clear_r4_b.eq_1 @C.catnapref9_File_Clear_r2_b.eq_1) (And.intro @C.catnapref9_File_Clear_r1_b.eq_1 @C.catnapref9_File_Clear_r0_b.eq_1))

def C.regs_File_Read_r3_b : List IOper := [
  ⟨some 14, .move (.slot 0), none, [], []⟩,
  ⟨some 15, .nilchk (.slot 14), none, [], []⟩,
  ⟨some 16, .fldAddr 1 (.slot 15), none, [], []⟩,
  ⟨some 17, .load1 (.slot 16), none, [], []⟩,
  ⟨some 18, .move (.slot 1), none, [], []⟩,
  ⟨some 19, .idxAddr 1 (.slot 17) (.slot 18), none, [], []⟩,
  ⟨some 20, .load1 (.slot 19), none, [], []⟩,
  ⟨some 4, .move (.slot 20), none, [], []⟩,
  ⟨some 5, .move (.cst (.int .i64 0)), none, [], []⟩]
def C.regs_File_Read_r3 : List IOper := C.regs_File_Read_r3_b
theorem C.regs_File_Read_r3_w {k : AFr → ASt → Prop} : aops P C.regs_File_Read_r3 k fr st = aops P C.regs_File_Read_r3_b k fr st := rfl
def C.regs_File_Read_c1 : ICode := .keep [0, 1] (.seq (.region C.regs_File_Read_r3) .ret)
theorem C.regs_File_Read_c1_w : awp P C.regs_File_Read_c1 Q fr st = awp P (.keep [0, 1] (.seq (.region C.regs_File_Read_r3) .ret)) Q fr st := rfl
def C.regs_File_Read_r2_b : List IOper := [
  ⟨some 4, .move (.cst (.int .u32 0)), none, [], []⟩,
  ⟨some 5, .move (.cst (.int .i64 4)), none, [], []⟩]
def C.regs_File_Read_r2 : List IOper := C.regs_File_Read_r2_b
theorem C.regs_File_Read_r2_w {k : AFr → ASt → Prop} : aops P C.regs_File_Read_r2 k fr st = aops P C.regs_File_Read_r2_b k fr st := rfl
def C.regs_File_Read_c2 : ICode := .seq (.region C.regs_File_Read_r2) .ret
theorem C.regs_File_Read_c2_w : awp P C.regs_File_Read_c2 Q fr st = awp P (.seq (.region C.regs_File_Read_r2) .ret) Q fr st := rfl
def C.regs_File_Read_c3 : ICode := .keep [0, 1, 13] (.cond (.slot 13) C.regs_File_Read_c2 .skip)
theorem C.regs_File_Read_c3_w : awp P C.regs_File_Read_c3 Q fr st = awp P (.keep [0, 1, 13] (.cond (.slot 13) C.regs_File_Read_c2 .skip)) Q fr st := rfl
def C.regs_File_Read_r1_b : List IOper := [
  ⟨some 6, .move (.slot 1), none, [], []⟩,
  ⟨some 7, .bin .lss (.slot 6) (.cst (.int .i64 0)), none, [], []⟩,
  ⟨some 8, .move (.slot 7), none, [], []⟩,
  ⟨some 9, .move (.slot 1), some (8, false), [], []⟩,
  ⟨some 10, .move (.slot 0), some (8, false), [], []⟩,
  ⟨some 11, .call F.regs_File_Many [.slot 10], some (8, false), [], []⟩,
  ⟨some 12, .bin .geq (.slot 9) (.slot 11), some (8, false), [], []⟩,
  ⟨some 13, .pick (.slot 8) (.cst (.bool true)) (.slot 12), none, [], []⟩]
def C.regs_File_Read_r1 : List IOper := C.regs_File_Read_r1_b
theorem C.regs_File_Read_r1_w {k : AFr → ASt → Prop} : aops P C.regs_File_Read_r1 k fr st = aops P C.regs_File_Read_r1_b k fr st := rfl
def C.regs_File_Read_c4 : ICode := .keep [0, 1] (.seq (.seq (.region C.regs_File_Read_r1) C.regs_File_Read_c3) C.regs_File_Read_c1)
theorem C.regs_File_Read_c4_w : awp P C.regs_File_Read_c4 Q fr st = awp P (.keep [0, 1] (.seq (.seq (.region C.regs_File_Read_r1) C.regs_File_Read_c3) C.regs_File_Read_c1)) Q fr st := rfl
def C.regs_File_Read_r0_b : List IOper := [
  ⟨some 4, .move (.cst (.int .u32 0)), none, [], []⟩,
  ⟨some 5, .move (.cst (.int .i64 0)), none, [], []⟩]
def C.regs_File_Read_r0 : List IOper := C.regs_File_Read_r0_b
theorem C.regs_File_Read_r0_w {k : AFr → ASt → Prop} : aops P C.regs_File_Read_r0 k fr st = aops P C.regs_File_Read_r0_b k fr st := rfl
def C.regs_File_Read : IFunc := ⟨2, [.slot 4, .slot 5], .seq (.region C.regs_File_Read_r0) C.regs_File_Read_c4⟩
def C.regs_File_Read_W := And.intro (And.intro (And.intro @C.regs_File_Read_r3_w @C.regs_File_Read_c1_w) (And.intro @C.regs_File_Read_r2_w @C.regs_File_Read_c2_w)) (And.intro (And.intro @C.regs_File_Read_c3_w @C.regs_File_Read_r1_w) (And.intro @C.regs_File_Read_c4_w @C.regs_File_Read_r0_w))
def C.regs_File_Read_B := And.intro (And.intro @C.regs_File_Read_r3_b.eq_1 @C.regs_File_Read_r2_b.eq_1) (And.intro @C.regs_File_Read_r1_b.eq_1 @C.regs_File_Read_r0_b.eq_1)

def C.catnapref9_File_Read_r3_b : List IOper := [
  ⟨some 17, .move (.slot 0), none, [], []⟩,
  ⟨some 18, .nilchk (.slot 17), none, [], []⟩,
  ⟨some 19, .fldAddr 1 (.slot 18), none, [], []⟩,
  ⟨some 20, .load1 (.slot 19), none, [], []⟩,
  ⟨some 21, .move (.slot 1), none, [], []⟩,
  ⟨some 22, .idxAddr 1 (.slot 20) (.slot 21), none, [], []⟩,
  ⟨some 23, .load1 (.slot 22), none, [], []⟩,
  ⟨some 4, .move (.slot 23), none, [], []⟩,
  ⟨some 5, .move (.cst (.int .i64 0)), none, [], []⟩]
def C.catnapref9_File_Read_r3 : List IOper := C.catnapref9_File_Read_r3_b
theorem C.catnapref9_File_Read_r3_w {k : AFr → ASt → Prop} : aops P C.catnapref9_File_Read_r3 k fr st = aops P C.catnapref9_File_Read_r3_b k fr st := rfl
def C.catnapref9_File_Read_c1 : ICode := .keep [0, 1] (.seq (.region C.catnapref9_File_Read_r3) .ret)
theorem C.catnapref9_File_Read_c1_w : awp P C.catnapref9_File_Read_c1 Q fr st = awp P (.keep [0, 1] (.seq (.region C.catnapref9_File_Read_r3) .ret)) Q fr st := rfl
def C.catnapref9_File_Read_r2_b : List IOper := [
  ⟨some 4, .move (.cst (.int .u32 0)), none, [], []⟩,
  ⟨some 5, .move (.cst (.int .i64 4)), none, [], []⟩]
def C.catnapref9_File_Read_r2 : List IOper := C.catnapref9_File_Read_r2_b
theorem C.catnapref9_File_Read_r2_w {k : AFr → ASt → Prop} : aops P C.catnapref9_File_Read_r2 k fr st = aops P C.catnapref9_File_Read_r2_b k fr st := rfl
def C.catnapref9_File_Read_c2 : ICode := .seq (.region C.catnapref9_File_Read_r2) .ret
theorem C.catnapref9_File_Read_c2_w : awp P C.catnapref9_File_Read_c2 Q fr st = awp P (.seq (.region C.catnapref9_File_Read_r2) .ret) Q fr st := rfl
def C.catnapref9_File_Read_c3 : ICode := .keep [0, 1, 16] (.cond (.slot 16) C.catnapref9_File_Read_c2 .skip)
theorem C.catnapref9_File_Read_c3_w : awp P C.catnapref9_File_Read_c3 Q fr st = awp P (.keep [0, 1, 16] (.cond (.slot 16) C.catnapref9_File_Read_c2 .skip)) Q fr st := rfl
def C.catnapref9_File_Read_r1_b : List IOper := [
  ⟨some 6, .move (.slot 1), none, [], []⟩,
  ⟨some 7, .bin .lss (.slot 6) (.cst (.int .i64 0)), none, [], []⟩,
  ⟨some 8, .move (.slot 7), none, [], []⟩,
  ⟨some 9, .move (.slot 1), some (8, false), [], []⟩,
  ⟨some 10, .move (.slot 0), some (8, false), [], []⟩,
  ⟨some 11, .nilchk (.slot 10), some (8, false), [], []⟩,
  ⟨some 12, .fldAddr 1 (.slot 11), some (8, false), [], []⟩,
  ⟨some 13, .load1 (.slot 12), some (8, false), [], []⟩,
  ⟨some 14, .len (.slot 13), some (8, false), [], []⟩,
  ⟨some 15, .bin .geq (.slot 9) (.slot 14), some (8, false), [], []⟩,
  ⟨some 16, .pick (.slot 8) (.cst (.bool true)) (.slot 15), none, [], []⟩]
def C.catnapref9_File_Read_r1 : List IOper := C.catnapref9_File_Read_r1_b
theorem C.catnapref9_File_Read_r1_w {k : AFr → ASt → Prop} : aops P C.catnapref9_File_Read_r1 k fr st = aops P C.catnapref9_File_Read_r1_b k fr st := rfl
def C.catnapref9_File_Read_c4 : ICode := .keep [0, 1] (.seq (.seq (.region C.catnapref9_File_Read_r1) C.catnapref9_File_Read_c3) C.catnapref9_File_Read_c1)
theorem C.catnapref9_File_Read_c4_w : awp P C.catnapref9_File_Read_c4 Q fr st = awp P (.keep [0, 1] (.seq (.seq (.region C.catnapref9_File_Read_r1) C.catnapref9_File_Read_c3) C.catnapref9_File_Read_c1)) Q fr st := rfl
def C.catnapref9_File_Read_r0_b : List IOper := [
  ⟨some 4, .move (.cst (.int .u32 0)), none, [], []⟩,
  ⟨some 5, .move (.cst (.int .i64 0)), none, [], []⟩]
def C.catnapref9_File_Read_r0 : List IOper := C.catnapref9_File_Read_r0_b
theorem C.catnapref9_File_Read_r0_w {k : AFr → ASt → Prop} : aops P C.catnapref9_File_Read_r0 k fr st = aops P C.catnapref9_File_Read_r0_b k fr st := rfl
def C.catnapref9_File_Read : IFunc := ⟨2, [.slot 4, .slot 5], .seq (.region C.catnapref9_File_Read_r0) C.catnapref9_File_Read_c4⟩
def C.catnapref9_File_Read_W := And.intro (And.intro (And.intro @C.catnapref9_File_Read_r3_w @C.catnapref9_File_Read_c1_w) (And.intro @C.catnapref9_File_Read_r2_w @C.catnapref9_File_Read_c2_w)) (And.intro (And.intro @C.catnapref9_File_Read_c3_w @C.catnapref9_File_Read_r1_w) (And.intro @C.catnapref9_File_Read_c4_w @C.catnapref9_File_Read_r0_w))
def C.catnapref9_File_Read_B := And.intro (And.intro @C.catnapref9_File_Read_r3_b.eq_1 @C.catnapref9_File_Read_r2_b.eq_1) (And.intro @C.catnapref9_File_Read_r1_b.eq_1 @C.catnapref9_File_Read_r0_b.eq_1)

def C.regs_File_Many_r3_b : List IOper := [
  ⟨some 5, .move (.slot 0), none, [], []⟩,
  ⟨some 6, .nilchk (.slot 5), none, [], []⟩,
  ⟨some 7, .fldAddr 0 (.slot 6), none, [], []⟩,
  ⟨some 8, .load1 (.slot 7), none, [], []⟩,
  ⟨some 9, .len (.slot 8), none, [], []⟩,
  ⟨some 2, .move (.slot 9), none, [], []⟩]
def C.regs_File_Many_r3 : List IOper := C.regs_File_Many_r3_b
theorem C.regs_File_Many_r3_w {k : AFr → ASt → Prop} : aops P C.regs_File_Many_r3 k fr st = aops P C.regs_File_Many_r3_b k fr st := rfl
def C.regs_File_Many_c1 : ICode := .keep [0] (.seq (.region C.regs_File_Many_r3) .ret)
theorem C.regs_File_Many_c1_w : awp P C.regs_File_Many_c1 Q fr st = awp P (.keep [0] (.seq (.region C.regs_File_Many_r3) .ret)) Q fr st := rfl
def C.regs_File_Many_r2_b : List IOper := [
  ⟨some 2, .move (.cst (.int .i64 0)), none, [], []⟩]
def C.regs_File_Many_r2 : List IOper := C.regs_File_Many_r2_b
theorem C.regs_File_Many_r2_w {k : AFr → ASt → Prop} : aops P C.regs_File_Many_r2 k fr st = aops P C.regs_File_Many_r2_b k fr st := rfl
def C.regs_File_Many_c2 : ICode := .seq (.region C.regs_File_Many_r2) .ret
theorem C.regs_File_Many_c2_w : awp P C.regs_File_Many_c2 Q fr st = awp P (.seq (.region C.regs_File_Many_r2) .ret) Q fr st := rfl
def C.regs_File_Many_c3 : ICode := .keep [0, 4] (.cond (.slot 4) C.regs_File_Many_c2 .skip)
theorem C.regs_File_Many_c3_w : awp P C.regs_File_Many_c3 Q fr st = awp P (.keep [0, 4] (.cond (.slot 4) C.regs_File_Many_c2 .skip)) Q fr st := rfl
def C.regs_File_Many_r1_b : List IOper := [
  ⟨some 3, .move (.slot 0), none, [], []⟩,
  ⟨some 4, .eqP 0 false (.slot 3) (.cst (.nilp)), none, [], []⟩]
def C.regs_File_Many_r1 : List IOper := C.regs_File_Many_r1_b
theorem C.regs_File_Many_r1_w {k : AFr → ASt → Prop} : aops P C.regs_File_Many_r1 k fr st = aops P C.regs_File_Many_r1_b k fr st := rfl
def C.regs_File_Many_c4 : ICode := .keep [0] (.seq (.seq (.region C.regs_File_Many_r1) C.regs_File_Many_c3) C.regs_File_Many_c1)
theorem C.regs_File_Many_c4_w : awp P C.regs_File_Many_c4 Q fr st = awp P (.keep [0] (.seq (.seq (.region C.regs_File_Many_r1) C.regs_File_Many_c3) C.regs_File_Many_c1)) Q fr st := rfl
def C.regs_File_Many_r0_b : List IOper := [
  ⟨some 2, .move (.cst (.int .i64 0)), none, [], []⟩]
def C.regs_File_Many_r0 : List IOper := C.regs_File_Many_r0_b
theorem C.regs_File_Many_r0_w {k : AFr → ASt → Prop} : aops P C.regs_File_Many_r0 k fr st = aops P C.regs_File_Many_r0_b k fr st := rfl
def C.regs_File_Many : IFunc := ⟨1, [.slot 2], .seq (.region C.regs_File_Many_r0) C.regs_File_Many_c4⟩
def C.regs_File_Many_W := And.intro (And.intro (And.intro @C.regs_File_Many_r3_w @C.regs_File_Many_c1_w) (And.intro @C.regs_File_Many_r2_w @C.regs_File_Many_c2_w)) (And.intro (And.intro @C.regs_File_Many_c3_w @C.regs_File_Many_r1_w) (And.intro @C.regs_File_Many_c4_w @C.regs_File_Many_r0_w))
def C.regs_File_Many_B := And.intro (And.intro @C.regs_File_Many_r3_b.eq_1 @C.regs_File_Many_r2_b.eq_1) (And.intro @C.regs_File_Many_r1_b.eq_1 @C.regs_File_Many_r0_b.eq_1)

def C.catnaplaw9_all_r7_b : List IOper := [
  ⟨some 23, .move (.slot 3), none, [], []⟩,
  ⟨some 2, .move (.slot 23), none, [], []⟩]
def C.catnaplaw9_all_r7 : List IOper := C.catnaplaw9_all_r7_b
theorem C.catnaplaw9_all_r7_w {k : AFr → ASt → Prop} : aops P C.catnaplaw9_all_r7 k fr st = aops P C.catnaplaw9_all_r7_b k fr st := rfl
def C.catnaplaw9_all_c1 : ICode := .keep [3] (.seq (.region C.catnaplaw9_all_r7) .ret)
theorem C.catnaplaw9_all_c1_w : awp P C.catnaplaw9_all_c1 Q fr st = awp P (.keep [3] (.seq (.region C.catnaplaw9_all_r7) .ret)) Q fr st := rfl
def C.catnaplaw9_all_r4_b : List IOper := [
  ⟨some 11, .move (.slot 4), none, [], []⟩,
  ⟨some 12, .bin .add (.slot 11) (.cst (.int .i64 1)), none, [], []⟩,
  ⟨some 4, .move (.slot 12), none, [], []⟩]
def C.catnaplaw9_all_r4 : List IOper := C.catnaplaw9_all_r4_b
theorem C.catnaplaw9_all_r4_w {k : AFr → ASt → Prop} : aops P C.catnaplaw9_all_r4 k fr st = aops P C.catnaplaw9_all_r4_b k fr st := rfl
def C.catnaplaw9_all_c2 : ICode := .keep [0, 3, 4] (.region C.catnaplaw9_all_r4)
theorem C.catnaplaw9_all_c2_w : awp P C.catnaplaw9_all_c2 Q fr st = awp P (.keep [0, 3, 4] (.region C.catnaplaw9_all_r4)) Q fr st := rfl
def C.catnaplaw9_all_r6_b : List IOper := [
  ⟨some 19, .move (.slot 3), none, [], []⟩,
  ⟨some 20, .move (.slot 5), none, [], []⟩,
  ⟨some 21, .buildSlice 1 1 [.int .u32 0] [(0, 1, .slot 20)], none, [], []⟩,
  ⟨some 22, .append 1 4 (.slot 19) (.slot 21), none, [], []⟩,
  ⟨some 3, .move (.slot 22), none, [], []⟩]
def C.catnaplaw9_all_r6 : List IOper := C.catnaplaw9_all_r6_b
theorem C.catnaplaw9_all_r6_w {k : AFr → ASt → Prop} : aops P C.catnaplaw9_all_r6 k fr st = aops P C.catnaplaw9_all_r6_b k fr st := rfl
def C.catnaplaw9_all_c3 : ICode := .keep [0, 3, 4, 5] (.region C.catnaplaw9_all_r6)
theorem C.catnaplaw9_all_c3_w : awp P C.catnaplaw9_all_c3 Q fr st = awp P (.keep [0, 3, 4, 5] (.region C.catnaplaw9_all_r6)) Q fr st := rfl
def C.catnaplaw9_all_r5_b : List IOper := [
  ⟨some 14, .move (.slot 0), none, [], []⟩,
  ⟨some 15, .move (.slot 4), none, [], []⟩,
  ⟨some 16, .call F.regs_File_Read [.slot 14, .slot 15], none, [], []⟩,
  ⟨some 13, .move (.slot 16), none, [], []⟩,
  ⟨some 17, .extract (.slot 13) 0, none, [], []⟩,
  ⟨some 18, .extract (.slot 13) 1, none, [], []⟩,
  ⟨some 5, .move (.slot 17), none, [], []⟩,
  ⟨some 6, .move (.slot 18), none, [], []⟩]
def C.catnaplaw9_all_r5 : List IOper := C.catnaplaw9_all_r5_b
theorem C.catnaplaw9_all_r5_w {k : AFr → ASt → Prop} : aops P C.catnaplaw9_all_r5 k fr st = aops P C.catnaplaw9_all_r5_b k fr st := rfl
def C.catnaplaw9_all_b4 : ICode := .seq (.region C.catnaplaw9_all_r5) C.catnaplaw9_all_c3
theorem C.catnaplaw9_all_b4_w : awp P C.catnaplaw9_all_b4 Q fr st = awp P (.seq (.region C.catnaplaw9_all_r5) C.catnaplaw9_all_c3) Q fr st := rfl
def C.catnaplaw9_all_c5 : ICode := .keep [0, 3, 4] (.seq (.block 1 C.catnaplaw9_all_b4) C.catnaplaw9_all_c2)
theorem C.catnaplaw9_all_c5_w : awp P C.catnaplaw9_all_c5 Q fr st = awp P (.keep [0, 3, 4] (.seq (.block 1 C.catnaplaw9_all_b4) C.catnaplaw9_all_c2)) Q fr st := rfl
def C.catnaplaw9_all_c6 : ICode := .keep [0, 3, 4, 10] (.cond (.slot 10) .skip (.exit 0))
theorem C.catnaplaw9_all_c6_w : awp P C.catnaplaw9_all_c6 Q fr st = awp P (.keep [0, 3, 4, 10] (.cond (.slot 10) .skip (.exit 0))) Q fr st := rfl
def C.catnaplaw9_all_r3_b : List IOper := [
  ⟨some 7, .move (.slot 4), none, [], []⟩,
  ⟨some 8, .move (.slot 0), none, [], []⟩,
  ⟨some 9, .call F.regs_File_Many [.slot 8], none, [], []⟩,
  ⟨some 10, .bin .lss (.slot 7) (.slot 9), none, [], []⟩]
def C.catnaplaw9_all_r3 : List IOper := C.catnaplaw9_all_r3_b
theorem C.catnaplaw9_all_r3_w {k : AFr → ASt → Prop} : aops P C.catnaplaw9_all_r3 k fr st = aops P C.catnaplaw9_all_r3_b k fr st := rfl
def C.catnaplaw9_all_l7 : ICode := .keep [0, 3, 4] (.seq (.seq (.region C.catnaplaw9_all_r3) C.catnaplaw9_all_c6) C.catnaplaw9_all_c5)
theorem C.catnaplaw9_all_l7_w : awp P C.catnaplaw9_all_l7 Q fr st = awp P (.keep [0, 3, 4] (.seq (.seq (.region C.catnaplaw9_all_r3) C.catnaplaw9_all_c6) C.catnaplaw9_all_c5)) Q fr st := rfl
def C.catnaplaw9_all_b8 : ICode := .loop C.catnaplaw9_all_l7
theorem C.catnaplaw9_all_b8_w : awp P C.catnaplaw9_all_b8 Q fr st = awp P (.loop C.catnaplaw9_all_l7) Q fr st := rfl
def C.catnaplaw9_all_c9 : ICode := .keep [0, 3, 4] (.block 0 C.catnaplaw9_all_b8)
theorem C.catnaplaw9_all_c9_w : awp P C.catnaplaw9_all_c9 Q fr st = awp P (.keep [0, 3, 4] (.block 0 C.catnaplaw9_all_b8)) Q fr st := rfl
def C.catnaplaw9_all_r2_b : List IOper := [
  ⟨some 4, .move (.cst (.int .i64 0)), none, [], []⟩]
def C.catnaplaw9_all_r2 : List IOper := C.catnaplaw9_all_r2_b
theorem C.catnaplaw9_all_r2_w {k : AFr → ASt → Prop} : aops P C.catnaplaw9_all_r2 k fr st = aops P C.catnaplaw9_all_r2_b k fr st := rfl
def C.catnaplaw9_all_c10 : ICode := .keep [0, 3] (.seq (.seq (.region C.catnaplaw9_all_r2) C.catnaplaw9_all_c9) C.catnaplaw9_all_c1)
theorem C.catnaplaw9_all_c10_w : awp P C.catnaplaw9_all_c10 Q fr st = awp P (.keep [0, 3] (.seq (.seq (.region C.catnaplaw9_all_r2) C.catnaplaw9_all_c9) C.catnaplaw9_all_c1)) Q fr st := rfl
def C.catnaplaw9_all_r1_b : List IOper := [
  ⟨some 3, .move (.cst (.nils)), none, [], []⟩]
def C.catnaplaw9_all_r1 : List IOper := C.catnaplaw9_all_r1_b
theorem C.catnaplaw9_all_r1_w {k : AFr → ASt → Prop} : aops P C.catnaplaw9_all_r1 k fr st = aops P C.catnaplaw9_all_r1_b k fr st := rfl
def C.catnaplaw9_all_c11 : ICode := .keep [0] (.seq (.region C.catnaplaw9_all_r1) C.catnaplaw9_all_c10)
theorem C.catnaplaw9_all_c11_w : awp P C.catnaplaw9_all_c11 Q fr st = awp P (.keep [0] (.seq (.region C.catnaplaw9_all_r1) C.catnaplaw9_all_c10)) Q fr st := rfl
def C.catnaplaw9_all_r0_b : List IOper := [
  ⟨some 2, .move (.cst (.nils)), none, [], []⟩]
def C.catnaplaw9_all_r0 : List IOper := C.catnaplaw9_all_r0_b
theorem C.catnaplaw9_all_r0_w {k : AFr → ASt → Prop} : aops P C.catnaplaw9_all_r0 k fr st = aops P C.catnaplaw9_all_r0_b k fr st := rfl
def C.catnaplaw9_all : IFunc := ⟨1, [.slot 2], .seq (.region C.catnaplaw9_all_r0) C.catnaplaw9_all_c11⟩
def C.catnaplaw9_all_W := And.intro (And.intro (And.intro (And.intro @C.catnaplaw9_all_r7_w @C.catnaplaw9_all_c1_w) (And.intro @C.catnaplaw9_all_r4_w @C.catnaplaw9_all_c2_w)) (And.intro (And.intro @C.catnaplaw9_all_r6_w @C.catnaplaw9_all_c3_w) (And.intro @C.catnaplaw9_all_r5_w (And.intro @C.catnaplaw9_all_b4_w @C.catnaplaw9_all_c5_w)))) (And.intro (And.intro (And.intro @C.catnaplaw9_all_c6_w @C.catnaplaw9_all_r3_w) (And.intro @C.catnaplaw9_all_b8_w @C.catnaplaw9_all_c9_w)) (And.intro (And.intro @C.catnaplaw9_all_r2_w @C.catnaplaw9_all_c10_w) (And.intro @C.catnaplaw9_all_r1_w (And.intro @C.catnaplaw9_all_c11_w @C.catnaplaw9_all_r0_w))))
def C.catnaplaw9_all_B := And.intro (And.intro (And.intro @C.catnaplaw9_all_r7_b.eq_1 @C.catnaplaw9_all_r4_b.eq_1) (And.intro @C.catnaplaw9_all_r6_b.eq_1 @C.catnaplaw9_all_r5_b.eq_1)) (And.intro (And.intro @C.catnaplaw9_all_r3_b.eq_1 @C.catnaplaw9_all_r2_b.eq_1) (And.intro @C.catnaplaw9_all_r1_b.eq_1 @C.catnaplaw9_all_r0_b.eq_1))

def C.catnaplaw9_does_r11_b : List IOper := [
  ⟨some 6, .move (.cst (.int .i64 0)), none, [], []⟩]
def C.catnaplaw9_does_r11 : List IOper := C.catnaplaw9_does_r11_b
theorem C.catnaplaw9_does_r11_w {k : AFr → ASt → Prop} : aops P C.catnaplaw9_does_r11 k fr st = aops P C.catnaplaw9_does_r11_b k fr st := rfl
def C.catnaplaw9_does_c1 : ICode := .keep [] (.seq (.region C.catnaplaw9_does_r11) .ret)
theorem C.catnaplaw9_does_c1_w : awp P C.catnaplaw9_does_c1 Q fr st = awp P (.keep [] (.seq (.region C.catnaplaw9_does_r11) .ret)) Q fr st := rfl
def C.catnaplaw9_does_r6_b : List IOper := [
  ⟨some 16, .move (.slot 0), none, [], []⟩,
  ⟨some 17, .fldAddr 1 (.slot 4), none, [], []⟩,
  ⟨some 18, .load1 (.slot 17), none, [], []⟩,
  ⟨some 19, .move (.slot 2), none, [], []⟩,
  ⟨some 20, .bin .add (.slot 19) (.cst (.int .i64 2)), none, [], []⟩,
  ⟨some 23, .fldAddr 2 (.slot 4), none, [], []⟩,
  ⟨some 24, .load1 (.slot 23), none, [], []⟩,
  ⟨some 21, .call F.catnaplaw9_pick [.slot 18, .slot 20], none, [⟨.load1 (.slot 23), 24, none⟩], []⟩,
  ⟨some 22, .bin .sub (.slot 21) (.cst (.int .i64 1)), none, [], []⟩,
  ⟨some 25, .call F.regs_File_Write [.slot 16, .slot 22, .slot 24], none, [], []⟩,
  ⟨some 6, .move (.slot 25), none, [], []⟩]
def C.catnaplaw9_does_r6 : List IOper := C.catnaplaw9_does_r6_b
theorem C.catnaplaw9_does_r6_w {k : AFr → ASt → Prop} : aops P C.catnaplaw9_does_r6 k fr st = aops P C.catnaplaw9_does_r6_b k fr st := rfl
def C.catnaplaw9_does_r8_b : List IOper := [
  ⟨some 28, .move (.slot 0), none, [], []⟩,
  ⟨some 29, .call F.regs_File_Save [.slot 28], none, [], []⟩]
def C.catnaplaw9_does_r8 : List IOper := C.catnaplaw9_does_r8_b
theorem C.catnaplaw9_does_r8_w {k : AFr → ASt → Prop} : aops P C.catnaplaw9_does_r8 k fr st = aops P C.catnaplaw9_does_r8_b k fr st := rfl
def C.catnaplaw9_does_r10_b : List IOper := [
  ⟨some 32, .move (.slot 0), none, [], []⟩,
  ⟨some 33, .call F.regs_File_Restore [.slot 32], none, [], []⟩]
def C.catnaplaw9_does_r10 : List IOper := C.catnaplaw9_does_r10_b
theorem C.catnaplaw9_does_r10_w {k : AFr → ASt → Prop} : aops P C.catnaplaw9_does_r10 k fr st = aops P C.catnaplaw9_does_r10_b k fr st := rfl
def C.catnaplaw9_does_r2_b : List IOper := [
  ⟨some 10, .move (.slot 0), none, [], []⟩,
  ⟨some 11, .call F.regs_File_Clear [.slot 10], none, [], []⟩]
def C.catnaplaw9_does_r2 : List IOper := C.catnaplaw9_does_r2_b
theorem C.catnaplaw9_does_r2_w {k : AFr → ASt → Prop} : aops P C.catnaplaw9_does_r2 k fr st = aops P C.catnaplaw9_does_r2_b k fr st := rfl
def C.catnaplaw9_does_c2 : ICode := .keep [0, 30] (.cond (.slot 30) (.region C.catnaplaw9_does_r10) (.region C.catnaplaw9_does_r2))
theorem C.catnaplaw9_does_c2_w : awp P C.catnaplaw9_does_c2 Q fr st = awp P (.keep [0, 30] (.cond (.slot 30) (.region C.catnaplaw9_does_r10) (.region C.catnaplaw9_does_r2))) Q fr st := rfl
def C.catnaplaw9_does_r9_b : List IOper := [
  ⟨some 31, .bin .eql (.slot 9) (.cst (.int .i64 4)), none, [], []⟩,
  ⟨some 30, .move (.slot 31), none, [], []⟩]
def C.catnaplaw9_does_r9 : List IOper := C.catnaplaw9_does_r9_b
theorem C.catnaplaw9_does_r9_w {k : AFr → ASt → Prop} : aops P C.catnaplaw9_does_r9 k fr st = aops P C.catnaplaw9_does_r9_b k fr st := rfl
def C.catnaplaw9_does_c3 : ICode := .seq (.region C.catnaplaw9_does_r9) C.catnaplaw9_does_c2
theorem C.catnaplaw9_does_c3_w : awp P C.catnaplaw9_does_c3 Q fr st = awp P (.seq (.region C.catnaplaw9_does_r9) C.catnaplaw9_does_c2) Q fr st := rfl
def C.catnaplaw9_does_c4 : ICode := .keep [0, 9, 26] (.cond (.slot 26) (.region C.catnaplaw9_does_r8) C.catnaplaw9_does_c3)
theorem C.catnaplaw9_does_c4_w : awp P C.catnaplaw9_does_c4 Q fr st = awp P (.keep [0, 9, 26] (.cond (.slot 26) (.region C.catnaplaw9_does_r8) C.catnaplaw9_does_c3)) Q fr st := rfl
def C.catnaplaw9_does_r7_b : List IOper := [
  ⟨some 27, .bin .eql (.slot 9) (.cst (.int .i64 3)), none, [], []⟩,
  ⟨some 26, .move (.slot 27), none, [], []⟩]
def C.catnaplaw9_does_r7 : List IOper := C.catnaplaw9_does_r7_b
theorem C.catnaplaw9_does_r7_w {k : AFr → ASt → Prop} : aops P C.catnaplaw9_does_r7 k fr st = aops P C.catnaplaw9_does_r7_b k fr st := rfl
def C.catnaplaw9_does_c5 : ICode := .seq (.region C.catnaplaw9_does_r6) .ret
theorem C.catnaplaw9_does_c5_w : awp P C.catnaplaw9_does_c5 Q fr st = awp P (.seq (.region C.catnaplaw9_does_r6) .ret) Q fr st := rfl
def C.catnaplaw9_does_c6 : ICode := .seq (.region C.catnaplaw9_does_r7) C.catnaplaw9_does_c4
theorem C.catnaplaw9_does_c6_w : awp P C.catnaplaw9_does_c6 Q fr st = awp P (.seq (.region C.catnaplaw9_does_r7) C.catnaplaw9_does_c4) Q fr st := rfl
def C.catnaplaw9_does_c7 : ICode := .keep [0, 2, 4, 9, 12] (.cond (.slot 12) C.catnaplaw9_does_c5 C.catnaplaw9_does_c6)
theorem C.catnaplaw9_does_c7_w : awp P C.catnaplaw9_does_c7 Q fr st = awp P (.keep [0, 2, 4, 9, 12] (.cond (.slot 12) C.catnaplaw9_does_c5 C.catnaplaw9_does_c6)) Q fr st := rfl
def C.catnaplaw9_does_r5_b : List IOper := [
  ⟨some 15, .bin .eql (.slot 9) (.cst (.int .i64 2)), none, [], []⟩,
  ⟨some 12, .move (.slot 15), none, [], []⟩]
def C.catnaplaw9_does_r5 : List IOper := C.catnaplaw9_does_r5_b
theorem C.catnaplaw9_does_r5_w {k : AFr → ASt → Prop} : aops P C.catnaplaw9_does_r5 k fr st = aops P C.catnaplaw9_does_r5_b k fr st := rfl
def C.catnaplaw9_does_c8 : ICode := .keep [0, 2, 4, 9, 12] (.cond (.slot 12) .skip (.region C.catnaplaw9_does_r5))
theorem C.catnaplaw9_does_c8_w : awp P C.catnaplaw9_does_c8 Q fr st = awp P (.keep [0, 2, 4, 9, 12] (.cond (.slot 12) .skip (.region C.catnaplaw9_does_r5))) Q fr st := rfl
def C.catnaplaw9_does_r4_b : List IOper := [
  ⟨some 14, .bin .eql (.slot 9) (.cst (.int .i64 1)), none, [], []⟩,
  ⟨some 12, .move (.slot 14), none, [], []⟩]
def C.catnaplaw9_does_r4 : List IOper := C.catnaplaw9_does_r4_b
theorem C.catnaplaw9_does_r4_w {k : AFr → ASt → Prop} : aops P C.catnaplaw9_does_r4 k fr st = aops P C.catnaplaw9_does_r4_b k fr st := rfl
def C.catnaplaw9_does_c9 : ICode := .seq (.region C.catnaplaw9_does_r4) C.catnaplaw9_does_c8
theorem C.catnaplaw9_does_c9_w : awp P C.catnaplaw9_does_c9 Q fr st = awp P (.seq (.region C.catnaplaw9_does_r4) C.catnaplaw9_does_c8) Q fr st := rfl
def C.catnaplaw9_does_c10 : ICode := .keep [0, 2, 4, 9, 12] (.cond (.slot 12) .skip C.catnaplaw9_does_c9)
theorem C.catnaplaw9_does_c10_w : awp P C.catnaplaw9_does_c10 Q fr st = awp P (.keep [0, 2, 4, 9, 12] (.cond (.slot 12) .skip C.catnaplaw9_does_c9)) Q fr st := rfl
def C.catnaplaw9_does_r3_b : List IOper := [
  ⟨some 13, .bin .eql (.slot 9) (.cst (.int .i64 0)), none, [], []⟩,
  ⟨some 12, .move (.slot 13), none, [], []⟩]
def C.catnaplaw9_does_r3 : List IOper := C.catnaplaw9_does_r3_b
theorem C.catnaplaw9_does_r3_w {k : AFr → ASt → Prop} : aops P C.catnaplaw9_does_r3 k fr st = aops P C.catnaplaw9_does_r3_b k fr st := rfl
def C.catnaplaw9_does_b11 : ICode := .seq (.seq (.region C.catnaplaw9_does_r3) C.catnaplaw9_does_c10) C.catnaplaw9_does_c7
theorem C.catnaplaw9_does_b11_w : awp P C.catnaplaw9_does_b11 Q fr st = awp P (.seq (.seq (.region C.catnaplaw9_does_r3) C.catnaplaw9_does_c10) C.catnaplaw9_does_c7) Q fr st := rfl
def C.catnaplaw9_does_c12 : ICode := .keep [0, 2, 4, 9] (.block 0 C.catnaplaw9_does_b11)
theorem C.catnaplaw9_does_c12_w : awp P C.catnaplaw9_does_c12 Q fr st = awp P (.keep [0, 2, 4, 9] (.block 0 C.catnaplaw9_does_b11)) Q fr st := rfl
def C.catnaplaw9_does_r1_b : List IOper := [
  ⟨some 7, .fldAddr 0 (.slot 4), none, [], []⟩,
  ⟨some 8, .load1 (.slot 7), none, [], []⟩,
  ⟨some 9, .call F.catnaplaw9_pick [.slot 8, .cst (.int .i64 6)], none, [], []⟩]
def C.catnaplaw9_does_r1 : List IOper := C.catnaplaw9_does_r1_b
theorem C.catnaplaw9_does_r1_w {k : AFr → ASt → Prop} : aops P C.catnaplaw9_does_r1 k fr st = aops P C.catnaplaw9_does_r1_b k fr st := rfl
def C.catnaplaw9_does_c13 : ICode := .keep [0, 2, 4] (.seq (.seq (.region C.catnaplaw9_does_r1) C.catnaplaw9_does_c12) C.catnaplaw9_does_c1)
theorem C.catnaplaw9_does_c13_w : awp P C.catnaplaw9_does_c13 Q fr st = awp P (.keep [0, 2, 4] (.seq (.seq (.region C.catnaplaw9_does_r1) C.catnaplaw9_does_c12) C.catnaplaw9_does_c1)) Q fr st := rfl
def C.catnaplaw9_does_r0_b : List IOper := [
  ⟨some 4, .boxN (.slot 1), none, [], []⟩,
  ⟨some 6, .move (.cst (.int .i64 0)), none, [], []⟩]
def C.catnaplaw9_does_r0 : List IOper := C.catnaplaw9_does_r0_b
theorem C.catnaplaw9_does_r0_w {k : AFr → ASt → Prop} : aops P C.catnaplaw9_does_r0 k fr st = aops P C.catnaplaw9_does_r0_b k fr st := rfl
def C.catnaplaw9_does : IFunc := ⟨3, [.slot 6], .seq (.region C.catnaplaw9_does_r0) C.catnaplaw9_does_c13⟩
def C.catnaplaw9_does_W := And.intro (And.intro (And.intro (And.intro @C.catnaplaw9_does_r11_w (And.intro @C.catnaplaw9_does_c1_w @C.catnaplaw9_does_r6_w)) (And.intro @C.catnaplaw9_does_r8_w (And.intro @C.catnaplaw9_does_r10_w @C.catnaplaw9_does_r2_w))) (And.intro (And.intro @C.catnaplaw9_does_c2_w (And.intro @C.catnaplaw9_does_r9_w @C.catnaplaw9_does_c3_w)) (And.intro @C.catnaplaw9_does_c4_w (And.intro @C.catnaplaw9_does_r7_w @C.catnaplaw9_does_c5_w)))) (And.intro (And.intro (And.intro @C.catnaplaw9_does_c6_w (And.intro @C.catnaplaw9_does_c7_w @C.catnaplaw9_does_r5_w)) (And.intro @C.catnaplaw9_does_c8_w (And.intro @C.catnaplaw9_does_r4_w @C.catnaplaw9_does_c9_w))) (And.intro (And.intro @C.catnaplaw9_does_c10_w (And.intro @C.catnaplaw9_does_r3_w @C.catnaplaw9_does_b11_w)) (And.intro (And.intro @C.catnaplaw9_does_c12_w @C.catnaplaw9_does_r1_w) (And.intro @C.catnaplaw9_does_c13_w @C.catnaplaw9_does_r0_w))))
def C.catnaplaw9_does_B := And.intro (And.intro (And.intro @C.catnaplaw9_does_r11_b.eq_1 (And.intro @C.catnaplaw9_does_r6_b.eq_1 @C.catnaplaw9_does_r8_b.eq_1)) (And.intro @C.catnaplaw9_does_r10_b.eq_1 (And.intro @C.catnaplaw9_does_r2_b.eq_1 @C.catnaplaw9_does_r9_b.eq_1))) (And.intro (And.intro @C.catnaplaw9_does_r7_b.eq_1 (And.intro @C.catnaplaw9_does_r5_b.eq_1 @C.catnaplaw9_does_r4_b.eq_1)) (And.intro @C.catnaplaw9_does_r3_b.eq_1 (And.intro @C.catnaplaw9_does_r1_b.eq_1 @C.catnaplaw9_does_r0_b.eq_1)))

def C.slices_Clone_api_Reg_api_Reg_r3_b : List IOper := [
  ⟨some 5, .buildSlice 2 0 [.int .u32 0, .bool false] [], none, [], []⟩,
  ⟨some 6, .move (.slot 0), none, [], []⟩,
  ⟨some 7, .append 2 8 (.slot 5) (.slot 6), none, [], []⟩,
  ⟨some 2, .move (.slot 7), none, [], []⟩]
def C.slices_Clone_api_Reg_api_Reg_r3 : List IOper := C.slices_Clone_api_Reg_api_Reg_r3_b
theorem C.slices_Clone_api_Reg_api_Reg_r3_w {k : AFr → ASt → Prop} : aops P C.slices_Clone_api_Reg_api_Reg_r3 k fr st = aops P C.slices_Clone_api_Reg_api_Reg_r3_b k fr st := rfl
def C.slices_Clone_api_Reg_api_Reg_c1 : ICode := .keep [0] (.seq (.region C.slices_Clone_api_Reg_api_Reg_r3) .ret)
theorem C.slices_Clone_api_Reg_api_Reg_c1_w : awp P C.slices_Clone_api_Reg_api_Reg_c1 Q fr st = awp P (.keep [0] (.seq (.region C.slices_Clone_api_Reg_api_Reg_r3) .ret)) Q fr st := rfl
def C.slices_Clone_api_Reg_api_Reg_r2_b : List IOper := [
  ⟨some 2, .move (.cst (.nils)), none, [], []⟩]
def C.slices_Clone_api_Reg_api_Reg_r2 : List IOper := C.slices_Clone_api_Reg_api_Reg_r2_b
theorem C.slices_Clone_api_Reg_api_Reg_r2_w {k : AFr → ASt → Prop} : aops P C.slices_Clone_api_Reg_api_Reg_r2 k fr st = aops P C.slices_Clone_api_Reg_api_Reg_r2_b k fr st := rfl
def C.slices_Clone_api_Reg_api_Reg_c2 : ICode := .seq (.region C.slices_Clone_api_Reg_api_Reg_r2) .ret
theorem C.slices_Clone_api_Reg_api_Reg_c2_w : awp P C.slices_Clone_api_Reg_api_Reg_c2 Q fr st = awp P (.seq (.region C.slices_Clone_api_Reg_api_Reg_r2) .ret) Q fr st := rfl
def C.slices_Clone_api_Reg_api_Reg_c3 : ICode := .keep [0, 4] (.cond (.slot 4) C.slices_Clone_api_Reg_api_Reg_c2 .skip)
theorem C.slices_Clone_api_Reg_api_Reg_c3_w : awp P C.slices_Clone_api_Reg_api_Reg_c3 Q fr st = awp P (.keep [0, 4] (.cond (.slot 4) C.slices_Clone_api_Reg_api_Reg_c2 .skip)) Q fr st := rfl
def C.slices_Clone_api_Reg_api_Reg_r1_b : List IOper := [
  ⟨some 3, .move (.slot 0), none, [], []⟩,
  ⟨some 4, .eqP 1 false (.slot 3) (.cst (.nils)), none, [], []⟩]
def C.slices_Clone_api_Reg_api_Reg_r1 : List IOper := C.slices_Clone_api_Reg_api_Reg_r1_b
theorem C.slices_Clone_api_Reg_api_Reg_r1_w {k : AFr → ASt → Prop} : aops P C.slices_Clone_api_Reg_api_Reg_r1 k fr st = aops P C.slices_Clone_api_Reg_api_Reg_r1_b k fr st := rfl
def C.slices_Clone_api_Reg_api_Reg_c4 : ICode := .keep [0] (.seq (.seq (.region C.slices_Clone_api_Reg_api_Reg_r1) C.slices_Clone_api_Reg_api_Reg_c3) C.slices_Clone_api_Reg_api_Reg_c1)
theorem C.slices_Clone_api_Reg_api_Reg_c4_w : awp P C.slices_Clone_api_Reg_api_Reg_c4 Q fr st = awp P (.keep [0] (.seq (.seq (.region C.slices_Clone_api_Reg_api_Reg_r1) C.slices_Clone_api_Reg_api_Reg_c3) C.slices_Clone_api_Reg_api_Reg_c1)) Q fr st := rfl
def C.slices_Clone_api_Reg_api_Reg_r0_b : List IOper := [
  ⟨some 2, .move (.cst (.nils)), none, [], []⟩]
def C.slices_Clone_api_Reg_api_Reg_r0 : List IOper := C.slices_Clone_api_Reg_api_Reg_r0_b
theorem C.slices_Clone_api_Reg_api_Reg_r0_w {k : AFr → ASt → Prop} : aops P C.slices_Clone_api_Reg_api_Reg_r0 k fr st = aops P C.slices_Clone_api_Reg_api_Reg_r0_b k fr st := rfl
def C.slices_Clone_api_Reg_api_Reg : IFunc := ⟨1, [.slot 2], .seq (.region C.slices_Clone_api_Reg_api_Reg_r0) C.slices_Clone_api_Reg_api_Reg_c4⟩
def C.slices_Clone_api_Reg_api_Reg_W := And.intro (And.intro (And.intro @C.slices_Clone_api_Reg_api_Reg_r3_w @C.slices_Clone_api_Reg_api_Reg_c1_w) (And.intro @C.slices_Clone_api_Reg_api_Reg_r2_w @C.slices_Clone_api_Reg_api_Reg_c2_w)) (And.intro (And.intro @C.slices_Clone_api_Reg_api_Reg_c3_w @C.slices_Clone_api_Reg_api_Reg_r1_w) (And.intro @C.slices_Clone_api_Reg_api_Reg_c4_w @C.slices_Clone_api_Reg_api_Reg_r0_w))
def C.slices_Clone_api_Reg_api_Reg_B := And.intro (And.intro @C.slices_Clone_api_Reg_api_Reg_r3_b.eq_1 @C.slices_Clone_api_Reg_api_Reg_r2_b.eq_1) (And.intro @C.slices_Clone_api_Reg_api_Reg_r1_b.eq_1 @C.slices_Clone_api_Reg_api_Reg_r0_b.eq_1)

def C.regs_File_each_r4_b : List IOper := [
  ⟨some 20, .bin .add (.slot 7) (.cst (.int .i64 1)), none, [], []⟩,
  ⟨some 7, .move (.slot 20), none, [], []⟩]
def C.regs_File_each_r4 : List IOper := C.regs_File_each_r4_b
theorem C.regs_File_each_r4_w {k : AFr → ASt → Prop} : aops P C.regs_File_each_r4 k fr st = aops P C.regs_File_each_r4_b k fr st := rfl
def C.regs_File_each_c1 : ICode := .keep [0, 1, 6, 7] (.region C.regs_File_each_r4)
theorem C.regs_File_each_c1_w : awp P C.regs_File_each_c1 Q fr st = awp P (.keep [0, 1, 6, 7] (.region C.regs_File_each_r4)) Q fr st := rfl
def C.regs_File_each_r3_b : List IOper := [
  ⟨some 10, .move (.slot 1), none, [], []⟩,
  ⟨some 11, .move (.slot 4), none, [], []⟩,
  ⟨some 12, .move (.slot 0), none, [], []⟩,
  ⟨some 13, .nilchk (.slot 12), none, [], []⟩,
  ⟨some 14, .fldAddr 0 (.slot 13), none, [], []⟩,
  ⟨some 15, .load1 (.slot 14), none, [], []⟩,
  ⟨some 16, .move (.slot 4), none, [], []⟩,
  ⟨some 17, .idxAddr 2 (.slot 15) (.slot 16), none, [], []⟩,
  ⟨some 18, .loadN 2 (.slot 17), none, [], []⟩,
  ⟨some 19, .callv (.slot 10) [.slot 11, .slot 18], none, [], []⟩]
def C.regs_File_each_r3 : List IOper := C.regs_File_each_r3_b
theorem C.regs_File_each_r3_w {k : AFr → ASt → Prop} : aops P C.regs_File_each_r3 k fr st = aops P C.regs_File_each_r3_b k fr st := rfl
def C.regs_File_each_c2 : ICode := .keep [0, 1, 4, 6, 7] (.region C.regs_File_each_r3)
theorem C.regs_File_each_c2_w : awp P C.regs_File_each_c2 Q fr st = awp P (.keep [0, 1, 4, 6, 7] (.region C.regs_File_each_r3)) Q fr st := rfl
def C.regs_File_each_r2_b : List IOper := [
  ⟨some 9, .move (.slot 7), none, [], []⟩,
  ⟨some 4, .move (.slot 9), none, [], []⟩]
def C.regs_File_each_r2 : List IOper := C.regs_File_each_r2_b
theorem C.regs_File_each_r2_w {k : AFr → ASt → Prop} : aops P C.regs_File_each_r2 k fr st = aops P C.regs_File_each_r2_b k fr st := rfl
def C.regs_File_each_b3 : ICode := .seq (.region C.regs_File_each_r2) C.regs_File_each_c2
theorem C.regs_File_each_b3_w : awp P C.regs_File_each_b3 Q fr st = awp P (.seq (.region C.regs_File_each_r2) C.regs_File_each_c2) Q fr st := rfl
def C.regs_File_each_c4 : ICode := .keep [0, 1, 6, 7] (.seq (.block 1 C.regs_File_each_b3) C.regs_File_each_c1)
theorem C.regs_File_each_c4_w : awp P C.regs_File_each_c4 Q fr st = awp P (.keep [0, 1, 6, 7] (.seq (.block 1 C.regs_File_each_b3) C.regs_File_each_c1)) Q fr st := rfl
def C.regs_File_each_c5 : ICode := .keep [0, 1, 6, 7, 8] (.seq (.cond (.slot 8) .skip (.exit 0)) C.regs_File_each_c4)
theorem C.regs_File_each_c5_w : awp P C.regs_File_each_c5 Q fr st = awp P (.keep [0, 1, 6, 7, 8] (.seq (.cond (.slot 8) .skip (.exit 0)) C.regs_File_each_c4)) Q fr st := rfl
def C.regs_File_each_r1_b : List IOper := [
  ⟨some 8, .bin .lss (.slot 7) (.slot 6), none, [], []⟩]
def C.regs_File_each_r1 : List IOper := C.regs_File_each_r1_b
theorem C.regs_File_each_r1_w {k : AFr → ASt → Prop} : aops P C.regs_File_each_r1 k fr st = aops P C.regs_File_each_r1_b k fr st := rfl
def C.regs_File_each_l6 : ICode := .keep [0, 1, 6, 7] (.seq (.region C.regs_File_each_r1) C.regs_File_each_c5)
theorem C.regs_File_each_l6_w : awp P C.regs_File_each_l6 Q fr st = awp P (.keep [0, 1, 6, 7] (.seq (.region C.regs_File_each_r1) C.regs_File_each_c5)) Q fr st := rfl
def C.regs_File_each_b7 : ICode := .loop C.regs_File_each_l6
theorem C.regs_File_each_b7_w : awp P C.regs_File_each_b7 Q fr st = awp P (.loop C.regs_File_each_l6) Q fr st := rfl
def C.regs_File_each_c8 : ICode := .keep [0, 1, 6, 7] (.block 0 C.regs_File_each_b7)
theorem C.regs_File_each_c8_w : awp P C.regs_File_each_c8 Q fr st = awp P (.keep [0, 1, 6, 7] (.block 0 C.regs_File_each_b7)) Q fr st := rfl
def C.regs_File_each_r0_b : List IOper := [
  ⟨some 5, .move (.slot 0), none, [], []⟩,
  ⟨some 6, .call F.regs_File_Many [.slot 5], none, [], []⟩,
  ⟨some 7, .move (.cst (.int .i64 0)), none, [], []⟩]
def C.regs_File_each_r0 : List IOper := C.regs_File_each_r0_b
theorem C.regs_File_each_r0_w {k : AFr → ASt → Prop} : aops P C.regs_File_each_r0 k fr st = aops P C.regs_File_each_r0_b k fr st := rfl
def C.regs_File_each : IFunc := ⟨2, [], .seq (.region C.regs_File_each_r0) C.regs_File_each_c8⟩
def C.regs_File_each_W := And.intro (And.intro (And.intro @C.regs_File_each_r4_w (And.intro @C.regs_File_each_c1_w @C.regs_File_each_r3_w)) (And.intro @C.regs_File_each_c2_w (And.intro @C.regs_File_each_r2_w @C.regs_File_each_b3_w))) (And.intro (And.intro @C.regs_File_each_c4_w (And.intro @C.regs_File_each_c5_w @C.regs_File_each_r1_w)) (And.intro @C.regs_File_each_b7_w (And.intro @C.regs_File_each_c8_w @C.regs_File_each_r0_w)))
def C.regs_File_each_B := And.intro (And.intro @C.regs_File_each_r4_b.eq_1 @C.regs_File_each_r3_b.eq_1) (And.intro @C.regs_File_each_r2_b.eq_1 (And.intro @C.regs_File_each_r1_b.eq_1 @C.regs_File_each_r0_b.eq_1))

def C.regs_File_Save_1_r2_b : List IOper := [
  ⟨some 7, .load1 (.slot 2), none, [], []⟩,
  ⟨some 8, .nilchk (.slot 7), none, [], []⟩,
  ⟨some 9, .fldAddr 2 (.slot 8), none, [], []⟩,
  ⟨some 10, .load1 (.slot 9), none, [], []⟩,
  ⟨some 11, .move (.slot 0), none, [], []⟩,
  ⟨some 12, .load1 (.slot 2), none, [], []⟩,
  ⟨some 13, .nilchk (.slot 12), none, [], []⟩,
  ⟨some 14, .fldAddr 1 (.slot 13), none, [], []⟩,
  ⟨some 15, .load1 (.slot 14), none, [], []⟩,
  ⟨some 16, .move (.slot 0), none, [], []⟩,
  ⟨some 17, .idxAddr 1 (.slot 15) (.slot 16), none, [], []⟩,
  ⟨some 18, .load1 (.slot 17), none, [], []⟩,
  ⟨some 19, .idxAddr 1 (.slot 10) (.slot 11), none, [], []⟩,
  ⟨none, .store1 (.slot 19) (.slot 18), none, [], []⟩]
def C.regs_File_Save_1_r2 : List IOper := C.regs_File_Save_1_r2_b
theorem C.regs_File_Save_1_r2_w {k : AFr → ASt → Prop} : aops P C.regs_File_Save_1_r2 k fr st = aops P C.regs_File_Save_1_r2_b k fr st := rfl
def C.regs_File_Save_1_c1 : ICode := .keep [0, 2, 6] (.cond (.slot 6) (.region C.regs_File_Save_1_r2) .skip)
theorem C.regs_File_Save_1_c1_w : awp P C.regs_File_Save_1_c1 Q fr st = awp P (.keep [0, 2, 6] (.cond (.slot 6) (.region C.regs_File_Save_1_r2) .skip)) Q fr st := rfl
def C.regs_File_Save_1_r1_b : List IOper := [
  ⟨some 5, .fldAddr 1 (.slot 4), none, [], []⟩,
  ⟨some 6, .load1 (.slot 5), none, [], []⟩]
def C.regs_File_Save_1_r1 : List IOper := C.regs_File_Save_1_r1_b
theorem C.regs_File_Save_1_r1_w {k : AFr → ASt → Prop} : aops P C.regs_File_Save_1_r1 k fr st = aops P C.regs_File_Save_1_r1_b k fr st := rfl
def C.regs_File_Save_1_c2 : ICode := .keep [0, 2, 4] (.seq (.region C.regs_File_Save_1_r1) C.regs_File_Save_1_c1)
theorem C.regs_File_Save_1_c2_w : awp P C.regs_File_Save_1_c2 Q fr st = awp P (.keep [0, 2, 4] (.seq (.region C.regs_File_Save_1_r1) C.regs_File_Save_1_c1)) Q fr st := rfl
def C.regs_File_Save_1_r0_b : List IOper := [
  ⟨some 4, .boxN (.slot 1), none, [], []⟩]
def C.regs_File_Save_1_r0 : List IOper := C.regs_File_Save_1_r0_b
theorem C.regs_File_Save_1_r0_w {k : AFr → ASt → Prop} : aops P C.regs_File_Save_1_r0 k fr st = aops P C.regs_File_Save_1_r0_b k fr st := rfl
def C.regs_File_Save_1 : IFunc := ⟨3, [], .seq (.region C.regs_File_Save_1_r0) C.regs_File_Save_1_c2⟩
def C.regs_File_Save_1_W := And.intro (And.intro @C.regs_File_Save_1_r2_w @C.regs_File_Save_1_c1_w) (And.intro @C.regs_File_Save_1_r1_w (And.intro @C.regs_File_Save_1_c2_w @C.regs_File_Save_1_r0_w))
def C.regs_File_Save_1_B := And.intro @C.regs_File_Save_1_r2_b.eq_1 (And.intro @C.regs_File_Save_1_r1_b.eq_1 @C.regs_File_Save_1_r0_b.eq_1)

def C.regs_File_become_r1_b : List IOper := [
  ⟨some 4, .load1 (.slot 2), none, [], []⟩,
  ⟨some 5, .makeFunc F.regs_File_become_1 [.slot 3, .slot 2], none, [], []⟩,
  ⟨some 6, .call F.regs_File_each [.slot 4, .slot 5], none, [], []⟩]
def C.regs_File_become_r1 : List IOper := C.regs_File_become_r1_b
theorem C.regs_File_become_r1_w {k : AFr → ASt → Prop} : aops P C.regs_File_become_r1 k fr st = aops P C.regs_File_become_r1_b k fr st := rfl
def C.regs_File_become_c1 : ICode := .keep [2, 3] (.region C.regs_File_become_r1)
theorem C.regs_File_become_c1_w : awp P C.regs_File_become_c1 Q fr st = awp P (.keep [2, 3] (.region C.regs_File_become_r1)) Q fr st := rfl
def C.regs_File_become_r0_b : List IOper := [
  ⟨some 2, .box1 (.slot 0), none, [], []⟩,
  ⟨some 3, .box1 (.slot 1), none, [], []⟩]
def C.regs_File_become_r0 : List IOper := C.regs_File_become_r0_b
theorem C.regs_File_become_r0_w {k : AFr → ASt → Prop} : aops P C.regs_File_become_r0 k fr st = aops P C.regs_File_become_r0_b k fr st := rfl
def C.regs_File_become : IFunc := ⟨2, [], .seq (.region C.regs_File_become_r0) C.regs_File_become_c1⟩
def C.regs_File_become_W := And.intro @C.regs_File_become_r1_w (And.intro @C.regs_File_become_c1_w @C.regs_File_become_r0_w)
def C.regs_File_become_B := And.intro @C.regs_File_become_r1_b.eq_1 @C.regs_File_become_r0_b.eq_1

def C.regs_File_Restore_1_r3_b : List IOper := [
  ⟨some 21, .fldAddr 0 (.slot 4), none, [], []⟩,
  ⟨some 22, .load1 (.slot 21), none, [], []⟩,
  ⟨some 5, .move (.slot 22), none, [], []⟩]
def C.regs_File_Restore_1_r3 : List IOper := C.regs_File_Restore_1_r3_b
theorem C.regs_File_Restore_1_r3_w {k : AFr → ASt → Prop} : aops P C.regs_File_Restore_1_r3 k fr st = aops P C.regs_File_Restore_1_r3_b k fr st := rfl
def C.regs_File_Restore_1_c1 : ICode := .keep [4] (.seq (.region C.regs_File_Restore_1_r3) .ret)
theorem C.regs_File_Restore_1_c1_w : awp P C.regs_File_Restore_1_c1 Q fr st = awp P (.keep [4] (.seq (.region C.regs_File_Restore_1_r3) .ret)) Q fr st := rfl
def C.regs_File_Restore_1_r2_b : List IOper := [
  ⟨some 14, .load1 (.slot 2), none, [], []⟩,
  ⟨some 15, .nilchk (.slot 14), none, [], []⟩,
  ⟨some 16, .fldAddr 2 (.slot 15), none, [], []⟩,
  ⟨some 17, .load1 (.slot 16), none, [], []⟩,
  ⟨some 18, .move (.slot 0), none, [], []⟩,
  ⟨some 19, .idxAddr 1 (.slot 17) (.slot 18), none, [], []⟩,
  ⟨some 20, .load1 (.slot 19), none, [], []⟩,
  ⟨some 5, .move (.slot 20), none, [], []⟩]
def C.regs_File_Restore_1_r2 : List IOper := C.regs_File_Restore_1_r2_b
theorem C.regs_File_Restore_1_r2_w {k : AFr → ASt → Prop} : aops P C.regs_File_Restore_1_r2 k fr st = aops P C.regs_File_Restore_1_r2_b k fr st := rfl
def C.regs_File_Restore_1_c2 : ICode := .seq (.region C.regs_File_Restore_1_r2) .ret
theorem C.regs_File_Restore_1_c2_w : awp P C.regs_File_Restore_1_c2 Q fr st = awp P (.seq (.region C.regs_File_Restore_1_r2) .ret) Q fr st := rfl
def C.regs_File_Restore_1_c3 : ICode := .keep [0, 2, 4, 13] (.cond (.slot 13) C.regs_File_Restore_1_c2 .skip)
theorem C.regs_File_Restore_1_c3_w : awp P C.regs_File_Restore_1_c3 Q fr st = awp P (.keep [0, 2, 4, 13] (.cond (.slot 13) C.regs_File_Restore_1_c2 .skip)) Q fr st := rfl
def C.regs_File_Restore_1_r1_b : List IOper := [
  ⟨some 6, .load1 (.slot 2), none, [], []⟩,
  ⟨some 7, .nilchk (.slot 6), none, [], []⟩,
  ⟨some 8, .fldAddr 3 (.slot 7), none, [], []⟩,
  ⟨some 9, .load1 (.slot 8), none, [], []⟩,
  ⟨some 10, .move (.slot 9), none, [], []⟩,
  ⟨some 11, .fldAddr 1 (.slot 4), some (10, true), [], []⟩,
  ⟨some 12, .load1 (.slot 11), some (10, true), [], []⟩,
  ⟨some 13, .pick (.slot 10) (.slot 12) (.cst (.bool false)), none, [], []⟩]
def C.regs_File_Restore_1_r1 : List IOper := C.regs_File_Restore_1_r1_b
theorem C.regs_File_Restore_1_r1_w {k : AFr → ASt → Prop} : aops P C.regs_File_Restore_1_r1 k fr st = aops P C.regs_File_Restore_1_r1_b k fr st := rfl
def C.regs_File_Restore_1_c4 : ICode := .keep [0, 2, 4] (.seq (.seq (.region C.regs_File_Restore_1_r1) C.regs_File_Restore_1_c3) C.regs_File_Restore_1_c1)
theorem C.regs_File_Restore_1_c4_w : awp P C.regs_File_Restore_1_c4 Q fr st = awp P (.keep [0, 2, 4] (.seq (.seq (.region C.regs_File_Restore_1_r1) C.regs_File_Restore_1_c3) C.regs_File_Restore_1_c1)) Q fr st := rfl
def C.regs_File_Restore_1_r0_b : List IOper := [
  ⟨some 4, .boxN (.slot 1), none, [], []⟩,
  ⟨some 5, .move (.cst (.int .u32 0)), none, [], []⟩]
def C.regs_File_Restore_1_r0 : List IOper := C.regs_File_Restore_1_r0_b
theorem C.regs_File_Restore_1_r0_w {k : AFr → ASt → Prop} : aops P C.regs_File_Restore_1_r0 k fr st = aops P C.regs_File_Restore_1_r0_b k fr st := rfl
def C.regs_File_Restore_1 : IFunc := ⟨3, [.slot 5], .seq (.region C.regs_File_Restore_1_r0) C.regs_File_Restore_1_c4⟩
def C.regs_File_Restore_1_W := And.intro (And.intro (And.intro @C.regs_File_Restore_1_r3_w @C.regs_File_Restore_1_c1_w) (And.intro @C.regs_File_Restore_1_r2_w @C.regs_File_Restore_1_c2_w)) (And.intro (And.intro @C.regs_File_Restore_1_c3_w @C.regs_File_Restore_1_r1_w) (And.intro @C.regs_File_Restore_1_c4_w @C.regs_File_Restore_1_r0_w))
def C.regs_File_Restore_1_B := And.intro (And.intro @C.regs_File_Restore_1_r3_b.eq_1 @C.regs_File_Restore_1_r2_b.eq_1) (And.intro @C.regs_File_Restore_1_r1_b.eq_1 @C.regs_File_Restore_1_r0_b.eq_1)

def C.regs_File_Clear_1_r1_b : List IOper := [
  ⟨some 5, .fldAddr 0 (.slot 3), none, [], []⟩,
  ⟨some 6, .load1 (.slot 5), none, [], []⟩,
  ⟨some 4, .move (.slot 6), none, [], []⟩]
def C.regs_File_Clear_1_r1 : List IOper := C.regs_File_Clear_1_r1_b
theorem C.regs_File_Clear_1_r1_w {k : AFr → ASt → Prop} : aops P C.regs_File_Clear_1_r1 k fr st = aops P C.regs_File_Clear_1_r1_b k fr st := rfl
def C.regs_File_Clear_1_c1 : ICode := .keep [3] (.seq (.region C.regs_File_Clear_1_r1) .ret)
theorem C.regs_File_Clear_1_c1_w : awp P C.regs_File_Clear_1_c1 Q fr st = awp P (.keep [3] (.seq (.region C.regs_File_Clear_1_r1) .ret)) Q fr st := rfl
def C.regs_File_Clear_1_r0_b : List IOper := [
  ⟨some 3, .boxN (.slot 1), none, [], []⟩,
  ⟨some 4, .move (.cst (.int .u32 0)), none, [], []⟩]
def C.regs_File_Clear_1_r0 : List IOper := C.regs_File_Clear_1_r0_b
theorem C.regs_File_Clear_1_r0_w {k : AFr → ASt → Prop} : aops P C.regs_File_Clear_1_r0 k fr st = aops P C.regs_File_Clear_1_r0_b k fr st := rfl
def C.regs_File_Clear_1 : IFunc := ⟨2, [.slot 4], .seq (.region C.regs_File_Clear_1_r0) C.regs_File_Clear_1_c1⟩
def C.regs_File_Clear_1_W := And.intro @C.regs_File_Clear_1_r1_w (And.intro @C.regs_File_Clear_1_c1_w @C.regs_File_Clear_1_r0_w)
def C.regs_File_Clear_1_B := And.intro @C.regs_File_Clear_1_r1_b.eq_1 @C.regs_File_Clear_1_r0_b.eq_1

def C.regs_File_become_1_r1_b : List IOper := [
  ⟨some 6, .load1 (.slot 3), none, [], []⟩,
  ⟨some 7, .nilchk (.slot 6), none, [], []⟩,
  ⟨some 8, .fldAddr 1 (.slot 7), none, [], []⟩,
  ⟨some 9, .load1 (.slot 8), none, [], []⟩,
  ⟨some 10, .move (.slot 0), none, [], []⟩,
  ⟨some 11, .load1 (.slot 2), none, [], []⟩,
  ⟨some 12, .move (.slot 0), none, [], []⟩,
  ⟨some 13, .loadN 2 (.slot 5), none, [], []⟩,
  ⟨some 14, .callv (.slot 11) [.slot 12, .slot 13], none, [⟨.load1 (.slot 3), 6, none⟩, ⟨.load1 (.slot 8), 9, none⟩], []⟩,
  ⟨some 15, .idxAddr 1 (.slot 9) (.slot 10), none, [], []⟩,
  ⟨none, .store1 (.slot 15) (.slot 14), none, [], []⟩]
def C.regs_File_become_1_r1 : List IOper := C.regs_File_become_1_r1_b
theorem C.regs_File_become_1_r1_w {k : AFr → ASt → Prop} : aops P C.regs_File_become_1_r1 k fr st = aops P C.regs_File_become_1_r1_b k fr st := rfl
def C.regs_File_become_1_c1 : ICode := .keep [0, 2, 3, 5] (.region C.regs_File_become_1_r1)
theorem C.regs_File_become_1_c1_w : awp P C.regs_File_become_1_c1 Q fr st = awp P (.keep [0, 2, 3, 5] (.region C.regs_File_become_1_r1)) Q fr st := rfl
def C.regs_File_become_1_r0_b : List IOper := [
  ⟨some 5, .boxN (.slot 1), none, [], []⟩]
def C.regs_File_become_1_r0 : List IOper := C.regs_File_become_1_r0_b
theorem C.regs_File_become_1_r0_w {k : AFr → ASt → Prop} : aops P C.regs_File_become_1_r0 k fr st = aops P C.regs_File_become_1_r0_b k fr st := rfl
def C.regs_File_become_1 : IFunc := ⟨4, [], .seq (.region C.regs_File_become_1_r0) C.regs_File_become_1_c1⟩
def C.regs_File_become_1_W := And.intro @C.regs_File_become_1_r1_w (And.intro @C.regs_File_become_1_c1_w @C.regs_File_become_1_r0_w)
def C.regs_File_become_1_B := And.intro @C.regs_File_become_1_r1_b.eq_1 @C.regs_File_become_1_r0_b.eq_1

end Go.Proofs.Ytlnhljcfcnmglaa.Cn
