/- The intermediate code of the functions, printed by a program out of the loaded program; that it is theirs is checked in the text of links. -/
import Derived.Test.YtgfpnfnjnakoaaaCnIr2
set_option linter.defProp false
namespace Go.Proofs.Ytgfpnfnjnakoaaa.Cn
open Go
variable {P : Program} {Q : IExit → AFr → ASt → Prop} {fr : AFr} {st : ASt}


def C.conf_Check_7_1_r1_b : List IOper := [
 X.o 4 (.loadN 4 (X.s 1)),
 X.o 5 (.loadN 6 (X.s 2)),
 X.o 6 (.call F.conf_device [X.s 4, X.s 5]),
 X.m 3 6]
def C.conf_Check_7_1_r1 : List IOper := C.conf_Check_7_1_r1_b
def C.conf_Check_7_1_r1_w := @aopsE _ _ C.conf_Check_7_1_r1.eq_1
def C.conf_Check_7_1_c1 : ICode := .keep [1, 2] (.seq (.region C.conf_Check_7_1_r1) .ret)
def C.conf_Check_7_1_c1_w := @awpE _ _ C.conf_Check_7_1_c1.eq_1
def C.conf_Check_7_1_r0_b : List IOper := [
 X.o 2 (.boxN (X.s 0)),
 X.o 3 (.move (X.i 0))]
def C.conf_Check_7_1_r0 : List IOper := C.conf_Check_7_1_r0_b
def C.conf_Check_7_1_r0_w := @aopsE _ _ C.conf_Check_7_1_r0.eq_1
def C.conf_Check_7_1 : IFunc := ⟨2, [.slot 3], .seq (.region C.conf_Check_7_1_r0) C.conf_Check_7_1_c1⟩
def C.conf_Check_7_1_W := And.intro @C.conf_Check_7_1_r1_w (And.intro @C.conf_Check_7_1_c1_w @C.conf_Check_7_1_r0_w)
def C.conf_Check_7_1_B := And.intro @C.conf_Check_7_1_r1_b.eq_1 @C.conf_Check_7_1_r0_b.eq_1

def C.conf_device_r1_b : List IOper := [
 X.o 5 (.makeFunc F.conf_device_1 [X.s 3, X.s 2]),
 X.o 6 (.makeFunc F.conf_device_2 [X.s 3, X.s 2]),
 X.o 7 (.makeFunc F.conf_device_3 [X.s 3, X.s 2]),
 X.o 8 (.makeFunc F.conf_device_4 [X.s 3, X.s 2]),
 X.o 9 (.buildSlice 1 4 [.nilf] [(0, 1, X.s 5), (1, 1, X.s 6), (2, 1, X.s 7), (3, 1, X.s 8)]),
 X.o 10 (.call F.conf_first [X.s 9]),
 X.m 4 10]
def C.conf_device_r1 : List IOper := C.conf_device_r1_b
def C.conf_device_r1_w := @aopsE _ _ C.conf_device_r1.eq_1
def C.conf_device_c1 : ICode := .keep [2, 3] (.seq (.region C.conf_device_r1) .ret)
def C.conf_device_c1_w := @awpE _ _ C.conf_device_c1.eq_1
def C.conf_device_r0_b : List IOper := [
 X.o 2 (.boxN (X.s 0)),
 X.o 3 (.boxN (X.s 1)),
 X.o 4 (.move (X.i 0))]
def C.conf_device_r0 : List IOper := C.conf_device_r0_b
def C.conf_device_r0_w := @aopsE _ _ C.conf_device_r0.eq_1
def C.conf_device : IFunc := ⟨2, [.slot 4], .seq (.region C.conf_device_r0) C.conf_device_c1⟩
def C.conf_device_W := And.intro @C.conf_device_r1_w (And.intro @C.conf_device_c1_w @C.conf_device_r0_w)
def C.conf_device_B := And.intro @C.conf_device_r1_b.eq_1 @C.conf_device_r0_b.eq_1

def C.conf_Check_8_r1_b : List IOper := [
 X.o 2 (.loadN 4 (X.s 0)),
 X.o 3 (.call F.conf_Needs [X.s 2]),
 X.o 4 (.call F.conf_cycle [X.s 3]),
 X.m 1 4]
def C.conf_Check_8_r1 : List IOper := C.conf_Check_8_r1_b
def C.conf_Check_8_r1_w := @aopsE _ _ C.conf_Check_8_r1.eq_1
def C.conf_Check_8_c1 : ICode := .keep [0] (.seq (.region C.conf_Check_8_r1) .ret)
def C.conf_Check_8_c1_w := @awpE _ _ C.conf_Check_8_c1.eq_1
def C.conf_Check_8_r0_b : List IOper := [
 X.o 1 (.move (X.i 0))]
def C.conf_Check_8_r0 : List IOper := C.conf_Check_8_r0_b
def C.conf_Check_8_r0_w := @aopsE _ _ C.conf_Check_8_r0.eq_1
def C.conf_Check_8 : IFunc := ⟨1, [.slot 1], .seq (.region C.conf_Check_8_r0) C.conf_Check_8_c1⟩
def C.conf_Check_8_W := And.intro @C.conf_Check_8_r1_w (And.intro @C.conf_Check_8_c1_w @C.conf_Check_8_r0_w)
def C.conf_Check_8_B := And.intro @C.conf_Check_8_r1_b.eq_1 @C.conf_Check_8_r0_b.eq_1

def C.conf_Needs_r7_b : List IOper := [
 X.m 25 3,
 X.m 2 25]
def C.conf_Needs_r7 : List IOper := C.conf_Needs_r7_b
def C.conf_Needs_r7_w := @aopsE _ _ C.conf_Needs_r7.eq_1
def C.conf_Needs_c1 : ICode := .keep [3] (.seq (.region C.conf_Needs_r7) .ret)
def C.conf_Needs_c1_w := @awpE _ _ C.conf_Needs_c1.eq_1
def C.conf_Needs_r6_b : List IOper := [
 X.o 24 (.bin .add (X.s 13) (X.i 1)),
 X.m 13 24]
def C.conf_Needs_r6 : List IOper := C.conf_Needs_r6_b
def C.conf_Needs_r6_w := @aopsE _ _ C.conf_Needs_r6.eq_1
def C.conf_Needs_c2 : ICode := .keep [3, 11, 12, 13] (.region C.conf_Needs_r6)
def C.conf_Needs_c2_w := @awpE _ _ C.conf_Needs_c2.eq_1
def C.conf_Needs_r5_b : List IOper := [
 X.m 18 3,
 X.m 19 4,
 X.o 20 (.fldAddr 5 (X.s 5)),
 X.o 21 (.load1 (X.s 20)),
 X.o 22 (.call F.conf_own_int [X.s 21]),
 X.o 23 (.idxAddr 1 (X.s 18) (X.s 19)),
 X.n (.store1 (X.s 23) (X.s 22))]
def C.conf_Needs_r5 : List IOper := C.conf_Needs_r5_b
def C.conf_Needs_r5_w := @aopsE _ _ C.conf_Needs_r5.eq_1
def C.conf_Needs_c3 : ICode := .keep [3, 4, 5, 11, 12, 13] (.region C.conf_Needs_r5)
def C.conf_Needs_c3_w := @awpE _ _ C.conf_Needs_c3.eq_1
def C.conf_Needs_r4_b : List IOper := [
 X.m 15 13,
 X.o 16 (.idxAddr 6 (X.s 11) (X.s 13)),
 X.o 17 (.loadN 6 (X.s 16)),
 X.o 5 (.alloc [.int .i64 0, .int .i64 0, .int .i64 0, .int .u32 0, .nils, .nils]),
 X.m 4 15,
 X.n (.storeN 6 (X.s 5) (X.s 17))]
def C.conf_Needs_r4 : List IOper := C.conf_Needs_r4_b
def C.conf_Needs_r4_w := @aopsE _ _ C.conf_Needs_r4.eq_1
def C.conf_Needs_b4 : ICode := .seq (.region C.conf_Needs_r4) C.conf_Needs_c3
def C.conf_Needs_b4_w := @awpE _ _ C.conf_Needs_b4.eq_1
def C.conf_Needs_c5 : ICode := .keep [3, 11, 12, 13] (.seq (.block 1 C.conf_Needs_b4) C.conf_Needs_c2)
def C.conf_Needs_c5_w := @awpE _ _ C.conf_Needs_c5.eq_1
def C.conf_Needs_c6 : ICode := .keep [3, 11, 12, 13, 14] (.seq (.cond (X.s 14) .skip (.exit 0)) C.conf_Needs_c5)
def C.conf_Needs_c6_w := @awpE _ _ C.conf_Needs_c6.eq_1
def C.conf_Needs_r3_b : List IOper := [
 X.o 14 (.bin .lss (X.s 13) (X.s 12))]
def C.conf_Needs_r3 : List IOper := C.conf_Needs_r3_b
def C.conf_Needs_r3_w := @aopsE _ _ C.conf_Needs_r3.eq_1
def C.conf_Needs_l7 : ICode := .keep [3, 11, 12, 13] (.seq (.region C.conf_Needs_r3) C.conf_Needs_c6)
def C.conf_Needs_l7_w := @awpE _ _ C.conf_Needs_l7.eq_1
def C.conf_Needs_b8 : ICode := .loop C.conf_Needs_l7
def C.conf_Needs_b8_w := @awpE _ _ C.conf_Needs_b8.eq_1
def C.conf_Needs_c9 : ICode := .keep [3, 11, 12, 13] (.block 0 C.conf_Needs_b8)
def C.conf_Needs_c9_w := @awpE _ _ C.conf_Needs_c9.eq_1
def C.conf_Needs_r2_b : List IOper := [
 X.o 10 (.fldAddr 3 (X.s 1)),
 X.o 11 (.load1 (X.s 10)),
 X.o 12 (.len (X.s 11)),
 X.o 13 (.move (X.i 0))]
def C.conf_Needs_r2 : List IOper := C.conf_Needs_r2_b
def C.conf_Needs_r2_w := @aopsE _ _ C.conf_Needs_r2.eq_1
def C.conf_Needs_c10 : ICode := .keep [1, 3] (.seq (.seq (.region C.conf_Needs_r2) C.conf_Needs_c9) C.conf_Needs_c1)
def C.conf_Needs_c10_w := @awpE _ _ C.conf_Needs_c10.eq_1
def C.conf_Needs_r1_b : List IOper := [
 X.o 6 (.fldAddr 3 (X.s 1)),
 X.o 7 (.load1 (X.s 6)),
 X.o 8 (.len (X.s 7)),
 X.o 9 (.makeSlice 1 24 [.nils] (X.s 8) (X.s 8)),
 X.m 3 9]
def C.conf_Needs_r1 : List IOper := C.conf_Needs_r1_b
def C.conf_Needs_r1_w := @aopsE _ _ C.conf_Needs_r1.eq_1
def C.conf_Needs_c11 : ICode := .keep [1] (.seq (.region C.conf_Needs_r1) C.conf_Needs_c10)
def C.conf_Needs_c11_w := @awpE _ _ C.conf_Needs_c11.eq_1
def C.conf_Needs_r0_b : List IOper := [
 X.o 1 (.boxN (X.s 0)),
 X.o 2 (.move (.cst (.nils)))]
def C.conf_Needs_r0 : List IOper := C.conf_Needs_r0_b
def C.conf_Needs_r0_w := @aopsE _ _ C.conf_Needs_r0.eq_1
def C.conf_Needs : IFunc := ⟨1, [.slot 2], .seq (.region C.conf_Needs_r0) C.conf_Needs_c11⟩
def C.conf_Needs_W := And.intro (And.intro (And.intro (And.intro @C.conf_Needs_r7_w @C.conf_Needs_c1_w) (And.intro @C.conf_Needs_r6_w @C.conf_Needs_c2_w)) (And.intro (And.intro @C.conf_Needs_r5_w @C.conf_Needs_c3_w) (And.intro @C.conf_Needs_r4_w (And.intro @C.conf_Needs_b4_w @C.conf_Needs_c5_w)))) (And.intro (And.intro (And.intro @C.conf_Needs_c6_w @C.conf_Needs_r3_w) (And.intro @C.conf_Needs_b8_w @C.conf_Needs_c9_w)) (And.intro (And.intro @C.conf_Needs_r2_w @C.conf_Needs_c10_w) (And.intro @C.conf_Needs_r1_w (And.intro @C.conf_Needs_c11_w @C.conf_Needs_r0_w))))
def C.conf_Needs_B := And.intro (And.intro (And.intro @C.conf_Needs_r7_b.eq_1 @C.conf_Needs_r6_b.eq_1) (And.intro @C.conf_Needs_r5_b.eq_1 @C.conf_Needs_r4_b.eq_1)) (And.intro (And.intro @C.conf_Needs_r3_b.eq_1 @C.conf_Needs_r2_b.eq_1) (And.intro @C.conf_Needs_r1_b.eq_1 @C.conf_Needs_r0_b.eq_1))

def C.conf_full_1_r1_b : List IOper := [
 X.o 3 (.fldAddr 4 (X.s 1)),
 X.o 4 (.load1 (X.s 3)),
 X.o 5 (.len (X.s 4)),
 X.o 6 (.bin .gtr (X.s 5) (X.i 8)),
 X.m 7 6,
 X.f 7 8 (.fldAddr 5 (X.s 1)),
 X.f 7 9 (.load1 (X.s 8)),
 X.f 7 10 (.len (X.s 9)),
 X.f 7 11 (.bin .gtr (X.s 10) (X.i 6)),
 X.o 12 (.pick (X.s 7) (.cst (.bool true)) (X.s 11)),
 X.o 13 (.call F.conf_when [X.s 12, X.i 8]),
 X.m 2 13]
def C.conf_full_1_r1 : List IOper := C.conf_full_1_r1_b
def C.conf_full_1_r1_w := @aopsE _ _ C.conf_full_1_r1.eq_1
def C.conf_full_1_c1 : ICode := .keep [1] (.seq (.region C.conf_full_1_r1) .ret)
def C.conf_full_1_c1_w := @awpE _ _ C.conf_full_1_c1.eq_1
def C.conf_full_1_r0_b : List IOper := [
 X.o 1 (.boxN (X.s 0)),
 X.o 2 (.move (X.i 0))]
def C.conf_full_1_r0 : List IOper := C.conf_full_1_r0_b
def C.conf_full_1_r0_w := @aopsE _ _ C.conf_full_1_r0.eq_1
def C.conf_full_1 : IFunc := ⟨1, [.slot 2], .seq (.region C.conf_full_1_r0) C.conf_full_1_c1⟩
def C.conf_full_1_W := And.intro @C.conf_full_1_r1_w (And.intro @C.conf_full_1_c1_w @C.conf_full_1_r0_w)
def C.conf_full_1_B := And.intro @C.conf_full_1_r1_b.eq_1 @C.conf_full_1_r0_b.eq_1

def C.conf_when_r3_b : List IOper := [
 X.o 4 (.move (X.i 0))]
def C.conf_when_r3 : List IOper := C.conf_when_r3_b
def C.conf_when_r3_w := @aopsE _ _ C.conf_when_r3.eq_1
def C.conf_when_c1 : ICode := .keep [] (.seq (.region C.conf_when_r3) .ret)
def C.conf_when_c1_w := @awpE _ _ C.conf_when_c1.eq_1
def C.conf_when_r2_b : List IOper := [
 X.m 6 1,
 X.m 4 6]
def C.conf_when_r2 : List IOper := C.conf_when_r2_b
def C.conf_when_r2_w := @aopsE _ _ C.conf_when_r2.eq_1
def C.conf_when_c2 : ICode := .seq (.region C.conf_when_r2) .ret
def C.conf_when_c2_w := @awpE _ _ C.conf_when_c2.eq_1
def C.conf_when_c3 : ICode := .keep [1, 5] (.cond (X.s 5) C.conf_when_c2 .skip)
def C.conf_when_c3_w := @awpE _ _ C.conf_when_c3.eq_1
def C.conf_when_r1_b : List IOper := [
 X.m 5 0]
def C.conf_when_r1 : List IOper := C.conf_when_r1_b
def C.conf_when_r1_w := @aopsE _ _ C.conf_when_r1.eq_1
def C.conf_when_c4 : ICode := .keep [0, 1] (.seq (.seq (.region C.conf_when_r1) C.conf_when_c3) C.conf_when_c1)
def C.conf_when_c4_w := @awpE _ _ C.conf_when_c4.eq_1
def C.conf_when_r0_b : List IOper := [
 X.o 4 (.move (X.i 0))]
def C.conf_when_r0 : List IOper := C.conf_when_r0_b
def C.conf_when_r0_w := @aopsE _ _ C.conf_when_r0.eq_1
def C.conf_when : IFunc := ⟨2, [.slot 4], .seq (.region C.conf_when_r0) C.conf_when_c4⟩
def C.conf_when_W := And.intro (And.intro (And.intro @C.conf_when_r3_w @C.conf_when_c1_w) (And.intro @C.conf_when_r2_w @C.conf_when_c2_w)) (And.intro (And.intro @C.conf_when_c3_w @C.conf_when_r1_w) (And.intro @C.conf_when_c4_w @C.conf_when_r0_w))
def C.conf_when_B := And.intro (And.intro @C.conf_when_r3_b.eq_1 @C.conf_when_r2_b.eq_1) (And.intro @C.conf_when_r1_b.eq_1 @C.conf_when_r0_b.eq_1)

def C.conf_clock_1_r1_b : List IOper := [
 X.o 2 (.loadN 6 (X.s 0)),
 X.o 3 (.call F.conf_shape [X.s 2]),
 X.o 4 (.un .not (X.s 3)),
 X.o 5 (.call F.conf_when [X.s 4, X.i 1]),
 X.m 1 5]
def C.conf_clock_1_r1 : List IOper := C.conf_clock_1_r1_b
def C.conf_clock_1_r1_w := @aopsE _ _ C.conf_clock_1_r1.eq_1
def C.conf_clock_1_c1 : ICode := .keep [0] (.seq (.region C.conf_clock_1_r1) .ret)
def C.conf_clock_1_c1_w := @awpE _ _ C.conf_clock_1_c1.eq_1
def C.conf_clock_1_r0_b : List IOper := [
 X.o 1 (.move (X.i 0))]
def C.conf_clock_1_r0 : List IOper := C.conf_clock_1_r0_b
def C.conf_clock_1_r0_w := @aopsE _ _ C.conf_clock_1_r0.eq_1
def C.conf_clock_1 : IFunc := ⟨1, [.slot 1], .seq (.region C.conf_clock_1_r0) C.conf_clock_1_c1⟩
def C.conf_clock_1_W := And.intro @C.conf_clock_1_r1_w (And.intro @C.conf_clock_1_c1_w @C.conf_clock_1_r0_w)
def C.conf_clock_1_B := And.intro @C.conf_clock_1_r1_b.eq_1 @C.conf_clock_1_r0_b.eq_1

def C.conf_shape_r10_b : List IOper := [
 X.o 2 (.move (.cst (.bool false)))]
def C.conf_shape_r10 : List IOper := C.conf_shape_r10_b
def C.conf_shape_r10_w := @aopsE _ _ C.conf_shape_r10.eq_1
def C.conf_shape_c1 : ICode := .keep [] (.seq (.region C.conf_shape_r10) .ret)
def C.conf_shape_c1_w := @awpE _ _ C.conf_shape_c1.eq_1
def C.conf_shape_r3_b : List IOper := [
 X.o 7 (.fldAddr 1 (X.s 1)),
 X.o 8 (.load1 (X.s 7)),
 X.o 9 (.len (X.s 8)),
 X.o 10 (.bin .eql (X.s 9) (X.i 0)),
 X.m 2 10]
def C.conf_shape_r3 : List IOper := C.conf_shape_r3_b
def C.conf_shape_r3_w := @aopsE _ _ C.conf_shape_r3.eq_1
def C.conf_shape_r7_b : List IOper := [
 X.o 15 (.fldAddr 1 (X.s 1)),
 X.o 16 (.load1 (X.s 15)),
 X.o 17 (.len (X.s 16)),
 X.o 18 (.bin .eql (X.s 17) (X.i 1)),
 X.m 2 18]
def C.conf_shape_r7 : List IOper := C.conf_shape_r7_b
def C.conf_shape_r7_w := @aopsE _ _ C.conf_shape_r7.eq_1
def C.conf_shape_r9_b : List IOper := [
 X.o 21 (.fldAddr 1 (X.s 1)),
 X.o 22 (.load1 (X.s 21)),
 X.o 23 (.len (X.s 22)),
 X.o 24 (.call F.conf_within [X.s 23, X.i 1, X.i 4]),
 X.m 2 24]
def C.conf_shape_r9 : List IOper := C.conf_shape_r9_b
def C.conf_shape_r9_w := @aopsE _ _ C.conf_shape_r9.eq_1
def C.conf_shape_c2 : ICode := .seq (.region C.conf_shape_r9) .ret
def C.conf_shape_c2_w := @awpE _ _ C.conf_shape_c2.eq_1
def C.conf_shape_c3 : ICode := .keep [1, 19] (.cond (X.s 19) C.conf_shape_c2 .skip)
def C.conf_shape_c3_w := @awpE _ _ C.conf_shape_c3.eq_1
def C.conf_shape_r8_b : List IOper := [
 X.o 20 (.bin .eql (X.s 4) (.cst (.int .u8 109))),
 X.m 19 20]
def C.conf_shape_r8 : List IOper := C.conf_shape_r8_b
def C.conf_shape_r8_w := @aopsE _ _ C.conf_shape_r8.eq_1
def C.conf_shape_c4 : ICode := .seq (.region C.conf_shape_r7) .ret
def C.conf_shape_c4_w := @awpE _ _ C.conf_shape_c4.eq_1
def C.conf_shape_c5 : ICode := .seq (.region C.conf_shape_r8) C.conf_shape_c3
def C.conf_shape_c5_w := @awpE _ _ C.conf_shape_c5.eq_1
def C.conf_shape_c6 : ICode := .keep [1, 4, 11] (.cond (X.s 11) C.conf_shape_c4 C.conf_shape_c5)
def C.conf_shape_c6_w := @awpE _ _ C.conf_shape_c6.eq_1
def C.conf_shape_r6_b : List IOper := [
 X.o 14 (.bin .eql (X.s 4) (.cst (.int .u8 103))),
 X.m 11 14]
def C.conf_shape_r6 : List IOper := C.conf_shape_r6_b
def C.conf_shape_r6_w := @aopsE _ _ C.conf_shape_r6.eq_1
def C.conf_shape_c7 : ICode := .keep [1, 4, 11] (.cond (X.s 11) .skip (.region C.conf_shape_r6))
def C.conf_shape_c7_w := @awpE _ _ C.conf_shape_c7.eq_1
def C.conf_shape_r5_b : List IOper := [
 X.o 13 (.bin .eql (X.s 4) (.cst (.int .u8 100))),
 X.m 11 13]
def C.conf_shape_r5 : List IOper := C.conf_shape_r5_b
def C.conf_shape_r5_w := @aopsE _ _ C.conf_shape_r5.eq_1
def C.conf_shape_c8 : ICode := .seq (.region C.conf_shape_r5) C.conf_shape_c7
def C.conf_shape_c8_w := @awpE _ _ C.conf_shape_c8.eq_1
def C.conf_shape_c9 : ICode := .keep [1, 4, 11] (.cond (X.s 11) .skip C.conf_shape_c8)
def C.conf_shape_c9_w := @awpE _ _ C.conf_shape_c9.eq_1
def C.conf_shape_r4_b : List IOper := [
 X.o 12 (.bin .eql (X.s 4) (.cst (.int .u8 112))),
 X.m 11 12]
def C.conf_shape_r4 : List IOper := C.conf_shape_r4_b
def C.conf_shape_r4_w := @aopsE _ _ C.conf_shape_r4.eq_1
def C.conf_shape_c10 : ICode := .seq (.region C.conf_shape_r3) .ret
def C.conf_shape_c10_w := @awpE _ _ C.conf_shape_c10.eq_1
def C.conf_shape_c11 : ICode := .seq (.seq (.region C.conf_shape_r4) C.conf_shape_c9) C.conf_shape_c6
def C.conf_shape_c11_w := @awpE _ _ C.conf_shape_c11.eq_1
def C.conf_shape_c12 : ICode := .keep [1, 4, 5] (.cond (X.s 5) C.conf_shape_c10 C.conf_shape_c11)
def C.conf_shape_c12_w := @awpE _ _ C.conf_shape_c12.eq_1
def C.conf_shape_r2_b : List IOper := [
 X.o 6 (.bin .eql (X.s 4) (.cst (.int .u8 111))),
 X.m 5 6]
def C.conf_shape_r2 : List IOper := C.conf_shape_r2_b
def C.conf_shape_r2_w := @aopsE _ _ C.conf_shape_r2.eq_1
def C.conf_shape_b13 : ICode := .seq (.region C.conf_shape_r2) C.conf_shape_c12
def C.conf_shape_b13_w := @awpE _ _ C.conf_shape_b13.eq_1
def C.conf_shape_c14 : ICode := .keep [1, 4] (.block 0 C.conf_shape_b13)
def C.conf_shape_c14_w := @awpE _ _ C.conf_shape_c14.eq_1
def C.conf_shape_r1_b : List IOper := [
 X.o 3 (.fldAddr 0 (X.s 1)),
 X.o 4 (.load1 (X.s 3))]
def C.conf_shape_r1 : List IOper := C.conf_shape_r1_b
def C.conf_shape_r1_w := @aopsE _ _ C.conf_shape_r1.eq_1
def C.conf_shape_c15 : ICode := .keep [1] (.seq (.seq (.region C.conf_shape_r1) C.conf_shape_c14) C.conf_shape_c1)
def C.conf_shape_c15_w := @awpE _ _ C.conf_shape_c15.eq_1
def C.conf_shape_r0_b : List IOper := [
 X.o 1 (.boxN (X.s 0)),
 X.o 2 (.move (.cst (.bool false)))]
def C.conf_shape_r0 : List IOper := C.conf_shape_r0_b
def C.conf_shape_r0_w := @aopsE _ _ C.conf_shape_r0.eq_1
def C.conf_shape : IFunc := ⟨1, [.slot 2], .seq (.region C.conf_shape_r0) C.conf_shape_c15⟩
def C.conf_shape_W := And.intro (And.intro (And.intro (And.intro @C.conf_shape_r10_w (And.intro @C.conf_shape_c1_w @C.conf_shape_r3_w)) (And.intro @C.conf_shape_r7_w (And.intro @C.conf_shape_r9_w @C.conf_shape_c2_w))) (And.intro (And.intro @C.conf_shape_c3_w (And.intro @C.conf_shape_r8_w @C.conf_shape_c4_w)) (And.intro (And.intro @C.conf_shape_c5_w @C.conf_shape_c6_w) (And.intro @C.conf_shape_r6_w @C.conf_shape_c7_w)))) (And.intro (And.intro (And.intro @C.conf_shape_r5_w (And.intro @C.conf_shape_c8_w @C.conf_shape_c9_w)) (And.intro @C.conf_shape_r4_w (And.intro @C.conf_shape_c10_w @C.conf_shape_c11_w))) (And.intro (And.intro @C.conf_shape_c12_w (And.intro @C.conf_shape_r2_w @C.conf_shape_b13_w)) (And.intro (And.intro @C.conf_shape_c14_w @C.conf_shape_r1_w) (And.intro @C.conf_shape_c15_w @C.conf_shape_r0_w))))
def C.conf_shape_B := And.intro (And.intro (And.intro @C.conf_shape_r10_b.eq_1 @C.conf_shape_r3_b.eq_1) (And.intro @C.conf_shape_r7_b.eq_1 (And.intro @C.conf_shape_r9_b.eq_1 @C.conf_shape_r8_b.eq_1))) (And.intro (And.intro @C.conf_shape_r6_b.eq_1 (And.intro @C.conf_shape_r5_b.eq_1 @C.conf_shape_r4_b.eq_1)) (And.intro @C.conf_shape_r2_b.eq_1 (And.intro @C.conf_shape_r1_b.eq_1 @C.conf_shape_r0_b.eq_1)))

def C.conf_clock_2_r1_b : List IOper := [
 X.o 3 (.fldAddr 1 (X.s 0)),
 X.o 4 (.load1 (X.s 3)),
 X.o 5 (.makeFunc F.conf_clock_2_1 [X.s 1]),
 X.o 6 (.call F.conf_each_int [X.s 4, X.s 5]),
 X.m 2 6]
def C.conf_clock_2_r1 : List IOper := C.conf_clock_2_r1_b
def C.conf_clock_2_r1_w := @aopsE _ _ C.conf_clock_2_r1.eq_1
def C.conf_clock_2_c1 : ICode := .keep [0, 1] (.seq (.region C.conf_clock_2_r1) .ret)
def C.conf_clock_2_c1_w := @awpE _ _ C.conf_clock_2_c1.eq_1
def C.conf_clock_2_r0_b : List IOper := [
 X.o 2 (.move (X.i 0))]
def C.conf_clock_2_r0 : List IOper := C.conf_clock_2_r0_b
def C.conf_clock_2_r0_w := @aopsE _ _ C.conf_clock_2_r0.eq_1
def C.conf_clock_2 : IFunc := ⟨2, [.slot 2], .seq (.region C.conf_clock_2_r0) C.conf_clock_2_c1⟩
def C.conf_clock_2_W := And.intro @C.conf_clock_2_r1_w (And.intro @C.conf_clock_2_c1_w @C.conf_clock_2_r0_w)
def C.conf_clock_2_B := And.intro @C.conf_clock_2_r1_b.eq_1 @C.conf_clock_2_r0_b.eq_1

def C.conf_each_int_r8_b : List IOper := [
 X.o 4 (.move (X.i 0))]
def C.conf_each_int_r8 : List IOper := C.conf_each_int_r8_b
def C.conf_each_int_r8_w := @aopsE _ _ C.conf_each_int_r8.eq_1
def C.conf_each_int_c1 : ICode := .keep [] (.seq (.region C.conf_each_int_r8) .ret)
def C.conf_each_int_c1_w := @awpE _ _ C.conf_each_int_c1.eq_1
def C.conf_each_int_r7_b : List IOper := [
 X.o 20 (.bin .add (X.s 10) (X.i 1)),
 X.m 10 20]
def C.conf_each_int_r7 : List IOper := C.conf_each_int_r7_b
def C.conf_each_int_r7_w := @aopsE _ _ C.conf_each_int_r7.eq_1
def C.conf_each_int_c2 : ICode := .keep [1, 8, 9, 10] (.region C.conf_each_int_r7)
def C.conf_each_int_c2_w := @awpE _ _ C.conf_each_int_c2.eq_1
def C.conf_each_int_r6_b : List IOper := [
 X.m 19 7,
 X.m 4 19]
def C.conf_each_int_r6 : List IOper := C.conf_each_int_r6_b
def C.conf_each_int_r6_w := @aopsE _ _ C.conf_each_int_r6.eq_1
def C.conf_each_int_c3 : ICode := .seq (.region C.conf_each_int_r6) .ret
def C.conf_each_int_c3_w := @awpE _ _ C.conf_each_int_c3.eq_1
def C.conf_each_int_c4 : ICode := .keep [1, 7, 8, 9, 10, 18] (.cond (X.s 18) C.conf_each_int_c3 .skip)
def C.conf_each_int_c4_w := @awpE _ _ C.conf_each_int_c4.eq_1
def C.conf_each_int_r5_b : List IOper := [
 X.m 17 7,
 X.o 18 (.bin .neq (X.s 17) (X.i 0))]
def C.conf_each_int_r5 : List IOper := C.conf_each_int_r5_b
def C.conf_each_int_r5_w := @aopsE _ _ C.conf_each_int_r5.eq_1
def C.conf_each_int_c5 : ICode := .keep [1, 7, 8, 9, 10] (.seq (.region C.conf_each_int_r5) C.conf_each_int_c4)
def C.conf_each_int_c5_w := @awpE _ _ C.conf_each_int_c5.eq_1
def C.conf_each_int_r4_b : List IOper := [
 X.m 14 1,
 X.m 15 6,
 X.o 16 (.callv (X.s 14) [X.s 15]),
 X.m 7 16]
def C.conf_each_int_r4 : List IOper := C.conf_each_int_r4_b
def C.conf_each_int_r4_w := @aopsE _ _ C.conf_each_int_r4.eq_1
def C.conf_each_int_c6 : ICode := .keep [1, 6, 8, 9, 10] (.seq (.region C.conf_each_int_r4) C.conf_each_int_c5)
def C.conf_each_int_c6_w := @awpE _ _ C.conf_each_int_c6.eq_1
def C.conf_each_int_r3_b : List IOper := [
 X.o 12 (.idxAddr 1 (X.s 8) (X.s 10)),
 X.o 13 (.load1 (X.s 12)),
 X.m 6 13]
def C.conf_each_int_r3 : List IOper := C.conf_each_int_r3_b
def C.conf_each_int_r3_w := @aopsE _ _ C.conf_each_int_r3.eq_1
def C.conf_each_int_b7 : ICode := .seq (.region C.conf_each_int_r3) C.conf_each_int_c6
def C.conf_each_int_b7_w := @awpE _ _ C.conf_each_int_b7.eq_1
def C.conf_each_int_c8 : ICode := .keep [1, 8, 9, 10] (.seq (.block 1 C.conf_each_int_b7) C.conf_each_int_c2)
def C.conf_each_int_c8_w := @awpE _ _ C.conf_each_int_c8.eq_1
def C.conf_each_int_c9 : ICode := .keep [1, 8, 9, 10, 11] (.seq (.cond (X.s 11) .skip (.exit 0)) C.conf_each_int_c8)
def C.conf_each_int_c9_w := @awpE _ _ C.conf_each_int_c9.eq_1
def C.conf_each_int_r2_b : List IOper := [
 X.o 11 (.bin .lss (X.s 10) (X.s 9))]
def C.conf_each_int_r2 : List IOper := C.conf_each_int_r2_b
def C.conf_each_int_r2_w := @aopsE _ _ C.conf_each_int_r2.eq_1
def C.conf_each_int_l10 : ICode := .keep [1, 8, 9, 10] (.seq (.region C.conf_each_int_r2) C.conf_each_int_c9)
def C.conf_each_int_l10_w := @awpE _ _ C.conf_each_int_l10.eq_1
def C.conf_each_int_b11 : ICode := .loop C.conf_each_int_l10
def C.conf_each_int_b11_w := @awpE _ _ C.conf_each_int_b11.eq_1
def C.conf_each_int_c12 : ICode := .keep [1, 8, 9, 10] (.block 0 C.conf_each_int_b11)
def C.conf_each_int_c12_w := @awpE _ _ C.conf_each_int_c12.eq_1
def C.conf_each_int_r1_b : List IOper := [
 X.m 8 0,
 X.o 9 (.len (X.s 8)),
 X.o 10 (.move (X.i 0))]
def C.conf_each_int_r1 : List IOper := C.conf_each_int_r1_b
def C.conf_each_int_r1_w := @aopsE _ _ C.conf_each_int_r1.eq_1
def C.conf_each_int_c13 : ICode := .keep [0, 1] (.seq (.seq (.region C.conf_each_int_r1) C.conf_each_int_c12) C.conf_each_int_c1)
def C.conf_each_int_c13_w := @awpE _ _ C.conf_each_int_c13.eq_1
def C.conf_each_int_r0_b : List IOper := [
 X.o 4 (.move (X.i 0))]
def C.conf_each_int_r0 : List IOper := C.conf_each_int_r0_b
def C.conf_each_int_r0_w := @aopsE _ _ C.conf_each_int_r0.eq_1
def C.conf_each_int : IFunc := ⟨2, [.slot 4], .seq (.region C.conf_each_int_r0) C.conf_each_int_c13⟩
def C.conf_each_int_W := And.intro (And.intro (And.intro (And.intro @C.conf_each_int_r8_w @C.conf_each_int_c1_w) (And.intro @C.conf_each_int_r7_w (And.intro @C.conf_each_int_c2_w @C.conf_each_int_r6_w))) (And.intro (And.intro @C.conf_each_int_c3_w @C.conf_each_int_c4_w) (And.intro @C.conf_each_int_r5_w (And.intro @C.conf_each_int_c5_w @C.conf_each_int_r4_w)))) (And.intro (And.intro (And.intro @C.conf_each_int_c6_w @C.conf_each_int_r3_w) (And.intro @C.conf_each_int_b7_w (And.intro @C.conf_each_int_c8_w @C.conf_each_int_c9_w))) (And.intro (And.intro @C.conf_each_int_r2_w (And.intro @C.conf_each_int_b11_w @C.conf_each_int_c12_w)) (And.intro @C.conf_each_int_r1_w (And.intro @C.conf_each_int_c13_w @C.conf_each_int_r0_w))))
def C.conf_each_int_B := And.intro (And.intro (And.intro @C.conf_each_int_r8_b.eq_1 @C.conf_each_int_r7_b.eq_1) (And.intro @C.conf_each_int_r6_b.eq_1 @C.conf_each_int_r5_b.eq_1)) (And.intro (And.intro @C.conf_each_int_r4_b.eq_1 @C.conf_each_int_r3_b.eq_1) (And.intro @C.conf_each_int_r2_b.eq_1 (And.intro @C.conf_each_int_r1_b.eq_1 @C.conf_each_int_r0_b.eq_1)))

def C.conf_clock_2_1_r1_b : List IOper := [
 X.m 4 0,
 X.o 5 (.fldAddr 0 (X.s 1)),
 X.o 6 (.load1 (X.s 5)),
 X.o 7 (.len (X.s 6)),
 X.o 8 (.bin .sub (X.s 7) (X.i 1)),
 X.o 9 (.call F.conf_within [X.s 4, X.i 0, X.s 8]),
 X.o 10 (.un .not (X.s 9)),
 X.o 11 (.call F.conf_when [X.s 10, X.i 4]),
 X.m 3 11]
def C.conf_clock_2_1_r1 : List IOper := C.conf_clock_2_1_r1_b
def C.conf_clock_2_1_r1_w := @aopsE _ _ C.conf_clock_2_1_r1.eq_1
def C.conf_clock_2_1_c1 : ICode := .keep [0, 1] (.seq (.region C.conf_clock_2_1_r1) .ret)
def C.conf_clock_2_1_c1_w := @awpE _ _ C.conf_clock_2_1_c1.eq_1
def C.conf_clock_2_1_r0_b : List IOper := [
 X.o 3 (.move (X.i 0))]
def C.conf_clock_2_1_r0 : List IOper := C.conf_clock_2_1_r0_b
def C.conf_clock_2_1_r0_w := @aopsE _ _ C.conf_clock_2_1_r0.eq_1
def C.conf_clock_2_1 : IFunc := ⟨2, [.slot 3], .seq (.region C.conf_clock_2_1_r0) C.conf_clock_2_1_c1⟩
def C.conf_clock_2_1_W := And.intro @C.conf_clock_2_1_r1_w (And.intro @C.conf_clock_2_1_c1_w @C.conf_clock_2_1_r0_w)
def C.conf_clock_2_1_B := And.intro @C.conf_clock_2_1_r1_b.eq_1 @C.conf_clock_2_1_r0_b.eq_1

def C.conf_within_r1_b : List IOper := [
 X.m 7 0,
 X.m 8 1,
 X.o 9 (.bin .geq (X.s 7) (X.s 8)),
 X.m 10 9,
 X.t 10 11 (.move (X.s 0)),
 X.t 10 12 (.move (X.s 2)),
 X.t 10 13 (.bin .leq (X.s 11) (X.s 12)),
 X.o 14 (.pick (X.s 10) (X.s 13) (.cst (.bool false))),
 X.m 6 14]
def C.conf_within_r1 : List IOper := C.conf_within_r1_b
def C.conf_within_r1_w := @aopsE _ _ C.conf_within_r1.eq_1
def C.conf_within_c1 : ICode := .keep [0, 1, 2] (.seq (.region C.conf_within_r1) .ret)
def C.conf_within_c1_w := @awpE _ _ C.conf_within_c1.eq_1
def C.conf_within_r0_b : List IOper := [
 X.o 6 (.move (.cst (.bool false)))]
def C.conf_within_r0 : List IOper := C.conf_within_r0_b
def C.conf_within_r0_w := @aopsE _ _ C.conf_within_r0.eq_1
def C.conf_within : IFunc := ⟨3, [.slot 6], .seq (.region C.conf_within_r0) C.conf_within_c1⟩
def C.conf_within_W := And.intro @C.conf_within_r1_w (And.intro @C.conf_within_c1_w @C.conf_within_r0_w)
def C.conf_within_B := And.intro @C.conf_within_r1_b.eq_1 @C.conf_within_r0_b.eq_1

def C.conf_clock_3_r1_b : List IOper := [
 X.o 2 (.loadN 6 (X.s 0)),
 X.o 3 (.call F.conf_numbers [X.s 2]),
 X.o 4 (.un .not (X.s 3)),
 X.o 5 (.call F.conf_when [X.s 4, X.i 3]),
 X.m 1 5]
def C.conf_clock_3_r1 : List IOper := C.conf_clock_3_r1_b
def C.conf_clock_3_r1_w := @aopsE _ _ C.conf_clock_3_r1.eq_1
def C.conf_clock_3_c1 : ICode := .keep [0] (.seq (.region C.conf_clock_3_r1) .ret)
def C.conf_clock_3_c1_w := @awpE _ _ C.conf_clock_3_c1.eq_1
def C.conf_clock_3_r0_b : List IOper := [
 X.o 1 (.move (X.i 0))]
def C.conf_clock_3_r0 : List IOper := C.conf_clock_3_r0_b
def C.conf_clock_3_r0_w := @aopsE _ _ C.conf_clock_3_r0.eq_1
def C.conf_clock_3 : IFunc := ⟨1, [.slot 1], .seq (.region C.conf_clock_3_r0) C.conf_clock_3_c1⟩
def C.conf_clock_3_W := And.intro @C.conf_clock_3_r1_w (And.intro @C.conf_clock_3_c1_w @C.conf_clock_3_r0_w)
def C.conf_clock_3_B := And.intro @C.conf_clock_3_r1_b.eq_1 @C.conf_clock_3_r0_b.eq_1

def C.conf_numbers_r8_b : List IOper := [
 X.o 2 (.move (.cst (.bool true)))]
def C.conf_numbers_r8 : List IOper := C.conf_numbers_r8_b
def C.conf_numbers_r8_w := @aopsE _ _ C.conf_numbers_r8.eq_1
def C.conf_numbers_c1 : ICode := .keep [] (.seq (.region C.conf_numbers_r8) .ret)
def C.conf_numbers_c1_w := @awpE _ _ C.conf_numbers_c1.eq_1
def C.conf_numbers_r3_b : List IOper := [
 X.o 7 (.fldAddr 2 (X.s 1)),
 X.o 8 (.load1 (X.s 7)),
 X.o 9 (.bin .geq (X.s 8) (.cst (.int .u64 1))),
 X.m 10 9,
 X.t 10 11 (.fldAddr 2 (X.s 1)),
 X.t 10 12 (.load1 (X.s 11)),
 X.t 10 13 (.bin .leq (X.s 12) (.cst (.int .u64 1099511627776))),
 X.o 14 (.pick (X.s 10) (X.s 13) (.cst (.bool false))),
 X.m 2 14]
def C.conf_numbers_r3 : List IOper := C.conf_numbers_r3_b
def C.conf_numbers_r3_w := @aopsE _ _ C.conf_numbers_r3.eq_1
def C.conf_numbers_r5_b : List IOper := [
 X.o 17 (.fldAddr 3 (X.s 1)),
 X.o 18 (.load1 (X.s 17)),
 X.o 19 (.call F.conf_within [X.s 18, X.i 1, X.i 1000]),
 X.m 20 19,
 X.t 20 21 (.fldAddr 4 (X.s 1)),
 X.t 20 22 (.load1 (X.s 21)),
 X.t 20 23 (.call F.conf_within [X.s 22, X.i 1, X.i 1000]),
 X.o 24 (.pick (X.s 20) (X.s 23) (.cst (.bool false))),
 X.m 25 24,
 X.t 25 26 (.fldAddr 5 (X.s 1)),
 X.t 25 27 (.load1 (X.s 26)),
 X.t 25 28 (.call F.conf_within [X.s 27, X.i 0, X.i 20]),
 X.o 29 (.pick (X.s 25) (X.s 28) (.cst (.bool false))),
 X.m 2 29]
def C.conf_numbers_r5 : List IOper := C.conf_numbers_r5_b
def C.conf_numbers_r5_w := @aopsE _ _ C.conf_numbers_r5.eq_1
def C.conf_numbers_r7_b : List IOper := [
 X.o 32 (.fldAddr 4 (X.s 1)),
 X.o 33 (.load1 (X.s 32)),
 X.o 34 (.call F.conf_within [X.s 33, X.i 1, X.i 1000]),
 X.m 2 34]
def C.conf_numbers_r7 : List IOper := C.conf_numbers_r7_b
def C.conf_numbers_r7_w := @aopsE _ _ C.conf_numbers_r7.eq_1
def C.conf_numbers_c2 : ICode := .seq (.region C.conf_numbers_r7) .ret
def C.conf_numbers_c2_w := @awpE _ _ C.conf_numbers_c2.eq_1
def C.conf_numbers_c3 : ICode := .keep [1, 30] (.cond (X.s 30) C.conf_numbers_c2 .skip)
def C.conf_numbers_c3_w := @awpE _ _ C.conf_numbers_c3.eq_1
def C.conf_numbers_r6_b : List IOper := [
 X.o 31 (.bin .eql (X.s 4) (.cst (.int .u8 100))),
 X.m 30 31]
def C.conf_numbers_r6 : List IOper := C.conf_numbers_r6_b
def C.conf_numbers_r6_w := @aopsE _ _ C.conf_numbers_r6.eq_1
def C.conf_numbers_c4 : ICode := .seq (.region C.conf_numbers_r5) .ret
def C.conf_numbers_c4_w := @awpE _ _ C.conf_numbers_c4.eq_1
def C.conf_numbers_c5 : ICode := .seq (.region C.conf_numbers_r6) C.conf_numbers_c3
def C.conf_numbers_c5_w := @awpE _ _ C.conf_numbers_c5.eq_1
def C.conf_numbers_c6 : ICode := .keep [1, 4, 15] (.cond (X.s 15) C.conf_numbers_c4 C.conf_numbers_c5)
def C.conf_numbers_c6_w := @awpE _ _ C.conf_numbers_c6.eq_1
def C.conf_numbers_r4_b : List IOper := [
 X.o 16 (.bin .eql (X.s 4) (.cst (.int .u8 112))),
 X.m 15 16]
def C.conf_numbers_r4 : List IOper := C.conf_numbers_r4_b
def C.conf_numbers_r4_w := @aopsE _ _ C.conf_numbers_r4.eq_1
def C.conf_numbers_c7 : ICode := .seq (.region C.conf_numbers_r3) .ret
def C.conf_numbers_c7_w := @awpE _ _ C.conf_numbers_c7.eq_1
def C.conf_numbers_c8 : ICode := .seq (.region C.conf_numbers_r4) C.conf_numbers_c6
def C.conf_numbers_c8_w := @awpE _ _ C.conf_numbers_c8.eq_1
def C.conf_numbers_c9 : ICode := .keep [1, 4, 5] (.cond (X.s 5) C.conf_numbers_c7 C.conf_numbers_c8)
def C.conf_numbers_c9_w := @awpE _ _ C.conf_numbers_c9.eq_1
def C.conf_numbers_r2_b : List IOper := [
 X.o 6 (.bin .eql (X.s 4) (.cst (.int .u8 111))),
 X.m 5 6]
def C.conf_numbers_r2 : List IOper := C.conf_numbers_r2_b
def C.conf_numbers_r2_w := @aopsE _ _ C.conf_numbers_r2.eq_1
def C.conf_numbers_b10 : ICode := .seq (.region C.conf_numbers_r2) C.conf_numbers_c9
def C.conf_numbers_b10_w := @awpE _ _ C.conf_numbers_b10.eq_1
def C.conf_numbers_c11 : ICode := .keep [1, 4] (.block 0 C.conf_numbers_b10)
def C.conf_numbers_c11_w := @awpE _ _ C.conf_numbers_c11.eq_1
def C.conf_numbers_r1_b : List IOper := [
 X.o 3 (.fldAddr 0 (X.s 1)),
 X.o 4 (.load1 (X.s 3))]
def C.conf_numbers_r1 : List IOper := C.conf_numbers_r1_b
def C.conf_numbers_r1_w := @aopsE _ _ C.conf_numbers_r1.eq_1
def C.conf_numbers_c12 : ICode := .keep [1] (.seq (.seq (.region C.conf_numbers_r1) C.conf_numbers_c11) C.conf_numbers_c1)
def C.conf_numbers_c12_w := @awpE _ _ C.conf_numbers_c12.eq_1
def C.conf_numbers_r0_b : List IOper := [
 X.o 1 (.boxN (X.s 0)),
 X.o 2 (.move (.cst (.bool false)))]
def C.conf_numbers_r0 : List IOper := C.conf_numbers_r0_b
def C.conf_numbers_r0_w := @aopsE _ _ C.conf_numbers_r0.eq_1
def C.conf_numbers : IFunc := ⟨1, [.slot 2], .seq (.region C.conf_numbers_r0) C.conf_numbers_c12⟩
def C.conf_numbers_W := And.intro (And.intro (And.intro (And.intro @C.conf_numbers_r8_w @C.conf_numbers_c1_w) (And.intro @C.conf_numbers_r3_w (And.intro @C.conf_numbers_r5_w @C.conf_numbers_r7_w))) (And.intro (And.intro @C.conf_numbers_c2_w @C.conf_numbers_c3_w) (And.intro @C.conf_numbers_r6_w (And.intro @C.conf_numbers_c4_w @C.conf_numbers_c5_w)))) (And.intro (And.intro (And.intro @C.conf_numbers_c6_w @C.conf_numbers_r4_w) (And.intro @C.conf_numbers_c7_w (And.intro @C.conf_numbers_c8_w @C.conf_numbers_c9_w))) (And.intro (And.intro @C.conf_numbers_r2_w (And.intro @C.conf_numbers_b10_w @C.conf_numbers_c11_w)) (And.intro @C.conf_numbers_r1_w (And.intro @C.conf_numbers_c12_w @C.conf_numbers_r0_w))))
def C.conf_numbers_B := And.intro (And.intro (And.intro @C.conf_numbers_r8_b.eq_1 @C.conf_numbers_r3_b.eq_1) (And.intro @C.conf_numbers_r5_b.eq_1 @C.conf_numbers_r7_b.eq_1)) (And.intro (And.intro @C.conf_numbers_r6_b.eq_1 @C.conf_numbers_r4_b.eq_1) (And.intro @C.conf_numbers_r2_b.eq_1 (And.intro @C.conf_numbers_r1_b.eq_1 @C.conf_numbers_r0_b.eq_1)))

def C.graph_Check_r2_b : List IOper := [
 X.m 10 4,
 X.m 2 10]
def C.graph_Check_r2 : List IOper := C.graph_Check_r2_b
def C.graph_Check_r2_w := @aopsE _ _ C.graph_Check_r2.eq_1
def C.graph_Check_c1 : ICode := .keep [4] (.seq (.region C.graph_Check_r2) .ret)
def C.graph_Check_c1_w := @awpE _ _ C.graph_Check_c1.eq_1
def C.graph_Check_r1_b : List IOper := [
 X.m 6 0,
 X.o 7 (.call F.graph_Order [X.s 6]),
 X.m 5 7,
 X.o 8 (.extract (X.s 5) 0),
 X.o 9 (.extract (X.s 5) 1),
 X.m 3 8,
 X.m 4 9]
def C.graph_Check_r1 : List IOper := C.graph_Check_r1_b
def C.graph_Check_r1_w := @aopsE _ _ C.graph_Check_r1.eq_1
def C.graph_Check_c2 : ICode := .keep [0] (.seq (.region C.graph_Check_r1) C.graph_Check_c1)
def C.graph_Check_c2_w := @awpE _ _ C.graph_Check_c2.eq_1
def C.graph_Check_r0_b : List IOper := [
 X.o 2 (.move (X.i 0))]
def C.graph_Check_r0 : List IOper := C.graph_Check_r0_b
def C.graph_Check_r0_w := @aopsE _ _ C.graph_Check_r0.eq_1
def C.graph_Check : IFunc := ⟨1, [.slot 2], .seq (.region C.graph_Check_r0) C.graph_Check_c2⟩
def C.graph_Check_W := And.intro (And.intro @C.graph_Check_r2_w @C.graph_Check_c1_w) (And.intro @C.graph_Check_r1_w (And.intro @C.graph_Check_c2_w @C.graph_Check_r0_w))
def C.graph_Check_B := And.intro @C.graph_Check_r2_b.eq_1 (And.intro @C.graph_Check_r1_b.eq_1 @C.graph_Check_r0_b.eq_1)

def C.conf_own_int_r1_b : List IOper := [
 X.m 3 0,
 X.o 4 (.append 1 8 (.cst (.nils)) (X.s 3)),
 X.m 2 4]
def C.conf_own_int_r1 : List IOper := C.conf_own_int_r1_b
def C.conf_own_int_r1_w := @aopsE _ _ C.conf_own_int_r1.eq_1
def C.conf_own_int_c1 : ICode := .keep [0] (.seq (.region C.conf_own_int_r1) .ret)
def C.conf_own_int_c1_w := @awpE _ _ C.conf_own_int_c1.eq_1
def C.conf_own_int_r0_b : List IOper := [
 X.o 2 (.move (.cst (.nils)))]
def C.conf_own_int_r0 : List IOper := C.conf_own_int_r0_b
def C.conf_own_int_r0_w := @aopsE _ _ C.conf_own_int_r0.eq_1
def C.conf_own_int : IFunc := ⟨1, [.slot 2], .seq (.region C.conf_own_int_r0) C.conf_own_int_c1⟩
def C.conf_own_int_W := And.intro @C.conf_own_int_r1_w (And.intro @C.conf_own_int_c1_w @C.conf_own_int_r0_w)
def C.conf_own_int_B := And.intro @C.conf_own_int_r1_b.eq_1 @C.conf_own_int_r0_b.eq_1

def C.conf_domain_1_r1_b : List IOper := [
 X.o 3 (.fldAddr 0 (X.s 0)),
 X.o 4 (.load1 (X.s 3)),
 X.o 5 (.bin .neq (X.s 4) (X.i (-1))),
 X.m 6 5,
 X.t 6 7 (.fldAddr 0 (X.s 0)),
 X.t 6 8 (.load1 (X.s 7)),
 X.t 6 9 (.fldAddr 1 (X.s 1)),
 X.t 6 10 (.load1 (X.s 9)),
 X.t 6 11 (.len (X.s 10)),
 X.t 6 12 (.bin .sub (X.s 11) (X.i 1)),
 X.t 6 13 (.call F.conf_within [X.s 8, X.i 0, X.s 12]),
 X.t 6 14 (.un .not (X.s 13)),
 X.o 15 (.pick (X.s 6) (X.s 14) (.cst (.bool false))),
 X.o 16 (.call F.conf_when [X.s 15, X.i 4]),
 X.m 2 16]
def C.conf_domain_1_r1 : List IOper := C.conf_domain_1_r1_b
def C.conf_domain_1_r1_w := @aopsE _ _ C.conf_domain_1_r1.eq_1
def C.conf_domain_1_c1 : ICode := .keep [0, 1] (.seq (.region C.conf_domain_1_r1) .ret)
def C.conf_domain_1_c1_w := @awpE _ _ C.conf_domain_1_c1.eq_1
def C.conf_domain_1_r0_b : List IOper := [
 X.o 2 (.move (X.i 0))]
def C.conf_domain_1_r0 : List IOper := C.conf_domain_1_r0_b
def C.conf_domain_1_r0_w := @aopsE _ _ C.conf_domain_1_r0.eq_1
def C.conf_domain_1 : IFunc := ⟨2, [.slot 2], .seq (.region C.conf_domain_1_r0) C.conf_domain_1_c1⟩
def C.conf_domain_1_W := And.intro @C.conf_domain_1_r1_w (And.intro @C.conf_domain_1_c1_w @C.conf_domain_1_r0_w)
def C.conf_domain_1_B := And.intro @C.conf_domain_1_r1_b.eq_1 @C.conf_domain_1_r0_b.eq_1

def C.conf_domain_2_r1_b : List IOper := [
 X.o 2 (.fldAddr 1 (X.s 0)),
 X.o 3 (.load1 (X.s 2)),
 X.o 4 (.call F.conf_within [X.s 3, X.i 0, X.i 20]),
 X.o 5 (.un .not (X.s 4)),
 X.o 6 (.call F.conf_when [X.s 5, X.i 3]),
 X.m 1 6]
def C.conf_domain_2_r1 : List IOper := C.conf_domain_2_r1_b
def C.conf_domain_2_r1_w := @aopsE _ _ C.conf_domain_2_r1.eq_1
def C.conf_domain_2_c1 : ICode := .keep [0] (.seq (.region C.conf_domain_2_r1) .ret)
def C.conf_domain_2_c1_w := @awpE _ _ C.conf_domain_2_c1.eq_1
def C.conf_domain_2_r0_b : List IOper := [
 X.o 1 (.move (X.i 0))]
def C.conf_domain_2_r0 : List IOper := C.conf_domain_2_r0_b
def C.conf_domain_2_r0_w := @aopsE _ _ C.conf_domain_2_r0.eq_1
def C.conf_domain_2 : IFunc := ⟨1, [.slot 1], .seq (.region C.conf_domain_2_r0) C.conf_domain_2_c1⟩
def C.conf_domain_2_W := And.intro @C.conf_domain_2_r1_w (And.intro @C.conf_domain_2_c1_w @C.conf_domain_2_r0_w)
def C.conf_domain_2_B := And.intro @C.conf_domain_2_r1_b.eq_1 @C.conf_domain_2_r0_b.eq_1

def C.conf_device_1_r1_b : List IOper := [
 X.o 3 (.fldAddr 0 (X.s 0)),
 X.o 4 (.load1 (X.s 3)),
 X.o 5 (.fldAddr 0 (X.s 1)),
 X.o 6 (.load1 (X.s 5)),
 X.o 7 (.len (X.s 6)),
 X.o 8 (.bin .sub (X.s 7) (X.i 1)),
 X.o 9 (.call F.conf_within [X.s 4, X.i 0, X.s 8]),
 X.o 10 (.un .not (X.s 9)),
 X.o 11 (.call F.conf_when [X.s 10, X.i 4]),
 X.m 2 11]
def C.conf_device_1_r1 : List IOper := C.conf_device_1_r1_b
def C.conf_device_1_r1_w := @aopsE _ _ C.conf_device_1_r1.eq_1
def C.conf_device_1_c1 : ICode := .keep [0, 1] (.seq (.region C.conf_device_1_r1) .ret)
def C.conf_device_1_c1_w := @awpE _ _ C.conf_device_1_c1.eq_1
def C.conf_device_1_r0_b : List IOper := [
 X.o 2 (.move (X.i 0))]
def C.conf_device_1_r0 : List IOper := C.conf_device_1_r0_b
def C.conf_device_1_r0_w := @aopsE _ _ C.conf_device_1_r0.eq_1
def C.conf_device_1 : IFunc := ⟨2, [.slot 2], .seq (.region C.conf_device_1_r0) C.conf_device_1_c1⟩
def C.conf_device_1_W := And.intro @C.conf_device_1_r1_w (And.intro @C.conf_device_1_c1_w @C.conf_device_1_r0_w)
def C.conf_device_1_B := And.intro @C.conf_device_1_r1_b.eq_1 @C.conf_device_1_r0_b.eq_1

def C.conf_device_2_r1_b : List IOper := [
 X.o 3 (.fldAddr 1 (X.s 0)),
 X.o 4 (.load1 (X.s 3)),
 X.o 5 (.fldAddr 1 (X.s 1)),
 X.o 6 (.load1 (X.s 5)),
 X.o 7 (.len (X.s 6)),
 X.o 8 (.bin .sub (X.s 7) (X.i 1)),
 X.o 9 (.call F.conf_within [X.s 4, X.i 0, X.s 8]),
 X.o 10 (.un .not (X.s 9)),
 X.o 11 (.call F.conf_when [X.s 10, X.i 4]),
 X.m 2 11]
def C.conf_device_2_r1 : List IOper := C.conf_device_2_r1_b
def C.conf_device_2_r1_w := @aopsE _ _ C.conf_device_2_r1.eq_1
def C.conf_device_2_c1 : ICode := .keep [0, 1] (.seq (.region C.conf_device_2_r1) .ret)
def C.conf_device_2_c1_w := @awpE _ _ C.conf_device_2_c1.eq_1
def C.conf_device_2_r0_b : List IOper := [
 X.o 2 (.move (X.i 0))]
def C.conf_device_2_r0 : List IOper := C.conf_device_2_r0_b
def C.conf_device_2_r0_w := @aopsE _ _ C.conf_device_2_r0.eq_1
def C.conf_device_2 : IFunc := ⟨2, [.slot 2], .seq (.region C.conf_device_2_r0) C.conf_device_2_c1⟩
def C.conf_device_2_W := And.intro @C.conf_device_2_r1_w (And.intro @C.conf_device_2_c1_w @C.conf_device_2_r0_w)
def C.conf_device_2_B := And.intro @C.conf_device_2_r1_b.eq_1 @C.conf_device_2_r0_b.eq_1

def C.conf_device_3_r1_b : List IOper := [
 X.o 3 (.fldAddr 2 (X.s 0)),
 X.o 4 (.load1 (X.s 3)),
 X.o 5 (.fldAddr 2 (X.s 1)),
 X.o 6 (.load1 (X.s 5)),
 X.o 7 (.len (X.s 6)),
 X.o 8 (.bin .sub (X.s 7) (X.i 1)),
 X.o 9 (.call F.conf_within [X.s 4, X.i 0, X.s 8]),
 X.o 10 (.un .not (X.s 9)),
 X.o 11 (.call F.conf_when [X.s 10, X.i 4]),
 X.m 2 11]
def C.conf_device_3_r1 : List IOper := C.conf_device_3_r1_b
def C.conf_device_3_r1_w := @aopsE _ _ C.conf_device_3_r1.eq_1
def C.conf_device_3_c1 : ICode := .keep [0, 1] (.seq (.region C.conf_device_3_r1) .ret)
def C.conf_device_3_c1_w := @awpE _ _ C.conf_device_3_c1.eq_1
def C.conf_device_3_r0_b : List IOper := [
 X.o 2 (.move (X.i 0))]
def C.conf_device_3_r0 : List IOper := C.conf_device_3_r0_b
def C.conf_device_3_r0_w := @aopsE _ _ C.conf_device_3_r0.eq_1
def C.conf_device_3 : IFunc := ⟨2, [.slot 2], .seq (.region C.conf_device_3_r0) C.conf_device_3_c1⟩
def C.conf_device_3_W := And.intro @C.conf_device_3_r1_w (And.intro @C.conf_device_3_c1_w @C.conf_device_3_r0_w)
def C.conf_device_3_B := And.intro @C.conf_device_3_r1_b.eq_1 @C.conf_device_3_r0_b.eq_1

def C.conf_device_4_r1_b : List IOper := [
 X.o 3 (.fldAddr 5 (X.s 0)),
 X.o 4 (.load1 (X.s 3)),
 X.o 5 (.makeFunc F.conf_device_4_1 [X.s 1]),
 X.o 6 (.call F.conf_each_int [X.s 4, X.s 5]),
 X.m 2 6]
def C.conf_device_4_r1 : List IOper := C.conf_device_4_r1_b
def C.conf_device_4_r1_w := @aopsE _ _ C.conf_device_4_r1.eq_1
def C.conf_device_4_c1 : ICode := .keep [0, 1] (.seq (.region C.conf_device_4_r1) .ret)
def C.conf_device_4_c1_w := @awpE _ _ C.conf_device_4_c1.eq_1
def C.conf_device_4_r0_b : List IOper := [
 X.o 2 (.move (X.i 0))]
def C.conf_device_4_r0 : List IOper := C.conf_device_4_r0_b
def C.conf_device_4_r0_w := @aopsE _ _ C.conf_device_4_r0.eq_1
def C.conf_device_4 : IFunc := ⟨2, [.slot 2], .seq (.region C.conf_device_4_r0) C.conf_device_4_c1⟩
def C.conf_device_4_W := And.intro @C.conf_device_4_r1_w (And.intro @C.conf_device_4_c1_w @C.conf_device_4_r0_w)
def C.conf_device_4_B := And.intro @C.conf_device_4_r1_b.eq_1 @C.conf_device_4_r0_b.eq_1

def C.conf_device_4_1_r1_b : List IOper := [
 X.m 4 0,
 X.o 5 (.fldAddr 3 (X.s 1)),
 X.o 6 (.load1 (X.s 5)),
 X.o 7 (.len (X.s 6)),
 X.o 8 (.bin .sub (X.s 7) (X.i 1)),
 X.o 9 (.call F.conf_within [X.s 4, X.i 0, X.s 8]),
 X.o 10 (.un .not (X.s 9)),
 X.o 11 (.call F.conf_when [X.s 10, X.i 4]),
 X.m 3 11]
def C.conf_device_4_1_r1 : List IOper := C.conf_device_4_1_r1_b
def C.conf_device_4_1_r1_w := @aopsE _ _ C.conf_device_4_1_r1.eq_1
def C.conf_device_4_1_c1 : ICode := .keep [0, 1] (.seq (.region C.conf_device_4_1_r1) .ret)
def C.conf_device_4_1_c1_w := @awpE _ _ C.conf_device_4_1_c1.eq_1
def C.conf_device_4_1_r0_b : List IOper := [
 X.o 3 (.move (X.i 0))]
def C.conf_device_4_1_r0 : List IOper := C.conf_device_4_1_r0_b
def C.conf_device_4_1_r0_w := @aopsE _ _ C.conf_device_4_1_r0.eq_1
def C.conf_device_4_1 : IFunc := ⟨2, [.slot 3], .seq (.region C.conf_device_4_1_r0) C.conf_device_4_1_c1⟩
def C.conf_device_4_1_W := And.intro @C.conf_device_4_1_r1_w (And.intro @C.conf_device_4_1_c1_w @C.conf_device_4_1_r0_w)
def C.conf_device_4_1_B := And.intro @C.conf_device_4_1_r1_b.eq_1 @C.conf_device_4_1_r0_b.eq_1

end Go.Proofs.Ytgfpnfnjnakoaaa.Cn
