/- The intermediate code of the functions, printed by a program out of the loaded program; that it is theirs is checked in the text of links. -/
import Derived.Test.YtkabdilikndhbaaCnIr1
set_option linter.defProp false
namespace Go.Proofs.Ytkabdilikndhbaa.Cn
open Go
variable {P : Program} {Q : IExit → AFr → ASt → Prop} {fr : AFr} {st : ASt}


def C.conf_Check_2_1_r1_b : List IOper := [
 X.o 4 (.loadN 4 (X.s 1)),
 X.o 5 (.loadN 6 (X.s 2)),
 X.o 6 (.call F.conf_clock [X.s 4, X.s 5]),
 X.m 3 6]
def C.conf_Check_2_1_r1 : List IOper := C.conf_Check_2_1_r1_b
def C.conf_Check_2_1_r1_w := @aopsE _ _ C.conf_Check_2_1_r1.eq_1
def C.conf_Check_2_1_c1 : ICode := .keep [1, 2] (.seq (.region C.conf_Check_2_1_r1) .ret)
def C.conf_Check_2_1_c1_w := @awpE _ _ C.conf_Check_2_1_c1.eq_1
def C.conf_Check_2_1_r0_b : List IOper := [
 X.o 2 (.boxN (X.s 0)),
 X.o 3 (.move (X.i 0))]
def C.conf_Check_2_1_r0 : List IOper := C.conf_Check_2_1_r0_b
def C.conf_Check_2_1_r0_w := @aopsE _ _ C.conf_Check_2_1_r0.eq_1
def C.conf_Check_2_1 : IFunc := ⟨2, [.slot 3], .seq (.region C.conf_Check_2_1_r0) C.conf_Check_2_1_c1⟩
def C.conf_Check_2_1_W := And.intro @C.conf_Check_2_1_r1_w (And.intro @C.conf_Check_2_1_c1_w @C.conf_Check_2_1_r0_w)
def C.conf_Check_2_1_B := And.intro @C.conf_Check_2_1_r1_b.eq_1 @C.conf_Check_2_1_r0_b.eq_1

def C.conf_clock_r1_b : List IOper := [
 X.o 5 (.makeFunc F.conf_clock_1 [X.s 3]),
 X.o 6 (.makeFunc F.conf_clock_2 [X.s 3, X.s 2]),
 X.o 7 (.makeFunc F.conf_clock_3 [X.s 3]),
 X.o 8 (.buildSlice 1 3 [.nilf] [(0, 1, X.s 5), (1, 1, X.s 6), (2, 1, X.s 7)]),
 X.o 9 (.call F.conf_first [X.s 8]),
 X.m 4 9]
def C.conf_clock_r1 : List IOper := C.conf_clock_r1_b
def C.conf_clock_r1_w := @aopsE _ _ C.conf_clock_r1.eq_1
def C.conf_clock_c1 : ICode := .keep [2, 3] (.seq (.region C.conf_clock_r1) .ret)
def C.conf_clock_c1_w := @awpE _ _ C.conf_clock_c1.eq_1
def C.conf_clock_r0_b : List IOper := [
 X.o 2 (.boxN (X.s 0)),
 X.o 3 (.boxN (X.s 1)),
 X.o 4 (.move (X.i 0))]
def C.conf_clock_r0 : List IOper := C.conf_clock_r0_b
def C.conf_clock_r0_w := @aopsE _ _ C.conf_clock_r0.eq_1
def C.conf_clock : IFunc := ⟨2, [.slot 4], .seq (.region C.conf_clock_r0) C.conf_clock_c1⟩
def C.conf_clock_W := And.intro @C.conf_clock_r1_w (And.intro @C.conf_clock_c1_w @C.conf_clock_r0_w)
def C.conf_clock_B := And.intro @C.conf_clock_r1_b.eq_1 @C.conf_clock_r0_b.eq_1

def C.conf_Check_3_r1_b : List IOper := [
 X.o 2 (.loadN 4 (X.s 0)),
 X.o 3 (.call F.conf_Clocks [X.s 2]),
 X.o 4 (.call F.conf_cycle [X.s 3]),
 X.m 1 4]
def C.conf_Check_3_r1 : List IOper := C.conf_Check_3_r1_b
def C.conf_Check_3_r1_w := @aopsE _ _ C.conf_Check_3_r1.eq_1
def C.conf_Check_3_c1 : ICode := .keep [0] (.seq (.region C.conf_Check_3_r1) .ret)
def C.conf_Check_3_c1_w := @awpE _ _ C.conf_Check_3_c1.eq_1
def C.conf_Check_3_r0_b : List IOper := [
 X.o 1 (.move (X.i 0))]
def C.conf_Check_3_r0 : List IOper := C.conf_Check_3_r0_b
def C.conf_Check_3_r0_w := @aopsE _ _ C.conf_Check_3_r0.eq_1
def C.conf_Check_3 : IFunc := ⟨1, [.slot 1], .seq (.region C.conf_Check_3_r0) C.conf_Check_3_c1⟩
def C.conf_Check_3_W := And.intro @C.conf_Check_3_r1_w (And.intro @C.conf_Check_3_c1_w @C.conf_Check_3_r0_w)
def C.conf_Check_3_B := And.intro @C.conf_Check_3_r1_b.eq_1 @C.conf_Check_3_r0_b.eq_1

def C.conf_cycle_r1_b : List IOper := [
 X.m 3 0,
 X.o 4 (.call F.graph_Check [X.s 3]),
 X.o 5 (.bin .eql (X.s 4) (X.i 5)),
 X.o 6 (.call F.conf_when [X.s 5, X.i 5]),
 X.m 2 6]
def C.conf_cycle_r1 : List IOper := C.conf_cycle_r1_b
def C.conf_cycle_r1_w := @aopsE _ _ C.conf_cycle_r1.eq_1
def C.conf_cycle_c1 : ICode := .keep [0] (.seq (.region C.conf_cycle_r1) .ret)
def C.conf_cycle_c1_w := @awpE _ _ C.conf_cycle_c1.eq_1
def C.conf_cycle_r0_b : List IOper := [
 X.o 2 (.move (X.i 0))]
def C.conf_cycle_r0 : List IOper := C.conf_cycle_r0_b
def C.conf_cycle_r0_w := @aopsE _ _ C.conf_cycle_r0.eq_1
def C.conf_cycle : IFunc := ⟨1, [.slot 2], .seq (.region C.conf_cycle_r0) C.conf_cycle_c1⟩
def C.conf_cycle_W := And.intro @C.conf_cycle_r1_w (And.intro @C.conf_cycle_c1_w @C.conf_cycle_r0_w)
def C.conf_cycle_B := And.intro @C.conf_cycle_r1_b.eq_1 @C.conf_cycle_r0_b.eq_1

def C.conf_Clocks_r7_b : List IOper := [
 X.m 25 3,
 X.m 2 25]
def C.conf_Clocks_r7 : List IOper := C.conf_Clocks_r7_b
def C.conf_Clocks_r7_w := @aopsE _ _ C.conf_Clocks_r7.eq_1
def C.conf_Clocks_c1 : ICode := .keep [3] (.seq (.region C.conf_Clocks_r7) .ret)
def C.conf_Clocks_c1_w := @awpE _ _ C.conf_Clocks_c1.eq_1
def C.conf_Clocks_r6_b : List IOper := [
 X.o 24 (.bin .add (X.s 13) (X.i 1)),
 X.m 13 24]
def C.conf_Clocks_r6 : List IOper := C.conf_Clocks_r6_b
def C.conf_Clocks_r6_w := @aopsE _ _ C.conf_Clocks_r6.eq_1
def C.conf_Clocks_c2 : ICode := .keep [3, 11, 12, 13] (.region C.conf_Clocks_r6)
def C.conf_Clocks_c2_w := @awpE _ _ C.conf_Clocks_c2.eq_1
def C.conf_Clocks_r5_b : List IOper := [
 X.m 18 3,
 X.m 19 4,
 X.o 20 (.fldAddr 1 (X.s 5)),
 X.o 21 (.load1 (X.s 20)),
 X.o 22 (.call F.conf_own_int [X.s 21]),
 X.o 23 (.idxAddr 1 (X.s 18) (X.s 19)),
 X.n (.store1 (X.s 23) (X.s 22))]
def C.conf_Clocks_r5 : List IOper := C.conf_Clocks_r5_b
def C.conf_Clocks_r5_w := @aopsE _ _ C.conf_Clocks_r5.eq_1
def C.conf_Clocks_c3 : ICode := .keep [3, 4, 5, 11, 12, 13] (.region C.conf_Clocks_r5)
def C.conf_Clocks_c3_w := @awpE _ _ C.conf_Clocks_c3.eq_1
def C.conf_Clocks_r4_b : List IOper := [
 X.m 15 13,
 X.o 16 (.idxAddr 6 (X.s 11) (X.s 13)),
 X.o 17 (.loadN 6 (X.s 16)),
 X.o 5 (.alloc [.int .u8 0, .nils, .int .u64 0, .int .i64 0, .int .i64 0, .int .i64 0]),
 X.m 4 15,
 X.n (.storeN 6 (X.s 5) (X.s 17))]
def C.conf_Clocks_r4 : List IOper := C.conf_Clocks_r4_b
def C.conf_Clocks_r4_w := @aopsE _ _ C.conf_Clocks_r4.eq_1
def C.conf_Clocks_b4 : ICode := .seq (.region C.conf_Clocks_r4) C.conf_Clocks_c3
def C.conf_Clocks_b4_w := @awpE _ _ C.conf_Clocks_b4.eq_1
def C.conf_Clocks_c5 : ICode := .keep [3, 11, 12, 13] (.seq (.block 1 C.conf_Clocks_b4) C.conf_Clocks_c2)
def C.conf_Clocks_c5_w := @awpE _ _ C.conf_Clocks_c5.eq_1
def C.conf_Clocks_c6 : ICode := .keep [3, 11, 12, 13, 14] (.seq (.cond (X.s 14) .skip (.exit 0)) C.conf_Clocks_c5)
def C.conf_Clocks_c6_w := @awpE _ _ C.conf_Clocks_c6.eq_1
def C.conf_Clocks_r3_b : List IOper := [
 X.o 14 (.bin .lss (X.s 13) (X.s 12))]
def C.conf_Clocks_r3 : List IOper := C.conf_Clocks_r3_b
def C.conf_Clocks_r3_w := @aopsE _ _ C.conf_Clocks_r3.eq_1
def C.conf_Clocks_l7 : ICode := .keep [3, 11, 12, 13] (.seq (.region C.conf_Clocks_r3) C.conf_Clocks_c6)
def C.conf_Clocks_l7_w := @awpE _ _ C.conf_Clocks_l7.eq_1
def C.conf_Clocks_b8 : ICode := .loop C.conf_Clocks_l7
def C.conf_Clocks_b8_w := @awpE _ _ C.conf_Clocks_b8.eq_1
def C.conf_Clocks_c9 : ICode := .keep [3, 11, 12, 13] (.block 0 C.conf_Clocks_b8)
def C.conf_Clocks_c9_w := @awpE _ _ C.conf_Clocks_c9.eq_1
def C.conf_Clocks_r2_b : List IOper := [
 X.o 10 (.fldAddr 0 (X.s 1)),
 X.o 11 (.load1 (X.s 10)),
 X.o 12 (.len (X.s 11)),
 X.o 13 (.move (X.i 0))]
def C.conf_Clocks_r2 : List IOper := C.conf_Clocks_r2_b
def C.conf_Clocks_r2_w := @aopsE _ _ C.conf_Clocks_r2.eq_1
def C.conf_Clocks_c10 : ICode := .keep [1, 3] (.seq (.seq (.region C.conf_Clocks_r2) C.conf_Clocks_c9) C.conf_Clocks_c1)
def C.conf_Clocks_c10_w := @awpE _ _ C.conf_Clocks_c10.eq_1
def C.conf_Clocks_r1_b : List IOper := [
 X.o 6 (.fldAddr 0 (X.s 1)),
 X.o 7 (.load1 (X.s 6)),
 X.o 8 (.len (X.s 7)),
 X.o 9 (.makeSlice 1 24 [.nils] (X.s 8) (X.s 8)),
 X.m 3 9]
def C.conf_Clocks_r1 : List IOper := C.conf_Clocks_r1_b
def C.conf_Clocks_r1_w := @aopsE _ _ C.conf_Clocks_r1.eq_1
def C.conf_Clocks_c11 : ICode := .keep [1] (.seq (.region C.conf_Clocks_r1) C.conf_Clocks_c10)
def C.conf_Clocks_c11_w := @awpE _ _ C.conf_Clocks_c11.eq_1
def C.conf_Clocks_r0_b : List IOper := [
 X.o 1 (.boxN (X.s 0)),
 X.o 2 (.move (.cst (.nils)))]
def C.conf_Clocks_r0 : List IOper := C.conf_Clocks_r0_b
def C.conf_Clocks_r0_w := @aopsE _ _ C.conf_Clocks_r0.eq_1
def C.conf_Clocks : IFunc := ⟨1, [.slot 2], .seq (.region C.conf_Clocks_r0) C.conf_Clocks_c11⟩
def C.conf_Clocks_W := And.intro (And.intro (And.intro (And.intro @C.conf_Clocks_r7_w @C.conf_Clocks_c1_w) (And.intro @C.conf_Clocks_r6_w @C.conf_Clocks_c2_w)) (And.intro (And.intro @C.conf_Clocks_r5_w @C.conf_Clocks_c3_w) (And.intro @C.conf_Clocks_r4_w (And.intro @C.conf_Clocks_b4_w @C.conf_Clocks_c5_w)))) (And.intro (And.intro (And.intro @C.conf_Clocks_c6_w @C.conf_Clocks_r3_w) (And.intro @C.conf_Clocks_b8_w @C.conf_Clocks_c9_w)) (And.intro (And.intro @C.conf_Clocks_r2_w @C.conf_Clocks_c10_w) (And.intro @C.conf_Clocks_r1_w (And.intro @C.conf_Clocks_c11_w @C.conf_Clocks_r0_w))))
def C.conf_Clocks_B := And.intro (And.intro (And.intro @C.conf_Clocks_r7_b.eq_1 @C.conf_Clocks_r6_b.eq_1) (And.intro @C.conf_Clocks_r5_b.eq_1 @C.conf_Clocks_r4_b.eq_1)) (And.intro (And.intro @C.conf_Clocks_r3_b.eq_1 @C.conf_Clocks_r2_b.eq_1) (And.intro @C.conf_Clocks_r1_b.eq_1 @C.conf_Clocks_r0_b.eq_1))

def C.conf_Check_4_r1_b : List IOper := [
 X.o 2 (.fldAddr 1 (X.s 0)),
 X.o 3 (.load1 (X.s 2)),
 X.o 4 (.makeFunc F.conf_Check_4_1 [X.s 0]),
 X.o 5 (.call F.conf_each_api_Domain [X.s 3, X.s 4]),
 X.m 1 5]
def C.conf_Check_4_r1 : List IOper := C.conf_Check_4_r1_b
def C.conf_Check_4_r1_w := @aopsE _ _ C.conf_Check_4_r1.eq_1
def C.conf_Check_4_c1 : ICode := .keep [0] (.seq (.region C.conf_Check_4_r1) .ret)
def C.conf_Check_4_c1_w := @awpE _ _ C.conf_Check_4_c1.eq_1
def C.conf_Check_4_r0_b : List IOper := [
 X.o 1 (.move (X.i 0))]
def C.conf_Check_4_r0 : List IOper := C.conf_Check_4_r0_b
def C.conf_Check_4_r0_w := @aopsE _ _ C.conf_Check_4_r0.eq_1
def C.conf_Check_4 : IFunc := ⟨1, [.slot 1], .seq (.region C.conf_Check_4_r0) C.conf_Check_4_c1⟩
def C.conf_Check_4_W := And.intro @C.conf_Check_4_r1_w (And.intro @C.conf_Check_4_c1_w @C.conf_Check_4_r0_w)
def C.conf_Check_4_B := And.intro @C.conf_Check_4_r1_b.eq_1 @C.conf_Check_4_r0_b.eq_1

def C.conf_each_api_Domain_r8_b : List IOper := [
 X.o 4 (.move (X.i 0))]
def C.conf_each_api_Domain_r8 : List IOper := C.conf_each_api_Domain_r8_b
def C.conf_each_api_Domain_r8_w := @aopsE _ _ C.conf_each_api_Domain_r8.eq_1
def C.conf_each_api_Domain_c1 : ICode := .keep [] (.seq (.region C.conf_each_api_Domain_r8) .ret)
def C.conf_each_api_Domain_c1_w := @awpE _ _ C.conf_each_api_Domain_c1.eq_1
def C.conf_each_api_Domain_r7_b : List IOper := [
 X.o 20 (.bin .add (X.s 10) (X.i 1)),
 X.m 10 20]
def C.conf_each_api_Domain_r7 : List IOper := C.conf_each_api_Domain_r7_b
def C.conf_each_api_Domain_r7_w := @aopsE _ _ C.conf_each_api_Domain_r7.eq_1
def C.conf_each_api_Domain_c2 : ICode := .keep [1, 8, 9, 10] (.region C.conf_each_api_Domain_r7)
def C.conf_each_api_Domain_c2_w := @awpE _ _ C.conf_each_api_Domain_c2.eq_1
def C.conf_each_api_Domain_r6_b : List IOper := [
 X.m 19 7,
 X.m 4 19]
def C.conf_each_api_Domain_r6 : List IOper := C.conf_each_api_Domain_r6_b
def C.conf_each_api_Domain_r6_w := @aopsE _ _ C.conf_each_api_Domain_r6.eq_1
def C.conf_each_api_Domain_c3 : ICode := .seq (.region C.conf_each_api_Domain_r6) .ret
def C.conf_each_api_Domain_c3_w := @awpE _ _ C.conf_each_api_Domain_c3.eq_1
def C.conf_each_api_Domain_c4 : ICode := .keep [1, 7, 8, 9, 10, 18] (.cond (X.s 18) C.conf_each_api_Domain_c3 .skip)
def C.conf_each_api_Domain_c4_w := @awpE _ _ C.conf_each_api_Domain_c4.eq_1
def C.conf_each_api_Domain_r5_b : List IOper := [
 X.m 17 7,
 X.o 18 (.bin .neq (X.s 17) (X.i 0))]
def C.conf_each_api_Domain_r5 : List IOper := C.conf_each_api_Domain_r5_b
def C.conf_each_api_Domain_r5_w := @aopsE _ _ C.conf_each_api_Domain_r5.eq_1
def C.conf_each_api_Domain_c5 : ICode := .keep [1, 7, 8, 9, 10] (.seq (.region C.conf_each_api_Domain_r5) C.conf_each_api_Domain_c4)
def C.conf_each_api_Domain_c5_w := @awpE _ _ C.conf_each_api_Domain_c5.eq_1
def C.conf_each_api_Domain_r4_b : List IOper := [
 X.m 14 1,
 X.o 15 (.loadN 3 (X.s 6)),
 X.o 16 (.callv (X.s 14) [X.s 15]),
 X.m 7 16]
def C.conf_each_api_Domain_r4 : List IOper := C.conf_each_api_Domain_r4_b
def C.conf_each_api_Domain_r4_w := @aopsE _ _ C.conf_each_api_Domain_r4.eq_1
def C.conf_each_api_Domain_c6 : ICode := .keep [1, 6, 8, 9, 10] (.seq (.region C.conf_each_api_Domain_r4) C.conf_each_api_Domain_c5)
def C.conf_each_api_Domain_c6_w := @awpE _ _ C.conf_each_api_Domain_c6.eq_1
def C.conf_each_api_Domain_r3_b : List IOper := [
 X.o 12 (.idxAddr 3 (X.s 8) (X.s 10)),
 X.o 13 (.loadN 3 (X.s 12)),
 X.o 6 (.alloc [.int .i64 0, .int .i64 0, .bool false]),
 X.n (.storeN 3 (X.s 6) (X.s 13))]
def C.conf_each_api_Domain_r3 : List IOper := C.conf_each_api_Domain_r3_b
def C.conf_each_api_Domain_r3_w := @aopsE _ _ C.conf_each_api_Domain_r3.eq_1
def C.conf_each_api_Domain_b7 : ICode := .seq (.region C.conf_each_api_Domain_r3) C.conf_each_api_Domain_c6
def C.conf_each_api_Domain_b7_w := @awpE _ _ C.conf_each_api_Domain_b7.eq_1
def C.conf_each_api_Domain_c8 : ICode := .keep [1, 8, 9, 10] (.seq (.block 1 C.conf_each_api_Domain_b7) C.conf_each_api_Domain_c2)
def C.conf_each_api_Domain_c8_w := @awpE _ _ C.conf_each_api_Domain_c8.eq_1
def C.conf_each_api_Domain_c9 : ICode := .keep [1, 8, 9, 10, 11] (.seq (.cond (X.s 11) .skip (.exit 0)) C.conf_each_api_Domain_c8)
def C.conf_each_api_Domain_c9_w := @awpE _ _ C.conf_each_api_Domain_c9.eq_1
def C.conf_each_api_Domain_r2_b : List IOper := [
 X.o 11 (.bin .lss (X.s 10) (X.s 9))]
def C.conf_each_api_Domain_r2 : List IOper := C.conf_each_api_Domain_r2_b
def C.conf_each_api_Domain_r2_w := @aopsE _ _ C.conf_each_api_Domain_r2.eq_1
def C.conf_each_api_Domain_l10 : ICode := .keep [1, 8, 9, 10] (.seq (.region C.conf_each_api_Domain_r2) C.conf_each_api_Domain_c9)
def C.conf_each_api_Domain_l10_w := @awpE _ _ C.conf_each_api_Domain_l10.eq_1
def C.conf_each_api_Domain_b11 : ICode := .loop C.conf_each_api_Domain_l10
def C.conf_each_api_Domain_b11_w := @awpE _ _ C.conf_each_api_Domain_b11.eq_1
def C.conf_each_api_Domain_c12 : ICode := .keep [1, 8, 9, 10] (.block 0 C.conf_each_api_Domain_b11)
def C.conf_each_api_Domain_c12_w := @awpE _ _ C.conf_each_api_Domain_c12.eq_1
def C.conf_each_api_Domain_r1_b : List IOper := [
 X.m 8 0,
 X.o 9 (.len (X.s 8)),
 X.o 10 (.move (X.i 0))]
def C.conf_each_api_Domain_r1 : List IOper := C.conf_each_api_Domain_r1_b
def C.conf_each_api_Domain_r1_w := @aopsE _ _ C.conf_each_api_Domain_r1.eq_1
def C.conf_each_api_Domain_c13 : ICode := .keep [0, 1] (.seq (.seq (.region C.conf_each_api_Domain_r1) C.conf_each_api_Domain_c12) C.conf_each_api_Domain_c1)
def C.conf_each_api_Domain_c13_w := @awpE _ _ C.conf_each_api_Domain_c13.eq_1
def C.conf_each_api_Domain_r0_b : List IOper := [
 X.o 4 (.move (X.i 0))]
def C.conf_each_api_Domain_r0 : List IOper := C.conf_each_api_Domain_r0_b
def C.conf_each_api_Domain_r0_w := @aopsE _ _ C.conf_each_api_Domain_r0.eq_1
def C.conf_each_api_Domain : IFunc := ⟨2, [.slot 4], .seq (.region C.conf_each_api_Domain_r0) C.conf_each_api_Domain_c13⟩
def C.conf_each_api_Domain_W := And.intro (And.intro (And.intro (And.intro @C.conf_each_api_Domain_r8_w @C.conf_each_api_Domain_c1_w) (And.intro @C.conf_each_api_Domain_r7_w (And.intro @C.conf_each_api_Domain_c2_w @C.conf_each_api_Domain_r6_w))) (And.intro (And.intro @C.conf_each_api_Domain_c3_w @C.conf_each_api_Domain_c4_w) (And.intro @C.conf_each_api_Domain_r5_w (And.intro @C.conf_each_api_Domain_c5_w @C.conf_each_api_Domain_r4_w)))) (And.intro (And.intro (And.intro @C.conf_each_api_Domain_c6_w @C.conf_each_api_Domain_r3_w) (And.intro @C.conf_each_api_Domain_b7_w (And.intro @C.conf_each_api_Domain_c8_w @C.conf_each_api_Domain_c9_w))) (And.intro (And.intro @C.conf_each_api_Domain_r2_w (And.intro @C.conf_each_api_Domain_b11_w @C.conf_each_api_Domain_c12_w)) (And.intro @C.conf_each_api_Domain_r1_w (And.intro @C.conf_each_api_Domain_c13_w @C.conf_each_api_Domain_r0_w))))
def C.conf_each_api_Domain_B := And.intro (And.intro (And.intro @C.conf_each_api_Domain_r8_b.eq_1 @C.conf_each_api_Domain_r7_b.eq_1) (And.intro @C.conf_each_api_Domain_r6_b.eq_1 @C.conf_each_api_Domain_r5_b.eq_1)) (And.intro (And.intro @C.conf_each_api_Domain_r4_b.eq_1 @C.conf_each_api_Domain_r3_b.eq_1) (And.intro @C.conf_each_api_Domain_r2_b.eq_1 (And.intro @C.conf_each_api_Domain_r1_b.eq_1 @C.conf_each_api_Domain_r0_b.eq_1)))

def C.conf_Check_4_1_r1_b : List IOper := [
 X.o 4 (.loadN 4 (X.s 1)),
 X.o 5 (.loadN 3 (X.s 2)),
 X.o 6 (.call F.conf_domain [X.s 4, X.s 5]),
 X.m 3 6]
def C.conf_Check_4_1_r1 : List IOper := C.conf_Check_4_1_r1_b
def C.conf_Check_4_1_r1_w := @aopsE _ _ C.conf_Check_4_1_r1.eq_1
def C.conf_Check_4_1_c1 : ICode := .keep [1, 2] (.seq (.region C.conf_Check_4_1_r1) .ret)
def C.conf_Check_4_1_c1_w := @awpE _ _ C.conf_Check_4_1_c1.eq_1
def C.conf_Check_4_1_r0_b : List IOper := [
 X.o 2 (.boxN (X.s 0)),
 X.o 3 (.move (X.i 0))]
def C.conf_Check_4_1_r0 : List IOper := C.conf_Check_4_1_r0_b
def C.conf_Check_4_1_r0_w := @aopsE _ _ C.conf_Check_4_1_r0.eq_1
def C.conf_Check_4_1 : IFunc := ⟨2, [.slot 3], .seq (.region C.conf_Check_4_1_r0) C.conf_Check_4_1_c1⟩
def C.conf_Check_4_1_W := And.intro @C.conf_Check_4_1_r1_w (And.intro @C.conf_Check_4_1_c1_w @C.conf_Check_4_1_r0_w)
def C.conf_Check_4_1_B := And.intro @C.conf_Check_4_1_r1_b.eq_1 @C.conf_Check_4_1_r0_b.eq_1

def C.conf_domain_r1_b : List IOper := [
 X.o 5 (.makeFunc F.conf_domain_1 [X.s 3, X.s 2]),
 X.o 6 (.makeFunc F.conf_domain_2 [X.s 3]),
 X.o 7 (.buildSlice 1 2 [.nilf] [(0, 1, X.s 5), (1, 1, X.s 6)]),
 X.o 8 (.call F.conf_first [X.s 7]),
 X.m 4 8]
def C.conf_domain_r1 : List IOper := C.conf_domain_r1_b
def C.conf_domain_r1_w := @aopsE _ _ C.conf_domain_r1.eq_1
def C.conf_domain_c1 : ICode := .keep [2, 3] (.seq (.region C.conf_domain_r1) .ret)
def C.conf_domain_c1_w := @awpE _ _ C.conf_domain_c1.eq_1
def C.conf_domain_r0_b : List IOper := [
 X.o 2 (.boxN (X.s 0)),
 X.o 3 (.boxN (X.s 1)),
 X.o 4 (.move (X.i 0))]
def C.conf_domain_r0 : List IOper := C.conf_domain_r0_b
def C.conf_domain_r0_w := @aopsE _ _ C.conf_domain_r0.eq_1
def C.conf_domain : IFunc := ⟨2, [.slot 4], .seq (.region C.conf_domain_r0) C.conf_domain_c1⟩
def C.conf_domain_W := And.intro @C.conf_domain_r1_w (And.intro @C.conf_domain_c1_w @C.conf_domain_r0_w)
def C.conf_domain_B := And.intro @C.conf_domain_r1_b.eq_1 @C.conf_domain_r0_b.eq_1

def C.conf_Check_5_r1_b : List IOper := [
 X.o 2 (.loadN 4 (X.s 0)),
 X.o 3 (.call F.conf_Domains [X.s 2]),
 X.o 4 (.call F.conf_cycle [X.s 3]),
 X.m 1 4]
def C.conf_Check_5_r1 : List IOper := C.conf_Check_5_r1_b
def C.conf_Check_5_r1_w := @aopsE _ _ C.conf_Check_5_r1.eq_1
def C.conf_Check_5_c1 : ICode := .keep [0] (.seq (.region C.conf_Check_5_r1) .ret)
def C.conf_Check_5_c1_w := @awpE _ _ C.conf_Check_5_c1.eq_1
def C.conf_Check_5_r0_b : List IOper := [
 X.o 1 (.move (X.i 0))]
def C.conf_Check_5_r0 : List IOper := C.conf_Check_5_r0_b
def C.conf_Check_5_r0_w := @aopsE _ _ C.conf_Check_5_r0.eq_1
def C.conf_Check_5 : IFunc := ⟨1, [.slot 1], .seq (.region C.conf_Check_5_r0) C.conf_Check_5_c1⟩
def C.conf_Check_5_W := And.intro @C.conf_Check_5_r1_w (And.intro @C.conf_Check_5_c1_w @C.conf_Check_5_r0_w)
def C.conf_Check_5_B := And.intro @C.conf_Check_5_r1_b.eq_1 @C.conf_Check_5_r0_b.eq_1

def C.conf_Domains_r8_b : List IOper := [
 X.m 28 3,
 X.m 2 28]
def C.conf_Domains_r8 : List IOper := C.conf_Domains_r8_b
def C.conf_Domains_r8_w := @aopsE _ _ C.conf_Domains_r8.eq_1
def C.conf_Domains_c1 : ICode := .keep [3] (.seq (.region C.conf_Domains_r8) .ret)
def C.conf_Domains_c1_w := @awpE _ _ C.conf_Domains_c1.eq_1
def C.conf_Domains_r7_b : List IOper := [
 X.o 27 (.bin .add (X.s 13) (X.i 1)),
 X.m 13 27]
def C.conf_Domains_r7 : List IOper := C.conf_Domains_r7_b
def C.conf_Domains_r7_w := @aopsE _ _ C.conf_Domains_r7.eq_1
def C.conf_Domains_c2 : ICode := .keep [3, 11, 12, 13] (.region C.conf_Domains_r7)
def C.conf_Domains_c2_w := @awpE _ _ C.conf_Domains_c2.eq_1
def C.conf_Domains_r6_b : List IOper := [
 X.m 21 3,
 X.m 22 4,
 X.o 23 (.fldAddr 0 (X.s 5)),
 X.o 24 (.load1 (X.s 23)),
 X.o 25 (.buildSlice 1 1 [.int .i64 0] [(0, 1, X.s 24)]),
 X.o 26 (.idxAddr 1 (X.s 21) (X.s 22)),
 X.n (.store1 (X.s 26) (X.s 25))]
def C.conf_Domains_r6 : List IOper := C.conf_Domains_r6_b
def C.conf_Domains_r6_w := @aopsE _ _ C.conf_Domains_r6.eq_1
def C.conf_Domains_c3 : ICode := .keep [3, 4, 5, 11, 12, 13, 20] (.cond (X.s 20) (.region C.conf_Domains_r6) .skip)
def C.conf_Domains_c3_w := @awpE _ _ C.conf_Domains_c3.eq_1
def C.conf_Domains_r5_b : List IOper := [
 X.o 18 (.fldAddr 0 (X.s 5)),
 X.o 19 (.load1 (X.s 18)),
 X.o 20 (.bin .neq (X.s 19) (X.i (-1)))]
def C.conf_Domains_r5 : List IOper := C.conf_Domains_r5_b
def C.conf_Domains_r5_w := @aopsE _ _ C.conf_Domains_r5.eq_1
def C.conf_Domains_c4 : ICode := .keep [3, 4, 5, 11, 12, 13] (.seq (.region C.conf_Domains_r5) C.conf_Domains_c3)
def C.conf_Domains_c4_w := @awpE _ _ C.conf_Domains_c4.eq_1
def C.conf_Domains_r4_b : List IOper := [
 X.m 15 13,
 X.o 16 (.idxAddr 3 (X.s 11) (X.s 13)),
 X.o 17 (.loadN 3 (X.s 16)),
 X.o 5 (.alloc [.int .i64 0, .int .i64 0, .bool false]),
 X.m 4 15,
 X.n (.storeN 3 (X.s 5) (X.s 17))]
def C.conf_Domains_r4 : List IOper := C.conf_Domains_r4_b
def C.conf_Domains_r4_w := @aopsE _ _ C.conf_Domains_r4.eq_1
def C.conf_Domains_b5 : ICode := .seq (.region C.conf_Domains_r4) C.conf_Domains_c4
def C.conf_Domains_b5_w := @awpE _ _ C.conf_Domains_b5.eq_1
def C.conf_Domains_c6 : ICode := .keep [3, 11, 12, 13] (.seq (.block 1 C.conf_Domains_b5) C.conf_Domains_c2)
def C.conf_Domains_c6_w := @awpE _ _ C.conf_Domains_c6.eq_1
def C.conf_Domains_c7 : ICode := .keep [3, 11, 12, 13, 14] (.seq (.cond (X.s 14) .skip (.exit 0)) C.conf_Domains_c6)
def C.conf_Domains_c7_w := @awpE _ _ C.conf_Domains_c7.eq_1
def C.conf_Domains_r3_b : List IOper := [
 X.o 14 (.bin .lss (X.s 13) (X.s 12))]
def C.conf_Domains_r3 : List IOper := C.conf_Domains_r3_b
def C.conf_Domains_r3_w := @aopsE _ _ C.conf_Domains_r3.eq_1
def C.conf_Domains_l8 : ICode := .keep [3, 11, 12, 13] (.seq (.region C.conf_Domains_r3) C.conf_Domains_c7)
def C.conf_Domains_l8_w := @awpE _ _ C.conf_Domains_l8.eq_1
def C.conf_Domains_b9 : ICode := .loop C.conf_Domains_l8
def C.conf_Domains_b9_w := @awpE _ _ C.conf_Domains_b9.eq_1
def C.conf_Domains_c10 : ICode := .keep [3, 11, 12, 13] (.block 0 C.conf_Domains_b9)
def C.conf_Domains_c10_w := @awpE _ _ C.conf_Domains_c10.eq_1
def C.conf_Domains_r2_b : List IOper := [
 X.o 10 (.fldAddr 1 (X.s 1)),
 X.o 11 (.load1 (X.s 10)),
 X.o 12 (.len (X.s 11)),
 X.o 13 (.move (X.i 0))]
def C.conf_Domains_r2 : List IOper := C.conf_Domains_r2_b
def C.conf_Domains_r2_w := @aopsE _ _ C.conf_Domains_r2.eq_1
def C.conf_Domains_c11 : ICode := .keep [1, 3] (.seq (.seq (.region C.conf_Domains_r2) C.conf_Domains_c10) C.conf_Domains_c1)
def C.conf_Domains_c11_w := @awpE _ _ C.conf_Domains_c11.eq_1
def C.conf_Domains_r1_b : List IOper := [
 X.o 6 (.fldAddr 1 (X.s 1)),
 X.o 7 (.load1 (X.s 6)),
 X.o 8 (.len (X.s 7)),
 X.o 9 (.makeSlice 1 24 [.nils] (X.s 8) (X.s 8)),
 X.m 3 9]
def C.conf_Domains_r1 : List IOper := C.conf_Domains_r1_b
def C.conf_Domains_r1_w := @aopsE _ _ C.conf_Domains_r1.eq_1
def C.conf_Domains_c12 : ICode := .keep [1] (.seq (.region C.conf_Domains_r1) C.conf_Domains_c11)
def C.conf_Domains_c12_w := @awpE _ _ C.conf_Domains_c12.eq_1
def C.conf_Domains_r0_b : List IOper := [
 X.o 1 (.boxN (X.s 0)),
 X.o 2 (.move (.cst (.nils)))]
def C.conf_Domains_r0 : List IOper := C.conf_Domains_r0_b
def C.conf_Domains_r0_w := @aopsE _ _ C.conf_Domains_r0.eq_1
def C.conf_Domains : IFunc := ⟨1, [.slot 2], .seq (.region C.conf_Domains_r0) C.conf_Domains_c12⟩
def C.conf_Domains_W := And.intro (And.intro (And.intro (And.intro @C.conf_Domains_r8_w @C.conf_Domains_c1_w) (And.intro @C.conf_Domains_r7_w (And.intro @C.conf_Domains_c2_w @C.conf_Domains_r6_w))) (And.intro (And.intro @C.conf_Domains_c3_w @C.conf_Domains_r5_w) (And.intro @C.conf_Domains_c4_w (And.intro @C.conf_Domains_r4_w @C.conf_Domains_b5_w)))) (And.intro (And.intro (And.intro @C.conf_Domains_c6_w @C.conf_Domains_c7_w) (And.intro @C.conf_Domains_r3_w (And.intro @C.conf_Domains_b9_w @C.conf_Domains_c10_w))) (And.intro (And.intro @C.conf_Domains_r2_w @C.conf_Domains_c11_w) (And.intro @C.conf_Domains_r1_w (And.intro @C.conf_Domains_c12_w @C.conf_Domains_r0_w))))
def C.conf_Domains_B := And.intro (And.intro (And.intro @C.conf_Domains_r8_b.eq_1 @C.conf_Domains_r7_b.eq_1) (And.intro @C.conf_Domains_r6_b.eq_1 @C.conf_Domains_r5_b.eq_1)) (And.intro (And.intro @C.conf_Domains_r4_b.eq_1 @C.conf_Domains_r3_b.eq_1) (And.intro @C.conf_Domains_r2_b.eq_1 (And.intro @C.conf_Domains_r1_b.eq_1 @C.conf_Domains_r0_b.eq_1)))

def C.conf_Check_6_r1_b : List IOper := [
 X.o 2 (.fldAddr 2 (X.s 0)),
 X.o 3 (.load1 (X.s 2)),
 X.o 4 (.call F.conf_each_api_Reset [X.s 3, .fnc F.conf_reset]),
 X.m 1 4]
def C.conf_Check_6_r1 : List IOper := C.conf_Check_6_r1_b
def C.conf_Check_6_r1_w := @aopsE _ _ C.conf_Check_6_r1.eq_1
def C.conf_Check_6_c1 : ICode := .keep [0] (.seq (.region C.conf_Check_6_r1) .ret)
def C.conf_Check_6_c1_w := @awpE _ _ C.conf_Check_6_c1.eq_1
def C.conf_Check_6_r0_b : List IOper := [
 X.o 1 (.move (X.i 0))]
def C.conf_Check_6_r0 : List IOper := C.conf_Check_6_r0_b
def C.conf_Check_6_r0_w := @aopsE _ _ C.conf_Check_6_r0.eq_1
def C.conf_Check_6 : IFunc := ⟨1, [.slot 1], .seq (.region C.conf_Check_6_r0) C.conf_Check_6_c1⟩
def C.conf_Check_6_W := And.intro @C.conf_Check_6_r1_w (And.intro @C.conf_Check_6_c1_w @C.conf_Check_6_r0_w)
def C.conf_Check_6_B := And.intro @C.conf_Check_6_r1_b.eq_1 @C.conf_Check_6_r0_b.eq_1

def C.conf_each_api_Reset_r8_b : List IOper := [
 X.o 4 (.move (X.i 0))]
def C.conf_each_api_Reset_r8 : List IOper := C.conf_each_api_Reset_r8_b
def C.conf_each_api_Reset_r8_w := @aopsE _ _ C.conf_each_api_Reset_r8.eq_1
def C.conf_each_api_Reset_c1 : ICode := .keep [] (.seq (.region C.conf_each_api_Reset_r8) .ret)
def C.conf_each_api_Reset_c1_w := @awpE _ _ C.conf_each_api_Reset_c1.eq_1
def C.conf_each_api_Reset_r7_b : List IOper := [
 X.o 20 (.bin .add (X.s 10) (X.i 1)),
 X.m 10 20]
def C.conf_each_api_Reset_r7 : List IOper := C.conf_each_api_Reset_r7_b
def C.conf_each_api_Reset_r7_w := @aopsE _ _ C.conf_each_api_Reset_r7.eq_1
def C.conf_each_api_Reset_c2 : ICode := .keep [1, 8, 9, 10] (.region C.conf_each_api_Reset_r7)
def C.conf_each_api_Reset_c2_w := @awpE _ _ C.conf_each_api_Reset_c2.eq_1
def C.conf_each_api_Reset_r6_b : List IOper := [
 X.m 19 7,
 X.m 4 19]
def C.conf_each_api_Reset_r6 : List IOper := C.conf_each_api_Reset_r6_b
def C.conf_each_api_Reset_r6_w := @aopsE _ _ C.conf_each_api_Reset_r6.eq_1
def C.conf_each_api_Reset_c3 : ICode := .seq (.region C.conf_each_api_Reset_r6) .ret
def C.conf_each_api_Reset_c3_w := @awpE _ _ C.conf_each_api_Reset_c3.eq_1
def C.conf_each_api_Reset_c4 : ICode := .keep [1, 7, 8, 9, 10, 18] (.cond (X.s 18) C.conf_each_api_Reset_c3 .skip)
def C.conf_each_api_Reset_c4_w := @awpE _ _ C.conf_each_api_Reset_c4.eq_1
def C.conf_each_api_Reset_r5_b : List IOper := [
 X.m 17 7,
 X.o 18 (.bin .neq (X.s 17) (X.i 0))]
def C.conf_each_api_Reset_r5 : List IOper := C.conf_each_api_Reset_r5_b
def C.conf_each_api_Reset_r5_w := @aopsE _ _ C.conf_each_api_Reset_r5.eq_1
def C.conf_each_api_Reset_c5 : ICode := .keep [1, 7, 8, 9, 10] (.seq (.region C.conf_each_api_Reset_r5) C.conf_each_api_Reset_c4)
def C.conf_each_api_Reset_c5_w := @awpE _ _ C.conf_each_api_Reset_c5.eq_1
def C.conf_each_api_Reset_r4_b : List IOper := [
 X.m 14 1,
 X.o 15 (.loadN 1 (X.s 6)),
 X.o 16 (.callv (X.s 14) [X.s 15]),
 X.m 7 16]
def C.conf_each_api_Reset_r4 : List IOper := C.conf_each_api_Reset_r4_b
def C.conf_each_api_Reset_r4_w := @aopsE _ _ C.conf_each_api_Reset_r4.eq_1
def C.conf_each_api_Reset_c6 : ICode := .keep [1, 6, 8, 9, 10] (.seq (.region C.conf_each_api_Reset_r4) C.conf_each_api_Reset_c5)
def C.conf_each_api_Reset_c6_w := @awpE _ _ C.conf_each_api_Reset_c6.eq_1
def C.conf_each_api_Reset_r3_b : List IOper := [
 X.o 12 (.idxAddr 1 (X.s 8) (X.s 10)),
 X.o 13 (.loadN 1 (X.s 12)),
 X.o 6 (.alloc [.int .i64 0]),
 X.n (.storeN 1 (X.s 6) (X.s 13))]
def C.conf_each_api_Reset_r3 : List IOper := C.conf_each_api_Reset_r3_b
def C.conf_each_api_Reset_r3_w := @aopsE _ _ C.conf_each_api_Reset_r3.eq_1
def C.conf_each_api_Reset_b7 : ICode := .seq (.region C.conf_each_api_Reset_r3) C.conf_each_api_Reset_c6
def C.conf_each_api_Reset_b7_w := @awpE _ _ C.conf_each_api_Reset_b7.eq_1
def C.conf_each_api_Reset_c8 : ICode := .keep [1, 8, 9, 10] (.seq (.block 1 C.conf_each_api_Reset_b7) C.conf_each_api_Reset_c2)
def C.conf_each_api_Reset_c8_w := @awpE _ _ C.conf_each_api_Reset_c8.eq_1
def C.conf_each_api_Reset_c9 : ICode := .keep [1, 8, 9, 10, 11] (.seq (.cond (X.s 11) .skip (.exit 0)) C.conf_each_api_Reset_c8)
def C.conf_each_api_Reset_c9_w := @awpE _ _ C.conf_each_api_Reset_c9.eq_1
def C.conf_each_api_Reset_r2_b : List IOper := [
 X.o 11 (.bin .lss (X.s 10) (X.s 9))]
def C.conf_each_api_Reset_r2 : List IOper := C.conf_each_api_Reset_r2_b
def C.conf_each_api_Reset_r2_w := @aopsE _ _ C.conf_each_api_Reset_r2.eq_1
def C.conf_each_api_Reset_l10 : ICode := .keep [1, 8, 9, 10] (.seq (.region C.conf_each_api_Reset_r2) C.conf_each_api_Reset_c9)
def C.conf_each_api_Reset_l10_w := @awpE _ _ C.conf_each_api_Reset_l10.eq_1
def C.conf_each_api_Reset_b11 : ICode := .loop C.conf_each_api_Reset_l10
def C.conf_each_api_Reset_b11_w := @awpE _ _ C.conf_each_api_Reset_b11.eq_1
def C.conf_each_api_Reset_c12 : ICode := .keep [1, 8, 9, 10] (.block 0 C.conf_each_api_Reset_b11)
def C.conf_each_api_Reset_c12_w := @awpE _ _ C.conf_each_api_Reset_c12.eq_1
def C.conf_each_api_Reset_r1_b : List IOper := [
 X.m 8 0,
 X.o 9 (.len (X.s 8)),
 X.o 10 (.move (X.i 0))]
def C.conf_each_api_Reset_r1 : List IOper := C.conf_each_api_Reset_r1_b
def C.conf_each_api_Reset_r1_w := @aopsE _ _ C.conf_each_api_Reset_r1.eq_1
def C.conf_each_api_Reset_c13 : ICode := .keep [0, 1] (.seq (.seq (.region C.conf_each_api_Reset_r1) C.conf_each_api_Reset_c12) C.conf_each_api_Reset_c1)
def C.conf_each_api_Reset_c13_w := @awpE _ _ C.conf_each_api_Reset_c13.eq_1
def C.conf_each_api_Reset_r0_b : List IOper := [
 X.o 4 (.move (X.i 0))]
def C.conf_each_api_Reset_r0 : List IOper := C.conf_each_api_Reset_r0_b
def C.conf_each_api_Reset_r0_w := @aopsE _ _ C.conf_each_api_Reset_r0.eq_1
def C.conf_each_api_Reset : IFunc := ⟨2, [.slot 4], .seq (.region C.conf_each_api_Reset_r0) C.conf_each_api_Reset_c13⟩
def C.conf_each_api_Reset_W := And.intro (And.intro (And.intro (And.intro @C.conf_each_api_Reset_r8_w @C.conf_each_api_Reset_c1_w) (And.intro @C.conf_each_api_Reset_r7_w (And.intro @C.conf_each_api_Reset_c2_w @C.conf_each_api_Reset_r6_w))) (And.intro (And.intro @C.conf_each_api_Reset_c3_w @C.conf_each_api_Reset_c4_w) (And.intro @C.conf_each_api_Reset_r5_w (And.intro @C.conf_each_api_Reset_c5_w @C.conf_each_api_Reset_r4_w)))) (And.intro (And.intro (And.intro @C.conf_each_api_Reset_c6_w @C.conf_each_api_Reset_r3_w) (And.intro @C.conf_each_api_Reset_b7_w (And.intro @C.conf_each_api_Reset_c8_w @C.conf_each_api_Reset_c9_w))) (And.intro (And.intro @C.conf_each_api_Reset_r2_w (And.intro @C.conf_each_api_Reset_b11_w @C.conf_each_api_Reset_c12_w)) (And.intro @C.conf_each_api_Reset_r1_w (And.intro @C.conf_each_api_Reset_c13_w @C.conf_each_api_Reset_r0_w))))
def C.conf_each_api_Reset_B := And.intro (And.intro (And.intro @C.conf_each_api_Reset_r8_b.eq_1 @C.conf_each_api_Reset_r7_b.eq_1) (And.intro @C.conf_each_api_Reset_r6_b.eq_1 @C.conf_each_api_Reset_r5_b.eq_1)) (And.intro (And.intro @C.conf_each_api_Reset_r4_b.eq_1 @C.conf_each_api_Reset_r3_b.eq_1) (And.intro @C.conf_each_api_Reset_r2_b.eq_1 (And.intro @C.conf_each_api_Reset_r1_b.eq_1 @C.conf_each_api_Reset_r0_b.eq_1)))

def C.conf_reset_r1_b : List IOper := [
 X.o 3 (.fldAddr 0 (X.s 1)),
 X.o 4 (.load1 (X.s 3)),
 X.o 5 (.call F.conf_within [X.s 4, X.i 0, X.i 20]),
 X.o 6 (.un .not (X.s 5)),
 X.o 7 (.call F.conf_when [X.s 6, X.i 3]),
 X.m 2 7]
def C.conf_reset_r1 : List IOper := C.conf_reset_r1_b
def C.conf_reset_r1_w := @aopsE _ _ C.conf_reset_r1.eq_1
def C.conf_reset_c1 : ICode := .keep [1] (.seq (.region C.conf_reset_r1) .ret)
def C.conf_reset_c1_w := @awpE _ _ C.conf_reset_c1.eq_1
def C.conf_reset_r0_b : List IOper := [
 X.o 1 (.boxN (X.s 0)),
 X.o 2 (.move (X.i 0))]
def C.conf_reset_r0 : List IOper := C.conf_reset_r0_b
def C.conf_reset_r0_w := @aopsE _ _ C.conf_reset_r0.eq_1
def C.conf_reset : IFunc := ⟨1, [.slot 2], .seq (.region C.conf_reset_r0) C.conf_reset_c1⟩
def C.conf_reset_W := And.intro @C.conf_reset_r1_w (And.intro @C.conf_reset_c1_w @C.conf_reset_r0_w)
def C.conf_reset_B := And.intro @C.conf_reset_r1_b.eq_1 @C.conf_reset_r0_b.eq_1

def C.conf_Check_7_r1_b : List IOper := [
 X.o 2 (.fldAddr 3 (X.s 0)),
 X.o 3 (.load1 (X.s 2)),
 X.o 4 (.makeFunc F.conf_Check_7_1 [X.s 0]),
 X.o 5 (.call F.conf_each_api_Device [X.s 3, X.s 4]),
 X.m 1 5]
def C.conf_Check_7_r1 : List IOper := C.conf_Check_7_r1_b
def C.conf_Check_7_r1_w := @aopsE _ _ C.conf_Check_7_r1.eq_1
def C.conf_Check_7_c1 : ICode := .keep [0] (.seq (.region C.conf_Check_7_r1) .ret)
def C.conf_Check_7_c1_w := @awpE _ _ C.conf_Check_7_c1.eq_1
def C.conf_Check_7_r0_b : List IOper := [
 X.o 1 (.move (X.i 0))]
def C.conf_Check_7_r0 : List IOper := C.conf_Check_7_r0_b
def C.conf_Check_7_r0_w := @aopsE _ _ C.conf_Check_7_r0.eq_1
def C.conf_Check_7 : IFunc := ⟨1, [.slot 1], .seq (.region C.conf_Check_7_r0) C.conf_Check_7_c1⟩
def C.conf_Check_7_W := And.intro @C.conf_Check_7_r1_w (And.intro @C.conf_Check_7_c1_w @C.conf_Check_7_r0_w)
def C.conf_Check_7_B := And.intro @C.conf_Check_7_r1_b.eq_1 @C.conf_Check_7_r0_b.eq_1

def C.conf_each_api_Device_r8_b : List IOper := [
 X.o 4 (.move (X.i 0))]
def C.conf_each_api_Device_r8 : List IOper := C.conf_each_api_Device_r8_b
def C.conf_each_api_Device_r8_w := @aopsE _ _ C.conf_each_api_Device_r8.eq_1
def C.conf_each_api_Device_c1 : ICode := .keep [] (.seq (.region C.conf_each_api_Device_r8) .ret)
def C.conf_each_api_Device_c1_w := @awpE _ _ C.conf_each_api_Device_c1.eq_1
def C.conf_each_api_Device_r7_b : List IOper := [
 X.o 20 (.bin .add (X.s 10) (X.i 1)),
 X.m 10 20]
def C.conf_each_api_Device_r7 : List IOper := C.conf_each_api_Device_r7_b
def C.conf_each_api_Device_r7_w := @aopsE _ _ C.conf_each_api_Device_r7.eq_1
def C.conf_each_api_Device_c2 : ICode := .keep [1, 8, 9, 10] (.region C.conf_each_api_Device_r7)
def C.conf_each_api_Device_c2_w := @awpE _ _ C.conf_each_api_Device_c2.eq_1
def C.conf_each_api_Device_r6_b : List IOper := [
 X.m 19 7,
 X.m 4 19]
def C.conf_each_api_Device_r6 : List IOper := C.conf_each_api_Device_r6_b
def C.conf_each_api_Device_r6_w := @aopsE _ _ C.conf_each_api_Device_r6.eq_1
def C.conf_each_api_Device_c3 : ICode := .seq (.region C.conf_each_api_Device_r6) .ret
def C.conf_each_api_Device_c3_w := @awpE _ _ C.conf_each_api_Device_c3.eq_1
def C.conf_each_api_Device_c4 : ICode := .keep [1, 7, 8, 9, 10, 18] (.cond (X.s 18) C.conf_each_api_Device_c3 .skip)
def C.conf_each_api_Device_c4_w := @awpE _ _ C.conf_each_api_Device_c4.eq_1
def C.conf_each_api_Device_r5_b : List IOper := [
 X.m 17 7,
 X.o 18 (.bin .neq (X.s 17) (X.i 0))]
def C.conf_each_api_Device_r5 : List IOper := C.conf_each_api_Device_r5_b
def C.conf_each_api_Device_r5_w := @aopsE _ _ C.conf_each_api_Device_r5.eq_1
def C.conf_each_api_Device_c5 : ICode := .keep [1, 7, 8, 9, 10] (.seq (.region C.conf_each_api_Device_r5) C.conf_each_api_Device_c4)
def C.conf_each_api_Device_c5_w := @awpE _ _ C.conf_each_api_Device_c5.eq_1
def C.conf_each_api_Device_r4_b : List IOper := [
 X.m 14 1,
 X.o 15 (.loadN 6 (X.s 6)),
 X.o 16 (.callv (X.s 14) [X.s 15]),
 X.m 7 16]
def C.conf_each_api_Device_r4 : List IOper := C.conf_each_api_Device_r4_b
def C.conf_each_api_Device_r4_w := @aopsE _ _ C.conf_each_api_Device_r4.eq_1
def C.conf_each_api_Device_c6 : ICode := .keep [1, 6, 8, 9, 10] (.seq (.region C.conf_each_api_Device_r4) C.conf_each_api_Device_c5)
def C.conf_each_api_Device_c6_w := @awpE _ _ C.conf_each_api_Device_c6.eq_1
def C.conf_each_api_Device_r3_b : List IOper := [
 X.o 12 (.idxAddr 6 (X.s 8) (X.s 10)),
 X.o 13 (.loadN 6 (X.s 12)),
 X.o 6 (.alloc [.int .i64 0, .int .i64 0, .int .i64 0, .int .u32 0, .nils, .nils]),
 X.n (.storeN 6 (X.s 6) (X.s 13))]
def C.conf_each_api_Device_r3 : List IOper := C.conf_each_api_Device_r3_b
def C.conf_each_api_Device_r3_w := @aopsE _ _ C.conf_each_api_Device_r3.eq_1
def C.conf_each_api_Device_b7 : ICode := .seq (.region C.conf_each_api_Device_r3) C.conf_each_api_Device_c6
def C.conf_each_api_Device_b7_w := @awpE _ _ C.conf_each_api_Device_b7.eq_1
def C.conf_each_api_Device_c8 : ICode := .keep [1, 8, 9, 10] (.seq (.block 1 C.conf_each_api_Device_b7) C.conf_each_api_Device_c2)
def C.conf_each_api_Device_c8_w := @awpE _ _ C.conf_each_api_Device_c8.eq_1
def C.conf_each_api_Device_c9 : ICode := .keep [1, 8, 9, 10, 11] (.seq (.cond (X.s 11) .skip (.exit 0)) C.conf_each_api_Device_c8)
def C.conf_each_api_Device_c9_w := @awpE _ _ C.conf_each_api_Device_c9.eq_1
def C.conf_each_api_Device_r2_b : List IOper := [
 X.o 11 (.bin .lss (X.s 10) (X.s 9))]
def C.conf_each_api_Device_r2 : List IOper := C.conf_each_api_Device_r2_b
def C.conf_each_api_Device_r2_w := @aopsE _ _ C.conf_each_api_Device_r2.eq_1
def C.conf_each_api_Device_l10 : ICode := .keep [1, 8, 9, 10] (.seq (.region C.conf_each_api_Device_r2) C.conf_each_api_Device_c9)
def C.conf_each_api_Device_l10_w := @awpE _ _ C.conf_each_api_Device_l10.eq_1
def C.conf_each_api_Device_b11 : ICode := .loop C.conf_each_api_Device_l10
def C.conf_each_api_Device_b11_w := @awpE _ _ C.conf_each_api_Device_b11.eq_1
def C.conf_each_api_Device_c12 : ICode := .keep [1, 8, 9, 10] (.block 0 C.conf_each_api_Device_b11)
def C.conf_each_api_Device_c12_w := @awpE _ _ C.conf_each_api_Device_c12.eq_1
def C.conf_each_api_Device_r1_b : List IOper := [
 X.m 8 0,
 X.o 9 (.len (X.s 8)),
 X.o 10 (.move (X.i 0))]
def C.conf_each_api_Device_r1 : List IOper := C.conf_each_api_Device_r1_b
def C.conf_each_api_Device_r1_w := @aopsE _ _ C.conf_each_api_Device_r1.eq_1
def C.conf_each_api_Device_c13 : ICode := .keep [0, 1] (.seq (.seq (.region C.conf_each_api_Device_r1) C.conf_each_api_Device_c12) C.conf_each_api_Device_c1)
def C.conf_each_api_Device_c13_w := @awpE _ _ C.conf_each_api_Device_c13.eq_1
def C.conf_each_api_Device_r0_b : List IOper := [
 X.o 4 (.move (X.i 0))]
def C.conf_each_api_Device_r0 : List IOper := C.conf_each_api_Device_r0_b
def C.conf_each_api_Device_r0_w := @aopsE _ _ C.conf_each_api_Device_r0.eq_1
def C.conf_each_api_Device : IFunc := ⟨2, [.slot 4], .seq (.region C.conf_each_api_Device_r0) C.conf_each_api_Device_c13⟩
def C.conf_each_api_Device_W := And.intro (And.intro (And.intro (And.intro @C.conf_each_api_Device_r8_w @C.conf_each_api_Device_c1_w) (And.intro @C.conf_each_api_Device_r7_w (And.intro @C.conf_each_api_Device_c2_w @C.conf_each_api_Device_r6_w))) (And.intro (And.intro @C.conf_each_api_Device_c3_w @C.conf_each_api_Device_c4_w) (And.intro @C.conf_each_api_Device_r5_w (And.intro @C.conf_each_api_Device_c5_w @C.conf_each_api_Device_r4_w)))) (And.intro (And.intro (And.intro @C.conf_each_api_Device_c6_w @C.conf_each_api_Device_r3_w) (And.intro @C.conf_each_api_Device_b7_w (And.intro @C.conf_each_api_Device_c8_w @C.conf_each_api_Device_c9_w))) (And.intro (And.intro @C.conf_each_api_Device_r2_w (And.intro @C.conf_each_api_Device_b11_w @C.conf_each_api_Device_c12_w)) (And.intro @C.conf_each_api_Device_r1_w (And.intro @C.conf_each_api_Device_c13_w @C.conf_each_api_Device_r0_w))))
def C.conf_each_api_Device_B := And.intro (And.intro (And.intro @C.conf_each_api_Device_r8_b.eq_1 @C.conf_each_api_Device_r7_b.eq_1) (And.intro @C.conf_each_api_Device_r6_b.eq_1 @C.conf_each_api_Device_r5_b.eq_1)) (And.intro (And.intro @C.conf_each_api_Device_r4_b.eq_1 @C.conf_each_api_Device_r3_b.eq_1) (And.intro @C.conf_each_api_Device_r2_b.eq_1 (And.intro @C.conf_each_api_Device_r1_b.eq_1 @C.conf_each_api_Device_r0_b.eq_1)))

def C.conf_Check_7_1_r1_b : List IOper := [
 X.o 4 (.loadN 4 (X.s 1)),
 X.o 5 (.loadN 6 (X.s 2)),
 X.o 6 (.call F.conf_device [X.s 4, X.s 5]),
 X.m 3 6]
def C.conf_Check_7_1_r1 : List IOper := C.conf_Check_7_1_r1_b
def C.conf_Check_7_1_r1_w := @aopsE _ _ C.conf_Check_7_1_r1.eq_1
def C.conf_Check_7_1_c1 : ICode := .keep [1, 2] (.seq (.region C.conf_Check_7_1_r1) .ret)
def C.conf_Check_7_1_c1_w := @awpE _ _ C.conf_Check_7_1_c1.eq_1
def C.conf_Check_7_1_r0_b : List IOper := [
 X.o 2 (.boxN (X.s 0)),
 X.o 3 (.move (X.i 0))]
def C.conf_Check_7_1_r0 : List IOper := C.conf_Check_7_1_r0_b
def C.conf_Check_7_1_r0_w := @aopsE _ _ C.conf_Check_7_1_r0.eq_1
def C.conf_Check_7_1 : IFunc := ⟨2, [.slot 3], .seq (.region C.conf_Check_7_1_r0) C.conf_Check_7_1_c1⟩
def C.conf_Check_7_1_W := And.intro @C.conf_Check_7_1_r1_w (And.intro @C.conf_Check_7_1_c1_w @C.conf_Check_7_1_r0_w)
def C.conf_Check_7_1_B := And.intro @C.conf_Check_7_1_r1_b.eq_1 @C.conf_Check_7_1_r0_b.eq_1

def C.conf_device_r1_b : List IOper := [
 X.o 5 (.makeFunc F.conf_device_1 [X.s 3, X.s 2]),
 X.o 6 (.makeFunc F.conf_device_2 [X.s 3, X.s 2]),
 X.o 7 (.makeFunc F.conf_device_3 [X.s 3, X.s 2]),
 X.o 8 (.makeFunc F.conf_device_4 [X.s 3, X.s 2]),
 X.o 9 (.buildSlice 1 4 [.nilf] [(0, 1, X.s 5), (1, 1, X.s 6), (2, 1, X.s 7), (3, 1, X.s 8)]),
 X.o 10 (.call F.conf_first [X.s 9]),
 X.m 4 10]
def C.conf_device_r1 : List IOper := C.conf_device_r1_b
def C.conf_device_r1_w := @aopsE _ _ C.conf_device_r1.eq_1
def C.conf_device_c1 : ICode := .keep [2, 3] (.seq (.region C.conf_device_r1) .ret)
def C.conf_device_c1_w := @awpE _ _ C.conf_device_c1.eq_1
def C.conf_device_r0_b : List IOper := [
 X.o 2 (.boxN (X.s 0)),
 X.o 3 (.boxN (X.s 1)),
 X.o 4 (.move (X.i 0))]
def C.conf_device_r0 : List IOper := C.conf_device_r0_b
def C.conf_device_r0_w := @aopsE _ _ C.conf_device_r0.eq_1
def C.conf_device : IFunc := ⟨2, [.slot 4], .seq (.region C.conf_device_r0) C.conf_device_c1⟩
def C.conf_device_W := And.intro @C.conf_device_r1_w (And.intro @C.conf_device_c1_w @C.conf_device_r0_w)
def C.conf_device_B := And.intro @C.conf_device_r1_b.eq_1 @C.conf_device_r0_b.eq_1

def C.conf_Check_8_r1_b : List IOper := [
 X.o 2 (.loadN 4 (X.s 0)),
 X.o 3 (.call F.conf_Needs [X.s 2]),
 X.o 4 (.call F.conf_cycle [X.s 3]),
 X.m 1 4]
def C.conf_Check_8_r1 : List IOper := C.conf_Check_8_r1_b
def C.conf_Check_8_r1_w := @aopsE _ _ C.conf_Check_8_r1.eq_1
def C.conf_Check_8_c1 : ICode := .keep [0] (.seq (.region C.conf_Check_8_r1) .ret)
def C.conf_Check_8_c1_w := @awpE _ _ C.conf_Check_8_c1.eq_1
def C.conf_Check_8_r0_b : List IOper := [
 X.o 1 (.move (X.i 0))]
def C.conf_Check_8_r0 : List IOper := C.conf_Check_8_r0_b
def C.conf_Check_8_r0_w := @aopsE _ _ C.conf_Check_8_r0.eq_1
def C.conf_Check_8 : IFunc := ⟨1, [.slot 1], .seq (.region C.conf_Check_8_r0) C.conf_Check_8_c1⟩
def C.conf_Check_8_W := And.intro @C.conf_Check_8_r1_w (And.intro @C.conf_Check_8_c1_w @C.conf_Check_8_r0_w)
def C.conf_Check_8_B := And.intro @C.conf_Check_8_r1_b.eq_1 @C.conf_Check_8_r0_b.eq_1

def C.conf_Needs_r7_b : List IOper := [
 X.m 25 3,
 X.m 2 25]
def C.conf_Needs_r7 : List IOper := C.conf_Needs_r7_b
def C.conf_Needs_r7_w := @aopsE _ _ C.conf_Needs_r7.eq_1
def C.conf_Needs_c1 : ICode := .keep [3] (.seq (.region C.conf_Needs_r7) .ret)
def C.conf_Needs_c1_w := @awpE _ _ C.conf_Needs_c1.eq_1
def C.conf_Needs_r6_b : List IOper := [
 X.o 24 (.bin .add (X.s 13) (X.i 1)),
 X.m 13 24]
def C.conf_Needs_r6 : List IOper := C.conf_Needs_r6_b
def C.conf_Needs_r6_w := @aopsE _ _ C.conf_Needs_r6.eq_1
def C.conf_Needs_c2 : ICode := .keep [3, 11, 12, 13] (.region C.conf_Needs_r6)
def C.conf_Needs_c2_w := @awpE _ _ C.conf_Needs_c2.eq_1
def C.conf_Needs_r5_b : List IOper := [
 X.m 18 3,
 X.m 19 4,
 X.o 20 (.fldAddr 5 (X.s 5)),
 X.o 21 (.load1 (X.s 20)),
 X.o 22 (.call F.conf_own_int [X.s 21]),
 X.o 23 (.idxAddr 1 (X.s 18) (X.s 19)),
 X.n (.store1 (X.s 23) (X.s 22))]
def C.conf_Needs_r5 : List IOper := C.conf_Needs_r5_b
def C.conf_Needs_r5_w := @aopsE _ _ C.conf_Needs_r5.eq_1
def C.conf_Needs_c3 : ICode := .keep [3, 4, 5, 11, 12, 13] (.region C.conf_Needs_r5)
def C.conf_Needs_c3_w := @awpE _ _ C.conf_Needs_c3.eq_1
def C.conf_Needs_r4_b : List IOper := [
 X.m 15 13,
 X.o 16 (.idxAddr 6 (X.s 11) (X.s 13)),
 X.o 17 (.loadN 6 (X.s 16)),
 X.o 5 (.alloc [.int .i64 0, .int .i64 0, .int .i64 0, .int .u32 0, .nils, .nils]),
 X.m 4 15,
 X.n (.storeN 6 (X.s 5) (X.s 17))]
def C.conf_Needs_r4 : List IOper := C.conf_Needs_r4_b
def C.conf_Needs_r4_w := @aopsE _ _ C.conf_Needs_r4.eq_1
def C.conf_Needs_b4 : ICode := .seq (.region C.conf_Needs_r4) C.conf_Needs_c3
def C.conf_Needs_b4_w := @awpE _ _ C.conf_Needs_b4.eq_1
def C.conf_Needs_c5 : ICode := .keep [3, 11, 12, 13] (.seq (.block 1 C.conf_Needs_b4) C.conf_Needs_c2)
def C.conf_Needs_c5_w := @awpE _ _ C.conf_Needs_c5.eq_1
def C.conf_Needs_c6 : ICode := .keep [3, 11, 12, 13, 14] (.seq (.cond (X.s 14) .skip (.exit 0)) C.conf_Needs_c5)
def C.conf_Needs_c6_w := @awpE _ _ C.conf_Needs_c6.eq_1
def C.conf_Needs_r3_b : List IOper := [
 X.o 14 (.bin .lss (X.s 13) (X.s 12))]
def C.conf_Needs_r3 : List IOper := C.conf_Needs_r3_b
def C.conf_Needs_r3_w := @aopsE _ _ C.conf_Needs_r3.eq_1
def C.conf_Needs_l7 : ICode := .keep [3, 11, 12, 13] (.seq (.region C.conf_Needs_r3) C.conf_Needs_c6)
def C.conf_Needs_l7_w := @awpE _ _ C.conf_Needs_l7.eq_1
def C.conf_Needs_b8 : ICode := .loop C.conf_Needs_l7
def C.conf_Needs_b8_w := @awpE _ _ C.conf_Needs_b8.eq_1
def C.conf_Needs_c9 : ICode := .keep [3, 11, 12, 13] (.block 0 C.conf_Needs_b8)
def C.conf_Needs_c9_w := @awpE _ _ C.conf_Needs_c9.eq_1
def C.conf_Needs_r2_b : List IOper := [
 X.o 10 (.fldAddr 3 (X.s 1)),
 X.o 11 (.load1 (X.s 10)),
 X.o 12 (.len (X.s 11)),
 X.o 13 (.move (X.i 0))]
def C.conf_Needs_r2 : List IOper := C.conf_Needs_r2_b
def C.conf_Needs_r2_w := @aopsE _ _ C.conf_Needs_r2.eq_1
def C.conf_Needs_c10 : ICode := .keep [1, 3] (.seq (.seq (.region C.conf_Needs_r2) C.conf_Needs_c9) C.conf_Needs_c1)
def C.conf_Needs_c10_w := @awpE _ _ C.conf_Needs_c10.eq_1
def C.conf_Needs_r1_b : List IOper := [
 X.o 6 (.fldAddr 3 (X.s 1)),
 X.o 7 (.load1 (X.s 6)),
 X.o 8 (.len (X.s 7)),
 X.o 9 (.makeSlice 1 24 [.nils] (X.s 8) (X.s 8)),
 X.m 3 9]
def C.conf_Needs_r1 : List IOper := C.conf_Needs_r1_b
def C.conf_Needs_r1_w := @aopsE _ _ C.conf_Needs_r1.eq_1
def C.conf_Needs_c11 : ICode := .keep [1] (.seq (.region C.conf_Needs_r1) C.conf_Needs_c10)
def C.conf_Needs_c11_w := @awpE _ _ C.conf_Needs_c11.eq_1
def C.conf_Needs_r0_b : List IOper := [
 X.o 1 (.boxN (X.s 0)),
 X.o 2 (.move (.cst (.nils)))]
def C.conf_Needs_r0 : List IOper := C.conf_Needs_r0_b
def C.conf_Needs_r0_w := @aopsE _ _ C.conf_Needs_r0.eq_1
def C.conf_Needs : IFunc := ⟨1, [.slot 2], .seq (.region C.conf_Needs_r0) C.conf_Needs_c11⟩
def C.conf_Needs_W := And.intro (And.intro (And.intro (And.intro @C.conf_Needs_r7_w @C.conf_Needs_c1_w) (And.intro @C.conf_Needs_r6_w @C.conf_Needs_c2_w)) (And.intro (And.intro @C.conf_Needs_r5_w @C.conf_Needs_c3_w) (And.intro @C.conf_Needs_r4_w (And.intro @C.conf_Needs_b4_w @C.conf_Needs_c5_w)))) (And.intro (And.intro (And.intro @C.conf_Needs_c6_w @C.conf_Needs_r3_w) (And.intro @C.conf_Needs_b8_w @C.conf_Needs_c9_w)) (And.intro (And.intro @C.conf_Needs_r2_w @C.conf_Needs_c10_w) (And.intro @C.conf_Needs_r1_w (And.intro @C.conf_Needs_c11_w @C.conf_Needs_r0_w))))
def C.conf_Needs_B := And.intro (And.intro (And.intro @C.conf_Needs_r7_b.eq_1 @C.conf_Needs_r6_b.eq_1) (And.intro @C.conf_Needs_r5_b.eq_1 @C.conf_Needs_r4_b.eq_1)) (And.intro (And.intro @C.conf_Needs_r3_b.eq_1 @C.conf_Needs_r2_b.eq_1) (And.intro @C.conf_Needs_r1_b.eq_1 @C.conf_Needs_r0_b.eq_1))

def C.catnapref4_counts_r8_b : List IOper := [
 X.o 2 (.move (.cst (.bool true)))]
def C.catnapref4_counts_r8 : List IOper := C.catnapref4_counts_r8_b
def C.catnapref4_counts_r8_w := @aopsE _ _ C.catnapref4_counts_r8.eq_1
def C.catnapref4_counts_c1 : ICode := .keep [] (.seq (.region C.catnapref4_counts_r8) .ret)
def C.catnapref4_counts_c1_w := @awpE _ _ C.catnapref4_counts_c1.eq_1
def C.catnapref4_counts_r5_b : List IOper := [
 X.m 31 3,
 X.o 32 (.bin .add (X.s 31) (X.i 1)),
 X.m 3 32]
def C.catnapref4_counts_r5 : List IOper := C.catnapref4_counts_r5_b
def C.catnapref4_counts_r5_w := @aopsE _ _ C.catnapref4_counts_r5.eq_1
def C.catnapref4_counts_c2 : ICode := .keep [1, 3] (.region C.catnapref4_counts_r5)
def C.catnapref4_counts_c2_w := @awpE _ _ C.catnapref4_counts_c2.eq_1
def C.catnapref4_counts_r7_b : List IOper := [
 X.o 2 (.move (.cst (.bool false)))]
def C.catnapref4_counts_r7 : List IOper := C.catnapref4_counts_r7_b
def C.catnapref4_counts_r7_w := @aopsE _ _ C.catnapref4_counts_r7.eq_1
def C.catnapref4_counts_c3 : ICode := .seq (.region C.catnapref4_counts_r7) .ret
def C.catnapref4_counts_c3_w := @awpE _ _ C.catnapref4_counts_c3.eq_1
def C.catnapref4_counts_c4 : ICode := .keep [1, 3, 50] (.cond (X.s 50) C.catnapref4_counts_c3 .skip)
def C.catnapref4_counts_c4_w := @awpE _ _ C.catnapref4_counts_c4.eq_1
def C.catnapref4_counts_r6_b : List IOper := [
 X.o 33 (.fldAddr 3 (X.s 1)),
 X.o 34 (.load1 (X.s 33)),
 X.m 35 3,
 X.o 36 (.idxAddr 6 (X.s 34) (X.s 35)),
 X.o 37 (.fldAddr 4 (X.s 36)),
 X.o 38 (.load1 (X.s 37)),
 X.o 39 (.len (X.s 38)),
 X.o 40 (.bin .gtr (X.s 39) (X.i 8)),
 X.m 41 40,
 X.f 41 42 (.fldAddr 3 (X.s 1)),
 X.f 41 43 (.load1 (X.s 42)),
 X.f 41 44 (.move (X.s 3)),
 X.f 41 45 (.idxAddr 6 (X.s 43) (X.s 44)),
 X.f 41 46 (.fldAddr 5 (X.s 45)),
 X.f 41 47 (.load1 (X.s 46)),
 X.f 41 48 (.len (X.s 47)),
 X.f 41 49 (.bin .gtr (X.s 48) (X.i 6)),
 X.o 50 (.pick (X.s 41) (.cst (.bool true)) (X.s 49))]
def C.catnapref4_counts_r6 : List IOper := C.catnapref4_counts_r6_b
def C.catnapref4_counts_r6_w := @aopsE _ _ C.catnapref4_counts_r6.eq_1
def C.catnapref4_counts_b5 : ICode := .seq (.region C.catnapref4_counts_r6) C.catnapref4_counts_c4
def C.catnapref4_counts_b5_w := @awpE _ _ C.catnapref4_counts_b5.eq_1
def C.catnapref4_counts_c6 : ICode := .keep [1, 3] (.seq (.block 1 C.catnapref4_counts_b5) C.catnapref4_counts_c2)
def C.catnapref4_counts_c6_w := @awpE _ _ C.catnapref4_counts_c6.eq_1
def C.catnapref4_counts_c7 : ICode := .keep [1, 3, 30] (.cond (X.s 30) .skip (.exit 0))
def C.catnapref4_counts_c7_w := @awpE _ _ C.catnapref4_counts_c7.eq_1
def C.catnapref4_counts_r4_b : List IOper := [
 X.m 26 3,
 X.o 27 (.fldAddr 3 (X.s 1)),
 X.o 28 (.load1 (X.s 27)),
 X.o 29 (.len (X.s 28)),
 X.o 30 (.bin .lss (X.s 26) (X.s 29))]
def C.catnapref4_counts_r4 : List IOper := C.catnapref4_counts_r4_b
def C.catnapref4_counts_r4_w := @aopsE _ _ C.catnapref4_counts_r4.eq_1
def C.catnapref4_counts_l8 : ICode := .keep [1, 3] (.seq (.seq (.region C.catnapref4_counts_r4) C.catnapref4_counts_c7) C.catnapref4_counts_c6)
def C.catnapref4_counts_l8_w := @awpE _ _ C.catnapref4_counts_l8.eq_1
def C.catnapref4_counts_b9 : ICode := .loop C.catnapref4_counts_l8
def C.catnapref4_counts_b9_w := @awpE _ _ C.catnapref4_counts_b9.eq_1
def C.catnapref4_counts_c10 : ICode := .keep [1, 3] (.block 0 C.catnapref4_counts_b9)
def C.catnapref4_counts_c10_w := @awpE _ _ C.catnapref4_counts_c10.eq_1
def C.catnapref4_counts_r3_b : List IOper := [
 X.o 3 (.move (X.i 0))]
def C.catnapref4_counts_r3 : List IOper := C.catnapref4_counts_r3_b
def C.catnapref4_counts_r3_w := @aopsE _ _ C.catnapref4_counts_r3.eq_1
def C.catnapref4_counts_c11 : ICode := .keep [1] (.seq (.seq (.region C.catnapref4_counts_r3) C.catnapref4_counts_c10) C.catnapref4_counts_c1)
def C.catnapref4_counts_c11_w := @awpE _ _ C.catnapref4_counts_c11.eq_1
def C.catnapref4_counts_r2_b : List IOper := [
 X.o 2 (.move (.cst (.bool false)))]
def C.catnapref4_counts_r2 : List IOper := C.catnapref4_counts_r2_b
def C.catnapref4_counts_r2_w := @aopsE _ _ C.catnapref4_counts_r2.eq_1
def C.catnapref4_counts_c12 : ICode := .seq (.region C.catnapref4_counts_r2) .ret
def C.catnapref4_counts_c12_w := @awpE _ _ C.catnapref4_counts_c12.eq_1
def C.catnapref4_counts_c13 : ICode := .keep [1, 25] (.cond (X.s 25) C.catnapref4_counts_c12 .skip)
def C.catnapref4_counts_c13_w := @awpE _ _ C.catnapref4_counts_c13.eq_1
def C.catnapref4_counts_r1_b : List IOper := [
 X.o 4 (.fldAddr 0 (X.s 1)),
 X.o 5 (.load1 (X.s 4)),
 X.o 6 (.len (X.s 5)),
 X.o 7 (.bin .gtr (X.s 6) (X.i 12)),
 X.m 8 7,
 X.f 8 9 (.fldAddr 1 (X.s 1)),
 X.f 8 10 (.load1 (X.s 9)),
 X.f 8 11 (.len (X.s 10)),
 X.f 8 12 (.bin .gtr (X.s 11) (X.i 6)),
 X.o 13 (.pick (X.s 8) (.cst (.bool true)) (X.s 12)),
 X.m 14 13,
 X.f 14 15 (.fldAddr 2 (X.s 1)),
 X.f 14 16 (.load1 (X.s 15)),
 X.f 14 17 (.len (X.s 16)),
 X.f 14 18 (.bin .gtr (X.s 17) (X.i 6)),
 X.o 19 (.pick (X.s 14) (.cst (.bool true)) (X.s 18)),
 X.m 20 19,
 X.f 20 21 (.fldAddr 3 (X.s 1)),
 X.f 20 22 (.load1 (X.s 21)),
 X.f 20 23 (.len (X.s 22)),
 X.f 20 24 (.bin .gtr (X.s 23) (X.i 6)),
 X.o 25 (.pick (X.s 20) (.cst (.bool true)) (X.s 24))]
def C.catnapref4_counts_r1 : List IOper := C.catnapref4_counts_r1_b
def C.catnapref4_counts_r1_w := @aopsE _ _ C.catnapref4_counts_r1.eq_1
def C.catnapref4_counts_c14 : ICode := .keep [1] (.seq (.seq (.region C.catnapref4_counts_r1) C.catnapref4_counts_c13) C.catnapref4_counts_c11)
def C.catnapref4_counts_c14_w := @awpE _ _ C.catnapref4_counts_c14.eq_1
def C.catnapref4_counts_r0_b : List IOper := [
 X.o 1 (.boxN (X.s 0)),
 X.o 2 (.move (.cst (.bool false)))]
def C.catnapref4_counts_r0 : List IOper := C.catnapref4_counts_r0_b
def C.catnapref4_counts_r0_w := @aopsE _ _ C.catnapref4_counts_r0.eq_1
def C.catnapref4_counts : IFunc := ⟨1, [.slot 2], .seq (.region C.catnapref4_counts_r0) C.catnapref4_counts_c14⟩
def C.catnapref4_counts_W := And.intro (And.intro (And.intro (And.intro @C.catnapref4_counts_r8_w @C.catnapref4_counts_c1_w) (And.intro @C.catnapref4_counts_r5_w (And.intro @C.catnapref4_counts_c2_w @C.catnapref4_counts_r7_w))) (And.intro (And.intro @C.catnapref4_counts_c3_w (And.intro @C.catnapref4_counts_c4_w @C.catnapref4_counts_r6_w)) (And.intro @C.catnapref4_counts_b5_w (And.intro @C.catnapref4_counts_c6_w @C.catnapref4_counts_c7_w)))) (And.intro (And.intro (And.intro @C.catnapref4_counts_r4_w @C.catnapref4_counts_b9_w) (And.intro @C.catnapref4_counts_c10_w (And.intro @C.catnapref4_counts_r3_w @C.catnapref4_counts_c11_w))) (And.intro (And.intro @C.catnapref4_counts_r2_w (And.intro @C.catnapref4_counts_c12_w @C.catnapref4_counts_c13_w)) (And.intro @C.catnapref4_counts_r1_w (And.intro @C.catnapref4_counts_c14_w @C.catnapref4_counts_r0_w))))
def C.catnapref4_counts_B := And.intro (And.intro (And.intro @C.catnapref4_counts_r8_b.eq_1 @C.catnapref4_counts_r5_b.eq_1) (And.intro @C.catnapref4_counts_r7_b.eq_1 @C.catnapref4_counts_r6_b.eq_1)) (And.intro (And.intro @C.catnapref4_counts_r4_b.eq_1 @C.catnapref4_counts_r3_b.eq_1) (And.intro @C.catnapref4_counts_r2_b.eq_1 (And.intro @C.catnapref4_counts_r1_b.eq_1 @C.catnapref4_counts_r0_b.eq_1)))

def C.catnapref4_clocks_r7_b : List IOper := [
 X.o 24 (.loadN 4 (X.s 1)),
 X.o 25 (.call F.catnapref4_Clocks [X.s 24]),
 X.o 26 (.call F.catnapref3_Check [X.s 25]),
 X.m 2 26]
def C.catnapref4_clocks_r7 : List IOper := C.catnapref4_clocks_r7_b
def C.catnapref4_clocks_r7_w := @aopsE _ _ C.catnapref4_clocks_r7.eq_1
def C.catnapref4_clocks_c1 : ICode := .keep [1] (.seq (.region C.catnapref4_clocks_r7) .ret)
def C.catnapref4_clocks_c1_w := @awpE _ _ C.catnapref4_clocks_c1.eq_1
def C.catnapref4_clocks_r3_b : List IOper := [
 X.m 10 3,
 X.o 11 (.bin .add (X.s 10) (X.i 1)),
 X.m 3 11]
def C.catnapref4_clocks_r3 : List IOper := C.catnapref4_clocks_r3_b
def C.catnapref4_clocks_r3_w := @aopsE _ _ C.catnapref4_clocks_r3.eq_1
def C.catnapref4_clocks_c2 : ICode := .keep [1, 3] (.region C.catnapref4_clocks_r3)
def C.catnapref4_clocks_c2_w := @awpE _ _ C.catnapref4_clocks_c2.eq_1
def C.catnapref4_clocks_r6_b : List IOper := [
 X.m 23 4,
 X.m 2 23]
def C.catnapref4_clocks_r6 : List IOper := C.catnapref4_clocks_r6_b
def C.catnapref4_clocks_r6_w := @aopsE _ _ C.catnapref4_clocks_r6.eq_1
def C.catnapref4_clocks_c3 : ICode := .seq (.region C.catnapref4_clocks_r6) .ret
def C.catnapref4_clocks_c3_w := @awpE _ _ C.catnapref4_clocks_c3.eq_1
def C.catnapref4_clocks_c4 : ICode := .keep [1, 3, 4, 22] (.cond (X.s 22) C.catnapref4_clocks_c3 .skip)
def C.catnapref4_clocks_c4_w := @awpE _ _ C.catnapref4_clocks_c4.eq_1
def C.catnapref4_clocks_r5_b : List IOper := [
 X.m 21 4,
 X.o 22 (.bin .neq (X.s 21) (X.i 0))]
def C.catnapref4_clocks_r5 : List IOper := C.catnapref4_clocks_r5_b
def C.catnapref4_clocks_r5_w := @aopsE _ _ C.catnapref4_clocks_r5.eq_1
def C.catnapref4_clocks_c5 : ICode := .keep [1, 3, 4] (.seq (.region C.catnapref4_clocks_r5) C.catnapref4_clocks_c4)
def C.catnapref4_clocks_c5_w := @awpE _ _ C.catnapref4_clocks_c5.eq_1
def C.catnapref4_clocks_r4_b : List IOper := [
 X.o 12 (.fldAddr 0 (X.s 1)),
 X.o 13 (.load1 (X.s 12)),
 X.m 14 3,
 X.o 15 (.idxAddr 6 (X.s 13) (X.s 14)),
 X.o 16 (.loadN 6 (X.s 15)),
 X.o 17 (.fldAddr 0 (X.s 1)),
 X.o 18 (.load1 (X.s 17)),
 X.o 19 (.len (X.s 18)),
 X.o 20 (.call F.catnapref4_clock [X.s 16, X.s 19]),
 X.m 4 20]
def C.catnapref4_clocks_r4 : List IOper := C.catnapref4_clocks_r4_b
def C.catnapref4_clocks_r4_w := @aopsE _ _ C.catnapref4_clocks_r4.eq_1
def C.catnapref4_clocks_b6 : ICode := .seq (.region C.catnapref4_clocks_r4) C.catnapref4_clocks_c5
def C.catnapref4_clocks_b6_w := @awpE _ _ C.catnapref4_clocks_b6.eq_1
def C.catnapref4_clocks_c7 : ICode := .keep [1, 3] (.seq (.block 1 C.catnapref4_clocks_b6) C.catnapref4_clocks_c2)
def C.catnapref4_clocks_c7_w := @awpE _ _ C.catnapref4_clocks_c7.eq_1
def C.catnapref4_clocks_c8 : ICode := .keep [1, 3, 9] (.cond (X.s 9) .skip (.exit 0))
def C.catnapref4_clocks_c8_w := @awpE _ _ C.catnapref4_clocks_c8.eq_1
def C.catnapref4_clocks_r2_b : List IOper := [
 X.m 5 3,
 X.o 6 (.fldAddr 0 (X.s 1)),
 X.o 7 (.load1 (X.s 6)),
 X.o 8 (.len (X.s 7)),
 X.o 9 (.bin .lss (X.s 5) (X.s 8))]
def C.catnapref4_clocks_r2 : List IOper := C.catnapref4_clocks_r2_b
def C.catnapref4_clocks_r2_w := @aopsE _ _ C.catnapref4_clocks_r2.eq_1
def C.catnapref4_clocks_l9 : ICode := .keep [1, 3] (.seq (.seq (.region C.catnapref4_clocks_r2) C.catnapref4_clocks_c8) C.catnapref4_clocks_c7)
def C.catnapref4_clocks_l9_w := @awpE _ _ C.catnapref4_clocks_l9.eq_1
def C.catnapref4_clocks_b10 : ICode := .loop C.catnapref4_clocks_l9
def C.catnapref4_clocks_b10_w := @awpE _ _ C.catnapref4_clocks_b10.eq_1
def C.catnapref4_clocks_c11 : ICode := .keep [1, 3] (.block 0 C.catnapref4_clocks_b10)
def C.catnapref4_clocks_c11_w := @awpE _ _ C.catnapref4_clocks_c11.eq_1
def C.catnapref4_clocks_r1_b : List IOper := [
 X.o 3 (.move (X.i 0))]
def C.catnapref4_clocks_r1 : List IOper := C.catnapref4_clocks_r1_b
def C.catnapref4_clocks_r1_w := @aopsE _ _ C.catnapref4_clocks_r1.eq_1
def C.catnapref4_clocks_c12 : ICode := .keep [1] (.seq (.seq (.region C.catnapref4_clocks_r1) C.catnapref4_clocks_c11) C.catnapref4_clocks_c1)
def C.catnapref4_clocks_c12_w := @awpE _ _ C.catnapref4_clocks_c12.eq_1
def C.catnapref4_clocks_r0_b : List IOper := [
 X.o 1 (.boxN (X.s 0)),
 X.o 2 (.move (X.i 0))]
def C.catnapref4_clocks_r0 : List IOper := C.catnapref4_clocks_r0_b
def C.catnapref4_clocks_r0_w := @aopsE _ _ C.catnapref4_clocks_r0.eq_1
def C.catnapref4_clocks : IFunc := ⟨1, [.slot 2], .seq (.region C.catnapref4_clocks_r0) C.catnapref4_clocks_c12⟩
def C.catnapref4_clocks_W := And.intro (And.intro (And.intro (And.intro @C.catnapref4_clocks_r7_w @C.catnapref4_clocks_c1_w) (And.intro @C.catnapref4_clocks_r3_w @C.catnapref4_clocks_c2_w)) (And.intro (And.intro @C.catnapref4_clocks_r6_w @C.catnapref4_clocks_c3_w) (And.intro @C.catnapref4_clocks_c4_w (And.intro @C.catnapref4_clocks_r5_w @C.catnapref4_clocks_c5_w)))) (And.intro (And.intro (And.intro @C.catnapref4_clocks_r4_w @C.catnapref4_clocks_b6_w) (And.intro @C.catnapref4_clocks_c7_w (And.intro @C.catnapref4_clocks_c8_w @C.catnapref4_clocks_r2_w))) (And.intro (And.intro @C.catnapref4_clocks_b10_w @C.catnapref4_clocks_c11_w) (And.intro @C.catnapref4_clocks_r1_w (And.intro @C.catnapref4_clocks_c12_w @C.catnapref4_clocks_r0_w))))
def C.catnapref4_clocks_B := And.intro (And.intro (And.intro @C.catnapref4_clocks_r7_b.eq_1 @C.catnapref4_clocks_r3_b.eq_1) (And.intro @C.catnapref4_clocks_r6_b.eq_1 @C.catnapref4_clocks_r5_b.eq_1)) (And.intro (And.intro @C.catnapref4_clocks_r4_b.eq_1 @C.catnapref4_clocks_r2_b.eq_1) (And.intro @C.catnapref4_clocks_r1_b.eq_1 @C.catnapref4_clocks_r0_b.eq_1))

def C.catnapref4_domains_r9_b : List IOper := [
 X.o 33 (.loadN 4 (X.s 1)),
 X.o 34 (.call F.catnapref4_Domains [X.s 33]),
 X.o 35 (.call F.catnapref3_Check [X.s 34]),
 X.m 2 35]
def C.catnapref4_domains_r9 : List IOper := C.catnapref4_domains_r9_b
def C.catnapref4_domains_r9_w := @aopsE _ _ C.catnapref4_domains_r9.eq_1
def C.catnapref4_domains_c1 : ICode := .keep [1] (.seq (.region C.catnapref4_domains_r9) .ret)
def C.catnapref4_domains_c1_w := @awpE _ _ C.catnapref4_domains_c1.eq_1
def C.catnapref4_domains_r3_b : List IOper := [
 X.m 10 3,
 X.o 11 (.bin .add (X.s 10) (X.i 1)),
 X.m 3 11]
def C.catnapref4_domains_r3 : List IOper := C.catnapref4_domains_r3_b
def C.catnapref4_domains_r3_w := @aopsE _ _ C.catnapref4_domains_r3.eq_1
def C.catnapref4_domains_c2 : ICode := .keep [1, 3] (.region C.catnapref4_domains_r3)
def C.catnapref4_domains_c2_w := @awpE _ _ C.catnapref4_domains_c2.eq_1
def C.catnapref4_domains_r8_b : List IOper := [
 X.o 2 (.move (X.i 3))]
def C.catnapref4_domains_r8 : List IOper := C.catnapref4_domains_r8_b
def C.catnapref4_domains_r8_w := @aopsE _ _ C.catnapref4_domains_r8.eq_1
def C.catnapref4_domains_c3 : ICode := .seq (.region C.catnapref4_domains_r8) .ret
def C.catnapref4_domains_c3_w := @awpE _ _ C.catnapref4_domains_c3.eq_1
def C.catnapref4_domains_c4 : ICode := .keep [1, 3, 32] (.cond (X.s 32) C.catnapref4_domains_c3 .skip)
def C.catnapref4_domains_c4_w := @awpE _ _ C.catnapref4_domains_c4.eq_1
def C.catnapref4_domains_r7_b : List IOper := [
 X.o 29 (.fldAddr 1 (X.s 4)),
 X.o 30 (.load1 (X.s 29)),
 X.o 31 (.call F.catnapref4_within [X.s 30, X.i 0, X.i 20]),
 X.o 32 (.un .not (X.s 31))]
def C.catnapref4_domains_r7 : List IOper := C.catnapref4_domains_r7_b
def C.catnapref4_domains_r7_w := @aopsE _ _ C.catnapref4_domains_r7.eq_1
def C.catnapref4_domains_c5 : ICode := .keep [1, 3, 4] (.seq (.region C.catnapref4_domains_r7) C.catnapref4_domains_c4)
def C.catnapref4_domains_c5_w := @awpE _ _ C.catnapref4_domains_c5.eq_1
def C.catnapref4_domains_r6_b : List IOper := [
 X.o 2 (.move (X.i 4))]
def C.catnapref4_domains_r6 : List IOper := C.catnapref4_domains_r6_b
def C.catnapref4_domains_r6_w := @aopsE _ _ C.catnapref4_domains_r6.eq_1
def C.catnapref4_domains_c6 : ICode := .seq (.region C.catnapref4_domains_r6) .ret
def C.catnapref4_domains_c6_w := @awpE _ _ C.catnapref4_domains_c6.eq_1
def C.catnapref4_domains_c7 : ICode := .keep [1, 3, 4, 28] (.cond (X.s 28) C.catnapref4_domains_c6 .skip)
def C.catnapref4_domains_c7_w := @awpE _ _ C.catnapref4_domains_c7.eq_1
def C.catnapref4_domains_r5_b : List IOper := [
 X.o 17 (.fldAddr 0 (X.s 4)),
 X.o 18 (.load1 (X.s 17)),
 X.o 19 (.bin .neq (X.s 18) (X.i (-1))),
 X.m 20 19,
 X.t 20 21 (.fldAddr 0 (X.s 4)),
 X.t 20 22 (.load1 (X.s 21)),
 X.t 20 23 (.fldAddr 1 (X.s 1)),
 X.t 20 24 (.load1 (X.s 23)),
 X.t 20 25 (.len (X.s 24)),
 X.t 20 26 (.call F.catnapref4_in [X.s 22, X.s 25]),
 X.t 20 27 (.un .not (X.s 26)),
 X.o 28 (.pick (X.s 20) (X.s 27) (.cst (.bool false)))]
def C.catnapref4_domains_r5 : List IOper := C.catnapref4_domains_r5_b
def C.catnapref4_domains_r5_w := @aopsE _ _ C.catnapref4_domains_r5.eq_1
def C.catnapref4_domains_c8 : ICode := .keep [1, 3, 4] (.seq (.seq (.region C.catnapref4_domains_r5) C.catnapref4_domains_c7) C.catnapref4_domains_c5)
def C.catnapref4_domains_c8_w := @awpE _ _ C.catnapref4_domains_c8.eq_1
def C.catnapref4_domains_r4_b : List IOper := [
 X.o 12 (.fldAddr 1 (X.s 1)),
 X.o 13 (.load1 (X.s 12)),
 X.m 14 3,
 X.o 15 (.idxAddr 3 (X.s 13) (X.s 14)),
 X.o 16 (.loadN 3 (X.s 15)),
 X.o 4 (.alloc [.int .i64 0, .int .i64 0, .bool false]),
 X.n (.storeN 3 (X.s 4) (X.s 16))]
def C.catnapref4_domains_r4 : List IOper := C.catnapref4_domains_r4_b
def C.catnapref4_domains_r4_w := @aopsE _ _ C.catnapref4_domains_r4.eq_1
def C.catnapref4_domains_b9 : ICode := .seq (.region C.catnapref4_domains_r4) C.catnapref4_domains_c8
def C.catnapref4_domains_b9_w := @awpE _ _ C.catnapref4_domains_b9.eq_1
def C.catnapref4_domains_c10 : ICode := .keep [1, 3] (.seq (.block 1 C.catnapref4_domains_b9) C.catnapref4_domains_c2)
def C.catnapref4_domains_c10_w := @awpE _ _ C.catnapref4_domains_c10.eq_1
def C.catnapref4_domains_c11 : ICode := .keep [1, 3, 9] (.cond (X.s 9) .skip (.exit 0))
def C.catnapref4_domains_c11_w := @awpE _ _ C.catnapref4_domains_c11.eq_1
def C.catnapref4_domains_r2_b : List IOper := [
 X.m 5 3,
 X.o 6 (.fldAddr 1 (X.s 1)),
 X.o 7 (.load1 (X.s 6)),
 X.o 8 (.len (X.s 7)),
 X.o 9 (.bin .lss (X.s 5) (X.s 8))]
def C.catnapref4_domains_r2 : List IOper := C.catnapref4_domains_r2_b
def C.catnapref4_domains_r2_w := @aopsE _ _ C.catnapref4_domains_r2.eq_1
def C.catnapref4_domains_l12 : ICode := .keep [1, 3] (.seq (.seq (.region C.catnapref4_domains_r2) C.catnapref4_domains_c11) C.catnapref4_domains_c10)
def C.catnapref4_domains_l12_w := @awpE _ _ C.catnapref4_domains_l12.eq_1
def C.catnapref4_domains_b13 : ICode := .loop C.catnapref4_domains_l12
def C.catnapref4_domains_b13_w := @awpE _ _ C.catnapref4_domains_b13.eq_1
def C.catnapref4_domains_c14 : ICode := .keep [1, 3] (.block 0 C.catnapref4_domains_b13)
def C.catnapref4_domains_c14_w := @awpE _ _ C.catnapref4_domains_c14.eq_1
def C.catnapref4_domains_r1_b : List IOper := [
 X.o 3 (.move (X.i 0))]
def C.catnapref4_domains_r1 : List IOper := C.catnapref4_domains_r1_b
def C.catnapref4_domains_r1_w := @aopsE _ _ C.catnapref4_domains_r1.eq_1
def C.catnapref4_domains_c15 : ICode := .keep [1] (.seq (.seq (.region C.catnapref4_domains_r1) C.catnapref4_domains_c14) C.catnapref4_domains_c1)
def C.catnapref4_domains_c15_w := @awpE _ _ C.catnapref4_domains_c15.eq_1
def C.catnapref4_domains_r0_b : List IOper := [
 X.o 1 (.boxN (X.s 0)),
 X.o 2 (.move (X.i 0))]
def C.catnapref4_domains_r0 : List IOper := C.catnapref4_domains_r0_b
def C.catnapref4_domains_r0_w := @aopsE _ _ C.catnapref4_domains_r0.eq_1
def C.catnapref4_domains : IFunc := ⟨1, [.slot 2], .seq (.region C.catnapref4_domains_r0) C.catnapref4_domains_c15⟩
def C.catnapref4_domains_W := And.intro (And.intro (And.intro (And.intro @C.catnapref4_domains_r9_w (And.intro @C.catnapref4_domains_c1_w @C.catnapref4_domains_r3_w)) (And.intro @C.catnapref4_domains_c2_w (And.intro @C.catnapref4_domains_r8_w @C.catnapref4_domains_c3_w))) (And.intro (And.intro @C.catnapref4_domains_c4_w (And.intro @C.catnapref4_domains_r7_w @C.catnapref4_domains_c5_w)) (And.intro @C.catnapref4_domains_r6_w (And.intro @C.catnapref4_domains_c6_w @C.catnapref4_domains_c7_w)))) (And.intro (And.intro (And.intro @C.catnapref4_domains_r5_w (And.intro @C.catnapref4_domains_c8_w @C.catnapref4_domains_r4_w)) (And.intro @C.catnapref4_domains_b9_w (And.intro @C.catnapref4_domains_c10_w @C.catnapref4_domains_c11_w))) (And.intro (And.intro @C.catnapref4_domains_r2_w (And.intro @C.catnapref4_domains_b13_w @C.catnapref4_domains_c14_w)) (And.intro @C.catnapref4_domains_r1_w (And.intro @C.catnapref4_domains_c15_w @C.catnapref4_domains_r0_w))))
def C.catnapref4_domains_B := And.intro (And.intro (And.intro @C.catnapref4_domains_r9_b.eq_1 @C.catnapref4_domains_r3_b.eq_1) (And.intro @C.catnapref4_domains_r8_b.eq_1 (And.intro @C.catnapref4_domains_r7_b.eq_1 @C.catnapref4_domains_r6_b.eq_1))) (And.intro (And.intro @C.catnapref4_domains_r5_b.eq_1 @C.catnapref4_domains_r4_b.eq_1) (And.intro @C.catnapref4_domains_r2_b.eq_1 (And.intro @C.catnapref4_domains_r1_b.eq_1 @C.catnapref4_domains_r0_b.eq_1)))

def C.catnapref4_within_r1_b : List IOper := [
 X.m 7 0,
 X.m 8 1,
 X.o 9 (.bin .geq (X.s 7) (X.s 8)),
 X.m 10 9,
 X.t 10 11 (.move (X.s 0)),
 X.t 10 12 (.move (X.s 2)),
 X.t 10 13 (.bin .leq (X.s 11) (X.s 12)),
 X.o 14 (.pick (X.s 10) (X.s 13) (.cst (.bool false))),
 X.m 6 14]
def C.catnapref4_within_r1 : List IOper := C.catnapref4_within_r1_b
def C.catnapref4_within_r1_w := @aopsE _ _ C.catnapref4_within_r1.eq_1
def C.catnapref4_within_c1 : ICode := .keep [0, 1, 2] (.seq (.region C.catnapref4_within_r1) .ret)
def C.catnapref4_within_c1_w := @awpE _ _ C.catnapref4_within_c1.eq_1
def C.catnapref4_within_r0_b : List IOper := [
 X.o 6 (.move (.cst (.bool false)))]
def C.catnapref4_within_r0 : List IOper := C.catnapref4_within_r0_b
def C.catnapref4_within_r0_w := @aopsE _ _ C.catnapref4_within_r0.eq_1
def C.catnapref4_within : IFunc := ⟨3, [.slot 6], .seq (.region C.catnapref4_within_r0) C.catnapref4_within_c1⟩
def C.catnapref4_within_W := And.intro @C.catnapref4_within_r1_w (And.intro @C.catnapref4_within_c1_w @C.catnapref4_within_r0_w)
def C.catnapref4_within_B := And.intro @C.catnapref4_within_r1_b.eq_1 @C.catnapref4_within_r0_b.eq_1

def C.catnapref4_devices_r12_b : List IOper := [
 X.o 60 (.loadN 4 (X.s 1)),
 X.o 61 (.call F.catnapref4_Needs [X.s 60]),
 X.o 62 (.call F.catnapref3_Check [X.s 61]),
 X.m 2 62]
def C.catnapref4_devices_r12 : List IOper := C.catnapref4_devices_r12_b
def C.catnapref4_devices_r12_w := @aopsE _ _ C.catnapref4_devices_r12.eq_1
def C.catnapref4_devices_c1 : ICode := .keep [1] (.seq (.region C.catnapref4_devices_r12) .ret)
def C.catnapref4_devices_c1_w := @awpE _ _ C.catnapref4_devices_c1.eq_1
def C.catnapref4_devices_r3_b : List IOper := [
 X.m 11 3,
 X.o 12 (.bin .add (X.s 11) (X.i 1)),
 X.m 3 12]
def C.catnapref4_devices_r3 : List IOper := C.catnapref4_devices_r3_b
def C.catnapref4_devices_r3_w := @aopsE _ _ C.catnapref4_devices_r3.eq_1
def C.catnapref4_devices_c2 : ICode := .keep [1, 3] (.region C.catnapref4_devices_r3)
def C.catnapref4_devices_c2_w := @awpE _ _ C.catnapref4_devices_c2.eq_1
def C.catnapref4_devices_r9_b : List IOper := [
 X.m 48 5,
 X.o 49 (.bin .add (X.s 48) (X.i 1)),
 X.m 5 49]
def C.catnapref4_devices_r9 : List IOper := C.catnapref4_devices_r9_b
def C.catnapref4_devices_r9_w := @aopsE _ _ C.catnapref4_devices_r9.eq_1
def C.catnapref4_devices_c3 : ICode := .keep [1, 3, 4, 5] (.region C.catnapref4_devices_r9)
def C.catnapref4_devices_c3_w := @awpE _ _ C.catnapref4_devices_c3.eq_1
def C.catnapref4_devices_r11_b : List IOper := [
 X.o 2 (.move (X.i 4))]
def C.catnapref4_devices_r11 : List IOper := C.catnapref4_devices_r11_b
def C.catnapref4_devices_r11_w := @aopsE _ _ C.catnapref4_devices_r11.eq_1
def C.catnapref4_devices_c4 : ICode := .seq (.region C.catnapref4_devices_r11) .ret
def C.catnapref4_devices_c4_w := @awpE _ _ C.catnapref4_devices_c4.eq_1
def C.catnapref4_devices_c5 : ICode := .keep [1, 3, 4, 5, 59] (.cond (X.s 59) C.catnapref4_devices_c4 .skip)
def C.catnapref4_devices_c5_w := @awpE _ _ C.catnapref4_devices_c5.eq_1
def C.catnapref4_devices_r10_b : List IOper := [
 X.o 50 (.fldAddr 5 (X.s 4)),
 X.o 51 (.load1 (X.s 50)),
 X.m 52 5,
 X.o 53 (.idxAddr 1 (X.s 51) (X.s 52)),
 X.o 54 (.load1 (X.s 53)),
 X.o 55 (.fldAddr 3 (X.s 1)),
 X.o 56 (.load1 (X.s 55)),
 X.o 57 (.len (X.s 56)),
 X.o 58 (.call F.catnapref4_in [X.s 54, X.s 57]),
 X.o 59 (.un .not (X.s 58))]
def C.catnapref4_devices_r10 : List IOper := C.catnapref4_devices_r10_b
def C.catnapref4_devices_r10_w := @aopsE _ _ C.catnapref4_devices_r10.eq_1
def C.catnapref4_devices_b6 : ICode := .seq (.region C.catnapref4_devices_r10) C.catnapref4_devices_c5
def C.catnapref4_devices_b6_w := @awpE _ _ C.catnapref4_devices_b6.eq_1
def C.catnapref4_devices_c7 : ICode := .keep [1, 3, 4, 5] (.seq (.block 3 C.catnapref4_devices_b6) C.catnapref4_devices_c3)
def C.catnapref4_devices_c7_w := @awpE _ _ C.catnapref4_devices_c7.eq_1
def C.catnapref4_devices_c8 : ICode := .keep [1, 3, 4, 5, 47] (.cond (X.s 47) .skip (.exit 2))
def C.catnapref4_devices_c8_w := @awpE _ _ C.catnapref4_devices_c8.eq_1
def C.catnapref4_devices_r8_b : List IOper := [
 X.m 43 5,
 X.o 44 (.fldAddr 5 (X.s 4)),
 X.o 45 (.load1 (X.s 44)),
 X.o 46 (.len (X.s 45)),
 X.o 47 (.bin .lss (X.s 43) (X.s 46))]
def C.catnapref4_devices_r8 : List IOper := C.catnapref4_devices_r8_b
def C.catnapref4_devices_r8_w := @aopsE _ _ C.catnapref4_devices_r8.eq_1
def C.catnapref4_devices_l9 : ICode := .keep [1, 3, 4, 5] (.seq (.seq (.region C.catnapref4_devices_r8) C.catnapref4_devices_c8) C.catnapref4_devices_c7)
def C.catnapref4_devices_l9_w := @awpE _ _ C.catnapref4_devices_l9.eq_1
def C.catnapref4_devices_b10 : ICode := .loop C.catnapref4_devices_l9
def C.catnapref4_devices_b10_w := @awpE _ _ C.catnapref4_devices_b10.eq_1
def C.catnapref4_devices_c11 : ICode := .keep [1, 3, 4, 5] (.block 2 C.catnapref4_devices_b10)
def C.catnapref4_devices_c11_w := @awpE _ _ C.catnapref4_devices_c11.eq_1
def C.catnapref4_devices_r7_b : List IOper := [
 X.o 5 (.move (X.i 0))]
def C.catnapref4_devices_r7 : List IOper := C.catnapref4_devices_r7_b
def C.catnapref4_devices_r7_w := @aopsE _ _ C.catnapref4_devices_r7.eq_1
def C.catnapref4_devices_c12 : ICode := .keep [1, 3, 4] (.seq (.region C.catnapref4_devices_r7) C.catnapref4_devices_c11)
def C.catnapref4_devices_c12_w := @awpE _ _ C.catnapref4_devices_c12.eq_1
def C.catnapref4_devices_r6_b : List IOper := [
 X.o 2 (.move (X.i 4))]
def C.catnapref4_devices_r6 : List IOper := C.catnapref4_devices_r6_b
def C.catnapref4_devices_r6_w := @aopsE _ _ C.catnapref4_devices_r6.eq_1
def C.catnapref4_devices_c13 : ICode := .seq (.region C.catnapref4_devices_r6) .ret
def C.catnapref4_devices_c13_w := @awpE _ _ C.catnapref4_devices_c13.eq_1
def C.catnapref4_devices_c14 : ICode := .keep [1, 3, 4, 42] (.cond (X.s 42) C.catnapref4_devices_c13 .skip)
def C.catnapref4_devices_c14_w := @awpE _ _ C.catnapref4_devices_c14.eq_1
def C.catnapref4_devices_r5_b : List IOper := [
 X.o 18 (.fldAddr 0 (X.s 4)),
 X.o 19 (.load1 (X.s 18)),
 X.o 20 (.fldAddr 0 (X.s 1)),
 X.o 21 (.load1 (X.s 20)),
 X.o 22 (.len (X.s 21)),
 X.o 23 (.call F.catnapref4_in [X.s 19, X.s 22]),
 X.o 24 (.un .not (X.s 23)),
 X.m 25 24,
 X.f 25 26 (.fldAddr 1 (X.s 4)),
 X.f 25 27 (.load1 (X.s 26)),
 X.f 25 28 (.fldAddr 1 (X.s 1)),
 X.f 25 29 (.load1 (X.s 28)),
 X.f 25 30 (.len (X.s 29)),
 X.f 25 31 (.call F.catnapref4_in [X.s 27, X.s 30]),
 X.f 25 32 (.un .not (X.s 31)),
 X.o 33 (.pick (X.s 25) (.cst (.bool true)) (X.s 32)),
 X.m 34 33,
 X.f 34 35 (.fldAddr 2 (X.s 4)),
 X.f 34 36 (.load1 (X.s 35)),
 X.f 34 37 (.fldAddr 2 (X.s 1)),
 X.f 34 38 (.load1 (X.s 37)),
 X.f 34 39 (.len (X.s 38)),
 X.f 34 40 (.call F.catnapref4_in [X.s 36, X.s 39]),
 X.f 34 41 (.un .not (X.s 40)),
 X.o 42 (.pick (X.s 34) (.cst (.bool true)) (X.s 41))]
def C.catnapref4_devices_r5 : List IOper := C.catnapref4_devices_r5_b
def C.catnapref4_devices_r5_w := @aopsE _ _ C.catnapref4_devices_r5.eq_1
def C.catnapref4_devices_c15 : ICode := .keep [1, 3, 4] (.seq (.seq (.region C.catnapref4_devices_r5) C.catnapref4_devices_c14) C.catnapref4_devices_c12)
def C.catnapref4_devices_c15_w := @awpE _ _ C.catnapref4_devices_c15.eq_1
def C.catnapref4_devices_r4_b : List IOper := [
 X.o 13 (.fldAddr 3 (X.s 1)),
 X.o 14 (.load1 (X.s 13)),
 X.m 15 3,
 X.o 16 (.idxAddr 6 (X.s 14) (X.s 15)),
 X.o 17 (.loadN 6 (X.s 16)),
 X.o 4 (.alloc [.int .i64 0, .int .i64 0, .int .i64 0, .int .u32 0, .nils, .nils]),
 X.n (.storeN 6 (X.s 4) (X.s 17))]
def C.catnapref4_devices_r4 : List IOper := C.catnapref4_devices_r4_b
def C.catnapref4_devices_r4_w := @aopsE _ _ C.catnapref4_devices_r4.eq_1
def C.catnapref4_devices_b16 : ICode := .seq (.region C.catnapref4_devices_r4) C.catnapref4_devices_c15
def C.catnapref4_devices_b16_w := @awpE _ _ C.catnapref4_devices_b16.eq_1
def C.catnapref4_devices_c17 : ICode := .keep [1, 3] (.seq (.block 1 C.catnapref4_devices_b16) C.catnapref4_devices_c2)
def C.catnapref4_devices_c17_w := @awpE _ _ C.catnapref4_devices_c17.eq_1
def C.catnapref4_devices_c18 : ICode := .keep [1, 3, 10] (.cond (X.s 10) .skip (.exit 0))
def C.catnapref4_devices_c18_w := @awpE _ _ C.catnapref4_devices_c18.eq_1
def C.catnapref4_devices_r2_b : List IOper := [
 X.m 6 3,
 X.o 7 (.fldAddr 3 (X.s 1)),
 X.o 8 (.load1 (X.s 7)),
 X.o 9 (.len (X.s 8)),
 X.o 10 (.bin .lss (X.s 6) (X.s 9))]
def C.catnapref4_devices_r2 : List IOper := C.catnapref4_devices_r2_b
def C.catnapref4_devices_r2_w := @aopsE _ _ C.catnapref4_devices_r2.eq_1
def C.catnapref4_devices_l19 : ICode := .keep [1, 3] (.seq (.seq (.region C.catnapref4_devices_r2) C.catnapref4_devices_c18) C.catnapref4_devices_c17)
def C.catnapref4_devices_l19_w := @awpE _ _ C.catnapref4_devices_l19.eq_1
def C.catnapref4_devices_b20 : ICode := .loop C.catnapref4_devices_l19
def C.catnapref4_devices_b20_w := @awpE _ _ C.catnapref4_devices_b20.eq_1
def C.catnapref4_devices_c21 : ICode := .keep [1, 3] (.block 0 C.catnapref4_devices_b20)
def C.catnapref4_devices_c21_w := @awpE _ _ C.catnapref4_devices_c21.eq_1
def C.catnapref4_devices_r1_b : List IOper := [
 X.o 3 (.move (X.i 0))]
def C.catnapref4_devices_r1 : List IOper := C.catnapref4_devices_r1_b
def C.catnapref4_devices_r1_w := @aopsE _ _ C.catnapref4_devices_r1.eq_1
def C.catnapref4_devices_c22 : ICode := .keep [1] (.seq (.seq (.region C.catnapref4_devices_r1) C.catnapref4_devices_c21) C.catnapref4_devices_c1)
def C.catnapref4_devices_c22_w := @awpE _ _ C.catnapref4_devices_c22.eq_1
def C.catnapref4_devices_r0_b : List IOper := [
 X.o 1 (.boxN (X.s 0)),
 X.o 2 (.move (X.i 0))]
def C.catnapref4_devices_r0 : List IOper := C.catnapref4_devices_r0_b
def C.catnapref4_devices_r0_w := @aopsE _ _ C.catnapref4_devices_r0.eq_1
def C.catnapref4_devices : IFunc := ⟨1, [.slot 2], .seq (.region C.catnapref4_devices_r0) C.catnapref4_devices_c22⟩
def C.catnapref4_devices_W := And.intro (And.intro (And.intro (And.intro (And.intro @C.catnapref4_devices_r12_w @C.catnapref4_devices_c1_w) (And.intro @C.catnapref4_devices_r3_w @C.catnapref4_devices_c2_w)) (And.intro (And.intro @C.catnapref4_devices_r9_w @C.catnapref4_devices_c3_w) (And.intro @C.catnapref4_devices_r11_w @C.catnapref4_devices_c4_w))) (And.intro (And.intro (And.intro @C.catnapref4_devices_c5_w @C.catnapref4_devices_r10_w) (And.intro @C.catnapref4_devices_b6_w @C.catnapref4_devices_c7_w)) (And.intro (And.intro @C.catnapref4_devices_c8_w @C.catnapref4_devices_r8_w) (And.intro @C.catnapref4_devices_b10_w @C.catnapref4_devices_c11_w)))) (And.intro (And.intro (And.intro (And.intro @C.catnapref4_devices_r7_w @C.catnapref4_devices_c12_w) (And.intro @C.catnapref4_devices_r6_w @C.catnapref4_devices_c13_w)) (And.intro (And.intro @C.catnapref4_devices_c14_w @C.catnapref4_devices_r5_w) (And.intro @C.catnapref4_devices_c15_w @C.catnapref4_devices_r4_w))) (And.intro (And.intro (And.intro @C.catnapref4_devices_b16_w @C.catnapref4_devices_c17_w) (And.intro @C.catnapref4_devices_c18_w @C.catnapref4_devices_r2_w)) (And.intro (And.intro @C.catnapref4_devices_b20_w @C.catnapref4_devices_c21_w) (And.intro @C.catnapref4_devices_r1_w (And.intro @C.catnapref4_devices_c22_w @C.catnapref4_devices_r0_w)))))
def C.catnapref4_devices_B := And.intro (And.intro (And.intro @C.catnapref4_devices_r12_b.eq_1 (And.intro @C.catnapref4_devices_r3_b.eq_1 @C.catnapref4_devices_r9_b.eq_1)) (And.intro @C.catnapref4_devices_r11_b.eq_1 (And.intro @C.catnapref4_devices_r10_b.eq_1 @C.catnapref4_devices_r8_b.eq_1))) (And.intro (And.intro @C.catnapref4_devices_r7_b.eq_1 (And.intro @C.catnapref4_devices_r6_b.eq_1 @C.catnapref4_devices_r5_b.eq_1)) (And.intro (And.intro @C.catnapref4_devices_r4_b.eq_1 @C.catnapref4_devices_r2_b.eq_1) (And.intro @C.catnapref4_devices_r1_b.eq_1 @C.catnapref4_devices_r0_b.eq_1)))

def C.conf_full_1_r1_b : List IOper := [
 X.o 3 (.fldAddr 4 (X.s 1)),
 X.o 4 (.load1 (X.s 3)),
 X.o 5 (.len (X.s 4)),
 X.o 6 (.bin .gtr (X.s 5) (X.i 8)),
 X.m 7 6,
 X.f 7 8 (.fldAddr 5 (X.s 1)),
 X.f 7 9 (.load1 (X.s 8)),
 X.f 7 10 (.len (X.s 9)),
 X.f 7 11 (.bin .gtr (X.s 10) (X.i 6)),
 X.o 12 (.pick (X.s 7) (.cst (.bool true)) (X.s 11)),
 X.o 13 (.call F.conf_when [X.s 12, X.i 8]),
 X.m 2 13]
def C.conf_full_1_r1 : List IOper := C.conf_full_1_r1_b
def C.conf_full_1_r1_w := @aopsE _ _ C.conf_full_1_r1.eq_1
def C.conf_full_1_c1 : ICode := .keep [1] (.seq (.region C.conf_full_1_r1) .ret)
def C.conf_full_1_c1_w := @awpE _ _ C.conf_full_1_c1.eq_1
def C.conf_full_1_r0_b : List IOper := [
 X.o 1 (.boxN (X.s 0)),
 X.o 2 (.move (X.i 0))]
def C.conf_full_1_r0 : List IOper := C.conf_full_1_r0_b
def C.conf_full_1_r0_w := @aopsE _ _ C.conf_full_1_r0.eq_1
def C.conf_full_1 : IFunc := ⟨1, [.slot 2], .seq (.region C.conf_full_1_r0) C.conf_full_1_c1⟩
def C.conf_full_1_W := And.intro @C.conf_full_1_r1_w (And.intro @C.conf_full_1_c1_w @C.conf_full_1_r0_w)
def C.conf_full_1_B := And.intro @C.conf_full_1_r1_b.eq_1 @C.conf_full_1_r0_b.eq_1

def C.conf_when_r3_b : List IOper := [
 X.o 4 (.move (X.i 0))]
def C.conf_when_r3 : List IOper := C.conf_when_r3_b
def C.conf_when_r3_w := @aopsE _ _ C.conf_when_r3.eq_1
def C.conf_when_c1 : ICode := .keep [] (.seq (.region C.conf_when_r3) .ret)
def C.conf_when_c1_w := @awpE _ _ C.conf_when_c1.eq_1
def C.conf_when_r2_b : List IOper := [
 X.m 6 1,
 X.m 4 6]
def C.conf_when_r2 : List IOper := C.conf_when_r2_b
def C.conf_when_r2_w := @aopsE _ _ C.conf_when_r2.eq_1
def C.conf_when_c2 : ICode := .seq (.region C.conf_when_r2) .ret
def C.conf_when_c2_w := @awpE _ _ C.conf_when_c2.eq_1
def C.conf_when_c3 : ICode := .keep [1, 5] (.cond (X.s 5) C.conf_when_c2 .skip)
def C.conf_when_c3_w := @awpE _ _ C.conf_when_c3.eq_1
def C.conf_when_r1_b : List IOper := [
 X.m 5 0]
def C.conf_when_r1 : List IOper := C.conf_when_r1_b
def C.conf_when_r1_w := @aopsE _ _ C.conf_when_r1.eq_1
def C.conf_when_c4 : ICode := .keep [0, 1] (.seq (.seq (.region C.conf_when_r1) C.conf_when_c3) C.conf_when_c1)
def C.conf_when_c4_w := @awpE _ _ C.conf_when_c4.eq_1
def C.conf_when_r0_b : List IOper := [
 X.o 4 (.move (X.i 0))]
def C.conf_when_r0 : List IOper := C.conf_when_r0_b
def C.conf_when_r0_w := @aopsE _ _ C.conf_when_r0.eq_1
def C.conf_when : IFunc := ⟨2, [.slot 4], .seq (.region C.conf_when_r0) C.conf_when_c4⟩
def C.conf_when_W := And.intro (And.intro (And.intro @C.conf_when_r3_w @C.conf_when_c1_w) (And.intro @C.conf_when_r2_w @C.conf_when_c2_w)) (And.intro (And.intro @C.conf_when_c3_w @C.conf_when_r1_w) (And.intro @C.conf_when_c4_w @C.conf_when_r0_w))
def C.conf_when_B := And.intro (And.intro @C.conf_when_r3_b.eq_1 @C.conf_when_r2_b.eq_1) (And.intro @C.conf_when_r1_b.eq_1 @C.conf_when_r0_b.eq_1)

def C.conf_clock_1_r1_b : List IOper := [
 X.o 2 (.loadN 6 (X.s 0)),
 X.o 3 (.call F.conf_shape [X.s 2]),
 X.o 4 (.un .not (X.s 3)),
 X.o 5 (.call F.conf_when [X.s 4, X.i 1]),
 X.m 1 5]
def C.conf_clock_1_r1 : List IOper := C.conf_clock_1_r1_b
def C.conf_clock_1_r1_w := @aopsE _ _ C.conf_clock_1_r1.eq_1
def C.conf_clock_1_c1 : ICode := .keep [0] (.seq (.region C.conf_clock_1_r1) .ret)
def C.conf_clock_1_c1_w := @awpE _ _ C.conf_clock_1_c1.eq_1
def C.conf_clock_1_r0_b : List IOper := [
 X.o 1 (.move (X.i 0))]
def C.conf_clock_1_r0 : List IOper := C.conf_clock_1_r0_b
def C.conf_clock_1_r0_w := @aopsE _ _ C.conf_clock_1_r0.eq_1
def C.conf_clock_1 : IFunc := ⟨1, [.slot 1], .seq (.region C.conf_clock_1_r0) C.conf_clock_1_c1⟩
def C.conf_clock_1_W := And.intro @C.conf_clock_1_r1_w (And.intro @C.conf_clock_1_c1_w @C.conf_clock_1_r0_w)
def C.conf_clock_1_B := And.intro @C.conf_clock_1_r1_b.eq_1 @C.conf_clock_1_r0_b.eq_1

def C.conf_shape_r10_b : List IOper := [
 X.o 2 (.move (.cst (.bool false)))]
def C.conf_shape_r10 : List IOper := C.conf_shape_r10_b
def C.conf_shape_r10_w := @aopsE _ _ C.conf_shape_r10.eq_1
def C.conf_shape_c1 : ICode := .keep [] (.seq (.region C.conf_shape_r10) .ret)
def C.conf_shape_c1_w := @awpE _ _ C.conf_shape_c1.eq_1
def C.conf_shape_r3_b : List IOper := [
 X.o 7 (.fldAddr 1 (X.s 1)),
 X.o 8 (.load1 (X.s 7)),
 X.o 9 (.len (X.s 8)),
 X.o 10 (.bin .eql (X.s 9) (X.i 0)),
 X.m 2 10]
def C.conf_shape_r3 : List IOper := C.conf_shape_r3_b
def C.conf_shape_r3_w := @aopsE _ _ C.conf_shape_r3.eq_1
def C.conf_shape_r7_b : List IOper := [
 X.o 15 (.fldAddr 1 (X.s 1)),
 X.o 16 (.load1 (X.s 15)),
 X.o 17 (.len (X.s 16)),
 X.o 18 (.bin .eql (X.s 17) (X.i 1)),
 X.m 2 18]
def C.conf_shape_r7 : List IOper := C.conf_shape_r7_b
def C.conf_shape_r7_w := @aopsE _ _ C.conf_shape_r7.eq_1
def C.conf_shape_r9_b : List IOper := [
 X.o 21 (.fldAddr 1 (X.s 1)),
 X.o 22 (.load1 (X.s 21)),
 X.o 23 (.len (X.s 22)),
 X.o 24 (.call F.conf_within [X.s 23, X.i 1, X.i 4]),
 X.m 2 24]
def C.conf_shape_r9 : List IOper := C.conf_shape_r9_b
def C.conf_shape_r9_w := @aopsE _ _ C.conf_shape_r9.eq_1
def C.conf_shape_c2 : ICode := .seq (.region C.conf_shape_r9) .ret
def C.conf_shape_c2_w := @awpE _ _ C.conf_shape_c2.eq_1
def C.conf_shape_c3 : ICode := .keep [1, 19] (.cond (X.s 19) C.conf_shape_c2 .skip)
def C.conf_shape_c3_w := @awpE _ _ C.conf_shape_c3.eq_1
def C.conf_shape_r8_b : List IOper := [
 X.o 20 (.bin .eql (X.s 4) (.cst (.int .u8 109))),
 X.m 19 20]
def C.conf_shape_r8 : List IOper := C.conf_shape_r8_b
def C.conf_shape_r8_w := @aopsE _ _ C.conf_shape_r8.eq_1
def C.conf_shape_c4 : ICode := .seq (.region C.conf_shape_r7) .ret
def C.conf_shape_c4_w := @awpE _ _ C.conf_shape_c4.eq_1
def C.conf_shape_c5 : ICode := .seq (.region C.conf_shape_r8) C.conf_shape_c3
def C.conf_shape_c5_w := @awpE _ _ C.conf_shape_c5.eq_1
def C.conf_shape_c6 : ICode := .keep [1, 4, 11] (.cond (X.s 11) C.conf_shape_c4 C.conf_shape_c5)
def C.conf_shape_c6_w := @awpE _ _ C.conf_shape_c6.eq_1
def C.conf_shape_r6_b : List IOper := [
 X.o 14 (.bin .eql (X.s 4) (.cst (.int .u8 103))),
 X.m 11 14]
def C.conf_shape_r6 : List IOper := C.conf_shape_r6_b
def C.conf_shape_r6_w := @aopsE _ _ C.conf_shape_r6.eq_1
def C.conf_shape_c7 : ICode := .keep [1, 4, 11] (.cond (X.s 11) .skip (.region C.conf_shape_r6))
def C.conf_shape_c7_w := @awpE _ _ C.conf_shape_c7.eq_1
def C.conf_shape_r5_b : List IOper := [
 X.o 13 (.bin .eql (X.s 4) (.cst (.int .u8 100))),
 X.m 11 13]
def C.conf_shape_r5 : List IOper := C.conf_shape_r5_b
def C.conf_shape_r5_w := @aopsE _ _ C.conf_shape_r5.eq_1
def C.conf_shape_c8 : ICode := .seq (.region C.conf_shape_r5) C.conf_shape_c7
def C.conf_shape_c8_w := @awpE _ _ C.conf_shape_c8.eq_1
def C.conf_shape_c9 : ICode := .keep [1, 4, 11] (.cond (X.s 11) .skip C.conf_shape_c8)
def C.conf_shape_c9_w := @awpE _ _ C.conf_shape_c9.eq_1
def C.conf_shape_r4_b : List IOper := [
 X.o 12 (.bin .eql (X.s 4) (.cst (.int .u8 112))),
 X.m 11 12]
def C.conf_shape_r4 : List IOper := C.conf_shape_r4_b
def C.conf_shape_r4_w := @aopsE _ _ C.conf_shape_r4.eq_1
def C.conf_shape_c10 : ICode := .seq (.region C.conf_shape_r3) .ret
def C.conf_shape_c10_w := @awpE _ _ C.conf_shape_c10.eq_1
def C.conf_shape_c11 : ICode := .seq (.seq (.region C.conf_shape_r4) C.conf_shape_c9) C.conf_shape_c6
def C.conf_shape_c11_w := @awpE _ _ C.conf_shape_c11.eq_1
def C.conf_shape_c12 : ICode := .keep [1, 4, 5] (.cond (X.s 5) C.conf_shape_c10 C.conf_shape_c11)
def C.conf_shape_c12_w := @awpE _ _ C.conf_shape_c12.eq_1
def C.conf_shape_r2_b : List IOper := [
 X.o 6 (.bin .eql (X.s 4) (.cst (.int .u8 111))),
 X.m 5 6]
def C.conf_shape_r2 : List IOper := C.conf_shape_r2_b
def C.conf_shape_r2_w := @aopsE _ _ C.conf_shape_r2.eq_1
def C.conf_shape_b13 : ICode := .seq (.region C.conf_shape_r2) C.conf_shape_c12
def C.conf_shape_b13_w := @awpE _ _ C.conf_shape_b13.eq_1
def C.conf_shape_c14 : ICode := .keep [1, 4] (.block 0 C.conf_shape_b13)
def C.conf_shape_c14_w := @awpE _ _ C.conf_shape_c14.eq_1
def C.conf_shape_r1_b : List IOper := [
 X.o 3 (.fldAddr 0 (X.s 1)),
 X.o 4 (.load1 (X.s 3))]
def C.conf_shape_r1 : List IOper := C.conf_shape_r1_b
def C.conf_shape_r1_w := @aopsE _ _ C.conf_shape_r1.eq_1
def C.conf_shape_c15 : ICode := .keep [1] (.seq (.seq (.region C.conf_shape_r1) C.conf_shape_c14) C.conf_shape_c1)
def C.conf_shape_c15_w := @awpE _ _ C.conf_shape_c15.eq_1
def C.conf_shape_r0_b : List IOper := [
 X.o 1 (.boxN (X.s 0)),
 X.o 2 (.move (.cst (.bool false)))]
def C.conf_shape_r0 : List IOper := C.conf_shape_r0_b
def C.conf_shape_r0_w := @aopsE _ _ C.conf_shape_r0.eq_1
def C.conf_shape : IFunc := ⟨1, [.slot 2], .seq (.region C.conf_shape_r0) C.conf_shape_c15⟩
def C.conf_shape_W := And.intro (And.intro (And.intro (And.intro @C.conf_shape_r10_w (And.intro @C.conf_shape_c1_w @C.conf_shape_r3_w)) (And.intro @C.conf_shape_r7_w (And.intro @C.conf_shape_r9_w @C.conf_shape_c2_w))) (And.intro (And.intro @C.conf_shape_c3_w (And.intro @C.conf_shape_r8_w @C.conf_shape_c4_w)) (And.intro (And.intro @C.conf_shape_c5_w @C.conf_shape_c6_w) (And.intro @C.conf_shape_r6_w @C.conf_shape_c7_w)))) (And.intro (And.intro (And.intro @C.conf_shape_r5_w (And.intro @C.conf_shape_c8_w @C.conf_shape_c9_w)) (And.intro @C.conf_shape_r4_w (And.intro @C.conf_shape_c10_w @C.conf_shape_c11_w))) (And.intro (And.intro @C.conf_shape_c12_w (And.intro @C.conf_shape_r2_w @C.conf_shape_b13_w)) (And.intro (And.intro @C.conf_shape_c14_w @C.conf_shape_r1_w) (And.intro @C.conf_shape_c15_w @C.conf_shape_r0_w))))
def C.conf_shape_B := And.intro (And.intro (And.intro @C.conf_shape_r10_b.eq_1 @C.conf_shape_r3_b.eq_1) (And.intro @C.conf_shape_r7_b.eq_1 (And.intro @C.conf_shape_r9_b.eq_1 @C.conf_shape_r8_b.eq_1))) (And.intro (And.intro @C.conf_shape_r6_b.eq_1 (And.intro @C.conf_shape_r5_b.eq_1 @C.conf_shape_r4_b.eq_1)) (And.intro @C.conf_shape_r2_b.eq_1 (And.intro @C.conf_shape_r1_b.eq_1 @C.conf_shape_r0_b.eq_1)))

def C.conf_clock_2_r1_b : List IOper := [
 X.o 3 (.fldAddr 1 (X.s 0)),
 X.o 4 (.load1 (X.s 3)),
 X.o 5 (.makeFunc F.conf_clock_2_1 [X.s 1]),
 X.o 6 (.call F.conf_each_int [X.s 4, X.s 5]),
 X.m 2 6]
def C.conf_clock_2_r1 : List IOper := C.conf_clock_2_r1_b
def C.conf_clock_2_r1_w := @aopsE _ _ C.conf_clock_2_r1.eq_1
def C.conf_clock_2_c1 : ICode := .keep [0, 1] (.seq (.region C.conf_clock_2_r1) .ret)
def C.conf_clock_2_c1_w := @awpE _ _ C.conf_clock_2_c1.eq_1
def C.conf_clock_2_r0_b : List IOper := [
 X.o 2 (.move (X.i 0))]
def C.conf_clock_2_r0 : List IOper := C.conf_clock_2_r0_b
def C.conf_clock_2_r0_w := @aopsE _ _ C.conf_clock_2_r0.eq_1
def C.conf_clock_2 : IFunc := ⟨2, [.slot 2], .seq (.region C.conf_clock_2_r0) C.conf_clock_2_c1⟩
def C.conf_clock_2_W := And.intro @C.conf_clock_2_r1_w (And.intro @C.conf_clock_2_c1_w @C.conf_clock_2_r0_w)
def C.conf_clock_2_B := And.intro @C.conf_clock_2_r1_b.eq_1 @C.conf_clock_2_r0_b.eq_1

def C.conf_each_int_r8_b : List IOper := [
 X.o 4 (.move (X.i 0))]
def C.conf_each_int_r8 : List IOper := C.conf_each_int_r8_b
def C.conf_each_int_r8_w := @aopsE _ _ C.conf_each_int_r8.eq_1
def C.conf_each_int_c1 : ICode := .keep [] (.seq (.region C.conf_each_int_r8) .ret)
def C.conf_each_int_c1_w := @awpE _ _ C.conf_each_int_c1.eq_1
def C.conf_each_int_r7_b : List IOper := [
 X.o 20 (.bin .add (X.s 10) (X.i 1)),
 X.m 10 20]
def C.conf_each_int_r7 : List IOper := C.conf_each_int_r7_b
def C.conf_each_int_r7_w := @aopsE _ _ C.conf_each_int_r7.eq_1
def C.conf_each_int_c2 : ICode := .keep [1, 8, 9, 10] (.region C.conf_each_int_r7)
def C.conf_each_int_c2_w := @awpE _ _ C.conf_each_int_c2.eq_1
def C.conf_each_int_r6_b : List IOper := [
 X.m 19 7,
 X.m 4 19]
def C.conf_each_int_r6 : List IOper := C.conf_each_int_r6_b
def C.conf_each_int_r6_w := @aopsE _ _ C.conf_each_int_r6.eq_1
def C.conf_each_int_c3 : ICode := .seq (.region C.conf_each_int_r6) .ret
def C.conf_each_int_c3_w := @awpE _ _ C.conf_each_int_c3.eq_1
def C.conf_each_int_c4 : ICode := .keep [1, 7, 8, 9, 10, 18] (.cond (X.s 18) C.conf_each_int_c3 .skip)
def C.conf_each_int_c4_w := @awpE _ _ C.conf_each_int_c4.eq_1
def C.conf_each_int_r5_b : List IOper := [
 X.m 17 7,
 X.o 18 (.bin .neq (X.s 17) (X.i 0))]
def C.conf_each_int_r5 : List IOper := C.conf_each_int_r5_b
def C.conf_each_int_r5_w := @aopsE _ _ C.conf_each_int_r5.eq_1
def C.conf_each_int_c5 : ICode := .keep [1, 7, 8, 9, 10] (.seq (.region C.conf_each_int_r5) C.conf_each_int_c4)
def C.conf_each_int_c5_w := @awpE _ _ C.conf_each_int_c5.eq_1
def C.conf_each_int_r4_b : List IOper := [
 X.m 14 1,
 X.m 15 6,
 X.o 16 (.callv (X.s 14) [X.s 15]),
 X.m 7 16]
def C.conf_each_int_r4 : List IOper := C.conf_each_int_r4_b
def C.conf_each_int_r4_w := @aopsE _ _ C.conf_each_int_r4.eq_1
def C.conf_each_int_c6 : ICode := .keep [1, 6, 8, 9, 10] (.seq (.region C.conf_each_int_r4) C.conf_each_int_c5)
def C.conf_each_int_c6_w := @awpE _ _ C.conf_each_int_c6.eq_1
def C.conf_each_int_r3_b : List IOper := [
 X.o 12 (.idxAddr 1 (X.s 8) (X.s 10)),
 X.o 13 (.load1 (X.s 12)),
 X.m 6 13]
def C.conf_each_int_r3 : List IOper := C.conf_each_int_r3_b
def C.conf_each_int_r3_w := @aopsE _ _ C.conf_each_int_r3.eq_1
def C.conf_each_int_b7 : ICode := .seq (.region C.conf_each_int_r3) C.conf_each_int_c6
def C.conf_each_int_b7_w := @awpE _ _ C.conf_each_int_b7.eq_1
def C.conf_each_int_c8 : ICode := .keep [1, 8, 9, 10] (.seq (.block 1 C.conf_each_int_b7) C.conf_each_int_c2)
def C.conf_each_int_c8_w := @awpE _ _ C.conf_each_int_c8.eq_1
def C.conf_each_int_c9 : ICode := .keep [1, 8, 9, 10, 11] (.seq (.cond (X.s 11) .skip (.exit 0)) C.conf_each_int_c8)
def C.conf_each_int_c9_w := @awpE _ _ C.conf_each_int_c9.eq_1
def C.conf_each_int_r2_b : List IOper := [
 X.o 11 (.bin .lss (X.s 10) (X.s 9))]
def C.conf_each_int_r2 : List IOper := C.conf_each_int_r2_b
def C.conf_each_int_r2_w := @aopsE _ _ C.conf_each_int_r2.eq_1
def C.conf_each_int_l10 : ICode := .keep [1, 8, 9, 10] (.seq (.region C.conf_each_int_r2) C.conf_each_int_c9)
def C.conf_each_int_l10_w := @awpE _ _ C.conf_each_int_l10.eq_1
def C.conf_each_int_b11 : ICode := .loop C.conf_each_int_l10
def C.conf_each_int_b11_w := @awpE _ _ C.conf_each_int_b11.eq_1
def C.conf_each_int_c12 : ICode := .keep [1, 8, 9, 10] (.block 0 C.conf_each_int_b11)
def C.conf_each_int_c12_w := @awpE _ _ C.conf_each_int_c12.eq_1
def C.conf_each_int_r1_b : List IOper := [
 X.m 8 0,
 X.o 9 (.len (X.s 8)),
 X.o 10 (.move (X.i 0))]
def C.conf_each_int_r1 : List IOper := C.conf_each_int_r1_b
def C.conf_each_int_r1_w := @aopsE _ _ C.conf_each_int_r1.eq_1
def C.conf_each_int_c13 : ICode := .keep [0, 1] (.seq (.seq (.region C.conf_each_int_r1) C.conf_each_int_c12) C.conf_each_int_c1)
def C.conf_each_int_c13_w := @awpE _ _ C.conf_each_int_c13.eq_1
def C.conf_each_int_r0_b : List IOper := [
 X.o 4 (.move (X.i 0))]
def C.conf_each_int_r0 : List IOper := C.conf_each_int_r0_b
def C.conf_each_int_r0_w := @aopsE _ _ C.conf_each_int_r0.eq_1
def C.conf_each_int : IFunc := ⟨2, [.slot 4], .seq (.region C.conf_each_int_r0) C.conf_each_int_c13⟩
def C.conf_each_int_W := And.intro (And.intro (And.intro (And.intro @C.conf_each_int_r8_w @C.conf_each_int_c1_w) (And.intro @C.conf_each_int_r7_w (And.intro @C.conf_each_int_c2_w @C.conf_each_int_r6_w))) (And.intro (And.intro @C.conf_each_int_c3_w @C.conf_each_int_c4_w) (And.intro @C.conf_each_int_r5_w (And.intro @C.conf_each_int_c5_w @C.conf_each_int_r4_w)))) (And.intro (And.intro (And.intro @C.conf_each_int_c6_w @C.conf_each_int_r3_w) (And.intro @C.conf_each_int_b7_w (And.intro @C.conf_each_int_c8_w @C.conf_each_int_c9_w))) (And.intro (And.intro @C.conf_each_int_r2_w (And.intro @C.conf_each_int_b11_w @C.conf_each_int_c12_w)) (And.intro @C.conf_each_int_r1_w (And.intro @C.conf_each_int_c13_w @C.conf_each_int_r0_w))))
def C.conf_each_int_B := And.intro (And.intro (And.intro @C.conf_each_int_r8_b.eq_1 @C.conf_each_int_r7_b.eq_1) (And.intro @C.conf_each_int_r6_b.eq_1 @C.conf_each_int_r5_b.eq_1)) (And.intro (And.intro @C.conf_each_int_r4_b.eq_1 @C.conf_each_int_r3_b.eq_1) (And.intro @C.conf_each_int_r2_b.eq_1 (And.intro @C.conf_each_int_r1_b.eq_1 @C.conf_each_int_r0_b.eq_1)))

def C.conf_clock_2_1_r1_b : List IOper := [
 X.m 4 0,
 X.o 5 (.fldAddr 0 (X.s 1)),
 X.o 6 (.load1 (X.s 5)),
 X.o 7 (.len (X.s 6)),
 X.o 8 (.bin .sub (X.s 7) (X.i 1)),
 X.o 9 (.call F.conf_within [X.s 4, X.i 0, X.s 8]),
 X.o 10 (.un .not (X.s 9)),
 X.o 11 (.call F.conf_when [X.s 10, X.i 4]),
 X.m 3 11]
def C.conf_clock_2_1_r1 : List IOper := C.conf_clock_2_1_r1_b
def C.conf_clock_2_1_r1_w := @aopsE _ _ C.conf_clock_2_1_r1.eq_1
def C.conf_clock_2_1_c1 : ICode := .keep [0, 1] (.seq (.region C.conf_clock_2_1_r1) .ret)
def C.conf_clock_2_1_c1_w := @awpE _ _ C.conf_clock_2_1_c1.eq_1
def C.conf_clock_2_1_r0_b : List IOper := [
 X.o 3 (.move (X.i 0))]
def C.conf_clock_2_1_r0 : List IOper := C.conf_clock_2_1_r0_b
def C.conf_clock_2_1_r0_w := @aopsE _ _ C.conf_clock_2_1_r0.eq_1
def C.conf_clock_2_1 : IFunc := ⟨2, [.slot 3], .seq (.region C.conf_clock_2_1_r0) C.conf_clock_2_1_c1⟩
def C.conf_clock_2_1_W := And.intro @C.conf_clock_2_1_r1_w (And.intro @C.conf_clock_2_1_c1_w @C.conf_clock_2_1_r0_w)
def C.conf_clock_2_1_B := And.intro @C.conf_clock_2_1_r1_b.eq_1 @C.conf_clock_2_1_r0_b.eq_1

def C.conf_within_r1_b : List IOper := [
 X.m 7 0,
 X.m 8 1,
 X.o 9 (.bin .geq (X.s 7) (X.s 8)),
 X.m 10 9,
 X.t 10 11 (.move (X.s 0)),
 X.t 10 12 (.move (X.s 2)),
 X.t 10 13 (.bin .leq (X.s 11) (X.s 12)),
 X.o 14 (.pick (X.s 10) (X.s 13) (.cst (.bool false))),
 X.m 6 14]
def C.conf_within_r1 : List IOper := C.conf_within_r1_b
def C.conf_within_r1_w := @aopsE _ _ C.conf_within_r1.eq_1
def C.conf_within_c1 : ICode := .keep [0, 1, 2] (.seq (.region C.conf_within_r1) .ret)
def C.conf_within_c1_w := @awpE _ _ C.conf_within_c1.eq_1
def C.conf_within_r0_b : List IOper := [
 X.o 6 (.move (.cst (.bool false)))]
def C.conf_within_r0 : List IOper := C.conf_within_r0_b
def C.conf_within_r0_w := @aopsE _ _ C.conf_within_r0.eq_1
def C.conf_within : IFunc := ⟨3, [.slot 6], .seq (.region C.conf_within_r0) C.conf_within_c1⟩
def C.conf_within_W := And.intro @C.conf_within_r1_w (And.intro @C.conf_within_c1_w @C.conf_within_r0_w)
def C.conf_within_B := And.intro @C.conf_within_r1_b.eq_1 @C.conf_within_r0_b.eq_1

def C.conf_clock_3_r1_b : List IOper := [
 X.o 2 (.loadN 6 (X.s 0)),
 X.o 3 (.call F.conf_numbers [X.s 2]),
 X.o 4 (.un .not (X.s 3)),
 X.o 5 (.call F.conf_when [X.s 4, X.i 3]),
 X.m 1 5]
def C.conf_clock_3_r1 : List IOper := C.conf_clock_3_r1_b
def C.conf_clock_3_r1_w := @aopsE _ _ C.conf_clock_3_r1.eq_1
def C.conf_clock_3_c1 : ICode := .keep [0] (.seq (.region C.conf_clock_3_r1) .ret)
def C.conf_clock_3_c1_w := @awpE _ _ C.conf_clock_3_c1.eq_1
def C.conf_clock_3_r0_b : List IOper := [
 X.o 1 (.move (X.i 0))]
def C.conf_clock_3_r0 : List IOper := C.conf_clock_3_r0_b
def C.conf_clock_3_r0_w := @aopsE _ _ C.conf_clock_3_r0.eq_1
def C.conf_clock_3 : IFunc := ⟨1, [.slot 1], .seq (.region C.conf_clock_3_r0) C.conf_clock_3_c1⟩
def C.conf_clock_3_W := And.intro @C.conf_clock_3_r1_w (And.intro @C.conf_clock_3_c1_w @C.conf_clock_3_r0_w)
def C.conf_clock_3_B := And.intro @C.conf_clock_3_r1_b.eq_1 @C.conf_clock_3_r0_b.eq_1

def C.conf_numbers_r8_b : List IOper := [
 X.o 2 (.move (.cst (.bool true)))]
def C.conf_numbers_r8 : List IOper := C.conf_numbers_r8_b
def C.conf_numbers_r8_w := @aopsE _ _ C.conf_numbers_r8.eq_1
def C.conf_numbers_c1 : ICode := .keep [] (.seq (.region C.conf_numbers_r8) .ret)
def C.conf_numbers_c1_w := @awpE _ _ C.conf_numbers_c1.eq_1
def C.conf_numbers_r3_b : List IOper := [
 X.o 7 (.fldAddr 2 (X.s 1)),
 X.o 8 (.load1 (X.s 7)),
 X.o 9 (.bin .geq (X.s 8) (.cst (.int .u64 1))),
 X.m 10 9,
 X.t 10 11 (.fldAddr 2 (X.s 1)),
 X.t 10 12 (.load1 (X.s 11)),
 X.t 10 13 (.bin .leq (X.s 12) (.cst (.int .u64 1099511627776))),
 X.o 14 (.pick (X.s 10) (X.s 13) (.cst (.bool false))),
 X.m 2 14]
def C.conf_numbers_r3 : List IOper := C.conf_numbers_r3_b
def C.conf_numbers_r3_w := @aopsE _ _ C.conf_numbers_r3.eq_1
def C.conf_numbers_r5_b : List IOper := [
 X.o 17 (.fldAddr 3 (X.s 1)),
 X.o 18 (.load1 (X.s 17)),
 X.o 19 (.call F.conf_within [X.s 18, X.i 1, X.i 1000]),
 X.m 20 19,
 X.t 20 21 (.fldAddr 4 (X.s 1)),
 X.t 20 22 (.load1 (X.s 21)),
 X.t 20 23 (.call F.conf_within [X.s 22, X.i 1, X.i 1000]),
 X.o 24 (.pick (X.s 20) (X.s 23) (.cst (.bool false))),
 X.m 25 24,
 X.t 25 26 (.fldAddr 5 (X.s 1)),
 X.t 25 27 (.load1 (X.s 26)),
 X.t 25 28 (.call F.conf_within [X.s 27, X.i 0, X.i 20]),
 X.o 29 (.pick (X.s 25) (X.s 28) (.cst (.bool false))),
 X.m 2 29]
def C.conf_numbers_r5 : List IOper := C.conf_numbers_r5_b
def C.conf_numbers_r5_w := @aopsE _ _ C.conf_numbers_r5.eq_1
def C.conf_numbers_r7_b : List IOper := [
 X.o 32 (.fldAddr 4 (X.s 1)),
 X.o 33 (.load1 (X.s 32)),
 X.o 34 (.call F.conf_within [X.s 33, X.i 1, X.i 1000]),
 X.m 2 34]
def C.conf_numbers_r7 : List IOper := C.conf_numbers_r7_b
def C.conf_numbers_r7_w := @aopsE _ _ C.conf_numbers_r7.eq_1
def C.conf_numbers_c2 : ICode := .seq (.region C.conf_numbers_r7) .ret
def C.conf_numbers_c2_w := @awpE _ _ C.conf_numbers_c2.eq_1
def C.conf_numbers_c3 : ICode := .keep [1, 30] (.cond (X.s 30) C.conf_numbers_c2 .skip)
def C.conf_numbers_c3_w := @awpE _ _ C.conf_numbers_c3.eq_1
def C.conf_numbers_r6_b : List IOper := [
 X.o 31 (.bin .eql (X.s 4) (.cst (.int .u8 100))),
 X.m 30 31]
def C.conf_numbers_r6 : List IOper := C.conf_numbers_r6_b
def C.conf_numbers_r6_w := @aopsE _ _ C.conf_numbers_r6.eq_1
def C.conf_numbers_c4 : ICode := .seq (.region C.conf_numbers_r5) .ret
def C.conf_numbers_c4_w := @awpE _ _ C.conf_numbers_c4.eq_1
def C.conf_numbers_c5 : ICode := .seq (.region C.conf_numbers_r6) C.conf_numbers_c3
def C.conf_numbers_c5_w := @awpE _ _ C.conf_numbers_c5.eq_1
def C.conf_numbers_c6 : ICode := .keep [1, 4, 15] (.cond (X.s 15) C.conf_numbers_c4 C.conf_numbers_c5)
def C.conf_numbers_c6_w := @awpE _ _ C.conf_numbers_c6.eq_1
def C.conf_numbers_r4_b : List IOper := [
 X.o 16 (.bin .eql (X.s 4) (.cst (.int .u8 112))),
 X.m 15 16]
def C.conf_numbers_r4 : List IOper := C.conf_numbers_r4_b
def C.conf_numbers_r4_w := @aopsE _ _ C.conf_numbers_r4.eq_1
def C.conf_numbers_c7 : ICode := .seq (.region C.conf_numbers_r3) .ret
def C.conf_numbers_c7_w := @awpE _ _ C.conf_numbers_c7.eq_1
def C.conf_numbers_c8 : ICode := .seq (.region C.conf_numbers_r4) C.conf_numbers_c6
def C.conf_numbers_c8_w := @awpE _ _ C.conf_numbers_c8.eq_1
def C.conf_numbers_c9 : ICode := .keep [1, 4, 5] (.cond (X.s 5) C.conf_numbers_c7 C.conf_numbers_c8)
def C.conf_numbers_c9_w := @awpE _ _ C.conf_numbers_c9.eq_1
def C.conf_numbers_r2_b : List IOper := [
 X.o 6 (.bin .eql (X.s 4) (.cst (.int .u8 111))),
 X.m 5 6]
def C.conf_numbers_r2 : List IOper := C.conf_numbers_r2_b
def C.conf_numbers_r2_w := @aopsE _ _ C.conf_numbers_r2.eq_1
def C.conf_numbers_b10 : ICode := .seq (.region C.conf_numbers_r2) C.conf_numbers_c9
def C.conf_numbers_b10_w := @awpE _ _ C.conf_numbers_b10.eq_1
def C.conf_numbers_c11 : ICode := .keep [1, 4] (.block 0 C.conf_numbers_b10)
def C.conf_numbers_c11_w := @awpE _ _ C.conf_numbers_c11.eq_1
def C.conf_numbers_r1_b : List IOper := [
 X.o 3 (.fldAddr 0 (X.s 1)),
 X.o 4 (.load1 (X.s 3))]
def C.conf_numbers_r1 : List IOper := C.conf_numbers_r1_b
def C.conf_numbers_r1_w := @aopsE _ _ C.conf_numbers_r1.eq_1
def C.conf_numbers_c12 : ICode := .keep [1] (.seq (.seq (.region C.conf_numbers_r1) C.conf_numbers_c11) C.conf_numbers_c1)
def C.conf_numbers_c12_w := @awpE _ _ C.conf_numbers_c12.eq_1
def C.conf_numbers_r0_b : List IOper := [
 X.o 1 (.boxN (X.s 0)),
 X.o 2 (.move (.cst (.bool false)))]
def C.conf_numbers_r0 : List IOper := C.conf_numbers_r0_b
def C.conf_numbers_r0_w := @aopsE _ _ C.conf_numbers_r0.eq_1
def C.conf_numbers : IFunc := ⟨1, [.slot 2], .seq (.region C.conf_numbers_r0) C.conf_numbers_c12⟩
def C.conf_numbers_W := And.intro (And.intro (And.intro (And.intro @C.conf_numbers_r8_w @C.conf_numbers_c1_w) (And.intro @C.conf_numbers_r3_w (And.intro @C.conf_numbers_r5_w @C.conf_numbers_r7_w))) (And.intro (And.intro @C.conf_numbers_c2_w @C.conf_numbers_c3_w) (And.intro @C.conf_numbers_r6_w (And.intro @C.conf_numbers_c4_w @C.conf_numbers_c5_w)))) (And.intro (And.intro (And.intro @C.conf_numbers_c6_w @C.conf_numbers_r4_w) (And.intro @C.conf_numbers_c7_w (And.intro @C.conf_numbers_c8_w @C.conf_numbers_c9_w))) (And.intro (And.intro @C.conf_numbers_r2_w (And.intro @C.conf_numbers_b10_w @C.conf_numbers_c11_w)) (And.intro @C.conf_numbers_r1_w (And.intro @C.conf_numbers_c12_w @C.conf_numbers_r0_w))))
def C.conf_numbers_B := And.intro (And.intro (And.intro @C.conf_numbers_r8_b.eq_1 @C.conf_numbers_r3_b.eq_1) (And.intro @C.conf_numbers_r5_b.eq_1 @C.conf_numbers_r7_b.eq_1)) (And.intro (And.intro @C.conf_numbers_r6_b.eq_1 @C.conf_numbers_r4_b.eq_1) (And.intro @C.conf_numbers_r2_b.eq_1 (And.intro @C.conf_numbers_r1_b.eq_1 @C.conf_numbers_r0_b.eq_1)))

def C.graph_Check_r2_b : List IOper := [
 X.m 10 4,
 X.m 2 10]
def C.graph_Check_r2 : List IOper := C.graph_Check_r2_b
def C.graph_Check_r2_w := @aopsE _ _ C.graph_Check_r2.eq_1
def C.graph_Check_c1 : ICode := .keep [4] (.seq (.region C.graph_Check_r2) .ret)
def C.graph_Check_c1_w := @awpE _ _ C.graph_Check_c1.eq_1
def C.graph_Check_r1_b : List IOper := [
 X.m 6 0,
 X.o 7 (.call F.graph_Order [X.s 6]),
 X.m 5 7,
 X.o 8 (.extract (X.s 5) 0),
 X.o 9 (.extract (X.s 5) 1),
 X.m 3 8,
 X.m 4 9]
def C.graph_Check_r1 : List IOper := C.graph_Check_r1_b
def C.graph_Check_r1_w := @aopsE _ _ C.graph_Check_r1.eq_1
def C.graph_Check_c2 : ICode := .keep [0] (.seq (.region C.graph_Check_r1) C.graph_Check_c1)
def C.graph_Check_c2_w := @awpE _ _ C.graph_Check_c2.eq_1
def C.graph_Check_r0_b : List IOper := [
 X.o 2 (.move (X.i 0))]
def C.graph_Check_r0 : List IOper := C.graph_Check_r0_b
def C.graph_Check_r0_w := @aopsE _ _ C.graph_Check_r0.eq_1
def C.graph_Check : IFunc := ⟨1, [.slot 2], .seq (.region C.graph_Check_r0) C.graph_Check_c2⟩
def C.graph_Check_W := And.intro (And.intro @C.graph_Check_r2_w @C.graph_Check_c1_w) (And.intro @C.graph_Check_r1_w (And.intro @C.graph_Check_c2_w @C.graph_Check_r0_w))
def C.graph_Check_B := And.intro @C.graph_Check_r2_b.eq_1 (And.intro @C.graph_Check_r1_b.eq_1 @C.graph_Check_r0_b.eq_1)

def C.conf_own_int_r1_b : List IOper := [
 X.m 3 0,
 X.o 4 (.append 1 8 (.cst (.nils)) (X.s 3)),
 X.m 2 4]
def C.conf_own_int_r1 : List IOper := C.conf_own_int_r1_b
def C.conf_own_int_r1_w := @aopsE _ _ C.conf_own_int_r1.eq_1
def C.conf_own_int_c1 : ICode := .keep [0] (.seq (.region C.conf_own_int_r1) .ret)
def C.conf_own_int_c1_w := @awpE _ _ C.conf_own_int_c1.eq_1
def C.conf_own_int_r0_b : List IOper := [
 X.o 2 (.move (.cst (.nils)))]
def C.conf_own_int_r0 : List IOper := C.conf_own_int_r0_b
def C.conf_own_int_r0_w := @aopsE _ _ C.conf_own_int_r0.eq_1
def C.conf_own_int : IFunc := ⟨1, [.slot 2], .seq (.region C.conf_own_int_r0) C.conf_own_int_c1⟩
def C.conf_own_int_W := And.intro @C.conf_own_int_r1_w (And.intro @C.conf_own_int_c1_w @C.conf_own_int_r0_w)
def C.conf_own_int_B := And.intro @C.conf_own_int_r1_b.eq_1 @C.conf_own_int_r0_b.eq_1

def C.conf_domain_1_r1_b : List IOper := [
 X.o 3 (.fldAddr 0 (X.s 0)),
 X.o 4 (.load1 (X.s 3)),
 X.o 5 (.bin .neq (X.s 4) (X.i (-1))),
 X.m 6 5,
 X.t 6 7 (.fldAddr 0 (X.s 0)),
 X.t 6 8 (.load1 (X.s 7)),
 X.t 6 9 (.fldAddr 1 (X.s 1)),
 X.t 6 10 (.load1 (X.s 9)),
 X.t 6 11 (.len (X.s 10)),
 X.t 6 12 (.bin .sub (X.s 11) (X.i 1)),
 X.t 6 13 (.call F.conf_within [X.s 8, X.i 0, X.s 12]),
 X.t 6 14 (.un .not (X.s 13)),
 X.o 15 (.pick (X.s 6) (X.s 14) (.cst (.bool false))),
 X.o 16 (.call F.conf_when [X.s 15, X.i 4]),
 X.m 2 16]
def C.conf_domain_1_r1 : List IOper := C.conf_domain_1_r1_b
def C.conf_domain_1_r1_w := @aopsE _ _ C.conf_domain_1_r1.eq_1
def C.conf_domain_1_c1 : ICode := .keep [0, 1] (.seq (.region C.conf_domain_1_r1) .ret)
def C.conf_domain_1_c1_w := @awpE _ _ C.conf_domain_1_c1.eq_1
def C.conf_domain_1_r0_b : List IOper := [
 X.o 2 (.move (X.i 0))]
def C.conf_domain_1_r0 : List IOper := C.conf_domain_1_r0_b
def C.conf_domain_1_r0_w := @aopsE _ _ C.conf_domain_1_r0.eq_1
def C.conf_domain_1 : IFunc := ⟨2, [.slot 2], .seq (.region C.conf_domain_1_r0) C.conf_domain_1_c1⟩
def C.conf_domain_1_W := And.intro @C.conf_domain_1_r1_w (And.intro @C.conf_domain_1_c1_w @C.conf_domain_1_r0_w)
def C.conf_domain_1_B := And.intro @C.conf_domain_1_r1_b.eq_1 @C.conf_domain_1_r0_b.eq_1

def C.conf_domain_2_r1_b : List IOper := [
 X.o 2 (.fldAddr 1 (X.s 0)),
 X.o 3 (.load1 (X.s 2)),
 X.o 4 (.call F.conf_within [X.s 3, X.i 0, X.i 20]),
 X.o 5 (.un .not (X.s 4)),
 X.o 6 (.call F.conf_when [X.s 5, X.i 3]),
 X.m 1 6]
def C.conf_domain_2_r1 : List IOper := C.conf_domain_2_r1_b
def C.conf_domain_2_r1_w := @aopsE _ _ C.conf_domain_2_r1.eq_1
def C.conf_domain_2_c1 : ICode := .keep [0] (.seq (.region C.conf_domain_2_r1) .ret)
def C.conf_domain_2_c1_w := @awpE _ _ C.conf_domain_2_c1.eq_1
def C.conf_domain_2_r0_b : List IOper := [
 X.o 1 (.move (X.i 0))]
def C.conf_domain_2_r0 : List IOper := C.conf_domain_2_r0_b
def C.conf_domain_2_r0_w := @aopsE _ _ C.conf_domain_2_r0.eq_1
def C.conf_domain_2 : IFunc := ⟨1, [.slot 1], .seq (.region C.conf_domain_2_r0) C.conf_domain_2_c1⟩
def C.conf_domain_2_W := And.intro @C.conf_domain_2_r1_w (And.intro @C.conf_domain_2_c1_w @C.conf_domain_2_r0_w)
def C.conf_domain_2_B := And.intro @C.conf_domain_2_r1_b.eq_1 @C.conf_domain_2_r0_b.eq_1

def C.conf_device_1_r1_b : List IOper := [
 X.o 3 (.fldAddr 0 (X.s 0)),
 X.o 4 (.load1 (X.s 3)),
 X.o 5 (.fldAddr 0 (X.s 1)),
 X.o 6 (.load1 (X.s 5)),
 X.o 7 (.len (X.s 6)),
 X.o 8 (.bin .sub (X.s 7) (X.i 1)),
 X.o 9 (.call F.conf_within [X.s 4, X.i 0, X.s 8]),
 X.o 10 (.un .not (X.s 9)),
 X.o 11 (.call F.conf_when [X.s 10, X.i 4]),
 X.m 2 11]
def C.conf_device_1_r1 : List IOper := C.conf_device_1_r1_b
def C.conf_device_1_r1_w := @aopsE _ _ C.conf_device_1_r1.eq_1
def C.conf_device_1_c1 : ICode := .keep [0, 1] (.seq (.region C.conf_device_1_r1) .ret)
def C.conf_device_1_c1_w := @awpE _ _ C.conf_device_1_c1.eq_1
def C.conf_device_1_r0_b : List IOper := [
 X.o 2 (.move (X.i 0))]
def C.conf_device_1_r0 : List IOper := C.conf_device_1_r0_b
def C.conf_device_1_r0_w := @aopsE _ _ C.conf_device_1_r0.eq_1
def C.conf_device_1 : IFunc := ⟨2, [.slot 2], .seq (.region C.conf_device_1_r0) C.conf_device_1_c1⟩
def C.conf_device_1_W := And.intro @C.conf_device_1_r1_w (And.intro @C.conf_device_1_c1_w @C.conf_device_1_r0_w)
def C.conf_device_1_B := And.intro @C.conf_device_1_r1_b.eq_1 @C.conf_device_1_r0_b.eq_1

def C.conf_device_2_r1_b : List IOper := [
 X.o 3 (.fldAddr 1 (X.s 0)),
 X.o 4 (.load1 (X.s 3)),
 X.o 5 (.fldAddr 1 (X.s 1)),
 X.o 6 (.load1 (X.s 5)),
 X.o 7 (.len (X.s 6)),
 X.o 8 (.bin .sub (X.s 7) (X.i 1)),
 X.o 9 (.call F.conf_within [X.s 4, X.i 0, X.s 8]),
 X.o 10 (.un .not (X.s 9)),
 X.o 11 (.call F.conf_when [X.s 10, X.i 4]),
 X.m 2 11]
def C.conf_device_2_r1 : List IOper := C.conf_device_2_r1_b
def C.conf_device_2_r1_w := @aopsE _ _ C.conf_device_2_r1.eq_1
def C.conf_device_2_c1 : ICode := .keep [0, 1] (.seq (.region C.conf_device_2_r1) .ret)
def C.conf_device_2_c1_w := @awpE _ _ C.conf_device_2_c1.eq_1
def C.conf_device_2_r0_b : List IOper := [
 X.o 2 (.move (X.i 0))]
def C.conf_device_2_r0 : List IOper := C.conf_device_2_r0_b
def C.conf_device_2_r0_w := @aopsE _ _ C.conf_device_2_r0.eq_1
def C.conf_device_2 : IFunc := ⟨2, [.slot 2], .seq (.region C.conf_device_2_r0) C.conf_device_2_c1⟩
def C.conf_device_2_W := And.intro @C.conf_device_2_r1_w (And.intro @C.conf_device_2_c1_w @C.conf_device_2_r0_w)
def C.conf_device_2_B := And.intro @C.conf_device_2_r1_b.eq_1 @C.conf_device_2_r0_b.eq_1

def C.conf_device_3_r1_b : List IOper := [
 X.o 3 (.fldAddr 2 (X.s 0)),
 X.o 4 (.load1 (X.s 3)),
 X.o 5 (.fldAddr 2 (X.s 1)),
 X.o 6 (.load1 (X.s 5)),
 X.o 7 (.len (X.s 6)),
 X.o 8 (.bin .sub (X.s 7) (X.i 1)),
 X.o 9 (.call F.conf_within [X.s 4, X.i 0, X.s 8]),
 X.o 10 (.un .not (X.s 9)),
 X.o 11 (.call F.conf_when [X.s 10, X.i 4]),
 X.m 2 11]
def C.conf_device_3_r1 : List IOper := C.conf_device_3_r1_b
def C.conf_device_3_r1_w := @aopsE _ _ C.conf_device_3_r1.eq_1
def C.conf_device_3_c1 : ICode := .keep [0, 1] (.seq (.region C.conf_device_3_r1) .ret)
def C.conf_device_3_c1_w := @awpE _ _ C.conf_device_3_c1.eq_1
def C.conf_device_3_r0_b : List IOper := [
 X.o 2 (.move (X.i 0))]
def C.conf_device_3_r0 : List IOper := C.conf_device_3_r0_b
def C.conf_device_3_r0_w := @aopsE _ _ C.conf_device_3_r0.eq_1
def C.conf_device_3 : IFunc := ⟨2, [.slot 2], .seq (.region C.conf_device_3_r0) C.conf_device_3_c1⟩
def C.conf_device_3_W := And.intro @C.conf_device_3_r1_w (And.intro @C.conf_device_3_c1_w @C.conf_device_3_r0_w)
def C.conf_device_3_B := And.intro @C.conf_device_3_r1_b.eq_1 @C.conf_device_3_r0_b.eq_1

def C.conf_device_4_r1_b : List IOper := [
 X.o 3 (.fldAddr 5 (X.s 0)),
 X.o 4 (.load1 (X.s 3)),
 X.o 5 (.makeFunc F.conf_device_4_1 [X.s 1]),
 X.o 6 (.call F.conf_each_int [X.s 4, X.s 5]),
 X.m 2 6]
def C.conf_device_4_r1 : List IOper := C.conf_device_4_r1_b
def C.conf_device_4_r1_w := @aopsE _ _ C.conf_device_4_r1.eq_1
def C.conf_device_4_c1 : ICode := .keep [0, 1] (.seq (.region C.conf_device_4_r1) .ret)
def C.conf_device_4_c1_w := @awpE _ _ C.conf_device_4_c1.eq_1
def C.conf_device_4_r0_b : List IOper := [
 X.o 2 (.move (X.i 0))]
def C.conf_device_4_r0 : List IOper := C.conf_device_4_r0_b
def C.conf_device_4_r0_w := @aopsE _ _ C.conf_device_4_r0.eq_1
def C.conf_device_4 : IFunc := ⟨2, [.slot 2], .seq (.region C.conf_device_4_r0) C.conf_device_4_c1⟩
def C.conf_device_4_W := And.intro @C.conf_device_4_r1_w (And.intro @C.conf_device_4_c1_w @C.conf_device_4_r0_w)
def C.conf_device_4_B := And.intro @C.conf_device_4_r1_b.eq_1 @C.conf_device_4_r0_b.eq_1

def C.conf_device_4_1_r1_b : List IOper := [
 X.m 4 0,
 X.o 5 (.fldAddr 3 (X.s 1)),
 X.o 6 (.load1 (X.s 5)),
 X.o 7 (.len (X.s 6)),
 X.o 8 (.bin .sub (X.s 7) (X.i 1)),
 X.o 9 (.call F.conf_within [X.s 4, X.i 0, X.s 8]),
 X.o 10 (.un .not (X.s 9)),
 X.o 11 (.call F.conf_when [X.s 10, X.i 4]),
 X.m 3 11]
def C.conf_device_4_1_r1 : List IOper := C.conf_device_4_1_r1_b
def C.conf_device_4_1_r1_w := @aopsE _ _ C.conf_device_4_1_r1.eq_1
def C.conf_device_4_1_c1 : ICode := .keep [0, 1] (.seq (.region C.conf_device_4_1_r1) .ret)
def C.conf_device_4_1_c1_w := @awpE _ _ C.conf_device_4_1_c1.eq_1
def C.conf_device_4_1_r0_b : List IOper := [
 X.o 3 (.move (X.i 0))]
def C.conf_device_4_1_r0 : List IOper := C.conf_device_4_1_r0_b
def C.conf_device_4_1_r0_w := @aopsE _ _ C.conf_device_4_1_r0.eq_1
def C.conf_device_4_1 : IFunc := ⟨2, [.slot 3], .seq (.region C.conf_device_4_1_r0) C.conf_device_4_1_c1⟩
def C.conf_device_4_1_W := And.intro @C.conf_device_4_1_r1_w (And.intro @C.conf_device_4_1_c1_w @C.conf_device_4_1_r0_w)
def C.conf_device_4_1_B := And.intro @C.conf_device_4_1_r1_b.eq_1 @C.conf_device_4_1_r0_b.eq_1

def C.catnapref4_clock_r16_b : List IOper := [
 X.o 4 (.move (X.i 0))]
def C.catnapref4_clock_r16 : List IOper := C.catnapref4_clock_r16_b
def C.catnapref4_clock_r16_w := @aopsE _ _ C.catnapref4_clock_r16.eq_1
def C.catnapref4_clock_c1 : ICode := .keep [] (.seq (.region C.catnapref4_clock_r16) .ret)
def C.catnapref4_clock_c1_w := @awpE _ _ C.catnapref4_clock_c1.eq_1
def C.catnapref4_clock_r15_b : List IOper := [
 X.o 4 (.move (X.i 3))]
def C.catnapref4_clock_r15 : List IOper := C.catnapref4_clock_r15_b
def C.catnapref4_clock_r15_w := @aopsE _ _ C.catnapref4_clock_r15.eq_1
def C.catnapref4_clock_c2 : ICode := .seq (.region C.catnapref4_clock_r15) .ret
def C.catnapref4_clock_c2_w := @awpE _ _ C.catnapref4_clock_c2.eq_1
def C.catnapref4_clock_c3 : ICode := .keep [103] (.cond (X.s 103) C.catnapref4_clock_c2 .skip)
def C.catnapref4_clock_c3_w := @awpE _ _ C.catnapref4_clock_c3.eq_1
def C.catnapref4_clock_r14_b : List IOper := [
 X.o 95 (.fldAddr 0 (X.s 2)),
 X.o 96 (.load1 (X.s 95)),
 X.o 97 (.bin .eql (X.s 96) (.cst (.int .u8 100))),
 X.m 98 97,
 X.t 98 99 (.fldAddr 4 (X.s 2)),
 X.t 98 100 (.load1 (X.s 99)),
 X.t 98 101 (.call F.catnapref4_within [X.s 100, X.i 1, X.i 1000]),
 X.t 98 102 (.un .not (X.s 101)),
 X.o 103 (.pick (X.s 98) (X.s 102) (.cst (.bool false)))]
def C.catnapref4_clock_r14 : List IOper := C.catnapref4_clock_r14_b
def C.catnapref4_clock_r14_w := @aopsE _ _ C.catnapref4_clock_r14.eq_1
def C.catnapref4_clock_c4 : ICode := .keep [2] (.seq (.seq (.region C.catnapref4_clock_r14) C.catnapref4_clock_c3) C.catnapref4_clock_c1)
def C.catnapref4_clock_c4_w := @awpE _ _ C.catnapref4_clock_c4.eq_1
def C.catnapref4_clock_r13_b : List IOper := [
 X.o 4 (.move (X.i 3))]
def C.catnapref4_clock_r13 : List IOper := C.catnapref4_clock_r13_b
def C.catnapref4_clock_r13_w := @aopsE _ _ C.catnapref4_clock_r13.eq_1
def C.catnapref4_clock_c5 : ICode := .seq (.region C.catnapref4_clock_r13) .ret
def C.catnapref4_clock_c5_w := @awpE _ _ C.catnapref4_clock_c5.eq_1
def C.catnapref4_clock_c6 : ICode := .keep [2, 94] (.cond (X.s 94) C.catnapref4_clock_c5 .skip)
def C.catnapref4_clock_c6_w := @awpE _ _ C.catnapref4_clock_c6.eq_1
def C.catnapref4_clock_r12_b : List IOper := [
 X.o 74 (.fldAddr 0 (X.s 2)),
 X.o 75 (.load1 (X.s 74)),
 X.o 76 (.bin .eql (X.s 75) (.cst (.int .u8 112))),
 X.m 77 76,
 X.t 77 78 (.fldAddr 3 (X.s 2)),
 X.t 77 79 (.load1 (X.s 78)),
 X.t 77 80 (.call F.catnapref4_within [X.s 79, X.i 1, X.i 1000]),
 X.t 77 81 (.un .not (X.s 80)),
 X.t 77 82 (.move (X.s 81)),
 X.f 82 83 (.fldAddr 4 (X.s 2)),
 X.f 82 84 (.load1 (X.s 83)),
 X.f 82 85 (.call F.catnapref4_within [X.s 84, X.i 1, X.i 1000]),
 X.f 82 86 (.un .not (X.s 85)),
 X.t 77 87 (.pick (X.s 82) (.cst (.bool true)) (X.s 86)),
 X.t 77 88 (.move (X.s 87)),
 X.f 88 89 (.fldAddr 5 (X.s 2)),
 X.f 88 90 (.load1 (X.s 89)),
 X.f 88 91 (.call F.catnapref4_within [X.s 90, X.i 0, X.i 20]),
 X.f 88 92 (.un .not (X.s 91)),
 X.t 77 93 (.pick (X.s 88) (.cst (.bool true)) (X.s 92)),
 X.o 94 (.pick (X.s 77) (X.s 93) (.cst (.bool false)))]
def C.catnapref4_clock_r12 : List IOper := C.catnapref4_clock_r12_b
def C.catnapref4_clock_r12_w := @aopsE _ _ C.catnapref4_clock_r12.eq_1
def C.catnapref4_clock_c7 : ICode := .keep [2] (.seq (.seq (.region C.catnapref4_clock_r12) C.catnapref4_clock_c6) C.catnapref4_clock_c4)
def C.catnapref4_clock_c7_w := @awpE _ _ C.catnapref4_clock_c7.eq_1
def C.catnapref4_clock_r11_b : List IOper := [
 X.o 4 (.move (X.i 3))]
def C.catnapref4_clock_r11 : List IOper := C.catnapref4_clock_r11_b
def C.catnapref4_clock_r11_w := @aopsE _ _ C.catnapref4_clock_r11.eq_1
def C.catnapref4_clock_c8 : ICode := .seq (.region C.catnapref4_clock_r11) .ret
def C.catnapref4_clock_c8_w := @awpE _ _ C.catnapref4_clock_c8.eq_1
def C.catnapref4_clock_c9 : ICode := .keep [2, 73] (.cond (X.s 73) C.catnapref4_clock_c8 .skip)
def C.catnapref4_clock_c9_w := @awpE _ _ C.catnapref4_clock_c9.eq_1
def C.catnapref4_clock_r10_b : List IOper := [
 X.o 61 (.fldAddr 0 (X.s 2)),
 X.o 62 (.load1 (X.s 61)),
 X.o 63 (.bin .eql (X.s 62) (.cst (.int .u8 111))),
 X.m 64 63,
 X.t 64 65 (.fldAddr 2 (X.s 2)),
 X.t 64 66 (.load1 (X.s 65)),
 X.t 64 67 (.bin .lss (X.s 66) (.cst (.int .u64 1))),
 X.t 64 68 (.move (X.s 67)),
 X.f 68 69 (.fldAddr 2 (X.s 2)),
 X.f 68 70 (.load1 (X.s 69)),
 X.f 68 71 (.bin .gtr (X.s 70) (.cst (.int .u64 1099511627776))),
 X.t 64 72 (.pick (X.s 68) (.cst (.bool true)) (X.s 71)),
 X.o 73 (.pick (X.s 64) (X.s 72) (.cst (.bool false)))]
def C.catnapref4_clock_r10 : List IOper := C.catnapref4_clock_r10_b
def C.catnapref4_clock_r10_w := @aopsE _ _ C.catnapref4_clock_r10.eq_1
def C.catnapref4_clock_c10 : ICode := .keep [2] (.seq (.seq (.region C.catnapref4_clock_r10) C.catnapref4_clock_c9) C.catnapref4_clock_c7)
def C.catnapref4_clock_c10_w := @awpE _ _ C.catnapref4_clock_c10.eq_1
def C.catnapref4_clock_r7_b : List IOper := [
 X.m 51 7,
 X.o 52 (.bin .add (X.s 51) (X.i 1)),
 X.m 7 52]
def C.catnapref4_clock_r7 : List IOper := C.catnapref4_clock_r7_b
def C.catnapref4_clock_r7_w := @aopsE _ _ C.catnapref4_clock_r7.eq_1
def C.catnapref4_clock_c11 : ICode := .keep [1, 2, 5, 7] (.region C.catnapref4_clock_r7)
def C.catnapref4_clock_c11_w := @awpE _ _ C.catnapref4_clock_c11.eq_1
def C.catnapref4_clock_r9_b : List IOper := [
 X.o 4 (.move (X.i 4))]
def C.catnapref4_clock_r9 : List IOper := C.catnapref4_clock_r9_b
def C.catnapref4_clock_r9_w := @aopsE _ _ C.catnapref4_clock_r9.eq_1
def C.catnapref4_clock_c12 : ICode := .seq (.region C.catnapref4_clock_r9) .ret
def C.catnapref4_clock_c12_w := @awpE _ _ C.catnapref4_clock_c12.eq_1
def C.catnapref4_clock_c13 : ICode := .keep [1, 2, 5, 7, 60] (.cond (X.s 60) C.catnapref4_clock_c12 .skip)
def C.catnapref4_clock_c13_w := @awpE _ _ C.catnapref4_clock_c13.eq_1
def C.catnapref4_clock_r8_b : List IOper := [
 X.o 53 (.fldAddr 1 (X.s 2)),
 X.o 54 (.load1 (X.s 53)),
 X.m 55 7,
 X.o 56 (.idxAddr 1 (X.s 54) (X.s 55)),
 X.o 57 (.load1 (X.s 56)),
 X.m 58 1,
 X.o 59 (.call F.catnapref4_in [X.s 57, X.s 58]),
 X.o 60 (.un .not (X.s 59))]
def C.catnapref4_clock_r8 : List IOper := C.catnapref4_clock_r8_b
def C.catnapref4_clock_r8_w := @aopsE _ _ C.catnapref4_clock_r8.eq_1
def C.catnapref4_clock_b14 : ICode := .seq (.region C.catnapref4_clock_r8) C.catnapref4_clock_c13
def C.catnapref4_clock_b14_w := @awpE _ _ C.catnapref4_clock_b14.eq_1
def C.catnapref4_clock_c15 : ICode := .keep [1, 2, 5, 7] (.seq (.block 1 C.catnapref4_clock_b14) C.catnapref4_clock_c11)
def C.catnapref4_clock_c15_w := @awpE _ _ C.catnapref4_clock_c15.eq_1
def C.catnapref4_clock_c16 : ICode := .keep [1, 2, 5, 7, 50] (.cond (X.s 50) .skip (.exit 0))
def C.catnapref4_clock_c16_w := @awpE _ _ C.catnapref4_clock_c16.eq_1
def C.catnapref4_clock_r6_b : List IOper := [
 X.m 48 7,
 X.m 49 5,
 X.o 50 (.bin .lss (X.s 48) (X.s 49))]
def C.catnapref4_clock_r6 : List IOper := C.catnapref4_clock_r6_b
def C.catnapref4_clock_r6_w := @aopsE _ _ C.catnapref4_clock_r6.eq_1
def C.catnapref4_clock_l17 : ICode := .keep [1, 2, 5, 7] (.seq (.seq (.region C.catnapref4_clock_r6) C.catnapref4_clock_c16) C.catnapref4_clock_c15)
def C.catnapref4_clock_l17_w := @awpE _ _ C.catnapref4_clock_l17.eq_1
def C.catnapref4_clock_b18 : ICode := .loop C.catnapref4_clock_l17
def C.catnapref4_clock_b18_w := @awpE _ _ C.catnapref4_clock_b18.eq_1
def C.catnapref4_clock_c19 : ICode := .keep [1, 2, 5, 7] (.block 0 C.catnapref4_clock_b18)
def C.catnapref4_clock_c19_w := @awpE _ _ C.catnapref4_clock_c19.eq_1
def C.catnapref4_clock_r5_b : List IOper := [
 X.o 7 (.move (X.i 0))]
def C.catnapref4_clock_r5 : List IOper := C.catnapref4_clock_r5_b
def C.catnapref4_clock_r5_w := @aopsE _ _ C.catnapref4_clock_r5.eq_1
def C.catnapref4_clock_c20 : ICode := .keep [1, 2, 5] (.seq (.seq (.region C.catnapref4_clock_r5) C.catnapref4_clock_c19) C.catnapref4_clock_c10)
def C.catnapref4_clock_c20_w := @awpE _ _ C.catnapref4_clock_c20.eq_1
def C.catnapref4_clock_r4_b : List IOper := [
 X.o 4 (.move (X.i 1))]
def C.catnapref4_clock_r4 : List IOper := C.catnapref4_clock_r4_b
def C.catnapref4_clock_r4_w := @aopsE _ _ C.catnapref4_clock_r4.eq_1
def C.catnapref4_clock_c21 : ICode := .seq (.region C.catnapref4_clock_r4) .ret
def C.catnapref4_clock_c21_w := @awpE _ _ C.catnapref4_clock_c21.eq_1
def C.catnapref4_clock_c22 : ICode := .keep [1, 2, 5, 47] (.cond (X.s 47) C.catnapref4_clock_c21 .skip)
def C.catnapref4_clock_c22_w := @awpE _ _ C.catnapref4_clock_c22.eq_1
def C.catnapref4_clock_r3_b : List IOper := [
 X.m 46 6,
 X.o 47 (.un .not (X.s 46))]
def C.catnapref4_clock_r3 : List IOper := C.catnapref4_clock_r3_b
def C.catnapref4_clock_r3_w := @aopsE _ _ C.catnapref4_clock_r3.eq_1
def C.catnapref4_clock_c23 : ICode := .keep [1, 2, 5, 6] (.seq (.seq (.region C.catnapref4_clock_r3) C.catnapref4_clock_c22) C.catnapref4_clock_c20)
def C.catnapref4_clock_c23_w := @awpE _ _ C.catnapref4_clock_c23.eq_1
def C.catnapref4_clock_r2_b : List IOper := [
 X.o 11 (.fldAddr 0 (X.s 2)),
 X.o 12 (.load1 (X.s 11)),
 X.o 13 (.bin .eql (X.s 12) (.cst (.int .u8 111))),
 X.m 14 13,
 X.t 14 15 (.move (X.s 5)),
 X.t 14 16 (.bin .eql (X.s 15) (X.i 0)),
 X.o 17 (.pick (X.s 14) (X.s 16) (.cst (.bool false))),
 X.m 18 17,
 X.f 18 19 (.fldAddr 0 (X.s 2)),
 X.f 18 20 (.load1 (X.s 19)),
 X.f 18 21 (.bin .eql (X.s 20) (.cst (.int .u8 112))),
 X.f 18 22 (.move (X.s 21)),
 X.f 22 23 (.fldAddr 0 (X.s 2)),
 X.f 22 24 (.load1 (X.s 23)),
 X.f 22 25 (.bin .eql (X.s 24) (.cst (.int .u8 100))),
 X.f 18 26 (.pick (X.s 22) (.cst (.bool true)) (X.s 25)),
 X.f 18 27 (.move (X.s 26)),
 X.f 27 28 (.fldAddr 0 (X.s 2)),
 X.f 27 29 (.load1 (X.s 28)),
 X.f 27 30 (.bin .eql (X.s 29) (.cst (.int .u8 103))),
 X.f 18 31 (.pick (X.s 27) (.cst (.bool true)) (X.s 30)),
 X.f 18 32 (.move (X.s 31)),
 X.t 32 33 (.move (X.s 5)),
 X.t 32 34 (.bin .eql (X.s 33) (X.i 1)),
 X.f 18 35 (.pick (X.s 32) (X.s 34) (.cst (.bool false))),
 X.o 36 (.pick (X.s 18) (.cst (.bool true)) (X.s 35)),
 X.m 37 36,
 X.f 37 38 (.fldAddr 0 (X.s 2)),
 X.f 37 39 (.load1 (X.s 38)),
 X.f 37 40 (.bin .eql (X.s 39) (.cst (.int .u8 109))),
 X.f 37 41 (.move (X.s 40)),
 X.t 41 42 (.move (X.s 5)),
 X.t 41 43 (.call F.catnapref4_within [X.s 42, X.i 1, X.i 4]),
 X.f 37 44 (.pick (X.s 41) (X.s 43) (.cst (.bool false))),
 X.o 45 (.pick (X.s 37) (.cst (.bool true)) (X.s 44)),
 X.m 6 45]
def C.catnapref4_clock_r2 : List IOper := C.catnapref4_clock_r2_b
def C.catnapref4_clock_r2_w := @aopsE _ _ C.catnapref4_clock_r2.eq_1
def C.catnapref4_clock_c24 : ICode := .keep [1, 2, 5] (.seq (.region C.catnapref4_clock_r2) C.catnapref4_clock_c23)
def C.catnapref4_clock_c24_w := @awpE _ _ C.catnapref4_clock_c24.eq_1
def C.catnapref4_clock_r1_b : List IOper := [
 X.o 8 (.fldAddr 1 (X.s 2)),
 X.o 9 (.load1 (X.s 8)),
 X.o 10 (.len (X.s 9)),
 X.m 5 10]
def C.catnapref4_clock_r1 : List IOper := C.catnapref4_clock_r1_b
def C.catnapref4_clock_r1_w := @aopsE _ _ C.catnapref4_clock_r1.eq_1
def C.catnapref4_clock_c25 : ICode := .keep [1, 2] (.seq (.region C.catnapref4_clock_r1) C.catnapref4_clock_c24)
def C.catnapref4_clock_c25_w := @awpE _ _ C.catnapref4_clock_c25.eq_1
def C.catnapref4_clock_r0_b : List IOper := [
 X.o 2 (.boxN (X.s 0)),
 X.o 4 (.move (X.i 0))]
def C.catnapref4_clock_r0 : List IOper := C.catnapref4_clock_r0_b
def C.catnapref4_clock_r0_w := @aopsE _ _ C.catnapref4_clock_r0.eq_1
def C.catnapref4_clock : IFunc := ⟨2, [.slot 4], .seq (.region C.catnapref4_clock_r0) C.catnapref4_clock_c25⟩
def C.catnapref4_clock_W := And.intro (And.intro (And.intro (And.intro (And.intro @C.catnapref4_clock_r16_w @C.catnapref4_clock_c1_w) (And.intro @C.catnapref4_clock_r15_w (And.intro @C.catnapref4_clock_c2_w @C.catnapref4_clock_c3_w))) (And.intro (And.intro @C.catnapref4_clock_r14_w @C.catnapref4_clock_c4_w) (And.intro @C.catnapref4_clock_r13_w (And.intro @C.catnapref4_clock_c5_w @C.catnapref4_clock_c6_w)))) (And.intro (And.intro (And.intro @C.catnapref4_clock_r12_w @C.catnapref4_clock_c7_w) (And.intro @C.catnapref4_clock_r11_w (And.intro @C.catnapref4_clock_c8_w @C.catnapref4_clock_c9_w))) (And.intro (And.intro @C.catnapref4_clock_r10_w @C.catnapref4_clock_c10_w) (And.intro @C.catnapref4_clock_r7_w (And.intro @C.catnapref4_clock_c11_w @C.catnapref4_clock_r9_w))))) (And.intro (And.intro (And.intro (And.intro @C.catnapref4_clock_c12_w @C.catnapref4_clock_c13_w) (And.intro @C.catnapref4_clock_r8_w (And.intro @C.catnapref4_clock_b14_w @C.catnapref4_clock_c15_w))) (And.intro (And.intro @C.catnapref4_clock_c16_w @C.catnapref4_clock_r6_w) (And.intro @C.catnapref4_clock_b18_w (And.intro @C.catnapref4_clock_c19_w @C.catnapref4_clock_r5_w)))) (And.intro (And.intro (And.intro @C.catnapref4_clock_c20_w @C.catnapref4_clock_r4_w) (And.intro @C.catnapref4_clock_c21_w (And.intro @C.catnapref4_clock_c22_w @C.catnapref4_clock_r3_w))) (And.intro (And.intro @C.catnapref4_clock_c23_w (And.intro @C.catnapref4_clock_r2_w @C.catnapref4_clock_c24_w)) (And.intro @C.catnapref4_clock_r1_w (And.intro @C.catnapref4_clock_c25_w @C.catnapref4_clock_r0_w)))))
def C.catnapref4_clock_B := And.intro (And.intro (And.intro (And.intro @C.catnapref4_clock_r16_b.eq_1 @C.catnapref4_clock_r15_b.eq_1) (And.intro @C.catnapref4_clock_r14_b.eq_1 @C.catnapref4_clock_r13_b.eq_1)) (And.intro (And.intro @C.catnapref4_clock_r12_b.eq_1 @C.catnapref4_clock_r11_b.eq_1) (And.intro @C.catnapref4_clock_r10_b.eq_1 @C.catnapref4_clock_r7_b.eq_1))) (And.intro (And.intro (And.intro @C.catnapref4_clock_r9_b.eq_1 @C.catnapref4_clock_r8_b.eq_1) (And.intro @C.catnapref4_clock_r6_b.eq_1 @C.catnapref4_clock_r5_b.eq_1)) (And.intro (And.intro @C.catnapref4_clock_r4_b.eq_1 @C.catnapref4_clock_r3_b.eq_1) (And.intro @C.catnapref4_clock_r2_b.eq_1 (And.intro @C.catnapref4_clock_r1_b.eq_1 @C.catnapref4_clock_r0_b.eq_1))))

def C.catnapref3_Check_r13_b : List IOper := [
 X.o 2 (.move (X.i 0))]
def C.catnapref3_Check_r13 : List IOper := C.catnapref3_Check_r13_b
def C.catnapref3_Check_r13_w := @aopsE _ _ C.catnapref3_Check_r13.eq_1
def C.catnapref3_Check_c1 : ICode := .keep [] (.seq (.region C.catnapref3_Check_r13) .ret)
def C.catnapref3_Check_c1_w := @awpE _ _ C.catnapref3_Check_c1.eq_1
def C.catnapref3_Check_r12_b : List IOper := [
 X.o 2 (.move (X.i 5))]
def C.catnapref3_Check_r12 : List IOper := C.catnapref3_Check_r12_b
def C.catnapref3_Check_r12_w := @aopsE _ _ C.catnapref3_Check_r12.eq_1
def C.catnapref3_Check_c2 : ICode := .seq (.region C.catnapref3_Check_r12) .ret
def C.catnapref3_Check_c2_w := @awpE _ _ C.catnapref3_Check_c2.eq_1
def C.catnapref3_Check_c3 : ICode := .keep [48] (.cond (X.s 48) C.catnapref3_Check_c2 .skip)
def C.catnapref3_Check_c3_w := @awpE _ _ C.catnapref3_Check_c3.eq_1
def C.catnapref3_Check_r11_b : List IOper := [
 X.m 43 0,
 X.o 44 (.call F.catnapref3_order [X.s 43]),
 X.o 45 (.len (X.s 44)),
 X.m 46 0,
 X.o 47 (.len (X.s 46)),
 X.o 48 (.bin .lss (X.s 45) (X.s 47))]
def C.catnapref3_Check_r11 : List IOper := C.catnapref3_Check_r11_b
def C.catnapref3_Check_r11_w := @aopsE _ _ C.catnapref3_Check_r11.eq_1
def C.catnapref3_Check_c4 : ICode := .keep [0] (.seq (.seq (.region C.catnapref3_Check_r11) C.catnapref3_Check_c3) C.catnapref3_Check_c1)
def C.catnapref3_Check_c4_w := @awpE _ _ C.catnapref3_Check_c4.eq_1
def C.catnapref3_Check_r5_b : List IOper := [
 X.m 12 3,
 X.o 13 (.bin .add (X.s 12) (X.i 1)),
 X.m 3 13]
def C.catnapref3_Check_r5 : List IOper := C.catnapref3_Check_r5_b
def C.catnapref3_Check_r5_w := @aopsE _ _ C.catnapref3_Check_r5.eq_1
def C.catnapref3_Check_c5 : ICode := .keep [0, 3] (.region C.catnapref3_Check_r5)
def C.catnapref3_Check_c5_w := @awpE _ _ C.catnapref3_Check_c5.eq_1
def C.catnapref3_Check_r8_b : List IOper := [
 X.m 21 4,
 X.o 22 (.bin .add (X.s 21) (X.i 1)),
 X.m 4 22]
def C.catnapref3_Check_r8 : List IOper := C.catnapref3_Check_r8_b
def C.catnapref3_Check_r8_w := @aopsE _ _ C.catnapref3_Check_r8.eq_1
def C.catnapref3_Check_c6 : ICode := .keep [0, 3, 4] (.region C.catnapref3_Check_r8)
def C.catnapref3_Check_c6_w := @awpE _ _ C.catnapref3_Check_c6.eq_1
def C.catnapref3_Check_r10_b : List IOper := [
 X.o 2 (.move (X.i 4))]
def C.catnapref3_Check_r10 : List IOper := C.catnapref3_Check_r10_b
def C.catnapref3_Check_r10_w := @aopsE _ _ C.catnapref3_Check_r10.eq_1
def C.catnapref3_Check_c7 : ICode := .seq (.region C.catnapref3_Check_r10) .ret
def C.catnapref3_Check_c7_w := @awpE _ _ C.catnapref3_Check_c7.eq_1
def C.catnapref3_Check_c8 : ICode := .keep [0, 3, 4, 42] (.cond (X.s 42) C.catnapref3_Check_c7 .skip)
def C.catnapref3_Check_c8_w := @awpE _ _ C.catnapref3_Check_c8.eq_1
def C.catnapref3_Check_r9_b : List IOper := [
 X.m 23 0,
 X.m 24 3,
 X.o 25 (.idxAddr 1 (X.s 23) (X.s 24)),
 X.o 26 (.load1 (X.s 25)),
 X.m 27 4,
 X.o 28 (.idxAddr 1 (X.s 26) (X.s 27)),
 X.o 29 (.load1 (X.s 28)),
 X.o 30 (.bin .lss (X.s 29) (X.i 0)),
 X.m 31 30,
 X.f 31 32 (.move (X.s 0)),
 X.f 31 33 (.move (X.s 3)),
 X.f 31 34 (.idxAddr 1 (X.s 32) (X.s 33)),
 X.f 31 35 (.load1 (X.s 34)),
 X.f 31 36 (.move (X.s 4)),
 X.f 31 37 (.idxAddr 1 (X.s 35) (X.s 36)),
 X.f 31 38 (.load1 (X.s 37)),
 X.f 31 39 (.move (X.s 0)),
 X.f 31 40 (.len (X.s 39)),
 X.f 31 41 (.bin .geq (X.s 38) (X.s 40)),
 X.o 42 (.pick (X.s 31) (.cst (.bool true)) (X.s 41))]
def C.catnapref3_Check_r9 : List IOper := C.catnapref3_Check_r9_b
def C.catnapref3_Check_r9_w := @aopsE _ _ C.catnapref3_Check_r9.eq_1
def C.catnapref3_Check_b9 : ICode := .seq (.region C.catnapref3_Check_r9) C.catnapref3_Check_c8
def C.catnapref3_Check_b9_w := @awpE _ _ C.catnapref3_Check_b9.eq_1
def C.catnapref3_Check_c10 : ICode := .keep [0, 3, 4] (.seq (.block 3 C.catnapref3_Check_b9) C.catnapref3_Check_c6)
def C.catnapref3_Check_c10_w := @awpE _ _ C.catnapref3_Check_c10.eq_1
def C.catnapref3_Check_c11 : ICode := .keep [0, 3, 4, 20] (.cond (X.s 20) .skip (.exit 2))
def C.catnapref3_Check_c11_w := @awpE _ _ C.catnapref3_Check_c11.eq_1
def C.catnapref3_Check_r7_b : List IOper := [
 X.m 14 4,
 X.m 15 0,
 X.m 16 3,
 X.o 17 (.idxAddr 1 (X.s 15) (X.s 16)),
 X.o 18 (.load1 (X.s 17)),
 X.o 19 (.len (X.s 18)),
 X.o 20 (.bin .lss (X.s 14) (X.s 19))]
def C.catnapref3_Check_r7 : List IOper := C.catnapref3_Check_r7_b
def C.catnapref3_Check_r7_w := @aopsE _ _ C.catnapref3_Check_r7.eq_1
def C.catnapref3_Check_l12 : ICode := .keep [0, 3, 4] (.seq (.seq (.region C.catnapref3_Check_r7) C.catnapref3_Check_c11) C.catnapref3_Check_c10)
def C.catnapref3_Check_l12_w := @awpE _ _ C.catnapref3_Check_l12.eq_1
def C.catnapref3_Check_b13 : ICode := .loop C.catnapref3_Check_l12
def C.catnapref3_Check_b13_w := @awpE _ _ C.catnapref3_Check_b13.eq_1
def C.catnapref3_Check_c14 : ICode := .keep [0, 3, 4] (.block 2 C.catnapref3_Check_b13)
def C.catnapref3_Check_c14_w := @awpE _ _ C.catnapref3_Check_c14.eq_1
def C.catnapref3_Check_r6_b : List IOper := [
 X.o 4 (.move (X.i 0))]
def C.catnapref3_Check_r6 : List IOper := C.catnapref3_Check_r6_b
def C.catnapref3_Check_r6_w := @aopsE _ _ C.catnapref3_Check_r6.eq_1
def C.catnapref3_Check_b15 : ICode := .seq (.region C.catnapref3_Check_r6) C.catnapref3_Check_c14
def C.catnapref3_Check_b15_w := @awpE _ _ C.catnapref3_Check_b15.eq_1
def C.catnapref3_Check_c16 : ICode := .keep [0, 3] (.seq (.block 1 C.catnapref3_Check_b15) C.catnapref3_Check_c5)
def C.catnapref3_Check_c16_w := @awpE _ _ C.catnapref3_Check_c16.eq_1
def C.catnapref3_Check_c17 : ICode := .keep [0, 3, 11] (.cond (X.s 11) .skip (.exit 0))
def C.catnapref3_Check_c17_w := @awpE _ _ C.catnapref3_Check_c17.eq_1
def C.catnapref3_Check_r4_b : List IOper := [
 X.m 8 3,
 X.m 9 0,
 X.o 10 (.len (X.s 9)),
 X.o 11 (.bin .lss (X.s 8) (X.s 10))]
def C.catnapref3_Check_r4 : List IOper := C.catnapref3_Check_r4_b
def C.catnapref3_Check_r4_w := @aopsE _ _ C.catnapref3_Check_r4.eq_1
def C.catnapref3_Check_l18 : ICode := .keep [0, 3] (.seq (.seq (.region C.catnapref3_Check_r4) C.catnapref3_Check_c17) C.catnapref3_Check_c16)
def C.catnapref3_Check_l18_w := @awpE _ _ C.catnapref3_Check_l18.eq_1
def C.catnapref3_Check_b19 : ICode := .loop C.catnapref3_Check_l18
def C.catnapref3_Check_b19_w := @awpE _ _ C.catnapref3_Check_b19.eq_1
def C.catnapref3_Check_c20 : ICode := .keep [0, 3] (.block 0 C.catnapref3_Check_b19)
def C.catnapref3_Check_c20_w := @awpE _ _ C.catnapref3_Check_c20.eq_1
def C.catnapref3_Check_r3_b : List IOper := [
 X.o 3 (.move (X.i 0))]
def C.catnapref3_Check_r3 : List IOper := C.catnapref3_Check_r3_b
def C.catnapref3_Check_r3_w := @aopsE _ _ C.catnapref3_Check_r3.eq_1
def C.catnapref3_Check_c21 : ICode := .keep [0] (.seq (.seq (.region C.catnapref3_Check_r3) C.catnapref3_Check_c20) C.catnapref3_Check_c4)
def C.catnapref3_Check_c21_w := @awpE _ _ C.catnapref3_Check_c21.eq_1
def C.catnapref3_Check_r2_b : List IOper := [
 X.o 2 (.move (X.i 1))]
def C.catnapref3_Check_r2 : List IOper := C.catnapref3_Check_r2_b
def C.catnapref3_Check_r2_w := @aopsE _ _ C.catnapref3_Check_r2.eq_1
def C.catnapref3_Check_c22 : ICode := .seq (.region C.catnapref3_Check_r2) .ret
def C.catnapref3_Check_c22_w := @awpE _ _ C.catnapref3_Check_c22.eq_1
def C.catnapref3_Check_c23 : ICode := .keep [0, 7] (.cond (X.s 7) C.catnapref3_Check_c22 .skip)
def C.catnapref3_Check_c23_w := @awpE _ _ C.catnapref3_Check_c23.eq_1
def C.catnapref3_Check_r1_b : List IOper := [
 X.m 5 0,
 X.o 6 (.len (X.s 5)),
 X.o 7 (.bin .gtr (X.s 6) (X.i 100))]
def C.catnapref3_Check_r1 : List IOper := C.catnapref3_Check_r1_b
def C.catnapref3_Check_r1_w := @aopsE _ _ C.catnapref3_Check_r1.eq_1
def C.catnapref3_Check_c24 : ICode := .keep [0] (.seq (.seq (.region C.catnapref3_Check_r1) C.catnapref3_Check_c23) C.catnapref3_Check_c21)
def C.catnapref3_Check_c24_w := @awpE _ _ C.catnapref3_Check_c24.eq_1
def C.catnapref3_Check_r0_b : List IOper := [
 X.o 2 (.move (X.i 0))]
def C.catnapref3_Check_r0 : List IOper := C.catnapref3_Check_r0_b
def C.catnapref3_Check_r0_w := @aopsE _ _ C.catnapref3_Check_r0.eq_1
def C.catnapref3_Check : IFunc := ⟨1, [.slot 2], .seq (.region C.catnapref3_Check_r0) C.catnapref3_Check_c24⟩
def C.catnapref3_Check_W := And.intro (And.intro (And.intro (And.intro (And.intro @C.catnapref3_Check_r13_w @C.catnapref3_Check_c1_w) (And.intro @C.catnapref3_Check_r12_w @C.catnapref3_Check_c2_w)) (And.intro (And.intro @C.catnapref3_Check_c3_w @C.catnapref3_Check_r11_w) (And.intro @C.catnapref3_Check_c4_w (And.intro @C.catnapref3_Check_r5_w @C.catnapref3_Check_c5_w)))) (And.intro (And.intro (And.intro @C.catnapref3_Check_r8_w @C.catnapref3_Check_c6_w) (And.intro @C.catnapref3_Check_r10_w @C.catnapref3_Check_c7_w)) (And.intro (And.intro @C.catnapref3_Check_c8_w @C.catnapref3_Check_r9_w) (And.intro @C.catnapref3_Check_b9_w (And.intro @C.catnapref3_Check_c10_w @C.catnapref3_Check_c11_w))))) (And.intro (And.intro (And.intro (And.intro @C.catnapref3_Check_r7_w @C.catnapref3_Check_b13_w) (And.intro @C.catnapref3_Check_c14_w @C.catnapref3_Check_r6_w)) (And.intro (And.intro @C.catnapref3_Check_b15_w @C.catnapref3_Check_c16_w) (And.intro @C.catnapref3_Check_c17_w (And.intro @C.catnapref3_Check_r4_w @C.catnapref3_Check_b19_w)))) (And.intro (And.intro (And.intro @C.catnapref3_Check_c20_w @C.catnapref3_Check_r3_w) (And.intro @C.catnapref3_Check_c21_w @C.catnapref3_Check_r2_w)) (And.intro (And.intro @C.catnapref3_Check_c22_w @C.catnapref3_Check_c23_w) (And.intro @C.catnapref3_Check_r1_w (And.intro @C.catnapref3_Check_c24_w @C.catnapref3_Check_r0_w)))))
def C.catnapref3_Check_B := And.intro (And.intro (And.intro @C.catnapref3_Check_r13_b.eq_1 (And.intro @C.catnapref3_Check_r12_b.eq_1 @C.catnapref3_Check_r11_b.eq_1)) (And.intro (And.intro @C.catnapref3_Check_r5_b.eq_1 @C.catnapref3_Check_r8_b.eq_1) (And.intro @C.catnapref3_Check_r10_b.eq_1 @C.catnapref3_Check_r9_b.eq_1))) (And.intro (And.intro @C.catnapref3_Check_r7_b.eq_1 (And.intro @C.catnapref3_Check_r6_b.eq_1 @C.catnapref3_Check_r4_b.eq_1)) (And.intro (And.intro @C.catnapref3_Check_r3_b.eq_1 @C.catnapref3_Check_r2_b.eq_1) (And.intro @C.catnapref3_Check_r1_b.eq_1 @C.catnapref3_Check_r0_b.eq_1)))

def C.catnapref4_Clocks_r6_b : List IOper := [
 X.m 23 3,
 X.m 2 23]
def C.catnapref4_Clocks_r6 : List IOper := C.catnapref4_Clocks_r6_b
def C.catnapref4_Clocks_r6_w := @aopsE _ _ C.catnapref4_Clocks_r6.eq_1
def C.catnapref4_Clocks_c1 : ICode := .keep [3] (.seq (.region C.catnapref4_Clocks_r6) .ret)
def C.catnapref4_Clocks_c1_w := @awpE _ _ C.catnapref4_Clocks_c1.eq_1
def C.catnapref4_Clocks_r4_b : List IOper := [
 X.m 10 4,
 X.o 11 (.bin .add (X.s 10) (X.i 1)),
 X.m 4 11]
def C.catnapref4_Clocks_r4 : List IOper := C.catnapref4_Clocks_r4_b
def C.catnapref4_Clocks_r4_w := @aopsE _ _ C.catnapref4_Clocks_r4.eq_1
def C.catnapref4_Clocks_c2 : ICode := .keep [1, 3, 4] (.region C.catnapref4_Clocks_r4)
def C.catnapref4_Clocks_c2_w := @awpE _ _ C.catnapref4_Clocks_c2.eq_1
def C.catnapref4_Clocks_r5_b : List IOper := [
 X.m 12 3,
 X.o 13 (.buildSlice 1 0 [.int .i64 0] []),
 X.o 14 (.fldAddr 0 (X.s 1)),
 X.o 15 (.load1 (X.s 14)),
 X.m 16 4,
 X.o 17 (.idxAddr 6 (X.s 15) (X.s 16)),
 X.o 18 (.fldAddr 1 (X.s 17)),
 X.o 19 (.load1 (X.s 18)),
 X.o 20 (.append 1 8 (X.s 13) (X.s 19)),
 X.o 21 (.buildSlice 1 1 [.nils] [(0, 1, X.s 20)]),
 X.o 22 (.append 1 24 (X.s 12) (X.s 21)),
 X.m 3 22]
def C.catnapref4_Clocks_r5 : List IOper := C.catnapref4_Clocks_r5_b
def C.catnapref4_Clocks_r5_w := @aopsE _ _ C.catnapref4_Clocks_r5.eq_1
def C.catnapref4_Clocks_b3 : ICode := .region C.catnapref4_Clocks_r5
def C.catnapref4_Clocks_b3_w := @awpE _ _ C.catnapref4_Clocks_b3.eq_1
def C.catnapref4_Clocks_c4 : ICode := .keep [1, 3, 4] (.seq (.block 1 C.catnapref4_Clocks_b3) C.catnapref4_Clocks_c2)
def C.catnapref4_Clocks_c4_w := @awpE _ _ C.catnapref4_Clocks_c4.eq_1
def C.catnapref4_Clocks_c5 : ICode := .keep [1, 3, 4, 9] (.cond (X.s 9) .skip (.exit 0))
def C.catnapref4_Clocks_c5_w := @awpE _ _ C.catnapref4_Clocks_c5.eq_1
def C.catnapref4_Clocks_r3_b : List IOper := [
 X.m 5 4,
 X.o 6 (.fldAddr 0 (X.s 1)),
 X.o 7 (.load1 (X.s 6)),
 X.o 8 (.len (X.s 7)),
 X.o 9 (.bin .lss (X.s 5) (X.s 8))]
def C.catnapref4_Clocks_r3 : List IOper := C.catnapref4_Clocks_r3_b
def C.catnapref4_Clocks_r3_w := @aopsE _ _ C.catnapref4_Clocks_r3.eq_1
def C.catnapref4_Clocks_l6 : ICode := .keep [1, 3, 4] (.seq (.seq (.region C.catnapref4_Clocks_r3) C.catnapref4_Clocks_c5) C.catnapref4_Clocks_c4)
def C.catnapref4_Clocks_l6_w := @awpE _ _ C.catnapref4_Clocks_l6.eq_1
def C.catnapref4_Clocks_b7 : ICode := .loop C.catnapref4_Clocks_l6
def C.catnapref4_Clocks_b7_w := @awpE _ _ C.catnapref4_Clocks_b7.eq_1
def C.catnapref4_Clocks_c8 : ICode := .keep [1, 3, 4] (.block 0 C.catnapref4_Clocks_b7)
def C.catnapref4_Clocks_c8_w := @awpE _ _ C.catnapref4_Clocks_c8.eq_1
def C.catnapref4_Clocks_r2_b : List IOper := [
 X.o 4 (.move (X.i 0))]
def C.catnapref4_Clocks_r2 : List IOper := C.catnapref4_Clocks_r2_b
def C.catnapref4_Clocks_r2_w := @aopsE _ _ C.catnapref4_Clocks_r2.eq_1
def C.catnapref4_Clocks_c9 : ICode := .keep [1, 3] (.seq (.seq (.region C.catnapref4_Clocks_r2) C.catnapref4_Clocks_c8) C.catnapref4_Clocks_c1)
def C.catnapref4_Clocks_c9_w := @awpE _ _ C.catnapref4_Clocks_c9.eq_1
def C.catnapref4_Clocks_r1_b : List IOper := [
 X.o 3 (.move (.cst (.nils)))]
def C.catnapref4_Clocks_r1 : List IOper := C.catnapref4_Clocks_r1_b
def C.catnapref4_Clocks_r1_w := @aopsE _ _ C.catnapref4_Clocks_r1.eq_1
def C.catnapref4_Clocks_c10 : ICode := .keep [1] (.seq (.region C.catnapref4_Clocks_r1) C.catnapref4_Clocks_c9)
def C.catnapref4_Clocks_c10_w := @awpE _ _ C.catnapref4_Clocks_c10.eq_1
def C.catnapref4_Clocks_r0_b : List IOper := [
 X.o 1 (.boxN (X.s 0)),
 X.o 2 (.move (.cst (.nils)))]
def C.catnapref4_Clocks_r0 : List IOper := C.catnapref4_Clocks_r0_b
def C.catnapref4_Clocks_r0_w := @aopsE _ _ C.catnapref4_Clocks_r0.eq_1
def C.catnapref4_Clocks : IFunc := ⟨1, [.slot 2], .seq (.region C.catnapref4_Clocks_r0) C.catnapref4_Clocks_c10⟩
def C.catnapref4_Clocks_W := And.intro (And.intro (And.intro (And.intro @C.catnapref4_Clocks_r6_w @C.catnapref4_Clocks_c1_w) (And.intro @C.catnapref4_Clocks_r4_w @C.catnapref4_Clocks_c2_w)) (And.intro (And.intro @C.catnapref4_Clocks_r5_w @C.catnapref4_Clocks_b3_w) (And.intro @C.catnapref4_Clocks_c4_w @C.catnapref4_Clocks_c5_w))) (And.intro (And.intro (And.intro @C.catnapref4_Clocks_r3_w @C.catnapref4_Clocks_b7_w) (And.intro @C.catnapref4_Clocks_c8_w @C.catnapref4_Clocks_r2_w)) (And.intro (And.intro @C.catnapref4_Clocks_c9_w @C.catnapref4_Clocks_r1_w) (And.intro @C.catnapref4_Clocks_c10_w @C.catnapref4_Clocks_r0_w)))
def C.catnapref4_Clocks_B := And.intro (And.intro @C.catnapref4_Clocks_r6_b.eq_1 (And.intro @C.catnapref4_Clocks_r4_b.eq_1 @C.catnapref4_Clocks_r5_b.eq_1)) (And.intro (And.intro @C.catnapref4_Clocks_r3_b.eq_1 @C.catnapref4_Clocks_r2_b.eq_1) (And.intro @C.catnapref4_Clocks_r1_b.eq_1 @C.catnapref4_Clocks_r0_b.eq_1))

def C.catnapref4_in_r1_b : List IOper := [
 X.m 5 0,
 X.o 6 (.bin .geq (X.s 5) (X.i 0)),
 X.m 7 6,
 X.t 7 8 (.move (X.s 0)),
 X.t 7 9 (.move (X.s 1)),
 X.t 7 10 (.bin .lss (X.s 8) (X.s 9)),
 X.o 11 (.pick (X.s 7) (X.s 10) (.cst (.bool false))),
 X.m 4 11]
def C.catnapref4_in_r1 : List IOper := C.catnapref4_in_r1_b
def C.catnapref4_in_r1_w := @aopsE _ _ C.catnapref4_in_r1.eq_1
def C.catnapref4_in_c1 : ICode := .keep [0, 1] (.seq (.region C.catnapref4_in_r1) .ret)
def C.catnapref4_in_c1_w := @awpE _ _ C.catnapref4_in_c1.eq_1
def C.catnapref4_in_r0_b : List IOper := [
 X.o 4 (.move (.cst (.bool false)))]
def C.catnapref4_in_r0 : List IOper := C.catnapref4_in_r0_b
def C.catnapref4_in_r0_w := @aopsE _ _ C.catnapref4_in_r0.eq_1
def C.catnapref4_in : IFunc := ⟨2, [.slot 4], .seq (.region C.catnapref4_in_r0) C.catnapref4_in_c1⟩
def C.catnapref4_in_W := And.intro @C.catnapref4_in_r1_w (And.intro @C.catnapref4_in_c1_w @C.catnapref4_in_r0_w)
def C.catnapref4_in_B := And.intro @C.catnapref4_in_r1_b.eq_1 @C.catnapref4_in_r0_b.eq_1

def C.catnapref4_Domains_r9_b : List IOper := [
 X.m 33 3,
 X.m 2 33]
def C.catnapref4_Domains_r9 : List IOper := C.catnapref4_Domains_r9_b
def C.catnapref4_Domains_r9_w := @aopsE _ _ C.catnapref4_Domains_r9.eq_1
def C.catnapref4_Domains_c1 : ICode := .keep [3] (.seq (.region C.catnapref4_Domains_r9) .ret)
def C.catnapref4_Domains_c1_w := @awpE _ _ C.catnapref4_Domains_c1.eq_1
def C.catnapref4_Domains_r4_b : List IOper := [
 X.m 11 4,
 X.o 12 (.bin .add (X.s 11) (X.i 1)),
 X.m 4 12]
def C.catnapref4_Domains_r4 : List IOper := C.catnapref4_Domains_r4_b
def C.catnapref4_Domains_r4_w := @aopsE _ _ C.catnapref4_Domains_r4.eq_1
def C.catnapref4_Domains_c2 : ICode := .keep [1, 3, 4] (.region C.catnapref4_Domains_r4)
def C.catnapref4_Domains_c2_w := @awpE _ _ C.catnapref4_Domains_c2.eq_1
def C.catnapref4_Domains_r8_b : List IOper := [
 X.m 29 3,
 X.m 30 5,
 X.o 31 (.buildSlice 1 1 [.nils] [(0, 1, X.s 30)]),
 X.o 32 (.append 1 24 (X.s 29) (X.s 31)),
 X.m 3 32]
def C.catnapref4_Domains_r8 : List IOper := C.catnapref4_Domains_r8_b
def C.catnapref4_Domains_r8_w := @aopsE _ _ C.catnapref4_Domains_r8.eq_1
def C.catnapref4_Domains_c3 : ICode := .keep [1, 3, 4, 5] (.region C.catnapref4_Domains_r8)
def C.catnapref4_Domains_c3_w := @awpE _ _ C.catnapref4_Domains_c3.eq_1
def C.catnapref4_Domains_r7_b : List IOper := [
 X.m 20 5,
 X.o 21 (.fldAddr 1 (X.s 1)),
 X.o 22 (.load1 (X.s 21)),
 X.m 23 4,
 X.o 24 (.idxAddr 3 (X.s 22) (X.s 23)),
 X.o 25 (.fldAddr 0 (X.s 24)),
 X.o 26 (.load1 (X.s 25)),
 X.o 27 (.buildSlice 1 1 [.int .i64 0] [(0, 1, X.s 26)]),
 X.o 28 (.append 1 8 (X.s 20) (X.s 27)),
 X.m 5 28]
def C.catnapref4_Domains_r7 : List IOper := C.catnapref4_Domains_r7_b
def C.catnapref4_Domains_r7_w := @aopsE _ _ C.catnapref4_Domains_r7.eq_1
def C.catnapref4_Domains_c4 : ICode := .region C.catnapref4_Domains_r7
def C.catnapref4_Domains_c4_w := @awpE _ _ C.catnapref4_Domains_c4.eq_1
def C.catnapref4_Domains_c5 : ICode := .keep [1, 3, 4, 5, 19] (.cond (X.s 19) C.catnapref4_Domains_c4 .skip)
def C.catnapref4_Domains_c5_w := @awpE _ _ C.catnapref4_Domains_c5.eq_1
def C.catnapref4_Domains_r6_b : List IOper := [
 X.o 13 (.fldAddr 1 (X.s 1)),
 X.o 14 (.load1 (X.s 13)),
 X.m 15 4,
 X.o 16 (.idxAddr 3 (X.s 14) (X.s 15)),
 X.o 17 (.fldAddr 0 (X.s 16)),
 X.o 18 (.load1 (X.s 17)),
 X.o 19 (.bin .neq (X.s 18) (X.i (-1)))]
def C.catnapref4_Domains_r6 : List IOper := C.catnapref4_Domains_r6_b
def C.catnapref4_Domains_r6_w := @aopsE _ _ C.catnapref4_Domains_r6.eq_1
def C.catnapref4_Domains_c6 : ICode := .keep [1, 3, 4, 5] (.seq (.seq (.region C.catnapref4_Domains_r6) C.catnapref4_Domains_c5) C.catnapref4_Domains_c3)
def C.catnapref4_Domains_c6_w := @awpE _ _ C.catnapref4_Domains_c6.eq_1
def C.catnapref4_Domains_r5_b : List IOper := [
 X.o 5 (.move (.cst (.nils)))]
def C.catnapref4_Domains_r5 : List IOper := C.catnapref4_Domains_r5_b
def C.catnapref4_Domains_r5_w := @aopsE _ _ C.catnapref4_Domains_r5.eq_1
def C.catnapref4_Domains_b7 : ICode := .seq (.region C.catnapref4_Domains_r5) C.catnapref4_Domains_c6
def C.catnapref4_Domains_b7_w := @awpE _ _ C.catnapref4_Domains_b7.eq_1
def C.catnapref4_Domains_c8 : ICode := .keep [1, 3, 4] (.seq (.block 1 C.catnapref4_Domains_b7) C.catnapref4_Domains_c2)
def C.catnapref4_Domains_c8_w := @awpE _ _ C.catnapref4_Domains_c8.eq_1
def C.catnapref4_Domains_c9 : ICode := .keep [1, 3, 4, 10] (.cond (X.s 10) .skip (.exit 0))
def C.catnapref4_Domains_c9_w := @awpE _ _ C.catnapref4_Domains_c9.eq_1
def C.catnapref4_Domains_r3_b : List IOper := [
 X.m 6 4,
 X.o 7 (.fldAddr 1 (X.s 1)),
 X.o 8 (.load1 (X.s 7)),
 X.o 9 (.len (X.s 8)),
 X.o 10 (.bin .lss (X.s 6) (X.s 9))]
def C.catnapref4_Domains_r3 : List IOper := C.catnapref4_Domains_r3_b
def C.catnapref4_Domains_r3_w := @aopsE _ _ C.catnapref4_Domains_r3.eq_1
def C.catnapref4_Domains_l10 : ICode := .keep [1, 3, 4] (.seq (.seq (.region C.catnapref4_Domains_r3) C.catnapref4_Domains_c9) C.catnapref4_Domains_c8)
def C.catnapref4_Domains_l10_w := @awpE _ _ C.catnapref4_Domains_l10.eq_1
def C.catnapref4_Domains_b11 : ICode := .loop C.catnapref4_Domains_l10
def C.catnapref4_Domains_b11_w := @awpE _ _ C.catnapref4_Domains_b11.eq_1
def C.catnapref4_Domains_c12 : ICode := .keep [1, 3, 4] (.block 0 C.catnapref4_Domains_b11)
def C.catnapref4_Domains_c12_w := @awpE _ _ C.catnapref4_Domains_c12.eq_1
def C.catnapref4_Domains_r2_b : List IOper := [
 X.o 4 (.move (X.i 0))]
def C.catnapref4_Domains_r2 : List IOper := C.catnapref4_Domains_r2_b
def C.catnapref4_Domains_r2_w := @aopsE _ _ C.catnapref4_Domains_r2.eq_1
def C.catnapref4_Domains_c13 : ICode := .keep [1, 3] (.seq (.seq (.region C.catnapref4_Domains_r2) C.catnapref4_Domains_c12) C.catnapref4_Domains_c1)
def C.catnapref4_Domains_c13_w := @awpE _ _ C.catnapref4_Domains_c13.eq_1
def C.catnapref4_Domains_r1_b : List IOper := [
 X.o 3 (.move (.cst (.nils)))]
def C.catnapref4_Domains_r1 : List IOper := C.catnapref4_Domains_r1_b
def C.catnapref4_Domains_r1_w := @aopsE _ _ C.catnapref4_Domains_r1.eq_1
def C.catnapref4_Domains_c14 : ICode := .keep [1] (.seq (.region C.catnapref4_Domains_r1) C.catnapref4_Domains_c13)
def C.catnapref4_Domains_c14_w := @awpE _ _ C.catnapref4_Domains_c14.eq_1
def C.catnapref4_Domains_r0_b : List IOper := [
 X.o 1 (.boxN (X.s 0)),
 X.o 2 (.move (.cst (.nils)))]
def C.catnapref4_Domains_r0 : List IOper := C.catnapref4_Domains_r0_b
def C.catnapref4_Domains_r0_w := @aopsE _ _ C.catnapref4_Domains_r0.eq_1
def C.catnapref4_Domains : IFunc := ⟨1, [.slot 2], .seq (.region C.catnapref4_Domains_r0) C.catnapref4_Domains_c14⟩
def C.catnapref4_Domains_W := And.intro (And.intro (And.intro (And.intro @C.catnapref4_Domains_r9_w @C.catnapref4_Domains_c1_w) (And.intro @C.catnapref4_Domains_r4_w (And.intro @C.catnapref4_Domains_c2_w @C.catnapref4_Domains_r8_w))) (And.intro (And.intro @C.catnapref4_Domains_c3_w (And.intro @C.catnapref4_Domains_r7_w @C.catnapref4_Domains_c4_w)) (And.intro @C.catnapref4_Domains_c5_w (And.intro @C.catnapref4_Domains_r6_w @C.catnapref4_Domains_c6_w)))) (And.intro (And.intro (And.intro @C.catnapref4_Domains_r5_w (And.intro @C.catnapref4_Domains_b7_w @C.catnapref4_Domains_c8_w)) (And.intro @C.catnapref4_Domains_c9_w (And.intro @C.catnapref4_Domains_r3_w @C.catnapref4_Domains_b11_w))) (And.intro (And.intro @C.catnapref4_Domains_c12_w (And.intro @C.catnapref4_Domains_r2_w @C.catnapref4_Domains_c13_w)) (And.intro @C.catnapref4_Domains_r1_w (And.intro @C.catnapref4_Domains_c14_w @C.catnapref4_Domains_r0_w))))
def C.catnapref4_Domains_B := And.intro (And.intro (And.intro @C.catnapref4_Domains_r9_b.eq_1 @C.catnapref4_Domains_r4_b.eq_1) (And.intro @C.catnapref4_Domains_r8_b.eq_1 (And.intro @C.catnapref4_Domains_r7_b.eq_1 @C.catnapref4_Domains_r6_b.eq_1))) (And.intro (And.intro @C.catnapref4_Domains_r5_b.eq_1 @C.catnapref4_Domains_r3_b.eq_1) (And.intro @C.catnapref4_Domains_r2_b.eq_1 (And.intro @C.catnapref4_Domains_r1_b.eq_1 @C.catnapref4_Domains_r0_b.eq_1)))

def C.catnapref4_Needs_r6_b : List IOper := [
 X.m 23 3,
 X.m 2 23]
def C.catnapref4_Needs_r6 : List IOper := C.catnapref4_Needs_r6_b
def C.catnapref4_Needs_r6_w := @aopsE _ _ C.catnapref4_Needs_r6.eq_1
def C.catnapref4_Needs_c1 : ICode := .keep [3] (.seq (.region C.catnapref4_Needs_r6) .ret)
def C.catnapref4_Needs_c1_w := @awpE _ _ C.catnapref4_Needs_c1.eq_1
def C.catnapref4_Needs_r4_b : List IOper := [
 X.m 10 4,
 X.o 11 (.bin .add (X.s 10) (X.i 1)),
 X.m 4 11]
def C.catnapref4_Needs_r4 : List IOper := C.catnapref4_Needs_r4_b
def C.catnapref4_Needs_r4_w := @aopsE _ _ C.catnapref4_Needs_r4.eq_1
def C.catnapref4_Needs_c2 : ICode := .keep [1, 3, 4] (.region C.catnapref4_Needs_r4)
def C.catnapref4_Needs_c2_w := @awpE _ _ C.catnapref4_Needs_c2.eq_1
def C.catnapref4_Needs_r5_b : List IOper := [
 X.m 12 3,
 X.o 13 (.buildSlice 1 0 [.int .i64 0] []),
 X.o 14 (.fldAddr 3 (X.s 1)),
 X.o 15 (.load1 (X.s 14)),
 X.m 16 4,
 X.o 17 (.idxAddr 6 (X.s 15) (X.s 16)),
 X.o 18 (.fldAddr 5 (X.s 17)),
 X.o 19 (.load1 (X.s 18)),
 X.o 20 (.append 1 8 (X.s 13) (X.s 19)),
 X.o 21 (.buildSlice 1 1 [.nils] [(0, 1, X.s 20)]),
 X.o 22 (.append 1 24 (X.s 12) (X.s 21)),
 X.m 3 22]
def C.catnapref4_Needs_r5 : List IOper := C.catnapref4_Needs_r5_b
def C.catnapref4_Needs_r5_w := @aopsE _ _ C.catnapref4_Needs_r5.eq_1
def C.catnapref4_Needs_b3 : ICode := .region C.catnapref4_Needs_r5
def C.catnapref4_Needs_b3_w := @awpE _ _ C.catnapref4_Needs_b3.eq_1
def C.catnapref4_Needs_c4 : ICode := .keep [1, 3, 4] (.seq (.block 1 C.catnapref4_Needs_b3) C.catnapref4_Needs_c2)
def C.catnapref4_Needs_c4_w := @awpE _ _ C.catnapref4_Needs_c4.eq_1
def C.catnapref4_Needs_c5 : ICode := .keep [1, 3, 4, 9] (.cond (X.s 9) .skip (.exit 0))
def C.catnapref4_Needs_c5_w := @awpE _ _ C.catnapref4_Needs_c5.eq_1
def C.catnapref4_Needs_r3_b : List IOper := [
 X.m 5 4,
 X.o 6 (.fldAddr 3 (X.s 1)),
 X.o 7 (.load1 (X.s 6)),
 X.o 8 (.len (X.s 7)),
 X.o 9 (.bin .lss (X.s 5) (X.s 8))]
def C.catnapref4_Needs_r3 : List IOper := C.catnapref4_Needs_r3_b
def C.catnapref4_Needs_r3_w := @aopsE _ _ C.catnapref4_Needs_r3.eq_1
def C.catnapref4_Needs_l6 : ICode := .keep [1, 3, 4] (.seq (.seq (.region C.catnapref4_Needs_r3) C.catnapref4_Needs_c5) C.catnapref4_Needs_c4)
def C.catnapref4_Needs_l6_w := @awpE _ _ C.catnapref4_Needs_l6.eq_1
def C.catnapref4_Needs_b7 : ICode := .loop C.catnapref4_Needs_l6
def C.catnapref4_Needs_b7_w := @awpE _ _ C.catnapref4_Needs_b7.eq_1
def C.catnapref4_Needs_c8 : ICode := .keep [1, 3, 4] (.block 0 C.catnapref4_Needs_b7)
def C.catnapref4_Needs_c8_w := @awpE _ _ C.catnapref4_Needs_c8.eq_1
def C.catnapref4_Needs_r2_b : List IOper := [
 X.o 4 (.move (X.i 0))]
def C.catnapref4_Needs_r2 : List IOper := C.catnapref4_Needs_r2_b
def C.catnapref4_Needs_r2_w := @aopsE _ _ C.catnapref4_Needs_r2.eq_1
def C.catnapref4_Needs_c9 : ICode := .keep [1, 3] (.seq (.seq (.region C.catnapref4_Needs_r2) C.catnapref4_Needs_c8) C.catnapref4_Needs_c1)
def C.catnapref4_Needs_c9_w := @awpE _ _ C.catnapref4_Needs_c9.eq_1
def C.catnapref4_Needs_r1_b : List IOper := [
 X.o 3 (.move (.cst (.nils)))]
def C.catnapref4_Needs_r1 : List IOper := C.catnapref4_Needs_r1_b
def C.catnapref4_Needs_r1_w := @aopsE _ _ C.catnapref4_Needs_r1.eq_1
def C.catnapref4_Needs_c10 : ICode := .keep [1] (.seq (.region C.catnapref4_Needs_r1) C.catnapref4_Needs_c9)
def C.catnapref4_Needs_c10_w := @awpE _ _ C.catnapref4_Needs_c10.eq_1
def C.catnapref4_Needs_r0_b : List IOper := [
 X.o 1 (.boxN (X.s 0)),
 X.o 2 (.move (.cst (.nils)))]
def C.catnapref4_Needs_r0 : List IOper := C.catnapref4_Needs_r0_b
def C.catnapref4_Needs_r0_w := @aopsE _ _ C.catnapref4_Needs_r0.eq_1
def C.catnapref4_Needs : IFunc := ⟨1, [.slot 2], .seq (.region C.catnapref4_Needs_r0) C.catnapref4_Needs_c10⟩
def C.catnapref4_Needs_W := And.intro (And.intro (And.intro (And.intro @C.catnapref4_Needs_r6_w @C.catnapref4_Needs_c1_w) (And.intro @C.catnapref4_Needs_r4_w @C.catnapref4_Needs_c2_w)) (And.intro (And.intro @C.catnapref4_Needs_r5_w @C.catnapref4_Needs_b3_w) (And.intro @C.catnapref4_Needs_c4_w @C.catnapref4_Needs_c5_w))) (And.intro (And.intro (And.intro @C.catnapref4_Needs_r3_w @C.catnapref4_Needs_b7_w) (And.intro @C.catnapref4_Needs_c8_w @C.catnapref4_Needs_r2_w)) (And.intro (And.intro @C.catnapref4_Needs_c9_w @C.catnapref4_Needs_r1_w) (And.intro @C.catnapref4_Needs_c10_w @C.catnapref4_Needs_r0_w)))
def C.catnapref4_Needs_B := And.intro (And.intro @C.catnapref4_Needs_r6_b.eq_1 (And.intro @C.catnapref4_Needs_r4_b.eq_1 @C.catnapref4_Needs_r5_b.eq_1)) (And.intro (And.intro @C.catnapref4_Needs_r3_b.eq_1 @C.catnapref4_Needs_r2_b.eq_1) (And.intro @C.catnapref4_Needs_r1_b.eq_1 @C.catnapref4_Needs_r0_b.eq_1))

def C.graph_Order_r20_b : List IOper := [
 X.m 73 8,
 X.m 2 73,
 X.o 3 (.move (X.i 0))]
def C.graph_Order_r20 : List IOper := C.graph_Order_r20_b
def C.graph_Order_r20_w := @aopsE _ _ C.graph_Order_r20.eq_1
def C.graph_Order_c1 : ICode := .keep [8] (.seq (.region C.graph_Order_r20) .ret)
def C.graph_Order_c1_w := @awpE _ _ C.graph_Order_c1.eq_1
def C.graph_Order_r19_b : List IOper := [
 X.o 72 (.bin .add (X.s 62) (X.i 1)),
 X.m 62 72]
def C.graph_Order_r19 : List IOper := C.graph_Order_r19_b
def C.graph_Order_r19_w := @aopsE _ _ C.graph_Order_r19.eq_1
def C.graph_Order_c2 : ICode := .keep [0, 5, 6, 7, 8, 60, 61, 62] (.region C.graph_Order_r19)
def C.graph_Order_c2_w := @awpE _ _ C.graph_Order_c2.eq_1
def C.graph_Order_r18_b : List IOper := [
 X.m 66 5,
 X.m 67 11,
 X.o 68 (.idxAddr 1 (X.s 66) (X.s 67)),
 X.o 69 (.load1 (X.s 68)),
 X.o 70 (.bin .sub (X.s 69) (X.i 1)),
 X.o 71 (.idxAddr 1 (X.s 66) (X.s 67)),
 X.n (.store1 (X.s 71) (X.s 70))]
def C.graph_Order_r18 : List IOper := C.graph_Order_r18_b
def C.graph_Order_r18_w := @aopsE _ _ C.graph_Order_r18.eq_1
def C.graph_Order_c3 : ICode := .keep [0, 5, 6, 7, 8, 11, 60, 61, 62] (.region C.graph_Order_r18)
def C.graph_Order_c3_w := @awpE _ _ C.graph_Order_c3.eq_1
def C.graph_Order_r17_b : List IOper := [
 X.o 64 (.idxAddr 1 (X.s 60) (X.s 62)),
 X.o 65 (.load1 (X.s 64)),
 X.m 11 65]
def C.graph_Order_r17 : List IOper := C.graph_Order_r17_b
def C.graph_Order_r17_w := @aopsE _ _ C.graph_Order_r17.eq_1
def C.graph_Order_b4 : ICode := .seq (.region C.graph_Order_r17) C.graph_Order_c3
def C.graph_Order_b4_w := @awpE _ _ C.graph_Order_b4.eq_1
def C.graph_Order_c5 : ICode := .keep [0, 5, 6, 7, 8, 60, 61, 62] (.seq (.block 5 C.graph_Order_b4) C.graph_Order_c2)
def C.graph_Order_c5_w := @awpE _ _ C.graph_Order_c5.eq_1
def C.graph_Order_c6 : ICode := .keep [0, 5, 6, 7, 8, 60, 61, 62, 63] (.seq (.cond (X.s 63) .skip (.exit 4)) C.graph_Order_c5)
def C.graph_Order_c6_w := @awpE _ _ C.graph_Order_c6.eq_1
def C.graph_Order_r16_b : List IOper := [
 X.o 63 (.bin .lss (X.s 62) (X.s 61))]
def C.graph_Order_r16 : List IOper := C.graph_Order_r16_b
def C.graph_Order_r16_w := @aopsE _ _ C.graph_Order_r16.eq_1
def C.graph_Order_l7 : ICode := .keep [0, 5, 6, 7, 8, 60, 61, 62] (.seq (.region C.graph_Order_r16) C.graph_Order_c6)
def C.graph_Order_l7_w := @awpE _ _ C.graph_Order_l7.eq_1
def C.graph_Order_b8 : ICode := .loop C.graph_Order_l7
def C.graph_Order_b8_w := @awpE _ _ C.graph_Order_b8.eq_1
def C.graph_Order_c9 : ICode := .keep [0, 5, 6, 7, 8, 60, 61, 62] (.block 4 C.graph_Order_b8)
def C.graph_Order_c9_w := @awpE _ _ C.graph_Order_c9.eq_1
def C.graph_Order_r15_b : List IOper := [
 X.m 57 6,
 X.m 58 9,
 X.o 59 (.idxAddr 1 (X.s 57) (X.s 58)),
 X.o 60 (.load1 (X.s 59)),
 X.o 61 (.len (X.s 60)),
 X.o 62 (.move (X.i 0))]
def C.graph_Order_r15 : List IOper := C.graph_Order_r15_b
def C.graph_Order_r15_w := @aopsE _ _ C.graph_Order_r15.eq_1
def C.graph_Order_c10 : ICode := .keep [0, 5, 6, 7, 8, 9] (.seq (.region C.graph_Order_r15) C.graph_Order_c9)
def C.graph_Order_c10_w := @awpE _ _ C.graph_Order_c10.eq_1
def C.graph_Order_r14_b : List IOper := [
 X.m 53 8,
 X.m 54 9,
 X.o 55 (.buildSlice 1 1 [.int .i64 0] [(0, 1, X.s 54)]),
 X.o 56 (.append 1 8 (X.s 53) (X.s 55)),
 X.m 8 56]
def C.graph_Order_r14 : List IOper := C.graph_Order_r14_b
def C.graph_Order_r14_w := @aopsE _ _ C.graph_Order_r14.eq_1
def C.graph_Order_c11 : ICode := .keep [0, 5, 6, 7, 8, 9] (.seq (.region C.graph_Order_r14) C.graph_Order_c10)
def C.graph_Order_c11_w := @awpE _ _ C.graph_Order_c11.eq_1
def C.graph_Order_r13_b : List IOper := [
 X.m 50 7,
 X.m 51 9,
 X.o 52 (.call F.graph_marks_add [X.s 50, X.s 51])]
def C.graph_Order_r13 : List IOper := C.graph_Order_r13_b
def C.graph_Order_r13_w := @aopsE _ _ C.graph_Order_r13.eq_1
def C.graph_Order_c12 : ICode := .keep [0, 5, 6, 7, 8, 9] (.seq (.region C.graph_Order_r13) C.graph_Order_c11)
def C.graph_Order_c12_w := @awpE _ _ C.graph_Order_c12.eq_1
def C.graph_Order_r12_b : List IOper := [
 X.o 2 (.move (.cst (.nils))),
 X.o 3 (.move (X.i 5))]
def C.graph_Order_r12 : List IOper := C.graph_Order_r12_b
def C.graph_Order_r12_w := @aopsE _ _ C.graph_Order_r12.eq_1
def C.graph_Order_c13 : ICode := .seq (.region C.graph_Order_r12) .ret
def C.graph_Order_c13_w := @awpE _ _ C.graph_Order_c13.eq_1
def C.graph_Order_c14 : ICode := .keep [0, 5, 6, 7, 8, 9, 49] (.cond (X.s 49) C.graph_Order_c13 .skip)
def C.graph_Order_c14_w := @awpE _ _ C.graph_Order_c14.eq_1
def C.graph_Order_r11_b : List IOper := [
 X.m 46 9,
 X.m 47 0,
 X.o 48 (.len (X.s 47)),
 X.o 49 (.bin .eql (X.s 46) (X.s 48))]
def C.graph_Order_r11 : List IOper := C.graph_Order_r11_b
def C.graph_Order_r11_w := @aopsE _ _ C.graph_Order_r11.eq_1
def C.graph_Order_c15 : ICode := .keep [0, 5, 6, 7, 8, 9] (.seq (.seq (.region C.graph_Order_r11) C.graph_Order_c14) C.graph_Order_c12)
def C.graph_Order_c15_w := @awpE _ _ C.graph_Order_c15.eq_1
def C.graph_Order_r10_b : List IOper := [
 X.m 44 9,
 X.o 45 (.bin .add (X.s 44) (X.i 1)),
 X.m 9 45]
def C.graph_Order_r10 : List IOper := C.graph_Order_r10_b
def C.graph_Order_r10_w := @aopsE _ _ C.graph_Order_r10.eq_1
def C.graph_Order_b16 : ICode := .region C.graph_Order_r10
def C.graph_Order_b16_w := @awpE _ _ C.graph_Order_b16.eq_1
def C.graph_Order_c17 : ICode := .keep [0, 5, 6, 7, 8, 9] (.block 3 C.graph_Order_b16)
def C.graph_Order_c17_w := @awpE _ _ C.graph_Order_c17.eq_1
def C.graph_Order_c18 : ICode := .keep [0, 5, 6, 7, 8, 9, 43] (.cond (X.s 43) .skip (.exit 2))
def C.graph_Order_c18_w := @awpE _ _ C.graph_Order_c18.eq_1
def C.graph_Order_r9_b : List IOper := [
 X.m 28 9,
 X.m 29 0,
 X.o 30 (.len (X.s 29)),
 X.o 31 (.bin .lss (X.s 28) (X.s 30)),
 X.m 32 31,
 X.t 32 33 (.move (X.s 7)),
 X.t 32 34 (.move (X.s 9)),
 X.t 32 35 (.call F.graph_marks_has [X.s 33, X.s 34]),
 X.t 32 36 (.move (X.s 35)),
 X.f 36 37 (.move (X.s 5)),
 X.f 36 38 (.move (X.s 9)),
 X.f 36 39 (.idxAddr 1 (X.s 37) (X.s 38)),
 X.f 36 40 (.load1 (X.s 39)),
 X.f 36 41 (.bin .gtr (X.s 40) (X.i 0)),
 X.t 32 42 (.pick (X.s 36) (.cst (.bool true)) (X.s 41)),
 X.o 43 (.pick (X.s 32) (X.s 42) (.cst (.bool false)))]
def C.graph_Order_r9 : List IOper := C.graph_Order_r9_b
def C.graph_Order_r9_w := @aopsE _ _ C.graph_Order_r9.eq_1
def C.graph_Order_l19 : ICode := .keep [0, 5, 6, 7, 8, 9] (.seq (.seq (.region C.graph_Order_r9) C.graph_Order_c18) C.graph_Order_c17)
def C.graph_Order_l19_w := @awpE _ _ C.graph_Order_l19.eq_1
def C.graph_Order_b20 : ICode := .loop C.graph_Order_l19
def C.graph_Order_b20_w := @awpE _ _ C.graph_Order_b20.eq_1
def C.graph_Order_c21 : ICode := .keep [0, 5, 6, 7, 8, 9] (.seq (.block 2 C.graph_Order_b20) C.graph_Order_c15)
def C.graph_Order_c21_w := @awpE _ _ C.graph_Order_c21.eq_1
def C.graph_Order_r8_b : List IOper := [
 X.o 9 (.move (X.i 0))]
def C.graph_Order_r8 : List IOper := C.graph_Order_r8_b
def C.graph_Order_r8_w := @aopsE _ _ C.graph_Order_r8.eq_1
def C.graph_Order_b22 : ICode := .seq (.region C.graph_Order_r8) C.graph_Order_c21
def C.graph_Order_b22_w := @awpE _ _ C.graph_Order_b22.eq_1
def C.graph_Order_c23 : ICode := .keep [0, 5, 6, 7, 8] (.block 1 C.graph_Order_b22)
def C.graph_Order_c23_w := @awpE _ _ C.graph_Order_c23.eq_1
def C.graph_Order_c24 : ICode := .keep [0, 5, 6, 7, 8, 27] (.cond (X.s 27) .skip (.exit 0))
def C.graph_Order_c24_w := @awpE _ _ C.graph_Order_c24.eq_1
def C.graph_Order_r7_b : List IOper := [
 X.m 23 8,
 X.o 24 (.len (X.s 23)),
 X.m 25 0,
 X.o 26 (.len (X.s 25)),
 X.o 27 (.bin .lss (X.s 24) (X.s 26))]
def C.graph_Order_r7 : List IOper := C.graph_Order_r7_b
def C.graph_Order_r7_w := @aopsE _ _ C.graph_Order_r7.eq_1
def C.graph_Order_l25 : ICode := .keep [0, 5, 6, 7, 8] (.seq (.seq (.region C.graph_Order_r7) C.graph_Order_c24) C.graph_Order_c23)
def C.graph_Order_l25_w := @awpE _ _ C.graph_Order_l25.eq_1
def C.graph_Order_b26 : ICode := .loop C.graph_Order_l25
def C.graph_Order_b26_w := @awpE _ _ C.graph_Order_b26.eq_1
def C.graph_Order_c27 : ICode := .keep [0, 5, 6, 7, 8] (.seq (.block 0 C.graph_Order_b26) C.graph_Order_c1)
def C.graph_Order_c27_w := @awpE _ _ C.graph_Order_c27.eq_1
def C.graph_Order_r6_b : List IOper := [
 X.o 8 (.move (.cst (.nils)))]
def C.graph_Order_r6 : List IOper := C.graph_Order_r6_b
def C.graph_Order_r6_w := @aopsE _ _ C.graph_Order_r6.eq_1
def C.graph_Order_c28 : ICode := .keep [0, 5, 6, 7] (.seq (.region C.graph_Order_r6) C.graph_Order_c27)
def C.graph_Order_c28_w := @awpE _ _ C.graph_Order_c28.eq_1
def C.graph_Order_r5_b : List IOper := [
 X.o 22 (.makeMap none),
 X.m 7 22]
def C.graph_Order_r5 : List IOper := C.graph_Order_r5_b
def C.graph_Order_r5_w := @aopsE _ _ C.graph_Order_r5.eq_1
def C.graph_Order_c29 : ICode := .keep [0, 5, 6] (.seq (.region C.graph_Order_r5) C.graph_Order_c28)
def C.graph_Order_c29_w := @awpE _ _ C.graph_Order_c29.eq_1
def C.graph_Order_r4_b : List IOper := [
 X.m 18 0,
 X.o 19 (.call F.graph_hang [X.s 18]),
 X.m 17 19,
 X.o 20 (.extract (X.s 17) 0),
 X.o 21 (.extract (X.s 17) 1),
 X.m 5 20,
 X.m 6 21]
def C.graph_Order_r4 : List IOper := C.graph_Order_r4_b
def C.graph_Order_r4_w := @aopsE _ _ C.graph_Order_r4.eq_1
def C.graph_Order_c30 : ICode := .keep [0] (.seq (.region C.graph_Order_r4) C.graph_Order_c29)
def C.graph_Order_c30_w := @awpE _ _ C.graph_Order_c30.eq_1
def C.graph_Order_r3_b : List IOper := [
 X.m 16 4,
 X.o 2 (.move (.cst (.nils))),
 X.m 3 16]
def C.graph_Order_r3 : List IOper := C.graph_Order_r3_b
def C.graph_Order_r3_w := @aopsE _ _ C.graph_Order_r3.eq_1
def C.graph_Order_c31 : ICode := .seq (.region C.graph_Order_r3) .ret
def C.graph_Order_c31_w := @awpE _ _ C.graph_Order_c31.eq_1
def C.graph_Order_c32 : ICode := .keep [0, 4, 15] (.cond (X.s 15) C.graph_Order_c31 .skip)
def C.graph_Order_c32_w := @awpE _ _ C.graph_Order_c32.eq_1
def C.graph_Order_r2_b : List IOper := [
 X.m 14 4,
 X.o 15 (.bin .neq (X.s 14) (X.i 0))]
def C.graph_Order_r2 : List IOper := C.graph_Order_r2_b
def C.graph_Order_r2_w := @aopsE _ _ C.graph_Order_r2.eq_1
def C.graph_Order_c33 : ICode := .keep [0, 4] (.seq (.region C.graph_Order_r2) C.graph_Order_c32)
def C.graph_Order_c33_w := @awpE _ _ C.graph_Order_c33.eq_1
def C.graph_Order_r1_b : List IOper := [
 X.m 12 0,
 X.o 13 (.call F.graph_numbers [X.s 12]),
 X.m 4 13]
def C.graph_Order_r1 : List IOper := C.graph_Order_r1_b
def C.graph_Order_r1_w := @aopsE _ _ C.graph_Order_r1.eq_1
def C.graph_Order_c34 : ICode := .keep [0] (.seq (.seq (.region C.graph_Order_r1) C.graph_Order_c33) C.graph_Order_c30)
def C.graph_Order_c34_w := @awpE _ _ C.graph_Order_c34.eq_1
def C.graph_Order_r0_b : List IOper := [
 X.o 2 (.move (.cst (.nils))),
 X.o 3 (.move (X.i 0))]
def C.graph_Order_r0 : List IOper := C.graph_Order_r0_b
def C.graph_Order_r0_w := @aopsE _ _ C.graph_Order_r0.eq_1
def C.graph_Order : IFunc := ⟨1, [.slot 2, .slot 3], .seq (.region C.graph_Order_r0) C.graph_Order_c34⟩
def C.graph_Order_W := And.intro (And.intro (And.intro (And.intro (And.intro @C.graph_Order_r20_w (And.intro @C.graph_Order_c1_w @C.graph_Order_r19_w)) (And.intro @C.graph_Order_c2_w (And.intro @C.graph_Order_r18_w @C.graph_Order_c3_w))) (And.intro (And.intro @C.graph_Order_r17_w (And.intro @C.graph_Order_b4_w @C.graph_Order_c5_w)) (And.intro (And.intro @C.graph_Order_c6_w @C.graph_Order_r16_w) (And.intro @C.graph_Order_b8_w @C.graph_Order_c9_w)))) (And.intro (And.intro (And.intro @C.graph_Order_r15_w (And.intro @C.graph_Order_c10_w @C.graph_Order_r14_w)) (And.intro @C.graph_Order_c11_w (And.intro @C.graph_Order_r13_w @C.graph_Order_c12_w))) (And.intro (And.intro @C.graph_Order_r12_w (And.intro @C.graph_Order_c13_w @C.graph_Order_c14_w)) (And.intro (And.intro @C.graph_Order_r11_w @C.graph_Order_c15_w) (And.intro @C.graph_Order_r10_w @C.graph_Order_b16_w))))) (And.intro (And.intro (And.intro (And.intro @C.graph_Order_c17_w (And.intro @C.graph_Order_c18_w @C.graph_Order_r9_w)) (And.intro @C.graph_Order_b20_w (And.intro @C.graph_Order_c21_w @C.graph_Order_r8_w))) (And.intro (And.intro @C.graph_Order_b22_w (And.intro @C.graph_Order_c23_w @C.graph_Order_c24_w)) (And.intro (And.intro @C.graph_Order_r7_w @C.graph_Order_b26_w) (And.intro @C.graph_Order_c27_w @C.graph_Order_r6_w)))) (And.intro (And.intro (And.intro @C.graph_Order_c28_w (And.intro @C.graph_Order_r5_w @C.graph_Order_c29_w)) (And.intro @C.graph_Order_r4_w (And.intro @C.graph_Order_c30_w @C.graph_Order_r3_w))) (And.intro (And.intro @C.graph_Order_c31_w (And.intro @C.graph_Order_c32_w @C.graph_Order_r2_w)) (And.intro (And.intro @C.graph_Order_c33_w @C.graph_Order_r1_w) (And.intro @C.graph_Order_c34_w @C.graph_Order_r0_w)))))
def C.graph_Order_B := And.intro (And.intro (And.intro (And.intro @C.graph_Order_r20_b.eq_1 @C.graph_Order_r19_b.eq_1) (And.intro @C.graph_Order_r18_b.eq_1 (And.intro @C.graph_Order_r17_b.eq_1 @C.graph_Order_r16_b.eq_1))) (And.intro (And.intro @C.graph_Order_r15_b.eq_1 @C.graph_Order_r14_b.eq_1) (And.intro @C.graph_Order_r13_b.eq_1 (And.intro @C.graph_Order_r12_b.eq_1 @C.graph_Order_r11_b.eq_1)))) (And.intro (And.intro (And.intro @C.graph_Order_r10_b.eq_1 @C.graph_Order_r9_b.eq_1) (And.intro @C.graph_Order_r8_b.eq_1 (And.intro @C.graph_Order_r7_b.eq_1 @C.graph_Order_r6_b.eq_1))) (And.intro (And.intro @C.graph_Order_r5_b.eq_1 (And.intro @C.graph_Order_r4_b.eq_1 @C.graph_Order_r3_b.eq_1)) (And.intro @C.graph_Order_r2_b.eq_1 (And.intro @C.graph_Order_r1_b.eq_1 @C.graph_Order_r0_b.eq_1))))

def C.catnapref3_order_r18_b : List IOper := [
 X.m 58 3,
 X.m 2 58]
def C.catnapref3_order_r18 : List IOper := C.catnapref3_order_r18_b
def C.catnapref3_order_r18_w := @aopsE _ _ C.catnapref3_order_r18.eq_1
def C.catnapref3_order_c1 : ICode := .keep [3] (.seq (.region C.catnapref3_order_r18) .ret)
def C.catnapref3_order_c1_w := @awpE _ _ C.catnapref3_order_c1.eq_1
def C.catnapref3_order_r8_b : List IOper := [
 X.m 21 6,
 X.o 22 (.bin .add (X.s 21) (X.i 1)),
 X.m 6 22]
def C.catnapref3_order_r8 : List IOper := C.catnapref3_order_r8_b
def C.catnapref3_order_r8_w := @aopsE _ _ C.catnapref3_order_r8.eq_1
def C.catnapref3_order_c2 : ICode := .keep [0, 3, 4, 5, 6] (.region C.catnapref3_order_r8)
def C.catnapref3_order_c2_w := @awpE _ _ C.catnapref3_order_c2.eq_1
def C.catnapref3_order_r17_b : List IOper := [
 X.o 5 (.move (.cst (.bool true)))]
def C.catnapref3_order_r17 : List IOper := C.catnapref3_order_r17_b
def C.catnapref3_order_r17_w := @aopsE _ _ C.catnapref3_order_r17.eq_1
def C.catnapref3_order_c3 : ICode := .keep [0, 3, 4, 6] (.region C.catnapref3_order_r17)
def C.catnapref3_order_c3_w := @awpE _ _ C.catnapref3_order_c3.eq_1
def C.catnapref3_order_r16_b : List IOper := [
 X.m 54 3,
 X.m 55 6,
 X.o 56 (.buildSlice 1 1 [.int .i64 0] [(0, 1, X.s 55)]),
 X.o 57 (.append 1 8 (X.s 54) (X.s 56)),
 X.m 3 57]
def C.catnapref3_order_r16 : List IOper := C.catnapref3_order_r16_b
def C.catnapref3_order_r16_w := @aopsE _ _ C.catnapref3_order_r16.eq_1
def C.catnapref3_order_c4 : ICode := .keep [0, 3, 4, 6] (.seq (.region C.catnapref3_order_r16) C.catnapref3_order_c3)
def C.catnapref3_order_c4_w := @awpE _ _ C.catnapref3_order_c4.eq_1
def C.catnapref3_order_r15_b : List IOper := [
 X.m 51 4,
 X.m 52 6,
 X.o 53 (.idxAddr 1 (X.s 51) (X.s 52)),
 X.n (.store1 (X.s 53) (.cst (.bool true)))]
def C.catnapref3_order_r15 : List IOper := C.catnapref3_order_r15_b
def C.catnapref3_order_r15_w := @aopsE _ _ C.catnapref3_order_r15.eq_1
def C.catnapref3_order_c5 : ICode := .seq (.region C.catnapref3_order_r15) C.catnapref3_order_c4
def C.catnapref3_order_c5_w := @awpE _ _ C.catnapref3_order_c5.eq_1
def C.catnapref3_order_c6 : ICode := .keep [0, 3, 4, 5, 6, 50] (.cond (X.s 50) C.catnapref3_order_c5 .skip)
def C.catnapref3_order_c6_w := @awpE _ _ C.catnapref3_order_c6.eq_1
def C.catnapref3_order_r14_b : List IOper := [
 X.m 50 7]
def C.catnapref3_order_r14 : List IOper := C.catnapref3_order_r14_b
def C.catnapref3_order_r14_w := @aopsE _ _ C.catnapref3_order_r14.eq_1
def C.catnapref3_order_c7 : ICode := .keep [0, 3, 4, 5, 6, 7] (.seq (.region C.catnapref3_order_r14) C.catnapref3_order_c6)
def C.catnapref3_order_c7_w := @awpE _ _ C.catnapref3_order_c7.eq_1
def C.catnapref3_order_r12_b : List IOper := [
 X.m 35 8,
 X.o 36 (.bin .add (X.s 35) (X.i 1)),
 X.m 8 36]
def C.catnapref3_order_r12 : List IOper := C.catnapref3_order_r12_b
def C.catnapref3_order_r12_w := @aopsE _ _ C.catnapref3_order_r12.eq_1
def C.catnapref3_order_c8 : ICode := .keep [0, 3, 4, 5, 6, 7, 8] (.region C.catnapref3_order_r12)
def C.catnapref3_order_c8_w := @awpE _ _ C.catnapref3_order_c8.eq_1
def C.catnapref3_order_r13_b : List IOper := [
 X.m 37 7,
 X.m 38 37,
 X.t 38 39 (.move (X.s 4)),
 X.t 38 40 (.move (X.s 0)),
 X.t 38 41 (.move (X.s 6)),
 X.t 38 42 (.idxAddr 1 (X.s 40) (X.s 41)),
 X.t 38 43 (.load1 (X.s 42)),
 X.t 38 44 (.move (X.s 8)),
 X.t 38 45 (.idxAddr 1 (X.s 43) (X.s 44)),
 X.t 38 46 (.load1 (X.s 45)),
 X.t 38 47 (.idxAddr 1 (X.s 39) (X.s 46)),
 X.t 38 48 (.load1 (X.s 47)),
 X.o 49 (.pick (X.s 38) (X.s 48) (.cst (.bool false))),
 X.m 7 49]
def C.catnapref3_order_r13 : List IOper := C.catnapref3_order_r13_b
def C.catnapref3_order_r13_w := @aopsE _ _ C.catnapref3_order_r13.eq_1
def C.catnapref3_order_b9 : ICode := .region C.catnapref3_order_r13
def C.catnapref3_order_b9_w := @awpE _ _ C.catnapref3_order_b9.eq_1
def C.catnapref3_order_c10 : ICode := .keep [0, 3, 4, 5, 6, 7, 8] (.seq (.block 5 C.catnapref3_order_b9) C.catnapref3_order_c8)
def C.catnapref3_order_c10_w := @awpE _ _ C.catnapref3_order_c10.eq_1
def C.catnapref3_order_c11 : ICode := .keep [0, 3, 4, 5, 6, 7, 8, 34] (.cond (X.s 34) .skip (.exit 4))
def C.catnapref3_order_c11_w := @awpE _ _ C.catnapref3_order_c11.eq_1
def C.catnapref3_order_r11_b : List IOper := [
 X.m 28 8,
 X.m 29 0,
 X.m 30 6,
 X.o 31 (.idxAddr 1 (X.s 29) (X.s 30)),
 X.o 32 (.load1 (X.s 31)),
 X.o 33 (.len (X.s 32)),
 X.o 34 (.bin .lss (X.s 28) (X.s 33))]
def C.catnapref3_order_r11 : List IOper := C.catnapref3_order_r11_b
def C.catnapref3_order_r11_w := @aopsE _ _ C.catnapref3_order_r11.eq_1
def C.catnapref3_order_l12 : ICode := .keep [0, 3, 4, 5, 6, 7, 8] (.seq (.seq (.region C.catnapref3_order_r11) C.catnapref3_order_c11) C.catnapref3_order_c10)
def C.catnapref3_order_l12_w := @awpE _ _ C.catnapref3_order_l12.eq_1
def C.catnapref3_order_b13 : ICode := .loop C.catnapref3_order_l12
def C.catnapref3_order_b13_w := @awpE _ _ C.catnapref3_order_b13.eq_1
def C.catnapref3_order_c14 : ICode := .keep [0, 3, 4, 5, 6, 7, 8] (.block 4 C.catnapref3_order_b13)
def C.catnapref3_order_c14_w := @awpE _ _ C.catnapref3_order_c14.eq_1
def C.catnapref3_order_r10_b : List IOper := [
 X.o 8 (.move (X.i 0))]
def C.catnapref3_order_r10 : List IOper := C.catnapref3_order_r10_b
def C.catnapref3_order_r10_w := @aopsE _ _ C.catnapref3_order_r10.eq_1
def C.catnapref3_order_c15 : ICode := .keep [0, 3, 4, 5, 6, 7] (.seq (.seq (.region C.catnapref3_order_r10) C.catnapref3_order_c14) C.catnapref3_order_c7)
def C.catnapref3_order_c15_w := @awpE _ _ C.catnapref3_order_c15.eq_1
def C.catnapref3_order_r9_b : List IOper := [
 X.m 23 4,
 X.m 24 6,
 X.o 25 (.idxAddr 1 (X.s 23) (X.s 24)),
 X.o 26 (.load1 (X.s 25)),
 X.o 27 (.un .not (X.s 26)),
 X.m 7 27]
def C.catnapref3_order_r9 : List IOper := C.catnapref3_order_r9_b
def C.catnapref3_order_r9_w := @aopsE _ _ C.catnapref3_order_r9.eq_1
def C.catnapref3_order_b16 : ICode := .seq (.region C.catnapref3_order_r9) C.catnapref3_order_c15
def C.catnapref3_order_b16_w := @awpE _ _ C.catnapref3_order_b16.eq_1
def C.catnapref3_order_c17 : ICode := .keep [0, 3, 4, 5, 6] (.seq (.block 3 C.catnapref3_order_b16) C.catnapref3_order_c2)
def C.catnapref3_order_c17_w := @awpE _ _ C.catnapref3_order_c17.eq_1
def C.catnapref3_order_c18 : ICode := .keep [0, 3, 4, 5, 6, 20] (.cond (X.s 20) .skip (.exit 2))
def C.catnapref3_order_c18_w := @awpE _ _ C.catnapref3_order_c18.eq_1
def C.catnapref3_order_r7_b : List IOper := [
 X.m 13 6,
 X.m 14 0,
 X.o 15 (.len (X.s 14)),
 X.o 16 (.bin .lss (X.s 13) (X.s 15)),
 X.m 17 16,
 X.t 17 18 (.move (X.s 5)),
 X.t 17 19 (.un .not (X.s 18)),
 X.o 20 (.pick (X.s 17) (X.s 19) (.cst (.bool false)))]
def C.catnapref3_order_r7 : List IOper := C.catnapref3_order_r7_b
def C.catnapref3_order_r7_w := @aopsE _ _ C.catnapref3_order_r7.eq_1
def C.catnapref3_order_l19 : ICode := .keep [0, 3, 4, 5, 6] (.seq (.seq (.region C.catnapref3_order_r7) C.catnapref3_order_c18) C.catnapref3_order_c17)
def C.catnapref3_order_l19_w := @awpE _ _ C.catnapref3_order_l19.eq_1
def C.catnapref3_order_b20 : ICode := .loop C.catnapref3_order_l19
def C.catnapref3_order_b20_w := @awpE _ _ C.catnapref3_order_b20.eq_1
def C.catnapref3_order_c21 : ICode := .keep [0, 3, 4, 5, 6] (.block 2 C.catnapref3_order_b20)
def C.catnapref3_order_c21_w := @awpE _ _ C.catnapref3_order_c21.eq_1
def C.catnapref3_order_r6_b : List IOper := [
 X.o 6 (.move (X.i 0))]
def C.catnapref3_order_r6 : List IOper := C.catnapref3_order_r6_b
def C.catnapref3_order_r6_w := @aopsE _ _ C.catnapref3_order_r6.eq_1
def C.catnapref3_order_c22 : ICode := .keep [0, 3, 4, 5] (.seq (.region C.catnapref3_order_r6) C.catnapref3_order_c21)
def C.catnapref3_order_c22_w := @awpE _ _ C.catnapref3_order_c22.eq_1
def C.catnapref3_order_r5_b : List IOper := [
 X.o 5 (.move (.cst (.bool false)))]
def C.catnapref3_order_r5 : List IOper := C.catnapref3_order_r5_b
def C.catnapref3_order_r5_w := @aopsE _ _ C.catnapref3_order_r5.eq_1
def C.catnapref3_order_b23 : ICode := .seq (.region C.catnapref3_order_r5) C.catnapref3_order_c22
def C.catnapref3_order_b23_w := @awpE _ _ C.catnapref3_order_b23.eq_1
def C.catnapref3_order_c24 : ICode := .keep [0, 3, 4] (.block 1 C.catnapref3_order_b23)
def C.catnapref3_order_c24_w := @awpE _ _ C.catnapref3_order_c24.eq_1
def C.catnapref3_order_c25 : ICode := .keep [0, 3, 4, 12] (.cond (X.s 12) .skip (.exit 0))
def C.catnapref3_order_c25_w := @awpE _ _ C.catnapref3_order_c25.eq_1
def C.catnapref3_order_r4_b : List IOper := [
 X.m 12 5]
def C.catnapref3_order_r4 : List IOper := C.catnapref3_order_r4_b
def C.catnapref3_order_r4_w := @aopsE _ _ C.catnapref3_order_r4.eq_1
def C.catnapref3_order_l26 : ICode := .keep [0, 3, 4, 5] (.seq (.seq (.region C.catnapref3_order_r4) C.catnapref3_order_c25) C.catnapref3_order_c24)
def C.catnapref3_order_l26_w := @awpE _ _ C.catnapref3_order_l26.eq_1
def C.catnapref3_order_b27 : ICode := .loop C.catnapref3_order_l26
def C.catnapref3_order_b27_w := @awpE _ _ C.catnapref3_order_b27.eq_1
def C.catnapref3_order_c28 : ICode := .keep [0, 3, 4, 5] (.seq (.block 0 C.catnapref3_order_b27) C.catnapref3_order_c1)
def C.catnapref3_order_c28_w := @awpE _ _ C.catnapref3_order_c28.eq_1
def C.catnapref3_order_r3_b : List IOper := [
 X.o 5 (.move (.cst (.bool true)))]
def C.catnapref3_order_r3 : List IOper := C.catnapref3_order_r3_b
def C.catnapref3_order_r3_w := @aopsE _ _ C.catnapref3_order_r3.eq_1
def C.catnapref3_order_c29 : ICode := .keep [0, 3, 4] (.seq (.region C.catnapref3_order_r3) C.catnapref3_order_c28)
def C.catnapref3_order_c29_w := @awpE _ _ C.catnapref3_order_c29.eq_1
def C.catnapref3_order_r2_b : List IOper := [
 X.m 9 0,
 X.o 10 (.len (X.s 9)),
 X.o 11 (.makeSlice 1 1 [.bool false] (X.s 10) (X.s 10)),
 X.m 4 11]
def C.catnapref3_order_r2 : List IOper := C.catnapref3_order_r2_b
def C.catnapref3_order_r2_w := @aopsE _ _ C.catnapref3_order_r2.eq_1
def C.catnapref3_order_c30 : ICode := .keep [0, 3] (.seq (.region C.catnapref3_order_r2) C.catnapref3_order_c29)
def C.catnapref3_order_c30_w := @awpE _ _ C.catnapref3_order_c30.eq_1
def C.catnapref3_order_r1_b : List IOper := [
 X.o 3 (.move (.cst (.nils)))]
def C.catnapref3_order_r1 : List IOper := C.catnapref3_order_r1_b
def C.catnapref3_order_r1_w := @aopsE _ _ C.catnapref3_order_r1.eq_1
def C.catnapref3_order_c31 : ICode := .keep [0] (.seq (.region C.catnapref3_order_r1) C.catnapref3_order_c30)
def C.catnapref3_order_c31_w := @awpE _ _ C.catnapref3_order_c31.eq_1
def C.catnapref3_order_r0_b : List IOper := [
 X.o 2 (.move (.cst (.nils)))]
def C.catnapref3_order_r0 : List IOper := C.catnapref3_order_r0_b
def C.catnapref3_order_r0_w := @aopsE _ _ C.catnapref3_order_r0.eq_1
def C.catnapref3_order : IFunc := ⟨1, [.slot 2], .seq (.region C.catnapref3_order_r0) C.catnapref3_order_c31⟩
def C.catnapref3_order_W := And.intro (And.intro (And.intro (And.intro (And.intro @C.catnapref3_order_r18_w @C.catnapref3_order_c1_w) (And.intro @C.catnapref3_order_r8_w (And.intro @C.catnapref3_order_c2_w @C.catnapref3_order_r17_w))) (And.intro (And.intro @C.catnapref3_order_c3_w (And.intro @C.catnapref3_order_r16_w @C.catnapref3_order_c4_w)) (And.intro @C.catnapref3_order_r15_w (And.intro @C.catnapref3_order_c5_w @C.catnapref3_order_c6_w)))) (And.intro (And.intro (And.intro @C.catnapref3_order_r14_w (And.intro @C.catnapref3_order_c7_w @C.catnapref3_order_r12_w)) (And.intro @C.catnapref3_order_c8_w (And.intro @C.catnapref3_order_r13_w @C.catnapref3_order_b9_w))) (And.intro (And.intro @C.catnapref3_order_c10_w (And.intro @C.catnapref3_order_c11_w @C.catnapref3_order_r11_w)) (And.intro @C.catnapref3_order_b13_w (And.intro @C.catnapref3_order_c14_w @C.catnapref3_order_r10_w))))) (And.intro (And.intro (And.intro (And.intro @C.catnapref3_order_c15_w (And.intro @C.catnapref3_order_r9_w @C.catnapref3_order_b16_w)) (And.intro @C.catnapref3_order_c17_w (And.intro @C.catnapref3_order_c18_w @C.catnapref3_order_r7_w))) (And.intro (And.intro @C.catnapref3_order_b20_w (And.intro @C.catnapref3_order_c21_w @C.catnapref3_order_r6_w)) (And.intro @C.catnapref3_order_c22_w (And.intro @C.catnapref3_order_r5_w @C.catnapref3_order_b23_w)))) (And.intro (And.intro (And.intro @C.catnapref3_order_c24_w (And.intro @C.catnapref3_order_c25_w @C.catnapref3_order_r4_w)) (And.intro @C.catnapref3_order_b27_w (And.intro @C.catnapref3_order_c28_w @C.catnapref3_order_r3_w))) (And.intro (And.intro @C.catnapref3_order_c29_w (And.intro @C.catnapref3_order_r2_w @C.catnapref3_order_c30_w)) (And.intro @C.catnapref3_order_r1_w (And.intro @C.catnapref3_order_c31_w @C.catnapref3_order_r0_w)))))
def C.catnapref3_order_B := And.intro (And.intro (And.intro (And.intro @C.catnapref3_order_r18_b.eq_1 @C.catnapref3_order_r8_b.eq_1) (And.intro @C.catnapref3_order_r17_b.eq_1 @C.catnapref3_order_r16_b.eq_1)) (And.intro (And.intro @C.catnapref3_order_r15_b.eq_1 @C.catnapref3_order_r14_b.eq_1) (And.intro @C.catnapref3_order_r12_b.eq_1 (And.intro @C.catnapref3_order_r13_b.eq_1 @C.catnapref3_order_r11_b.eq_1)))) (And.intro (And.intro (And.intro @C.catnapref3_order_r10_b.eq_1 @C.catnapref3_order_r9_b.eq_1) (And.intro @C.catnapref3_order_r7_b.eq_1 (And.intro @C.catnapref3_order_r6_b.eq_1 @C.catnapref3_order_r5_b.eq_1))) (And.intro (And.intro @C.catnapref3_order_r4_b.eq_1 @C.catnapref3_order_r3_b.eq_1) (And.intro @C.catnapref3_order_r2_b.eq_1 (And.intro @C.catnapref3_order_r1_b.eq_1 @C.catnapref3_order_r0_b.eq_1))))

def C.graph_numbers_r13_b : List IOper := [
 X.o 2 (.move (X.i 0))]
def C.graph_numbers_r13 : List IOper := C.graph_numbers_r13_b
def C.graph_numbers_r13_w := @aopsE _ _ C.graph_numbers_r13.eq_1
def C.graph_numbers_c1 : ICode := .keep [] (.seq (.region C.graph_numbers_r13) .ret)
def C.graph_numbers_c1_w := @awpE _ _ C.graph_numbers_c1.eq_1
def C.graph_numbers_r12_b : List IOper := [
 X.o 31 (.bin .add (X.s 12) (X.i 1)),
 X.m 12 31]
def C.graph_numbers_r12 : List IOper := C.graph_numbers_r12_b
def C.graph_numbers_r12_w := @aopsE _ _ C.graph_numbers_r12.eq_1
def C.graph_numbers_c2 : ICode := .keep [0, 10, 11, 12] (.region C.graph_numbers_r12)
def C.graph_numbers_c2_w := @awpE _ _ C.graph_numbers_c2.eq_1
def C.graph_numbers_r11_b : List IOper := [
 X.o 30 (.bin .add (X.s 18) (X.i 1)),
 X.m 18 30]
def C.graph_numbers_r11 : List IOper := C.graph_numbers_r11_b
def C.graph_numbers_r11_w := @aopsE _ _ C.graph_numbers_r11.eq_1
def C.graph_numbers_c3 : ICode := .keep [0, 10, 11, 12, 16, 17, 18] (.region C.graph_numbers_r11)
def C.graph_numbers_c3_w := @awpE _ _ C.graph_numbers_c3.eq_1
def C.graph_numbers_r10_b : List IOper := [
 X.o 2 (.move (X.i 4))]
def C.graph_numbers_r10 : List IOper := C.graph_numbers_r10_b
def C.graph_numbers_r10_w := @aopsE _ _ C.graph_numbers_r10.eq_1
def C.graph_numbers_c4 : ICode := .seq (.region C.graph_numbers_r10) .ret
def C.graph_numbers_c4_w := @awpE _ _ C.graph_numbers_c4.eq_1
def C.graph_numbers_c5 : ICode := .keep [0, 10, 11, 12, 16, 17, 18, 29] (.cond (X.s 29) C.graph_numbers_c4 .skip)
def C.graph_numbers_c5_w := @awpE _ _ C.graph_numbers_c5.eq_1
def C.graph_numbers_r9_b : List IOper := [
 X.m 22 6,
 X.o 23 (.bin .lss (X.s 22) (X.i 0)),
 X.m 24 23,
 X.f 24 25 (.move (X.s 6)),
 X.f 24 26 (.move (X.s 0)),
 X.f 24 27 (.len (X.s 26)),
 X.f 24 28 (.bin .geq (X.s 25) (X.s 27)),
 X.o 29 (.pick (X.s 24) (.cst (.bool true)) (X.s 28))]
def C.graph_numbers_r9 : List IOper := C.graph_numbers_r9_b
def C.graph_numbers_r9_w := @aopsE _ _ C.graph_numbers_r9.eq_1
def C.graph_numbers_c6 : ICode := .keep [0, 6, 10, 11, 12, 16, 17, 18] (.seq (.region C.graph_numbers_r9) C.graph_numbers_c5)
def C.graph_numbers_c6_w := @awpE _ _ C.graph_numbers_c6.eq_1
def C.graph_numbers_r8_b : List IOper := [
 X.o 20 (.idxAddr 1 (X.s 16) (X.s 18)),
 X.o 21 (.load1 (X.s 20)),
 X.m 6 21]
def C.graph_numbers_r8 : List IOper := C.graph_numbers_r8_b
def C.graph_numbers_r8_w := @aopsE _ _ C.graph_numbers_r8.eq_1
def C.graph_numbers_b7 : ICode := .seq (.region C.graph_numbers_r8) C.graph_numbers_c6
def C.graph_numbers_b7_w := @awpE _ _ C.graph_numbers_b7.eq_1
def C.graph_numbers_c8 : ICode := .keep [0, 10, 11, 12, 16, 17, 18] (.seq (.block 3 C.graph_numbers_b7) C.graph_numbers_c3)
def C.graph_numbers_c8_w := @awpE _ _ C.graph_numbers_c8.eq_1
def C.graph_numbers_c9 : ICode := .keep [0, 10, 11, 12, 16, 17, 18, 19] (.seq (.cond (X.s 19) .skip (.exit 2)) C.graph_numbers_c8)
def C.graph_numbers_c9_w := @awpE _ _ C.graph_numbers_c9.eq_1
def C.graph_numbers_r7_b : List IOper := [
 X.o 19 (.bin .lss (X.s 18) (X.s 17))]
def C.graph_numbers_r7 : List IOper := C.graph_numbers_r7_b
def C.graph_numbers_r7_w := @aopsE _ _ C.graph_numbers_r7.eq_1
def C.graph_numbers_l10 : ICode := .keep [0, 10, 11, 12, 16, 17, 18] (.seq (.region C.graph_numbers_r7) C.graph_numbers_c9)
def C.graph_numbers_l10_w := @awpE _ _ C.graph_numbers_l10.eq_1
def C.graph_numbers_b11 : ICode := .loop C.graph_numbers_l10
def C.graph_numbers_b11_w := @awpE _ _ C.graph_numbers_b11.eq_1
def C.graph_numbers_c12 : ICode := .keep [0, 10, 11, 12, 16, 17, 18] (.block 2 C.graph_numbers_b11)
def C.graph_numbers_c12_w := @awpE _ _ C.graph_numbers_c12.eq_1
def C.graph_numbers_r6_b : List IOper := [
 X.m 16 4,
 X.o 17 (.len (X.s 16)),
 X.o 18 (.move (X.i 0))]
def C.graph_numbers_r6 : List IOper := C.graph_numbers_r6_b
def C.graph_numbers_r6_w := @aopsE _ _ C.graph_numbers_r6.eq_1
def C.graph_numbers_c13 : ICode := .keep [0, 4, 10, 11, 12] (.seq (.region C.graph_numbers_r6) C.graph_numbers_c12)
def C.graph_numbers_c13_w := @awpE _ _ C.graph_numbers_c13.eq_1
def C.graph_numbers_r5_b : List IOper := [
 X.o 14 (.idxAddr 1 (X.s 10) (X.s 12)),
 X.o 15 (.load1 (X.s 14)),
 X.m 4 15]
def C.graph_numbers_r5 : List IOper := C.graph_numbers_r5_b
def C.graph_numbers_r5_w := @aopsE _ _ C.graph_numbers_r5.eq_1
def C.graph_numbers_b14 : ICode := .seq (.region C.graph_numbers_r5) C.graph_numbers_c13
def C.graph_numbers_b14_w := @awpE _ _ C.graph_numbers_b14.eq_1
def C.graph_numbers_c15 : ICode := .keep [0, 10, 11, 12] (.seq (.block 1 C.graph_numbers_b14) C.graph_numbers_c2)
def C.graph_numbers_c15_w := @awpE _ _ C.graph_numbers_c15.eq_1
def C.graph_numbers_c16 : ICode := .keep [0, 10, 11, 12, 13] (.seq (.cond (X.s 13) .skip (.exit 0)) C.graph_numbers_c15)
def C.graph_numbers_c16_w := @awpE _ _ C.graph_numbers_c16.eq_1
def C.graph_numbers_r4_b : List IOper := [
 X.o 13 (.bin .lss (X.s 12) (X.s 11))]
def C.graph_numbers_r4 : List IOper := C.graph_numbers_r4_b
def C.graph_numbers_r4_w := @aopsE _ _ C.graph_numbers_r4.eq_1
def C.graph_numbers_l17 : ICode := .keep [0, 10, 11, 12] (.seq (.region C.graph_numbers_r4) C.graph_numbers_c16)
def C.graph_numbers_l17_w := @awpE _ _ C.graph_numbers_l17.eq_1
def C.graph_numbers_b18 : ICode := .loop C.graph_numbers_l17
def C.graph_numbers_b18_w := @awpE _ _ C.graph_numbers_b18.eq_1
def C.graph_numbers_c19 : ICode := .keep [0, 10, 11, 12] (.block 0 C.graph_numbers_b18)
def C.graph_numbers_c19_w := @awpE _ _ C.graph_numbers_c19.eq_1
def C.graph_numbers_r3_b : List IOper := [
 X.m 10 0,
 X.o 11 (.len (X.s 10)),
 X.o 12 (.move (X.i 0))]
def C.graph_numbers_r3 : List IOper := C.graph_numbers_r3_b
def C.graph_numbers_r3_w := @aopsE _ _ C.graph_numbers_r3.eq_1
def C.graph_numbers_c20 : ICode := .keep [0] (.seq (.seq (.region C.graph_numbers_r3) C.graph_numbers_c19) C.graph_numbers_c1)
def C.graph_numbers_c20_w := @awpE _ _ C.graph_numbers_c20.eq_1
def C.graph_numbers_r2_b : List IOper := [
 X.o 2 (.move (X.i 1))]
def C.graph_numbers_r2 : List IOper := C.graph_numbers_r2_b
def C.graph_numbers_r2_w := @aopsE _ _ C.graph_numbers_r2.eq_1
def C.graph_numbers_c21 : ICode := .seq (.region C.graph_numbers_r2) .ret
def C.graph_numbers_c21_w := @awpE _ _ C.graph_numbers_c21.eq_1
def C.graph_numbers_c22 : ICode := .keep [0, 9] (.cond (X.s 9) C.graph_numbers_c21 .skip)
def C.graph_numbers_c22_w := @awpE _ _ C.graph_numbers_c22.eq_1
def C.graph_numbers_r1_b : List IOper := [
 X.m 7 0,
 X.o 8 (.len (X.s 7)),
 X.o 9 (.bin .gtr (X.s 8) (X.i 100))]
def C.graph_numbers_r1 : List IOper := C.graph_numbers_r1_b
def C.graph_numbers_r1_w := @aopsE _ _ C.graph_numbers_r1.eq_1
def C.graph_numbers_c23 : ICode := .keep [0] (.seq (.seq (.region C.graph_numbers_r1) C.graph_numbers_c22) C.graph_numbers_c20)
def C.graph_numbers_c23_w := @awpE _ _ C.graph_numbers_c23.eq_1
def C.graph_numbers_r0_b : List IOper := [
 X.o 2 (.move (X.i 0))]
def C.graph_numbers_r0 : List IOper := C.graph_numbers_r0_b
def C.graph_numbers_r0_w := @aopsE _ _ C.graph_numbers_r0.eq_1
def C.graph_numbers : IFunc := ⟨1, [.slot 2], .seq (.region C.graph_numbers_r0) C.graph_numbers_c23⟩
def C.graph_numbers_W := And.intro (And.intro (And.intro (And.intro (And.intro @C.graph_numbers_r13_w @C.graph_numbers_c1_w) (And.intro @C.graph_numbers_r12_w @C.graph_numbers_c2_w)) (And.intro (And.intro @C.graph_numbers_r11_w @C.graph_numbers_c3_w) (And.intro @C.graph_numbers_r10_w @C.graph_numbers_c4_w))) (And.intro (And.intro (And.intro @C.graph_numbers_c5_w @C.graph_numbers_r9_w) (And.intro @C.graph_numbers_c6_w @C.graph_numbers_r8_w)) (And.intro (And.intro @C.graph_numbers_b7_w @C.graph_numbers_c8_w) (And.intro @C.graph_numbers_c9_w (And.intro @C.graph_numbers_r7_w @C.graph_numbers_b11_w))))) (And.intro (And.intro (And.intro (And.intro @C.graph_numbers_c12_w @C.graph_numbers_r6_w) (And.intro @C.graph_numbers_c13_w @C.graph_numbers_r5_w)) (And.intro (And.intro @C.graph_numbers_b14_w @C.graph_numbers_c15_w) (And.intro @C.graph_numbers_c16_w (And.intro @C.graph_numbers_r4_w @C.graph_numbers_b18_w)))) (And.intro (And.intro (And.intro @C.graph_numbers_c19_w @C.graph_numbers_r3_w) (And.intro @C.graph_numbers_c20_w @C.graph_numbers_r2_w)) (And.intro (And.intro @C.graph_numbers_c21_w @C.graph_numbers_c22_w) (And.intro @C.graph_numbers_r1_w (And.intro @C.graph_numbers_c23_w @C.graph_numbers_r0_w)))))
def C.graph_numbers_B := And.intro (And.intro (And.intro @C.graph_numbers_r13_b.eq_1 (And.intro @C.graph_numbers_r12_b.eq_1 @C.graph_numbers_r11_b.eq_1)) (And.intro (And.intro @C.graph_numbers_r10_b.eq_1 @C.graph_numbers_r9_b.eq_1) (And.intro @C.graph_numbers_r8_b.eq_1 @C.graph_numbers_r7_b.eq_1))) (And.intro (And.intro @C.graph_numbers_r6_b.eq_1 (And.intro @C.graph_numbers_r5_b.eq_1 @C.graph_numbers_r4_b.eq_1)) (And.intro (And.intro @C.graph_numbers_r3_b.eq_1 @C.graph_numbers_r2_b.eq_1) (And.intro @C.graph_numbers_r1_b.eq_1 @C.graph_numbers_r0_b.eq_1)))

def C.graph_hang_r16_b : List IOper := [
 X.m 53 2,
 X.m 54 3,
 X.m 2 53,
 X.m 3 54]
def C.graph_hang_r16 : List IOper := C.graph_hang_r16_b
def C.graph_hang_r16_w := @aopsE _ _ C.graph_hang_r16.eq_1
def C.graph_hang_c1 : ICode := .keep [2, 3] (.seq (.region C.graph_hang_r16) .ret)
def C.graph_hang_c1_w := @awpE _ _ C.graph_hang_c1.eq_1
def C.graph_hang_r15_b : List IOper := [
 X.o 52 (.bin .add (X.s 17) (X.i 1)),
 X.m 17 52]
def C.graph_hang_r15 : List IOper := C.graph_hang_r15_b
def C.graph_hang_r15_w := @aopsE _ _ C.graph_hang_r15.eq_1
def C.graph_hang_c2 : ICode := .keep [2, 3, 15, 16, 17] (.region C.graph_hang_r15)
def C.graph_hang_c2_w := @awpE _ _ C.graph_hang_c2.eq_1
def C.graph_hang_r14_b : List IOper := [
 X.o 51 (.bin .add (X.s 25) (X.i 1)),
 X.m 25 51]
def C.graph_hang_r14 : List IOper := C.graph_hang_r14_b
def C.graph_hang_r14_w := @aopsE _ _ C.graph_hang_r14.eq_1
def C.graph_hang_c3 : ICode := .keep [2, 3, 4, 6, 15, 16, 17, 23, 24, 25] (.region C.graph_hang_r14)
def C.graph_hang_c3_w := @awpE _ _ C.graph_hang_c3.eq_1
def C.graph_hang_r13_b : List IOper := [
 X.m 41 3,
 X.m 42 8,
 X.m 43 3,
 X.m 44 8,
 X.o 45 (.idxAddr 1 (X.s 43) (X.s 44)),
 X.o 46 (.load1 (X.s 45)),
 X.m 47 4,
 X.o 48 (.buildSlice 1 1 [.int .i64 0] [(0, 1, X.s 47)]),
 X.o 49 (.append 1 8 (X.s 46) (X.s 48)),
 X.o 50 (.idxAddr 1 (X.s 41) (X.s 42)),
 X.n (.store1 (X.s 50) (X.s 49))]
def C.graph_hang_r13 : List IOper := C.graph_hang_r13_b
def C.graph_hang_r13_w := @aopsE _ _ C.graph_hang_r13.eq_1
def C.graph_hang_c4 : ICode := .keep [2, 3, 4, 6, 8, 15, 16, 17, 23, 24, 25] (.region C.graph_hang_r13)
def C.graph_hang_c4_w := @awpE _ _ C.graph_hang_c4.eq_1
def C.graph_hang_r12_b : List IOper := [
 X.m 35 2,
 X.m 36 4,
 X.o 37 (.idxAddr 1 (X.s 35) (X.s 36)),
 X.o 38 (.load1 (X.s 37)),
 X.o 39 (.bin .add (X.s 38) (X.i 1)),
 X.o 40 (.idxAddr 1 (X.s 35) (X.s 36)),
 X.n (.store1 (X.s 40) (X.s 39))]
def C.graph_hang_r12 : List IOper := C.graph_hang_r12_b
def C.graph_hang_r12_w := @aopsE _ _ C.graph_hang_r12.eq_1
def C.graph_hang_c5 : ICode := .keep [2, 3, 4, 6, 8, 15, 16, 17, 23, 24, 25] (.seq (.region C.graph_hang_r12) C.graph_hang_c4)
def C.graph_hang_c5_w := @awpE _ _ C.graph_hang_c5.eq_1
def C.graph_hang_r11_b : List IOper := [
 X.m 32 6,
 X.m 33 8,
 X.o 34 (.call F.graph_marks_add [X.s 32, X.s 33])]
def C.graph_hang_r11 : List IOper := C.graph_hang_r11_b
def C.graph_hang_r11_w := @aopsE _ _ C.graph_hang_r11.eq_1
def C.graph_hang_c6 : ICode := .keep [2, 3, 4, 6, 8, 15, 16, 17, 23, 24, 25] (.seq (.region C.graph_hang_r11) C.graph_hang_c5)
def C.graph_hang_c6_w := @awpE _ _ C.graph_hang_c6.eq_1
def C.graph_hang_c7 : ICode := .keep [2, 3, 4, 6, 8, 15, 16, 17, 23, 24, 25, 31] (.cond (X.s 31) (.exit 3) .skip)
def C.graph_hang_c7_w := @awpE _ _ C.graph_hang_c7.eq_1
def C.graph_hang_r10_b : List IOper := [
 X.m 29 6,
 X.m 30 8,
 X.o 31 (.call F.graph_marks_has [X.s 29, X.s 30])]
def C.graph_hang_r10 : List IOper := C.graph_hang_r10_b
def C.graph_hang_r10_w := @aopsE _ _ C.graph_hang_r10.eq_1
def C.graph_hang_c8 : ICode := .keep [2, 3, 4, 6, 8, 15, 16, 17, 23, 24, 25] (.seq (.seq (.region C.graph_hang_r10) C.graph_hang_c7) C.graph_hang_c6)
def C.graph_hang_c8_w := @awpE _ _ C.graph_hang_c8.eq_1
def C.graph_hang_r9_b : List IOper := [
 X.o 27 (.idxAddr 1 (X.s 23) (X.s 25)),
 X.o 28 (.load1 (X.s 27)),
 X.m 8 28]
def C.graph_hang_r9 : List IOper := C.graph_hang_r9_b
def C.graph_hang_r9_w := @aopsE _ _ C.graph_hang_r9.eq_1
def C.graph_hang_b9 : ICode := .seq (.region C.graph_hang_r9) C.graph_hang_c8
def C.graph_hang_b9_w := @awpE _ _ C.graph_hang_b9.eq_1
def C.graph_hang_c10 : ICode := .keep [2, 3, 4, 6, 15, 16, 17, 23, 24, 25] (.seq (.block 3 C.graph_hang_b9) C.graph_hang_c3)
def C.graph_hang_c10_w := @awpE _ _ C.graph_hang_c10.eq_1
def C.graph_hang_c11 : ICode := .keep [2, 3, 4, 6, 15, 16, 17, 23, 24, 25, 26] (.seq (.cond (X.s 26) .skip (.exit 2)) C.graph_hang_c10)
def C.graph_hang_c11_w := @awpE _ _ C.graph_hang_c11.eq_1
def C.graph_hang_r8_b : List IOper := [
 X.o 26 (.bin .lss (X.s 25) (X.s 24))]
def C.graph_hang_r8 : List IOper := C.graph_hang_r8_b
def C.graph_hang_r8_w := @aopsE _ _ C.graph_hang_r8.eq_1
def C.graph_hang_l12 : ICode := .keep [2, 3, 4, 6, 15, 16, 17, 23, 24, 25] (.seq (.region C.graph_hang_r8) C.graph_hang_c11)
def C.graph_hang_l12_w := @awpE _ _ C.graph_hang_l12.eq_1
def C.graph_hang_b13 : ICode := .loop C.graph_hang_l12
def C.graph_hang_b13_w := @awpE _ _ C.graph_hang_b13.eq_1
def C.graph_hang_c14 : ICode := .keep [2, 3, 4, 6, 15, 16, 17, 23, 24, 25] (.block 2 C.graph_hang_b13)
def C.graph_hang_c14_w := @awpE _ _ C.graph_hang_c14.eq_1
def C.graph_hang_r7_b : List IOper := [
 X.m 23 5,
 X.o 24 (.len (X.s 23)),
 X.o 25 (.move (X.i 0))]
def C.graph_hang_r7 : List IOper := C.graph_hang_r7_b
def C.graph_hang_r7_w := @aopsE _ _ C.graph_hang_r7.eq_1
def C.graph_hang_c15 : ICode := .keep [2, 3, 4, 5, 6, 15, 16, 17] (.seq (.region C.graph_hang_r7) C.graph_hang_c14)
def C.graph_hang_c15_w := @awpE _ _ C.graph_hang_c15.eq_1
def C.graph_hang_r6_b : List IOper := [
 X.o 22 (.makeMap none),
 X.m 6 22]
def C.graph_hang_r6 : List IOper := C.graph_hang_r6_b
def C.graph_hang_r6_w := @aopsE _ _ C.graph_hang_r6.eq_1
def C.graph_hang_c16 : ICode := .keep [2, 3, 4, 5, 15, 16, 17] (.seq (.region C.graph_hang_r6) C.graph_hang_c15)
def C.graph_hang_c16_w := @awpE _ _ C.graph_hang_c16.eq_1
def C.graph_hang_r5_b : List IOper := [
 X.m 19 17,
 X.o 20 (.idxAddr 1 (X.s 15) (X.s 17)),
 X.o 21 (.load1 (X.s 20)),
 X.m 4 19,
 X.m 5 21]
def C.graph_hang_r5 : List IOper := C.graph_hang_r5_b
def C.graph_hang_r5_w := @aopsE _ _ C.graph_hang_r5.eq_1
def C.graph_hang_b17 : ICode := .seq (.region C.graph_hang_r5) C.graph_hang_c16
def C.graph_hang_b17_w := @awpE _ _ C.graph_hang_b17.eq_1
def C.graph_hang_c18 : ICode := .keep [2, 3, 15, 16, 17] (.seq (.block 1 C.graph_hang_b17) C.graph_hang_c2)
def C.graph_hang_c18_w := @awpE _ _ C.graph_hang_c18.eq_1
def C.graph_hang_c19 : ICode := .keep [2, 3, 15, 16, 17, 18] (.seq (.cond (X.s 18) .skip (.exit 0)) C.graph_hang_c18)
def C.graph_hang_c19_w := @awpE _ _ C.graph_hang_c19.eq_1
def C.graph_hang_r4_b : List IOper := [
 X.o 18 (.bin .lss (X.s 17) (X.s 16))]
def C.graph_hang_r4 : List IOper := C.graph_hang_r4_b
def C.graph_hang_r4_w := @aopsE _ _ C.graph_hang_r4.eq_1
def C.graph_hang_l20 : ICode := .keep [2, 3, 15, 16, 17] (.seq (.region C.graph_hang_r4) C.graph_hang_c19)
def C.graph_hang_l20_w := @awpE _ _ C.graph_hang_l20.eq_1
def C.graph_hang_b21 : ICode := .loop C.graph_hang_l20
def C.graph_hang_b21_w := @awpE _ _ C.graph_hang_b21.eq_1
def C.graph_hang_c22 : ICode := .keep [2, 3, 15, 16, 17] (.block 0 C.graph_hang_b21)
def C.graph_hang_c22_w := @awpE _ _ C.graph_hang_c22.eq_1
def C.graph_hang_r3_b : List IOper := [
 X.m 15 0,
 X.o 16 (.len (X.s 15)),
 X.o 17 (.move (X.i 0))]
def C.graph_hang_r3 : List IOper := C.graph_hang_r3_b
def C.graph_hang_r3_w := @aopsE _ _ C.graph_hang_r3.eq_1
def C.graph_hang_c23 : ICode := .keep [0, 2, 3] (.seq (.seq (.region C.graph_hang_r3) C.graph_hang_c22) C.graph_hang_c1)
def C.graph_hang_c23_w := @awpE _ _ C.graph_hang_c23.eq_1
def C.graph_hang_r2_b : List IOper := [
 X.m 12 0,
 X.o 13 (.len (X.s 12)),
 X.o 14 (.makeSlice 1 24 [.nils] (X.s 13) (X.s 13)),
 X.m 3 14]
def C.graph_hang_r2 : List IOper := C.graph_hang_r2_b
def C.graph_hang_r2_w := @aopsE _ _ C.graph_hang_r2.eq_1
def C.graph_hang_c24 : ICode := .keep [0, 2] (.seq (.region C.graph_hang_r2) C.graph_hang_c23)
def C.graph_hang_c24_w := @awpE _ _ C.graph_hang_c24.eq_1
def C.graph_hang_r1_b : List IOper := [
 X.m 9 0,
 X.o 10 (.len (X.s 9)),
 X.o 11 (.makeSlice 1 8 [.int .i64 0] (X.s 10) (X.s 10)),
 X.m 2 11]
def C.graph_hang_r1 : List IOper := C.graph_hang_r1_b
def C.graph_hang_r1_w := @aopsE _ _ C.graph_hang_r1.eq_1
def C.graph_hang_c25 : ICode := .keep [0] (.seq (.region C.graph_hang_r1) C.graph_hang_c24)
def C.graph_hang_c25_w := @awpE _ _ C.graph_hang_c25.eq_1
def C.graph_hang_r0_b : List IOper := [
 X.o 2 (.move (.cst (.nils))),
 X.o 3 (.move (.cst (.nils)))]
def C.graph_hang_r0 : List IOper := C.graph_hang_r0_b
def C.graph_hang_r0_w := @aopsE _ _ C.graph_hang_r0.eq_1
def C.graph_hang : IFunc := ⟨1, [.slot 2, .slot 3], .seq (.region C.graph_hang_r0) C.graph_hang_c25⟩
def C.graph_hang_W := And.intro (And.intro (And.intro (And.intro (And.intro @C.graph_hang_r16_w @C.graph_hang_c1_w) (And.intro @C.graph_hang_r15_w (And.intro @C.graph_hang_c2_w @C.graph_hang_r14_w))) (And.intro (And.intro @C.graph_hang_c3_w @C.graph_hang_r13_w) (And.intro @C.graph_hang_c4_w (And.intro @C.graph_hang_r12_w @C.graph_hang_c5_w)))) (And.intro (And.intro (And.intro @C.graph_hang_r11_w @C.graph_hang_c6_w) (And.intro @C.graph_hang_c7_w (And.intro @C.graph_hang_r10_w @C.graph_hang_c8_w))) (And.intro (And.intro @C.graph_hang_r9_w @C.graph_hang_b9_w) (And.intro @C.graph_hang_c10_w (And.intro @C.graph_hang_c11_w @C.graph_hang_r8_w))))) (And.intro (And.intro (And.intro (And.intro @C.graph_hang_b13_w @C.graph_hang_c14_w) (And.intro @C.graph_hang_r7_w (And.intro @C.graph_hang_c15_w @C.graph_hang_r6_w))) (And.intro (And.intro @C.graph_hang_c16_w @C.graph_hang_r5_w) (And.intro @C.graph_hang_b17_w (And.intro @C.graph_hang_c18_w @C.graph_hang_c19_w)))) (And.intro (And.intro (And.intro @C.graph_hang_r4_w @C.graph_hang_b21_w) (And.intro @C.graph_hang_c22_w (And.intro @C.graph_hang_r3_w @C.graph_hang_c23_w))) (And.intro (And.intro @C.graph_hang_r2_w @C.graph_hang_c24_w) (And.intro @C.graph_hang_r1_w (And.intro @C.graph_hang_c25_w @C.graph_hang_r0_w)))))
def C.graph_hang_B := And.intro (And.intro (And.intro (And.intro @C.graph_hang_r16_b.eq_1 @C.graph_hang_r15_b.eq_1) (And.intro @C.graph_hang_r14_b.eq_1 @C.graph_hang_r13_b.eq_1)) (And.intro (And.intro @C.graph_hang_r12_b.eq_1 @C.graph_hang_r11_b.eq_1) (And.intro @C.graph_hang_r10_b.eq_1 @C.graph_hang_r9_b.eq_1))) (And.intro (And.intro (And.intro @C.graph_hang_r8_b.eq_1 @C.graph_hang_r7_b.eq_1) (And.intro @C.graph_hang_r6_b.eq_1 @C.graph_hang_r5_b.eq_1)) (And.intro (And.intro @C.graph_hang_r4_b.eq_1 @C.graph_hang_r3_b.eq_1) (And.intro @C.graph_hang_r2_b.eq_1 (And.intro @C.graph_hang_r1_b.eq_1 @C.graph_hang_r0_b.eq_1))))

def C.graph_marks_has_r2_b : List IOper := [
 X.m 13 6,
 X.m 4 13]
def C.graph_marks_has_r2 : List IOper := C.graph_marks_has_r2_b
def C.graph_marks_has_r2_w := @aopsE _ _ C.graph_marks_has_r2.eq_1
def C.graph_marks_has_c1 : ICode := .keep [6] (.seq (.region C.graph_marks_has_r2) .ret)
def C.graph_marks_has_c1_w := @awpE _ _ C.graph_marks_has_c1.eq_1
def C.graph_marks_has_r1_b : List IOper := [
 X.m 8 0,
 X.m 9 1,
 X.o 10 (.lookup (.agg []) true (X.s 8) (X.s 9)),
 X.m 7 10,
 X.o 11 (.extract (X.s 7) 0),
 X.o 12 (.extract (X.s 7) 1),
 X.o 5 (.alloc []),
 X.n (.storeN 0 (X.s 5) (X.s 11)),
 X.m 6 12]
def C.graph_marks_has_r1 : List IOper := C.graph_marks_has_r1_b
def C.graph_marks_has_r1_w := @aopsE _ _ C.graph_marks_has_r1.eq_1
def C.graph_marks_has_c2 : ICode := .keep [0, 1] (.seq (.region C.graph_marks_has_r1) C.graph_marks_has_c1)
def C.graph_marks_has_c2_w := @awpE _ _ C.graph_marks_has_c2.eq_1
def C.graph_marks_has_r0_b : List IOper := [
 X.o 4 (.move (.cst (.bool false)))]
def C.graph_marks_has_r0 : List IOper := C.graph_marks_has_r0_b
def C.graph_marks_has_r0_w := @aopsE _ _ C.graph_marks_has_r0.eq_1
def C.graph_marks_has : IFunc := ⟨2, [.slot 4], .seq (.region C.graph_marks_has_r0) C.graph_marks_has_c2⟩
def C.graph_marks_has_W := And.intro (And.intro @C.graph_marks_has_r2_w @C.graph_marks_has_c1_w) (And.intro @C.graph_marks_has_r1_w (And.intro @C.graph_marks_has_c2_w @C.graph_marks_has_r0_w))
def C.graph_marks_has_B := And.intro @C.graph_marks_has_r2_b.eq_1 (And.intro @C.graph_marks_has_r1_b.eq_1 @C.graph_marks_has_r0_b.eq_1)

def C.graph_marks_add_r0_b : List IOper := [
 X.m 4 0,
 X.m 5 1,
 X.o 6 (.build [] []),
 X.n (.mapSet (X.s 4) (X.s 5) (X.s 6))]
def C.graph_marks_add_r0 : List IOper := C.graph_marks_add_r0_b
def C.graph_marks_add_r0_w := @aopsE _ _ C.graph_marks_add_r0.eq_1
def C.graph_marks_add : IFunc := ⟨2, [], .region C.graph_marks_add_r0⟩
def C.graph_marks_add_W := @C.graph_marks_add_r0_w
def C.graph_marks_add_B := @C.graph_marks_add_r0_b.eq_1

end Go.Proofs.Ytkabdilikndhbaa.Cn
