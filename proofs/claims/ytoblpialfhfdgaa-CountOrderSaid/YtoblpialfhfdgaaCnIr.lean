/- The intermediate code of the functions, printed by a program out of the loaded program; that it is theirs is checked in the text of links. -/
import Derived.Test.YtoblpialfhfdgaaCnIr2
set_option linter.defProp false
namespace Go.Proofs.Ytoblpialfhfdgaa.Cn
open Go
variable {P : Program} {Q : IExit → AFr → ASt → Prop} {fr : AFr} {st : ASt}


def C.graph_numbers_r13_b : List IOper := [
 X.o 2 (.move (X.i 0))]
def C.graph_numbers_r13 : List IOper := C.graph_numbers_r13_b
def C.graph_numbers_r13_w := @aopsE _ _ C.graph_numbers_r13.eq_1
def C.graph_numbers_c1 : ICode := .keep [] (.seq (.region C.graph_numbers_r13) .ret)
def C.graph_numbers_c1_w := @awpE _ _ C.graph_numbers_c1.eq_1
def C.graph_numbers_r12_b : List IOper := [
 X.o 31 (.bin .add (X.s 12) (X.i 1)),
 X.m 12 31]
def C.graph_numbers_r12 : List IOper := C.graph_numbers_r12_b
def C.graph_numbers_r12_w := @aopsE _ _ C.graph_numbers_r12.eq_1
def C.graph_numbers_c2 : ICode := .keep [0, 10, 11, 12] (.region C.graph_numbers_r12)
def C.graph_numbers_c2_w := @awpE _ _ C.graph_numbers_c2.eq_1
def C.graph_numbers_r11_b : List IOper := [
 X.o 30 (.bin .add (X.s 18) (X.i 1)),
 X.m 18 30]
def C.graph_numbers_r11 : List IOper := C.graph_numbers_r11_b
def C.graph_numbers_r11_w := @aopsE _ _ C.graph_numbers_r11.eq_1
def C.graph_numbers_c3 : ICode := .keep [0, 10, 11, 12, 16, 17, 18] (.region C.graph_numbers_r11)
def C.graph_numbers_c3_w := @awpE _ _ C.graph_numbers_c3.eq_1
def C.graph_numbers_r10_b : List IOper := [
 X.o 2 (.move (X.i 4))]
def C.graph_numbers_r10 : List IOper := C.graph_numbers_r10_b
def C.graph_numbers_r10_w := @aopsE _ _ C.graph_numbers_r10.eq_1
def C.graph_numbers_c4 : ICode := .seq (.region C.graph_numbers_r10) .ret
def C.graph_numbers_c4_w := @awpE _ _ C.graph_numbers_c4.eq_1
def C.graph_numbers_c5 : ICode := .keep [0, 10, 11, 12, 16, 17, 18, 29] (.cond (X.s 29) C.graph_numbers_c4 .skip)
def C.graph_numbers_c5_w := @awpE _ _ C.graph_numbers_c5.eq_1
def C.graph_numbers_r9_b : List IOper := [
 X.m 22 6,
 X.o 23 (.bin .lss (X.s 22) (X.i 0)),
 X.m 24 23,
 X.f 24 25 (.move (X.s 6)),
 X.f 24 26 (.move (X.s 0)),
 X.f 24 27 (.len (X.s 26)),
 X.f 24 28 (.bin .geq (X.s 25) (X.s 27)),
 X.o 29 (.pick (X.s 24) (.cst (.bool true)) (X.s 28))]
def C.graph_numbers_r9 : List IOper := C.graph_numbers_r9_b
def C.graph_numbers_r9_w := @aopsE _ _ C.graph_numbers_r9.eq_1
def C.graph_numbers_c6 : ICode := .keep [0, 6, 10, 11, 12, 16, 17, 18] (.seq (.region C.graph_numbers_r9) C.graph_numbers_c5)
def C.graph_numbers_c6_w := @awpE _ _ C.graph_numbers_c6.eq_1
def C.graph_numbers_r8_b : List IOper := [
 X.o 20 (.idxAddr 1 (X.s 16) (X.s 18)),
 X.o 21 (.load1 (X.s 20)),
 X.m 6 21]
def C.graph_numbers_r8 : List IOper := C.graph_numbers_r8_b
def C.graph_numbers_r8_w := @aopsE _ _ C.graph_numbers_r8.eq_1
def C.graph_numbers_b7 : ICode := .seq (.region C.graph_numbers_r8) C.graph_numbers_c6
def C.graph_numbers_b7_w := @awpE _ _ C.graph_numbers_b7.eq_1
def C.graph_numbers_c8 : ICode := .keep [0, 10, 11, 12, 16, 17, 18] (.seq (.block 3 C.graph_numbers_b7) C.graph_numbers_c3)
def C.graph_numbers_c8_w := @awpE _ _ C.graph_numbers_c8.eq_1
def C.graph_numbers_c9 : ICode := .keep [0, 10, 11, 12, 16, 17, 18, 19] (.seq (.cond (X.s 19) .skip (.exit 2)) C.graph_numbers_c8)
def C.graph_numbers_c9_w := @awpE _ _ C.graph_numbers_c9.eq_1
def C.graph_numbers_r7_b : List IOper := [
 X.o 19 (.bin .lss (X.s 18) (X.s 17))]
def C.graph_numbers_r7 : List IOper := C.graph_numbers_r7_b
def C.graph_numbers_r7_w := @aopsE _ _ C.graph_numbers_r7.eq_1
def C.graph_numbers_l10 : ICode := .keep [0, 10, 11, 12, 16, 17, 18] (.seq (.region C.graph_numbers_r7) C.graph_numbers_c9)
def C.graph_numbers_l10_w := @awpE _ _ C.graph_numbers_l10.eq_1
def C.graph_numbers_b11 : ICode := .loop C.graph_numbers_l10
def C.graph_numbers_b11_w := @awpE _ _ C.graph_numbers_b11.eq_1
def C.graph_numbers_c12 : ICode := .keep [0, 10, 11, 12, 16, 17, 18] (.block 2 C.graph_numbers_b11)
def C.graph_numbers_c12_w := @awpE _ _ C.graph_numbers_c12.eq_1
def C.graph_numbers_r6_b : List IOper := [
 X.m 16 4,
 X.o 17 (.len (X.s 16)),
 X.o 18 (.move (X.i 0))]
def C.graph_numbers_r6 : List IOper := C.graph_numbers_r6_b
def C.graph_numbers_r6_w := @aopsE _ _ C.graph_numbers_r6.eq_1
def C.graph_numbers_c13 : ICode := .keep [0, 4, 10, 11, 12] (.seq (.region C.graph_numbers_r6) C.graph_numbers_c12)
def C.graph_numbers_c13_w := @awpE _ _ C.graph_numbers_c13.eq_1
def C.graph_numbers_r5_b : List IOper := [
 X.o 14 (.idxAddr 1 (X.s 10) (X.s 12)),
 X.o 15 (.load1 (X.s 14)),
 X.m 4 15]
def C.graph_numbers_r5 : List IOper := C.graph_numbers_r5_b
def C.graph_numbers_r5_w := @aopsE _ _ C.graph_numbers_r5.eq_1
def C.graph_numbers_b14 : ICode := .seq (.region C.graph_numbers_r5) C.graph_numbers_c13
def C.graph_numbers_b14_w := @awpE _ _ C.graph_numbers_b14.eq_1
def C.graph_numbers_c15 : ICode := .keep [0, 10, 11, 12] (.seq (.block 1 C.graph_numbers_b14) C.graph_numbers_c2)
def C.graph_numbers_c15_w := @awpE _ _ C.graph_numbers_c15.eq_1
def C.graph_numbers_c16 : ICode := .keep [0, 10, 11, 12, 13] (.seq (.cond (X.s 13) .skip (.exit 0)) C.graph_numbers_c15)
def C.graph_numbers_c16_w := @awpE _ _ C.graph_numbers_c16.eq_1
def C.graph_numbers_r4_b : List IOper := [
 X.o 13 (.bin .lss (X.s 12) (X.s 11))]
def C.graph_numbers_r4 : List IOper := C.graph_numbers_r4_b
def C.graph_numbers_r4_w := @aopsE _ _ C.graph_numbers_r4.eq_1
def C.graph_numbers_l17 : ICode := .keep [0, 10, 11, 12] (.seq (.region C.graph_numbers_r4) C.graph_numbers_c16)
def C.graph_numbers_l17_w := @awpE _ _ C.graph_numbers_l17.eq_1
def C.graph_numbers_b18 : ICode := .loop C.graph_numbers_l17
def C.graph_numbers_b18_w := @awpE _ _ C.graph_numbers_b18.eq_1
def C.graph_numbers_c19 : ICode := .keep [0, 10, 11, 12] (.block 0 C.graph_numbers_b18)
def C.graph_numbers_c19_w := @awpE _ _ C.graph_numbers_c19.eq_1
def C.graph_numbers_r3_b : List IOper := [
 X.m 10 0,
 X.o 11 (.len (X.s 10)),
 X.o 12 (.move (X.i 0))]
def C.graph_numbers_r3 : List IOper := C.graph_numbers_r3_b
def C.graph_numbers_r3_w := @aopsE _ _ C.graph_numbers_r3.eq_1
def C.graph_numbers_c20 : ICode := .keep [0] (.seq (.seq (.region C.graph_numbers_r3) C.graph_numbers_c19) C.graph_numbers_c1)
def C.graph_numbers_c20_w := @awpE _ _ C.graph_numbers_c20.eq_1
def C.graph_numbers_r2_b : List IOper := [
 X.o 2 (.move (X.i 1))]
def C.graph_numbers_r2 : List IOper := C.graph_numbers_r2_b
def C.graph_numbers_r2_w := @aopsE _ _ C.graph_numbers_r2.eq_1
def C.graph_numbers_c21 : ICode := .seq (.region C.graph_numbers_r2) .ret
def C.graph_numbers_c21_w := @awpE _ _ C.graph_numbers_c21.eq_1
def C.graph_numbers_c22 : ICode := .keep [0, 9] (.cond (X.s 9) C.graph_numbers_c21 .skip)
def C.graph_numbers_c22_w := @awpE _ _ C.graph_numbers_c22.eq_1
def C.graph_numbers_r1_b : List IOper := [
 X.m 7 0,
 X.o 8 (.len (X.s 7)),
 X.o 9 (.bin .gtr (X.s 8) (X.i 100))]
def C.graph_numbers_r1 : List IOper := C.graph_numbers_r1_b
def C.graph_numbers_r1_w := @aopsE _ _ C.graph_numbers_r1.eq_1
def C.graph_numbers_c23 : ICode := .keep [0] (.seq (.seq (.region C.graph_numbers_r1) C.graph_numbers_c22) C.graph_numbers_c20)
def C.graph_numbers_c23_w := @awpE _ _ C.graph_numbers_c23.eq_1
def C.graph_numbers_r0_b : List IOper := [
 X.o 2 (.move (X.i 0))]
def C.graph_numbers_r0 : List IOper := C.graph_numbers_r0_b
def C.graph_numbers_r0_w := @aopsE _ _ C.graph_numbers_r0.eq_1
def C.graph_numbers : IFunc := ⟨1, [.slot 2], .seq (.region C.graph_numbers_r0) C.graph_numbers_c23⟩
def C.graph_numbers_W := And.intro (And.intro (And.intro (And.intro (And.intro @C.graph_numbers_r13_w @C.graph_numbers_c1_w) (And.intro @C.graph_numbers_r12_w @C.graph_numbers_c2_w)) (And.intro (And.intro @C.graph_numbers_r11_w @C.graph_numbers_c3_w) (And.intro @C.graph_numbers_r10_w @C.graph_numbers_c4_w))) (And.intro (And.intro (And.intro @C.graph_numbers_c5_w @C.graph_numbers_r9_w) (And.intro @C.graph_numbers_c6_w @C.graph_numbers_r8_w)) (And.intro (And.intro @C.graph_numbers_b7_w @C.graph_numbers_c8_w) (And.intro @C.graph_numbers_c9_w (And.intro @C.graph_numbers_r7_w @C.graph_numbers_b11_w))))) (And.intro (And.intro (And.intro (And.intro @C.graph_numbers_c12_w @C.graph_numbers_r6_w) (And.intro @C.graph_numbers_c13_w @C.graph_numbers_r5_w)) (And.intro (And.intro @C.graph_numbers_b14_w @C.graph_numbers_c15_w) (And.intro @C.graph_numbers_c16_w (And.intro @C.graph_numbers_r4_w @C.graph_numbers_b18_w)))) (And.intro (And.intro (And.intro @C.graph_numbers_c19_w @C.graph_numbers_r3_w) (And.intro @C.graph_numbers_c20_w @C.graph_numbers_r2_w)) (And.intro (And.intro @C.graph_numbers_c21_w @C.graph_numbers_c22_w) (And.intro @C.graph_numbers_r1_w (And.intro @C.graph_numbers_c23_w @C.graph_numbers_r0_w)))))
def C.graph_numbers_B := And.intro (And.intro (And.intro @C.graph_numbers_r13_b.eq_1 (And.intro @C.graph_numbers_r12_b.eq_1 @C.graph_numbers_r11_b.eq_1)) (And.intro (And.intro @C.graph_numbers_r10_b.eq_1 @C.graph_numbers_r9_b.eq_1) (And.intro @C.graph_numbers_r8_b.eq_1 @C.graph_numbers_r7_b.eq_1))) (And.intro (And.intro @C.graph_numbers_r6_b.eq_1 (And.intro @C.graph_numbers_r5_b.eq_1 @C.graph_numbers_r4_b.eq_1)) (And.intro (And.intro @C.graph_numbers_r3_b.eq_1 @C.graph_numbers_r2_b.eq_1) (And.intro @C.graph_numbers_r1_b.eq_1 @C.graph_numbers_r0_b.eq_1)))

def C.graph_hang_r16_b : List IOper := [
 X.m 53 2,
 X.m 54 3,
 X.m 2 53,
 X.m 3 54]
def C.graph_hang_r16 : List IOper := C.graph_hang_r16_b
def C.graph_hang_r16_w := @aopsE _ _ C.graph_hang_r16.eq_1
def C.graph_hang_c1 : ICode := .keep [2, 3] (.seq (.region C.graph_hang_r16) .ret)
def C.graph_hang_c1_w := @awpE _ _ C.graph_hang_c1.eq_1
def C.graph_hang_r15_b : List IOper := [
 X.o 52 (.bin .add (X.s 17) (X.i 1)),
 X.m 17 52]
def C.graph_hang_r15 : List IOper := C.graph_hang_r15_b
def C.graph_hang_r15_w := @aopsE _ _ C.graph_hang_r15.eq_1
def C.graph_hang_c2 : ICode := .keep [2, 3, 15, 16, 17] (.region C.graph_hang_r15)
def C.graph_hang_c2_w := @awpE _ _ C.graph_hang_c2.eq_1
def C.graph_hang_r14_b : List IOper := [
 X.o 51 (.bin .add (X.s 25) (X.i 1)),
 X.m 25 51]
def C.graph_hang_r14 : List IOper := C.graph_hang_r14_b
def C.graph_hang_r14_w := @aopsE _ _ C.graph_hang_r14.eq_1
def C.graph_hang_c3 : ICode := .keep [2, 3, 4, 6, 15, 16, 17, 23, 24, 25] (.region C.graph_hang_r14)
def C.graph_hang_c3_w := @awpE _ _ C.graph_hang_c3.eq_1
def C.graph_hang_r13_b : List IOper := [
 X.m 41 3,
 X.m 42 8,
 X.m 43 3,
 X.m 44 8,
 X.o 45 (.idxAddr 1 (X.s 43) (X.s 44)),
 X.o 46 (.load1 (X.s 45)),
 X.m 47 4,
 X.o 48 (.buildSlice 1 1 [.int .i64 0] [(0, 1, X.s 47)]),
 X.o 49 (.append 1 8 (X.s 46) (X.s 48)),
 X.o 50 (.idxAddr 1 (X.s 41) (X.s 42)),
 X.n (.store1 (X.s 50) (X.s 49))]
def C.graph_hang_r13 : List IOper := C.graph_hang_r13_b
def C.graph_hang_r13_w := @aopsE _ _ C.graph_hang_r13.eq_1
def C.graph_hang_c4 : ICode := .keep [2, 3, 4, 6, 8, 15, 16, 17, 23, 24, 25] (.region C.graph_hang_r13)
def C.graph_hang_c4_w := @awpE _ _ C.graph_hang_c4.eq_1
def C.graph_hang_r12_b : List IOper := [
 X.m 35 2,
 X.m 36 4,
 X.o 37 (.idxAddr 1 (X.s 35) (X.s 36)),
 X.o 38 (.load1 (X.s 37)),
 X.o 39 (.bin .add (X.s 38) (X.i 1)),
 X.o 40 (.idxAddr 1 (X.s 35) (X.s 36)),
 X.n (.store1 (X.s 40) (X.s 39))]
def C.graph_hang_r12 : List IOper := C.graph_hang_r12_b
def C.graph_hang_r12_w := @aopsE _ _ C.graph_hang_r12.eq_1
def C.graph_hang_c5 : ICode := .keep [2, 3, 4, 6, 8, 15, 16, 17, 23, 24, 25] (.seq (.region C.graph_hang_r12) C.graph_hang_c4)
def C.graph_hang_c5_w := @awpE _ _ C.graph_hang_c5.eq_1
def C.graph_hang_r11_b : List IOper := [
 X.m 32 6,
 X.m 33 8,
 X.o 34 (.call F.graph_marks_add [X.s 32, X.s 33])]
def C.graph_hang_r11 : List IOper := C.graph_hang_r11_b
def C.graph_hang_r11_w := @aopsE _ _ C.graph_hang_r11.eq_1
def C.graph_hang_c6 : ICode := .keep [2, 3, 4, 6, 8, 15, 16, 17, 23, 24, 25] (.seq (.region C.graph_hang_r11) C.graph_hang_c5)
def C.graph_hang_c6_w := @awpE _ _ C.graph_hang_c6.eq_1
def C.graph_hang_c7 : ICode := .keep [2, 3, 4, 6, 8, 15, 16, 17, 23, 24, 25, 31] (.cond (X.s 31) (.exit 3) .skip)
def C.graph_hang_c7_w := @awpE _ _ C.graph_hang_c7.eq_1
def C.graph_hang_r10_b : List IOper := [
 X.m 29 6,
 X.m 30 8,
 X.o 31 (.call F.graph_marks_has [X.s 29, X.s 30])]
def C.graph_hang_r10 : List IOper := C.graph_hang_r10_b
def C.graph_hang_r10_w := @aopsE _ _ C.graph_hang_r10.eq_1
def C.graph_hang_c8 : ICode := .keep [2, 3, 4, 6, 8, 15, 16, 17, 23, 24, 25] (.seq (.seq (.region C.graph_hang_r10) C.graph_hang_c7) C.graph_hang_c6)
def C.graph_hang_c8_w := @awpE _ _ C.graph_hang_c8.eq_1
def C.graph_hang_r9_b : List IOper := [
 X.o 27 (.idxAddr 1 (X.s 23) (X.s 25)),
 X.o 28 (.load1 (X.s 27)),
 X.m 8 28]
def C.graph_hang_r9 : List IOper := C.graph_hang_r9_b
def C.graph_hang_r9_w := @aopsE _ _ C.graph_hang_r9.eq_1
def C.graph_hang_b9 : ICode := .seq (.region C.graph_hang_r9) C.graph_hang_c8
def C.graph_hang_b9_w := @awpE _ _ C.graph_hang_b9.eq_1
def C.graph_hang_c10 : ICode := .keep [2, 3, 4, 6, 15, 16, 17, 23, 24, 25] (.seq (.block 3 C.graph_hang_b9) C.graph_hang_c3)
def C.graph_hang_c10_w := @awpE _ _ C.graph_hang_c10.eq_1
def C.graph_hang_c11 : ICode := .keep [2, 3, 4, 6, 15, 16, 17, 23, 24, 25, 26] (.seq (.cond (X.s 26) .skip (.exit 2)) C.graph_hang_c10)
def C.graph_hang_c11_w := @awpE _ _ C.graph_hang_c11.eq_1
def C.graph_hang_r8_b : List IOper := [
 X.o 26 (.bin .lss (X.s 25) (X.s 24))]
def C.graph_hang_r8 : List IOper := C.graph_hang_r8_b
def C.graph_hang_r8_w := @aopsE _ _ C.graph_hang_r8.eq_1
def C.graph_hang_l12 : ICode := .keep [2, 3, 4, 6, 15, 16, 17, 23, 24, 25] (.seq (.region C.graph_hang_r8) C.graph_hang_c11)
def C.graph_hang_l12_w := @awpE _ _ C.graph_hang_l12.eq_1
def C.graph_hang_b13 : ICode := .loop C.graph_hang_l12
def C.graph_hang_b13_w := @awpE _ _ C.graph_hang_b13.eq_1
def C.graph_hang_c14 : ICode := .keep [2, 3, 4, 6, 15, 16, 17, 23, 24, 25] (.block 2 C.graph_hang_b13)
def C.graph_hang_c14_w := @awpE _ _ C.graph_hang_c14.eq_1
def C.graph_hang_r7_b : List IOper := [
 X.m 23 5,
 X.o 24 (.len (X.s 23)),
 X.o 25 (.move (X.i 0))]
def C.graph_hang_r7 : List IOper := C.graph_hang_r7_b
def C.graph_hang_r7_w := @aopsE _ _ C.graph_hang_r7.eq_1
def C.graph_hang_c15 : ICode := .keep [2, 3, 4, 5, 6, 15, 16, 17] (.seq (.region C.graph_hang_r7) C.graph_hang_c14)
def C.graph_hang_c15_w := @awpE _ _ C.graph_hang_c15.eq_1
def C.graph_hang_r6_b : List IOper := [
 X.o 22 (.makeMap none),
 X.m 6 22]
def C.graph_hang_r6 : List IOper := C.graph_hang_r6_b
def C.graph_hang_r6_w := @aopsE _ _ C.graph_hang_r6.eq_1
def C.graph_hang_c16 : ICode := .keep [2, 3, 4, 5, 15, 16, 17] (.seq (.region C.graph_hang_r6) C.graph_hang_c15)
def C.graph_hang_c16_w := @awpE _ _ C.graph_hang_c16.eq_1
def C.graph_hang_r5_b : List IOper := [
 X.m 19 17,
 X.o 20 (.idxAddr 1 (X.s 15) (X.s 17)),
 X.o 21 (.load1 (X.s 20)),
 X.m 4 19,
 X.m 5 21]
def C.graph_hang_r5 : List IOper := C.graph_hang_r5_b
def C.graph_hang_r5_w := @aopsE _ _ C.graph_hang_r5.eq_1
def C.graph_hang_b17 : ICode := .seq (.region C.graph_hang_r5) C.graph_hang_c16
def C.graph_hang_b17_w := @awpE _ _ C.graph_hang_b17.eq_1
def C.graph_hang_c18 : ICode := .keep [2, 3, 15, 16, 17] (.seq (.block 1 C.graph_hang_b17) C.graph_hang_c2)
def C.graph_hang_c18_w := @awpE _ _ C.graph_hang_c18.eq_1
def C.graph_hang_c19 : ICode := .keep [2, 3, 15, 16, 17, 18] (.seq (.cond (X.s 18) .skip (.exit 0)) C.graph_hang_c18)
def C.graph_hang_c19_w := @awpE _ _ C.graph_hang_c19.eq_1
def C.graph_hang_r4_b : List IOper := [
 X.o 18 (.bin .lss (X.s 17) (X.s 16))]
def C.graph_hang_r4 : List IOper := C.graph_hang_r4_b
def C.graph_hang_r4_w := @aopsE _ _ C.graph_hang_r4.eq_1
def C.graph_hang_l20 : ICode := .keep [2, 3, 15, 16, 17] (.seq (.region C.graph_hang_r4) C.graph_hang_c19)
def C.graph_hang_l20_w := @awpE _ _ C.graph_hang_l20.eq_1
def C.graph_hang_b21 : ICode := .loop C.graph_hang_l20
def C.graph_hang_b21_w := @awpE _ _ C.graph_hang_b21.eq_1
def C.graph_hang_c22 : ICode := .keep [2, 3, 15, 16, 17] (.block 0 C.graph_hang_b21)
def C.graph_hang_c22_w := @awpE _ _ C.graph_hang_c22.eq_1
def C.graph_hang_r3_b : List IOper := [
 X.m 15 0,
 X.o 16 (.len (X.s 15)),
 X.o 17 (.move (X.i 0))]
def C.graph_hang_r3 : List IOper := C.graph_hang_r3_b
def C.graph_hang_r3_w := @aopsE _ _ C.graph_hang_r3.eq_1
def C.graph_hang_c23 : ICode := .keep [0, 2, 3] (.seq (.seq (.region C.graph_hang_r3) C.graph_hang_c22) C.graph_hang_c1)
def C.graph_hang_c23_w := @awpE _ _ C.graph_hang_c23.eq_1
def C.graph_hang_r2_b : List IOper := [
 X.m 12 0,
 X.o 13 (.len (X.s 12)),
 X.o 14 (.makeSlice 1 24 [.nils] (X.s 13) (X.s 13)),
 X.m 3 14]
def C.graph_hang_r2 : List IOper := C.graph_hang_r2_b
def C.graph_hang_r2_w := @aopsE _ _ C.graph_hang_r2.eq_1
def C.graph_hang_c24 : ICode := .keep [0, 2] (.seq (.region C.graph_hang_r2) C.graph_hang_c23)
def C.graph_hang_c24_w := @awpE _ _ C.graph_hang_c24.eq_1
def C.graph_hang_r1_b : List IOper := [
 X.m 9 0,
 X.o 10 (.len (X.s 9)),
 X.o 11 (.makeSlice 1 8 [.int .i64 0] (X.s 10) (X.s 10)),
 X.m 2 11]
def C.graph_hang_r1 : List IOper := C.graph_hang_r1_b
def C.graph_hang_r1_w := @aopsE _ _ C.graph_hang_r1.eq_1
def C.graph_hang_c25 : ICode := .keep [0] (.seq (.region C.graph_hang_r1) C.graph_hang_c24)
def C.graph_hang_c25_w := @awpE _ _ C.graph_hang_c25.eq_1
def C.graph_hang_r0_b : List IOper := [
 X.o 2 (.move (.cst (.nils))),
 X.o 3 (.move (.cst (.nils)))]
def C.graph_hang_r0 : List IOper := C.graph_hang_r0_b
def C.graph_hang_r0_w := @aopsE _ _ C.graph_hang_r0.eq_1
def C.graph_hang : IFunc := ⟨1, [.slot 2, .slot 3], .seq (.region C.graph_hang_r0) C.graph_hang_c25⟩
def C.graph_hang_W := And.intro (And.intro (And.intro (And.intro (And.intro @C.graph_hang_r16_w @C.graph_hang_c1_w) (And.intro @C.graph_hang_r15_w (And.intro @C.graph_hang_c2_w @C.graph_hang_r14_w))) (And.intro (And.intro @C.graph_hang_c3_w @C.graph_hang_r13_w) (And.intro @C.graph_hang_c4_w (And.intro @C.graph_hang_r12_w @C.graph_hang_c5_w)))) (And.intro (And.intro (And.intro @C.graph_hang_r11_w @C.graph_hang_c6_w) (And.intro @C.graph_hang_c7_w (And.intro @C.graph_hang_r10_w @C.graph_hang_c8_w))) (And.intro (And.intro @C.graph_hang_r9_w @C.graph_hang_b9_w) (And.intro @C.graph_hang_c10_w (And.intro @C.graph_hang_c11_w @C.graph_hang_r8_w))))) (And.intro (And.intro (And.intro (And.intro @C.graph_hang_b13_w @C.graph_hang_c14_w) (And.intro @C.graph_hang_r7_w (And.intro @C.graph_hang_c15_w @C.graph_hang_r6_w))) (And.intro (And.intro @C.graph_hang_c16_w @C.graph_hang_r5_w) (And.intro @C.graph_hang_b17_w (And.intro @C.graph_hang_c18_w @C.graph_hang_c19_w)))) (And.intro (And.intro (And.intro @C.graph_hang_r4_w @C.graph_hang_b21_w) (And.intro @C.graph_hang_c22_w (And.intro @C.graph_hang_r3_w @C.graph_hang_c23_w))) (And.intro (And.intro @C.graph_hang_r2_w @C.graph_hang_c24_w) (And.intro @C.graph_hang_r1_w (And.intro @C.graph_hang_c25_w @C.graph_hang_r0_w)))))
def C.graph_hang_B := And.intro (And.intro (And.intro (And.intro @C.graph_hang_r16_b.eq_1 @C.graph_hang_r15_b.eq_1) (And.intro @C.graph_hang_r14_b.eq_1 @C.graph_hang_r13_b.eq_1)) (And.intro (And.intro @C.graph_hang_r12_b.eq_1 @C.graph_hang_r11_b.eq_1) (And.intro @C.graph_hang_r10_b.eq_1 @C.graph_hang_r9_b.eq_1))) (And.intro (And.intro (And.intro @C.graph_hang_r8_b.eq_1 @C.graph_hang_r7_b.eq_1) (And.intro @C.graph_hang_r6_b.eq_1 @C.graph_hang_r5_b.eq_1)) (And.intro (And.intro @C.graph_hang_r4_b.eq_1 @C.graph_hang_r3_b.eq_1) (And.intro @C.graph_hang_r2_b.eq_1 (And.intro @C.graph_hang_r1_b.eq_1 @C.graph_hang_r0_b.eq_1))))

end Go.Proofs.Ytoblpialfhfdgaa.Cn
