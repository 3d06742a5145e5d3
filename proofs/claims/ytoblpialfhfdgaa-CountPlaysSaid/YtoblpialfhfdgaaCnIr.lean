/- The intermediate code of the functions, printed by a program out of the loaded program; that it is theirs is checked in the text of links. -/
import Derived.Test.YtoblpialfhfdgaaCnIr2
set_option linter.defProp false
namespace Go.Proofs.Ytoblpialfhfdgaa.Cn
open Go
variable {P : Program} {Q : IExit → AFr → ASt → Prop} {fr : AFr} {st : ASt}


def C.q15_r13_b : List IOper := [
 X.o 2 (.move (X.i 0))]
def C.q15_r13 : List IOper := C.q15_r13_b
def C.q15_r13_w := @aopsE _ _ C.q15_r13.eq_1
def C.q15_c1 : ICode := .keep [] (.seq (.region C.q15_r13) .ret)
def C.q15_c1_w := @awpE _ _ C.q15_c1.eq_1
def C.q15_r12_b : List IOper := [
 X.o 2 (.move (X.i 5))]
def C.q15_r12 : List IOper := C.q15_r12_b
def C.q15_r12_w := @aopsE _ _ C.q15_r12.eq_1
def C.q15_c2 : ICode := .seq (.region C.q15_r12) .ret
def C.q15_c2_w := @awpE _ _ C.q15_c2.eq_1
def C.q15_c3 : ICode := .keep [48] (.cond (X.s 48) C.q15_c2 .skip)
def C.q15_c3_w := @awpE _ _ C.q15_c3.eq_1
def C.q15_r11_b : List IOper := [
 X.m 43 0,
 X.o 44 (.call F.q16 [X.s 43]),
 X.o 45 (.len (X.s 44)),
 X.m 46 0,
 X.o 47 (.len (X.s 46)),
 X.o 48 (.bin .lss (X.s 45) (X.s 47))]
def C.q15_r11 : List IOper := C.q15_r11_b
def C.q15_r11_w := @aopsE _ _ C.q15_r11.eq_1
def C.q15_c4 : ICode := .keep [0] (.seq (.seq (.region C.q15_r11) C.q15_c3) C.q15_c1)
def C.q15_c4_w := @awpE _ _ C.q15_c4.eq_1
def C.q15_r5_b : List IOper := [
 X.m 12 3,
 X.o 13 (.bin .add (X.s 12) (X.i 1)),
 X.m 3 13]
def C.q15_r5 : List IOper := C.q15_r5_b
def C.q15_r5_w := @aopsE _ _ C.q15_r5.eq_1
def C.q15_c5 : ICode := .keep [0, 3] (.region C.q15_r5)
def C.q15_c5_w := @awpE _ _ C.q15_c5.eq_1
def C.q15_r8_b : List IOper := [
 X.m 21 4,
 X.o 22 (.bin .add (X.s 21) (X.i 1)),
 X.m 4 22]
def C.q15_r8 : List IOper := C.q15_r8_b
def C.q15_r8_w := @aopsE _ _ C.q15_r8.eq_1
def C.q15_c6 : ICode := .keep [0, 3, 4] (.region C.q15_r8)
def C.q15_c6_w := @awpE _ _ C.q15_c6.eq_1
def C.q15_r10_b : List IOper := [
 X.o 2 (.move (X.i 4))]
def C.q15_r10 : List IOper := C.q15_r10_b
def C.q15_r10_w := @aopsE _ _ C.q15_r10.eq_1
def C.q15_c7 : ICode := .seq (.region C.q15_r10) .ret
def C.q15_c7_w := @awpE _ _ C.q15_c7.eq_1
def C.q15_c8 : ICode := .keep [0, 3, 4, 42] (.cond (X.s 42) C.q15_c7 .skip)
def C.q15_c8_w := @awpE _ _ C.q15_c8.eq_1
def C.q15_r9_b : List IOper := [
 X.m 23 0,
 X.m 24 3,
 X.o 25 (.idxAddr 1 (X.s 23) (X.s 24)),
 X.o 26 (.load1 (X.s 25)),
 X.m 27 4,
 X.o 28 (.idxAddr 1 (X.s 26) (X.s 27)),
 X.o 29 (.load1 (X.s 28)),
 X.o 30 (.bin .lss (X.s 29) (X.i 0)),
 X.m 31 30,
 X.f 31 32 (.move (X.s 0)),
 X.f 31 33 (.move (X.s 3)),
 X.f 31 34 (.idxAddr 1 (X.s 32) (X.s 33)),
 X.f 31 35 (.load1 (X.s 34)),
 X.f 31 36 (.move (X.s 4)),
 X.f 31 37 (.idxAddr 1 (X.s 35) (X.s 36)),
 X.f 31 38 (.load1 (X.s 37)),
 X.f 31 39 (.move (X.s 0)),
 X.f 31 40 (.len (X.s 39)),
 X.f 31 41 (.bin .geq (X.s 38) (X.s 40)),
 X.o 42 (.pick (X.s 31) (.cst (.bool true)) (X.s 41))]
def C.q15_r9 : List IOper := C.q15_r9_b
def C.q15_r9_w := @aopsE _ _ C.q15_r9.eq_1
def C.q15_b9 : ICode := .seq (.region C.q15_r9) C.q15_c8
def C.q15_b9_w := @awpE _ _ C.q15_b9.eq_1
def C.q15_c10 : ICode := .keep [0, 3, 4] (.seq (.block 3 C.q15_b9) C.q15_c6)
def C.q15_c10_w := @awpE _ _ C.q15_c10.eq_1
def C.q15_c11 : ICode := .keep [0, 3, 4, 20] (.cond (X.s 20) .skip (.exit 2))
def C.q15_c11_w := @awpE _ _ C.q15_c11.eq_1
def C.q15_r7_b : List IOper := [
 X.m 14 4,
 X.m 15 0,
 X.m 16 3,
 X.o 17 (.idxAddr 1 (X.s 15) (X.s 16)),
 X.o 18 (.load1 (X.s 17)),
 X.o 19 (.len (X.s 18)),
 X.o 20 (.bin .lss (X.s 14) (X.s 19))]
def C.q15_r7 : List IOper := C.q15_r7_b
def C.q15_r7_w := @aopsE _ _ C.q15_r7.eq_1
def C.q15_l12 : ICode := .keep [0, 3, 4] (.seq (.seq (.region C.q15_r7) C.q15_c11) C.q15_c10)
def C.q15_l12_w := @awpE _ _ C.q15_l12.eq_1
def C.q15_b13 : ICode := .loop C.q15_l12
def C.q15_b13_w := @awpE _ _ C.q15_b13.eq_1
def C.q15_c14 : ICode := .keep [0, 3, 4] (.block 2 C.q15_b13)
def C.q15_c14_w := @awpE _ _ C.q15_c14.eq_1
def C.q15_r6_b : List IOper := [
 X.o 4 (.move (X.i 0))]
def C.q15_r6 : List IOper := C.q15_r6_b
def C.q15_r6_w := @aopsE _ _ C.q15_r6.eq_1
def C.q15_b15 : ICode := .seq (.region C.q15_r6) C.q15_c14
def C.q15_b15_w := @awpE _ _ C.q15_b15.eq_1
def C.q15_c16 : ICode := .keep [0, 3] (.seq (.block 1 C.q15_b15) C.q15_c5)
def C.q15_c16_w := @awpE _ _ C.q15_c16.eq_1
def C.q15_c17 : ICode := .keep [0, 3, 11] (.cond (X.s 11) .skip (.exit 0))
def C.q15_c17_w := @awpE _ _ C.q15_c17.eq_1
def C.q15_r4_b : List IOper := [
 X.m 8 3,
 X.m 9 0,
 X.o 10 (.len (X.s 9)),
 X.o 11 (.bin .lss (X.s 8) (X.s 10))]
def C.q15_r4 : List IOper := C.q15_r4_b
def C.q15_r4_w := @aopsE _ _ C.q15_r4.eq_1
def C.q15_l18 : ICode := .keep [0, 3] (.seq (.seq (.region C.q15_r4) C.q15_c17) C.q15_c16)
def C.q15_l18_w := @awpE _ _ C.q15_l18.eq_1
def C.q15_b19 : ICode := .loop C.q15_l18
def C.q15_b19_w := @awpE _ _ C.q15_b19.eq_1
def C.q15_c20 : ICode := .keep [0, 3] (.block 0 C.q15_b19)
def C.q15_c20_w := @awpE _ _ C.q15_c20.eq_1
def C.q15_r3_b : List IOper := [
 X.o 3 (.move (X.i 0))]
def C.q15_r3 : List IOper := C.q15_r3_b
def C.q15_r3_w := @aopsE _ _ C.q15_r3.eq_1
def C.q15_c21 : ICode := .keep [0] (.seq (.seq (.region C.q15_r3) C.q15_c20) C.q15_c4)
def C.q15_c21_w := @awpE _ _ C.q15_c21.eq_1
def C.q15_r2_b : List IOper := [
 X.o 2 (.move (X.i 1))]
def C.q15_r2 : List IOper := C.q15_r2_b
def C.q15_r2_w := @aopsE _ _ C.q15_r2.eq_1
def C.q15_c22 : ICode := .seq (.region C.q15_r2) .ret
def C.q15_c22_w := @awpE _ _ C.q15_c22.eq_1
def C.q15_c23 : ICode := .keep [0, 7] (.cond (X.s 7) C.q15_c22 .skip)
def C.q15_c23_w := @awpE _ _ C.q15_c23.eq_1
def C.q15_r1_b : List IOper := [
 X.m 5 0,
 X.o 6 (.len (X.s 5)),
 X.o 7 (.bin .gtr (X.s 6) (X.i 100))]
def C.q15_r1 : List IOper := C.q15_r1_b
def C.q15_r1_w := @aopsE _ _ C.q15_r1.eq_1
def C.q15_c24 : ICode := .keep [0] (.seq (.seq (.region C.q15_r1) C.q15_c23) C.q15_c21)
def C.q15_c24_w := @awpE _ _ C.q15_c24.eq_1
def C.q15_r0_b : List IOper := [
 X.o 2 (.move (X.i 0))]
def C.q15_r0 : List IOper := C.q15_r0_b
def C.q15_r0_w := @aopsE _ _ C.q15_r0.eq_1
def C.q15 : IFunc := ⟨1, [.slot 2], .seq (.region C.q15_r0) C.q15_c24⟩
def C.q15_W := And.intro (And.intro (And.intro (And.intro (And.intro @C.q15_r13_w @C.q15_c1_w) (And.intro @C.q15_r12_w @C.q15_c2_w)) (And.intro (And.intro @C.q15_c3_w @C.q15_r11_w) (And.intro @C.q15_c4_w (And.intro @C.q15_r5_w @C.q15_c5_w)))) (And.intro (And.intro (And.intro @C.q15_r8_w @C.q15_c6_w) (And.intro @C.q15_r10_w @C.q15_c7_w)) (And.intro (And.intro @C.q15_c8_w @C.q15_r9_w) (And.intro @C.q15_b9_w (And.intro @C.q15_c10_w @C.q15_c11_w))))) (And.intro (And.intro (And.intro (And.intro @C.q15_r7_w @C.q15_b13_w) (And.intro @C.q15_c14_w @C.q15_r6_w)) (And.intro (And.intro @C.q15_b15_w @C.q15_c16_w) (And.intro @C.q15_c17_w (And.intro @C.q15_r4_w @C.q15_b19_w)))) (And.intro (And.intro (And.intro @C.q15_c20_w @C.q15_r3_w) (And.intro @C.q15_c21_w @C.q15_r2_w)) (And.intro (And.intro @C.q15_c22_w @C.q15_c23_w) (And.intro @C.q15_r1_w (And.intro @C.q15_c24_w @C.q15_r0_w)))))
def C.q15_B := And.intro (And.intro (And.intro @C.q15_r13_b.eq_1 (And.intro @C.q15_r12_b.eq_1 @C.q15_r11_b.eq_1)) (And.intro (And.intro @C.q15_r5_b.eq_1 @C.q15_r8_b.eq_1) (And.intro @C.q15_r10_b.eq_1 @C.q15_r9_b.eq_1))) (And.intro (And.intro @C.q15_r7_b.eq_1 (And.intro @C.q15_r6_b.eq_1 @C.q15_r4_b.eq_1)) (And.intro (And.intro @C.q15_r3_b.eq_1 @C.q15_r2_b.eq_1) (And.intro @C.q15_r1_b.eq_1 @C.q15_r0_b.eq_1)))

def C.q18_r6_b : List IOper := [
 X.m 23 3,
 X.m 2 23]
def C.q18_r6 : List IOper := C.q18_r6_b
def C.q18_r6_w := @aopsE _ _ C.q18_r6.eq_1
def C.q18_c1 : ICode := .keep [3] (.seq (.region C.q18_r6) .ret)
def C.q18_c1_w := @awpE _ _ C.q18_c1.eq_1
def C.q18_r4_b : List IOper := [
 X.m 10 4,
 X.o 11 (.bin .add (X.s 10) (X.i 1)),
 X.m 4 11]
def C.q18_r4 : List IOper := C.q18_r4_b
def C.q18_r4_w := @aopsE _ _ C.q18_r4.eq_1
def C.q18_c2 : ICode := .keep [1, 3, 4] (.region C.q18_r4)
def C.q18_c2_w := @awpE _ _ C.q18_c2.eq_1
def C.q18_r5_b : List IOper := [
 X.m 12 3,
 X.o 13 (.buildSlice 1 0 [.int .i64 0] []),
 X.o 14 (.fldAddr 0 (X.s 1)),
 X.o 15 (.load1 (X.s 14)),
 X.m 16 4,
 X.o 17 (.idxAddr 6 (X.s 15) (X.s 16)),
 X.o 18 (.fldAddr 1 (X.s 17)),
 X.o 19 (.load1 (X.s 18)),
 X.o 20 (.append 1 8 (X.s 13) (X.s 19)),
 X.o 21 (.buildSlice 1 1 [.nils] [(0, 1, X.s 20)]),
 X.o 22 (.append 1 24 (X.s 12) (X.s 21)),
 X.m 3 22]
def C.q18_r5 : List IOper := C.q18_r5_b
def C.q18_r5_w := @aopsE _ _ C.q18_r5.eq_1
def C.q18_b3 : ICode := .region C.q18_r5
def C.q18_b3_w := @awpE _ _ C.q18_b3.eq_1
def C.q18_c4 : ICode := .keep [1, 3, 4] (.seq (.block 1 C.q18_b3) C.q18_c2)
def C.q18_c4_w := @awpE _ _ C.q18_c4.eq_1
def C.q18_c5 : ICode := .keep [1, 3, 4, 9] (.cond (X.s 9) .skip (.exit 0))
def C.q18_c5_w := @awpE _ _ C.q18_c5.eq_1
def C.q18_r3_b : List IOper := [
 X.m 5 4,
 X.o 6 (.fldAddr 0 (X.s 1)),
 X.o 7 (.load1 (X.s 6)),
 X.o 8 (.len (X.s 7)),
 X.o 9 (.bin .lss (X.s 5) (X.s 8))]
def C.q18_r3 : List IOper := C.q18_r3_b
def C.q18_r3_w := @aopsE _ _ C.q18_r3.eq_1
def C.q18_l6 : ICode := .keep [1, 3, 4] (.seq (.seq (.region C.q18_r3) C.q18_c5) C.q18_c4)
def C.q18_l6_w := @awpE _ _ C.q18_l6.eq_1
def C.q18_b7 : ICode := .loop C.q18_l6
def C.q18_b7_w := @awpE _ _ C.q18_b7.eq_1
def C.q18_c8 : ICode := .keep [1, 3, 4] (.block 0 C.q18_b7)
def C.q18_c8_w := @awpE _ _ C.q18_c8.eq_1
def C.q18_r2_b : List IOper := [
 X.o 4 (.move (X.i 0))]
def C.q18_r2 : List IOper := C.q18_r2_b
def C.q18_r2_w := @aopsE _ _ C.q18_r2.eq_1
def C.q18_c9 : ICode := .keep [1, 3] (.seq (.seq (.region C.q18_r2) C.q18_c8) C.q18_c1)
def C.q18_c9_w := @awpE _ _ C.q18_c9.eq_1
def C.q18_r1_b : List IOper := [
 X.o 3 (.move (.cst (.nils)))]
def C.q18_r1 : List IOper := C.q18_r1_b
def C.q18_r1_w := @aopsE _ _ C.q18_r1.eq_1
def C.q18_c10 : ICode := .keep [1] (.seq (.region C.q18_r1) C.q18_c9)
def C.q18_c10_w := @awpE _ _ C.q18_c10.eq_1
def C.q18_r0_b : List IOper := [
 X.o 1 (.boxN (X.s 0)),
 X.o 2 (.move (.cst (.nils)))]
def C.q18_r0 : List IOper := C.q18_r0_b
def C.q18_r0_w := @aopsE _ _ C.q18_r0.eq_1
def C.q18 : IFunc := ⟨1, [.slot 2], .seq (.region C.q18_r0) C.q18_c10⟩
def C.q18_W := And.intro (And.intro (And.intro (And.intro @C.q18_r6_w @C.q18_c1_w) (And.intro @C.q18_r4_w @C.q18_c2_w)) (And.intro (And.intro @C.q18_r5_w @C.q18_b3_w) (And.intro @C.q18_c4_w @C.q18_c5_w))) (And.intro (And.intro (And.intro @C.q18_r3_w @C.q18_b7_w) (And.intro @C.q18_c8_w @C.q18_r2_w)) (And.intro (And.intro @C.q18_c9_w @C.q18_r1_w) (And.intro @C.q18_c10_w @C.q18_r0_w)))
def C.q18_B := And.intro (And.intro @C.q18_r6_b.eq_1 (And.intro @C.q18_r4_b.eq_1 @C.q18_r5_b.eq_1)) (And.intro (And.intro @C.q18_r3_b.eq_1 @C.q18_r2_b.eq_1) (And.intro @C.q18_r1_b.eq_1 @C.q18_r0_b.eq_1))

def C.q26_r1_b : List IOper := [
 X.m 5 0,
 X.o 6 (.bin .geq (X.s 5) (X.i 0)),
 X.m 7 6,
 X.t 7 8 (.move (X.s 0)),
 X.t 7 9 (.move (X.s 1)),
 X.t 7 10 (.bin .lss (X.s 8) (X.s 9)),
 X.o 11 (.pick (X.s 7) (X.s 10) (.cst (.bool false))),
 X.m 4 11]
def C.q26_r1 : List IOper := C.q26_r1_b
def C.q26_r1_w := @aopsE _ _ C.q26_r1.eq_1
def C.q26_c1 : ICode := .keep [0, 1] (.seq (.region C.q26_r1) .ret)
def C.q26_c1_w := @awpE _ _ C.q26_c1.eq_1
def C.q26_r0_b : List IOper := [
 X.o 4 (.move (.cst (.bool false)))]
def C.q26_r0 : List IOper := C.q26_r0_b
def C.q26_r0_w := @aopsE _ _ C.q26_r0.eq_1
def C.q26 : IFunc := ⟨2, [.slot 4], .seq (.region C.q26_r0) C.q26_c1⟩
def C.q26_W := And.intro @C.q26_r1_w (And.intro @C.q26_c1_w @C.q26_r0_w)
def C.q26_B := And.intro @C.q26_r1_b.eq_1 @C.q26_r0_b.eq_1

def C.q19_r9_b : List IOper := [
 X.m 33 3,
 X.m 2 33]
def C.q19_r9 : List IOper := C.q19_r9_b
def C.q19_r9_w := @aopsE _ _ C.q19_r9.eq_1
def C.q19_c1 : ICode := .keep [3] (.seq (.region C.q19_r9) .ret)
def C.q19_c1_w := @awpE _ _ C.q19_c1.eq_1
def C.q19_r4_b : List IOper := [
 X.m 11 4,
 X.o 12 (.bin .add (X.s 11) (X.i 1)),
 X.m 4 12]
def C.q19_r4 : List IOper := C.q19_r4_b
def C.q19_r4_w := @aopsE _ _ C.q19_r4.eq_1
def C.q19_c2 : ICode := .keep [1, 3, 4] (.region C.q19_r4)
def C.q19_c2_w := @awpE _ _ C.q19_c2.eq_1
def C.q19_r8_b : List IOper := [
 X.m 29 3,
 X.m 30 5,
 X.o 31 (.buildSlice 1 1 [.nils] [(0, 1, X.s 30)]),
 X.o 32 (.append 1 24 (X.s 29) (X.s 31)),
 X.m 3 32]
def C.q19_r8 : List IOper := C.q19_r8_b
def C.q19_r8_w := @aopsE _ _ C.q19_r8.eq_1
def C.q19_c3 : ICode := .keep [1, 3, 4, 5] (.region C.q19_r8)
def C.q19_c3_w := @awpE _ _ C.q19_c3.eq_1
def C.q19_r7_b : List IOper := [
 X.m 20 5,
 X.o 21 (.fldAddr 1 (X.s 1)),
 X.o 22 (.load1 (X.s 21)),
 X.m 23 4,
 X.o 24 (.idxAddr 3 (X.s 22) (X.s 23)),
 X.o 25 (.fldAddr 0 (X.s 24)),
 X.o 26 (.load1 (X.s 25)),
 X.o 27 (.buildSlice 1 1 [.int .i64 0] [(0, 1, X.s 26)]),
 X.o 28 (.append 1 8 (X.s 20) (X.s 27)),
 X.m 5 28]
def C.q19_r7 : List IOper := C.q19_r7_b
def C.q19_r7_w := @aopsE _ _ C.q19_r7.eq_1
def C.q19_c4 : ICode := .region C.q19_r7
def C.q19_c4_w := @awpE _ _ C.q19_c4.eq_1
def C.q19_c5 : ICode := .keep [1, 3, 4, 5, 19] (.cond (X.s 19) C.q19_c4 .skip)
def C.q19_c5_w := @awpE _ _ C.q19_c5.eq_1
def C.q19_r6_b : List IOper := [
 X.o 13 (.fldAddr 1 (X.s 1)),
 X.o 14 (.load1 (X.s 13)),
 X.m 15 4,
 X.o 16 (.idxAddr 3 (X.s 14) (X.s 15)),
 X.o 17 (.fldAddr 0 (X.s 16)),
 X.o 18 (.load1 (X.s 17)),
 X.o 19 (.bin .neq (X.s 18) (X.i (-1)))]
def C.q19_r6 : List IOper := C.q19_r6_b
def C.q19_r6_w := @aopsE _ _ C.q19_r6.eq_1
def C.q19_c6 : ICode := .keep [1, 3, 4, 5] (.seq (.seq (.region C.q19_r6) C.q19_c5) C.q19_c3)
def C.q19_c6_w := @awpE _ _ C.q19_c6.eq_1
def C.q19_r5_b : List IOper := [
 X.o 5 (.move (.cst (.nils)))]
def C.q19_r5 : List IOper := C.q19_r5_b
def C.q19_r5_w := @aopsE _ _ C.q19_r5.eq_1
def C.q19_b7 : ICode := .seq (.region C.q19_r5) C.q19_c6
def C.q19_b7_w := @awpE _ _ C.q19_b7.eq_1
def C.q19_c8 : ICode := .keep [1, 3, 4] (.seq (.block 1 C.q19_b7) C.q19_c2)
def C.q19_c8_w := @awpE _ _ C.q19_c8.eq_1
def C.q19_c9 : ICode := .keep [1, 3, 4, 10] (.cond (X.s 10) .skip (.exit 0))
def C.q19_c9_w := @awpE _ _ C.q19_c9.eq_1
def C.q19_r3_b : List IOper := [
 X.m 6 4,
 X.o 7 (.fldAddr 1 (X.s 1)),
 X.o 8 (.load1 (X.s 7)),
 X.o 9 (.len (X.s 8)),
 X.o 10 (.bin .lss (X.s 6) (X.s 9))]
def C.q19_r3 : List IOper := C.q19_r3_b
def C.q19_r3_w := @aopsE _ _ C.q19_r3.eq_1
def C.q19_l10 : ICode := .keep [1, 3, 4] (.seq (.seq (.region C.q19_r3) C.q19_c9) C.q19_c8)
def C.q19_l10_w := @awpE _ _ C.q19_l10.eq_1
def C.q19_b11 : ICode := .loop C.q19_l10
def C.q19_b11_w := @awpE _ _ C.q19_b11.eq_1
def C.q19_c12 : ICode := .keep [1, 3, 4] (.block 0 C.q19_b11)
def C.q19_c12_w := @awpE _ _ C.q19_c12.eq_1
def C.q19_r2_b : List IOper := [
 X.o 4 (.move (X.i 0))]
def C.q19_r2 : List IOper := C.q19_r2_b
def C.q19_r2_w := @aopsE _ _ C.q19_r2.eq_1
def C.q19_c13 : ICode := .keep [1, 3] (.seq (.seq (.region C.q19_r2) C.q19_c12) C.q19_c1)
def C.q19_c13_w := @awpE _ _ C.q19_c13.eq_1
def C.q19_r1_b : List IOper := [
 X.o 3 (.move (.cst (.nils)))]
def C.q19_r1 : List IOper := C.q19_r1_b
def C.q19_r1_w := @aopsE _ _ C.q19_r1.eq_1
def C.q19_c14 : ICode := .keep [1] (.seq (.region C.q19_r1) C.q19_c13)
def C.q19_c14_w := @awpE _ _ C.q19_c14.eq_1
def C.q19_r0_b : List IOper := [
 X.o 1 (.boxN (X.s 0)),
 X.o 2 (.move (.cst (.nils)))]
def C.q19_r0 : List IOper := C.q19_r0_b
def C.q19_r0_w := @aopsE _ _ C.q19_r0.eq_1
def C.q19 : IFunc := ⟨1, [.slot 2], .seq (.region C.q19_r0) C.q19_c14⟩
def C.q19_W := And.intro (And.intro (And.intro (And.intro @C.q19_r9_w @C.q19_c1_w) (And.intro @C.q19_r4_w (And.intro @C.q19_c2_w @C.q19_r8_w))) (And.intro (And.intro @C.q19_c3_w (And.intro @C.q19_r7_w @C.q19_c4_w)) (And.intro @C.q19_c5_w (And.intro @C.q19_r6_w @C.q19_c6_w)))) (And.intro (And.intro (And.intro @C.q19_r5_w (And.intro @C.q19_b7_w @C.q19_c8_w)) (And.intro @C.q19_c9_w (And.intro @C.q19_r3_w @C.q19_b11_w))) (And.intro (And.intro @C.q19_c12_w (And.intro @C.q19_r2_w @C.q19_c13_w)) (And.intro @C.q19_r1_w (And.intro @C.q19_c14_w @C.q19_r0_w))))
def C.q19_B := And.intro (And.intro (And.intro @C.q19_r9_b.eq_1 @C.q19_r4_b.eq_1) (And.intro @C.q19_r8_b.eq_1 (And.intro @C.q19_r7_b.eq_1 @C.q19_r6_b.eq_1))) (And.intro (And.intro @C.q19_r5_b.eq_1 @C.q19_r3_b.eq_1) (And.intro @C.q19_r2_b.eq_1 (And.intro @C.q19_r1_b.eq_1 @C.q19_r0_b.eq_1)))

def C.q88_r13_b : List IOper := [
 X.o 2 (.move (X.i 0))]
def C.q88_r13 : List IOper := C.q88_r13_b
def C.q88_r13_w := @aopsE _ _ C.q88_r13.eq_1
def C.q88_c1 : ICode := .keep [] (.seq (.region C.q88_r13) .ret)
def C.q88_c1_w := @awpE _ _ C.q88_c1.eq_1
def C.q88_r12_b : List IOper := [
 X.o 31 (.bin .add (X.s 12) (X.i 1)),
 X.m 12 31]
def C.q88_r12 : List IOper := C.q88_r12_b
def C.q88_r12_w := @aopsE _ _ C.q88_r12.eq_1
def C.q88_c2 : ICode := .keep [0, 10, 11, 12] (.region C.q88_r12)
def C.q88_c2_w := @awpE _ _ C.q88_c2.eq_1
def C.q88_r11_b : List IOper := [
 X.o 30 (.bin .add (X.s 18) (X.i 1)),
 X.m 18 30]
def C.q88_r11 : List IOper := C.q88_r11_b
def C.q88_r11_w := @aopsE _ _ C.q88_r11.eq_1
def C.q88_c3 : ICode := .keep [0, 10, 11, 12, 16, 17, 18] (.region C.q88_r11)
def C.q88_c3_w := @awpE _ _ C.q88_c3.eq_1
def C.q88_r10_b : List IOper := [
 X.o 2 (.move (X.i 4))]
def C.q88_r10 : List IOper := C.q88_r10_b
def C.q88_r10_w := @aopsE _ _ C.q88_r10.eq_1
def C.q88_c4 : ICode := .seq (.region C.q88_r10) .ret
def C.q88_c4_w := @awpE _ _ C.q88_c4.eq_1
def C.q88_c5 : ICode := .keep [0, 10, 11, 12, 16, 17, 18, 29] (.cond (X.s 29) C.q88_c4 .skip)
def C.q88_c5_w := @awpE _ _ C.q88_c5.eq_1
def C.q88_r9_b : List IOper := [
 X.m 22 6,
 X.o 23 (.bin .lss (X.s 22) (X.i 0)),
 X.m 24 23,
 X.f 24 25 (.move (X.s 6)),
 X.f 24 26 (.move (X.s 0)),
 X.f 24 27 (.len (X.s 26)),
 X.f 24 28 (.bin .geq (X.s 25) (X.s 27)),
 X.o 29 (.pick (X.s 24) (.cst (.bool true)) (X.s 28))]
def C.q88_r9 : List IOper := C.q88_r9_b
def C.q88_r9_w := @aopsE _ _ C.q88_r9.eq_1
def C.q88_c6 : ICode := .keep [0, 6, 10, 11, 12, 16, 17, 18] (.seq (.region C.q88_r9) C.q88_c5)
def C.q88_c6_w := @awpE _ _ C.q88_c6.eq_1
def C.q88_r8_b : List IOper := [
 X.o 20 (.idxAddr 1 (X.s 16) (X.s 18)),
 X.o 21 (.load1 (X.s 20)),
 X.m 6 21]
def C.q88_r8 : List IOper := C.q88_r8_b
def C.q88_r8_w := @aopsE _ _ C.q88_r8.eq_1
def C.q88_b7 : ICode := .seq (.region C.q88_r8) C.q88_c6
def C.q88_b7_w := @awpE _ _ C.q88_b7.eq_1
def C.q88_c8 : ICode := .keep [0, 10, 11, 12, 16, 17, 18] (.seq (.block 3 C.q88_b7) C.q88_c3)
def C.q88_c8_w := @awpE _ _ C.q88_c8.eq_1
def C.q88_c9 : ICode := .keep [0, 10, 11, 12, 16, 17, 18, 19] (.seq (.cond (X.s 19) .skip (.exit 2)) C.q88_c8)
def C.q88_c9_w := @awpE _ _ C.q88_c9.eq_1
def C.q88_r7_b : List IOper := [
 X.o 19 (.bin .lss (X.s 18) (X.s 17))]
def C.q88_r7 : List IOper := C.q88_r7_b
def C.q88_r7_w := @aopsE _ _ C.q88_r7.eq_1
def C.q88_l10 : ICode := .keep [0, 10, 11, 12, 16, 17, 18] (.seq (.region C.q88_r7) C.q88_c9)
def C.q88_l10_w := @awpE _ _ C.q88_l10.eq_1
def C.q88_b11 : ICode := .loop C.q88_l10
def C.q88_b11_w := @awpE _ _ C.q88_b11.eq_1
def C.q88_c12 : ICode := .keep [0, 10, 11, 12, 16, 17, 18] (.block 2 C.q88_b11)
def C.q88_c12_w := @awpE _ _ C.q88_c12.eq_1
def C.q88_r6_b : List IOper := [
 X.m 16 4,
 X.o 17 (.len (X.s 16)),
 X.o 18 (.move (X.i 0))]
def C.q88_r6 : List IOper := C.q88_r6_b
def C.q88_r6_w := @aopsE _ _ C.q88_r6.eq_1
def C.q88_c13 : ICode := .keep [0, 4, 10, 11, 12] (.seq (.region C.q88_r6) C.q88_c12)
def C.q88_c13_w := @awpE _ _ C.q88_c13.eq_1
def C.q88_r5_b : List IOper := [
 X.o 14 (.idxAddr 1 (X.s 10) (X.s 12)),
 X.o 15 (.load1 (X.s 14)),
 X.m 4 15]
def C.q88_r5 : List IOper := C.q88_r5_b
def C.q88_r5_w := @aopsE _ _ C.q88_r5.eq_1
def C.q88_b14 : ICode := .seq (.region C.q88_r5) C.q88_c13
def C.q88_b14_w := @awpE _ _ C.q88_b14.eq_1
def C.q88_c15 : ICode := .keep [0, 10, 11, 12] (.seq (.block 1 C.q88_b14) C.q88_c2)
def C.q88_c15_w := @awpE _ _ C.q88_c15.eq_1
def C.q88_c16 : ICode := .keep [0, 10, 11, 12, 13] (.seq (.cond (X.s 13) .skip (.exit 0)) C.q88_c15)
def C.q88_c16_w := @awpE _ _ C.q88_c16.eq_1
def C.q88_r4_b : List IOper := [
 X.o 13 (.bin .lss (X.s 12) (X.s 11))]
def C.q88_r4 : List IOper := C.q88_r4_b
def C.q88_r4_w := @aopsE _ _ C.q88_r4.eq_1
def C.q88_l17 : ICode := .keep [0, 10, 11, 12] (.seq (.region C.q88_r4) C.q88_c16)
def C.q88_l17_w := @awpE _ _ C.q88_l17.eq_1
def C.q88_b18 : ICode := .loop C.q88_l17
def C.q88_b18_w := @awpE _ _ C.q88_b18.eq_1
def C.q88_c19 : ICode := .keep [0, 10, 11, 12] (.block 0 C.q88_b18)
def C.q88_c19_w := @awpE _ _ C.q88_c19.eq_1
def C.q88_r3_b : List IOper := [
 X.m 10 0,
 X.o 11 (.len (X.s 10)),
 X.o 12 (.move (X.i 0))]
def C.q88_r3 : List IOper := C.q88_r3_b
def C.q88_r3_w := @aopsE _ _ C.q88_r3.eq_1
def C.q88_c20 : ICode := .keep [0] (.seq (.seq (.region C.q88_r3) C.q88_c19) C.q88_c1)
def C.q88_c20_w := @awpE _ _ C.q88_c20.eq_1
def C.q88_r2_b : List IOper := [
 X.o 2 (.move (X.i 1))]
def C.q88_r2 : List IOper := C.q88_r2_b
def C.q88_r2_w := @aopsE _ _ C.q88_r2.eq_1
def C.q88_c21 : ICode := .seq (.region C.q88_r2) .ret
def C.q88_c21_w := @awpE _ _ C.q88_c21.eq_1
def C.q88_c22 : ICode := .keep [0, 9] (.cond (X.s 9) C.q88_c21 .skip)
def C.q88_c22_w := @awpE _ _ C.q88_c22.eq_1
def C.q88_r1_b : List IOper := [
 X.m 7 0,
 X.o 8 (.len (X.s 7)),
 X.o 9 (.bin .gtr (X.s 8) (X.i 100))]
def C.q88_r1 : List IOper := C.q88_r1_b
def C.q88_r1_w := @aopsE _ _ C.q88_r1.eq_1
def C.q88_c23 : ICode := .keep [0] (.seq (.seq (.region C.q88_r1) C.q88_c22) C.q88_c20)
def C.q88_c23_w := @awpE _ _ C.q88_c23.eq_1
def C.q88_r0_b : List IOper := [
 X.o 2 (.move (X.i 0))]
def C.q88_r0 : List IOper := C.q88_r0_b
def C.q88_r0_w := @aopsE _ _ C.q88_r0.eq_1
def C.q88 : IFunc := ⟨1, [.slot 2], .seq (.region C.q88_r0) C.q88_c23⟩
def C.q88_W := And.intro (And.intro (And.intro (And.intro (And.intro @C.q88_r13_w @C.q88_c1_w) (And.intro @C.q88_r12_w @C.q88_c2_w)) (And.intro (And.intro @C.q88_r11_w @C.q88_c3_w) (And.intro @C.q88_r10_w @C.q88_c4_w))) (And.intro (And.intro (And.intro @C.q88_c5_w @C.q88_r9_w) (And.intro @C.q88_c6_w @C.q88_r8_w)) (And.intro (And.intro @C.q88_b7_w @C.q88_c8_w) (And.intro @C.q88_c9_w (And.intro @C.q88_r7_w @C.q88_b11_w))))) (And.intro (And.intro (And.intro (And.intro @C.q88_c12_w @C.q88_r6_w) (And.intro @C.q88_c13_w @C.q88_r5_w)) (And.intro (And.intro @C.q88_b14_w @C.q88_c15_w) (And.intro @C.q88_c16_w (And.intro @C.q88_r4_w @C.q88_b18_w)))) (And.intro (And.intro (And.intro @C.q88_c19_w @C.q88_r3_w) (And.intro @C.q88_c20_w @C.q88_r2_w)) (And.intro (And.intro @C.q88_c21_w @C.q88_c22_w) (And.intro @C.q88_r1_w (And.intro @C.q88_c23_w @C.q88_r0_w)))))
def C.q88_B := And.intro (And.intro (And.intro @C.q88_r13_b.eq_1 (And.intro @C.q88_r12_b.eq_1 @C.q88_r11_b.eq_1)) (And.intro (And.intro @C.q88_r10_b.eq_1 @C.q88_r9_b.eq_1) (And.intro @C.q88_r8_b.eq_1 @C.q88_r7_b.eq_1))) (And.intro (And.intro @C.q88_r6_b.eq_1 (And.intro @C.q88_r5_b.eq_1 @C.q88_r4_b.eq_1)) (And.intro (And.intro @C.q88_r3_b.eq_1 @C.q88_r2_b.eq_1) (And.intro @C.q88_r1_b.eq_1 @C.q88_r0_b.eq_1)))

def C.q85_r16_b : List IOper := [
 X.m 53 2,
 X.m 54 3,
 X.m 2 53,
 X.m 3 54]
def C.q85_r16 : List IOper := C.q85_r16_b
def C.q85_r16_w := @aopsE _ _ C.q85_r16.eq_1
def C.q85_c1 : ICode := .keep [2, 3] (.seq (.region C.q85_r16) .ret)
def C.q85_c1_w := @awpE _ _ C.q85_c1.eq_1
def C.q85_r15_b : List IOper := [
 X.o 52 (.bin .add (X.s 17) (X.i 1)),
 X.m 17 52]
def C.q85_r15 : List IOper := C.q85_r15_b
def C.q85_r15_w := @aopsE _ _ C.q85_r15.eq_1
def C.q85_c2 : ICode := .keep [2, 3, 15, 16, 17] (.region C.q85_r15)
def C.q85_c2_w := @awpE _ _ C.q85_c2.eq_1
def C.q85_r14_b : List IOper := [
 X.o 51 (.bin .add (X.s 25) (X.i 1)),
 X.m 25 51]
def C.q85_r14 : List IOper := C.q85_r14_b
def C.q85_r14_w := @aopsE _ _ C.q85_r14.eq_1
def C.q85_c3 : ICode := .keep [2, 3, 4, 6, 15, 16, 17, 23, 24, 25] (.region C.q85_r14)
def C.q85_c3_w := @awpE _ _ C.q85_c3.eq_1
def C.q85_r13_b : List IOper := [
 X.m 41 3,
 X.m 42 8,
 X.m 43 3,
 X.m 44 8,
 X.o 45 (.idxAddr 1 (X.s 43) (X.s 44)),
 X.o 46 (.load1 (X.s 45)),
 X.m 47 4,
 X.o 48 (.buildSlice 1 1 [.int .i64 0] [(0, 1, X.s 47)]),
 X.o 49 (.append 1 8 (X.s 46) (X.s 48)),
 X.o 50 (.idxAddr 1 (X.s 41) (X.s 42)),
 X.n (.store1 (X.s 50) (X.s 49))]
def C.q85_r13 : List IOper := C.q85_r13_b
def C.q85_r13_w := @aopsE _ _ C.q85_r13.eq_1
def C.q85_c4 : ICode := .keep [2, 3, 4, 6, 8, 15, 16, 17, 23, 24, 25] (.region C.q85_r13)
def C.q85_c4_w := @awpE _ _ C.q85_c4.eq_1
def C.q85_r12_b : List IOper := [
 X.m 35 2,
 X.m 36 4,
 X.o 37 (.idxAddr 1 (X.s 35) (X.s 36)),
 X.o 38 (.load1 (X.s 37)),
 X.o 39 (.bin .add (X.s 38) (X.i 1)),
 X.o 40 (.idxAddr 1 (X.s 35) (X.s 36)),
 X.n (.store1 (X.s 40) (X.s 39))]
def C.q85_r12 : List IOper := C.q85_r12_b
def C.q85_r12_w := @aopsE _ _ C.q85_r12.eq_1
def C.q85_c5 : ICode := .keep [2, 3, 4, 6, 8, 15, 16, 17, 23, 24, 25] (.seq (.region C.q85_r12) C.q85_c4)
def C.q85_c5_w := @awpE _ _ C.q85_c5.eq_1
def C.q85_r11_b : List IOper := [
 X.m 32 6,
 X.m 33 8,
 X.o 34 (.call F.q86 [X.s 32, X.s 33])]
def C.q85_r11 : List IOper := C.q85_r11_b
def C.q85_r11_w := @aopsE _ _ C.q85_r11.eq_1
def C.q85_c6 : ICode := .keep [2, 3, 4, 6, 8, 15, 16, 17, 23, 24, 25] (.seq (.region C.q85_r11) C.q85_c5)
def C.q85_c6_w := @awpE _ _ C.q85_c6.eq_1
def C.q85_c7 : ICode := .keep [2, 3, 4, 6, 8, 15, 16, 17, 23, 24, 25, 31] (.cond (X.s 31) (.exit 3) .skip)
def C.q85_c7_w := @awpE _ _ C.q85_c7.eq_1
def C.q85_r10_b : List IOper := [
 X.m 29 6,
 X.m 30 8,
 X.o 31 (.call F.q87 [X.s 29, X.s 30])]
def C.q85_r10 : List IOper := C.q85_r10_b
def C.q85_r10_w := @aopsE _ _ C.q85_r10.eq_1
def C.q85_c8 : ICode := .keep [2, 3, 4, 6, 8, 15, 16, 17, 23, 24, 25] (.seq (.seq (.region C.q85_r10) C.q85_c7) C.q85_c6)
def C.q85_c8_w := @awpE _ _ C.q85_c8.eq_1
def C.q85_r9_b : List IOper := [
 X.o 27 (.idxAddr 1 (X.s 23) (X.s 25)),
 X.o 28 (.load1 (X.s 27)),
 X.m 8 28]
def C.q85_r9 : List IOper := C.q85_r9_b
def C.q85_r9_w := @aopsE _ _ C.q85_r9.eq_1
def C.q85_b9 : ICode := .seq (.region C.q85_r9) C.q85_c8
def C.q85_b9_w := @awpE _ _ C.q85_b9.eq_1
def C.q85_c10 : ICode := .keep [2, 3, 4, 6, 15, 16, 17, 23, 24, 25] (.seq (.block 3 C.q85_b9) C.q85_c3)
def C.q85_c10_w := @awpE _ _ C.q85_c10.eq_1
def C.q85_c11 : ICode := .keep [2, 3, 4, 6, 15, 16, 17, 23, 24, 25, 26] (.seq (.cond (X.s 26) .skip (.exit 2)) C.q85_c10)
def C.q85_c11_w := @awpE _ _ C.q85_c11.eq_1
def C.q85_r8_b : List IOper := [
 X.o 26 (.bin .lss (X.s 25) (X.s 24))]
def C.q85_r8 : List IOper := C.q85_r8_b
def C.q85_r8_w := @aopsE _ _ C.q85_r8.eq_1
def C.q85_l12 : ICode := .keep [2, 3, 4, 6, 15, 16, 17, 23, 24, 25] (.seq (.region C.q85_r8) C.q85_c11)
def C.q85_l12_w := @awpE _ _ C.q85_l12.eq_1
def C.q85_b13 : ICode := .loop C.q85_l12
def C.q85_b13_w := @awpE _ _ C.q85_b13.eq_1
def C.q85_c14 : ICode := .keep [2, 3, 4, 6, 15, 16, 17, 23, 24, 25] (.block 2 C.q85_b13)
def C.q85_c14_w := @awpE _ _ C.q85_c14.eq_1
def C.q85_r7_b : List IOper := [
 X.m 23 5,
 X.o 24 (.len (X.s 23)),
 X.o 25 (.move (X.i 0))]
def C.q85_r7 : List IOper := C.q85_r7_b
def C.q85_r7_w := @aopsE _ _ C.q85_r7.eq_1
def C.q85_c15 : ICode := .keep [2, 3, 4, 5, 6, 15, 16, 17] (.seq (.region C.q85_r7) C.q85_c14)
def C.q85_c15_w := @awpE _ _ C.q85_c15.eq_1
def C.q85_r6_b : List IOper := [
 X.o 22 (.makeMap none),
 X.m 6 22]
def C.q85_r6 : List IOper := C.q85_r6_b
def C.q85_r6_w := @aopsE _ _ C.q85_r6.eq_1
def C.q85_c16 : ICode := .keep [2, 3, 4, 5, 15, 16, 17] (.seq (.region C.q85_r6) C.q85_c15)
def C.q85_c16_w := @awpE _ _ C.q85_c16.eq_1
def C.q85_r5_b : List IOper := [
 X.m 19 17,
 X.o 20 (.idxAddr 1 (X.s 15) (X.s 17)),
 X.o 21 (.load1 (X.s 20)),
 X.m 4 19,
 X.m 5 21]
def C.q85_r5 : List IOper := C.q85_r5_b
def C.q85_r5_w := @aopsE _ _ C.q85_r5.eq_1
def C.q85_b17 : ICode := .seq (.region C.q85_r5) C.q85_c16
def C.q85_b17_w := @awpE _ _ C.q85_b17.eq_1
def C.q85_c18 : ICode := .keep [2, 3, 15, 16, 17] (.seq (.block 1 C.q85_b17) C.q85_c2)
def C.q85_c18_w := @awpE _ _ C.q85_c18.eq_1
def C.q85_c19 : ICode := .keep [2, 3, 15, 16, 17, 18] (.seq (.cond (X.s 18) .skip (.exit 0)) C.q85_c18)
def C.q85_c19_w := @awpE _ _ C.q85_c19.eq_1
def C.q85_r4_b : List IOper := [
 X.o 18 (.bin .lss (X.s 17) (X.s 16))]
def C.q85_r4 : List IOper := C.q85_r4_b
def C.q85_r4_w := @aopsE _ _ C.q85_r4.eq_1
def C.q85_l20 : ICode := .keep [2, 3, 15, 16, 17] (.seq (.region C.q85_r4) C.q85_c19)
def C.q85_l20_w := @awpE _ _ C.q85_l20.eq_1
def C.q85_b21 : ICode := .loop C.q85_l20
def C.q85_b21_w := @awpE _ _ C.q85_b21.eq_1
def C.q85_c22 : ICode := .keep [2, 3, 15, 16, 17] (.block 0 C.q85_b21)
def C.q85_c22_w := @awpE _ _ C.q85_c22.eq_1
def C.q85_r3_b : List IOper := [
 X.m 15 0,
 X.o 16 (.len (X.s 15)),
 X.o 17 (.move (X.i 0))]
def C.q85_r3 : List IOper := C.q85_r3_b
def C.q85_r3_w := @aopsE _ _ C.q85_r3.eq_1
def C.q85_c23 : ICode := .keep [0, 2, 3] (.seq (.seq (.region C.q85_r3) C.q85_c22) C.q85_c1)
def C.q85_c23_w := @awpE _ _ C.q85_c23.eq_1
def C.q85_r2_b : List IOper := [
 X.m 12 0,
 X.o 13 (.len (X.s 12)),
 X.o 14 (.makeSlice 1 24 [.nils] (X.s 13) (X.s 13)),
 X.m 3 14]
def C.q85_r2 : List IOper := C.q85_r2_b
def C.q85_r2_w := @aopsE _ _ C.q85_r2.eq_1
def C.q85_c24 : ICode := .keep [0, 2] (.seq (.region C.q85_r2) C.q85_c23)
def C.q85_c24_w := @awpE _ _ C.q85_c24.eq_1
def C.q85_r1_b : List IOper := [
 X.m 9 0,
 X.o 10 (.len (X.s 9)),
 X.o 11 (.makeSlice 1 8 [.int .i64 0] (X.s 10) (X.s 10)),
 X.m 2 11]
def C.q85_r1 : List IOper := C.q85_r1_b
def C.q85_r1_w := @aopsE _ _ C.q85_r1.eq_1
def C.q85_c25 : ICode := .keep [0] (.seq (.region C.q85_r1) C.q85_c24)
def C.q85_c25_w := @awpE _ _ C.q85_c25.eq_1
def C.q85_r0_b : List IOper := [
 X.o 2 (.move (.cst (.nils))),
 X.o 3 (.move (.cst (.nils)))]
def C.q85_r0 : List IOper := C.q85_r0_b
def C.q85_r0_w := @aopsE _ _ C.q85_r0.eq_1
def C.q85 : IFunc := ⟨1, [.slot 2, .slot 3], .seq (.region C.q85_r0) C.q85_c25⟩
def C.q85_W := And.intro (And.intro (And.intro (And.intro (And.intro @C.q85_r16_w @C.q85_c1_w) (And.intro @C.q85_r15_w (And.intro @C.q85_c2_w @C.q85_r14_w))) (And.intro (And.intro @C.q85_c3_w @C.q85_r13_w) (And.intro @C.q85_c4_w (And.intro @C.q85_r12_w @C.q85_c5_w)))) (And.intro (And.intro (And.intro @C.q85_r11_w @C.q85_c6_w) (And.intro @C.q85_c7_w (And.intro @C.q85_r10_w @C.q85_c8_w))) (And.intro (And.intro @C.q85_r9_w @C.q85_b9_w) (And.intro @C.q85_c10_w (And.intro @C.q85_c11_w @C.q85_r8_w))))) (And.intro (And.intro (And.intro (And.intro @C.q85_b13_w @C.q85_c14_w) (And.intro @C.q85_r7_w (And.intro @C.q85_c15_w @C.q85_r6_w))) (And.intro (And.intro @C.q85_c16_w @C.q85_r5_w) (And.intro @C.q85_b17_w (And.intro @C.q85_c18_w @C.q85_c19_w)))) (And.intro (And.intro (And.intro @C.q85_r4_w @C.q85_b21_w) (And.intro @C.q85_c22_w (And.intro @C.q85_r3_w @C.q85_c23_w))) (And.intro (And.intro @C.q85_r2_w @C.q85_c24_w) (And.intro @C.q85_r1_w (And.intro @C.q85_c25_w @C.q85_r0_w)))))
def C.q85_B := And.intro (And.intro (And.intro (And.intro @C.q85_r16_b.eq_1 @C.q85_r15_b.eq_1) (And.intro @C.q85_r14_b.eq_1 @C.q85_r13_b.eq_1)) (And.intro (And.intro @C.q85_r12_b.eq_1 @C.q85_r11_b.eq_1) (And.intro @C.q85_r10_b.eq_1 @C.q85_r9_b.eq_1))) (And.intro (And.intro (And.intro @C.q85_r8_b.eq_1 @C.q85_r7_b.eq_1) (And.intro @C.q85_r6_b.eq_1 @C.q85_r5_b.eq_1)) (And.intro (And.intro @C.q85_r4_b.eq_1 @C.q85_r3_b.eq_1) (And.intro @C.q85_r2_b.eq_1 (And.intro @C.q85_r1_b.eq_1 @C.q85_r0_b.eq_1))))

def C.q16_r18_b : List IOper := [
 X.m 58 3,
 X.m 2 58]
def C.q16_r18 : List IOper := C.q16_r18_b
def C.q16_r18_w := @aopsE _ _ C.q16_r18.eq_1
def C.q16_c1 : ICode := .keep [3] (.seq (.region C.q16_r18) .ret)
def C.q16_c1_w := @awpE _ _ C.q16_c1.eq_1
def C.q16_r8_b : List IOper := [
 X.m 21 6,
 X.o 22 (.bin .add (X.s 21) (X.i 1)),
 X.m 6 22]
def C.q16_r8 : List IOper := C.q16_r8_b
def C.q16_r8_w := @aopsE _ _ C.q16_r8.eq_1
def C.q16_c2 : ICode := .keep [0, 3, 4, 5, 6] (.region C.q16_r8)
def C.q16_c2_w := @awpE _ _ C.q16_c2.eq_1
def C.q16_r17_b : List IOper := [
 X.o 5 (.move (.cst (.bool true)))]
def C.q16_r17 : List IOper := C.q16_r17_b
def C.q16_r17_w := @aopsE _ _ C.q16_r17.eq_1
def C.q16_c3 : ICode := .keep [0, 3, 4, 6] (.region C.q16_r17)
def C.q16_c3_w := @awpE _ _ C.q16_c3.eq_1
def C.q16_r16_b : List IOper := [
 X.m 54 3,
 X.m 55 6,
 X.o 56 (.buildSlice 1 1 [.int .i64 0] [(0, 1, X.s 55)]),
 X.o 57 (.append 1 8 (X.s 54) (X.s 56)),
 X.m 3 57]
def C.q16_r16 : List IOper := C.q16_r16_b
def C.q16_r16_w := @aopsE _ _ C.q16_r16.eq_1
def C.q16_c4 : ICode := .keep [0, 3, 4, 6] (.seq (.region C.q16_r16) C.q16_c3)
def C.q16_c4_w := @awpE _ _ C.q16_c4.eq_1
def C.q16_r15_b : List IOper := [
 X.m 51 4,
 X.m 52 6,
 X.o 53 (.idxAddr 1 (X.s 51) (X.s 52)),
 X.n (.store1 (X.s 53) (.cst (.bool true)))]
def C.q16_r15 : List IOper := C.q16_r15_b
def C.q16_r15_w := @aopsE _ _ C.q16_r15.eq_1
def C.q16_c5 : ICode := .seq (.region C.q16_r15) C.q16_c4
def C.q16_c5_w := @awpE _ _ C.q16_c5.eq_1
def C.q16_c6 : ICode := .keep [0, 3, 4, 5, 6, 50] (.cond (X.s 50) C.q16_c5 .skip)
def C.q16_c6_w := @awpE _ _ C.q16_c6.eq_1
def C.q16_r14_b : List IOper := [
 X.m 50 7]
def C.q16_r14 : List IOper := C.q16_r14_b
def C.q16_r14_w := @aopsE _ _ C.q16_r14.eq_1
def C.q16_c7 : ICode := .keep [0, 3, 4, 5, 6, 7] (.seq (.region C.q16_r14) C.q16_c6)
def C.q16_c7_w := @awpE _ _ C.q16_c7.eq_1
def C.q16_r12_b : List IOper := [
 X.m 35 8,
 X.o 36 (.bin .add (X.s 35) (X.i 1)),
 X.m 8 36]
def C.q16_r12 : List IOper := C.q16_r12_b
def C.q16_r12_w := @aopsE _ _ C.q16_r12.eq_1
def C.q16_c8 : ICode := .keep [0, 3, 4, 5, 6, 7, 8] (.region C.q16_r12)
def C.q16_c8_w := @awpE _ _ C.q16_c8.eq_1
def C.q16_r13_b : List IOper := [
 X.m 37 7,
 X.m 38 37,
 X.t 38 39 (.move (X.s 4)),
 X.t 38 40 (.move (X.s 0)),
 X.t 38 41 (.move (X.s 6)),
 X.t 38 42 (.idxAddr 1 (X.s 40) (X.s 41)),
 X.t 38 43 (.load1 (X.s 42)),
 X.t 38 44 (.move (X.s 8)),
 X.t 38 45 (.idxAddr 1 (X.s 43) (X.s 44)),
 X.t 38 46 (.load1 (X.s 45)),
 X.t 38 47 (.idxAddr 1 (X.s 39) (X.s 46)),
 X.t 38 48 (.load1 (X.s 47)),
 X.o 49 (.pick (X.s 38) (X.s 48) (.cst (.bool false))),
 X.m 7 49]
def C.q16_r13 : List IOper := C.q16_r13_b
def C.q16_r13_w := @aopsE _ _ C.q16_r13.eq_1
def C.q16_b9 : ICode := .region C.q16_r13
def C.q16_b9_w := @awpE _ _ C.q16_b9.eq_1
def C.q16_c10 : ICode := .keep [0, 3, 4, 5, 6, 7, 8] (.seq (.block 5 C.q16_b9) C.q16_c8)
def C.q16_c10_w := @awpE _ _ C.q16_c10.eq_1
def C.q16_c11 : ICode := .keep [0, 3, 4, 5, 6, 7, 8, 34] (.cond (X.s 34) .skip (.exit 4))
def C.q16_c11_w := @awpE _ _ C.q16_c11.eq_1
def C.q16_r11_b : List IOper := [
 X.m 28 8,
 X.m 29 0,
 X.m 30 6,
 X.o 31 (.idxAddr 1 (X.s 29) (X.s 30)),
 X.o 32 (.load1 (X.s 31)),
 X.o 33 (.len (X.s 32)),
 X.o 34 (.bin .lss (X.s 28) (X.s 33))]
def C.q16_r11 : List IOper := C.q16_r11_b
def C.q16_r11_w := @aopsE _ _ C.q16_r11.eq_1
def C.q16_l12 : ICode := .keep [0, 3, 4, 5, 6, 7, 8] (.seq (.seq (.region C.q16_r11) C.q16_c11) C.q16_c10)
def C.q16_l12_w := @awpE _ _ C.q16_l12.eq_1
def C.q16_b13 : ICode := .loop C.q16_l12
def C.q16_b13_w := @awpE _ _ C.q16_b13.eq_1
def C.q16_c14 : ICode := .keep [0, 3, 4, 5, 6, 7, 8] (.block 4 C.q16_b13)
def C.q16_c14_w := @awpE _ _ C.q16_c14.eq_1
def C.q16_r10_b : List IOper := [
 X.o 8 (.move (X.i 0))]
def C.q16_r10 : List IOper := C.q16_r10_b
def C.q16_r10_w := @aopsE _ _ C.q16_r10.eq_1
def C.q16_c15 : ICode := .keep [0, 3, 4, 5, 6, 7] (.seq (.seq (.region C.q16_r10) C.q16_c14) C.q16_c7)
def C.q16_c15_w := @awpE _ _ C.q16_c15.eq_1
def C.q16_r9_b : List IOper := [
 X.m 23 4,
 X.m 24 6,
 X.o 25 (.idxAddr 1 (X.s 23) (X.s 24)),
 X.o 26 (.load1 (X.s 25)),
 X.o 27 (.un .not (X.s 26)),
 X.m 7 27]
def C.q16_r9 : List IOper := C.q16_r9_b
def C.q16_r9_w := @aopsE _ _ C.q16_r9.eq_1
def C.q16_b16 : ICode := .seq (.region C.q16_r9) C.q16_c15
def C.q16_b16_w := @awpE _ _ C.q16_b16.eq_1
def C.q16_c17 : ICode := .keep [0, 3, 4, 5, 6] (.seq (.block 3 C.q16_b16) C.q16_c2)
def C.q16_c17_w := @awpE _ _ C.q16_c17.eq_1
def C.q16_c18 : ICode := .keep [0, 3, 4, 5, 6, 20] (.cond (X.s 20) .skip (.exit 2))
def C.q16_c18_w := @awpE _ _ C.q16_c18.eq_1
def C.q16_r7_b : List IOper := [
 X.m 13 6,
 X.m 14 0,
 X.o 15 (.len (X.s 14)),
 X.o 16 (.bin .lss (X.s 13) (X.s 15)),
 X.m 17 16,
 X.t 17 18 (.move (X.s 5)),
 X.t 17 19 (.un .not (X.s 18)),
 X.o 20 (.pick (X.s 17) (X.s 19) (.cst (.bool false)))]
def C.q16_r7 : List IOper := C.q16_r7_b
def C.q16_r7_w := @aopsE _ _ C.q16_r7.eq_1
def C.q16_l19 : ICode := .keep [0, 3, 4, 5, 6] (.seq (.seq (.region C.q16_r7) C.q16_c18) C.q16_c17)
def C.q16_l19_w := @awpE _ _ C.q16_l19.eq_1
def C.q16_b20 : ICode := .loop C.q16_l19
def C.q16_b20_w := @awpE _ _ C.q16_b20.eq_1
def C.q16_c21 : ICode := .keep [0, 3, 4, 5, 6] (.block 2 C.q16_b20)
def C.q16_c21_w := @awpE _ _ C.q16_c21.eq_1
def C.q16_r6_b : List IOper := [
 X.o 6 (.move (X.i 0))]
def C.q16_r6 : List IOper := C.q16_r6_b
def C.q16_r6_w := @aopsE _ _ C.q16_r6.eq_1
def C.q16_c22 : ICode := .keep [0, 3, 4, 5] (.seq (.region C.q16_r6) C.q16_c21)
def C.q16_c22_w := @awpE _ _ C.q16_c22.eq_1
def C.q16_r5_b : List IOper := [
 X.o 5 (.move (.cst (.bool false)))]
def C.q16_r5 : List IOper := C.q16_r5_b
def C.q16_r5_w := @aopsE _ _ C.q16_r5.eq_1
def C.q16_b23 : ICode := .seq (.region C.q16_r5) C.q16_c22
def C.q16_b23_w := @awpE _ _ C.q16_b23.eq_1
def C.q16_c24 : ICode := .keep [0, 3, 4] (.block 1 C.q16_b23)
def C.q16_c24_w := @awpE _ _ C.q16_c24.eq_1
def C.q16_c25 : ICode := .keep [0, 3, 4, 12] (.cond (X.s 12) .skip (.exit 0))
def C.q16_c25_w := @awpE _ _ C.q16_c25.eq_1
def C.q16_r4_b : List IOper := [
 X.m 12 5]
def C.q16_r4 : List IOper := C.q16_r4_b
def C.q16_r4_w := @aopsE _ _ C.q16_r4.eq_1
def C.q16_l26 : ICode := .keep [0, 3, 4, 5] (.seq (.seq (.region C.q16_r4) C.q16_c25) C.q16_c24)
def C.q16_l26_w := @awpE _ _ C.q16_l26.eq_1
def C.q16_b27 : ICode := .loop C.q16_l26
def C.q16_b27_w := @awpE _ _ C.q16_b27.eq_1
def C.q16_c28 : ICode := .keep [0, 3, 4, 5] (.seq (.block 0 C.q16_b27) C.q16_c1)
def C.q16_c28_w := @awpE _ _ C.q16_c28.eq_1
def C.q16_r3_b : List IOper := [
 X.o 5 (.move (.cst (.bool true)))]
def C.q16_r3 : List IOper := C.q16_r3_b
def C.q16_r3_w := @aopsE _ _ C.q16_r3.eq_1
def C.q16_c29 : ICode := .keep [0, 3, 4] (.seq (.region C.q16_r3) C.q16_c28)
def C.q16_c29_w := @awpE _ _ C.q16_c29.eq_1
def C.q16_r2_b : List IOper := [
 X.m 9 0,
 X.o 10 (.len (X.s 9)),
 X.o 11 (.makeSlice 1 1 [.bool false] (X.s 10) (X.s 10)),
 X.m 4 11]
def C.q16_r2 : List IOper := C.q16_r2_b
def C.q16_r2_w := @aopsE _ _ C.q16_r2.eq_1
def C.q16_c30 : ICode := .keep [0, 3] (.seq (.region C.q16_r2) C.q16_c29)
def C.q16_c30_w := @awpE _ _ C.q16_c30.eq_1
def C.q16_r1_b : List IOper := [
 X.o 3 (.move (.cst (.nils)))]
def C.q16_r1 : List IOper := C.q16_r1_b
def C.q16_r1_w := @aopsE _ _ C.q16_r1.eq_1
def C.q16_c31 : ICode := .keep [0] (.seq (.region C.q16_r1) C.q16_c30)
def C.q16_c31_w := @awpE _ _ C.q16_c31.eq_1
def C.q16_r0_b : List IOper := [
 X.o 2 (.move (.cst (.nils)))]
def C.q16_r0 : List IOper := C.q16_r0_b
def C.q16_r0_w := @aopsE _ _ C.q16_r0.eq_1
def C.q16 : IFunc := ⟨1, [.slot 2], .seq (.region C.q16_r0) C.q16_c31⟩
def C.q16_W := And.intro (And.intro (And.intro (And.intro (And.intro @C.q16_r18_w @C.q16_c1_w) (And.intro @C.q16_r8_w (And.intro @C.q16_c2_w @C.q16_r17_w))) (And.intro (And.intro @C.q16_c3_w (And.intro @C.q16_r16_w @C.q16_c4_w)) (And.intro @C.q16_r15_w (And.intro @C.q16_c5_w @C.q16_c6_w)))) (And.intro (And.intro (And.intro @C.q16_r14_w (And.intro @C.q16_c7_w @C.q16_r12_w)) (And.intro @C.q16_c8_w (And.intro @C.q16_r13_w @C.q16_b9_w))) (And.intro (And.intro @C.q16_c10_w (And.intro @C.q16_c11_w @C.q16_r11_w)) (And.intro @C.q16_b13_w (And.intro @C.q16_c14_w @C.q16_r10_w))))) (And.intro (And.intro (And.intro (And.intro @C.q16_c15_w (And.intro @C.q16_r9_w @C.q16_b16_w)) (And.intro @C.q16_c17_w (And.intro @C.q16_c18_w @C.q16_r7_w))) (And.intro (And.intro @C.q16_b20_w (And.intro @C.q16_c21_w @C.q16_r6_w)) (And.intro @C.q16_c22_w (And.intro @C.q16_r5_w @C.q16_b23_w)))) (And.intro (And.intro (And.intro @C.q16_c24_w (And.intro @C.q16_c25_w @C.q16_r4_w)) (And.intro @C.q16_b27_w (And.intro @C.q16_c28_w @C.q16_r3_w))) (And.intro (And.intro @C.q16_c29_w (And.intro @C.q16_r2_w @C.q16_c30_w)) (And.intro @C.q16_r1_w (And.intro @C.q16_c31_w @C.q16_r0_w)))))
def C.q16_B := And.intro (And.intro (And.intro (And.intro @C.q16_r18_b.eq_1 @C.q16_r8_b.eq_1) (And.intro @C.q16_r17_b.eq_1 @C.q16_r16_b.eq_1)) (And.intro (And.intro @C.q16_r15_b.eq_1 @C.q16_r14_b.eq_1) (And.intro @C.q16_r12_b.eq_1 (And.intro @C.q16_r13_b.eq_1 @C.q16_r11_b.eq_1)))) (And.intro (And.intro (And.intro @C.q16_r10_b.eq_1 @C.q16_r9_b.eq_1) (And.intro @C.q16_r7_b.eq_1 (And.intro @C.q16_r6_b.eq_1 @C.q16_r5_b.eq_1))) (And.intro (And.intro @C.q16_r4_b.eq_1 @C.q16_r3_b.eq_1) (And.intro @C.q16_r2_b.eq_1 (And.intro @C.q16_r1_b.eq_1 @C.q16_r0_b.eq_1))))

end Go.Proofs.Ytoblpialfhfdgaa.Cn
