/- The intermediate code of the functions, printed by a program out of the loaded program; that it is theirs is checked in the text of links. -/
import Derived.Test.YtkioaemhdbcfaaaCnIr1
set_option linter.defProp false
namespace Go.Proofs.Ytkioaemhdbcfaaa.Cn
open Go
variable {P : Program} {Q : IExit → AFr → ASt → Prop} {fr : AFr} {st : ASt}


def C.q5_r8_b : List IOper := [
 X.m 21 5,
 X.m 4 21]
def C.q5_r8 : List IOper := C.q5_r8_b
def C.q5_r8_w := @aopsE _ _ C.q5_r8.eq_1
def C.q5_c1 : ICode := .keep [5] (.seq (.region C.q5_r8) .ret)
def C.q5_c1_w := @awpE _ _ C.q5_c1.eq_1
def C.q5_r7_b : List IOper := [
 X.m 19 5,
 X.o 20 (.call F.q75 [X.s 19])]
def C.q5_r7 : List IOper := C.q5_r7_b
def C.q5_r7_w := @aopsE _ _ C.q5_r7.eq_1
def C.q5_c2 : ICode := .keep [5] (.seq (.region C.q5_r7) C.q5_c1)
def C.q5_c2_w := @awpE _ _ C.q5_c2.eq_1
def C.q5_r5_b : List IOper := [
 X.m 12 0,
 X.m 13 1,
 X.o 14 (.call F.q16 [X.s 12, X.s 13]),
 X.m 1 14]
def C.q5_r5 : List IOper := C.q5_r5_b
def C.q5_r5_w := @aopsE _ _ C.q5_r5.eq_1
def C.q5_c3 : ICode := .keep [0, 1, 5] (.region C.q5_r5)
def C.q5_c3_w := @awpE _ _ C.q5_c3.eq_1
def C.q5_r6_b : List IOper := [
 X.m 15 5,
 X.m 16 1,
 X.o 17 (.buildSlice 1 1 [.int .i64 0] [(0, 1, X.s 16)]),
 X.o 18 (.append 1 8 (X.s 15) (X.s 17)),
 X.m 5 18]
def C.q5_r6 : List IOper := C.q5_r6_b
def C.q5_r6_w := @aopsE _ _ C.q5_r6.eq_1
def C.q5_b4 : ICode := .region C.q5_r6
def C.q5_b4_w := @awpE _ _ C.q5_b4.eq_1
def C.q5_c5 : ICode := .keep [0, 1, 5] (.seq (.block 1 C.q5_b4) C.q5_c3)
def C.q5_c5_w := @awpE _ _ C.q5_c5.eq_1
def C.q5_c6 : ICode := .keep [0, 1, 5, 11] (.cond (X.s 11) .skip (.exit 0))
def C.q5_c6_w := @awpE _ _ C.q5_c6.eq_1
def C.q5_r4_b : List IOper := [
 X.m 10 1,
 X.o 11 (.bin .neq (X.s 10) (X.i (-1)))]
def C.q5_r4 : List IOper := C.q5_r4_b
def C.q5_r4_w := @aopsE _ _ C.q5_r4.eq_1
def C.q5_l7 : ICode := .keep [0, 1, 5] (.seq (.seq (.region C.q5_r4) C.q5_c6) C.q5_c5)
def C.q5_l7_w := @awpE _ _ C.q5_l7.eq_1
def C.q5_b8 : ICode := .loop C.q5_l7
def C.q5_b8_w := @awpE _ _ C.q5_b8.eq_1
def C.q5_c9 : ICode := .keep [0, 1, 5] (.seq (.block 0 C.q5_b8) C.q5_c2)
def C.q5_c9_w := @awpE _ _ C.q5_c9.eq_1
def C.q5_r3_b : List IOper := [
 X.o 5 (.move (.cst (.nils)))]
def C.q5_r3 : List IOper := C.q5_r3_b
def C.q5_r3_w := @aopsE _ _ C.q5_r3.eq_1
def C.q5_c10 : ICode := .keep [0, 1] (.seq (.region C.q5_r3) C.q5_c9)
def C.q5_c10_w := @awpE _ _ C.q5_c10.eq_1
def C.q5_r2_b : List IOper := [
 X.o 4 (.move (.cst (.nils)))]
def C.q5_r2 : List IOper := C.q5_r2_b
def C.q5_r2_w := @aopsE _ _ C.q5_r2.eq_1
def C.q5_c11 : ICode := .seq (.region C.q5_r2) .ret
def C.q5_c11_w := @awpE _ _ C.q5_c11.eq_1
def C.q5_c12 : ICode := .keep [0, 1, 9] (.cond (X.s 9) C.q5_c11 .skip)
def C.q5_c12_w := @awpE _ _ C.q5_c12.eq_1
def C.q5_r1_b : List IOper := [
 X.m 6 0,
 X.m 7 1,
 X.o 8 (.call F.q15 [X.s 6, X.s 7]),
 X.o 9 (.eqP 0 false (X.s 8) (.cst (.nilp)))]
def C.q5_r1 : List IOper := C.q5_r1_b
def C.q5_r1_w := @aopsE _ _ C.q5_r1.eq_1
def C.q5_c13 : ICode := .keep [0, 1] (.seq (.seq (.region C.q5_r1) C.q5_c12) C.q5_c10)
def C.q5_c13_w := @awpE _ _ C.q5_c13.eq_1
def C.q5_r0_b : List IOper := [
 X.o 4 (.move (.cst (.nils)))]
def C.q5_r0 : List IOper := C.q5_r0_b
def C.q5_r0_w := @aopsE _ _ C.q5_r0.eq_1
def C.q5 : IFunc := ⟨2, [.slot 4], .seq (.region C.q5_r0) C.q5_c13⟩
def C.q5_W := And.intro (And.intro (And.intro (And.intro @C.q5_r8_w @C.q5_c1_w) (And.intro @C.q5_r7_w (And.intro @C.q5_c2_w @C.q5_r5_w))) (And.intro (And.intro @C.q5_c3_w @C.q5_r6_w) (And.intro @C.q5_b4_w (And.intro @C.q5_c5_w @C.q5_c6_w)))) (And.intro (And.intro (And.intro @C.q5_r4_w @C.q5_b8_w) (And.intro @C.q5_c9_w (And.intro @C.q5_r3_w @C.q5_c10_w))) (And.intro (And.intro @C.q5_r2_w (And.intro @C.q5_c11_w @C.q5_c12_w)) (And.intro @C.q5_r1_w (And.intro @C.q5_c13_w @C.q5_r0_w))))
def C.q5_B := And.intro (And.intro (And.intro @C.q5_r8_b.eq_1 @C.q5_r7_b.eq_1) (And.intro @C.q5_r5_b.eq_1 @C.q5_r6_b.eq_1)) (And.intro (And.intro @C.q5_r4_b.eq_1 @C.q5_r3_b.eq_1) (And.intro @C.q5_r2_b.eq_1 (And.intro @C.q5_r1_b.eq_1 @C.q5_r0_b.eq_1)))

def C.q13_r7_b : List IOper := [
 X.o 6 (.move (X.i 0))]
def C.q13_r7 : List IOper := C.q13_r7_b
def C.q13_r7_w := @aopsE _ _ C.q13_r7.eq_1
def C.q13_c1 : ICode := .keep [] (.seq (.region C.q13_r7) .ret)
def C.q13_c1_w := @awpE _ _ C.q13_c1.eq_1
def C.q13_r6_b : List IOper := [
 X.m 33 7,
 X.m 34 2,
 X.o 35 (.nilchk (X.s 33)),
 X.o 36 (.fldAddr 9 (X.s 35)),
 X.n (.store1 (X.s 36) (X.s 34))]
def C.q13_r6 : List IOper := C.q13_r6_b
def C.q13_r6_w := @aopsE _ _ C.q13_r6.eq_1
def C.q13_c2 : ICode := .keep [2, 7] (.seq (.region C.q13_r6) C.q13_c1)
def C.q13_c2_w := @awpE _ _ C.q13_c2.eq_1
def C.q13_r5_b : List IOper := [
 X.o 6 (.move (X.i 1))]
def C.q13_r5 : List IOper := C.q13_r5_b
def C.q13_r5_w := @aopsE _ _ C.q13_r5.eq_1
def C.q13_c3 : ICode := .seq (.region C.q13_r5) .ret
def C.q13_c3_w := @awpE _ _ C.q13_c3.eq_1
def C.q13_c4 : ICode := .keep [2, 7, 32] (.cond (X.s 32) C.q13_c3 .skip)
def C.q13_c4_w := @awpE _ _ C.q13_c4.eq_1
def C.q13_r4_b : List IOper := [
 X.m 13 7,
 X.o 14 (.nilchk (X.s 13)),
 X.o 15 (.fldAddr 0 (X.s 14)),
 X.o 16 (.fldAddr 0 (X.s 15)),
 X.o 17 (.load1 (X.s 16)),
 X.o 18 (.bin .neq (X.s 17) (.cst (.int .u8 109))),
 X.m 19 18,
 X.f 19 20 (.move (X.s 2)),
 X.f 19 21 (.bin .lss (X.s 20) (X.i 0)),
 X.o 22 (.pick (X.s 19) (.cst (.bool true)) (X.s 21)),
 X.m 23 22,
 X.f 23 24 (.move (X.s 2)),
 X.f 23 25 (.move (X.s 7)),
 X.f 23 26 (.nilchk (X.s 25)),
 X.f 23 27 (.fldAddr 0 (X.s 26)),
 X.f 23 28 (.fldAddr 1 (X.s 27)),
 X.f 23 29 (.load1 (X.s 28)),
 X.f 23 30 (.len (X.s 29)),
 X.f 23 31 (.bin .geq (X.s 24) (X.s 30)),
 X.o 32 (.pick (X.s 23) (.cst (.bool true)) (X.s 31))]
def C.q13_r4 : List IOper := C.q13_r4_b
def C.q13_r4_w := @aopsE _ _ C.q13_r4.eq_1
def C.q13_c5 : ICode := .keep [2, 7] (.seq (.seq (.region C.q13_r4) C.q13_c4) C.q13_c2)
def C.q13_c5_w := @awpE _ _ C.q13_c5.eq_1
def C.q13_r3_b : List IOper := [
 X.o 6 (.move (X.i 4))]
def C.q13_r3 : List IOper := C.q13_r3_b
def C.q13_r3_w := @aopsE _ _ C.q13_r3.eq_1
def C.q13_c6 : ICode := .seq (.region C.q13_r3) .ret
def C.q13_c6_w := @awpE _ _ C.q13_c6.eq_1
def C.q13_c7 : ICode := .keep [2, 7, 12] (.cond (X.s 12) C.q13_c6 .skip)
def C.q13_c7_w := @awpE _ _ C.q13_c7.eq_1
def C.q13_r2_b : List IOper := [
 X.m 11 7,
 X.o 12 (.eqP 0 false (X.s 11) (.cst (.nilp)))]
def C.q13_r2 : List IOper := C.q13_r2_b
def C.q13_r2_w := @aopsE _ _ C.q13_r2.eq_1
def C.q13_c8 : ICode := .keep [2, 7] (.seq (.seq (.region C.q13_r2) C.q13_c7) C.q13_c5)
def C.q13_c8_w := @awpE _ _ C.q13_c8.eq_1
def C.q13_r1_b : List IOper := [
 X.m 8 0,
 X.m 9 1,
 X.o 10 (.call F.q15 [X.s 8, X.s 9]),
 X.m 7 10]
def C.q13_r1 : List IOper := C.q13_r1_b
def C.q13_r1_w := @aopsE _ _ C.q13_r1.eq_1
def C.q13_c9 : ICode := .keep [0, 1, 2] (.seq (.region C.q13_r1) C.q13_c8)
def C.q13_c9_w := @awpE _ _ C.q13_c9.eq_1
def C.q13_r0_b : List IOper := [
 X.o 6 (.move (X.i 0))]
def C.q13_r0 : List IOper := C.q13_r0_b
def C.q13_r0_w := @aopsE _ _ C.q13_r0.eq_1
def C.q13 : IFunc := ⟨3, [.slot 6], .seq (.region C.q13_r0) C.q13_c9⟩
def C.q13_W := And.intro (And.intro (And.intro (And.intro @C.q13_r7_w @C.q13_c1_w) (And.intro @C.q13_r6_w @C.q13_c2_w)) (And.intro (And.intro @C.q13_r5_w @C.q13_c3_w) (And.intro @C.q13_c4_w @C.q13_r4_w))) (And.intro (And.intro (And.intro @C.q13_c5_w @C.q13_r3_w) (And.intro @C.q13_c6_w @C.q13_c7_w)) (And.intro (And.intro @C.q13_r2_w @C.q13_c8_w) (And.intro @C.q13_r1_w (And.intro @C.q13_c9_w @C.q13_r0_w))))
def C.q13_B := And.intro (And.intro (And.intro @C.q13_r7_b.eq_1 @C.q13_r6_b.eq_1) (And.intro @C.q13_r5_b.eq_1 @C.q13_r4_b.eq_1)) (And.intro (And.intro @C.q13_r3_b.eq_1 @C.q13_r2_b.eq_1) (And.intro @C.q13_r1_b.eq_1 @C.q13_r0_b.eq_1))

def C.q6_r7_b : List IOper := [
 X.o 6 (.move (X.i 0))]
def C.q6_r7 : List IOper := C.q6_r7_b
def C.q6_r7_w := @aopsE _ _ C.q6_r7.eq_1
def C.q6_c1 : ICode := .keep [] (.seq (.region C.q6_r7) .ret)
def C.q6_c1_w := @awpE _ _ C.q6_c1.eq_1
def C.q6_r6_b : List IOper := [
 X.m 27 7,
 X.m 28 2,
 X.o 29 (.nilchk (X.s 27)),
 X.o 30 (.fldAddr 10 (X.s 29)),
 X.n (.store1 (X.s 30) (X.s 28))]
def C.q6_r6 : List IOper := C.q6_r6_b
def C.q6_r6_w := @aopsE _ _ C.q6_r6.eq_1
def C.q6_c2 : ICode := .keep [2, 7] (.seq (.region C.q6_r6) C.q6_c1)
def C.q6_c2_w := @awpE _ _ C.q6_c2.eq_1
def C.q6_r5_b : List IOper := [
 X.o 6 (.move (X.i 1))]
def C.q6_r5 : List IOper := C.q6_r5_b
def C.q6_r5_w := @aopsE _ _ C.q6_r5.eq_1
def C.q6_c3 : ICode := .seq (.region C.q6_r5) .ret
def C.q6_c3_w := @awpE _ _ C.q6_c3.eq_1
def C.q6_c4 : ICode := .keep [2, 7, 26] (.cond (X.s 26) C.q6_c3 .skip)
def C.q6_c4_w := @awpE _ _ C.q6_c4.eq_1
def C.q6_r4_b : List IOper := [
 X.m 13 7,
 X.o 14 (.nilchk (X.s 13)),
 X.o 15 (.fldAddr 0 (X.s 14)),
 X.o 16 (.fldAddr 0 (X.s 15)),
 X.o 17 (.load1 (X.s 16)),
 X.o 18 (.bin .neq (X.s 17) (.cst (.int .u8 100))),
 X.m 19 18,
 X.f 19 20 (.move (X.s 2)),
 X.f 19 21 (.bin .lss (X.s 20) (X.i 1)),
 X.o 22 (.pick (X.s 19) (.cst (.bool true)) (X.s 21)),
 X.m 23 22,
 X.f 23 24 (.move (X.s 2)),
 X.f 23 25 (.bin .gtr (X.s 24) (X.i 1000)),
 X.o 26 (.pick (X.s 23) (.cst (.bool true)) (X.s 25))]
def C.q6_r4 : List IOper := C.q6_r4_b
def C.q6_r4_w := @aopsE _ _ C.q6_r4.eq_1
def C.q6_c5 : ICode := .keep [2, 7] (.seq (.seq (.region C.q6_r4) C.q6_c4) C.q6_c2)
def C.q6_c5_w := @awpE _ _ C.q6_c5.eq_1
def C.q6_r3_b : List IOper := [
 X.o 6 (.move (X.i 4))]
def C.q6_r3 : List IOper := C.q6_r3_b
def C.q6_r3_w := @aopsE _ _ C.q6_r3.eq_1
def C.q6_c6 : ICode := .seq (.region C.q6_r3) .ret
def C.q6_c6_w := @awpE _ _ C.q6_c6.eq_1
def C.q6_c7 : ICode := .keep [2, 7, 12] (.cond (X.s 12) C.q6_c6 .skip)
def C.q6_c7_w := @awpE _ _ C.q6_c7.eq_1
def C.q6_r2_b : List IOper := [
 X.m 11 7,
 X.o 12 (.eqP 0 false (X.s 11) (.cst (.nilp)))]
def C.q6_r2 : List IOper := C.q6_r2_b
def C.q6_r2_w := @aopsE _ _ C.q6_r2.eq_1
def C.q6_c8 : ICode := .keep [2, 7] (.seq (.seq (.region C.q6_r2) C.q6_c7) C.q6_c5)
def C.q6_c8_w := @awpE _ _ C.q6_c8.eq_1
def C.q6_r1_b : List IOper := [
 X.m 8 0,
 X.m 9 1,
 X.o 10 (.call F.q15 [X.s 8, X.s 9]),
 X.m 7 10]
def C.q6_r1 : List IOper := C.q6_r1_b
def C.q6_r1_w := @aopsE _ _ C.q6_r1.eq_1
def C.q6_c9 : ICode := .keep [0, 1, 2] (.seq (.region C.q6_r1) C.q6_c8)
def C.q6_c9_w := @awpE _ _ C.q6_c9.eq_1
def C.q6_r0_b : List IOper := [
 X.o 6 (.move (X.i 0))]
def C.q6_r0 : List IOper := C.q6_r0_b
def C.q6_r0_w := @aopsE _ _ C.q6_r0.eq_1
def C.q6 : IFunc := ⟨3, [.slot 6], .seq (.region C.q6_r0) C.q6_c9⟩
def C.q6_W := And.intro (And.intro (And.intro (And.intro @C.q6_r7_w @C.q6_c1_w) (And.intro @C.q6_r6_w @C.q6_c2_w)) (And.intro (And.intro @C.q6_r5_w @C.q6_c3_w) (And.intro @C.q6_c4_w @C.q6_r4_w))) (And.intro (And.intro (And.intro @C.q6_c5_w @C.q6_r3_w) (And.intro @C.q6_c6_w @C.q6_c7_w)) (And.intro (And.intro @C.q6_r2_w @C.q6_c8_w) (And.intro @C.q6_r1_w (And.intro @C.q6_c9_w @C.q6_r0_w))))
def C.q6_B := And.intro (And.intro (And.intro @C.q6_r7_b.eq_1 @C.q6_r6_b.eq_1) (And.intro @C.q6_r5_b.eq_1 @C.q6_r4_b.eq_1)) (And.intro (And.intro @C.q6_r3_b.eq_1 @C.q6_r2_b.eq_1) (And.intro @C.q6_r1_b.eq_1 @C.q6_r0_b.eq_1))

def C.q73_r6_b : List IOper := [
 X.m 30 8,
 X.m 6 30,
 X.o 7 (.move (X.i 0))]
def C.q73_r6 : List IOper := C.q73_r6_b
def C.q73_r6_w := @aopsE _ _ C.q73_r6.eq_1
def C.q73_c1 : ICode := .keep [8] (.seq (.region C.q73_r6) .ret)
def C.q73_c1_w := @awpE _ _ C.q73_c1.eq_1
def C.q73_r5_b : List IOper := [
 X.o 6 (.move (.cst (.int .u64 0))),
 X.o 7 (.move (X.i 3))]
def C.q73_r5 : List IOper := C.q73_r5_b
def C.q73_r5_w := @aopsE _ _ C.q73_r5.eq_1
def C.q73_c2 : ICode := .seq (.region C.q73_r5) .ret
def C.q73_c2_w := @awpE _ _ C.q73_c2.eq_1
def C.q73_c3 : ICode := .keep [8, 29] (.cond (X.s 29) C.q73_c2 .skip)
def C.q73_c3_w := @awpE _ _ C.q73_c3.eq_1
def C.q73_r4_b : List IOper := [
 X.m 28 8,
 X.o 29 (.bin .gtr (X.s 28) (.cst (.int .u64 1099511627776)))]
def C.q73_r4 : List IOper := C.q73_r4_b
def C.q73_r4_w := @aopsE _ _ C.q73_r4.eq_1
def C.q73_c4 : ICode := .keep [8] (.seq (.seq (.region C.q73_r4) C.q73_c3) C.q73_c1)
def C.q73_c4_w := @awpE _ _ C.q73_c4.eq_1
def C.q73_r3_b : List IOper := [
 X.m 21 0,
 X.m 22 1,
 X.o 23 (.conv .u64 (X.s 22)),
 X.o 24 (.bin .mul (X.s 21) (X.s 23)),
 X.m 25 2,
 X.o 26 (.conv .u64 (X.s 25)),
 X.o 27 (.bin .quo (X.s 24) (X.s 26)),
 X.m 8 27]
def C.q73_r3 : List IOper := C.q73_r3_b
def C.q73_r3_w := @aopsE _ _ C.q73_r3.eq_1
def C.q73_c5 : ICode := .keep [0, 1, 2] (.seq (.region C.q73_r3) C.q73_c4)
def C.q73_c5_w := @awpE _ _ C.q73_c5.eq_1
def C.q73_r2_b : List IOper := [
 X.o 6 (.move (.cst (.int .u64 0))),
 X.o 7 (.move (X.i 1))]
def C.q73_r2 : List IOper := C.q73_r2_b
def C.q73_r2_w := @aopsE _ _ C.q73_r2.eq_1
def C.q73_c6 : ICode := .seq (.region C.q73_r2) .ret
def C.q73_c6_w := @awpE _ _ C.q73_c6.eq_1
def C.q73_c7 : ICode := .keep [0, 1, 2, 20] (.cond (X.s 20) C.q73_c6 .skip)
def C.q73_c7_w := @awpE _ _ C.q73_c7.eq_1
def C.q73_r1_b : List IOper := [
 X.m 9 0,
 X.o 10 (.bin .gtr (X.s 9) (.cst (.int .u64 1099511627776))),
 X.m 11 10,
 X.f 11 12 (.move (X.s 1)),
 X.f 11 13 (.call F.q74 [X.s 12]),
 X.f 11 14 (.un .not (X.s 13)),
 X.o 15 (.pick (X.s 11) (.cst (.bool true)) (X.s 14)),
 X.m 16 15,
 X.f 16 17 (.move (X.s 2)),
 X.f 16 18 (.call F.q74 [X.s 17]),
 X.f 16 19 (.un .not (X.s 18)),
 X.o 20 (.pick (X.s 16) (.cst (.bool true)) (X.s 19))]
def C.q73_r1 : List IOper := C.q73_r1_b
def C.q73_r1_w := @aopsE _ _ C.q73_r1.eq_1
def C.q73_c8 : ICode := .keep [0, 1, 2] (.seq (.seq (.region C.q73_r1) C.q73_c7) C.q73_c5)
def C.q73_c8_w := @awpE _ _ C.q73_c8.eq_1
def C.q73_r0_b : List IOper := [
 X.o 6 (.move (.cst (.int .u64 0))),
 X.o 7 (.move (X.i 0))]
def C.q73_r0 : List IOper := C.q73_r0_b
def C.q73_r0_w := @aopsE _ _ C.q73_r0.eq_1
def C.q73 : IFunc := ⟨3, [.slot 6, .slot 7], .seq (.region C.q73_r0) C.q73_c8⟩
def C.q73_W := And.intro (And.intro (And.intro @C.q73_r6_w (And.intro @C.q73_c1_w @C.q73_r5_w)) (And.intro (And.intro @C.q73_c2_w @C.q73_c3_w) (And.intro @C.q73_r4_w @C.q73_c4_w))) (And.intro (And.intro (And.intro @C.q73_r3_w @C.q73_c5_w) (And.intro @C.q73_r2_w @C.q73_c6_w)) (And.intro (And.intro @C.q73_c7_w @C.q73_r1_w) (And.intro @C.q73_c8_w @C.q73_r0_w)))
def C.q73_B := And.intro (And.intro @C.q73_r6_b.eq_1 (And.intro @C.q73_r5_b.eq_1 @C.q73_r4_b.eq_1)) (And.intro (And.intro @C.q73_r3_b.eq_1 @C.q73_r2_b.eq_1) (And.intro @C.q73_r1_b.eq_1 @C.q73_r0_b.eq_1))

def C.q30_r13_b : List IOper := [
 X.o 66 (.loadN 4 (X.s 3)),
 X.n (.storeN 4 (X.s 2) (X.s 66))]
def C.q30_r13 : List IOper := C.q30_r13_b
def C.q30_r13_w := @aopsE _ _ C.q30_r13.eq_1
def C.q30_c1 : ICode := .keep [2, 3] (.seq (.region C.q30_r13) .ret)
def C.q30_c1_w := @awpE _ _ C.q30_c1.eq_1
def C.q30_r12_b : List IOper := [
 X.o 65 (.bin .add (X.s 42) (X.i 1)),
 X.m 42 65]
def C.q30_r12 : List IOper := C.q30_r12_b
def C.q30_r12_w := @aopsE _ _ C.q30_r12.eq_1
def C.q30_c2 : ICode := .keep [2, 3, 41, 42] (.region C.q30_r12)
def C.q30_c2_w := @awpE _ _ C.q30_c2.eq_1
def C.q30_r11_b : List IOper := [
 X.m 49 6,
 X.m 50 6,
 X.m 51 6,
 X.o 52 (.nilchk (X.s 51)),
 X.o 53 (.fldAddr 4 (X.s 52)),
 X.o 54 (.load1 (X.s 53)),
 X.m 56 6,
 X.o 57 (.nilchk (X.s 56)),
 X.o 58 (.fldAddr 5 (X.s 57)),
 X.o 59 (.load1 (X.s 58)),
 ⟨some 55, .call F.q60 [X.s 54], none, [⟨.load1 (X.s 58), 59, none⟩], []⟩,
 X.o 60 (.call F.q62 [X.s 59]),
 X.o 61 (.nilchk (X.s 49)),
 X.o 62 (.fldAddr 4 (X.s 61)),
 X.n (.store1 (X.s 62) (X.s 55)),
 X.o 63 (.nilchk (X.s 50)),
 X.o 64 (.fldAddr 5 (X.s 63)),
 X.n (.store1 (X.s 64) (X.s 60))]
def C.q30_r11 : List IOper := C.q30_r11_b
def C.q30_r11_w := @aopsE _ _ C.q30_r11.eq_1
def C.q30_c3 : ICode := .keep [2, 3, 6, 41, 42] (.region C.q30_r11)
def C.q30_c3_w := @awpE _ _ C.q30_c3.eq_1
def C.q30_r10_b : List IOper := [
 X.o 45 (.fldAddr 3 (X.s 3)),
 X.o 46 (.load1 (X.s 45)),
 X.m 47 5,
 X.o 48 (.idxAddr 6 (X.s 46) (X.s 47)),
 X.m 6 48]
def C.q30_r10 : List IOper := C.q30_r10_b
def C.q30_r10_w := @aopsE _ _ C.q30_r10.eq_1
def C.q30_c4 : ICode := .keep [2, 3, 5, 41, 42] (.seq (.region C.q30_r10) C.q30_c3)
def C.q30_c4_w := @awpE _ _ C.q30_c4.eq_1
def C.q30_r9_b : List IOper := [
 X.m 44 42,
 X.m 5 44]
def C.q30_r9 : List IOper := C.q30_r9_b
def C.q30_r9_w := @aopsE _ _ C.q30_r9.eq_1
def C.q30_b5 : ICode := .seq (.region C.q30_r9) C.q30_c4
def C.q30_b5_w := @awpE _ _ C.q30_b5.eq_1
def C.q30_c6 : ICode := .keep [2, 3, 41, 42] (.seq (.block 3 C.q30_b5) C.q30_c2)
def C.q30_c6_w := @awpE _ _ C.q30_c6.eq_1
def C.q30_c7 : ICode := .keep [2, 3, 41, 42, 43] (.seq (.cond (X.s 43) .skip (.exit 2)) C.q30_c6)
def C.q30_c7_w := @awpE _ _ C.q30_c7.eq_1
def C.q30_r8_b : List IOper := [
 X.o 43 (.bin .lss (X.s 42) (X.s 41))]
def C.q30_r8 : List IOper := C.q30_r8_b
def C.q30_r8_w := @aopsE _ _ C.q30_r8.eq_1
def C.q30_l8 : ICode := .keep [2, 3, 41, 42] (.seq (.region C.q30_r8) C.q30_c7)
def C.q30_l8_w := @awpE _ _ C.q30_l8.eq_1
def C.q30_b9 : ICode := .loop C.q30_l8
def C.q30_b9_w := @awpE _ _ C.q30_b9.eq_1
def C.q30_c10 : ICode := .keep [2, 3, 41, 42] (.block 2 C.q30_b9)
def C.q30_c10_w := @awpE _ _ C.q30_c10.eq_1
def C.q30_r7_b : List IOper := [
 X.o 39 (.fldAddr 3 (X.s 3)),
 X.o 40 (.load1 (X.s 39)),
 X.o 41 (.len (X.s 40)),
 X.o 42 (.move (X.i 0))]
def C.q30_r7 : List IOper := C.q30_r7_b
def C.q30_r7_w := @aopsE _ _ C.q30_r7.eq_1
def C.q30_c11 : ICode := .keep [2, 3] (.seq (.seq (.region C.q30_r7) C.q30_c10) C.q30_c1)
def C.q30_c11_w := @awpE _ _ C.q30_c11.eq_1
def C.q30_r6_b : List IOper := [
 X.o 38 (.bin .add (X.s 23) (X.i 1)),
 X.m 23 38]
def C.q30_r6 : List IOper := C.q30_r6_b
def C.q30_r6_w := @aopsE _ _ C.q30_r6.eq_1
def C.q30_c12 : ICode := .keep [2, 3, 22, 23] (.region C.q30_r6)
def C.q30_c12_w := @awpE _ _ C.q30_c12.eq_1
def C.q30_r5_b : List IOper := [
 X.o 26 (.fldAddr 0 (X.s 3)),
 X.o 27 (.load1 (X.s 26)),
 X.m 28 4,
 X.o 29 (.fldAddr 0 (X.s 3)),
 X.o 30 (.load1 (X.s 29)),
 X.m 31 4,
 X.o 32 (.idxAddr 6 (X.s 30) (X.s 31)),
 X.o 33 (.fldAddr 1 (X.s 32)),
 X.o 34 (.load1 (X.s 33)),
 ⟨some 35, .call F.q62 [X.s 34], none, [⟨.load1 (X.s 26), 27, none⟩], []⟩,
 X.o 36 (.idxAddr 6 (X.s 27) (X.s 28)),
 X.o 37 (.fldAddr 1 (X.s 36)),
 X.n (.store1 (X.s 37) (X.s 35))]
def C.q30_r5 : List IOper := C.q30_r5_b
def C.q30_r5_w := @aopsE _ _ C.q30_r5.eq_1
def C.q30_c13 : ICode := .keep [2, 3, 4, 22, 23] (.region C.q30_r5)
def C.q30_c13_w := @awpE _ _ C.q30_c13.eq_1
def C.q30_r4_b : List IOper := [
 X.m 25 23,
 X.m 4 25]
def C.q30_r4 : List IOper := C.q30_r4_b
def C.q30_r4_w := @aopsE _ _ C.q30_r4.eq_1
def C.q30_b14 : ICode := .seq (.region C.q30_r4) C.q30_c13
def C.q30_b14_w := @awpE _ _ C.q30_b14.eq_1
def C.q30_c15 : ICode := .keep [2, 3, 22, 23] (.seq (.block 1 C.q30_b14) C.q30_c12)
def C.q30_c15_w := @awpE _ _ C.q30_c15.eq_1
def C.q30_c16 : ICode := .keep [2, 3, 22, 23, 24] (.seq (.cond (X.s 24) .skip (.exit 0)) C.q30_c15)
def C.q30_c16_w := @awpE _ _ C.q30_c16.eq_1
def C.q30_r3_b : List IOper := [
 X.o 24 (.bin .lss (X.s 23) (X.s 22))]
def C.q30_r3 : List IOper := C.q30_r3_b
def C.q30_r3_w := @aopsE _ _ C.q30_r3.eq_1
def C.q30_l17 : ICode := .keep [2, 3, 22, 23] (.seq (.region C.q30_r3) C.q30_c16)
def C.q30_l17_w := @awpE _ _ C.q30_l17.eq_1
def C.q30_b18 : ICode := .loop C.q30_l17
def C.q30_b18_w := @awpE _ _ C.q30_b18.eq_1
def C.q30_c19 : ICode := .keep [2, 3, 22, 23] (.block 0 C.q30_b18)
def C.q30_c19_w := @awpE _ _ C.q30_c19.eq_1
def C.q30_r2_b : List IOper := [
 X.o 20 (.fldAddr 0 (X.s 3)),
 X.o 21 (.load1 (X.s 20)),
 X.o 22 (.len (X.s 21)),
 X.o 23 (.move (X.i 0))]
def C.q30_r2 : List IOper := C.q30_r2_b
def C.q30_r2_w := @aopsE _ _ C.q30_r2.eq_1
def C.q30_c20 : ICode := .keep [2, 3] (.seq (.seq (.region C.q30_r2) C.q30_c19) C.q30_c11)
def C.q30_c20_w := @awpE _ _ C.q30_c20.eq_1
def C.q30_r1_b : List IOper := [
 X.o 7 (.fldAddr 0 (X.s 1)),
 X.o 8 (.load1 (X.s 7)),
 X.o 10 (.fldAddr 1 (X.s 1)),
 X.o 11 (.load1 (X.s 10)),
 X.o 13 (.fldAddr 2 (X.s 1)),
 X.o 14 (.load1 (X.s 13)),
 X.o 16 (.fldAddr 3 (X.s 1)),
 X.o 17 (.load1 (X.s 16)),
 ⟨some 9, .call F.q57 [X.s 8], none, [⟨.load1 (X.s 10), 11, none⟩, ⟨.load1 (X.s 13), 14, none⟩, ⟨.load1 (X.s 16), 17, none⟩], []⟩,
 ⟨some 12, .call F.q59 [X.s 11], none, [⟨.load1 (X.s 13), 14, none⟩, ⟨.load1 (X.s 16), 17, none⟩], []⟩,
 ⟨some 15, .call F.q61 [X.s 14], none, [⟨.load1 (X.s 16), 17, none⟩], []⟩,
 X.o 18 (.call F.q58 [X.s 17]),
 X.o 19 (.build [.nils, .nils, .nils, .nils] [(0, 1, X.s 9), (1, 1, X.s 12), (2, 1, X.s 15), (3, 1, X.s 18)]),
 X.o 3 (.alloc [.nils, .nils, .nils, .nils]),
 X.n (.storeN 4 (X.s 3) (X.s 19))]
def C.q30_r1 : List IOper := C.q30_r1_b
def C.q30_r1_w := @aopsE _ _ C.q30_r1.eq_1
def C.q30_c21 : ICode := .keep [1, 2] (.seq (.region C.q30_r1) C.q30_c20)
def C.q30_c21_w := @awpE _ _ C.q30_c21.eq_1
def C.q30_r0_b : List IOper := [
 X.o 1 (.boxN (X.s 0)),
 X.o 2 (.alloc [.nils, .nils, .nils, .nils])]
def C.q30_r0 : List IOper := C.q30_r0_b
def C.q30_r0_w := @aopsE _ _ C.q30_r0.eq_1
def C.q30 : IFunc := ⟨1, [.cellN 2 4], .seq (.region C.q30_r0) C.q30_c21⟩
def C.q30_W := And.intro (And.intro (And.intro (And.intro (And.intro @C.q30_r13_w @C.q30_c1_w) (And.intro @C.q30_r12_w @C.q30_c2_w)) (And.intro (And.intro @C.q30_r11_w @C.q30_c3_w) (And.intro @C.q30_r10_w @C.q30_c4_w))) (And.intro (And.intro (And.intro @C.q30_r9_w @C.q30_b5_w) (And.intro @C.q30_c6_w @C.q30_c7_w)) (And.intro (And.intro @C.q30_r8_w @C.q30_b9_w) (And.intro @C.q30_c10_w @C.q30_r7_w)))) (And.intro (And.intro (And.intro (And.intro @C.q30_c11_w @C.q30_r6_w) (And.intro @C.q30_c12_w @C.q30_r5_w)) (And.intro (And.intro @C.q30_c13_w @C.q30_r4_w) (And.intro @C.q30_b14_w @C.q30_c15_w))) (And.intro (And.intro (And.intro @C.q30_c16_w @C.q30_r3_w) (And.intro @C.q30_b18_w @C.q30_c19_w)) (And.intro (And.intro @C.q30_r2_w @C.q30_c20_w) (And.intro @C.q30_r1_w (And.intro @C.q30_c21_w @C.q30_r0_w)))))
def C.q30_B := And.intro (And.intro (And.intro @C.q30_r13_b.eq_1 (And.intro @C.q30_r12_b.eq_1 @C.q30_r11_b.eq_1)) (And.intro (And.intro @C.q30_r10_b.eq_1 @C.q30_r9_b.eq_1) (And.intro @C.q30_r8_b.eq_1 @C.q30_r7_b.eq_1))) (And.intro (And.intro @C.q30_r6_b.eq_1 (And.intro @C.q30_r5_b.eq_1 @C.q30_r4_b.eq_1)) (And.intro (And.intro @C.q30_r3_b.eq_1 @C.q30_r2_b.eq_1) (And.intro @C.q30_r1_b.eq_1 @C.q30_r0_b.eq_1)))

def C.q53_r8_b : List IOper := [
 X.o 2 (.move (X.i 0))]
def C.q53_r8 : List IOper := C.q53_r8_b
def C.q53_r8_w := @aopsE _ _ C.q53_r8.eq_1
def C.q53_c1 : ICode := .keep [] (.seq (.region C.q53_r8) .ret)
def C.q53_c1_w := @awpE _ _ C.q53_c1.eq_1
def C.q53_r7_b : List IOper := [
 X.o 17 (.bin .add (X.s 8) (X.i 1)),
 X.m 8 17]
def C.q53_r7 : List IOper := C.q53_r7_b
def C.q53_r7_w := @aopsE _ _ C.q53_r7.eq_1
def C.q53_c2 : ICode := .keep [6, 7, 8] (.region C.q53_r7)
def C.q53_c2_w := @awpE _ _ C.q53_c2.eq_1
def C.q53_r6_b : List IOper := [
 X.m 16 5,
 X.m 2 16]
def C.q53_r6 : List IOper := C.q53_r6_b
def C.q53_r6_w := @aopsE _ _ C.q53_r6.eq_1
def C.q53_c3 : ICode := .seq (.region C.q53_r6) .ret
def C.q53_c3_w := @awpE _ _ C.q53_c3.eq_1
def C.q53_c4 : ICode := .keep [5, 6, 7, 8, 15] (.cond (X.s 15) C.q53_c3 .skip)
def C.q53_c4_w := @awpE _ _ C.q53_c4.eq_1
def C.q53_r5_b : List IOper := [
 X.m 14 5,
 X.o 15 (.bin .neq (X.s 14) (X.i 0))]
def C.q53_r5 : List IOper := C.q53_r5_b
def C.q53_r5_w := @aopsE _ _ C.q53_r5.eq_1
def C.q53_c5 : ICode := .keep [5, 6, 7, 8] (.seq (.region C.q53_r5) C.q53_c4)
def C.q53_c5_w := @awpE _ _ C.q53_c5.eq_1
def C.q53_r4_b : List IOper := [
 X.m 12 4,
 X.o 13 (.callv (X.s 12) []),
 X.m 5 13]
def C.q53_r4 : List IOper := C.q53_r4_b
def C.q53_r4_w := @aopsE _ _ C.q53_r4.eq_1
def C.q53_c6 : ICode := .keep [4, 6, 7, 8] (.seq (.region C.q53_r4) C.q53_c5)
def C.q53_c6_w := @awpE _ _ C.q53_c6.eq_1
def C.q53_r3_b : List IOper := [
 X.o 10 (.idxAddr 1 (X.s 6) (X.s 8)),
 X.o 11 (.load1 (X.s 10)),
 X.m 4 11]
def C.q53_r3 : List IOper := C.q53_r3_b
def C.q53_r3_w := @aopsE _ _ C.q53_r3.eq_1
def C.q53_b7 : ICode := .seq (.region C.q53_r3) C.q53_c6
def C.q53_b7_w := @awpE _ _ C.q53_b7.eq_1
def C.q53_c8 : ICode := .keep [6, 7, 8] (.seq (.block 1 C.q53_b7) C.q53_c2)
def C.q53_c8_w := @awpE _ _ C.q53_c8.eq_1
def C.q53_c9 : ICode := .keep [6, 7, 8, 9] (.seq (.cond (X.s 9) .skip (.exit 0)) C.q53_c8)
def C.q53_c9_w := @awpE _ _ C.q53_c9.eq_1
def C.q53_r2_b : List IOper := [
 X.o 9 (.bin .lss (X.s 8) (X.s 7))]
def C.q53_r2 : List IOper := C.q53_r2_b
def C.q53_r2_w := @aopsE _ _ C.q53_r2.eq_1
def C.q53_l10 : ICode := .keep [6, 7, 8] (.seq (.region C.q53_r2) C.q53_c9)
def C.q53_l10_w := @awpE _ _ C.q53_l10.eq_1
def C.q53_b11 : ICode := .loop C.q53_l10
def C.q53_b11_w := @awpE _ _ C.q53_b11.eq_1
def C.q53_c12 : ICode := .keep [6, 7, 8] (.block 0 C.q53_b11)
def C.q53_c12_w := @awpE _ _ C.q53_c12.eq_1
def C.q53_r1_b : List IOper := [
 X.m 6 0,
 X.o 7 (.len (X.s 6)),
 X.o 8 (.move (X.i 0))]
def C.q53_r1 : List IOper := C.q53_r1_b
def C.q53_r1_w := @aopsE _ _ C.q53_r1.eq_1
def C.q53_c13 : ICode := .keep [0] (.seq (.seq (.region C.q53_r1) C.q53_c12) C.q53_c1)
def C.q53_c13_w := @awpE _ _ C.q53_c13.eq_1
def C.q53_r0_b : List IOper := [
 X.o 2 (.move (X.i 0))]
def C.q53_r0 : List IOper := C.q53_r0_b
def C.q53_r0_w := @aopsE _ _ C.q53_r0.eq_1
def C.q53 : IFunc := ⟨1, [.slot 2], .seq (.region C.q53_r0) C.q53_c13⟩
def C.q53_W := And.intro (And.intro (And.intro (And.intro @C.q53_r8_w @C.q53_c1_w) (And.intro @C.q53_r7_w (And.intro @C.q53_c2_w @C.q53_r6_w))) (And.intro (And.intro @C.q53_c3_w @C.q53_c4_w) (And.intro @C.q53_r5_w (And.intro @C.q53_c5_w @C.q53_r4_w)))) (And.intro (And.intro (And.intro @C.q53_c6_w @C.q53_r3_w) (And.intro @C.q53_b7_w (And.intro @C.q53_c8_w @C.q53_c9_w))) (And.intro (And.intro @C.q53_r2_w (And.intro @C.q53_b11_w @C.q53_c12_w)) (And.intro @C.q53_r1_w (And.intro @C.q53_c13_w @C.q53_r0_w))))
def C.q53_B := And.intro (And.intro (And.intro @C.q53_r8_b.eq_1 @C.q53_r7_b.eq_1) (And.intro @C.q53_r6_b.eq_1 @C.q53_r5_b.eq_1)) (And.intro (And.intro @C.q53_r4_b.eq_1 @C.q53_r3_b.eq_1) (And.intro @C.q53_r2_b.eq_1 (And.intro @C.q53_r1_b.eq_1 @C.q53_r0_b.eq_1)))

def C.q18_r1_b : List IOper := [
 X.o 2 (.loadN 4 (X.s 0)),
 X.o 3 (.call F.q54 [X.s 2]),
 X.m 1 3]
def C.q18_r1 : List IOper := C.q18_r1_b
def C.q18_r1_w := @aopsE _ _ C.q18_r1.eq_1
def C.q18_c1 : ICode := .keep [0] (.seq (.region C.q18_r1) .ret)
def C.q18_c1_w := @awpE _ _ C.q18_c1.eq_1
def C.q18_r0_b : List IOper := [
 X.o 1 (.move (X.i 0))]
def C.q18_r0 : List IOper := C.q18_r0_b
def C.q18_r0_w := @aopsE _ _ C.q18_r0.eq_1
def C.q18 : IFunc := ⟨1, [.slot 1], .seq (.region C.q18_r0) C.q18_c1⟩
def C.q18_W := And.intro @C.q18_r1_w (And.intro @C.q18_c1_w @C.q18_r0_w)
def C.q18_B := And.intro @C.q18_r1_b.eq_1 @C.q18_r0_b.eq_1

def C.q54_r3_b : List IOper := [
 X.o 25 (.fldAddr 3 (X.s 1)),
 X.o 26 (.load1 (X.s 25)),
 X.o 27 (.call F.q49 [X.s 26, .fnc F.q55]),
 X.m 2 27]
def C.q54_r3 : List IOper := C.q54_r3_b
def C.q54_r3_w := @aopsE _ _ C.q54_r3.eq_1
def C.q54_c1 : ICode := .keep [1] (.seq (.region C.q54_r3) .ret)
def C.q54_c1_w := @awpE _ _ C.q54_c1.eq_1
def C.q54_r2_b : List IOper := [
 X.o 2 (.move (X.i 8))]
def C.q54_r2 : List IOper := C.q54_r2_b
def C.q54_r2_w := @aopsE _ _ C.q54_r2.eq_1
def C.q54_c2 : ICode := .seq (.region C.q54_r2) .ret
def C.q54_c2_w := @awpE _ _ C.q54_c2.eq_1
def C.q54_c3 : ICode := .keep [1, 24] (.cond (X.s 24) C.q54_c2 .skip)
def C.q54_c3_w := @awpE _ _ C.q54_c3.eq_1
def C.q54_r1_b : List IOper := [
 X.o 3 (.fldAddr 0 (X.s 1)),
 X.o 4 (.load1 (X.s 3)),
 X.o 5 (.len (X.s 4)),
 X.o 6 (.bin .gtr (X.s 5) (X.i 12)),
 X.m 7 6,
 X.f 7 8 (.fldAddr 1 (X.s 1)),
 X.f 7 9 (.load1 (X.s 8)),
 X.f 7 10 (.len (X.s 9)),
 X.f 7 11 (.bin .gtr (X.s 10) (X.i 6)),
 X.o 12 (.pick (X.s 7) (.cst (.bool true)) (X.s 11)),
 X.m 13 12,
 X.f 13 14 (.fldAddr 2 (X.s 1)),
 X.f 13 15 (.load1 (X.s 14)),
 X.f 13 16 (.len (X.s 15)),
 X.f 13 17 (.bin .gtr (X.s 16) (X.i 6)),
 X.o 18 (.pick (X.s 13) (.cst (.bool true)) (X.s 17)),
 X.m 19 18,
 X.f 19 20 (.fldAddr 3 (X.s 1)),
 X.f 19 21 (.load1 (X.s 20)),
 X.f 19 22 (.len (X.s 21)),
 X.f 19 23 (.bin .gtr (X.s 22) (X.i 6)),
 X.o 24 (.pick (X.s 19) (.cst (.bool true)) (X.s 23))]
def C.q54_r1 : List IOper := C.q54_r1_b
def C.q54_r1_w := @aopsE _ _ C.q54_r1.eq_1
def C.q54_c4 : ICode := .keep [1] (.seq (.seq (.region C.q54_r1) C.q54_c3) C.q54_c1)
def C.q54_c4_w := @awpE _ _ C.q54_c4.eq_1
def C.q54_r0_b : List IOper := [
 X.o 1 (.boxN (X.s 0)),
 X.o 2 (.move (X.i 0))]
def C.q54_r0 : List IOper := C.q54_r0_b
def C.q54_r0_w := @aopsE _ _ C.q54_r0.eq_1
def C.q54 : IFunc := ⟨1, [.slot 2], .seq (.region C.q54_r0) C.q54_c4⟩
def C.q54_W := And.intro (And.intro (And.intro @C.q54_r3_w @C.q54_c1_w) (And.intro @C.q54_r2_w @C.q54_c2_w)) (And.intro (And.intro @C.q54_c3_w @C.q54_r1_w) (And.intro @C.q54_c4_w @C.q54_r0_w))
def C.q54_B := And.intro (And.intro @C.q54_r3_b.eq_1 @C.q54_r2_b.eq_1) (And.intro @C.q54_r1_b.eq_1 @C.q54_r0_b.eq_1)

def C.q19_r1_b : List IOper := [
 X.o 2 (.fldAddr 0 (X.s 0)),
 X.o 3 (.load1 (X.s 2)),
 X.o 4 (.makeFunc F.q20 [X.s 0]),
 X.o 5 (.call F.q48 [X.s 3, X.s 4]),
 X.m 1 5]
def C.q19_r1 : List IOper := C.q19_r1_b
def C.q19_r1_w := @aopsE _ _ C.q19_r1.eq_1
def C.q19_c1 : ICode := .keep [0] (.seq (.region C.q19_r1) .ret)
def C.q19_c1_w := @awpE _ _ C.q19_c1.eq_1
def C.q19_r0_b : List IOper := [
 X.o 1 (.move (X.i 0))]
def C.q19_r0 : List IOper := C.q19_r0_b
def C.q19_r0_w := @aopsE _ _ C.q19_r0.eq_1
def C.q19 : IFunc := ⟨1, [.slot 1], .seq (.region C.q19_r0) C.q19_c1⟩
def C.q19_W := And.intro @C.q19_r1_w (And.intro @C.q19_c1_w @C.q19_r0_w)
def C.q19_B := And.intro @C.q19_r1_b.eq_1 @C.q19_r0_b.eq_1

def C.q48_r8_b : List IOper := [
 X.o 4 (.move (X.i 0))]
def C.q48_r8 : List IOper := C.q48_r8_b
def C.q48_r8_w := @aopsE _ _ C.q48_r8.eq_1
def C.q48_c1 : ICode := .keep [] (.seq (.region C.q48_r8) .ret)
def C.q48_c1_w := @awpE _ _ C.q48_c1.eq_1
def C.q48_r7_b : List IOper := [
 X.o 20 (.bin .add (X.s 10) (X.i 1)),
 X.m 10 20]
def C.q48_r7 : List IOper := C.q48_r7_b
def C.q48_r7_w := @aopsE _ _ C.q48_r7.eq_1
def C.q48_c2 : ICode := .keep [1, 8, 9, 10] (.region C.q48_r7)
def C.q48_c2_w := @awpE _ _ C.q48_c2.eq_1
def C.q48_r6_b : List IOper := [
 X.m 19 7,
 X.m 4 19]
def C.q48_r6 : List IOper := C.q48_r6_b
def C.q48_r6_w := @aopsE _ _ C.q48_r6.eq_1
def C.q48_c3 : ICode := .seq (.region C.q48_r6) .ret
def C.q48_c3_w := @awpE _ _ C.q48_c3.eq_1
def C.q48_c4 : ICode := .keep [1, 7, 8, 9, 10, 18] (.cond (X.s 18) C.q48_c3 .skip)
def C.q48_c4_w := @awpE _ _ C.q48_c4.eq_1
def C.q48_r5_b : List IOper := [
 X.m 17 7,
 X.o 18 (.bin .neq (X.s 17) (X.i 0))]
def C.q48_r5 : List IOper := C.q48_r5_b
def C.q48_r5_w := @aopsE _ _ C.q48_r5.eq_1
def C.q48_c5 : ICode := .keep [1, 7, 8, 9, 10] (.seq (.region C.q48_r5) C.q48_c4)
def C.q48_c5_w := @awpE _ _ C.q48_c5.eq_1
def C.q48_r4_b : List IOper := [
 X.m 14 1,
 X.o 15 (.loadN 6 (X.s 6)),
 X.o 16 (.callv (X.s 14) [X.s 15]),
 X.m 7 16]
def C.q48_r4 : List IOper := C.q48_r4_b
def C.q48_r4_w := @aopsE _ _ C.q48_r4.eq_1
def C.q48_c6 : ICode := .keep [1, 6, 8, 9, 10] (.seq (.region C.q48_r4) C.q48_c5)
def C.q48_c6_w := @awpE _ _ C.q48_c6.eq_1
def C.q48_r3_b : List IOper := [
 X.o 12 (.idxAddr 6 (X.s 8) (X.s 10)),
 X.o 13 (.loadN 6 (X.s 12)),
 X.o 6 (.alloc [.int .u8 0, .nils, .int .u64 0, .int .i64 0, .int .i64 0, .int .i64 0]),
 X.n (.storeN 6 (X.s 6) (X.s 13))]
def C.q48_r3 : List IOper := C.q48_r3_b
def C.q48_r3_w := @aopsE _ _ C.q48_r3.eq_1
def C.q48_b7 : ICode := .seq (.region C.q48_r3) C.q48_c6
def C.q48_b7_w := @awpE _ _ C.q48_b7.eq_1
def C.q48_c8 : ICode := .keep [1, 8, 9, 10] (.seq (.block 1 C.q48_b7) C.q48_c2)
def C.q48_c8_w := @awpE _ _ C.q48_c8.eq_1
def C.q48_c9 : ICode := .keep [1, 8, 9, 10, 11] (.seq (.cond (X.s 11) .skip (.exit 0)) C.q48_c8)
def C.q48_c9_w := @awpE _ _ C.q48_c9.eq_1
def C.q48_r2_b : List IOper := [
 X.o 11 (.bin .lss (X.s 10) (X.s 9))]
def C.q48_r2 : List IOper := C.q48_r2_b
def C.q48_r2_w := @aopsE _ _ C.q48_r2.eq_1
def C.q48_l10 : ICode := .keep [1, 8, 9, 10] (.seq (.region C.q48_r2) C.q48_c9)
def C.q48_l10_w := @awpE _ _ C.q48_l10.eq_1
def C.q48_b11 : ICode := .loop C.q48_l10
def C.q48_b11_w := @awpE _ _ C.q48_b11.eq_1
def C.q48_c12 : ICode := .keep [1, 8, 9, 10] (.block 0 C.q48_b11)
def C.q48_c12_w := @awpE _ _ C.q48_c12.eq_1
def C.q48_r1_b : List IOper := [
 X.m 8 0,
 X.o 9 (.len (X.s 8)),
 X.o 10 (.move (X.i 0))]
def C.q48_r1 : List IOper := C.q48_r1_b
def C.q48_r1_w := @aopsE _ _ C.q48_r1.eq_1
def C.q48_c13 : ICode := .keep [0, 1] (.seq (.seq (.region C.q48_r1) C.q48_c12) C.q48_c1)
def C.q48_c13_w := @awpE _ _ C.q48_c13.eq_1
def C.q48_r0_b : List IOper := [
 X.o 4 (.move (X.i 0))]
def C.q48_r0 : List IOper := C.q48_r0_b
def C.q48_r0_w := @aopsE _ _ C.q48_r0.eq_1
def C.q48 : IFunc := ⟨2, [.slot 4], .seq (.region C.q48_r0) C.q48_c13⟩
def C.q48_W := And.intro (And.intro (And.intro (And.intro @C.q48_r8_w @C.q48_c1_w) (And.intro @C.q48_r7_w (And.intro @C.q48_c2_w @C.q48_r6_w))) (And.intro (And.intro @C.q48_c3_w @C.q48_c4_w) (And.intro @C.q48_r5_w (And.intro @C.q48_c5_w @C.q48_r4_w)))) (And.intro (And.intro (And.intro @C.q48_c6_w @C.q48_r3_w) (And.intro @C.q48_b7_w (And.intro @C.q48_c8_w @C.q48_c9_w))) (And.intro (And.intro @C.q48_r2_w (And.intro @C.q48_b11_w @C.q48_c12_w)) (And.intro @C.q48_r1_w (And.intro @C.q48_c13_w @C.q48_r0_w))))
def C.q48_B := And.intro (And.intro (And.intro @C.q48_r8_b.eq_1 @C.q48_r7_b.eq_1) (And.intro @C.q48_r6_b.eq_1 @C.q48_r5_b.eq_1)) (And.intro (And.intro @C.q48_r4_b.eq_1 @C.q48_r3_b.eq_1) (And.intro @C.q48_r2_b.eq_1 (And.intro @C.q48_r1_b.eq_1 @C.q48_r0_b.eq_1)))

def C.q20_r1_b : List IOper := [
 X.o 4 (.loadN 4 (X.s 1)),
 X.o 5 (.loadN 6 (X.s 2)),
 X.o 6 (.call F.q33 [X.s 4, X.s 5]),
 X.m 3 6]
def C.q20_r1 : List IOper := C.q20_r1_b
def C.q20_r1_w := @aopsE _ _ C.q20_r1.eq_1
def C.q20_c1 : ICode := .keep [1, 2] (.seq (.region C.q20_r1) .ret)
def C.q20_c1_w := @awpE _ _ C.q20_c1.eq_1
def C.q20_r0_b : List IOper := [
 X.o 2 (.boxN (X.s 0)),
 X.o 3 (.move (X.i 0))]
def C.q20_r0 : List IOper := C.q20_r0_b
def C.q20_r0_w := @aopsE _ _ C.q20_r0.eq_1
def C.q20 : IFunc := ⟨2, [.slot 3], .seq (.region C.q20_r0) C.q20_c1⟩
def C.q20_W := And.intro @C.q20_r1_w (And.intro @C.q20_c1_w @C.q20_r0_w)
def C.q20_B := And.intro @C.q20_r1_b.eq_1 @C.q20_r0_b.eq_1

def C.q33_r1_b : List IOper := [
 X.o 5 (.makeFunc F.q34 [X.s 3]),
 X.o 6 (.makeFunc F.q35 [X.s 3, X.s 2]),
 X.o 7 (.makeFunc F.q37 [X.s 3]),
 X.o 8 (.buildSlice 1 3 [.nilf] [(0, 1, X.s 5), (1, 1, X.s 6), (2, 1, X.s 7)]),
 X.o 9 (.call F.q53 [X.s 8]),
 X.m 4 9]
def C.q33_r1 : List IOper := C.q33_r1_b
def C.q33_r1_w := @aopsE _ _ C.q33_r1.eq_1
def C.q33_c1 : ICode := .keep [2, 3] (.seq (.region C.q33_r1) .ret)
def C.q33_c1_w := @awpE _ _ C.q33_c1.eq_1
def C.q33_r0_b : List IOper := [
 X.o 2 (.boxN (X.s 0)),
 X.o 3 (.boxN (X.s 1)),
 X.o 4 (.move (X.i 0))]
def C.q33_r0 : List IOper := C.q33_r0_b
def C.q33_r0_w := @aopsE _ _ C.q33_r0.eq_1
def C.q33 : IFunc := ⟨2, [.slot 4], .seq (.region C.q33_r0) C.q33_c1⟩
def C.q33_W := And.intro @C.q33_r1_w (And.intro @C.q33_c1_w @C.q33_r0_w)
def C.q33_B := And.intro @C.q33_r1_b.eq_1 @C.q33_r0_b.eq_1

def C.q21_r1_b : List IOper := [
 X.o 2 (.loadN 4 (X.s 0)),
 X.o 3 (.call F.q29 [X.s 2]),
 X.o 4 (.call F.q38 [X.s 3]),
 X.m 1 4]
def C.q21_r1 : List IOper := C.q21_r1_b
def C.q21_r1_w := @aopsE _ _ C.q21_r1.eq_1
def C.q21_c1 : ICode := .keep [0] (.seq (.region C.q21_r1) .ret)
def C.q21_c1_w := @awpE _ _ C.q21_c1.eq_1
def C.q21_r0_b : List IOper := [
 X.o 1 (.move (X.i 0))]
def C.q21_r0 : List IOper := C.q21_r0_b
def C.q21_r0_w := @aopsE _ _ C.q21_r0.eq_1
def C.q21 : IFunc := ⟨1, [.slot 1], .seq (.region C.q21_r0) C.q21_c1⟩
def C.q21_W := And.intro @C.q21_r1_w (And.intro @C.q21_c1_w @C.q21_r0_w)
def C.q21_B := And.intro @C.q21_r1_b.eq_1 @C.q21_r0_b.eq_1

def C.q38_r1_b : List IOper := [
 X.m 3 0,
 X.o 4 (.call F.q67 [X.s 3]),
 X.o 5 (.bin .eql (X.s 4) (X.i 5)),
 X.o 6 (.call F.q65 [X.s 5, X.i 5]),
 X.m 2 6]
def C.q38_r1 : List IOper := C.q38_r1_b
def C.q38_r1_w := @aopsE _ _ C.q38_r1.eq_1
def C.q38_c1 : ICode := .keep [0] (.seq (.region C.q38_r1) .ret)
def C.q38_c1_w := @awpE _ _ C.q38_c1.eq_1
def C.q38_r0_b : List IOper := [
 X.o 2 (.move (X.i 0))]
def C.q38_r0 : List IOper := C.q38_r0_b
def C.q38_r0_w := @aopsE _ _ C.q38_r0.eq_1
def C.q38 : IFunc := ⟨1, [.slot 2], .seq (.region C.q38_r0) C.q38_c1⟩
def C.q38_W := And.intro @C.q38_r1_w (And.intro @C.q38_c1_w @C.q38_r0_w)
def C.q38_B := And.intro @C.q38_r1_b.eq_1 @C.q38_r0_b.eq_1

def C.q29_r7_b : List IOper := [
 X.m 25 3,
 X.m 2 25]
def C.q29_r7 : List IOper := C.q29_r7_b
def C.q29_r7_w := @aopsE _ _ C.q29_r7.eq_1
def C.q29_c1 : ICode := .keep [3] (.seq (.region C.q29_r7) .ret)
def C.q29_c1_w := @awpE _ _ C.q29_c1.eq_1
def C.q29_r6_b : List IOper := [
 X.o 24 (.bin .add (X.s 13) (X.i 1)),
 X.m 13 24]
def C.q29_r6 : List IOper := C.q29_r6_b
def C.q29_r6_w := @aopsE _ _ C.q29_r6.eq_1
def C.q29_c2 : ICode := .keep [3, 11, 12, 13] (.region C.q29_r6)
def C.q29_c2_w := @awpE _ _ C.q29_c2.eq_1
def C.q29_r5_b : List IOper := [
 X.m 18 3,
 X.m 19 4,
 X.o 20 (.fldAddr 1 (X.s 5)),
 X.o 21 (.load1 (X.s 20)),
 X.o 22 (.call F.q62 [X.s 21]),
 X.o 23 (.idxAddr 1 (X.s 18) (X.s 19)),
 X.n (.store1 (X.s 23) (X.s 22))]
def C.q29_r5 : List IOper := C.q29_r5_b
def C.q29_r5_w := @aopsE _ _ C.q29_r5.eq_1
def C.q29_c3 : ICode := .keep [3, 4, 5, 11, 12, 13] (.region C.q29_r5)
def C.q29_c3_w := @awpE _ _ C.q29_c3.eq_1
def C.q29_r4_b : List IOper := [
 X.m 15 13,
 X.o 16 (.idxAddr 6 (X.s 11) (X.s 13)),
 X.o 17 (.loadN 6 (X.s 16)),
 X.o 5 (.alloc [.int .u8 0, .nils, .int .u64 0, .int .i64 0, .int .i64 0, .int .i64 0]),
 X.m 4 15,
 X.n (.storeN 6 (X.s 5) (X.s 17))]
def C.q29_r4 : List IOper := C.q29_r4_b
def C.q29_r4_w := @aopsE _ _ C.q29_r4.eq_1
def C.q29_b4 : ICode := .seq (.region C.q29_r4) C.q29_c3
def C.q29_b4_w := @awpE _ _ C.q29_b4.eq_1
def C.q29_c5 : ICode := .keep [3, 11, 12, 13] (.seq (.block 1 C.q29_b4) C.q29_c2)
def C.q29_c5_w := @awpE _ _ C.q29_c5.eq_1
def C.q29_c6 : ICode := .keep [3, 11, 12, 13, 14] (.seq (.cond (X.s 14) .skip (.exit 0)) C.q29_c5)
def C.q29_c6_w := @awpE _ _ C.q29_c6.eq_1
def C.q29_r3_b : List IOper := [
 X.o 14 (.bin .lss (X.s 13) (X.s 12))]
def C.q29_r3 : List IOper := C.q29_r3_b
def C.q29_r3_w := @aopsE _ _ C.q29_r3.eq_1
def C.q29_l7 : ICode := .keep [3, 11, 12, 13] (.seq (.region C.q29_r3) C.q29_c6)
def C.q29_l7_w := @awpE _ _ C.q29_l7.eq_1
def C.q29_b8 : ICode := .loop C.q29_l7
def C.q29_b8_w := @awpE _ _ C.q29_b8.eq_1
def C.q29_c9 : ICode := .keep [3, 11, 12, 13] (.block 0 C.q29_b8)
def C.q29_c9_w := @awpE _ _ C.q29_c9.eq_1
def C.q29_r2_b : List IOper := [
 X.o 10 (.fldAddr 0 (X.s 1)),
 X.o 11 (.load1 (X.s 10)),
 X.o 12 (.len (X.s 11)),
 X.o 13 (.move (X.i 0))]
def C.q29_r2 : List IOper := C.q29_r2_b
def C.q29_r2_w := @aopsE _ _ C.q29_r2.eq_1
def C.q29_c10 : ICode := .keep [1, 3] (.seq (.seq (.region C.q29_r2) C.q29_c9) C.q29_c1)
def C.q29_c10_w := @awpE _ _ C.q29_c10.eq_1
def C.q29_r1_b : List IOper := [
 X.o 6 (.fldAddr 0 (X.s 1)),
 X.o 7 (.load1 (X.s 6)),
 X.o 8 (.len (X.s 7)),
 X.o 9 (.makeSlice 1 24 [.nils] (X.s 8) (X.s 8)),
 X.m 3 9]
def C.q29_r1 : List IOper := C.q29_r1_b
def C.q29_r1_w := @aopsE _ _ C.q29_r1.eq_1
def C.q29_c11 : ICode := .keep [1] (.seq (.region C.q29_r1) C.q29_c10)
def C.q29_c11_w := @awpE _ _ C.q29_c11.eq_1
def C.q29_r0_b : List IOper := [
 X.o 1 (.boxN (X.s 0)),
 X.o 2 (.move (.cst (.nils)))]
def C.q29_r0 : List IOper := C.q29_r0_b
def C.q29_r0_w := @aopsE _ _ C.q29_r0.eq_1
def C.q29 : IFunc := ⟨1, [.slot 2], .seq (.region C.q29_r0) C.q29_c11⟩
def C.q29_W := And.intro (And.intro (And.intro (And.intro @C.q29_r7_w @C.q29_c1_w) (And.intro @C.q29_r6_w @C.q29_c2_w)) (And.intro (And.intro @C.q29_r5_w @C.q29_c3_w) (And.intro @C.q29_r4_w (And.intro @C.q29_b4_w @C.q29_c5_w)))) (And.intro (And.intro (And.intro @C.q29_c6_w @C.q29_r3_w) (And.intro @C.q29_b8_w @C.q29_c9_w)) (And.intro (And.intro @C.q29_r2_w @C.q29_c10_w) (And.intro @C.q29_r1_w (And.intro @C.q29_c11_w @C.q29_r0_w))))
def C.q29_B := And.intro (And.intro (And.intro @C.q29_r7_b.eq_1 @C.q29_r6_b.eq_1) (And.intro @C.q29_r5_b.eq_1 @C.q29_r4_b.eq_1)) (And.intro (And.intro @C.q29_r3_b.eq_1 @C.q29_r2_b.eq_1) (And.intro @C.q29_r1_b.eq_1 @C.q29_r0_b.eq_1))

def C.q22_r1_b : List IOper := [
 X.o 2 (.fldAddr 1 (X.s 0)),
 X.o 3 (.load1 (X.s 2)),
 X.o 4 (.makeFunc F.q23 [X.s 0]),
 X.o 5 (.call F.q50 [X.s 3, X.s 4]),
 X.m 1 5]
def C.q22_r1 : List IOper := C.q22_r1_b
def C.q22_r1_w := @aopsE _ _ C.q22_r1.eq_1
def C.q22_c1 : ICode := .keep [0] (.seq (.region C.q22_r1) .ret)
def C.q22_c1_w := @awpE _ _ C.q22_c1.eq_1
def C.q22_r0_b : List IOper := [
 X.o 1 (.move (X.i 0))]
def C.q22_r0 : List IOper := C.q22_r0_b
def C.q22_r0_w := @aopsE _ _ C.q22_r0.eq_1
def C.q22 : IFunc := ⟨1, [.slot 1], .seq (.region C.q22_r0) C.q22_c1⟩
def C.q22_W := And.intro @C.q22_r1_w (And.intro @C.q22_c1_w @C.q22_r0_w)
def C.q22_B := And.intro @C.q22_r1_b.eq_1 @C.q22_r0_b.eq_1

def C.q50_r8_b : List IOper := [
 X.o 4 (.move (X.i 0))]
def C.q50_r8 : List IOper := C.q50_r8_b
def C.q50_r8_w := @aopsE _ _ C.q50_r8.eq_1
def C.q50_c1 : ICode := .keep [] (.seq (.region C.q50_r8) .ret)
def C.q50_c1_w := @awpE _ _ C.q50_c1.eq_1
def C.q50_r7_b : List IOper := [
 X.o 20 (.bin .add (X.s 10) (X.i 1)),
 X.m 10 20]
def C.q50_r7 : List IOper := C.q50_r7_b
def C.q50_r7_w := @aopsE _ _ C.q50_r7.eq_1
def C.q50_c2 : ICode := .keep [1, 8, 9, 10] (.region C.q50_r7)
def C.q50_c2_w := @awpE _ _ C.q50_c2.eq_1
def C.q50_r6_b : List IOper := [
 X.m 19 7,
 X.m 4 19]
def C.q50_r6 : List IOper := C.q50_r6_b
def C.q50_r6_w := @aopsE _ _ C.q50_r6.eq_1
def C.q50_c3 : ICode := .seq (.region C.q50_r6) .ret
def C.q50_c3_w := @awpE _ _ C.q50_c3.eq_1
def C.q50_c4 : ICode := .keep [1, 7, 8, 9, 10, 18] (.cond (X.s 18) C.q50_c3 .skip)
def C.q50_c4_w := @awpE _ _ C.q50_c4.eq_1
def C.q50_r5_b : List IOper := [
 X.m 17 7,
 X.o 18 (.bin .neq (X.s 17) (X.i 0))]
def C.q50_r5 : List IOper := C.q50_r5_b
def C.q50_r5_w := @aopsE _ _ C.q50_r5.eq_1
def C.q50_c5 : ICode := .keep [1, 7, 8, 9, 10] (.seq (.region C.q50_r5) C.q50_c4)
def C.q50_c5_w := @awpE _ _ C.q50_c5.eq_1
def C.q50_r4_b : List IOper := [
 X.m 14 1,
 X.o 15 (.loadN 3 (X.s 6)),
 X.o 16 (.callv (X.s 14) [X.s 15]),
 X.m 7 16]
def C.q50_r4 : List IOper := C.q50_r4_b
def C.q50_r4_w := @aopsE _ _ C.q50_r4.eq_1
def C.q50_c6 : ICode := .keep [1, 6, 8, 9, 10] (.seq (.region C.q50_r4) C.q50_c5)
def C.q50_c6_w := @awpE _ _ C.q50_c6.eq_1
def C.q50_r3_b : List IOper := [
 X.o 12 (.idxAddr 3 (X.s 8) (X.s 10)),
 X.o 13 (.loadN 3 (X.s 12)),
 X.o 6 (.alloc [.int .i64 0, .int .i64 0, .bool false]),
 X.n (.storeN 3 (X.s 6) (X.s 13))]
def C.q50_r3 : List IOper := C.q50_r3_b
def C.q50_r3_w := @aopsE _ _ C.q50_r3.eq_1
def C.q50_b7 : ICode := .seq (.region C.q50_r3) C.q50_c6
def C.q50_b7_w := @awpE _ _ C.q50_b7.eq_1
def C.q50_c8 : ICode := .keep [1, 8, 9, 10] (.seq (.block 1 C.q50_b7) C.q50_c2)
def C.q50_c8_w := @awpE _ _ C.q50_c8.eq_1
def C.q50_c9 : ICode := .keep [1, 8, 9, 10, 11] (.seq (.cond (X.s 11) .skip (.exit 0)) C.q50_c8)
def C.q50_c9_w := @awpE _ _ C.q50_c9.eq_1
def C.q50_r2_b : List IOper := [
 X.o 11 (.bin .lss (X.s 10) (X.s 9))]
def C.q50_r2 : List IOper := C.q50_r2_b
def C.q50_r2_w := @aopsE _ _ C.q50_r2.eq_1
def C.q50_l10 : ICode := .keep [1, 8, 9, 10] (.seq (.region C.q50_r2) C.q50_c9)
def C.q50_l10_w := @awpE _ _ C.q50_l10.eq_1
def C.q50_b11 : ICode := .loop C.q50_l10
def C.q50_b11_w := @awpE _ _ C.q50_b11.eq_1
def C.q50_c12 : ICode := .keep [1, 8, 9, 10] (.block 0 C.q50_b11)
def C.q50_c12_w := @awpE _ _ C.q50_c12.eq_1
def C.q50_r1_b : List IOper := [
 X.m 8 0,
 X.o 9 (.len (X.s 8)),
 X.o 10 (.move (X.i 0))]
def C.q50_r1 : List IOper := C.q50_r1_b
def C.q50_r1_w := @aopsE _ _ C.q50_r1.eq_1
def C.q50_c13 : ICode := .keep [0, 1] (.seq (.seq (.region C.q50_r1) C.q50_c12) C.q50_c1)
def C.q50_c13_w := @awpE _ _ C.q50_c13.eq_1
def C.q50_r0_b : List IOper := [
 X.o 4 (.move (X.i 0))]
def C.q50_r0 : List IOper := C.q50_r0_b
def C.q50_r0_w := @aopsE _ _ C.q50_r0.eq_1
def C.q50 : IFunc := ⟨2, [.slot 4], .seq (.region C.q50_r0) C.q50_c13⟩
def C.q50_W := And.intro (And.intro (And.intro (And.intro @C.q50_r8_w @C.q50_c1_w) (And.intro @C.q50_r7_w (And.intro @C.q50_c2_w @C.q50_r6_w))) (And.intro (And.intro @C.q50_c3_w @C.q50_c4_w) (And.intro @C.q50_r5_w (And.intro @C.q50_c5_w @C.q50_r4_w)))) (And.intro (And.intro (And.intro @C.q50_c6_w @C.q50_r3_w) (And.intro @C.q50_b7_w (And.intro @C.q50_c8_w @C.q50_c9_w))) (And.intro (And.intro @C.q50_r2_w (And.intro @C.q50_b11_w @C.q50_c12_w)) (And.intro @C.q50_r1_w (And.intro @C.q50_c13_w @C.q50_r0_w))))
def C.q50_B := And.intro (And.intro (And.intro @C.q50_r8_b.eq_1 @C.q50_r7_b.eq_1) (And.intro @C.q50_r6_b.eq_1 @C.q50_r5_b.eq_1)) (And.intro (And.intro @C.q50_r4_b.eq_1 @C.q50_r3_b.eq_1) (And.intro @C.q50_r2_b.eq_1 (And.intro @C.q50_r1_b.eq_1 @C.q50_r0_b.eq_1)))

def C.q23_r1_b : List IOper := [
 X.o 4 (.loadN 4 (X.s 1)),
 X.o 5 (.loadN 3 (X.s 2)),
 X.o 6 (.call F.q45 [X.s 4, X.s 5]),
 X.m 3 6]
def C.q23_r1 : List IOper := C.q23_r1_b
def C.q23_r1_w := @aopsE _ _ C.q23_r1.eq_1
def C.q23_c1 : ICode := .keep [1, 2] (.seq (.region C.q23_r1) .ret)
def C.q23_c1_w := @awpE _ _ C.q23_c1.eq_1
def C.q23_r0_b : List IOper := [
 X.o 2 (.boxN (X.s 0)),
 X.o 3 (.move (X.i 0))]
def C.q23_r0 : List IOper := C.q23_r0_b
def C.q23_r0_w := @aopsE _ _ C.q23_r0.eq_1
def C.q23 : IFunc := ⟨2, [.slot 3], .seq (.region C.q23_r0) C.q23_c1⟩
def C.q23_W := And.intro @C.q23_r1_w (And.intro @C.q23_c1_w @C.q23_r0_w)
def C.q23_B := And.intro @C.q23_r1_b.eq_1 @C.q23_r0_b.eq_1

def C.q45_r1_b : List IOper := [
 X.o 5 (.makeFunc F.q46 [X.s 3, X.s 2]),
 X.o 6 (.makeFunc F.q47 [X.s 3]),
 X.o 7 (.buildSlice 1 2 [.nilf] [(0, 1, X.s 5), (1, 1, X.s 6)]),
 X.o 8 (.call F.q53 [X.s 7]),
 X.m 4 8]
def C.q45_r1 : List IOper := C.q45_r1_b
def C.q45_r1_w := @aopsE _ _ C.q45_r1.eq_1
def C.q45_c1 : ICode := .keep [2, 3] (.seq (.region C.q45_r1) .ret)
def C.q45_c1_w := @awpE _ _ C.q45_c1.eq_1
def C.q45_r0_b : List IOper := [
 X.o 2 (.boxN (X.s 0)),
 X.o 3 (.boxN (X.s 1)),
 X.o 4 (.move (X.i 0))]
def C.q45_r0 : List IOper := C.q45_r0_b
def C.q45_r0_w := @aopsE _ _ C.q45_r0.eq_1
def C.q45 : IFunc := ⟨2, [.slot 4], .seq (.region C.q45_r0) C.q45_c1⟩
def C.q45_W := And.intro @C.q45_r1_w (And.intro @C.q45_c1_w @C.q45_r0_w)
def C.q45_B := And.intro @C.q45_r1_b.eq_1 @C.q45_r0_b.eq_1

def C.q24_r1_b : List IOper := [
 X.o 2 (.loadN 4 (X.s 0)),
 X.o 3 (.call F.q31 [X.s 2]),
 X.o 4 (.call F.q38 [X.s 3]),
 X.m 1 4]
def C.q24_r1 : List IOper := C.q24_r1_b
def C.q24_r1_w := @aopsE _ _ C.q24_r1.eq_1
def C.q24_c1 : ICode := .keep [0] (.seq (.region C.q24_r1) .ret)
def C.q24_c1_w := @awpE _ _ C.q24_c1.eq_1
def C.q24_r0_b : List IOper := [
 X.o 1 (.move (X.i 0))]
def C.q24_r0 : List IOper := C.q24_r0_b
def C.q24_r0_w := @aopsE _ _ C.q24_r0.eq_1
def C.q24 : IFunc := ⟨1, [.slot 1], .seq (.region C.q24_r0) C.q24_c1⟩
def C.q24_W := And.intro @C.q24_r1_w (And.intro @C.q24_c1_w @C.q24_r0_w)
def C.q24_B := And.intro @C.q24_r1_b.eq_1 @C.q24_r0_b.eq_1

def C.q31_r8_b : List IOper := [
 X.m 28 3,
 X.m 2 28]
def C.q31_r8 : List IOper := C.q31_r8_b
def C.q31_r8_w := @aopsE _ _ C.q31_r8.eq_1
def C.q31_c1 : ICode := .keep [3] (.seq (.region C.q31_r8) .ret)
def C.q31_c1_w := @awpE _ _ C.q31_c1.eq_1
def C.q31_r7_b : List IOper := [
 X.o 27 (.bin .add (X.s 13) (X.i 1)),
 X.m 13 27]
def C.q31_r7 : List IOper := C.q31_r7_b
def C.q31_r7_w := @aopsE _ _ C.q31_r7.eq_1
def C.q31_c2 : ICode := .keep [3, 11, 12, 13] (.region C.q31_r7)
def C.q31_c2_w := @awpE _ _ C.q31_c2.eq_1
def C.q31_r6_b : List IOper := [
 X.m 21 3,
 X.m 22 4,
 X.o 23 (.fldAddr 0 (X.s 5)),
 X.o 24 (.load1 (X.s 23)),
 X.o 25 (.buildSlice 1 1 [.int .i64 0] [(0, 1, X.s 24)]),
 X.o 26 (.idxAddr 1 (X.s 21) (X.s 22)),
 X.n (.store1 (X.s 26) (X.s 25))]
def C.q31_r6 : List IOper := C.q31_r6_b
def C.q31_r6_w := @aopsE _ _ C.q31_r6.eq_1
def C.q31_c3 : ICode := .keep [3, 4, 5, 11, 12, 13, 20] (.cond (X.s 20) (.region C.q31_r6) .skip)
def C.q31_c3_w := @awpE _ _ C.q31_c3.eq_1
def C.q31_r5_b : List IOper := [
 X.o 18 (.fldAddr 0 (X.s 5)),
 X.o 19 (.load1 (X.s 18)),
 X.o 20 (.bin .neq (X.s 19) (X.i (-1)))]
def C.q31_r5 : List IOper := C.q31_r5_b
def C.q31_r5_w := @aopsE _ _ C.q31_r5.eq_1
def C.q31_c4 : ICode := .keep [3, 4, 5, 11, 12, 13] (.seq (.region C.q31_r5) C.q31_c3)
def C.q31_c4_w := @awpE _ _ C.q31_c4.eq_1
def C.q31_r4_b : List IOper := [
 X.m 15 13,
 X.o 16 (.idxAddr 3 (X.s 11) (X.s 13)),
 X.o 17 (.loadN 3 (X.s 16)),
 X.o 5 (.alloc [.int .i64 0, .int .i64 0, .bool false]),
 X.m 4 15,
 X.n (.storeN 3 (X.s 5) (X.s 17))]
def C.q31_r4 : List IOper := C.q31_r4_b
def C.q31_r4_w := @aopsE _ _ C.q31_r4.eq_1
def C.q31_b5 : ICode := .seq (.region C.q31_r4) C.q31_c4
def C.q31_b5_w := @awpE _ _ C.q31_b5.eq_1
def C.q31_c6 : ICode := .keep [3, 11, 12, 13] (.seq (.block 1 C.q31_b5) C.q31_c2)
def C.q31_c6_w := @awpE _ _ C.q31_c6.eq_1
def C.q31_c7 : ICode := .keep [3, 11, 12, 13, 14] (.seq (.cond (X.s 14) .skip (.exit 0)) C.q31_c6)
def C.q31_c7_w := @awpE _ _ C.q31_c7.eq_1
def C.q31_r3_b : List IOper := [
 X.o 14 (.bin .lss (X.s 13) (X.s 12))]
def C.q31_r3 : List IOper := C.q31_r3_b
def C.q31_r3_w := @aopsE _ _ C.q31_r3.eq_1
def C.q31_l8 : ICode := .keep [3, 11, 12, 13] (.seq (.region C.q31_r3) C.q31_c7)
def C.q31_l8_w := @awpE _ _ C.q31_l8.eq_1
def C.q31_b9 : ICode := .loop C.q31_l8
def C.q31_b9_w := @awpE _ _ C.q31_b9.eq_1
def C.q31_c10 : ICode := .keep [3, 11, 12, 13] (.block 0 C.q31_b9)
def C.q31_c10_w := @awpE _ _ C.q31_c10.eq_1
def C.q31_r2_b : List IOper := [
 X.o 10 (.fldAddr 1 (X.s 1)),
 X.o 11 (.load1 (X.s 10)),
 X.o 12 (.len (X.s 11)),
 X.o 13 (.move (X.i 0))]
def C.q31_r2 : List IOper := C.q31_r2_b
def C.q31_r2_w := @aopsE _ _ C.q31_r2.eq_1
def C.q31_c11 : ICode := .keep [1, 3] (.seq (.seq (.region C.q31_r2) C.q31_c10) C.q31_c1)
def C.q31_c11_w := @awpE _ _ C.q31_c11.eq_1
def C.q31_r1_b : List IOper := [
 X.o 6 (.fldAddr 1 (X.s 1)),
 X.o 7 (.load1 (X.s 6)),
 X.o 8 (.len (X.s 7)),
 X.o 9 (.makeSlice 1 24 [.nils] (X.s 8) (X.s 8)),
 X.m 3 9]
def C.q31_r1 : List IOper := C.q31_r1_b
def C.q31_r1_w := @aopsE _ _ C.q31_r1.eq_1
def C.q31_c12 : ICode := .keep [1] (.seq (.region C.q31_r1) C.q31_c11)
def C.q31_c12_w := @awpE _ _ C.q31_c12.eq_1
def C.q31_r0_b : List IOper := [
 X.o 1 (.boxN (X.s 0)),
 X.o 2 (.move (.cst (.nils)))]
def C.q31_r0 : List IOper := C.q31_r0_b
def C.q31_r0_w := @aopsE _ _ C.q31_r0.eq_1
def C.q31 : IFunc := ⟨1, [.slot 2], .seq (.region C.q31_r0) C.q31_c12⟩
def C.q31_W := And.intro (And.intro (And.intro (And.intro @C.q31_r8_w @C.q31_c1_w) (And.intro @C.q31_r7_w (And.intro @C.q31_c2_w @C.q31_r6_w))) (And.intro (And.intro @C.q31_c3_w @C.q31_r5_w) (And.intro @C.q31_c4_w (And.intro @C.q31_r4_w @C.q31_b5_w)))) (And.intro (And.intro (And.intro @C.q31_c6_w @C.q31_c7_w) (And.intro @C.q31_r3_w (And.intro @C.q31_b9_w @C.q31_c10_w))) (And.intro (And.intro @C.q31_r2_w @C.q31_c11_w) (And.intro @C.q31_r1_w (And.intro @C.q31_c12_w @C.q31_r0_w))))
def C.q31_B := And.intro (And.intro (And.intro @C.q31_r8_b.eq_1 @C.q31_r7_b.eq_1) (And.intro @C.q31_r6_b.eq_1 @C.q31_r5_b.eq_1)) (And.intro (And.intro @C.q31_r4_b.eq_1 @C.q31_r3_b.eq_1) (And.intro @C.q31_r2_b.eq_1 (And.intro @C.q31_r1_b.eq_1 @C.q31_r0_b.eq_1)))

def C.q25_r1_b : List IOper := [
 X.o 2 (.fldAddr 2 (X.s 0)),
 X.o 3 (.load1 (X.s 2)),
 X.o 4 (.call F.q51 [X.s 3, .fnc F.q63]),
 X.m 1 4]
def C.q25_r1 : List IOper := C.q25_r1_b
def C.q25_r1_w := @aopsE _ _ C.q25_r1.eq_1
def C.q25_c1 : ICode := .keep [0] (.seq (.region C.q25_r1) .ret)
def C.q25_c1_w := @awpE _ _ C.q25_c1.eq_1
def C.q25_r0_b : List IOper := [
 X.o 1 (.move (X.i 0))]
def C.q25_r0 : List IOper := C.q25_r0_b
def C.q25_r0_w := @aopsE _ _ C.q25_r0.eq_1
def C.q25 : IFunc := ⟨1, [.slot 1], .seq (.region C.q25_r0) C.q25_c1⟩
def C.q25_W := And.intro @C.q25_r1_w (And.intro @C.q25_c1_w @C.q25_r0_w)
def C.q25_B := And.intro @C.q25_r1_b.eq_1 @C.q25_r0_b.eq_1

def C.q51_r8_b : List IOper := [
 X.o 4 (.move (X.i 0))]
def C.q51_r8 : List IOper := C.q51_r8_b
def C.q51_r8_w := @aopsE _ _ C.q51_r8.eq_1
def C.q51_c1 : ICode := .keep [] (.seq (.region C.q51_r8) .ret)
def C.q51_c1_w := @awpE _ _ C.q51_c1.eq_1
def C.q51_r7_b : List IOper := [
 X.o 20 (.bin .add (X.s 10) (X.i 1)),
 X.m 10 20]
def C.q51_r7 : List IOper := C.q51_r7_b
def C.q51_r7_w := @aopsE _ _ C.q51_r7.eq_1
def C.q51_c2 : ICode := .keep [1, 8, 9, 10] (.region C.q51_r7)
def C.q51_c2_w := @awpE _ _ C.q51_c2.eq_1
def C.q51_r6_b : List IOper := [
 X.m 19 7,
 X.m 4 19]
def C.q51_r6 : List IOper := C.q51_r6_b
def C.q51_r6_w := @aopsE _ _ C.q51_r6.eq_1
def C.q51_c3 : ICode := .seq (.region C.q51_r6) .ret
def C.q51_c3_w := @awpE _ _ C.q51_c3.eq_1
def C.q51_c4 : ICode := .keep [1, 7, 8, 9, 10, 18] (.cond (X.s 18) C.q51_c3 .skip)
def C.q51_c4_w := @awpE _ _ C.q51_c4.eq_1
def C.q51_r5_b : List IOper := [
 X.m 17 7,
 X.o 18 (.bin .neq (X.s 17) (X.i 0))]
def C.q51_r5 : List IOper := C.q51_r5_b
def C.q51_r5_w := @aopsE _ _ C.q51_r5.eq_1
def C.q51_c5 : ICode := .keep [1, 7, 8, 9, 10] (.seq (.region C.q51_r5) C.q51_c4)
def C.q51_c5_w := @awpE _ _ C.q51_c5.eq_1
def C.q51_r4_b : List IOper := [
 X.m 14 1,
 X.o 15 (.loadN 1 (X.s 6)),
 X.o 16 (.callv (X.s 14) [X.s 15]),
 X.m 7 16]
def C.q51_r4 : List IOper := C.q51_r4_b
def C.q51_r4_w := @aopsE _ _ C.q51_r4.eq_1
def C.q51_c6 : ICode := .keep [1, 6, 8, 9, 10] (.seq (.region C.q51_r4) C.q51_c5)
def C.q51_c6_w := @awpE _ _ C.q51_c6.eq_1
def C.q51_r3_b : List IOper := [
 X.o 12 (.idxAddr 1 (X.s 8) (X.s 10)),
 X.o 13 (.loadN 1 (X.s 12)),
 X.o 6 (.alloc [.int .i64 0]),
 X.n (.storeN 1 (X.s 6) (X.s 13))]
def C.q51_r3 : List IOper := C.q51_r3_b
def C.q51_r3_w := @aopsE _ _ C.q51_r3.eq_1
def C.q51_b7 : ICode := .seq (.region C.q51_r3) C.q51_c6
def C.q51_b7_w := @awpE _ _ C.q51_b7.eq_1
def C.q51_c8 : ICode := .keep [1, 8, 9, 10] (.seq (.block 1 C.q51_b7) C.q51_c2)
def C.q51_c8_w := @awpE _ _ C.q51_c8.eq_1
def C.q51_c9 : ICode := .keep [1, 8, 9, 10, 11] (.seq (.cond (X.s 11) .skip (.exit 0)) C.q51_c8)
def C.q51_c9_w := @awpE _ _ C.q51_c9.eq_1
def C.q51_r2_b : List IOper := [
 X.o 11 (.bin .lss (X.s 10) (X.s 9))]
def C.q51_r2 : List IOper := C.q51_r2_b
def C.q51_r2_w := @aopsE _ _ C.q51_r2.eq_1
def C.q51_l10 : ICode := .keep [1, 8, 9, 10] (.seq (.region C.q51_r2) C.q51_c9)
def C.q51_l10_w := @awpE _ _ C.q51_l10.eq_1
def C.q51_b11 : ICode := .loop C.q51_l10
def C.q51_b11_w := @awpE _ _ C.q51_b11.eq_1
def C.q51_c12 : ICode := .keep [1, 8, 9, 10] (.block 0 C.q51_b11)
def C.q51_c12_w := @awpE _ _ C.q51_c12.eq_1
def C.q51_r1_b : List IOper := [
 X.m 8 0,
 X.o 9 (.len (X.s 8)),
 X.o 10 (.move (X.i 0))]
def C.q51_r1 : List IOper := C.q51_r1_b
def C.q51_r1_w := @aopsE _ _ C.q51_r1.eq_1
def C.q51_c13 : ICode := .keep [0, 1] (.seq (.seq (.region C.q51_r1) C.q51_c12) C.q51_c1)
def C.q51_c13_w := @awpE _ _ C.q51_c13.eq_1
def C.q51_r0_b : List IOper := [
 X.o 4 (.move (X.i 0))]
def C.q51_r0 : List IOper := C.q51_r0_b
def C.q51_r0_w := @aopsE _ _ C.q51_r0.eq_1
def C.q51 : IFunc := ⟨2, [.slot 4], .seq (.region C.q51_r0) C.q51_c13⟩
def C.q51_W := And.intro (And.intro (And.intro (And.intro @C.q51_r8_w @C.q51_c1_w) (And.intro @C.q51_r7_w (And.intro @C.q51_c2_w @C.q51_r6_w))) (And.intro (And.intro @C.q51_c3_w @C.q51_c4_w) (And.intro @C.q51_r5_w (And.intro @C.q51_c5_w @C.q51_r4_w)))) (And.intro (And.intro (And.intro @C.q51_c6_w @C.q51_r3_w) (And.intro @C.q51_b7_w (And.intro @C.q51_c8_w @C.q51_c9_w))) (And.intro (And.intro @C.q51_r2_w (And.intro @C.q51_b11_w @C.q51_c12_w)) (And.intro @C.q51_r1_w (And.intro @C.q51_c13_w @C.q51_r0_w))))
def C.q51_B := And.intro (And.intro (And.intro @C.q51_r8_b.eq_1 @C.q51_r7_b.eq_1) (And.intro @C.q51_r6_b.eq_1 @C.q51_r5_b.eq_1)) (And.intro (And.intro @C.q51_r4_b.eq_1 @C.q51_r3_b.eq_1) (And.intro @C.q51_r2_b.eq_1 (And.intro @C.q51_r1_b.eq_1 @C.q51_r0_b.eq_1)))

def C.q63_r1_b : List IOper := [
 X.o 3 (.fldAddr 0 (X.s 1)),
 X.o 4 (.load1 (X.s 3)),
 X.o 5 (.call F.q66 [X.s 4, X.i 0, X.i 20]),
 X.o 6 (.un .not (X.s 5)),
 X.o 7 (.call F.q65 [X.s 6, X.i 3]),
 X.m 2 7]
def C.q63_r1 : List IOper := C.q63_r1_b
def C.q63_r1_w := @aopsE _ _ C.q63_r1.eq_1
def C.q63_c1 : ICode := .keep [1] (.seq (.region C.q63_r1) .ret)
def C.q63_c1_w := @awpE _ _ C.q63_c1.eq_1
def C.q63_r0_b : List IOper := [
 X.o 1 (.boxN (X.s 0)),
 X.o 2 (.move (X.i 0))]
def C.q63_r0 : List IOper := C.q63_r0_b
def C.q63_r0_w := @aopsE _ _ C.q63_r0.eq_1
def C.q63 : IFunc := ⟨1, [.slot 2], .seq (.region C.q63_r0) C.q63_c1⟩
def C.q63_W := And.intro @C.q63_r1_w (And.intro @C.q63_c1_w @C.q63_r0_w)
def C.q63_B := And.intro @C.q63_r1_b.eq_1 @C.q63_r0_b.eq_1

def C.q26_r1_b : List IOper := [
 X.o 2 (.fldAddr 3 (X.s 0)),
 X.o 3 (.load1 (X.s 2)),
 X.o 4 (.makeFunc F.q27 [X.s 0]),
 X.o 5 (.call F.q49 [X.s 3, X.s 4]),
 X.m 1 5]
def C.q26_r1 : List IOper := C.q26_r1_b
def C.q26_r1_w := @aopsE _ _ C.q26_r1.eq_1
def C.q26_c1 : ICode := .keep [0] (.seq (.region C.q26_r1) .ret)
def C.q26_c1_w := @awpE _ _ C.q26_c1.eq_1
def C.q26_r0_b : List IOper := [
 X.o 1 (.move (X.i 0))]
def C.q26_r0 : List IOper := C.q26_r0_b
def C.q26_r0_w := @aopsE _ _ C.q26_r0.eq_1
def C.q26 : IFunc := ⟨1, [.slot 1], .seq (.region C.q26_r0) C.q26_c1⟩
def C.q26_W := And.intro @C.q26_r1_w (And.intro @C.q26_c1_w @C.q26_r0_w)
def C.q26_B := And.intro @C.q26_r1_b.eq_1 @C.q26_r0_b.eq_1

def C.q49_r8_b : List IOper := [
 X.o 4 (.move (X.i 0))]
def C.q49_r8 : List IOper := C.q49_r8_b
def C.q49_r8_w := @aopsE _ _ C.q49_r8.eq_1
def C.q49_c1 : ICode := .keep [] (.seq (.region C.q49_r8) .ret)
def C.q49_c1_w := @awpE _ _ C.q49_c1.eq_1
def C.q49_r7_b : List IOper := [
 X.o 20 (.bin .add (X.s 10) (X.i 1)),
 X.m 10 20]
def C.q49_r7 : List IOper := C.q49_r7_b
def C.q49_r7_w := @aopsE _ _ C.q49_r7.eq_1
def C.q49_c2 : ICode := .keep [1, 8, 9, 10] (.region C.q49_r7)
def C.q49_c2_w := @awpE _ _ C.q49_c2.eq_1
def C.q49_r6_b : List IOper := [
 X.m 19 7,
 X.m 4 19]
def C.q49_r6 : List IOper := C.q49_r6_b
def C.q49_r6_w := @aopsE _ _ C.q49_r6.eq_1
def C.q49_c3 : ICode := .seq (.region C.q49_r6) .ret
def C.q49_c3_w := @awpE _ _ C.q49_c3.eq_1
def C.q49_c4 : ICode := .keep [1, 7, 8, 9, 10, 18] (.cond (X.s 18) C.q49_c3 .skip)
def C.q49_c4_w := @awpE _ _ C.q49_c4.eq_1
def C.q49_r5_b : List IOper := [
 X.m 17 7,
 X.o 18 (.bin .neq (X.s 17) (X.i 0))]
def C.q49_r5 : List IOper := C.q49_r5_b
def C.q49_r5_w := @aopsE _ _ C.q49_r5.eq_1
def C.q49_c5 : ICode := .keep [1, 7, 8, 9, 10] (.seq (.region C.q49_r5) C.q49_c4)
def C.q49_c5_w := @awpE _ _ C.q49_c5.eq_1
def C.q49_r4_b : List IOper := [
 X.m 14 1,
 X.o 15 (.loadN 6 (X.s 6)),
 X.o 16 (.callv (X.s 14) [X.s 15]),
 X.m 7 16]
def C.q49_r4 : List IOper := C.q49_r4_b
def C.q49_r4_w := @aopsE _ _ C.q49_r4.eq_1
def C.q49_c6 : ICode := .keep [1, 6, 8, 9, 10] (.seq (.region C.q49_r4) C.q49_c5)
def C.q49_c6_w := @awpE _ _ C.q49_c6.eq_1
def C.q49_r3_b : List IOper := [
 X.o 12 (.idxAddr 6 (X.s 8) (X.s 10)),
 X.o 13 (.loadN 6 (X.s 12)),
 X.o 6 (.alloc [.int .i64 0, .int .i64 0, .int .i64 0, .int .u32 0, .nils, .nils]),
 X.n (.storeN 6 (X.s 6) (X.s 13))]
def C.q49_r3 : List IOper := C.q49_r3_b
def C.q49_r3_w := @aopsE _ _ C.q49_r3.eq_1
def C.q49_b7 : ICode := .seq (.region C.q49_r3) C.q49_c6
def C.q49_b7_w := @awpE _ _ C.q49_b7.eq_1
def C.q49_c8 : ICode := .keep [1, 8, 9, 10] (.seq (.block 1 C.q49_b7) C.q49_c2)
def C.q49_c8_w := @awpE _ _ C.q49_c8.eq_1
def C.q49_c9 : ICode := .keep [1, 8, 9, 10, 11] (.seq (.cond (X.s 11) .skip (.exit 0)) C.q49_c8)
def C.q49_c9_w := @awpE _ _ C.q49_c9.eq_1
def C.q49_r2_b : List IOper := [
 X.o 11 (.bin .lss (X.s 10) (X.s 9))]
def C.q49_r2 : List IOper := C.q49_r2_b
def C.q49_r2_w := @aopsE _ _ C.q49_r2.eq_1
def C.q49_l10 : ICode := .keep [1, 8, 9, 10] (.seq (.region C.q49_r2) C.q49_c9)
def C.q49_l10_w := @awpE _ _ C.q49_l10.eq_1
def C.q49_b11 : ICode := .loop C.q49_l10
def C.q49_b11_w := @awpE _ _ C.q49_b11.eq_1
def C.q49_c12 : ICode := .keep [1, 8, 9, 10] (.block 0 C.q49_b11)
def C.q49_c12_w := @awpE _ _ C.q49_c12.eq_1
def C.q49_r1_b : List IOper := [
 X.m 8 0,
 X.o 9 (.len (X.s 8)),
 X.o 10 (.move (X.i 0))]
def C.q49_r1 : List IOper := C.q49_r1_b
def C.q49_r1_w := @aopsE _ _ C.q49_r1.eq_1
def C.q49_c13 : ICode := .keep [0, 1] (.seq (.seq (.region C.q49_r1) C.q49_c12) C.q49_c1)
def C.q49_c13_w := @awpE _ _ C.q49_c13.eq_1
def C.q49_r0_b : List IOper := [
 X.o 4 (.move (X.i 0))]
def C.q49_r0 : List IOper := C.q49_r0_b
def C.q49_r0_w := @aopsE _ _ C.q49_r0.eq_1
def C.q49 : IFunc := ⟨2, [.slot 4], .seq (.region C.q49_r0) C.q49_c13⟩
def C.q49_W := And.intro (And.intro (And.intro (And.intro @C.q49_r8_w @C.q49_c1_w) (And.intro @C.q49_r7_w (And.intro @C.q49_c2_w @C.q49_r6_w))) (And.intro (And.intro @C.q49_c3_w @C.q49_c4_w) (And.intro @C.q49_r5_w (And.intro @C.q49_c5_w @C.q49_r4_w)))) (And.intro (And.intro (And.intro @C.q49_c6_w @C.q49_r3_w) (And.intro @C.q49_b7_w (And.intro @C.q49_c8_w @C.q49_c9_w))) (And.intro (And.intro @C.q49_r2_w (And.intro @C.q49_b11_w @C.q49_c12_w)) (And.intro @C.q49_r1_w (And.intro @C.q49_c13_w @C.q49_r0_w))))
def C.q49_B := And.intro (And.intro (And.intro @C.q49_r8_b.eq_1 @C.q49_r7_b.eq_1) (And.intro @C.q49_r6_b.eq_1 @C.q49_r5_b.eq_1)) (And.intro (And.intro @C.q49_r4_b.eq_1 @C.q49_r3_b.eq_1) (And.intro @C.q49_r2_b.eq_1 (And.intro @C.q49_r1_b.eq_1 @C.q49_r0_b.eq_1)))

def C.q27_r1_b : List IOper := [
 X.o 4 (.loadN 4 (X.s 1)),
 X.o 5 (.loadN 6 (X.s 2)),
 X.o 6 (.call F.q39 [X.s 4, X.s 5]),
 X.m 3 6]
def C.q27_r1 : List IOper := C.q27_r1_b
def C.q27_r1_w := @aopsE _ _ C.q27_r1.eq_1
def C.q27_c1 : ICode := .keep [1, 2] (.seq (.region C.q27_r1) .ret)
def C.q27_c1_w := @awpE _ _ C.q27_c1.eq_1
def C.q27_r0_b : List IOper := [
 X.o 2 (.boxN (X.s 0)),
 X.o 3 (.move (X.i 0))]
def C.q27_r0 : List IOper := C.q27_r0_b
def C.q27_r0_w := @aopsE _ _ C.q27_r0.eq_1
def C.q27 : IFunc := ⟨2, [.slot 3], .seq (.region C.q27_r0) C.q27_c1⟩
def C.q27_W := And.intro @C.q27_r1_w (And.intro @C.q27_c1_w @C.q27_r0_w)
def C.q27_B := And.intro @C.q27_r1_b.eq_1 @C.q27_r0_b.eq_1

def C.q39_r1_b : List IOper := [
 X.o 5 (.makeFunc F.q40 [X.s 3, X.s 2]),
 X.o 6 (.makeFunc F.q41 [X.s 3, X.s 2]),
 X.o 7 (.makeFunc F.q42 [X.s 3, X.s 2]),
 X.o 8 (.makeFunc F.q43 [X.s 3, X.s 2]),
 X.o 9 (.buildSlice 1 4 [.nilf] [(0, 1, X.s 5), (1, 1, X.s 6), (2, 1, X.s 7), (3, 1, X.s 8)]),
 X.o 10 (.call F.q53 [X.s 9]),
 X.m 4 10]
def C.q39_r1 : List IOper := C.q39_r1_b
def C.q39_r1_w := @aopsE _ _ C.q39_r1.eq_1
def C.q39_c1 : ICode := .keep [2, 3] (.seq (.region C.q39_r1) .ret)
def C.q39_c1_w := @awpE _ _ C.q39_c1.eq_1
def C.q39_r0_b : List IOper := [
 X.o 2 (.boxN (X.s 0)),
 X.o 3 (.boxN (X.s 1)),
 X.o 4 (.move (X.i 0))]
def C.q39_r0 : List IOper := C.q39_r0_b
def C.q39_r0_w := @aopsE _ _ C.q39_r0.eq_1
def C.q39 : IFunc := ⟨2, [.slot 4], .seq (.region C.q39_r0) C.q39_c1⟩
def C.q39_W := And.intro @C.q39_r1_w (And.intro @C.q39_c1_w @C.q39_r0_w)
def C.q39_B := And.intro @C.q39_r1_b.eq_1 @C.q39_r0_b.eq_1

def C.q28_r1_b : List IOper := [
 X.o 2 (.loadN 4 (X.s 0)),
 X.o 3 (.call F.q32 [X.s 2]),
 X.o 4 (.call F.q38 [X.s 3]),
 X.m 1 4]
def C.q28_r1 : List IOper := C.q28_r1_b
def C.q28_r1_w := @aopsE _ _ C.q28_r1.eq_1
def C.q28_c1 : ICode := .keep [0] (.seq (.region C.q28_r1) .ret)
def C.q28_c1_w := @awpE _ _ C.q28_c1.eq_1
def C.q28_r0_b : List IOper := [
 X.o 1 (.move (X.i 0))]
def C.q28_r0 : List IOper := C.q28_r0_b
def C.q28_r0_w := @aopsE _ _ C.q28_r0.eq_1
def C.q28 : IFunc := ⟨1, [.slot 1], .seq (.region C.q28_r0) C.q28_c1⟩
def C.q28_W := And.intro @C.q28_r1_w (And.intro @C.q28_c1_w @C.q28_r0_w)
def C.q28_B := And.intro @C.q28_r1_b.eq_1 @C.q28_r0_b.eq_1

def C.q32_r7_b : List IOper := [
 X.m 25 3,
 X.m 2 25]
def C.q32_r7 : List IOper := C.q32_r7_b
def C.q32_r7_w := @aopsE _ _ C.q32_r7.eq_1
def C.q32_c1 : ICode := .keep [3] (.seq (.region C.q32_r7) .ret)
def C.q32_c1_w := @awpE _ _ C.q32_c1.eq_1
def C.q32_r6_b : List IOper := [
 X.o 24 (.bin .add (X.s 13) (X.i 1)),
 X.m 13 24]
def C.q32_r6 : List IOper := C.q32_r6_b
def C.q32_r6_w := @aopsE _ _ C.q32_r6.eq_1
def C.q32_c2 : ICode := .keep [3, 11, 12, 13] (.region C.q32_r6)
def C.q32_c2_w := @awpE _ _ C.q32_c2.eq_1
def C.q32_r5_b : List IOper := [
 X.m 18 3,
 X.m 19 4,
 X.o 20 (.fldAddr 5 (X.s 5)),
 X.o 21 (.load1 (X.s 20)),
 X.o 22 (.call F.q62 [X.s 21]),
 X.o 23 (.idxAddr 1 (X.s 18) (X.s 19)),
 X.n (.store1 (X.s 23) (X.s 22))]
def C.q32_r5 : List IOper := C.q32_r5_b
def C.q32_r5_w := @aopsE _ _ C.q32_r5.eq_1
def C.q32_c3 : ICode := .keep [3, 4, 5, 11, 12, 13] (.region C.q32_r5)
def C.q32_c3_w := @awpE _ _ C.q32_c3.eq_1
def C.q32_r4_b : List IOper := [
 X.m 15 13,
 X.o 16 (.idxAddr 6 (X.s 11) (X.s 13)),
 X.o 17 (.loadN 6 (X.s 16)),
 X.o 5 (.alloc [.int .i64 0, .int .i64 0, .int .i64 0, .int .u32 0, .nils, .nils]),
 X.m 4 15,
 X.n (.storeN 6 (X.s 5) (X.s 17))]
def C.q32_r4 : List IOper := C.q32_r4_b
def C.q32_r4_w := @aopsE _ _ C.q32_r4.eq_1
def C.q32_b4 : ICode := .seq (.region C.q32_r4) C.q32_c3
def C.q32_b4_w := @awpE _ _ C.q32_b4.eq_1
def C.q32_c5 : ICode := .keep [3, 11, 12, 13] (.seq (.block 1 C.q32_b4) C.q32_c2)
def C.q32_c5_w := @awpE _ _ C.q32_c5.eq_1
def C.q32_c6 : ICode := .keep [3, 11, 12, 13, 14] (.seq (.cond (X.s 14) .skip (.exit 0)) C.q32_c5)
def C.q32_c6_w := @awpE _ _ C.q32_c6.eq_1
def C.q32_r3_b : List IOper := [
 X.o 14 (.bin .lss (X.s 13) (X.s 12))]
def C.q32_r3 : List IOper := C.q32_r3_b
def C.q32_r3_w := @aopsE _ _ C.q32_r3.eq_1
def C.q32_l7 : ICode := .keep [3, 11, 12, 13] (.seq (.region C.q32_r3) C.q32_c6)
def C.q32_l7_w := @awpE _ _ C.q32_l7.eq_1
def C.q32_b8 : ICode := .loop C.q32_l7
def C.q32_b8_w := @awpE _ _ C.q32_b8.eq_1
def C.q32_c9 : ICode := .keep [3, 11, 12, 13] (.block 0 C.q32_b8)
def C.q32_c9_w := @awpE _ _ C.q32_c9.eq_1
def C.q32_r2_b : List IOper := [
 X.o 10 (.fldAddr 3 (X.s 1)),
 X.o 11 (.load1 (X.s 10)),
 X.o 12 (.len (X.s 11)),
 X.o 13 (.move (X.i 0))]
def C.q32_r2 : List IOper := C.q32_r2_b
def C.q32_r2_w := @aopsE _ _ C.q32_r2.eq_1
def C.q32_c10 : ICode := .keep [1, 3] (.seq (.seq (.region C.q32_r2) C.q32_c9) C.q32_c1)
def C.q32_c10_w := @awpE _ _ C.q32_c10.eq_1
def C.q32_r1_b : List IOper := [
 X.o 6 (.fldAddr 3 (X.s 1)),
 X.o 7 (.load1 (X.s 6)),
 X.o 8 (.len (X.s 7)),
 X.o 9 (.makeSlice 1 24 [.nils] (X.s 8) (X.s 8)),
 X.m 3 9]
def C.q32_r1 : List IOper := C.q32_r1_b
def C.q32_r1_w := @aopsE _ _ C.q32_r1.eq_1
def C.q32_c11 : ICode := .keep [1] (.seq (.region C.q32_r1) C.q32_c10)
def C.q32_c11_w := @awpE _ _ C.q32_c11.eq_1
def C.q32_r0_b : List IOper := [
 X.o 1 (.boxN (X.s 0)),
 X.o 2 (.move (.cst (.nils)))]
def C.q32_r0 : List IOper := C.q32_r0_b
def C.q32_r0_w := @aopsE _ _ C.q32_r0.eq_1
def C.q32 : IFunc := ⟨1, [.slot 2], .seq (.region C.q32_r0) C.q32_c11⟩
def C.q32_W := And.intro (And.intro (And.intro (And.intro @C.q32_r7_w @C.q32_c1_w) (And.intro @C.q32_r6_w @C.q32_c2_w)) (And.intro (And.intro @C.q32_r5_w @C.q32_c3_w) (And.intro @C.q32_r4_w (And.intro @C.q32_b4_w @C.q32_c5_w)))) (And.intro (And.intro (And.intro @C.q32_c6_w @C.q32_r3_w) (And.intro @C.q32_b8_w @C.q32_c9_w)) (And.intro (And.intro @C.q32_r2_w @C.q32_c10_w) (And.intro @C.q32_r1_w (And.intro @C.q32_c11_w @C.q32_r0_w))))
def C.q32_B := And.intro (And.intro (And.intro @C.q32_r7_b.eq_1 @C.q32_r6_b.eq_1) (And.intro @C.q32_r5_b.eq_1 @C.q32_r4_b.eq_1)) (And.intro (And.intro @C.q32_r3_b.eq_1 @C.q32_r2_b.eq_1) (And.intro @C.q32_r1_b.eq_1 @C.q32_r0_b.eq_1))

def C.q15_r3_b : List IOper := [
 X.m 20 0,
 X.o 21 (.nilchk (X.s 20)),
 X.o 22 (.fldAddr 0 (X.s 21)),
 X.o 23 (.load1 (X.s 22)),
 X.m 24 1,
 X.o 25 (.idxAddr 11 (X.s 23) (X.s 24)),
 X.m 4 25]
def C.q15_r3 : List IOper := C.q15_r3_b
def C.q15_r3_w := @aopsE _ _ C.q15_r3.eq_1
def C.q15_c1 : ICode := .keep [0, 1] (.seq (.region C.q15_r3) .ret)
def C.q15_c1_w := @awpE _ _ C.q15_c1.eq_1
def C.q15_r2_b : List IOper := [
 X.o 4 (.move (.cst (.nilp)))]
def C.q15_r2 : List IOper := C.q15_r2_b
def C.q15_r2_w := @aopsE _ _ C.q15_r2.eq_1
def C.q15_c2 : ICode := .seq (.region C.q15_r2) .ret
def C.q15_c2_w := @awpE _ _ C.q15_c2.eq_1
def C.q15_c3 : ICode := .keep [0, 1, 19] (.cond (X.s 19) C.q15_c2 .skip)
def C.q15_c3_w := @awpE _ _ C.q15_c3.eq_1
def C.q15_r1_b : List IOper := [
 X.m 5 0,
 X.o 6 (.eqP 0 false (X.s 5) (.cst (.nilp))),
 X.m 7 6,
 X.f 7 8 (.move (X.s 1)),
 X.f 7 9 (.bin .lss (X.s 8) (X.i 0)),
 X.o 10 (.pick (X.s 7) (.cst (.bool true)) (X.s 9)),
 X.m 11 10,
 X.f 11 12 (.move (X.s 1)),
 X.f 11 13 (.move (X.s 0)),
 X.f 11 14 (.nilchk (X.s 13)),
 X.f 11 15 (.fldAddr 0 (X.s 14)),
 X.f 11 16 (.load1 (X.s 15)),
 X.f 11 17 (.len (X.s 16)),
 X.f 11 18 (.bin .geq (X.s 12) (X.s 17)),
 X.o 19 (.pick (X.s 11) (.cst (.bool true)) (X.s 18))]
def C.q15_r1 : List IOper := C.q15_r1_b
def C.q15_r1_w := @aopsE _ _ C.q15_r1.eq_1
def C.q15_c4 : ICode := .keep [0, 1] (.seq (.seq (.region C.q15_r1) C.q15_c3) C.q15_c1)
def C.q15_c4_w := @awpE _ _ C.q15_c4.eq_1
def C.q15_r0_b : List IOper := [
 X.o 4 (.move (.cst (.nilp)))]
def C.q15_r0 : List IOper := C.q15_r0_b
def C.q15_r0_w := @aopsE _ _ C.q15_r0.eq_1
def C.q15 : IFunc := ⟨2, [.slot 4], .seq (.region C.q15_r0) C.q15_c4⟩
def C.q15_W := And.intro (And.intro (And.intro @C.q15_r3_w @C.q15_c1_w) (And.intro @C.q15_r2_w @C.q15_c2_w)) (And.intro (And.intro @C.q15_c3_w @C.q15_r1_w) (And.intro @C.q15_c4_w @C.q15_r0_w))
def C.q15_B := And.intro (And.intro @C.q15_r3_b.eq_1 @C.q15_r2_b.eq_1) (And.intro @C.q15_r1_b.eq_1 @C.q15_r0_b.eq_1)

def C.q12_r9_b : List IOper := [
 X.o 52 (.load1 (X.s 2)),
 X.o 53 (.load1 (X.s 1)),
 X.m 54 0,
 ⟨some 55, .call F.q16 [X.s 53, X.s 54], none, [⟨.load1 (X.s 2), 52, none⟩], []⟩,
 X.o 56 (.callv (X.s 52) [X.s 55]),
 X.m 4 56]
def C.q12_r9 : List IOper := C.q12_r9_b
def C.q12_r9_w := @aopsE _ _ C.q12_r9.eq_1
def C.q12_c1 : ICode := .keep [0, 1, 2] (.seq (.region C.q12_r9) .ret)
def C.q12_c1_w := @awpE _ _ C.q12_c1.eq_1
def C.q12_r4_b : List IOper := [
 X.o 4 (.move (.cst (.bool true)))]
def C.q12_r4 : List IOper := C.q12_r4_b
def C.q12_r4_w := @aopsE _ _ C.q12_r4.eq_1
def C.q12_r6_b : List IOper := [
 X.m 21 5,
 X.o 22 (.nilchk (X.s 21)),
 X.o 23 (.fldAddr 6 (X.s 22)),
 X.o 24 (.load1 (X.s 23)),
 X.m 25 24,
 X.t 25 26 (.move (X.s 5)),
 X.t 25 27 (.nilchk (X.s 26)),
 X.t 25 28 (.fldAddr 7 (X.s 27)),
 X.t 25 29 (.load1 (X.s 28)),
 X.t 25 30 (.bin .eql (X.s 29) (X.i 0)),
 X.o 31 (.pick (X.s 25) (X.s 30) (.cst (.bool false))),
 X.m 32 31,
 X.t 32 33 (.load1 (X.s 2)),
 X.t 32 34 (.load1 (X.s 1)),
 X.t 32 35 (.move (X.s 0)),
 ⟨some 36, .call F.q16 [X.s 34, X.s 35], some (32, true), [⟨.load1 (X.s 2), 33, some (32, true)⟩], []⟩,
 X.t 32 37 (.callv (X.s 33) [X.s 36]),
 X.o 38 (.pick (X.s 32) (X.s 37) (.cst (.bool false))),
 X.m 4 38]
def C.q12_r6 : List IOper := C.q12_r6_b
def C.q12_r6_w := @aopsE _ _ C.q12_r6.eq_1
def C.q12_r8_b : List IOper := [
 X.m 41 5,
 X.o 42 (.nilchk (X.s 41)),
 X.o 43 (.fldAddr 6 (X.s 42)),
 X.o 44 (.load1 (X.s 43)),
 X.m 45 44,
 X.t 45 46 (.load1 (X.s 2)),
 X.t 45 47 (.load1 (X.s 1)),
 X.t 45 48 (.move (X.s 0)),
 ⟨some 49, .call F.q16 [X.s 47, X.s 48], some (45, true), [⟨.load1 (X.s 2), 46, some (45, true)⟩], []⟩,
 X.t 45 50 (.callv (X.s 46) [X.s 49]),
 X.o 51 (.pick (X.s 45) (X.s 50) (.cst (.bool false))),
 X.m 4 51]
def C.q12_r8 : List IOper := C.q12_r8_b
def C.q12_r8_w := @aopsE _ _ C.q12_r8.eq_1
def C.q12_c2 : ICode := .seq (.region C.q12_r8) .ret
def C.q12_c2_w := @awpE _ _ C.q12_c2.eq_1
def C.q12_c3 : ICode := .keep [0, 1, 2, 5, 39] (.cond (X.s 39) C.q12_c2 .skip)
def C.q12_c3_w := @awpE _ _ C.q12_c3.eq_1
def C.q12_r7_b : List IOper := [
 X.o 40 (.bin .eql (X.s 16) (.cst (.int .u8 103))),
 X.m 39 40]
def C.q12_r7 : List IOper := C.q12_r7_b
def C.q12_r7_w := @aopsE _ _ C.q12_r7.eq_1
def C.q12_c4 : ICode := .seq (.region C.q12_r6) .ret
def C.q12_c4_w := @awpE _ _ C.q12_c4.eq_1
def C.q12_c5 : ICode := .seq (.region C.q12_r7) C.q12_c3
def C.q12_c5_w := @awpE _ _ C.q12_c5.eq_1
def C.q12_c6 : ICode := .keep [0, 1, 2, 5, 16, 19] (.cond (X.s 19) C.q12_c4 C.q12_c5)
def C.q12_c6_w := @awpE _ _ C.q12_c6.eq_1
def C.q12_r5_b : List IOper := [
 X.o 20 (.bin .eql (X.s 16) (.cst (.int .u8 112))),
 X.m 19 20]
def C.q12_r5 : List IOper := C.q12_r5_b
def C.q12_r5_w := @aopsE _ _ C.q12_r5.eq_1
def C.q12_c7 : ICode := .seq (.region C.q12_r4) .ret
def C.q12_c7_w := @awpE _ _ C.q12_c7.eq_1
def C.q12_c8 : ICode := .seq (.region C.q12_r5) C.q12_c6
def C.q12_c8_w := @awpE _ _ C.q12_c8.eq_1
def C.q12_c9 : ICode := .keep [0, 1, 2, 5, 16, 17] (.cond (X.s 17) C.q12_c7 C.q12_c8)
def C.q12_c9_w := @awpE _ _ C.q12_c9.eq_1
def C.q12_r3_b : List IOper := [
 X.o 18 (.bin .eql (X.s 16) (.cst (.int .u8 111))),
 X.m 17 18]
def C.q12_r3 : List IOper := C.q12_r3_b
def C.q12_r3_w := @aopsE _ _ C.q12_r3.eq_1
def C.q12_b10 : ICode := .seq (.region C.q12_r3) C.q12_c9
def C.q12_b10_w := @awpE _ _ C.q12_b10.eq_1
def C.q12_c11 : ICode := .keep [0, 1, 2, 5, 16] (.block 0 C.q12_b10)
def C.q12_c11_w := @awpE _ _ C.q12_c11.eq_1
def C.q12_r2_b : List IOper := [
 X.m 12 5,
 X.o 13 (.nilchk (X.s 12)),
 X.o 14 (.fldAddr 0 (X.s 13)),
 X.o 15 (.fldAddr 0 (X.s 14)),
 X.o 16 (.load1 (X.s 15))]
def C.q12_r2 : List IOper := C.q12_r2_b
def C.q12_r2_w := @aopsE _ _ C.q12_r2.eq_1
def C.q12_c12 : ICode := .keep [0, 1, 2, 5] (.seq (.seq (.region C.q12_r2) C.q12_c11) C.q12_c1)
def C.q12_c12_w := @awpE _ _ C.q12_c12.eq_1
def C.q12_r1_b : List IOper := [
 X.o 6 (.load1 (X.s 1)),
 X.o 7 (.nilchk (X.s 6)),
 X.o 8 (.fldAddr 0 (X.s 7)),
 X.o 9 (.load1 (X.s 8)),
 X.m 10 0,
 X.o 11 (.idxAddr 11 (X.s 9) (X.s 10)),
 X.m 5 11]
def C.q12_r1 : List IOper := C.q12_r1_b
def C.q12_r1_w := @aopsE _ _ C.q12_r1.eq_1
def C.q12_c13 : ICode := .keep [0, 1, 2] (.seq (.region C.q12_r1) C.q12_c12)
def C.q12_c13_w := @awpE _ _ C.q12_c13.eq_1
def C.q12_r0_b : List IOper := [
 X.o 4 (.move (.cst (.bool false)))]
def C.q12_r0 : List IOper := C.q12_r0_b
def C.q12_r0_w := @aopsE _ _ C.q12_r0.eq_1
def C.q12 : IFunc := ⟨3, [.slot 4], .seq (.region C.q12_r0) C.q12_c13⟩
def C.q12_W := And.intro (And.intro (And.intro (And.intro @C.q12_r9_w @C.q12_c1_w) (And.intro @C.q12_r4_w (And.intro @C.q12_r6_w @C.q12_r8_w))) (And.intro (And.intro @C.q12_c2_w (And.intro @C.q12_c3_w @C.q12_r7_w)) (And.intro @C.q12_c4_w (And.intro @C.q12_c5_w @C.q12_c6_w)))) (And.intro (And.intro (And.intro @C.q12_r5_w (And.intro @C.q12_c7_w @C.q12_c8_w)) (And.intro @C.q12_c9_w (And.intro @C.q12_r3_w @C.q12_b10_w))) (And.intro (And.intro @C.q12_c11_w (And.intro @C.q12_r2_w @C.q12_c12_w)) (And.intro @C.q12_r1_w (And.intro @C.q12_c13_w @C.q12_r0_w))))
def C.q12_B := And.intro (And.intro (And.intro @C.q12_r9_b.eq_1 @C.q12_r4_b.eq_1) (And.intro @C.q12_r6_b.eq_1 (And.intro @C.q12_r8_b.eq_1 @C.q12_r7_b.eq_1))) (And.intro (And.intro @C.q12_r5_b.eq_1 @C.q12_r3_b.eq_1) (And.intro @C.q12_r2_b.eq_1 (And.intro @C.q12_r1_b.eq_1 @C.q12_r0_b.eq_1)))

def C.q16_r4_b : List IOper := [
 X.m 19 5,
 X.o 20 (.nilchk (X.s 19)),
 X.o 21 (.fldAddr 0 (X.s 20)),
 X.o 22 (.fldAddr 1 (X.s 21)),
 X.o 23 (.load1 (X.s 22)),
 X.m 24 5,
 X.o 25 (.nilchk (X.s 24)),
 X.o 26 (.fldAddr 8 (X.s 25)),
 X.o 27 (.load1 (X.s 26)),
 X.o 28 (.idxAddr 1 (X.s 23) (X.s 27)),
 X.o 29 (.load1 (X.s 28)),
 X.m 4 29]
def C.q16_r4 : List IOper := C.q16_r4_b
def C.q16_r4_w := @aopsE _ _ C.q16_r4.eq_1
def C.q16_c1 : ICode := .keep [5] (.seq (.region C.q16_r4) .ret)
def C.q16_c1_w := @awpE _ _ C.q16_c1.eq_1
def C.q16_r3_b : List IOper := [
 X.o 4 (.move (X.i (-1)))]
def C.q16_r3 : List IOper := C.q16_r3_b
def C.q16_r3_w := @aopsE _ _ C.q16_r3.eq_1
def C.q16_c2 : ICode := .seq (.region C.q16_r3) .ret
def C.q16_c2_w := @awpE _ _ C.q16_c2.eq_1
def C.q16_c3 : ICode := .keep [5, 18] (.cond (X.s 18) C.q16_c2 .skip)
def C.q16_c3_w := @awpE _ _ C.q16_c3.eq_1
def C.q16_r2_b : List IOper := [
 X.m 12 5,
 X.o 13 (.nilchk (X.s 12)),
 X.o 14 (.fldAddr 0 (X.s 13)),
 X.o 15 (.fldAddr 1 (X.s 14)),
 X.o 16 (.load1 (X.s 15)),
 X.o 17 (.len (X.s 16)),
 X.o 18 (.bin .eql (X.s 17) (X.i 0))]
def C.q16_r2 : List IOper := C.q16_r2_b
def C.q16_r2_w := @aopsE _ _ C.q16_r2.eq_1
def C.q16_c4 : ICode := .keep [5] (.seq (.seq (.region C.q16_r2) C.q16_c3) C.q16_c1)
def C.q16_c4_w := @awpE _ _ C.q16_c4.eq_1
def C.q16_r1_b : List IOper := [
 X.m 6 0,
 X.o 7 (.nilchk (X.s 6)),
 X.o 8 (.fldAddr 0 (X.s 7)),
 X.o 9 (.load1 (X.s 8)),
 X.m 10 1,
 X.o 11 (.idxAddr 11 (X.s 9) (X.s 10)),
 X.m 5 11]
def C.q16_r1 : List IOper := C.q16_r1_b
def C.q16_r1_w := @aopsE _ _ C.q16_r1.eq_1
def C.q16_c5 : ICode := .keep [0, 1] (.seq (.region C.q16_r1) C.q16_c4)
def C.q16_c5_w := @awpE _ _ C.q16_c5.eq_1
def C.q16_r0_b : List IOper := [
 X.o 4 (.move (X.i 0))]
def C.q16_r0 : List IOper := C.q16_r0_b
def C.q16_r0_w := @aopsE _ _ C.q16_r0.eq_1
def C.q16 : IFunc := ⟨2, [.slot 4], .seq (.region C.q16_r0) C.q16_c5⟩
def C.q16_W := And.intro (And.intro (And.intro @C.q16_r4_w @C.q16_c1_w) (And.intro @C.q16_r3_w (And.intro @C.q16_c2_w @C.q16_c3_w))) (And.intro (And.intro @C.q16_r2_w @C.q16_c4_w) (And.intro @C.q16_r1_w (And.intro @C.q16_c5_w @C.q16_r0_w)))
def C.q16_B := And.intro (And.intro @C.q16_r4_b.eq_1 @C.q16_r3_b.eq_1) (And.intro @C.q16_r2_b.eq_1 (And.intro @C.q16_r1_b.eq_1 @C.q16_r0_b.eq_1))

def C.q10_r13_b : List IOper := [
 X.m 65 6,
 X.m 4 65]
def C.q10_r13 : List IOper := C.q10_r13_b
def C.q10_r13_w := @aopsE _ _ C.q10_r13.eq_1
def C.q10_c1 : ICode := .keep [6] (.seq (.region C.q10_r13) .ret)
def C.q10_c1_w := @awpE _ _ C.q10_c1.eq_1
def C.q10_r10_b : List IOper := [
 X.m 55 7,
 X.m 4 55]
def C.q10_r10 : List IOper := C.q10_r10_b
def C.q10_r10_w := @aopsE _ _ C.q10_r10.eq_1
def C.q10_c2 : ICode := .keep [7] (.seq (.region C.q10_r10) .ret)
def C.q10_c2_w := @awpE _ _ C.q10_c2.eq_1
def C.q10_r9_b : List IOper := [
 X.o 4 (.move (.cst (.int .u64 1099511627776)))]
def C.q10_r9 : List IOper := C.q10_r9_b
def C.q10_r9_w := @aopsE _ _ C.q10_r9.eq_1
def C.q10_c3 : ICode := .seq (.region C.q10_r9) .ret
def C.q10_c3_w := @awpE _ _ C.q10_c3.eq_1
def C.q10_c4 : ICode := .keep [7, 54] (.cond (X.s 54) C.q10_c3 .skip)
def C.q10_c4_w := @awpE _ _ C.q10_c4.eq_1
def C.q10_r8_b : List IOper := [
 X.m 53 8,
 X.o 54 (.bin .neq (X.s 53) (X.i 0))]
def C.q10_r8 : List IOper := C.q10_r8_b
def C.q10_r8_w := @aopsE _ _ C.q10_r8.eq_1
def C.q10_c5 : ICode := .keep [7, 8] (.seq (.seq (.region C.q10_r8) C.q10_c4) C.q10_c2)
def C.q10_c5_w := @awpE _ _ C.q10_c5.eq_1
def C.q10_r7_b : List IOper := [
 X.m 39 6,
 X.m 40 5,
 X.o 41 (.nilchk (X.s 40)),
 X.o 42 (.fldAddr 0 (X.s 41)),
 X.o 43 (.fldAddr 3 (X.s 42)),
 X.o 44 (.load1 (X.s 43)),
 X.m 45 5,
 X.o 46 (.nilchk (X.s 45)),
 X.o 47 (.fldAddr 0 (X.s 46)),
 X.o 48 (.fldAddr 4 (X.s 47)),
 X.o 49 (.load1 (X.s 48)),
 X.o 50 (.call F.q73 [X.s 39, X.s 44, X.s 49]),
 X.m 38 50,
 X.o 51 (.extract (X.s 38) 0),
 X.o 52 (.extract (X.s 38) 1),
 X.m 7 51,
 X.m 8 52]
def C.q10_r7 : List IOper := C.q10_r7_b
def C.q10_r7_w := @aopsE _ _ C.q10_r7.eq_1
def C.q10_r12_b : List IOper := [
 X.m 58 6,
 X.m 59 5,
 X.o 60 (.nilchk (X.s 59)),
 X.o 61 (.fldAddr 10 (X.s 60)),
 X.o 62 (.load1 (X.s 61)),
 X.o 63 (.conv .u64 (X.s 62)),
 X.o 64 (.bin .quo (X.s 58) (X.s 63)),
 X.m 4 64]
def C.q10_r12 : List IOper := C.q10_r12_b
def C.q10_r12_w := @aopsE _ _ C.q10_r12.eq_1
def C.q10_c6 : ICode := .seq (.region C.q10_r12) .ret
def C.q10_c6_w := @awpE _ _ C.q10_c6.eq_1
def C.q10_c7 : ICode := .keep [5, 6, 56] (.cond (X.s 56) C.q10_c6 .skip)
def C.q10_c7_w := @awpE _ _ C.q10_c7.eq_1
def C.q10_r11_b : List IOper := [
 X.o 57 (.bin .eql (X.s 35) (.cst (.int .u8 100))),
 X.m 56 57]
def C.q10_r11 : List IOper := C.q10_r11_b
def C.q10_r11_w := @aopsE _ _ C.q10_r11.eq_1
def C.q10_c8 : ICode := .seq (.region C.q10_r7) C.q10_c5
def C.q10_c8_w := @awpE _ _ C.q10_c8.eq_1
def C.q10_c9 : ICode := .seq (.region C.q10_r11) C.q10_c7
def C.q10_c9_w := @awpE _ _ C.q10_c9.eq_1
def C.q10_c10 : ICode := .keep [5, 6, 35, 36] (.cond (X.s 36) C.q10_c8 C.q10_c9)
def C.q10_c10_w := @awpE _ _ C.q10_c10.eq_1
def C.q10_r6_b : List IOper := [
 X.o 37 (.bin .eql (X.s 35) (.cst (.int .u8 112))),
 X.m 36 37]
def C.q10_r6 : List IOper := C.q10_r6_b
def C.q10_r6_w := @aopsE _ _ C.q10_r6.eq_1
def C.q10_b11 : ICode := .seq (.region C.q10_r6) C.q10_c10
def C.q10_b11_w := @awpE _ _ C.q10_b11.eq_1
def C.q10_c12 : ICode := .keep [5, 6, 35] (.block 0 C.q10_b11)
def C.q10_c12_w := @awpE _ _ C.q10_c12.eq_1
def C.q10_r5_b : List IOper := [
 X.m 31 5,
 X.o 32 (.nilchk (X.s 31)),
 X.o 33 (.fldAddr 0 (X.s 32)),
 X.o 34 (.fldAddr 0 (X.s 33)),
 X.o 35 (.load1 (X.s 34))]
def C.q10_r5 : List IOper := C.q10_r5_b
def C.q10_r5_w := @aopsE _ _ C.q10_r5.eq_1
def C.q10_c13 : ICode := .keep [5, 6] (.seq (.seq (.region C.q10_r5) C.q10_c12) C.q10_c1)
def C.q10_c13_w := @awpE _ _ C.q10_c13.eq_1
def C.q10_r4_b : List IOper := [
 X.o 26 (.load1 (X.s 2)),
 X.o 27 (.load1 (X.s 1)),
 X.m 28 0,
 ⟨some 29, .call F.q16 [X.s 27, X.s 28], none, [⟨.load1 (X.s 2), 26, none⟩], []⟩,
 X.o 30 (.callv (X.s 26) [X.s 29]),
 X.m 6 30]
def C.q10_r4 : List IOper := C.q10_r4_b
def C.q10_r4_w := @aopsE _ _ C.q10_r4.eq_1
def C.q10_c14 : ICode := .keep [0, 1, 2, 5] (.seq (.region C.q10_r4) C.q10_c13)
def C.q10_c14_w := @awpE _ _ C.q10_c14.eq_1
def C.q10_r3_b : List IOper := [
 X.m 21 5,
 X.o 22 (.nilchk (X.s 21)),
 X.o 23 (.fldAddr 0 (X.s 22)),
 X.o 24 (.fldAddr 2 (X.s 23)),
 X.o 25 (.load1 (X.s 24)),
 X.m 4 25]
def C.q10_r3 : List IOper := C.q10_r3_b
def C.q10_r3_w := @aopsE _ _ C.q10_r3.eq_1
def C.q10_c15 : ICode := .seq (.region C.q10_r3) .ret
def C.q10_c15_w := @awpE _ _ C.q10_c15.eq_1
def C.q10_c16 : ICode := .keep [0, 1, 2, 5, 20] (.cond (X.s 20) C.q10_c15 .skip)
def C.q10_c16_w := @awpE _ _ C.q10_c16.eq_1
def C.q10_r2_b : List IOper := [
 X.m 15 5,
 X.o 16 (.nilchk (X.s 15)),
 X.o 17 (.fldAddr 0 (X.s 16)),
 X.o 18 (.fldAddr 0 (X.s 17)),
 X.o 19 (.load1 (X.s 18)),
 X.o 20 (.bin .eql (X.s 19) (.cst (.int .u8 111)))]
def C.q10_r2 : List IOper := C.q10_r2_b
def C.q10_r2_w := @aopsE _ _ C.q10_r2.eq_1
def C.q10_c17 : ICode := .keep [0, 1, 2, 5] (.seq (.seq (.region C.q10_r2) C.q10_c16) C.q10_c14)
def C.q10_c17_w := @awpE _ _ C.q10_c17.eq_1
def C.q10_r1_b : List IOper := [
 X.o 9 (.load1 (X.s 1)),
 X.o 10 (.nilchk (X.s 9)),
 X.o 11 (.fldAddr 0 (X.s 10)),
 X.o 12 (.load1 (X.s 11)),
 X.m 13 0,
 X.o 14 (.idxAddr 11 (X.s 12) (X.s 13)),
 X.m 5 14]
def C.q10_r1 : List IOper := C.q10_r1_b
def C.q10_r1_w := @aopsE _ _ C.q10_r1.eq_1
def C.q10_c18 : ICode := .keep [0, 1, 2] (.seq (.region C.q10_r1) C.q10_c17)
def C.q10_c18_w := @awpE _ _ C.q10_c18.eq_1
def C.q10_r0_b : List IOper := [
 X.o 4 (.move (.cst (.int .u64 0)))]
def C.q10_r0 : List IOper := C.q10_r0_b
def C.q10_r0_w := @aopsE _ _ C.q10_r0.eq_1
def C.q10 : IFunc := ⟨3, [.slot 4], .seq (.region C.q10_r0) C.q10_c18⟩
def C.q10_W := And.intro (And.intro (And.intro (And.intro (And.intro @C.q10_r13_w @C.q10_c1_w) (And.intro @C.q10_r10_w @C.q10_c2_w)) (And.intro (And.intro @C.q10_r9_w @C.q10_c3_w) (And.intro @C.q10_c4_w @C.q10_r8_w))) (And.intro (And.intro (And.intro @C.q10_c5_w @C.q10_r7_w) (And.intro @C.q10_r12_w @C.q10_c6_w)) (And.intro (And.intro @C.q10_c7_w @C.q10_r11_w) (And.intro @C.q10_c8_w @C.q10_c9_w)))) (And.intro (And.intro (And.intro (And.intro @C.q10_c10_w @C.q10_r6_w) (And.intro @C.q10_b11_w @C.q10_c12_w)) (And.intro (And.intro @C.q10_r5_w @C.q10_c13_w) (And.intro @C.q10_r4_w @C.q10_c14_w))) (And.intro (And.intro (And.intro @C.q10_r3_w @C.q10_c15_w) (And.intro @C.q10_c16_w @C.q10_r2_w)) (And.intro (And.intro @C.q10_c17_w @C.q10_r1_w) (And.intro @C.q10_c18_w @C.q10_r0_w))))
def C.q10_B := And.intro (And.intro (And.intro @C.q10_r13_b.eq_1 (And.intro @C.q10_r10_b.eq_1 @C.q10_r9_b.eq_1)) (And.intro (And.intro @C.q10_r8_b.eq_1 @C.q10_r7_b.eq_1) (And.intro @C.q10_r12_b.eq_1 @C.q10_r11_b.eq_1))) (And.intro (And.intro @C.q10_r6_b.eq_1 (And.intro @C.q10_r5_b.eq_1 @C.q10_r4_b.eq_1)) (And.intro (And.intro @C.q10_r3_b.eq_1 @C.q10_r2_b.eq_1) (And.intro @C.q10_r1_b.eq_1 @C.q10_r0_b.eq_1)))

def C.q75_r2_b : List IOper := [
 X.m 10 2,
 X.o 11 (.bin .add (X.s 10) (X.i 1)),
 X.m 12 3,
 X.o 13 (.bin .sub (X.s 12) (X.i 1)),
 X.m 2 11,
 X.m 3 13]
def C.q75_r2 : List IOper := C.q75_r2_b
def C.q75_r2_w := @aopsE _ _ C.q75_r2.eq_1
def C.q75_c1 : ICode := .keep [0, 2, 3] (.region C.q75_r2)
def C.q75_c1_w := @awpE _ _ C.q75_c1.eq_1
def C.q75_r3_b : List IOper := [
 X.m 14 0,
 X.m 15 2,
 X.m 16 0,
 X.m 17 3,
 X.m 18 0,
 X.m 19 3,
 X.o 20 (.idxAddr 1 (X.s 18) (X.s 19)),
 X.o 21 (.load1 (X.s 20)),
 X.m 22 0,
 X.m 23 2,
 X.o 24 (.idxAddr 1 (X.s 22) (X.s 23)),
 X.o 25 (.load1 (X.s 24)),
 X.o 26 (.idxAddr 1 (X.s 14) (X.s 15)),
 X.n (.store1 (X.s 26) (X.s 21)),
 X.o 27 (.idxAddr 1 (X.s 16) (X.s 17)),
 X.n (.store1 (X.s 27) (X.s 25))]
def C.q75_r3 : List IOper := C.q75_r3_b
def C.q75_r3_w := @aopsE _ _ C.q75_r3.eq_1
def C.q75_b2 : ICode := .region C.q75_r3
def C.q75_b2_w := @awpE _ _ C.q75_b2.eq_1
def C.q75_c3 : ICode := .keep [0, 2, 3] (.seq (.block 1 C.q75_b2) C.q75_c1)
def C.q75_c3_w := @awpE _ _ C.q75_c3.eq_1
def C.q75_c4 : ICode := .keep [0, 2, 3, 9] (.cond (X.s 9) .skip (.exit 0))
def C.q75_c4_w := @awpE _ _ C.q75_c4.eq_1
def C.q75_r1_b : List IOper := [
 X.m 7 2,
 X.m 8 3,
 X.o 9 (.bin .lss (X.s 7) (X.s 8))]
def C.q75_r1 : List IOper := C.q75_r1_b
def C.q75_r1_w := @aopsE _ _ C.q75_r1.eq_1
def C.q75_l5 : ICode := .keep [0, 2, 3] (.seq (.seq (.region C.q75_r1) C.q75_c4) C.q75_c3)
def C.q75_l5_w := @awpE _ _ C.q75_l5.eq_1
def C.q75_b6 : ICode := .loop C.q75_l5
def C.q75_b6_w := @awpE _ _ C.q75_b6.eq_1
def C.q75_c7 : ICode := .keep [0, 2, 3] (.block 0 C.q75_b6)
def C.q75_c7_w := @awpE _ _ C.q75_c7.eq_1
def C.q75_r0_b : List IOper := [
 X.m 4 0,
 X.o 5 (.len (X.s 4)),
 X.o 6 (.bin .sub (X.s 5) (X.i 1)),
 X.o 2 (.move (X.i 0)),
 X.m 3 6]
def C.q75_r0 : List IOper := C.q75_r0_b
def C.q75_r0_w := @aopsE _ _ C.q75_r0.eq_1
def C.q75 : IFunc := ⟨1, [], .seq (.region C.q75_r0) C.q75_c7⟩
def C.q75_W := And.intro (And.intro (And.intro @C.q75_r2_w @C.q75_c1_w) (And.intro @C.q75_r3_w (And.intro @C.q75_b2_w @C.q75_c3_w))) (And.intro (And.intro @C.q75_c4_w @C.q75_r1_w) (And.intro @C.q75_b6_w (And.intro @C.q75_c7_w @C.q75_r0_w)))
def C.q75_B := And.intro (And.intro @C.q75_r2_b.eq_1 @C.q75_r3_b.eq_1) (And.intro @C.q75_r1_b.eq_1 @C.q75_r0_b.eq_1)

def C.q74_r1_b : List IOper := [
 X.m 3 0,
 X.o 4 (.bin .geq (X.s 3) (X.i 1)),
 X.m 5 4,
 X.t 5 6 (.move (X.s 0)),
 X.t 5 7 (.bin .leq (X.s 6) (X.i 1000)),
 X.o 8 (.pick (X.s 5) (X.s 7) (.cst (.bool false))),
 X.m 2 8]
def C.q74_r1 : List IOper := C.q74_r1_b
def C.q74_r1_w := @aopsE _ _ C.q74_r1.eq_1
def C.q74_c1 : ICode := .keep [0] (.seq (.region C.q74_r1) .ret)
def C.q74_c1_w := @awpE _ _ C.q74_c1.eq_1
def C.q74_r0_b : List IOper := [
 X.o 2 (.move (.cst (.bool false)))]
def C.q74_r0 : List IOper := C.q74_r0_b
def C.q74_r0_w := @aopsE _ _ C.q74_r0.eq_1
def C.q74 : IFunc := ⟨1, [.slot 2], .seq (.region C.q74_r0) C.q74_c1⟩
def C.q74_W := And.intro @C.q74_r1_w (And.intro @C.q74_c1_w @C.q74_r0_w)
def C.q74_B := And.intro @C.q74_r1_b.eq_1 @C.q74_r0_b.eq_1

def C.q57_r1_b : List IOper := [
 X.m 3 0,
 X.o 4 (.append 6 64 (.cst (.nils)) (X.s 3)),
 X.m 2 4]
def C.q57_r1 : List IOper := C.q57_r1_b
def C.q57_r1_w := @aopsE _ _ C.q57_r1.eq_1
def C.q57_c1 : ICode := .keep [0] (.seq (.region C.q57_r1) .ret)
def C.q57_c1_w := @awpE _ _ C.q57_c1.eq_1
def C.q57_r0_b : List IOper := [
 X.o 2 (.move (.cst (.nils)))]
def C.q57_r0 : List IOper := C.q57_r0_b
def C.q57_r0_w := @aopsE _ _ C.q57_r0.eq_1
def C.q57 : IFunc := ⟨1, [.slot 2], .seq (.region C.q57_r0) C.q57_c1⟩
def C.q57_W := And.intro @C.q57_r1_w (And.intro @C.q57_c1_w @C.q57_r0_w)
def C.q57_B := And.intro @C.q57_r1_b.eq_1 @C.q57_r0_b.eq_1

def C.q59_r1_b : List IOper := [
 X.m 3 0,
 X.o 4 (.append 3 24 (.cst (.nils)) (X.s 3)),
 X.m 2 4]
def C.q59_r1 : List IOper := C.q59_r1_b
def C.q59_r1_w := @aopsE _ _ C.q59_r1.eq_1
def C.q59_c1 : ICode := .keep [0] (.seq (.region C.q59_r1) .ret)
def C.q59_c1_w := @awpE _ _ C.q59_c1.eq_1
def C.q59_r0_b : List IOper := [
 X.o 2 (.move (.cst (.nils)))]
def C.q59_r0 : List IOper := C.q59_r0_b
def C.q59_r0_w := @aopsE _ _ C.q59_r0.eq_1
def C.q59 : IFunc := ⟨1, [.slot 2], .seq (.region C.q59_r0) C.q59_c1⟩
def C.q59_W := And.intro @C.q59_r1_w (And.intro @C.q59_c1_w @C.q59_r0_w)
def C.q59_B := And.intro @C.q59_r1_b.eq_1 @C.q59_r0_b.eq_1

def C.q61_r1_b : List IOper := [
 X.m 3 0,
 X.o 4 (.append 1 8 (.cst (.nils)) (X.s 3)),
 X.m 2 4]
def C.q61_r1 : List IOper := C.q61_r1_b
def C.q61_r1_w := @aopsE _ _ C.q61_r1.eq_1
def C.q61_c1 : ICode := .keep [0] (.seq (.region C.q61_r1) .ret)
def C.q61_c1_w := @awpE _ _ C.q61_c1.eq_1
def C.q61_r0_b : List IOper := [
 X.o 2 (.move (.cst (.nils)))]
def C.q61_r0 : List IOper := C.q61_r0_b
def C.q61_r0_w := @aopsE _ _ C.q61_r0.eq_1
def C.q61 : IFunc := ⟨1, [.slot 2], .seq (.region C.q61_r0) C.q61_c1⟩
def C.q61_W := And.intro @C.q61_r1_w (And.intro @C.q61_c1_w @C.q61_r0_w)
def C.q61_B := And.intro @C.q61_r1_b.eq_1 @C.q61_r0_b.eq_1

def C.q58_r1_b : List IOper := [
 X.m 3 0,
 X.o 4 (.append 6 80 (.cst (.nils)) (X.s 3)),
 X.m 2 4]
def C.q58_r1 : List IOper := C.q58_r1_b
def C.q58_r1_w := @aopsE _ _ C.q58_r1.eq_1
def C.q58_c1 : ICode := .keep [0] (.seq (.region C.q58_r1) .ret)
def C.q58_c1_w := @awpE _ _ C.q58_c1.eq_1
def C.q58_r0_b : List IOper := [
 X.o 2 (.move (.cst (.nils)))]
def C.q58_r0 : List IOper := C.q58_r0_b
def C.q58_r0_w := @aopsE _ _ C.q58_r0.eq_1
def C.q58 : IFunc := ⟨1, [.slot 2], .seq (.region C.q58_r0) C.q58_c1⟩
def C.q58_W := And.intro @C.q58_r1_w (And.intro @C.q58_c1_w @C.q58_r0_w)
def C.q58_B := And.intro @C.q58_r1_b.eq_1 @C.q58_r0_b.eq_1

def C.q62_r1_b : List IOper := [
 X.m 3 0,
 X.o 4 (.append 1 8 (.cst (.nils)) (X.s 3)),
 X.m 2 4]
def C.q62_r1 : List IOper := C.q62_r1_b
def C.q62_r1_w := @aopsE _ _ C.q62_r1.eq_1
def C.q62_c1 : ICode := .keep [0] (.seq (.region C.q62_r1) .ret)
def C.q62_c1_w := @awpE _ _ C.q62_c1.eq_1
def C.q62_r0_b : List IOper := [
 X.o 2 (.move (.cst (.nils)))]
def C.q62_r0 : List IOper := C.q62_r0_b
def C.q62_r0_w := @aopsE _ _ C.q62_r0.eq_1
def C.q62 : IFunc := ⟨1, [.slot 2], .seq (.region C.q62_r0) C.q62_c1⟩
def C.q62_W := And.intro @C.q62_r1_w (And.intro @C.q62_c1_w @C.q62_r0_w)
def C.q62_B := And.intro @C.q62_r1_b.eq_1 @C.q62_r0_b.eq_1

def C.q60_r1_b : List IOper := [
 X.m 3 0,
 X.o 4 (.append 2 8 (.cst (.nils)) (X.s 3)),
 X.m 2 4]
def C.q60_r1 : List IOper := C.q60_r1_b
def C.q60_r1_w := @aopsE _ _ C.q60_r1.eq_1
def C.q60_c1 : ICode := .keep [0] (.seq (.region C.q60_r1) .ret)
def C.q60_c1_w := @awpE _ _ C.q60_c1.eq_1
def C.q60_r0_b : List IOper := [
 X.o 2 (.move (.cst (.nils)))]
def C.q60_r0 : List IOper := C.q60_r0_b
def C.q60_r0_w := @aopsE _ _ C.q60_r0.eq_1
def C.q60 : IFunc := ⟨1, [.slot 2], .seq (.region C.q60_r0) C.q60_c1⟩
def C.q60_W := And.intro @C.q60_r1_w (And.intro @C.q60_c1_w @C.q60_r0_w)
def C.q60_B := And.intro @C.q60_r1_b.eq_1 @C.q60_r0_b.eq_1

def C.q55_r1_b : List IOper := [
 X.o 3 (.fldAddr 4 (X.s 1)),
 X.o 4 (.load1 (X.s 3)),
 X.o 5 (.len (X.s 4)),
 X.o 6 (.bin .gtr (X.s 5) (X.i 8)),
 X.m 7 6,
 X.f 7 8 (.fldAddr 5 (X.s 1)),
 X.f 7 9 (.load1 (X.s 8)),
 X.f 7 10 (.len (X.s 9)),
 X.f 7 11 (.bin .gtr (X.s 10) (X.i 6)),
 X.o 12 (.pick (X.s 7) (.cst (.bool true)) (X.s 11)),
 X.o 13 (.call F.q65 [X.s 12, X.i 8]),
 X.m 2 13]
def C.q55_r1 : List IOper := C.q55_r1_b
def C.q55_r1_w := @aopsE _ _ C.q55_r1.eq_1
def C.q55_c1 : ICode := .keep [1] (.seq (.region C.q55_r1) .ret)
def C.q55_c1_w := @awpE _ _ C.q55_c1.eq_1
def C.q55_r0_b : List IOper := [
 X.o 1 (.boxN (X.s 0)),
 X.o 2 (.move (X.i 0))]
def C.q55_r0 : List IOper := C.q55_r0_b
def C.q55_r0_w := @aopsE _ _ C.q55_r0.eq_1
def C.q55 : IFunc := ⟨1, [.slot 2], .seq (.region C.q55_r0) C.q55_c1⟩
def C.q55_W := And.intro @C.q55_r1_w (And.intro @C.q55_c1_w @C.q55_r0_w)
def C.q55_B := And.intro @C.q55_r1_b.eq_1 @C.q55_r0_b.eq_1

def C.q65_r3_b : List IOper := [
 X.o 4 (.move (X.i 0))]
def C.q65_r3 : List IOper := C.q65_r3_b
def C.q65_r3_w := @aopsE _ _ C.q65_r3.eq_1
def C.q65_c1 : ICode := .keep [] (.seq (.region C.q65_r3) .ret)
def C.q65_c1_w := @awpE _ _ C.q65_c1.eq_1
def C.q65_r2_b : List IOper := [
 X.m 6 1,
 X.m 4 6]
def C.q65_r2 : List IOper := C.q65_r2_b
def C.q65_r2_w := @aopsE _ _ C.q65_r2.eq_1
def C.q65_c2 : ICode := .seq (.region C.q65_r2) .ret
def C.q65_c2_w := @awpE _ _ C.q65_c2.eq_1
def C.q65_c3 : ICode := .keep [1, 5] (.cond (X.s 5) C.q65_c2 .skip)
def C.q65_c3_w := @awpE _ _ C.q65_c3.eq_1
def C.q65_r1_b : List IOper := [
 X.m 5 0]
def C.q65_r1 : List IOper := C.q65_r1_b
def C.q65_r1_w := @aopsE _ _ C.q65_r1.eq_1
def C.q65_c4 : ICode := .keep [0, 1] (.seq (.seq (.region C.q65_r1) C.q65_c3) C.q65_c1)
def C.q65_c4_w := @awpE _ _ C.q65_c4.eq_1
def C.q65_r0_b : List IOper := [
 X.o 4 (.move (X.i 0))]
def C.q65_r0 : List IOper := C.q65_r0_b
def C.q65_r0_w := @aopsE _ _ C.q65_r0.eq_1
def C.q65 : IFunc := ⟨2, [.slot 4], .seq (.region C.q65_r0) C.q65_c4⟩
def C.q65_W := And.intro (And.intro (And.intro @C.q65_r3_w @C.q65_c1_w) (And.intro @C.q65_r2_w @C.q65_c2_w)) (And.intro (And.intro @C.q65_c3_w @C.q65_r1_w) (And.intro @C.q65_c4_w @C.q65_r0_w))
def C.q65_B := And.intro (And.intro @C.q65_r3_b.eq_1 @C.q65_r2_b.eq_1) (And.intro @C.q65_r1_b.eq_1 @C.q65_r0_b.eq_1)

def C.q34_r1_b : List IOper := [
 X.o 2 (.loadN 6 (X.s 0)),
 X.o 3 (.call F.q64 [X.s 2]),
 X.o 4 (.un .not (X.s 3)),
 X.o 5 (.call F.q65 [X.s 4, X.i 1]),
 X.m 1 5]
def C.q34_r1 : List IOper := C.q34_r1_b
def C.q34_r1_w := @aopsE _ _ C.q34_r1.eq_1
def C.q34_c1 : ICode := .keep [0] (.seq (.region C.q34_r1) .ret)
def C.q34_c1_w := @awpE _ _ C.q34_c1.eq_1
def C.q34_r0_b : List IOper := [
 X.o 1 (.move (X.i 0))]
def C.q34_r0 : List IOper := C.q34_r0_b
def C.q34_r0_w := @aopsE _ _ C.q34_r0.eq_1
def C.q34 : IFunc := ⟨1, [.slot 1], .seq (.region C.q34_r0) C.q34_c1⟩
def C.q34_W := And.intro @C.q34_r1_w (And.intro @C.q34_c1_w @C.q34_r0_w)
def C.q34_B := And.intro @C.q34_r1_b.eq_1 @C.q34_r0_b.eq_1

def C.q64_r10_b : List IOper := [
 X.o 2 (.move (.cst (.bool false)))]
def C.q64_r10 : List IOper := C.q64_r10_b
def C.q64_r10_w := @aopsE _ _ C.q64_r10.eq_1
def C.q64_c1 : ICode := .keep [] (.seq (.region C.q64_r10) .ret)
def C.q64_c1_w := @awpE _ _ C.q64_c1.eq_1
def C.q64_r3_b : List IOper := [
 X.o 7 (.fldAddr 1 (X.s 1)),
 X.o 8 (.load1 (X.s 7)),
 X.o 9 (.len (X.s 8)),
 X.o 10 (.bin .eql (X.s 9) (X.i 0)),
 X.m 2 10]
def C.q64_r3 : List IOper := C.q64_r3_b
def C.q64_r3_w := @aopsE _ _ C.q64_r3.eq_1
def C.q64_r7_b : List IOper := [
 X.o 15 (.fldAddr 1 (X.s 1)),
 X.o 16 (.load1 (X.s 15)),
 X.o 17 (.len (X.s 16)),
 X.o 18 (.bin .eql (X.s 17) (X.i 1)),
 X.m 2 18]
def C.q64_r7 : List IOper := C.q64_r7_b
def C.q64_r7_w := @aopsE _ _ C.q64_r7.eq_1
def C.q64_r9_b : List IOper := [
 X.o 21 (.fldAddr 1 (X.s 1)),
 X.o 22 (.load1 (X.s 21)),
 X.o 23 (.len (X.s 22)),
 X.o 24 (.call F.q66 [X.s 23, X.i 1, X.i 4]),
 X.m 2 24]
def C.q64_r9 : List IOper := C.q64_r9_b
def C.q64_r9_w := @aopsE _ _ C.q64_r9.eq_1
def C.q64_c2 : ICode := .seq (.region C.q64_r9) .ret
def C.q64_c2_w := @awpE _ _ C.q64_c2.eq_1
def C.q64_c3 : ICode := .keep [1, 19] (.cond (X.s 19) C.q64_c2 .skip)
def C.q64_c3_w := @awpE _ _ C.q64_c3.eq_1
def C.q64_r8_b : List IOper := [
 X.o 20 (.bin .eql (X.s 4) (.cst (.int .u8 109))),
 X.m 19 20]
def C.q64_r8 : List IOper := C.q64_r8_b
def C.q64_r8_w := @aopsE _ _ C.q64_r8.eq_1
def C.q64_c4 : ICode := .seq (.region C.q64_r7) .ret
def C.q64_c4_w := @awpE _ _ C.q64_c4.eq_1
def C.q64_c5 : ICode := .seq (.region C.q64_r8) C.q64_c3
def C.q64_c5_w := @awpE _ _ C.q64_c5.eq_1
def C.q64_c6 : ICode := .keep [1, 4, 11] (.cond (X.s 11) C.q64_c4 C.q64_c5)
def C.q64_c6_w := @awpE _ _ C.q64_c6.eq_1
def C.q64_r6_b : List IOper := [
 X.o 14 (.bin .eql (X.s 4) (.cst (.int .u8 103))),
 X.m 11 14]
def C.q64_r6 : List IOper := C.q64_r6_b
def C.q64_r6_w := @aopsE _ _ C.q64_r6.eq_1
def C.q64_c7 : ICode := .keep [1, 4, 11] (.cond (X.s 11) .skip (.region C.q64_r6))
def C.q64_c7_w := @awpE _ _ C.q64_c7.eq_1
def C.q64_r5_b : List IOper := [
 X.o 13 (.bin .eql (X.s 4) (.cst (.int .u8 100))),
 X.m 11 13]
def C.q64_r5 : List IOper := C.q64_r5_b
def C.q64_r5_w := @aopsE _ _ C.q64_r5.eq_1
def C.q64_c8 : ICode := .seq (.region C.q64_r5) C.q64_c7
def C.q64_c8_w := @awpE _ _ C.q64_c8.eq_1
def C.q64_c9 : ICode := .keep [1, 4, 11] (.cond (X.s 11) .skip C.q64_c8)
def C.q64_c9_w := @awpE _ _ C.q64_c9.eq_1
def C.q64_r4_b : List IOper := [
 X.o 12 (.bin .eql (X.s 4) (.cst (.int .u8 112))),
 X.m 11 12]
def C.q64_r4 : List IOper := C.q64_r4_b
def C.q64_r4_w := @aopsE _ _ C.q64_r4.eq_1
def C.q64_c10 : ICode := .seq (.region C.q64_r3) .ret
def C.q64_c10_w := @awpE _ _ C.q64_c10.eq_1
def C.q64_c11 : ICode := .seq (.seq (.region C.q64_r4) C.q64_c9) C.q64_c6
def C.q64_c11_w := @awpE _ _ C.q64_c11.eq_1
def C.q64_c12 : ICode := .keep [1, 4, 5] (.cond (X.s 5) C.q64_c10 C.q64_c11)
def C.q64_c12_w := @awpE _ _ C.q64_c12.eq_1
def C.q64_r2_b : List IOper := [
 X.o 6 (.bin .eql (X.s 4) (.cst (.int .u8 111))),
 X.m 5 6]
def C.q64_r2 : List IOper := C.q64_r2_b
def C.q64_r2_w := @aopsE _ _ C.q64_r2.eq_1
def C.q64_b13 : ICode := .seq (.region C.q64_r2) C.q64_c12
def C.q64_b13_w := @awpE _ _ C.q64_b13.eq_1
def C.q64_c14 : ICode := .keep [1, 4] (.block 0 C.q64_b13)
def C.q64_c14_w := @awpE _ _ C.q64_c14.eq_1
def C.q64_r1_b : List IOper := [
 X.o 3 (.fldAddr 0 (X.s 1)),
 X.o 4 (.load1 (X.s 3))]
def C.q64_r1 : List IOper := C.q64_r1_b
def C.q64_r1_w := @aopsE _ _ C.q64_r1.eq_1
def C.q64_c15 : ICode := .keep [1] (.seq (.seq (.region C.q64_r1) C.q64_c14) C.q64_c1)
def C.q64_c15_w := @awpE _ _ C.q64_c15.eq_1
def C.q64_r0_b : List IOper := [
 X.o 1 (.boxN (X.s 0)),
 X.o 2 (.move (.cst (.bool false)))]
def C.q64_r0 : List IOper := C.q64_r0_b
def C.q64_r0_w := @aopsE _ _ C.q64_r0.eq_1
def C.q64 : IFunc := ⟨1, [.slot 2], .seq (.region C.q64_r0) C.q64_c15⟩
def C.q64_W := And.intro (And.intro (And.intro (And.intro @C.q64_r10_w (And.intro @C.q64_c1_w @C.q64_r3_w)) (And.intro @C.q64_r7_w (And.intro @C.q64_r9_w @C.q64_c2_w))) (And.intro (And.intro @C.q64_c3_w (And.intro @C.q64_r8_w @C.q64_c4_w)) (And.intro (And.intro @C.q64_c5_w @C.q64_c6_w) (And.intro @C.q64_r6_w @C.q64_c7_w)))) (And.intro (And.intro (And.intro @C.q64_r5_w (And.intro @C.q64_c8_w @C.q64_c9_w)) (And.intro @C.q64_r4_w (And.intro @C.q64_c10_w @C.q64_c11_w))) (And.intro (And.intro @C.q64_c12_w (And.intro @C.q64_r2_w @C.q64_b13_w)) (And.intro (And.intro @C.q64_c14_w @C.q64_r1_w) (And.intro @C.q64_c15_w @C.q64_r0_w))))
def C.q64_B := And.intro (And.intro (And.intro @C.q64_r10_b.eq_1 @C.q64_r3_b.eq_1) (And.intro @C.q64_r7_b.eq_1 (And.intro @C.q64_r9_b.eq_1 @C.q64_r8_b.eq_1))) (And.intro (And.intro @C.q64_r6_b.eq_1 (And.intro @C.q64_r5_b.eq_1 @C.q64_r4_b.eq_1)) (And.intro @C.q64_r2_b.eq_1 (And.intro @C.q64_r1_b.eq_1 @C.q64_r0_b.eq_1)))

def C.q35_r1_b : List IOper := [
 X.o 3 (.fldAddr 1 (X.s 0)),
 X.o 4 (.load1 (X.s 3)),
 X.o 5 (.makeFunc F.q36 [X.s 1]),
 X.o 6 (.call F.q52 [X.s 4, X.s 5]),
 X.m 2 6]
def C.q35_r1 : List IOper := C.q35_r1_b
def C.q35_r1_w := @aopsE _ _ C.q35_r1.eq_1
def C.q35_c1 : ICode := .keep [0, 1] (.seq (.region C.q35_r1) .ret)
def C.q35_c1_w := @awpE _ _ C.q35_c1.eq_1
def C.q35_r0_b : List IOper := [
 X.o 2 (.move (X.i 0))]
def C.q35_r0 : List IOper := C.q35_r0_b
def C.q35_r0_w := @aopsE _ _ C.q35_r0.eq_1
def C.q35 : IFunc := ⟨2, [.slot 2], .seq (.region C.q35_r0) C.q35_c1⟩
def C.q35_W := And.intro @C.q35_r1_w (And.intro @C.q35_c1_w @C.q35_r0_w)
def C.q35_B := And.intro @C.q35_r1_b.eq_1 @C.q35_r0_b.eq_1

def C.q52_r8_b : List IOper := [
 X.o 4 (.move (X.i 0))]
def C.q52_r8 : List IOper := C.q52_r8_b
def C.q52_r8_w := @aopsE _ _ C.q52_r8.eq_1
def C.q52_c1 : ICode := .keep [] (.seq (.region C.q52_r8) .ret)
def C.q52_c1_w := @awpE _ _ C.q52_c1.eq_1
def C.q52_r7_b : List IOper := [
 X.o 20 (.bin .add (X.s 10) (X.i 1)),
 X.m 10 20]
def C.q52_r7 : List IOper := C.q52_r7_b
def C.q52_r7_w := @aopsE _ _ C.q52_r7.eq_1
def C.q52_c2 : ICode := .keep [1, 8, 9, 10] (.region C.q52_r7)
def C.q52_c2_w := @awpE _ _ C.q52_c2.eq_1
def C.q52_r6_b : List IOper := [
 X.m 19 7,
 X.m 4 19]
def C.q52_r6 : List IOper := C.q52_r6_b
def C.q52_r6_w := @aopsE _ _ C.q52_r6.eq_1
def C.q52_c3 : ICode := .seq (.region C.q52_r6) .ret
def C.q52_c3_w := @awpE _ _ C.q52_c3.eq_1
def C.q52_c4 : ICode := .keep [1, 7, 8, 9, 10, 18] (.cond (X.s 18) C.q52_c3 .skip)
def C.q52_c4_w := @awpE _ _ C.q52_c4.eq_1
def C.q52_r5_b : List IOper := [
 X.m 17 7,
 X.o 18 (.bin .neq (X.s 17) (X.i 0))]
def C.q52_r5 : List IOper := C.q52_r5_b
def C.q52_r5_w := @aopsE _ _ C.q52_r5.eq_1
def C.q52_c5 : ICode := .keep [1, 7, 8, 9, 10] (.seq (.region C.q52_r5) C.q52_c4)
def C.q52_c5_w := @awpE _ _ C.q52_c5.eq_1
def C.q52_r4_b : List IOper := [
 X.m 14 1,
 X.m 15 6,
 X.o 16 (.callv (X.s 14) [X.s 15]),
 X.m 7 16]
def C.q52_r4 : List IOper := C.q52_r4_b
def C.q52_r4_w := @aopsE _ _ C.q52_r4.eq_1
def C.q52_c6 : ICode := .keep [1, 6, 8, 9, 10] (.seq (.region C.q52_r4) C.q52_c5)
def C.q52_c6_w := @awpE _ _ C.q52_c6.eq_1
def C.q52_r3_b : List IOper := [
 X.o 12 (.idxAddr 1 (X.s 8) (X.s 10)),
 X.o 13 (.load1 (X.s 12)),
 X.m 6 13]
def C.q52_r3 : List IOper := C.q52_r3_b
def C.q52_r3_w := @aopsE _ _ C.q52_r3.eq_1
def C.q52_b7 : ICode := .seq (.region C.q52_r3) C.q52_c6
def C.q52_b7_w := @awpE _ _ C.q52_b7.eq_1
def C.q52_c8 : ICode := .keep [1, 8, 9, 10] (.seq (.block 1 C.q52_b7) C.q52_c2)
def C.q52_c8_w := @awpE _ _ C.q52_c8.eq_1
def C.q52_c9 : ICode := .keep [1, 8, 9, 10, 11] (.seq (.cond (X.s 11) .skip (.exit 0)) C.q52_c8)
def C.q52_c9_w := @awpE _ _ C.q52_c9.eq_1
def C.q52_r2_b : List IOper := [
 X.o 11 (.bin .lss (X.s 10) (X.s 9))]
def C.q52_r2 : List IOper := C.q52_r2_b
def C.q52_r2_w := @aopsE _ _ C.q52_r2.eq_1
def C.q52_l10 : ICode := .keep [1, 8, 9, 10] (.seq (.region C.q52_r2) C.q52_c9)
def C.q52_l10_w := @awpE _ _ C.q52_l10.eq_1
def C.q52_b11 : ICode := .loop C.q52_l10
def C.q52_b11_w := @awpE _ _ C.q52_b11.eq_1
def C.q52_c12 : ICode := .keep [1, 8, 9, 10] (.block 0 C.q52_b11)
def C.q52_c12_w := @awpE _ _ C.q52_c12.eq_1
def C.q52_r1_b : List IOper := [
 X.m 8 0,
 X.o 9 (.len (X.s 8)),
 X.o 10 (.move (X.i 0))]
def C.q52_r1 : List IOper := C.q52_r1_b
def C.q52_r1_w := @aopsE _ _ C.q52_r1.eq_1
def C.q52_c13 : ICode := .keep [0, 1] (.seq (.seq (.region C.q52_r1) C.q52_c12) C.q52_c1)
def C.q52_c13_w := @awpE _ _ C.q52_c13.eq_1
def C.q52_r0_b : List IOper := [
 X.o 4 (.move (X.i 0))]
def C.q52_r0 : List IOper := C.q52_r0_b
def C.q52_r0_w := @aopsE _ _ C.q52_r0.eq_1
def C.q52 : IFunc := ⟨2, [.slot 4], .seq (.region C.q52_r0) C.q52_c13⟩
def C.q52_W := And.intro (And.intro (And.intro (And.intro @C.q52_r8_w @C.q52_c1_w) (And.intro @C.q52_r7_w (And.intro @C.q52_c2_w @C.q52_r6_w))) (And.intro (And.intro @C.q52_c3_w @C.q52_c4_w) (And.intro @C.q52_r5_w (And.intro @C.q52_c5_w @C.q52_r4_w)))) (And.intro (And.intro (And.intro @C.q52_c6_w @C.q52_r3_w) (And.intro @C.q52_b7_w (And.intro @C.q52_c8_w @C.q52_c9_w))) (And.intro (And.intro @C.q52_r2_w (And.intro @C.q52_b11_w @C.q52_c12_w)) (And.intro @C.q52_r1_w (And.intro @C.q52_c13_w @C.q52_r0_w))))
def C.q52_B := And.intro (And.intro (And.intro @C.q52_r8_b.eq_1 @C.q52_r7_b.eq_1) (And.intro @C.q52_r6_b.eq_1 @C.q52_r5_b.eq_1)) (And.intro (And.intro @C.q52_r4_b.eq_1 @C.q52_r3_b.eq_1) (And.intro @C.q52_r2_b.eq_1 (And.intro @C.q52_r1_b.eq_1 @C.q52_r0_b.eq_1)))

def C.q36_r1_b : List IOper := [
 X.m 4 0,
 X.o 5 (.fldAddr 0 (X.s 1)),
 X.o 6 (.load1 (X.s 5)),
 X.o 7 (.len (X.s 6)),
 X.o 8 (.bin .sub (X.s 7) (X.i 1)),
 X.o 9 (.call F.q66 [X.s 4, X.i 0, X.s 8]),
 X.o 10 (.un .not (X.s 9)),
 X.o 11 (.call F.q65 [X.s 10, X.i 4]),
 X.m 3 11]
def C.q36_r1 : List IOper := C.q36_r1_b
def C.q36_r1_w := @aopsE _ _ C.q36_r1.eq_1
def C.q36_c1 : ICode := .keep [0, 1] (.seq (.region C.q36_r1) .ret)
def C.q36_c1_w := @awpE _ _ C.q36_c1.eq_1
def C.q36_r0_b : List IOper := [
 X.o 3 (.move (X.i 0))]
def C.q36_r0 : List IOper := C.q36_r0_b
def C.q36_r0_w := @aopsE _ _ C.q36_r0.eq_1
def C.q36 : IFunc := ⟨2, [.slot 3], .seq (.region C.q36_r0) C.q36_c1⟩
def C.q36_W := And.intro @C.q36_r1_w (And.intro @C.q36_c1_w @C.q36_r0_w)
def C.q36_B := And.intro @C.q36_r1_b.eq_1 @C.q36_r0_b.eq_1

def C.q66_r1_b : List IOper := [
 X.m 7 0,
 X.m 8 1,
 X.o 9 (.bin .geq (X.s 7) (X.s 8)),
 X.m 10 9,
 X.t 10 11 (.move (X.s 0)),
 X.t 10 12 (.move (X.s 2)),
 X.t 10 13 (.bin .leq (X.s 11) (X.s 12)),
 X.o 14 (.pick (X.s 10) (X.s 13) (.cst (.bool false))),
 X.m 6 14]
def C.q66_r1 : List IOper := C.q66_r1_b
def C.q66_r1_w := @aopsE _ _ C.q66_r1.eq_1
def C.q66_c1 : ICode := .keep [0, 1, 2] (.seq (.region C.q66_r1) .ret)
def C.q66_c1_w := @awpE _ _ C.q66_c1.eq_1
def C.q66_r0_b : List IOper := [
 X.o 6 (.move (.cst (.bool false)))]
def C.q66_r0 : List IOper := C.q66_r0_b
def C.q66_r0_w := @aopsE _ _ C.q66_r0.eq_1
def C.q66 : IFunc := ⟨3, [.slot 6], .seq (.region C.q66_r0) C.q66_c1⟩
def C.q66_W := And.intro @C.q66_r1_w (And.intro @C.q66_c1_w @C.q66_r0_w)
def C.q66_B := And.intro @C.q66_r1_b.eq_1 @C.q66_r0_b.eq_1

def C.q37_r1_b : List IOper := [
 X.o 2 (.loadN 6 (X.s 0)),
 X.o 3 (.call F.q56 [X.s 2]),
 X.o 4 (.un .not (X.s 3)),
 X.o 5 (.call F.q65 [X.s 4, X.i 3]),
 X.m 1 5]
def C.q37_r1 : List IOper := C.q37_r1_b
def C.q37_r1_w := @aopsE _ _ C.q37_r1.eq_1
def C.q37_c1 : ICode := .keep [0] (.seq (.region C.q37_r1) .ret)
def C.q37_c1_w := @awpE _ _ C.q37_c1.eq_1
def C.q37_r0_b : List IOper := [
 X.o 1 (.move (X.i 0))]
def C.q37_r0 : List IOper := C.q37_r0_b
def C.q37_r0_w := @aopsE _ _ C.q37_r0.eq_1
def C.q37 : IFunc := ⟨1, [.slot 1], .seq (.region C.q37_r0) C.q37_c1⟩
def C.q37_W := And.intro @C.q37_r1_w (And.intro @C.q37_c1_w @C.q37_r0_w)
def C.q37_B := And.intro @C.q37_r1_b.eq_1 @C.q37_r0_b.eq_1

def C.q56_r8_b : List IOper := [
 X.o 2 (.move (.cst (.bool true)))]
def C.q56_r8 : List IOper := C.q56_r8_b
def C.q56_r8_w := @aopsE _ _ C.q56_r8.eq_1
def C.q56_c1 : ICode := .keep [] (.seq (.region C.q56_r8) .ret)
def C.q56_c1_w := @awpE _ _ C.q56_c1.eq_1
def C.q56_r3_b : List IOper := [
 X.o 7 (.fldAddr 2 (X.s 1)),
 X.o 8 (.load1 (X.s 7)),
 X.o 9 (.bin .geq (X.s 8) (.cst (.int .u64 1))),
 X.m 10 9,
 X.t 10 11 (.fldAddr 2 (X.s 1)),
 X.t 10 12 (.load1 (X.s 11)),
 X.t 10 13 (.bin .leq (X.s 12) (.cst (.int .u64 1099511627776))),
 X.o 14 (.pick (X.s 10) (X.s 13) (.cst (.bool false))),
 X.m 2 14]
def C.q56_r3 : List IOper := C.q56_r3_b
def C.q56_r3_w := @aopsE _ _ C.q56_r3.eq_1
def C.q56_r5_b : List IOper := [
 X.o 17 (.fldAddr 3 (X.s 1)),
 X.o 18 (.load1 (X.s 17)),
 X.o 19 (.call F.q66 [X.s 18, X.i 1, X.i 1000]),
 X.m 20 19,
 X.t 20 21 (.fldAddr 4 (X.s 1)),
 X.t 20 22 (.load1 (X.s 21)),
 X.t 20 23 (.call F.q66 [X.s 22, X.i 1, X.i 1000]),
 X.o 24 (.pick (X.s 20) (X.s 23) (.cst (.bool false))),
 X.m 25 24,
 X.t 25 26 (.fldAddr 5 (X.s 1)),
 X.t 25 27 (.load1 (X.s 26)),
 X.t 25 28 (.call F.q66 [X.s 27, X.i 0, X.i 20]),
 X.o 29 (.pick (X.s 25) (X.s 28) (.cst (.bool false))),
 X.m 2 29]
def C.q56_r5 : List IOper := C.q56_r5_b
def C.q56_r5_w := @aopsE _ _ C.q56_r5.eq_1
def C.q56_r7_b : List IOper := [
 X.o 32 (.fldAddr 4 (X.s 1)),
 X.o 33 (.load1 (X.s 32)),
 X.o 34 (.call F.q66 [X.s 33, X.i 1, X.i 1000]),
 X.m 2 34]
def C.q56_r7 : List IOper := C.q56_r7_b
def C.q56_r7_w := @aopsE _ _ C.q56_r7.eq_1
def C.q56_c2 : ICode := .seq (.region C.q56_r7) .ret
def C.q56_c2_w := @awpE _ _ C.q56_c2.eq_1
def C.q56_c3 : ICode := .keep [1, 30] (.cond (X.s 30) C.q56_c2 .skip)
def C.q56_c3_w := @awpE _ _ C.q56_c3.eq_1
def C.q56_r6_b : List IOper := [
 X.o 31 (.bin .eql (X.s 4) (.cst (.int .u8 100))),
 X.m 30 31]
def C.q56_r6 : List IOper := C.q56_r6_b
def C.q56_r6_w := @aopsE _ _ C.q56_r6.eq_1
def C.q56_c4 : ICode := .seq (.region C.q56_r5) .ret
def C.q56_c4_w := @awpE _ _ C.q56_c4.eq_1
def C.q56_c5 : ICode := .seq (.region C.q56_r6) C.q56_c3
def C.q56_c5_w := @awpE _ _ C.q56_c5.eq_1
def C.q56_c6 : ICode := .keep [1, 4, 15] (.cond (X.s 15) C.q56_c4 C.q56_c5)
def C.q56_c6_w := @awpE _ _ C.q56_c6.eq_1
def C.q56_r4_b : List IOper := [
 X.o 16 (.bin .eql (X.s 4) (.cst (.int .u8 112))),
 X.m 15 16]
def C.q56_r4 : List IOper := C.q56_r4_b
def C.q56_r4_w := @aopsE _ _ C.q56_r4.eq_1
def C.q56_c7 : ICode := .seq (.region C.q56_r3) .ret
def C.q56_c7_w := @awpE _ _ C.q56_c7.eq_1
def C.q56_c8 : ICode := .seq (.region C.q56_r4) C.q56_c6
def C.q56_c8_w := @awpE _ _ C.q56_c8.eq_1
def C.q56_c9 : ICode := .keep [1, 4, 5] (.cond (X.s 5) C.q56_c7 C.q56_c8)
def C.q56_c9_w := @awpE _ _ C.q56_c9.eq_1
def C.q56_r2_b : List IOper := [
 X.o 6 (.bin .eql (X.s 4) (.cst (.int .u8 111))),
 X.m 5 6]
def C.q56_r2 : List IOper := C.q56_r2_b
def C.q56_r2_w := @aopsE _ _ C.q56_r2.eq_1
def C.q56_b10 : ICode := .seq (.region C.q56_r2) C.q56_c9
def C.q56_b10_w := @awpE _ _ C.q56_b10.eq_1
def C.q56_c11 : ICode := .keep [1, 4] (.block 0 C.q56_b10)
def C.q56_c11_w := @awpE _ _ C.q56_c11.eq_1
def C.q56_r1_b : List IOper := [
 X.o 3 (.fldAddr 0 (X.s 1)),
 X.o 4 (.load1 (X.s 3))]
def C.q56_r1 : List IOper := C.q56_r1_b
def C.q56_r1_w := @aopsE _ _ C.q56_r1.eq_1
def C.q56_c12 : ICode := .keep [1] (.seq (.seq (.region C.q56_r1) C.q56_c11) C.q56_c1)
def C.q56_c12_w := @awpE _ _ C.q56_c12.eq_1
def C.q56_r0_b : List IOper := [
 X.o 1 (.boxN (X.s 0)),
 X.o 2 (.move (.cst (.bool false)))]
def C.q56_r0 : List IOper := C.q56_r0_b
def C.q56_r0_w := @aopsE _ _ C.q56_r0.eq_1
def C.q56 : IFunc := ⟨1, [.slot 2], .seq (.region C.q56_r0) C.q56_c12⟩
def C.q56_W := And.intro (And.intro (And.intro (And.intro @C.q56_r8_w @C.q56_c1_w) (And.intro @C.q56_r3_w (And.intro @C.q56_r5_w @C.q56_r7_w))) (And.intro (And.intro @C.q56_c2_w @C.q56_c3_w) (And.intro @C.q56_r6_w (And.intro @C.q56_c4_w @C.q56_c5_w)))) (And.intro (And.intro (And.intro @C.q56_c6_w @C.q56_r4_w) (And.intro @C.q56_c7_w (And.intro @C.q56_c8_w @C.q56_c9_w))) (And.intro (And.intro @C.q56_r2_w (And.intro @C.q56_b10_w @C.q56_c11_w)) (And.intro @C.q56_r1_w (And.intro @C.q56_c12_w @C.q56_r0_w))))
def C.q56_B := And.intro (And.intro (And.intro @C.q56_r8_b.eq_1 @C.q56_r3_b.eq_1) (And.intro @C.q56_r5_b.eq_1 @C.q56_r7_b.eq_1)) (And.intro (And.intro @C.q56_r6_b.eq_1 @C.q56_r4_b.eq_1) (And.intro @C.q56_r2_b.eq_1 (And.intro @C.q56_r1_b.eq_1 @C.q56_r0_b.eq_1)))

def C.q67_r2_b : List IOper := [
 X.m 10 4,
 X.m 2 10]
def C.q67_r2 : List IOper := C.q67_r2_b
def C.q67_r2_w := @aopsE _ _ C.q67_r2.eq_1
def C.q67_c1 : ICode := .keep [4] (.seq (.region C.q67_r2) .ret)
def C.q67_c1_w := @awpE _ _ C.q67_c1.eq_1
def C.q67_r1_b : List IOper := [
 X.m 6 0,
 X.o 7 (.call F.q68 [X.s 6]),
 X.m 5 7,
 X.o 8 (.extract (X.s 5) 0),
 X.o 9 (.extract (X.s 5) 1),
 X.m 3 8,
 X.m 4 9]
def C.q67_r1 : List IOper := C.q67_r1_b
def C.q67_r1_w := @aopsE _ _ C.q67_r1.eq_1
def C.q67_c2 : ICode := .keep [0] (.seq (.region C.q67_r1) C.q67_c1)
def C.q67_c2_w := @awpE _ _ C.q67_c2.eq_1
def C.q67_r0_b : List IOper := [
 X.o 2 (.move (X.i 0))]
def C.q67_r0 : List IOper := C.q67_r0_b
def C.q67_r0_w := @aopsE _ _ C.q67_r0.eq_1
def C.q67 : IFunc := ⟨1, [.slot 2], .seq (.region C.q67_r0) C.q67_c2⟩
def C.q67_W := And.intro (And.intro @C.q67_r2_w @C.q67_c1_w) (And.intro @C.q67_r1_w (And.intro @C.q67_c2_w @C.q67_r0_w))
def C.q67_B := And.intro @C.q67_r2_b.eq_1 (And.intro @C.q67_r1_b.eq_1 @C.q67_r0_b.eq_1)

def C.q46_r1_b : List IOper := [
 X.o 3 (.fldAddr 0 (X.s 0)),
 X.o 4 (.load1 (X.s 3)),
 X.o 5 (.bin .neq (X.s 4) (X.i (-1))),
 X.m 6 5,
 X.t 6 7 (.fldAddr 0 (X.s 0)),
 X.t 6 8 (.load1 (X.s 7)),
 X.t 6 9 (.fldAddr 1 (X.s 1)),
 X.t 6 10 (.load1 (X.s 9)),
 X.t 6 11 (.len (X.s 10)),
 X.t 6 12 (.bin .sub (X.s 11) (X.i 1)),
 X.t 6 13 (.call F.q66 [X.s 8, X.i 0, X.s 12]),
 X.t 6 14 (.un .not (X.s 13)),
 X.o 15 (.pick (X.s 6) (X.s 14) (.cst (.bool false))),
 X.o 16 (.call F.q65 [X.s 15, X.i 4]),
 X.m 2 16]
def C.q46_r1 : List IOper := C.q46_r1_b
def C.q46_r1_w := @aopsE _ _ C.q46_r1.eq_1
def C.q46_c1 : ICode := .keep [0, 1] (.seq (.region C.q46_r1) .ret)
def C.q46_c1_w := @awpE _ _ C.q46_c1.eq_1
def C.q46_r0_b : List IOper := [
 X.o 2 (.move (X.i 0))]
def C.q46_r0 : List IOper := C.q46_r0_b
def C.q46_r0_w := @aopsE _ _ C.q46_r0.eq_1
def C.q46 : IFunc := ⟨2, [.slot 2], .seq (.region C.q46_r0) C.q46_c1⟩
def C.q46_W := And.intro @C.q46_r1_w (And.intro @C.q46_c1_w @C.q46_r0_w)
def C.q46_B := And.intro @C.q46_r1_b.eq_1 @C.q46_r0_b.eq_1

def C.q47_r1_b : List IOper := [
 X.o 2 (.fldAddr 1 (X.s 0)),
 X.o 3 (.load1 (X.s 2)),
 X.o 4 (.call F.q66 [X.s 3, X.i 0, X.i 20]),
 X.o 5 (.un .not (X.s 4)),
 X.o 6 (.call F.q65 [X.s 5, X.i 3]),
 X.m 1 6]
def C.q47_r1 : List IOper := C.q47_r1_b
def C.q47_r1_w := @aopsE _ _ C.q47_r1.eq_1
def C.q47_c1 : ICode := .keep [0] (.seq (.region C.q47_r1) .ret)
def C.q47_c1_w := @awpE _ _ C.q47_c1.eq_1
def C.q47_r0_b : List IOper := [
 X.o 1 (.move (X.i 0))]
def C.q47_r0 : List IOper := C.q47_r0_b
def C.q47_r0_w := @aopsE _ _ C.q47_r0.eq_1
def C.q47 : IFunc := ⟨1, [.slot 1], .seq (.region C.q47_r0) C.q47_c1⟩
def C.q47_W := And.intro @C.q47_r1_w (And.intro @C.q47_c1_w @C.q47_r0_w)
def C.q47_B := And.intro @C.q47_r1_b.eq_1 @C.q47_r0_b.eq_1

def C.q40_r1_b : List IOper := [
 X.o 3 (.fldAddr 0 (X.s 0)),
 X.o 4 (.load1 (X.s 3)),
 X.o 5 (.fldAddr 0 (X.s 1)),
 X.o 6 (.load1 (X.s 5)),
 X.o 7 (.len (X.s 6)),
 X.o 8 (.bin .sub (X.s 7) (X.i 1)),
 X.o 9 (.call F.q66 [X.s 4, X.i 0, X.s 8]),
 X.o 10 (.un .not (X.s 9)),
 X.o 11 (.call F.q65 [X.s 10, X.i 4]),
 X.m 2 11]
def C.q40_r1 : List IOper := C.q40_r1_b
def C.q40_r1_w := @aopsE _ _ C.q40_r1.eq_1
def C.q40_c1 : ICode := .keep [0, 1] (.seq (.region C.q40_r1) .ret)
def C.q40_c1_w := @awpE _ _ C.q40_c1.eq_1
def C.q40_r0_b : List IOper := [
 X.o 2 (.move (X.i 0))]
def C.q40_r0 : List IOper := C.q40_r0_b
def C.q40_r0_w := @aopsE _ _ C.q40_r0.eq_1
def C.q40 : IFunc := ⟨2, [.slot 2], .seq (.region C.q40_r0) C.q40_c1⟩
def C.q40_W := And.intro @C.q40_r1_w (And.intro @C.q40_c1_w @C.q40_r0_w)
def C.q40_B := And.intro @C.q40_r1_b.eq_1 @C.q40_r0_b.eq_1

def C.q41_r1_b : List IOper := [
 X.o 3 (.fldAddr 1 (X.s 0)),
 X.o 4 (.load1 (X.s 3)),
 X.o 5 (.fldAddr 1 (X.s 1)),
 X.o 6 (.load1 (X.s 5)),
 X.o 7 (.len (X.s 6)),
 X.o 8 (.bin .sub (X.s 7) (X.i 1)),
 X.o 9 (.call F.q66 [X.s 4, X.i 0, X.s 8]),
 X.o 10 (.un .not (X.s 9)),
 X.o 11 (.call F.q65 [X.s 10, X.i 4]),
 X.m 2 11]
def C.q41_r1 : List IOper := C.q41_r1_b
def C.q41_r1_w := @aopsE _ _ C.q41_r1.eq_1
def C.q41_c1 : ICode := .keep [0, 1] (.seq (.region C.q41_r1) .ret)
def C.q41_c1_w := @awpE _ _ C.q41_c1.eq_1
def C.q41_r0_b : List IOper := [
 X.o 2 (.move (X.i 0))]
def C.q41_r0 : List IOper := C.q41_r0_b
def C.q41_r0_w := @aopsE _ _ C.q41_r0.eq_1
def C.q41 : IFunc := ⟨2, [.slot 2], .seq (.region C.q41_r0) C.q41_c1⟩
def C.q41_W := And.intro @C.q41_r1_w (And.intro @C.q41_c1_w @C.q41_r0_w)
def C.q41_B := And.intro @C.q41_r1_b.eq_1 @C.q41_r0_b.eq_1

def C.q42_r1_b : List IOper := [
 X.o 3 (.fldAddr 2 (X.s 0)),
 X.o 4 (.load1 (X.s 3)),
 X.o 5 (.fldAddr 2 (X.s 1)),
 X.o 6 (.load1 (X.s 5)),
 X.o 7 (.len (X.s 6)),
 X.o 8 (.bin .sub (X.s 7) (X.i 1)),
 X.o 9 (.call F.q66 [X.s 4, X.i 0, X.s 8]),
 X.o 10 (.un .not (X.s 9)),
 X.o 11 (.call F.q65 [X.s 10, X.i 4]),
 X.m 2 11]
def C.q42_r1 : List IOper := C.q42_r1_b
def C.q42_r1_w := @aopsE _ _ C.q42_r1.eq_1
def C.q42_c1 : ICode := .keep [0, 1] (.seq (.region C.q42_r1) .ret)
def C.q42_c1_w := @awpE _ _ C.q42_c1.eq_1
def C.q42_r0_b : List IOper := [
 X.o 2 (.move (X.i 0))]
def C.q42_r0 : List IOper := C.q42_r0_b
def C.q42_r0_w := @aopsE _ _ C.q42_r0.eq_1
def C.q42 : IFunc := ⟨2, [.slot 2], .seq (.region C.q42_r0) C.q42_c1⟩
def C.q42_W := And.intro @C.q42_r1_w (And.intro @C.q42_c1_w @C.q42_r0_w)
def C.q42_B := And.intro @C.q42_r1_b.eq_1 @C.q42_r0_b.eq_1

def C.q43_r1_b : List IOper := [
 X.o 3 (.fldAddr 5 (X.s 0)),
 X.o 4 (.load1 (X.s 3)),
 X.o 5 (.makeFunc F.q44 [X.s 1]),
 X.o 6 (.call F.q52 [X.s 4, X.s 5]),
 X.m 2 6]
def C.q43_r1 : List IOper := C.q43_r1_b
def C.q43_r1_w := @aopsE _ _ C.q43_r1.eq_1
def C.q43_c1 : ICode := .keep [0, 1] (.seq (.region C.q43_r1) .ret)
def C.q43_c1_w := @awpE _ _ C.q43_c1.eq_1
def C.q43_r0_b : List IOper := [
 X.o 2 (.move (X.i 0))]
def C.q43_r0 : List IOper := C.q43_r0_b
def C.q43_r0_w := @aopsE _ _ C.q43_r0.eq_1
def C.q43 : IFunc := ⟨2, [.slot 2], .seq (.region C.q43_r0) C.q43_c1⟩
def C.q43_W := And.intro @C.q43_r1_w (And.intro @C.q43_c1_w @C.q43_r0_w)
def C.q43_B := And.intro @C.q43_r1_b.eq_1 @C.q43_r0_b.eq_1

def C.q44_r1_b : List IOper := [
 X.m 4 0,
 X.o 5 (.fldAddr 3 (X.s 1)),
 X.o 6 (.load1 (X.s 5)),
 X.o 7 (.len (X.s 6)),
 X.o 8 (.bin .sub (X.s 7) (X.i 1)),
 X.o 9 (.call F.q66 [X.s 4, X.i 0, X.s 8]),
 X.o 10 (.un .not (X.s 9)),
 X.o 11 (.call F.q65 [X.s 10, X.i 4]),
 X.m 3 11]
def C.q44_r1 : List IOper := C.q44_r1_b
def C.q44_r1_w := @aopsE _ _ C.q44_r1.eq_1
def C.q44_c1 : ICode := .keep [0, 1] (.seq (.region C.q44_r1) .ret)
def C.q44_c1_w := @awpE _ _ C.q44_c1.eq_1
def C.q44_r0_b : List IOper := [
 X.o 3 (.move (X.i 0))]
def C.q44_r0 : List IOper := C.q44_r0_b
def C.q44_r0_w := @aopsE _ _ C.q44_r0.eq_1
def C.q44 : IFunc := ⟨2, [.slot 3], .seq (.region C.q44_r0) C.q44_c1⟩
def C.q44_W := And.intro @C.q44_r1_w (And.intro @C.q44_c1_w @C.q44_r0_w)
def C.q44_B := And.intro @C.q44_r1_b.eq_1 @C.q44_r0_b.eq_1

def C.q68_r20_b : List IOper := [
 X.m 73 8,
 X.m 2 73,
 X.o 3 (.move (X.i 0))]
def C.q68_r20 : List IOper := C.q68_r20_b
def C.q68_r20_w := @aopsE _ _ C.q68_r20.eq_1
def C.q68_c1 : ICode := .keep [8] (.seq (.region C.q68_r20) .ret)
def C.q68_c1_w := @awpE _ _ C.q68_c1.eq_1
def C.q68_r19_b : List IOper := [
 X.o 72 (.bin .add (X.s 62) (X.i 1)),
 X.m 62 72]
def C.q68_r19 : List IOper := C.q68_r19_b
def C.q68_r19_w := @aopsE _ _ C.q68_r19.eq_1
def C.q68_c2 : ICode := .keep [0, 5, 6, 7, 8, 60, 61, 62] (.region C.q68_r19)
def C.q68_c2_w := @awpE _ _ C.q68_c2.eq_1
def C.q68_r18_b : List IOper := [
 X.m 66 5,
 X.m 67 11,
 X.o 68 (.idxAddr 1 (X.s 66) (X.s 67)),
 X.o 69 (.load1 (X.s 68)),
 X.o 70 (.bin .sub (X.s 69) (X.i 1)),
 X.o 71 (.idxAddr 1 (X.s 66) (X.s 67)),
 X.n (.store1 (X.s 71) (X.s 70))]
def C.q68_r18 : List IOper := C.q68_r18_b
def C.q68_r18_w := @aopsE _ _ C.q68_r18.eq_1
def C.q68_c3 : ICode := .keep [0, 5, 6, 7, 8, 11, 60, 61, 62] (.region C.q68_r18)
def C.q68_c3_w := @awpE _ _ C.q68_c3.eq_1
def C.q68_r17_b : List IOper := [
 X.o 64 (.idxAddr 1 (X.s 60) (X.s 62)),
 X.o 65 (.load1 (X.s 64)),
 X.m 11 65]
def C.q68_r17 : List IOper := C.q68_r17_b
def C.q68_r17_w := @aopsE _ _ C.q68_r17.eq_1
def C.q68_b4 : ICode := .seq (.region C.q68_r17) C.q68_c3
def C.q68_b4_w := @awpE _ _ C.q68_b4.eq_1
def C.q68_c5 : ICode := .keep [0, 5, 6, 7, 8, 60, 61, 62] (.seq (.block 5 C.q68_b4) C.q68_c2)
def C.q68_c5_w := @awpE _ _ C.q68_c5.eq_1
def C.q68_c6 : ICode := .keep [0, 5, 6, 7, 8, 60, 61, 62, 63] (.seq (.cond (X.s 63) .skip (.exit 4)) C.q68_c5)
def C.q68_c6_w := @awpE _ _ C.q68_c6.eq_1
def C.q68_r16_b : List IOper := [
 X.o 63 (.bin .lss (X.s 62) (X.s 61))]
def C.q68_r16 : List IOper := C.q68_r16_b
def C.q68_r16_w := @aopsE _ _ C.q68_r16.eq_1
def C.q68_l7 : ICode := .keep [0, 5, 6, 7, 8, 60, 61, 62] (.seq (.region C.q68_r16) C.q68_c6)
def C.q68_l7_w := @awpE _ _ C.q68_l7.eq_1
def C.q68_b8 : ICode := .loop C.q68_l7
def C.q68_b8_w := @awpE _ _ C.q68_b8.eq_1
def C.q68_c9 : ICode := .keep [0, 5, 6, 7, 8, 60, 61, 62] (.block 4 C.q68_b8)
def C.q68_c9_w := @awpE _ _ C.q68_c9.eq_1
def C.q68_r15_b : List IOper := [
 X.m 57 6,
 X.m 58 9,
 X.o 59 (.idxAddr 1 (X.s 57) (X.s 58)),
 X.o 60 (.load1 (X.s 59)),
 X.o 61 (.len (X.s 60)),
 X.o 62 (.move (X.i 0))]
def C.q68_r15 : List IOper := C.q68_r15_b
def C.q68_r15_w := @aopsE _ _ C.q68_r15.eq_1
def C.q68_c10 : ICode := .keep [0, 5, 6, 7, 8, 9] (.seq (.region C.q68_r15) C.q68_c9)
def C.q68_c10_w := @awpE _ _ C.q68_c10.eq_1
def C.q68_r14_b : List IOper := [
 X.m 53 8,
 X.m 54 9,
 X.o 55 (.buildSlice 1 1 [.int .i64 0] [(0, 1, X.s 54)]),
 X.o 56 (.append 1 8 (X.s 53) (X.s 55)),
 X.m 8 56]
def C.q68_r14 : List IOper := C.q68_r14_b
def C.q68_r14_w := @aopsE _ _ C.q68_r14.eq_1
def C.q68_c11 : ICode := .keep [0, 5, 6, 7, 8, 9] (.seq (.region C.q68_r14) C.q68_c10)
def C.q68_c11_w := @awpE _ _ C.q68_c11.eq_1
def C.q68_r13_b : List IOper := [
 X.m 50 7,
 X.m 51 9,
 X.o 52 (.call F.q70 [X.s 50, X.s 51])]
def C.q68_r13 : List IOper := C.q68_r13_b
def C.q68_r13_w := @aopsE _ _ C.q68_r13.eq_1
def C.q68_c12 : ICode := .keep [0, 5, 6, 7, 8, 9] (.seq (.region C.q68_r13) C.q68_c11)
def C.q68_c12_w := @awpE _ _ C.q68_c12.eq_1
def C.q68_r12_b : List IOper := [
 X.o 2 (.move (.cst (.nils))),
 X.o 3 (.move (X.i 5))]
def C.q68_r12 : List IOper := C.q68_r12_b
def C.q68_r12_w := @aopsE _ _ C.q68_r12.eq_1
def C.q68_c13 : ICode := .seq (.region C.q68_r12) .ret
def C.q68_c13_w := @awpE _ _ C.q68_c13.eq_1
def C.q68_c14 : ICode := .keep [0, 5, 6, 7, 8, 9, 49] (.cond (X.s 49) C.q68_c13 .skip)
def C.q68_c14_w := @awpE _ _ C.q68_c14.eq_1
def C.q68_r11_b : List IOper := [
 X.m 46 9,
 X.m 47 0,
 X.o 48 (.len (X.s 47)),
 X.o 49 (.bin .eql (X.s 46) (X.s 48))]
def C.q68_r11 : List IOper := C.q68_r11_b
def C.q68_r11_w := @aopsE _ _ C.q68_r11.eq_1
def C.q68_c15 : ICode := .keep [0, 5, 6, 7, 8, 9] (.seq (.seq (.region C.q68_r11) C.q68_c14) C.q68_c12)
def C.q68_c15_w := @awpE _ _ C.q68_c15.eq_1
def C.q68_r10_b : List IOper := [
 X.m 44 9,
 X.o 45 (.bin .add (X.s 44) (X.i 1)),
 X.m 9 45]
def C.q68_r10 : List IOper := C.q68_r10_b
def C.q68_r10_w := @aopsE _ _ C.q68_r10.eq_1
def C.q68_b16 : ICode := .region C.q68_r10
def C.q68_b16_w := @awpE _ _ C.q68_b16.eq_1
def C.q68_c17 : ICode := .keep [0, 5, 6, 7, 8, 9] (.block 3 C.q68_b16)
def C.q68_c17_w := @awpE _ _ C.q68_c17.eq_1
def C.q68_c18 : ICode := .keep [0, 5, 6, 7, 8, 9, 43] (.cond (X.s 43) .skip (.exit 2))
def C.q68_c18_w := @awpE _ _ C.q68_c18.eq_1
def C.q68_r9_b : List IOper := [
 X.m 28 9,
 X.m 29 0,
 X.o 30 (.len (X.s 29)),
 X.o 31 (.bin .lss (X.s 28) (X.s 30)),
 X.m 32 31,
 X.t 32 33 (.move (X.s 7)),
 X.t 32 34 (.move (X.s 9)),
 X.t 32 35 (.call F.q71 [X.s 33, X.s 34]),
 X.t 32 36 (.move (X.s 35)),
 X.f 36 37 (.move (X.s 5)),
 X.f 36 38 (.move (X.s 9)),
 X.f 36 39 (.idxAddr 1 (X.s 37) (X.s 38)),
 X.f 36 40 (.load1 (X.s 39)),
 X.f 36 41 (.bin .gtr (X.s 40) (X.i 0)),
 X.t 32 42 (.pick (X.s 36) (.cst (.bool true)) (X.s 41)),
 X.o 43 (.pick (X.s 32) (X.s 42) (.cst (.bool false)))]
def C.q68_r9 : List IOper := C.q68_r9_b
def C.q68_r9_w := @aopsE _ _ C.q68_r9.eq_1
def C.q68_l19 : ICode := .keep [0, 5, 6, 7, 8, 9] (.seq (.seq (.region C.q68_r9) C.q68_c18) C.q68_c17)
def C.q68_l19_w := @awpE _ _ C.q68_l19.eq_1
def C.q68_b20 : ICode := .loop C.q68_l19
def C.q68_b20_w := @awpE _ _ C.q68_b20.eq_1
def C.q68_c21 : ICode := .keep [0, 5, 6, 7, 8, 9] (.seq (.block 2 C.q68_b20) C.q68_c15)
def C.q68_c21_w := @awpE _ _ C.q68_c21.eq_1
def C.q68_r8_b : List IOper := [
 X.o 9 (.move (X.i 0))]
def C.q68_r8 : List IOper := C.q68_r8_b
def C.q68_r8_w := @aopsE _ _ C.q68_r8.eq_1
def C.q68_b22 : ICode := .seq (.region C.q68_r8) C.q68_c21
def C.q68_b22_w := @awpE _ _ C.q68_b22.eq_1
def C.q68_c23 : ICode := .keep [0, 5, 6, 7, 8] (.block 1 C.q68_b22)
def C.q68_c23_w := @awpE _ _ C.q68_c23.eq_1
def C.q68_c24 : ICode := .keep [0, 5, 6, 7, 8, 27] (.cond (X.s 27) .skip (.exit 0))
def C.q68_c24_w := @awpE _ _ C.q68_c24.eq_1
def C.q68_r7_b : List IOper := [
 X.m 23 8,
 X.o 24 (.len (X.s 23)),
 X.m 25 0,
 X.o 26 (.len (X.s 25)),
 X.o 27 (.bin .lss (X.s 24) (X.s 26))]
def C.q68_r7 : List IOper := C.q68_r7_b
def C.q68_r7_w := @aopsE _ _ C.q68_r7.eq_1
def C.q68_l25 : ICode := .keep [0, 5, 6, 7, 8] (.seq (.seq (.region C.q68_r7) C.q68_c24) C.q68_c23)
def C.q68_l25_w := @awpE _ _ C.q68_l25.eq_1
def C.q68_b26 : ICode := .loop C.q68_l25
def C.q68_b26_w := @awpE _ _ C.q68_b26.eq_1
def C.q68_c27 : ICode := .keep [0, 5, 6, 7, 8] (.seq (.block 0 C.q68_b26) C.q68_c1)
def C.q68_c27_w := @awpE _ _ C.q68_c27.eq_1
def C.q68_r6_b : List IOper := [
 X.o 8 (.move (.cst (.nils)))]
def C.q68_r6 : List IOper := C.q68_r6_b
def C.q68_r6_w := @aopsE _ _ C.q68_r6.eq_1
def C.q68_c28 : ICode := .keep [0, 5, 6, 7] (.seq (.region C.q68_r6) C.q68_c27)
def C.q68_c28_w := @awpE _ _ C.q68_c28.eq_1
def C.q68_r5_b : List IOper := [
 X.o 22 (.makeMap none),
 X.m 7 22]
def C.q68_r5 : List IOper := C.q68_r5_b
def C.q68_r5_w := @aopsE _ _ C.q68_r5.eq_1
def C.q68_c29 : ICode := .keep [0, 5, 6] (.seq (.region C.q68_r5) C.q68_c28)
def C.q68_c29_w := @awpE _ _ C.q68_c29.eq_1
def C.q68_r4_b : List IOper := [
 X.m 18 0,
 X.o 19 (.call F.q69 [X.s 18]),
 X.m 17 19,
 X.o 20 (.extract (X.s 17) 0),
 X.o 21 (.extract (X.s 17) 1),
 X.m 5 20,
 X.m 6 21]
def C.q68_r4 : List IOper := C.q68_r4_b
def C.q68_r4_w := @aopsE _ _ C.q68_r4.eq_1
def C.q68_c30 : ICode := .keep [0] (.seq (.region C.q68_r4) C.q68_c29)
def C.q68_c30_w := @awpE _ _ C.q68_c30.eq_1
def C.q68_r3_b : List IOper := [
 X.m 16 4,
 X.o 2 (.move (.cst (.nils))),
 X.m 3 16]
def C.q68_r3 : List IOper := C.q68_r3_b
def C.q68_r3_w := @aopsE _ _ C.q68_r3.eq_1
def C.q68_c31 : ICode := .seq (.region C.q68_r3) .ret
def C.q68_c31_w := @awpE _ _ C.q68_c31.eq_1
def C.q68_c32 : ICode := .keep [0, 4, 15] (.cond (X.s 15) C.q68_c31 .skip)
def C.q68_c32_w := @awpE _ _ C.q68_c32.eq_1
def C.q68_r2_b : List IOper := [
 X.m 14 4,
 X.o 15 (.bin .neq (X.s 14) (X.i 0))]
def C.q68_r2 : List IOper := C.q68_r2_b
def C.q68_r2_w := @aopsE _ _ C.q68_r2.eq_1
def C.q68_c33 : ICode := .keep [0, 4] (.seq (.region C.q68_r2) C.q68_c32)
def C.q68_c33_w := @awpE _ _ C.q68_c33.eq_1
def C.q68_r1_b : List IOper := [
 X.m 12 0,
 X.o 13 (.call F.q72 [X.s 12]),
 X.m 4 13]
def C.q68_r1 : List IOper := C.q68_r1_b
def C.q68_r1_w := @aopsE _ _ C.q68_r1.eq_1
def C.q68_c34 : ICode := .keep [0] (.seq (.seq (.region C.q68_r1) C.q68_c33) C.q68_c30)
def C.q68_c34_w := @awpE _ _ C.q68_c34.eq_1
def C.q68_r0_b : List IOper := [
 X.o 2 (.move (.cst (.nils))),
 X.o 3 (.move (X.i 0))]
def C.q68_r0 : List IOper := C.q68_r0_b
def C.q68_r0_w := @aopsE _ _ C.q68_r0.eq_1
def C.q68 : IFunc := ⟨1, [.slot 2, .slot 3], .seq (.region C.q68_r0) C.q68_c34⟩
def C.q68_W := And.intro (And.intro (And.intro (And.intro (And.intro @C.q68_r20_w (And.intro @C.q68_c1_w @C.q68_r19_w)) (And.intro @C.q68_c2_w (And.intro @C.q68_r18_w @C.q68_c3_w))) (And.intro (And.intro @C.q68_r17_w (And.intro @C.q68_b4_w @C.q68_c5_w)) (And.intro (And.intro @C.q68_c6_w @C.q68_r16_w) (And.intro @C.q68_b8_w @C.q68_c9_w)))) (And.intro (And.intro (And.intro @C.q68_r15_w (And.intro @C.q68_c10_w @C.q68_r14_w)) (And.intro @C.q68_c11_w (And.intro @C.q68_r13_w @C.q68_c12_w))) (And.intro (And.intro @C.q68_r12_w (And.intro @C.q68_c13_w @C.q68_c14_w)) (And.intro (And.intro @C.q68_r11_w @C.q68_c15_w) (And.intro @C.q68_r10_w @C.q68_b16_w))))) (And.intro (And.intro (And.intro (And.intro @C.q68_c17_w (And.intro @C.q68_c18_w @C.q68_r9_w)) (And.intro @C.q68_b20_w (And.intro @C.q68_c21_w @C.q68_r8_w))) (And.intro (And.intro @C.q68_b22_w (And.intro @C.q68_c23_w @C.q68_c24_w)) (And.intro (And.intro @C.q68_r7_w @C.q68_b26_w) (And.intro @C.q68_c27_w @C.q68_r6_w)))) (And.intro (And.intro (And.intro @C.q68_c28_w (And.intro @C.q68_r5_w @C.q68_c29_w)) (And.intro @C.q68_r4_w (And.intro @C.q68_c30_w @C.q68_r3_w))) (And.intro (And.intro @C.q68_c31_w (And.intro @C.q68_c32_w @C.q68_r2_w)) (And.intro (And.intro @C.q68_c33_w @C.q68_r1_w) (And.intro @C.q68_c34_w @C.q68_r0_w)))))
def C.q68_B := And.intro (And.intro (And.intro (And.intro @C.q68_r20_b.eq_1 @C.q68_r19_b.eq_1) (And.intro @C.q68_r18_b.eq_1 (And.intro @C.q68_r17_b.eq_1 @C.q68_r16_b.eq_1))) (And.intro (And.intro @C.q68_r15_b.eq_1 @C.q68_r14_b.eq_1) (And.intro @C.q68_r13_b.eq_1 (And.intro @C.q68_r12_b.eq_1 @C.q68_r11_b.eq_1)))) (And.intro (And.intro (And.intro @C.q68_r10_b.eq_1 @C.q68_r9_b.eq_1) (And.intro @C.q68_r8_b.eq_1 (And.intro @C.q68_r7_b.eq_1 @C.q68_r6_b.eq_1))) (And.intro (And.intro @C.q68_r5_b.eq_1 (And.intro @C.q68_r4_b.eq_1 @C.q68_r3_b.eq_1)) (And.intro @C.q68_r2_b.eq_1 (And.intro @C.q68_r1_b.eq_1 @C.q68_r0_b.eq_1))))

def C.q72_r13_b : List IOper := [
 X.o 2 (.move (X.i 0))]
def C.q72_r13 : List IOper := C.q72_r13_b
def C.q72_r13_w := @aopsE _ _ C.q72_r13.eq_1
def C.q72_c1 : ICode := .keep [] (.seq (.region C.q72_r13) .ret)
def C.q72_c1_w := @awpE _ _ C.q72_c1.eq_1
def C.q72_r12_b : List IOper := [
 X.o 31 (.bin .add (X.s 12) (X.i 1)),
 X.m 12 31]
def C.q72_r12 : List IOper := C.q72_r12_b
def C.q72_r12_w := @aopsE _ _ C.q72_r12.eq_1
def C.q72_c2 : ICode := .keep [0, 10, 11, 12] (.region C.q72_r12)
def C.q72_c2_w := @awpE _ _ C.q72_c2.eq_1
def C.q72_r11_b : List IOper := [
 X.o 30 (.bin .add (X.s 18) (X.i 1)),
 X.m 18 30]
def C.q72_r11 : List IOper := C.q72_r11_b
def C.q72_r11_w := @aopsE _ _ C.q72_r11.eq_1
def C.q72_c3 : ICode := .keep [0, 10, 11, 12, 16, 17, 18] (.region C.q72_r11)
def C.q72_c3_w := @awpE _ _ C.q72_c3.eq_1
def C.q72_r10_b : List IOper := [
 X.o 2 (.move (X.i 4))]
def C.q72_r10 : List IOper := C.q72_r10_b
def C.q72_r10_w := @aopsE _ _ C.q72_r10.eq_1
def C.q72_c4 : ICode := .seq (.region C.q72_r10) .ret
def C.q72_c4_w := @awpE _ _ C.q72_c4.eq_1
def C.q72_c5 : ICode := .keep [0, 10, 11, 12, 16, 17, 18, 29] (.cond (X.s 29) C.q72_c4 .skip)
def C.q72_c5_w := @awpE _ _ C.q72_c5.eq_1
def C.q72_r9_b : List IOper := [
 X.m 22 6,
 X.o 23 (.bin .lss (X.s 22) (X.i 0)),
 X.m 24 23,
 X.f 24 25 (.move (X.s 6)),
 X.f 24 26 (.move (X.s 0)),
 X.f 24 27 (.len (X.s 26)),
 X.f 24 28 (.bin .geq (X.s 25) (X.s 27)),
 X.o 29 (.pick (X.s 24) (.cst (.bool true)) (X.s 28))]
def C.q72_r9 : List IOper := C.q72_r9_b
def C.q72_r9_w := @aopsE _ _ C.q72_r9.eq_1
def C.q72_c6 : ICode := .keep [0, 6, 10, 11, 12, 16, 17, 18] (.seq (.region C.q72_r9) C.q72_c5)
def C.q72_c6_w := @awpE _ _ C.q72_c6.eq_1
def C.q72_r8_b : List IOper := [
 X.o 20 (.idxAddr 1 (X.s 16) (X.s 18)),
 X.o 21 (.load1 (X.s 20)),
 X.m 6 21]
def C.q72_r8 : List IOper := C.q72_r8_b
def C.q72_r8_w := @aopsE _ _ C.q72_r8.eq_1
def C.q72_b7 : ICode := .seq (.region C.q72_r8) C.q72_c6
def C.q72_b7_w := @awpE _ _ C.q72_b7.eq_1
def C.q72_c8 : ICode := .keep [0, 10, 11, 12, 16, 17, 18] (.seq (.block 3 C.q72_b7) C.q72_c3)
def C.q72_c8_w := @awpE _ _ C.q72_c8.eq_1
def C.q72_c9 : ICode := .keep [0, 10, 11, 12, 16, 17, 18, 19] (.seq (.cond (X.s 19) .skip (.exit 2)) C.q72_c8)
def C.q72_c9_w := @awpE _ _ C.q72_c9.eq_1
def C.q72_r7_b : List IOper := [
 X.o 19 (.bin .lss (X.s 18) (X.s 17))]
def C.q72_r7 : List IOper := C.q72_r7_b
def C.q72_r7_w := @aopsE _ _ C.q72_r7.eq_1
def C.q72_l10 : ICode := .keep [0, 10, 11, 12, 16, 17, 18] (.seq (.region C.q72_r7) C.q72_c9)
def C.q72_l10_w := @awpE _ _ C.q72_l10.eq_1
def C.q72_b11 : ICode := .loop C.q72_l10
def C.q72_b11_w := @awpE _ _ C.q72_b11.eq_1
def C.q72_c12 : ICode := .keep [0, 10, 11, 12, 16, 17, 18] (.block 2 C.q72_b11)
def C.q72_c12_w := @awpE _ _ C.q72_c12.eq_1
def C.q72_r6_b : List IOper := [
 X.m 16 4,
 X.o 17 (.len (X.s 16)),
 X.o 18 (.move (X.i 0))]
def C.q72_r6 : List IOper := C.q72_r6_b
def C.q72_r6_w := @aopsE _ _ C.q72_r6.eq_1
def C.q72_c13 : ICode := .keep [0, 4, 10, 11, 12] (.seq (.region C.q72_r6) C.q72_c12)
def C.q72_c13_w := @awpE _ _ C.q72_c13.eq_1
def C.q72_r5_b : List IOper := [
 X.o 14 (.idxAddr 1 (X.s 10) (X.s 12)),
 X.o 15 (.load1 (X.s 14)),
 X.m 4 15]
def C.q72_r5 : List IOper := C.q72_r5_b
def C.q72_r5_w := @aopsE _ _ C.q72_r5.eq_1
def C.q72_b14 : ICode := .seq (.region C.q72_r5) C.q72_c13
def C.q72_b14_w := @awpE _ _ C.q72_b14.eq_1
def C.q72_c15 : ICode := .keep [0, 10, 11, 12] (.seq (.block 1 C.q72_b14) C.q72_c2)
def C.q72_c15_w := @awpE _ _ C.q72_c15.eq_1
def C.q72_c16 : ICode := .keep [0, 10, 11, 12, 13] (.seq (.cond (X.s 13) .skip (.exit 0)) C.q72_c15)
def C.q72_c16_w := @awpE _ _ C.q72_c16.eq_1
def C.q72_r4_b : List IOper := [
 X.o 13 (.bin .lss (X.s 12) (X.s 11))]
def C.q72_r4 : List IOper := C.q72_r4_b
def C.q72_r4_w := @aopsE _ _ C.q72_r4.eq_1
def C.q72_l17 : ICode := .keep [0, 10, 11, 12] (.seq (.region C.q72_r4) C.q72_c16)
def C.q72_l17_w := @awpE _ _ C.q72_l17.eq_1
def C.q72_b18 : ICode := .loop C.q72_l17
def C.q72_b18_w := @awpE _ _ C.q72_b18.eq_1
def C.q72_c19 : ICode := .keep [0, 10, 11, 12] (.block 0 C.q72_b18)
def C.q72_c19_w := @awpE _ _ C.q72_c19.eq_1
def C.q72_r3_b : List IOper := [
 X.m 10 0,
 X.o 11 (.len (X.s 10)),
 X.o 12 (.move (X.i 0))]
def C.q72_r3 : List IOper := C.q72_r3_b
def C.q72_r3_w := @aopsE _ _ C.q72_r3.eq_1
def C.q72_c20 : ICode := .keep [0] (.seq (.seq (.region C.q72_r3) C.q72_c19) C.q72_c1)
def C.q72_c20_w := @awpE _ _ C.q72_c20.eq_1
def C.q72_r2_b : List IOper := [
 X.o 2 (.move (X.i 1))]
def C.q72_r2 : List IOper := C.q72_r2_b
def C.q72_r2_w := @aopsE _ _ C.q72_r2.eq_1
def C.q72_c21 : ICode := .seq (.region C.q72_r2) .ret
def C.q72_c21_w := @awpE _ _ C.q72_c21.eq_1
def C.q72_c22 : ICode := .keep [0, 9] (.cond (X.s 9) C.q72_c21 .skip)
def C.q72_c22_w := @awpE _ _ C.q72_c22.eq_1
def C.q72_r1_b : List IOper := [
 X.m 7 0,
 X.o 8 (.len (X.s 7)),
 X.o 9 (.bin .gtr (X.s 8) (X.i 100))]
def C.q72_r1 : List IOper := C.q72_r1_b
def C.q72_r1_w := @aopsE _ _ C.q72_r1.eq_1
def C.q72_c23 : ICode := .keep [0] (.seq (.seq (.region C.q72_r1) C.q72_c22) C.q72_c20)
def C.q72_c23_w := @awpE _ _ C.q72_c23.eq_1
def C.q72_r0_b : List IOper := [
 X.o 2 (.move (X.i 0))]
def C.q72_r0 : List IOper := C.q72_r0_b
def C.q72_r0_w := @aopsE _ _ C.q72_r0.eq_1
def C.q72 : IFunc := ⟨1, [.slot 2], .seq (.region C.q72_r0) C.q72_c23⟩
def C.q72_W := And.intro (And.intro (And.intro (And.intro (And.intro @C.q72_r13_w @C.q72_c1_w) (And.intro @C.q72_r12_w @C.q72_c2_w)) (And.intro (And.intro @C.q72_r11_w @C.q72_c3_w) (And.intro @C.q72_r10_w @C.q72_c4_w))) (And.intro (And.intro (And.intro @C.q72_c5_w @C.q72_r9_w) (And.intro @C.q72_c6_w @C.q72_r8_w)) (And.intro (And.intro @C.q72_b7_w @C.q72_c8_w) (And.intro @C.q72_c9_w (And.intro @C.q72_r7_w @C.q72_b11_w))))) (And.intro (And.intro (And.intro (And.intro @C.q72_c12_w @C.q72_r6_w) (And.intro @C.q72_c13_w @C.q72_r5_w)) (And.intro (And.intro @C.q72_b14_w @C.q72_c15_w) (And.intro @C.q72_c16_w (And.intro @C.q72_r4_w @C.q72_b18_w)))) (And.intro (And.intro (And.intro @C.q72_c19_w @C.q72_r3_w) (And.intro @C.q72_c20_w @C.q72_r2_w)) (And.intro (And.intro @C.q72_c21_w @C.q72_c22_w) (And.intro @C.q72_r1_w (And.intro @C.q72_c23_w @C.q72_r0_w)))))
def C.q72_B := And.intro (And.intro (And.intro @C.q72_r13_b.eq_1 (And.intro @C.q72_r12_b.eq_1 @C.q72_r11_b.eq_1)) (And.intro (And.intro @C.q72_r10_b.eq_1 @C.q72_r9_b.eq_1) (And.intro @C.q72_r8_b.eq_1 @C.q72_r7_b.eq_1))) (And.intro (And.intro @C.q72_r6_b.eq_1 (And.intro @C.q72_r5_b.eq_1 @C.q72_r4_b.eq_1)) (And.intro (And.intro @C.q72_r3_b.eq_1 @C.q72_r2_b.eq_1) (And.intro @C.q72_r1_b.eq_1 @C.q72_r0_b.eq_1)))

def C.q69_r16_b : List IOper := [
 X.m 53 2,
 X.m 54 3,
 X.m 2 53,
 X.m 3 54]
def C.q69_r16 : List IOper := C.q69_r16_b
def C.q69_r16_w := @aopsE _ _ C.q69_r16.eq_1
def C.q69_c1 : ICode := .keep [2, 3] (.seq (.region C.q69_r16) .ret)
def C.q69_c1_w := @awpE _ _ C.q69_c1.eq_1
def C.q69_r15_b : List IOper := [
 X.o 52 (.bin .add (X.s 17) (X.i 1)),
 X.m 17 52]
def C.q69_r15 : List IOper := C.q69_r15_b
def C.q69_r15_w := @aopsE _ _ C.q69_r15.eq_1
def C.q69_c2 : ICode := .keep [2, 3, 15, 16, 17] (.region C.q69_r15)
def C.q69_c2_w := @awpE _ _ C.q69_c2.eq_1
def C.q69_r14_b : List IOper := [
 X.o 51 (.bin .add (X.s 25) (X.i 1)),
 X.m 25 51]
def C.q69_r14 : List IOper := C.q69_r14_b
def C.q69_r14_w := @aopsE _ _ C.q69_r14.eq_1
def C.q69_c3 : ICode := .keep [2, 3, 4, 6, 15, 16, 17, 23, 24, 25] (.region C.q69_r14)
def C.q69_c3_w := @awpE _ _ C.q69_c3.eq_1
def C.q69_r13_b : List IOper := [
 X.m 41 3,
 X.m 42 8,
 X.m 43 3,
 X.m 44 8,
 X.o 45 (.idxAddr 1 (X.s 43) (X.s 44)),
 X.o 46 (.load1 (X.s 45)),
 X.m 47 4,
 X.o 48 (.buildSlice 1 1 [.int .i64 0] [(0, 1, X.s 47)]),
 X.o 49 (.append 1 8 (X.s 46) (X.s 48)),
 X.o 50 (.idxAddr 1 (X.s 41) (X.s 42)),
 X.n (.store1 (X.s 50) (X.s 49))]
def C.q69_r13 : List IOper := C.q69_r13_b
def C.q69_r13_w := @aopsE _ _ C.q69_r13.eq_1
def C.q69_c4 : ICode := .keep [2, 3, 4, 6, 8, 15, 16, 17, 23, 24, 25] (.region C.q69_r13)
def C.q69_c4_w := @awpE _ _ C.q69_c4.eq_1
def C.q69_r12_b : List IOper := [
 X.m 35 2,
 X.m 36 4,
 X.o 37 (.idxAddr 1 (X.s 35) (X.s 36)),
 X.o 38 (.load1 (X.s 37)),
 X.o 39 (.bin .add (X.s 38) (X.i 1)),
 X.o 40 (.idxAddr 1 (X.s 35) (X.s 36)),
 X.n (.store1 (X.s 40) (X.s 39))]
def C.q69_r12 : List IOper := C.q69_r12_b
def C.q69_r12_w := @aopsE _ _ C.q69_r12.eq_1
def C.q69_c5 : ICode := .keep [2, 3, 4, 6, 8, 15, 16, 17, 23, 24, 25] (.seq (.region C.q69_r12) C.q69_c4)
def C.q69_c5_w := @awpE _ _ C.q69_c5.eq_1
def C.q69_r11_b : List IOper := [
 X.m 32 6,
 X.m 33 8,
 X.o 34 (.call F.q70 [X.s 32, X.s 33])]
def C.q69_r11 : List IOper := C.q69_r11_b
def C.q69_r11_w := @aopsE _ _ C.q69_r11.eq_1
def C.q69_c6 : ICode := .keep [2, 3, 4, 6, 8, 15, 16, 17, 23, 24, 25] (.seq (.region C.q69_r11) C.q69_c5)
def C.q69_c6_w := @awpE _ _ C.q69_c6.eq_1
def C.q69_c7 : ICode := .keep [2, 3, 4, 6, 8, 15, 16, 17, 23, 24, 25, 31] (.cond (X.s 31) (.exit 3) .skip)
def C.q69_c7_w := @awpE _ _ C.q69_c7.eq_1
def C.q69_r10_b : List IOper := [
 X.m 29 6,
 X.m 30 8,
 X.o 31 (.call F.q71 [X.s 29, X.s 30])]
def C.q69_r10 : List IOper := C.q69_r10_b
def C.q69_r10_w := @aopsE _ _ C.q69_r10.eq_1
def C.q69_c8 : ICode := .keep [2, 3, 4, 6, 8, 15, 16, 17, 23, 24, 25] (.seq (.seq (.region C.q69_r10) C.q69_c7) C.q69_c6)
def C.q69_c8_w := @awpE _ _ C.q69_c8.eq_1
def C.q69_r9_b : List IOper := [
 X.o 27 (.idxAddr 1 (X.s 23) (X.s 25)),
 X.o 28 (.load1 (X.s 27)),
 X.m 8 28]
def C.q69_r9 : List IOper := C.q69_r9_b
def C.q69_r9_w := @aopsE _ _ C.q69_r9.eq_1
def C.q69_b9 : ICode := .seq (.region C.q69_r9) C.q69_c8
def C.q69_b9_w := @awpE _ _ C.q69_b9.eq_1
def C.q69_c10 : ICode := .keep [2, 3, 4, 6, 15, 16, 17, 23, 24, 25] (.seq (.block 3 C.q69_b9) C.q69_c3)
def C.q69_c10_w := @awpE _ _ C.q69_c10.eq_1
def C.q69_c11 : ICode := .keep [2, 3, 4, 6, 15, 16, 17, 23, 24, 25, 26] (.seq (.cond (X.s 26) .skip (.exit 2)) C.q69_c10)
def C.q69_c11_w := @awpE _ _ C.q69_c11.eq_1
def C.q69_r8_b : List IOper := [
 X.o 26 (.bin .lss (X.s 25) (X.s 24))]
def C.q69_r8 : List IOper := C.q69_r8_b
def C.q69_r8_w := @aopsE _ _ C.q69_r8.eq_1
def C.q69_l12 : ICode := .keep [2, 3, 4, 6, 15, 16, 17, 23, 24, 25] (.seq (.region C.q69_r8) C.q69_c11)
def C.q69_l12_w := @awpE _ _ C.q69_l12.eq_1
def C.q69_b13 : ICode := .loop C.q69_l12
def C.q69_b13_w := @awpE _ _ C.q69_b13.eq_1
def C.q69_c14 : ICode := .keep [2, 3, 4, 6, 15, 16, 17, 23, 24, 25] (.block 2 C.q69_b13)
def C.q69_c14_w := @awpE _ _ C.q69_c14.eq_1
def C.q69_r7_b : List IOper := [
 X.m 23 5,
 X.o 24 (.len (X.s 23)),
 X.o 25 (.move (X.i 0))]
def C.q69_r7 : List IOper := C.q69_r7_b
def C.q69_r7_w := @aopsE _ _ C.q69_r7.eq_1
def C.q69_c15 : ICode := .keep [2, 3, 4, 5, 6, 15, 16, 17] (.seq (.region C.q69_r7) C.q69_c14)
def C.q69_c15_w := @awpE _ _ C.q69_c15.eq_1
def C.q69_r6_b : List IOper := [
 X.o 22 (.makeMap none),
 X.m 6 22]
def C.q69_r6 : List IOper := C.q69_r6_b
def C.q69_r6_w := @aopsE _ _ C.q69_r6.eq_1
def C.q69_c16 : ICode := .keep [2, 3, 4, 5, 15, 16, 17] (.seq (.region C.q69_r6) C.q69_c15)
def C.q69_c16_w := @awpE _ _ C.q69_c16.eq_1
def C.q69_r5_b : List IOper := [
 X.m 19 17,
 X.o 20 (.idxAddr 1 (X.s 15) (X.s 17)),
 X.o 21 (.load1 (X.s 20)),
 X.m 4 19,
 X.m 5 21]
def C.q69_r5 : List IOper := C.q69_r5_b
def C.q69_r5_w := @aopsE _ _ C.q69_r5.eq_1
def C.q69_b17 : ICode := .seq (.region C.q69_r5) C.q69_c16
def C.q69_b17_w := @awpE _ _ C.q69_b17.eq_1
def C.q69_c18 : ICode := .keep [2, 3, 15, 16, 17] (.seq (.block 1 C.q69_b17) C.q69_c2)
def C.q69_c18_w := @awpE _ _ C.q69_c18.eq_1
def C.q69_c19 : ICode := .keep [2, 3, 15, 16, 17, 18] (.seq (.cond (X.s 18) .skip (.exit 0)) C.q69_c18)
def C.q69_c19_w := @awpE _ _ C.q69_c19.eq_1
def C.q69_r4_b : List IOper := [
 X.o 18 (.bin .lss (X.s 17) (X.s 16))]
def C.q69_r4 : List IOper := C.q69_r4_b
def C.q69_r4_w := @aopsE _ _ C.q69_r4.eq_1
def C.q69_l20 : ICode := .keep [2, 3, 15, 16, 17] (.seq (.region C.q69_r4) C.q69_c19)
def C.q69_l20_w := @awpE _ _ C.q69_l20.eq_1
def C.q69_b21 : ICode := .loop C.q69_l20
def C.q69_b21_w := @awpE _ _ C.q69_b21.eq_1
def C.q69_c22 : ICode := .keep [2, 3, 15, 16, 17] (.block 0 C.q69_b21)
def C.q69_c22_w := @awpE _ _ C.q69_c22.eq_1
def C.q69_r3_b : List IOper := [
 X.m 15 0,
 X.o 16 (.len (X.s 15)),
 X.o 17 (.move (X.i 0))]
def C.q69_r3 : List IOper := C.q69_r3_b
def C.q69_r3_w := @aopsE _ _ C.q69_r3.eq_1
def C.q69_c23 : ICode := .keep [0, 2, 3] (.seq (.seq (.region C.q69_r3) C.q69_c22) C.q69_c1)
def C.q69_c23_w := @awpE _ _ C.q69_c23.eq_1
def C.q69_r2_b : List IOper := [
 X.m 12 0,
 X.o 13 (.len (X.s 12)),
 X.o 14 (.makeSlice 1 24 [.nils] (X.s 13) (X.s 13)),
 X.m 3 14]
def C.q69_r2 : List IOper := C.q69_r2_b
def C.q69_r2_w := @aopsE _ _ C.q69_r2.eq_1
def C.q69_c24 : ICode := .keep [0, 2] (.seq (.region C.q69_r2) C.q69_c23)
def C.q69_c24_w := @awpE _ _ C.q69_c24.eq_1
def C.q69_r1_b : List IOper := [
 X.m 9 0,
 X.o 10 (.len (X.s 9)),
 X.o 11 (.makeSlice 1 8 [.int .i64 0] (X.s 10) (X.s 10)),
 X.m 2 11]
def C.q69_r1 : List IOper := C.q69_r1_b
def C.q69_r1_w := @aopsE _ _ C.q69_r1.eq_1
def C.q69_c25 : ICode := .keep [0] (.seq (.region C.q69_r1) C.q69_c24)
def C.q69_c25_w := @awpE _ _ C.q69_c25.eq_1
def C.q69_r0_b : List IOper := [
 X.o 2 (.move (.cst (.nils))),
 X.o 3 (.move (.cst (.nils)))]
def C.q69_r0 : List IOper := C.q69_r0_b
def C.q69_r0_w := @aopsE _ _ C.q69_r0.eq_1
def C.q69 : IFunc := ⟨1, [.slot 2, .slot 3], .seq (.region C.q69_r0) C.q69_c25⟩
def C.q69_W := And.intro (And.intro (And.intro (And.intro (And.intro @C.q69_r16_w @C.q69_c1_w) (And.intro @C.q69_r15_w (And.intro @C.q69_c2_w @C.q69_r14_w))) (And.intro (And.intro @C.q69_c3_w @C.q69_r13_w) (And.intro @C.q69_c4_w (And.intro @C.q69_r12_w @C.q69_c5_w)))) (And.intro (And.intro (And.intro @C.q69_r11_w @C.q69_c6_w) (And.intro @C.q69_c7_w (And.intro @C.q69_r10_w @C.q69_c8_w))) (And.intro (And.intro @C.q69_r9_w @C.q69_b9_w) (And.intro @C.q69_c10_w (And.intro @C.q69_c11_w @C.q69_r8_w))))) (And.intro (And.intro (And.intro (And.intro @C.q69_b13_w @C.q69_c14_w) (And.intro @C.q69_r7_w (And.intro @C.q69_c15_w @C.q69_r6_w))) (And.intro (And.intro @C.q69_c16_w @C.q69_r5_w) (And.intro @C.q69_b17_w (And.intro @C.q69_c18_w @C.q69_c19_w)))) (And.intro (And.intro (And.intro @C.q69_r4_w @C.q69_b21_w) (And.intro @C.q69_c22_w (And.intro @C.q69_r3_w @C.q69_c23_w))) (And.intro (And.intro @C.q69_r2_w @C.q69_c24_w) (And.intro @C.q69_r1_w (And.intro @C.q69_c25_w @C.q69_r0_w)))))
def C.q69_B := And.intro (And.intro (And.intro (And.intro @C.q69_r16_b.eq_1 @C.q69_r15_b.eq_1) (And.intro @C.q69_r14_b.eq_1 @C.q69_r13_b.eq_1)) (And.intro (And.intro @C.q69_r12_b.eq_1 @C.q69_r11_b.eq_1) (And.intro @C.q69_r10_b.eq_1 @C.q69_r9_b.eq_1))) (And.intro (And.intro (And.intro @C.q69_r8_b.eq_1 @C.q69_r7_b.eq_1) (And.intro @C.q69_r6_b.eq_1 @C.q69_r5_b.eq_1)) (And.intro (And.intro @C.q69_r4_b.eq_1 @C.q69_r3_b.eq_1) (And.intro @C.q69_r2_b.eq_1 (And.intro @C.q69_r1_b.eq_1 @C.q69_r0_b.eq_1))))

def C.q71_r2_b : List IOper := [
 X.m 13 6,
 X.m 4 13]
def C.q71_r2 : List IOper := C.q71_r2_b
def C.q71_r2_w := @aopsE _ _ C.q71_r2.eq_1
def C.q71_c1 : ICode := .keep [6] (.seq (.region C.q71_r2) .ret)
def C.q71_c1_w := @awpE _ _ C.q71_c1.eq_1
def C.q71_r1_b : List IOper := [
 X.m 8 0,
 X.m 9 1,
 X.o 10 (.lookup (.agg []) true (X.s 8) (X.s 9)),
 X.m 7 10,
 X.o 11 (.extract (X.s 7) 0),
 X.o 12 (.extract (X.s 7) 1),
 X.o 5 (.alloc []),
 X.n (.storeN 0 (X.s 5) (X.s 11)),
 X.m 6 12]
def C.q71_r1 : List IOper := C.q71_r1_b
def C.q71_r1_w := @aopsE _ _ C.q71_r1.eq_1
def C.q71_c2 : ICode := .keep [0, 1] (.seq (.region C.q71_r1) C.q71_c1)
def C.q71_c2_w := @awpE _ _ C.q71_c2.eq_1
def C.q71_r0_b : List IOper := [
 X.o 4 (.move (.cst (.bool false)))]
def C.q71_r0 : List IOper := C.q71_r0_b
def C.q71_r0_w := @aopsE _ _ C.q71_r0.eq_1
def C.q71 : IFunc := ⟨2, [.slot 4], .seq (.region C.q71_r0) C.q71_c2⟩
def C.q71_W := And.intro (And.intro @C.q71_r2_w @C.q71_c1_w) (And.intro @C.q71_r1_w (And.intro @C.q71_c2_w @C.q71_r0_w))
def C.q71_B := And.intro @C.q71_r2_b.eq_1 (And.intro @C.q71_r1_b.eq_1 @C.q71_r0_b.eq_1)

def C.q70_r0_b : List IOper := [
 X.m 4 0,
 X.m 5 1,
 X.o 6 (.build [] []),
 X.n (.mapSet (X.s 4) (X.s 5) (X.s 6))]
def C.q70_r0 : List IOper := C.q70_r0_b
def C.q70_r0_w := @aopsE _ _ C.q70_r0.eq_1
def C.q70 : IFunc := ⟨2, [], .region C.q70_r0⟩
def C.q70_W := @C.q70_r0_w
def C.q70_B := @C.q70_r0_b.eq_1

end Go.Proofs.Ytkioaemhdbcfaaa.Cn
