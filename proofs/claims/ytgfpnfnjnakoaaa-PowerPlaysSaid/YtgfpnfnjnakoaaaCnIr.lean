/- The intermediate code of the functions, printed by a program out of the loaded program; that it is theirs is checked in the text of links. -/
import Derived.Test.YtgfpnfnjnakoaaaCnIr2
set_option linter.defProp false
namespace Go.Proofs.Ytgfpnfnjnakoaaa.Cn
open Go
variable {P : Program} {Q : IExit → AFr → ASt → Prop} {fr : AFr} {st : ASt}


def C.q38_r1_b : List IOper := [
 X.o 4 (.loadN 4 (X.s 1)),
 X.o 5 (.loadN 6 (X.s 2)),
 X.o 6 (.call F.q49 [X.s 4, X.s 5]),
 X.m 3 6]
def C.q38_r1 : List IOper := C.q38_r1_b
def C.q38_r1_w := @aopsE _ _ C.q38_r1.eq_1
def C.q38_c1 : ICode := .keep [1, 2] (.seq (.region C.q38_r1) .ret)
def C.q38_c1_w := @awpE _ _ C.q38_c1.eq_1
def C.q38_r0_b : List IOper := [
 X.o 2 (.boxN (X.s 0)),
 X.o 3 (.move (X.i 0))]
def C.q38_r0 : List IOper := C.q38_r0_b
def C.q38_r0_w := @aopsE _ _ C.q38_r0.eq_1
def C.q38 : IFunc := ⟨2, [.slot 3], .seq (.region C.q38_r0) C.q38_c1⟩
def C.q38_W := And.intro @C.q38_r1_w (And.intro @C.q38_c1_w @C.q38_r0_w)
def C.q38_B := And.intro @C.q38_r1_b.eq_1 @C.q38_r0_b.eq_1

def C.q49_r1_b : List IOper := [
 X.o 5 (.makeFunc F.q50 [X.s 3, X.s 2]),
 X.o 6 (.makeFunc F.q51 [X.s 3, X.s 2]),
 X.o 7 (.makeFunc F.q52 [X.s 3, X.s 2]),
 X.o 8 (.makeFunc F.q53 [X.s 3, X.s 2]),
 X.o 9 (.buildSlice 1 4 [.nilf] [(0, 1, X.s 5), (1, 1, X.s 6), (2, 1, X.s 7), (3, 1, X.s 8)]),
 X.o 10 (.call F.q63 [X.s 9]),
 X.m 4 10]
def C.q49_r1 : List IOper := C.q49_r1_b
def C.q49_r1_w := @aopsE _ _ C.q49_r1.eq_1
def C.q49_c1 : ICode := .keep [2, 3] (.seq (.region C.q49_r1) .ret)
def C.q49_c1_w := @awpE _ _ C.q49_c1.eq_1
def C.q49_r0_b : List IOper := [
 X.o 2 (.boxN (X.s 0)),
 X.o 3 (.boxN (X.s 1)),
 X.o 4 (.move (X.i 0))]
def C.q49_r0 : List IOper := C.q49_r0_b
def C.q49_r0_w := @aopsE _ _ C.q49_r0.eq_1
def C.q49 : IFunc := ⟨2, [.slot 4], .seq (.region C.q49_r0) C.q49_c1⟩
def C.q49_W := And.intro @C.q49_r1_w (And.intro @C.q49_c1_w @C.q49_r0_w)
def C.q49_B := And.intro @C.q49_r1_b.eq_1 @C.q49_r0_b.eq_1

def C.q39_r1_b : List IOper := [
 X.o 2 (.loadN 4 (X.s 0)),
 X.o 3 (.call F.q42 [X.s 2]),
 X.o 4 (.call F.q48 [X.s 3]),
 X.m 1 4]
def C.q39_r1 : List IOper := C.q39_r1_b
def C.q39_r1_w := @aopsE _ _ C.q39_r1.eq_1
def C.q39_c1 : ICode := .keep [0] (.seq (.region C.q39_r1) .ret)
def C.q39_c1_w := @awpE _ _ C.q39_c1.eq_1
def C.q39_r0_b : List IOper := [
 X.o 1 (.move (X.i 0))]
def C.q39_r0 : List IOper := C.q39_r0_b
def C.q39_r0_w := @aopsE _ _ C.q39_r0.eq_1
def C.q39 : IFunc := ⟨1, [.slot 1], .seq (.region C.q39_r0) C.q39_c1⟩
def C.q39_W := And.intro @C.q39_r1_w (And.intro @C.q39_c1_w @C.q39_r0_w)
def C.q39_B := And.intro @C.q39_r1_b.eq_1 @C.q39_r0_b.eq_1

def C.q42_r7_b : List IOper := [
 X.m 25 3,
 X.m 2 25]
def C.q42_r7 : List IOper := C.q42_r7_b
def C.q42_r7_w := @aopsE _ _ C.q42_r7.eq_1
def C.q42_c1 : ICode := .keep [3] (.seq (.region C.q42_r7) .ret)
def C.q42_c1_w := @awpE _ _ C.q42_c1.eq_1
def C.q42_r6_b : List IOper := [
 X.o 24 (.bin .add (X.s 13) (X.i 1)),
 X.m 13 24]
def C.q42_r6 : List IOper := C.q42_r6_b
def C.q42_r6_w := @aopsE _ _ C.q42_r6.eq_1
def C.q42_c2 : ICode := .keep [3, 11, 12, 13] (.region C.q42_r6)
def C.q42_c2_w := @awpE _ _ C.q42_c2.eq_1
def C.q42_r5_b : List IOper := [
 X.m 18 3,
 X.m 19 4,
 X.o 20 (.fldAddr 5 (X.s 5)),
 X.o 21 (.load1 (X.s 20)),
 X.o 22 (.call F.q67 [X.s 21]),
 X.o 23 (.idxAddr 1 (X.s 18) (X.s 19)),
 X.n (.store1 (X.s 23) (X.s 22))]
def C.q42_r5 : List IOper := C.q42_r5_b
def C.q42_r5_w := @aopsE _ _ C.q42_r5.eq_1
def C.q42_c3 : ICode := .keep [3, 4, 5, 11, 12, 13] (.region C.q42_r5)
def C.q42_c3_w := @awpE _ _ C.q42_c3.eq_1
def C.q42_r4_b : List IOper := [
 X.m 15 13,
 X.o 16 (.idxAddr 6 (X.s 11) (X.s 13)),
 X.o 17 (.loadN 6 (X.s 16)),
 X.o 5 (.alloc [.int .i64 0, .int .i64 0, .int .i64 0, .int .u32 0, .nils, .nils]),
 X.m 4 15,
 X.n (.storeN 6 (X.s 5) (X.s 17))]
def C.q42_r4 : List IOper := C.q42_r4_b
def C.q42_r4_w := @aopsE _ _ C.q42_r4.eq_1
def C.q42_b4 : ICode := .seq (.region C.q42_r4) C.q42_c3
def C.q42_b4_w := @awpE _ _ C.q42_b4.eq_1
def C.q42_c5 : ICode := .keep [3, 11, 12, 13] (.seq (.block 1 C.q42_b4) C.q42_c2)
def C.q42_c5_w := @awpE _ _ C.q42_c5.eq_1
def C.q42_c6 : ICode := .keep [3, 11, 12, 13, 14] (.seq (.cond (X.s 14) .skip (.exit 0)) C.q42_c5)
def C.q42_c6_w := @awpE _ _ C.q42_c6.eq_1
def C.q42_r3_b : List IOper := [
 X.o 14 (.bin .lss (X.s 13) (X.s 12))]
def C.q42_r3 : List IOper := C.q42_r3_b
def C.q42_r3_w := @aopsE _ _ C.q42_r3.eq_1
def C.q42_l7 : ICode := .keep [3, 11, 12, 13] (.seq (.region C.q42_r3) C.q42_c6)
def C.q42_l7_w := @awpE _ _ C.q42_l7.eq_1
def C.q42_b8 : ICode := .loop C.q42_l7
def C.q42_b8_w := @awpE _ _ C.q42_b8.eq_1
def C.q42_c9 : ICode := .keep [3, 11, 12, 13] (.block 0 C.q42_b8)
def C.q42_c9_w := @awpE _ _ C.q42_c9.eq_1
def C.q42_r2_b : List IOper := [
 X.o 10 (.fldAddr 3 (X.s 1)),
 X.o 11 (.load1 (X.s 10)),
 X.o 12 (.len (X.s 11)),
 X.o 13 (.move (X.i 0))]
def C.q42_r2 : List IOper := C.q42_r2_b
def C.q42_r2_w := @aopsE _ _ C.q42_r2.eq_1
def C.q42_c10 : ICode := .keep [1, 3] (.seq (.seq (.region C.q42_r2) C.q42_c9) C.q42_c1)
def C.q42_c10_w := @awpE _ _ C.q42_c10.eq_1
def C.q42_r1_b : List IOper := [
 X.o 6 (.fldAddr 3 (X.s 1)),
 X.o 7 (.load1 (X.s 6)),
 X.o 8 (.len (X.s 7)),
 X.o 9 (.makeSlice 1 24 [.nils] (X.s 8) (X.s 8)),
 X.m 3 9]
def C.q42_r1 : List IOper := C.q42_r1_b
def C.q42_r1_w := @aopsE _ _ C.q42_r1.eq_1
def C.q42_c11 : ICode := .keep [1] (.seq (.region C.q42_r1) C.q42_c10)
def C.q42_c11_w := @awpE _ _ C.q42_c11.eq_1
def C.q42_r0_b : List IOper := [
 X.o 1 (.boxN (X.s 0)),
 X.o 2 (.move (.cst (.nils)))]
def C.q42_r0 : List IOper := C.q42_r0_b
def C.q42_r0_w := @aopsE _ _ C.q42_r0.eq_1
def C.q42 : IFunc := ⟨1, [.slot 2], .seq (.region C.q42_r0) C.q42_c11⟩
def C.q42_W := And.intro (And.intro (And.intro (And.intro @C.q42_r7_w @C.q42_c1_w) (And.intro @C.q42_r6_w @C.q42_c2_w)) (And.intro (And.intro @C.q42_r5_w @C.q42_c3_w) (And.intro @C.q42_r4_w (And.intro @C.q42_b4_w @C.q42_c5_w)))) (And.intro (And.intro (And.intro @C.q42_c6_w @C.q42_r3_w) (And.intro @C.q42_b8_w @C.q42_c9_w)) (And.intro (And.intro @C.q42_r2_w @C.q42_c10_w) (And.intro @C.q42_r1_w (And.intro @C.q42_c11_w @C.q42_r0_w))))
def C.q42_B := And.intro (And.intro (And.intro @C.q42_r7_b.eq_1 @C.q42_r6_b.eq_1) (And.intro @C.q42_r5_b.eq_1 @C.q42_r4_b.eq_1)) (And.intro (And.intro @C.q42_r3_b.eq_1 @C.q42_r2_b.eq_1) (And.intro @C.q42_r1_b.eq_1 @C.q42_r0_b.eq_1))

def C.q14_r8_b : List IOper := [
 X.o 2 (.move (.cst (.bool true)))]
def C.q14_r8 : List IOper := C.q14_r8_b
def C.q14_r8_w := @aopsE _ _ C.q14_r8.eq_1
def C.q14_c1 : ICode := .keep [] (.seq (.region C.q14_r8) .ret)
def C.q14_c1_w := @awpE _ _ C.q14_c1.eq_1
def C.q14_r5_b : List IOper := [
 X.m 31 3,
 X.o 32 (.bin .add (X.s 31) (X.i 1)),
 X.m 3 32]
def C.q14_r5 : List IOper := C.q14_r5_b
def C.q14_r5_w := @aopsE _ _ C.q14_r5.eq_1
def C.q14_c2 : ICode := .keep [1, 3] (.region C.q14_r5)
def C.q14_c2_w := @awpE _ _ C.q14_c2.eq_1
def C.q14_r7_b : List IOper := [
 X.o 2 (.move (.cst (.bool false)))]
def C.q14_r7 : List IOper := C.q14_r7_b
def C.q14_r7_w := @aopsE _ _ C.q14_r7.eq_1
def C.q14_c3 : ICode := .seq (.region C.q14_r7) .ret
def C.q14_c3_w := @awpE _ _ C.q14_c3.eq_1
def C.q14_c4 : ICode := .keep [1, 3, 50] (.cond (X.s 50) C.q14_c3 .skip)
def C.q14_c4_w := @awpE _ _ C.q14_c4.eq_1
def C.q14_r6_b : List IOper := [
 X.o 33 (.fldAddr 3 (X.s 1)),
 X.o 34 (.load1 (X.s 33)),
 X.m 35 3,
 X.o 36 (.idxAddr 6 (X.s 34) (X.s 35)),
 X.o 37 (.fldAddr 4 (X.s 36)),
 X.o 38 (.load1 (X.s 37)),
 X.o 39 (.len (X.s 38)),
 X.o 40 (.bin .gtr (X.s 39) (X.i 8)),
 X.m 41 40,
 X.f 41 42 (.fldAddr 3 (X.s 1)),
 X.f 41 43 (.load1 (X.s 42)),
 X.f 41 44 (.move (X.s 3)),
 X.f 41 45 (.idxAddr 6 (X.s 43) (X.s 44)),
 X.f 41 46 (.fldAddr 5 (X.s 45)),
 X.f 41 47 (.load1 (X.s 46)),
 X.f 41 48 (.len (X.s 47)),
 X.f 41 49 (.bin .gtr (X.s 48) (X.i 6)),
 X.o 50 (.pick (X.s 41) (.cst (.bool true)) (X.s 49))]
def C.q14_r6 : List IOper := C.q14_r6_b
def C.q14_r6_w := @aopsE _ _ C.q14_r6.eq_1
def C.q14_b5 : ICode := .seq (.region C.q14_r6) C.q14_c4
def C.q14_b5_w := @awpE _ _ C.q14_b5.eq_1
def C.q14_c6 : ICode := .keep [1, 3] (.seq (.block 1 C.q14_b5) C.q14_c2)
def C.q14_c6_w := @awpE _ _ C.q14_c6.eq_1
def C.q14_c7 : ICode := .keep [1, 3, 30] (.cond (X.s 30) .skip (.exit 0))
def C.q14_c7_w := @awpE _ _ C.q14_c7.eq_1
def C.q14_r4_b : List IOper := [
 X.m 26 3,
 X.o 27 (.fldAddr 3 (X.s 1)),
 X.o 28 (.load1 (X.s 27)),
 X.o 29 (.len (X.s 28)),
 X.o 30 (.bin .lss (X.s 26) (X.s 29))]
def C.q14_r4 : List IOper := C.q14_r4_b
def C.q14_r4_w := @aopsE _ _ C.q14_r4.eq_1
def C.q14_l8 : ICode := .keep [1, 3] (.seq (.seq (.region C.q14_r4) C.q14_c7) C.q14_c6)
def C.q14_l8_w := @awpE _ _ C.q14_l8.eq_1
def C.q14_b9 : ICode := .loop C.q14_l8
def C.q14_b9_w := @awpE _ _ C.q14_b9.eq_1
def C.q14_c10 : ICode := .keep [1, 3] (.block 0 C.q14_b9)
def C.q14_c10_w := @awpE _ _ C.q14_c10.eq_1
def C.q14_r3_b : List IOper := [
 X.o 3 (.move (X.i 0))]
def C.q14_r3 : List IOper := C.q14_r3_b
def C.q14_r3_w := @aopsE _ _ C.q14_r3.eq_1
def C.q14_c11 : ICode := .keep [1] (.seq (.seq (.region C.q14_r3) C.q14_c10) C.q14_c1)
def C.q14_c11_w := @awpE _ _ C.q14_c11.eq_1
def C.q14_r2_b : List IOper := [
 X.o 2 (.move (.cst (.bool false)))]
def C.q14_r2 : List IOper := C.q14_r2_b
def C.q14_r2_w := @aopsE _ _ C.q14_r2.eq_1
def C.q14_c12 : ICode := .seq (.region C.q14_r2) .ret
def C.q14_c12_w := @awpE _ _ C.q14_c12.eq_1
def C.q14_c13 : ICode := .keep [1, 25] (.cond (X.s 25) C.q14_c12 .skip)
def C.q14_c13_w := @awpE _ _ C.q14_c13.eq_1
def C.q14_r1_b : List IOper := [
 X.o 4 (.fldAddr 0 (X.s 1)),
 X.o 5 (.load1 (X.s 4)),
 X.o 6 (.len (X.s 5)),
 X.o 7 (.bin .gtr (X.s 6) (X.i 12)),
 X.m 8 7,
 X.f 8 9 (.fldAddr 1 (X.s 1)),
 X.f 8 10 (.load1 (X.s 9)),
 X.f 8 11 (.len (X.s 10)),
 X.f 8 12 (.bin .gtr (X.s 11) (X.i 6)),
 X.o 13 (.pick (X.s 8) (.cst (.bool true)) (X.s 12)),
 X.m 14 13,
 X.f 14 15 (.fldAddr 2 (X.s 1)),
 X.f 14 16 (.load1 (X.s 15)),
 X.f 14 17 (.len (X.s 16)),
 X.f 14 18 (.bin .gtr (X.s 17) (X.i 6)),
 X.o 19 (.pick (X.s 14) (.cst (.bool true)) (X.s 18)),
 X.m 20 19,
 X.f 20 21 (.fldAddr 3 (X.s 1)),
 X.f 20 22 (.load1 (X.s 21)),
 X.f 20 23 (.len (X.s 22)),
 X.f 20 24 (.bin .gtr (X.s 23) (X.i 6)),
 X.o 25 (.pick (X.s 20) (.cst (.bool true)) (X.s 24))]
def C.q14_r1 : List IOper := C.q14_r1_b
def C.q14_r1_w := @aopsE _ _ C.q14_r1.eq_1
def C.q14_c14 : ICode := .keep [1] (.seq (.seq (.region C.q14_r1) C.q14_c13) C.q14_c11)
def C.q14_c14_w := @awpE _ _ C.q14_c14.eq_1
def C.q14_r0_b : List IOper := [
 X.o 1 (.boxN (X.s 0)),
 X.o 2 (.move (.cst (.bool false)))]
def C.q14_r0 : List IOper := C.q14_r0_b
def C.q14_r0_w := @aopsE _ _ C.q14_r0.eq_1
def C.q14 : IFunc := ⟨1, [.slot 2], .seq (.region C.q14_r0) C.q14_c14⟩
def C.q14_W := And.intro (And.intro (And.intro (And.intro @C.q14_r8_w @C.q14_c1_w) (And.intro @C.q14_r5_w (And.intro @C.q14_c2_w @C.q14_r7_w))) (And.intro (And.intro @C.q14_c3_w (And.intro @C.q14_c4_w @C.q14_r6_w)) (And.intro @C.q14_b5_w (And.intro @C.q14_c6_w @C.q14_c7_w)))) (And.intro (And.intro (And.intro @C.q14_r4_w @C.q14_b9_w) (And.intro @C.q14_c10_w (And.intro @C.q14_r3_w @C.q14_c11_w))) (And.intro (And.intro @C.q14_r2_w (And.intro @C.q14_c12_w @C.q14_c13_w)) (And.intro @C.q14_r1_w (And.intro @C.q14_c14_w @C.q14_r0_w))))
def C.q14_B := And.intro (And.intro (And.intro @C.q14_r8_b.eq_1 @C.q14_r5_b.eq_1) (And.intro @C.q14_r7_b.eq_1 @C.q14_r6_b.eq_1)) (And.intro (And.intro @C.q14_r4_b.eq_1 @C.q14_r3_b.eq_1) (And.intro @C.q14_r2_b.eq_1 (And.intro @C.q14_r1_b.eq_1 @C.q14_r0_b.eq_1)))

def C.q13_r7_b : List IOper := [
 X.o 24 (.loadN 4 (X.s 1)),
 X.o 25 (.call F.q9 [X.s 24]),
 X.o 26 (.call F.q6 [X.s 25]),
 X.m 2 26]
def C.q13_r7 : List IOper := C.q13_r7_b
def C.q13_r7_w := @aopsE _ _ C.q13_r7.eq_1
def C.q13_c1 : ICode := .keep [1] (.seq (.region C.q13_r7) .ret)
def C.q13_c1_w := @awpE _ _ C.q13_c1.eq_1
def C.q13_r3_b : List IOper := [
 X.m 10 3,
 X.o 11 (.bin .add (X.s 10) (X.i 1)),
 X.m 3 11]
def C.q13_r3 : List IOper := C.q13_r3_b
def C.q13_r3_w := @aopsE _ _ C.q13_r3.eq_1
def C.q13_c2 : ICode := .keep [1, 3] (.region C.q13_r3)
def C.q13_c2_w := @awpE _ _ C.q13_c2.eq_1
def C.q13_r6_b : List IOper := [
 X.m 23 4,
 X.m 2 23]
def C.q13_r6 : List IOper := C.q13_r6_b
def C.q13_r6_w := @aopsE _ _ C.q13_r6.eq_1
def C.q13_c3 : ICode := .seq (.region C.q13_r6) .ret
def C.q13_c3_w := @awpE _ _ C.q13_c3.eq_1
def C.q13_c4 : ICode := .keep [1, 3, 4, 22] (.cond (X.s 22) C.q13_c3 .skip)
def C.q13_c4_w := @awpE _ _ C.q13_c4.eq_1
def C.q13_r5_b : List IOper := [
 X.m 21 4,
 X.o 22 (.bin .neq (X.s 21) (X.i 0))]
def C.q13_r5 : List IOper := C.q13_r5_b
def C.q13_r5_w := @aopsE _ _ C.q13_r5.eq_1
def C.q13_c5 : ICode := .keep [1, 3, 4] (.seq (.region C.q13_r5) C.q13_c4)
def C.q13_c5_w := @awpE _ _ C.q13_c5.eq_1
def C.q13_r4_b : List IOper := [
 X.o 12 (.fldAddr 0 (X.s 1)),
 X.o 13 (.load1 (X.s 12)),
 X.m 14 3,
 X.o 15 (.idxAddr 6 (X.s 13) (X.s 14)),
 X.o 16 (.loadN 6 (X.s 15)),
 X.o 17 (.fldAddr 0 (X.s 1)),
 X.o 18 (.load1 (X.s 17)),
 X.o 19 (.len (X.s 18)),
 X.o 20 (.call F.q12 [X.s 16, X.s 19]),
 X.m 4 20]
def C.q13_r4 : List IOper := C.q13_r4_b
def C.q13_r4_w := @aopsE _ _ C.q13_r4.eq_1
def C.q13_b6 : ICode := .seq (.region C.q13_r4) C.q13_c5
def C.q13_b6_w := @awpE _ _ C.q13_b6.eq_1
def C.q13_c7 : ICode := .keep [1, 3] (.seq (.block 1 C.q13_b6) C.q13_c2)
def C.q13_c7_w := @awpE _ _ C.q13_c7.eq_1
def C.q13_c8 : ICode := .keep [1, 3, 9] (.cond (X.s 9) .skip (.exit 0))
def C.q13_c8_w := @awpE _ _ C.q13_c8.eq_1
def C.q13_r2_b : List IOper := [
 X.m 5 3,
 X.o 6 (.fldAddr 0 (X.s 1)),
 X.o 7 (.load1 (X.s 6)),
 X.o 8 (.len (X.s 7)),
 X.o 9 (.bin .lss (X.s 5) (X.s 8))]
def C.q13_r2 : List IOper := C.q13_r2_b
def C.q13_r2_w := @aopsE _ _ C.q13_r2.eq_1
def C.q13_l9 : ICode := .keep [1, 3] (.seq (.seq (.region C.q13_r2) C.q13_c8) C.q13_c7)
def C.q13_l9_w := @awpE _ _ C.q13_l9.eq_1
def C.q13_b10 : ICode := .loop C.q13_l9
def C.q13_b10_w := @awpE _ _ C.q13_b10.eq_1
def C.q13_c11 : ICode := .keep [1, 3] (.block 0 C.q13_b10)
def C.q13_c11_w := @awpE _ _ C.q13_c11.eq_1
def C.q13_r1_b : List IOper := [
 X.o 3 (.move (X.i 0))]
def C.q13_r1 : List IOper := C.q13_r1_b
def C.q13_r1_w := @aopsE _ _ C.q13_r1.eq_1
def C.q13_c12 : ICode := .keep [1] (.seq (.seq (.region C.q13_r1) C.q13_c11) C.q13_c1)
def C.q13_c12_w := @awpE _ _ C.q13_c12.eq_1
def C.q13_r0_b : List IOper := [
 X.o 1 (.boxN (X.s 0)),
 X.o 2 (.move (X.i 0))]
def C.q13_r0 : List IOper := C.q13_r0_b
def C.q13_r0_w := @aopsE _ _ C.q13_r0.eq_1
def C.q13 : IFunc := ⟨1, [.slot 2], .seq (.region C.q13_r0) C.q13_c12⟩
def C.q13_W := And.intro (And.intro (And.intro (And.intro @C.q13_r7_w @C.q13_c1_w) (And.intro @C.q13_r3_w @C.q13_c2_w)) (And.intro (And.intro @C.q13_r6_w @C.q13_c3_w) (And.intro @C.q13_c4_w (And.intro @C.q13_r5_w @C.q13_c5_w)))) (And.intro (And.intro (And.intro @C.q13_r4_w @C.q13_b6_w) (And.intro @C.q13_c7_w (And.intro @C.q13_c8_w @C.q13_r2_w))) (And.intro (And.intro @C.q13_b10_w @C.q13_c11_w) (And.intro @C.q13_r1_w (And.intro @C.q13_c12_w @C.q13_r0_w))))
def C.q13_B := And.intro (And.intro (And.intro @C.q13_r7_b.eq_1 @C.q13_r3_b.eq_1) (And.intro @C.q13_r6_b.eq_1 @C.q13_r5_b.eq_1)) (And.intro (And.intro @C.q13_r4_b.eq_1 @C.q13_r2_b.eq_1) (And.intro @C.q13_r1_b.eq_1 @C.q13_r0_b.eq_1))

def C.q16_r9_b : List IOper := [
 X.o 33 (.loadN 4 (X.s 1)),
 X.o 34 (.call F.q10 [X.s 33]),
 X.o 35 (.call F.q6 [X.s 34]),
 X.m 2 35]
def C.q16_r9 : List IOper := C.q16_r9_b
def C.q16_r9_w := @aopsE _ _ C.q16_r9.eq_1
def C.q16_c1 : ICode := .keep [1] (.seq (.region C.q16_r9) .ret)
def C.q16_c1_w := @awpE _ _ C.q16_c1.eq_1
def C.q16_r3_b : List IOper := [
 X.m 10 3,
 X.o 11 (.bin .add (X.s 10) (X.i 1)),
 X.m 3 11]
def C.q16_r3 : List IOper := C.q16_r3_b
def C.q16_r3_w := @aopsE _ _ C.q16_r3.eq_1
def C.q16_c2 : ICode := .keep [1, 3] (.region C.q16_r3)
def C.q16_c2_w := @awpE _ _ C.q16_c2.eq_1
def C.q16_r8_b : List IOper := [
 X.o 2 (.move (X.i 3))]
def C.q16_r8 : List IOper := C.q16_r8_b
def C.q16_r8_w := @aopsE _ _ C.q16_r8.eq_1
def C.q16_c3 : ICode := .seq (.region C.q16_r8) .ret
def C.q16_c3_w := @awpE _ _ C.q16_c3.eq_1
def C.q16_c4 : ICode := .keep [1, 3, 32] (.cond (X.s 32) C.q16_c3 .skip)
def C.q16_c4_w := @awpE _ _ C.q16_c4.eq_1
def C.q16_r7_b : List IOper := [
 X.o 29 (.fldAddr 1 (X.s 4)),
 X.o 30 (.load1 (X.s 29)),
 X.o 31 (.call F.q18 [X.s 30, X.i 0, X.i 20]),
 X.o 32 (.un .not (X.s 31))]
def C.q16_r7 : List IOper := C.q16_r7_b
def C.q16_r7_w := @aopsE _ _ C.q16_r7.eq_1
def C.q16_c5 : ICode := .keep [1, 3, 4] (.seq (.region C.q16_r7) C.q16_c4)
def C.q16_c5_w := @awpE _ _ C.q16_c5.eq_1
def C.q16_r6_b : List IOper := [
 X.o 2 (.move (X.i 4))]
def C.q16_r6 : List IOper := C.q16_r6_b
def C.q16_r6_w := @aopsE _ _ C.q16_r6.eq_1
def C.q16_c6 : ICode := .seq (.region C.q16_r6) .ret
def C.q16_c6_w := @awpE _ _ C.q16_c6.eq_1
def C.q16_c7 : ICode := .keep [1, 3, 4, 28] (.cond (X.s 28) C.q16_c6 .skip)
def C.q16_c7_w := @awpE _ _ C.q16_c7.eq_1
def C.q16_r5_b : List IOper := [
 X.o 17 (.fldAddr 0 (X.s 4)),
 X.o 18 (.load1 (X.s 17)),
 X.o 19 (.bin .neq (X.s 18) (X.i (-1))),
 X.m 20 19,
 X.t 20 21 (.fldAddr 0 (X.s 4)),
 X.t 20 22 (.load1 (X.s 21)),
 X.t 20 23 (.fldAddr 1 (X.s 1)),
 X.t 20 24 (.load1 (X.s 23)),
 X.t 20 25 (.len (X.s 24)),
 X.t 20 26 (.call F.q17 [X.s 22, X.s 25]),
 X.t 20 27 (.un .not (X.s 26)),
 X.o 28 (.pick (X.s 20) (X.s 27) (.cst (.bool false)))]
def C.q16_r5 : List IOper := C.q16_r5_b
def C.q16_r5_w := @aopsE _ _ C.q16_r5.eq_1
def C.q16_c8 : ICode := .keep [1, 3, 4] (.seq (.seq (.region C.q16_r5) C.q16_c7) C.q16_c5)
def C.q16_c8_w := @awpE _ _ C.q16_c8.eq_1
def C.q16_r4_b : List IOper := [
 X.o 12 (.fldAddr 1 (X.s 1)),
 X.o 13 (.load1 (X.s 12)),
 X.m 14 3,
 X.o 15 (.idxAddr 3 (X.s 13) (X.s 14)),
 X.o 16 (.loadN 3 (X.s 15)),
 X.o 4 (.alloc [.int .i64 0, .int .i64 0, .bool false]),
 X.n (.storeN 3 (X.s 4) (X.s 16))]
def C.q16_r4 : List IOper := C.q16_r4_b
def C.q16_r4_w := @aopsE _ _ C.q16_r4.eq_1
def C.q16_b9 : ICode := .seq (.region C.q16_r4) C.q16_c8
def C.q16_b9_w := @awpE _ _ C.q16_b9.eq_1
def C.q16_c10 : ICode := .keep [1, 3] (.seq (.block 1 C.q16_b9) C.q16_c2)
def C.q16_c10_w := @awpE _ _ C.q16_c10.eq_1
def C.q16_c11 : ICode := .keep [1, 3, 9] (.cond (X.s 9) .skip (.exit 0))
def C.q16_c11_w := @awpE _ _ C.q16_c11.eq_1
def C.q16_r2_b : List IOper := [
 X.m 5 3,
 X.o 6 (.fldAddr 1 (X.s 1)),
 X.o 7 (.load1 (X.s 6)),
 X.o 8 (.len (X.s 7)),
 X.o 9 (.bin .lss (X.s 5) (X.s 8))]
def C.q16_r2 : List IOper := C.q16_r2_b
def C.q16_r2_w := @aopsE _ _ C.q16_r2.eq_1
def C.q16_l12 : ICode := .keep [1, 3] (.seq (.seq (.region C.q16_r2) C.q16_c11) C.q16_c10)
def C.q16_l12_w := @awpE _ _ C.q16_l12.eq_1
def C.q16_b13 : ICode := .loop C.q16_l12
def C.q16_b13_w := @awpE _ _ C.q16_b13.eq_1
def C.q16_c14 : ICode := .keep [1, 3] (.block 0 C.q16_b13)
def C.q16_c14_w := @awpE _ _ C.q16_c14.eq_1
def C.q16_r1_b : List IOper := [
 X.o 3 (.move (X.i 0))]
def C.q16_r1 : List IOper := C.q16_r1_b
def C.q16_r1_w := @aopsE _ _ C.q16_r1.eq_1
def C.q16_c15 : ICode := .keep [1] (.seq (.seq (.region C.q16_r1) C.q16_c14) C.q16_c1)
def C.q16_c15_w := @awpE _ _ C.q16_c15.eq_1
def C.q16_r0_b : List IOper := [
 X.o 1 (.boxN (X.s 0)),
 X.o 2 (.move (X.i 0))]
def C.q16_r0 : List IOper := C.q16_r0_b
def C.q16_r0_w := @aopsE _ _ C.q16_r0.eq_1
def C.q16 : IFunc := ⟨1, [.slot 2], .seq (.region C.q16_r0) C.q16_c15⟩
def C.q16_W := And.intro (And.intro (And.intro (And.intro @C.q16_r9_w (And.intro @C.q16_c1_w @C.q16_r3_w)) (And.intro @C.q16_c2_w (And.intro @C.q16_r8_w @C.q16_c3_w))) (And.intro (And.intro @C.q16_c4_w (And.intro @C.q16_r7_w @C.q16_c5_w)) (And.intro @C.q16_r6_w (And.intro @C.q16_c6_w @C.q16_c7_w)))) (And.intro (And.intro (And.intro @C.q16_r5_w (And.intro @C.q16_c8_w @C.q16_r4_w)) (And.intro @C.q16_b9_w (And.intro @C.q16_c10_w @C.q16_c11_w))) (And.intro (And.intro @C.q16_r2_w (And.intro @C.q16_b13_w @C.q16_c14_w)) (And.intro @C.q16_r1_w (And.intro @C.q16_c15_w @C.q16_r0_w))))
def C.q16_B := And.intro (And.intro (And.intro @C.q16_r9_b.eq_1 @C.q16_r3_b.eq_1) (And.intro @C.q16_r8_b.eq_1 (And.intro @C.q16_r7_b.eq_1 @C.q16_r6_b.eq_1))) (And.intro (And.intro @C.q16_r5_b.eq_1 @C.q16_r4_b.eq_1) (And.intro @C.q16_r2_b.eq_1 (And.intro @C.q16_r1_b.eq_1 @C.q16_r0_b.eq_1)))

def C.q18_r1_b : List IOper := [
 X.m 7 0,
 X.m 8 1,
 X.o 9 (.bin .geq (X.s 7) (X.s 8)),
 X.m 10 9,
 X.t 10 11 (.move (X.s 0)),
 X.t 10 12 (.move (X.s 2)),
 X.t 10 13 (.bin .leq (X.s 11) (X.s 12)),
 X.o 14 (.pick (X.s 10) (X.s 13) (.cst (.bool false))),
 X.m 6 14]
def C.q18_r1 : List IOper := C.q18_r1_b
def C.q18_r1_w := @aopsE _ _ C.q18_r1.eq_1
def C.q18_c1 : ICode := .keep [0, 1, 2] (.seq (.region C.q18_r1) .ret)
def C.q18_c1_w := @awpE _ _ C.q18_c1.eq_1
def C.q18_r0_b : List IOper := [
 X.o 6 (.move (.cst (.bool false)))]
def C.q18_r0 : List IOper := C.q18_r0_b
def C.q18_r0_w := @aopsE _ _ C.q18_r0.eq_1
def C.q18 : IFunc := ⟨3, [.slot 6], .seq (.region C.q18_r0) C.q18_c1⟩
def C.q18_W := And.intro @C.q18_r1_w (And.intro @C.q18_c1_w @C.q18_r0_w)
def C.q18_B := And.intro @C.q18_r1_b.eq_1 @C.q18_r0_b.eq_1

def C.q15_r12_b : List IOper := [
 X.o 60 (.loadN 4 (X.s 1)),
 X.o 61 (.call F.q11 [X.s 60]),
 X.o 62 (.call F.q6 [X.s 61]),
 X.m 2 62]
def C.q15_r12 : List IOper := C.q15_r12_b
def C.q15_r12_w := @aopsE _ _ C.q15_r12.eq_1
def C.q15_c1 : ICode := .keep [1] (.seq (.region C.q15_r12) .ret)
def C.q15_c1_w := @awpE _ _ C.q15_c1.eq_1
def C.q15_r3_b : List IOper := [
 X.m 11 3,
 X.o 12 (.bin .add (X.s 11) (X.i 1)),
 X.m 3 12]
def C.q15_r3 : List IOper := C.q15_r3_b
def C.q15_r3_w := @aopsE _ _ C.q15_r3.eq_1
def C.q15_c2 : ICode := .keep [1, 3] (.region C.q15_r3)
def C.q15_c2_w := @awpE _ _ C.q15_c2.eq_1
def C.q15_r9_b : List IOper := [
 X.m 48 5,
 X.o 49 (.bin .add (X.s 48) (X.i 1)),
 X.m 5 49]
def C.q15_r9 : List IOper := C.q15_r9_b
def C.q15_r9_w := @aopsE _ _ C.q15_r9.eq_1
def C.q15_c3 : ICode := .keep [1, 3, 4, 5] (.region C.q15_r9)
def C.q15_c3_w := @awpE _ _ C.q15_c3.eq_1
def C.q15_r11_b : List IOper := [
 X.o 2 (.move (X.i 4))]
def C.q15_r11 : List IOper := C.q15_r11_b
def C.q15_r11_w := @aopsE _ _ C.q15_r11.eq_1
def C.q15_c4 : ICode := .seq (.region C.q15_r11) .ret
def C.q15_c4_w := @awpE _ _ C.q15_c4.eq_1
def C.q15_c5 : ICode := .keep [1, 3, 4, 5, 59] (.cond (X.s 59) C.q15_c4 .skip)
def C.q15_c5_w := @awpE _ _ C.q15_c5.eq_1
def C.q15_r10_b : List IOper := [
 X.o 50 (.fldAddr 5 (X.s 4)),
 X.o 51 (.load1 (X.s 50)),
 X.m 52 5,
 X.o 53 (.idxAddr 1 (X.s 51) (X.s 52)),
 X.o 54 (.load1 (X.s 53)),
 X.o 55 (.fldAddr 3 (X.s 1)),
 X.o 56 (.load1 (X.s 55)),
 X.o 57 (.len (X.s 56)),
 X.o 58 (.call F.q17 [X.s 54, X.s 57]),
 X.o 59 (.un .not (X.s 58))]
def C.q15_r10 : List IOper := C.q15_r10_b
def C.q15_r10_w := @aopsE _ _ C.q15_r10.eq_1
def C.q15_b6 : ICode := .seq (.region C.q15_r10) C.q15_c5
def C.q15_b6_w := @awpE _ _ C.q15_b6.eq_1
def C.q15_c7 : ICode := .keep [1, 3, 4, 5] (.seq (.block 3 C.q15_b6) C.q15_c3)
def C.q15_c7_w := @awpE _ _ C.q15_c7.eq_1
def C.q15_c8 : ICode := .keep [1, 3, 4, 5, 47] (.cond (X.s 47) .skip (.exit 2))
def C.q15_c8_w := @awpE _ _ C.q15_c8.eq_1
def C.q15_r8_b : List IOper := [
 X.m 43 5,
 X.o 44 (.fldAddr 5 (X.s 4)),
 X.o 45 (.load1 (X.s 44)),
 X.o 46 (.len (X.s 45)),
 X.o 47 (.bin .lss (X.s 43) (X.s 46))]
def C.q15_r8 : List IOper := C.q15_r8_b
def C.q15_r8_w := @aopsE _ _ C.q15_r8.eq_1
def C.q15_l9 : ICode := .keep [1, 3, 4, 5] (.seq (.seq (.region C.q15_r8) C.q15_c8) C.q15_c7)
def C.q15_l9_w := @awpE _ _ C.q15_l9.eq_1
def C.q15_b10 : ICode := .loop C.q15_l9
def C.q15_b10_w := @awpE _ _ C.q15_b10.eq_1
def C.q15_c11 : ICode := .keep [1, 3, 4, 5] (.block 2 C.q15_b10)
def C.q15_c11_w := @awpE _ _ C.q15_c11.eq_1
def C.q15_r7_b : List IOper := [
 X.o 5 (.move (X.i 0))]
def C.q15_r7 : List IOper := C.q15_r7_b
def C.q15_r7_w := @aopsE _ _ C.q15_r7.eq_1
def C.q15_c12 : ICode := .keep [1, 3, 4] (.seq (.region C.q15_r7) C.q15_c11)
def C.q15_c12_w := @awpE _ _ C.q15_c12.eq_1
def C.q15_r6_b : List IOper := [
 X.o 2 (.move (X.i 4))]
def C.q15_r6 : List IOper := C.q15_r6_b
def C.q15_r6_w := @aopsE _ _ C.q15_r6.eq_1
def C.q15_c13 : ICode := .seq (.region C.q15_r6) .ret
def C.q15_c13_w := @awpE _ _ C.q15_c13.eq_1
def C.q15_c14 : ICode := .keep [1, 3, 4, 42] (.cond (X.s 42) C.q15_c13 .skip)
def C.q15_c14_w := @awpE _ _ C.q15_c14.eq_1
def C.q15_r5_b : List IOper := [
 X.o 18 (.fldAddr 0 (X.s 4)),
 X.o 19 (.load1 (X.s 18)),
 X.o 20 (.fldAddr 0 (X.s 1)),
 X.o 21 (.load1 (X.s 20)),
 X.o 22 (.len (X.s 21)),
 X.o 23 (.call F.q17 [X.s 19, X.s 22]),
 X.o 24 (.un .not (X.s 23)),
 X.m 25 24,
 X.f 25 26 (.fldAddr 1 (X.s 4)),
 X.f 25 27 (.load1 (X.s 26)),
 X.f 25 28 (.fldAddr 1 (X.s 1)),
 X.f 25 29 (.load1 (X.s 28)),
 X.f 25 30 (.len (X.s 29)),
 X.f 25 31 (.call F.q17 [X.s 27, X.s 30]),
 X.f 25 32 (.un .not (X.s 31)),
 X.o 33 (.pick (X.s 25) (.cst (.bool true)) (X.s 32)),
 X.m 34 33,
 X.f 34 35 (.fldAddr 2 (X.s 4)),
 X.f 34 36 (.load1 (X.s 35)),
 X.f 34 37 (.fldAddr 2 (X.s 1)),
 X.f 34 38 (.load1 (X.s 37)),
 X.f 34 39 (.len (X.s 38)),
 X.f 34 40 (.call F.q17 [X.s 36, X.s 39]),
 X.f 34 41 (.un .not (X.s 40)),
 X.o 42 (.pick (X.s 34) (.cst (.bool true)) (X.s 41))]
def C.q15_r5 : List IOper := C.q15_r5_b
def C.q15_r5_w := @aopsE _ _ C.q15_r5.eq_1
def C.q15_c15 : ICode := .keep [1, 3, 4] (.seq (.seq (.region C.q15_r5) C.q15_c14) C.q15_c12)
def C.q15_c15_w := @awpE _ _ C.q15_c15.eq_1
def C.q15_r4_b : List IOper := [
 X.o 13 (.fldAddr 3 (X.s 1)),
 X.o 14 (.load1 (X.s 13)),
 X.m 15 3,
 X.o 16 (.idxAddr 6 (X.s 14) (X.s 15)),
 X.o 17 (.loadN 6 (X.s 16)),
 X.o 4 (.alloc [.int .i64 0, .int .i64 0, .int .i64 0, .int .u32 0, .nils, .nils]),
 X.n (.storeN 6 (X.s 4) (X.s 17))]
def C.q15_r4 : List IOper := C.q15_r4_b
def C.q15_r4_w := @aopsE _ _ C.q15_r4.eq_1
def C.q15_b16 : ICode := .seq (.region C.q15_r4) C.q15_c15
def C.q15_b16_w := @awpE _ _ C.q15_b16.eq_1
def C.q15_c17 : ICode := .keep [1, 3] (.seq (.block 1 C.q15_b16) C.q15_c2)
def C.q15_c17_w := @awpE _ _ C.q15_c17.eq_1
def C.q15_c18 : ICode := .keep [1, 3, 10] (.cond (X.s 10) .skip (.exit 0))
def C.q15_c18_w := @awpE _ _ C.q15_c18.eq_1
def C.q15_r2_b : List IOper := [
 X.m 6 3,
 X.o 7 (.fldAddr 3 (X.s 1)),
 X.o 8 (.load1 (X.s 7)),
 X.o 9 (.len (X.s 8)),
 X.o 10 (.bin .lss (X.s 6) (X.s 9))]
def C.q15_r2 : List IOper := C.q15_r2_b
def C.q15_r2_w := @aopsE _ _ C.q15_r2.eq_1
def C.q15_l19 : ICode := .keep [1, 3] (.seq (.seq (.region C.q15_r2) C.q15_c18) C.q15_c17)
def C.q15_l19_w := @awpE _ _ C.q15_l19.eq_1
def C.q15_b20 : ICode := .loop C.q15_l19
def C.q15_b20_w := @awpE _ _ C.q15_b20.eq_1
def C.q15_c21 : ICode := .keep [1, 3] (.block 0 C.q15_b20)
def C.q15_c21_w := @awpE _ _ C.q15_c21.eq_1
def C.q15_r1_b : List IOper := [
 X.o 3 (.move (X.i 0))]
def C.q15_r1 : List IOper := C.q15_r1_b
def C.q15_r1_w := @aopsE _ _ C.q15_r1.eq_1
def C.q15_c22 : ICode := .keep [1] (.seq (.seq (.region C.q15_r1) C.q15_c21) C.q15_c1)
def C.q15_c22_w := @awpE _ _ C.q15_c22.eq_1
def C.q15_r0_b : List IOper := [
 X.o 1 (.boxN (X.s 0)),
 X.o 2 (.move (X.i 0))]
def C.q15_r0 : List IOper := C.q15_r0_b
def C.q15_r0_w := @aopsE _ _ C.q15_r0.eq_1
def C.q15 : IFunc := ⟨1, [.slot 2], .seq (.region C.q15_r0) C.q15_c22⟩
def C.q15_W := And.intro (And.intro (And.intro (And.intro (And.intro @C.q15_r12_w @C.q15_c1_w) (And.intro @C.q15_r3_w @C.q15_c2_w)) (And.intro (And.intro @C.q15_r9_w @C.q15_c3_w) (And.intro @C.q15_r11_w @C.q15_c4_w))) (And.intro (And.intro (And.intro @C.q15_c5_w @C.q15_r10_w) (And.intro @C.q15_b6_w @C.q15_c7_w)) (And.intro (And.intro @C.q15_c8_w @C.q15_r8_w) (And.intro @C.q15_b10_w @C.q15_c11_w)))) (And.intro (And.intro (And.intro (And.intro @C.q15_r7_w @C.q15_c12_w) (And.intro @C.q15_r6_w @C.q15_c13_w)) (And.intro (And.intro @C.q15_c14_w @C.q15_r5_w) (And.intro @C.q15_c15_w @C.q15_r4_w))) (And.intro (And.intro (And.intro @C.q15_b16_w @C.q15_c17_w) (And.intro @C.q15_c18_w @C.q15_r2_w)) (And.intro (And.intro @C.q15_b20_w @C.q15_c21_w) (And.intro @C.q15_r1_w (And.intro @C.q15_c22_w @C.q15_r0_w)))))
def C.q15_B := And.intro (And.intro (And.intro @C.q15_r12_b.eq_1 (And.intro @C.q15_r3_b.eq_1 @C.q15_r9_b.eq_1)) (And.intro @C.q15_r11_b.eq_1 (And.intro @C.q15_r10_b.eq_1 @C.q15_r8_b.eq_1))) (And.intro (And.intro @C.q15_r7_b.eq_1 (And.intro @C.q15_r6_b.eq_1 @C.q15_r5_b.eq_1)) (And.intro (And.intro @C.q15_r4_b.eq_1 @C.q15_r2_b.eq_1) (And.intro @C.q15_r1_b.eq_1 @C.q15_r0_b.eq_1)))

def C.q65_r1_b : List IOper := [
 X.o 3 (.fldAddr 4 (X.s 1)),
 X.o 4 (.load1 (X.s 3)),
 X.o 5 (.len (X.s 4)),
 X.o 6 (.bin .gtr (X.s 5) (X.i 8)),
 X.m 7 6,
 X.f 7 8 (.fldAddr 5 (X.s 1)),
 X.f 7 9 (.load1 (X.s 8)),
 X.f 7 10 (.len (X.s 9)),
 X.f 7 11 (.bin .gtr (X.s 10) (X.i 6)),
 X.o 12 (.pick (X.s 7) (.cst (.bool true)) (X.s 11)),
 X.o 13 (.call F.q70 [X.s 12, X.i 8]),
 X.m 2 13]
def C.q65_r1 : List IOper := C.q65_r1_b
def C.q65_r1_w := @aopsE _ _ C.q65_r1.eq_1
def C.q65_c1 : ICode := .keep [1] (.seq (.region C.q65_r1) .ret)
def C.q65_c1_w := @awpE _ _ C.q65_c1.eq_1
def C.q65_r0_b : List IOper := [
 X.o 1 (.boxN (X.s 0)),
 X.o 2 (.move (X.i 0))]
def C.q65_r0 : List IOper := C.q65_r0_b
def C.q65_r0_w := @aopsE _ _ C.q65_r0.eq_1
def C.q65 : IFunc := ⟨1, [.slot 2], .seq (.region C.q65_r0) C.q65_c1⟩
def C.q65_W := And.intro @C.q65_r1_w (And.intro @C.q65_c1_w @C.q65_r0_w)
def C.q65_B := And.intro @C.q65_r1_b.eq_1 @C.q65_r0_b.eq_1

def C.q70_r3_b : List IOper := [
 X.o 4 (.move (X.i 0))]
def C.q70_r3 : List IOper := C.q70_r3_b
def C.q70_r3_w := @aopsE _ _ C.q70_r3.eq_1
def C.q70_c1 : ICode := .keep [] (.seq (.region C.q70_r3) .ret)
def C.q70_c1_w := @awpE _ _ C.q70_c1.eq_1
def C.q70_r2_b : List IOper := [
 X.m 6 1,
 X.m 4 6]
def C.q70_r2 : List IOper := C.q70_r2_b
def C.q70_r2_w := @aopsE _ _ C.q70_r2.eq_1
def C.q70_c2 : ICode := .seq (.region C.q70_r2) .ret
def C.q70_c2_w := @awpE _ _ C.q70_c2.eq_1
def C.q70_c3 : ICode := .keep [1, 5] (.cond (X.s 5) C.q70_c2 .skip)
def C.q70_c3_w := @awpE _ _ C.q70_c3.eq_1
def C.q70_r1_b : List IOper := [
 X.m 5 0]
def C.q70_r1 : List IOper := C.q70_r1_b
def C.q70_r1_w := @aopsE _ _ C.q70_r1.eq_1
def C.q70_c4 : ICode := .keep [0, 1] (.seq (.seq (.region C.q70_r1) C.q70_c3) C.q70_c1)
def C.q70_c4_w := @awpE _ _ C.q70_c4.eq_1
def C.q70_r0_b : List IOper := [
 X.o 4 (.move (X.i 0))]
def C.q70_r0 : List IOper := C.q70_r0_b
def C.q70_r0_w := @aopsE _ _ C.q70_r0.eq_1
def C.q70 : IFunc := ⟨2, [.slot 4], .seq (.region C.q70_r0) C.q70_c4⟩
def C.q70_W := And.intro (And.intro (And.intro @C.q70_r3_w @C.q70_c1_w) (And.intro @C.q70_r2_w @C.q70_c2_w)) (And.intro (And.intro @C.q70_c3_w @C.q70_r1_w) (And.intro @C.q70_c4_w @C.q70_r0_w))
def C.q70_B := And.intro (And.intro @C.q70_r3_b.eq_1 @C.q70_r2_b.eq_1) (And.intro @C.q70_r1_b.eq_1 @C.q70_r0_b.eq_1)

def C.q44_r1_b : List IOper := [
 X.o 2 (.loadN 6 (X.s 0)),
 X.o 3 (.call F.q69 [X.s 2]),
 X.o 4 (.un .not (X.s 3)),
 X.o 5 (.call F.q70 [X.s 4, X.i 1]),
 X.m 1 5]
def C.q44_r1 : List IOper := C.q44_r1_b
def C.q44_r1_w := @aopsE _ _ C.q44_r1.eq_1
def C.q44_c1 : ICode := .keep [0] (.seq (.region C.q44_r1) .ret)
def C.q44_c1_w := @awpE _ _ C.q44_c1.eq_1
def C.q44_r0_b : List IOper := [
 X.o 1 (.move (X.i 0))]
def C.q44_r0 : List IOper := C.q44_r0_b
def C.q44_r0_w := @aopsE _ _ C.q44_r0.eq_1
def C.q44 : IFunc := ⟨1, [.slot 1], .seq (.region C.q44_r0) C.q44_c1⟩
def C.q44_W := And.intro @C.q44_r1_w (And.intro @C.q44_c1_w @C.q44_r0_w)
def C.q44_B := And.intro @C.q44_r1_b.eq_1 @C.q44_r0_b.eq_1

def C.q69_r10_b : List IOper := [
 X.o 2 (.move (.cst (.bool false)))]
def C.q69_r10 : List IOper := C.q69_r10_b
def C.q69_r10_w := @aopsE _ _ C.q69_r10.eq_1
def C.q69_c1 : ICode := .keep [] (.seq (.region C.q69_r10) .ret)
def C.q69_c1_w := @awpE _ _ C.q69_c1.eq_1
def C.q69_r3_b : List IOper := [
 X.o 7 (.fldAddr 1 (X.s 1)),
 X.o 8 (.load1 (X.s 7)),
 X.o 9 (.len (X.s 8)),
 X.o 10 (.bin .eql (X.s 9) (X.i 0)),
 X.m 2 10]
def C.q69_r3 : List IOper := C.q69_r3_b
def C.q69_r3_w := @aopsE _ _ C.q69_r3.eq_1
def C.q69_r7_b : List IOper := [
 X.o 15 (.fldAddr 1 (X.s 1)),
 X.o 16 (.load1 (X.s 15)),
 X.o 17 (.len (X.s 16)),
 X.o 18 (.bin .eql (X.s 17) (X.i 1)),
 X.m 2 18]
def C.q69_r7 : List IOper := C.q69_r7_b
def C.q69_r7_w := @aopsE _ _ C.q69_r7.eq_1
def C.q69_r9_b : List IOper := [
 X.o 21 (.fldAddr 1 (X.s 1)),
 X.o 22 (.load1 (X.s 21)),
 X.o 23 (.len (X.s 22)),
 X.o 24 (.call F.q71 [X.s 23, X.i 1, X.i 4]),
 X.m 2 24]
def C.q69_r9 : List IOper := C.q69_r9_b
def C.q69_r9_w := @aopsE _ _ C.q69_r9.eq_1
def C.q69_c2 : ICode := .seq (.region C.q69_r9) .ret
def C.q69_c2_w := @awpE _ _ C.q69_c2.eq_1
def C.q69_c3 : ICode := .keep [1, 19] (.cond (X.s 19) C.q69_c2 .skip)
def C.q69_c3_w := @awpE _ _ C.q69_c3.eq_1
def C.q69_r8_b : List IOper := [
 X.o 20 (.bin .eql (X.s 4) (.cst (.int .u8 109))),
 X.m 19 20]
def C.q69_r8 : List IOper := C.q69_r8_b
def C.q69_r8_w := @aopsE _ _ C.q69_r8.eq_1
def C.q69_c4 : ICode := .seq (.region C.q69_r7) .ret
def C.q69_c4_w := @awpE _ _ C.q69_c4.eq_1
def C.q69_c5 : ICode := .seq (.region C.q69_r8) C.q69_c3
def C.q69_c5_w := @awpE _ _ C.q69_c5.eq_1
def C.q69_c6 : ICode := .keep [1, 4, 11] (.cond (X.s 11) C.q69_c4 C.q69_c5)
def C.q69_c6_w := @awpE _ _ C.q69_c6.eq_1
def C.q69_r6_b : List IOper := [
 X.o 14 (.bin .eql (X.s 4) (.cst (.int .u8 103))),
 X.m 11 14]
def C.q69_r6 : List IOper := C.q69_r6_b
def C.q69_r6_w := @aopsE _ _ C.q69_r6.eq_1
def C.q69_c7 : ICode := .keep [1, 4, 11] (.cond (X.s 11) .skip (.region C.q69_r6))
def C.q69_c7_w := @awpE _ _ C.q69_c7.eq_1
def C.q69_r5_b : List IOper := [
 X.o 13 (.bin .eql (X.s 4) (.cst (.int .u8 100))),
 X.m 11 13]
def C.q69_r5 : List IOper := C.q69_r5_b
def C.q69_r5_w := @aopsE _ _ C.q69_r5.eq_1
def C.q69_c8 : ICode := .seq (.region C.q69_r5) C.q69_c7
def C.q69_c8_w := @awpE _ _ C.q69_c8.eq_1
def C.q69_c9 : ICode := .keep [1, 4, 11] (.cond (X.s 11) .skip C.q69_c8)
def C.q69_c9_w := @awpE _ _ C.q69_c9.eq_1
def C.q69_r4_b : List IOper := [
 X.o 12 (.bin .eql (X.s 4) (.cst (.int .u8 112))),
 X.m 11 12]
def C.q69_r4 : List IOper := C.q69_r4_b
def C.q69_r4_w := @aopsE _ _ C.q69_r4.eq_1
def C.q69_c10 : ICode := .seq (.region C.q69_r3) .ret
def C.q69_c10_w := @awpE _ _ C.q69_c10.eq_1
def C.q69_c11 : ICode := .seq (.seq (.region C.q69_r4) C.q69_c9) C.q69_c6
def C.q69_c11_w := @awpE _ _ C.q69_c11.eq_1
def C.q69_c12 : ICode := .keep [1, 4, 5] (.cond (X.s 5) C.q69_c10 C.q69_c11)
def C.q69_c12_w := @awpE _ _ C.q69_c12.eq_1
def C.q69_r2_b : List IOper := [
 X.o 6 (.bin .eql (X.s 4) (.cst (.int .u8 111))),
 X.m 5 6]
def C.q69_r2 : List IOper := C.q69_r2_b
def C.q69_r2_w := @aopsE _ _ C.q69_r2.eq_1
def C.q69_b13 : ICode := .seq (.region C.q69_r2) C.q69_c12
def C.q69_b13_w := @awpE _ _ C.q69_b13.eq_1
def C.q69_c14 : ICode := .keep [1, 4] (.block 0 C.q69_b13)
def C.q69_c14_w := @awpE _ _ C.q69_c14.eq_1
def C.q69_r1_b : List IOper := [
 X.o 3 (.fldAddr 0 (X.s 1)),
 X.o 4 (.load1 (X.s 3))]
def C.q69_r1 : List IOper := C.q69_r1_b
def C.q69_r1_w := @aopsE _ _ C.q69_r1.eq_1
def C.q69_c15 : ICode := .keep [1] (.seq (.seq (.region C.q69_r1) C.q69_c14) C.q69_c1)
def C.q69_c15_w := @awpE _ _ C.q69_c15.eq_1
def C.q69_r0_b : List IOper := [
 X.o 1 (.boxN (X.s 0)),
 X.o 2 (.move (.cst (.bool false)))]
def C.q69_r0 : List IOper := C.q69_r0_b
def C.q69_r0_w := @aopsE _ _ C.q69_r0.eq_1
def C.q69 : IFunc := ⟨1, [.slot 2], .seq (.region C.q69_r0) C.q69_c15⟩
def C.q69_W := And.intro (And.intro (And.intro (And.intro @C.q69_r10_w (And.intro @C.q69_c1_w @C.q69_r3_w)) (And.intro @C.q69_r7_w (And.intro @C.q69_r9_w @C.q69_c2_w))) (And.intro (And.intro @C.q69_c3_w (And.intro @C.q69_r8_w @C.q69_c4_w)) (And.intro (And.intro @C.q69_c5_w @C.q69_c6_w) (And.intro @C.q69_r6_w @C.q69_c7_w)))) (And.intro (And.intro (And.intro @C.q69_r5_w (And.intro @C.q69_c8_w @C.q69_c9_w)) (And.intro @C.q69_r4_w (And.intro @C.q69_c10_w @C.q69_c11_w))) (And.intro (And.intro @C.q69_c12_w (And.intro @C.q69_r2_w @C.q69_b13_w)) (And.intro (And.intro @C.q69_c14_w @C.q69_r1_w) (And.intro @C.q69_c15_w @C.q69_r0_w))))
def C.q69_B := And.intro (And.intro (And.intro @C.q69_r10_b.eq_1 @C.q69_r3_b.eq_1) (And.intro @C.q69_r7_b.eq_1 (And.intro @C.q69_r9_b.eq_1 @C.q69_r8_b.eq_1))) (And.intro (And.intro @C.q69_r6_b.eq_1 (And.intro @C.q69_r5_b.eq_1 @C.q69_r4_b.eq_1)) (And.intro @C.q69_r2_b.eq_1 (And.intro @C.q69_r1_b.eq_1 @C.q69_r0_b.eq_1)))

def C.q45_r1_b : List IOper := [
 X.o 3 (.fldAddr 1 (X.s 0)),
 X.o 4 (.load1 (X.s 3)),
 X.o 5 (.makeFunc F.q46 [X.s 1]),
 X.o 6 (.call F.q62 [X.s 4, X.s 5]),
 X.m 2 6]
def C.q45_r1 : List IOper := C.q45_r1_b
def C.q45_r1_w := @aopsE _ _ C.q45_r1.eq_1
def C.q45_c1 : ICode := .keep [0, 1] (.seq (.region C.q45_r1) .ret)
def C.q45_c1_w := @awpE _ _ C.q45_c1.eq_1
def C.q45_r0_b : List IOper := [
 X.o 2 (.move (X.i 0))]
def C.q45_r0 : List IOper := C.q45_r0_b
def C.q45_r0_w := @aopsE _ _ C.q45_r0.eq_1
def C.q45 : IFunc := ⟨2, [.slot 2], .seq (.region C.q45_r0) C.q45_c1⟩
def C.q45_W := And.intro @C.q45_r1_w (And.intro @C.q45_c1_w @C.q45_r0_w)
def C.q45_B := And.intro @C.q45_r1_b.eq_1 @C.q45_r0_b.eq_1

def C.q62_r8_b : List IOper := [
 X.o 4 (.move (X.i 0))]
def C.q62_r8 : List IOper := C.q62_r8_b
def C.q62_r8_w := @aopsE _ _ C.q62_r8.eq_1
def C.q62_c1 : ICode := .keep [] (.seq (.region C.q62_r8) .ret)
def C.q62_c1_w := @awpE _ _ C.q62_c1.eq_1
def C.q62_r7_b : List IOper := [
 X.o 20 (.bin .add (X.s 10) (X.i 1)),
 X.m 10 20]
def C.q62_r7 : List IOper := C.q62_r7_b
def C.q62_r7_w := @aopsE _ _ C.q62_r7.eq_1
def C.q62_c2 : ICode := .keep [1, 8, 9, 10] (.region C.q62_r7)
def C.q62_c2_w := @awpE _ _ C.q62_c2.eq_1
def C.q62_r6_b : List IOper := [
 X.m 19 7,
 X.m 4 19]
def C.q62_r6 : List IOper := C.q62_r6_b
def C.q62_r6_w := @aopsE _ _ C.q62_r6.eq_1
def C.q62_c3 : ICode := .seq (.region C.q62_r6) .ret
def C.q62_c3_w := @awpE _ _ C.q62_c3.eq_1
def C.q62_c4 : ICode := .keep [1, 7, 8, 9, 10, 18] (.cond (X.s 18) C.q62_c3 .skip)
def C.q62_c4_w := @awpE _ _ C.q62_c4.eq_1
def C.q62_r5_b : List IOper := [
 X.m 17 7,
 X.o 18 (.bin .neq (X.s 17) (X.i 0))]
def C.q62_r5 : List IOper := C.q62_r5_b
def C.q62_r5_w := @aopsE _ _ C.q62_r5.eq_1
def C.q62_c5 : ICode := .keep [1, 7, 8, 9, 10] (.seq (.region C.q62_r5) C.q62_c4)
def C.q62_c5_w := @awpE _ _ C.q62_c5.eq_1
def C.q62_r4_b : List IOper := [
 X.m 14 1,
 X.m 15 6,
 X.o 16 (.callv (X.s 14) [X.s 15]),
 X.m 7 16]
def C.q62_r4 : List IOper := C.q62_r4_b
def C.q62_r4_w := @aopsE _ _ C.q62_r4.eq_1
def C.q62_c6 : ICode := .keep [1, 6, 8, 9, 10] (.seq (.region C.q62_r4) C.q62_c5)
def C.q62_c6_w := @awpE _ _ C.q62_c6.eq_1
def C.q62_r3_b : List IOper := [
 X.o 12 (.idxAddr 1 (X.s 8) (X.s 10)),
 X.o 13 (.load1 (X.s 12)),
 X.m 6 13]
def C.q62_r3 : List IOper := C.q62_r3_b
def C.q62_r3_w := @aopsE _ _ C.q62_r3.eq_1
def C.q62_b7 : ICode := .seq (.region C.q62_r3) C.q62_c6
def C.q62_b7_w := @awpE _ _ C.q62_b7.eq_1
def C.q62_c8 : ICode := .keep [1, 8, 9, 10] (.seq (.block 1 C.q62_b7) C.q62_c2)
def C.q62_c8_w := @awpE _ _ C.q62_c8.eq_1
def C.q62_c9 : ICode := .keep [1, 8, 9, 10, 11] (.seq (.cond (X.s 11) .skip (.exit 0)) C.q62_c8)
def C.q62_c9_w := @awpE _ _ C.q62_c9.eq_1
def C.q62_r2_b : List IOper := [
 X.o 11 (.bin .lss (X.s 10) (X.s 9))]
def C.q62_r2 : List IOper := C.q62_r2_b
def C.q62_r2_w := @aopsE _ _ C.q62_r2.eq_1
def C.q62_l10 : ICode := .keep [1, 8, 9, 10] (.seq (.region C.q62_r2) C.q62_c9)
def C.q62_l10_w := @awpE _ _ C.q62_l10.eq_1
def C.q62_b11 : ICode := .loop C.q62_l10
def C.q62_b11_w := @awpE _ _ C.q62_b11.eq_1
def C.q62_c12 : ICode := .keep [1, 8, 9, 10] (.block 0 C.q62_b11)
def C.q62_c12_w := @awpE _ _ C.q62_c12.eq_1
def C.q62_r1_b : List IOper := [
 X.m 8 0,
 X.o 9 (.len (X.s 8)),
 X.o 10 (.move (X.i 0))]
def C.q62_r1 : List IOper := C.q62_r1_b
def C.q62_r1_w := @aopsE _ _ C.q62_r1.eq_1
def C.q62_c13 : ICode := .keep [0, 1] (.seq (.seq (.region C.q62_r1) C.q62_c12) C.q62_c1)
def C.q62_c13_w := @awpE _ _ C.q62_c13.eq_1
def C.q62_r0_b : List IOper := [
 X.o 4 (.move (X.i 0))]
def C.q62_r0 : List IOper := C.q62_r0_b
def C.q62_r0_w := @aopsE _ _ C.q62_r0.eq_1
def C.q62 : IFunc := ⟨2, [.slot 4], .seq (.region C.q62_r0) C.q62_c13⟩
def C.q62_W := And.intro (And.intro (And.intro (And.intro @C.q62_r8_w @C.q62_c1_w) (And.intro @C.q62_r7_w (And.intro @C.q62_c2_w @C.q62_r6_w))) (And.intro (And.intro @C.q62_c3_w @C.q62_c4_w) (And.intro @C.q62_r5_w (And.intro @C.q62_c5_w @C.q62_r4_w)))) (And.intro (And.intro (And.intro @C.q62_c6_w @C.q62_r3_w) (And.intro @C.q62_b7_w (And.intro @C.q62_c8_w @C.q62_c9_w))) (And.intro (And.intro @C.q62_r2_w (And.intro @C.q62_b11_w @C.q62_c12_w)) (And.intro @C.q62_r1_w (And.intro @C.q62_c13_w @C.q62_r0_w))))
def C.q62_B := And.intro (And.intro (And.intro @C.q62_r8_b.eq_1 @C.q62_r7_b.eq_1) (And.intro @C.q62_r6_b.eq_1 @C.q62_r5_b.eq_1)) (And.intro (And.intro @C.q62_r4_b.eq_1 @C.q62_r3_b.eq_1) (And.intro @C.q62_r2_b.eq_1 (And.intro @C.q62_r1_b.eq_1 @C.q62_r0_b.eq_1)))

def C.q46_r1_b : List IOper := [
 X.m 4 0,
 X.o 5 (.fldAddr 0 (X.s 1)),
 X.o 6 (.load1 (X.s 5)),
 X.o 7 (.len (X.s 6)),
 X.o 8 (.bin .sub (X.s 7) (X.i 1)),
 X.o 9 (.call F.q71 [X.s 4, X.i 0, X.s 8]),
 X.o 10 (.un .not (X.s 9)),
 X.o 11 (.call F.q70 [X.s 10, X.i 4]),
 X.m 3 11]
def C.q46_r1 : List IOper := C.q46_r1_b
def C.q46_r1_w := @aopsE _ _ C.q46_r1.eq_1
def C.q46_c1 : ICode := .keep [0, 1] (.seq (.region C.q46_r1) .ret)
def C.q46_c1_w := @awpE _ _ C.q46_c1.eq_1
def C.q46_r0_b : List IOper := [
 X.o 3 (.move (X.i 0))]
def C.q46_r0 : List IOper := C.q46_r0_b
def C.q46_r0_w := @aopsE _ _ C.q46_r0.eq_1
def C.q46 : IFunc := ⟨2, [.slot 3], .seq (.region C.q46_r0) C.q46_c1⟩
def C.q46_W := And.intro @C.q46_r1_w (And.intro @C.q46_c1_w @C.q46_r0_w)
def C.q46_B := And.intro @C.q46_r1_b.eq_1 @C.q46_r0_b.eq_1

def C.q71_r1_b : List IOper := [
 X.m 7 0,
 X.m 8 1,
 X.o 9 (.bin .geq (X.s 7) (X.s 8)),
 X.m 10 9,
 X.t 10 11 (.move (X.s 0)),
 X.t 10 12 (.move (X.s 2)),
 X.t 10 13 (.bin .leq (X.s 11) (X.s 12)),
 X.o 14 (.pick (X.s 10) (X.s 13) (.cst (.bool false))),
 X.m 6 14]
def C.q71_r1 : List IOper := C.q71_r1_b
def C.q71_r1_w := @aopsE _ _ C.q71_r1.eq_1
def C.q71_c1 : ICode := .keep [0, 1, 2] (.seq (.region C.q71_r1) .ret)
def C.q71_c1_w := @awpE _ _ C.q71_c1.eq_1
def C.q71_r0_b : List IOper := [
 X.o 6 (.move (.cst (.bool false)))]
def C.q71_r0 : List IOper := C.q71_r0_b
def C.q71_r0_w := @aopsE _ _ C.q71_r0.eq_1
def C.q71 : IFunc := ⟨3, [.slot 6], .seq (.region C.q71_r0) C.q71_c1⟩
def C.q71_W := And.intro @C.q71_r1_w (And.intro @C.q71_c1_w @C.q71_r0_w)
def C.q71_B := And.intro @C.q71_r1_b.eq_1 @C.q71_r0_b.eq_1

def C.q47_r1_b : List IOper := [
 X.o 2 (.loadN 6 (X.s 0)),
 X.o 3 (.call F.q66 [X.s 2]),
 X.o 4 (.un .not (X.s 3)),
 X.o 5 (.call F.q70 [X.s 4, X.i 3]),
 X.m 1 5]
def C.q47_r1 : List IOper := C.q47_r1_b
def C.q47_r1_w := @aopsE _ _ C.q47_r1.eq_1
def C.q47_c1 : ICode := .keep [0] (.seq (.region C.q47_r1) .ret)
def C.q47_c1_w := @awpE _ _ C.q47_c1.eq_1
def C.q47_r0_b : List IOper := [
 X.o 1 (.move (X.i 0))]
def C.q47_r0 : List IOper := C.q47_r0_b
def C.q47_r0_w := @aopsE _ _ C.q47_r0.eq_1
def C.q47 : IFunc := ⟨1, [.slot 1], .seq (.region C.q47_r0) C.q47_c1⟩
def C.q47_W := And.intro @C.q47_r1_w (And.intro @C.q47_c1_w @C.q47_r0_w)
def C.q47_B := And.intro @C.q47_r1_b.eq_1 @C.q47_r0_b.eq_1

def C.q66_r8_b : List IOper := [
 X.o 2 (.move (.cst (.bool true)))]
def C.q66_r8 : List IOper := C.q66_r8_b
def C.q66_r8_w := @aopsE _ _ C.q66_r8.eq_1
def C.q66_c1 : ICode := .keep [] (.seq (.region C.q66_r8) .ret)
def C.q66_c1_w := @awpE _ _ C.q66_c1.eq_1
def C.q66_r3_b : List IOper := [
 X.o 7 (.fldAddr 2 (X.s 1)),
 X.o 8 (.load1 (X.s 7)),
 X.o 9 (.bin .geq (X.s 8) (.cst (.int .u64 1))),
 X.m 10 9,
 X.t 10 11 (.fldAddr 2 (X.s 1)),
 X.t 10 12 (.load1 (X.s 11)),
 X.t 10 13 (.bin .leq (X.s 12) (.cst (.int .u64 1099511627776))),
 X.o 14 (.pick (X.s 10) (X.s 13) (.cst (.bool false))),
 X.m 2 14]
def C.q66_r3 : List IOper := C.q66_r3_b
def C.q66_r3_w := @aopsE _ _ C.q66_r3.eq_1
def C.q66_r5_b : List IOper := [
 X.o 17 (.fldAddr 3 (X.s 1)),
 X.o 18 (.load1 (X.s 17)),
 X.o 19 (.call F.q71 [X.s 18, X.i 1, X.i 1000]),
 X.m 20 19,
 X.t 20 21 (.fldAddr 4 (X.s 1)),
 X.t 20 22 (.load1 (X.s 21)),
 X.t 20 23 (.call F.q71 [X.s 22, X.i 1, X.i 1000]),
 X.o 24 (.pick (X.s 20) (X.s 23) (.cst (.bool false))),
 X.m 25 24,
 X.t 25 26 (.fldAddr 5 (X.s 1)),
 X.t 25 27 (.load1 (X.s 26)),
 X.t 25 28 (.call F.q71 [X.s 27, X.i 0, X.i 20]),
 X.o 29 (.pick (X.s 25) (X.s 28) (.cst (.bool false))),
 X.m 2 29]
def C.q66_r5 : List IOper := C.q66_r5_b
def C.q66_r5_w := @aopsE _ _ C.q66_r5.eq_1
def C.q66_r7_b : List IOper := [
 X.o 32 (.fldAddr 4 (X.s 1)),
 X.o 33 (.load1 (X.s 32)),
 X.o 34 (.call F.q71 [X.s 33, X.i 1, X.i 1000]),
 X.m 2 34]
def C.q66_r7 : List IOper := C.q66_r7_b
def C.q66_r7_w := @aopsE _ _ C.q66_r7.eq_1
def C.q66_c2 : ICode := .seq (.region C.q66_r7) .ret
def C.q66_c2_w := @awpE _ _ C.q66_c2.eq_1
def C.q66_c3 : ICode := .keep [1, 30] (.cond (X.s 30) C.q66_c2 .skip)
def C.q66_c3_w := @awpE _ _ C.q66_c3.eq_1
def C.q66_r6_b : List IOper := [
 X.o 31 (.bin .eql (X.s 4) (.cst (.int .u8 100))),
 X.m 30 31]
def C.q66_r6 : List IOper := C.q66_r6_b
def C.q66_r6_w := @aopsE _ _ C.q66_r6.eq_1
def C.q66_c4 : ICode := .seq (.region C.q66_r5) .ret
def C.q66_c4_w := @awpE _ _ C.q66_c4.eq_1
def C.q66_c5 : ICode := .seq (.region C.q66_r6) C.q66_c3
def C.q66_c5_w := @awpE _ _ C.q66_c5.eq_1
def C.q66_c6 : ICode := .keep [1, 4, 15] (.cond (X.s 15) C.q66_c4 C.q66_c5)
def C.q66_c6_w := @awpE _ _ C.q66_c6.eq_1
def C.q66_r4_b : List IOper := [
 X.o 16 (.bin .eql (X.s 4) (.cst (.int .u8 112))),
 X.m 15 16]
def C.q66_r4 : List IOper := C.q66_r4_b
def C.q66_r4_w := @aopsE _ _ C.q66_r4.eq_1
def C.q66_c7 : ICode := .seq (.region C.q66_r3) .ret
def C.q66_c7_w := @awpE _ _ C.q66_c7.eq_1
def C.q66_c8 : ICode := .seq (.region C.q66_r4) C.q66_c6
def C.q66_c8_w := @awpE _ _ C.q66_c8.eq_1
def C.q66_c9 : ICode := .keep [1, 4, 5] (.cond (X.s 5) C.q66_c7 C.q66_c8)
def C.q66_c9_w := @awpE _ _ C.q66_c9.eq_1
def C.q66_r2_b : List IOper := [
 X.o 6 (.bin .eql (X.s 4) (.cst (.int .u8 111))),
 X.m 5 6]
def C.q66_r2 : List IOper := C.q66_r2_b
def C.q66_r2_w := @aopsE _ _ C.q66_r2.eq_1
def C.q66_b10 : ICode := .seq (.region C.q66_r2) C.q66_c9
def C.q66_b10_w := @awpE _ _ C.q66_b10.eq_1
def C.q66_c11 : ICode := .keep [1, 4] (.block 0 C.q66_b10)
def C.q66_c11_w := @awpE _ _ C.q66_c11.eq_1
def C.q66_r1_b : List IOper := [
 X.o 3 (.fldAddr 0 (X.s 1)),
 X.o 4 (.load1 (X.s 3))]
def C.q66_r1 : List IOper := C.q66_r1_b
def C.q66_r1_w := @aopsE _ _ C.q66_r1.eq_1
def C.q66_c12 : ICode := .keep [1] (.seq (.seq (.region C.q66_r1) C.q66_c11) C.q66_c1)
def C.q66_c12_w := @awpE _ _ C.q66_c12.eq_1
def C.q66_r0_b : List IOper := [
 X.o 1 (.boxN (X.s 0)),
 X.o 2 (.move (.cst (.bool false)))]
def C.q66_r0 : List IOper := C.q66_r0_b
def C.q66_r0_w := @aopsE _ _ C.q66_r0.eq_1
def C.q66 : IFunc := ⟨1, [.slot 2], .seq (.region C.q66_r0) C.q66_c12⟩
def C.q66_W := And.intro (And.intro (And.intro (And.intro @C.q66_r8_w @C.q66_c1_w) (And.intro @C.q66_r3_w (And.intro @C.q66_r5_w @C.q66_r7_w))) (And.intro (And.intro @C.q66_c2_w @C.q66_c3_w) (And.intro @C.q66_r6_w (And.intro @C.q66_c4_w @C.q66_c5_w)))) (And.intro (And.intro (And.intro @C.q66_c6_w @C.q66_r4_w) (And.intro @C.q66_c7_w (And.intro @C.q66_c8_w @C.q66_c9_w))) (And.intro (And.intro @C.q66_r2_w (And.intro @C.q66_b10_w @C.q66_c11_w)) (And.intro @C.q66_r1_w (And.intro @C.q66_c12_w @C.q66_r0_w))))
def C.q66_B := And.intro (And.intro (And.intro @C.q66_r8_b.eq_1 @C.q66_r3_b.eq_1) (And.intro @C.q66_r5_b.eq_1 @C.q66_r7_b.eq_1)) (And.intro (And.intro @C.q66_r6_b.eq_1 @C.q66_r4_b.eq_1) (And.intro @C.q66_r2_b.eq_1 (And.intro @C.q66_r1_b.eq_1 @C.q66_r0_b.eq_1)))

def C.q72_r2_b : List IOper := [
 X.m 10 4,
 X.m 2 10]
def C.q72_r2 : List IOper := C.q72_r2_b
def C.q72_r2_w := @aopsE _ _ C.q72_r2.eq_1
def C.q72_c1 : ICode := .keep [4] (.seq (.region C.q72_r2) .ret)
def C.q72_c1_w := @awpE _ _ C.q72_c1.eq_1
def C.q72_r1_b : List IOper := [
 X.m 6 0,
 X.o 7 (.call F.q73 [X.s 6]),
 X.m 5 7,
 X.o 8 (.extract (X.s 5) 0),
 X.o 9 (.extract (X.s 5) 1),
 X.m 3 8,
 X.m 4 9]
def C.q72_r1 : List IOper := C.q72_r1_b
def C.q72_r1_w := @aopsE _ _ C.q72_r1.eq_1
def C.q72_c2 : ICode := .keep [0] (.seq (.region C.q72_r1) C.q72_c1)
def C.q72_c2_w := @awpE _ _ C.q72_c2.eq_1
def C.q72_r0_b : List IOper := [
 X.o 2 (.move (X.i 0))]
def C.q72_r0 : List IOper := C.q72_r0_b
def C.q72_r0_w := @aopsE _ _ C.q72_r0.eq_1
def C.q72 : IFunc := ⟨1, [.slot 2], .seq (.region C.q72_r0) C.q72_c2⟩
def C.q72_W := And.intro (And.intro @C.q72_r2_w @C.q72_c1_w) (And.intro @C.q72_r1_w (And.intro @C.q72_c2_w @C.q72_r0_w))
def C.q72_B := And.intro @C.q72_r2_b.eq_1 (And.intro @C.q72_r1_b.eq_1 @C.q72_r0_b.eq_1)

def C.q67_r1_b : List IOper := [
 X.m 3 0,
 X.o 4 (.append 1 8 (.cst (.nils)) (X.s 3)),
 X.m 2 4]
def C.q67_r1 : List IOper := C.q67_r1_b
def C.q67_r1_w := @aopsE _ _ C.q67_r1.eq_1
def C.q67_c1 : ICode := .keep [0] (.seq (.region C.q67_r1) .ret)
def C.q67_c1_w := @awpE _ _ C.q67_c1.eq_1
def C.q67_r0_b : List IOper := [
 X.o 2 (.move (.cst (.nils)))]
def C.q67_r0 : List IOper := C.q67_r0_b
def C.q67_r0_w := @aopsE _ _ C.q67_r0.eq_1
def C.q67 : IFunc := ⟨1, [.slot 2], .seq (.region C.q67_r0) C.q67_c1⟩
def C.q67_W := And.intro @C.q67_r1_w (And.intro @C.q67_c1_w @C.q67_r0_w)
def C.q67_B := And.intro @C.q67_r1_b.eq_1 @C.q67_r0_b.eq_1

def C.q56_r1_b : List IOper := [
 X.o 3 (.fldAddr 0 (X.s 0)),
 X.o 4 (.load1 (X.s 3)),
 X.o 5 (.bin .neq (X.s 4) (X.i (-1))),
 X.m 6 5,
 X.t 6 7 (.fldAddr 0 (X.s 0)),
 X.t 6 8 (.load1 (X.s 7)),
 X.t 6 9 (.fldAddr 1 (X.s 1)),
 X.t 6 10 (.load1 (X.s 9)),
 X.t 6 11 (.len (X.s 10)),
 X.t 6 12 (.bin .sub (X.s 11) (X.i 1)),
 X.t 6 13 (.call F.q71 [X.s 8, X.i 0, X.s 12]),
 X.t 6 14 (.un .not (X.s 13)),
 X.o 15 (.pick (X.s 6) (X.s 14) (.cst (.bool false))),
 X.o 16 (.call F.q70 [X.s 15, X.i 4]),
 X.m 2 16]
def C.q56_r1 : List IOper := C.q56_r1_b
def C.q56_r1_w := @aopsE _ _ C.q56_r1.eq_1
def C.q56_c1 : ICode := .keep [0, 1] (.seq (.region C.q56_r1) .ret)
def C.q56_c1_w := @awpE _ _ C.q56_c1.eq_1
def C.q56_r0_b : List IOper := [
 X.o 2 (.move (X.i 0))]
def C.q56_r0 : List IOper := C.q56_r0_b
def C.q56_r0_w := @aopsE _ _ C.q56_r0.eq_1
def C.q56 : IFunc := ⟨2, [.slot 2], .seq (.region C.q56_r0) C.q56_c1⟩
def C.q56_W := And.intro @C.q56_r1_w (And.intro @C.q56_c1_w @C.q56_r0_w)
def C.q56_B := And.intro @C.q56_r1_b.eq_1 @C.q56_r0_b.eq_1

def C.q57_r1_b : List IOper := [
 X.o 2 (.fldAddr 1 (X.s 0)),
 X.o 3 (.load1 (X.s 2)),
 X.o 4 (.call F.q71 [X.s 3, X.i 0, X.i 20]),
 X.o 5 (.un .not (X.s 4)),
 X.o 6 (.call F.q70 [X.s 5, X.i 3]),
 X.m 1 6]
def C.q57_r1 : List IOper := C.q57_r1_b
def C.q57_r1_w := @aopsE _ _ C.q57_r1.eq_1
def C.q57_c1 : ICode := .keep [0] (.seq (.region C.q57_r1) .ret)
def C.q57_c1_w := @awpE _ _ C.q57_c1.eq_1
def C.q57_r0_b : List IOper := [
 X.o 1 (.move (X.i 0))]
def C.q57_r0 : List IOper := C.q57_r0_b
def C.q57_r0_w := @aopsE _ _ C.q57_r0.eq_1
def C.q57 : IFunc := ⟨1, [.slot 1], .seq (.region C.q57_r0) C.q57_c1⟩
def C.q57_W := And.intro @C.q57_r1_w (And.intro @C.q57_c1_w @C.q57_r0_w)
def C.q57_B := And.intro @C.q57_r1_b.eq_1 @C.q57_r0_b.eq_1

def C.q50_r1_b : List IOper := [
 X.o 3 (.fldAddr 0 (X.s 0)),
 X.o 4 (.load1 (X.s 3)),
 X.o 5 (.fldAddr 0 (X.s 1)),
 X.o 6 (.load1 (X.s 5)),
 X.o 7 (.len (X.s 6)),
 X.o 8 (.bin .sub (X.s 7) (X.i 1)),
 X.o 9 (.call F.q71 [X.s 4, X.i 0, X.s 8]),
 X.o 10 (.un .not (X.s 9)),
 X.o 11 (.call F.q70 [X.s 10, X.i 4]),
 X.m 2 11]
def C.q50_r1 : List IOper := C.q50_r1_b
def C.q50_r1_w := @aopsE _ _ C.q50_r1.eq_1
def C.q50_c1 : ICode := .keep [0, 1] (.seq (.region C.q50_r1) .ret)
def C.q50_c1_w := @awpE _ _ C.q50_c1.eq_1
def C.q50_r0_b : List IOper := [
 X.o 2 (.move (X.i 0))]
def C.q50_r0 : List IOper := C.q50_r0_b
def C.q50_r0_w := @aopsE _ _ C.q50_r0.eq_1
def C.q50 : IFunc := ⟨2, [.slot 2], .seq (.region C.q50_r0) C.q50_c1⟩
def C.q50_W := And.intro @C.q50_r1_w (And.intro @C.q50_c1_w @C.q50_r0_w)
def C.q50_B := And.intro @C.q50_r1_b.eq_1 @C.q50_r0_b.eq_1

def C.q51_r1_b : List IOper := [
 X.o 3 (.fldAddr 1 (X.s 0)),
 X.o 4 (.load1 (X.s 3)),
 X.o 5 (.fldAddr 1 (X.s 1)),
 X.o 6 (.load1 (X.s 5)),
 X.o 7 (.len (X.s 6)),
 X.o 8 (.bin .sub (X.s 7) (X.i 1)),
 X.o 9 (.call F.q71 [X.s 4, X.i 0, X.s 8]),
 X.o 10 (.un .not (X.s 9)),
 X.o 11 (.call F.q70 [X.s 10, X.i 4]),
 X.m 2 11]
def C.q51_r1 : List IOper := C.q51_r1_b
def C.q51_r1_w := @aopsE _ _ C.q51_r1.eq_1
def C.q51_c1 : ICode := .keep [0, 1] (.seq (.region C.q51_r1) .ret)
def C.q51_c1_w := @awpE _ _ C.q51_c1.eq_1
def C.q51_r0_b : List IOper := [
 X.o 2 (.move (X.i 0))]
def C.q51_r0 : List IOper := C.q51_r0_b
def C.q51_r0_w := @aopsE _ _ C.q51_r0.eq_1
def C.q51 : IFunc := ⟨2, [.slot 2], .seq (.region C.q51_r0) C.q51_c1⟩
def C.q51_W := And.intro @C.q51_r1_w (And.intro @C.q51_c1_w @C.q51_r0_w)
def C.q51_B := And.intro @C.q51_r1_b.eq_1 @C.q51_r0_b.eq_1

def C.q52_r1_b : List IOper := [
 X.o 3 (.fldAddr 2 (X.s 0)),
 X.o 4 (.load1 (X.s 3)),
 X.o 5 (.fldAddr 2 (X.s 1)),
 X.o 6 (.load1 (X.s 5)),
 X.o 7 (.len (X.s 6)),
 X.o 8 (.bin .sub (X.s 7) (X.i 1)),
 X.o 9 (.call F.q71 [X.s 4, X.i 0, X.s 8]),
 X.o 10 (.un .not (X.s 9)),
 X.o 11 (.call F.q70 [X.s 10, X.i 4]),
 X.m 2 11]
def C.q52_r1 : List IOper := C.q52_r1_b
def C.q52_r1_w := @aopsE _ _ C.q52_r1.eq_1
def C.q52_c1 : ICode := .keep [0, 1] (.seq (.region C.q52_r1) .ret)
def C.q52_c1_w := @awpE _ _ C.q52_c1.eq_1
def C.q52_r0_b : List IOper := [
 X.o 2 (.move (X.i 0))]
def C.q52_r0 : List IOper := C.q52_r0_b
def C.q52_r0_w := @aopsE _ _ C.q52_r0.eq_1
def C.q52 : IFunc := ⟨2, [.slot 2], .seq (.region C.q52_r0) C.q52_c1⟩
def C.q52_W := And.intro @C.q52_r1_w (And.intro @C.q52_c1_w @C.q52_r0_w)
def C.q52_B := And.intro @C.q52_r1_b.eq_1 @C.q52_r0_b.eq_1

def C.q53_r1_b : List IOper := [
 X.o 3 (.fldAddr 5 (X.s 0)),
 X.o 4 (.load1 (X.s 3)),
 X.o 5 (.makeFunc F.q54 [X.s 1]),
 X.o 6 (.call F.q62 [X.s 4, X.s 5]),
 X.m 2 6]
def C.q53_r1 : List IOper := C.q53_r1_b
def C.q53_r1_w := @aopsE _ _ C.q53_r1.eq_1
def C.q53_c1 : ICode := .keep [0, 1] (.seq (.region C.q53_r1) .ret)
def C.q53_c1_w := @awpE _ _ C.q53_c1.eq_1
def C.q53_r0_b : List IOper := [
 X.o 2 (.move (X.i 0))]
def C.q53_r0 : List IOper := C.q53_r0_b
def C.q53_r0_w := @aopsE _ _ C.q53_r0.eq_1
def C.q53 : IFunc := ⟨2, [.slot 2], .seq (.region C.q53_r0) C.q53_c1⟩
def C.q53_W := And.intro @C.q53_r1_w (And.intro @C.q53_c1_w @C.q53_r0_w)
def C.q53_B := And.intro @C.q53_r1_b.eq_1 @C.q53_r0_b.eq_1

def C.q54_r1_b : List IOper := [
 X.m 4 0,
 X.o 5 (.fldAddr 3 (X.s 1)),
 X.o 6 (.load1 (X.s 5)),
 X.o 7 (.len (X.s 6)),
 X.o 8 (.bin .sub (X.s 7) (X.i 1)),
 X.o 9 (.call F.q71 [X.s 4, X.i 0, X.s 8]),
 X.o 10 (.un .not (X.s 9)),
 X.o 11 (.call F.q70 [X.s 10, X.i 4]),
 X.m 3 11]
def C.q54_r1 : List IOper := C.q54_r1_b
def C.q54_r1_w := @aopsE _ _ C.q54_r1.eq_1
def C.q54_c1 : ICode := .keep [0, 1] (.seq (.region C.q54_r1) .ret)
def C.q54_c1_w := @awpE _ _ C.q54_c1.eq_1
def C.q54_r0_b : List IOper := [
 X.o 3 (.move (X.i 0))]
def C.q54_r0 : List IOper := C.q54_r0_b
def C.q54_r0_w := @aopsE _ _ C.q54_r0.eq_1
def C.q54 : IFunc := ⟨2, [.slot 3], .seq (.region C.q54_r0) C.q54_c1⟩
def C.q54_W := And.intro @C.q54_r1_w (And.intro @C.q54_c1_w @C.q54_r0_w)
def C.q54_B := And.intro @C.q54_r1_b.eq_1 @C.q54_r0_b.eq_1

def C.q12_r16_b : List IOper := [
 X.o 4 (.move (X.i 0))]
def C.q12_r16 : List IOper := C.q12_r16_b
def C.q12_r16_w := @aopsE _ _ C.q12_r16.eq_1
def C.q12_c1 : ICode := .keep [] (.seq (.region C.q12_r16) .ret)
def C.q12_c1_w := @awpE _ _ C.q12_c1.eq_1
def C.q12_r15_b : List IOper := [
 X.o 4 (.move (X.i 3))]
def C.q12_r15 : List IOper := C.q12_r15_b
def C.q12_r15_w := @aopsE _ _ C.q12_r15.eq_1
def C.q12_c2 : ICode := .seq (.region C.q12_r15) .ret
def C.q12_c2_w := @awpE _ _ C.q12_c2.eq_1
def C.q12_c3 : ICode := .keep [103] (.cond (X.s 103) C.q12_c2 .skip)
def C.q12_c3_w := @awpE _ _ C.q12_c3.eq_1
def C.q12_r14_b : List IOper := [
 X.o 95 (.fldAddr 0 (X.s 2)),
 X.o 96 (.load1 (X.s 95)),
 X.o 97 (.bin .eql (X.s 96) (.cst (.int .u8 100))),
 X.m 98 97,
 X.t 98 99 (.fldAddr 4 (X.s 2)),
 X.t 98 100 (.load1 (X.s 99)),
 X.t 98 101 (.call F.q18 [X.s 100, X.i 1, X.i 1000]),
 X.t 98 102 (.un .not (X.s 101)),
 X.o 103 (.pick (X.s 98) (X.s 102) (.cst (.bool false)))]
def C.q12_r14 : List IOper := C.q12_r14_b
def C.q12_r14_w := @aopsE _ _ C.q12_r14.eq_1
def C.q12_c4 : ICode := .keep [2] (.seq (.seq (.region C.q12_r14) C.q12_c3) C.q12_c1)
def C.q12_c4_w := @awpE _ _ C.q12_c4.eq_1
def C.q12_r13_b : List IOper := [
 X.o 4 (.move (X.i 3))]
def C.q12_r13 : List IOper := C.q12_r13_b
def C.q12_r13_w := @aopsE _ _ C.q12_r13.eq_1
def C.q12_c5 : ICode := .seq (.region C.q12_r13) .ret
def C.q12_c5_w := @awpE _ _ C.q12_c5.eq_1
def C.q12_c6 : ICode := .keep [2, 94] (.cond (X.s 94) C.q12_c5 .skip)
def C.q12_c6_w := @awpE _ _ C.q12_c6.eq_1
def C.q12_r12_b : List IOper := [
 X.o 74 (.fldAddr 0 (X.s 2)),
 X.o 75 (.load1 (X.s 74)),
 X.o 76 (.bin .eql (X.s 75) (.cst (.int .u8 112))),
 X.m 77 76,
 X.t 77 78 (.fldAddr 3 (X.s 2)),
 X.t 77 79 (.load1 (X.s 78)),
 X.t 77 80 (.call F.q18 [X.s 79, X.i 1, X.i 1000]),
 X.t 77 81 (.un .not (X.s 80)),
 X.t 77 82 (.move (X.s 81)),
 X.f 82 83 (.fldAddr 4 (X.s 2)),
 X.f 82 84 (.load1 (X.s 83)),
 X.f 82 85 (.call F.q18 [X.s 84, X.i 1, X.i 1000]),
 X.f 82 86 (.un .not (X.s 85)),
 X.t 77 87 (.pick (X.s 82) (.cst (.bool true)) (X.s 86)),
 X.t 77 88 (.move (X.s 87)),
 X.f 88 89 (.fldAddr 5 (X.s 2)),
 X.f 88 90 (.load1 (X.s 89)),
 X.f 88 91 (.call F.q18 [X.s 90, X.i 0, X.i 20]),
 X.f 88 92 (.un .not (X.s 91)),
 X.t 77 93 (.pick (X.s 88) (.cst (.bool true)) (X.s 92)),
 X.o 94 (.pick (X.s 77) (X.s 93) (.cst (.bool false)))]
def C.q12_r12 : List IOper := C.q12_r12_b
def C.q12_r12_w := @aopsE _ _ C.q12_r12.eq_1
def C.q12_c7 : ICode := .keep [2] (.seq (.seq (.region C.q12_r12) C.q12_c6) C.q12_c4)
def C.q12_c7_w := @awpE _ _ C.q12_c7.eq_1
def C.q12_r11_b : List IOper := [
 X.o 4 (.move (X.i 3))]
def C.q12_r11 : List IOper := C.q12_r11_b
def C.q12_r11_w := @aopsE _ _ C.q12_r11.eq_1
def C.q12_c8 : ICode := .seq (.region C.q12_r11) .ret
def C.q12_c8_w := @awpE _ _ C.q12_c8.eq_1
def C.q12_c9 : ICode := .keep [2, 73] (.cond (X.s 73) C.q12_c8 .skip)
def C.q12_c9_w := @awpE _ _ C.q12_c9.eq_1
def C.q12_r10_b : List IOper := [
 X.o 61 (.fldAddr 0 (X.s 2)),
 X.o 62 (.load1 (X.s 61)),
 X.o 63 (.bin .eql (X.s 62) (.cst (.int .u8 111))),
 X.m 64 63,
 X.t 64 65 (.fldAddr 2 (X.s 2)),
 X.t 64 66 (.load1 (X.s 65)),
 X.t 64 67 (.bin .lss (X.s 66) (.cst (.int .u64 1))),
 X.t 64 68 (.move (X.s 67)),
 X.f 68 69 (.fldAddr 2 (X.s 2)),
 X.f 68 70 (.load1 (X.s 69)),
 X.f 68 71 (.bin .gtr (X.s 70) (.cst (.int .u64 1099511627776))),
 X.t 64 72 (.pick (X.s 68) (.cst (.bool true)) (X.s 71)),
 X.o 73 (.pick (X.s 64) (X.s 72) (.cst (.bool false)))]
def C.q12_r10 : List IOper := C.q12_r10_b
def C.q12_r10_w := @aopsE _ _ C.q12_r10.eq_1
def C.q12_c10 : ICode := .keep [2] (.seq (.seq (.region C.q12_r10) C.q12_c9) C.q12_c7)
def C.q12_c10_w := @awpE _ _ C.q12_c10.eq_1
def C.q12_r7_b : List IOper := [
 X.m 51 7,
 X.o 52 (.bin .add (X.s 51) (X.i 1)),
 X.m 7 52]
def C.q12_r7 : List IOper := C.q12_r7_b
def C.q12_r7_w := @aopsE _ _ C.q12_r7.eq_1
def C.q12_c11 : ICode := .keep [1, 2, 5, 7] (.region C.q12_r7)
def C.q12_c11_w := @awpE _ _ C.q12_c11.eq_1
def C.q12_r9_b : List IOper := [
 X.o 4 (.move (X.i 4))]
def C.q12_r9 : List IOper := C.q12_r9_b
def C.q12_r9_w := @aopsE _ _ C.q12_r9.eq_1
def C.q12_c12 : ICode := .seq (.region C.q12_r9) .ret
def C.q12_c12_w := @awpE _ _ C.q12_c12.eq_1
def C.q12_c13 : ICode := .keep [1, 2, 5, 7, 60] (.cond (X.s 60) C.q12_c12 .skip)
def C.q12_c13_w := @awpE _ _ C.q12_c13.eq_1
def C.q12_r8_b : List IOper := [
 X.o 53 (.fldAddr 1 (X.s 2)),
 X.o 54 (.load1 (X.s 53)),
 X.m 55 7,
 X.o 56 (.idxAddr 1 (X.s 54) (X.s 55)),
 X.o 57 (.load1 (X.s 56)),
 X.m 58 1,
 X.o 59 (.call F.q17 [X.s 57, X.s 58]),
 X.o 60 (.un .not (X.s 59))]
def C.q12_r8 : List IOper := C.q12_r8_b
def C.q12_r8_w := @aopsE _ _ C.q12_r8.eq_1
def C.q12_b14 : ICode := .seq (.region C.q12_r8) C.q12_c13
def C.q12_b14_w := @awpE _ _ C.q12_b14.eq_1
def C.q12_c15 : ICode := .keep [1, 2, 5, 7] (.seq (.block 1 C.q12_b14) C.q12_c11)
def C.q12_c15_w := @awpE _ _ C.q12_c15.eq_1
def C.q12_c16 : ICode := .keep [1, 2, 5, 7, 50] (.cond (X.s 50) .skip (.exit 0))
def C.q12_c16_w := @awpE _ _ C.q12_c16.eq_1
def C.q12_r6_b : List IOper := [
 X.m 48 7,
 X.m 49 5,
 X.o 50 (.bin .lss (X.s 48) (X.s 49))]
def C.q12_r6 : List IOper := C.q12_r6_b
def C.q12_r6_w := @aopsE _ _ C.q12_r6.eq_1
def C.q12_l17 : ICode := .keep [1, 2, 5, 7] (.seq (.seq (.region C.q12_r6) C.q12_c16) C.q12_c15)
def C.q12_l17_w := @awpE _ _ C.q12_l17.eq_1
def C.q12_b18 : ICode := .loop C.q12_l17
def C.q12_b18_w := @awpE _ _ C.q12_b18.eq_1
def C.q12_c19 : ICode := .keep [1, 2, 5, 7] (.block 0 C.q12_b18)
def C.q12_c19_w := @awpE _ _ C.q12_c19.eq_1
def C.q12_r5_b : List IOper := [
 X.o 7 (.move (X.i 0))]
def C.q12_r5 : List IOper := C.q12_r5_b
def C.q12_r5_w := @aopsE _ _ C.q12_r5.eq_1
def C.q12_c20 : ICode := .keep [1, 2, 5] (.seq (.seq (.region C.q12_r5) C.q12_c19) C.q12_c10)
def C.q12_c20_w := @awpE _ _ C.q12_c20.eq_1
def C.q12_r4_b : List IOper := [
 X.o 4 (.move (X.i 1))]
def C.q12_r4 : List IOper := C.q12_r4_b
def C.q12_r4_w := @aopsE _ _ C.q12_r4.eq_1
def C.q12_c21 : ICode := .seq (.region C.q12_r4) .ret
def C.q12_c21_w := @awpE _ _ C.q12_c21.eq_1
def C.q12_c22 : ICode := .keep [1, 2, 5, 47] (.cond (X.s 47) C.q12_c21 .skip)
def C.q12_c22_w := @awpE _ _ C.q12_c22.eq_1
def C.q12_r3_b : List IOper := [
 X.m 46 6,
 X.o 47 (.un .not (X.s 46))]
def C.q12_r3 : List IOper := C.q12_r3_b
def C.q12_r3_w := @aopsE _ _ C.q12_r3.eq_1
def C.q12_c23 : ICode := .keep [1, 2, 5, 6] (.seq (.seq (.region C.q12_r3) C.q12_c22) C.q12_c20)
def C.q12_c23_w := @awpE _ _ C.q12_c23.eq_1
def C.q12_r2_b : List IOper := [
 X.o 11 (.fldAddr 0 (X.s 2)),
 X.o 12 (.load1 (X.s 11)),
 X.o 13 (.bin .eql (X.s 12) (.cst (.int .u8 111))),
 X.m 14 13,
 X.t 14 15 (.move (X.s 5)),
 X.t 14 16 (.bin .eql (X.s 15) (X.i 0)),
 X.o 17 (.pick (X.s 14) (X.s 16) (.cst (.bool false))),
 X.m 18 17,
 X.f 18 19 (.fldAddr 0 (X.s 2)),
 X.f 18 20 (.load1 (X.s 19)),
 X.f 18 21 (.bin .eql (X.s 20) (.cst (.int .u8 112))),
 X.f 18 22 (.move (X.s 21)),
 X.f 22 23 (.fldAddr 0 (X.s 2)),
 X.f 22 24 (.load1 (X.s 23)),
 X.f 22 25 (.bin .eql (X.s 24) (.cst (.int .u8 100))),
 X.f 18 26 (.pick (X.s 22) (.cst (.bool true)) (X.s 25)),
 X.f 18 27 (.move (X.s 26)),
 X.f 27 28 (.fldAddr 0 (X.s 2)),
 X.f 27 29 (.load1 (X.s 28)),
 X.f 27 30 (.bin .eql (X.s 29) (.cst (.int .u8 103))),
 X.f 18 31 (.pick (X.s 27) (.cst (.bool true)) (X.s 30)),
 X.f 18 32 (.move (X.s 31)),
 X.t 32 33 (.move (X.s 5)),
 X.t 32 34 (.bin .eql (X.s 33) (X.i 1)),
 X.f 18 35 (.pick (X.s 32) (X.s 34) (.cst (.bool false))),
 X.o 36 (.pick (X.s 18) (.cst (.bool true)) (X.s 35)),
 X.m 37 36,
 X.f 37 38 (.fldAddr 0 (X.s 2)),
 X.f 37 39 (.load1 (X.s 38)),
 X.f 37 40 (.bin .eql (X.s 39) (.cst (.int .u8 109))),
 X.f 37 41 (.move (X.s 40)),
 X.t 41 42 (.move (X.s 5)),
 X.t 41 43 (.call F.q18 [X.s 42, X.i 1, X.i 4]),
 X.f 37 44 (.pick (X.s 41) (X.s 43) (.cst (.bool false))),
 X.o 45 (.pick (X.s 37) (.cst (.bool true)) (X.s 44)),
 X.m 6 45]
def C.q12_r2 : List IOper := C.q12_r2_b
def C.q12_r2_w := @aopsE _ _ C.q12_r2.eq_1
def C.q12_c24 : ICode := .keep [1, 2, 5] (.seq (.region C.q12_r2) C.q12_c23)
def C.q12_c24_w := @awpE _ _ C.q12_c24.eq_1
def C.q12_r1_b : List IOper := [
 X.o 8 (.fldAddr 1 (X.s 2)),
 X.o 9 (.load1 (X.s 8)),
 X.o 10 (.len (X.s 9)),
 X.m 5 10]
def C.q12_r1 : List IOper := C.q12_r1_b
def C.q12_r1_w := @aopsE _ _ C.q12_r1.eq_1
def C.q12_c25 : ICode := .keep [1, 2] (.seq (.region C.q12_r1) C.q12_c24)
def C.q12_c25_w := @awpE _ _ C.q12_c25.eq_1
def C.q12_r0_b : List IOper := [
 X.o 2 (.boxN (X.s 0)),
 X.o 4 (.move (X.i 0))]
def C.q12_r0 : List IOper := C.q12_r0_b
def C.q12_r0_w := @aopsE _ _ C.q12_r0.eq_1
def C.q12 : IFunc := ⟨2, [.slot 4], .seq (.region C.q12_r0) C.q12_c25⟩
def C.q12_W := And.intro (And.intro (And.intro (And.intro (And.intro @C.q12_r16_w @C.q12_c1_w) (And.intro @C.q12_r15_w (And.intro @C.q12_c2_w @C.q12_c3_w))) (And.intro (And.intro @C.q12_r14_w @C.q12_c4_w) (And.intro @C.q12_r13_w (And.intro @C.q12_c5_w @C.q12_c6_w)))) (And.intro (And.intro (And.intro @C.q12_r12_w @C.q12_c7_w) (And.intro @C.q12_r11_w (And.intro @C.q12_c8_w @C.q12_c9_w))) (And.intro (And.intro @C.q12_r10_w @C.q12_c10_w) (And.intro @C.q12_r7_w (And.intro @C.q12_c11_w @C.q12_r9_w))))) (And.intro (And.intro (And.intro (And.intro @C.q12_c12_w @C.q12_c13_w) (And.intro @C.q12_r8_w (And.intro @C.q12_b14_w @C.q12_c15_w))) (And.intro (And.intro @C.q12_c16_w @C.q12_r6_w) (And.intro @C.q12_b18_w (And.intro @C.q12_c19_w @C.q12_r5_w)))) (And.intro (And.intro (And.intro @C.q12_c20_w @C.q12_r4_w) (And.intro @C.q12_c21_w (And.intro @C.q12_c22_w @C.q12_r3_w))) (And.intro (And.intro @C.q12_c23_w (And.intro @C.q12_r2_w @C.q12_c24_w)) (And.intro @C.q12_r1_w (And.intro @C.q12_c25_w @C.q12_r0_w)))))
def C.q12_B := And.intro (And.intro (And.intro (And.intro @C.q12_r16_b.eq_1 @C.q12_r15_b.eq_1) (And.intro @C.q12_r14_b.eq_1 @C.q12_r13_b.eq_1)) (And.intro (And.intro @C.q12_r12_b.eq_1 @C.q12_r11_b.eq_1) (And.intro @C.q12_r10_b.eq_1 @C.q12_r7_b.eq_1))) (And.intro (And.intro (And.intro @C.q12_r9_b.eq_1 @C.q12_r8_b.eq_1) (And.intro @C.q12_r6_b.eq_1 @C.q12_r5_b.eq_1)) (And.intro (And.intro @C.q12_r4_b.eq_1 @C.q12_r3_b.eq_1) (And.intro @C.q12_r2_b.eq_1 (And.intro @C.q12_r1_b.eq_1 @C.q12_r0_b.eq_1))))

def C.q6_r13_b : List IOper := [
 X.o 2 (.move (X.i 0))]
def C.q6_r13 : List IOper := C.q6_r13_b
def C.q6_r13_w := @aopsE _ _ C.q6_r13.eq_1
def C.q6_c1 : ICode := .keep [] (.seq (.region C.q6_r13) .ret)
def C.q6_c1_w := @awpE _ _ C.q6_c1.eq_1
def C.q6_r12_b : List IOper := [
 X.o 2 (.move (X.i 5))]
def C.q6_r12 : List IOper := C.q6_r12_b
def C.q6_r12_w := @aopsE _ _ C.q6_r12.eq_1
def C.q6_c2 : ICode := .seq (.region C.q6_r12) .ret
def C.q6_c2_w := @awpE _ _ C.q6_c2.eq_1
def C.q6_c3 : ICode := .keep [48] (.cond (X.s 48) C.q6_c2 .skip)
def C.q6_c3_w := @awpE _ _ C.q6_c3.eq_1
def C.q6_r11_b : List IOper := [
 X.m 43 0,
 X.o 44 (.call F.q7 [X.s 43]),
 X.o 45 (.len (X.s 44)),
 X.m 46 0,
 X.o 47 (.len (X.s 46)),
 X.o 48 (.bin .lss (X.s 45) (X.s 47))]
def C.q6_r11 : List IOper := C.q6_r11_b
def C.q6_r11_w := @aopsE _ _ C.q6_r11.eq_1
def C.q6_c4 : ICode := .keep [0] (.seq (.seq (.region C.q6_r11) C.q6_c3) C.q6_c1)
def C.q6_c4_w := @awpE _ _ C.q6_c4.eq_1
def C.q6_r5_b : List IOper := [
 X.m 12 3,
 X.o 13 (.bin .add (X.s 12) (X.i 1)),
 X.m 3 13]
def C.q6_r5 : List IOper := C.q6_r5_b
def C.q6_r5_w := @aopsE _ _ C.q6_r5.eq_1
def C.q6_c5 : ICode := .keep [0, 3] (.region C.q6_r5)
def C.q6_c5_w := @awpE _ _ C.q6_c5.eq_1
def C.q6_r8_b : List IOper := [
 X.m 21 4,
 X.o 22 (.bin .add (X.s 21) (X.i 1)),
 X.m 4 22]
def C.q6_r8 : List IOper := C.q6_r8_b
def C.q6_r8_w := @aopsE _ _ C.q6_r8.eq_1
def C.q6_c6 : ICode := .keep [0, 3, 4] (.region C.q6_r8)
def C.q6_c6_w := @awpE _ _ C.q6_c6.eq_1
def C.q6_r10_b : List IOper := [
 X.o 2 (.move (X.i 4))]
def C.q6_r10 : List IOper := C.q6_r10_b
def C.q6_r10_w := @aopsE _ _ C.q6_r10.eq_1
def C.q6_c7 : ICode := .seq (.region C.q6_r10) .ret
def C.q6_c7_w := @awpE _ _ C.q6_c7.eq_1
def C.q6_c8 : ICode := .keep [0, 3, 4, 42] (.cond (X.s 42) C.q6_c7 .skip)
def C.q6_c8_w := @awpE _ _ C.q6_c8.eq_1
def C.q6_r9_b : List IOper := [
 X.m 23 0,
 X.m 24 3,
 X.o 25 (.idxAddr 1 (X.s 23) (X.s 24)),
 X.o 26 (.load1 (X.s 25)),
 X.m 27 4,
 X.o 28 (.idxAddr 1 (X.s 26) (X.s 27)),
 X.o 29 (.load1 (X.s 28)),
 X.o 30 (.bin .lss (X.s 29) (X.i 0)),
 X.m 31 30,
 X.f 31 32 (.move (X.s 0)),
 X.f 31 33 (.move (X.s 3)),
 X.f 31 34 (.idxAddr 1 (X.s 32) (X.s 33)),
 X.f 31 35 (.load1 (X.s 34)),
 X.f 31 36 (.move (X.s 4)),
 X.f 31 37 (.idxAddr 1 (X.s 35) (X.s 36)),
 X.f 31 38 (.load1 (X.s 37)),
 X.f 31 39 (.move (X.s 0)),
 X.f 31 40 (.len (X.s 39)),
 X.f 31 41 (.bin .geq (X.s 38) (X.s 40)),
 X.o 42 (.pick (X.s 31) (.cst (.bool true)) (X.s 41))]
def C.q6_r9 : List IOper := C.q6_r9_b
def C.q6_r9_w := @aopsE _ _ C.q6_r9.eq_1
def C.q6_b9 : ICode := .seq (.region C.q6_r9) C.q6_c8
def C.q6_b9_w := @awpE _ _ C.q6_b9.eq_1
def C.q6_c10 : ICode := .keep [0, 3, 4] (.seq (.block 3 C.q6_b9) C.q6_c6)
def C.q6_c10_w := @awpE _ _ C.q6_c10.eq_1
def C.q6_c11 : ICode := .keep [0, 3, 4, 20] (.cond (X.s 20) .skip (.exit 2))
def C.q6_c11_w := @awpE _ _ C.q6_c11.eq_1
def C.q6_r7_b : List IOper := [
 X.m 14 4,
 X.m 15 0,
 X.m 16 3,
 X.o 17 (.idxAddr 1 (X.s 15) (X.s 16)),
 X.o 18 (.load1 (X.s 17)),
 X.o 19 (.len (X.s 18)),
 X.o 20 (.bin .lss (X.s 14) (X.s 19))]
def C.q6_r7 : List IOper := C.q6_r7_b
def C.q6_r7_w := @aopsE _ _ C.q6_r7.eq_1
def C.q6_l12 : ICode := .keep [0, 3, 4] (.seq (.seq (.region C.q6_r7) C.q6_c11) C.q6_c10)
def C.q6_l12_w := @awpE _ _ C.q6_l12.eq_1
def C.q6_b13 : ICode := .loop C.q6_l12
def C.q6_b13_w := @awpE _ _ C.q6_b13.eq_1
def C.q6_c14 : ICode := .keep [0, 3, 4] (.block 2 C.q6_b13)
def C.q6_c14_w := @awpE _ _ C.q6_c14.eq_1
def C.q6_r6_b : List IOper := [
 X.o 4 (.move (X.i 0))]
def C.q6_r6 : List IOper := C.q6_r6_b
def C.q6_r6_w := @aopsE _ _ C.q6_r6.eq_1
def C.q6_b15 : ICode := .seq (.region C.q6_r6) C.q6_c14
def C.q6_b15_w := @awpE _ _ C.q6_b15.eq_1
def C.q6_c16 : ICode := .keep [0, 3] (.seq (.block 1 C.q6_b15) C.q6_c5)
def C.q6_c16_w := @awpE _ _ C.q6_c16.eq_1
def C.q6_c17 : ICode := .keep [0, 3, 11] (.cond (X.s 11) .skip (.exit 0))
def C.q6_c17_w := @awpE _ _ C.q6_c17.eq_1
def C.q6_r4_b : List IOper := [
 X.m 8 3,
 X.m 9 0,
 X.o 10 (.len (X.s 9)),
 X.o 11 (.bin .lss (X.s 8) (X.s 10))]
def C.q6_r4 : List IOper := C.q6_r4_b
def C.q6_r4_w := @aopsE _ _ C.q6_r4.eq_1
def C.q6_l18 : ICode := .keep [0, 3] (.seq (.seq (.region C.q6_r4) C.q6_c17) C.q6_c16)
def C.q6_l18_w := @awpE _ _ C.q6_l18.eq_1
def C.q6_b19 : ICode := .loop C.q6_l18
def C.q6_b19_w := @awpE _ _ C.q6_b19.eq_1
def C.q6_c20 : ICode := .keep [0, 3] (.block 0 C.q6_b19)
def C.q6_c20_w := @awpE _ _ C.q6_c20.eq_1
def C.q6_r3_b : List IOper := [
 X.o 3 (.move (X.i 0))]
def C.q6_r3 : List IOper := C.q6_r3_b
def C.q6_r3_w := @aopsE _ _ C.q6_r3.eq_1
def C.q6_c21 : ICode := .keep [0] (.seq (.seq (.region C.q6_r3) C.q6_c20) C.q6_c4)
def C.q6_c21_w := @awpE _ _ C.q6_c21.eq_1
def C.q6_r2_b : List IOper := [
 X.o 2 (.move (X.i 1))]
def C.q6_r2 : List IOper := C.q6_r2_b
def C.q6_r2_w := @aopsE _ _ C.q6_r2.eq_1
def C.q6_c22 : ICode := .seq (.region C.q6_r2) .ret
def C.q6_c22_w := @awpE _ _ C.q6_c22.eq_1
def C.q6_c23 : ICode := .keep [0, 7] (.cond (X.s 7) C.q6_c22 .skip)
def C.q6_c23_w := @awpE _ _ C.q6_c23.eq_1
def C.q6_r1_b : List IOper := [
 X.m 5 0,
 X.o 6 (.len (X.s 5)),
 X.o 7 (.bin .gtr (X.s 6) (X.i 100))]
def C.q6_r1 : List IOper := C.q6_r1_b
def C.q6_r1_w := @aopsE _ _ C.q6_r1.eq_1
def C.q6_c24 : ICode := .keep [0] (.seq (.seq (.region C.q6_r1) C.q6_c23) C.q6_c21)
def C.q6_c24_w := @awpE _ _ C.q6_c24.eq_1
def C.q6_r0_b : List IOper := [
 X.o 2 (.move (X.i 0))]
def C.q6_r0 : List IOper := C.q6_r0_b
def C.q6_r0_w := @aopsE _ _ C.q6_r0.eq_1
def C.q6 : IFunc := ⟨1, [.slot 2], .seq (.region C.q6_r0) C.q6_c24⟩
def C.q6_W := And.intro (And.intro (And.intro (And.intro (And.intro @C.q6_r13_w @C.q6_c1_w) (And.intro @C.q6_r12_w @C.q6_c2_w)) (And.intro (And.intro @C.q6_c3_w @C.q6_r11_w) (And.intro @C.q6_c4_w (And.intro @C.q6_r5_w @C.q6_c5_w)))) (And.intro (And.intro (And.intro @C.q6_r8_w @C.q6_c6_w) (And.intro @C.q6_r10_w @C.q6_c7_w)) (And.intro (And.intro @C.q6_c8_w @C.q6_r9_w) (And.intro @C.q6_b9_w (And.intro @C.q6_c10_w @C.q6_c11_w))))) (And.intro (And.intro (And.intro (And.intro @C.q6_r7_w @C.q6_b13_w) (And.intro @C.q6_c14_w @C.q6_r6_w)) (And.intro (And.intro @C.q6_b15_w @C.q6_c16_w) (And.intro @C.q6_c17_w (And.intro @C.q6_r4_w @C.q6_b19_w)))) (And.intro (And.intro (And.intro @C.q6_c20_w @C.q6_r3_w) (And.intro @C.q6_c21_w @C.q6_r2_w)) (And.intro (And.intro @C.q6_c22_w @C.q6_c23_w) (And.intro @C.q6_r1_w (And.intro @C.q6_c24_w @C.q6_r0_w)))))
def C.q6_B := And.intro (And.intro (And.intro @C.q6_r13_b.eq_1 (And.intro @C.q6_r12_b.eq_1 @C.q6_r11_b.eq_1)) (And.intro (And.intro @C.q6_r5_b.eq_1 @C.q6_r8_b.eq_1) (And.intro @C.q6_r10_b.eq_1 @C.q6_r9_b.eq_1))) (And.intro (And.intro @C.q6_r7_b.eq_1 (And.intro @C.q6_r6_b.eq_1 @C.q6_r4_b.eq_1)) (And.intro (And.intro @C.q6_r3_b.eq_1 @C.q6_r2_b.eq_1) (And.intro @C.q6_r1_b.eq_1 @C.q6_r0_b.eq_1)))

def C.q9_r6_b : List IOper := [
 X.m 23 3,
 X.m 2 23]
def C.q9_r6 : List IOper := C.q9_r6_b
def C.q9_r6_w := @aopsE _ _ C.q9_r6.eq_1
def C.q9_c1 : ICode := .keep [3] (.seq (.region C.q9_r6) .ret)
def C.q9_c1_w := @awpE _ _ C.q9_c1.eq_1
def C.q9_r4_b : List IOper := [
 X.m 10 4,
 X.o 11 (.bin .add (X.s 10) (X.i 1)),
 X.m 4 11]
def C.q9_r4 : List IOper := C.q9_r4_b
def C.q9_r4_w := @aopsE _ _ C.q9_r4.eq_1
def C.q9_c2 : ICode := .keep [1, 3, 4] (.region C.q9_r4)
def C.q9_c2_w := @awpE _ _ C.q9_c2.eq_1
def C.q9_r5_b : List IOper := [
 X.m 12 3,
 X.o 13 (.buildSlice 1 0 [.int .i64 0] []),
 X.o 14 (.fldAddr 0 (X.s 1)),
 X.o 15 (.load1 (X.s 14)),
 X.m 16 4,
 X.o 17 (.idxAddr 6 (X.s 15) (X.s 16)),
 X.o 18 (.fldAddr 1 (X.s 17)),
 X.o 19 (.load1 (X.s 18)),
 X.o 20 (.append 1 8 (X.s 13) (X.s 19)),
 X.o 21 (.buildSlice 1 1 [.nils] [(0, 1, X.s 20)]),
 X.o 22 (.append 1 24 (X.s 12) (X.s 21)),
 X.m 3 22]
def C.q9_r5 : List IOper := C.q9_r5_b
def C.q9_r5_w := @aopsE _ _ C.q9_r5.eq_1
def C.q9_b3 : ICode := .region C.q9_r5
def C.q9_b3_w := @awpE _ _ C.q9_b3.eq_1
def C.q9_c4 : ICode := .keep [1, 3, 4] (.seq (.block 1 C.q9_b3) C.q9_c2)
def C.q9_c4_w := @awpE _ _ C.q9_c4.eq_1
def C.q9_c5 : ICode := .keep [1, 3, 4, 9] (.cond (X.s 9) .skip (.exit 0))
def C.q9_c5_w := @awpE _ _ C.q9_c5.eq_1
def C.q9_r3_b : List IOper := [
 X.m 5 4,
 X.o 6 (.fldAddr 0 (X.s 1)),
 X.o 7 (.load1 (X.s 6)),
 X.o 8 (.len (X.s 7)),
 X.o 9 (.bin .lss (X.s 5) (X.s 8))]
def C.q9_r3 : List IOper := C.q9_r3_b
def C.q9_r3_w := @aopsE _ _ C.q9_r3.eq_1
def C.q9_l6 : ICode := .keep [1, 3, 4] (.seq (.seq (.region C.q9_r3) C.q9_c5) C.q9_c4)
def C.q9_l6_w := @awpE _ _ C.q9_l6.eq_1
def C.q9_b7 : ICode := .loop C.q9_l6
def C.q9_b7_w := @awpE _ _ C.q9_b7.eq_1
def C.q9_c8 : ICode := .keep [1, 3, 4] (.block 0 C.q9_b7)
def C.q9_c8_w := @awpE _ _ C.q9_c8.eq_1
def C.q9_r2_b : List IOper := [
 X.o 4 (.move (X.i 0))]
def C.q9_r2 : List IOper := C.q9_r2_b
def C.q9_r2_w := @aopsE _ _ C.q9_r2.eq_1
def C.q9_c9 : ICode := .keep [1, 3] (.seq (.seq (.region C.q9_r2) C.q9_c8) C.q9_c1)
def C.q9_c9_w := @awpE _ _ C.q9_c9.eq_1
def C.q9_r1_b : List IOper := [
 X.o 3 (.move (.cst (.nils)))]
def C.q9_r1 : List IOper := C.q9_r1_b
def C.q9_r1_w := @aopsE _ _ C.q9_r1.eq_1
def C.q9_c10 : ICode := .keep [1] (.seq (.region C.q9_r1) C.q9_c9)
def C.q9_c10_w := @awpE _ _ C.q9_c10.eq_1
def C.q9_r0_b : List IOper := [
 X.o 1 (.boxN (X.s 0)),
 X.o 2 (.move (.cst (.nils)))]
def C.q9_r0 : List IOper := C.q9_r0_b
def C.q9_r0_w := @aopsE _ _ C.q9_r0.eq_1
def C.q9 : IFunc := ⟨1, [.slot 2], .seq (.region C.q9_r0) C.q9_c10⟩
def C.q9_W := And.intro (And.intro (And.intro (And.intro @C.q9_r6_w @C.q9_c1_w) (And.intro @C.q9_r4_w @C.q9_c2_w)) (And.intro (And.intro @C.q9_r5_w @C.q9_b3_w) (And.intro @C.q9_c4_w @C.q9_c5_w))) (And.intro (And.intro (And.intro @C.q9_r3_w @C.q9_b7_w) (And.intro @C.q9_c8_w @C.q9_r2_w)) (And.intro (And.intro @C.q9_c9_w @C.q9_r1_w) (And.intro @C.q9_c10_w @C.q9_r0_w)))
def C.q9_B := And.intro (And.intro @C.q9_r6_b.eq_1 (And.intro @C.q9_r4_b.eq_1 @C.q9_r5_b.eq_1)) (And.intro (And.intro @C.q9_r3_b.eq_1 @C.q9_r2_b.eq_1) (And.intro @C.q9_r1_b.eq_1 @C.q9_r0_b.eq_1))

def C.q17_r1_b : List IOper := [
 X.m 5 0,
 X.o 6 (.bin .geq (X.s 5) (X.i 0)),
 X.m 7 6,
 X.t 7 8 (.move (X.s 0)),
 X.t 7 9 (.move (X.s 1)),
 X.t 7 10 (.bin .lss (X.s 8) (X.s 9)),
 X.o 11 (.pick (X.s 7) (X.s 10) (.cst (.bool false))),
 X.m 4 11]
def C.q17_r1 : List IOper := C.q17_r1_b
def C.q17_r1_w := @aopsE _ _ C.q17_r1.eq_1
def C.q17_c1 : ICode := .keep [0, 1] (.seq (.region C.q17_r1) .ret)
def C.q17_c1_w := @awpE _ _ C.q17_c1.eq_1
def C.q17_r0_b : List IOper := [
 X.o 4 (.move (.cst (.bool false)))]
def C.q17_r0 : List IOper := C.q17_r0_b
def C.q17_r0_w := @aopsE _ _ C.q17_r0.eq_1
def C.q17 : IFunc := ⟨2, [.slot 4], .seq (.region C.q17_r0) C.q17_c1⟩
def C.q17_W := And.intro @C.q17_r1_w (And.intro @C.q17_c1_w @C.q17_r0_w)
def C.q17_B := And.intro @C.q17_r1_b.eq_1 @C.q17_r0_b.eq_1

def C.q10_r9_b : List IOper := [
 X.m 33 3,
 X.m 2 33]
def C.q10_r9 : List IOper := C.q10_r9_b
def C.q10_r9_w := @aopsE _ _ C.q10_r9.eq_1
def C.q10_c1 : ICode := .keep [3] (.seq (.region C.q10_r9) .ret)
def C.q10_c1_w := @awpE _ _ C.q10_c1.eq_1
def C.q10_r4_b : List IOper := [
 X.m 11 4,
 X.o 12 (.bin .add (X.s 11) (X.i 1)),
 X.m 4 12]
def C.q10_r4 : List IOper := C.q10_r4_b
def C.q10_r4_w := @aopsE _ _ C.q10_r4.eq_1
def C.q10_c2 : ICode := .keep [1, 3, 4] (.region C.q10_r4)
def C.q10_c2_w := @awpE _ _ C.q10_c2.eq_1
def C.q10_r8_b : List IOper := [
 X.m 29 3,
 X.m 30 5,
 X.o 31 (.buildSlice 1 1 [.nils] [(0, 1, X.s 30)]),
 X.o 32 (.append 1 24 (X.s 29) (X.s 31)),
 X.m 3 32]
def C.q10_r8 : List IOper := C.q10_r8_b
def C.q10_r8_w := @aopsE _ _ C.q10_r8.eq_1
def C.q10_c3 : ICode := .keep [1, 3, 4, 5] (.region C.q10_r8)
def C.q10_c3_w := @awpE _ _ C.q10_c3.eq_1
def C.q10_r7_b : List IOper := [
 X.m 20 5,
 X.o 21 (.fldAddr 1 (X.s 1)),
 X.o 22 (.load1 (X.s 21)),
 X.m 23 4,
 X.o 24 (.idxAddr 3 (X.s 22) (X.s 23)),
 X.o 25 (.fldAddr 0 (X.s 24)),
 X.o 26 (.load1 (X.s 25)),
 X.o 27 (.buildSlice 1 1 [.int .i64 0] [(0, 1, X.s 26)]),
 X.o 28 (.append 1 8 (X.s 20) (X.s 27)),
 X.m 5 28]
def C.q10_r7 : List IOper := C.q10_r7_b
def C.q10_r7_w := @aopsE _ _ C.q10_r7.eq_1
def C.q10_c4 : ICode := .region C.q10_r7
def C.q10_c4_w := @awpE _ _ C.q10_c4.eq_1
def C.q10_c5 : ICode := .keep [1, 3, 4, 5, 19] (.cond (X.s 19) C.q10_c4 .skip)
def C.q10_c5_w := @awpE _ _ C.q10_c5.eq_1
def C.q10_r6_b : List IOper := [
 X.o 13 (.fldAddr 1 (X.s 1)),
 X.o 14 (.load1 (X.s 13)),
 X.m 15 4,
 X.o 16 (.idxAddr 3 (X.s 14) (X.s 15)),
 X.o 17 (.fldAddr 0 (X.s 16)),
 X.o 18 (.load1 (X.s 17)),
 X.o 19 (.bin .neq (X.s 18) (X.i (-1)))]
def C.q10_r6 : List IOper := C.q10_r6_b
def C.q10_r6_w := @aopsE _ _ C.q10_r6.eq_1
def C.q10_c6 : ICode := .keep [1, 3, 4, 5] (.seq (.seq (.region C.q10_r6) C.q10_c5) C.q10_c3)
def C.q10_c6_w := @awpE _ _ C.q10_c6.eq_1
def C.q10_r5_b : List IOper := [
 X.o 5 (.move (.cst (.nils)))]
def C.q10_r5 : List IOper := C.q10_r5_b
def C.q10_r5_w := @aopsE _ _ C.q10_r5.eq_1
def C.q10_b7 : ICode := .seq (.region C.q10_r5) C.q10_c6
def C.q10_b7_w := @awpE _ _ C.q10_b7.eq_1
def C.q10_c8 : ICode := .keep [1, 3, 4] (.seq (.block 1 C.q10_b7) C.q10_c2)
def C.q10_c8_w := @awpE _ _ C.q10_c8.eq_1
def C.q10_c9 : ICode := .keep [1, 3, 4, 10] (.cond (X.s 10) .skip (.exit 0))
def C.q10_c9_w := @awpE _ _ C.q10_c9.eq_1
def C.q10_r3_b : List IOper := [
 X.m 6 4,
 X.o 7 (.fldAddr 1 (X.s 1)),
 X.o 8 (.load1 (X.s 7)),
 X.o 9 (.len (X.s 8)),
 X.o 10 (.bin .lss (X.s 6) (X.s 9))]
def C.q10_r3 : List IOper := C.q10_r3_b
def C.q10_r3_w := @aopsE _ _ C.q10_r3.eq_1
def C.q10_l10 : ICode := .keep [1, 3, 4] (.seq (.seq (.region C.q10_r3) C.q10_c9) C.q10_c8)
def C.q10_l10_w := @awpE _ _ C.q10_l10.eq_1
def C.q10_b11 : ICode := .loop C.q10_l10
def C.q10_b11_w := @awpE _ _ C.q10_b11.eq_1
def C.q10_c12 : ICode := .keep [1, 3, 4] (.block 0 C.q10_b11)
def C.q10_c12_w := @awpE _ _ C.q10_c12.eq_1
def C.q10_r2_b : List IOper := [
 X.o 4 (.move (X.i 0))]
def C.q10_r2 : List IOper := C.q10_r2_b
def C.q10_r2_w := @aopsE _ _ C.q10_r2.eq_1
def C.q10_c13 : ICode := .keep [1, 3] (.seq (.seq (.region C.q10_r2) C.q10_c12) C.q10_c1)
def C.q10_c13_w := @awpE _ _ C.q10_c13.eq_1
def C.q10_r1_b : List IOper := [
 X.o 3 (.move (.cst (.nils)))]
def C.q10_r1 : List IOper := C.q10_r1_b
def C.q10_r1_w := @aopsE _ _ C.q10_r1.eq_1
def C.q10_c14 : ICode := .keep [1] (.seq (.region C.q10_r1) C.q10_c13)
def C.q10_c14_w := @awpE _ _ C.q10_c14.eq_1
def C.q10_r0_b : List IOper := [
 X.o 1 (.boxN (X.s 0)),
 X.o 2 (.move (.cst (.nils)))]
def C.q10_r0 : List IOper := C.q10_r0_b
def C.q10_r0_w := @aopsE _ _ C.q10_r0.eq_1
def C.q10 : IFunc := ⟨1, [.slot 2], .seq (.region C.q10_r0) C.q10_c14⟩
def C.q10_W := And.intro (And.intro (And.intro (And.intro @C.q10_r9_w @C.q10_c1_w) (And.intro @C.q10_r4_w (And.intro @C.q10_c2_w @C.q10_r8_w))) (And.intro (And.intro @C.q10_c3_w (And.intro @C.q10_r7_w @C.q10_c4_w)) (And.intro @C.q10_c5_w (And.intro @C.q10_r6_w @C.q10_c6_w)))) (And.intro (And.intro (And.intro @C.q10_r5_w (And.intro @C.q10_b7_w @C.q10_c8_w)) (And.intro @C.q10_c9_w (And.intro @C.q10_r3_w @C.q10_b11_w))) (And.intro (And.intro @C.q10_c12_w (And.intro @C.q10_r2_w @C.q10_c13_w)) (And.intro @C.q10_r1_w (And.intro @C.q10_c14_w @C.q10_r0_w))))
def C.q10_B := And.intro (And.intro (And.intro @C.q10_r9_b.eq_1 @C.q10_r4_b.eq_1) (And.intro @C.q10_r8_b.eq_1 (And.intro @C.q10_r7_b.eq_1 @C.q10_r6_b.eq_1))) (And.intro (And.intro @C.q10_r5_b.eq_1 @C.q10_r3_b.eq_1) (And.intro @C.q10_r2_b.eq_1 (And.intro @C.q10_r1_b.eq_1 @C.q10_r0_b.eq_1)))

def C.q11_r6_b : List IOper := [
 X.m 23 3,
 X.m 2 23]
def C.q11_r6 : List IOper := C.q11_r6_b
def C.q11_r6_w := @aopsE _ _ C.q11_r6.eq_1
def C.q11_c1 : ICode := .keep [3] (.seq (.region C.q11_r6) .ret)
def C.q11_c1_w := @awpE _ _ C.q11_c1.eq_1
def C.q11_r4_b : List IOper := [
 X.m 10 4,
 X.o 11 (.bin .add (X.s 10) (X.i 1)),
 X.m 4 11]
def C.q11_r4 : List IOper := C.q11_r4_b
def C.q11_r4_w := @aopsE _ _ C.q11_r4.eq_1
def C.q11_c2 : ICode := .keep [1, 3, 4] (.region C.q11_r4)
def C.q11_c2_w := @awpE _ _ C.q11_c2.eq_1
def C.q11_r5_b : List IOper := [
 X.m 12 3,
 X.o 13 (.buildSlice 1 0 [.int .i64 0] []),
 X.o 14 (.fldAddr 3 (X.s 1)),
 X.o 15 (.load1 (X.s 14)),
 X.m 16 4,
 X.o 17 (.idxAddr 6 (X.s 15) (X.s 16)),
 X.o 18 (.fldAddr 5 (X.s 17)),
 X.o 19 (.load1 (X.s 18)),
 X.o 20 (.append 1 8 (X.s 13) (X.s 19)),
 X.o 21 (.buildSlice 1 1 [.nils] [(0, 1, X.s 20)]),
 X.o 22 (.append 1 24 (X.s 12) (X.s 21)),
 X.m 3 22]
def C.q11_r5 : List IOper := C.q11_r5_b
def C.q11_r5_w := @aopsE _ _ C.q11_r5.eq_1
def C.q11_b3 : ICode := .region C.q11_r5
def C.q11_b3_w := @awpE _ _ C.q11_b3.eq_1
def C.q11_c4 : ICode := .keep [1, 3, 4] (.seq (.block 1 C.q11_b3) C.q11_c2)
def C.q11_c4_w := @awpE _ _ C.q11_c4.eq_1
def C.q11_c5 : ICode := .keep [1, 3, 4, 9] (.cond (X.s 9) .skip (.exit 0))
def C.q11_c5_w := @awpE _ _ C.q11_c5.eq_1
def C.q11_r3_b : List IOper := [
 X.m 5 4,
 X.o 6 (.fldAddr 3 (X.s 1)),
 X.o 7 (.load1 (X.s 6)),
 X.o 8 (.len (X.s 7)),
 X.o 9 (.bin .lss (X.s 5) (X.s 8))]
def C.q11_r3 : List IOper := C.q11_r3_b
def C.q11_r3_w := @aopsE _ _ C.q11_r3.eq_1
def C.q11_l6 : ICode := .keep [1, 3, 4] (.seq (.seq (.region C.q11_r3) C.q11_c5) C.q11_c4)
def C.q11_l6_w := @awpE _ _ C.q11_l6.eq_1
def C.q11_b7 : ICode := .loop C.q11_l6
def C.q11_b7_w := @awpE _ _ C.q11_b7.eq_1
def C.q11_c8 : ICode := .keep [1, 3, 4] (.block 0 C.q11_b7)
def C.q11_c8_w := @awpE _ _ C.q11_c8.eq_1
def C.q11_r2_b : List IOper := [
 X.o 4 (.move (X.i 0))]
def C.q11_r2 : List IOper := C.q11_r2_b
def C.q11_r2_w := @aopsE _ _ C.q11_r2.eq_1
def C.q11_c9 : ICode := .keep [1, 3] (.seq (.seq (.region C.q11_r2) C.q11_c8) C.q11_c1)
def C.q11_c9_w := @awpE _ _ C.q11_c9.eq_1
def C.q11_r1_b : List IOper := [
 X.o 3 (.move (.cst (.nils)))]
def C.q11_r1 : List IOper := C.q11_r1_b
def C.q11_r1_w := @aopsE _ _ C.q11_r1.eq_1
def C.q11_c10 : ICode := .keep [1] (.seq (.region C.q11_r1) C.q11_c9)
def C.q11_c10_w := @awpE _ _ C.q11_c10.eq_1
def C.q11_r0_b : List IOper := [
 X.o 1 (.boxN (X.s 0)),
 X.o 2 (.move (.cst (.nils)))]
def C.q11_r0 : List IOper := C.q11_r0_b
def C.q11_r0_w := @aopsE _ _ C.q11_r0.eq_1
def C.q11 : IFunc := ⟨1, [.slot 2], .seq (.region C.q11_r0) C.q11_c10⟩
def C.q11_W := And.intro (And.intro (And.intro (And.intro @C.q11_r6_w @C.q11_c1_w) (And.intro @C.q11_r4_w @C.q11_c2_w)) (And.intro (And.intro @C.q11_r5_w @C.q11_b3_w) (And.intro @C.q11_c4_w @C.q11_c5_w))) (And.intro (And.intro (And.intro @C.q11_r3_w @C.q11_b7_w) (And.intro @C.q11_c8_w @C.q11_r2_w)) (And.intro (And.intro @C.q11_c9_w @C.q11_r1_w) (And.intro @C.q11_c10_w @C.q11_r0_w)))
def C.q11_B := And.intro (And.intro @C.q11_r6_b.eq_1 (And.intro @C.q11_r4_b.eq_1 @C.q11_r5_b.eq_1)) (And.intro (And.intro @C.q11_r3_b.eq_1 @C.q11_r2_b.eq_1) (And.intro @C.q11_r1_b.eq_1 @C.q11_r0_b.eq_1))

def C.q7_r18_b : List IOper := [
 X.m 58 3,
 X.m 2 58]
def C.q7_r18 : List IOper := C.q7_r18_b
def C.q7_r18_w := @aopsE _ _ C.q7_r18.eq_1
def C.q7_c1 : ICode := .keep [3] (.seq (.region C.q7_r18) .ret)
def C.q7_c1_w := @awpE _ _ C.q7_c1.eq_1
def C.q7_r8_b : List IOper := [
 X.m 21 6,
 X.o 22 (.bin .add (X.s 21) (X.i 1)),
 X.m 6 22]
def C.q7_r8 : List IOper := C.q7_r8_b
def C.q7_r8_w := @aopsE _ _ C.q7_r8.eq_1
def C.q7_c2 : ICode := .keep [0, 3, 4, 5, 6] (.region C.q7_r8)
def C.q7_c2_w := @awpE _ _ C.q7_c2.eq_1
def C.q7_r17_b : List IOper := [
 X.o 5 (.move (.cst (.bool true)))]
def C.q7_r17 : List IOper := C.q7_r17_b
def C.q7_r17_w := @aopsE _ _ C.q7_r17.eq_1
def C.q7_c3 : ICode := .keep [0, 3, 4, 6] (.region C.q7_r17)
def C.q7_c3_w := @awpE _ _ C.q7_c3.eq_1
def C.q7_r16_b : List IOper := [
 X.m 54 3,
 X.m 55 6,
 X.o 56 (.buildSlice 1 1 [.int .i64 0] [(0, 1, X.s 55)]),
 X.o 57 (.append 1 8 (X.s 54) (X.s 56)),
 X.m 3 57]
def C.q7_r16 : List IOper := C.q7_r16_b
def C.q7_r16_w := @aopsE _ _ C.q7_r16.eq_1
def C.q7_c4 : ICode := .keep [0, 3, 4, 6] (.seq (.region C.q7_r16) C.q7_c3)
def C.q7_c4_w := @awpE _ _ C.q7_c4.eq_1
def C.q7_r15_b : List IOper := [
 X.m 51 4,
 X.m 52 6,
 X.o 53 (.idxAddr 1 (X.s 51) (X.s 52)),
 X.n (.store1 (X.s 53) (.cst (.bool true)))]
def C.q7_r15 : List IOper := C.q7_r15_b
def C.q7_r15_w := @aopsE _ _ C.q7_r15.eq_1
def C.q7_c5 : ICode := .seq (.region C.q7_r15) C.q7_c4
def C.q7_c5_w := @awpE _ _ C.q7_c5.eq_1
def C.q7_c6 : ICode := .keep [0, 3, 4, 5, 6, 50] (.cond (X.s 50) C.q7_c5 .skip)
def C.q7_c6_w := @awpE _ _ C.q7_c6.eq_1
def C.q7_r14_b : List IOper := [
 X.m 50 7]
def C.q7_r14 : List IOper := C.q7_r14_b
def C.q7_r14_w := @aopsE _ _ C.q7_r14.eq_1
def C.q7_c7 : ICode := .keep [0, 3, 4, 5, 6, 7] (.seq (.region C.q7_r14) C.q7_c6)
def C.q7_c7_w := @awpE _ _ C.q7_c7.eq_1
def C.q7_r12_b : List IOper := [
 X.m 35 8,
 X.o 36 (.bin .add (X.s 35) (X.i 1)),
 X.m 8 36]
def C.q7_r12 : List IOper := C.q7_r12_b
def C.q7_r12_w := @aopsE _ _ C.q7_r12.eq_1
def C.q7_c8 : ICode := .keep [0, 3, 4, 5, 6, 7, 8] (.region C.q7_r12)
def C.q7_c8_w := @awpE _ _ C.q7_c8.eq_1
def C.q7_r13_b : List IOper := [
 X.m 37 7,
 X.m 38 37,
 X.t 38 39 (.move (X.s 4)),
 X.t 38 40 (.move (X.s 0)),
 X.t 38 41 (.move (X.s 6)),
 X.t 38 42 (.idxAddr 1 (X.s 40) (X.s 41)),
 X.t 38 43 (.load1 (X.s 42)),
 X.t 38 44 (.move (X.s 8)),
 X.t 38 45 (.idxAddr 1 (X.s 43) (X.s 44)),
 X.t 38 46 (.load1 (X.s 45)),
 X.t 38 47 (.idxAddr 1 (X.s 39) (X.s 46)),
 X.t 38 48 (.load1 (X.s 47)),
 X.o 49 (.pick (X.s 38) (X.s 48) (.cst (.bool false))),
 X.m 7 49]
def C.q7_r13 : List IOper := C.q7_r13_b
def C.q7_r13_w := @aopsE _ _ C.q7_r13.eq_1
def C.q7_b9 : ICode := .region C.q7_r13
def C.q7_b9_w := @awpE _ _ C.q7_b9.eq_1
def C.q7_c10 : ICode := .keep [0, 3, 4, 5, 6, 7, 8] (.seq (.block 5 C.q7_b9) C.q7_c8)
def C.q7_c10_w := @awpE _ _ C.q7_c10.eq_1
def C.q7_c11 : ICode := .keep [0, 3, 4, 5, 6, 7, 8, 34] (.cond (X.s 34) .skip (.exit 4))
def C.q7_c11_w := @awpE _ _ C.q7_c11.eq_1
def C.q7_r11_b : List IOper := [
 X.m 28 8,
 X.m 29 0,
 X.m 30 6,
 X.o 31 (.idxAddr 1 (X.s 29) (X.s 30)),
 X.o 32 (.load1 (X.s 31)),
 X.o 33 (.len (X.s 32)),
 X.o 34 (.bin .lss (X.s 28) (X.s 33))]
def C.q7_r11 : List IOper := C.q7_r11_b
def C.q7_r11_w := @aopsE _ _ C.q7_r11.eq_1
def C.q7_l12 : ICode := .keep [0, 3, 4, 5, 6, 7, 8] (.seq (.seq (.region C.q7_r11) C.q7_c11) C.q7_c10)
def C.q7_l12_w := @awpE _ _ C.q7_l12.eq_1
def C.q7_b13 : ICode := .loop C.q7_l12
def C.q7_b13_w := @awpE _ _ C.q7_b13.eq_1
def C.q7_c14 : ICode := .keep [0, 3, 4, 5, 6, 7, 8] (.block 4 C.q7_b13)
def C.q7_c14_w := @awpE _ _ C.q7_c14.eq_1
def C.q7_r10_b : List IOper := [
 X.o 8 (.move (X.i 0))]
def C.q7_r10 : List IOper := C.q7_r10_b
def C.q7_r10_w := @aopsE _ _ C.q7_r10.eq_1
def C.q7_c15 : ICode := .keep [0, 3, 4, 5, 6, 7] (.seq (.seq (.region C.q7_r10) C.q7_c14) C.q7_c7)
def C.q7_c15_w := @awpE _ _ C.q7_c15.eq_1
def C.q7_r9_b : List IOper := [
 X.m 23 4,
 X.m 24 6,
 X.o 25 (.idxAddr 1 (X.s 23) (X.s 24)),
 X.o 26 (.load1 (X.s 25)),
 X.o 27 (.un .not (X.s 26)),
 X.m 7 27]
def C.q7_r9 : List IOper := C.q7_r9_b
def C.q7_r9_w := @aopsE _ _ C.q7_r9.eq_1
def C.q7_b16 : ICode := .seq (.region C.q7_r9) C.q7_c15
def C.q7_b16_w := @awpE _ _ C.q7_b16.eq_1
def C.q7_c17 : ICode := .keep [0, 3, 4, 5, 6] (.seq (.block 3 C.q7_b16) C.q7_c2)
def C.q7_c17_w := @awpE _ _ C.q7_c17.eq_1
def C.q7_c18 : ICode := .keep [0, 3, 4, 5, 6, 20] (.cond (X.s 20) .skip (.exit 2))
def C.q7_c18_w := @awpE _ _ C.q7_c18.eq_1
def C.q7_r7_b : List IOper := [
 X.m 13 6,
 X.m 14 0,
 X.o 15 (.len (X.s 14)),
 X.o 16 (.bin .lss (X.s 13) (X.s 15)),
 X.m 17 16,
 X.t 17 18 (.move (X.s 5)),
 X.t 17 19 (.un .not (X.s 18)),
 X.o 20 (.pick (X.s 17) (X.s 19) (.cst (.bool false)))]
def C.q7_r7 : List IOper := C.q7_r7_b
def C.q7_r7_w := @aopsE _ _ C.q7_r7.eq_1
def C.q7_l19 : ICode := .keep [0, 3, 4, 5, 6] (.seq (.seq (.region C.q7_r7) C.q7_c18) C.q7_c17)
def C.q7_l19_w := @awpE _ _ C.q7_l19.eq_1
def C.q7_b20 : ICode := .loop C.q7_l19
def C.q7_b20_w := @awpE _ _ C.q7_b20.eq_1
def C.q7_c21 : ICode := .keep [0, 3, 4, 5, 6] (.block 2 C.q7_b20)
def C.q7_c21_w := @awpE _ _ C.q7_c21.eq_1
def C.q7_r6_b : List IOper := [
 X.o 6 (.move (X.i 0))]
def C.q7_r6 : List IOper := C.q7_r6_b
def C.q7_r6_w := @aopsE _ _ C.q7_r6.eq_1
def C.q7_c22 : ICode := .keep [0, 3, 4, 5] (.seq (.region C.q7_r6) C.q7_c21)
def C.q7_c22_w := @awpE _ _ C.q7_c22.eq_1
def C.q7_r5_b : List IOper := [
 X.o 5 (.move (.cst (.bool false)))]
def C.q7_r5 : List IOper := C.q7_r5_b
def C.q7_r5_w := @aopsE _ _ C.q7_r5.eq_1
def C.q7_b23 : ICode := .seq (.region C.q7_r5) C.q7_c22
def C.q7_b23_w := @awpE _ _ C.q7_b23.eq_1
def C.q7_c24 : ICode := .keep [0, 3, 4] (.block 1 C.q7_b23)
def C.q7_c24_w := @awpE _ _ C.q7_c24.eq_1
def C.q7_c25 : ICode := .keep [0, 3, 4, 12] (.cond (X.s 12) .skip (.exit 0))
def C.q7_c25_w := @awpE _ _ C.q7_c25.eq_1
def C.q7_r4_b : List IOper := [
 X.m 12 5]
def C.q7_r4 : List IOper := C.q7_r4_b
def C.q7_r4_w := @aopsE _ _ C.q7_r4.eq_1
def C.q7_l26 : ICode := .keep [0, 3, 4, 5] (.seq (.seq (.region C.q7_r4) C.q7_c25) C.q7_c24)
def C.q7_l26_w := @awpE _ _ C.q7_l26.eq_1
def C.q7_b27 : ICode := .loop C.q7_l26
def C.q7_b27_w := @awpE _ _ C.q7_b27.eq_1
def C.q7_c28 : ICode := .keep [0, 3, 4, 5] (.seq (.block 0 C.q7_b27) C.q7_c1)
def C.q7_c28_w := @awpE _ _ C.q7_c28.eq_1
def C.q7_r3_b : List IOper := [
 X.o 5 (.move (.cst (.bool true)))]
def C.q7_r3 : List IOper := C.q7_r3_b
def C.q7_r3_w := @aopsE _ _ C.q7_r3.eq_1
def C.q7_c29 : ICode := .keep [0, 3, 4] (.seq (.region C.q7_r3) C.q7_c28)
def C.q7_c29_w := @awpE _ _ C.q7_c29.eq_1
def C.q7_r2_b : List IOper := [
 X.m 9 0,
 X.o 10 (.len (X.s 9)),
 X.o 11 (.makeSlice 1 1 [.bool false] (X.s 10) (X.s 10)),
 X.m 4 11]
def C.q7_r2 : List IOper := C.q7_r2_b
def C.q7_r2_w := @aopsE _ _ C.q7_r2.eq_1
def C.q7_c30 : ICode := .keep [0, 3] (.seq (.region C.q7_r2) C.q7_c29)
def C.q7_c30_w := @awpE _ _ C.q7_c30.eq_1
def C.q7_r1_b : List IOper := [
 X.o 3 (.move (.cst (.nils)))]
def C.q7_r1 : List IOper := C.q7_r1_b
def C.q7_r1_w := @aopsE _ _ C.q7_r1.eq_1
def C.q7_c31 : ICode := .keep [0] (.seq (.region C.q7_r1) C.q7_c30)
def C.q7_c31_w := @awpE _ _ C.q7_c31.eq_1
def C.q7_r0_b : List IOper := [
 X.o 2 (.move (.cst (.nils)))]
def C.q7_r0 : List IOper := C.q7_r0_b
def C.q7_r0_w := @aopsE _ _ C.q7_r0.eq_1
def C.q7 : IFunc := ⟨1, [.slot 2], .seq (.region C.q7_r0) C.q7_c31⟩
def C.q7_W := And.intro (And.intro (And.intro (And.intro (And.intro @C.q7_r18_w @C.q7_c1_w) (And.intro @C.q7_r8_w (And.intro @C.q7_c2_w @C.q7_r17_w))) (And.intro (And.intro @C.q7_c3_w (And.intro @C.q7_r16_w @C.q7_c4_w)) (And.intro @C.q7_r15_w (And.intro @C.q7_c5_w @C.q7_c6_w)))) (And.intro (And.intro (And.intro @C.q7_r14_w (And.intro @C.q7_c7_w @C.q7_r12_w)) (And.intro @C.q7_c8_w (And.intro @C.q7_r13_w @C.q7_b9_w))) (And.intro (And.intro @C.q7_c10_w (And.intro @C.q7_c11_w @C.q7_r11_w)) (And.intro @C.q7_b13_w (And.intro @C.q7_c14_w @C.q7_r10_w))))) (And.intro (And.intro (And.intro (And.intro @C.q7_c15_w (And.intro @C.q7_r9_w @C.q7_b16_w)) (And.intro @C.q7_c17_w (And.intro @C.q7_c18_w @C.q7_r7_w))) (And.intro (And.intro @C.q7_b20_w (And.intro @C.q7_c21_w @C.q7_r6_w)) (And.intro @C.q7_c22_w (And.intro @C.q7_r5_w @C.q7_b23_w)))) (And.intro (And.intro (And.intro @C.q7_c24_w (And.intro @C.q7_c25_w @C.q7_r4_w)) (And.intro @C.q7_b27_w (And.intro @C.q7_c28_w @C.q7_r3_w))) (And.intro (And.intro @C.q7_c29_w (And.intro @C.q7_r2_w @C.q7_c30_w)) (And.intro @C.q7_r1_w (And.intro @C.q7_c31_w @C.q7_r0_w)))))
def C.q7_B := And.intro (And.intro (And.intro (And.intro @C.q7_r18_b.eq_1 @C.q7_r8_b.eq_1) (And.intro @C.q7_r17_b.eq_1 @C.q7_r16_b.eq_1)) (And.intro (And.intro @C.q7_r15_b.eq_1 @C.q7_r14_b.eq_1) (And.intro @C.q7_r12_b.eq_1 (And.intro @C.q7_r13_b.eq_1 @C.q7_r11_b.eq_1)))) (And.intro (And.intro (And.intro @C.q7_r10_b.eq_1 @C.q7_r9_b.eq_1) (And.intro @C.q7_r7_b.eq_1 (And.intro @C.q7_r6_b.eq_1 @C.q7_r5_b.eq_1))) (And.intro (And.intro @C.q7_r4_b.eq_1 @C.q7_r3_b.eq_1) (And.intro @C.q7_r2_b.eq_1 (And.intro @C.q7_r1_b.eq_1 @C.q7_r0_b.eq_1))))

end Go.Proofs.Ytgfpnfnjnakoaaa.Cn
