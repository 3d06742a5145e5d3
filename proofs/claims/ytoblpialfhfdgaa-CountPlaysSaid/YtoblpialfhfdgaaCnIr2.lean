/- The intermediate code of the functions, printed by a program out of the loaded program; that it is theirs is checked in the text of links. -/
import Derived.Test.YtoblpialfhfdgaaCnIr1
set_option linter.defProp false
namespace Go.Proofs.Ytoblpialfhfdgaa.Cn
open Go
variable {P : Program} {Q : IExit → AFr → ASt → Prop} {fr : AFr} {st : ASt}


def C.q3_r9_b : List IOper := [
 X.m 35 0,
 X.o 36 (.call F.q78 [X.s 35]),
 X.m 6 36]
def C.q3_r9 : List IOper := C.q3_r9_b
def C.q3_r9_w := @aopsE _ _ C.q3_r9.eq_1
def C.q3_c1 : ICode := .keep [0] (.seq (.region C.q3_r9) .ret)
def C.q3_c1_w := @awpE _ _ C.q3_c1.eq_1
def C.q3_r4_b : List IOper := [
 X.m 21 0,
 X.m 22 7,
 X.o 23 (.call F.q76 [X.s 21, X.s 22]),
 X.m 6 23]
def C.q3_r4 : List IOper := C.q3_r4_b
def C.q3_r4_w := @aopsE _ _ C.q3_r4.eq_1
def C.q3_r6_b : List IOper := [
 X.m 27 0,
 X.m 28 7,
 X.o 29 (.call F.q77 [X.s 27, X.s 28]),
 X.m 6 29]
def C.q3_r6 : List IOper := C.q3_r6_b
def C.q3_r6_w := @aopsE _ _ C.q3_r6.eq_1
def C.q3_r8_b : List IOper := [
 X.m 33 0,
 X.o 34 (.call F.q79 [X.s 33]),
 X.m 6 34]
def C.q3_r8 : List IOper := C.q3_r8_b
def C.q3_r8_w := @aopsE _ _ C.q3_r8.eq_1
def C.q3_c2 : ICode := .seq (.region C.q3_r8) .ret
def C.q3_c2_w := @awpE _ _ C.q3_c2.eq_1
def C.q3_c3 : ICode := .keep [0, 30] (.cond (X.s 30) C.q3_c2 .skip)
def C.q3_c3_w := @awpE _ _ C.q3_c3.eq_1
def C.q3_r7_b : List IOper := [
 X.m 31 8,
 X.o 32 (.bin .eql (X.s 31) (X.i 8)),
 X.m 30 32]
def C.q3_r7 : List IOper := C.q3_r7_b
def C.q3_r7_w := @aopsE _ _ C.q3_r7.eq_1
def C.q3_c4 : ICode := .seq (.region C.q3_r6) .ret
def C.q3_c4_w := @awpE _ _ C.q3_c4.eq_1
def C.q3_c5 : ICode := .seq (.region C.q3_r7) C.q3_c3
def C.q3_c5_w := @awpE _ _ C.q3_c5.eq_1
def C.q3_c6 : ICode := .keep [0, 7, 8, 24] (.cond (X.s 24) C.q3_c4 C.q3_c5)
def C.q3_c6_w := @awpE _ _ C.q3_c6.eq_1
def C.q3_r5_b : List IOper := [
 X.m 25 8,
 X.o 26 (.bin .lss (X.s 25) (X.i 8)),
 X.m 24 26]
def C.q3_r5 : List IOper := C.q3_r5_b
def C.q3_r5_w := @aopsE _ _ C.q3_r5.eq_1
def C.q3_c7 : ICode := .seq (.region C.q3_r4) .ret
def C.q3_c7_w := @awpE _ _ C.q3_c7.eq_1
def C.q3_c8 : ICode := .seq (.region C.q3_r5) C.q3_c6
def C.q3_c8_w := @awpE _ _ C.q3_c8.eq_1
def C.q3_c9 : ICode := .keep [0, 7, 8, 18] (.cond (X.s 18) C.q3_c7 C.q3_c8)
def C.q3_c9_w := @awpE _ _ C.q3_c9.eq_1
def C.q3_r3_b : List IOper := [
 X.m 19 8,
 X.o 20 (.bin .lss (X.s 19) (X.i 4)),
 X.m 18 20]
def C.q3_r3 : List IOper := C.q3_r3_b
def C.q3_r3_w := @aopsE _ _ C.q3_r3.eq_1
def C.q3_b10 : ICode := .seq (.region C.q3_r3) C.q3_c9
def C.q3_b10_w := @awpE _ _ C.q3_b10.eq_1
def C.q3_c11 : ICode := .keep [0, 7, 8] (.block 0 C.q3_b10)
def C.q3_c11_w := @awpE _ _ C.q3_c11.eq_1
def C.q3_r2_b : List IOper := [
 X.o 15 (.fldAddr 0 (X.s 4)),
 X.o 16 (.load1 (X.s 15)),
 X.o 17 (.call F.q4 [X.s 16, X.i 10]),
 X.m 8 17]
def C.q3_r2 : List IOper := C.q3_r2_b
def C.q3_r2_w := @aopsE _ _ C.q3_r2.eq_1
def C.q3_c12 : ICode := .keep [0, 4, 7] (.seq (.seq (.region C.q3_r2) C.q3_c11) C.q3_c1)
def C.q3_c12_w := @awpE _ _ C.q3_c12.eq_1
def C.q3_r1_b : List IOper := [
 X.o 9 (.fldAddr 1 (X.s 4)),
 X.o 10 (.load1 (X.s 9)),
 X.m 11 2,
 X.o 12 (.bin .add (X.s 11) (X.i 2)),
 X.o 13 (.call F.q4 [X.s 10, X.s 12]),
 X.o 14 (.bin .sub (X.s 13) (X.i 1)),
 X.m 7 14]
def C.q3_r1 : List IOper := C.q3_r1_b
def C.q3_r1_w := @aopsE _ _ C.q3_r1.eq_1
def C.q3_c13 : ICode := .keep [0, 2, 4] (.seq (.region C.q3_r1) C.q3_c12)
def C.q3_c13_w := @awpE _ _ C.q3_c13.eq_1
def C.q3_r0_b : List IOper := [
 X.o 4 (.boxN (X.s 1)),
 X.o 6 (.move (X.i 0))]
def C.q3_r0 : List IOper := C.q3_r0_b
def C.q3_r0_w := @aopsE _ _ C.q3_r0.eq_1
def C.q3 : IFunc := ⟨3, [.slot 6], .seq (.region C.q3_r0) C.q3_c13⟩
def C.q3_W := And.intro (And.intro (And.intro (And.intro @C.q3_r9_w @C.q3_c1_w) (And.intro @C.q3_r4_w (And.intro @C.q3_r6_w @C.q3_r8_w))) (And.intro (And.intro @C.q3_c2_w (And.intro @C.q3_c3_w @C.q3_r7_w)) (And.intro @C.q3_c4_w (And.intro @C.q3_c5_w @C.q3_c6_w)))) (And.intro (And.intro (And.intro @C.q3_r5_w (And.intro @C.q3_c7_w @C.q3_c8_w)) (And.intro @C.q3_c9_w (And.intro @C.q3_r3_w @C.q3_b10_w))) (And.intro (And.intro @C.q3_c11_w (And.intro @C.q3_r2_w @C.q3_c12_w)) (And.intro @C.q3_r1_w (And.intro @C.q3_c13_w @C.q3_r0_w))))
def C.q3_B := And.intro (And.intro (And.intro @C.q3_r9_b.eq_1 @C.q3_r4_b.eq_1) (And.intro @C.q3_r6_b.eq_1 (And.intro @C.q3_r8_b.eq_1 @C.q3_r7_b.eq_1))) (And.intro (And.intro @C.q3_r5_b.eq_1 @C.q3_r3_b.eq_1) (And.intro @C.q3_r2_b.eq_1 (And.intro @C.q3_r1_b.eq_1 @C.q3_r0_b.eq_1)))

def C.q74_r1_b : List IOper := [
 X.m 3 0,
 X.o 4 (.nilchk (X.s 3)),
 X.o 5 (.fldAddr 0 (X.s 4)),
 X.o 6 (.load1 (X.s 5)),
 X.m 7 0,
 X.o 8 (.nilchk (X.s 7)),
 X.o 9 (.fldAddr 1 (X.s 8)),
 X.o 10 (.load1 (X.s 9)),
 X.m 12 0,
 X.o 13 (.nilchk (X.s 12)),
 X.o 14 (.fldAddr 2 (X.s 13)),
 X.o 15 (.load1 (X.s 14)),
 ⟨some 11, .call F.maps_Clone_map_int_int_int_int [X.s 10], none, [⟨.load1 (X.s 5), 6, none⟩, ⟨.load1 (X.s 14), 15, none⟩], []⟩,
 X.o 16 (.build [.nils, .nilm, .bool false] [(0, 1, X.s 6), (1, 1, X.s 11), (2, 1, X.s 15)]),
 X.o 17 (.boxN (X.s 16)),
 X.m 2 17]
def C.q74_r1 : List IOper := C.q74_r1_b
def C.q74_r1_w := @aopsE _ _ C.q74_r1.eq_1
def C.q74_c1 : ICode := .keep [0] (.seq (.region C.q74_r1) .ret)
def C.q74_c1_w := @awpE _ _ C.q74_c1.eq_1
def C.q74_r0_b : List IOper := [
 X.o 2 (.move (.cst (.nilp)))]
def C.q74_r0 : List IOper := C.q74_r0_b
def C.q74_r0_w := @aopsE _ _ C.q74_r0.eq_1
def C.q74 : IFunc := ⟨1, [.slot 2], .seq (.region C.q74_r0) C.q74_c1⟩
def C.q74_W := And.intro @C.q74_r1_w (And.intro @C.q74_c1_w @C.q74_r0_w)
def C.q74_B := And.intro @C.q74_r1_b.eq_1 @C.q74_r0_b.eq_1

def C.q14_r4_b : List IOper := [
 X.o 10 (.loadN 4 (X.s 1)),
 X.o 12 (.fldAddr 3 (X.s 1)),
 X.o 13 (.load1 (X.s 12)),
 X.o 14 (.len (X.s 13)),
 ⟨some 11, .call F.q20 [X.s 10], none, [⟨.load1 (X.s 12), 13, none⟩], [(X.s 14, X.s 14)]⟩,
 X.o 15 (.makeSlice 1 8 [.int .i64 0] (X.s 14) (X.s 14)),
 X.o 16 (.build [.nils, .nils, .bool false] [(0, 1, X.s 11), (1, 1, X.s 15)]),
 X.o 17 (.boxN (X.s 16)),
 X.m 2 17,
 X.o 3 (.move (X.i 0))]
def C.q14_r4 : List IOper := C.q14_r4_b
def C.q14_r4_w := @aopsE _ _ C.q14_r4.eq_1
def C.q14_c1 : ICode := .keep [1] (.seq (.region C.q14_r4) .ret)
def C.q14_c1_w := @awpE _ _ C.q14_c1.eq_1
def C.q14_r3_b : List IOper := [
 X.m 9 4,
 X.o 2 (.move (.cst (.nilp))),
 X.m 3 9]
def C.q14_r3 : List IOper := C.q14_r3_b
def C.q14_r3_w := @aopsE _ _ C.q14_r3.eq_1
def C.q14_c2 : ICode := .seq (.region C.q14_r3) .ret
def C.q14_c2_w := @awpE _ _ C.q14_c2.eq_1
def C.q14_c3 : ICode := .keep [1, 4, 8] (.cond (X.s 8) C.q14_c2 .skip)
def C.q14_c3_w := @awpE _ _ C.q14_c3.eq_1
def C.q14_r2_b : List IOper := [
 X.m 7 4,
 X.o 8 (.bin .neq (X.s 7) (X.i 0))]
def C.q14_r2 : List IOper := C.q14_r2_b
def C.q14_r2_w := @aopsE _ _ C.q14_r2.eq_1
def C.q14_c4 : ICode := .keep [1, 4] (.seq (.seq (.region C.q14_r2) C.q14_c3) C.q14_c1)
def C.q14_c4_w := @awpE _ _ C.q14_c4.eq_1
def C.q14_r1_b : List IOper := [
 X.o 5 (.loadN 4 (X.s 1)),
 X.o 6 (.call F.q17 [X.s 5]),
 X.m 4 6]
def C.q14_r1 : List IOper := C.q14_r1_b
def C.q14_r1_w := @aopsE _ _ C.q14_r1.eq_1
def C.q14_c5 : ICode := .keep [1] (.seq (.region C.q14_r1) C.q14_c4)
def C.q14_c5_w := @awpE _ _ C.q14_c5.eq_1
def C.q14_r0_b : List IOper := [
 X.o 1 (.boxN (X.s 0)),
 X.o 2 (.move (.cst (.nilp))),
 X.o 3 (.move (X.i 0))]
def C.q14_r0 : List IOper := C.q14_r0_b
def C.q14_r0_w := @aopsE _ _ C.q14_r0.eq_1
def C.q14 : IFunc := ⟨1, [.slot 2, .slot 3], .seq (.region C.q14_r0) C.q14_c5⟩
def C.q14_W := And.intro (And.intro (And.intro @C.q14_r4_w @C.q14_c1_w) (And.intro @C.q14_r3_w (And.intro @C.q14_c2_w @C.q14_c3_w))) (And.intro (And.intro @C.q14_r2_w @C.q14_c4_w) (And.intro @C.q14_r1_w (And.intro @C.q14_c5_w @C.q14_r0_w)))
def C.q14_B := And.intro (And.intro @C.q14_r4_b.eq_1 @C.q14_r3_b.eq_1) (And.intro @C.q14_r2_b.eq_1 (And.intro @C.q14_r1_b.eq_1 @C.q14_r0_b.eq_1))

def C.q8_r1_b : List IOper := [
 X.m 3 0,
 X.o 4 (.nilchk (X.s 3)),
 X.o 5 (.fldAddr 0 (X.s 4)),
 X.o 6 (.load1 (X.s 5)),
 X.m 8 0,
 X.o 9 (.nilchk (X.s 8)),
 X.o 10 (.fldAddr 1 (X.s 9)),
 X.o 11 (.load1 (X.s 10)),
 X.m 13 0,
 X.o 14 (.nilchk (X.s 13)),
 X.o 15 (.fldAddr 2 (X.s 14)),
 X.o 16 (.load1 (X.s 15)),
 X.o 7 (.buildSlice 1 0 [.int .i64 0] []),
 ⟨some 12, .append 1 8 (X.s 7) (X.s 11), none, [⟨.load1 (X.s 5), 6, none⟩, ⟨.load1 (X.s 15), 16, none⟩], []⟩,
 X.o 17 (.build [.nils, .nils, .bool false] [(0, 1, X.s 6), (1, 1, X.s 12), (2, 1, X.s 16)]),
 X.o 18 (.boxN (X.s 17)),
 X.m 2 18]
def C.q8_r1 : List IOper := C.q8_r1_b
def C.q8_r1_w := @aopsE _ _ C.q8_r1.eq_1
def C.q8_c1 : ICode := .keep [0] (.seq (.region C.q8_r1) .ret)
def C.q8_c1_w := @awpE _ _ C.q8_c1.eq_1
def C.q8_r0_b : List IOper := [
 X.o 2 (.move (.cst (.nilp)))]
def C.q8_r0 : List IOper := C.q8_r0_b
def C.q8_r0_w := @aopsE _ _ C.q8_r0.eq_1
def C.q8 : IFunc := ⟨1, [.slot 2], .seq (.region C.q8_r0) C.q8_c1⟩
def C.q8_W := And.intro @C.q8_r1_w (And.intro @C.q8_c1_w @C.q8_r0_w)
def C.q8_B := And.intro @C.q8_r1_b.eq_1 @C.q8_r0_b.eq_1

def C.q2_r9_b : List IOper := [
 X.m 48 0,
 X.o 49 (.call F.q78 [X.s 48]),
 X.m 50 1,
 X.o 51 (.call F.q12 [X.s 50]),
 X.o 52 (.bin .eql (X.s 49) (X.s 51)),
 X.m 8 52]
def C.q2_r9 : List IOper := C.q2_r9_b
def C.q2_r9_w := @aopsE _ _ C.q2_r9.eq_1
def C.q2_c1 : ICode := .keep [0, 1] (.seq (.region C.q2_r9) .ret)
def C.q2_c1_w := @awpE _ _ C.q2_c1.eq_1
def C.q2_r4_b : List IOper := [
 X.m 23 0,
 X.m 24 9,
 X.o 25 (.call F.q76 [X.s 23, X.s 24]),
 X.m 26 1,
 X.m 27 9,
 X.o 28 (.call F.q10 [X.s 26, X.s 27]),
 X.o 29 (.bin .eql (X.s 25) (X.s 28)),
 X.m 8 29]
def C.q2_r4 : List IOper := C.q2_r4_b
def C.q2_r4_w := @aopsE _ _ C.q2_r4.eq_1
def C.q2_r6_b : List IOper := [
 X.m 33 0,
 X.m 34 9,
 X.o 35 (.call F.q77 [X.s 33, X.s 34]),
 X.m 36 1,
 X.m 37 9,
 X.o 38 (.call F.q11 [X.s 36, X.s 37]),
 X.o 39 (.bin .eql (X.s 35) (X.s 38)),
 X.m 8 39]
def C.q2_r6 : List IOper := C.q2_r6_b
def C.q2_r6_w := @aopsE _ _ C.q2_r6.eq_1
def C.q2_r8_b : List IOper := [
 X.m 43 0,
 X.o 44 (.call F.q79 [X.s 43]),
 X.m 45 1,
 X.o 46 (.call F.q13 [X.s 45]),
 X.o 47 (.bin .eql (X.s 44) (X.s 46)),
 X.m 8 47]
def C.q2_r8 : List IOper := C.q2_r8_b
def C.q2_r8_w := @aopsE _ _ C.q2_r8.eq_1
def C.q2_c2 : ICode := .seq (.region C.q2_r8) .ret
def C.q2_c2_w := @awpE _ _ C.q2_c2.eq_1
def C.q2_c3 : ICode := .keep [0, 1, 40] (.cond (X.s 40) C.q2_c2 .skip)
def C.q2_c3_w := @awpE _ _ C.q2_c3.eq_1
def C.q2_r7_b : List IOper := [
 X.m 41 10,
 X.o 42 (.bin .eql (X.s 41) (X.i 8)),
 X.m 40 42]
def C.q2_r7 : List IOper := C.q2_r7_b
def C.q2_r7_w := @aopsE _ _ C.q2_r7.eq_1
def C.q2_c4 : ICode := .seq (.region C.q2_r6) .ret
def C.q2_c4_w := @awpE _ _ C.q2_c4.eq_1
def C.q2_c5 : ICode := .seq (.region C.q2_r7) C.q2_c3
def C.q2_c5_w := @awpE _ _ C.q2_c5.eq_1
def C.q2_c6 : ICode := .keep [0, 1, 9, 10, 30] (.cond (X.s 30) C.q2_c4 C.q2_c5)
def C.q2_c6_w := @awpE _ _ C.q2_c6.eq_1
def C.q2_r5_b : List IOper := [
 X.m 31 10,
 X.o 32 (.bin .lss (X.s 31) (X.i 8)),
 X.m 30 32]
def C.q2_r5 : List IOper := C.q2_r5_b
def C.q2_r5_w := @aopsE _ _ C.q2_r5.eq_1
def C.q2_c7 : ICode := .seq (.region C.q2_r4) .ret
def C.q2_c7_w := @awpE _ _ C.q2_c7.eq_1
def C.q2_c8 : ICode := .seq (.region C.q2_r5) C.q2_c6
def C.q2_c8_w := @awpE _ _ C.q2_c8.eq_1
def C.q2_c9 : ICode := .keep [0, 1, 9, 10, 20] (.cond (X.s 20) C.q2_c7 C.q2_c8)
def C.q2_c9_w := @awpE _ _ C.q2_c9.eq_1
def C.q2_r3_b : List IOper := [
 X.m 21 10,
 X.o 22 (.bin .lss (X.s 21) (X.i 4)),
 X.m 20 22]
def C.q2_r3 : List IOper := C.q2_r3_b
def C.q2_r3_w := @aopsE _ _ C.q2_r3.eq_1
def C.q2_b10 : ICode := .seq (.region C.q2_r3) C.q2_c9
def C.q2_b10_w := @awpE _ _ C.q2_b10.eq_1
def C.q2_c11 : ICode := .keep [0, 1, 9, 10] (.block 0 C.q2_b10)
def C.q2_c11_w := @awpE _ _ C.q2_c11.eq_1
def C.q2_r2_b : List IOper := [
 X.o 17 (.fldAddr 0 (X.s 6)),
 X.o 18 (.load1 (X.s 17)),
 X.o 19 (.call F.q4 [X.s 18, X.i 10]),
 X.m 10 19]
def C.q2_r2 : List IOper := C.q2_r2_b
def C.q2_r2_w := @aopsE _ _ C.q2_r2.eq_1
def C.q2_c12 : ICode := .keep [0, 1, 6, 9] (.seq (.seq (.region C.q2_r2) C.q2_c11) C.q2_c1)
def C.q2_c12_w := @awpE _ _ C.q2_c12.eq_1
def C.q2_r1_b : List IOper := [
 X.o 11 (.fldAddr 1 (X.s 6)),
 X.o 12 (.load1 (X.s 11)),
 X.m 13 3,
 X.o 14 (.bin .add (X.s 13) (X.i 2)),
 X.o 15 (.call F.q4 [X.s 12, X.s 14]),
 X.o 16 (.bin .sub (X.s 15) (X.i 1)),
 X.m 9 16]
def C.q2_r1 : List IOper := C.q2_r1_b
def C.q2_r1_w := @aopsE _ _ C.q2_r1.eq_1
def C.q2_c13 : ICode := .keep [0, 1, 3, 6] (.seq (.region C.q2_r1) C.q2_c12)
def C.q2_c13_w := @awpE _ _ C.q2_c13.eq_1
def C.q2_r0_b : List IOper := [
 X.o 6 (.boxN (X.s 2)),
 X.o 8 (.move (.cst (.bool false)))]
def C.q2_r0 : List IOper := C.q2_r0_b
def C.q2_r0_w := @aopsE _ _ C.q2_r0.eq_1
def C.q2 : IFunc := ⟨4, [.slot 8], .seq (.region C.q2_r0) C.q2_c13⟩
def C.q2_W := And.intro (And.intro (And.intro (And.intro @C.q2_r9_w @C.q2_c1_w) (And.intro @C.q2_r4_w (And.intro @C.q2_r6_w @C.q2_r8_w))) (And.intro (And.intro @C.q2_c2_w (And.intro @C.q2_c3_w @C.q2_r7_w)) (And.intro @C.q2_c4_w (And.intro @C.q2_c5_w @C.q2_c6_w)))) (And.intro (And.intro (And.intro @C.q2_r5_w (And.intro @C.q2_c7_w @C.q2_c8_w)) (And.intro @C.q2_c9_w (And.intro @C.q2_r3_w @C.q2_b10_w))) (And.intro (And.intro @C.q2_c11_w (And.intro @C.q2_r2_w @C.q2_c12_w)) (And.intro @C.q2_r1_w (And.intro @C.q2_c13_w @C.q2_r0_w))))
def C.q2_B := And.intro (And.intro (And.intro @C.q2_r9_b.eq_1 @C.q2_r4_b.eq_1) (And.intro @C.q2_r6_b.eq_1 (And.intro @C.q2_r8_b.eq_1 @C.q2_r7_b.eq_1))) (And.intro (And.intro @C.q2_r5_b.eq_1 @C.q2_r3_b.eq_1) (And.intro @C.q2_r2_b.eq_1 (And.intro @C.q2_r1_b.eq_1 @C.q2_r0_b.eq_1)))

def C.q7_r18_b : List IOper := [
 X.m 100 3,
 X.m 2 100]
def C.q7_r18 : List IOper := C.q7_r18_b
def C.q7_r18_w := @aopsE _ _ C.q7_r18.eq_1
def C.q7_c1 : ICode := .keep [3] (.seq (.region C.q7_r18) .ret)
def C.q7_c1_w := @awpE _ _ C.q7_c1.eq_1
def C.q7_r11_b : List IOper := [
 X.m 54 6,
 X.o 55 (.bin .add (X.s 54) (X.i 1)),
 X.m 6 55]
def C.q7_r11 : List IOper := C.q7_r11_b
def C.q7_r11_w := @aopsE _ _ C.q7_r11.eq_1
def C.q7_c2 : ICode := .keep [0, 3, 4, 6] (.region C.q7_r11)
def C.q7_c2_w := @awpE _ _ C.q7_c2.eq_1
def C.q7_r14_b : List IOper := [
 X.m 66 7,
 X.o 67 (.bin .add (X.s 66) (X.i 1)),
 X.m 7 67]
def C.q7_r14 : List IOper := C.q7_r14_b
def C.q7_r14_w := @aopsE _ _ C.q7_r14.eq_1
def C.q7_c3 : ICode := .keep [0, 3, 4, 6, 7] (.region C.q7_r14)
def C.q7_c3_w := @awpE _ _ C.q7_c3.eq_1
def C.q7_r17_b : List IOper := [
 X.o 4 (.move (.cst (.bool true)))]
def C.q7_r17 : List IOper := C.q7_r17_b
def C.q7_r17_w := @aopsE _ _ C.q7_r17.eq_1
def C.q7_c4 : ICode := .keep [0, 3, 6, 7] (.region C.q7_r17)
def C.q7_c4_w := @awpE _ _ C.q7_c4.eq_1
def C.q7_r16_b : List IOper := [
 X.m 88 3,
 X.m 89 0,
 X.o 90 (.nilchk (X.s 89)),
 X.o 91 (.fldAddr 0 (X.s 90)),
 X.o 92 (.load1 (X.s 91)),
 X.m 93 6,
 X.o 94 (.idxAddr 1 (X.s 92) (X.s 93)),
 X.o 95 (.load1 (X.s 94)),
 X.m 96 7,
 X.o 97 (.idxAddr 1 (X.s 95) (X.s 96)),
 X.o 98 (.load1 (X.s 97)),
 X.o 99 (.idxAddr 1 (X.s 88) (X.s 98)),
 X.n (.store1 (X.s 99) (.cst (.bool true)))]
def C.q7_r16 : List IOper := C.q7_r16_b
def C.q7_r16_w := @aopsE _ _ C.q7_r16.eq_1
def C.q7_c5 : ICode := .seq (.region C.q7_r16) C.q7_c4
def C.q7_c5_w := @awpE _ _ C.q7_c5.eq_1
def C.q7_c6 : ICode := .keep [0, 3, 4, 6, 7, 87] (.cond (X.s 87) C.q7_c5 .skip)
def C.q7_c6_w := @awpE _ _ C.q7_c6.eq_1
def C.q7_r15_b : List IOper := [
 X.m 68 3,
 X.m 69 6,
 X.o 70 (.idxAddr 1 (X.s 68) (X.s 69)),
 X.o 71 (.load1 (X.s 70)),
 X.m 72 71,
 X.t 72 73 (.move (X.s 3)),
 X.t 72 74 (.move (X.s 0)),
 X.t 72 75 (.nilchk (X.s 74)),
 X.t 72 76 (.fldAddr 0 (X.s 75)),
 X.t 72 77 (.load1 (X.s 76)),
 X.t 72 78 (.move (X.s 6)),
 X.t 72 79 (.idxAddr 1 (X.s 77) (X.s 78)),
 X.t 72 80 (.load1 (X.s 79)),
 X.t 72 81 (.move (X.s 7)),
 X.t 72 82 (.idxAddr 1 (X.s 80) (X.s 81)),
 X.t 72 83 (.load1 (X.s 82)),
 X.t 72 84 (.idxAddr 1 (X.s 73) (X.s 83)),
 X.t 72 85 (.load1 (X.s 84)),
 X.t 72 86 (.un .not (X.s 85)),
 X.o 87 (.pick (X.s 72) (X.s 86) (.cst (.bool false)))]
def C.q7_r15 : List IOper := C.q7_r15_b
def C.q7_r15_w := @aopsE _ _ C.q7_r15.eq_1
def C.q7_b7 : ICode := .seq (.region C.q7_r15) C.q7_c6
def C.q7_b7_w := @awpE _ _ C.q7_b7.eq_1
def C.q7_c8 : ICode := .keep [0, 3, 4, 6, 7] (.seq (.block 7 C.q7_b7) C.q7_c3)
def C.q7_c8_w := @awpE _ _ C.q7_c8.eq_1
def C.q7_c9 : ICode := .keep [0, 3, 4, 6, 7, 65] (.cond (X.s 65) .skip (.exit 6))
def C.q7_c9_w := @awpE _ _ C.q7_c9.eq_1
def C.q7_r13_b : List IOper := [
 X.m 56 7,
 X.m 57 0,
 X.o 58 (.nilchk (X.s 57)),
 X.o 59 (.fldAddr 0 (X.s 58)),
 X.o 60 (.load1 (X.s 59)),
 X.m 61 6,
 X.o 62 (.idxAddr 1 (X.s 60) (X.s 61)),
 X.o 63 (.load1 (X.s 62)),
 X.o 64 (.len (X.s 63)),
 X.o 65 (.bin .lss (X.s 56) (X.s 64))]
def C.q7_r13 : List IOper := C.q7_r13_b
def C.q7_r13_w := @aopsE _ _ C.q7_r13.eq_1
def C.q7_l10 : ICode := .keep [0, 3, 4, 6, 7] (.seq (.seq (.region C.q7_r13) C.q7_c9) C.q7_c8)
def C.q7_l10_w := @awpE _ _ C.q7_l10.eq_1
def C.q7_b11 : ICode := .loop C.q7_l10
def C.q7_b11_w := @awpE _ _ C.q7_b11.eq_1
def C.q7_c12 : ICode := .keep [0, 3, 4, 6, 7] (.block 6 C.q7_b11)
def C.q7_c12_w := @awpE _ _ C.q7_c12.eq_1
def C.q7_r12_b : List IOper := [
 X.o 7 (.move (X.i 0))]
def C.q7_r12 : List IOper := C.q7_r12_b
def C.q7_r12_w := @aopsE _ _ C.q7_r12.eq_1
def C.q7_b13 : ICode := .seq (.region C.q7_r12) C.q7_c12
def C.q7_b13_w := @awpE _ _ C.q7_b13.eq_1
def C.q7_c14 : ICode := .keep [0, 3, 4, 6] (.seq (.block 5 C.q7_b13) C.q7_c2)
def C.q7_c14_w := @awpE _ _ C.q7_c14.eq_1
def C.q7_c15 : ICode := .keep [0, 3, 4, 6, 53] (.cond (X.s 53) .skip (.exit 4))
def C.q7_c15_w := @awpE _ _ C.q7_c15.eq_1
def C.q7_r10_b : List IOper := [
 X.m 47 6,
 X.m 48 0,
 X.o 49 (.nilchk (X.s 48)),
 X.o 50 (.fldAddr 1 (X.s 49)),
 X.o 51 (.load1 (X.s 50)),
 X.o 52 (.len (X.s 51)),
 X.o 53 (.bin .lss (X.s 47) (X.s 52))]
def C.q7_r10 : List IOper := C.q7_r10_b
def C.q7_r10_w := @aopsE _ _ C.q7_r10.eq_1
def C.q7_l16 : ICode := .keep [0, 3, 4, 6] (.seq (.seq (.region C.q7_r10) C.q7_c15) C.q7_c14)
def C.q7_l16_w := @awpE _ _ C.q7_l16.eq_1
def C.q7_b17 : ICode := .loop C.q7_l16
def C.q7_b17_w := @awpE _ _ C.q7_b17.eq_1
def C.q7_c18 : ICode := .keep [0, 3, 4, 6] (.block 4 C.q7_b17)
def C.q7_c18_w := @awpE _ _ C.q7_c18.eq_1
def C.q7_r9_b : List IOper := [
 X.o 6 (.move (X.i 0))]
def C.q7_r9 : List IOper := C.q7_r9_b
def C.q7_r9_w := @aopsE _ _ C.q7_r9.eq_1
def C.q7_c19 : ICode := .keep [0, 3, 4] (.seq (.region C.q7_r9) C.q7_c18)
def C.q7_c19_w := @awpE _ _ C.q7_c19.eq_1
def C.q7_r8_b : List IOper := [
 X.o 4 (.move (.cst (.bool false)))]
def C.q7_r8 : List IOper := C.q7_r8_b
def C.q7_r8_w := @aopsE _ _ C.q7_r8.eq_1
def C.q7_b20 : ICode := .seq (.region C.q7_r8) C.q7_c19
def C.q7_b20_w := @awpE _ _ C.q7_b20.eq_1
def C.q7_c21 : ICode := .keep [0, 3] (.block 3 C.q7_b20)
def C.q7_c21_w := @awpE _ _ C.q7_c21.eq_1
def C.q7_c22 : ICode := .keep [0, 3, 46] (.cond (X.s 46) .skip (.exit 2))
def C.q7_c22_w := @awpE _ _ C.q7_c22.eq_1
def C.q7_r7_b : List IOper := [
 X.m 46 4]
def C.q7_r7 : List IOper := C.q7_r7_b
def C.q7_r7_w := @aopsE _ _ C.q7_r7.eq_1
def C.q7_l23 : ICode := .keep [0, 3, 4] (.seq (.seq (.region C.q7_r7) C.q7_c22) C.q7_c21)
def C.q7_l23_w := @awpE _ _ C.q7_l23.eq_1
def C.q7_b24 : ICode := .loop C.q7_l23
def C.q7_b24_w := @awpE _ _ C.q7_b24.eq_1
def C.q7_c25 : ICode := .keep [0, 3, 4] (.seq (.block 2 C.q7_b24) C.q7_c1)
def C.q7_c25_w := @awpE _ _ C.q7_c25.eq_1
def C.q7_r5_b : List IOper := [
 X.m 33 5,
 X.o 34 (.bin .add (X.s 33) (X.i 1)),
 X.m 5 34]
def C.q7_r5 : List IOper := C.q7_r5_b
def C.q7_r5_w := @aopsE _ _ C.q7_r5.eq_1
def C.q7_c26 : ICode := .keep [0, 3, 4, 5] (.region C.q7_r5)
def C.q7_c26_w := @awpE _ _ C.q7_c26.eq_1
def C.q7_r6_b : List IOper := [
 X.m 35 3,
 X.m 36 5,
 X.m 37 0,
 X.o 38 (.nilchk (X.s 37)),
 X.o 39 (.fldAddr 1 (X.s 38)),
 X.o 40 (.load1 (X.s 39)),
 X.m 41 5,
 X.o 42 (.idxAddr 1 (X.s 40) (X.s 41)),
 X.o 43 (.load1 (X.s 42)),
 X.o 44 (.bin .gtr (X.s 43) (X.i 0)),
 X.o 45 (.idxAddr 1 (X.s 35) (X.s 36)),
 X.n (.store1 (X.s 45) (X.s 44))]
def C.q7_r6 : List IOper := C.q7_r6_b
def C.q7_r6_w := @aopsE _ _ C.q7_r6.eq_1
def C.q7_b27 : ICode := .region C.q7_r6
def C.q7_b27_w := @awpE _ _ C.q7_b27.eq_1
def C.q7_c28 : ICode := .keep [0, 3, 4, 5] (.seq (.block 1 C.q7_b27) C.q7_c26)
def C.q7_c28_w := @awpE _ _ C.q7_c28.eq_1
def C.q7_c29 : ICode := .keep [0, 3, 4, 5, 32] (.cond (X.s 32) .skip (.exit 0))
def C.q7_c29_w := @awpE _ _ C.q7_c29.eq_1
def C.q7_r4_b : List IOper := [
 X.m 19 5,
 X.m 20 0,
 X.o 21 (.nilchk (X.s 20)),
 X.o 22 (.fldAddr 1 (X.s 21)),
 X.o 23 (.load1 (X.s 22)),
 X.o 24 (.len (X.s 23)),
 X.o 25 (.bin .lss (X.s 19) (X.s 24)),
 X.m 26 25,
 X.t 26 27 (.move (X.s 0)),
 X.t 26 28 (.nilchk (X.s 27)),
 X.t 26 29 (.fldAddr 2 (X.s 28)),
 X.t 26 30 (.load1 (X.s 29)),
 X.t 26 31 (.un .not (X.s 30)),
 X.o 32 (.pick (X.s 26) (X.s 31) (.cst (.bool false)))]
def C.q7_r4 : List IOper := C.q7_r4_b
def C.q7_r4_w := @aopsE _ _ C.q7_r4.eq_1
def C.q7_l30 : ICode := .keep [0, 3, 4, 5] (.seq (.seq (.region C.q7_r4) C.q7_c29) C.q7_c28)
def C.q7_l30_w := @awpE _ _ C.q7_l30.eq_1
def C.q7_b31 : ICode := .loop C.q7_l30
def C.q7_b31_w := @awpE _ _ C.q7_b31.eq_1
def C.q7_c32 : ICode := .keep [0, 3, 4, 5] (.block 0 C.q7_b31)
def C.q7_c32_w := @awpE _ _ C.q7_c32.eq_1
def C.q7_r3_b : List IOper := [
 X.o 5 (.move (X.i 0))]
def C.q7_r3 : List IOper := C.q7_r3_b
def C.q7_r3_w := @aopsE _ _ C.q7_r3.eq_1
def C.q7_c33 : ICode := .keep [0, 3, 4] (.seq (.seq (.region C.q7_r3) C.q7_c32) C.q7_c25)
def C.q7_c33_w := @awpE _ _ C.q7_c33.eq_1
def C.q7_r2_b : List IOper := [
 X.m 14 0,
 X.o 15 (.nilchk (X.s 14)),
 X.o 16 (.fldAddr 2 (X.s 15)),
 X.o 17 (.load1 (X.s 16)),
 X.o 18 (.un .not (X.s 17)),
 X.m 4 18]
def C.q7_r2 : List IOper := C.q7_r2_b
def C.q7_r2_w := @aopsE _ _ C.q7_r2.eq_1
def C.q7_c34 : ICode := .keep [0, 3] (.seq (.region C.q7_r2) C.q7_c33)
def C.q7_c34_w := @awpE _ _ C.q7_c34.eq_1
def C.q7_r1_b : List IOper := [
 X.m 8 0,
 X.o 9 (.nilchk (X.s 8)),
 X.o 10 (.fldAddr 1 (X.s 9)),
 X.o 11 (.load1 (X.s 10)),
 X.o 12 (.len (X.s 11)),
 X.o 13 (.makeSlice 1 1 [.bool false] (X.s 12) (X.s 12)),
 X.m 3 13]
def C.q7_r1 : List IOper := C.q7_r1_b
def C.q7_r1_w := @aopsE _ _ C.q7_r1.eq_1
def C.q7_c35 : ICode := .keep [0] (.seq (.region C.q7_r1) C.q7_c34)
def C.q7_c35_w := @awpE _ _ C.q7_c35.eq_1
def C.q7_r0_b : List IOper := [
 X.o 2 (.move (.cst (.nils)))]
def C.q7_r0 : List IOper := C.q7_r0_b
def C.q7_r0_w := @aopsE _ _ C.q7_r0.eq_1
def C.q7 : IFunc := ⟨1, [.slot 2], .seq (.region C.q7_r0) C.q7_c35⟩
def C.q7_W := And.intro (And.intro (And.intro (And.intro (And.intro @C.q7_r18_w (And.intro @C.q7_c1_w @C.q7_r11_w)) (And.intro @C.q7_c2_w (And.intro @C.q7_r14_w @C.q7_c3_w))) (And.intro (And.intro @C.q7_r17_w (And.intro @C.q7_c4_w @C.q7_r16_w)) (And.intro @C.q7_c5_w (And.intro @C.q7_c6_w @C.q7_r15_w)))) (And.intro (And.intro (And.intro @C.q7_b7_w (And.intro @C.q7_c8_w @C.q7_c9_w)) (And.intro @C.q7_r13_w (And.intro @C.q7_b11_w @C.q7_c12_w))) (And.intro (And.intro @C.q7_r12_w (And.intro @C.q7_b13_w @C.q7_c14_w)) (And.intro (And.intro @C.q7_c15_w @C.q7_r10_w) (And.intro @C.q7_b17_w @C.q7_c18_w))))) (And.intro (And.intro (And.intro (And.intro @C.q7_r9_w (And.intro @C.q7_c19_w @C.q7_r8_w)) (And.intro @C.q7_b20_w (And.intro @C.q7_c21_w @C.q7_c22_w))) (And.intro (And.intro @C.q7_r7_w (And.intro @C.q7_b24_w @C.q7_c25_w)) (And.intro @C.q7_r5_w (And.intro @C.q7_c26_w @C.q7_r6_w)))) (And.intro (And.intro (And.intro @C.q7_b27_w (And.intro @C.q7_c28_w @C.q7_c29_w)) (And.intro @C.q7_r4_w (And.intro @C.q7_b31_w @C.q7_c32_w))) (And.intro (And.intro @C.q7_r3_w (And.intro @C.q7_c33_w @C.q7_r2_w)) (And.intro (And.intro @C.q7_c34_w @C.q7_r1_w) (And.intro @C.q7_c35_w @C.q7_r0_w)))))
def C.q7_B := And.intro (And.intro (And.intro (And.intro @C.q7_r18_b.eq_1 @C.q7_r11_b.eq_1) (And.intro @C.q7_r14_b.eq_1 @C.q7_r17_b.eq_1)) (And.intro (And.intro @C.q7_r16_b.eq_1 @C.q7_r15_b.eq_1) (And.intro @C.q7_r13_b.eq_1 (And.intro @C.q7_r12_b.eq_1 @C.q7_r10_b.eq_1)))) (And.intro (And.intro (And.intro @C.q7_r9_b.eq_1 @C.q7_r8_b.eq_1) (And.intro @C.q7_r7_b.eq_1 (And.intro @C.q7_r5_b.eq_1 @C.q7_r6_b.eq_1))) (And.intro (And.intro @C.q7_r4_b.eq_1 @C.q7_r3_b.eq_1) (And.intro @C.q7_r2_b.eq_1 (And.intro @C.q7_r1_b.eq_1 @C.q7_r0_b.eq_1))))

def C.q9_r3_b : List IOper := [
 X.m 16 0,
 X.o 17 (.nilchk (X.s 16)),
 X.o 18 (.fldAddr 1 (X.s 17)),
 X.o 19 (.load1 (X.s 18)),
 X.m 20 1,
 X.o 21 (.idxAddr 1 (X.s 19) (X.s 20)),
 X.o 22 (.load1 (X.s 21)),
 X.m 4 22]
def C.q9_r3 : List IOper := C.q9_r3_b
def C.q9_r3_w := @aopsE _ _ C.q9_r3.eq_1
def C.q9_c1 : ICode := .keep [0, 1] (.seq (.region C.q9_r3) .ret)
def C.q9_c1_w := @awpE _ _ C.q9_c1.eq_1
def C.q9_r2_b : List IOper := [
 X.o 4 (.move (X.i 0))]
def C.q9_r2 : List IOper := C.q9_r2_b
def C.q9_r2_w := @aopsE _ _ C.q9_r2.eq_1
def C.q9_c2 : ICode := .seq (.region C.q9_r2) .ret
def C.q9_c2_w := @awpE _ _ C.q9_c2.eq_1
def C.q9_c3 : ICode := .keep [0, 1, 15] (.cond (X.s 15) C.q9_c2 .skip)
def C.q9_c3_w := @awpE _ _ C.q9_c3.eq_1
def C.q9_r1_b : List IOper := [
 X.m 5 1,
 X.o 6 (.bin .lss (X.s 5) (X.i 0)),
 X.m 7 6,
 X.f 7 8 (.move (X.s 1)),
 X.f 7 9 (.move (X.s 0)),
 X.f 7 10 (.nilchk (X.s 9)),
 X.f 7 11 (.fldAddr 1 (X.s 10)),
 X.f 7 12 (.load1 (X.s 11)),
 X.f 7 13 (.len (X.s 12)),
 X.f 7 14 (.bin .geq (X.s 8) (X.s 13)),
 X.o 15 (.pick (X.s 7) (.cst (.bool true)) (X.s 14))]
def C.q9_r1 : List IOper := C.q9_r1_b
def C.q9_r1_w := @aopsE _ _ C.q9_r1.eq_1
def C.q9_c4 : ICode := .keep [0, 1] (.seq (.seq (.region C.q9_r1) C.q9_c3) C.q9_c1)
def C.q9_c4_w := @awpE _ _ C.q9_c4.eq_1
def C.q9_r0_b : List IOper := [
 X.o 4 (.move (X.i 0))]
def C.q9_r0 : List IOper := C.q9_r0_b
def C.q9_r0_w := @aopsE _ _ C.q9_r0.eq_1
def C.q9 : IFunc := ⟨2, [.slot 4], .seq (.region C.q9_r0) C.q9_c4⟩
def C.q9_W := And.intro (And.intro (And.intro @C.q9_r3_w @C.q9_c1_w) (And.intro @C.q9_r2_w @C.q9_c2_w)) (And.intro (And.intro @C.q9_c3_w @C.q9_r1_w) (And.intro @C.q9_c4_w @C.q9_r0_w))
def C.q9_B := And.intro (And.intro @C.q9_r3_b.eq_1 @C.q9_r2_b.eq_1) (And.intro @C.q9_r1_b.eq_1 @C.q9_r0_b.eq_1)

def C.q42_r7_b : List IOper := [
 X.m 25 3,
 X.m 2 25]
def C.q42_r7 : List IOper := C.q42_r7_b
def C.q42_r7_w := @aopsE _ _ C.q42_r7.eq_1
def C.q42_c1 : ICode := .keep [3] (.seq (.region C.q42_r7) .ret)
def C.q42_c1_w := @awpE _ _ C.q42_c1.eq_1
def C.q42_r6_b : List IOper := [
 X.o 24 (.bin .add (X.s 13) (X.i 1)),
 X.m 13 24]
def C.q42_r6 : List IOper := C.q42_r6_b
def C.q42_r6_w := @aopsE _ _ C.q42_r6.eq_1
def C.q42_c2 : ICode := .keep [3, 11, 12, 13] (.region C.q42_r6)
def C.q42_c2_w := @awpE _ _ C.q42_c2.eq_1
def C.q42_r5_b : List IOper := [
 X.m 18 3,
 X.m 19 4,
 X.o 20 (.fldAddr 5 (X.s 5)),
 X.o 21 (.load1 (X.s 20)),
 X.o 22 (.call F.q67 [X.s 21]),
 X.o 23 (.idxAddr 1 (X.s 18) (X.s 19)),
 X.n (.store1 (X.s 23) (X.s 22))]
def C.q42_r5 : List IOper := C.q42_r5_b
def C.q42_r5_w := @aopsE _ _ C.q42_r5.eq_1
def C.q42_c3 : ICode := .keep [3, 4, 5, 11, 12, 13] (.region C.q42_r5)
def C.q42_c3_w := @awpE _ _ C.q42_c3.eq_1
def C.q42_r4_b : List IOper := [
 X.m 15 13,
 X.o 16 (.idxAddr 6 (X.s 11) (X.s 13)),
 X.o 17 (.loadN 6 (X.s 16)),
 X.o 5 (.alloc [.int .i64 0, .int .i64 0, .int .i64 0, .int .u32 0, .nils, .nils]),
 X.m 4 15,
 X.n (.storeN 6 (X.s 5) (X.s 17))]
def C.q42_r4 : List IOper := C.q42_r4_b
def C.q42_r4_w := @aopsE _ _ C.q42_r4.eq_1
def C.q42_b4 : ICode := .seq (.region C.q42_r4) C.q42_c3
def C.q42_b4_w := @awpE _ _ C.q42_b4.eq_1
def C.q42_c5 : ICode := .keep [3, 11, 12, 13] (.seq (.block 1 C.q42_b4) C.q42_c2)
def C.q42_c5_w := @awpE _ _ C.q42_c5.eq_1
def C.q42_c6 : ICode := .keep [3, 11, 12, 13, 14] (.seq (.cond (X.s 14) .skip (.exit 0)) C.q42_c5)
def C.q42_c6_w := @awpE _ _ C.q42_c6.eq_1
def C.q42_r3_b : List IOper := [
 X.o 14 (.bin .lss (X.s 13) (X.s 12))]
def C.q42_r3 : List IOper := C.q42_r3_b
def C.q42_r3_w := @aopsE _ _ C.q42_r3.eq_1
def C.q42_l7 : ICode := .keep [3, 11, 12, 13] (.seq (.region C.q42_r3) C.q42_c6)
def C.q42_l7_w := @awpE _ _ C.q42_l7.eq_1
def C.q42_b8 : ICode := .loop C.q42_l7
def C.q42_b8_w := @awpE _ _ C.q42_b8.eq_1
def C.q42_c9 : ICode := .keep [3, 11, 12, 13] (.block 0 C.q42_b8)
def C.q42_c9_w := @awpE _ _ C.q42_c9.eq_1
def C.q42_r2_b : List IOper := [
 X.o 10 (.fldAddr 3 (X.s 1)),
 X.o 11 (.load1 (X.s 10)),
 X.o 12 (.len (X.s 11)),
 X.o 13 (.move (X.i 0))]
def C.q42_r2 : List IOper := C.q42_r2_b
def C.q42_r2_w := @aopsE _ _ C.q42_r2.eq_1
def C.q42_c10 : ICode := .keep [1, 3] (.seq (.seq (.region C.q42_r2) C.q42_c9) C.q42_c1)
def C.q42_c10_w := @awpE _ _ C.q42_c10.eq_1
def C.q42_r1_b : List IOper := [
 X.o 6 (.fldAddr 3 (X.s 1)),
 X.o 7 (.load1 (X.s 6)),
 X.o 8 (.len (X.s 7)),
 X.o 9 (.makeSlice 1 24 [.nils] (X.s 8) (X.s 8)),
 X.m 3 9]
def C.q42_r1 : List IOper := C.q42_r1_b
def C.q42_r1_w := @aopsE _ _ C.q42_r1.eq_1
def C.q42_c11 : ICode := .keep [1] (.seq (.region C.q42_r1) C.q42_c10)
def C.q42_c11_w := @awpE _ _ C.q42_c11.eq_1
def C.q42_r0_b : List IOper := [
 X.o 1 (.boxN (X.s 0)),
 X.o 2 (.move (.cst (.nils)))]
def C.q42_r0 : List IOper := C.q42_r0_b
def C.q42_r0_w := @aopsE _ _ C.q42_r0.eq_1
def C.q42 : IFunc := ⟨1, [.slot 2], .seq (.region C.q42_r0) C.q42_c11⟩
def C.q42_W := And.intro (And.intro (And.intro (And.intro @C.q42_r7_w @C.q42_c1_w) (And.intro @C.q42_r6_w @C.q42_c2_w)) (And.intro (And.intro @C.q42_r5_w @C.q42_c3_w) (And.intro @C.q42_r4_w (And.intro @C.q42_b4_w @C.q42_c5_w)))) (And.intro (And.intro (And.intro @C.q42_c6_w @C.q42_r3_w) (And.intro @C.q42_b8_w @C.q42_c9_w)) (And.intro (And.intro @C.q42_r2_w @C.q42_c10_w) (And.intro @C.q42_r1_w (And.intro @C.q42_c11_w @C.q42_r0_w))))
def C.q42_B := And.intro (And.intro (And.intro @C.q42_r7_b.eq_1 @C.q42_r6_b.eq_1) (And.intro @C.q42_r5_b.eq_1 @C.q42_r4_b.eq_1)) (And.intro (And.intro @C.q42_r3_b.eq_1 @C.q42_r2_b.eq_1) (And.intro @C.q42_r1_b.eq_1 @C.q42_r0_b.eq_1))

def C.q80_r1_b : List IOper := [
 X.m 5 1,
 X.o 6 (.bin .geq (X.s 5) (X.i 0)),
 X.m 7 6,
 X.t 7 8 (.move (X.s 1)),
 X.t 7 9 (.move (X.s 0)),
 X.t 7 10 (.nilchk (X.s 9)),
 X.t 7 11 (.fldAddr 0 (X.s 10)),
 X.t 7 12 (.load1 (X.s 11)),
 X.t 7 13 (.len (X.s 12)),
 X.t 7 14 (.bin .lss (X.s 8) (X.s 13)),
 X.o 15 (.pick (X.s 7) (X.s 14) (.cst (.bool false))),
 X.m 4 15]
def C.q80_r1 : List IOper := C.q80_r1_b
def C.q80_r1_w := @aopsE _ _ C.q80_r1.eq_1
def C.q80_c1 : ICode := .keep [0, 1] (.seq (.region C.q80_r1) .ret)
def C.q80_c1_w := @awpE _ _ C.q80_c1.eq_1
def C.q80_r0_b : List IOper := [
 X.o 4 (.move (.cst (.bool false)))]
def C.q80_r0 : List IOper := C.q80_r0_b
def C.q80_r0_w := @aopsE _ _ C.q80_r0.eq_1
def C.q80 : IFunc := ⟨2, [.slot 4], .seq (.region C.q80_r0) C.q80_c1⟩
def C.q80_W := And.intro @C.q80_r1_w (And.intro @C.q80_c1_w @C.q80_r0_w)
def C.q80_B := And.intro @C.q80_r1_b.eq_1 @C.q80_r0_b.eq_1

def C.q82_r15_b : List IOper := [
 X.m 55 6,
 X.m 56 8,
 X.m 57 1,
 X.o 58 (.call F.q90 [X.s 55, X.s 56, X.s 57]),
 X.m 4 58,
 X.o 5 (.move (X.i 0))]
def C.q82_r15 : List IOper := C.q82_r15_b
def C.q82_r15_w := @aopsE _ _ C.q82_r15.eq_1
def C.q82_c1 : ICode := .keep [1, 6, 8] (.seq (.region C.q82_r15) .ret)
def C.q82_c1_w := @awpE _ _ C.q82_c1.eq_1
def C.q82_r8_b : List IOper := [
 X.m 30 9,
 X.o 31 (.bin .sub (X.s 30) (X.i 1)),
 X.m 9 31]
def C.q82_r8 : List IOper := C.q82_r8_b
def C.q82_r8_w := @aopsE _ _ C.q82_r8.eq_1
def C.q82_c2 : ICode := .keep [0, 1, 6, 8, 9] (.region C.q82_r8)
def C.q82_c2_w := @awpE _ _ C.q82_c2.eq_1
def C.q82_r14_b : List IOper := [
 X.o 54 (.bin .add (X.s 47) (X.i 1)),
 X.m 47 54]
def C.q82_r14 : List IOper := C.q82_r14_b
def C.q82_r14_w := @aopsE _ _ C.q82_r14.eq_1
def C.q82_c3 : ICode := .keep [0, 1, 6, 8, 9, 45, 46, 47] (.region C.q82_r14)
def C.q82_c3_w := @awpE _ _ C.q82_c3.eq_1
def C.q82_r13_b : List IOper := [
 X.m 51 8,
 X.m 52 11,
 X.o 53 (.call F.q86 [X.s 51, X.s 52])]
def C.q82_r13 : List IOper := C.q82_r13_b
def C.q82_r13_w := @aopsE _ _ C.q82_r13.eq_1
def C.q82_c4 : ICode := .keep [0, 1, 6, 8, 9, 11, 45, 46, 47] (.region C.q82_r13)
def C.q82_c4_w := @awpE _ _ C.q82_c4.eq_1
def C.q82_r12_b : List IOper := [
 X.o 49 (.idxAddr 1 (X.s 45) (X.s 47)),
 X.o 50 (.load1 (X.s 49)),
 X.m 11 50]
def C.q82_r12 : List IOper := C.q82_r12_b
def C.q82_r12_w := @aopsE _ _ C.q82_r12.eq_1
def C.q82_b5 : ICode := .seq (.region C.q82_r12) C.q82_c4
def C.q82_b5_w := @awpE _ _ C.q82_b5.eq_1
def C.q82_c6 : ICode := .keep [0, 1, 6, 8, 9, 45, 46, 47] (.seq (.block 3 C.q82_b5) C.q82_c3)
def C.q82_c6_w := @awpE _ _ C.q82_c6.eq_1
def C.q82_c7 : ICode := .keep [0, 1, 6, 8, 9, 45, 46, 47, 48] (.seq (.cond (X.s 48) .skip (.exit 2)) C.q82_c6)
def C.q82_c7_w := @awpE _ _ C.q82_c7.eq_1
def C.q82_r11_b : List IOper := [
 X.o 48 (.bin .lss (X.s 47) (X.s 46))]
def C.q82_r11 : List IOper := C.q82_r11_b
def C.q82_r11_w := @aopsE _ _ C.q82_r11.eq_1
def C.q82_l8 : ICode := .keep [0, 1, 6, 8, 9, 45, 46, 47] (.seq (.region C.q82_r11) C.q82_c7)
def C.q82_l8_w := @awpE _ _ C.q82_l8.eq_1
def C.q82_b9 : ICode := .loop C.q82_l8
def C.q82_b9_w := @awpE _ _ C.q82_b9.eq_1
def C.q82_c10 : ICode := .keep [0, 1, 6, 8, 9, 45, 46, 47] (.block 2 C.q82_b9)
def C.q82_c10_w := @awpE _ _ C.q82_c10.eq_1
def C.q82_r10_b : List IOper := [
 X.m 39 0,
 X.m 40 6,
 X.m 41 9,
 X.o 42 (.idxAddr 1 (X.s 40) (X.s 41)),
 X.o 43 (.load1 (X.s 42)),
 X.o 44 (.idxAddr 1 (X.s 39) (X.s 43)),
 X.o 45 (.load1 (X.s 44)),
 X.o 46 (.len (X.s 45)),
 X.o 47 (.move (X.i 0))]
def C.q82_r10 : List IOper := C.q82_r10_b
def C.q82_r10_w := @aopsE _ _ C.q82_r10.eq_1
def C.q82_c11 : ICode := .keep [0, 1, 6, 8, 9] (.seq (.region C.q82_r10) C.q82_c10)
def C.q82_c11_w := @awpE _ _ C.q82_c11.eq_1
def C.q82_c12 : ICode := .keep [0, 1, 6, 8, 9, 38] (.cond (X.s 38) (.exit 1) .skip)
def C.q82_c12_w := @awpE _ _ C.q82_c12.eq_1
def C.q82_r9_b : List IOper := [
 X.m 32 8,
 X.m 33 6,
 X.m 34 9,
 X.o 35 (.idxAddr 1 (X.s 33) (X.s 34)),
 X.o 36 (.load1 (X.s 35)),
 X.o 37 (.call F.q87 [X.s 32, X.s 36]),
 X.o 38 (.un .not (X.s 37))]
def C.q82_r9 : List IOper := C.q82_r9_b
def C.q82_r9_w := @aopsE _ _ C.q82_r9.eq_1
def C.q82_b13 : ICode := .seq (.seq (.region C.q82_r9) C.q82_c12) C.q82_c11
def C.q82_b13_w := @awpE _ _ C.q82_b13.eq_1
def C.q82_c14 : ICode := .keep [0, 1, 6, 8, 9] (.seq (.block 1 C.q82_b13) C.q82_c2)
def C.q82_c14_w := @awpE _ _ C.q82_c14.eq_1
def C.q82_c15 : ICode := .keep [0, 1, 6, 8, 9, 29] (.cond (X.s 29) .skip (.exit 0))
def C.q82_c15_w := @awpE _ _ C.q82_c15.eq_1
def C.q82_r7_b : List IOper := [
 X.m 28 9,
 X.o 29 (.bin .geq (X.s 28) (X.i 0))]
def C.q82_r7 : List IOper := C.q82_r7_b
def C.q82_r7_w := @aopsE _ _ C.q82_r7.eq_1
def C.q82_l16 : ICode := .keep [0, 1, 6, 8, 9] (.seq (.seq (.region C.q82_r7) C.q82_c15) C.q82_c14)
def C.q82_l16_w := @awpE _ _ C.q82_l16.eq_1
def C.q82_b17 : ICode := .loop C.q82_l16
def C.q82_b17_w := @awpE _ _ C.q82_b17.eq_1
def C.q82_c18 : ICode := .keep [0, 1, 6, 8, 9] (.block 0 C.q82_b17)
def C.q82_c18_w := @awpE _ _ C.q82_c18.eq_1
def C.q82_r6_b : List IOper := [
 X.m 25 6,
 X.o 26 (.len (X.s 25)),
 X.o 27 (.bin .sub (X.s 26) (X.i 1)),
 X.m 9 27]
def C.q82_r6 : List IOper := C.q82_r6_b
def C.q82_r6_w := @aopsE _ _ C.q82_r6.eq_1
def C.q82_c19 : ICode := .keep [0, 1, 6, 8] (.seq (.seq (.region C.q82_r6) C.q82_c18) C.q82_c1)
def C.q82_c19_w := @awpE _ _ C.q82_c19.eq_1
def C.q82_r5_b : List IOper := [
 X.m 22 8,
 X.m 23 1,
 X.o 24 (.call F.q86 [X.s 22, X.s 23])]
def C.q82_r5 : List IOper := C.q82_r5_b
def C.q82_r5_w := @aopsE _ _ C.q82_r5.eq_1
def C.q82_c20 : ICode := .keep [0, 1, 6, 8] (.seq (.region C.q82_r5) C.q82_c19)
def C.q82_c20_w := @awpE _ _ C.q82_c20.eq_1
def C.q82_r4_b : List IOper := [
 X.o 21 (.makeMap none),
 X.m 8 21]
def C.q82_r4 : List IOper := C.q82_r4_b
def C.q82_r4_w := @aopsE _ _ C.q82_r4.eq_1
def C.q82_c21 : ICode := .keep [0, 1, 6] (.seq (.region C.q82_r4) C.q82_c20)
def C.q82_c21_w := @awpE _ _ C.q82_c21.eq_1
def C.q82_r3_b : List IOper := [
 X.m 20 7,
 X.o 4 (.move (.cst (.nils))),
 X.m 5 20]
def C.q82_r3 : List IOper := C.q82_r3_b
def C.q82_r3_w := @aopsE _ _ C.q82_r3.eq_1
def C.q82_c22 : ICode := .seq (.region C.q82_r3) .ret
def C.q82_c22_w := @awpE _ _ C.q82_c22.eq_1
def C.q82_c23 : ICode := .keep [0, 1, 6, 7, 19] (.cond (X.s 19) C.q82_c22 .skip)
def C.q82_c23_w := @awpE _ _ C.q82_c23.eq_1
def C.q82_r2_b : List IOper := [
 X.m 18 7,
 X.o 19 (.bin .neq (X.s 18) (X.i 0))]
def C.q82_r2 : List IOper := C.q82_r2_b
def C.q82_r2_w := @aopsE _ _ C.q82_r2.eq_1
def C.q82_c24 : ICode := .keep [0, 1, 6, 7] (.seq (.seq (.region C.q82_r2) C.q82_c23) C.q82_c21)
def C.q82_c24_w := @awpE _ _ C.q82_c24.eq_1
def C.q82_r1_b : List IOper := [
 X.m 13 0,
 X.m 14 1,
 X.o 15 (.call F.q89 [X.s 13, X.s 14]),
 X.m 12 15,
 X.o 16 (.extract (X.s 12) 0),
 X.o 17 (.extract (X.s 12) 1),
 X.m 6 16,
 X.m 7 17]
def C.q82_r1 : List IOper := C.q82_r1_b
def C.q82_r1_w := @aopsE _ _ C.q82_r1.eq_1
def C.q82_c25 : ICode := .keep [0, 1] (.seq (.region C.q82_r1) C.q82_c24)
def C.q82_c25_w := @awpE _ _ C.q82_c25.eq_1
def C.q82_r0_b : List IOper := [
 X.o 4 (.move (.cst (.nils))),
 X.o 5 (.move (X.i 0))]
def C.q82_r0 : List IOper := C.q82_r0_b
def C.q82_r0_w := @aopsE _ _ C.q82_r0.eq_1
def C.q82 : IFunc := ⟨2, [.slot 4, .slot 5], .seq (.region C.q82_r0) C.q82_c25⟩
def C.q82_W := And.intro (And.intro (And.intro (And.intro (And.intro @C.q82_r15_w @C.q82_c1_w) (And.intro @C.q82_r8_w @C.q82_c2_w)) (And.intro (And.intro @C.q82_r14_w @C.q82_c3_w) (And.intro @C.q82_r13_w (And.intro @C.q82_c4_w @C.q82_r12_w)))) (And.intro (And.intro (And.intro @C.q82_b5_w @C.q82_c6_w) (And.intro @C.q82_c7_w (And.intro @C.q82_r11_w @C.q82_b9_w))) (And.intro (And.intro @C.q82_c10_w @C.q82_r10_w) (And.intro @C.q82_c11_w (And.intro @C.q82_c12_w @C.q82_r9_w))))) (And.intro (And.intro (And.intro (And.intro @C.q82_b13_w @C.q82_c14_w) (And.intro @C.q82_c15_w (And.intro @C.q82_r7_w @C.q82_b17_w))) (And.intro (And.intro @C.q82_c18_w @C.q82_r6_w) (And.intro @C.q82_c19_w (And.intro @C.q82_r5_w @C.q82_c20_w)))) (And.intro (And.intro (And.intro @C.q82_r4_w @C.q82_c21_w) (And.intro @C.q82_r3_w (And.intro @C.q82_c22_w @C.q82_c23_w))) (And.intro (And.intro @C.q82_r2_w @C.q82_c24_w) (And.intro @C.q82_r1_w (And.intro @C.q82_c25_w @C.q82_r0_w)))))
def C.q82_B := And.intro (And.intro (And.intro (And.intro @C.q82_r15_b.eq_1 @C.q82_r8_b.eq_1) (And.intro @C.q82_r14_b.eq_1 @C.q82_r13_b.eq_1)) (And.intro (And.intro @C.q82_r12_b.eq_1 @C.q82_r11_b.eq_1) (And.intro @C.q82_r10_b.eq_1 @C.q82_r9_b.eq_1))) (And.intro (And.intro (And.intro @C.q82_r7_b.eq_1 @C.q82_r6_b.eq_1) (And.intro @C.q82_r5_b.eq_1 @C.q82_r4_b.eq_1)) (And.intro (And.intro @C.q82_r3_b.eq_1 @C.q82_r2_b.eq_1) (And.intro @C.q82_r1_b.eq_1 @C.q82_r0_b.eq_1)))

def C.q63_r8_b : List IOper := [
 X.o 2 (.move (X.i 0))]
def C.q63_r8 : List IOper := C.q63_r8_b
def C.q63_r8_w := @aopsE _ _ C.q63_r8.eq_1
def C.q63_c1 : ICode := .keep [] (.seq (.region C.q63_r8) .ret)
def C.q63_c1_w := @awpE _ _ C.q63_c1.eq_1
def C.q63_r7_b : List IOper := [
 X.o 17 (.bin .add (X.s 8) (X.i 1)),
 X.m 8 17]
def C.q63_r7 : List IOper := C.q63_r7_b
def C.q63_r7_w := @aopsE _ _ C.q63_r7.eq_1
def C.q63_c2 : ICode := .keep [6, 7, 8] (.region C.q63_r7)
def C.q63_c2_w := @awpE _ _ C.q63_c2.eq_1
def C.q63_r6_b : List IOper := [
 X.m 16 5,
 X.m 2 16]
def C.q63_r6 : List IOper := C.q63_r6_b
def C.q63_r6_w := @aopsE _ _ C.q63_r6.eq_1
def C.q63_c3 : ICode := .seq (.region C.q63_r6) .ret
def C.q63_c3_w := @awpE _ _ C.q63_c3.eq_1
def C.q63_c4 : ICode := .keep [5, 6, 7, 8, 15] (.cond (X.s 15) C.q63_c3 .skip)
def C.q63_c4_w := @awpE _ _ C.q63_c4.eq_1
def C.q63_r5_b : List IOper := [
 X.m 14 5,
 X.o 15 (.bin .neq (X.s 14) (X.i 0))]
def C.q63_r5 : List IOper := C.q63_r5_b
def C.q63_r5_w := @aopsE _ _ C.q63_r5.eq_1
def C.q63_c5 : ICode := .keep [5, 6, 7, 8] (.seq (.region C.q63_r5) C.q63_c4)
def C.q63_c5_w := @awpE _ _ C.q63_c5.eq_1
def C.q63_r4_b : List IOper := [
 X.m 12 4,
 X.o 13 (.callv (X.s 12) []),
 X.m 5 13]
def C.q63_r4 : List IOper := C.q63_r4_b
def C.q63_r4_w := @aopsE _ _ C.q63_r4.eq_1
def C.q63_c6 : ICode := .keep [4, 6, 7, 8] (.seq (.region C.q63_r4) C.q63_c5)
def C.q63_c6_w := @awpE _ _ C.q63_c6.eq_1
def C.q63_r3_b : List IOper := [
 X.o 10 (.idxAddr 1 (X.s 6) (X.s 8)),
 X.o 11 (.load1 (X.s 10)),
 X.m 4 11]
def C.q63_r3 : List IOper := C.q63_r3_b
def C.q63_r3_w := @aopsE _ _ C.q63_r3.eq_1
def C.q63_b7 : ICode := .seq (.region C.q63_r3) C.q63_c6
def C.q63_b7_w := @awpE _ _ C.q63_b7.eq_1
def C.q63_c8 : ICode := .keep [6, 7, 8] (.seq (.block 1 C.q63_b7) C.q63_c2)
def C.q63_c8_w := @awpE _ _ C.q63_c8.eq_1
def C.q63_c9 : ICode := .keep [6, 7, 8, 9] (.seq (.cond (X.s 9) .skip (.exit 0)) C.q63_c8)
def C.q63_c9_w := @awpE _ _ C.q63_c9.eq_1
def C.q63_r2_b : List IOper := [
 X.o 9 (.bin .lss (X.s 8) (X.s 7))]
def C.q63_r2 : List IOper := C.q63_r2_b
def C.q63_r2_w := @aopsE _ _ C.q63_r2.eq_1
def C.q63_l10 : ICode := .keep [6, 7, 8] (.seq (.region C.q63_r2) C.q63_c9)
def C.q63_l10_w := @awpE _ _ C.q63_l10.eq_1
def C.q63_b11 : ICode := .loop C.q63_l10
def C.q63_b11_w := @awpE _ _ C.q63_b11.eq_1
def C.q63_c12 : ICode := .keep [6, 7, 8] (.block 0 C.q63_b11)
def C.q63_c12_w := @awpE _ _ C.q63_c12.eq_1
def C.q63_r1_b : List IOper := [
 X.m 6 0,
 X.o 7 (.len (X.s 6)),
 X.o 8 (.move (X.i 0))]
def C.q63_r1 : List IOper := C.q63_r1_b
def C.q63_r1_w := @aopsE _ _ C.q63_r1.eq_1
def C.q63_c13 : ICode := .keep [0] (.seq (.seq (.region C.q63_r1) C.q63_c12) C.q63_c1)
def C.q63_c13_w := @awpE _ _ C.q63_c13.eq_1
def C.q63_r0_b : List IOper := [
 X.o 2 (.move (X.i 0))]
def C.q63_r0 : List IOper := C.q63_r0_b
def C.q63_r0_w := @aopsE _ _ C.q63_r0.eq_1
def C.q63 : IFunc := ⟨1, [.slot 2], .seq (.region C.q63_r0) C.q63_c13⟩
def C.q63_W := And.intro (And.intro (And.intro (And.intro @C.q63_r8_w @C.q63_c1_w) (And.intro @C.q63_r7_w (And.intro @C.q63_c2_w @C.q63_r6_w))) (And.intro (And.intro @C.q63_c3_w @C.q63_c4_w) (And.intro @C.q63_r5_w (And.intro @C.q63_c5_w @C.q63_r4_w)))) (And.intro (And.intro (And.intro @C.q63_c6_w @C.q63_r3_w) (And.intro @C.q63_b7_w (And.intro @C.q63_c8_w @C.q63_c9_w))) (And.intro (And.intro @C.q63_r2_w (And.intro @C.q63_b11_w @C.q63_c12_w)) (And.intro @C.q63_r1_w (And.intro @C.q63_c13_w @C.q63_r0_w))))
def C.q63_B := And.intro (And.intro (And.intro @C.q63_r8_b.eq_1 @C.q63_r7_b.eq_1) (And.intro @C.q63_r6_b.eq_1 @C.q63_r5_b.eq_1)) (And.intro (And.intro @C.q63_r4_b.eq_1 @C.q63_r3_b.eq_1) (And.intro @C.q63_r2_b.eq_1 (And.intro @C.q63_r1_b.eq_1 @C.q63_r0_b.eq_1)))

def C.q29_r1_b : List IOper := [
 X.o 2 (.loadN 4 (X.s 0)),
 X.o 3 (.call F.q64 [X.s 2]),
 X.m 1 3]
def C.q29_r1 : List IOper := C.q29_r1_b
def C.q29_r1_w := @aopsE _ _ C.q29_r1.eq_1
def C.q29_c1 : ICode := .keep [0] (.seq (.region C.q29_r1) .ret)
def C.q29_c1_w := @awpE _ _ C.q29_c1.eq_1
def C.q29_r0_b : List IOper := [
 X.o 1 (.move (X.i 0))]
def C.q29_r0 : List IOper := C.q29_r0_b
def C.q29_r0_w := @aopsE _ _ C.q29_r0.eq_1
def C.q29 : IFunc := ⟨1, [.slot 1], .seq (.region C.q29_r0) C.q29_c1⟩
def C.q29_W := And.intro @C.q29_r1_w (And.intro @C.q29_c1_w @C.q29_r0_w)
def C.q29_B := And.intro @C.q29_r1_b.eq_1 @C.q29_r0_b.eq_1

def C.q64_r3_b : List IOper := [
 X.o 25 (.fldAddr 3 (X.s 1)),
 X.o 26 (.load1 (X.s 25)),
 X.o 27 (.call F.q59 [X.s 26, .fnc F.q65]),
 X.m 2 27]
def C.q64_r3 : List IOper := C.q64_r3_b
def C.q64_r3_w := @aopsE _ _ C.q64_r3.eq_1
def C.q64_c1 : ICode := .keep [1] (.seq (.region C.q64_r3) .ret)
def C.q64_c1_w := @awpE _ _ C.q64_c1.eq_1
def C.q64_r2_b : List IOper := [
 X.o 2 (.move (X.i 8))]
def C.q64_r2 : List IOper := C.q64_r2_b
def C.q64_r2_w := @aopsE _ _ C.q64_r2.eq_1
def C.q64_c2 : ICode := .seq (.region C.q64_r2) .ret
def C.q64_c2_w := @awpE _ _ C.q64_c2.eq_1
def C.q64_c3 : ICode := .keep [1, 24] (.cond (X.s 24) C.q64_c2 .skip)
def C.q64_c3_w := @awpE _ _ C.q64_c3.eq_1
def C.q64_r1_b : List IOper := [
 X.o 3 (.fldAddr 0 (X.s 1)),
 X.o 4 (.load1 (X.s 3)),
 X.o 5 (.len (X.s 4)),
 X.o 6 (.bin .gtr (X.s 5) (X.i 12)),
 X.m 7 6,
 X.f 7 8 (.fldAddr 1 (X.s 1)),
 X.f 7 9 (.load1 (X.s 8)),
 X.f 7 10 (.len (X.s 9)),
 X.f 7 11 (.bin .gtr (X.s 10) (X.i 6)),
 X.o 12 (.pick (X.s 7) (.cst (.bool true)) (X.s 11)),
 X.m 13 12,
 X.f 13 14 (.fldAddr 2 (X.s 1)),
 X.f 13 15 (.load1 (X.s 14)),
 X.f 13 16 (.len (X.s 15)),
 X.f 13 17 (.bin .gtr (X.s 16) (X.i 6)),
 X.o 18 (.pick (X.s 13) (.cst (.bool true)) (X.s 17)),
 X.m 19 18,
 X.f 19 20 (.fldAddr 3 (X.s 1)),
 X.f 19 21 (.load1 (X.s 20)),
 X.f 19 22 (.len (X.s 21)),
 X.f 19 23 (.bin .gtr (X.s 22) (X.i 6)),
 X.o 24 (.pick (X.s 19) (.cst (.bool true)) (X.s 23))]
def C.q64_r1 : List IOper := C.q64_r1_b
def C.q64_r1_w := @aopsE _ _ C.q64_r1.eq_1
def C.q64_c4 : ICode := .keep [1] (.seq (.seq (.region C.q64_r1) C.q64_c3) C.q64_c1)
def C.q64_c4_w := @awpE _ _ C.q64_c4.eq_1
def C.q64_r0_b : List IOper := [
 X.o 1 (.boxN (X.s 0)),
 X.o 2 (.move (X.i 0))]
def C.q64_r0 : List IOper := C.q64_r0_b
def C.q64_r0_w := @aopsE _ _ C.q64_r0.eq_1
def C.q64 : IFunc := ⟨1, [.slot 2], .seq (.region C.q64_r0) C.q64_c4⟩
def C.q64_W := And.intro (And.intro (And.intro @C.q64_r3_w @C.q64_c1_w) (And.intro @C.q64_r2_w @C.q64_c2_w)) (And.intro (And.intro @C.q64_c3_w @C.q64_r1_w) (And.intro @C.q64_c4_w @C.q64_r0_w))
def C.q64_B := And.intro (And.intro @C.q64_r3_b.eq_1 @C.q64_r2_b.eq_1) (And.intro @C.q64_r1_b.eq_1 @C.q64_r0_b.eq_1)

def C.q30_r1_b : List IOper := [
 X.o 2 (.fldAddr 0 (X.s 0)),
 X.o 3 (.load1 (X.s 2)),
 X.o 4 (.makeFunc F.q31 [X.s 0]),
 X.o 5 (.call F.q58 [X.s 3, X.s 4]),
 X.m 1 5]
def C.q30_r1 : List IOper := C.q30_r1_b
def C.q30_r1_w := @aopsE _ _ C.q30_r1.eq_1
def C.q30_c1 : ICode := .keep [0] (.seq (.region C.q30_r1) .ret)
def C.q30_c1_w := @awpE _ _ C.q30_c1.eq_1
def C.q30_r0_b : List IOper := [
 X.o 1 (.move (X.i 0))]
def C.q30_r0 : List IOper := C.q30_r0_b
def C.q30_r0_w := @aopsE _ _ C.q30_r0.eq_1
def C.q30 : IFunc := ⟨1, [.slot 1], .seq (.region C.q30_r0) C.q30_c1⟩
def C.q30_W := And.intro @C.q30_r1_w (And.intro @C.q30_c1_w @C.q30_r0_w)
def C.q30_B := And.intro @C.q30_r1_b.eq_1 @C.q30_r0_b.eq_1

def C.q58_r8_b : List IOper := [
 X.o 4 (.move (X.i 0))]
def C.q58_r8 : List IOper := C.q58_r8_b
def C.q58_r8_w := @aopsE _ _ C.q58_r8.eq_1
def C.q58_c1 : ICode := .keep [] (.seq (.region C.q58_r8) .ret)
def C.q58_c1_w := @awpE _ _ C.q58_c1.eq_1
def C.q58_r7_b : List IOper := [
 X.o 20 (.bin .add (X.s 10) (X.i 1)),
 X.m 10 20]
def C.q58_r7 : List IOper := C.q58_r7_b
def C.q58_r7_w := @aopsE _ _ C.q58_r7.eq_1
def C.q58_c2 : ICode := .keep [1, 8, 9, 10] (.region C.q58_r7)
def C.q58_c2_w := @awpE _ _ C.q58_c2.eq_1
def C.q58_r6_b : List IOper := [
 X.m 19 7,
 X.m 4 19]
def C.q58_r6 : List IOper := C.q58_r6_b
def C.q58_r6_w := @aopsE _ _ C.q58_r6.eq_1
def C.q58_c3 : ICode := .seq (.region C.q58_r6) .ret
def C.q58_c3_w := @awpE _ _ C.q58_c3.eq_1
def C.q58_c4 : ICode := .keep [1, 7, 8, 9, 10, 18] (.cond (X.s 18) C.q58_c3 .skip)
def C.q58_c4_w := @awpE _ _ C.q58_c4.eq_1
def C.q58_r5_b : List IOper := [
 X.m 17 7,
 X.o 18 (.bin .neq (X.s 17) (X.i 0))]
def C.q58_r5 : List IOper := C.q58_r5_b
def C.q58_r5_w := @aopsE _ _ C.q58_r5.eq_1
def C.q58_c5 : ICode := .keep [1, 7, 8, 9, 10] (.seq (.region C.q58_r5) C.q58_c4)
def C.q58_c5_w := @awpE _ _ C.q58_c5.eq_1
def C.q58_r4_b : List IOper := [
 X.m 14 1,
 X.o 15 (.loadN 6 (X.s 6)),
 X.o 16 (.callv (X.s 14) [X.s 15]),
 X.m 7 16]
def C.q58_r4 : List IOper := C.q58_r4_b
def C.q58_r4_w := @aopsE _ _ C.q58_r4.eq_1
def C.q58_c6 : ICode := .keep [1, 6, 8, 9, 10] (.seq (.region C.q58_r4) C.q58_c5)
def C.q58_c6_w := @awpE _ _ C.q58_c6.eq_1
def C.q58_r3_b : List IOper := [
 X.o 12 (.idxAddr 6 (X.s 8) (X.s 10)),
 X.o 13 (.loadN 6 (X.s 12)),
 X.o 6 (.alloc [.int .u8 0, .nils, .int .u64 0, .int .i64 0, .int .i64 0, .int .i64 0]),
 X.n (.storeN 6 (X.s 6) (X.s 13))]
def C.q58_r3 : List IOper := C.q58_r3_b
def C.q58_r3_w := @aopsE _ _ C.q58_r3.eq_1
def C.q58_b7 : ICode := .seq (.region C.q58_r3) C.q58_c6
def C.q58_b7_w := @awpE _ _ C.q58_b7.eq_1
def C.q58_c8 : ICode := .keep [1, 8, 9, 10] (.seq (.block 1 C.q58_b7) C.q58_c2)
def C.q58_c8_w := @awpE _ _ C.q58_c8.eq_1
def C.q58_c9 : ICode := .keep [1, 8, 9, 10, 11] (.seq (.cond (X.s 11) .skip (.exit 0)) C.q58_c8)
def C.q58_c9_w := @awpE _ _ C.q58_c9.eq_1
def C.q58_r2_b : List IOper := [
 X.o 11 (.bin .lss (X.s 10) (X.s 9))]
def C.q58_r2 : List IOper := C.q58_r2_b
def C.q58_r2_w := @aopsE _ _ C.q58_r2.eq_1
def C.q58_l10 : ICode := .keep [1, 8, 9, 10] (.seq (.region C.q58_r2) C.q58_c9)
def C.q58_l10_w := @awpE _ _ C.q58_l10.eq_1
def C.q58_b11 : ICode := .loop C.q58_l10
def C.q58_b11_w := @awpE _ _ C.q58_b11.eq_1
def C.q58_c12 : ICode := .keep [1, 8, 9, 10] (.block 0 C.q58_b11)
def C.q58_c12_w := @awpE _ _ C.q58_c12.eq_1
def C.q58_r1_b : List IOper := [
 X.m 8 0,
 X.o 9 (.len (X.s 8)),
 X.o 10 (.move (X.i 0))]
def C.q58_r1 : List IOper := C.q58_r1_b
def C.q58_r1_w := @aopsE _ _ C.q58_r1.eq_1
def C.q58_c13 : ICode := .keep [0, 1] (.seq (.seq (.region C.q58_r1) C.q58_c12) C.q58_c1)
def C.q58_c13_w := @awpE _ _ C.q58_c13.eq_1
def C.q58_r0_b : List IOper := [
 X.o 4 (.move (X.i 0))]
def C.q58_r0 : List IOper := C.q58_r0_b
def C.q58_r0_w := @aopsE _ _ C.q58_r0.eq_1
def C.q58 : IFunc := ⟨2, [.slot 4], .seq (.region C.q58_r0) C.q58_c13⟩
def C.q58_W := And.intro (And.intro (And.intro (And.intro @C.q58_r8_w @C.q58_c1_w) (And.intro @C.q58_r7_w (And.intro @C.q58_c2_w @C.q58_r6_w))) (And.intro (And.intro @C.q58_c3_w @C.q58_c4_w) (And.intro @C.q58_r5_w (And.intro @C.q58_c5_w @C.q58_r4_w)))) (And.intro (And.intro (And.intro @C.q58_c6_w @C.q58_r3_w) (And.intro @C.q58_b7_w (And.intro @C.q58_c8_w @C.q58_c9_w))) (And.intro (And.intro @C.q58_r2_w (And.intro @C.q58_b11_w @C.q58_c12_w)) (And.intro @C.q58_r1_w (And.intro @C.q58_c13_w @C.q58_r0_w))))
def C.q58_B := And.intro (And.intro (And.intro @C.q58_r8_b.eq_1 @C.q58_r7_b.eq_1) (And.intro @C.q58_r6_b.eq_1 @C.q58_r5_b.eq_1)) (And.intro (And.intro @C.q58_r4_b.eq_1 @C.q58_r3_b.eq_1) (And.intro @C.q58_r2_b.eq_1 (And.intro @C.q58_r1_b.eq_1 @C.q58_r0_b.eq_1)))

def C.q31_r1_b : List IOper := [
 X.o 4 (.loadN 4 (X.s 1)),
 X.o 5 (.loadN 6 (X.s 2)),
 X.o 6 (.call F.q43 [X.s 4, X.s 5]),
 X.m 3 6]
def C.q31_r1 : List IOper := C.q31_r1_b
def C.q31_r1_w := @aopsE _ _ C.q31_r1.eq_1
def C.q31_c1 : ICode := .keep [1, 2] (.seq (.region C.q31_r1) .ret)
def C.q31_c1_w := @awpE _ _ C.q31_c1.eq_1
def C.q31_r0_b : List IOper := [
 X.o 2 (.boxN (X.s 0)),
 X.o 3 (.move (X.i 0))]
def C.q31_r0 : List IOper := C.q31_r0_b
def C.q31_r0_w := @aopsE _ _ C.q31_r0.eq_1
def C.q31 : IFunc := ⟨2, [.slot 3], .seq (.region C.q31_r0) C.q31_c1⟩
def C.q31_W := And.intro @C.q31_r1_w (And.intro @C.q31_c1_w @C.q31_r0_w)
def C.q31_B := And.intro @C.q31_r1_b.eq_1 @C.q31_r0_b.eq_1

def C.q43_r1_b : List IOper := [
 X.o 5 (.makeFunc F.q44 [X.s 3]),
 X.o 6 (.makeFunc F.q45 [X.s 3, X.s 2]),
 X.o 7 (.makeFunc F.q47 [X.s 3]),
 X.o 8 (.buildSlice 1 3 [.nilf] [(0, 1, X.s 5), (1, 1, X.s 6), (2, 1, X.s 7)]),
 X.o 9 (.call F.q63 [X.s 8]),
 X.m 4 9]
def C.q43_r1 : List IOper := C.q43_r1_b
def C.q43_r1_w := @aopsE _ _ C.q43_r1.eq_1
def C.q43_c1 : ICode := .keep [2, 3] (.seq (.region C.q43_r1) .ret)
def C.q43_c1_w := @awpE _ _ C.q43_c1.eq_1
def C.q43_r0_b : List IOper := [
 X.o 2 (.boxN (X.s 0)),
 X.o 3 (.boxN (X.s 1)),
 X.o 4 (.move (X.i 0))]
def C.q43_r0 : List IOper := C.q43_r0_b
def C.q43_r0_w := @aopsE _ _ C.q43_r0.eq_1
def C.q43 : IFunc := ⟨2, [.slot 4], .seq (.region C.q43_r0) C.q43_c1⟩
def C.q43_W := And.intro @C.q43_r1_w (And.intro @C.q43_c1_w @C.q43_r0_w)
def C.q43_B := And.intro @C.q43_r1_b.eq_1 @C.q43_r0_b.eq_1

def C.q32_r1_b : List IOper := [
 X.o 2 (.loadN 4 (X.s 0)),
 X.o 3 (.call F.q40 [X.s 2]),
 X.o 4 (.call F.q48 [X.s 3]),
 X.m 1 4]
def C.q32_r1 : List IOper := C.q32_r1_b
def C.q32_r1_w := @aopsE _ _ C.q32_r1.eq_1
def C.q32_c1 : ICode := .keep [0] (.seq (.region C.q32_r1) .ret)
def C.q32_c1_w := @awpE _ _ C.q32_c1.eq_1
def C.q32_r0_b : List IOper := [
 X.o 1 (.move (X.i 0))]
def C.q32_r0 : List IOper := C.q32_r0_b
def C.q32_r0_w := @aopsE _ _ C.q32_r0.eq_1
def C.q32 : IFunc := ⟨1, [.slot 1], .seq (.region C.q32_r0) C.q32_c1⟩
def C.q32_W := And.intro @C.q32_r1_w (And.intro @C.q32_c1_w @C.q32_r0_w)
def C.q32_B := And.intro @C.q32_r1_b.eq_1 @C.q32_r0_b.eq_1

def C.q48_r1_b : List IOper := [
 X.m 3 0,
 X.o 4 (.call F.q83 [X.s 3]),
 X.o 5 (.bin .eql (X.s 4) (X.i 5)),
 X.o 6 (.call F.q70 [X.s 5, X.i 5]),
 X.m 2 6]
def C.q48_r1 : List IOper := C.q48_r1_b
def C.q48_r1_w := @aopsE _ _ C.q48_r1.eq_1
def C.q48_c1 : ICode := .keep [0] (.seq (.region C.q48_r1) .ret)
def C.q48_c1_w := @awpE _ _ C.q48_c1.eq_1
def C.q48_r0_b : List IOper := [
 X.o 2 (.move (X.i 0))]
def C.q48_r0 : List IOper := C.q48_r0_b
def C.q48_r0_w := @aopsE _ _ C.q48_r0.eq_1
def C.q48 : IFunc := ⟨1, [.slot 2], .seq (.region C.q48_r0) C.q48_c1⟩
def C.q48_W := And.intro @C.q48_r1_w (And.intro @C.q48_c1_w @C.q48_r0_w)
def C.q48_B := And.intro @C.q48_r1_b.eq_1 @C.q48_r0_b.eq_1

def C.q40_r7_b : List IOper := [
 X.m 25 3,
 X.m 2 25]
def C.q40_r7 : List IOper := C.q40_r7_b
def C.q40_r7_w := @aopsE _ _ C.q40_r7.eq_1
def C.q40_c1 : ICode := .keep [3] (.seq (.region C.q40_r7) .ret)
def C.q40_c1_w := @awpE _ _ C.q40_c1.eq_1
def C.q40_r6_b : List IOper := [
 X.o 24 (.bin .add (X.s 13) (X.i 1)),
 X.m 13 24]
def C.q40_r6 : List IOper := C.q40_r6_b
def C.q40_r6_w := @aopsE _ _ C.q40_r6.eq_1
def C.q40_c2 : ICode := .keep [3, 11, 12, 13] (.region C.q40_r6)
def C.q40_c2_w := @awpE _ _ C.q40_c2.eq_1
def C.q40_r5_b : List IOper := [
 X.m 18 3,
 X.m 19 4,
 X.o 20 (.fldAddr 1 (X.s 5)),
 X.o 21 (.load1 (X.s 20)),
 X.o 22 (.call F.q67 [X.s 21]),
 X.o 23 (.idxAddr 1 (X.s 18) (X.s 19)),
 X.n (.store1 (X.s 23) (X.s 22))]
def C.q40_r5 : List IOper := C.q40_r5_b
def C.q40_r5_w := @aopsE _ _ C.q40_r5.eq_1
def C.q40_c3 : ICode := .keep [3, 4, 5, 11, 12, 13] (.region C.q40_r5)
def C.q40_c3_w := @awpE _ _ C.q40_c3.eq_1
def C.q40_r4_b : List IOper := [
 X.m 15 13,
 X.o 16 (.idxAddr 6 (X.s 11) (X.s 13)),
 X.o 17 (.loadN 6 (X.s 16)),
 X.o 5 (.alloc [.int .u8 0, .nils, .int .u64 0, .int .i64 0, .int .i64 0, .int .i64 0]),
 X.m 4 15,
 X.n (.storeN 6 (X.s 5) (X.s 17))]
def C.q40_r4 : List IOper := C.q40_r4_b
def C.q40_r4_w := @aopsE _ _ C.q40_r4.eq_1
def C.q40_b4 : ICode := .seq (.region C.q40_r4) C.q40_c3
def C.q40_b4_w := @awpE _ _ C.q40_b4.eq_1
def C.q40_c5 : ICode := .keep [3, 11, 12, 13] (.seq (.block 1 C.q40_b4) C.q40_c2)
def C.q40_c5_w := @awpE _ _ C.q40_c5.eq_1
def C.q40_c6 : ICode := .keep [3, 11, 12, 13, 14] (.seq (.cond (X.s 14) .skip (.exit 0)) C.q40_c5)
def C.q40_c6_w := @awpE _ _ C.q40_c6.eq_1
def C.q40_r3_b : List IOper := [
 X.o 14 (.bin .lss (X.s 13) (X.s 12))]
def C.q40_r3 : List IOper := C.q40_r3_b
def C.q40_r3_w := @aopsE _ _ C.q40_r3.eq_1
def C.q40_l7 : ICode := .keep [3, 11, 12, 13] (.seq (.region C.q40_r3) C.q40_c6)
def C.q40_l7_w := @awpE _ _ C.q40_l7.eq_1
def C.q40_b8 : ICode := .loop C.q40_l7
def C.q40_b8_w := @awpE _ _ C.q40_b8.eq_1
def C.q40_c9 : ICode := .keep [3, 11, 12, 13] (.block 0 C.q40_b8)
def C.q40_c9_w := @awpE _ _ C.q40_c9.eq_1
def C.q40_r2_b : List IOper := [
 X.o 10 (.fldAddr 0 (X.s 1)),
 X.o 11 (.load1 (X.s 10)),
 X.o 12 (.len (X.s 11)),
 X.o 13 (.move (X.i 0))]
def C.q40_r2 : List IOper := C.q40_r2_b
def C.q40_r2_w := @aopsE _ _ C.q40_r2.eq_1
def C.q40_c10 : ICode := .keep [1, 3] (.seq (.seq (.region C.q40_r2) C.q40_c9) C.q40_c1)
def C.q40_c10_w := @awpE _ _ C.q40_c10.eq_1
def C.q40_r1_b : List IOper := [
 X.o 6 (.fldAddr 0 (X.s 1)),
 X.o 7 (.load1 (X.s 6)),
 X.o 8 (.len (X.s 7)),
 X.o 9 (.makeSlice 1 24 [.nils] (X.s 8) (X.s 8)),
 X.m 3 9]
def C.q40_r1 : List IOper := C.q40_r1_b
def C.q40_r1_w := @aopsE _ _ C.q40_r1.eq_1
def C.q40_c11 : ICode := .keep [1] (.seq (.region C.q40_r1) C.q40_c10)
def C.q40_c11_w := @awpE _ _ C.q40_c11.eq_1
def C.q40_r0_b : List IOper := [
 X.o 1 (.boxN (X.s 0)),
 X.o 2 (.move (.cst (.nils)))]
def C.q40_r0 : List IOper := C.q40_r0_b
def C.q40_r0_w := @aopsE _ _ C.q40_r0.eq_1
def C.q40 : IFunc := ⟨1, [.slot 2], .seq (.region C.q40_r0) C.q40_c11⟩
def C.q40_W := And.intro (And.intro (And.intro (And.intro @C.q40_r7_w @C.q40_c1_w) (And.intro @C.q40_r6_w @C.q40_c2_w)) (And.intro (And.intro @C.q40_r5_w @C.q40_c3_w) (And.intro @C.q40_r4_w (And.intro @C.q40_b4_w @C.q40_c5_w)))) (And.intro (And.intro (And.intro @C.q40_c6_w @C.q40_r3_w) (And.intro @C.q40_b8_w @C.q40_c9_w)) (And.intro (And.intro @C.q40_r2_w @C.q40_c10_w) (And.intro @C.q40_r1_w (And.intro @C.q40_c11_w @C.q40_r0_w))))
def C.q40_B := And.intro (And.intro (And.intro @C.q40_r7_b.eq_1 @C.q40_r6_b.eq_1) (And.intro @C.q40_r5_b.eq_1 @C.q40_r4_b.eq_1)) (And.intro (And.intro @C.q40_r3_b.eq_1 @C.q40_r2_b.eq_1) (And.intro @C.q40_r1_b.eq_1 @C.q40_r0_b.eq_1))

def C.q33_r1_b : List IOper := [
 X.o 2 (.fldAddr 1 (X.s 0)),
 X.o 3 (.load1 (X.s 2)),
 X.o 4 (.makeFunc F.q34 [X.s 0]),
 X.o 5 (.call F.q60 [X.s 3, X.s 4]),
 X.m 1 5]
def C.q33_r1 : List IOper := C.q33_r1_b
def C.q33_r1_w := @aopsE _ _ C.q33_r1.eq_1
def C.q33_c1 : ICode := .keep [0] (.seq (.region C.q33_r1) .ret)
def C.q33_c1_w := @awpE _ _ C.q33_c1.eq_1
def C.q33_r0_b : List IOper := [
 X.o 1 (.move (X.i 0))]
def C.q33_r0 : List IOper := C.q33_r0_b
def C.q33_r0_w := @aopsE _ _ C.q33_r0.eq_1
def C.q33 : IFunc := ⟨1, [.slot 1], .seq (.region C.q33_r0) C.q33_c1⟩
def C.q33_W := And.intro @C.q33_r1_w (And.intro @C.q33_c1_w @C.q33_r0_w)
def C.q33_B := And.intro @C.q33_r1_b.eq_1 @C.q33_r0_b.eq_1

def C.q60_r8_b : List IOper := [
 X.o 4 (.move (X.i 0))]
def C.q60_r8 : List IOper := C.q60_r8_b
def C.q60_r8_w := @aopsE _ _ C.q60_r8.eq_1
def C.q60_c1 : ICode := .keep [] (.seq (.region C.q60_r8) .ret)
def C.q60_c1_w := @awpE _ _ C.q60_c1.eq_1
def C.q60_r7_b : List IOper := [
 X.o 20 (.bin .add (X.s 10) (X.i 1)),
 X.m 10 20]
def C.q60_r7 : List IOper := C.q60_r7_b
def C.q60_r7_w := @aopsE _ _ C.q60_r7.eq_1
def C.q60_c2 : ICode := .keep [1, 8, 9, 10] (.region C.q60_r7)
def C.q60_c2_w := @awpE _ _ C.q60_c2.eq_1
def C.q60_r6_b : List IOper := [
 X.m 19 7,
 X.m 4 19]
def C.q60_r6 : List IOper := C.q60_r6_b
def C.q60_r6_w := @aopsE _ _ C.q60_r6.eq_1
def C.q60_c3 : ICode := .seq (.region C.q60_r6) .ret
def C.q60_c3_w := @awpE _ _ C.q60_c3.eq_1
def C.q60_c4 : ICode := .keep [1, 7, 8, 9, 10, 18] (.cond (X.s 18) C.q60_c3 .skip)
def C.q60_c4_w := @awpE _ _ C.q60_c4.eq_1
def C.q60_r5_b : List IOper := [
 X.m 17 7,
 X.o 18 (.bin .neq (X.s 17) (X.i 0))]
def C.q60_r5 : List IOper := C.q60_r5_b
def C.q60_r5_w := @aopsE _ _ C.q60_r5.eq_1
def C.q60_c5 : ICode := .keep [1, 7, 8, 9, 10] (.seq (.region C.q60_r5) C.q60_c4)
def C.q60_c5_w := @awpE _ _ C.q60_c5.eq_1
def C.q60_r4_b : List IOper := [
 X.m 14 1,
 X.o 15 (.loadN 3 (X.s 6)),
 X.o 16 (.callv (X.s 14) [X.s 15]),
 X.m 7 16]
def C.q60_r4 : List IOper := C.q60_r4_b
def C.q60_r4_w := @aopsE _ _ C.q60_r4.eq_1
def C.q60_c6 : ICode := .keep [1, 6, 8, 9, 10] (.seq (.region C.q60_r4) C.q60_c5)
def C.q60_c6_w := @awpE _ _ C.q60_c6.eq_1
def C.q60_r3_b : List IOper := [
 X.o 12 (.idxAddr 3 (X.s 8) (X.s 10)),
 X.o 13 (.loadN 3 (X.s 12)),
 X.o 6 (.alloc [.int .i64 0, .int .i64 0, .bool false]),
 X.n (.storeN 3 (X.s 6) (X.s 13))]
def C.q60_r3 : List IOper := C.q60_r3_b
def C.q60_r3_w := @aopsE _ _ C.q60_r3.eq_1
def C.q60_b7 : ICode := .seq (.region C.q60_r3) C.q60_c6
def C.q60_b7_w := @awpE _ _ C.q60_b7.eq_1
def C.q60_c8 : ICode := .keep [1, 8, 9, 10] (.seq (.block 1 C.q60_b7) C.q60_c2)
def C.q60_c8_w := @awpE _ _ C.q60_c8.eq_1
def C.q60_c9 : ICode := .keep [1, 8, 9, 10, 11] (.seq (.cond (X.s 11) .skip (.exit 0)) C.q60_c8)
def C.q60_c9_w := @awpE _ _ C.q60_c9.eq_1
def C.q60_r2_b : List IOper := [
 X.o 11 (.bin .lss (X.s 10) (X.s 9))]
def C.q60_r2 : List IOper := C.q60_r2_b
def C.q60_r2_w := @aopsE _ _ C.q60_r2.eq_1
def C.q60_l10 : ICode := .keep [1, 8, 9, 10] (.seq (.region C.q60_r2) C.q60_c9)
def C.q60_l10_w := @awpE _ _ C.q60_l10.eq_1
def C.q60_b11 : ICode := .loop C.q60_l10
def C.q60_b11_w := @awpE _ _ C.q60_b11.eq_1
def C.q60_c12 : ICode := .keep [1, 8, 9, 10] (.block 0 C.q60_b11)
def C.q60_c12_w := @awpE _ _ C.q60_c12.eq_1
def C.q60_r1_b : List IOper := [
 X.m 8 0,
 X.o 9 (.len (X.s 8)),
 X.o 10 (.move (X.i 0))]
def C.q60_r1 : List IOper := C.q60_r1_b
def C.q60_r1_w := @aopsE _ _ C.q60_r1.eq_1
def C.q60_c13 : ICode := .keep [0, 1] (.seq (.seq (.region C.q60_r1) C.q60_c12) C.q60_c1)
def C.q60_c13_w := @awpE _ _ C.q60_c13.eq_1
def C.q60_r0_b : List IOper := [
 X.o 4 (.move (X.i 0))]
def C.q60_r0 : List IOper := C.q60_r0_b
def C.q60_r0_w := @aopsE _ _ C.q60_r0.eq_1
def C.q60 : IFunc := ⟨2, [.slot 4], .seq (.region C.q60_r0) C.q60_c13⟩
def C.q60_W := And.intro (And.intro (And.intro (And.intro @C.q60_r8_w @C.q60_c1_w) (And.intro @C.q60_r7_w (And.intro @C.q60_c2_w @C.q60_r6_w))) (And.intro (And.intro @C.q60_c3_w @C.q60_c4_w) (And.intro @C.q60_r5_w (And.intro @C.q60_c5_w @C.q60_r4_w)))) (And.intro (And.intro (And.intro @C.q60_c6_w @C.q60_r3_w) (And.intro @C.q60_b7_w (And.intro @C.q60_c8_w @C.q60_c9_w))) (And.intro (And.intro @C.q60_r2_w (And.intro @C.q60_b11_w @C.q60_c12_w)) (And.intro @C.q60_r1_w (And.intro @C.q60_c13_w @C.q60_r0_w))))
def C.q60_B := And.intro (And.intro (And.intro @C.q60_r8_b.eq_1 @C.q60_r7_b.eq_1) (And.intro @C.q60_r6_b.eq_1 @C.q60_r5_b.eq_1)) (And.intro (And.intro @C.q60_r4_b.eq_1 @C.q60_r3_b.eq_1) (And.intro @C.q60_r2_b.eq_1 (And.intro @C.q60_r1_b.eq_1 @C.q60_r0_b.eq_1)))

def C.q34_r1_b : List IOper := [
 X.o 4 (.loadN 4 (X.s 1)),
 X.o 5 (.loadN 3 (X.s 2)),
 X.o 6 (.call F.q55 [X.s 4, X.s 5]),
 X.m 3 6]
def C.q34_r1 : List IOper := C.q34_r1_b
def C.q34_r1_w := @aopsE _ _ C.q34_r1.eq_1
def C.q34_c1 : ICode := .keep [1, 2] (.seq (.region C.q34_r1) .ret)
def C.q34_c1_w := @awpE _ _ C.q34_c1.eq_1
def C.q34_r0_b : List IOper := [
 X.o 2 (.boxN (X.s 0)),
 X.o 3 (.move (X.i 0))]
def C.q34_r0 : List IOper := C.q34_r0_b
def C.q34_r0_w := @aopsE _ _ C.q34_r0.eq_1
def C.q34 : IFunc := ⟨2, [.slot 3], .seq (.region C.q34_r0) C.q34_c1⟩
def C.q34_W := And.intro @C.q34_r1_w (And.intro @C.q34_c1_w @C.q34_r0_w)
def C.q34_B := And.intro @C.q34_r1_b.eq_1 @C.q34_r0_b.eq_1

def C.q55_r1_b : List IOper := [
 X.o 5 (.makeFunc F.q56 [X.s 3, X.s 2]),
 X.o 6 (.makeFunc F.q57 [X.s 3]),
 X.o 7 (.buildSlice 1 2 [.nilf] [(0, 1, X.s 5), (1, 1, X.s 6)]),
 X.o 8 (.call F.q63 [X.s 7]),
 X.m 4 8]
def C.q55_r1 : List IOper := C.q55_r1_b
def C.q55_r1_w := @aopsE _ _ C.q55_r1.eq_1
def C.q55_c1 : ICode := .keep [2, 3] (.seq (.region C.q55_r1) .ret)
def C.q55_c1_w := @awpE _ _ C.q55_c1.eq_1
def C.q55_r0_b : List IOper := [
 X.o 2 (.boxN (X.s 0)),
 X.o 3 (.boxN (X.s 1)),
 X.o 4 (.move (X.i 0))]
def C.q55_r0 : List IOper := C.q55_r0_b
def C.q55_r0_w := @aopsE _ _ C.q55_r0.eq_1
def C.q55 : IFunc := ⟨2, [.slot 4], .seq (.region C.q55_r0) C.q55_c1⟩
def C.q55_W := And.intro @C.q55_r1_w (And.intro @C.q55_c1_w @C.q55_r0_w)
def C.q55_B := And.intro @C.q55_r1_b.eq_1 @C.q55_r0_b.eq_1

def C.q35_r1_b : List IOper := [
 X.o 2 (.loadN 4 (X.s 0)),
 X.o 3 (.call F.q41 [X.s 2]),
 X.o 4 (.call F.q48 [X.s 3]),
 X.m 1 4]
def C.q35_r1 : List IOper := C.q35_r1_b
def C.q35_r1_w := @aopsE _ _ C.q35_r1.eq_1
def C.q35_c1 : ICode := .keep [0] (.seq (.region C.q35_r1) .ret)
def C.q35_c1_w := @awpE _ _ C.q35_c1.eq_1
def C.q35_r0_b : List IOper := [
 X.o 1 (.move (X.i 0))]
def C.q35_r0 : List IOper := C.q35_r0_b
def C.q35_r0_w := @aopsE _ _ C.q35_r0.eq_1
def C.q35 : IFunc := ⟨1, [.slot 1], .seq (.region C.q35_r0) C.q35_c1⟩
def C.q35_W := And.intro @C.q35_r1_w (And.intro @C.q35_c1_w @C.q35_r0_w)
def C.q35_B := And.intro @C.q35_r1_b.eq_1 @C.q35_r0_b.eq_1

def C.q41_r8_b : List IOper := [
 X.m 28 3,
 X.m 2 28]
def C.q41_r8 : List IOper := C.q41_r8_b
def C.q41_r8_w := @aopsE _ _ C.q41_r8.eq_1
def C.q41_c1 : ICode := .keep [3] (.seq (.region C.q41_r8) .ret)
def C.q41_c1_w := @awpE _ _ C.q41_c1.eq_1
def C.q41_r7_b : List IOper := [
 X.o 27 (.bin .add (X.s 13) (X.i 1)),
 X.m 13 27]
def C.q41_r7 : List IOper := C.q41_r7_b
def C.q41_r7_w := @aopsE _ _ C.q41_r7.eq_1
def C.q41_c2 : ICode := .keep [3, 11, 12, 13] (.region C.q41_r7)
def C.q41_c2_w := @awpE _ _ C.q41_c2.eq_1
def C.q41_r6_b : List IOper := [
 X.m 21 3,
 X.m 22 4,
 X.o 23 (.fldAddr 0 (X.s 5)),
 X.o 24 (.load1 (X.s 23)),
 X.o 25 (.buildSlice 1 1 [.int .i64 0] [(0, 1, X.s 24)]),
 X.o 26 (.idxAddr 1 (X.s 21) (X.s 22)),
 X.n (.store1 (X.s 26) (X.s 25))]
def C.q41_r6 : List IOper := C.q41_r6_b
def C.q41_r6_w := @aopsE _ _ C.q41_r6.eq_1
def C.q41_c3 : ICode := .keep [3, 4, 5, 11, 12, 13, 20] (.cond (X.s 20) (.region C.q41_r6) .skip)
def C.q41_c3_w := @awpE _ _ C.q41_c3.eq_1
def C.q41_r5_b : List IOper := [
 X.o 18 (.fldAddr 0 (X.s 5)),
 X.o 19 (.load1 (X.s 18)),
 X.o 20 (.bin .neq (X.s 19) (X.i (-1)))]
def C.q41_r5 : List IOper := C.q41_r5_b
def C.q41_r5_w := @aopsE _ _ C.q41_r5.eq_1
def C.q41_c4 : ICode := .keep [3, 4, 5, 11, 12, 13] (.seq (.region C.q41_r5) C.q41_c3)
def C.q41_c4_w := @awpE _ _ C.q41_c4.eq_1
def C.q41_r4_b : List IOper := [
 X.m 15 13,
 X.o 16 (.idxAddr 3 (X.s 11) (X.s 13)),
 X.o 17 (.loadN 3 (X.s 16)),
 X.o 5 (.alloc [.int .i64 0, .int .i64 0, .bool false]),
 X.m 4 15,
 X.n (.storeN 3 (X.s 5) (X.s 17))]
def C.q41_r4 : List IOper := C.q41_r4_b
def C.q41_r4_w := @aopsE _ _ C.q41_r4.eq_1
def C.q41_b5 : ICode := .seq (.region C.q41_r4) C.q41_c4
def C.q41_b5_w := @awpE _ _ C.q41_b5.eq_1
def C.q41_c6 : ICode := .keep [3, 11, 12, 13] (.seq (.block 1 C.q41_b5) C.q41_c2)
def C.q41_c6_w := @awpE _ _ C.q41_c6.eq_1
def C.q41_c7 : ICode := .keep [3, 11, 12, 13, 14] (.seq (.cond (X.s 14) .skip (.exit 0)) C.q41_c6)
def C.q41_c7_w := @awpE _ _ C.q41_c7.eq_1
def C.q41_r3_b : List IOper := [
 X.o 14 (.bin .lss (X.s 13) (X.s 12))]
def C.q41_r3 : List IOper := C.q41_r3_b
def C.q41_r3_w := @aopsE _ _ C.q41_r3.eq_1
def C.q41_l8 : ICode := .keep [3, 11, 12, 13] (.seq (.region C.q41_r3) C.q41_c7)
def C.q41_l8_w := @awpE _ _ C.q41_l8.eq_1
def C.q41_b9 : ICode := .loop C.q41_l8
def C.q41_b9_w := @awpE _ _ C.q41_b9.eq_1
def C.q41_c10 : ICode := .keep [3, 11, 12, 13] (.block 0 C.q41_b9)
def C.q41_c10_w := @awpE _ _ C.q41_c10.eq_1
def C.q41_r2_b : List IOper := [
 X.o 10 (.fldAddr 1 (X.s 1)),
 X.o 11 (.load1 (X.s 10)),
 X.o 12 (.len (X.s 11)),
 X.o 13 (.move (X.i 0))]
def C.q41_r2 : List IOper := C.q41_r2_b
def C.q41_r2_w := @aopsE _ _ C.q41_r2.eq_1
def C.q41_c11 : ICode := .keep [1, 3] (.seq (.seq (.region C.q41_r2) C.q41_c10) C.q41_c1)
def C.q41_c11_w := @awpE _ _ C.q41_c11.eq_1
def C.q41_r1_b : List IOper := [
 X.o 6 (.fldAddr 1 (X.s 1)),
 X.o 7 (.load1 (X.s 6)),
 X.o 8 (.len (X.s 7)),
 X.o 9 (.makeSlice 1 24 [.nils] (X.s 8) (X.s 8)),
 X.m 3 9]
def C.q41_r1 : List IOper := C.q41_r1_b
def C.q41_r1_w := @aopsE _ _ C.q41_r1.eq_1
def C.q41_c12 : ICode := .keep [1] (.seq (.region C.q41_r1) C.q41_c11)
def C.q41_c12_w := @awpE _ _ C.q41_c12.eq_1
def C.q41_r0_b : List IOper := [
 X.o 1 (.boxN (X.s 0)),
 X.o 2 (.move (.cst (.nils)))]
def C.q41_r0 : List IOper := C.q41_r0_b
def C.q41_r0_w := @aopsE _ _ C.q41_r0.eq_1
def C.q41 : IFunc := ⟨1, [.slot 2], .seq (.region C.q41_r0) C.q41_c12⟩
def C.q41_W := And.intro (And.intro (And.intro (And.intro @C.q41_r8_w @C.q41_c1_w) (And.intro @C.q41_r7_w (And.intro @C.q41_c2_w @C.q41_r6_w))) (And.intro (And.intro @C.q41_c3_w @C.q41_r5_w) (And.intro @C.q41_c4_w (And.intro @C.q41_r4_w @C.q41_b5_w)))) (And.intro (And.intro (And.intro @C.q41_c6_w @C.q41_c7_w) (And.intro @C.q41_r3_w (And.intro @C.q41_b9_w @C.q41_c10_w))) (And.intro (And.intro @C.q41_r2_w @C.q41_c11_w) (And.intro @C.q41_r1_w (And.intro @C.q41_c12_w @C.q41_r0_w))))
def C.q41_B := And.intro (And.intro (And.intro @C.q41_r8_b.eq_1 @C.q41_r7_b.eq_1) (And.intro @C.q41_r6_b.eq_1 @C.q41_r5_b.eq_1)) (And.intro (And.intro @C.q41_r4_b.eq_1 @C.q41_r3_b.eq_1) (And.intro @C.q41_r2_b.eq_1 (And.intro @C.q41_r1_b.eq_1 @C.q41_r0_b.eq_1)))

def C.q36_r1_b : List IOper := [
 X.o 2 (.fldAddr 2 (X.s 0)),
 X.o 3 (.load1 (X.s 2)),
 X.o 4 (.call F.q61 [X.s 3, .fnc F.q68]),
 X.m 1 4]
def C.q36_r1 : List IOper := C.q36_r1_b
def C.q36_r1_w := @aopsE _ _ C.q36_r1.eq_1
def C.q36_c1 : ICode := .keep [0] (.seq (.region C.q36_r1) .ret)
def C.q36_c1_w := @awpE _ _ C.q36_c1.eq_1
def C.q36_r0_b : List IOper := [
 X.o 1 (.move (X.i 0))]
def C.q36_r0 : List IOper := C.q36_r0_b
def C.q36_r0_w := @aopsE _ _ C.q36_r0.eq_1
def C.q36 : IFunc := ⟨1, [.slot 1], .seq (.region C.q36_r0) C.q36_c1⟩
def C.q36_W := And.intro @C.q36_r1_w (And.intro @C.q36_c1_w @C.q36_r0_w)
def C.q36_B := And.intro @C.q36_r1_b.eq_1 @C.q36_r0_b.eq_1

def C.q61_r8_b : List IOper := [
 X.o 4 (.move (X.i 0))]
def C.q61_r8 : List IOper := C.q61_r8_b
def C.q61_r8_w := @aopsE _ _ C.q61_r8.eq_1
def C.q61_c1 : ICode := .keep [] (.seq (.region C.q61_r8) .ret)
def C.q61_c1_w := @awpE _ _ C.q61_c1.eq_1
def C.q61_r7_b : List IOper := [
 X.o 20 (.bin .add (X.s 10) (X.i 1)),
 X.m 10 20]
def C.q61_r7 : List IOper := C.q61_r7_b
def C.q61_r7_w := @aopsE _ _ C.q61_r7.eq_1
def C.q61_c2 : ICode := .keep [1, 8, 9, 10] (.region C.q61_r7)
def C.q61_c2_w := @awpE _ _ C.q61_c2.eq_1
def C.q61_r6_b : List IOper := [
 X.m 19 7,
 X.m 4 19]
def C.q61_r6 : List IOper := C.q61_r6_b
def C.q61_r6_w := @aopsE _ _ C.q61_r6.eq_1
def C.q61_c3 : ICode := .seq (.region C.q61_r6) .ret
def C.q61_c3_w := @awpE _ _ C.q61_c3.eq_1
def C.q61_c4 : ICode := .keep [1, 7, 8, 9, 10, 18] (.cond (X.s 18) C.q61_c3 .skip)
def C.q61_c4_w := @awpE _ _ C.q61_c4.eq_1
def C.q61_r5_b : List IOper := [
 X.m 17 7,
 X.o 18 (.bin .neq (X.s 17) (X.i 0))]
def C.q61_r5 : List IOper := C.q61_r5_b
def C.q61_r5_w := @aopsE _ _ C.q61_r5.eq_1
def C.q61_c5 : ICode := .keep [1, 7, 8, 9, 10] (.seq (.region C.q61_r5) C.q61_c4)
def C.q61_c5_w := @awpE _ _ C.q61_c5.eq_1
def C.q61_r4_b : List IOper := [
 X.m 14 1,
 X.o 15 (.loadN 1 (X.s 6)),
 X.o 16 (.callv (X.s 14) [X.s 15]),
 X.m 7 16]
def C.q61_r4 : List IOper := C.q61_r4_b
def C.q61_r4_w := @aopsE _ _ C.q61_r4.eq_1
def C.q61_c6 : ICode := .keep [1, 6, 8, 9, 10] (.seq (.region C.q61_r4) C.q61_c5)
def C.q61_c6_w := @awpE _ _ C.q61_c6.eq_1
def C.q61_r3_b : List IOper := [
 X.o 12 (.idxAddr 1 (X.s 8) (X.s 10)),
 X.o 13 (.loadN 1 (X.s 12)),
 X.o 6 (.alloc [.int .i64 0]),
 X.n (.storeN 1 (X.s 6) (X.s 13))]
def C.q61_r3 : List IOper := C.q61_r3_b
def C.q61_r3_w := @aopsE _ _ C.q61_r3.eq_1
def C.q61_b7 : ICode := .seq (.region C.q61_r3) C.q61_c6
def C.q61_b7_w := @awpE _ _ C.q61_b7.eq_1
def C.q61_c8 : ICode := .keep [1, 8, 9, 10] (.seq (.block 1 C.q61_b7) C.q61_c2)
def C.q61_c8_w := @awpE _ _ C.q61_c8.eq_1
def C.q61_c9 : ICode := .keep [1, 8, 9, 10, 11] (.seq (.cond (X.s 11) .skip (.exit 0)) C.q61_c8)
def C.q61_c9_w := @awpE _ _ C.q61_c9.eq_1
def C.q61_r2_b : List IOper := [
 X.o 11 (.bin .lss (X.s 10) (X.s 9))]
def C.q61_r2 : List IOper := C.q61_r2_b
def C.q61_r2_w := @aopsE _ _ C.q61_r2.eq_1
def C.q61_l10 : ICode := .keep [1, 8, 9, 10] (.seq (.region C.q61_r2) C.q61_c9)
def C.q61_l10_w := @awpE _ _ C.q61_l10.eq_1
def C.q61_b11 : ICode := .loop C.q61_l10
def C.q61_b11_w := @awpE _ _ C.q61_b11.eq_1
def C.q61_c12 : ICode := .keep [1, 8, 9, 10] (.block 0 C.q61_b11)
def C.q61_c12_w := @awpE _ _ C.q61_c12.eq_1
def C.q61_r1_b : List IOper := [
 X.m 8 0,
 X.o 9 (.len (X.s 8)),
 X.o 10 (.move (X.i 0))]
def C.q61_r1 : List IOper := C.q61_r1_b
def C.q61_r1_w := @aopsE _ _ C.q61_r1.eq_1
def C.q61_c13 : ICode := .keep [0, 1] (.seq (.seq (.region C.q61_r1) C.q61_c12) C.q61_c1)
def C.q61_c13_w := @awpE _ _ C.q61_c13.eq_1
def C.q61_r0_b : List IOper := [
 X.o 4 (.move (X.i 0))]
def C.q61_r0 : List IOper := C.q61_r0_b
def C.q61_r0_w := @aopsE _ _ C.q61_r0.eq_1
def C.q61 : IFunc := ⟨2, [.slot 4], .seq (.region C.q61_r0) C.q61_c13⟩
def C.q61_W := And.intro (And.intro (And.intro (And.intro @C.q61_r8_w @C.q61_c1_w) (And.intro @C.q61_r7_w (And.intro @C.q61_c2_w @C.q61_r6_w))) (And.intro (And.intro @C.q61_c3_w @C.q61_c4_w) (And.intro @C.q61_r5_w (And.intro @C.q61_c5_w @C.q61_r4_w)))) (And.intro (And.intro (And.intro @C.q61_c6_w @C.q61_r3_w) (And.intro @C.q61_b7_w (And.intro @C.q61_c8_w @C.q61_c9_w))) (And.intro (And.intro @C.q61_r2_w (And.intro @C.q61_b11_w @C.q61_c12_w)) (And.intro @C.q61_r1_w (And.intro @C.q61_c13_w @C.q61_r0_w))))
def C.q61_B := And.intro (And.intro (And.intro @C.q61_r8_b.eq_1 @C.q61_r7_b.eq_1) (And.intro @C.q61_r6_b.eq_1 @C.q61_r5_b.eq_1)) (And.intro (And.intro @C.q61_r4_b.eq_1 @C.q61_r3_b.eq_1) (And.intro @C.q61_r2_b.eq_1 (And.intro @C.q61_r1_b.eq_1 @C.q61_r0_b.eq_1)))

def C.q68_r1_b : List IOper := [
 X.o 3 (.fldAddr 0 (X.s 1)),
 X.o 4 (.load1 (X.s 3)),
 X.o 5 (.call F.q71 [X.s 4, X.i 0, X.i 20]),
 X.o 6 (.un .not (X.s 5)),
 X.o 7 (.call F.q70 [X.s 6, X.i 3]),
 X.m 2 7]
def C.q68_r1 : List IOper := C.q68_r1_b
def C.q68_r1_w := @aopsE _ _ C.q68_r1.eq_1
def C.q68_c1 : ICode := .keep [1] (.seq (.region C.q68_r1) .ret)
def C.q68_c1_w := @awpE _ _ C.q68_c1.eq_1
def C.q68_r0_b : List IOper := [
 X.o 1 (.boxN (X.s 0)),
 X.o 2 (.move (X.i 0))]
def C.q68_r0 : List IOper := C.q68_r0_b
def C.q68_r0_w := @aopsE _ _ C.q68_r0.eq_1
def C.q68 : IFunc := ⟨1, [.slot 2], .seq (.region C.q68_r0) C.q68_c1⟩
def C.q68_W := And.intro @C.q68_r1_w (And.intro @C.q68_c1_w @C.q68_r0_w)
def C.q68_B := And.intro @C.q68_r1_b.eq_1 @C.q68_r0_b.eq_1

def C.q37_r1_b : List IOper := [
 X.o 2 (.fldAddr 3 (X.s 0)),
 X.o 3 (.load1 (X.s 2)),
 X.o 4 (.makeFunc F.q38 [X.s 0]),
 X.o 5 (.call F.q59 [X.s 3, X.s 4]),
 X.m 1 5]
def C.q37_r1 : List IOper := C.q37_r1_b
def C.q37_r1_w := @aopsE _ _ C.q37_r1.eq_1
def C.q37_c1 : ICode := .keep [0] (.seq (.region C.q37_r1) .ret)
def C.q37_c1_w := @awpE _ _ C.q37_c1.eq_1
def C.q37_r0_b : List IOper := [
 X.o 1 (.move (X.i 0))]
def C.q37_r0 : List IOper := C.q37_r0_b
def C.q37_r0_w := @aopsE _ _ C.q37_r0.eq_1
def C.q37 : IFunc := ⟨1, [.slot 1], .seq (.region C.q37_r0) C.q37_c1⟩
def C.q37_W := And.intro @C.q37_r1_w (And.intro @C.q37_c1_w @C.q37_r0_w)
def C.q37_B := And.intro @C.q37_r1_b.eq_1 @C.q37_r0_b.eq_1

def C.q59_r8_b : List IOper := [
 X.o 4 (.move (X.i 0))]
def C.q59_r8 : List IOper := C.q59_r8_b
def C.q59_r8_w := @aopsE _ _ C.q59_r8.eq_1
def C.q59_c1 : ICode := .keep [] (.seq (.region C.q59_r8) .ret)
def C.q59_c1_w := @awpE _ _ C.q59_c1.eq_1
def C.q59_r7_b : List IOper := [
 X.o 20 (.bin .add (X.s 10) (X.i 1)),
 X.m 10 20]
def C.q59_r7 : List IOper := C.q59_r7_b
def C.q59_r7_w := @aopsE _ _ C.q59_r7.eq_1
def C.q59_c2 : ICode := .keep [1, 8, 9, 10] (.region C.q59_r7)
def C.q59_c2_w := @awpE _ _ C.q59_c2.eq_1
def C.q59_r6_b : List IOper := [
 X.m 19 7,
 X.m 4 19]
def C.q59_r6 : List IOper := C.q59_r6_b
def C.q59_r6_w := @aopsE _ _ C.q59_r6.eq_1
def C.q59_c3 : ICode := .seq (.region C.q59_r6) .ret
def C.q59_c3_w := @awpE _ _ C.q59_c3.eq_1
def C.q59_c4 : ICode := .keep [1, 7, 8, 9, 10, 18] (.cond (X.s 18) C.q59_c3 .skip)
def C.q59_c4_w := @awpE _ _ C.q59_c4.eq_1
def C.q59_r5_b : List IOper := [
 X.m 17 7,
 X.o 18 (.bin .neq (X.s 17) (X.i 0))]
def C.q59_r5 : List IOper := C.q59_r5_b
def C.q59_r5_w := @aopsE _ _ C.q59_r5.eq_1
def C.q59_c5 : ICode := .keep [1, 7, 8, 9, 10] (.seq (.region C.q59_r5) C.q59_c4)
def C.q59_c5_w := @awpE _ _ C.q59_c5.eq_1
def C.q59_r4_b : List IOper := [
 X.m 14 1,
 X.o 15 (.loadN 6 (X.s 6)),
 X.o 16 (.callv (X.s 14) [X.s 15]),
 X.m 7 16]
def C.q59_r4 : List IOper := C.q59_r4_b
def C.q59_r4_w := @aopsE _ _ C.q59_r4.eq_1
def C.q59_c6 : ICode := .keep [1, 6, 8, 9, 10] (.seq (.region C.q59_r4) C.q59_c5)
def C.q59_c6_w := @awpE _ _ C.q59_c6.eq_1
def C.q59_r3_b : List IOper := [
 X.o 12 (.idxAddr 6 (X.s 8) (X.s 10)),
 X.o 13 (.loadN 6 (X.s 12)),
 X.o 6 (.alloc [.int .i64 0, .int .i64 0, .int .i64 0, .int .u32 0, .nils, .nils]),
 X.n (.storeN 6 (X.s 6) (X.s 13))]
def C.q59_r3 : List IOper := C.q59_r3_b
def C.q59_r3_w := @aopsE _ _ C.q59_r3.eq_1
def C.q59_b7 : ICode := .seq (.region C.q59_r3) C.q59_c6
def C.q59_b7_w := @awpE _ _ C.q59_b7.eq_1
def C.q59_c8 : ICode := .keep [1, 8, 9, 10] (.seq (.block 1 C.q59_b7) C.q59_c2)
def C.q59_c8_w := @awpE _ _ C.q59_c8.eq_1
def C.q59_c9 : ICode := .keep [1, 8, 9, 10, 11] (.seq (.cond (X.s 11) .skip (.exit 0)) C.q59_c8)
def C.q59_c9_w := @awpE _ _ C.q59_c9.eq_1
def C.q59_r2_b : List IOper := [
 X.o 11 (.bin .lss (X.s 10) (X.s 9))]
def C.q59_r2 : List IOper := C.q59_r2_b
def C.q59_r2_w := @aopsE _ _ C.q59_r2.eq_1
def C.q59_l10 : ICode := .keep [1, 8, 9, 10] (.seq (.region C.q59_r2) C.q59_c9)
def C.q59_l10_w := @awpE _ _ C.q59_l10.eq_1
def C.q59_b11 : ICode := .loop C.q59_l10
def C.q59_b11_w := @awpE _ _ C.q59_b11.eq_1
def C.q59_c12 : ICode := .keep [1, 8, 9, 10] (.block 0 C.q59_b11)
def C.q59_c12_w := @awpE _ _ C.q59_c12.eq_1
def C.q59_r1_b : List IOper := [
 X.m 8 0,
 X.o 9 (.len (X.s 8)),
 X.o 10 (.move (X.i 0))]
def C.q59_r1 : List IOper := C.q59_r1_b
def C.q59_r1_w := @aopsE _ _ C.q59_r1.eq_1
def C.q59_c13 : ICode := .keep [0, 1] (.seq (.seq (.region C.q59_r1) C.q59_c12) C.q59_c1)
def C.q59_c13_w := @awpE _ _ C.q59_c13.eq_1
def C.q59_r0_b : List IOper := [
 X.o 4 (.move (X.i 0))]
def C.q59_r0 : List IOper := C.q59_r0_b
def C.q59_r0_w := @aopsE _ _ C.q59_r0.eq_1
def C.q59 : IFunc := ⟨2, [.slot 4], .seq (.region C.q59_r0) C.q59_c13⟩
def C.q59_W := And.intro (And.intro (And.intro (And.intro @C.q59_r8_w @C.q59_c1_w) (And.intro @C.q59_r7_w (And.intro @C.q59_c2_w @C.q59_r6_w))) (And.intro (And.intro @C.q59_c3_w @C.q59_c4_w) (And.intro @C.q59_r5_w (And.intro @C.q59_c5_w @C.q59_r4_w)))) (And.intro (And.intro (And.intro @C.q59_c6_w @C.q59_r3_w) (And.intro @C.q59_b7_w (And.intro @C.q59_c8_w @C.q59_c9_w))) (And.intro (And.intro @C.q59_r2_w (And.intro @C.q59_b11_w @C.q59_c12_w)) (And.intro @C.q59_r1_w (And.intro @C.q59_c13_w @C.q59_r0_w))))
def C.q59_B := And.intro (And.intro (And.intro @C.q59_r8_b.eq_1 @C.q59_r7_b.eq_1) (And.intro @C.q59_r6_b.eq_1 @C.q59_r5_b.eq_1)) (And.intro (And.intro @C.q59_r4_b.eq_1 @C.q59_r3_b.eq_1) (And.intro @C.q59_r2_b.eq_1 (And.intro @C.q59_r1_b.eq_1 @C.q59_r0_b.eq_1)))

def C.q38_r1_b : List IOper := [
 X.o 4 (.loadN 4 (X.s 1)),
 X.o 5 (.loadN 6 (X.s 2)),
 X.o 6 (.call F.q49 [X.s 4, X.s 5]),
 X.m 3 6]
def C.q38_r1 : List IOper := C.q38_r1_b
def C.q38_r1_w := @aopsE _ _ C.q38_r1.eq_1
def C.q38_c1 : ICode := .keep [1, 2] (.seq (.region C.q38_r1) .ret)
def C.q38_c1_w := @awpE _ _ C.q38_c1.eq_1
def C.q38_r0_b : List IOper := [
 X.o 2 (.boxN (X.s 0)),
 X.o 3 (.move (X.i 0))]
def C.q38_r0 : List IOper := C.q38_r0_b
def C.q38_r0_w := @aopsE _ _ C.q38_r0.eq_1
def C.q38 : IFunc := ⟨2, [.slot 3], .seq (.region C.q38_r0) C.q38_c1⟩
def C.q38_W := And.intro @C.q38_r1_w (And.intro @C.q38_c1_w @C.q38_r0_w)
def C.q38_B := And.intro @C.q38_r1_b.eq_1 @C.q38_r0_b.eq_1

def C.q49_r1_b : List IOper := [
 X.o 5 (.makeFunc F.q50 [X.s 3, X.s 2]),
 X.o 6 (.makeFunc F.q51 [X.s 3, X.s 2]),
 X.o 7 (.makeFunc F.q52 [X.s 3, X.s 2]),
 X.o 8 (.makeFunc F.q53 [X.s 3, X.s 2]),
 X.o 9 (.buildSlice 1 4 [.nilf] [(0, 1, X.s 5), (1, 1, X.s 6), (2, 1, X.s 7), (3, 1, X.s 8)]),
 X.o 10 (.call F.q63 [X.s 9]),
 X.m 4 10]
def C.q49_r1 : List IOper := C.q49_r1_b
def C.q49_r1_w := @aopsE _ _ C.q49_r1.eq_1
def C.q49_c1 : ICode := .keep [2, 3] (.seq (.region C.q49_r1) .ret)
def C.q49_c1_w := @awpE _ _ C.q49_c1.eq_1
def C.q49_r0_b : List IOper := [
 X.o 2 (.boxN (X.s 0)),
 X.o 3 (.boxN (X.s 1)),
 X.o 4 (.move (X.i 0))]
def C.q49_r0 : List IOper := C.q49_r0_b
def C.q49_r0_w := @aopsE _ _ C.q49_r0.eq_1
def C.q49 : IFunc := ⟨2, [.slot 4], .seq (.region C.q49_r0) C.q49_c1⟩
def C.q49_W := And.intro @C.q49_r1_w (And.intro @C.q49_c1_w @C.q49_r0_w)
def C.q49_B := And.intro @C.q49_r1_b.eq_1 @C.q49_r0_b.eq_1

def C.q39_r1_b : List IOper := [
 X.o 2 (.loadN 4 (X.s 0)),
 X.o 3 (.call F.q42 [X.s 2]),
 X.o 4 (.call F.q48 [X.s 3]),
 X.m 1 4]
def C.q39_r1 : List IOper := C.q39_r1_b
def C.q39_r1_w := @aopsE _ _ C.q39_r1.eq_1
def C.q39_c1 : ICode := .keep [0] (.seq (.region C.q39_r1) .ret)
def C.q39_c1_w := @awpE _ _ C.q39_c1.eq_1
def C.q39_r0_b : List IOper := [
 X.o 1 (.move (X.i 0))]
def C.q39_r0 : List IOper := C.q39_r0_b
def C.q39_r0_w := @aopsE _ _ C.q39_r0.eq_1
def C.q39 : IFunc := ⟨1, [.slot 1], .seq (.region C.q39_r0) C.q39_c1⟩
def C.q39_W := And.intro @C.q39_r1_w (And.intro @C.q39_c1_w @C.q39_r0_w)
def C.q39_B := And.intro @C.q39_r1_b.eq_1 @C.q39_r0_b.eq_1

def C.q17_r14_b : List IOper := [
 X.o 33 (.loadN 4 (X.s 1)),
 X.o 34 (.call F.q24 [X.s 33]),
 X.m 2 34]
def C.q17_r14 : List IOper := C.q17_r14_b
def C.q17_r14_w := @aopsE _ _ C.q17_r14.eq_1
def C.q17_c1 : ICode := .keep [1] (.seq (.region C.q17_r14) .ret)
def C.q17_c1_w := @awpE _ _ C.q17_c1.eq_1
def C.q17_r11_b : List IOper := [
 X.m 23 4,
 X.o 24 (.bin .add (X.s 23) (X.i 1)),
 X.m 4 24]
def C.q17_r11 : List IOper := C.q17_r11_b
def C.q17_r11_w := @aopsE _ _ C.q17_r11.eq_1
def C.q17_c2 : ICode := .keep [1, 4] (.region C.q17_r11)
def C.q17_c2_w := @awpE _ _ C.q17_c2.eq_1
def C.q17_r13_b : List IOper := [
 X.o 2 (.move (X.i 3))]
def C.q17_r13 : List IOper := C.q17_r13_b
def C.q17_r13_w := @aopsE _ _ C.q17_r13.eq_1
def C.q17_c3 : ICode := .seq (.region C.q17_r13) .ret
def C.q17_c3_w := @awpE _ _ C.q17_c3.eq_1
def C.q17_c4 : ICode := .keep [1, 4, 32] (.cond (X.s 32) C.q17_c3 .skip)
def C.q17_c4_w := @awpE _ _ C.q17_c4.eq_1
def C.q17_r12_b : List IOper := [
 X.o 25 (.fldAddr 2 (X.s 1)),
 X.o 26 (.load1 (X.s 25)),
 X.m 27 4,
 X.o 28 (.idxAddr 1 (X.s 26) (X.s 27)),
 X.o 29 (.fldAddr 0 (X.s 28)),
 X.o 30 (.load1 (X.s 29)),
 X.o 31 (.call F.q27 [X.s 30, X.i 0, X.i 20]),
 X.o 32 (.un .not (X.s 31))]
def C.q17_r12 : List IOper := C.q17_r12_b
def C.q17_r12_w := @aopsE _ _ C.q17_r12.eq_1
def C.q17_b5 : ICode := .seq (.region C.q17_r12) C.q17_c4
def C.q17_b5_w := @awpE _ _ C.q17_b5.eq_1
def C.q17_c6 : ICode := .keep [1, 4] (.seq (.block 1 C.q17_b5) C.q17_c2)
def C.q17_c6_w := @awpE _ _ C.q17_c6.eq_1
def C.q17_c7 : ICode := .keep [1, 4, 22] (.cond (X.s 22) .skip (.exit 0))
def C.q17_c7_w := @awpE _ _ C.q17_c7.eq_1
def C.q17_r10_b : List IOper := [
 X.m 18 4,
 X.o 19 (.fldAddr 2 (X.s 1)),
 X.o 20 (.load1 (X.s 19)),
 X.o 21 (.len (X.s 20)),
 X.o 22 (.bin .lss (X.s 18) (X.s 21))]
def C.q17_r10 : List IOper := C.q17_r10_b
def C.q17_r10_w := @aopsE _ _ C.q17_r10.eq_1
def C.q17_l8 : ICode := .keep [1, 4] (.seq (.seq (.region C.q17_r10) C.q17_c7) C.q17_c6)
def C.q17_l8_w := @awpE _ _ C.q17_l8.eq_1
def C.q17_b9 : ICode := .loop C.q17_l8
def C.q17_b9_w := @awpE _ _ C.q17_b9.eq_1
def C.q17_c10 : ICode := .keep [1, 4] (.block 0 C.q17_b9)
def C.q17_c10_w := @awpE _ _ C.q17_c10.eq_1
def C.q17_r9_b : List IOper := [
 X.o 4 (.move (X.i 0))]
def C.q17_r9 : List IOper := C.q17_r9_b
def C.q17_r9_w := @aopsE _ _ C.q17_r9.eq_1
def C.q17_c11 : ICode := .keep [1] (.seq (.seq (.region C.q17_r9) C.q17_c10) C.q17_c1)
def C.q17_c11_w := @awpE _ _ C.q17_c11.eq_1
def C.q17_r8_b : List IOper := [
 X.m 17 3,
 X.m 2 17]
def C.q17_r8 : List IOper := C.q17_r8_b
def C.q17_r8_w := @aopsE _ _ C.q17_r8.eq_1
def C.q17_c12 : ICode := .seq (.region C.q17_r8) .ret
def C.q17_c12_w := @awpE _ _ C.q17_c12.eq_1
def C.q17_c13 : ICode := .keep [1, 3, 16] (.cond (X.s 16) C.q17_c12 .skip)
def C.q17_c13_w := @awpE _ _ C.q17_c13.eq_1
def C.q17_r7_b : List IOper := [
 X.m 15 3,
 X.o 16 (.bin .neq (X.s 15) (X.i 0))]
def C.q17_r7 : List IOper := C.q17_r7_b
def C.q17_r7_w := @aopsE _ _ C.q17_r7.eq_1
def C.q17_c14 : ICode := .keep [1, 3] (.seq (.seq (.region C.q17_r7) C.q17_c13) C.q17_c11)
def C.q17_c14_w := @awpE _ _ C.q17_c14.eq_1
def C.q17_r6_b : List IOper := [
 X.o 13 (.loadN 4 (X.s 1)),
 X.o 14 (.call F.q25 [X.s 13]),
 X.m 3 14]
def C.q17_r6 : List IOper := C.q17_r6_b
def C.q17_r6_w := @aopsE _ _ C.q17_r6.eq_1
def C.q17_c15 : ICode := .keep [1] (.seq (.region C.q17_r6) C.q17_c14)
def C.q17_c15_w := @awpE _ _ C.q17_c15.eq_1
def C.q17_r5_b : List IOper := [
 X.m 12 3,
 X.m 2 12]
def C.q17_r5 : List IOper := C.q17_r5_b
def C.q17_r5_w := @aopsE _ _ C.q17_r5.eq_1
def C.q17_c16 : ICode := .seq (.region C.q17_r5) .ret
def C.q17_c16_w := @awpE _ _ C.q17_c16.eq_1
def C.q17_c17 : ICode := .keep [1, 3, 11] (.cond (X.s 11) C.q17_c16 .skip)
def C.q17_c17_w := @awpE _ _ C.q17_c17.eq_1
def C.q17_r4_b : List IOper := [
 X.m 10 3,
 X.o 11 (.bin .neq (X.s 10) (X.i 0))]
def C.q17_r4 : List IOper := C.q17_r4_b
def C.q17_r4_w := @aopsE _ _ C.q17_r4.eq_1
def C.q17_c18 : ICode := .keep [1, 3] (.seq (.seq (.region C.q17_r4) C.q17_c17) C.q17_c15)
def C.q17_c18_w := @awpE _ _ C.q17_c18.eq_1
def C.q17_r3_b : List IOper := [
 X.o 8 (.loadN 4 (X.s 1)),
 X.o 9 (.call F.q22 [X.s 8]),
 X.m 3 9]
def C.q17_r3 : List IOper := C.q17_r3_b
def C.q17_r3_w := @aopsE _ _ C.q17_r3.eq_1
def C.q17_c19 : ICode := .keep [1] (.seq (.region C.q17_r3) C.q17_c18)
def C.q17_c19_w := @awpE _ _ C.q17_c19.eq_1
def C.q17_r2_b : List IOper := [
 X.o 2 (.move (X.i 8))]
def C.q17_r2 : List IOper := C.q17_r2_b
def C.q17_r2_w := @aopsE _ _ C.q17_r2.eq_1
def C.q17_c20 : ICode := .seq (.region C.q17_r2) .ret
def C.q17_c20_w := @awpE _ _ C.q17_c20.eq_1
def C.q17_c21 : ICode := .keep [1, 7] (.cond (X.s 7) C.q17_c20 .skip)
def C.q17_c21_w := @awpE _ _ C.q17_c21.eq_1
def C.q17_r1_b : List IOper := [
 X.o 5 (.loadN 4 (X.s 1)),
 X.o 6 (.call F.q23 [X.s 5]),
 X.o 7 (.un .not (X.s 6))]
def C.q17_r1 : List IOper := C.q17_r1_b
def C.q17_r1_w := @aopsE _ _ C.q17_r1.eq_1
def C.q17_c22 : ICode := .keep [1] (.seq (.seq (.region C.q17_r1) C.q17_c21) C.q17_c19)
def C.q17_c22_w := @awpE _ _ C.q17_c22.eq_1
def C.q17_r0_b : List IOper := [
 X.o 1 (.boxN (X.s 0)),
 X.o 2 (.move (X.i 0))]
def C.q17_r0 : List IOper := C.q17_r0_b
def C.q17_r0_w := @aopsE _ _ C.q17_r0.eq_1
def C.q17 : IFunc := ⟨1, [.slot 2], .seq (.region C.q17_r0) C.q17_c22⟩
def C.q17_W := And.intro (And.intro (And.intro (And.intro (And.intro @C.q17_r14_w @C.q17_c1_w) (And.intro @C.q17_r11_w @C.q17_c2_w)) (And.intro (And.intro @C.q17_r13_w @C.q17_c3_w) (And.intro @C.q17_c4_w (And.intro @C.q17_r12_w @C.q17_b5_w)))) (And.intro (And.intro (And.intro @C.q17_c6_w @C.q17_c7_w) (And.intro @C.q17_r10_w @C.q17_b9_w)) (And.intro (And.intro @C.q17_c10_w @C.q17_r9_w) (And.intro @C.q17_c11_w (And.intro @C.q17_r8_w @C.q17_c12_w))))) (And.intro (And.intro (And.intro (And.intro @C.q17_c13_w @C.q17_r7_w) (And.intro @C.q17_c14_w @C.q17_r6_w)) (And.intro (And.intro @C.q17_c15_w @C.q17_r5_w) (And.intro @C.q17_c16_w (And.intro @C.q17_c17_w @C.q17_r4_w)))) (And.intro (And.intro (And.intro @C.q17_c18_w @C.q17_r3_w) (And.intro @C.q17_c19_w @C.q17_r2_w)) (And.intro (And.intro @C.q17_c20_w @C.q17_c21_w) (And.intro @C.q17_r1_w (And.intro @C.q17_c22_w @C.q17_r0_w)))))
def C.q17_B := And.intro (And.intro (And.intro @C.q17_r14_b.eq_1 (And.intro @C.q17_r11_b.eq_1 @C.q17_r13_b.eq_1)) (And.intro (And.intro @C.q17_r12_b.eq_1 @C.q17_r10_b.eq_1) (And.intro @C.q17_r9_b.eq_1 @C.q17_r8_b.eq_1))) (And.intro (And.intro (And.intro @C.q17_r7_b.eq_1 @C.q17_r6_b.eq_1) (And.intro @C.q17_r5_b.eq_1 @C.q17_r4_b.eq_1)) (And.intro (And.intro @C.q17_r3_b.eq_1 @C.q17_r2_b.eq_1) (And.intro @C.q17_r1_b.eq_1 @C.q17_r0_b.eq_1)))

def C.q20_r6_b : List IOper := [
 X.m 23 3,
 X.m 2 23]
def C.q20_r6 : List IOper := C.q20_r6_b
def C.q20_r6_w := @aopsE _ _ C.q20_r6.eq_1
def C.q20_c1 : ICode := .keep [3] (.seq (.region C.q20_r6) .ret)
def C.q20_c1_w := @awpE _ _ C.q20_c1.eq_1
def C.q20_r4_b : List IOper := [
 X.m 10 4,
 X.o 11 (.bin .add (X.s 10) (X.i 1)),
 X.m 4 11]
def C.q20_r4 : List IOper := C.q20_r4_b
def C.q20_r4_w := @aopsE _ _ C.q20_r4.eq_1
def C.q20_c2 : ICode := .keep [1, 3, 4] (.region C.q20_r4)
def C.q20_c2_w := @awpE _ _ C.q20_c2.eq_1
def C.q20_r5_b : List IOper := [
 X.m 12 3,
 X.o 13 (.buildSlice 1 0 [.int .i64 0] []),
 X.o 14 (.fldAddr 3 (X.s 1)),
 X.o 15 (.load1 (X.s 14)),
 X.m 16 4,
 X.o 17 (.idxAddr 6 (X.s 15) (X.s 16)),
 X.o 18 (.fldAddr 5 (X.s 17)),
 X.o 19 (.load1 (X.s 18)),
 X.o 20 (.append 1 8 (X.s 13) (X.s 19)),
 X.o 21 (.buildSlice 1 1 [.nils] [(0, 1, X.s 20)]),
 X.o 22 (.append 1 24 (X.s 12) (X.s 21)),
 X.m 3 22]
def C.q20_r5 : List IOper := C.q20_r5_b
def C.q20_r5_w := @aopsE _ _ C.q20_r5.eq_1
def C.q20_b3 : ICode := .region C.q20_r5
def C.q20_b3_w := @awpE _ _ C.q20_b3.eq_1
def C.q20_c4 : ICode := .keep [1, 3, 4] (.seq (.block 1 C.q20_b3) C.q20_c2)
def C.q20_c4_w := @awpE _ _ C.q20_c4.eq_1
def C.q20_c5 : ICode := .keep [1, 3, 4, 9] (.cond (X.s 9) .skip (.exit 0))
def C.q20_c5_w := @awpE _ _ C.q20_c5.eq_1
def C.q20_r3_b : List IOper := [
 X.m 5 4,
 X.o 6 (.fldAddr 3 (X.s 1)),
 X.o 7 (.load1 (X.s 6)),
 X.o 8 (.len (X.s 7)),
 X.o 9 (.bin .lss (X.s 5) (X.s 8))]
def C.q20_r3 : List IOper := C.q20_r3_b
def C.q20_r3_w := @aopsE _ _ C.q20_r3.eq_1
def C.q20_l6 : ICode := .keep [1, 3, 4] (.seq (.seq (.region C.q20_r3) C.q20_c5) C.q20_c4)
def C.q20_l6_w := @awpE _ _ C.q20_l6.eq_1
def C.q20_b7 : ICode := .loop C.q20_l6
def C.q20_b7_w := @awpE _ _ C.q20_b7.eq_1
def C.q20_c8 : ICode := .keep [1, 3, 4] (.block 0 C.q20_b7)
def C.q20_c8_w := @awpE _ _ C.q20_c8.eq_1
def C.q20_r2_b : List IOper := [
 X.o 4 (.move (X.i 0))]
def C.q20_r2 : List IOper := C.q20_r2_b
def C.q20_r2_w := @aopsE _ _ C.q20_r2.eq_1
def C.q20_c9 : ICode := .keep [1, 3] (.seq (.seq (.region C.q20_r2) C.q20_c8) C.q20_c1)
def C.q20_c9_w := @awpE _ _ C.q20_c9.eq_1
def C.q20_r1_b : List IOper := [
 X.o 3 (.move (.cst (.nils)))]
def C.q20_r1 : List IOper := C.q20_r1_b
def C.q20_r1_w := @aopsE _ _ C.q20_r1.eq_1
def C.q20_c10 : ICode := .keep [1] (.seq (.region C.q20_r1) C.q20_c9)
def C.q20_c10_w := @awpE _ _ C.q20_c10.eq_1
def C.q20_r0_b : List IOper := [
 X.o 1 (.boxN (X.s 0)),
 X.o 2 (.move (.cst (.nils)))]
def C.q20_r0 : List IOper := C.q20_r0_b
def C.q20_r0_w := @aopsE _ _ C.q20_r0.eq_1
def C.q20 : IFunc := ⟨1, [.slot 2], .seq (.region C.q20_r0) C.q20_c10⟩
def C.q20_W := And.intro (And.intro (And.intro (And.intro @C.q20_r6_w @C.q20_c1_w) (And.intro @C.q20_r4_w @C.q20_c2_w)) (And.intro (And.intro @C.q20_r5_w @C.q20_b3_w) (And.intro @C.q20_c4_w @C.q20_c5_w))) (And.intro (And.intro (And.intro @C.q20_r3_w @C.q20_b7_w) (And.intro @C.q20_c8_w @C.q20_r2_w)) (And.intro (And.intro @C.q20_c9_w @C.q20_r1_w) (And.intro @C.q20_c10_w @C.q20_r0_w)))
def C.q20_B := And.intro (And.intro @C.q20_r6_b.eq_1 (And.intro @C.q20_r4_b.eq_1 @C.q20_r5_b.eq_1)) (And.intro (And.intro @C.q20_r3_b.eq_1 @C.q20_r2_b.eq_1) (And.intro @C.q20_r1_b.eq_1 @C.q20_r0_b.eq_1))

def C.q10_r8_b : List IOper := [
 X.o 4 (.move (X.i 0))]
def C.q10_r8 : List IOper := C.q10_r8_b
def C.q10_r8_w := @aopsE _ _ C.q10_r8.eq_1
def C.q10_c1 : ICode := .keep [] (.seq (.region C.q10_r8) .ret)
def C.q10_c1_w := @awpE _ _ C.q10_c1.eq_1
def C.q10_r7_b : List IOper := [
 X.m 28 0,
 X.o 29 (.nilchk (X.s 28)),
 X.o 30 (.fldAddr 1 (X.s 29)),
 X.o 31 (.load1 (X.s 30)),
 X.m 32 1,
 X.o 33 (.idxAddr 1 (X.s 31) (X.s 32)),
 X.o 34 (.load1 (X.s 33)),
 X.o 35 (.bin .add (X.s 34) (X.i 1)),
 X.o 36 (.idxAddr 1 (X.s 31) (X.s 32)),
 X.n (.store1 (X.s 36) (X.s 35))]
def C.q10_r7 : List IOper := C.q10_r7_b
def C.q10_r7_w := @aopsE _ _ C.q10_r7.eq_1
def C.q10_c2 : ICode := .keep [0, 1] (.seq (.region C.q10_r7) C.q10_c1)
def C.q10_c2_w := @awpE _ _ C.q10_c2.eq_1
def C.q10_r6_b : List IOper := [
 X.o 4 (.move (X.i 8))]
def C.q10_r6 : List IOper := C.q10_r6_b
def C.q10_r6_w := @aopsE _ _ C.q10_r6.eq_1
def C.q10_c3 : ICode := .seq (.region C.q10_r6) .ret
def C.q10_c3_w := @awpE _ _ C.q10_c3.eq_1
def C.q10_c4 : ICode := .keep [0, 1, 27] (.cond (X.s 27) C.q10_c3 .skip)
def C.q10_c4_w := @awpE _ _ C.q10_c4.eq_1
def C.q10_r5_b : List IOper := [
 X.m 20 0,
 X.o 21 (.nilchk (X.s 20)),
 X.o 22 (.fldAddr 1 (X.s 21)),
 X.o 23 (.load1 (X.s 22)),
 X.m 24 1,
 X.o 25 (.idxAddr 1 (X.s 23) (X.s 24)),
 X.o 26 (.load1 (X.s 25)),
 X.o 27 (.bin .geq (X.s 26) (X.i 7))]
def C.q10_r5 : List IOper := C.q10_r5_b
def C.q10_r5_w := @aopsE _ _ C.q10_r5.eq_1
def C.q10_c5 : ICode := .keep [0, 1] (.seq (.seq (.region C.q10_r5) C.q10_c4) C.q10_c2)
def C.q10_c5_w := @awpE _ _ C.q10_c5.eq_1
def C.q10_r4_b : List IOper := [
 X.o 4 (.move (X.i 4))]
def C.q10_r4 : List IOper := C.q10_r4_b
def C.q10_r4_w := @aopsE _ _ C.q10_r4.eq_1
def C.q10_c6 : ICode := .seq (.region C.q10_r4) .ret
def C.q10_c6_w := @awpE _ _ C.q10_c6.eq_1
def C.q10_c7 : ICode := .keep [0, 1, 19] (.cond (X.s 19) C.q10_c6 .skip)
def C.q10_c7_w := @awpE _ _ C.q10_c7.eq_1
def C.q10_r3_b : List IOper := [
 X.m 9 1,
 X.o 10 (.bin .lss (X.s 9) (X.i 0)),
 X.m 11 10,
 X.f 11 12 (.move (X.s 1)),
 X.f 11 13 (.move (X.s 0)),
 X.f 11 14 (.nilchk (X.s 13)),
 X.f 11 15 (.fldAddr 1 (X.s 14)),
 X.f 11 16 (.load1 (X.s 15)),
 X.f 11 17 (.len (X.s 16)),
 X.f 11 18 (.bin .geq (X.s 12) (X.s 17)),
 X.o 19 (.pick (X.s 11) (.cst (.bool true)) (X.s 18))]
def C.q10_r3 : List IOper := C.q10_r3_b
def C.q10_r3_w := @aopsE _ _ C.q10_r3.eq_1
def C.q10_c8 : ICode := .keep [0, 1] (.seq (.seq (.region C.q10_r3) C.q10_c7) C.q10_c5)
def C.q10_c8_w := @awpE _ _ C.q10_c8.eq_1
def C.q10_r2_b : List IOper := [
 X.o 4 (.move (X.i 6))]
def C.q10_r2 : List IOper := C.q10_r2_b
def C.q10_r2_w := @aopsE _ _ C.q10_r2.eq_1
def C.q10_c9 : ICode := .seq (.region C.q10_r2) .ret
def C.q10_c9_w := @awpE _ _ C.q10_c9.eq_1
def C.q10_c10 : ICode := .keep [0, 1, 8] (.cond (X.s 8) C.q10_c9 .skip)
def C.q10_c10_w := @awpE _ _ C.q10_c10.eq_1
def C.q10_r1_b : List IOper := [
 X.m 5 0,
 X.o 6 (.nilchk (X.s 5)),
 X.o 7 (.fldAddr 2 (X.s 6)),
 X.o 8 (.load1 (X.s 7))]
def C.q10_r1 : List IOper := C.q10_r1_b
def C.q10_r1_w := @aopsE _ _ C.q10_r1.eq_1
def C.q10_c11 : ICode := .keep [0, 1] (.seq (.seq (.region C.q10_r1) C.q10_c10) C.q10_c8)
def C.q10_c11_w := @awpE _ _ C.q10_c11.eq_1
def C.q10_r0_b : List IOper := [
 X.o 4 (.move (X.i 0))]
def C.q10_r0 : List IOper := C.q10_r0_b
def C.q10_r0_w := @aopsE _ _ C.q10_r0.eq_1
def C.q10 : IFunc := ⟨2, [.slot 4], .seq (.region C.q10_r0) C.q10_c11⟩
def C.q10_W := And.intro (And.intro (And.intro (And.intro @C.q10_r8_w @C.q10_c1_w) (And.intro @C.q10_r7_w (And.intro @C.q10_c2_w @C.q10_r6_w))) (And.intro (And.intro @C.q10_c3_w @C.q10_c4_w) (And.intro @C.q10_r5_w (And.intro @C.q10_c5_w @C.q10_r4_w)))) (And.intro (And.intro (And.intro @C.q10_c6_w @C.q10_c7_w) (And.intro @C.q10_r3_w (And.intro @C.q10_c8_w @C.q10_r2_w))) (And.intro (And.intro @C.q10_c9_w @C.q10_c10_w) (And.intro @C.q10_r1_w (And.intro @C.q10_c11_w @C.q10_r0_w))))
def C.q10_B := And.intro (And.intro (And.intro @C.q10_r8_b.eq_1 @C.q10_r7_b.eq_1) (And.intro @C.q10_r6_b.eq_1 @C.q10_r5_b.eq_1)) (And.intro (And.intro @C.q10_r4_b.eq_1 @C.q10_r3_b.eq_1) (And.intro @C.q10_r2_b.eq_1 (And.intro @C.q10_r1_b.eq_1 @C.q10_r0_b.eq_1)))

def C.q11_r8_b : List IOper := [
 X.o 4 (.move (X.i 0))]
def C.q11_r8 : List IOper := C.q11_r8_b
def C.q11_r8_w := @aopsE _ _ C.q11_r8.eq_1
def C.q11_c1 : ICode := .keep [] (.seq (.region C.q11_r8) .ret)
def C.q11_c1_w := @awpE _ _ C.q11_c1.eq_1
def C.q11_r7_b : List IOper := [
 X.m 28 0,
 X.o 29 (.nilchk (X.s 28)),
 X.o 30 (.fldAddr 1 (X.s 29)),
 X.o 31 (.load1 (X.s 30)),
 X.m 32 1,
 X.o 33 (.idxAddr 1 (X.s 31) (X.s 32)),
 X.o 34 (.load1 (X.s 33)),
 X.o 35 (.bin .sub (X.s 34) (X.i 1)),
 X.o 36 (.idxAddr 1 (X.s 31) (X.s 32)),
 X.n (.store1 (X.s 36) (X.s 35))]
def C.q11_r7 : List IOper := C.q11_r7_b
def C.q11_r7_w := @aopsE _ _ C.q11_r7.eq_1
def C.q11_c2 : ICode := .keep [0, 1] (.seq (.region C.q11_r7) C.q11_c1)
def C.q11_c2_w := @awpE _ _ C.q11_c2.eq_1
def C.q11_r6_b : List IOper := [
 X.o 4 (.move (X.i 6))]
def C.q11_r6 : List IOper := C.q11_r6_b
def C.q11_r6_w := @aopsE _ _ C.q11_r6.eq_1
def C.q11_c3 : ICode := .seq (.region C.q11_r6) .ret
def C.q11_c3_w := @awpE _ _ C.q11_c3.eq_1
def C.q11_c4 : ICode := .keep [0, 1, 27] (.cond (X.s 27) C.q11_c3 .skip)
def C.q11_c4_w := @awpE _ _ C.q11_c4.eq_1
def C.q11_r5_b : List IOper := [
 X.m 20 0,
 X.o 21 (.nilchk (X.s 20)),
 X.o 22 (.fldAddr 1 (X.s 21)),
 X.o 23 (.load1 (X.s 22)),
 X.m 24 1,
 X.o 25 (.idxAddr 1 (X.s 23) (X.s 24)),
 X.o 26 (.load1 (X.s 25)),
 X.o 27 (.bin .eql (X.s 26) (X.i 0))]
def C.q11_r5 : List IOper := C.q11_r5_b
def C.q11_r5_w := @aopsE _ _ C.q11_r5.eq_1
def C.q11_c5 : ICode := .keep [0, 1] (.seq (.seq (.region C.q11_r5) C.q11_c4) C.q11_c2)
def C.q11_c5_w := @awpE _ _ C.q11_c5.eq_1
def C.q11_r4_b : List IOper := [
 X.o 4 (.move (X.i 4))]
def C.q11_r4 : List IOper := C.q11_r4_b
def C.q11_r4_w := @aopsE _ _ C.q11_r4.eq_1
def C.q11_c6 : ICode := .seq (.region C.q11_r4) .ret
def C.q11_c6_w := @awpE _ _ C.q11_c6.eq_1
def C.q11_c7 : ICode := .keep [0, 1, 19] (.cond (X.s 19) C.q11_c6 .skip)
def C.q11_c7_w := @awpE _ _ C.q11_c7.eq_1
def C.q11_r3_b : List IOper := [
 X.m 9 1,
 X.o 10 (.bin .lss (X.s 9) (X.i 0)),
 X.m 11 10,
 X.f 11 12 (.move (X.s 1)),
 X.f 11 13 (.move (X.s 0)),
 X.f 11 14 (.nilchk (X.s 13)),
 X.f 11 15 (.fldAddr 1 (X.s 14)),
 X.f 11 16 (.load1 (X.s 15)),
 X.f 11 17 (.len (X.s 16)),
 X.f 11 18 (.bin .geq (X.s 12) (X.s 17)),
 X.o 19 (.pick (X.s 11) (.cst (.bool true)) (X.s 18))]
def C.q11_r3 : List IOper := C.q11_r3_b
def C.q11_r3_w := @aopsE _ _ C.q11_r3.eq_1
def C.q11_c8 : ICode := .keep [0, 1] (.seq (.seq (.region C.q11_r3) C.q11_c7) C.q11_c5)
def C.q11_c8_w := @awpE _ _ C.q11_c8.eq_1
def C.q11_r2_b : List IOper := [
 X.o 4 (.move (X.i 6))]
def C.q11_r2 : List IOper := C.q11_r2_b
def C.q11_r2_w := @aopsE _ _ C.q11_r2.eq_1
def C.q11_c9 : ICode := .seq (.region C.q11_r2) .ret
def C.q11_c9_w := @awpE _ _ C.q11_c9.eq_1
def C.q11_c10 : ICode := .keep [0, 1, 8] (.cond (X.s 8) C.q11_c9 .skip)
def C.q11_c10_w := @awpE _ _ C.q11_c10.eq_1
def C.q11_r1_b : List IOper := [
 X.m 5 0,
 X.o 6 (.nilchk (X.s 5)),
 X.o 7 (.fldAddr 2 (X.s 6)),
 X.o 8 (.load1 (X.s 7))]
def C.q11_r1 : List IOper := C.q11_r1_b
def C.q11_r1_w := @aopsE _ _ C.q11_r1.eq_1
def C.q11_c11 : ICode := .keep [0, 1] (.seq (.seq (.region C.q11_r1) C.q11_c10) C.q11_c8)
def C.q11_c11_w := @awpE _ _ C.q11_c11.eq_1
def C.q11_r0_b : List IOper := [
 X.o 4 (.move (X.i 0))]
def C.q11_r0 : List IOper := C.q11_r0_b
def C.q11_r0_w := @aopsE _ _ C.q11_r0.eq_1
def C.q11 : IFunc := ⟨2, [.slot 4], .seq (.region C.q11_r0) C.q11_c11⟩
def C.q11_W := And.intro (And.intro (And.intro (And.intro @C.q11_r8_w @C.q11_c1_w) (And.intro @C.q11_r7_w (And.intro @C.q11_c2_w @C.q11_r6_w))) (And.intro (And.intro @C.q11_c3_w @C.q11_c4_w) (And.intro @C.q11_r5_w (And.intro @C.q11_c5_w @C.q11_r4_w)))) (And.intro (And.intro (And.intro @C.q11_c6_w @C.q11_c7_w) (And.intro @C.q11_r3_w (And.intro @C.q11_c8_w @C.q11_r2_w))) (And.intro (And.intro @C.q11_c9_w @C.q11_c10_w) (And.intro @C.q11_r1_w (And.intro @C.q11_c11_w @C.q11_r0_w))))
def C.q11_B := And.intro (And.intro (And.intro @C.q11_r8_b.eq_1 @C.q11_r7_b.eq_1) (And.intro @C.q11_r6_b.eq_1 @C.q11_r5_b.eq_1)) (And.intro (And.intro @C.q11_r4_b.eq_1 @C.q11_r3_b.eq_1) (And.intro @C.q11_r2_b.eq_1 (And.intro @C.q11_r1_b.eq_1 @C.q11_r0_b.eq_1)))

def C.q13_r4_b : List IOper := [
 X.o 2 (.move (X.i 0))]
def C.q13_r4 : List IOper := C.q13_r4_b
def C.q13_r4_w := @aopsE _ _ C.q13_r4.eq_1
def C.q13_c1 : ICode := .keep [] (.seq (.region C.q13_r4) .ret)
def C.q13_c1_w := @awpE _ _ C.q13_c1.eq_1
def C.q13_r3_b : List IOper := [
 X.m 7 0,
 X.o 8 (.nilchk (X.s 7)),
 X.o 9 (.fldAddr 2 (X.s 8)),
 X.n (.store1 (X.s 9) (.cst (.bool true)))]
def C.q13_r3 : List IOper := C.q13_r3_b
def C.q13_r3_w := @aopsE _ _ C.q13_r3.eq_1
def C.q13_c2 : ICode := .keep [0] (.seq (.region C.q13_r3) C.q13_c1)
def C.q13_c2_w := @awpE _ _ C.q13_c2.eq_1
def C.q13_r2_b : List IOper := [
 X.o 2 (.move (X.i 6))]
def C.q13_r2 : List IOper := C.q13_r2_b
def C.q13_r2_w := @aopsE _ _ C.q13_r2.eq_1
def C.q13_c3 : ICode := .seq (.region C.q13_r2) .ret
def C.q13_c3_w := @awpE _ _ C.q13_c3.eq_1
def C.q13_c4 : ICode := .keep [0, 6] (.cond (X.s 6) C.q13_c3 .skip)
def C.q13_c4_w := @awpE _ _ C.q13_c4.eq_1
def C.q13_r1_b : List IOper := [
 X.m 3 0,
 X.o 4 (.nilchk (X.s 3)),
 X.o 5 (.fldAddr 2 (X.s 4)),
 X.o 6 (.load1 (X.s 5))]
def C.q13_r1 : List IOper := C.q13_r1_b
def C.q13_r1_w := @aopsE _ _ C.q13_r1.eq_1
def C.q13_c5 : ICode := .keep [0] (.seq (.seq (.region C.q13_r1) C.q13_c4) C.q13_c2)
def C.q13_c5_w := @awpE _ _ C.q13_c5.eq_1
def C.q13_r0_b : List IOper := [
 X.o 2 (.move (X.i 0))]
def C.q13_r0 : List IOper := C.q13_r0_b
def C.q13_r0_w := @aopsE _ _ C.q13_r0.eq_1
def C.q13 : IFunc := ⟨1, [.slot 2], .seq (.region C.q13_r0) C.q13_c5⟩
def C.q13_W := And.intro (And.intro (And.intro @C.q13_r4_w @C.q13_c1_w) (And.intro @C.q13_r3_w (And.intro @C.q13_c2_w @C.q13_r2_w))) (And.intro (And.intro @C.q13_c3_w @C.q13_c4_w) (And.intro @C.q13_r1_w (And.intro @C.q13_c5_w @C.q13_r0_w)))
def C.q13_B := And.intro (And.intro @C.q13_r4_b.eq_1 @C.q13_r3_b.eq_1) (And.intro @C.q13_r2_b.eq_1 (And.intro @C.q13_r1_b.eq_1 @C.q13_r0_b.eq_1))

def C.q12_r4_b : List IOper := [
 X.o 2 (.move (X.i 0))]
def C.q12_r4 : List IOper := C.q12_r4_b
def C.q12_r4_w := @aopsE _ _ C.q12_r4.eq_1
def C.q12_c1 : ICode := .keep [] (.seq (.region C.q12_r4) .ret)
def C.q12_c1_w := @awpE _ _ C.q12_c1.eq_1
def C.q12_r3_b : List IOper := [
 X.m 8 0,
 X.o 9 (.nilchk (X.s 8)),
 X.o 10 (.fldAddr 2 (X.s 9)),
 X.n (.store1 (X.s 10) (.cst (.bool false)))]
def C.q12_r3 : List IOper := C.q12_r3_b
def C.q12_r3_w := @aopsE _ _ C.q12_r3.eq_1
def C.q12_c2 : ICode := .keep [0] (.seq (.region C.q12_r3) C.q12_c1)
def C.q12_c2_w := @awpE _ _ C.q12_c2.eq_1
def C.q12_r2_b : List IOper := [
 X.o 2 (.move (X.i 6))]
def C.q12_r2 : List IOper := C.q12_r2_b
def C.q12_r2_w := @aopsE _ _ C.q12_r2.eq_1
def C.q12_c3 : ICode := .seq (.region C.q12_r2) .ret
def C.q12_c3_w := @awpE _ _ C.q12_c3.eq_1
def C.q12_c4 : ICode := .keep [0, 7] (.cond (X.s 7) C.q12_c3 .skip)
def C.q12_c4_w := @awpE _ _ C.q12_c4.eq_1
def C.q12_r1_b : List IOper := [
 X.m 3 0,
 X.o 4 (.nilchk (X.s 3)),
 X.o 5 (.fldAddr 2 (X.s 4)),
 X.o 6 (.load1 (X.s 5)),
 X.o 7 (.un .not (X.s 6))]
def C.q12_r1 : List IOper := C.q12_r1_b
def C.q12_r1_w := @aopsE _ _ C.q12_r1.eq_1
def C.q12_c5 : ICode := .keep [0] (.seq (.seq (.region C.q12_r1) C.q12_c4) C.q12_c2)
def C.q12_c5_w := @awpE _ _ C.q12_c5.eq_1
def C.q12_r0_b : List IOper := [
 X.o 2 (.move (X.i 0))]
def C.q12_r0 : List IOper := C.q12_r0_b
def C.q12_r0_w := @aopsE _ _ C.q12_r0.eq_1
def C.q12 : IFunc := ⟨1, [.slot 2], .seq (.region C.q12_r0) C.q12_c5⟩
def C.q12_W := And.intro (And.intro (And.intro @C.q12_r4_w @C.q12_c1_w) (And.intro @C.q12_r3_w (And.intro @C.q12_c2_w @C.q12_r2_w))) (And.intro (And.intro @C.q12_c3_w @C.q12_c4_w) (And.intro @C.q12_r1_w (And.intro @C.q12_c5_w @C.q12_r0_w)))
def C.q12_B := And.intro (And.intro @C.q12_r4_b.eq_1 @C.q12_r3_b.eq_1) (And.intro @C.q12_r2_b.eq_1 (And.intro @C.q12_r1_b.eq_1 @C.q12_r0_b.eq_1))

def C.q67_r1_b : List IOper := [
 X.m 3 0,
 X.o 4 (.append 1 8 (.cst (.nils)) (X.s 3)),
 X.m 2 4]
def C.q67_r1 : List IOper := C.q67_r1_b
def C.q67_r1_w := @aopsE _ _ C.q67_r1.eq_1
def C.q67_c1 : ICode := .keep [0] (.seq (.region C.q67_r1) .ret)
def C.q67_c1_w := @awpE _ _ C.q67_c1.eq_1
def C.q67_r0_b : List IOper := [
 X.o 2 (.move (.cst (.nils)))]
def C.q67_r0 : List IOper := C.q67_r0_b
def C.q67_r0_w := @aopsE _ _ C.q67_r0.eq_1
def C.q67 : IFunc := ⟨1, [.slot 2], .seq (.region C.q67_r0) C.q67_c1⟩
def C.q67_W := And.intro @C.q67_r1_w (And.intro @C.q67_c1_w @C.q67_r0_w)
def C.q67_B := And.intro @C.q67_r1_b.eq_1 @C.q67_r0_b.eq_1

def C.q89_r6_b : List IOper := [
 X.m 24 6,
 X.m 4 24,
 X.o 5 (.move (X.i 0))]
def C.q89_r6 : List IOper := C.q89_r6_b
def C.q89_r6_w := @aopsE _ _ C.q89_r6.eq_1
def C.q89_c1 : ICode := .keep [6] (.seq (.region C.q89_r6) .ret)
def C.q89_c1_w := @awpE _ _ C.q89_c1.eq_1
def C.q89_r5_b : List IOper := [
 X.o 4 (.move (.cst (.nils))),
 X.o 5 (.move (X.i 4))]
def C.q89_r5 : List IOper := C.q89_r5_b
def C.q89_r5_w := @aopsE _ _ C.q89_r5.eq_1
def C.q89_c2 : ICode := .seq (.region C.q89_r5) .ret
def C.q89_c2_w := @awpE _ _ C.q89_c2.eq_1
def C.q89_c3 : ICode := .keep [6, 23] (.cond (X.s 23) C.q89_c2 .skip)
def C.q89_c3_w := @awpE _ _ C.q89_c3.eq_1
def C.q89_r4_b : List IOper := [
 X.m 16 1,
 X.o 17 (.bin .lss (X.s 16) (X.i 0)),
 X.m 18 17,
 X.f 18 19 (.move (X.s 1)),
 X.f 18 20 (.move (X.s 0)),
 X.f 18 21 (.len (X.s 20)),
 X.f 18 22 (.bin .geq (X.s 19) (X.s 21)),
 X.o 23 (.pick (X.s 18) (.cst (.bool true)) (X.s 22))]
def C.q89_r4 : List IOper := C.q89_r4_b
def C.q89_r4_w := @aopsE _ _ C.q89_r4.eq_1
def C.q89_c4 : ICode := .keep [0, 1, 6] (.seq (.seq (.region C.q89_r4) C.q89_c3) C.q89_c1)
def C.q89_c4_w := @awpE _ _ C.q89_c4.eq_1
def C.q89_r3_b : List IOper := [
 X.m 15 7,
 X.o 4 (.move (.cst (.nils))),
 X.m 5 15]
def C.q89_r3 : List IOper := C.q89_r3_b
def C.q89_r3_w := @aopsE _ _ C.q89_r3.eq_1
def C.q89_c5 : ICode := .seq (.region C.q89_r3) .ret
def C.q89_c5_w := @awpE _ _ C.q89_c5.eq_1
def C.q89_c6 : ICode := .keep [0, 1, 6, 7, 14] (.cond (X.s 14) C.q89_c5 .skip)
def C.q89_c6_w := @awpE _ _ C.q89_c6.eq_1
def C.q89_r2_b : List IOper := [
 X.m 13 7,
 X.o 14 (.bin .neq (X.s 13) (X.i 0))]
def C.q89_r2 : List IOper := C.q89_r2_b
def C.q89_r2_w := @aopsE _ _ C.q89_r2.eq_1
def C.q89_c7 : ICode := .keep [0, 1, 6, 7] (.seq (.seq (.region C.q89_r2) C.q89_c6) C.q89_c4)
def C.q89_c7_w := @awpE _ _ C.q89_c7.eq_1
def C.q89_r1_b : List IOper := [
 X.m 9 0,
 X.o 10 (.call F.q84 [X.s 9]),
 X.m 8 10,
 X.o 11 (.extract (X.s 8) 0),
 X.o 12 (.extract (X.s 8) 1),
 X.m 6 11,
 X.m 7 12]
def C.q89_r1 : List IOper := C.q89_r1_b
def C.q89_r1_w := @aopsE _ _ C.q89_r1.eq_1
def C.q89_c8 : ICode := .keep [0, 1] (.seq (.region C.q89_r1) C.q89_c7)
def C.q89_c8_w := @awpE _ _ C.q89_c8.eq_1
def C.q89_r0_b : List IOper := [
 X.o 4 (.move (.cst (.nils))),
 X.o 5 (.move (X.i 0))]
def C.q89_r0 : List IOper := C.q89_r0_b
def C.q89_r0_w := @aopsE _ _ C.q89_r0.eq_1
def C.q89 : IFunc := ⟨2, [.slot 4, .slot 5], .seq (.region C.q89_r0) C.q89_c8⟩
def C.q89_W := And.intro (And.intro (And.intro @C.q89_r6_w (And.intro @C.q89_c1_w @C.q89_r5_w)) (And.intro (And.intro @C.q89_c2_w @C.q89_c3_w) (And.intro @C.q89_r4_w @C.q89_c4_w))) (And.intro (And.intro (And.intro @C.q89_r3_w @C.q89_c5_w) (And.intro @C.q89_c6_w @C.q89_r2_w)) (And.intro (And.intro @C.q89_c7_w @C.q89_r1_w) (And.intro @C.q89_c8_w @C.q89_r0_w)))
def C.q89_B := And.intro (And.intro @C.q89_r6_b.eq_1 (And.intro @C.q89_r5_b.eq_1 @C.q89_r4_b.eq_1)) (And.intro (And.intro @C.q89_r3_b.eq_1 @C.q89_r2_b.eq_1) (And.intro @C.q89_r1_b.eq_1 @C.q89_r0_b.eq_1))

def C.q86_r0_b : List IOper := [
 X.m 4 0,
 X.m 5 1,
 X.o 6 (.build [] []),
 X.n (.mapSet (X.s 4) (X.s 5) (X.s 6))]
def C.q86_r0 : List IOper := C.q86_r0_b
def C.q86_r0_w := @aopsE _ _ C.q86_r0.eq_1
def C.q86 : IFunc := ⟨2, [], .region C.q86_r0⟩
def C.q86_W := @C.q86_r0_w
def C.q86_B := @C.q86_r0_b.eq_1

def C.q87_r2_b : List IOper := [
 X.m 13 6,
 X.m 4 13]
def C.q87_r2 : List IOper := C.q87_r2_b
def C.q87_r2_w := @aopsE _ _ C.q87_r2.eq_1
def C.q87_c1 : ICode := .keep [6] (.seq (.region C.q87_r2) .ret)
def C.q87_c1_w := @awpE _ _ C.q87_c1.eq_1
def C.q87_r1_b : List IOper := [
 X.m 8 0,
 X.m 9 1,
 X.o 10 (.lookup (.agg []) true (X.s 8) (X.s 9)),
 X.m 7 10,
 X.o 11 (.extract (X.s 7) 0),
 X.o 12 (.extract (X.s 7) 1),
 X.o 5 (.alloc []),
 X.n (.storeN 0 (X.s 5) (X.s 11)),
 X.m 6 12]
def C.q87_r1 : List IOper := C.q87_r1_b
def C.q87_r1_w := @aopsE _ _ C.q87_r1.eq_1
def C.q87_c2 : ICode := .keep [0, 1] (.seq (.region C.q87_r1) C.q87_c1)
def C.q87_c2_w := @awpE _ _ C.q87_c2.eq_1
def C.q87_r0_b : List IOper := [
 X.o 4 (.move (.cst (.bool false)))]
def C.q87_r0 : List IOper := C.q87_r0_b
def C.q87_r0_w := @aopsE _ _ C.q87_r0.eq_1
def C.q87 : IFunc := ⟨2, [.slot 4], .seq (.region C.q87_r0) C.q87_c2⟩
def C.q87_W := And.intro (And.intro @C.q87_r2_w @C.q87_c1_w) (And.intro @C.q87_r1_w (And.intro @C.q87_c2_w @C.q87_r0_w))
def C.q87_B := And.intro @C.q87_r2_b.eq_1 (And.intro @C.q87_r1_b.eq_1 @C.q87_r0_b.eq_1)

def C.q90_r8_b : List IOper := [
 X.m 29 7,
 X.m 6 29]
def C.q90_r8 : List IOper := C.q90_r8_b
def C.q90_r8_w := @aopsE _ _ C.q90_r8.eq_1
def C.q90_c1 : ICode := .keep [7] (.seq (.region C.q90_r8) .ret)
def C.q90_c1_w := @awpE _ _ C.q90_c1.eq_1
def C.q90_r7_b : List IOper := [
 X.o 28 (.bin .add (X.s 12) (X.i 1)),
 X.m 12 28]
def C.q90_r7 : List IOper := C.q90_r7_b
def C.q90_r7_w := @aopsE _ _ C.q90_r7.eq_1
def C.q90_c2 : ICode := .keep [1, 2, 7, 10, 11, 12] (.region C.q90_r7)
def C.q90_c2_w := @awpE _ _ C.q90_c2.eq_1
def C.q90_r6_b : List IOper := [
 X.m 24 7,
 X.m 25 9,
 X.o 26 (.buildSlice 1 1 [.int .i64 0] [(0, 1, X.s 25)]),
 X.o 27 (.append 1 8 (X.s 24) (X.s 26)),
 X.m 7 27]
def C.q90_r6 : List IOper := C.q90_r6_b
def C.q90_r6_w := @aopsE _ _ C.q90_r6.eq_1
def C.q90_c3 : ICode := .keep [1, 2, 7, 9, 10, 11, 12, 23] (.cond (X.s 23) (.region C.q90_r6) .skip)
def C.q90_c3_w := @awpE _ _ C.q90_c3.eq_1
def C.q90_r5_b : List IOper := [
 X.m 16 9,
 X.m 17 2,
 X.o 18 (.bin .neq (X.s 16) (X.s 17)),
 X.m 19 18,
 X.t 19 20 (.move (X.s 1)),
 X.t 19 21 (.move (X.s 9)),
 X.t 19 22 (.call F.q87 [X.s 20, X.s 21]),
 X.o 23 (.pick (X.s 19) (X.s 22) (.cst (.bool false)))]
def C.q90_r5 : List IOper := C.q90_r5_b
def C.q90_r5_w := @aopsE _ _ C.q90_r5.eq_1
def C.q90_c4 : ICode := .keep [1, 2, 7, 9, 10, 11, 12] (.seq (.region C.q90_r5) C.q90_c3)
def C.q90_c4_w := @awpE _ _ C.q90_c4.eq_1
def C.q90_r4_b : List IOper := [
 X.o 14 (.idxAddr 1 (X.s 10) (X.s 12)),
 X.o 15 (.load1 (X.s 14)),
 X.m 9 15]
def C.q90_r4 : List IOper := C.q90_r4_b
def C.q90_r4_w := @aopsE _ _ C.q90_r4.eq_1
def C.q90_b5 : ICode := .seq (.region C.q90_r4) C.q90_c4
def C.q90_b5_w := @awpE _ _ C.q90_b5.eq_1
def C.q90_c6 : ICode := .keep [1, 2, 7, 10, 11, 12] (.seq (.block 1 C.q90_b5) C.q90_c2)
def C.q90_c6_w := @awpE _ _ C.q90_c6.eq_1
def C.q90_c7 : ICode := .keep [1, 2, 7, 10, 11, 12, 13] (.seq (.cond (X.s 13) .skip (.exit 0)) C.q90_c6)
def C.q90_c7_w := @awpE _ _ C.q90_c7.eq_1
def C.q90_r3_b : List IOper := [
 X.o 13 (.bin .lss (X.s 12) (X.s 11))]
def C.q90_r3 : List IOper := C.q90_r3_b
def C.q90_r3_w := @aopsE _ _ C.q90_r3.eq_1
def C.q90_l8 : ICode := .keep [1, 2, 7, 10, 11, 12] (.seq (.region C.q90_r3) C.q90_c7)
def C.q90_l8_w := @awpE _ _ C.q90_l8.eq_1
def C.q90_b9 : ICode := .loop C.q90_l8
def C.q90_b9_w := @awpE _ _ C.q90_b9.eq_1
def C.q90_c10 : ICode := .keep [1, 2, 7, 10, 11, 12] (.block 0 C.q90_b9)
def C.q90_c10_w := @awpE _ _ C.q90_c10.eq_1
def C.q90_r2_b : List IOper := [
 X.m 10 0,
 X.o 11 (.len (X.s 10)),
 X.o 12 (.move (X.i 0))]
def C.q90_r2 : List IOper := C.q90_r2_b
def C.q90_r2_w := @aopsE _ _ C.q90_r2.eq_1
def C.q90_c11 : ICode := .keep [0, 1, 2, 7] (.seq (.seq (.region C.q90_r2) C.q90_c10) C.q90_c1)
def C.q90_c11_w := @awpE _ _ C.q90_c11.eq_1
def C.q90_r1_b : List IOper := [
 X.o 7 (.move (.cst (.nils)))]
def C.q90_r1 : List IOper := C.q90_r1_b
def C.q90_r1_w := @aopsE _ _ C.q90_r1.eq_1
def C.q90_c12 : ICode := .keep [0, 1, 2] (.seq (.region C.q90_r1) C.q90_c11)
def C.q90_c12_w := @awpE _ _ C.q90_c12.eq_1
def C.q90_r0_b : List IOper := [
 X.o 6 (.move (.cst (.nils)))]
def C.q90_r0 : List IOper := C.q90_r0_b
def C.q90_r0_w := @aopsE _ _ C.q90_r0.eq_1
def C.q90 : IFunc := ⟨3, [.slot 6], .seq (.region C.q90_r0) C.q90_c12⟩
def C.q90_W := And.intro (And.intro (And.intro (And.intro @C.q90_r8_w @C.q90_c1_w) (And.intro @C.q90_r7_w (And.intro @C.q90_c2_w @C.q90_r6_w))) (And.intro (And.intro @C.q90_c3_w @C.q90_r5_w) (And.intro @C.q90_c4_w (And.intro @C.q90_r4_w @C.q90_b5_w)))) (And.intro (And.intro (And.intro @C.q90_c6_w @C.q90_c7_w) (And.intro @C.q90_r3_w (And.intro @C.q90_b9_w @C.q90_c10_w))) (And.intro (And.intro @C.q90_r2_w @C.q90_c11_w) (And.intro @C.q90_r1_w (And.intro @C.q90_c12_w @C.q90_r0_w))))
def C.q90_B := And.intro (And.intro (And.intro @C.q90_r8_b.eq_1 @C.q90_r7_b.eq_1) (And.intro @C.q90_r6_b.eq_1 @C.q90_r5_b.eq_1)) (And.intro (And.intro @C.q90_r4_b.eq_1 @C.q90_r3_b.eq_1) (And.intro @C.q90_r2_b.eq_1 (And.intro @C.q90_r1_b.eq_1 @C.q90_r0_b.eq_1)))

def C.q65_r1_b : List IOper := [
 X.o 3 (.fldAddr 4 (X.s 1)),
 X.o 4 (.load1 (X.s 3)),
 X.o 5 (.len (X.s 4)),
 X.o 6 (.bin .gtr (X.s 5) (X.i 8)),
 X.m 7 6,
 X.f 7 8 (.fldAddr 5 (X.s 1)),
 X.f 7 9 (.load1 (X.s 8)),
 X.f 7 10 (.len (X.s 9)),
 X.f 7 11 (.bin .gtr (X.s 10) (X.i 6)),
 X.o 12 (.pick (X.s 7) (.cst (.bool true)) (X.s 11)),
 X.o 13 (.call F.q70 [X.s 12, X.i 8]),
 X.m 2 13]
def C.q65_r1 : List IOper := C.q65_r1_b
def C.q65_r1_w := @aopsE _ _ C.q65_r1.eq_1
def C.q65_c1 : ICode := .keep [1] (.seq (.region C.q65_r1) .ret)
def C.q65_c1_w := @awpE _ _ C.q65_c1.eq_1
def C.q65_r0_b : List IOper := [
 X.o 1 (.boxN (X.s 0)),
 X.o 2 (.move (X.i 0))]
def C.q65_r0 : List IOper := C.q65_r0_b
def C.q65_r0_w := @aopsE _ _ C.q65_r0.eq_1
def C.q65 : IFunc := ⟨1, [.slot 2], .seq (.region C.q65_r0) C.q65_c1⟩
def C.q65_W := And.intro @C.q65_r1_w (And.intro @C.q65_c1_w @C.q65_r0_w)
def C.q65_B := And.intro @C.q65_r1_b.eq_1 @C.q65_r0_b.eq_1

def C.q70_r3_b : List IOper := [
 X.o 4 (.move (X.i 0))]
def C.q70_r3 : List IOper := C.q70_r3_b
def C.q70_r3_w := @aopsE _ _ C.q70_r3.eq_1
def C.q70_c1 : ICode := .keep [] (.seq (.region C.q70_r3) .ret)
def C.q70_c1_w := @awpE _ _ C.q70_c1.eq_1
def C.q70_r2_b : List IOper := [
 X.m 6 1,
 X.m 4 6]
def C.q70_r2 : List IOper := C.q70_r2_b
def C.q70_r2_w := @aopsE _ _ C.q70_r2.eq_1
def C.q70_c2 : ICode := .seq (.region C.q70_r2) .ret
def C.q70_c2_w := @awpE _ _ C.q70_c2.eq_1
def C.q70_c3 : ICode := .keep [1, 5] (.cond (X.s 5) C.q70_c2 .skip)
def C.q70_c3_w := @awpE _ _ C.q70_c3.eq_1
def C.q70_r1_b : List IOper := [
 X.m 5 0]
def C.q70_r1 : List IOper := C.q70_r1_b
def C.q70_r1_w := @aopsE _ _ C.q70_r1.eq_1
def C.q70_c4 : ICode := .keep [0, 1] (.seq (.seq (.region C.q70_r1) C.q70_c3) C.q70_c1)
def C.q70_c4_w := @awpE _ _ C.q70_c4.eq_1
def C.q70_r0_b : List IOper := [
 X.o 4 (.move (X.i 0))]
def C.q70_r0 : List IOper := C.q70_r0_b
def C.q70_r0_w := @aopsE _ _ C.q70_r0.eq_1
def C.q70 : IFunc := ⟨2, [.slot 4], .seq (.region C.q70_r0) C.q70_c4⟩
def C.q70_W := And.intro (And.intro (And.intro @C.q70_r3_w @C.q70_c1_w) (And.intro @C.q70_r2_w @C.q70_c2_w)) (And.intro (And.intro @C.q70_c3_w @C.q70_r1_w) (And.intro @C.q70_c4_w @C.q70_r0_w))
def C.q70_B := And.intro (And.intro @C.q70_r3_b.eq_1 @C.q70_r2_b.eq_1) (And.intro @C.q70_r1_b.eq_1 @C.q70_r0_b.eq_1)

def C.q44_r1_b : List IOper := [
 X.o 2 (.loadN 6 (X.s 0)),
 X.o 3 (.call F.q69 [X.s 2]),
 X.o 4 (.un .not (X.s 3)),
 X.o 5 (.call F.q70 [X.s 4, X.i 1]),
 X.m 1 5]
def C.q44_r1 : List IOper := C.q44_r1_b
def C.q44_r1_w := @aopsE _ _ C.q44_r1.eq_1
def C.q44_c1 : ICode := .keep [0] (.seq (.region C.q44_r1) .ret)
def C.q44_c1_w := @awpE _ _ C.q44_c1.eq_1
def C.q44_r0_b : List IOper := [
 X.o 1 (.move (X.i 0))]
def C.q44_r0 : List IOper := C.q44_r0_b
def C.q44_r0_w := @aopsE _ _ C.q44_r0.eq_1
def C.q44 : IFunc := ⟨1, [.slot 1], .seq (.region C.q44_r0) C.q44_c1⟩
def C.q44_W := And.intro @C.q44_r1_w (And.intro @C.q44_c1_w @C.q44_r0_w)
def C.q44_B := And.intro @C.q44_r1_b.eq_1 @C.q44_r0_b.eq_1

def C.q69_r10_b : List IOper := [
 X.o 2 (.move (.cst (.bool false)))]
def C.q69_r10 : List IOper := C.q69_r10_b
def C.q69_r10_w := @aopsE _ _ C.q69_r10.eq_1
def C.q69_c1 : ICode := .keep [] (.seq (.region C.q69_r10) .ret)
def C.q69_c1_w := @awpE _ _ C.q69_c1.eq_1
def C.q69_r3_b : List IOper := [
 X.o 7 (.fldAddr 1 (X.s 1)),
 X.o 8 (.load1 (X.s 7)),
 X.o 9 (.len (X.s 8)),
 X.o 10 (.bin .eql (X.s 9) (X.i 0)),
 X.m 2 10]
def C.q69_r3 : List IOper := C.q69_r3_b
def C.q69_r3_w := @aopsE _ _ C.q69_r3.eq_1
def C.q69_r7_b : List IOper := [
 X.o 15 (.fldAddr 1 (X.s 1)),
 X.o 16 (.load1 (X.s 15)),
 X.o 17 (.len (X.s 16)),
 X.o 18 (.bin .eql (X.s 17) (X.i 1)),
 X.m 2 18]
def C.q69_r7 : List IOper := C.q69_r7_b
def C.q69_r7_w := @aopsE _ _ C.q69_r7.eq_1
def C.q69_r9_b : List IOper := [
 X.o 21 (.fldAddr 1 (X.s 1)),
 X.o 22 (.load1 (X.s 21)),
 X.o 23 (.len (X.s 22)),
 X.o 24 (.call F.q71 [X.s 23, X.i 1, X.i 4]),
 X.m 2 24]
def C.q69_r9 : List IOper := C.q69_r9_b
def C.q69_r9_w := @aopsE _ _ C.q69_r9.eq_1
def C.q69_c2 : ICode := .seq (.region C.q69_r9) .ret
def C.q69_c2_w := @awpE _ _ C.q69_c2.eq_1
def C.q69_c3 : ICode := .keep [1, 19] (.cond (X.s 19) C.q69_c2 .skip)
def C.q69_c3_w := @awpE _ _ C.q69_c3.eq_1
def C.q69_r8_b : List IOper := [
 X.o 20 (.bin .eql (X.s 4) (.cst (.int .u8 109))),
 X.m 19 20]
def C.q69_r8 : List IOper := C.q69_r8_b
def C.q69_r8_w := @aopsE _ _ C.q69_r8.eq_1
def C.q69_c4 : ICode := .seq (.region C.q69_r7) .ret
def C.q69_c4_w := @awpE _ _ C.q69_c4.eq_1
def C.q69_c5 : ICode := .seq (.region C.q69_r8) C.q69_c3
def C.q69_c5_w := @awpE _ _ C.q69_c5.eq_1
def C.q69_c6 : ICode := .keep [1, 4, 11] (.cond (X.s 11) C.q69_c4 C.q69_c5)
def C.q69_c6_w := @awpE _ _ C.q69_c6.eq_1
def C.q69_r6_b : List IOper := [
 X.o 14 (.bin .eql (X.s 4) (.cst (.int .u8 103))),
 X.m 11 14]
def C.q69_r6 : List IOper := C.q69_r6_b
def C.q69_r6_w := @aopsE _ _ C.q69_r6.eq_1
def C.q69_c7 : ICode := .keep [1, 4, 11] (.cond (X.s 11) .skip (.region C.q69_r6))
def C.q69_c7_w := @awpE _ _ C.q69_c7.eq_1
def C.q69_r5_b : List IOper := [
 X.o 13 (.bin .eql (X.s 4) (.cst (.int .u8 100))),
 X.m 11 13]
def C.q69_r5 : List IOper := C.q69_r5_b
def C.q69_r5_w := @aopsE _ _ C.q69_r5.eq_1
def C.q69_c8 : ICode := .seq (.region C.q69_r5) C.q69_c7
def C.q69_c8_w := @awpE _ _ C.q69_c8.eq_1
def C.q69_c9 : ICode := .keep [1, 4, 11] (.cond (X.s 11) .skip C.q69_c8)
def C.q69_c9_w := @awpE _ _ C.q69_c9.eq_1
def C.q69_r4_b : List IOper := [
 X.o 12 (.bin .eql (X.s 4) (.cst (.int .u8 112))),
 X.m 11 12]
def C.q69_r4 : List IOper := C.q69_r4_b
def C.q69_r4_w := @aopsE _ _ C.q69_r4.eq_1
def C.q69_c10 : ICode := .seq (.region C.q69_r3) .ret
def C.q69_c10_w := @awpE _ _ C.q69_c10.eq_1
def C.q69_c11 : ICode := .seq (.seq (.region C.q69_r4) C.q69_c9) C.q69_c6
def C.q69_c11_w := @awpE _ _ C.q69_c11.eq_1
def C.q69_c12 : ICode := .keep [1, 4, 5] (.cond (X.s 5) C.q69_c10 C.q69_c11)
def C.q69_c12_w := @awpE _ _ C.q69_c12.eq_1
def C.q69_r2_b : List IOper := [
 X.o 6 (.bin .eql (X.s 4) (.cst (.int .u8 111))),
 X.m 5 6]
def C.q69_r2 : List IOper := C.q69_r2_b
def C.q69_r2_w := @aopsE _ _ C.q69_r2.eq_1
def C.q69_b13 : ICode := .seq (.region C.q69_r2) C.q69_c12
def C.q69_b13_w := @awpE _ _ C.q69_b13.eq_1
def C.q69_c14 : ICode := .keep [1, 4] (.block 0 C.q69_b13)
def C.q69_c14_w := @awpE _ _ C.q69_c14.eq_1
def C.q69_r1_b : List IOper := [
 X.o 3 (.fldAddr 0 (X.s 1)),
 X.o 4 (.load1 (X.s 3))]
def C.q69_r1 : List IOper := C.q69_r1_b
def C.q69_r1_w := @aopsE _ _ C.q69_r1.eq_1
def C.q69_c15 : ICode := .keep [1] (.seq (.seq (.region C.q69_r1) C.q69_c14) C.q69_c1)
def C.q69_c15_w := @awpE _ _ C.q69_c15.eq_1
def C.q69_r0_b : List IOper := [
 X.o 1 (.boxN (X.s 0)),
 X.o 2 (.move (.cst (.bool false)))]
def C.q69_r0 : List IOper := C.q69_r0_b
def C.q69_r0_w := @aopsE _ _ C.q69_r0.eq_1
def C.q69 : IFunc := ⟨1, [.slot 2], .seq (.region C.q69_r0) C.q69_c15⟩
def C.q69_W := And.intro (And.intro (And.intro (And.intro @C.q69_r10_w (And.intro @C.q69_c1_w @C.q69_r3_w)) (And.intro @C.q69_r7_w (And.intro @C.q69_r9_w @C.q69_c2_w))) (And.intro (And.intro @C.q69_c3_w (And.intro @C.q69_r8_w @C.q69_c4_w)) (And.intro (And.intro @C.q69_c5_w @C.q69_c6_w) (And.intro @C.q69_r6_w @C.q69_c7_w)))) (And.intro (And.intro (And.intro @C.q69_r5_w (And.intro @C.q69_c8_w @C.q69_c9_w)) (And.intro @C.q69_r4_w (And.intro @C.q69_c10_w @C.q69_c11_w))) (And.intro (And.intro @C.q69_c12_w (And.intro @C.q69_r2_w @C.q69_b13_w)) (And.intro (And.intro @C.q69_c14_w @C.q69_r1_w) (And.intro @C.q69_c15_w @C.q69_r0_w))))
def C.q69_B := And.intro (And.intro (And.intro @C.q69_r10_b.eq_1 @C.q69_r3_b.eq_1) (And.intro @C.q69_r7_b.eq_1 (And.intro @C.q69_r9_b.eq_1 @C.q69_r8_b.eq_1))) (And.intro (And.intro @C.q69_r6_b.eq_1 (And.intro @C.q69_r5_b.eq_1 @C.q69_r4_b.eq_1)) (And.intro @C.q69_r2_b.eq_1 (And.intro @C.q69_r1_b.eq_1 @C.q69_r0_b.eq_1)))

def C.q45_r1_b : List IOper := [
 X.o 3 (.fldAddr 1 (X.s 0)),
 X.o 4 (.load1 (X.s 3)),
 X.o 5 (.makeFunc F.q46 [X.s 1]),
 X.o 6 (.call F.q62 [X.s 4, X.s 5]),
 X.m 2 6]
def C.q45_r1 : List IOper := C.q45_r1_b
def C.q45_r1_w := @aopsE _ _ C.q45_r1.eq_1
def C.q45_c1 : ICode := .keep [0, 1] (.seq (.region C.q45_r1) .ret)
def C.q45_c1_w := @awpE _ _ C.q45_c1.eq_1
def C.q45_r0_b : List IOper := [
 X.o 2 (.move (X.i 0))]
def C.q45_r0 : List IOper := C.q45_r0_b
def C.q45_r0_w := @aopsE _ _ C.q45_r0.eq_1
def C.q45 : IFunc := ⟨2, [.slot 2], .seq (.region C.q45_r0) C.q45_c1⟩
def C.q45_W := And.intro @C.q45_r1_w (And.intro @C.q45_c1_w @C.q45_r0_w)
def C.q45_B := And.intro @C.q45_r1_b.eq_1 @C.q45_r0_b.eq_1

def C.q62_r8_b : List IOper := [
 X.o 4 (.move (X.i 0))]
def C.q62_r8 : List IOper := C.q62_r8_b
def C.q62_r8_w := @aopsE _ _ C.q62_r8.eq_1
def C.q62_c1 : ICode := .keep [] (.seq (.region C.q62_r8) .ret)
def C.q62_c1_w := @awpE _ _ C.q62_c1.eq_1
def C.q62_r7_b : List IOper := [
 X.o 20 (.bin .add (X.s 10) (X.i 1)),
 X.m 10 20]
def C.q62_r7 : List IOper := C.q62_r7_b
def C.q62_r7_w := @aopsE _ _ C.q62_r7.eq_1
def C.q62_c2 : ICode := .keep [1, 8, 9, 10] (.region C.q62_r7)
def C.q62_c2_w := @awpE _ _ C.q62_c2.eq_1
def C.q62_r6_b : List IOper := [
 X.m 19 7,
 X.m 4 19]
def C.q62_r6 : List IOper := C.q62_r6_b
def C.q62_r6_w := @aopsE _ _ C.q62_r6.eq_1
def C.q62_c3 : ICode := .seq (.region C.q62_r6) .ret
def C.q62_c3_w := @awpE _ _ C.q62_c3.eq_1
def C.q62_c4 : ICode := .keep [1, 7, 8, 9, 10, 18] (.cond (X.s 18) C.q62_c3 .skip)
def C.q62_c4_w := @awpE _ _ C.q62_c4.eq_1
def C.q62_r5_b : List IOper := [
 X.m 17 7,
 X.o 18 (.bin .neq (X.s 17) (X.i 0))]
def C.q62_r5 : List IOper := C.q62_r5_b
def C.q62_r5_w := @aopsE _ _ C.q62_r5.eq_1
def C.q62_c5 : ICode := .keep [1, 7, 8, 9, 10] (.seq (.region C.q62_r5) C.q62_c4)
def C.q62_c5_w := @awpE _ _ C.q62_c5.eq_1
def C.q62_r4_b : List IOper := [
 X.m 14 1,
 X.m 15 6,
 X.o 16 (.callv (X.s 14) [X.s 15]),
 X.m 7 16]
def C.q62_r4 : List IOper := C.q62_r4_b
def C.q62_r4_w := @aopsE _ _ C.q62_r4.eq_1
def C.q62_c6 : ICode := .keep [1, 6, 8, 9, 10] (.seq (.region C.q62_r4) C.q62_c5)
def C.q62_c6_w := @awpE _ _ C.q62_c6.eq_1
def C.q62_r3_b : List IOper := [
 X.o 12 (.idxAddr 1 (X.s 8) (X.s 10)),
 X.o 13 (.load1 (X.s 12)),
 X.m 6 13]
def C.q62_r3 : List IOper := C.q62_r3_b
def C.q62_r3_w := @aopsE _ _ C.q62_r3.eq_1
def C.q62_b7 : ICode := .seq (.region C.q62_r3) C.q62_c6
def C.q62_b7_w := @awpE _ _ C.q62_b7.eq_1
def C.q62_c8 : ICode := .keep [1, 8, 9, 10] (.seq (.block 1 C.q62_b7) C.q62_c2)
def C.q62_c8_w := @awpE _ _ C.q62_c8.eq_1
def C.q62_c9 : ICode := .keep [1, 8, 9, 10, 11] (.seq (.cond (X.s 11) .skip (.exit 0)) C.q62_c8)
def C.q62_c9_w := @awpE _ _ C.q62_c9.eq_1
def C.q62_r2_b : List IOper := [
 X.o 11 (.bin .lss (X.s 10) (X.s 9))]
def C.q62_r2 : List IOper := C.q62_r2_b
def C.q62_r2_w := @aopsE _ _ C.q62_r2.eq_1
def C.q62_l10 : ICode := .keep [1, 8, 9, 10] (.seq (.region C.q62_r2) C.q62_c9)
def C.q62_l10_w := @awpE _ _ C.q62_l10.eq_1
def C.q62_b11 : ICode := .loop C.q62_l10
def C.q62_b11_w := @awpE _ _ C.q62_b11.eq_1
def C.q62_c12 : ICode := .keep [1, 8, 9, 10] (.block 0 C.q62_b11)
def C.q62_c12_w := @awpE _ _ C.q62_c12.eq_1
def C.q62_r1_b : List IOper := [
 X.m 8 0,
 X.o 9 (.len (X.s 8)),
 X.o 10 (.move (X.i 0))]
def C.q62_r1 : List IOper := C.q62_r1_b
def C.q62_r1_w := @aopsE _ _ C.q62_r1.eq_1
def C.q62_c13 : ICode := .keep [0, 1] (.seq (.seq (.region C.q62_r1) C.q62_c12) C.q62_c1)
def C.q62_c13_w := @awpE _ _ C.q62_c13.eq_1
def C.q62_r0_b : List IOper := [
 X.o 4 (.move (X.i 0))]
def C.q62_r0 : List IOper := C.q62_r0_b
def C.q62_r0_w := @aopsE _ _ C.q62_r0.eq_1
def C.q62 : IFunc := ⟨2, [.slot 4], .seq (.region C.q62_r0) C.q62_c13⟩
def C.q62_W := And.intro (And.intro (And.intro (And.intro @C.q62_r8_w @C.q62_c1_w) (And.intro @C.q62_r7_w (And.intro @C.q62_c2_w @C.q62_r6_w))) (And.intro (And.intro @C.q62_c3_w @C.q62_c4_w) (And.intro @C.q62_r5_w (And.intro @C.q62_c5_w @C.q62_r4_w)))) (And.intro (And.intro (And.intro @C.q62_c6_w @C.q62_r3_w) (And.intro @C.q62_b7_w (And.intro @C.q62_c8_w @C.q62_c9_w))) (And.intro (And.intro @C.q62_r2_w (And.intro @C.q62_b11_w @C.q62_c12_w)) (And.intro @C.q62_r1_w (And.intro @C.q62_c13_w @C.q62_r0_w))))
def C.q62_B := And.intro (And.intro (And.intro @C.q62_r8_b.eq_1 @C.q62_r7_b.eq_1) (And.intro @C.q62_r6_b.eq_1 @C.q62_r5_b.eq_1)) (And.intro (And.intro @C.q62_r4_b.eq_1 @C.q62_r3_b.eq_1) (And.intro @C.q62_r2_b.eq_1 (And.intro @C.q62_r1_b.eq_1 @C.q62_r0_b.eq_1)))

def C.q46_r1_b : List IOper := [
 X.m 4 0,
 X.o 5 (.fldAddr 0 (X.s 1)),
 X.o 6 (.load1 (X.s 5)),
 X.o 7 (.len (X.s 6)),
 X.o 8 (.bin .sub (X.s 7) (X.i 1)),
 X.o 9 (.call F.q71 [X.s 4, X.i 0, X.s 8]),
 X.o 10 (.un .not (X.s 9)),
 X.o 11 (.call F.q70 [X.s 10, X.i 4]),
 X.m 3 11]
def C.q46_r1 : List IOper := C.q46_r1_b
def C.q46_r1_w := @aopsE _ _ C.q46_r1.eq_1
def C.q46_c1 : ICode := .keep [0, 1] (.seq (.region C.q46_r1) .ret)
def C.q46_c1_w := @awpE _ _ C.q46_c1.eq_1
def C.q46_r0_b : List IOper := [
 X.o 3 (.move (X.i 0))]
def C.q46_r0 : List IOper := C.q46_r0_b
def C.q46_r0_w := @aopsE _ _ C.q46_r0.eq_1
def C.q46 : IFunc := ⟨2, [.slot 3], .seq (.region C.q46_r0) C.q46_c1⟩
def C.q46_W := And.intro @C.q46_r1_w (And.intro @C.q46_c1_w @C.q46_r0_w)
def C.q46_B := And.intro @C.q46_r1_b.eq_1 @C.q46_r0_b.eq_1

def C.q71_r1_b : List IOper := [
 X.m 7 0,
 X.m 8 1,
 X.o 9 (.bin .geq (X.s 7) (X.s 8)),
 X.m 10 9,
 X.t 10 11 (.move (X.s 0)),
 X.t 10 12 (.move (X.s 2)),
 X.t 10 13 (.bin .leq (X.s 11) (X.s 12)),
 X.o 14 (.pick (X.s 10) (X.s 13) (.cst (.bool false))),
 X.m 6 14]
def C.q71_r1 : List IOper := C.q71_r1_b
def C.q71_r1_w := @aopsE _ _ C.q71_r1.eq_1
def C.q71_c1 : ICode := .keep [0, 1, 2] (.seq (.region C.q71_r1) .ret)
def C.q71_c1_w := @awpE _ _ C.q71_c1.eq_1
def C.q71_r0_b : List IOper := [
 X.o 6 (.move (.cst (.bool false)))]
def C.q71_r0 : List IOper := C.q71_r0_b
def C.q71_r0_w := @aopsE _ _ C.q71_r0.eq_1
def C.q71 : IFunc := ⟨3, [.slot 6], .seq (.region C.q71_r0) C.q71_c1⟩
def C.q71_W := And.intro @C.q71_r1_w (And.intro @C.q71_c1_w @C.q71_r0_w)
def C.q71_B := And.intro @C.q71_r1_b.eq_1 @C.q71_r0_b.eq_1

def C.q47_r1_b : List IOper := [
 X.o 2 (.loadN 6 (X.s 0)),
 X.o 3 (.call F.q66 [X.s 2]),
 X.o 4 (.un .not (X.s 3)),
 X.o 5 (.call F.q70 [X.s 4, X.i 3]),
 X.m 1 5]
def C.q47_r1 : List IOper := C.q47_r1_b
def C.q47_r1_w := @aopsE _ _ C.q47_r1.eq_1
def C.q47_c1 : ICode := .keep [0] (.seq (.region C.q47_r1) .ret)
def C.q47_c1_w := @awpE _ _ C.q47_c1.eq_1
def C.q47_r0_b : List IOper := [
 X.o 1 (.move (X.i 0))]
def C.q47_r0 : List IOper := C.q47_r0_b
def C.q47_r0_w := @aopsE _ _ C.q47_r0.eq_1
def C.q47 : IFunc := ⟨1, [.slot 1], .seq (.region C.q47_r0) C.q47_c1⟩
def C.q47_W := And.intro @C.q47_r1_w (And.intro @C.q47_c1_w @C.q47_r0_w)
def C.q47_B := And.intro @C.q47_r1_b.eq_1 @C.q47_r0_b.eq_1

def C.q66_r8_b : List IOper := [
 X.o 2 (.move (.cst (.bool true)))]
def C.q66_r8 : List IOper := C.q66_r8_b
def C.q66_r8_w := @aopsE _ _ C.q66_r8.eq_1
def C.q66_c1 : ICode := .keep [] (.seq (.region C.q66_r8) .ret)
def C.q66_c1_w := @awpE _ _ C.q66_c1.eq_1
def C.q66_r3_b : List IOper := [
 X.o 7 (.fldAddr 2 (X.s 1)),
 X.o 8 (.load1 (X.s 7)),
 X.o 9 (.bin .geq (X.s 8) (.cst (.int .u64 1))),
 X.m 10 9,
 X.t 10 11 (.fldAddr 2 (X.s 1)),
 X.t 10 12 (.load1 (X.s 11)),
 X.t 10 13 (.bin .leq (X.s 12) (.cst (.int .u64 1099511627776))),
 X.o 14 (.pick (X.s 10) (X.s 13) (.cst (.bool false))),
 X.m 2 14]
def C.q66_r3 : List IOper := C.q66_r3_b
def C.q66_r3_w := @aopsE _ _ C.q66_r3.eq_1
def C.q66_r5_b : List IOper := [
 X.o 17 (.fldAddr 3 (X.s 1)),
 X.o 18 (.load1 (X.s 17)),
 X.o 19 (.call F.q71 [X.s 18, X.i 1, X.i 1000]),
 X.m 20 19,
 X.t 20 21 (.fldAddr 4 (X.s 1)),
 X.t 20 22 (.load1 (X.s 21)),
 X.t 20 23 (.call F.q71 [X.s 22, X.i 1, X.i 1000]),
 X.o 24 (.pick (X.s 20) (X.s 23) (.cst (.bool false))),
 X.m 25 24,
 X.t 25 26 (.fldAddr 5 (X.s 1)),
 X.t 25 27 (.load1 (X.s 26)),
 X.t 25 28 (.call F.q71 [X.s 27, X.i 0, X.i 20]),
 X.o 29 (.pick (X.s 25) (X.s 28) (.cst (.bool false))),
 X.m 2 29]
def C.q66_r5 : List IOper := C.q66_r5_b
def C.q66_r5_w := @aopsE _ _ C.q66_r5.eq_1
def C.q66_r7_b : List IOper := [
 X.o 32 (.fldAddr 4 (X.s 1)),
 X.o 33 (.load1 (X.s 32)),
 X.o 34 (.call F.q71 [X.s 33, X.i 1, X.i 1000]),
 X.m 2 34]
def C.q66_r7 : List IOper := C.q66_r7_b
def C.q66_r7_w := @aopsE _ _ C.q66_r7.eq_1
def C.q66_c2 : ICode := .seq (.region C.q66_r7) .ret
def C.q66_c2_w := @awpE _ _ C.q66_c2.eq_1
def C.q66_c3 : ICode := .keep [1, 30] (.cond (X.s 30) C.q66_c2 .skip)
def C.q66_c3_w := @awpE _ _ C.q66_c3.eq_1
def C.q66_r6_b : List IOper := [
 X.o 31 (.bin .eql (X.s 4) (.cst (.int .u8 100))),
 X.m 30 31]
def C.q66_r6 : List IOper := C.q66_r6_b
def C.q66_r6_w := @aopsE _ _ C.q66_r6.eq_1
def C.q66_c4 : ICode := .seq (.region C.q66_r5) .ret
def C.q66_c4_w := @awpE _ _ C.q66_c4.eq_1
def C.q66_c5 : ICode := .seq (.region C.q66_r6) C.q66_c3
def C.q66_c5_w := @awpE _ _ C.q66_c5.eq_1
def C.q66_c6 : ICode := .keep [1, 4, 15] (.cond (X.s 15) C.q66_c4 C.q66_c5)
def C.q66_c6_w := @awpE _ _ C.q66_c6.eq_1
def C.q66_r4_b : List IOper := [
 X.o 16 (.bin .eql (X.s 4) (.cst (.int .u8 112))),
 X.m 15 16]
def C.q66_r4 : List IOper := C.q66_r4_b
def C.q66_r4_w := @aopsE _ _ C.q66_r4.eq_1
def C.q66_c7 : ICode := .seq (.region C.q66_r3) .ret
def C.q66_c7_w := @awpE _ _ C.q66_c7.eq_1
def C.q66_c8 : ICode := .seq (.region C.q66_r4) C.q66_c6
def C.q66_c8_w := @awpE _ _ C.q66_c8.eq_1
def C.q66_c9 : ICode := .keep [1, 4, 5] (.cond (X.s 5) C.q66_c7 C.q66_c8)
def C.q66_c9_w := @awpE _ _ C.q66_c9.eq_1
def C.q66_r2_b : List IOper := [
 X.o 6 (.bin .eql (X.s 4) (.cst (.int .u8 111))),
 X.m 5 6]
def C.q66_r2 : List IOper := C.q66_r2_b
def C.q66_r2_w := @aopsE _ _ C.q66_r2.eq_1
def C.q66_b10 : ICode := .seq (.region C.q66_r2) C.q66_c9
def C.q66_b10_w := @awpE _ _ C.q66_b10.eq_1
def C.q66_c11 : ICode := .keep [1, 4] (.block 0 C.q66_b10)
def C.q66_c11_w := @awpE _ _ C.q66_c11.eq_1
def C.q66_r1_b : List IOper := [
 X.o 3 (.fldAddr 0 (X.s 1)),
 X.o 4 (.load1 (X.s 3))]
def C.q66_r1 : List IOper := C.q66_r1_b
def C.q66_r1_w := @aopsE _ _ C.q66_r1.eq_1
def C.q66_c12 : ICode := .keep [1] (.seq (.seq (.region C.q66_r1) C.q66_c11) C.q66_c1)
def C.q66_c12_w := @awpE _ _ C.q66_c12.eq_1
def C.q66_r0_b : List IOper := [
 X.o 1 (.boxN (X.s 0)),
 X.o 2 (.move (.cst (.bool false)))]
def C.q66_r0 : List IOper := C.q66_r0_b
def C.q66_r0_w := @aopsE _ _ C.q66_r0.eq_1
def C.q66 : IFunc := ⟨1, [.slot 2], .seq (.region C.q66_r0) C.q66_c12⟩
def C.q66_W := And.intro (And.intro (And.intro (And.intro @C.q66_r8_w @C.q66_c1_w) (And.intro @C.q66_r3_w (And.intro @C.q66_r5_w @C.q66_r7_w))) (And.intro (And.intro @C.q66_c2_w @C.q66_c3_w) (And.intro @C.q66_r6_w (And.intro @C.q66_c4_w @C.q66_c5_w)))) (And.intro (And.intro (And.intro @C.q66_c6_w @C.q66_r4_w) (And.intro @C.q66_c7_w (And.intro @C.q66_c8_w @C.q66_c9_w))) (And.intro (And.intro @C.q66_r2_w (And.intro @C.q66_b10_w @C.q66_c11_w)) (And.intro @C.q66_r1_w (And.intro @C.q66_c12_w @C.q66_r0_w))))
def C.q66_B := And.intro (And.intro (And.intro @C.q66_r8_b.eq_1 @C.q66_r3_b.eq_1) (And.intro @C.q66_r5_b.eq_1 @C.q66_r7_b.eq_1)) (And.intro (And.intro @C.q66_r6_b.eq_1 @C.q66_r4_b.eq_1) (And.intro @C.q66_r2_b.eq_1 (And.intro @C.q66_r1_b.eq_1 @C.q66_r0_b.eq_1)))

def C.q83_r2_b : List IOper := [
 X.m 10 4,
 X.m 2 10]
def C.q83_r2 : List IOper := C.q83_r2_b
def C.q83_r2_w := @aopsE _ _ C.q83_r2.eq_1
def C.q83_c1 : ICode := .keep [4] (.seq (.region C.q83_r2) .ret)
def C.q83_c1_w := @awpE _ _ C.q83_c1.eq_1
def C.q83_r1_b : List IOper := [
 X.m 6 0,
 X.o 7 (.call F.q84 [X.s 6]),
 X.m 5 7,
 X.o 8 (.extract (X.s 5) 0),
 X.o 9 (.extract (X.s 5) 1),
 X.m 3 8,
 X.m 4 9]
def C.q83_r1 : List IOper := C.q83_r1_b
def C.q83_r1_w := @aopsE _ _ C.q83_r1.eq_1
def C.q83_c2 : ICode := .keep [0] (.seq (.region C.q83_r1) C.q83_c1)
def C.q83_c2_w := @awpE _ _ C.q83_c2.eq_1
def C.q83_r0_b : List IOper := [
 X.o 2 (.move (X.i 0))]
def C.q83_r0 : List IOper := C.q83_r0_b
def C.q83_r0_w := @aopsE _ _ C.q83_r0.eq_1
def C.q83 : IFunc := ⟨1, [.slot 2], .seq (.region C.q83_r0) C.q83_c2⟩
def C.q83_W := And.intro (And.intro @C.q83_r2_w @C.q83_c1_w) (And.intro @C.q83_r1_w (And.intro @C.q83_c2_w @C.q83_r0_w))
def C.q83_B := And.intro @C.q83_r2_b.eq_1 (And.intro @C.q83_r1_b.eq_1 @C.q83_r0_b.eq_1)

def C.q56_r1_b : List IOper := [
 X.o 3 (.fldAddr 0 (X.s 0)),
 X.o 4 (.load1 (X.s 3)),
 X.o 5 (.bin .neq (X.s 4) (X.i (-1))),
 X.m 6 5,
 X.t 6 7 (.fldAddr 0 (X.s 0)),
 X.t 6 8 (.load1 (X.s 7)),
 X.t 6 9 (.fldAddr 1 (X.s 1)),
 X.t 6 10 (.load1 (X.s 9)),
 X.t 6 11 (.len (X.s 10)),
 X.t 6 12 (.bin .sub (X.s 11) (X.i 1)),
 X.t 6 13 (.call F.q71 [X.s 8, X.i 0, X.s 12]),
 X.t 6 14 (.un .not (X.s 13)),
 X.o 15 (.pick (X.s 6) (X.s 14) (.cst (.bool false))),
 X.o 16 (.call F.q70 [X.s 15, X.i 4]),
 X.m 2 16]
def C.q56_r1 : List IOper := C.q56_r1_b
def C.q56_r1_w := @aopsE _ _ C.q56_r1.eq_1
def C.q56_c1 : ICode := .keep [0, 1] (.seq (.region C.q56_r1) .ret)
def C.q56_c1_w := @awpE _ _ C.q56_c1.eq_1
def C.q56_r0_b : List IOper := [
 X.o 2 (.move (X.i 0))]
def C.q56_r0 : List IOper := C.q56_r0_b
def C.q56_r0_w := @aopsE _ _ C.q56_r0.eq_1
def C.q56 : IFunc := ⟨2, [.slot 2], .seq (.region C.q56_r0) C.q56_c1⟩
def C.q56_W := And.intro @C.q56_r1_w (And.intro @C.q56_c1_w @C.q56_r0_w)
def C.q56_B := And.intro @C.q56_r1_b.eq_1 @C.q56_r0_b.eq_1

def C.q57_r1_b : List IOper := [
 X.o 2 (.fldAddr 1 (X.s 0)),
 X.o 3 (.load1 (X.s 2)),
 X.o 4 (.call F.q71 [X.s 3, X.i 0, X.i 20]),
 X.o 5 (.un .not (X.s 4)),
 X.o 6 (.call F.q70 [X.s 5, X.i 3]),
 X.m 1 6]
def C.q57_r1 : List IOper := C.q57_r1_b
def C.q57_r1_w := @aopsE _ _ C.q57_r1.eq_1
def C.q57_c1 : ICode := .keep [0] (.seq (.region C.q57_r1) .ret)
def C.q57_c1_w := @awpE _ _ C.q57_c1.eq_1
def C.q57_r0_b : List IOper := [
 X.o 1 (.move (X.i 0))]
def C.q57_r0 : List IOper := C.q57_r0_b
def C.q57_r0_w := @aopsE _ _ C.q57_r0.eq_1
def C.q57 : IFunc := ⟨1, [.slot 1], .seq (.region C.q57_r0) C.q57_c1⟩
def C.q57_W := And.intro @C.q57_r1_w (And.intro @C.q57_c1_w @C.q57_r0_w)
def C.q57_B := And.intro @C.q57_r1_b.eq_1 @C.q57_r0_b.eq_1

def C.q50_r1_b : List IOper := [
 X.o 3 (.fldAddr 0 (X.s 0)),
 X.o 4 (.load1 (X.s 3)),
 X.o 5 (.fldAddr 0 (X.s 1)),
 X.o 6 (.load1 (X.s 5)),
 X.o 7 (.len (X.s 6)),
 X.o 8 (.bin .sub (X.s 7) (X.i 1)),
 X.o 9 (.call F.q71 [X.s 4, X.i 0, X.s 8]),
 X.o 10 (.un .not (X.s 9)),
 X.o 11 (.call F.q70 [X.s 10, X.i 4]),
 X.m 2 11]
def C.q50_r1 : List IOper := C.q50_r1_b
def C.q50_r1_w := @aopsE _ _ C.q50_r1.eq_1
def C.q50_c1 : ICode := .keep [0, 1] (.seq (.region C.q50_r1) .ret)
def C.q50_c1_w := @awpE _ _ C.q50_c1.eq_1
def C.q50_r0_b : List IOper := [
 X.o 2 (.move (X.i 0))]
def C.q50_r0 : List IOper := C.q50_r0_b
def C.q50_r0_w := @aopsE _ _ C.q50_r0.eq_1
def C.q50 : IFunc := ⟨2, [.slot 2], .seq (.region C.q50_r0) C.q50_c1⟩
def C.q50_W := And.intro @C.q50_r1_w (And.intro @C.q50_c1_w @C.q50_r0_w)
def C.q50_B := And.intro @C.q50_r1_b.eq_1 @C.q50_r0_b.eq_1

def C.q51_r1_b : List IOper := [
 X.o 3 (.fldAddr 1 (X.s 0)),
 X.o 4 (.load1 (X.s 3)),
 X.o 5 (.fldAddr 1 (X.s 1)),
 X.o 6 (.load1 (X.s 5)),
 X.o 7 (.len (X.s 6)),
 X.o 8 (.bin .sub (X.s 7) (X.i 1)),
 X.o 9 (.call F.q71 [X.s 4, X.i 0, X.s 8]),
 X.o 10 (.un .not (X.s 9)),
 X.o 11 (.call F.q70 [X.s 10, X.i 4]),
 X.m 2 11]
def C.q51_r1 : List IOper := C.q51_r1_b
def C.q51_r1_w := @aopsE _ _ C.q51_r1.eq_1
def C.q51_c1 : ICode := .keep [0, 1] (.seq (.region C.q51_r1) .ret)
def C.q51_c1_w := @awpE _ _ C.q51_c1.eq_1
def C.q51_r0_b : List IOper := [
 X.o 2 (.move (X.i 0))]
def C.q51_r0 : List IOper := C.q51_r0_b
def C.q51_r0_w := @aopsE _ _ C.q51_r0.eq_1
def C.q51 : IFunc := ⟨2, [.slot 2], .seq (.region C.q51_r0) C.q51_c1⟩
def C.q51_W := And.intro @C.q51_r1_w (And.intro @C.q51_c1_w @C.q51_r0_w)
def C.q51_B := And.intro @C.q51_r1_b.eq_1 @C.q51_r0_b.eq_1

def C.q52_r1_b : List IOper := [
 X.o 3 (.fldAddr 2 (X.s 0)),
 X.o 4 (.load1 (X.s 3)),
 X.o 5 (.fldAddr 2 (X.s 1)),
 X.o 6 (.load1 (X.s 5)),
 X.o 7 (.len (X.s 6)),
 X.o 8 (.bin .sub (X.s 7) (X.i 1)),
 X.o 9 (.call F.q71 [X.s 4, X.i 0, X.s 8]),
 X.o 10 (.un .not (X.s 9)),
 X.o 11 (.call F.q70 [X.s 10, X.i 4]),
 X.m 2 11]
def C.q52_r1 : List IOper := C.q52_r1_b
def C.q52_r1_w := @aopsE _ _ C.q52_r1.eq_1
def C.q52_c1 : ICode := .keep [0, 1] (.seq (.region C.q52_r1) .ret)
def C.q52_c1_w := @awpE _ _ C.q52_c1.eq_1
def C.q52_r0_b : List IOper := [
 X.o 2 (.move (X.i 0))]
def C.q52_r0 : List IOper := C.q52_r0_b
def C.q52_r0_w := @aopsE _ _ C.q52_r0.eq_1
def C.q52 : IFunc := ⟨2, [.slot 2], .seq (.region C.q52_r0) C.q52_c1⟩
def C.q52_W := And.intro @C.q52_r1_w (And.intro @C.q52_c1_w @C.q52_r0_w)
def C.q52_B := And.intro @C.q52_r1_b.eq_1 @C.q52_r0_b.eq_1

def C.q53_r1_b : List IOper := [
 X.o 3 (.fldAddr 5 (X.s 0)),
 X.o 4 (.load1 (X.s 3)),
 X.o 5 (.makeFunc F.q54 [X.s 1]),
 X.o 6 (.call F.q62 [X.s 4, X.s 5]),
 X.m 2 6]
def C.q53_r1 : List IOper := C.q53_r1_b
def C.q53_r1_w := @aopsE _ _ C.q53_r1.eq_1
def C.q53_c1 : ICode := .keep [0, 1] (.seq (.region C.q53_r1) .ret)
def C.q53_c1_w := @awpE _ _ C.q53_c1.eq_1
def C.q53_r0_b : List IOper := [
 X.o 2 (.move (X.i 0))]
def C.q53_r0 : List IOper := C.q53_r0_b
def C.q53_r0_w := @aopsE _ _ C.q53_r0.eq_1
def C.q53 : IFunc := ⟨2, [.slot 2], .seq (.region C.q53_r0) C.q53_c1⟩
def C.q53_W := And.intro @C.q53_r1_w (And.intro @C.q53_c1_w @C.q53_r0_w)
def C.q53_B := And.intro @C.q53_r1_b.eq_1 @C.q53_r0_b.eq_1

def C.q54_r1_b : List IOper := [
 X.m 4 0,
 X.o 5 (.fldAddr 3 (X.s 1)),
 X.o 6 (.load1 (X.s 5)),
 X.o 7 (.len (X.s 6)),
 X.o 8 (.bin .sub (X.s 7) (X.i 1)),
 X.o 9 (.call F.q71 [X.s 4, X.i 0, X.s 8]),
 X.o 10 (.un .not (X.s 9)),
 X.o 11 (.call F.q70 [X.s 10, X.i 4]),
 X.m 3 11]
def C.q54_r1 : List IOper := C.q54_r1_b
def C.q54_r1_w := @aopsE _ _ C.q54_r1.eq_1
def C.q54_c1 : ICode := .keep [0, 1] (.seq (.region C.q54_r1) .ret)
def C.q54_c1_w := @awpE _ _ C.q54_c1.eq_1
def C.q54_r0_b : List IOper := [
 X.o 3 (.move (X.i 0))]
def C.q54_r0 : List IOper := C.q54_r0_b
def C.q54_r0_w := @aopsE _ _ C.q54_r0.eq_1
def C.q54 : IFunc := ⟨2, [.slot 3], .seq (.region C.q54_r0) C.q54_c1⟩
def C.q54_W := And.intro @C.q54_r1_w (And.intro @C.q54_c1_w @C.q54_r0_w)
def C.q54_B := And.intro @C.q54_r1_b.eq_1 @C.q54_r0_b.eq_1

def C.q23_r8_b : List IOper := [
 X.o 2 (.move (.cst (.bool true)))]
def C.q23_r8 : List IOper := C.q23_r8_b
def C.q23_r8_w := @aopsE _ _ C.q23_r8.eq_1
def C.q23_c1 : ICode := .keep [] (.seq (.region C.q23_r8) .ret)
def C.q23_c1_w := @awpE _ _ C.q23_c1.eq_1
def C.q23_r5_b : List IOper := [
 X.m 31 3,
 X.o 32 (.bin .add (X.s 31) (X.i 1)),
 X.m 3 32]
def C.q23_r5 : List IOper := C.q23_r5_b
def C.q23_r5_w := @aopsE _ _ C.q23_r5.eq_1
def C.q23_c2 : ICode := .keep [1, 3] (.region C.q23_r5)
def C.q23_c2_w := @awpE _ _ C.q23_c2.eq_1
def C.q23_r7_b : List IOper := [
 X.o 2 (.move (.cst (.bool false)))]
def C.q23_r7 : List IOper := C.q23_r7_b
def C.q23_r7_w := @aopsE _ _ C.q23_r7.eq_1
def C.q23_c3 : ICode := .seq (.region C.q23_r7) .ret
def C.q23_c3_w := @awpE _ _ C.q23_c3.eq_1
def C.q23_c4 : ICode := .keep [1, 3, 50] (.cond (X.s 50) C.q23_c3 .skip)
def C.q23_c4_w := @awpE _ _ C.q23_c4.eq_1
def C.q23_r6_b : List IOper := [
 X.o 33 (.fldAddr 3 (X.s 1)),
 X.o 34 (.load1 (X.s 33)),
 X.m 35 3,
 X.o 36 (.idxAddr 6 (X.s 34) (X.s 35)),
 X.o 37 (.fldAddr 4 (X.s 36)),
 X.o 38 (.load1 (X.s 37)),
 X.o 39 (.len (X.s 38)),
 X.o 40 (.bin .gtr (X.s 39) (X.i 8)),
 X.m 41 40,
 X.f 41 42 (.fldAddr 3 (X.s 1)),
 X.f 41 43 (.load1 (X.s 42)),
 X.f 41 44 (.move (X.s 3)),
 X.f 41 45 (.idxAddr 6 (X.s 43) (X.s 44)),
 X.f 41 46 (.fldAddr 5 (X.s 45)),
 X.f 41 47 (.load1 (X.s 46)),
 X.f 41 48 (.len (X.s 47)),
 X.f 41 49 (.bin .gtr (X.s 48) (X.i 6)),
 X.o 50 (.pick (X.s 41) (.cst (.bool true)) (X.s 49))]
def C.q23_r6 : List IOper := C.q23_r6_b
def C.q23_r6_w := @aopsE _ _ C.q23_r6.eq_1
def C.q23_b5 : ICode := .seq (.region C.q23_r6) C.q23_c4
def C.q23_b5_w := @awpE _ _ C.q23_b5.eq_1
def C.q23_c6 : ICode := .keep [1, 3] (.seq (.block 1 C.q23_b5) C.q23_c2)
def C.q23_c6_w := @awpE _ _ C.q23_c6.eq_1
def C.q23_c7 : ICode := .keep [1, 3, 30] (.cond (X.s 30) .skip (.exit 0))
def C.q23_c7_w := @awpE _ _ C.q23_c7.eq_1
def C.q23_r4_b : List IOper := [
 X.m 26 3,
 X.o 27 (.fldAddr 3 (X.s 1)),
 X.o 28 (.load1 (X.s 27)),
 X.o 29 (.len (X.s 28)),
 X.o 30 (.bin .lss (X.s 26) (X.s 29))]
def C.q23_r4 : List IOper := C.q23_r4_b
def C.q23_r4_w := @aopsE _ _ C.q23_r4.eq_1
def C.q23_l8 : ICode := .keep [1, 3] (.seq (.seq (.region C.q23_r4) C.q23_c7) C.q23_c6)
def C.q23_l8_w := @awpE _ _ C.q23_l8.eq_1
def C.q23_b9 : ICode := .loop C.q23_l8
def C.q23_b9_w := @awpE _ _ C.q23_b9.eq_1
def C.q23_c10 : ICode := .keep [1, 3] (.block 0 C.q23_b9)
def C.q23_c10_w := @awpE _ _ C.q23_c10.eq_1
def C.q23_r3_b : List IOper := [
 X.o 3 (.move (X.i 0))]
def C.q23_r3 : List IOper := C.q23_r3_b
def C.q23_r3_w := @aopsE _ _ C.q23_r3.eq_1
def C.q23_c11 : ICode := .keep [1] (.seq (.seq (.region C.q23_r3) C.q23_c10) C.q23_c1)
def C.q23_c11_w := @awpE _ _ C.q23_c11.eq_1
def C.q23_r2_b : List IOper := [
 X.o 2 (.move (.cst (.bool false)))]
def C.q23_r2 : List IOper := C.q23_r2_b
def C.q23_r2_w := @aopsE _ _ C.q23_r2.eq_1
def C.q23_c12 : ICode := .seq (.region C.q23_r2) .ret
def C.q23_c12_w := @awpE _ _ C.q23_c12.eq_1
def C.q23_c13 : ICode := .keep [1, 25] (.cond (X.s 25) C.q23_c12 .skip)
def C.q23_c13_w := @awpE _ _ C.q23_c13.eq_1
def C.q23_r1_b : List IOper := [
 X.o 4 (.fldAddr 0 (X.s 1)),
 X.o 5 (.load1 (X.s 4)),
 X.o 6 (.len (X.s 5)),
 X.o 7 (.bin .gtr (X.s 6) (X.i 12)),
 X.m 8 7,
 X.f 8 9 (.fldAddr 1 (X.s 1)),
 X.f 8 10 (.load1 (X.s 9)),
 X.f 8 11 (.len (X.s 10)),
 X.f 8 12 (.bin .gtr (X.s 11) (X.i 6)),
 X.o 13 (.pick (X.s 8) (.cst (.bool true)) (X.s 12)),
 X.m 14 13,
 X.f 14 15 (.fldAddr 2 (X.s 1)),
 X.f 14 16 (.load1 (X.s 15)),
 X.f 14 17 (.len (X.s 16)),
 X.f 14 18 (.bin .gtr (X.s 17) (X.i 6)),
 X.o 19 (.pick (X.s 14) (.cst (.bool true)) (X.s 18)),
 X.m 20 19,
 X.f 20 21 (.fldAddr 3 (X.s 1)),
 X.f 20 22 (.load1 (X.s 21)),
 X.f 20 23 (.len (X.s 22)),
 X.f 20 24 (.bin .gtr (X.s 23) (X.i 6)),
 X.o 25 (.pick (X.s 20) (.cst (.bool true)) (X.s 24))]
def C.q23_r1 : List IOper := C.q23_r1_b
def C.q23_r1_w := @aopsE _ _ C.q23_r1.eq_1
def C.q23_c14 : ICode := .keep [1] (.seq (.seq (.region C.q23_r1) C.q23_c13) C.q23_c11)
def C.q23_c14_w := @awpE _ _ C.q23_c14.eq_1
def C.q23_r0_b : List IOper := [
 X.o 1 (.boxN (X.s 0)),
 X.o 2 (.move (.cst (.bool false)))]
def C.q23_r0 : List IOper := C.q23_r0_b
def C.q23_r0_w := @aopsE _ _ C.q23_r0.eq_1
def C.q23 : IFunc := ⟨1, [.slot 2], .seq (.region C.q23_r0) C.q23_c14⟩
def C.q23_W := And.intro (And.intro (And.intro (And.intro @C.q23_r8_w @C.q23_c1_w) (And.intro @C.q23_r5_w (And.intro @C.q23_c2_w @C.q23_r7_w))) (And.intro (And.intro @C.q23_c3_w (And.intro @C.q23_c4_w @C.q23_r6_w)) (And.intro @C.q23_b5_w (And.intro @C.q23_c6_w @C.q23_c7_w)))) (And.intro (And.intro (And.intro @C.q23_r4_w @C.q23_b9_w) (And.intro @C.q23_c10_w (And.intro @C.q23_r3_w @C.q23_c11_w))) (And.intro (And.intro @C.q23_r2_w (And.intro @C.q23_c12_w @C.q23_c13_w)) (And.intro @C.q23_r1_w (And.intro @C.q23_c14_w @C.q23_r0_w))))
def C.q23_B := And.intro (And.intro (And.intro @C.q23_r8_b.eq_1 @C.q23_r5_b.eq_1) (And.intro @C.q23_r7_b.eq_1 @C.q23_r6_b.eq_1)) (And.intro (And.intro @C.q23_r4_b.eq_1 @C.q23_r3_b.eq_1) (And.intro @C.q23_r2_b.eq_1 (And.intro @C.q23_r1_b.eq_1 @C.q23_r0_b.eq_1)))

def C.q22_r7_b : List IOper := [
 X.o 24 (.loadN 4 (X.s 1)),
 X.o 25 (.call F.q18 [X.s 24]),
 X.o 26 (.call F.q15 [X.s 25]),
 X.m 2 26]
def C.q22_r7 : List IOper := C.q22_r7_b
def C.q22_r7_w := @aopsE _ _ C.q22_r7.eq_1
def C.q22_c1 : ICode := .keep [1] (.seq (.region C.q22_r7) .ret)
def C.q22_c1_w := @awpE _ _ C.q22_c1.eq_1
def C.q22_r3_b : List IOper := [
 X.m 10 3,
 X.o 11 (.bin .add (X.s 10) (X.i 1)),
 X.m 3 11]
def C.q22_r3 : List IOper := C.q22_r3_b
def C.q22_r3_w := @aopsE _ _ C.q22_r3.eq_1
def C.q22_c2 : ICode := .keep [1, 3] (.region C.q22_r3)
def C.q22_c2_w := @awpE _ _ C.q22_c2.eq_1
def C.q22_r6_b : List IOper := [
 X.m 23 4,
 X.m 2 23]
def C.q22_r6 : List IOper := C.q22_r6_b
def C.q22_r6_w := @aopsE _ _ C.q22_r6.eq_1
def C.q22_c3 : ICode := .seq (.region C.q22_r6) .ret
def C.q22_c3_w := @awpE _ _ C.q22_c3.eq_1
def C.q22_c4 : ICode := .keep [1, 3, 4, 22] (.cond (X.s 22) C.q22_c3 .skip)
def C.q22_c4_w := @awpE _ _ C.q22_c4.eq_1
def C.q22_r5_b : List IOper := [
 X.m 21 4,
 X.o 22 (.bin .neq (X.s 21) (X.i 0))]
def C.q22_r5 : List IOper := C.q22_r5_b
def C.q22_r5_w := @aopsE _ _ C.q22_r5.eq_1
def C.q22_c5 : ICode := .keep [1, 3, 4] (.seq (.region C.q22_r5) C.q22_c4)
def C.q22_c5_w := @awpE _ _ C.q22_c5.eq_1
def C.q22_r4_b : List IOper := [
 X.o 12 (.fldAddr 0 (X.s 1)),
 X.o 13 (.load1 (X.s 12)),
 X.m 14 3,
 X.o 15 (.idxAddr 6 (X.s 13) (X.s 14)),
 X.o 16 (.loadN 6 (X.s 15)),
 X.o 17 (.fldAddr 0 (X.s 1)),
 X.o 18 (.load1 (X.s 17)),
 X.o 19 (.len (X.s 18)),
 X.o 20 (.call F.q21 [X.s 16, X.s 19]),
 X.m 4 20]
def C.q22_r4 : List IOper := C.q22_r4_b
def C.q22_r4_w := @aopsE _ _ C.q22_r4.eq_1
def C.q22_b6 : ICode := .seq (.region C.q22_r4) C.q22_c5
def C.q22_b6_w := @awpE _ _ C.q22_b6.eq_1
def C.q22_c7 : ICode := .keep [1, 3] (.seq (.block 1 C.q22_b6) C.q22_c2)
def C.q22_c7_w := @awpE _ _ C.q22_c7.eq_1
def C.q22_c8 : ICode := .keep [1, 3, 9] (.cond (X.s 9) .skip (.exit 0))
def C.q22_c8_w := @awpE _ _ C.q22_c8.eq_1
def C.q22_r2_b : List IOper := [
 X.m 5 3,
 X.o 6 (.fldAddr 0 (X.s 1)),
 X.o 7 (.load1 (X.s 6)),
 X.o 8 (.len (X.s 7)),
 X.o 9 (.bin .lss (X.s 5) (X.s 8))]
def C.q22_r2 : List IOper := C.q22_r2_b
def C.q22_r2_w := @aopsE _ _ C.q22_r2.eq_1
def C.q22_l9 : ICode := .keep [1, 3] (.seq (.seq (.region C.q22_r2) C.q22_c8) C.q22_c7)
def C.q22_l9_w := @awpE _ _ C.q22_l9.eq_1
def C.q22_b10 : ICode := .loop C.q22_l9
def C.q22_b10_w := @awpE _ _ C.q22_b10.eq_1
def C.q22_c11 : ICode := .keep [1, 3] (.block 0 C.q22_b10)
def C.q22_c11_w := @awpE _ _ C.q22_c11.eq_1
def C.q22_r1_b : List IOper := [
 X.o 3 (.move (X.i 0))]
def C.q22_r1 : List IOper := C.q22_r1_b
def C.q22_r1_w := @aopsE _ _ C.q22_r1.eq_1
def C.q22_c12 : ICode := .keep [1] (.seq (.seq (.region C.q22_r1) C.q22_c11) C.q22_c1)
def C.q22_c12_w := @awpE _ _ C.q22_c12.eq_1
def C.q22_r0_b : List IOper := [
 X.o 1 (.boxN (X.s 0)),
 X.o 2 (.move (X.i 0))]
def C.q22_r0 : List IOper := C.q22_r0_b
def C.q22_r0_w := @aopsE _ _ C.q22_r0.eq_1
def C.q22 : IFunc := ⟨1, [.slot 2], .seq (.region C.q22_r0) C.q22_c12⟩
def C.q22_W := And.intro (And.intro (And.intro (And.intro @C.q22_r7_w @C.q22_c1_w) (And.intro @C.q22_r3_w @C.q22_c2_w)) (And.intro (And.intro @C.q22_r6_w @C.q22_c3_w) (And.intro @C.q22_c4_w (And.intro @C.q22_r5_w @C.q22_c5_w)))) (And.intro (And.intro (And.intro @C.q22_r4_w @C.q22_b6_w) (And.intro @C.q22_c7_w (And.intro @C.q22_c8_w @C.q22_r2_w))) (And.intro (And.intro @C.q22_b10_w @C.q22_c11_w) (And.intro @C.q22_r1_w (And.intro @C.q22_c12_w @C.q22_r0_w))))
def C.q22_B := And.intro (And.intro (And.intro @C.q22_r7_b.eq_1 @C.q22_r3_b.eq_1) (And.intro @C.q22_r6_b.eq_1 @C.q22_r5_b.eq_1)) (And.intro (And.intro @C.q22_r4_b.eq_1 @C.q22_r2_b.eq_1) (And.intro @C.q22_r1_b.eq_1 @C.q22_r0_b.eq_1))

def C.q25_r9_b : List IOper := [
 X.o 33 (.loadN 4 (X.s 1)),
 X.o 34 (.call F.q19 [X.s 33]),
 X.o 35 (.call F.q15 [X.s 34]),
 X.m 2 35]
def C.q25_r9 : List IOper := C.q25_r9_b
def C.q25_r9_w := @aopsE _ _ C.q25_r9.eq_1
def C.q25_c1 : ICode := .keep [1] (.seq (.region C.q25_r9) .ret)
def C.q25_c1_w := @awpE _ _ C.q25_c1.eq_1
def C.q25_r3_b : List IOper := [
 X.m 10 3,
 X.o 11 (.bin .add (X.s 10) (X.i 1)),
 X.m 3 11]
def C.q25_r3 : List IOper := C.q25_r3_b
def C.q25_r3_w := @aopsE _ _ C.q25_r3.eq_1
def C.q25_c2 : ICode := .keep [1, 3] (.region C.q25_r3)
def C.q25_c2_w := @awpE _ _ C.q25_c2.eq_1
def C.q25_r8_b : List IOper := [
 X.o 2 (.move (X.i 3))]
def C.q25_r8 : List IOper := C.q25_r8_b
def C.q25_r8_w := @aopsE _ _ C.q25_r8.eq_1
def C.q25_c3 : ICode := .seq (.region C.q25_r8) .ret
def C.q25_c3_w := @awpE _ _ C.q25_c3.eq_1
def C.q25_c4 : ICode := .keep [1, 3, 32] (.cond (X.s 32) C.q25_c3 .skip)
def C.q25_c4_w := @awpE _ _ C.q25_c4.eq_1
def C.q25_r7_b : List IOper := [
 X.o 29 (.fldAddr 1 (X.s 4)),
 X.o 30 (.load1 (X.s 29)),
 X.o 31 (.call F.q27 [X.s 30, X.i 0, X.i 20]),
 X.o 32 (.un .not (X.s 31))]
def C.q25_r7 : List IOper := C.q25_r7_b
def C.q25_r7_w := @aopsE _ _ C.q25_r7.eq_1
def C.q25_c5 : ICode := .keep [1, 3, 4] (.seq (.region C.q25_r7) C.q25_c4)
def C.q25_c5_w := @awpE _ _ C.q25_c5.eq_1
def C.q25_r6_b : List IOper := [
 X.o 2 (.move (X.i 4))]
def C.q25_r6 : List IOper := C.q25_r6_b
def C.q25_r6_w := @aopsE _ _ C.q25_r6.eq_1
def C.q25_c6 : ICode := .seq (.region C.q25_r6) .ret
def C.q25_c6_w := @awpE _ _ C.q25_c6.eq_1
def C.q25_c7 : ICode := .keep [1, 3, 4, 28] (.cond (X.s 28) C.q25_c6 .skip)
def C.q25_c7_w := @awpE _ _ C.q25_c7.eq_1
def C.q25_r5_b : List IOper := [
 X.o 17 (.fldAddr 0 (X.s 4)),
 X.o 18 (.load1 (X.s 17)),
 X.o 19 (.bin .neq (X.s 18) (X.i (-1))),
 X.m 20 19,
 X.t 20 21 (.fldAddr 0 (X.s 4)),
 X.t 20 22 (.load1 (X.s 21)),
 X.t 20 23 (.fldAddr 1 (X.s 1)),
 X.t 20 24 (.load1 (X.s 23)),
 X.t 20 25 (.len (X.s 24)),
 X.t 20 26 (.call F.q26 [X.s 22, X.s 25]),
 X.t 20 27 (.un .not (X.s 26)),
 X.o 28 (.pick (X.s 20) (X.s 27) (.cst (.bool false)))]
def C.q25_r5 : List IOper := C.q25_r5_b
def C.q25_r5_w := @aopsE _ _ C.q25_r5.eq_1
def C.q25_c8 : ICode := .keep [1, 3, 4] (.seq (.seq (.region C.q25_r5) C.q25_c7) C.q25_c5)
def C.q25_c8_w := @awpE _ _ C.q25_c8.eq_1
def C.q25_r4_b : List IOper := [
 X.o 12 (.fldAddr 1 (X.s 1)),
 X.o 13 (.load1 (X.s 12)),
 X.m 14 3,
 X.o 15 (.idxAddr 3 (X.s 13) (X.s 14)),
 X.o 16 (.loadN 3 (X.s 15)),
 X.o 4 (.alloc [.int .i64 0, .int .i64 0, .bool false]),
 X.n (.storeN 3 (X.s 4) (X.s 16))]
def C.q25_r4 : List IOper := C.q25_r4_b
def C.q25_r4_w := @aopsE _ _ C.q25_r4.eq_1
def C.q25_b9 : ICode := .seq (.region C.q25_r4) C.q25_c8
def C.q25_b9_w := @awpE _ _ C.q25_b9.eq_1
def C.q25_c10 : ICode := .keep [1, 3] (.seq (.block 1 C.q25_b9) C.q25_c2)
def C.q25_c10_w := @awpE _ _ C.q25_c10.eq_1
def C.q25_c11 : ICode := .keep [1, 3, 9] (.cond (X.s 9) .skip (.exit 0))
def C.q25_c11_w := @awpE _ _ C.q25_c11.eq_1
def C.q25_r2_b : List IOper := [
 X.m 5 3,
 X.o 6 (.fldAddr 1 (X.s 1)),
 X.o 7 (.load1 (X.s 6)),
 X.o 8 (.len (X.s 7)),
 X.o 9 (.bin .lss (X.s 5) (X.s 8))]
def C.q25_r2 : List IOper := C.q25_r2_b
def C.q25_r2_w := @aopsE _ _ C.q25_r2.eq_1
def C.q25_l12 : ICode := .keep [1, 3] (.seq (.seq (.region C.q25_r2) C.q25_c11) C.q25_c10)
def C.q25_l12_w := @awpE _ _ C.q25_l12.eq_1
def C.q25_b13 : ICode := .loop C.q25_l12
def C.q25_b13_w := @awpE _ _ C.q25_b13.eq_1
def C.q25_c14 : ICode := .keep [1, 3] (.block 0 C.q25_b13)
def C.q25_c14_w := @awpE _ _ C.q25_c14.eq_1
def C.q25_r1_b : List IOper := [
 X.o 3 (.move (X.i 0))]
def C.q25_r1 : List IOper := C.q25_r1_b
def C.q25_r1_w := @aopsE _ _ C.q25_r1.eq_1
def C.q25_c15 : ICode := .keep [1] (.seq (.seq (.region C.q25_r1) C.q25_c14) C.q25_c1)
def C.q25_c15_w := @awpE _ _ C.q25_c15.eq_1
def C.q25_r0_b : List IOper := [
 X.o 1 (.boxN (X.s 0)),
 X.o 2 (.move (X.i 0))]
def C.q25_r0 : List IOper := C.q25_r0_b
def C.q25_r0_w := @aopsE _ _ C.q25_r0.eq_1
def C.q25 : IFunc := ⟨1, [.slot 2], .seq (.region C.q25_r0) C.q25_c15⟩
def C.q25_W := And.intro (And.intro (And.intro (And.intro @C.q25_r9_w (And.intro @C.q25_c1_w @C.q25_r3_w)) (And.intro @C.q25_c2_w (And.intro @C.q25_r8_w @C.q25_c3_w))) (And.intro (And.intro @C.q25_c4_w (And.intro @C.q25_r7_w @C.q25_c5_w)) (And.intro @C.q25_r6_w (And.intro @C.q25_c6_w @C.q25_c7_w)))) (And.intro (And.intro (And.intro @C.q25_r5_w (And.intro @C.q25_c8_w @C.q25_r4_w)) (And.intro @C.q25_b9_w (And.intro @C.q25_c10_w @C.q25_c11_w))) (And.intro (And.intro @C.q25_r2_w (And.intro @C.q25_b13_w @C.q25_c14_w)) (And.intro @C.q25_r1_w (And.intro @C.q25_c15_w @C.q25_r0_w))))
def C.q25_B := And.intro (And.intro (And.intro @C.q25_r9_b.eq_1 @C.q25_r3_b.eq_1) (And.intro @C.q25_r8_b.eq_1 (And.intro @C.q25_r7_b.eq_1 @C.q25_r6_b.eq_1))) (And.intro (And.intro @C.q25_r5_b.eq_1 @C.q25_r4_b.eq_1) (And.intro @C.q25_r2_b.eq_1 (And.intro @C.q25_r1_b.eq_1 @C.q25_r0_b.eq_1)))

def C.q27_r1_b : List IOper := [
 X.m 7 0,
 X.m 8 1,
 X.o 9 (.bin .geq (X.s 7) (X.s 8)),
 X.m 10 9,
 X.t 10 11 (.move (X.s 0)),
 X.t 10 12 (.move (X.s 2)),
 X.t 10 13 (.bin .leq (X.s 11) (X.s 12)),
 X.o 14 (.pick (X.s 10) (X.s 13) (.cst (.bool false))),
 X.m 6 14]
def C.q27_r1 : List IOper := C.q27_r1_b
def C.q27_r1_w := @aopsE _ _ C.q27_r1.eq_1
def C.q27_c1 : ICode := .keep [0, 1, 2] (.seq (.region C.q27_r1) .ret)
def C.q27_c1_w := @awpE _ _ C.q27_c1.eq_1
def C.q27_r0_b : List IOper := [
 X.o 6 (.move (.cst (.bool false)))]
def C.q27_r0 : List IOper := C.q27_r0_b
def C.q27_r0_w := @aopsE _ _ C.q27_r0.eq_1
def C.q27 : IFunc := ⟨3, [.slot 6], .seq (.region C.q27_r0) C.q27_c1⟩
def C.q27_W := And.intro @C.q27_r1_w (And.intro @C.q27_c1_w @C.q27_r0_w)
def C.q27_B := And.intro @C.q27_r1_b.eq_1 @C.q27_r0_b.eq_1

def C.q24_r12_b : List IOper := [
 X.o 60 (.loadN 4 (X.s 1)),
 X.o 61 (.call F.q20 [X.s 60]),
 X.o 62 (.call F.q15 [X.s 61]),
 X.m 2 62]
def C.q24_r12 : List IOper := C.q24_r12_b
def C.q24_r12_w := @aopsE _ _ C.q24_r12.eq_1
def C.q24_c1 : ICode := .keep [1] (.seq (.region C.q24_r12) .ret)
def C.q24_c1_w := @awpE _ _ C.q24_c1.eq_1
def C.q24_r3_b : List IOper := [
 X.m 11 3,
 X.o 12 (.bin .add (X.s 11) (X.i 1)),
 X.m 3 12]
def C.q24_r3 : List IOper := C.q24_r3_b
def C.q24_r3_w := @aopsE _ _ C.q24_r3.eq_1
def C.q24_c2 : ICode := .keep [1, 3] (.region C.q24_r3)
def C.q24_c2_w := @awpE _ _ C.q24_c2.eq_1
def C.q24_r9_b : List IOper := [
 X.m 48 5,
 X.o 49 (.bin .add (X.s 48) (X.i 1)),
 X.m 5 49]
def C.q24_r9 : List IOper := C.q24_r9_b
def C.q24_r9_w := @aopsE _ _ C.q24_r9.eq_1
def C.q24_c3 : ICode := .keep [1, 3, 4, 5] (.region C.q24_r9)
def C.q24_c3_w := @awpE _ _ C.q24_c3.eq_1
def C.q24_r11_b : List IOper := [
 X.o 2 (.move (X.i 4))]
def C.q24_r11 : List IOper := C.q24_r11_b
def C.q24_r11_w := @aopsE _ _ C.q24_r11.eq_1
def C.q24_c4 : ICode := .seq (.region C.q24_r11) .ret
def C.q24_c4_w := @awpE _ _ C.q24_c4.eq_1
def C.q24_c5 : ICode := .keep [1, 3, 4, 5, 59] (.cond (X.s 59) C.q24_c4 .skip)
def C.q24_c5_w := @awpE _ _ C.q24_c5.eq_1
def C.q24_r10_b : List IOper := [
 X.o 50 (.fldAddr 5 (X.s 4)),
 X.o 51 (.load1 (X.s 50)),
 X.m 52 5,
 X.o 53 (.idxAddr 1 (X.s 51) (X.s 52)),
 X.o 54 (.load1 (X.s 53)),
 X.o 55 (.fldAddr 3 (X.s 1)),
 X.o 56 (.load1 (X.s 55)),
 X.o 57 (.len (X.s 56)),
 X.o 58 (.call F.q26 [X.s 54, X.s 57]),
 X.o 59 (.un .not (X.s 58))]
def C.q24_r10 : List IOper := C.q24_r10_b
def C.q24_r10_w := @aopsE _ _ C.q24_r10.eq_1
def C.q24_b6 : ICode := .seq (.region C.q24_r10) C.q24_c5
def C.q24_b6_w := @awpE _ _ C.q24_b6.eq_1
def C.q24_c7 : ICode := .keep [1, 3, 4, 5] (.seq (.block 3 C.q24_b6) C.q24_c3)
def C.q24_c7_w := @awpE _ _ C.q24_c7.eq_1
def C.q24_c8 : ICode := .keep [1, 3, 4, 5, 47] (.cond (X.s 47) .skip (.exit 2))
def C.q24_c8_w := @awpE _ _ C.q24_c8.eq_1
def C.q24_r8_b : List IOper := [
 X.m 43 5,
 X.o 44 (.fldAddr 5 (X.s 4)),
 X.o 45 (.load1 (X.s 44)),
 X.o 46 (.len (X.s 45)),
 X.o 47 (.bin .lss (X.s 43) (X.s 46))]
def C.q24_r8 : List IOper := C.q24_r8_b
def C.q24_r8_w := @aopsE _ _ C.q24_r8.eq_1
def C.q24_l9 : ICode := .keep [1, 3, 4, 5] (.seq (.seq (.region C.q24_r8) C.q24_c8) C.q24_c7)
def C.q24_l9_w := @awpE _ _ C.q24_l9.eq_1
def C.q24_b10 : ICode := .loop C.q24_l9
def C.q24_b10_w := @awpE _ _ C.q24_b10.eq_1
def C.q24_c11 : ICode := .keep [1, 3, 4, 5] (.block 2 C.q24_b10)
def C.q24_c11_w := @awpE _ _ C.q24_c11.eq_1
def C.q24_r7_b : List IOper := [
 X.o 5 (.move (X.i 0))]
def C.q24_r7 : List IOper := C.q24_r7_b
def C.q24_r7_w := @aopsE _ _ C.q24_r7.eq_1
def C.q24_c12 : ICode := .keep [1, 3, 4] (.seq (.region C.q24_r7) C.q24_c11)
def C.q24_c12_w := @awpE _ _ C.q24_c12.eq_1
def C.q24_r6_b : List IOper := [
 X.o 2 (.move (X.i 4))]
def C.q24_r6 : List IOper := C.q24_r6_b
def C.q24_r6_w := @aopsE _ _ C.q24_r6.eq_1
def C.q24_c13 : ICode := .seq (.region C.q24_r6) .ret
def C.q24_c13_w := @awpE _ _ C.q24_c13.eq_1
def C.q24_c14 : ICode := .keep [1, 3, 4, 42] (.cond (X.s 42) C.q24_c13 .skip)
def C.q24_c14_w := @awpE _ _ C.q24_c14.eq_1
def C.q24_r5_b : List IOper := [
 X.o 18 (.fldAddr 0 (X.s 4)),
 X.o 19 (.load1 (X.s 18)),
 X.o 20 (.fldAddr 0 (X.s 1)),
 X.o 21 (.load1 (X.s 20)),
 X.o 22 (.len (X.s 21)),
 X.o 23 (.call F.q26 [X.s 19, X.s 22]),
 X.o 24 (.un .not (X.s 23)),
 X.m 25 24,
 X.f 25 26 (.fldAddr 1 (X.s 4)),
 X.f 25 27 (.load1 (X.s 26)),
 X.f 25 28 (.fldAddr 1 (X.s 1)),
 X.f 25 29 (.load1 (X.s 28)),
 X.f 25 30 (.len (X.s 29)),
 X.f 25 31 (.call F.q26 [X.s 27, X.s 30]),
 X.f 25 32 (.un .not (X.s 31)),
 X.o 33 (.pick (X.s 25) (.cst (.bool true)) (X.s 32)),
 X.m 34 33,
 X.f 34 35 (.fldAddr 2 (X.s 4)),
 X.f 34 36 (.load1 (X.s 35)),
 X.f 34 37 (.fldAddr 2 (X.s 1)),
 X.f 34 38 (.load1 (X.s 37)),
 X.f 34 39 (.len (X.s 38)),
 X.f 34 40 (.call F.q26 [X.s 36, X.s 39]),
 X.f 34 41 (.un .not (X.s 40)),
 X.o 42 (.pick (X.s 34) (.cst (.bool true)) (X.s 41))]
def C.q24_r5 : List IOper := C.q24_r5_b
def C.q24_r5_w := @aopsE _ _ C.q24_r5.eq_1
def C.q24_c15 : ICode := .keep [1, 3, 4] (.seq (.seq (.region C.q24_r5) C.q24_c14) C.q24_c12)
def C.q24_c15_w := @awpE _ _ C.q24_c15.eq_1
def C.q24_r4_b : List IOper := [
 X.o 13 (.fldAddr 3 (X.s 1)),
 X.o 14 (.load1 (X.s 13)),
 X.m 15 3,
 X.o 16 (.idxAddr 6 (X.s 14) (X.s 15)),
 X.o 17 (.loadN 6 (X.s 16)),
 X.o 4 (.alloc [.int .i64 0, .int .i64 0, .int .i64 0, .int .u32 0, .nils, .nils]),
 X.n (.storeN 6 (X.s 4) (X.s 17))]
def C.q24_r4 : List IOper := C.q24_r4_b
def C.q24_r4_w := @aopsE _ _ C.q24_r4.eq_1
def C.q24_b16 : ICode := .seq (.region C.q24_r4) C.q24_c15
def C.q24_b16_w := @awpE _ _ C.q24_b16.eq_1
def C.q24_c17 : ICode := .keep [1, 3] (.seq (.block 1 C.q24_b16) C.q24_c2)
def C.q24_c17_w := @awpE _ _ C.q24_c17.eq_1
def C.q24_c18 : ICode := .keep [1, 3, 10] (.cond (X.s 10) .skip (.exit 0))
def C.q24_c18_w := @awpE _ _ C.q24_c18.eq_1
def C.q24_r2_b : List IOper := [
 X.m 6 3,
 X.o 7 (.fldAddr 3 (X.s 1)),
 X.o 8 (.load1 (X.s 7)),
 X.o 9 (.len (X.s 8)),
 X.o 10 (.bin .lss (X.s 6) (X.s 9))]
def C.q24_r2 : List IOper := C.q24_r2_b
def C.q24_r2_w := @aopsE _ _ C.q24_r2.eq_1
def C.q24_l19 : ICode := .keep [1, 3] (.seq (.seq (.region C.q24_r2) C.q24_c18) C.q24_c17)
def C.q24_l19_w := @awpE _ _ C.q24_l19.eq_1
def C.q24_b20 : ICode := .loop C.q24_l19
def C.q24_b20_w := @awpE _ _ C.q24_b20.eq_1
def C.q24_c21 : ICode := .keep [1, 3] (.block 0 C.q24_b20)
def C.q24_c21_w := @awpE _ _ C.q24_c21.eq_1
def C.q24_r1_b : List IOper := [
 X.o 3 (.move (X.i 0))]
def C.q24_r1 : List IOper := C.q24_r1_b
def C.q24_r1_w := @aopsE _ _ C.q24_r1.eq_1
def C.q24_c22 : ICode := .keep [1] (.seq (.seq (.region C.q24_r1) C.q24_c21) C.q24_c1)
def C.q24_c22_w := @awpE _ _ C.q24_c22.eq_1
def C.q24_r0_b : List IOper := [
 X.o 1 (.boxN (X.s 0)),
 X.o 2 (.move (X.i 0))]
def C.q24_r0 : List IOper := C.q24_r0_b
def C.q24_r0_w := @aopsE _ _ C.q24_r0.eq_1
def C.q24 : IFunc := ⟨1, [.slot 2], .seq (.region C.q24_r0) C.q24_c22⟩
def C.q24_W := And.intro (And.intro (And.intro (And.intro (And.intro @C.q24_r12_w @C.q24_c1_w) (And.intro @C.q24_r3_w @C.q24_c2_w)) (And.intro (And.intro @C.q24_r9_w @C.q24_c3_w) (And.intro @C.q24_r11_w @C.q24_c4_w))) (And.intro (And.intro (And.intro @C.q24_c5_w @C.q24_r10_w) (And.intro @C.q24_b6_w @C.q24_c7_w)) (And.intro (And.intro @C.q24_c8_w @C.q24_r8_w) (And.intro @C.q24_b10_w @C.q24_c11_w)))) (And.intro (And.intro (And.intro (And.intro @C.q24_r7_w @C.q24_c12_w) (And.intro @C.q24_r6_w @C.q24_c13_w)) (And.intro (And.intro @C.q24_c14_w @C.q24_r5_w) (And.intro @C.q24_c15_w @C.q24_r4_w))) (And.intro (And.intro (And.intro @C.q24_b16_w @C.q24_c17_w) (And.intro @C.q24_c18_w @C.q24_r2_w)) (And.intro (And.intro @C.q24_b20_w @C.q24_c21_w) (And.intro @C.q24_r1_w (And.intro @C.q24_c22_w @C.q24_r0_w)))))
def C.q24_B := And.intro (And.intro (And.intro @C.q24_r12_b.eq_1 (And.intro @C.q24_r3_b.eq_1 @C.q24_r9_b.eq_1)) (And.intro @C.q24_r11_b.eq_1 (And.intro @C.q24_r10_b.eq_1 @C.q24_r8_b.eq_1))) (And.intro (And.intro @C.q24_r7_b.eq_1 (And.intro @C.q24_r6_b.eq_1 @C.q24_r5_b.eq_1)) (And.intro (And.intro @C.q24_r4_b.eq_1 @C.q24_r2_b.eq_1) (And.intro @C.q24_r1_b.eq_1 @C.q24_r0_b.eq_1)))

def C.q84_r20_b : List IOper := [
 X.m 73 8,
 X.m 2 73,
 X.o 3 (.move (X.i 0))]
def C.q84_r20 : List IOper := C.q84_r20_b
def C.q84_r20_w := @aopsE _ _ C.q84_r20.eq_1
def C.q84_c1 : ICode := .keep [8] (.seq (.region C.q84_r20) .ret)
def C.q84_c1_w := @awpE _ _ C.q84_c1.eq_1
def C.q84_r19_b : List IOper := [
 X.o 72 (.bin .add (X.s 62) (X.i 1)),
 X.m 62 72]
def C.q84_r19 : List IOper := C.q84_r19_b
def C.q84_r19_w := @aopsE _ _ C.q84_r19.eq_1
def C.q84_c2 : ICode := .keep [0, 5, 6, 7, 8, 60, 61, 62] (.region C.q84_r19)
def C.q84_c2_w := @awpE _ _ C.q84_c2.eq_1
def C.q84_r18_b : List IOper := [
 X.m 66 5,
 X.m 67 11,
 X.o 68 (.idxAddr 1 (X.s 66) (X.s 67)),
 X.o 69 (.load1 (X.s 68)),
 X.o 70 (.bin .sub (X.s 69) (X.i 1)),
 X.o 71 (.idxAddr 1 (X.s 66) (X.s 67)),
 X.n (.store1 (X.s 71) (X.s 70))]
def C.q84_r18 : List IOper := C.q84_r18_b
def C.q84_r18_w := @aopsE _ _ C.q84_r18.eq_1
def C.q84_c3 : ICode := .keep [0, 5, 6, 7, 8, 11, 60, 61, 62] (.region C.q84_r18)
def C.q84_c3_w := @awpE _ _ C.q84_c3.eq_1
def C.q84_r17_b : List IOper := [
 X.o 64 (.idxAddr 1 (X.s 60) (X.s 62)),
 X.o 65 (.load1 (X.s 64)),
 X.m 11 65]
def C.q84_r17 : List IOper := C.q84_r17_b
def C.q84_r17_w := @aopsE _ _ C.q84_r17.eq_1
def C.q84_b4 : ICode := .seq (.region C.q84_r17) C.q84_c3
def C.q84_b4_w := @awpE _ _ C.q84_b4.eq_1
def C.q84_c5 : ICode := .keep [0, 5, 6, 7, 8, 60, 61, 62] (.seq (.block 5 C.q84_b4) C.q84_c2)
def C.q84_c5_w := @awpE _ _ C.q84_c5.eq_1
def C.q84_c6 : ICode := .keep [0, 5, 6, 7, 8, 60, 61, 62, 63] (.seq (.cond (X.s 63) .skip (.exit 4)) C.q84_c5)
def C.q84_c6_w := @awpE _ _ C.q84_c6.eq_1
def C.q84_r16_b : List IOper := [
 X.o 63 (.bin .lss (X.s 62) (X.s 61))]
def C.q84_r16 : List IOper := C.q84_r16_b
def C.q84_r16_w := @aopsE _ _ C.q84_r16.eq_1
def C.q84_l7 : ICode := .keep [0, 5, 6, 7, 8, 60, 61, 62] (.seq (.region C.q84_r16) C.q84_c6)
def C.q84_l7_w := @awpE _ _ C.q84_l7.eq_1
def C.q84_b8 : ICode := .loop C.q84_l7
def C.q84_b8_w := @awpE _ _ C.q84_b8.eq_1
def C.q84_c9 : ICode := .keep [0, 5, 6, 7, 8, 60, 61, 62] (.block 4 C.q84_b8)
def C.q84_c9_w := @awpE _ _ C.q84_c9.eq_1
def C.q84_r15_b : List IOper := [
 X.m 57 6,
 X.m 58 9,
 X.o 59 (.idxAddr 1 (X.s 57) (X.s 58)),
 X.o 60 (.load1 (X.s 59)),
 X.o 61 (.len (X.s 60)),
 X.o 62 (.move (X.i 0))]
def C.q84_r15 : List IOper := C.q84_r15_b
def C.q84_r15_w := @aopsE _ _ C.q84_r15.eq_1
def C.q84_c10 : ICode := .keep [0, 5, 6, 7, 8, 9] (.seq (.region C.q84_r15) C.q84_c9)
def C.q84_c10_w := @awpE _ _ C.q84_c10.eq_1
def C.q84_r14_b : List IOper := [
 X.m 53 8,
 X.m 54 9,
 X.o 55 (.buildSlice 1 1 [.int .i64 0] [(0, 1, X.s 54)]),
 X.o 56 (.append 1 8 (X.s 53) (X.s 55)),
 X.m 8 56]
def C.q84_r14 : List IOper := C.q84_r14_b
def C.q84_r14_w := @aopsE _ _ C.q84_r14.eq_1
def C.q84_c11 : ICode := .keep [0, 5, 6, 7, 8, 9] (.seq (.region C.q84_r14) C.q84_c10)
def C.q84_c11_w := @awpE _ _ C.q84_c11.eq_1
def C.q84_r13_b : List IOper := [
 X.m 50 7,
 X.m 51 9,
 X.o 52 (.call F.q86 [X.s 50, X.s 51])]
def C.q84_r13 : List IOper := C.q84_r13_b
def C.q84_r13_w := @aopsE _ _ C.q84_r13.eq_1
def C.q84_c12 : ICode := .keep [0, 5, 6, 7, 8, 9] (.seq (.region C.q84_r13) C.q84_c11)
def C.q84_c12_w := @awpE _ _ C.q84_c12.eq_1
def C.q84_r12_b : List IOper := [
 X.o 2 (.move (.cst (.nils))),
 X.o 3 (.move (X.i 5))]
def C.q84_r12 : List IOper := C.q84_r12_b
def C.q84_r12_w := @aopsE _ _ C.q84_r12.eq_1
def C.q84_c13 : ICode := .seq (.region C.q84_r12) .ret
def C.q84_c13_w := @awpE _ _ C.q84_c13.eq_1
def C.q84_c14 : ICode := .keep [0, 5, 6, 7, 8, 9, 49] (.cond (X.s 49) C.q84_c13 .skip)
def C.q84_c14_w := @awpE _ _ C.q84_c14.eq_1
def C.q84_r11_b : List IOper := [
 X.m 46 9,
 X.m 47 0,
 X.o 48 (.len (X.s 47)),
 X.o 49 (.bin .eql (X.s 46) (X.s 48))]
def C.q84_r11 : List IOper := C.q84_r11_b
def C.q84_r11_w := @aopsE _ _ C.q84_r11.eq_1
def C.q84_c15 : ICode := .keep [0, 5, 6, 7, 8, 9] (.seq (.seq (.region C.q84_r11) C.q84_c14) C.q84_c12)
def C.q84_c15_w := @awpE _ _ C.q84_c15.eq_1
def C.q84_r10_b : List IOper := [
 X.m 44 9,
 X.o 45 (.bin .add (X.s 44) (X.i 1)),
 X.m 9 45]
def C.q84_r10 : List IOper := C.q84_r10_b
def C.q84_r10_w := @aopsE _ _ C.q84_r10.eq_1
def C.q84_b16 : ICode := .region C.q84_r10
def C.q84_b16_w := @awpE _ _ C.q84_b16.eq_1
def C.q84_c17 : ICode := .keep [0, 5, 6, 7, 8, 9] (.block 3 C.q84_b16)
def C.q84_c17_w := @awpE _ _ C.q84_c17.eq_1
def C.q84_c18 : ICode := .keep [0, 5, 6, 7, 8, 9, 43] (.cond (X.s 43) .skip (.exit 2))
def C.q84_c18_w := @awpE _ _ C.q84_c18.eq_1
def C.q84_r9_b : List IOper := [
 X.m 28 9,
 X.m 29 0,
 X.o 30 (.len (X.s 29)),
 X.o 31 (.bin .lss (X.s 28) (X.s 30)),
 X.m 32 31,
 X.t 32 33 (.move (X.s 7)),
 X.t 32 34 (.move (X.s 9)),
 X.t 32 35 (.call F.q87 [X.s 33, X.s 34]),
 X.t 32 36 (.move (X.s 35)),
 X.f 36 37 (.move (X.s 5)),
 X.f 36 38 (.move (X.s 9)),
 X.f 36 39 (.idxAddr 1 (X.s 37) (X.s 38)),
 X.f 36 40 (.load1 (X.s 39)),
 X.f 36 41 (.bin .gtr (X.s 40) (X.i 0)),
 X.t 32 42 (.pick (X.s 36) (.cst (.bool true)) (X.s 41)),
 X.o 43 (.pick (X.s 32) (X.s 42) (.cst (.bool false)))]
def C.q84_r9 : List IOper := C.q84_r9_b
def C.q84_r9_w := @aopsE _ _ C.q84_r9.eq_1
def C.q84_l19 : ICode := .keep [0, 5, 6, 7, 8, 9] (.seq (.seq (.region C.q84_r9) C.q84_c18) C.q84_c17)
def C.q84_l19_w := @awpE _ _ C.q84_l19.eq_1
def C.q84_b20 : ICode := .loop C.q84_l19
def C.q84_b20_w := @awpE _ _ C.q84_b20.eq_1
def C.q84_c21 : ICode := .keep [0, 5, 6, 7, 8, 9] (.seq (.block 2 C.q84_b20) C.q84_c15)
def C.q84_c21_w := @awpE _ _ C.q84_c21.eq_1
def C.q84_r8_b : List IOper := [
 X.o 9 (.move (X.i 0))]
def C.q84_r8 : List IOper := C.q84_r8_b
def C.q84_r8_w := @aopsE _ _ C.q84_r8.eq_1
def C.q84_b22 : ICode := .seq (.region C.q84_r8) C.q84_c21
def C.q84_b22_w := @awpE _ _ C.q84_b22.eq_1
def C.q84_c23 : ICode := .keep [0, 5, 6, 7, 8] (.block 1 C.q84_b22)
def C.q84_c23_w := @awpE _ _ C.q84_c23.eq_1
def C.q84_c24 : ICode := .keep [0, 5, 6, 7, 8, 27] (.cond (X.s 27) .skip (.exit 0))
def C.q84_c24_w := @awpE _ _ C.q84_c24.eq_1
def C.q84_r7_b : List IOper := [
 X.m 23 8,
 X.o 24 (.len (X.s 23)),
 X.m 25 0,
 X.o 26 (.len (X.s 25)),
 X.o 27 (.bin .lss (X.s 24) (X.s 26))]
def C.q84_r7 : List IOper := C.q84_r7_b
def C.q84_r7_w := @aopsE _ _ C.q84_r7.eq_1
def C.q84_l25 : ICode := .keep [0, 5, 6, 7, 8] (.seq (.seq (.region C.q84_r7) C.q84_c24) C.q84_c23)
def C.q84_l25_w := @awpE _ _ C.q84_l25.eq_1
def C.q84_b26 : ICode := .loop C.q84_l25
def C.q84_b26_w := @awpE _ _ C.q84_b26.eq_1
def C.q84_c27 : ICode := .keep [0, 5, 6, 7, 8] (.seq (.block 0 C.q84_b26) C.q84_c1)
def C.q84_c27_w := @awpE _ _ C.q84_c27.eq_1
def C.q84_r6_b : List IOper := [
 X.o 8 (.move (.cst (.nils)))]
def C.q84_r6 : List IOper := C.q84_r6_b
def C.q84_r6_w := @aopsE _ _ C.q84_r6.eq_1
def C.q84_c28 : ICode := .keep [0, 5, 6, 7] (.seq (.region C.q84_r6) C.q84_c27)
def C.q84_c28_w := @awpE _ _ C.q84_c28.eq_1
def C.q84_r5_b : List IOper := [
 X.o 22 (.makeMap none),
 X.m 7 22]
def C.q84_r5 : List IOper := C.q84_r5_b
def C.q84_r5_w := @aopsE _ _ C.q84_r5.eq_1
def C.q84_c29 : ICode := .keep [0, 5, 6] (.seq (.region C.q84_r5) C.q84_c28)
def C.q84_c29_w := @awpE _ _ C.q84_c29.eq_1
def C.q84_r4_b : List IOper := [
 X.m 18 0,
 X.o 19 (.call F.q85 [X.s 18]),
 X.m 17 19,
 X.o 20 (.extract (X.s 17) 0),
 X.o 21 (.extract (X.s 17) 1),
 X.m 5 20,
 X.m 6 21]
def C.q84_r4 : List IOper := C.q84_r4_b
def C.q84_r4_w := @aopsE _ _ C.q84_r4.eq_1
def C.q84_c30 : ICode := .keep [0] (.seq (.region C.q84_r4) C.q84_c29)
def C.q84_c30_w := @awpE _ _ C.q84_c30.eq_1
def C.q84_r3_b : List IOper := [
 X.m 16 4,
 X.o 2 (.move (.cst (.nils))),
 X.m 3 16]
def C.q84_r3 : List IOper := C.q84_r3_b
def C.q84_r3_w := @aopsE _ _ C.q84_r3.eq_1
def C.q84_c31 : ICode := .seq (.region C.q84_r3) .ret
def C.q84_c31_w := @awpE _ _ C.q84_c31.eq_1
def C.q84_c32 : ICode := .keep [0, 4, 15] (.cond (X.s 15) C.q84_c31 .skip)
def C.q84_c32_w := @awpE _ _ C.q84_c32.eq_1
def C.q84_r2_b : List IOper := [
 X.m 14 4,
 X.o 15 (.bin .neq (X.s 14) (X.i 0))]
def C.q84_r2 : List IOper := C.q84_r2_b
def C.q84_r2_w := @aopsE _ _ C.q84_r2.eq_1
def C.q84_c33 : ICode := .keep [0, 4] (.seq (.region C.q84_r2) C.q84_c32)
def C.q84_c33_w := @awpE _ _ C.q84_c33.eq_1
def C.q84_r1_b : List IOper := [
 X.m 12 0,
 X.o 13 (.call F.q88 [X.s 12]),
 X.m 4 13]
def C.q84_r1 : List IOper := C.q84_r1_b
def C.q84_r1_w := @aopsE _ _ C.q84_r1.eq_1
def C.q84_c34 : ICode := .keep [0] (.seq (.seq (.region C.q84_r1) C.q84_c33) C.q84_c30)
def C.q84_c34_w := @awpE _ _ C.q84_c34.eq_1
def C.q84_r0_b : List IOper := [
 X.o 2 (.move (.cst (.nils))),
 X.o 3 (.move (X.i 0))]
def C.q84_r0 : List IOper := C.q84_r0_b
def C.q84_r0_w := @aopsE _ _ C.q84_r0.eq_1
def C.q84 : IFunc := ⟨1, [.slot 2, .slot 3], .seq (.region C.q84_r0) C.q84_c34⟩
def C.q84_W := And.intro (And.intro (And.intro (And.intro (And.intro @C.q84_r20_w (And.intro @C.q84_c1_w @C.q84_r19_w)) (And.intro @C.q84_c2_w (And.intro @C.q84_r18_w @C.q84_c3_w))) (And.intro (And.intro @C.q84_r17_w (And.intro @C.q84_b4_w @C.q84_c5_w)) (And.intro (And.intro @C.q84_c6_w @C.q84_r16_w) (And.intro @C.q84_b8_w @C.q84_c9_w)))) (And.intro (And.intro (And.intro @C.q84_r15_w (And.intro @C.q84_c10_w @C.q84_r14_w)) (And.intro @C.q84_c11_w (And.intro @C.q84_r13_w @C.q84_c12_w))) (And.intro (And.intro @C.q84_r12_w (And.intro @C.q84_c13_w @C.q84_c14_w)) (And.intro (And.intro @C.q84_r11_w @C.q84_c15_w) (And.intro @C.q84_r10_w @C.q84_b16_w))))) (And.intro (And.intro (And.intro (And.intro @C.q84_c17_w (And.intro @C.q84_c18_w @C.q84_r9_w)) (And.intro @C.q84_b20_w (And.intro @C.q84_c21_w @C.q84_r8_w))) (And.intro (And.intro @C.q84_b22_w (And.intro @C.q84_c23_w @C.q84_c24_w)) (And.intro (And.intro @C.q84_r7_w @C.q84_b26_w) (And.intro @C.q84_c27_w @C.q84_r6_w)))) (And.intro (And.intro (And.intro @C.q84_c28_w (And.intro @C.q84_r5_w @C.q84_c29_w)) (And.intro @C.q84_r4_w (And.intro @C.q84_c30_w @C.q84_r3_w))) (And.intro (And.intro @C.q84_c31_w (And.intro @C.q84_c32_w @C.q84_r2_w)) (And.intro (And.intro @C.q84_c33_w @C.q84_r1_w) (And.intro @C.q84_c34_w @C.q84_r0_w)))))
def C.q84_B := And.intro (And.intro (And.intro (And.intro @C.q84_r20_b.eq_1 @C.q84_r19_b.eq_1) (And.intro @C.q84_r18_b.eq_1 (And.intro @C.q84_r17_b.eq_1 @C.q84_r16_b.eq_1))) (And.intro (And.intro @C.q84_r15_b.eq_1 @C.q84_r14_b.eq_1) (And.intro @C.q84_r13_b.eq_1 (And.intro @C.q84_r12_b.eq_1 @C.q84_r11_b.eq_1)))) (And.intro (And.intro (And.intro @C.q84_r10_b.eq_1 @C.q84_r9_b.eq_1) (And.intro @C.q84_r8_b.eq_1 (And.intro @C.q84_r7_b.eq_1 @C.q84_r6_b.eq_1))) (And.intro (And.intro @C.q84_r5_b.eq_1 (And.intro @C.q84_r4_b.eq_1 @C.q84_r3_b.eq_1)) (And.intro @C.q84_r2_b.eq_1 (And.intro @C.q84_r1_b.eq_1 @C.q84_r0_b.eq_1))))

def C.q21_r16_b : List IOper := [
 X.o 4 (.move (X.i 0))]
def C.q21_r16 : List IOper := C.q21_r16_b
def C.q21_r16_w := @aopsE _ _ C.q21_r16.eq_1
def C.q21_c1 : ICode := .keep [] (.seq (.region C.q21_r16) .ret)
def C.q21_c1_w := @awpE _ _ C.q21_c1.eq_1
def C.q21_r15_b : List IOper := [
 X.o 4 (.move (X.i 3))]
def C.q21_r15 : List IOper := C.q21_r15_b
def C.q21_r15_w := @aopsE _ _ C.q21_r15.eq_1
def C.q21_c2 : ICode := .seq (.region C.q21_r15) .ret
def C.q21_c2_w := @awpE _ _ C.q21_c2.eq_1
def C.q21_c3 : ICode := .keep [103] (.cond (X.s 103) C.q21_c2 .skip)
def C.q21_c3_w := @awpE _ _ C.q21_c3.eq_1
def C.q21_r14_b : List IOper := [
 X.o 95 (.fldAddr 0 (X.s 2)),
 X.o 96 (.load1 (X.s 95)),
 X.o 97 (.bin .eql (X.s 96) (.cst (.int .u8 100))),
 X.m 98 97,
 X.t 98 99 (.fldAddr 4 (X.s 2)),
 X.t 98 100 (.load1 (X.s 99)),
 X.t 98 101 (.call F.q27 [X.s 100, X.i 1, X.i 1000]),
 X.t 98 102 (.un .not (X.s 101)),
 X.o 103 (.pick (X.s 98) (X.s 102) (.cst (.bool false)))]
def C.q21_r14 : List IOper := C.q21_r14_b
def C.q21_r14_w := @aopsE _ _ C.q21_r14.eq_1
def C.q21_c4 : ICode := .keep [2] (.seq (.seq (.region C.q21_r14) C.q21_c3) C.q21_c1)
def C.q21_c4_w := @awpE _ _ C.q21_c4.eq_1
def C.q21_r13_b : List IOper := [
 X.o 4 (.move (X.i 3))]
def C.q21_r13 : List IOper := C.q21_r13_b
def C.q21_r13_w := @aopsE _ _ C.q21_r13.eq_1
def C.q21_c5 : ICode := .seq (.region C.q21_r13) .ret
def C.q21_c5_w := @awpE _ _ C.q21_c5.eq_1
def C.q21_c6 : ICode := .keep [2, 94] (.cond (X.s 94) C.q21_c5 .skip)
def C.q21_c6_w := @awpE _ _ C.q21_c6.eq_1
def C.q21_r12_b : List IOper := [
 X.o 74 (.fldAddr 0 (X.s 2)),
 X.o 75 (.load1 (X.s 74)),
 X.o 76 (.bin .eql (X.s 75) (.cst (.int .u8 112))),
 X.m 77 76,
 X.t 77 78 (.fldAddr 3 (X.s 2)),
 X.t 77 79 (.load1 (X.s 78)),
 X.t 77 80 (.call F.q27 [X.s 79, X.i 1, X.i 1000]),
 X.t 77 81 (.un .not (X.s 80)),
 X.t 77 82 (.move (X.s 81)),
 X.f 82 83 (.fldAddr 4 (X.s 2)),
 X.f 82 84 (.load1 (X.s 83)),
 X.f 82 85 (.call F.q27 [X.s 84, X.i 1, X.i 1000]),
 X.f 82 86 (.un .not (X.s 85)),
 X.t 77 87 (.pick (X.s 82) (.cst (.bool true)) (X.s 86)),
 X.t 77 88 (.move (X.s 87)),
 X.f 88 89 (.fldAddr 5 (X.s 2)),
 X.f 88 90 (.load1 (X.s 89)),
 X.f 88 91 (.call F.q27 [X.s 90, X.i 0, X.i 20]),
 X.f 88 92 (.un .not (X.s 91)),
 X.t 77 93 (.pick (X.s 88) (.cst (.bool true)) (X.s 92)),
 X.o 94 (.pick (X.s 77) (X.s 93) (.cst (.bool false)))]
def C.q21_r12 : List IOper := C.q21_r12_b
def C.q21_r12_w := @aopsE _ _ C.q21_r12.eq_1
def C.q21_c7 : ICode := .keep [2] (.seq (.seq (.region C.q21_r12) C.q21_c6) C.q21_c4)
def C.q21_c7_w := @awpE _ _ C.q21_c7.eq_1
def C.q21_r11_b : List IOper := [
 X.o 4 (.move (X.i 3))]
def C.q21_r11 : List IOper := C.q21_r11_b
def C.q21_r11_w := @aopsE _ _ C.q21_r11.eq_1
def C.q21_c8 : ICode := .seq (.region C.q21_r11) .ret
def C.q21_c8_w := @awpE _ _ C.q21_c8.eq_1
def C.q21_c9 : ICode := .keep [2, 73] (.cond (X.s 73) C.q21_c8 .skip)
def C.q21_c9_w := @awpE _ _ C.q21_c9.eq_1
def C.q21_r10_b : List IOper := [
 X.o 61 (.fldAddr 0 (X.s 2)),
 X.o 62 (.load1 (X.s 61)),
 X.o 63 (.bin .eql (X.s 62) (.cst (.int .u8 111))),
 X.m 64 63,
 X.t 64 65 (.fldAddr 2 (X.s 2)),
 X.t 64 66 (.load1 (X.s 65)),
 X.t 64 67 (.bin .lss (X.s 66) (.cst (.int .u64 1))),
 X.t 64 68 (.move (X.s 67)),
 X.f 68 69 (.fldAddr 2 (X.s 2)),
 X.f 68 70 (.load1 (X.s 69)),
 X.f 68 71 (.bin .gtr (X.s 70) (.cst (.int .u64 1099511627776))),
 X.t 64 72 (.pick (X.s 68) (.cst (.bool true)) (X.s 71)),
 X.o 73 (.pick (X.s 64) (X.s 72) (.cst (.bool false)))]
def C.q21_r10 : List IOper := C.q21_r10_b
def C.q21_r10_w := @aopsE _ _ C.q21_r10.eq_1
def C.q21_c10 : ICode := .keep [2] (.seq (.seq (.region C.q21_r10) C.q21_c9) C.q21_c7)
def C.q21_c10_w := @awpE _ _ C.q21_c10.eq_1
def C.q21_r7_b : List IOper := [
 X.m 51 7,
 X.o 52 (.bin .add (X.s 51) (X.i 1)),
 X.m 7 52]
def C.q21_r7 : List IOper := C.q21_r7_b
def C.q21_r7_w := @aopsE _ _ C.q21_r7.eq_1
def C.q21_c11 : ICode := .keep [1, 2, 5, 7] (.region C.q21_r7)
def C.q21_c11_w := @awpE _ _ C.q21_c11.eq_1
def C.q21_r9_b : List IOper := [
 X.o 4 (.move (X.i 4))]
def C.q21_r9 : List IOper := C.q21_r9_b
def C.q21_r9_w := @aopsE _ _ C.q21_r9.eq_1
def C.q21_c12 : ICode := .seq (.region C.q21_r9) .ret
def C.q21_c12_w := @awpE _ _ C.q21_c12.eq_1
def C.q21_c13 : ICode := .keep [1, 2, 5, 7, 60] (.cond (X.s 60) C.q21_c12 .skip)
def C.q21_c13_w := @awpE _ _ C.q21_c13.eq_1
def C.q21_r8_b : List IOper := [
 X.o 53 (.fldAddr 1 (X.s 2)),
 X.o 54 (.load1 (X.s 53)),
 X.m 55 7,
 X.o 56 (.idxAddr 1 (X.s 54) (X.s 55)),
 X.o 57 (.load1 (X.s 56)),
 X.m 58 1,
 X.o 59 (.call F.q26 [X.s 57, X.s 58]),
 X.o 60 (.un .not (X.s 59))]
def C.q21_r8 : List IOper := C.q21_r8_b
def C.q21_r8_w := @aopsE _ _ C.q21_r8.eq_1
def C.q21_b14 : ICode := .seq (.region C.q21_r8) C.q21_c13
def C.q21_b14_w := @awpE _ _ C.q21_b14.eq_1
def C.q21_c15 : ICode := .keep [1, 2, 5, 7] (.seq (.block 1 C.q21_b14) C.q21_c11)
def C.q21_c15_w := @awpE _ _ C.q21_c15.eq_1
def C.q21_c16 : ICode := .keep [1, 2, 5, 7, 50] (.cond (X.s 50) .skip (.exit 0))
def C.q21_c16_w := @awpE _ _ C.q21_c16.eq_1
def C.q21_r6_b : List IOper := [
 X.m 48 7,
 X.m 49 5,
 X.o 50 (.bin .lss (X.s 48) (X.s 49))]
def C.q21_r6 : List IOper := C.q21_r6_b
def C.q21_r6_w := @aopsE _ _ C.q21_r6.eq_1
def C.q21_l17 : ICode := .keep [1, 2, 5, 7] (.seq (.seq (.region C.q21_r6) C.q21_c16) C.q21_c15)
def C.q21_l17_w := @awpE _ _ C.q21_l17.eq_1
def C.q21_b18 : ICode := .loop C.q21_l17
def C.q21_b18_w := @awpE _ _ C.q21_b18.eq_1
def C.q21_c19 : ICode := .keep [1, 2, 5, 7] (.block 0 C.q21_b18)
def C.q21_c19_w := @awpE _ _ C.q21_c19.eq_1
def C.q21_r5_b : List IOper := [
 X.o 7 (.move (X.i 0))]
def C.q21_r5 : List IOper := C.q21_r5_b
def C.q21_r5_w := @aopsE _ _ C.q21_r5.eq_1
def C.q21_c20 : ICode := .keep [1, 2, 5] (.seq (.seq (.region C.q21_r5) C.q21_c19) C.q21_c10)
def C.q21_c20_w := @awpE _ _ C.q21_c20.eq_1
def C.q21_r4_b : List IOper := [
 X.o 4 (.move (X.i 1))]
def C.q21_r4 : List IOper := C.q21_r4_b
def C.q21_r4_w := @aopsE _ _ C.q21_r4.eq_1
def C.q21_c21 : ICode := .seq (.region C.q21_r4) .ret
def C.q21_c21_w := @awpE _ _ C.q21_c21.eq_1
def C.q21_c22 : ICode := .keep [1, 2, 5, 47] (.cond (X.s 47) C.q21_c21 .skip)
def C.q21_c22_w := @awpE _ _ C.q21_c22.eq_1
def C.q21_r3_b : List IOper := [
 X.m 46 6,
 X.o 47 (.un .not (X.s 46))]
def C.q21_r3 : List IOper := C.q21_r3_b
def C.q21_r3_w := @aopsE _ _ C.q21_r3.eq_1
def C.q21_c23 : ICode := .keep [1, 2, 5, 6] (.seq (.seq (.region C.q21_r3) C.q21_c22) C.q21_c20)
def C.q21_c23_w := @awpE _ _ C.q21_c23.eq_1
def C.q21_r2_b : List IOper := [
 X.o 11 (.fldAddr 0 (X.s 2)),
 X.o 12 (.load1 (X.s 11)),
 X.o 13 (.bin .eql (X.s 12) (.cst (.int .u8 111))),
 X.m 14 13,
 X.t 14 15 (.move (X.s 5)),
 X.t 14 16 (.bin .eql (X.s 15) (X.i 0)),
 X.o 17 (.pick (X.s 14) (X.s 16) (.cst (.bool false))),
 X.m 18 17,
 X.f 18 19 (.fldAddr 0 (X.s 2)),
 X.f 18 20 (.load1 (X.s 19)),
 X.f 18 21 (.bin .eql (X.s 20) (.cst (.int .u8 112))),
 X.f 18 22 (.move (X.s 21)),
 X.f 22 23 (.fldAddr 0 (X.s 2)),
 X.f 22 24 (.load1 (X.s 23)),
 X.f 22 25 (.bin .eql (X.s 24) (.cst (.int .u8 100))),
 X.f 18 26 (.pick (X.s 22) (.cst (.bool true)) (X.s 25)),
 X.f 18 27 (.move (X.s 26)),
 X.f 27 28 (.fldAddr 0 (X.s 2)),
 X.f 27 29 (.load1 (X.s 28)),
 X.f 27 30 (.bin .eql (X.s 29) (.cst (.int .u8 103))),
 X.f 18 31 (.pick (X.s 27) (.cst (.bool true)) (X.s 30)),
 X.f 18 32 (.move (X.s 31)),
 X.t 32 33 (.move (X.s 5)),
 X.t 32 34 (.bin .eql (X.s 33) (X.i 1)),
 X.f 18 35 (.pick (X.s 32) (X.s 34) (.cst (.bool false))),
 X.o 36 (.pick (X.s 18) (.cst (.bool true)) (X.s 35)),
 X.m 37 36,
 X.f 37 38 (.fldAddr 0 (X.s 2)),
 X.f 37 39 (.load1 (X.s 38)),
 X.f 37 40 (.bin .eql (X.s 39) (.cst (.int .u8 109))),
 X.f 37 41 (.move (X.s 40)),
 X.t 41 42 (.move (X.s 5)),
 X.t 41 43 (.call F.q27 [X.s 42, X.i 1, X.i 4]),
 X.f 37 44 (.pick (X.s 41) (X.s 43) (.cst (.bool false))),
 X.o 45 (.pick (X.s 37) (.cst (.bool true)) (X.s 44)),
 X.m 6 45]
def C.q21_r2 : List IOper := C.q21_r2_b
def C.q21_r2_w := @aopsE _ _ C.q21_r2.eq_1
def C.q21_c24 : ICode := .keep [1, 2, 5] (.seq (.region C.q21_r2) C.q21_c23)
def C.q21_c24_w := @awpE _ _ C.q21_c24.eq_1
def C.q21_r1_b : List IOper := [
 X.o 8 (.fldAddr 1 (X.s 2)),
 X.o 9 (.load1 (X.s 8)),
 X.o 10 (.len (X.s 9)),
 X.m 5 10]
def C.q21_r1 : List IOper := C.q21_r1_b
def C.q21_r1_w := @aopsE _ _ C.q21_r1.eq_1
def C.q21_c25 : ICode := .keep [1, 2] (.seq (.region C.q21_r1) C.q21_c24)
def C.q21_c25_w := @awpE _ _ C.q21_c25.eq_1
def C.q21_r0_b : List IOper := [
 X.o 2 (.boxN (X.s 0)),
 X.o 4 (.move (X.i 0))]
def C.q21_r0 : List IOper := C.q21_r0_b
def C.q21_r0_w := @aopsE _ _ C.q21_r0.eq_1
def C.q21 : IFunc := ⟨2, [.slot 4], .seq (.region C.q21_r0) C.q21_c25⟩
def C.q21_W := And.intro (And.intro (And.intro (And.intro (And.intro @C.q21_r16_w @C.q21_c1_w) (And.intro @C.q21_r15_w (And.intro @C.q21_c2_w @C.q21_c3_w))) (And.intro (And.intro @C.q21_r14_w @C.q21_c4_w) (And.intro @C.q21_r13_w (And.intro @C.q21_c5_w @C.q21_c6_w)))) (And.intro (And.intro (And.intro @C.q21_r12_w @C.q21_c7_w) (And.intro @C.q21_r11_w (And.intro @C.q21_c8_w @C.q21_c9_w))) (And.intro (And.intro @C.q21_r10_w @C.q21_c10_w) (And.intro @C.q21_r7_w (And.intro @C.q21_c11_w @C.q21_r9_w))))) (And.intro (And.intro (And.intro (And.intro @C.q21_c12_w @C.q21_c13_w) (And.intro @C.q21_r8_w (And.intro @C.q21_b14_w @C.q21_c15_w))) (And.intro (And.intro @C.q21_c16_w @C.q21_r6_w) (And.intro @C.q21_b18_w (And.intro @C.q21_c19_w @C.q21_r5_w)))) (And.intro (And.intro (And.intro @C.q21_c20_w @C.q21_r4_w) (And.intro @C.q21_c21_w (And.intro @C.q21_c22_w @C.q21_r3_w))) (And.intro (And.intro @C.q21_c23_w (And.intro @C.q21_r2_w @C.q21_c24_w)) (And.intro @C.q21_r1_w (And.intro @C.q21_c25_w @C.q21_r0_w)))))
def C.q21_B := And.intro (And.intro (And.intro (And.intro @C.q21_r16_b.eq_1 @C.q21_r15_b.eq_1) (And.intro @C.q21_r14_b.eq_1 @C.q21_r13_b.eq_1)) (And.intro (And.intro @C.q21_r12_b.eq_1 @C.q21_r11_b.eq_1) (And.intro @C.q21_r10_b.eq_1 @C.q21_r7_b.eq_1))) (And.intro (And.intro (And.intro @C.q21_r9_b.eq_1 @C.q21_r8_b.eq_1) (And.intro @C.q21_r6_b.eq_1 @C.q21_r5_b.eq_1)) (And.intro (And.intro @C.q21_r4_b.eq_1 @C.q21_r3_b.eq_1) (And.intro @C.q21_r2_b.eq_1 (And.intro @C.q21_r1_b.eq_1 @C.q21_r0_b.eq_1))))

end Go.Proofs.Ytoblpialfhfdgaa.Cn
