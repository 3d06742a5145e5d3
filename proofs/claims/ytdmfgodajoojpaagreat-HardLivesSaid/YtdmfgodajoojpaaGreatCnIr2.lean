/- The intermediate code of the functions, printed by a program out of the loaded program; that it is theirs is checked in the text of links. -/
import Derived.Test.YtdmfgodajoojpaaGreatCnIr1
set_option linter.defProp false
namespace Go.Proofs.YtdmfgodajoojpaaGreat.Cn
open Go
variable {P : Program} {Q : IExit → AFr → ASt → Prop} {fr : AFr} {st : ASt}


def C.q90_r11_b : List IOper := [
 X.m 32 3,
 X.m 2 32]
def C.q90_r11 : List IOper := C.q90_r11_b
def C.q90_r11_w := pO C.q90_r11.eq_1
def C.q90_c1 : ICode := .keep [3] (.seq (.region C.q90_r11) .ret)
def C.q90_c1_w := pC C.q90_c1.eq_1
def C.q90_r10_b : List IOper := [
 X.o 31 (.bin .add (X.s 13) (X.i 1)),
 X.m 13 31]
def C.q90_r10 : List IOper := C.q90_r10_b
def C.q90_r10_w := pO C.q90_r10.eq_1
def C.q90_c2 : ICode := .keep [0, 3, 12, 13] (.region C.q90_r10)
def C.q90_c2_w := pC C.q90_c2.eq_1
def C.q90_r9_b : List IOper := [
 X.m 25 3,
 X.m 26 5,
 X.m 27 4,
 X.o 28 (.build [.int .u8 0, .int .i64 0] [(0, 1, X.s 26), (1, 1, X.s 27)]),
 X.o 29 (.buildSlice 2 1 [.int .u8 0, .int .i64 0] [(0, 2, X.s 28)]),
 X.o 30 (.append 2 16 (X.s 25) (X.s 29)),
 X.m 3 30]
def C.q90_r9 : List IOper := C.q90_r9_b
def C.q90_r9_w := pO C.q90_r9.eq_1
def C.q90_c3 : ICode := .keep [0, 3, 4, 5, 12, 13, 24] (.cond (X.s 24) (.region C.q90_r9) .skip)
def C.q90_c3_w := pC C.q90_c3.eq_1
def C.q90_r8_b : List IOper := [
 X.m 23 5,
 X.o 24 (.bin .neq (X.s 23) (.cst (.int .u8 0)))]
def C.q90_r8 : List IOper := C.q90_r8_b
def C.q90_r8_w := pO C.q90_r8.eq_1
def C.q90_c4 : ICode := .keep [0, 3, 4, 5, 12, 13] (.seq (.region C.q90_r8) C.q90_c3)
def C.q90_c4_w := pC C.q90_c4.eq_1
def C.q90_r7_b : List IOper := [
 X.m 16 0,
 X.o 17 (.nilchk (X.s 16)),
 X.o 18 (.fldAddr 0 (X.s 17)),
 X.o 19 (.load1 (X.s 18)),
 X.m 20 4,
 X.o 21 (.idxAddr 7 (X.s 19) (X.s 20)),
 X.o 22 (.call F.q95 [X.s 21]),
 X.m 5 22]
def C.q90_r7 : List IOper := C.q90_r7_b
def C.q90_r7_w := pO C.q90_r7.eq_1
def C.q90_c5 : ICode := .keep [0, 3, 4, 12, 13] (.seq (.region C.q90_r7) C.q90_c4)
def C.q90_c5_w := pC C.q90_c5.eq_1
def C.q90_r6_b : List IOper := [
 X.m 15 13,
 X.m 4 15]
def C.q90_r6 : List IOper := C.q90_r6_b
def C.q90_r6_w := pO C.q90_r6.eq_1
def C.q90_b6 : ICode := .seq (.region C.q90_r6) C.q90_c5
def C.q90_b6_w := pC C.q90_b6.eq_1
def C.q90_c7 : ICode := .keep [0, 3, 12, 13] (.seq (.block 1 C.q90_b6) C.q90_c2)
def C.q90_c7_w := pC C.q90_c7.eq_1
def C.q90_c8 : ICode := .keep [0, 3, 12, 13, 14] (.seq (.cond (X.s 14) .skip (.exit 0)) C.q90_c7)
def C.q90_c8_w := pC C.q90_c8.eq_1
def C.q90_r5_b : List IOper := [
 X.o 14 (.bin .lss (X.s 13) (X.s 12))]
def C.q90_r5 : List IOper := C.q90_r5_b
def C.q90_r5_w := pO C.q90_r5.eq_1
def C.q90_l9 : ICode := .keep [0, 3, 12, 13] (.seq (.region C.q90_r5) C.q90_c8)
def C.q90_l9_w := pC C.q90_l9.eq_1
def C.q90_b10 : ICode := .loop C.q90_l9
def C.q90_b10_w := pC C.q90_b10.eq_1
def C.q90_c11 : ICode := .keep [0, 3, 12, 13] (.block 0 C.q90_b10)
def C.q90_c11_w := pC C.q90_c11.eq_1
def C.q90_r4_b : List IOper := [
 X.m 8 0,
 X.o 9 (.nilchk (X.s 8)),
 X.o 10 (.fldAddr 0 (X.s 9)),
 X.o 11 (.load1 (X.s 10)),
 X.o 12 (.len (X.s 11)),
 X.o 13 (.move (X.i 0))]
def C.q90_r4 : List IOper := C.q90_r4_b
def C.q90_r4_w := pO C.q90_r4.eq_1
def C.q90_c12 : ICode := .keep [0, 3] (.seq (.seq (.region C.q90_r4) C.q90_c11) C.q90_c1)
def C.q90_c12_w := pC C.q90_c12.eq_1
def C.q90_r3_b : List IOper := [
 X.o 3 (.move (.cst (.nils)))]
def C.q90_r3 : List IOper := C.q90_r3_b
def C.q90_r3_w := pO C.q90_r3.eq_1
def C.q90_c13 : ICode := .keep [0] (.seq (.region C.q90_r3) C.q90_c12)
def C.q90_c13_w := pC C.q90_c13.eq_1
def C.q90_r2_b : List IOper := [
 X.o 2 (.move (.cst (.nils)))]
def C.q90_r2 : List IOper := C.q90_r2_b
def C.q90_r2_w := pO C.q90_r2.eq_1
def C.q90_c14 : ICode := .seq (.region C.q90_r2) .ret
def C.q90_c14_w := pC C.q90_c14.eq_1
def C.q90_c15 : ICode := .keep [0, 7] (.cond (X.s 7) C.q90_c14 .skip)
def C.q90_c15_w := pC C.q90_c15.eq_1
def C.q90_r1_b : List IOper := [
 X.m 6 0,
 X.o 7 (.eqP 0 false (X.s 6) (.cst (.nilp)))]
def C.q90_r1 : List IOper := C.q90_r1_b
def C.q90_r1_w := pO C.q90_r1.eq_1
def C.q90_c16 : ICode := .keep [0] (.seq (.seq (.region C.q90_r1) C.q90_c15) C.q90_c13)
def C.q90_c16_w := pC C.q90_c16.eq_1
def C.q90_r0_b : List IOper := [
 X.o 2 (.move (.cst (.nils)))]
def C.q90_r0 : List IOper := C.q90_r0_b
def C.q90_r0_w := pO C.q90_r0.eq_1
def C.q90 : IFunc := ⟨1, [.slot 2], .seq (.region C.q90_r0) C.q90_c16⟩
def C.q90_W := aI (aI (aI (aI @C.q90_r11_w (aI @C.q90_c1_w @C.q90_r10_w)) (aI @C.q90_c2_w (aI @C.q90_r9_w @C.q90_c3_w))) (aI (aI @C.q90_r8_w (aI @C.q90_c4_w @C.q90_r7_w)) (aI (aI @C.q90_c5_w @C.q90_r6_w) (aI @C.q90_b6_w @C.q90_c7_w)))) (aI (aI (aI @C.q90_c8_w (aI @C.q90_r5_w @C.q90_b10_w)) (aI (aI @C.q90_c11_w @C.q90_r4_w) (aI @C.q90_c12_w @C.q90_r3_w))) (aI (aI @C.q90_c13_w (aI @C.q90_r2_w @C.q90_c14_w)) (aI (aI @C.q90_c15_w @C.q90_r1_w) (aI @C.q90_c16_w @C.q90_r0_w))))
def C.q90_B := aI (aI (aI @C.q90_r11_b.eq_1 (aI @C.q90_r10_b.eq_1 @C.q90_r9_b.eq_1)) (aI @C.q90_r8_b.eq_1 (aI @C.q90_r7_b.eq_1 @C.q90_r6_b.eq_1))) (aI (aI @C.q90_r5_b.eq_1 (aI @C.q90_r4_b.eq_1 @C.q90_r3_b.eq_1)) (aI @C.q90_r2_b.eq_1 (aI @C.q90_r1_b.eq_1 @C.q90_r0_b.eq_1)))

def C.q87_r9_b : List IOper := [
 X.o 2 (.move (.cst (.nilf)))]
def C.q87_r9 : List IOper := C.q87_r9_b
def C.q87_r9_w := pO C.q87_r9.eq_1
def C.q87_c1 : ICode := .keep [] (.seq (.region C.q87_r9) .ret)
def C.q87_c1_w := pC C.q87_c1.eq_1
def C.q87_r3_b : List IOper := [
 X.o 2 (.move (.fnc F.q104))]
def C.q87_r3 : List IOper := C.q87_r3_b
def C.q87_r3_w := pO C.q87_r3.eq_1
def C.q87_r5_b : List IOper := [
 X.o 2 (.move (.fnc F.q102))]
def C.q87_r5 : List IOper := C.q87_r5_b
def C.q87_r5_w := pO C.q87_r5.eq_1
def C.q87_r8_b : List IOper := [
 X.o 2 (.move (.fnc F.q98))]
def C.q87_r8 : List IOper := C.q87_r8_b
def C.q87_r8_w := pO C.q87_r8.eq_1
def C.q87_c2 : ICode := .seq (.region C.q87_r8) .ret
def C.q87_c2_w := pC C.q87_c2.eq_1
def C.q87_c3 : ICode := .keep [8] (.cond (X.s 8) C.q87_c2 .skip)
def C.q87_c3_w := pC C.q87_c3.eq_1
def C.q87_r7_b : List IOper := [
 X.o 10 (.bin .eql (X.s 3) (.cst (.int .u8 110))),
 X.m 8 10]
def C.q87_r7 : List IOper := C.q87_r7_b
def C.q87_r7_w := pO C.q87_r7.eq_1
def C.q87_c4 : ICode := .keep [3, 8] (.cond (X.s 8) .skip (.region C.q87_r7))
def C.q87_c4_w := pC C.q87_c4.eq_1
def C.q87_r6_b : List IOper := [
 X.o 9 (.bin .eql (X.s 3) (.cst (.int .u8 108))),
 X.m 8 9]
def C.q87_r6 : List IOper := C.q87_r6_b
def C.q87_r6_w := pO C.q87_r6.eq_1
def C.q87_c5 : ICode := .seq (.region C.q87_r5) .ret
def C.q87_c5_w := pC C.q87_c5.eq_1
def C.q87_c6 : ICode := .seq (.seq (.region C.q87_r6) C.q87_c4) C.q87_c3
def C.q87_c6_w := pC C.q87_c6.eq_1
def C.q87_c7 : ICode := .keep [3, 6] (.cond (X.s 6) C.q87_c5 C.q87_c6)
def C.q87_c7_w := pC C.q87_c7.eq_1
def C.q87_r4_b : List IOper := [
 X.o 7 (.bin .eql (X.s 3) (.cst (.int .u8 114))),
 X.m 6 7]
def C.q87_r4 : List IOper := C.q87_r4_b
def C.q87_r4_w := pO C.q87_r4.eq_1
def C.q87_c8 : ICode := .seq (.region C.q87_r3) .ret
def C.q87_c8_w := pC C.q87_c8.eq_1
def C.q87_c9 : ICode := .seq (.region C.q87_r4) C.q87_c7
def C.q87_c9_w := pC C.q87_c9.eq_1
def C.q87_c10 : ICode := .keep [3, 4] (.cond (X.s 4) C.q87_c8 C.q87_c9)
def C.q87_c10_w := pC C.q87_c10.eq_1
def C.q87_r2_b : List IOper := [
 X.o 5 (.bin .eql (X.s 3) (.cst (.int .u8 115))),
 X.m 4 5]
def C.q87_r2 : List IOper := C.q87_r2_b
def C.q87_r2_w := pO C.q87_r2.eq_1
def C.q87_b11 : ICode := .seq (.region C.q87_r2) C.q87_c10
def C.q87_b11_w := pC C.q87_b11.eq_1
def C.q87_c12 : ICode := .keep [3] (.block 0 C.q87_b11)
def C.q87_c12_w := pC C.q87_c12.eq_1
def C.q87_r1_b : List IOper := [
 X.m 3 0]
def C.q87_r1 : List IOper := C.q87_r1_b
def C.q87_r1_w := pO C.q87_r1.eq_1
def C.q87_c13 : ICode := .keep [0] (.seq (.seq (.region C.q87_r1) C.q87_c12) C.q87_c1)
def C.q87_c13_w := pC C.q87_c13.eq_1
def C.q87_r0_b : List IOper := [
 X.o 2 (.move (.cst (.nilf)))]
def C.q87_r0 : List IOper := C.q87_r0_b
def C.q87_r0_w := pO C.q87_r0.eq_1
def C.q87 : IFunc := ⟨1, [.slot 2], .seq (.region C.q87_r0) C.q87_c13⟩
def C.q87_W := aI (aI (aI (aI @C.q87_r9_w @C.q87_c1_w) (aI @C.q87_r3_w (aI @C.q87_r5_w @C.q87_r8_w))) (aI (aI @C.q87_c2_w (aI @C.q87_c3_w @C.q87_r7_w)) (aI @C.q87_c4_w (aI @C.q87_r6_w @C.q87_c5_w)))) (aI (aI (aI @C.q87_c6_w (aI @C.q87_c7_w @C.q87_r4_w)) (aI @C.q87_c8_w (aI @C.q87_c9_w @C.q87_c10_w))) (aI (aI @C.q87_r2_w (aI @C.q87_b11_w @C.q87_c12_w)) (aI @C.q87_r1_w (aI @C.q87_c13_w @C.q87_r0_w))))
def C.q87_B := aI (aI (aI @C.q87_r9_b.eq_1 @C.q87_r3_b.eq_1) (aI @C.q87_r5_b.eq_1 (aI @C.q87_r8_b.eq_1 @C.q87_r7_b.eq_1))) (aI (aI @C.q87_r6_b.eq_1 @C.q87_r4_b.eq_1) (aI @C.q87_r2_b.eq_1 (aI @C.q87_r1_b.eq_1 @C.q87_r0_b.eq_1)))

def C.q114_r16_b : List IOper := [
 X.m 55 3,
 X.m 2 55]
def C.q114_r16 : List IOper := C.q114_r16_b
def C.q114_r16_w := pO C.q114_r16.eq_1
def C.q114_c1 : ICode := .keep [3] (.seq (.region C.q114_r16) .ret)
def C.q114_c1_w := pC C.q114_c1.eq_1
def C.q114_r15_b : List IOper := [
 X.o 54 (.bin .add (X.s 14) (X.i 1)),
 X.m 14 54]
def C.q114_r15 : List IOper := C.q114_r15_b
def C.q114_r15_w := pO C.q114_r15.eq_1
def C.q114_c2 : ICode := .keep [0, 3, 13, 14] (.region C.q114_r15)
def C.q114_c2_w := pC C.q114_c2.eq_1
def C.q114_r14_b : List IOper := [
 X.m 48 0,
 X.o 49 (.nilchk (X.s 48)),
 X.o 50 (.fldAddr 0 (X.s 49)),
 X.o 51 (.load1 (X.s 50)),
 X.m 52 4,
 X.o 53 (.loadN 4 (X.s 5)),
 X.n (.mapSet (X.s 51) (X.s 52) (X.s 53))]
def C.q114_r14 : List IOper := C.q114_r14_b
def C.q114_r14_w := pO C.q114_r14.eq_1
def C.q114_c3 : ICode := .keep [0, 3, 4, 5, 13, 14] (.region C.q114_r14)
def C.q114_c3_w := pC C.q114_c3.eq_1
def C.q114_r10_b : List IOper := [
 X.o 36 (.fldAddr 1 (X.s 5)),
 X.o 37 (.load1 (X.s 36)),
 X.o 38 (.bin .sub (X.s 37) (X.i 1)),
 X.o 39 (.fldAddr 1 (X.s 5)),
 X.n (.store1 (X.s 39) (X.s 38))]
def C.q114_r10 : List IOper := C.q114_r10_b
def C.q114_r10_w := pO C.q114_r10.eq_1
def C.q114_r13_b : List IOper := [
 X.m 44 3,
 X.m 45 4,
 X.o 46 (.buildSlice 1 1 [.int .i64 0] [(0, 1, X.s 45)]),
 X.o 47 (.append 1 8 (X.s 44) (X.s 46)),
 X.m 3 47]
def C.q114_r13 : List IOper := C.q114_r13_b
def C.q114_r13_w := pO C.q114_r13.eq_1
def C.q114_c4 : ICode := .keep [0, 3, 4, 5, 13, 14] (.region C.q114_r13)
def C.q114_c4_w := pC C.q114_c4.eq_1
def C.q114_r12_b : List IOper := [
 X.o 42 (.fldAddr 2 (X.s 5)),
 X.n (.store1 (X.s 42) (.cst (.bool false))),
 X.o 43 (.fldAddr 3 (X.s 5)),
 X.n (.store1 (X.s 43) (.cst (.bool false)))]
def C.q114_r12 : List IOper := C.q114_r12_b
def C.q114_r12_w := pO C.q114_r12.eq_1
def C.q114_c5 : ICode := .seq (.region C.q114_r12) C.q114_c4
def C.q114_c5_w := pC C.q114_c5.eq_1
def C.q114_c6 : ICode := .keep [0, 3, 4, 5, 13, 14, 41] (.cond (X.s 41) C.q114_c5 .skip)
def C.q114_c6_w := pC C.q114_c6.eq_1
def C.q114_r11_b : List IOper := [
 X.o 40 (.fldAddr 3 (X.s 5)),
 X.o 41 (.load1 (X.s 40))]
def C.q114_r11 : List IOper := C.q114_r11_b
def C.q114_r11_w := pO C.q114_r11.eq_1
def C.q114_c7 : ICode := .seq (.region C.q114_r11) C.q114_c6
def C.q114_c7_w := pC C.q114_c7.eq_1
def C.q114_c8 : ICode := .keep [0, 3, 4, 5, 13, 14, 35] (.cond (X.s 35) (.region C.q114_r10) C.q114_c7)
def C.q114_c8_w := pC C.q114_c8.eq_1
def C.q114_r9_b : List IOper := [
 X.o 33 (.fldAddr 1 (X.s 5)),
 X.o 34 (.load1 (X.s 33)),
 X.o 35 (.bin .gtr (X.s 34) (X.i 0))]
def C.q114_r9 : List IOper := C.q114_r9_b
def C.q114_r9_w := pO C.q114_r9.eq_1
def C.q114_c9 : ICode := .keep [0, 3, 4, 5, 13, 14] (.seq (.seq (.region C.q114_r9) C.q114_c8) C.q114_c3)
def C.q114_c9_w := pC C.q114_c9.eq_1
def C.q114_c10 : ICode := .keep [0, 3, 4, 5, 13, 14, 32] (.cond (X.s 32) (.exit 1) .skip)
def C.q114_c10_w := pC C.q114_c10.eq_1
def C.q114_r8_b : List IOper := [
 X.m 26 6,
 X.o 27 (.un .not (X.s 26)),
 X.m 28 27,
 X.f 28 29 (.fldAddr 2 (X.s 5)),
 X.f 28 30 (.load1 (X.s 29)),
 X.f 28 31 (.un .not (X.s 30)),
 X.o 32 (.pick (X.s 28) (.cst (.bool true)) (X.s 31))]
def C.q114_r8 : List IOper := C.q114_r8_b
def C.q114_r8_w := pO C.q114_r8.eq_1
def C.q114_c11 : ICode := .keep [0, 3, 4, 5, 6, 13, 14] (.seq (.seq (.region C.q114_r8) C.q114_c10) C.q114_c9)
def C.q114_c11_w := pC C.q114_c11.eq_1
def C.q114_r7_b : List IOper := [
 X.m 18 0,
 X.o 19 (.nilchk (X.s 18)),
 X.o 20 (.fldAddr 0 (X.s 19)),
 X.o 21 (.load1 (X.s 20)),
 X.m 22 4,
 X.o 23 (.lookup (.agg [.int .i64 0, .int .i64 0, .bool false, .bool false]) true (X.s 21) (X.s 22)),
 X.m 17 23,
 X.o 24 (.extract (X.s 17) 0),
 X.o 25 (.extract (X.s 17) 1),
 X.o 5 (.alloc [.int .i64 0, .int .i64 0, .bool false, .bool false]),
 X.n (.storeN 4 (X.s 5) (X.s 24)),
 X.m 6 25]
def C.q114_r7 : List IOper := C.q114_r7_b
def C.q114_r7_w := pO C.q114_r7.eq_1
def C.q114_c12 : ICode := .keep [0, 3, 4, 13, 14] (.seq (.region C.q114_r7) C.q114_c11)
def C.q114_c12_w := pC C.q114_c12.eq_1
def C.q114_r6_b : List IOper := [
 X.m 16 14,
 X.m 4 16]
def C.q114_r6 : List IOper := C.q114_r6_b
def C.q114_r6_w := pO C.q114_r6.eq_1
def C.q114_b13 : ICode := .seq (.region C.q114_r6) C.q114_c12
def C.q114_b13_w := pC C.q114_b13.eq_1
def C.q114_c14 : ICode := .keep [0, 3, 13, 14] (.seq (.block 1 C.q114_b13) C.q114_c2)
def C.q114_c14_w := pC C.q114_c14.eq_1
def C.q114_c15 : ICode := .keep [0, 3, 13, 14, 15] (.seq (.cond (X.s 15) .skip (.exit 0)) C.q114_c14)
def C.q114_c15_w := pC C.q114_c15.eq_1
def C.q114_r5_b : List IOper := [
 X.o 15 (.bin .lss (X.s 14) (X.s 13))]
def C.q114_r5 : List IOper := C.q114_r5_b
def C.q114_r5_w := pO C.q114_r5.eq_1
def C.q114_l16 : ICode := .keep [0, 3, 13, 14] (.seq (.region C.q114_r5) C.q114_c15)
def C.q114_l16_w := pC C.q114_l16.eq_1
def C.q114_b17 : ICode := .loop C.q114_l16
def C.q114_b17_w := pC C.q114_b17.eq_1
def C.q114_c18 : ICode := .keep [0, 3, 13, 14] (.block 0 C.q114_b17)
def C.q114_c18_w := pC C.q114_c18.eq_1
def C.q114_r4_b : List IOper := [
 X.m 9 0,
 X.o 10 (.nilchk (X.s 9)),
 X.o 11 (.fldAddr 0 (X.s 10)),
 X.o 12 (.load1 (X.s 11)),
 X.o 13 (.mlen (X.s 12)),
 X.o 14 (.move (X.i 0))]
def C.q114_r4 : List IOper := C.q114_r4_b
def C.q114_r4_w := pO C.q114_r4.eq_1
def C.q114_c19 : ICode := .keep [0, 3] (.seq (.seq (.region C.q114_r4) C.q114_c18) C.q114_c1)
def C.q114_c19_w := pC C.q114_c19.eq_1
def C.q114_r3_b : List IOper := [
 X.o 3 (.move (.cst (.nils)))]
def C.q114_r3 : List IOper := C.q114_r3_b
def C.q114_r3_w := pO C.q114_r3.eq_1
def C.q114_c20 : ICode := .keep [0] (.seq (.region C.q114_r3) C.q114_c19)
def C.q114_c20_w := pC C.q114_c20.eq_1
def C.q114_r2_b : List IOper := [
 X.o 2 (.move (.cst (.nils)))]
def C.q114_r2 : List IOper := C.q114_r2_b
def C.q114_r2_w := pO C.q114_r2.eq_1
def C.q114_c21 : ICode := .seq (.region C.q114_r2) .ret
def C.q114_c21_w := pC C.q114_c21.eq_1
def C.q114_c22 : ICode := .keep [0, 8] (.cond (X.s 8) C.q114_c21 .skip)
def C.q114_c22_w := pC C.q114_c22.eq_1
def C.q114_r1_b : List IOper := [
 X.m 7 0,
 X.o 8 (.eqP 0 false (X.s 7) (.cst (.nilp)))]
def C.q114_r1 : List IOper := C.q114_r1_b
def C.q114_r1_w := pO C.q114_r1.eq_1
def C.q114_c23 : ICode := .keep [0] (.seq (.seq (.region C.q114_r1) C.q114_c22) C.q114_c20)
def C.q114_c23_w := pC C.q114_c23.eq_1
def C.q114_r0_b : List IOper := [
 X.o 2 (.move (.cst (.nils)))]
def C.q114_r0 : List IOper := C.q114_r0_b
def C.q114_r0_w := pO C.q114_r0.eq_1
def C.q114 : IFunc := ⟨1, [.slot 2], .seq (.region C.q114_r0) C.q114_c23⟩
def C.q114_W := aI (aI (aI (aI (aI @C.q114_r16_w @C.q114_c1_w) (aI @C.q114_r15_w @C.q114_c2_w)) (aI (aI @C.q114_r14_w @C.q114_c3_w) (aI @C.q114_r10_w (aI @C.q114_r13_w @C.q114_c4_w)))) (aI (aI (aI @C.q114_r12_w @C.q114_c5_w) (aI @C.q114_c6_w (aI @C.q114_r11_w @C.q114_c7_w))) (aI (aI @C.q114_c8_w @C.q114_r9_w) (aI @C.q114_c9_w (aI @C.q114_c10_w @C.q114_r8_w))))) (aI (aI (aI (aI @C.q114_c11_w @C.q114_r7_w) (aI @C.q114_c12_w (aI @C.q114_r6_w @C.q114_b13_w))) (aI (aI @C.q114_c14_w @C.q114_c15_w) (aI @C.q114_r5_w (aI @C.q114_b17_w @C.q114_c18_w)))) (aI (aI (aI @C.q114_r4_w @C.q114_c19_w) (aI @C.q114_r3_w (aI @C.q114_c20_w @C.q114_r2_w))) (aI (aI @C.q114_c21_w @C.q114_c22_w) (aI @C.q114_r1_w (aI @C.q114_c23_w @C.q114_r0_w)))))
def C.q114_B := aI (aI (aI (aI @C.q114_r16_b.eq_1 @C.q114_r15_b.eq_1) (aI @C.q114_r14_b.eq_1 @C.q114_r10_b.eq_1)) (aI (aI @C.q114_r13_b.eq_1 @C.q114_r12_b.eq_1) (aI @C.q114_r11_b.eq_1 @C.q114_r9_b.eq_1))) (aI (aI (aI @C.q114_r8_b.eq_1 @C.q114_r7_b.eq_1) (aI @C.q114_r6_b.eq_1 @C.q114_r5_b.eq_1)) (aI (aI @C.q114_r4_b.eq_1 @C.q114_r3_b.eq_1) (aI @C.q114_r2_b.eq_1 (aI @C.q114_r1_b.eq_1 @C.q114_r0_b.eq_1))))

def C.q84_r1_b : List IOper := [
 X.m 5 0,
 X.o 6 (.call F.q85 [X.s 5]),
 X.m 7 6,
 X.t 7 8 (.move (X.s 1)),
 X.t 7 9 (.bin .geq (X.s 8) (X.i 0)),
 X.o 10 (.pick (X.s 7) (X.s 9) (.cst (.bool false))),
 X.m 11 10,
 X.t 11 12 (.move (X.s 1)),
 X.t 11 13 (.move (X.s 0)),
 X.t 11 14 (.nilchk (X.s 13)),
 X.t 11 15 (.fldAddr 4 (X.s 14)),
 X.t 11 16 (.load1 (X.s 15)),
 X.t 11 17 (.len (X.s 16)),
 X.t 11 18 (.bin .lss (X.s 12) (X.s 17)),
 X.o 19 (.pick (X.s 11) (X.s 18) (.cst (.bool false))),
 X.m 4 19]
def C.q84_r1 : List IOper := C.q84_r1_b
def C.q84_r1_w := pO C.q84_r1.eq_1
def C.q84_c1 : ICode := .keep [0, 1] (.seq (.region C.q84_r1) .ret)
def C.q84_c1_w := pC C.q84_c1.eq_1
def C.q84_r0_b : List IOper := [
 X.o 4 (.move (.cst (.bool false)))]
def C.q84_r0 : List IOper := C.q84_r0_b
def C.q84_r0_w := pO C.q84_r0.eq_1
def C.q84 : IFunc := ⟨2, [.slot 4], .seq (.region C.q84_r0) C.q84_c1⟩
def C.q84_W := aI @C.q84_r1_w (aI @C.q84_c1_w @C.q84_r0_w)
def C.q84_B := aI @C.q84_r1_b.eq_1 @C.q84_r0_b.eq_1

def C.q11_r5_b : List IOper := [
 X.o 11 (.load1 (X.s 5)),
 X.m 12 1,
 X.o 13 (.callv (X.s 11) [X.s 12]),
 X.m 4 13]
def C.q11_r5 : List IOper := C.q11_r5_b
def C.q11_r5_w := pO C.q11_r5.eq_1
def C.q11_c1 : ICode := .keep [1, 5] (.seq (.region C.q11_r5) .ret)
def C.q11_c1_w := pC C.q11_c1.eq_1
def C.q11_r4_b : List IOper := [
 X.o 10 (.makeFunc F.q12 [X.s 2, X.s 5]),
 X.n (.store1 (X.s 5) (X.s 10))]
def C.q11_r4 : List IOper := C.q11_r4_b
def C.q11_r4_w := pO C.q11_r4.eq_1
def C.q11_c2 : ICode := .keep [1, 2, 5] (.seq (.region C.q11_r4) C.q11_c1)
def C.q11_c2_w := pC C.q11_c2.eq_1
def C.q11_r3_b : List IOper := [
 X.o 5 (.alloc [.nilf])]
def C.q11_r3 : List IOper := C.q11_r3_b
def C.q11_r3_w := pO C.q11_r3.eq_1
def C.q11_c3 : ICode := .keep [1, 2] (.seq (.region C.q11_r3) C.q11_c2)
def C.q11_c3_w := pC C.q11_c3.eq_1
def C.q11_r2_b : List IOper := [
 X.o 4 (.move (.cst (.bool false)))]
def C.q11_r2 : List IOper := C.q11_r2_b
def C.q11_r2_w := pO C.q11_r2.eq_1
def C.q11_c4 : ICode := .seq (.region C.q11_r2) .ret
def C.q11_c4_w := pC C.q11_c4.eq_1
def C.q11_c5 : ICode := .keep [1, 2, 9] (.cond (X.s 9) C.q11_c4 .skip)
def C.q11_c5_w := pC C.q11_c5.eq_1
def C.q11_r1_b : List IOper := [
 X.o 6 (.load1 (X.s 2)),
 X.m 7 1,
 X.o 8 (.call F.q14 [X.s 6, X.s 7]),
 X.o 9 (.eqP 0 false (X.s 8) (.cst (.nilp)))]
def C.q11_r1 : List IOper := C.q11_r1_b
def C.q11_r1_w := pO C.q11_r1.eq_1
def C.q11_c6 : ICode := .keep [1, 2] (.seq (.seq (.region C.q11_r1) C.q11_c5) C.q11_c3)
def C.q11_c6_w := pC C.q11_c6.eq_1
def C.q11_r0_b : List IOper := [
 X.o 2 (.box1 (X.s 0)),
 X.o 4 (.move (.cst (.bool false)))]
def C.q11_r0 : List IOper := C.q11_r0_b
def C.q11_r0_w := pO C.q11_r0.eq_1
def C.q11 : IFunc := ⟨2, [.slot 4], .seq (.region C.q11_r0) C.q11_c6⟩
def C.q11_W := aI (aI (aI @C.q11_r5_w (aI @C.q11_c1_w @C.q11_r4_w)) (aI @C.q11_c2_w (aI @C.q11_r3_w @C.q11_c3_w))) (aI (aI @C.q11_r2_w (aI @C.q11_c4_w @C.q11_c5_w)) (aI @C.q11_r1_w (aI @C.q11_c6_w @C.q11_r0_w)))
def C.q11_B := aI (aI @C.q11_r5_b.eq_1 (aI @C.q11_r4_b.eq_1 @C.q11_r3_b.eq_1)) (aI @C.q11_r2_b.eq_1 (aI @C.q11_r1_b.eq_1 @C.q11_r0_b.eq_1))

def C.q89_r4_b : List IOper := [
 X.m 11 5,
 X.o 12 (.nilchk (X.s 11)),
 X.o 13 (.fldAddr 3 (X.s 12)),
 X.o 14 (.load1 (X.s 13)),
 X.m 4 14]
def C.q89_r4 : List IOper := C.q89_r4_b
def C.q89_r4_w := pO C.q89_r4.eq_1
def C.q89_c1 : ICode := .keep [5] (.seq (.region C.q89_r4) .ret)
def C.q89_c1_w := pC C.q89_c1.eq_1
def C.q89_r3_b : List IOper := [
 X.o 4 (.move (.cst (.int .u8 0)))]
def C.q89_r3 : List IOper := C.q89_r3_b
def C.q89_r3_w := pO C.q89_r3.eq_1
def C.q89_c2 : ICode := .seq (.region C.q89_r3) .ret
def C.q89_c2_w := pC C.q89_c2.eq_1
def C.q89_c3 : ICode := .keep [5, 10] (.cond (X.s 10) C.q89_c2 .skip)
def C.q89_c3_w := pC C.q89_c3.eq_1
def C.q89_r2_b : List IOper := [
 X.m 9 5,
 X.o 10 (.eqP 0 false (X.s 9) (.cst (.nilp)))]
def C.q89_r2 : List IOper := C.q89_r2_b
def C.q89_r2_w := pO C.q89_r2.eq_1
def C.q89_c4 : ICode := .keep [5] (.seq (.seq (.region C.q89_r2) C.q89_c3) C.q89_c1)
def C.q89_c4_w := pC C.q89_c4.eq_1
def C.q89_r1_b : List IOper := [
 X.m 6 0,
 X.m 7 1,
 X.o 8 (.call F.q92 [X.s 6, X.s 7]),
 X.m 5 8]
def C.q89_r1 : List IOper := C.q89_r1_b
def C.q89_r1_w := pO C.q89_r1.eq_1
def C.q89_c5 : ICode := .keep [0, 1] (.seq (.region C.q89_r1) C.q89_c4)
def C.q89_c5_w := pC C.q89_c5.eq_1
def C.q89_r0_b : List IOper := [
 X.o 4 (.move (.cst (.int .u8 0)))]
def C.q89_r0 : List IOper := C.q89_r0_b
def C.q89_r0_w := pO C.q89_r0.eq_1
def C.q89 : IFunc := ⟨2, [.slot 4], .seq (.region C.q89_r0) C.q89_c5⟩
def C.q89_W := aI (aI (aI @C.q89_r4_w @C.q89_c1_w) (aI @C.q89_r3_w (aI @C.q89_c2_w @C.q89_c3_w))) (aI (aI @C.q89_r2_w @C.q89_c4_w) (aI @C.q89_r1_w (aI @C.q89_c5_w @C.q89_r0_w)))
def C.q89_B := aI (aI @C.q89_r4_b.eq_1 @C.q89_r3_b.eq_1) (aI @C.q89_r2_b.eq_1 (aI @C.q89_r1_b.eq_1 @C.q89_r0_b.eq_1))

def C.q112_r2_b : List IOper := [
 X.m 13 6,
 X.o 14 (.un .not (X.s 13)),
 X.m 15 14,
 X.f 15 16 (.fldAddr 2 (X.s 5)),
 X.f 15 17 (.load1 (X.s 16)),
 X.o 18 (.pick (X.s 15) (.cst (.bool true)) (X.s 17)),
 X.m 4 18]
def C.q112_r2 : List IOper := C.q112_r2_b
def C.q112_r2_w := pO C.q112_r2.eq_1
def C.q112_c1 : ICode := .keep [5, 6] (.seq (.region C.q112_r2) .ret)
def C.q112_c1_w := pC C.q112_c1.eq_1
def C.q112_r1_b : List IOper := [
 X.m 8 0,
 X.m 9 1,
 X.o 10 (.call F.q115 [X.s 8, X.s 9]),
 X.m 7 10,
 X.o 11 (.extract (X.s 7) 0),
 X.o 12 (.extract (X.s 7) 1),
 X.o 5 (.alloc [.int .i64 0, .int .i64 0, .bool false, .bool false]),
 X.n (.storeN 4 (X.s 5) (X.s 11)),
 X.m 6 12]
def C.q112_r1 : List IOper := C.q112_r1_b
def C.q112_r1_w := pO C.q112_r1.eq_1
def C.q112_c2 : ICode := .keep [0, 1] (.seq (.region C.q112_r1) C.q112_c1)
def C.q112_c2_w := pC C.q112_c2.eq_1
def C.q112_r0_b : List IOper := [
 X.o 4 (.move (.cst (.bool false)))]
def C.q112_r0 : List IOper := C.q112_r0_b
def C.q112_r0_w := pO C.q112_r0.eq_1
def C.q112 : IFunc := ⟨2, [.slot 4], .seq (.region C.q112_r0) C.q112_c2⟩
def C.q112_W := aI (aI @C.q112_r2_w @C.q112_c1_w) (aI @C.q112_r1_w (aI @C.q112_c2_w @C.q112_r0_w))
def C.q112_B := aI @C.q112_r2_b.eq_1 (aI @C.q112_r1_b.eq_1 @C.q112_r0_b.eq_1)

def C.q9_r8_b : List IOper := [
 X.m 21 5,
 X.m 4 21]
def C.q9_r8 : List IOper := C.q9_r8_b
def C.q9_r8_w := pO C.q9_r8.eq_1
def C.q9_c1 : ICode := .keep [5] (.seq (.region C.q9_r8) .ret)
def C.q9_c1_w := pC C.q9_c1.eq_1
def C.q9_r7_b : List IOper := [
 X.m 19 5,
 X.o 20 (.call F.q118 [X.s 19])]
def C.q9_r7 : List IOper := C.q9_r7_b
def C.q9_r7_w := pO C.q9_r7.eq_1
def C.q9_c2 : ICode := .keep [5] (.seq (.region C.q9_r7) C.q9_c1)
def C.q9_c2_w := pC C.q9_c2.eq_1
def C.q9_r5_b : List IOper := [
 X.m 12 0,
 X.m 13 1,
 X.o 14 (.call F.q15 [X.s 12, X.s 13]),
 X.m 1 14]
def C.q9_r5 : List IOper := C.q9_r5_b
def C.q9_r5_w := pO C.q9_r5.eq_1
def C.q9_c3 : ICode := .keep [0, 1, 5] (.region C.q9_r5)
def C.q9_c3_w := pC C.q9_c3.eq_1
def C.q9_r6_b : List IOper := [
 X.m 15 5,
 X.m 16 1,
 X.o 17 (.buildSlice 1 1 [.int .i64 0] [(0, 1, X.s 16)]),
 X.o 18 (.append 1 8 (X.s 15) (X.s 17)),
 X.m 5 18]
def C.q9_r6 : List IOper := C.q9_r6_b
def C.q9_r6_w := pO C.q9_r6.eq_1
def C.q9_b4 : ICode := .region C.q9_r6
def C.q9_b4_w := pC C.q9_b4.eq_1
def C.q9_c5 : ICode := .keep [0, 1, 5] (.seq (.block 1 C.q9_b4) C.q9_c3)
def C.q9_c5_w := pC C.q9_c5.eq_1
def C.q9_c6 : ICode := .keep [0, 1, 5, 11] (.cond (X.s 11) .skip (.exit 0))
def C.q9_c6_w := pC C.q9_c6.eq_1
def C.q9_r4_b : List IOper := [
 X.m 10 1,
 X.o 11 (.bin .neq (X.s 10) (X.i (-1)))]
def C.q9_r4 : List IOper := C.q9_r4_b
def C.q9_r4_w := pO C.q9_r4.eq_1
def C.q9_l7 : ICode := .keep [0, 1, 5] (.seq (.seq (.region C.q9_r4) C.q9_c6) C.q9_c5)
def C.q9_l7_w := pC C.q9_l7.eq_1
def C.q9_b8 : ICode := .loop C.q9_l7
def C.q9_b8_w := pC C.q9_b8.eq_1
def C.q9_c9 : ICode := .keep [0, 1, 5] (.seq (.block 0 C.q9_b8) C.q9_c2)
def C.q9_c9_w := pC C.q9_c9.eq_1
def C.q9_r3_b : List IOper := [
 X.o 5 (.move (.cst (.nils)))]
def C.q9_r3 : List IOper := C.q9_r3_b
def C.q9_r3_w := pO C.q9_r3.eq_1
def C.q9_c10 : ICode := .keep [0, 1] (.seq (.region C.q9_r3) C.q9_c9)
def C.q9_c10_w := pC C.q9_c10.eq_1
def C.q9_r2_b : List IOper := [
 X.o 4 (.move (.cst (.nils)))]
def C.q9_r2 : List IOper := C.q9_r2_b
def C.q9_r2_w := pO C.q9_r2.eq_1
def C.q9_c11 : ICode := .seq (.region C.q9_r2) .ret
def C.q9_c11_w := pC C.q9_c11.eq_1
def C.q9_c12 : ICode := .keep [0, 1, 9] (.cond (X.s 9) C.q9_c11 .skip)
def C.q9_c12_w := pC C.q9_c12.eq_1
def C.q9_r1_b : List IOper := [
 X.m 6 0,
 X.m 7 1,
 X.o 8 (.call F.q14 [X.s 6, X.s 7]),
 X.o 9 (.eqP 0 false (X.s 8) (.cst (.nilp)))]
def C.q9_r1 : List IOper := C.q9_r1_b
def C.q9_r1_w := pO C.q9_r1.eq_1
def C.q9_c13 : ICode := .keep [0, 1] (.seq (.seq (.region C.q9_r1) C.q9_c12) C.q9_c10)
def C.q9_c13_w := pC C.q9_c13.eq_1
def C.q9_r0_b : List IOper := [
 X.o 4 (.move (.cst (.nils)))]
def C.q9_r0 : List IOper := C.q9_r0_b
def C.q9_r0_w := pO C.q9_r0.eq_1
def C.q9 : IFunc := ⟨2, [.slot 4], .seq (.region C.q9_r0) C.q9_c13⟩
def C.q9_W := aI (aI (aI (aI @C.q9_r8_w @C.q9_c1_w) (aI @C.q9_r7_w (aI @C.q9_c2_w @C.q9_r5_w))) (aI (aI @C.q9_c3_w @C.q9_r6_w) (aI @C.q9_b4_w (aI @C.q9_c5_w @C.q9_c6_w)))) (aI (aI (aI @C.q9_r4_w @C.q9_b8_w) (aI @C.q9_c9_w (aI @C.q9_r3_w @C.q9_c10_w))) (aI (aI @C.q9_r2_w (aI @C.q9_c11_w @C.q9_c12_w)) (aI @C.q9_r1_w (aI @C.q9_c13_w @C.q9_r0_w))))
def C.q9_B := aI (aI (aI @C.q9_r8_b.eq_1 @C.q9_r7_b.eq_1) (aI @C.q9_r5_b.eq_1 @C.q9_r6_b.eq_1)) (aI (aI @C.q9_r4_b.eq_1 @C.q9_r3_b.eq_1) (aI @C.q9_r2_b.eq_1 (aI @C.q9_r1_b.eq_1 @C.q9_r0_b.eq_1)))

def C.q52_r8_b : List IOper := [
 X.o 2 (.move (X.i 0))]
def C.q52_r8 : List IOper := C.q52_r8_b
def C.q52_r8_w := pO C.q52_r8.eq_1
def C.q52_c1 : ICode := .keep [] (.seq (.region C.q52_r8) .ret)
def C.q52_c1_w := pC C.q52_c1.eq_1
def C.q52_r7_b : List IOper := [
 X.o 17 (.bin .add (X.s 8) (X.i 1)),
 X.m 8 17]
def C.q52_r7 : List IOper := C.q52_r7_b
def C.q52_r7_w := pO C.q52_r7.eq_1
def C.q52_c2 : ICode := .keep [6, 7, 8] (.region C.q52_r7)
def C.q52_c2_w := pC C.q52_c2.eq_1
def C.q52_r6_b : List IOper := [
 X.m 16 5,
 X.m 2 16]
def C.q52_r6 : List IOper := C.q52_r6_b
def C.q52_r6_w := pO C.q52_r6.eq_1
def C.q52_c3 : ICode := .seq (.region C.q52_r6) .ret
def C.q52_c3_w := pC C.q52_c3.eq_1
def C.q52_c4 : ICode := .keep [5, 6, 7, 8, 15] (.cond (X.s 15) C.q52_c3 .skip)
def C.q52_c4_w := pC C.q52_c4.eq_1
def C.q52_r5_b : List IOper := [
 X.m 14 5,
 X.o 15 (.bin .neq (X.s 14) (X.i 0))]
def C.q52_r5 : List IOper := C.q52_r5_b
def C.q52_r5_w := pO C.q52_r5.eq_1
def C.q52_c5 : ICode := .keep [5, 6, 7, 8] (.seq (.region C.q52_r5) C.q52_c4)
def C.q52_c5_w := pC C.q52_c5.eq_1
def C.q52_r4_b : List IOper := [
 X.m 12 4,
 X.o 13 (.callv (X.s 12) []),
 X.m 5 13]
def C.q52_r4 : List IOper := C.q52_r4_b
def C.q52_r4_w := pO C.q52_r4.eq_1
def C.q52_c6 : ICode := .keep [4, 6, 7, 8] (.seq (.region C.q52_r4) C.q52_c5)
def C.q52_c6_w := pC C.q52_c6.eq_1
def C.q52_r3_b : List IOper := [
 X.o 10 (.idxAddr 1 (X.s 6) (X.s 8)),
 X.o 11 (.load1 (X.s 10)),
 X.m 4 11]
def C.q52_r3 : List IOper := C.q52_r3_b
def C.q52_r3_w := pO C.q52_r3.eq_1
def C.q52_b7 : ICode := .seq (.region C.q52_r3) C.q52_c6
def C.q52_b7_w := pC C.q52_b7.eq_1
def C.q52_c8 : ICode := .keep [6, 7, 8] (.seq (.block 1 C.q52_b7) C.q52_c2)
def C.q52_c8_w := pC C.q52_c8.eq_1
def C.q52_c9 : ICode := .keep [6, 7, 8, 9] (.seq (.cond (X.s 9) .skip (.exit 0)) C.q52_c8)
def C.q52_c9_w := pC C.q52_c9.eq_1
def C.q52_r2_b : List IOper := [
 X.o 9 (.bin .lss (X.s 8) (X.s 7))]
def C.q52_r2 : List IOper := C.q52_r2_b
def C.q52_r2_w := pO C.q52_r2.eq_1
def C.q52_l10 : ICode := .keep [6, 7, 8] (.seq (.region C.q52_r2) C.q52_c9)
def C.q52_l10_w := pC C.q52_l10.eq_1
def C.q52_b11 : ICode := .loop C.q52_l10
def C.q52_b11_w := pC C.q52_b11.eq_1
def C.q52_c12 : ICode := .keep [6, 7, 8] (.block 0 C.q52_b11)
def C.q52_c12_w := pC C.q52_c12.eq_1
def C.q52_r1_b : List IOper := [
 X.m 6 0,
 X.o 7 (.len (X.s 6)),
 X.o 8 (.move (X.i 0))]
def C.q52_r1 : List IOper := C.q52_r1_b
def C.q52_r1_w := pO C.q52_r1.eq_1
def C.q52_c13 : ICode := .keep [0] (.seq (.seq (.region C.q52_r1) C.q52_c12) C.q52_c1)
def C.q52_c13_w := pC C.q52_c13.eq_1
def C.q52_r0_b : List IOper := [
 X.o 2 (.move (X.i 0))]
def C.q52_r0 : List IOper := C.q52_r0_b
def C.q52_r0_w := pO C.q52_r0.eq_1
def C.q52 : IFunc := ⟨1, [.slot 2], .seq (.region C.q52_r0) C.q52_c13⟩
def C.q52_W := aI (aI (aI (aI @C.q52_r8_w @C.q52_c1_w) (aI @C.q52_r7_w (aI @C.q52_c2_w @C.q52_r6_w))) (aI (aI @C.q52_c3_w @C.q52_c4_w) (aI @C.q52_r5_w (aI @C.q52_c5_w @C.q52_r4_w)))) (aI (aI (aI @C.q52_c6_w @C.q52_r3_w) (aI @C.q52_b7_w (aI @C.q52_c8_w @C.q52_c9_w))) (aI (aI @C.q52_r2_w (aI @C.q52_b11_w @C.q52_c12_w)) (aI @C.q52_r1_w (aI @C.q52_c13_w @C.q52_r0_w))))
def C.q52_B := aI (aI (aI @C.q52_r8_b.eq_1 @C.q52_r7_b.eq_1) (aI @C.q52_r6_b.eq_1 @C.q52_r5_b.eq_1)) (aI (aI @C.q52_r4_b.eq_1 @C.q52_r3_b.eq_1) (aI @C.q52_r2_b.eq_1 (aI @C.q52_r1_b.eq_1 @C.q52_r0_b.eq_1)))

def C.q17_r1_b : List IOper := [
 X.o 2 (.loadN 4 (X.s 0)),
 X.o 3 (.call F.q53 [X.s 2]),
 X.m 1 3]
def C.q17_r1 : List IOper := C.q17_r1_b
def C.q17_r1_w := pO C.q17_r1.eq_1
def C.q17_c1 : ICode := .keep [0] (.seq (.region C.q17_r1) .ret)
def C.q17_c1_w := pC C.q17_c1.eq_1
def C.q17_r0_b : List IOper := [
 X.o 1 (.move (X.i 0))]
def C.q17_r0 : List IOper := C.q17_r0_b
def C.q17_r0_w := pO C.q17_r0.eq_1
def C.q17 : IFunc := ⟨1, [.slot 1], .seq (.region C.q17_r0) C.q17_c1⟩
def C.q17_W := aI @C.q17_r1_w (aI @C.q17_c1_w @C.q17_r0_w)
def C.q17_B := aI @C.q17_r1_b.eq_1 @C.q17_r0_b.eq_1

def C.q53_r3_b : List IOper := [
 X.o 25 (.fldAddr 3 (X.s 1)),
 X.o 26 (.load1 (X.s 25)),
 X.o 27 (.call F.q48 [X.s 26, .fnc F.q54]),
 X.m 2 27]
def C.q53_r3 : List IOper := C.q53_r3_b
def C.q53_r3_w := pO C.q53_r3.eq_1
def C.q53_c1 : ICode := .keep [1] (.seq (.region C.q53_r3) .ret)
def C.q53_c1_w := pC C.q53_c1.eq_1
def C.q53_r2_b : List IOper := [
 X.o 2 (.move (X.i 8))]
def C.q53_r2 : List IOper := C.q53_r2_b
def C.q53_r2_w := pO C.q53_r2.eq_1
def C.q53_c2 : ICode := .seq (.region C.q53_r2) .ret
def C.q53_c2_w := pC C.q53_c2.eq_1
def C.q53_c3 : ICode := .keep [1, 24] (.cond (X.s 24) C.q53_c2 .skip)
def C.q53_c3_w := pC C.q53_c3.eq_1
def C.q53_r1_b : List IOper := [
 X.o 3 (.fldAddr 0 (X.s 1)),
 X.o 4 (.load1 (X.s 3)),
 X.o 5 (.len (X.s 4)),
 X.o 6 (.bin .gtr (X.s 5) (X.i 12)),
 X.m 7 6,
 X.f 7 8 (.fldAddr 1 (X.s 1)),
 X.f 7 9 (.load1 (X.s 8)),
 X.f 7 10 (.len (X.s 9)),
 X.f 7 11 (.bin .gtr (X.s 10) (X.i 6)),
 X.o 12 (.pick (X.s 7) (.cst (.bool true)) (X.s 11)),
 X.m 13 12,
 X.f 13 14 (.fldAddr 2 (X.s 1)),
 X.f 13 15 (.load1 (X.s 14)),
 X.f 13 16 (.len (X.s 15)),
 X.f 13 17 (.bin .gtr (X.s 16) (X.i 6)),
 X.o 18 (.pick (X.s 13) (.cst (.bool true)) (X.s 17)),
 X.m 19 18,
 X.f 19 20 (.fldAddr 3 (X.s 1)),
 X.f 19 21 (.load1 (X.s 20)),
 X.f 19 22 (.len (X.s 21)),
 X.f 19 23 (.bin .gtr (X.s 22) (X.i 6)),
 X.o 24 (.pick (X.s 19) (.cst (.bool true)) (X.s 23))]
def C.q53_r1 : List IOper := C.q53_r1_b
def C.q53_r1_w := pO C.q53_r1.eq_1
def C.q53_c4 : ICode := .keep [1] (.seq (.seq (.region C.q53_r1) C.q53_c3) C.q53_c1)
def C.q53_c4_w := pC C.q53_c4.eq_1
def C.q53_r0_b : List IOper := [
 X.o 1 (.boxN (X.s 0)),
 X.o 2 (.move (X.i 0))]
def C.q53_r0 : List IOper := C.q53_r0_b
def C.q53_r0_w := pO C.q53_r0.eq_1
def C.q53 : IFunc := ⟨1, [.slot 2], .seq (.region C.q53_r0) C.q53_c4⟩
def C.q53_W := aI (aI (aI @C.q53_r3_w @C.q53_c1_w) (aI @C.q53_r2_w @C.q53_c2_w)) (aI (aI @C.q53_c3_w @C.q53_r1_w) (aI @C.q53_c4_w @C.q53_r0_w))
def C.q53_B := aI (aI @C.q53_r3_b.eq_1 @C.q53_r2_b.eq_1) (aI @C.q53_r1_b.eq_1 @C.q53_r0_b.eq_1)

def C.q18_r1_b : List IOper := [
 X.o 2 (.fldAddr 0 (X.s 0)),
 X.o 3 (.load1 (X.s 2)),
 X.o 4 (.makeFunc F.q19 [X.s 0]),
 X.o 5 (.call F.q47 [X.s 3, X.s 4]),
 X.m 1 5]
def C.q18_r1 : List IOper := C.q18_r1_b
def C.q18_r1_w := pO C.q18_r1.eq_1
def C.q18_c1 : ICode := .keep [0] (.seq (.region C.q18_r1) .ret)
def C.q18_c1_w := pC C.q18_c1.eq_1
def C.q18_r0_b : List IOper := [
 X.o 1 (.move (X.i 0))]
def C.q18_r0 : List IOper := C.q18_r0_b
def C.q18_r0_w := pO C.q18_r0.eq_1
def C.q18 : IFunc := ⟨1, [.slot 1], .seq (.region C.q18_r0) C.q18_c1⟩
def C.q18_W := aI @C.q18_r1_w (aI @C.q18_c1_w @C.q18_r0_w)
def C.q18_B := aI @C.q18_r1_b.eq_1 @C.q18_r0_b.eq_1

def C.q47_r8_b : List IOper := [
 X.o 4 (.move (X.i 0))]
def C.q47_r8 : List IOper := C.q47_r8_b
def C.q47_r8_w := pO C.q47_r8.eq_1
def C.q47_c1 : ICode := .keep [] (.seq (.region C.q47_r8) .ret)
def C.q47_c1_w := pC C.q47_c1.eq_1
def C.q47_r7_b : List IOper := [
 X.o 20 (.bin .add (X.s 10) (X.i 1)),
 X.m 10 20]
def C.q47_r7 : List IOper := C.q47_r7_b
def C.q47_r7_w := pO C.q47_r7.eq_1
def C.q47_c2 : ICode := .keep [1, 8, 9, 10] (.region C.q47_r7)
def C.q47_c2_w := pC C.q47_c2.eq_1
def C.q47_r6_b : List IOper := [
 X.m 19 7,
 X.m 4 19]
def C.q47_r6 : List IOper := C.q47_r6_b
def C.q47_r6_w := pO C.q47_r6.eq_1
def C.q47_c3 : ICode := .seq (.region C.q47_r6) .ret
def C.q47_c3_w := pC C.q47_c3.eq_1
def C.q47_c4 : ICode := .keep [1, 7, 8, 9, 10, 18] (.cond (X.s 18) C.q47_c3 .skip)
def C.q47_c4_w := pC C.q47_c4.eq_1
def C.q47_r5_b : List IOper := [
 X.m 17 7,
 X.o 18 (.bin .neq (X.s 17) (X.i 0))]
def C.q47_r5 : List IOper := C.q47_r5_b
def C.q47_r5_w := pO C.q47_r5.eq_1
def C.q47_c5 : ICode := .keep [1, 7, 8, 9, 10] (.seq (.region C.q47_r5) C.q47_c4)
def C.q47_c5_w := pC C.q47_c5.eq_1
def C.q47_r4_b : List IOper := [
 X.m 14 1,
 X.o 15 (.loadN 6 (X.s 6)),
 X.o 16 (.callv (X.s 14) [X.s 15]),
 X.m 7 16]
def C.q47_r4 : List IOper := C.q47_r4_b
def C.q47_r4_w := pO C.q47_r4.eq_1
def C.q47_c6 : ICode := .keep [1, 6, 8, 9, 10] (.seq (.region C.q47_r4) C.q47_c5)
def C.q47_c6_w := pC C.q47_c6.eq_1
def C.q47_r3_b : List IOper := [
 X.o 12 (.idxAddr 6 (X.s 8) (X.s 10)),
 X.o 13 (.loadN 6 (X.s 12)),
 X.o 6 (.alloc [.int .u8 0, .nils, .int .u64 0, .int .i64 0, .int .i64 0, .int .i64 0]),
 X.n (.storeN 6 (X.s 6) (X.s 13))]
def C.q47_r3 : List IOper := C.q47_r3_b
def C.q47_r3_w := pO C.q47_r3.eq_1
def C.q47_b7 : ICode := .seq (.region C.q47_r3) C.q47_c6
def C.q47_b7_w := pC C.q47_b7.eq_1
def C.q47_c8 : ICode := .keep [1, 8, 9, 10] (.seq (.block 1 C.q47_b7) C.q47_c2)
def C.q47_c8_w := pC C.q47_c8.eq_1
def C.q47_c9 : ICode := .keep [1, 8, 9, 10, 11] (.seq (.cond (X.s 11) .skip (.exit 0)) C.q47_c8)
def C.q47_c9_w := pC C.q47_c9.eq_1
def C.q47_r2_b : List IOper := [
 X.o 11 (.bin .lss (X.s 10) (X.s 9))]
def C.q47_r2 : List IOper := C.q47_r2_b
def C.q47_r2_w := pO C.q47_r2.eq_1
def C.q47_l10 : ICode := .keep [1, 8, 9, 10] (.seq (.region C.q47_r2) C.q47_c9)
def C.q47_l10_w := pC C.q47_l10.eq_1
def C.q47_b11 : ICode := .loop C.q47_l10
def C.q47_b11_w := pC C.q47_b11.eq_1
def C.q47_c12 : ICode := .keep [1, 8, 9, 10] (.block 0 C.q47_b11)
def C.q47_c12_w := pC C.q47_c12.eq_1
def C.q47_r1_b : List IOper := [
 X.m 8 0,
 X.o 9 (.len (X.s 8)),
 X.o 10 (.move (X.i 0))]
def C.q47_r1 : List IOper := C.q47_r1_b
def C.q47_r1_w := pO C.q47_r1.eq_1
def C.q47_c13 : ICode := .keep [0, 1] (.seq (.seq (.region C.q47_r1) C.q47_c12) C.q47_c1)
def C.q47_c13_w := pC C.q47_c13.eq_1
def C.q47_r0_b : List IOper := [
 X.o 4 (.move (X.i 0))]
def C.q47_r0 : List IOper := C.q47_r0_b
def C.q47_r0_w := pO C.q47_r0.eq_1
def C.q47 : IFunc := ⟨2, [.slot 4], .seq (.region C.q47_r0) C.q47_c13⟩
def C.q47_W := aI (aI (aI (aI @C.q47_r8_w @C.q47_c1_w) (aI @C.q47_r7_w (aI @C.q47_c2_w @C.q47_r6_w))) (aI (aI @C.q47_c3_w @C.q47_c4_w) (aI @C.q47_r5_w (aI @C.q47_c5_w @C.q47_r4_w)))) (aI (aI (aI @C.q47_c6_w @C.q47_r3_w) (aI @C.q47_b7_w (aI @C.q47_c8_w @C.q47_c9_w))) (aI (aI @C.q47_r2_w (aI @C.q47_b11_w @C.q47_c12_w)) (aI @C.q47_r1_w (aI @C.q47_c13_w @C.q47_r0_w))))
def C.q47_B := aI (aI (aI @C.q47_r8_b.eq_1 @C.q47_r7_b.eq_1) (aI @C.q47_r6_b.eq_1 @C.q47_r5_b.eq_1)) (aI (aI @C.q47_r4_b.eq_1 @C.q47_r3_b.eq_1) (aI @C.q47_r2_b.eq_1 (aI @C.q47_r1_b.eq_1 @C.q47_r0_b.eq_1)))

def C.q19_r1_b : List IOper := [
 X.o 4 (.loadN 4 (X.s 1)),
 X.o 5 (.loadN 6 (X.s 2)),
 X.o 6 (.call F.q32 [X.s 4, X.s 5]),
 X.m 3 6]
def C.q19_r1 : List IOper := C.q19_r1_b
def C.q19_r1_w := pO C.q19_r1.eq_1
def C.q19_c1 : ICode := .keep [1, 2] (.seq (.region C.q19_r1) .ret)
def C.q19_c1_w := pC C.q19_c1.eq_1
def C.q19_r0_b : List IOper := [
 X.o 2 (.boxN (X.s 0)),
 X.o 3 (.move (X.i 0))]
def C.q19_r0 : List IOper := C.q19_r0_b
def C.q19_r0_w := pO C.q19_r0.eq_1
def C.q19 : IFunc := ⟨2, [.slot 3], .seq (.region C.q19_r0) C.q19_c1⟩
def C.q19_W := aI @C.q19_r1_w (aI @C.q19_c1_w @C.q19_r0_w)
def C.q19_B := aI @C.q19_r1_b.eq_1 @C.q19_r0_b.eq_1

def C.q32_r1_b : List IOper := [
 X.o 5 (.makeFunc F.q33 [X.s 3]),
 X.o 6 (.makeFunc F.q34 [X.s 3, X.s 2]),
 X.o 7 (.makeFunc F.q36 [X.s 3]),
 X.o 8 (.buildSlice 1 3 [.nilf] [(0, 1, X.s 5), (1, 1, X.s 6), (2, 1, X.s 7)]),
 X.o 9 (.call F.q52 [X.s 8]),
 X.m 4 9]
def C.q32_r1 : List IOper := C.q32_r1_b
def C.q32_r1_w := pO C.q32_r1.eq_1
def C.q32_c1 : ICode := .keep [2, 3] (.seq (.region C.q32_r1) .ret)
def C.q32_c1_w := pC C.q32_c1.eq_1
def C.q32_r0_b : List IOper := [
 X.o 2 (.boxN (X.s 0)),
 X.o 3 (.boxN (X.s 1)),
 X.o 4 (.move (X.i 0))]
def C.q32_r0 : List IOper := C.q32_r0_b
def C.q32_r0_w := pO C.q32_r0.eq_1
def C.q32 : IFunc := ⟨2, [.slot 4], .seq (.region C.q32_r0) C.q32_c1⟩
def C.q32_W := aI @C.q32_r1_w (aI @C.q32_c1_w @C.q32_r0_w)
def C.q32_B := aI @C.q32_r1_b.eq_1 @C.q32_r0_b.eq_1

def C.q20_r1_b : List IOper := [
 X.o 2 (.loadN 4 (X.s 0)),
 X.o 3 (.call F.q28 [X.s 2]),
 X.o 4 (.call F.q37 [X.s 3]),
 X.m 1 4]
def C.q20_r1 : List IOper := C.q20_r1_b
def C.q20_r1_w := pO C.q20_r1.eq_1
def C.q20_c1 : ICode := .keep [0] (.seq (.region C.q20_r1) .ret)
def C.q20_c1_w := pC C.q20_c1.eq_1
def C.q20_r0_b : List IOper := [
 X.o 1 (.move (X.i 0))]
def C.q20_r0 : List IOper := C.q20_r0_b
def C.q20_r0_w := pO C.q20_r0.eq_1
def C.q20 : IFunc := ⟨1, [.slot 1], .seq (.region C.q20_r0) C.q20_c1⟩
def C.q20_W := aI @C.q20_r1_w (aI @C.q20_c1_w @C.q20_r0_w)
def C.q20_B := aI @C.q20_r1_b.eq_1 @C.q20_r0_b.eq_1

def C.q37_r1_b : List IOper := [
 X.m 3 0,
 X.o 4 (.call F.q66 [X.s 3]),
 X.o 5 (.bin .eql (X.s 4) (X.i 5)),
 X.o 6 (.call F.q64 [X.s 5, X.i 5]),
 X.m 2 6]
def C.q37_r1 : List IOper := C.q37_r1_b
def C.q37_r1_w := pO C.q37_r1.eq_1
def C.q37_c1 : ICode := .keep [0] (.seq (.region C.q37_r1) .ret)
def C.q37_c1_w := pC C.q37_c1.eq_1
def C.q37_r0_b : List IOper := [
 X.o 2 (.move (X.i 0))]
def C.q37_r0 : List IOper := C.q37_r0_b
def C.q37_r0_w := pO C.q37_r0.eq_1
def C.q37 : IFunc := ⟨1, [.slot 2], .seq (.region C.q37_r0) C.q37_c1⟩
def C.q37_W := aI @C.q37_r1_w (aI @C.q37_c1_w @C.q37_r0_w)
def C.q37_B := aI @C.q37_r1_b.eq_1 @C.q37_r0_b.eq_1

def C.q28_r7_b : List IOper := [
 X.m 25 3,
 X.m 2 25]
def C.q28_r7 : List IOper := C.q28_r7_b
def C.q28_r7_w := pO C.q28_r7.eq_1
def C.q28_c1 : ICode := .keep [3] (.seq (.region C.q28_r7) .ret)
def C.q28_c1_w := pC C.q28_c1.eq_1
def C.q28_r6_b : List IOper := [
 X.o 24 (.bin .add (X.s 13) (X.i 1)),
 X.m 13 24]
def C.q28_r6 : List IOper := C.q28_r6_b
def C.q28_r6_w := pO C.q28_r6.eq_1
def C.q28_c2 : ICode := .keep [3, 11, 12, 13] (.region C.q28_r6)
def C.q28_c2_w := pC C.q28_c2.eq_1
def C.q28_r5_b : List IOper := [
 X.m 18 3,
 X.m 19 4,
 X.o 20 (.fldAddr 1 (X.s 5)),
 X.o 21 (.load1 (X.s 20)),
 X.o 22 (.call F.q61 [X.s 21]),
 X.o 23 (.idxAddr 1 (X.s 18) (X.s 19)),
 X.n (.store1 (X.s 23) (X.s 22))]
def C.q28_r5 : List IOper := C.q28_r5_b
def C.q28_r5_w := pO C.q28_r5.eq_1
def C.q28_c3 : ICode := .keep [3, 4, 5, 11, 12, 13] (.region C.q28_r5)
def C.q28_c3_w := pC C.q28_c3.eq_1
def C.q28_r4_b : List IOper := [
 X.m 15 13,
 X.o 16 (.idxAddr 6 (X.s 11) (X.s 13)),
 X.o 17 (.loadN 6 (X.s 16)),
 X.o 5 (.alloc [.int .u8 0, .nils, .int .u64 0, .int .i64 0, .int .i64 0, .int .i64 0]),
 X.m 4 15,
 X.n (.storeN 6 (X.s 5) (X.s 17))]
def C.q28_r4 : List IOper := C.q28_r4_b
def C.q28_r4_w := pO C.q28_r4.eq_1
def C.q28_b4 : ICode := .seq (.region C.q28_r4) C.q28_c3
def C.q28_b4_w := pC C.q28_b4.eq_1
def C.q28_c5 : ICode := .keep [3, 11, 12, 13] (.seq (.block 1 C.q28_b4) C.q28_c2)
def C.q28_c5_w := pC C.q28_c5.eq_1
def C.q28_c6 : ICode := .keep [3, 11, 12, 13, 14] (.seq (.cond (X.s 14) .skip (.exit 0)) C.q28_c5)
def C.q28_c6_w := pC C.q28_c6.eq_1
def C.q28_r3_b : List IOper := [
 X.o 14 (.bin .lss (X.s 13) (X.s 12))]
def C.q28_r3 : List IOper := C.q28_r3_b
def C.q28_r3_w := pO C.q28_r3.eq_1
def C.q28_l7 : ICode := .keep [3, 11, 12, 13] (.seq (.region C.q28_r3) C.q28_c6)
def C.q28_l7_w := pC C.q28_l7.eq_1
def C.q28_b8 : ICode := .loop C.q28_l7
def C.q28_b8_w := pC C.q28_b8.eq_1
def C.q28_c9 : ICode := .keep [3, 11, 12, 13] (.block 0 C.q28_b8)
def C.q28_c9_w := pC C.q28_c9.eq_1
def C.q28_r2_b : List IOper := [
 X.o 10 (.fldAddr 0 (X.s 1)),
 X.o 11 (.load1 (X.s 10)),
 X.o 12 (.len (X.s 11)),
 X.o 13 (.move (X.i 0))]
def C.q28_r2 : List IOper := C.q28_r2_b
def C.q28_r2_w := pO C.q28_r2.eq_1
def C.q28_c10 : ICode := .keep [1, 3] (.seq (.seq (.region C.q28_r2) C.q28_c9) C.q28_c1)
def C.q28_c10_w := pC C.q28_c10.eq_1
def C.q28_r1_b : List IOper := [
 X.o 6 (.fldAddr 0 (X.s 1)),
 X.o 7 (.load1 (X.s 6)),
 X.o 8 (.len (X.s 7)),
 X.o 9 (.makeSlice 1 24 [.nils] (X.s 8) (X.s 8)),
 X.m 3 9]
def C.q28_r1 : List IOper := C.q28_r1_b
def C.q28_r1_w := pO C.q28_r1.eq_1
def C.q28_c11 : ICode := .keep [1] (.seq (.region C.q28_r1) C.q28_c10)
def C.q28_c11_w := pC C.q28_c11.eq_1
def C.q28_r0_b : List IOper := [
 X.o 1 (.boxN (X.s 0)),
 X.o 2 (.move (.cst (.nils)))]
def C.q28_r0 : List IOper := C.q28_r0_b
def C.q28_r0_w := pO C.q28_r0.eq_1
def C.q28 : IFunc := ⟨1, [.slot 2], .seq (.region C.q28_r0) C.q28_c11⟩
def C.q28_W := aI (aI (aI (aI @C.q28_r7_w @C.q28_c1_w) (aI @C.q28_r6_w @C.q28_c2_w)) (aI (aI @C.q28_r5_w @C.q28_c3_w) (aI @C.q28_r4_w (aI @C.q28_b4_w @C.q28_c5_w)))) (aI (aI (aI @C.q28_c6_w @C.q28_r3_w) (aI @C.q28_b8_w @C.q28_c9_w)) (aI (aI @C.q28_r2_w @C.q28_c10_w) (aI @C.q28_r1_w (aI @C.q28_c11_w @C.q28_r0_w))))
def C.q28_B := aI (aI (aI @C.q28_r7_b.eq_1 @C.q28_r6_b.eq_1) (aI @C.q28_r5_b.eq_1 @C.q28_r4_b.eq_1)) (aI (aI @C.q28_r3_b.eq_1 @C.q28_r2_b.eq_1) (aI @C.q28_r1_b.eq_1 @C.q28_r0_b.eq_1))

def C.q21_r1_b : List IOper := [
 X.o 2 (.fldAddr 1 (X.s 0)),
 X.o 3 (.load1 (X.s 2)),
 X.o 4 (.makeFunc F.q22 [X.s 0]),
 X.o 5 (.call F.q49 [X.s 3, X.s 4]),
 X.m 1 5]
def C.q21_r1 : List IOper := C.q21_r1_b
def C.q21_r1_w := pO C.q21_r1.eq_1
def C.q21_c1 : ICode := .keep [0] (.seq (.region C.q21_r1) .ret)
def C.q21_c1_w := pC C.q21_c1.eq_1
def C.q21_r0_b : List IOper := [
 X.o 1 (.move (X.i 0))]
def C.q21_r0 : List IOper := C.q21_r0_b
def C.q21_r0_w := pO C.q21_r0.eq_1
def C.q21 : IFunc := ⟨1, [.slot 1], .seq (.region C.q21_r0) C.q21_c1⟩
def C.q21_W := aI @C.q21_r1_w (aI @C.q21_c1_w @C.q21_r0_w)
def C.q21_B := aI @C.q21_r1_b.eq_1 @C.q21_r0_b.eq_1

def C.q49_r8_b : List IOper := [
 X.o 4 (.move (X.i 0))]
def C.q49_r8 : List IOper := C.q49_r8_b
def C.q49_r8_w := pO C.q49_r8.eq_1
def C.q49_c1 : ICode := .keep [] (.seq (.region C.q49_r8) .ret)
def C.q49_c1_w := pC C.q49_c1.eq_1
def C.q49_r7_b : List IOper := [
 X.o 20 (.bin .add (X.s 10) (X.i 1)),
 X.m 10 20]
def C.q49_r7 : List IOper := C.q49_r7_b
def C.q49_r7_w := pO C.q49_r7.eq_1
def C.q49_c2 : ICode := .keep [1, 8, 9, 10] (.region C.q49_r7)
def C.q49_c2_w := pC C.q49_c2.eq_1
def C.q49_r6_b : List IOper := [
 X.m 19 7,
 X.m 4 19]
def C.q49_r6 : List IOper := C.q49_r6_b
def C.q49_r6_w := pO C.q49_r6.eq_1
def C.q49_c3 : ICode := .seq (.region C.q49_r6) .ret
def C.q49_c3_w := pC C.q49_c3.eq_1
def C.q49_c4 : ICode := .keep [1, 7, 8, 9, 10, 18] (.cond (X.s 18) C.q49_c3 .skip)
def C.q49_c4_w := pC C.q49_c4.eq_1
def C.q49_r5_b : List IOper := [
 X.m 17 7,
 X.o 18 (.bin .neq (X.s 17) (X.i 0))]
def C.q49_r5 : List IOper := C.q49_r5_b
def C.q49_r5_w := pO C.q49_r5.eq_1
def C.q49_c5 : ICode := .keep [1, 7, 8, 9, 10] (.seq (.region C.q49_r5) C.q49_c4)
def C.q49_c5_w := pC C.q49_c5.eq_1
def C.q49_r4_b : List IOper := [
 X.m 14 1,
 X.o 15 (.loadN 3 (X.s 6)),
 X.o 16 (.callv (X.s 14) [X.s 15]),
 X.m 7 16]
def C.q49_r4 : List IOper := C.q49_r4_b
def C.q49_r4_w := pO C.q49_r4.eq_1
def C.q49_c6 : ICode := .keep [1, 6, 8, 9, 10] (.seq (.region C.q49_r4) C.q49_c5)
def C.q49_c6_w := pC C.q49_c6.eq_1
def C.q49_r3_b : List IOper := [
 X.o 12 (.idxAddr 3 (X.s 8) (X.s 10)),
 X.o 13 (.loadN 3 (X.s 12)),
 X.o 6 (.alloc [.int .i64 0, .int .i64 0, .bool false]),
 X.n (.storeN 3 (X.s 6) (X.s 13))]
def C.q49_r3 : List IOper := C.q49_r3_b
def C.q49_r3_w := pO C.q49_r3.eq_1
def C.q49_b7 : ICode := .seq (.region C.q49_r3) C.q49_c6
def C.q49_b7_w := pC C.q49_b7.eq_1
def C.q49_c8 : ICode := .keep [1, 8, 9, 10] (.seq (.block 1 C.q49_b7) C.q49_c2)
def C.q49_c8_w := pC C.q49_c8.eq_1
def C.q49_c9 : ICode := .keep [1, 8, 9, 10, 11] (.seq (.cond (X.s 11) .skip (.exit 0)) C.q49_c8)
def C.q49_c9_w := pC C.q49_c9.eq_1
def C.q49_r2_b : List IOper := [
 X.o 11 (.bin .lss (X.s 10) (X.s 9))]
def C.q49_r2 : List IOper := C.q49_r2_b
def C.q49_r2_w := pO C.q49_r2.eq_1
def C.q49_l10 : ICode := .keep [1, 8, 9, 10] (.seq (.region C.q49_r2) C.q49_c9)
def C.q49_l10_w := pC C.q49_l10.eq_1
def C.q49_b11 : ICode := .loop C.q49_l10
def C.q49_b11_w := pC C.q49_b11.eq_1
def C.q49_c12 : ICode := .keep [1, 8, 9, 10] (.block 0 C.q49_b11)
def C.q49_c12_w := pC C.q49_c12.eq_1
def C.q49_r1_b : List IOper := [
 X.m 8 0,
 X.o 9 (.len (X.s 8)),
 X.o 10 (.move (X.i 0))]
def C.q49_r1 : List IOper := C.q49_r1_b
def C.q49_r1_w := pO C.q49_r1.eq_1
def C.q49_c13 : ICode := .keep [0, 1] (.seq (.seq (.region C.q49_r1) C.q49_c12) C.q49_c1)
def C.q49_c13_w := pC C.q49_c13.eq_1
def C.q49_r0_b : List IOper := [
 X.o 4 (.move (X.i 0))]
def C.q49_r0 : List IOper := C.q49_r0_b
def C.q49_r0_w := pO C.q49_r0.eq_1
def C.q49 : IFunc := ⟨2, [.slot 4], .seq (.region C.q49_r0) C.q49_c13⟩
def C.q49_W := aI (aI (aI (aI @C.q49_r8_w @C.q49_c1_w) (aI @C.q49_r7_w (aI @C.q49_c2_w @C.q49_r6_w))) (aI (aI @C.q49_c3_w @C.q49_c4_w) (aI @C.q49_r5_w (aI @C.q49_c5_w @C.q49_r4_w)))) (aI (aI (aI @C.q49_c6_w @C.q49_r3_w) (aI @C.q49_b7_w (aI @C.q49_c8_w @C.q49_c9_w))) (aI (aI @C.q49_r2_w (aI @C.q49_b11_w @C.q49_c12_w)) (aI @C.q49_r1_w (aI @C.q49_c13_w @C.q49_r0_w))))
def C.q49_B := aI (aI (aI @C.q49_r8_b.eq_1 @C.q49_r7_b.eq_1) (aI @C.q49_r6_b.eq_1 @C.q49_r5_b.eq_1)) (aI (aI @C.q49_r4_b.eq_1 @C.q49_r3_b.eq_1) (aI @C.q49_r2_b.eq_1 (aI @C.q49_r1_b.eq_1 @C.q49_r0_b.eq_1)))

def C.q22_r1_b : List IOper := [
 X.o 4 (.loadN 4 (X.s 1)),
 X.o 5 (.loadN 3 (X.s 2)),
 X.o 6 (.call F.q44 [X.s 4, X.s 5]),
 X.m 3 6]
def C.q22_r1 : List IOper := C.q22_r1_b
def C.q22_r1_w := pO C.q22_r1.eq_1
def C.q22_c1 : ICode := .keep [1, 2] (.seq (.region C.q22_r1) .ret)
def C.q22_c1_w := pC C.q22_c1.eq_1
def C.q22_r0_b : List IOper := [
 X.o 2 (.boxN (X.s 0)),
 X.o 3 (.move (X.i 0))]
def C.q22_r0 : List IOper := C.q22_r0_b
def C.q22_r0_w := pO C.q22_r0.eq_1
def C.q22 : IFunc := ⟨2, [.slot 3], .seq (.region C.q22_r0) C.q22_c1⟩
def C.q22_W := aI @C.q22_r1_w (aI @C.q22_c1_w @C.q22_r0_w)
def C.q22_B := aI @C.q22_r1_b.eq_1 @C.q22_r0_b.eq_1

def C.q44_r1_b : List IOper := [
 X.o 5 (.makeFunc F.q45 [X.s 3, X.s 2]),
 X.o 6 (.makeFunc F.q46 [X.s 3]),
 X.o 7 (.buildSlice 1 2 [.nilf] [(0, 1, X.s 5), (1, 1, X.s 6)]),
 X.o 8 (.call F.q52 [X.s 7]),
 X.m 4 8]
def C.q44_r1 : List IOper := C.q44_r1_b
def C.q44_r1_w := pO C.q44_r1.eq_1
def C.q44_c1 : ICode := .keep [2, 3] (.seq (.region C.q44_r1) .ret)
def C.q44_c1_w := pC C.q44_c1.eq_1
def C.q44_r0_b : List IOper := [
 X.o 2 (.boxN (X.s 0)),
 X.o 3 (.boxN (X.s 1)),
 X.o 4 (.move (X.i 0))]
def C.q44_r0 : List IOper := C.q44_r0_b
def C.q44_r0_w := pO C.q44_r0.eq_1
def C.q44 : IFunc := ⟨2, [.slot 4], .seq (.region C.q44_r0) C.q44_c1⟩
def C.q44_W := aI @C.q44_r1_w (aI @C.q44_c1_w @C.q44_r0_w)
def C.q44_B := aI @C.q44_r1_b.eq_1 @C.q44_r0_b.eq_1

def C.q23_r1_b : List IOper := [
 X.o 2 (.loadN 4 (X.s 0)),
 X.o 3 (.call F.q30 [X.s 2]),
 X.o 4 (.call F.q37 [X.s 3]),
 X.m 1 4]
def C.q23_r1 : List IOper := C.q23_r1_b
def C.q23_r1_w := pO C.q23_r1.eq_1
def C.q23_c1 : ICode := .keep [0] (.seq (.region C.q23_r1) .ret)
def C.q23_c1_w := pC C.q23_c1.eq_1
def C.q23_r0_b : List IOper := [
 X.o 1 (.move (X.i 0))]
def C.q23_r0 : List IOper := C.q23_r0_b
def C.q23_r0_w := pO C.q23_r0.eq_1
def C.q23 : IFunc := ⟨1, [.slot 1], .seq (.region C.q23_r0) C.q23_c1⟩
def C.q23_W := aI @C.q23_r1_w (aI @C.q23_c1_w @C.q23_r0_w)
def C.q23_B := aI @C.q23_r1_b.eq_1 @C.q23_r0_b.eq_1

def C.q30_r8_b : List IOper := [
 X.m 28 3,
 X.m 2 28]
def C.q30_r8 : List IOper := C.q30_r8_b
def C.q30_r8_w := pO C.q30_r8.eq_1
def C.q30_c1 : ICode := .keep [3] (.seq (.region C.q30_r8) .ret)
def C.q30_c1_w := pC C.q30_c1.eq_1
def C.q30_r7_b : List IOper := [
 X.o 27 (.bin .add (X.s 13) (X.i 1)),
 X.m 13 27]
def C.q30_r7 : List IOper := C.q30_r7_b
def C.q30_r7_w := pO C.q30_r7.eq_1
def C.q30_c2 : ICode := .keep [3, 11, 12, 13] (.region C.q30_r7)
def C.q30_c2_w := pC C.q30_c2.eq_1
def C.q30_r6_b : List IOper := [
 X.m 21 3,
 X.m 22 4,
 X.o 23 (.fldAddr 0 (X.s 5)),
 X.o 24 (.load1 (X.s 23)),
 X.o 25 (.buildSlice 1 1 [.int .i64 0] [(0, 1, X.s 24)]),
 X.o 26 (.idxAddr 1 (X.s 21) (X.s 22)),
 X.n (.store1 (X.s 26) (X.s 25))]
def C.q30_r6 : List IOper := C.q30_r6_b
def C.q30_r6_w := pO C.q30_r6.eq_1
def C.q30_c3 : ICode := .keep [3, 4, 5, 11, 12, 13, 20] (.cond (X.s 20) (.region C.q30_r6) .skip)
def C.q30_c3_w := pC C.q30_c3.eq_1
def C.q30_r5_b : List IOper := [
 X.o 18 (.fldAddr 0 (X.s 5)),
 X.o 19 (.load1 (X.s 18)),
 X.o 20 (.bin .neq (X.s 19) (X.i (-1)))]
def C.q30_r5 : List IOper := C.q30_r5_b
def C.q30_r5_w := pO C.q30_r5.eq_1
def C.q30_c4 : ICode := .keep [3, 4, 5, 11, 12, 13] (.seq (.region C.q30_r5) C.q30_c3)
def C.q30_c4_w := pC C.q30_c4.eq_1
def C.q30_r4_b : List IOper := [
 X.m 15 13,
 X.o 16 (.idxAddr 3 (X.s 11) (X.s 13)),
 X.o 17 (.loadN 3 (X.s 16)),
 X.o 5 (.alloc [.int .i64 0, .int .i64 0, .bool false]),
 X.m 4 15,
 X.n (.storeN 3 (X.s 5) (X.s 17))]
def C.q30_r4 : List IOper := C.q30_r4_b
def C.q30_r4_w := pO C.q30_r4.eq_1
def C.q30_b5 : ICode := .seq (.region C.q30_r4) C.q30_c4
def C.q30_b5_w := pC C.q30_b5.eq_1
def C.q30_c6 : ICode := .keep [3, 11, 12, 13] (.seq (.block 1 C.q30_b5) C.q30_c2)
def C.q30_c6_w := pC C.q30_c6.eq_1
def C.q30_c7 : ICode := .keep [3, 11, 12, 13, 14] (.seq (.cond (X.s 14) .skip (.exit 0)) C.q30_c6)
def C.q30_c7_w := pC C.q30_c7.eq_1
def C.q30_r3_b : List IOper := [
 X.o 14 (.bin .lss (X.s 13) (X.s 12))]
def C.q30_r3 : List IOper := C.q30_r3_b
def C.q30_r3_w := pO C.q30_r3.eq_1
def C.q30_l8 : ICode := .keep [3, 11, 12, 13] (.seq (.region C.q30_r3) C.q30_c7)
def C.q30_l8_w := pC C.q30_l8.eq_1
def C.q30_b9 : ICode := .loop C.q30_l8
def C.q30_b9_w := pC C.q30_b9.eq_1
def C.q30_c10 : ICode := .keep [3, 11, 12, 13] (.block 0 C.q30_b9)
def C.q30_c10_w := pC C.q30_c10.eq_1
def C.q30_r2_b : List IOper := [
 X.o 10 (.fldAddr 1 (X.s 1)),
 X.o 11 (.load1 (X.s 10)),
 X.o 12 (.len (X.s 11)),
 X.o 13 (.move (X.i 0))]
def C.q30_r2 : List IOper := C.q30_r2_b
def C.q30_r2_w := pO C.q30_r2.eq_1
def C.q30_c11 : ICode := .keep [1, 3] (.seq (.seq (.region C.q30_r2) C.q30_c10) C.q30_c1)
def C.q30_c11_w := pC C.q30_c11.eq_1
def C.q30_r1_b : List IOper := [
 X.o 6 (.fldAddr 1 (X.s 1)),
 X.o 7 (.load1 (X.s 6)),
 X.o 8 (.len (X.s 7)),
 X.o 9 (.makeSlice 1 24 [.nils] (X.s 8) (X.s 8)),
 X.m 3 9]
def C.q30_r1 : List IOper := C.q30_r1_b
def C.q30_r1_w := pO C.q30_r1.eq_1
def C.q30_c12 : ICode := .keep [1] (.seq (.region C.q30_r1) C.q30_c11)
def C.q30_c12_w := pC C.q30_c12.eq_1
def C.q30_r0_b : List IOper := [
 X.o 1 (.boxN (X.s 0)),
 X.o 2 (.move (.cst (.nils)))]
def C.q30_r0 : List IOper := C.q30_r0_b
def C.q30_r0_w := pO C.q30_r0.eq_1
def C.q30 : IFunc := ⟨1, [.slot 2], .seq (.region C.q30_r0) C.q30_c12⟩
def C.q30_W := aI (aI (aI (aI @C.q30_r8_w @C.q30_c1_w) (aI @C.q30_r7_w (aI @C.q30_c2_w @C.q30_r6_w))) (aI (aI @C.q30_c3_w @C.q30_r5_w) (aI @C.q30_c4_w (aI @C.q30_r4_w @C.q30_b5_w)))) (aI (aI (aI @C.q30_c6_w @C.q30_c7_w) (aI @C.q30_r3_w (aI @C.q30_b9_w @C.q30_c10_w))) (aI (aI @C.q30_r2_w @C.q30_c11_w) (aI @C.q30_r1_w (aI @C.q30_c12_w @C.q30_r0_w))))
def C.q30_B := aI (aI (aI @C.q30_r8_b.eq_1 @C.q30_r7_b.eq_1) (aI @C.q30_r6_b.eq_1 @C.q30_r5_b.eq_1)) (aI (aI @C.q30_r4_b.eq_1 @C.q30_r3_b.eq_1) (aI @C.q30_r2_b.eq_1 (aI @C.q30_r1_b.eq_1 @C.q30_r0_b.eq_1)))

def C.q24_r1_b : List IOper := [
 X.o 2 (.fldAddr 2 (X.s 0)),
 X.o 3 (.load1 (X.s 2)),
 X.o 4 (.call F.q50 [X.s 3, .fnc F.q62]),
 X.m 1 4]
def C.q24_r1 : List IOper := C.q24_r1_b
def C.q24_r1_w := pO C.q24_r1.eq_1
def C.q24_c1 : ICode := .keep [0] (.seq (.region C.q24_r1) .ret)
def C.q24_c1_w := pC C.q24_c1.eq_1
def C.q24_r0_b : List IOper := [
 X.o 1 (.move (X.i 0))]
def C.q24_r0 : List IOper := C.q24_r0_b
def C.q24_r0_w := pO C.q24_r0.eq_1
def C.q24 : IFunc := ⟨1, [.slot 1], .seq (.region C.q24_r0) C.q24_c1⟩
def C.q24_W := aI @C.q24_r1_w (aI @C.q24_c1_w @C.q24_r0_w)
def C.q24_B := aI @C.q24_r1_b.eq_1 @C.q24_r0_b.eq_1

def C.q50_r8_b : List IOper := [
 X.o 4 (.move (X.i 0))]
def C.q50_r8 : List IOper := C.q50_r8_b
def C.q50_r8_w := pO C.q50_r8.eq_1
def C.q50_c1 : ICode := .keep [] (.seq (.region C.q50_r8) .ret)
def C.q50_c1_w := pC C.q50_c1.eq_1
def C.q50_r7_b : List IOper := [
 X.o 20 (.bin .add (X.s 10) (X.i 1)),
 X.m 10 20]
def C.q50_r7 : List IOper := C.q50_r7_b
def C.q50_r7_w := pO C.q50_r7.eq_1
def C.q50_c2 : ICode := .keep [1, 8, 9, 10] (.region C.q50_r7)
def C.q50_c2_w := pC C.q50_c2.eq_1
def C.q50_r6_b : List IOper := [
 X.m 19 7,
 X.m 4 19]
def C.q50_r6 : List IOper := C.q50_r6_b
def C.q50_r6_w := pO C.q50_r6.eq_1
def C.q50_c3 : ICode := .seq (.region C.q50_r6) .ret
def C.q50_c3_w := pC C.q50_c3.eq_1
def C.q50_c4 : ICode := .keep [1, 7, 8, 9, 10, 18] (.cond (X.s 18) C.q50_c3 .skip)
def C.q50_c4_w := pC C.q50_c4.eq_1
def C.q50_r5_b : List IOper := [
 X.m 17 7,
 X.o 18 (.bin .neq (X.s 17) (X.i 0))]
def C.q50_r5 : List IOper := C.q50_r5_b
def C.q50_r5_w := pO C.q50_r5.eq_1
def C.q50_c5 : ICode := .keep [1, 7, 8, 9, 10] (.seq (.region C.q50_r5) C.q50_c4)
def C.q50_c5_w := pC C.q50_c5.eq_1
def C.q50_r4_b : List IOper := [
 X.m 14 1,
 X.o 15 (.loadN 1 (X.s 6)),
 X.o 16 (.callv (X.s 14) [X.s 15]),
 X.m 7 16]
def C.q50_r4 : List IOper := C.q50_r4_b
def C.q50_r4_w := pO C.q50_r4.eq_1
def C.q50_c6 : ICode := .keep [1, 6, 8, 9, 10] (.seq (.region C.q50_r4) C.q50_c5)
def C.q50_c6_w := pC C.q50_c6.eq_1
def C.q50_r3_b : List IOper := [
 X.o 12 (.idxAddr 1 (X.s 8) (X.s 10)),
 X.o 13 (.loadN 1 (X.s 12)),
 X.o 6 (.alloc [.int .i64 0]),
 X.n (.storeN 1 (X.s 6) (X.s 13))]
def C.q50_r3 : List IOper := C.q50_r3_b
def C.q50_r3_w := pO C.q50_r3.eq_1
def C.q50_b7 : ICode := .seq (.region C.q50_r3) C.q50_c6
def C.q50_b7_w := pC C.q50_b7.eq_1
def C.q50_c8 : ICode := .keep [1, 8, 9, 10] (.seq (.block 1 C.q50_b7) C.q50_c2)
def C.q50_c8_w := pC C.q50_c8.eq_1
def C.q50_c9 : ICode := .keep [1, 8, 9, 10, 11] (.seq (.cond (X.s 11) .skip (.exit 0)) C.q50_c8)
def C.q50_c9_w := pC C.q50_c9.eq_1
def C.q50_r2_b : List IOper := [
 X.o 11 (.bin .lss (X.s 10) (X.s 9))]
def C.q50_r2 : List IOper := C.q50_r2_b
def C.q50_r2_w := pO C.q50_r2.eq_1
def C.q50_l10 : ICode := .keep [1, 8, 9, 10] (.seq (.region C.q50_r2) C.q50_c9)
def C.q50_l10_w := pC C.q50_l10.eq_1
def C.q50_b11 : ICode := .loop C.q50_l10
def C.q50_b11_w := pC C.q50_b11.eq_1
def C.q50_c12 : ICode := .keep [1, 8, 9, 10] (.block 0 C.q50_b11)
def C.q50_c12_w := pC C.q50_c12.eq_1
def C.q50_r1_b : List IOper := [
 X.m 8 0,
 X.o 9 (.len (X.s 8)),
 X.o 10 (.move (X.i 0))]
def C.q50_r1 : List IOper := C.q50_r1_b
def C.q50_r1_w := pO C.q50_r1.eq_1
def C.q50_c13 : ICode := .keep [0, 1] (.seq (.seq (.region C.q50_r1) C.q50_c12) C.q50_c1)
def C.q50_c13_w := pC C.q50_c13.eq_1
def C.q50_r0_b : List IOper := [
 X.o 4 (.move (X.i 0))]
def C.q50_r0 : List IOper := C.q50_r0_b
def C.q50_r0_w := pO C.q50_r0.eq_1
def C.q50 : IFunc := ⟨2, [.slot 4], .seq (.region C.q50_r0) C.q50_c13⟩
def C.q50_W := aI (aI (aI (aI @C.q50_r8_w @C.q50_c1_w) (aI @C.q50_r7_w (aI @C.q50_c2_w @C.q50_r6_w))) (aI (aI @C.q50_c3_w @C.q50_c4_w) (aI @C.q50_r5_w (aI @C.q50_c5_w @C.q50_r4_w)))) (aI (aI (aI @C.q50_c6_w @C.q50_r3_w) (aI @C.q50_b7_w (aI @C.q50_c8_w @C.q50_c9_w))) (aI (aI @C.q50_r2_w (aI @C.q50_b11_w @C.q50_c12_w)) (aI @C.q50_r1_w (aI @C.q50_c13_w @C.q50_r0_w))))
def C.q50_B := aI (aI (aI @C.q50_r8_b.eq_1 @C.q50_r7_b.eq_1) (aI @C.q50_r6_b.eq_1 @C.q50_r5_b.eq_1)) (aI (aI @C.q50_r4_b.eq_1 @C.q50_r3_b.eq_1) (aI @C.q50_r2_b.eq_1 (aI @C.q50_r1_b.eq_1 @C.q50_r0_b.eq_1)))

def C.q62_r1_b : List IOper := [
 X.o 3 (.fldAddr 0 (X.s 1)),
 X.o 4 (.load1 (X.s 3)),
 X.o 5 (.call F.q65 [X.s 4, X.i 0, X.i 20]),
 X.o 6 (.un .not (X.s 5)),
 X.o 7 (.call F.q64 [X.s 6, X.i 3]),
 X.m 2 7]
def C.q62_r1 : List IOper := C.q62_r1_b
def C.q62_r1_w := pO C.q62_r1.eq_1
def C.q62_c1 : ICode := .keep [1] (.seq (.region C.q62_r1) .ret)
def C.q62_c1_w := pC C.q62_c1.eq_1
def C.q62_r0_b : List IOper := [
 X.o 1 (.boxN (X.s 0)),
 X.o 2 (.move (X.i 0))]
def C.q62_r0 : List IOper := C.q62_r0_b
def C.q62_r0_w := pO C.q62_r0.eq_1
def C.q62 : IFunc := ⟨1, [.slot 2], .seq (.region C.q62_r0) C.q62_c1⟩
def C.q62_W := aI @C.q62_r1_w (aI @C.q62_c1_w @C.q62_r0_w)
def C.q62_B := aI @C.q62_r1_b.eq_1 @C.q62_r0_b.eq_1

def C.q25_r1_b : List IOper := [
 X.o 2 (.fldAddr 3 (X.s 0)),
 X.o 3 (.load1 (X.s 2)),
 X.o 4 (.makeFunc F.q26 [X.s 0]),
 X.o 5 (.call F.q48 [X.s 3, X.s 4]),
 X.m 1 5]
def C.q25_r1 : List IOper := C.q25_r1_b
def C.q25_r1_w := pO C.q25_r1.eq_1
def C.q25_c1 : ICode := .keep [0] (.seq (.region C.q25_r1) .ret)
def C.q25_c1_w := pC C.q25_c1.eq_1
def C.q25_r0_b : List IOper := [
 X.o 1 (.move (X.i 0))]
def C.q25_r0 : List IOper := C.q25_r0_b
def C.q25_r0_w := pO C.q25_r0.eq_1
def C.q25 : IFunc := ⟨1, [.slot 1], .seq (.region C.q25_r0) C.q25_c1⟩
def C.q25_W := aI @C.q25_r1_w (aI @C.q25_c1_w @C.q25_r0_w)
def C.q25_B := aI @C.q25_r1_b.eq_1 @C.q25_r0_b.eq_1

def C.q48_r8_b : List IOper := [
 X.o 4 (.move (X.i 0))]
def C.q48_r8 : List IOper := C.q48_r8_b
def C.q48_r8_w := pO C.q48_r8.eq_1
def C.q48_c1 : ICode := .keep [] (.seq (.region C.q48_r8) .ret)
def C.q48_c1_w := pC C.q48_c1.eq_1
def C.q48_r7_b : List IOper := [
 X.o 20 (.bin .add (X.s 10) (X.i 1)),
 X.m 10 20]
def C.q48_r7 : List IOper := C.q48_r7_b
def C.q48_r7_w := pO C.q48_r7.eq_1
def C.q48_c2 : ICode := .keep [1, 8, 9, 10] (.region C.q48_r7)
def C.q48_c2_w := pC C.q48_c2.eq_1
def C.q48_r6_b : List IOper := [
 X.m 19 7,
 X.m 4 19]
def C.q48_r6 : List IOper := C.q48_r6_b
def C.q48_r6_w := pO C.q48_r6.eq_1
def C.q48_c3 : ICode := .seq (.region C.q48_r6) .ret
def C.q48_c3_w := pC C.q48_c3.eq_1
def C.q48_c4 : ICode := .keep [1, 7, 8, 9, 10, 18] (.cond (X.s 18) C.q48_c3 .skip)
def C.q48_c4_w := pC C.q48_c4.eq_1
def C.q48_r5_b : List IOper := [
 X.m 17 7,
 X.o 18 (.bin .neq (X.s 17) (X.i 0))]
def C.q48_r5 : List IOper := C.q48_r5_b
def C.q48_r5_w := pO C.q48_r5.eq_1
def C.q48_c5 : ICode := .keep [1, 7, 8, 9, 10] (.seq (.region C.q48_r5) C.q48_c4)
def C.q48_c5_w := pC C.q48_c5.eq_1
def C.q48_r4_b : List IOper := [
 X.m 14 1,
 X.o 15 (.loadN 6 (X.s 6)),
 X.o 16 (.callv (X.s 14) [X.s 15]),
 X.m 7 16]
def C.q48_r4 : List IOper := C.q48_r4_b
def C.q48_r4_w := pO C.q48_r4.eq_1
def C.q48_c6 : ICode := .keep [1, 6, 8, 9, 10] (.seq (.region C.q48_r4) C.q48_c5)
def C.q48_c6_w := pC C.q48_c6.eq_1
def C.q48_r3_b : List IOper := [
 X.o 12 (.idxAddr 6 (X.s 8) (X.s 10)),
 X.o 13 (.loadN 6 (X.s 12)),
 X.o 6 (.alloc [.int .i64 0, .int .i64 0, .int .i64 0, .int .u32 0, .nils, .nils]),
 X.n (.storeN 6 (X.s 6) (X.s 13))]
def C.q48_r3 : List IOper := C.q48_r3_b
def C.q48_r3_w := pO C.q48_r3.eq_1
def C.q48_b7 : ICode := .seq (.region C.q48_r3) C.q48_c6
def C.q48_b7_w := pC C.q48_b7.eq_1
def C.q48_c8 : ICode := .keep [1, 8, 9, 10] (.seq (.block 1 C.q48_b7) C.q48_c2)
def C.q48_c8_w := pC C.q48_c8.eq_1
def C.q48_c9 : ICode := .keep [1, 8, 9, 10, 11] (.seq (.cond (X.s 11) .skip (.exit 0)) C.q48_c8)
def C.q48_c9_w := pC C.q48_c9.eq_1
def C.q48_r2_b : List IOper := [
 X.o 11 (.bin .lss (X.s 10) (X.s 9))]
def C.q48_r2 : List IOper := C.q48_r2_b
def C.q48_r2_w := pO C.q48_r2.eq_1
def C.q48_l10 : ICode := .keep [1, 8, 9, 10] (.seq (.region C.q48_r2) C.q48_c9)
def C.q48_l10_w := pC C.q48_l10.eq_1
def C.q48_b11 : ICode := .loop C.q48_l10
def C.q48_b11_w := pC C.q48_b11.eq_1
def C.q48_c12 : ICode := .keep [1, 8, 9, 10] (.block 0 C.q48_b11)
def C.q48_c12_w := pC C.q48_c12.eq_1
def C.q48_r1_b : List IOper := [
 X.m 8 0,
 X.o 9 (.len (X.s 8)),
 X.o 10 (.move (X.i 0))]
def C.q48_r1 : List IOper := C.q48_r1_b
def C.q48_r1_w := pO C.q48_r1.eq_1
def C.q48_c13 : ICode := .keep [0, 1] (.seq (.seq (.region C.q48_r1) C.q48_c12) C.q48_c1)
def C.q48_c13_w := pC C.q48_c13.eq_1
def C.q48_r0_b : List IOper := [
 X.o 4 (.move (X.i 0))]
def C.q48_r0 : List IOper := C.q48_r0_b
def C.q48_r0_w := pO C.q48_r0.eq_1
def C.q48 : IFunc := ⟨2, [.slot 4], .seq (.region C.q48_r0) C.q48_c13⟩
def C.q48_W := aI (aI (aI (aI @C.q48_r8_w @C.q48_c1_w) (aI @C.q48_r7_w (aI @C.q48_c2_w @C.q48_r6_w))) (aI (aI @C.q48_c3_w @C.q48_c4_w) (aI @C.q48_r5_w (aI @C.q48_c5_w @C.q48_r4_w)))) (aI (aI (aI @C.q48_c6_w @C.q48_r3_w) (aI @C.q48_b7_w (aI @C.q48_c8_w @C.q48_c9_w))) (aI (aI @C.q48_r2_w (aI @C.q48_b11_w @C.q48_c12_w)) (aI @C.q48_r1_w (aI @C.q48_c13_w @C.q48_r0_w))))
def C.q48_B := aI (aI (aI @C.q48_r8_b.eq_1 @C.q48_r7_b.eq_1) (aI @C.q48_r6_b.eq_1 @C.q48_r5_b.eq_1)) (aI (aI @C.q48_r4_b.eq_1 @C.q48_r3_b.eq_1) (aI @C.q48_r2_b.eq_1 (aI @C.q48_r1_b.eq_1 @C.q48_r0_b.eq_1)))

def C.q26_r1_b : List IOper := [
 X.o 4 (.loadN 4 (X.s 1)),
 X.o 5 (.loadN 6 (X.s 2)),
 X.o 6 (.call F.q38 [X.s 4, X.s 5]),
 X.m 3 6]
def C.q26_r1 : List IOper := C.q26_r1_b
def C.q26_r1_w := pO C.q26_r1.eq_1
def C.q26_c1 : ICode := .keep [1, 2] (.seq (.region C.q26_r1) .ret)
def C.q26_c1_w := pC C.q26_c1.eq_1
def C.q26_r0_b : List IOper := [
 X.o 2 (.boxN (X.s 0)),
 X.o 3 (.move (X.i 0))]
def C.q26_r0 : List IOper := C.q26_r0_b
def C.q26_r0_w := pO C.q26_r0.eq_1
def C.q26 : IFunc := ⟨2, [.slot 3], .seq (.region C.q26_r0) C.q26_c1⟩
def C.q26_W := aI @C.q26_r1_w (aI @C.q26_c1_w @C.q26_r0_w)
def C.q26_B := aI @C.q26_r1_b.eq_1 @C.q26_r0_b.eq_1

def C.q38_r1_b : List IOper := [
 X.o 5 (.makeFunc F.q39 [X.s 3, X.s 2]),
 X.o 6 (.makeFunc F.q40 [X.s 3, X.s 2]),
 X.o 7 (.makeFunc F.q41 [X.s 3, X.s 2]),
 X.o 8 (.makeFunc F.q42 [X.s 3, X.s 2]),
 X.o 9 (.buildSlice 1 4 [.nilf] [(0, 1, X.s 5), (1, 1, X.s 6), (2, 1, X.s 7), (3, 1, X.s 8)]),
 X.o 10 (.call F.q52 [X.s 9]),
 X.m 4 10]
def C.q38_r1 : List IOper := C.q38_r1_b
def C.q38_r1_w := pO C.q38_r1.eq_1
def C.q38_c1 : ICode := .keep [2, 3] (.seq (.region C.q38_r1) .ret)
def C.q38_c1_w := pC C.q38_c1.eq_1
def C.q38_r0_b : List IOper := [
 X.o 2 (.boxN (X.s 0)),
 X.o 3 (.boxN (X.s 1)),
 X.o 4 (.move (X.i 0))]
def C.q38_r0 : List IOper := C.q38_r0_b
def C.q38_r0_w := pO C.q38_r0.eq_1
def C.q38 : IFunc := ⟨2, [.slot 4], .seq (.region C.q38_r0) C.q38_c1⟩
def C.q38_W := aI @C.q38_r1_w (aI @C.q38_c1_w @C.q38_r0_w)
def C.q38_B := aI @C.q38_r1_b.eq_1 @C.q38_r0_b.eq_1

def C.q27_r1_b : List IOper := [
 X.o 2 (.loadN 4 (X.s 0)),
 X.o 3 (.call F.q31 [X.s 2]),
 X.o 4 (.call F.q37 [X.s 3]),
 X.m 1 4]
def C.q27_r1 : List IOper := C.q27_r1_b
def C.q27_r1_w := pO C.q27_r1.eq_1
def C.q27_c1 : ICode := .keep [0] (.seq (.region C.q27_r1) .ret)
def C.q27_c1_w := pC C.q27_c1.eq_1
def C.q27_r0_b : List IOper := [
 X.o 1 (.move (X.i 0))]
def C.q27_r0 : List IOper := C.q27_r0_b
def C.q27_r0_w := pO C.q27_r0.eq_1
def C.q27 : IFunc := ⟨1, [.slot 1], .seq (.region C.q27_r0) C.q27_c1⟩
def C.q27_W := aI @C.q27_r1_w (aI @C.q27_c1_w @C.q27_r0_w)
def C.q27_B := aI @C.q27_r1_b.eq_1 @C.q27_r0_b.eq_1

def C.q31_r7_b : List IOper := [
 X.m 25 3,
 X.m 2 25]
def C.q31_r7 : List IOper := C.q31_r7_b
def C.q31_r7_w := pO C.q31_r7.eq_1
def C.q31_c1 : ICode := .keep [3] (.seq (.region C.q31_r7) .ret)
def C.q31_c1_w := pC C.q31_c1.eq_1
def C.q31_r6_b : List IOper := [
 X.o 24 (.bin .add (X.s 13) (X.i 1)),
 X.m 13 24]
def C.q31_r6 : List IOper := C.q31_r6_b
def C.q31_r6_w := pO C.q31_r6.eq_1
def C.q31_c2 : ICode := .keep [3, 11, 12, 13] (.region C.q31_r6)
def C.q31_c2_w := pC C.q31_c2.eq_1
def C.q31_r5_b : List IOper := [
 X.m 18 3,
 X.m 19 4,
 X.o 20 (.fldAddr 5 (X.s 5)),
 X.o 21 (.load1 (X.s 20)),
 X.o 22 (.call F.q61 [X.s 21]),
 X.o 23 (.idxAddr 1 (X.s 18) (X.s 19)),
 X.n (.store1 (X.s 23) (X.s 22))]
def C.q31_r5 : List IOper := C.q31_r5_b
def C.q31_r5_w := pO C.q31_r5.eq_1
def C.q31_c3 : ICode := .keep [3, 4, 5, 11, 12, 13] (.region C.q31_r5)
def C.q31_c3_w := pC C.q31_c3.eq_1
def C.q31_r4_b : List IOper := [
 X.m 15 13,
 X.o 16 (.idxAddr 6 (X.s 11) (X.s 13)),
 X.o 17 (.loadN 6 (X.s 16)),
 X.o 5 (.alloc [.int .i64 0, .int .i64 0, .int .i64 0, .int .u32 0, .nils, .nils]),
 X.m 4 15,
 X.n (.storeN 6 (X.s 5) (X.s 17))]
def C.q31_r4 : List IOper := C.q31_r4_b
def C.q31_r4_w := pO C.q31_r4.eq_1
def C.q31_b4 : ICode := .seq (.region C.q31_r4) C.q31_c3
def C.q31_b4_w := pC C.q31_b4.eq_1
def C.q31_c5 : ICode := .keep [3, 11, 12, 13] (.seq (.block 1 C.q31_b4) C.q31_c2)
def C.q31_c5_w := pC C.q31_c5.eq_1
def C.q31_c6 : ICode := .keep [3, 11, 12, 13, 14] (.seq (.cond (X.s 14) .skip (.exit 0)) C.q31_c5)
def C.q31_c6_w := pC C.q31_c6.eq_1
def C.q31_r3_b : List IOper := [
 X.o 14 (.bin .lss (X.s 13) (X.s 12))]
def C.q31_r3 : List IOper := C.q31_r3_b
def C.q31_r3_w := pO C.q31_r3.eq_1
def C.q31_l7 : ICode := .keep [3, 11, 12, 13] (.seq (.region C.q31_r3) C.q31_c6)
def C.q31_l7_w := pC C.q31_l7.eq_1
def C.q31_b8 : ICode := .loop C.q31_l7
def C.q31_b8_w := pC C.q31_b8.eq_1
def C.q31_c9 : ICode := .keep [3, 11, 12, 13] (.block 0 C.q31_b8)
def C.q31_c9_w := pC C.q31_c9.eq_1
def C.q31_r2_b : List IOper := [
 X.o 10 (.fldAddr 3 (X.s 1)),
 X.o 11 (.load1 (X.s 10)),
 X.o 12 (.len (X.s 11)),
 X.o 13 (.move (X.i 0))]
def C.q31_r2 : List IOper := C.q31_r2_b
def C.q31_r2_w := pO C.q31_r2.eq_1
def C.q31_c10 : ICode := .keep [1, 3] (.seq (.seq (.region C.q31_r2) C.q31_c9) C.q31_c1)
def C.q31_c10_w := pC C.q31_c10.eq_1
def C.q31_r1_b : List IOper := [
 X.o 6 (.fldAddr 3 (X.s 1)),
 X.o 7 (.load1 (X.s 6)),
 X.o 8 (.len (X.s 7)),
 X.o 9 (.makeSlice 1 24 [.nils] (X.s 8) (X.s 8)),
 X.m 3 9]
def C.q31_r1 : List IOper := C.q31_r1_b
def C.q31_r1_w := pO C.q31_r1.eq_1
def C.q31_c11 : ICode := .keep [1] (.seq (.region C.q31_r1) C.q31_c10)
def C.q31_c11_w := pC C.q31_c11.eq_1
def C.q31_r0_b : List IOper := [
 X.o 1 (.boxN (X.s 0)),
 X.o 2 (.move (.cst (.nils)))]
def C.q31_r0 : List IOper := C.q31_r0_b
def C.q31_r0_w := pO C.q31_r0.eq_1
def C.q31 : IFunc := ⟨1, [.slot 2], .seq (.region C.q31_r0) C.q31_c11⟩
def C.q31_W := aI (aI (aI (aI @C.q31_r7_w @C.q31_c1_w) (aI @C.q31_r6_w @C.q31_c2_w)) (aI (aI @C.q31_r5_w @C.q31_c3_w) (aI @C.q31_r4_w (aI @C.q31_b4_w @C.q31_c5_w)))) (aI (aI (aI @C.q31_c6_w @C.q31_r3_w) (aI @C.q31_b8_w @C.q31_c9_w)) (aI (aI @C.q31_r2_w @C.q31_c10_w) (aI @C.q31_r1_w (aI @C.q31_c11_w @C.q31_r0_w))))
def C.q31_B := aI (aI (aI @C.q31_r7_b.eq_1 @C.q31_r6_b.eq_1) (aI @C.q31_r5_b.eq_1 @C.q31_r4_b.eq_1)) (aI (aI @C.q31_r3_b.eq_1 @C.q31_r2_b.eq_1) (aI @C.q31_r1_b.eq_1 @C.q31_r0_b.eq_1))

def C.q29_r13_b : List IOper := [
 X.o 66 (.loadN 4 (X.s 3)),
 X.n (.storeN 4 (X.s 2) (X.s 66))]
def C.q29_r13 : List IOper := C.q29_r13_b
def C.q29_r13_w := pO C.q29_r13.eq_1
def C.q29_c1 : ICode := .keep [2, 3] (.seq (.region C.q29_r13) .ret)
def C.q29_c1_w := pC C.q29_c1.eq_1
def C.q29_r12_b : List IOper := [
 X.o 65 (.bin .add (X.s 42) (X.i 1)),
 X.m 42 65]
def C.q29_r12 : List IOper := C.q29_r12_b
def C.q29_r12_w := pO C.q29_r12.eq_1
def C.q29_c2 : ICode := .keep [2, 3, 41, 42] (.region C.q29_r12)
def C.q29_c2_w := pC C.q29_c2.eq_1
def C.q29_r11_b : List IOper := [
 X.m 49 6,
 X.m 50 6,
 X.m 51 6,
 X.o 52 (.nilchk (X.s 51)),
 X.o 53 (.fldAddr 4 (X.s 52)),
 X.o 54 (.load1 (X.s 53)),
 X.m 56 6,
 X.o 57 (.nilchk (X.s 56)),
 X.o 58 (.fldAddr 5 (X.s 57)),
 X.o 59 (.load1 (X.s 58)),
 ⟨some 55, .call F.q59 [X.s 54], none, [⟨.load1 (X.s 58), 59, none⟩], []⟩,
 X.o 60 (.call F.q61 [X.s 59]),
 X.o 61 (.nilchk (X.s 49)),
 X.o 62 (.fldAddr 4 (X.s 61)),
 X.n (.store1 (X.s 62) (X.s 55)),
 X.o 63 (.nilchk (X.s 50)),
 X.o 64 (.fldAddr 5 (X.s 63)),
 X.n (.store1 (X.s 64) (X.s 60))]
def C.q29_r11 : List IOper := C.q29_r11_b
def C.q29_r11_w := pO C.q29_r11.eq_1
def C.q29_c3 : ICode := .keep [2, 3, 6, 41, 42] (.region C.q29_r11)
def C.q29_c3_w := pC C.q29_c3.eq_1
def C.q29_r10_b : List IOper := [
 X.o 45 (.fldAddr 3 (X.s 3)),
 X.o 46 (.load1 (X.s 45)),
 X.m 47 5,
 X.o 48 (.idxAddr 6 (X.s 46) (X.s 47)),
 X.m 6 48]
def C.q29_r10 : List IOper := C.q29_r10_b
def C.q29_r10_w := pO C.q29_r10.eq_1
def C.q29_c4 : ICode := .keep [2, 3, 5, 41, 42] (.seq (.region C.q29_r10) C.q29_c3)
def C.q29_c4_w := pC C.q29_c4.eq_1
def C.q29_r9_b : List IOper := [
 X.m 44 42,
 X.m 5 44]
def C.q29_r9 : List IOper := C.q29_r9_b
def C.q29_r9_w := pO C.q29_r9.eq_1
def C.q29_b5 : ICode := .seq (.region C.q29_r9) C.q29_c4
def C.q29_b5_w := pC C.q29_b5.eq_1
def C.q29_c6 : ICode := .keep [2, 3, 41, 42] (.seq (.block 3 C.q29_b5) C.q29_c2)
def C.q29_c6_w := pC C.q29_c6.eq_1
def C.q29_c7 : ICode := .keep [2, 3, 41, 42, 43] (.seq (.cond (X.s 43) .skip (.exit 2)) C.q29_c6)
def C.q29_c7_w := pC C.q29_c7.eq_1
def C.q29_r8_b : List IOper := [
 X.o 43 (.bin .lss (X.s 42) (X.s 41))]
def C.q29_r8 : List IOper := C.q29_r8_b
def C.q29_r8_w := pO C.q29_r8.eq_1
def C.q29_l8 : ICode := .keep [2, 3, 41, 42] (.seq (.region C.q29_r8) C.q29_c7)
def C.q29_l8_w := pC C.q29_l8.eq_1
def C.q29_b9 : ICode := .loop C.q29_l8
def C.q29_b9_w := pC C.q29_b9.eq_1
def C.q29_c10 : ICode := .keep [2, 3, 41, 42] (.block 2 C.q29_b9)
def C.q29_c10_w := pC C.q29_c10.eq_1
def C.q29_r7_b : List IOper := [
 X.o 39 (.fldAddr 3 (X.s 3)),
 X.o 40 (.load1 (X.s 39)),
 X.o 41 (.len (X.s 40)),
 X.o 42 (.move (X.i 0))]
def C.q29_r7 : List IOper := C.q29_r7_b
def C.q29_r7_w := pO C.q29_r7.eq_1
def C.q29_c11 : ICode := .keep [2, 3] (.seq (.seq (.region C.q29_r7) C.q29_c10) C.q29_c1)
def C.q29_c11_w := pC C.q29_c11.eq_1
def C.q29_r6_b : List IOper := [
 X.o 38 (.bin .add (X.s 23) (X.i 1)),
 X.m 23 38]
def C.q29_r6 : List IOper := C.q29_r6_b
def C.q29_r6_w := pO C.q29_r6.eq_1
def C.q29_c12 : ICode := .keep [2, 3, 22, 23] (.region C.q29_r6)
def C.q29_c12_w := pC C.q29_c12.eq_1
def C.q29_r5_b : List IOper := [
 X.o 26 (.fldAddr 0 (X.s 3)),
 X.o 27 (.load1 (X.s 26)),
 X.m 28 4,
 X.o 29 (.fldAddr 0 (X.s 3)),
 X.o 30 (.load1 (X.s 29)),
 X.m 31 4,
 X.o 32 (.idxAddr 6 (X.s 30) (X.s 31)),
 X.o 33 (.fldAddr 1 (X.s 32)),
 X.o 34 (.load1 (X.s 33)),
 ⟨some 35, .call F.q61 [X.s 34], none, [⟨.load1 (X.s 26), 27, none⟩], []⟩,
 X.o 36 (.idxAddr 6 (X.s 27) (X.s 28)),
 X.o 37 (.fldAddr 1 (X.s 36)),
 X.n (.store1 (X.s 37) (X.s 35))]
def C.q29_r5 : List IOper := C.q29_r5_b
def C.q29_r5_w := pO C.q29_r5.eq_1
def C.q29_c13 : ICode := .keep [2, 3, 4, 22, 23] (.region C.q29_r5)
def C.q29_c13_w := pC C.q29_c13.eq_1
def C.q29_r4_b : List IOper := [
 X.m 25 23,
 X.m 4 25]
def C.q29_r4 : List IOper := C.q29_r4_b
def C.q29_r4_w := pO C.q29_r4.eq_1
def C.q29_b14 : ICode := .seq (.region C.q29_r4) C.q29_c13
def C.q29_b14_w := pC C.q29_b14.eq_1
def C.q29_c15 : ICode := .keep [2, 3, 22, 23] (.seq (.block 1 C.q29_b14) C.q29_c12)
def C.q29_c15_w := pC C.q29_c15.eq_1
def C.q29_c16 : ICode := .keep [2, 3, 22, 23, 24] (.seq (.cond (X.s 24) .skip (.exit 0)) C.q29_c15)
def C.q29_c16_w := pC C.q29_c16.eq_1
def C.q29_r3_b : List IOper := [
 X.o 24 (.bin .lss (X.s 23) (X.s 22))]
def C.q29_r3 : List IOper := C.q29_r3_b
def C.q29_r3_w := pO C.q29_r3.eq_1
def C.q29_l17 : ICode := .keep [2, 3, 22, 23] (.seq (.region C.q29_r3) C.q29_c16)
def C.q29_l17_w := pC C.q29_l17.eq_1
def C.q29_b18 : ICode := .loop C.q29_l17
def C.q29_b18_w := pC C.q29_b18.eq_1
def C.q29_c19 : ICode := .keep [2, 3, 22, 23] (.block 0 C.q29_b18)
def C.q29_c19_w := pC C.q29_c19.eq_1
def C.q29_r2_b : List IOper := [
 X.o 20 (.fldAddr 0 (X.s 3)),
 X.o 21 (.load1 (X.s 20)),
 X.o 22 (.len (X.s 21)),
 X.o 23 (.move (X.i 0))]
def C.q29_r2 : List IOper := C.q29_r2_b
def C.q29_r2_w := pO C.q29_r2.eq_1
def C.q29_c20 : ICode := .keep [2, 3] (.seq (.seq (.region C.q29_r2) C.q29_c19) C.q29_c11)
def C.q29_c20_w := pC C.q29_c20.eq_1
def C.q29_r1_b : List IOper := [
 X.o 7 (.fldAddr 0 (X.s 1)),
 X.o 8 (.load1 (X.s 7)),
 X.o 10 (.fldAddr 1 (X.s 1)),
 X.o 11 (.load1 (X.s 10)),
 X.o 13 (.fldAddr 2 (X.s 1)),
 X.o 14 (.load1 (X.s 13)),
 X.o 16 (.fldAddr 3 (X.s 1)),
 X.o 17 (.load1 (X.s 16)),
 ⟨some 9, .call F.q56 [X.s 8], none, [⟨.load1 (X.s 10), 11, none⟩, ⟨.load1 (X.s 13), 14, none⟩, ⟨.load1 (X.s 16), 17, none⟩], []⟩,
 ⟨some 12, .call F.q58 [X.s 11], none, [⟨.load1 (X.s 13), 14, none⟩, ⟨.load1 (X.s 16), 17, none⟩], []⟩,
 ⟨some 15, .call F.q60 [X.s 14], none, [⟨.load1 (X.s 16), 17, none⟩], []⟩,
 X.o 18 (.call F.q57 [X.s 17]),
 X.o 19 (.build [.nils, .nils, .nils, .nils] [(0, 1, X.s 9), (1, 1, X.s 12), (2, 1, X.s 15), (3, 1, X.s 18)]),
 X.o 3 (.alloc [.nils, .nils, .nils, .nils]),
 X.n (.storeN 4 (X.s 3) (X.s 19))]
def C.q29_r1 : List IOper := C.q29_r1_b
def C.q29_r1_w := pO C.q29_r1.eq_1
def C.q29_c21 : ICode := .keep [1, 2] (.seq (.region C.q29_r1) C.q29_c20)
def C.q29_c21_w := pC C.q29_c21.eq_1
def C.q29_r0_b : List IOper := [
 X.o 1 (.boxN (X.s 0)),
 X.o 2 (.alloc [.nils, .nils, .nils, .nils])]
def C.q29_r0 : List IOper := C.q29_r0_b
def C.q29_r0_w := pO C.q29_r0.eq_1
def C.q29 : IFunc := ⟨1, [.cellN 2 4], .seq (.region C.q29_r0) C.q29_c21⟩
def C.q29_W := aI (aI (aI (aI (aI @C.q29_r13_w @C.q29_c1_w) (aI @C.q29_r12_w @C.q29_c2_w)) (aI (aI @C.q29_r11_w @C.q29_c3_w) (aI @C.q29_r10_w @C.q29_c4_w))) (aI (aI (aI @C.q29_r9_w @C.q29_b5_w) (aI @C.q29_c6_w @C.q29_c7_w)) (aI (aI @C.q29_r8_w @C.q29_b9_w) (aI @C.q29_c10_w @C.q29_r7_w)))) (aI (aI (aI (aI @C.q29_c11_w @C.q29_r6_w) (aI @C.q29_c12_w @C.q29_r5_w)) (aI (aI @C.q29_c13_w @C.q29_r4_w) (aI @C.q29_b14_w @C.q29_c15_w))) (aI (aI (aI @C.q29_c16_w @C.q29_r3_w) (aI @C.q29_b18_w @C.q29_c19_w)) (aI (aI @C.q29_r2_w @C.q29_c20_w) (aI @C.q29_r1_w (aI @C.q29_c21_w @C.q29_r0_w)))))
def C.q29_B := aI (aI (aI @C.q29_r13_b.eq_1 (aI @C.q29_r12_b.eq_1 @C.q29_r11_b.eq_1)) (aI (aI @C.q29_r10_b.eq_1 @C.q29_r9_b.eq_1) (aI @C.q29_r8_b.eq_1 @C.q29_r7_b.eq_1))) (aI (aI @C.q29_r6_b.eq_1 (aI @C.q29_r5_b.eq_1 @C.q29_r4_b.eq_1)) (aI (aI @C.q29_r3_b.eq_1 @C.q29_r2_b.eq_1) (aI @C.q29_r1_b.eq_1 @C.q29_r0_b.eq_1)))

def C.q117_r3_b : List IOper := [
 X.o 5 (.buildSlice 2 0 [.int .u32 0, .bool false] []),
 X.m 6 0,
 X.o 7 (.append 2 8 (X.s 5) (X.s 6)),
 X.m 2 7]
def C.q117_r3 : List IOper := C.q117_r3_b
def C.q117_r3_w := pO C.q117_r3.eq_1
def C.q117_c1 : ICode := .keep [0] (.seq (.region C.q117_r3) .ret)
def C.q117_c1_w := pC C.q117_c1.eq_1
def C.q117_r2_b : List IOper := [
 X.o 2 (.move (.cst (.nils)))]
def C.q117_r2 : List IOper := C.q117_r2_b
def C.q117_r2_w := pO C.q117_r2.eq_1
def C.q117_c2 : ICode := .seq (.region C.q117_r2) .ret
def C.q117_c2_w := pC C.q117_c2.eq_1
def C.q117_c3 : ICode := .keep [0, 4] (.cond (X.s 4) C.q117_c2 .skip)
def C.q117_c3_w := pC C.q117_c3.eq_1
def C.q117_r1_b : List IOper := [
 X.m 3 0,
 X.o 4 (.eqP 1 false (X.s 3) (.cst (.nils)))]
def C.q117_r1 : List IOper := C.q117_r1_b
def C.q117_r1_w := pO C.q117_r1.eq_1
def C.q117_c4 : ICode := .keep [0] (.seq (.seq (.region C.q117_r1) C.q117_c3) C.q117_c1)
def C.q117_c4_w := pC C.q117_c4.eq_1
def C.q117_r0_b : List IOper := [
 X.o 2 (.move (.cst (.nils)))]
def C.q117_r0 : List IOper := C.q117_r0_b
def C.q117_r0_w := pO C.q117_r0.eq_1
def C.q117 : IFunc := ⟨1, [.slot 2], .seq (.region C.q117_r0) C.q117_c4⟩
def C.q117_W := aI (aI (aI @C.q117_r3_w @C.q117_c1_w) (aI @C.q117_r2_w @C.q117_c2_w)) (aI (aI @C.q117_c3_w @C.q117_r1_w) (aI @C.q117_c4_w @C.q117_r0_w))
def C.q117_B := aI (aI @C.q117_r3_b.eq_1 @C.q117_r2_b.eq_1) (aI @C.q117_r1_b.eq_1 @C.q117_r0_b.eq_1)

def C.q14_r3_b : List IOper := [
 X.m 20 0,
 X.o 21 (.nilchk (X.s 20)),
 X.o 22 (.fldAddr 0 (X.s 21)),
 X.o 23 (.load1 (X.s 22)),
 X.m 24 1,
 X.o 25 (.idxAddr 11 (X.s 23) (X.s 24)),
 X.m 4 25]
def C.q14_r3 : List IOper := C.q14_r3_b
def C.q14_r3_w := pO C.q14_r3.eq_1
def C.q14_c1 : ICode := .keep [0, 1] (.seq (.region C.q14_r3) .ret)
def C.q14_c1_w := pC C.q14_c1.eq_1
def C.q14_r2_b : List IOper := [
 X.o 4 (.move (.cst (.nilp)))]
def C.q14_r2 : List IOper := C.q14_r2_b
def C.q14_r2_w := pO C.q14_r2.eq_1
def C.q14_c2 : ICode := .seq (.region C.q14_r2) .ret
def C.q14_c2_w := pC C.q14_c2.eq_1
def C.q14_c3 : ICode := .keep [0, 1, 19] (.cond (X.s 19) C.q14_c2 .skip)
def C.q14_c3_w := pC C.q14_c3.eq_1
def C.q14_r1_b : List IOper := [
 X.m 5 0,
 X.o 6 (.eqP 0 false (X.s 5) (.cst (.nilp))),
 X.m 7 6,
 X.f 7 8 (.move (X.s 1)),
 X.f 7 9 (.bin .lss (X.s 8) (X.i 0)),
 X.o 10 (.pick (X.s 7) (.cst (.bool true)) (X.s 9)),
 X.m 11 10,
 X.f 11 12 (.move (X.s 1)),
 X.f 11 13 (.move (X.s 0)),
 X.f 11 14 (.nilchk (X.s 13)),
 X.f 11 15 (.fldAddr 0 (X.s 14)),
 X.f 11 16 (.load1 (X.s 15)),
 X.f 11 17 (.len (X.s 16)),
 X.f 11 18 (.bin .geq (X.s 12) (X.s 17)),
 X.o 19 (.pick (X.s 11) (.cst (.bool true)) (X.s 18))]
def C.q14_r1 : List IOper := C.q14_r1_b
def C.q14_r1_w := pO C.q14_r1.eq_1
def C.q14_c4 : ICode := .keep [0, 1] (.seq (.seq (.region C.q14_r1) C.q14_c3) C.q14_c1)
def C.q14_c4_w := pC C.q14_c4.eq_1
def C.q14_r0_b : List IOper := [
 X.o 4 (.move (.cst (.nilp)))]
def C.q14_r0 : List IOper := C.q14_r0_b
def C.q14_r0_w := pO C.q14_r0.eq_1
def C.q14 : IFunc := ⟨2, [.slot 4], .seq (.region C.q14_r0) C.q14_c4⟩
def C.q14_W := aI (aI (aI @C.q14_r3_w @C.q14_c1_w) (aI @C.q14_r2_w @C.q14_c2_w)) (aI (aI @C.q14_c3_w @C.q14_r1_w) (aI @C.q14_c4_w @C.q14_r0_w))
def C.q14_B := aI (aI @C.q14_r3_b.eq_1 @C.q14_r2_b.eq_1) (aI @C.q14_r1_b.eq_1 @C.q14_r0_b.eq_1)

def C.q92_r3_b : List IOper := [
 X.m 20 0,
 X.o 21 (.nilchk (X.s 20)),
 X.o 22 (.fldAddr 0 (X.s 21)),
 X.o 23 (.load1 (X.s 22)),
 X.m 24 1,
 X.o 25 (.idxAddr 7 (X.s 23) (X.s 24)),
 X.m 4 25]
def C.q92_r3 : List IOper := C.q92_r3_b
def C.q92_r3_w := pO C.q92_r3.eq_1
def C.q92_c1 : ICode := .keep [0, 1] (.seq (.region C.q92_r3) .ret)
def C.q92_c1_w := pC C.q92_c1.eq_1
def C.q92_r2_b : List IOper := [
 X.o 4 (.move (.cst (.nilp)))]
def C.q92_r2 : List IOper := C.q92_r2_b
def C.q92_r2_w := pO C.q92_r2.eq_1
def C.q92_c2 : ICode := .seq (.region C.q92_r2) .ret
def C.q92_c2_w := pC C.q92_c2.eq_1
def C.q92_c3 : ICode := .keep [0, 1, 19] (.cond (X.s 19) C.q92_c2 .skip)
def C.q92_c3_w := pC C.q92_c3.eq_1
def C.q92_r1_b : List IOper := [
 X.m 5 0,
 X.o 6 (.eqP 0 false (X.s 5) (.cst (.nilp))),
 X.m 7 6,
 X.f 7 8 (.move (X.s 1)),
 X.f 7 9 (.bin .lss (X.s 8) (X.i 0)),
 X.o 10 (.pick (X.s 7) (.cst (.bool true)) (X.s 9)),
 X.m 11 10,
 X.f 11 12 (.move (X.s 1)),
 X.f 11 13 (.move (X.s 0)),
 X.f 11 14 (.nilchk (X.s 13)),
 X.f 11 15 (.fldAddr 0 (X.s 14)),
 X.f 11 16 (.load1 (X.s 15)),
 X.f 11 17 (.len (X.s 16)),
 X.f 11 18 (.bin .geq (X.s 12) (X.s 17)),
 X.o 19 (.pick (X.s 11) (.cst (.bool true)) (X.s 18))]
def C.q92_r1 : List IOper := C.q92_r1_b
def C.q92_r1_w := pO C.q92_r1.eq_1
def C.q92_c4 : ICode := .keep [0, 1] (.seq (.seq (.region C.q92_r1) C.q92_c3) C.q92_c1)
def C.q92_c4_w := pC C.q92_c4.eq_1
def C.q92_r0_b : List IOper := [
 X.o 4 (.move (.cst (.nilp)))]
def C.q92_r0 : List IOper := C.q92_r0_b
def C.q92_r0_w := pO C.q92_r0.eq_1
def C.q92 : IFunc := ⟨2, [.slot 4], .seq (.region C.q92_r0) C.q92_c4⟩
def C.q92_W := aI (aI (aI @C.q92_r3_w @C.q92_c1_w) (aI @C.q92_r2_w @C.q92_c2_w)) (aI (aI @C.q92_c3_w @C.q92_r1_w) (aI @C.q92_c4_w @C.q92_r0_w))
def C.q92_B := aI (aI @C.q92_r3_b.eq_1 @C.q92_r2_b.eq_1) (aI @C.q92_r1_b.eq_1 @C.q92_r0_b.eq_1)

def C.q94_r1_b : List IOper := [
 X.m 3 0,
 X.o 4 (.nilchk (X.s 3)),
 X.o 5 (.fldAddr 3 (X.s 4)),
 X.o 6 (.load1 (X.s 5)),
 X.o 7 (.bin .eql (X.s 6) (.cst (.int .u8 48))),
 X.m 8 7,
 X.f 8 9 (.move (X.s 0)),
 X.f 8 10 (.nilchk (X.s 9)),
 X.f 8 11 (.fldAddr 3 (X.s 10)),
 X.f 8 12 (.load1 (X.s 11)),
 X.f 8 13 (.bin .eql (X.s 12) (.cst (.int .u8 116))),
 X.o 14 (.pick (X.s 8) (.cst (.bool true)) (X.s 13)),
 X.m 2 14]
def C.q94_r1 : List IOper := C.q94_r1_b
def C.q94_r1_w := pO C.q94_r1.eq_1
def C.q94_c1 : ICode := .keep [0] (.seq (.region C.q94_r1) .ret)
def C.q94_c1_w := pC C.q94_c1.eq_1
def C.q94_r0_b : List IOper := [
 X.o 2 (.move (.cst (.bool false)))]
def C.q94_r0 : List IOper := C.q94_r0_b
def C.q94_r0_w := pO C.q94_r0.eq_1
def C.q94 : IFunc := ⟨1, [.slot 2], .seq (.region C.q94_r0) C.q94_c1⟩
def C.q94_W := aI @C.q94_r1_w (aI @C.q94_c1_w @C.q94_r0_w)
def C.q94_B := aI @C.q94_r1_b.eq_1 @C.q94_r0_b.eq_1

def C.q115_r4_b : List IOper := [
 X.o 20 (.loadN 4 (X.s 6)),
 X.m 21 7,
 X.n (.storeN 4 (X.s 4) (X.s 20)),
 X.m 5 21]
def C.q115_r4 : List IOper := C.q115_r4_b
def C.q115_r4_w := pO C.q115_r4.eq_1
def C.q115_c1 : ICode := .keep [4, 6, 7] (.seq (.region C.q115_r4) .ret)
def C.q115_c1_w := pC C.q115_c1.eq_1
def C.q115_r3_b : List IOper := [
 X.m 12 0,
 X.o 13 (.nilchk (X.s 12)),
 X.o 14 (.fldAddr 0 (X.s 13)),
 X.o 15 (.load1 (X.s 14)),
 X.m 16 1,
 X.o 17 (.lookup (.agg [.int .i64 0, .int .i64 0, .bool false, .bool false]) true (X.s 15) (X.s 16)),
 X.m 11 17,
 X.o 18 (.extract (X.s 11) 0),
 X.o 19 (.extract (X.s 11) 1),
 X.o 6 (.alloc [.int .i64 0, .int .i64 0, .bool false, .bool false]),
 X.n (.storeN 4 (X.s 6) (X.s 18)),
 X.m 7 19]
def C.q115_r3 : List IOper := C.q115_r3_b
def C.q115_r3_w := pO C.q115_r3.eq_1
def C.q115_c2 : ICode := .keep [0, 1, 4] (.seq (.region C.q115_r3) C.q115_c1)
def C.q115_c2_w := pC C.q115_c2.eq_1
def C.q115_r2_b : List IOper := [
 X.o 10 (.build [.int .i64 0, .int .i64 0, .bool false, .bool false] []),
 X.n (.storeN 4 (X.s 4) (X.s 10)),
 X.o 5 (.move (.cst (.bool false)))]
def C.q115_r2 : List IOper := C.q115_r2_b
def C.q115_r2_w := pO C.q115_r2.eq_1
def C.q115_c3 : ICode := .seq (.region C.q115_r2) .ret
def C.q115_c3_w := pC C.q115_c3.eq_1
def C.q115_c4 : ICode := .keep [0, 1, 4, 9] (.cond (X.s 9) C.q115_c3 .skip)
def C.q115_c4_w := pC C.q115_c4.eq_1
def C.q115_r1_b : List IOper := [
 X.m 8 0,
 X.o 9 (.eqP 0 false (X.s 8) (.cst (.nilp)))]
def C.q115_r1 : List IOper := C.q115_r1_b
def C.q115_r1_w := pO C.q115_r1.eq_1
def C.q115_c5 : ICode := .keep [0, 1, 4] (.seq (.seq (.region C.q115_r1) C.q115_c4) C.q115_c2)
def C.q115_c5_w := pC C.q115_c5.eq_1
def C.q115_r0_b : List IOper := [
 X.o 4 (.alloc [.int .i64 0, .int .i64 0, .bool false, .bool false]),
 X.o 5 (.move (.cst (.bool false)))]
def C.q115_r0 : List IOper := C.q115_r0_b
def C.q115_r0_w := pO C.q115_r0.eq_1
def C.q115 : IFunc := ⟨2, [.cellN 4 4, .slot 5], .seq (.region C.q115_r0) C.q115_c5⟩
def C.q115_W := aI (aI (aI @C.q115_r4_w @C.q115_c1_w) (aI @C.q115_r3_w (aI @C.q115_c2_w @C.q115_r2_w))) (aI (aI @C.q115_c3_w @C.q115_c4_w) (aI @C.q115_r1_w (aI @C.q115_c5_w @C.q115_r0_w)))
def C.q115_B := aI (aI @C.q115_r4_b.eq_1 @C.q115_r3_b.eq_1) (aI @C.q115_r2_b.eq_1 (aI @C.q115_r1_b.eq_1 @C.q115_r0_b.eq_1))

def C.q107_r1_b : List IOper := [
 X.o 4 (.load1 (X.s 2)),
 X.o 5 (.makeFunc F.q108 [X.s 3, X.s 2]),
 X.o 6 (.call F.q109 [X.s 4, X.s 5])]
def C.q107_r1 : List IOper := C.q107_r1_b
def C.q107_r1_w := pO C.q107_r1.eq_1
def C.q107_c1 : ICode := .keep [2, 3] (.region C.q107_r1)
def C.q107_c1_w := pC C.q107_c1.eq_1
def C.q107_r0_b : List IOper := [
 X.o 2 (.box1 (X.s 0)),
 X.o 3 (.box1 (X.s 1))]
def C.q107_r0 : List IOper := C.q107_r0_b
def C.q107_r0_w := pO C.q107_r0.eq_1
def C.q107 : IFunc := ⟨2, [], .seq (.region C.q107_r0) C.q107_c1⟩
def C.q107_W := aI @C.q107_r1_w (aI @C.q107_c1_w @C.q107_r0_w)
def C.q107_B := aI @C.q107_r1_b.eq_1 @C.q107_r0_b.eq_1

def C.q99_r1_b : List IOper := [
 X.o 5 (.fldAddr 0 (X.s 3)),
 X.o 6 (.load1 (X.s 5)),
 X.m 4 6]
def C.q99_r1 : List IOper := C.q99_r1_b
def C.q99_r1_w := pO C.q99_r1.eq_1
def C.q99_c1 : ICode := .keep [3] (.seq (.region C.q99_r1) .ret)
def C.q99_c1_w := pC C.q99_c1.eq_1
def C.q99_r0_b : List IOper := [
 X.o 3 (.boxN (X.s 1)),
 X.o 4 (.move (.cst (.int .u32 0)))]
def C.q99_r0 : List IOper := C.q99_r0_b
def C.q99_r0_w := pO C.q99_r0.eq_1
def C.q99 : IFunc := ⟨2, [.slot 4], .seq (.region C.q99_r0) C.q99_c1⟩
def C.q99_W := aI @C.q99_r1_w (aI @C.q99_c1_w @C.q99_r0_w)
def C.q99_B := aI @C.q99_r1_b.eq_1 @C.q99_r0_b.eq_1

def C.q0_r5_b : List IOper := [
 X.m 42 6,
 X.o 43 (.idxAddr 4 (X.s 42) (X.i 0)),
 X.o 44 (.loadN 4 (X.s 43)),
 X.n (.storeN 4 (X.s 4) (X.s 44)),
 X.o 5 (.move (.cst (.bool true)))]
def C.q0_r5 : List IOper := C.q0_r5_b
def C.q0_r5_w := pO C.q0_r5.eq_1
def C.q0_c1 : ICode := .keep [4, 6] (.seq (.region C.q0_r5) .ret)
def C.q0_c1_w := pC C.q0_c1.eq_1
def C.q0_r4_b : List IOper := [
 X.m 30 0,
 X.o 31 (.nilchk (X.s 30)),
 X.o 32 (.fldAddr 1 (X.s 31)),
 X.o 33 (.load1 (X.s 32)),
 X.m 34 1,
 X.m 35 6,
 X.m 36 6,
 X.o 37 (.len (X.s 36)),
 X.m 38 6,
 X.o 39 (.len (X.s 38)),
 X.o 40 (.slice 4 (X.s 35) (some (X.i 1)) (some (X.s 37)) (some (X.s 39))),
 X.o 41 (.idxAddr 1 (X.s 33) (X.s 34)),
 X.n (.store1 (X.s 41) (X.s 40))]
def C.q0_r4 : List IOper := C.q0_r4_b
def C.q0_r4_w := pO C.q0_r4.eq_1
def C.q0_c2 : ICode := .keep [0, 1, 4, 6] (.seq (.region C.q0_r4) C.q0_c1)
def C.q0_c2_w := pC C.q0_c2.eq_1
def C.q0_r3_b : List IOper := [
 X.m 23 0,
 X.o 24 (.nilchk (X.s 23)),
 X.o 25 (.fldAddr 1 (X.s 24)),
 X.o 26 (.load1 (X.s 25)),
 X.m 27 1,
 X.o 28 (.idxAddr 1 (X.s 26) (X.s 27)),
 X.o 29 (.load1 (X.s 28)),
 X.m 6 29]
def C.q0_r3 : List IOper := C.q0_r3_b
def C.q0_r3_w := pO C.q0_r3.eq_1
def C.q0_c3 : ICode := .keep [0, 1, 4] (.seq (.region C.q0_r3) C.q0_c2)
def C.q0_c3_w := pC C.q0_c3.eq_1
def C.q0_r2_b : List IOper := [
 X.o 22 (.build [.int .i64 0, .bool false, .int .i64 0, .int .u32 0] []),
 X.n (.storeN 4 (X.s 4) (X.s 22)),
 X.o 5 (.move (.cst (.bool false)))]
def C.q0_r2 : List IOper := C.q0_r2_b
def C.q0_r2_w := pO C.q0_r2.eq_1
def C.q0_c4 : ICode := .seq (.region C.q0_r2) .ret
def C.q0_c4_w := pC C.q0_c4.eq_1
def C.q0_c5 : ICode := .keep [0, 1, 4, 21] (.cond (X.s 21) C.q0_c4 .skip)
def C.q0_c5_w := pC C.q0_c5.eq_1
def C.q0_r1_b : List IOper := [
 X.m 7 0,
 X.m 8 1,
 X.o 9 (.call F.q2 [X.s 7, X.s 8]),
 X.o 10 (.un .not (X.s 9)),
 X.m 11 10,
 X.f 11 12 (.move (X.s 0)),
 X.f 11 13 (.nilchk (X.s 12)),
 X.f 11 14 (.fldAddr 1 (X.s 13)),
 X.f 11 15 (.load1 (X.s 14)),
 X.f 11 16 (.move (X.s 1)),
 X.f 11 17 (.idxAddr 1 (X.s 15) (X.s 16)),
 X.f 11 18 (.load1 (X.s 17)),
 X.f 11 19 (.len (X.s 18)),
 X.f 11 20 (.bin .eql (X.s 19) (X.i 0)),
 X.o 21 (.pick (X.s 11) (.cst (.bool true)) (X.s 20))]
def C.q0_r1 : List IOper := C.q0_r1_b
def C.q0_r1_w := pO C.q0_r1.eq_1
def C.q0_c6 : ICode := .keep [0, 1, 4] (.seq (.seq (.region C.q0_r1) C.q0_c5) C.q0_c3)
def C.q0_c6_w := pC C.q0_c6.eq_1
def C.q0_r0_b : List IOper := [
 X.o 4 (.alloc [.int .i64 0, .bool false, .int .i64 0, .int .u32 0]),
 X.o 5 (.move (.cst (.bool false)))]
def C.q0_r0 : List IOper := C.q0_r0_b
def C.q0_r0_w := pO C.q0_r0.eq_1
def C.q0 : IFunc := ⟨2, [.cellN 4 4, .slot 5], .seq (.region C.q0_r0) C.q0_c6⟩
def C.q0_W := aI (aI (aI @C.q0_r5_w (aI @C.q0_c1_w @C.q0_r4_w)) (aI @C.q0_c2_w (aI @C.q0_r3_w @C.q0_c3_w))) (aI (aI @C.q0_r2_w (aI @C.q0_c4_w @C.q0_c5_w)) (aI @C.q0_r1_w (aI @C.q0_c6_w @C.q0_r0_w)))
def C.q0_B := aI (aI @C.q0_r5_b.eq_1 (aI @C.q0_r4_b.eq_1 @C.q0_r3_b.eq_1)) (aI @C.q0_r2_b.eq_1 (aI @C.q0_r1_b.eq_1 @C.q0_r0_b.eq_1))

def C.q101_r3_b : List IOper := [
 X.m 14 0,
 X.o 15 (.nilchk (X.s 14)),
 X.o 16 (.fldAddr 1 (X.s 15)),
 X.o 17 (.load1 (X.s 16)),
 X.m 18 1,
 X.o 19 (.idxAddr 1 (X.s 17) (X.s 18)),
 X.o 20 (.load1 (X.s 19)),
 X.m 4 20,
 X.o 5 (.move (X.i 0))]
def C.q101_r3 : List IOper := C.q101_r3_b
def C.q101_r3_w := pO C.q101_r3.eq_1
def C.q101_c1 : ICode := .keep [0, 1] (.seq (.region C.q101_r3) .ret)
def C.q101_c1_w := pC C.q101_c1.eq_1
def C.q101_r2_b : List IOper := [
 X.o 4 (.move (.cst (.int .u32 0))),
 X.o 5 (.move (X.i 4))]
def C.q101_r2 : List IOper := C.q101_r2_b
def C.q101_r2_w := pO C.q101_r2.eq_1
def C.q101_c2 : ICode := .seq (.region C.q101_r2) .ret
def C.q101_c2_w := pC C.q101_c2.eq_1
def C.q101_c3 : ICode := .keep [0, 1, 13] (.cond (X.s 13) C.q101_c2 .skip)
def C.q101_c3_w := pC C.q101_c3.eq_1
def C.q101_r1_b : List IOper := [
 X.m 6 1,
 X.o 7 (.bin .lss (X.s 6) (X.i 0)),
 X.m 8 7,
 X.f 8 9 (.move (X.s 1)),
 X.f 8 10 (.move (X.s 0)),
 X.f 8 11 (.call F.q100 [X.s 10]),
 X.f 8 12 (.bin .geq (X.s 9) (X.s 11)),
 X.o 13 (.pick (X.s 8) (.cst (.bool true)) (X.s 12))]
def C.q101_r1 : List IOper := C.q101_r1_b
def C.q101_r1_w := pO C.q101_r1.eq_1
def C.q101_c4 : ICode := .keep [0, 1] (.seq (.seq (.region C.q101_r1) C.q101_c3) C.q101_c1)
def C.q101_c4_w := pC C.q101_c4.eq_1
def C.q101_r0_b : List IOper := [
 X.o 4 (.move (.cst (.int .u32 0))),
 X.o 5 (.move (X.i 0))]
def C.q101_r0 : List IOper := C.q101_r0_b
def C.q101_r0_w := pO C.q101_r0.eq_1
def C.q101 : IFunc := ⟨2, [.slot 4, .slot 5], .seq (.region C.q101_r0) C.q101_c4⟩
def C.q101_W := aI (aI (aI @C.q101_r3_w @C.q101_c1_w) (aI @C.q101_r2_w @C.q101_c2_w)) (aI (aI @C.q101_c3_w @C.q101_r1_w) (aI @C.q101_c4_w @C.q101_r0_w))
def C.q101_B := aI (aI @C.q101_r3_b.eq_1 @C.q101_r2_b.eq_1) (aI @C.q101_r1_b.eq_1 @C.q101_r0_b.eq_1)

def C.q106_r4_b : List IOper := [
 X.o 6 (.move (X.i 0))]
def C.q106_r4 : List IOper := C.q106_r4_b
def C.q106_r4_w := pO C.q106_r4.eq_1
def C.q106_c1 : ICode := .keep [] (.seq (.region C.q106_r4) .ret)
def C.q106_c1_w := pC C.q106_c1.eq_1
def C.q106_r3_b : List IOper := [
 X.m 15 0,
 X.o 16 (.nilchk (X.s 15)),
 X.o 17 (.fldAddr 1 (X.s 16)),
 X.o 18 (.load1 (X.s 17)),
 X.m 19 1,
 X.m 20 2,
 X.o 21 (.idxAddr 1 (X.s 18) (X.s 19)),
 X.n (.store1 (X.s 21) (X.s 20))]
def C.q106_r3 : List IOper := C.q106_r3_b
def C.q106_r3_w := pO C.q106_r3.eq_1
def C.q106_c2 : ICode := .keep [0, 1, 2] (.seq (.region C.q106_r3) C.q106_c1)
def C.q106_c2_w := pC C.q106_c2.eq_1
def C.q106_r2_b : List IOper := [
 X.o 6 (.move (X.i 4))]
def C.q106_r2 : List IOper := C.q106_r2_b
def C.q106_r2_w := pO C.q106_r2.eq_1
def C.q106_c3 : ICode := .seq (.region C.q106_r2) .ret
def C.q106_c3_w := pC C.q106_c3.eq_1
def C.q106_c4 : ICode := .keep [0, 1, 2, 14] (.cond (X.s 14) C.q106_c3 .skip)
def C.q106_c4_w := pC C.q106_c4.eq_1
def C.q106_r1_b : List IOper := [
 X.m 7 1,
 X.o 8 (.bin .lss (X.s 7) (X.i 0)),
 X.m 9 8,
 X.f 9 10 (.move (X.s 1)),
 X.f 9 11 (.move (X.s 0)),
 X.f 9 12 (.call F.q100 [X.s 11]),
 X.f 9 13 (.bin .geq (X.s 10) (X.s 12)),
 X.o 14 (.pick (X.s 9) (.cst (.bool true)) (X.s 13))]
def C.q106_r1 : List IOper := C.q106_r1_b
def C.q106_r1_w := pO C.q106_r1.eq_1
def C.q106_c5 : ICode := .keep [0, 1, 2] (.seq (.seq (.region C.q106_r1) C.q106_c4) C.q106_c2)
def C.q106_c5_w := pC C.q106_c5.eq_1
def C.q106_r0_b : List IOper := [
 X.o 6 (.move (X.i 0))]
def C.q106_r0 : List IOper := C.q106_r0_b
def C.q106_r0_w := pO C.q106_r0.eq_1
def C.q106 : IFunc := ⟨3, [.slot 6], .seq (.region C.q106_r0) C.q106_c5⟩
def C.q106_W := aI (aI (aI @C.q106_r4_w @C.q106_c1_w) (aI @C.q106_r3_w (aI @C.q106_c2_w @C.q106_r2_w))) (aI (aI @C.q106_c3_w @C.q106_c4_w) (aI @C.q106_r1_w (aI @C.q106_c5_w @C.q106_r0_w)))
def C.q106_B := aI (aI @C.q106_r4_b.eq_1 @C.q106_r3_b.eq_1) (aI @C.q106_r2_b.eq_1 (aI @C.q106_r1_b.eq_1 @C.q106_r0_b.eq_1))

def C.q2_r1_b : List IOper := [
 X.m 5 0,
 X.o 6 (.eqP 0 true (X.s 5) (.cst (.nilp))),
 X.m 7 6,
 X.t 7 8 (.move (X.s 1)),
 X.t 7 9 (.bin .geq (X.s 8) (X.i 0)),
 X.o 10 (.pick (X.s 7) (X.s 9) (.cst (.bool false))),
 X.m 11 10,
 X.t 11 12 (.move (X.s 1)),
 X.t 11 13 (.move (X.s 0)),
 X.t 11 14 (.nilchk (X.s 13)),
 X.t 11 15 (.fldAddr 0 (X.s 14)),
 X.t 11 16 (.load1 (X.s 15)),
 X.t 11 17 (.len (X.s 16)),
 X.t 11 18 (.bin .lss (X.s 12) (X.s 17)),
 X.o 19 (.pick (X.s 11) (X.s 18) (.cst (.bool false))),
 X.m 4 19]
def C.q2_r1 : List IOper := C.q2_r1_b
def C.q2_r1_w := pO C.q2_r1.eq_1
def C.q2_c1 : ICode := .keep [0, 1] (.seq (.region C.q2_r1) .ret)
def C.q2_c1_w := pC C.q2_c1.eq_1
def C.q2_r0_b : List IOper := [
 X.o 4 (.move (.cst (.bool false)))]
def C.q2_r0 : List IOper := C.q2_r0_b
def C.q2_r0_w := pO C.q2_r0.eq_1
def C.q2 : IFunc := ⟨2, [.slot 4], .seq (.region C.q2_r0) C.q2_c1⟩
def C.q2_W := aI @C.q2_r1_w (aI @C.q2_c1_w @C.q2_r0_w)
def C.q2_B := aI @C.q2_r1_b.eq_1 @C.q2_r0_b.eq_1

def C.q15_r4_b : List IOper := [
 X.m 19 5,
 X.o 20 (.nilchk (X.s 19)),
 X.o 21 (.fldAddr 0 (X.s 20)),
 X.o 22 (.fldAddr 1 (X.s 21)),
 X.o 23 (.load1 (X.s 22)),
 X.m 24 5,
 X.o 25 (.nilchk (X.s 24)),
 X.o 26 (.fldAddr 8 (X.s 25)),
 X.o 27 (.load1 (X.s 26)),
 X.o 28 (.idxAddr 1 (X.s 23) (X.s 27)),
 X.o 29 (.load1 (X.s 28)),
 X.m 4 29]
def C.q15_r4 : List IOper := C.q15_r4_b
def C.q15_r4_w := pO C.q15_r4.eq_1
def C.q15_c1 : ICode := .keep [5] (.seq (.region C.q15_r4) .ret)
def C.q15_c1_w := pC C.q15_c1.eq_1
def C.q15_r3_b : List IOper := [
 X.o 4 (.move (X.i (-1)))]
def C.q15_r3 : List IOper := C.q15_r3_b
def C.q15_r3_w := pO C.q15_r3.eq_1
def C.q15_c2 : ICode := .seq (.region C.q15_r3) .ret
def C.q15_c2_w := pC C.q15_c2.eq_1
def C.q15_c3 : ICode := .keep [5, 18] (.cond (X.s 18) C.q15_c2 .skip)
def C.q15_c3_w := pC C.q15_c3.eq_1
def C.q15_r2_b : List IOper := [
 X.m 12 5,
 X.o 13 (.nilchk (X.s 12)),
 X.o 14 (.fldAddr 0 (X.s 13)),
 X.o 15 (.fldAddr 1 (X.s 14)),
 X.o 16 (.load1 (X.s 15)),
 X.o 17 (.len (X.s 16)),
 X.o 18 (.bin .eql (X.s 17) (X.i 0))]
def C.q15_r2 : List IOper := C.q15_r2_b
def C.q15_r2_w := pO C.q15_r2.eq_1
def C.q15_c4 : ICode := .keep [5] (.seq (.seq (.region C.q15_r2) C.q15_c3) C.q15_c1)
def C.q15_c4_w := pC C.q15_c4.eq_1
def C.q15_r1_b : List IOper := [
 X.m 6 0,
 X.o 7 (.nilchk (X.s 6)),
 X.o 8 (.fldAddr 0 (X.s 7)),
 X.o 9 (.load1 (X.s 8)),
 X.m 10 1,
 X.o 11 (.idxAddr 11 (X.s 9) (X.s 10)),
 X.m 5 11]
def C.q15_r1 : List IOper := C.q15_r1_b
def C.q15_r1_w := pO C.q15_r1.eq_1
def C.q15_c5 : ICode := .keep [0, 1] (.seq (.region C.q15_r1) C.q15_c4)
def C.q15_c5_w := pC C.q15_c5.eq_1
def C.q15_r0_b : List IOper := [
 X.o 4 (.move (X.i 0))]
def C.q15_r0 : List IOper := C.q15_r0_b
def C.q15_r0_w := pO C.q15_r0.eq_1
def C.q15 : IFunc := ⟨2, [.slot 4], .seq (.region C.q15_r0) C.q15_c5⟩
def C.q15_W := aI (aI (aI @C.q15_r4_w @C.q15_c1_w) (aI @C.q15_r3_w (aI @C.q15_c2_w @C.q15_c3_w))) (aI (aI @C.q15_r2_w @C.q15_c4_w) (aI @C.q15_r1_w (aI @C.q15_c5_w @C.q15_r0_w)))
def C.q15_B := aI (aI @C.q15_r4_b.eq_1 @C.q15_r3_b.eq_1) (aI @C.q15_r2_b.eq_1 (aI @C.q15_r1_b.eq_1 @C.q15_r0_b.eq_1))

def C.q95_r19_b : List IOper := [
 X.o 2 (.move (.cst (.int .u8 0)))]
def C.q95_r19 : List IOper := C.q95_r19_b
def C.q95_r19_w := pO C.q95_r19.eq_1
def C.q95_c1 : ICode := .keep [] (.seq (.region C.q95_r19) .ret)
def C.q95_c1_w := pC C.q95_c1.eq_1
def C.q95_r9_b : List IOper := [
 X.o 2 (.move (.cst (.int .u8 110)))]
def C.q95_r9 : List IOper := C.q95_r9_b
def C.q95_r9_w := pO C.q95_r9.eq_1
def C.q95_c2 : ICode := .keep [] (.seq (.region C.q95_r9) .ret)
def C.q95_c2_w := pC C.q95_c2.eq_1
def C.q95_r8_b : List IOper := [
 X.o 2 (.move (.cst (.int .u8 114)))]
def C.q95_r8 : List IOper := C.q95_r8_b
def C.q95_r8_w := pO C.q95_r8.eq_1
def C.q95_c3 : ICode := .seq (.region C.q95_r8) .ret
def C.q95_c3_w := pC C.q95_c3.eq_1
def C.q95_c4 : ICode := .keep [27] (.cond (X.s 27) C.q95_c3 .skip)
def C.q95_c4_w := pC C.q95_c4.eq_1
def C.q95_r7_b : List IOper := [
 X.m 24 0,
 X.o 25 (.nilchk (X.s 24)),
 X.o 26 (.fldAddr 5 (X.s 25)),
 X.o 27 (.load1 (X.s 26))]
def C.q95_r7 : List IOper := C.q95_r7_b
def C.q95_r7_w := pO C.q95_r7.eq_1
def C.q95_c5 : ICode := .keep [0] (.seq (.seq (.region C.q95_r7) C.q95_c4) C.q95_c2)
def C.q95_c5_w := pC C.q95_c5.eq_1
def C.q95_r6_b : List IOper := [
 X.m 21 0,
 X.o 22 (.nilchk (X.s 21)),
 X.o 23 (.fldAddr 3 (X.s 22)),
 X.n (.store1 (X.s 23) (.cst (.int .u8 104)))]
def C.q95_r6 : List IOper := C.q95_r6_b
def C.q95_r6_w := pO C.q95_r6.eq_1
def C.q95_c6 : ICode := .keep [0] (.seq (.region C.q95_r6) C.q95_c5)
def C.q95_c6_w := pC C.q95_c6.eq_1
def C.q95_r5_b : List IOper := [
 X.o 2 (.move (.cst (.int .u8 0)))]
def C.q95_r5 : List IOper := C.q95_r5_b
def C.q95_r5_w := pO C.q95_r5.eq_1
def C.q95_c7 : ICode := .keep [] (.seq (.region C.q95_r5) .ret)
def C.q95_c7_w := pC C.q95_c7.eq_1
def C.q95_r4_b : List IOper := [
 X.m 14 0,
 X.o 15 (.nilchk (X.s 14)),
 X.o 16 (.fldAddr 4 (X.s 15)),
 X.o 17 (.load1 (X.s 16)),
 X.o 18 (.bin .sub (X.s 17) (X.i 1)),
 X.o 19 (.nilchk (X.s 14)),
 X.o 20 (.fldAddr 4 (X.s 19)),
 X.n (.store1 (X.s 20) (X.s 18))]
def C.q95_r4 : List IOper := C.q95_r4_b
def C.q95_r4_w := pO C.q95_r4.eq_1
def C.q95_c8 : ICode := .seq (.region C.q95_r4) C.q95_c7
def C.q95_c8_w := pC C.q95_c8.eq_1
def C.q95_c9 : ICode := .keep [0, 13] (.cond (X.s 13) C.q95_c8 .skip)
def C.q95_c9_w := pC C.q95_c9.eq_1
def C.q95_r3_b : List IOper := [
 X.m 9 0,
 X.o 10 (.nilchk (X.s 9)),
 X.o 11 (.fldAddr 4 (X.s 10)),
 X.o 12 (.load1 (X.s 11)),
 X.o 13 (.bin .gtr (X.s 12) (X.i 0))]
def C.q95_r3 : List IOper := C.q95_r3_b
def C.q95_r3_w := pO C.q95_r3.eq_1
def C.q95_r12_b : List IOper := [
 X.o 2 (.move (.cst (.int .u8 111)))]
def C.q95_r12 : List IOper := C.q95_r12_b
def C.q95_r12_w := pO C.q95_r12.eq_1
def C.q95_c10 : ICode := .keep [] (.seq (.region C.q95_r12) .ret)
def C.q95_c10_w := pC C.q95_c10.eq_1
def C.q95_r11_b : List IOper := [
 X.m 30 0,
 X.o 31 (.nilchk (X.s 30)),
 X.o 32 (.fldAddr 3 (X.s 31)),
 X.n (.store1 (X.s 32) (.cst (.int .u8 49)))]
def C.q95_r11 : List IOper := C.q95_r11_b
def C.q95_r11_w := pO C.q95_r11.eq_1
def C.q95_r18_b : List IOper := [
 X.o 2 (.move (.cst (.int .u8 108)))]
def C.q95_r18 : List IOper := C.q95_r18_b
def C.q95_r18_w := pO C.q95_r18.eq_1
def C.q95_c11 : ICode := .keep [] (.seq (.region C.q95_r18) .ret)
def C.q95_c11_w := pC C.q95_c11.eq_1
def C.q95_r17_b : List IOper := [
 X.m 42 0,
 X.o 43 (.nilchk (X.s 42)),
 X.o 44 (.fldAddr 3 (X.s 43)),
 X.n (.store1 (X.s 44) (.cst (.int .u8 48)))]
def C.q95_r17 : List IOper := C.q95_r17_b
def C.q95_r17_w := pO C.q95_r17.eq_1
def C.q95_c12 : ICode := .keep [0] (.seq (.region C.q95_r17) C.q95_c11)
def C.q95_c12_w := pC C.q95_c12.eq_1
def C.q95_r16_b : List IOper := [
 X.o 2 (.move (.cst (.int .u8 115)))]
def C.q95_r16 : List IOper := C.q95_r16_b
def C.q95_r16_w := pO C.q95_r16.eq_1
def C.q95_c13 : ICode := .keep [] (.seq (.region C.q95_r16) .ret)
def C.q95_c13_w := pC C.q95_c13.eq_1
def C.q95_r15_b : List IOper := [
 X.m 39 0,
 X.o 40 (.nilchk (X.s 39)),
 X.o 41 (.fldAddr 3 (X.s 40)),
 X.n (.store1 (X.s 41) (.cst (.int .u8 116)))]
def C.q95_r15 : List IOper := C.q95_r15_b
def C.q95_r15_w := pO C.q95_r15.eq_1
def C.q95_c14 : ICode := .seq (.region C.q95_r15) C.q95_c13
def C.q95_c14_w := pC C.q95_c14.eq_1
def C.q95_c15 : ICode := .keep [0, 38] (.cond (X.s 38) C.q95_c14 .skip)
def C.q95_c15_w := pC C.q95_c15.eq_1
def C.q95_r14_b : List IOper := [
 X.m 35 0,
 X.o 36 (.nilchk (X.s 35)),
 X.o 37 (.fldAddr 6 (X.s 36)),
 X.o 38 (.load1 (X.s 37))]
def C.q95_r14 : List IOper := C.q95_r14_b
def C.q95_r14_w := pO C.q95_r14.eq_1
def C.q95_c16 : ICode := .seq (.seq (.region C.q95_r14) C.q95_c15) C.q95_c12
def C.q95_c16_w := pC C.q95_c16.eq_1
def C.q95_c17 : ICode := .keep [0, 33] (.cond (X.s 33) C.q95_c16 .skip)
def C.q95_c17_w := pC C.q95_c17.eq_1
def C.q95_r13_b : List IOper := [
 X.o 34 (.bin .eql (X.s 6) (.cst (.int .u8 99))),
 X.m 33 34]
def C.q95_r13 : List IOper := C.q95_r13_b
def C.q95_r13_w := pO C.q95_r13.eq_1
def C.q95_c18 : ICode := .seq (.region C.q95_r11) C.q95_c10
def C.q95_c18_w := pC C.q95_c18.eq_1
def C.q95_c19 : ICode := .seq (.region C.q95_r13) C.q95_c17
def C.q95_c19_w := pC C.q95_c19.eq_1
def C.q95_c20 : ICode := .keep [0, 6, 28] (.cond (X.s 28) C.q95_c18 C.q95_c19)
def C.q95_c20_w := pC C.q95_c20.eq_1
def C.q95_r10_b : List IOper := [
 X.o 29 (.bin .eql (X.s 6) (.cst (.int .u8 104))),
 X.m 28 29]
def C.q95_r10 : List IOper := C.q95_r10_b
def C.q95_r10_w := pO C.q95_r10.eq_1
def C.q95_c21 : ICode := .seq (.seq (.region C.q95_r3) C.q95_c9) C.q95_c6
def C.q95_c21_w := pC C.q95_c21.eq_1
def C.q95_c22 : ICode := .seq (.region C.q95_r10) C.q95_c20
def C.q95_c22_w := pC C.q95_c22.eq_1
def C.q95_c23 : ICode := .keep [0, 6, 7] (.cond (X.s 7) C.q95_c21 C.q95_c22)
def C.q95_c23_w := pC C.q95_c23.eq_1
def C.q95_r2_b : List IOper := [
 X.o 8 (.bin .eql (X.s 6) (.cst (.int .u8 114))),
 X.m 7 8]
def C.q95_r2 : List IOper := C.q95_r2_b
def C.q95_r2_w := pO C.q95_r2.eq_1
def C.q95_b24 : ICode := .seq (.region C.q95_r2) C.q95_c23
def C.q95_b24_w := pC C.q95_b24.eq_1
def C.q95_c25 : ICode := .keep [0, 6] (.block 0 C.q95_b24)
def C.q95_c25_w := pC C.q95_c25.eq_1
def C.q95_r1_b : List IOper := [
 X.m 3 0,
 X.o 4 (.nilchk (X.s 3)),
 X.o 5 (.fldAddr 3 (X.s 4)),
 X.o 6 (.load1 (X.s 5))]
def C.q95_r1 : List IOper := C.q95_r1_b
def C.q95_r1_w := pO C.q95_r1.eq_1
def C.q95_c26 : ICode := .keep [0] (.seq (.seq (.region C.q95_r1) C.q95_c25) C.q95_c1)
def C.q95_c26_w := pC C.q95_c26.eq_1
def C.q95_r0_b : List IOper := [
 X.o 2 (.move (.cst (.int .u8 0)))]
def C.q95_r0 : List IOper := C.q95_r0_b
def C.q95_r0_w := pO C.q95_r0.eq_1
def C.q95 : IFunc := ⟨1, [.slot 2], .seq (.region C.q95_r0) C.q95_c26⟩
def C.q95_W := aI (aI (aI (aI (aI @C.q95_r19_w @C.q95_c1_w) (aI @C.q95_r9_w (aI @C.q95_c2_w @C.q95_r8_w))) (aI (aI @C.q95_c3_w (aI @C.q95_c4_w @C.q95_r7_w)) (aI @C.q95_c5_w (aI @C.q95_r6_w @C.q95_c6_w)))) (aI (aI (aI @C.q95_r5_w (aI @C.q95_c7_w @C.q95_r4_w)) (aI @C.q95_c8_w (aI @C.q95_c9_w @C.q95_r3_w))) (aI (aI @C.q95_r12_w (aI @C.q95_c10_w @C.q95_r11_w)) (aI @C.q95_r18_w (aI @C.q95_c11_w @C.q95_r17_w))))) (aI (aI (aI (aI @C.q95_c12_w @C.q95_r16_w) (aI @C.q95_c13_w (aI @C.q95_r15_w @C.q95_c14_w))) (aI (aI @C.q95_c15_w (aI @C.q95_r14_w @C.q95_c16_w)) (aI @C.q95_c17_w (aI @C.q95_r13_w @C.q95_c18_w)))) (aI (aI (aI @C.q95_c19_w (aI @C.q95_c20_w @C.q95_r10_w)) (aI @C.q95_c21_w (aI @C.q95_c22_w @C.q95_c23_w))) (aI (aI @C.q95_r2_w (aI @C.q95_b24_w @C.q95_c25_w)) (aI @C.q95_r1_w (aI @C.q95_c26_w @C.q95_r0_w)))))
def C.q95_B := aI (aI (aI (aI @C.q95_r19_b.eq_1 @C.q95_r9_b.eq_1) (aI @C.q95_r8_b.eq_1 (aI @C.q95_r7_b.eq_1 @C.q95_r6_b.eq_1))) (aI (aI @C.q95_r5_b.eq_1 @C.q95_r4_b.eq_1) (aI @C.q95_r3_b.eq_1 (aI @C.q95_r12_b.eq_1 @C.q95_r11_b.eq_1)))) (aI (aI (aI @C.q95_r18_b.eq_1 @C.q95_r17_b.eq_1) (aI @C.q95_r16_b.eq_1 (aI @C.q95_r15_b.eq_1 @C.q95_r14_b.eq_1))) (aI (aI @C.q95_r13_b.eq_1 @C.q95_r10_b.eq_1) (aI @C.q95_r2_b.eq_1 (aI @C.q95_r1_b.eq_1 @C.q95_r0_b.eq_1))))

def C.q104_r3_b : List IOper := [
 X.o 7 (.load1 (X.s 1)),
 X.o 8 (.nilchk (X.s 7)),
 X.o 9 (.fldAddr 3 (X.s 8)),
 X.n (.store1 (X.s 9) (.cst (.bool true)))]
def C.q104_r3 : List IOper := C.q104_r3_b
def C.q104_r3_w := pO C.q104_r3.eq_1
def C.q104_c1 : ICode := .keep [1] (.region C.q104_r3)
def C.q104_c1_w := pC C.q104_c1.eq_1
def C.q104_r2_b : List IOper := [
 X.o 4 (.load1 (X.s 1)),
 X.o 5 (.makeFunc F.q105 [X.s 1]),
 X.o 6 (.call F.q109 [X.s 4, X.s 5])]
def C.q104_r2 : List IOper := C.q104_r2_b
def C.q104_r2_w := pO C.q104_r2.eq_1
def C.q104_c2 : ICode := .keep [1] (.seq (.region C.q104_r2) C.q104_c1)
def C.q104_c2_w := pC C.q104_c2.eq_1
def C.q104_c3 : ICode := .keep [1, 3] (.cond (X.s 3) .ret .skip)
def C.q104_c3_w := pC C.q104_c3.eq_1
def C.q104_r1_b : List IOper := [
 X.o 2 (.load1 (X.s 1)),
 X.o 3 (.eqP 0 false (X.s 2) (.cst (.nilp)))]
def C.q104_r1 : List IOper := C.q104_r1_b
def C.q104_r1_w := pO C.q104_r1.eq_1
def C.q104_c4 : ICode := .keep [1] (.seq (.seq (.region C.q104_r1) C.q104_c3) C.q104_c2)
def C.q104_c4_w := pC C.q104_c4.eq_1
def C.q104_r0_b : List IOper := [
 X.o 1 (.box1 (X.s 0))]
def C.q104_r0 : List IOper := C.q104_r0_b
def C.q104_r0_w := pO C.q104_r0.eq_1
def C.q104 : IFunc := ⟨1, [], .seq (.region C.q104_r0) C.q104_c4⟩
def C.q104_W := aI (aI (aI @C.q104_r3_w @C.q104_c1_w) (aI @C.q104_r2_w @C.q104_c2_w)) (aI (aI @C.q104_c3_w @C.q104_r1_w) (aI @C.q104_c4_w @C.q104_r0_w))
def C.q104_B := aI (aI @C.q104_r3_b.eq_1 @C.q104_r2_b.eq_1) (aI @C.q104_r1_b.eq_1 @C.q104_r0_b.eq_1)

def C.q102_r2_b : List IOper := [
 X.o 4 (.load1 (X.s 1)),
 X.o 5 (.makeFunc F.q103 [X.s 1]),
 X.o 6 (.call F.q107 [X.s 4, X.s 5])]
def C.q102_r2 : List IOper := C.q102_r2_b
def C.q102_r2_w := pO C.q102_r2.eq_1
def C.q102_c1 : ICode := .keep [1] (.region C.q102_r2)
def C.q102_c1_w := pC C.q102_c1.eq_1
def C.q102_c2 : ICode := .keep [1, 3] (.cond (X.s 3) .ret .skip)
def C.q102_c2_w := pC C.q102_c2.eq_1
def C.q102_r1_b : List IOper := [
 X.o 2 (.load1 (X.s 1)),
 X.o 3 (.eqP 0 false (X.s 2) (.cst (.nilp)))]
def C.q102_r1 : List IOper := C.q102_r1_b
def C.q102_r1_w := pO C.q102_r1.eq_1
def C.q102_c3 : ICode := .keep [1] (.seq (.seq (.region C.q102_r1) C.q102_c2) C.q102_c1)
def C.q102_c3_w := pC C.q102_c3.eq_1
def C.q102_r0_b : List IOper := [
 X.o 1 (.box1 (X.s 0))]
def C.q102_r0 : List IOper := C.q102_r0_b
def C.q102_r0_w := pO C.q102_r0.eq_1
def C.q102 : IFunc := ⟨1, [], .seq (.region C.q102_r0) C.q102_c3⟩
def C.q102_W := aI (aI @C.q102_r2_w (aI @C.q102_c1_w @C.q102_c2_w)) (aI @C.q102_r1_w (aI @C.q102_c3_w @C.q102_r0_w))
def C.q102_B := aI @C.q102_r2_b.eq_1 (aI @C.q102_r1_b.eq_1 @C.q102_r0_b.eq_1)

def C.q12_r9_b : List IOper := [
 X.o 52 (.load1 (X.s 2)),
 X.o 53 (.load1 (X.s 1)),
 X.m 54 0,
 ⟨some 55, .call F.q15 [X.s 53, X.s 54], none, [⟨.load1 (X.s 2), 52, none⟩], []⟩,
 X.o 56 (.callv (X.s 52) [X.s 55]),
 X.m 4 56]
def C.q12_r9 : List IOper := C.q12_r9_b
def C.q12_r9_w := pO C.q12_r9.eq_1
def C.q12_c1 : ICode := .keep [0, 1, 2] (.seq (.region C.q12_r9) .ret)
def C.q12_c1_w := pC C.q12_c1.eq_1
def C.q12_r4_b : List IOper := [
 X.o 4 (.move (.cst (.bool true)))]
def C.q12_r4 : List IOper := C.q12_r4_b
def C.q12_r4_w := pO C.q12_r4.eq_1
def C.q12_r6_b : List IOper := [
 X.m 21 5,
 X.o 22 (.nilchk (X.s 21)),
 X.o 23 (.fldAddr 6 (X.s 22)),
 X.o 24 (.load1 (X.s 23)),
 X.m 25 24,
 X.t 25 26 (.move (X.s 5)),
 X.t 25 27 (.nilchk (X.s 26)),
 X.t 25 28 (.fldAddr 7 (X.s 27)),
 X.t 25 29 (.load1 (X.s 28)),
 X.t 25 30 (.bin .eql (X.s 29) (X.i 0)),
 X.o 31 (.pick (X.s 25) (X.s 30) (.cst (.bool false))),
 X.m 32 31,
 X.t 32 33 (.load1 (X.s 2)),
 X.t 32 34 (.load1 (X.s 1)),
 X.t 32 35 (.move (X.s 0)),
 ⟨some 36, .call F.q15 [X.s 34, X.s 35], some (32, true), [⟨.load1 (X.s 2), 33, some (32, true)⟩], []⟩,
 X.t 32 37 (.callv (X.s 33) [X.s 36]),
 X.o 38 (.pick (X.s 32) (X.s 37) (.cst (.bool false))),
 X.m 4 38]
def C.q12_r6 : List IOper := C.q12_r6_b
def C.q12_r6_w := pO C.q12_r6.eq_1
def C.q12_r8_b : List IOper := [
 X.m 41 5,
 X.o 42 (.nilchk (X.s 41)),
 X.o 43 (.fldAddr 6 (X.s 42)),
 X.o 44 (.load1 (X.s 43)),
 X.m 45 44,
 X.t 45 46 (.load1 (X.s 2)),
 X.t 45 47 (.load1 (X.s 1)),
 X.t 45 48 (.move (X.s 0)),
 ⟨some 49, .call F.q15 [X.s 47, X.s 48], some (45, true), [⟨.load1 (X.s 2), 46, some (45, true)⟩], []⟩,
 X.t 45 50 (.callv (X.s 46) [X.s 49]),
 X.o 51 (.pick (X.s 45) (X.s 50) (.cst (.bool false))),
 X.m 4 51]
def C.q12_r8 : List IOper := C.q12_r8_b
def C.q12_r8_w := pO C.q12_r8.eq_1
def C.q12_c2 : ICode := .seq (.region C.q12_r8) .ret
def C.q12_c2_w := pC C.q12_c2.eq_1
def C.q12_c3 : ICode := .keep [0, 1, 2, 5, 39] (.cond (X.s 39) C.q12_c2 .skip)
def C.q12_c3_w := pC C.q12_c3.eq_1
def C.q12_r7_b : List IOper := [
 X.o 40 (.bin .eql (X.s 16) (.cst (.int .u8 103))),
 X.m 39 40]
def C.q12_r7 : List IOper := C.q12_r7_b
def C.q12_r7_w := pO C.q12_r7.eq_1
def C.q12_c4 : ICode := .seq (.region C.q12_r6) .ret
def C.q12_c4_w := pC C.q12_c4.eq_1
def C.q12_c5 : ICode := .seq (.region C.q12_r7) C.q12_c3
def C.q12_c5_w := pC C.q12_c5.eq_1
def C.q12_c6 : ICode := .keep [0, 1, 2, 5, 16, 19] (.cond (X.s 19) C.q12_c4 C.q12_c5)
def C.q12_c6_w := pC C.q12_c6.eq_1
def C.q12_r5_b : List IOper := [
 X.o 20 (.bin .eql (X.s 16) (.cst (.int .u8 112))),
 X.m 19 20]
def C.q12_r5 : List IOper := C.q12_r5_b
def C.q12_r5_w := pO C.q12_r5.eq_1
def C.q12_c7 : ICode := .seq (.region C.q12_r4) .ret
def C.q12_c7_w := pC C.q12_c7.eq_1
def C.q12_c8 : ICode := .seq (.region C.q12_r5) C.q12_c6
def C.q12_c8_w := pC C.q12_c8.eq_1
def C.q12_c9 : ICode := .keep [0, 1, 2, 5, 16, 17] (.cond (X.s 17) C.q12_c7 C.q12_c8)
def C.q12_c9_w := pC C.q12_c9.eq_1
def C.q12_r3_b : List IOper := [
 X.o 18 (.bin .eql (X.s 16) (.cst (.int .u8 111))),
 X.m 17 18]
def C.q12_r3 : List IOper := C.q12_r3_b
def C.q12_r3_w := pO C.q12_r3.eq_1
def C.q12_b10 : ICode := .seq (.region C.q12_r3) C.q12_c9
def C.q12_b10_w := pC C.q12_b10.eq_1
def C.q12_c11 : ICode := .keep [0, 1, 2, 5, 16] (.block 0 C.q12_b10)
def C.q12_c11_w := pC C.q12_c11.eq_1
def C.q12_r2_b : List IOper := [
 X.m 12 5,
 X.o 13 (.nilchk (X.s 12)),
 X.o 14 (.fldAddr 0 (X.s 13)),
 X.o 15 (.fldAddr 0 (X.s 14)),
 X.o 16 (.load1 (X.s 15))]
def C.q12_r2 : List IOper := C.q12_r2_b
def C.q12_r2_w := pO C.q12_r2.eq_1
def C.q12_c12 : ICode := .keep [0, 1, 2, 5] (.seq (.seq (.region C.q12_r2) C.q12_c11) C.q12_c1)
def C.q12_c12_w := pC C.q12_c12.eq_1
def C.q12_r1_b : List IOper := [
 X.o 6 (.load1 (X.s 1)),
 X.o 7 (.nilchk (X.s 6)),
 X.o 8 (.fldAddr 0 (X.s 7)),
 X.o 9 (.load1 (X.s 8)),
 X.m 10 0,
 X.o 11 (.idxAddr 11 (X.s 9) (X.s 10)),
 X.m 5 11]
def C.q12_r1 : List IOper := C.q12_r1_b
def C.q12_r1_w := pO C.q12_r1.eq_1
def C.q12_c13 : ICode := .keep [0, 1, 2] (.seq (.region C.q12_r1) C.q12_c12)
def C.q12_c13_w := pC C.q12_c13.eq_1
def C.q12_r0_b : List IOper := [
 X.o 4 (.move (.cst (.bool false)))]
def C.q12_r0 : List IOper := C.q12_r0_b
def C.q12_r0_w := pO C.q12_r0.eq_1
def C.q12 : IFunc := ⟨3, [.slot 4], .seq (.region C.q12_r0) C.q12_c13⟩
def C.q12_W := aI (aI (aI (aI @C.q12_r9_w @C.q12_c1_w) (aI @C.q12_r4_w (aI @C.q12_r6_w @C.q12_r8_w))) (aI (aI @C.q12_c2_w (aI @C.q12_c3_w @C.q12_r7_w)) (aI @C.q12_c4_w (aI @C.q12_c5_w @C.q12_c6_w)))) (aI (aI (aI @C.q12_r5_w (aI @C.q12_c7_w @C.q12_c8_w)) (aI @C.q12_c9_w (aI @C.q12_r3_w @C.q12_b10_w))) (aI (aI @C.q12_c11_w (aI @C.q12_r2_w @C.q12_c12_w)) (aI @C.q12_r1_w (aI @C.q12_c13_w @C.q12_r0_w))))
def C.q12_B := aI (aI (aI @C.q12_r9_b.eq_1 @C.q12_r4_b.eq_1) (aI @C.q12_r6_b.eq_1 (aI @C.q12_r8_b.eq_1 @C.q12_r7_b.eq_1))) (aI (aI @C.q12_r5_b.eq_1 @C.q12_r3_b.eq_1) (aI @C.q12_r2_b.eq_1 (aI @C.q12_r1_b.eq_1 @C.q12_r0_b.eq_1)))

def C.q118_r2_b : List IOper := [
 X.m 10 2,
 X.o 11 (.bin .add (X.s 10) (X.i 1)),
 X.m 12 3,
 X.o 13 (.bin .sub (X.s 12) (X.i 1)),
 X.m 2 11,
 X.m 3 13]
def C.q118_r2 : List IOper := C.q118_r2_b
def C.q118_r2_w := pO C.q118_r2.eq_1
def C.q118_c1 : ICode := .keep [0, 2, 3] (.region C.q118_r2)
def C.q118_c1_w := pC C.q118_c1.eq_1
def C.q118_r3_b : List IOper := [
 X.m 14 0,
 X.m 15 2,
 X.m 16 0,
 X.m 17 3,
 X.m 18 0,
 X.m 19 3,
 X.o 20 (.idxAddr 1 (X.s 18) (X.s 19)),
 X.o 21 (.load1 (X.s 20)),
 X.m 22 0,
 X.m 23 2,
 X.o 24 (.idxAddr 1 (X.s 22) (X.s 23)),
 X.o 25 (.load1 (X.s 24)),
 X.o 26 (.idxAddr 1 (X.s 14) (X.s 15)),
 X.n (.store1 (X.s 26) (X.s 21)),
 X.o 27 (.idxAddr 1 (X.s 16) (X.s 17)),
 X.n (.store1 (X.s 27) (X.s 25))]
def C.q118_r3 : List IOper := C.q118_r3_b
def C.q118_r3_w := pO C.q118_r3.eq_1
def C.q118_b2 : ICode := .region C.q118_r3
def C.q118_b2_w := pC C.q118_b2.eq_1
def C.q118_c3 : ICode := .keep [0, 2, 3] (.seq (.block 1 C.q118_b2) C.q118_c1)
def C.q118_c3_w := pC C.q118_c3.eq_1
def C.q118_c4 : ICode := .keep [0, 2, 3, 9] (.cond (X.s 9) .skip (.exit 0))
def C.q118_c4_w := pC C.q118_c4.eq_1
def C.q118_r1_b : List IOper := [
 X.m 7 2,
 X.m 8 3,
 X.o 9 (.bin .lss (X.s 7) (X.s 8))]
def C.q118_r1 : List IOper := C.q118_r1_b
def C.q118_r1_w := pO C.q118_r1.eq_1
def C.q118_l5 : ICode := .keep [0, 2, 3] (.seq (.seq (.region C.q118_r1) C.q118_c4) C.q118_c3)
def C.q118_l5_w := pC C.q118_l5.eq_1
def C.q118_b6 : ICode := .loop C.q118_l5
def C.q118_b6_w := pC C.q118_b6.eq_1
def C.q118_c7 : ICode := .keep [0, 2, 3] (.block 0 C.q118_b6)
def C.q118_c7_w := pC C.q118_c7.eq_1
def C.q118_r0_b : List IOper := [
 X.m 4 0,
 X.o 5 (.len (X.s 4)),
 X.o 6 (.bin .sub (X.s 5) (X.i 1)),
 X.o 2 (.move (X.i 0)),
 X.m 3 6]
def C.q118_r0 : List IOper := C.q118_r0_b
def C.q118_r0_w := pO C.q118_r0.eq_1
def C.q118 : IFunc := ⟨1, [], .seq (.region C.q118_r0) C.q118_c7⟩
def C.q118_W := aI (aI (aI @C.q118_r2_w @C.q118_c1_w) (aI @C.q118_r3_w (aI @C.q118_b2_w @C.q118_c3_w))) (aI (aI @C.q118_c4_w @C.q118_r1_w) (aI @C.q118_b6_w (aI @C.q118_c7_w @C.q118_r0_w)))
def C.q118_B := aI (aI @C.q118_r2_b.eq_1 @C.q118_r3_b.eq_1) (aI @C.q118_r1_b.eq_1 @C.q118_r0_b.eq_1)

def C.q54_r1_b : List IOper := [
 X.o 3 (.fldAddr 4 (X.s 1)),
 X.o 4 (.load1 (X.s 3)),
 X.o 5 (.len (X.s 4)),
 X.o 6 (.bin .gtr (X.s 5) (X.i 8)),
 X.m 7 6,
 X.f 7 8 (.fldAddr 5 (X.s 1)),
 X.f 7 9 (.load1 (X.s 8)),
 X.f 7 10 (.len (X.s 9)),
 X.f 7 11 (.bin .gtr (X.s 10) (X.i 6)),
 X.o 12 (.pick (X.s 7) (.cst (.bool true)) (X.s 11)),
 X.o 13 (.call F.q64 [X.s 12, X.i 8]),
 X.m 2 13]
def C.q54_r1 : List IOper := C.q54_r1_b
def C.q54_r1_w := pO C.q54_r1.eq_1
def C.q54_c1 : ICode := .keep [1] (.seq (.region C.q54_r1) .ret)
def C.q54_c1_w := pC C.q54_c1.eq_1
def C.q54_r0_b : List IOper := [
 X.o 1 (.boxN (X.s 0)),
 X.o 2 (.move (X.i 0))]
def C.q54_r0 : List IOper := C.q54_r0_b
def C.q54_r0_w := pO C.q54_r0.eq_1
def C.q54 : IFunc := ⟨1, [.slot 2], .seq (.region C.q54_r0) C.q54_c1⟩
def C.q54_W := aI @C.q54_r1_w (aI @C.q54_c1_w @C.q54_r0_w)
def C.q54_B := aI @C.q54_r1_b.eq_1 @C.q54_r0_b.eq_1

def C.q64_r3_b : List IOper := [
 X.o 4 (.move (X.i 0))]
def C.q64_r3 : List IOper := C.q64_r3_b
def C.q64_r3_w := pO C.q64_r3.eq_1
def C.q64_c1 : ICode := .keep [] (.seq (.region C.q64_r3) .ret)
def C.q64_c1_w := pC C.q64_c1.eq_1
def C.q64_r2_b : List IOper := [
 X.m 6 1,
 X.m 4 6]
def C.q64_r2 : List IOper := C.q64_r2_b
def C.q64_r2_w := pO C.q64_r2.eq_1
def C.q64_c2 : ICode := .seq (.region C.q64_r2) .ret
def C.q64_c2_w := pC C.q64_c2.eq_1
def C.q64_c3 : ICode := .keep [1, 5] (.cond (X.s 5) C.q64_c2 .skip)
def C.q64_c3_w := pC C.q64_c3.eq_1
def C.q64_r1_b : List IOper := [
 X.m 5 0]
def C.q64_r1 : List IOper := C.q64_r1_b
def C.q64_r1_w := pO C.q64_r1.eq_1
def C.q64_c4 : ICode := .keep [0, 1] (.seq (.seq (.region C.q64_r1) C.q64_c3) C.q64_c1)
def C.q64_c4_w := pC C.q64_c4.eq_1
def C.q64_r0_b : List IOper := [
 X.o 4 (.move (X.i 0))]
def C.q64_r0 : List IOper := C.q64_r0_b
def C.q64_r0_w := pO C.q64_r0.eq_1
def C.q64 : IFunc := ⟨2, [.slot 4], .seq (.region C.q64_r0) C.q64_c4⟩
def C.q64_W := aI (aI (aI @C.q64_r3_w @C.q64_c1_w) (aI @C.q64_r2_w @C.q64_c2_w)) (aI (aI @C.q64_c3_w @C.q64_r1_w) (aI @C.q64_c4_w @C.q64_r0_w))
def C.q64_B := aI (aI @C.q64_r3_b.eq_1 @C.q64_r2_b.eq_1) (aI @C.q64_r1_b.eq_1 @C.q64_r0_b.eq_1)

def C.q33_r1_b : List IOper := [
 X.o 2 (.loadN 6 (X.s 0)),
 X.o 3 (.call F.q63 [X.s 2]),
 X.o 4 (.un .not (X.s 3)),
 X.o 5 (.call F.q64 [X.s 4, X.i 1]),
 X.m 1 5]
def C.q33_r1 : List IOper := C.q33_r1_b
def C.q33_r1_w := pO C.q33_r1.eq_1
def C.q33_c1 : ICode := .keep [0] (.seq (.region C.q33_r1) .ret)
def C.q33_c1_w := pC C.q33_c1.eq_1
def C.q33_r0_b : List IOper := [
 X.o 1 (.move (X.i 0))]
def C.q33_r0 : List IOper := C.q33_r0_b
def C.q33_r0_w := pO C.q33_r0.eq_1
def C.q33 : IFunc := ⟨1, [.slot 1], .seq (.region C.q33_r0) C.q33_c1⟩
def C.q33_W := aI @C.q33_r1_w (aI @C.q33_c1_w @C.q33_r0_w)
def C.q33_B := aI @C.q33_r1_b.eq_1 @C.q33_r0_b.eq_1

def C.q63_r10_b : List IOper := [
 X.o 2 (.move (.cst (.bool false)))]
def C.q63_r10 : List IOper := C.q63_r10_b
def C.q63_r10_w := pO C.q63_r10.eq_1
def C.q63_c1 : ICode := .keep [] (.seq (.region C.q63_r10) .ret)
def C.q63_c1_w := pC C.q63_c1.eq_1
def C.q63_r3_b : List IOper := [
 X.o 7 (.fldAddr 1 (X.s 1)),
 X.o 8 (.load1 (X.s 7)),
 X.o 9 (.len (X.s 8)),
 X.o 10 (.bin .eql (X.s 9) (X.i 0)),
 X.m 2 10]
def C.q63_r3 : List IOper := C.q63_r3_b
def C.q63_r3_w := pO C.q63_r3.eq_1
def C.q63_r7_b : List IOper := [
 X.o 15 (.fldAddr 1 (X.s 1)),
 X.o 16 (.load1 (X.s 15)),
 X.o 17 (.len (X.s 16)),
 X.o 18 (.bin .eql (X.s 17) (X.i 1)),
 X.m 2 18]
def C.q63_r7 : List IOper := C.q63_r7_b
def C.q63_r7_w := pO C.q63_r7.eq_1
def C.q63_r9_b : List IOper := [
 X.o 21 (.fldAddr 1 (X.s 1)),
 X.o 22 (.load1 (X.s 21)),
 X.o 23 (.len (X.s 22)),
 X.o 24 (.call F.q65 [X.s 23, X.i 1, X.i 4]),
 X.m 2 24]
def C.q63_r9 : List IOper := C.q63_r9_b
def C.q63_r9_w := pO C.q63_r9.eq_1
def C.q63_c2 : ICode := .seq (.region C.q63_r9) .ret
def C.q63_c2_w := pC C.q63_c2.eq_1
def C.q63_c3 : ICode := .keep [1, 19] (.cond (X.s 19) C.q63_c2 .skip)
def C.q63_c3_w := pC C.q63_c3.eq_1
def C.q63_r8_b : List IOper := [
 X.o 20 (.bin .eql (X.s 4) (.cst (.int .u8 109))),
 X.m 19 20]
def C.q63_r8 : List IOper := C.q63_r8_b
def C.q63_r8_w := pO C.q63_r8.eq_1
def C.q63_c4 : ICode := .seq (.region C.q63_r7) .ret
def C.q63_c4_w := pC C.q63_c4.eq_1
def C.q63_c5 : ICode := .seq (.region C.q63_r8) C.q63_c3
def C.q63_c5_w := pC C.q63_c5.eq_1
def C.q63_c6 : ICode := .keep [1, 4, 11] (.cond (X.s 11) C.q63_c4 C.q63_c5)
def C.q63_c6_w := pC C.q63_c6.eq_1
def C.q63_r6_b : List IOper := [
 X.o 14 (.bin .eql (X.s 4) (.cst (.int .u8 103))),
 X.m 11 14]
def C.q63_r6 : List IOper := C.q63_r6_b
def C.q63_r6_w := pO C.q63_r6.eq_1
def C.q63_c7 : ICode := .keep [1, 4, 11] (.cond (X.s 11) .skip (.region C.q63_r6))
def C.q63_c7_w := pC C.q63_c7.eq_1
def C.q63_r5_b : List IOper := [
 X.o 13 (.bin .eql (X.s 4) (.cst (.int .u8 100))),
 X.m 11 13]
def C.q63_r5 : List IOper := C.q63_r5_b
def C.q63_r5_w := pO C.q63_r5.eq_1
def C.q63_c8 : ICode := .seq (.region C.q63_r5) C.q63_c7
def C.q63_c8_w := pC C.q63_c8.eq_1
def C.q63_c9 : ICode := .keep [1, 4, 11] (.cond (X.s 11) .skip C.q63_c8)
def C.q63_c9_w := pC C.q63_c9.eq_1
def C.q63_r4_b : List IOper := [
 X.o 12 (.bin .eql (X.s 4) (.cst (.int .u8 112))),
 X.m 11 12]
def C.q63_r4 : List IOper := C.q63_r4_b
def C.q63_r4_w := pO C.q63_r4.eq_1
def C.q63_c10 : ICode := .seq (.region C.q63_r3) .ret
def C.q63_c10_w := pC C.q63_c10.eq_1
def C.q63_c11 : ICode := .seq (.seq (.region C.q63_r4) C.q63_c9) C.q63_c6
def C.q63_c11_w := pC C.q63_c11.eq_1
def C.q63_c12 : ICode := .keep [1, 4, 5] (.cond (X.s 5) C.q63_c10 C.q63_c11)
def C.q63_c12_w := pC C.q63_c12.eq_1
def C.q63_r2_b : List IOper := [
 X.o 6 (.bin .eql (X.s 4) (.cst (.int .u8 111))),
 X.m 5 6]
def C.q63_r2 : List IOper := C.q63_r2_b
def C.q63_r2_w := pO C.q63_r2.eq_1
def C.q63_b13 : ICode := .seq (.region C.q63_r2) C.q63_c12
def C.q63_b13_w := pC C.q63_b13.eq_1
def C.q63_c14 : ICode := .keep [1, 4] (.block 0 C.q63_b13)
def C.q63_c14_w := pC C.q63_c14.eq_1
def C.q63_r1_b : List IOper := [
 X.o 3 (.fldAddr 0 (X.s 1)),
 X.o 4 (.load1 (X.s 3))]
def C.q63_r1 : List IOper := C.q63_r1_b
def C.q63_r1_w := pO C.q63_r1.eq_1
def C.q63_c15 : ICode := .keep [1] (.seq (.seq (.region C.q63_r1) C.q63_c14) C.q63_c1)
def C.q63_c15_w := pC C.q63_c15.eq_1
def C.q63_r0_b : List IOper := [
 X.o 1 (.boxN (X.s 0)),
 X.o 2 (.move (.cst (.bool false)))]
def C.q63_r0 : List IOper := C.q63_r0_b
def C.q63_r0_w := pO C.q63_r0.eq_1
def C.q63 : IFunc := ⟨1, [.slot 2], .seq (.region C.q63_r0) C.q63_c15⟩
def C.q63_W := aI (aI (aI (aI @C.q63_r10_w (aI @C.q63_c1_w @C.q63_r3_w)) (aI @C.q63_r7_w (aI @C.q63_r9_w @C.q63_c2_w))) (aI (aI @C.q63_c3_w (aI @C.q63_r8_w @C.q63_c4_w)) (aI (aI @C.q63_c5_w @C.q63_c6_w) (aI @C.q63_r6_w @C.q63_c7_w)))) (aI (aI (aI @C.q63_r5_w (aI @C.q63_c8_w @C.q63_c9_w)) (aI @C.q63_r4_w (aI @C.q63_c10_w @C.q63_c11_w))) (aI (aI @C.q63_c12_w (aI @C.q63_r2_w @C.q63_b13_w)) (aI (aI @C.q63_c14_w @C.q63_r1_w) (aI @C.q63_c15_w @C.q63_r0_w))))
def C.q63_B := aI (aI (aI @C.q63_r10_b.eq_1 @C.q63_r3_b.eq_1) (aI @C.q63_r7_b.eq_1 (aI @C.q63_r9_b.eq_1 @C.q63_r8_b.eq_1))) (aI (aI @C.q63_r6_b.eq_1 (aI @C.q63_r5_b.eq_1 @C.q63_r4_b.eq_1)) (aI @C.q63_r2_b.eq_1 (aI @C.q63_r1_b.eq_1 @C.q63_r0_b.eq_1)))

def C.q34_r1_b : List IOper := [
 X.o 3 (.fldAddr 1 (X.s 0)),
 X.o 4 (.load1 (X.s 3)),
 X.o 5 (.makeFunc F.q35 [X.s 1]),
 X.o 6 (.call F.q51 [X.s 4, X.s 5]),
 X.m 2 6]
def C.q34_r1 : List IOper := C.q34_r1_b
def C.q34_r1_w := pO C.q34_r1.eq_1
def C.q34_c1 : ICode := .keep [0, 1] (.seq (.region C.q34_r1) .ret)
def C.q34_c1_w := pC C.q34_c1.eq_1
def C.q34_r0_b : List IOper := [
 X.o 2 (.move (X.i 0))]
def C.q34_r0 : List IOper := C.q34_r0_b
def C.q34_r0_w := pO C.q34_r0.eq_1
def C.q34 : IFunc := ⟨2, [.slot 2], .seq (.region C.q34_r0) C.q34_c1⟩
def C.q34_W := aI @C.q34_r1_w (aI @C.q34_c1_w @C.q34_r0_w)
def C.q34_B := aI @C.q34_r1_b.eq_1 @C.q34_r0_b.eq_1

def C.q51_r8_b : List IOper := [
 X.o 4 (.move (X.i 0))]
def C.q51_r8 : List IOper := C.q51_r8_b
def C.q51_r8_w := pO C.q51_r8.eq_1
def C.q51_c1 : ICode := .keep [] (.seq (.region C.q51_r8) .ret)
def C.q51_c1_w := pC C.q51_c1.eq_1
def C.q51_r7_b : List IOper := [
 X.o 20 (.bin .add (X.s 10) (X.i 1)),
 X.m 10 20]
def C.q51_r7 : List IOper := C.q51_r7_b
def C.q51_r7_w := pO C.q51_r7.eq_1
def C.q51_c2 : ICode := .keep [1, 8, 9, 10] (.region C.q51_r7)
def C.q51_c2_w := pC C.q51_c2.eq_1
def C.q51_r6_b : List IOper := [
 X.m 19 7,
 X.m 4 19]
def C.q51_r6 : List IOper := C.q51_r6_b
def C.q51_r6_w := pO C.q51_r6.eq_1
def C.q51_c3 : ICode := .seq (.region C.q51_r6) .ret
def C.q51_c3_w := pC C.q51_c3.eq_1
def C.q51_c4 : ICode := .keep [1, 7, 8, 9, 10, 18] (.cond (X.s 18) C.q51_c3 .skip)
def C.q51_c4_w := pC C.q51_c4.eq_1
def C.q51_r5_b : List IOper := [
 X.m 17 7,
 X.o 18 (.bin .neq (X.s 17) (X.i 0))]
def C.q51_r5 : List IOper := C.q51_r5_b
def C.q51_r5_w := pO C.q51_r5.eq_1
def C.q51_c5 : ICode := .keep [1, 7, 8, 9, 10] (.seq (.region C.q51_r5) C.q51_c4)
def C.q51_c5_w := pC C.q51_c5.eq_1
def C.q51_r4_b : List IOper := [
 X.m 14 1,
 X.m 15 6,
 X.o 16 (.callv (X.s 14) [X.s 15]),
 X.m 7 16]
def C.q51_r4 : List IOper := C.q51_r4_b
def C.q51_r4_w := pO C.q51_r4.eq_1
def C.q51_c6 : ICode := .keep [1, 6, 8, 9, 10] (.seq (.region C.q51_r4) C.q51_c5)
def C.q51_c6_w := pC C.q51_c6.eq_1
def C.q51_r3_b : List IOper := [
 X.o 12 (.idxAddr 1 (X.s 8) (X.s 10)),
 X.o 13 (.load1 (X.s 12)),
 X.m 6 13]
def C.q51_r3 : List IOper := C.q51_r3_b
def C.q51_r3_w := pO C.q51_r3.eq_1
def C.q51_b7 : ICode := .seq (.region C.q51_r3) C.q51_c6
def C.q51_b7_w := pC C.q51_b7.eq_1
def C.q51_c8 : ICode := .keep [1, 8, 9, 10] (.seq (.block 1 C.q51_b7) C.q51_c2)
def C.q51_c8_w := pC C.q51_c8.eq_1
def C.q51_c9 : ICode := .keep [1, 8, 9, 10, 11] (.seq (.cond (X.s 11) .skip (.exit 0)) C.q51_c8)
def C.q51_c9_w := pC C.q51_c9.eq_1
def C.q51_r2_b : List IOper := [
 X.o 11 (.bin .lss (X.s 10) (X.s 9))]
def C.q51_r2 : List IOper := C.q51_r2_b
def C.q51_r2_w := pO C.q51_r2.eq_1
def C.q51_l10 : ICode := .keep [1, 8, 9, 10] (.seq (.region C.q51_r2) C.q51_c9)
def C.q51_l10_w := pC C.q51_l10.eq_1
def C.q51_b11 : ICode := .loop C.q51_l10
def C.q51_b11_w := pC C.q51_b11.eq_1
def C.q51_c12 : ICode := .keep [1, 8, 9, 10] (.block 0 C.q51_b11)
def C.q51_c12_w := pC C.q51_c12.eq_1
def C.q51_r1_b : List IOper := [
 X.m 8 0,
 X.o 9 (.len (X.s 8)),
 X.o 10 (.move (X.i 0))]
def C.q51_r1 : List IOper := C.q51_r1_b
def C.q51_r1_w := pO C.q51_r1.eq_1
def C.q51_c13 : ICode := .keep [0, 1] (.seq (.seq (.region C.q51_r1) C.q51_c12) C.q51_c1)
def C.q51_c13_w := pC C.q51_c13.eq_1
def C.q51_r0_b : List IOper := [
 X.o 4 (.move (X.i 0))]
def C.q51_r0 : List IOper := C.q51_r0_b
def C.q51_r0_w := pO C.q51_r0.eq_1
def C.q51 : IFunc := ⟨2, [.slot 4], .seq (.region C.q51_r0) C.q51_c13⟩
def C.q51_W := aI (aI (aI (aI @C.q51_r8_w @C.q51_c1_w) (aI @C.q51_r7_w (aI @C.q51_c2_w @C.q51_r6_w))) (aI (aI @C.q51_c3_w @C.q51_c4_w) (aI @C.q51_r5_w (aI @C.q51_c5_w @C.q51_r4_w)))) (aI (aI (aI @C.q51_c6_w @C.q51_r3_w) (aI @C.q51_b7_w (aI @C.q51_c8_w @C.q51_c9_w))) (aI (aI @C.q51_r2_w (aI @C.q51_b11_w @C.q51_c12_w)) (aI @C.q51_r1_w (aI @C.q51_c13_w @C.q51_r0_w))))
def C.q51_B := aI (aI (aI @C.q51_r8_b.eq_1 @C.q51_r7_b.eq_1) (aI @C.q51_r6_b.eq_1 @C.q51_r5_b.eq_1)) (aI (aI @C.q51_r4_b.eq_1 @C.q51_r3_b.eq_1) (aI @C.q51_r2_b.eq_1 (aI @C.q51_r1_b.eq_1 @C.q51_r0_b.eq_1)))

def C.q35_r1_b : List IOper := [
 X.m 4 0,
 X.o 5 (.fldAddr 0 (X.s 1)),
 X.o 6 (.load1 (X.s 5)),
 X.o 7 (.len (X.s 6)),
 X.o 8 (.bin .sub (X.s 7) (X.i 1)),
 X.o 9 (.call F.q65 [X.s 4, X.i 0, X.s 8]),
 X.o 10 (.un .not (X.s 9)),
 X.o 11 (.call F.q64 [X.s 10, X.i 4]),
 X.m 3 11]
def C.q35_r1 : List IOper := C.q35_r1_b
def C.q35_r1_w := pO C.q35_r1.eq_1
def C.q35_c1 : ICode := .keep [0, 1] (.seq (.region C.q35_r1) .ret)
def C.q35_c1_w := pC C.q35_c1.eq_1
def C.q35_r0_b : List IOper := [
 X.o 3 (.move (X.i 0))]
def C.q35_r0 : List IOper := C.q35_r0_b
def C.q35_r0_w := pO C.q35_r0.eq_1
def C.q35 : IFunc := ⟨2, [.slot 3], .seq (.region C.q35_r0) C.q35_c1⟩
def C.q35_W := aI @C.q35_r1_w (aI @C.q35_c1_w @C.q35_r0_w)
def C.q35_B := aI @C.q35_r1_b.eq_1 @C.q35_r0_b.eq_1

def C.q65_r1_b : List IOper := [
 X.m 7 0,
 X.m 8 1,
 X.o 9 (.bin .geq (X.s 7) (X.s 8)),
 X.m 10 9,
 X.t 10 11 (.move (X.s 0)),
 X.t 10 12 (.move (X.s 2)),
 X.t 10 13 (.bin .leq (X.s 11) (X.s 12)),
 X.o 14 (.pick (X.s 10) (X.s 13) (.cst (.bool false))),
 X.m 6 14]
def C.q65_r1 : List IOper := C.q65_r1_b
def C.q65_r1_w := pO C.q65_r1.eq_1
def C.q65_c1 : ICode := .keep [0, 1, 2] (.seq (.region C.q65_r1) .ret)
def C.q65_c1_w := pC C.q65_c1.eq_1
def C.q65_r0_b : List IOper := [
 X.o 6 (.move (.cst (.bool false)))]
def C.q65_r0 : List IOper := C.q65_r0_b
def C.q65_r0_w := pO C.q65_r0.eq_1
def C.q65 : IFunc := ⟨3, [.slot 6], .seq (.region C.q65_r0) C.q65_c1⟩
def C.q65_W := aI @C.q65_r1_w (aI @C.q65_c1_w @C.q65_r0_w)
def C.q65_B := aI @C.q65_r1_b.eq_1 @C.q65_r0_b.eq_1

def C.q36_r1_b : List IOper := [
 X.o 2 (.loadN 6 (X.s 0)),
 X.o 3 (.call F.q55 [X.s 2]),
 X.o 4 (.un .not (X.s 3)),
 X.o 5 (.call F.q64 [X.s 4, X.i 3]),
 X.m 1 5]
def C.q36_r1 : List IOper := C.q36_r1_b
def C.q36_r1_w := pO C.q36_r1.eq_1
def C.q36_c1 : ICode := .keep [0] (.seq (.region C.q36_r1) .ret)
def C.q36_c1_w := pC C.q36_c1.eq_1
def C.q36_r0_b : List IOper := [
 X.o 1 (.move (X.i 0))]
def C.q36_r0 : List IOper := C.q36_r0_b
def C.q36_r0_w := pO C.q36_r0.eq_1
def C.q36 : IFunc := ⟨1, [.slot 1], .seq (.region C.q36_r0) C.q36_c1⟩
def C.q36_W := aI @C.q36_r1_w (aI @C.q36_c1_w @C.q36_r0_w)
def C.q36_B := aI @C.q36_r1_b.eq_1 @C.q36_r0_b.eq_1

def C.q55_r8_b : List IOper := [
 X.o 2 (.move (.cst (.bool true)))]
def C.q55_r8 : List IOper := C.q55_r8_b
def C.q55_r8_w := pO C.q55_r8.eq_1
def C.q55_c1 : ICode := .keep [] (.seq (.region C.q55_r8) .ret)
def C.q55_c1_w := pC C.q55_c1.eq_1
def C.q55_r3_b : List IOper := [
 X.o 7 (.fldAddr 2 (X.s 1)),
 X.o 8 (.load1 (X.s 7)),
 X.o 9 (.bin .geq (X.s 8) (.cst (.int .u64 1))),
 X.m 10 9,
 X.t 10 11 (.fldAddr 2 (X.s 1)),
 X.t 10 12 (.load1 (X.s 11)),
 X.t 10 13 (.bin .leq (X.s 12) (.cst (.int .u64 1099511627776))),
 X.o 14 (.pick (X.s 10) (X.s 13) (.cst (.bool false))),
 X.m 2 14]
def C.q55_r3 : List IOper := C.q55_r3_b
def C.q55_r3_w := pO C.q55_r3.eq_1
def C.q55_r5_b : List IOper := [
 X.o 17 (.fldAddr 3 (X.s 1)),
 X.o 18 (.load1 (X.s 17)),
 X.o 19 (.call F.q65 [X.s 18, X.i 1, X.i 1000]),
 X.m 20 19,
 X.t 20 21 (.fldAddr 4 (X.s 1)),
 X.t 20 22 (.load1 (X.s 21)),
 X.t 20 23 (.call F.q65 [X.s 22, X.i 1, X.i 1000]),
 X.o 24 (.pick (X.s 20) (X.s 23) (.cst (.bool false))),
 X.m 25 24,
 X.t 25 26 (.fldAddr 5 (X.s 1)),
 X.t 25 27 (.load1 (X.s 26)),
 X.t 25 28 (.call F.q65 [X.s 27, X.i 0, X.i 20]),
 X.o 29 (.pick (X.s 25) (X.s 28) (.cst (.bool false))),
 X.m 2 29]
def C.q55_r5 : List IOper := C.q55_r5_b
def C.q55_r5_w := pO C.q55_r5.eq_1
def C.q55_r7_b : List IOper := [
 X.o 32 (.fldAddr 4 (X.s 1)),
 X.o 33 (.load1 (X.s 32)),
 X.o 34 (.call F.q65 [X.s 33, X.i 1, X.i 1000]),
 X.m 2 34]
def C.q55_r7 : List IOper := C.q55_r7_b
def C.q55_r7_w := pO C.q55_r7.eq_1
def C.q55_c2 : ICode := .seq (.region C.q55_r7) .ret
def C.q55_c2_w := pC C.q55_c2.eq_1
def C.q55_c3 : ICode := .keep [1, 30] (.cond (X.s 30) C.q55_c2 .skip)
def C.q55_c3_w := pC C.q55_c3.eq_1
def C.q55_r6_b : List IOper := [
 X.o 31 (.bin .eql (X.s 4) (.cst (.int .u8 100))),
 X.m 30 31]
def C.q55_r6 : List IOper := C.q55_r6_b
def C.q55_r6_w := pO C.q55_r6.eq_1
def C.q55_c4 : ICode := .seq (.region C.q55_r5) .ret
def C.q55_c4_w := pC C.q55_c4.eq_1
def C.q55_c5 : ICode := .seq (.region C.q55_r6) C.q55_c3
def C.q55_c5_w := pC C.q55_c5.eq_1
def C.q55_c6 : ICode := .keep [1, 4, 15] (.cond (X.s 15) C.q55_c4 C.q55_c5)
def C.q55_c6_w := pC C.q55_c6.eq_1
def C.q55_r4_b : List IOper := [
 X.o 16 (.bin .eql (X.s 4) (.cst (.int .u8 112))),
 X.m 15 16]
def C.q55_r4 : List IOper := C.q55_r4_b
def C.q55_r4_w := pO C.q55_r4.eq_1
def C.q55_c7 : ICode := .seq (.region C.q55_r3) .ret
def C.q55_c7_w := pC C.q55_c7.eq_1
def C.q55_c8 : ICode := .seq (.region C.q55_r4) C.q55_c6
def C.q55_c8_w := pC C.q55_c8.eq_1
def C.q55_c9 : ICode := .keep [1, 4, 5] (.cond (X.s 5) C.q55_c7 C.q55_c8)
def C.q55_c9_w := pC C.q55_c9.eq_1
def C.q55_r2_b : List IOper := [
 X.o 6 (.bin .eql (X.s 4) (.cst (.int .u8 111))),
 X.m 5 6]
def C.q55_r2 : List IOper := C.q55_r2_b
def C.q55_r2_w := pO C.q55_r2.eq_1
def C.q55_b10 : ICode := .seq (.region C.q55_r2) C.q55_c9
def C.q55_b10_w := pC C.q55_b10.eq_1
def C.q55_c11 : ICode := .keep [1, 4] (.block 0 C.q55_b10)
def C.q55_c11_w := pC C.q55_c11.eq_1
def C.q55_r1_b : List IOper := [
 X.o 3 (.fldAddr 0 (X.s 1)),
 X.o 4 (.load1 (X.s 3))]
def C.q55_r1 : List IOper := C.q55_r1_b
def C.q55_r1_w := pO C.q55_r1.eq_1
def C.q55_c12 : ICode := .keep [1] (.seq (.seq (.region C.q55_r1) C.q55_c11) C.q55_c1)
def C.q55_c12_w := pC C.q55_c12.eq_1
def C.q55_r0_b : List IOper := [
 X.o 1 (.boxN (X.s 0)),
 X.o 2 (.move (.cst (.bool false)))]
def C.q55_r0 : List IOper := C.q55_r0_b
def C.q55_r0_w := pO C.q55_r0.eq_1
def C.q55 : IFunc := ⟨1, [.slot 2], .seq (.region C.q55_r0) C.q55_c12⟩
def C.q55_W := aI (aI (aI (aI @C.q55_r8_w @C.q55_c1_w) (aI @C.q55_r3_w (aI @C.q55_r5_w @C.q55_r7_w))) (aI (aI @C.q55_c2_w @C.q55_c3_w) (aI @C.q55_r6_w (aI @C.q55_c4_w @C.q55_c5_w)))) (aI (aI (aI @C.q55_c6_w @C.q55_r4_w) (aI @C.q55_c7_w (aI @C.q55_c8_w @C.q55_c9_w))) (aI (aI @C.q55_r2_w (aI @C.q55_b10_w @C.q55_c11_w)) (aI @C.q55_r1_w (aI @C.q55_c12_w @C.q55_r0_w))))
def C.q55_B := aI (aI (aI @C.q55_r8_b.eq_1 @C.q55_r3_b.eq_1) (aI @C.q55_r5_b.eq_1 @C.q55_r7_b.eq_1)) (aI (aI @C.q55_r6_b.eq_1 @C.q55_r4_b.eq_1) (aI @C.q55_r2_b.eq_1 (aI @C.q55_r1_b.eq_1 @C.q55_r0_b.eq_1)))

def C.q66_r2_b : List IOper := [
 X.m 10 4,
 X.m 2 10]
def C.q66_r2 : List IOper := C.q66_r2_b
def C.q66_r2_w := pO C.q66_r2.eq_1
def C.q66_c1 : ICode := .keep [4] (.seq (.region C.q66_r2) .ret)
def C.q66_c1_w := pC C.q66_c1.eq_1
def C.q66_r1_b : List IOper := [
 X.m 6 0,
 X.o 7 (.call F.q67 [X.s 6]),
 X.m 5 7,
 X.o 8 (.extract (X.s 5) 0),
 X.o 9 (.extract (X.s 5) 1),
 X.m 3 8,
 X.m 4 9]
def C.q66_r1 : List IOper := C.q66_r1_b
def C.q66_r1_w := pO C.q66_r1.eq_1
def C.q66_c2 : ICode := .keep [0] (.seq (.region C.q66_r1) C.q66_c1)
def C.q66_c2_w := pC C.q66_c2.eq_1
def C.q66_r0_b : List IOper := [
 X.o 2 (.move (X.i 0))]
def C.q66_r0 : List IOper := C.q66_r0_b
def C.q66_r0_w := pO C.q66_r0.eq_1
def C.q66 : IFunc := ⟨1, [.slot 2], .seq (.region C.q66_r0) C.q66_c2⟩
def C.q66_W := aI (aI @C.q66_r2_w @C.q66_c1_w) (aI @C.q66_r1_w (aI @C.q66_c2_w @C.q66_r0_w))
def C.q66_B := aI @C.q66_r2_b.eq_1 (aI @C.q66_r1_b.eq_1 @C.q66_r0_b.eq_1)

def C.q61_r1_b : List IOper := [
 X.m 3 0,
 X.o 4 (.append 1 8 (.cst (.nils)) (X.s 3)),
 X.m 2 4]
def C.q61_r1 : List IOper := C.q61_r1_b
def C.q61_r1_w := pO C.q61_r1.eq_1
def C.q61_c1 : ICode := .keep [0] (.seq (.region C.q61_r1) .ret)
def C.q61_c1_w := pC C.q61_c1.eq_1
def C.q61_r0_b : List IOper := [
 X.o 2 (.move (.cst (.nils)))]
def C.q61_r0 : List IOper := C.q61_r0_b
def C.q61_r0_w := pO C.q61_r0.eq_1
def C.q61 : IFunc := ⟨1, [.slot 2], .seq (.region C.q61_r0) C.q61_c1⟩
def C.q61_W := aI @C.q61_r1_w (aI @C.q61_c1_w @C.q61_r0_w)
def C.q61_B := aI @C.q61_r1_b.eq_1 @C.q61_r0_b.eq_1

def C.q45_r1_b : List IOper := [
 X.o 3 (.fldAddr 0 (X.s 0)),
 X.o 4 (.load1 (X.s 3)),
 X.o 5 (.bin .neq (X.s 4) (X.i (-1))),
 X.m 6 5,
 X.t 6 7 (.fldAddr 0 (X.s 0)),
 X.t 6 8 (.load1 (X.s 7)),
 X.t 6 9 (.fldAddr 1 (X.s 1)),
 X.t 6 10 (.load1 (X.s 9)),
 X.t 6 11 (.len (X.s 10)),
 X.t 6 12 (.bin .sub (X.s 11) (X.i 1)),
 X.t 6 13 (.call F.q65 [X.s 8, X.i 0, X.s 12]),
 X.t 6 14 (.un .not (X.s 13)),
 X.o 15 (.pick (X.s 6) (X.s 14) (.cst (.bool false))),
 X.o 16 (.call F.q64 [X.s 15, X.i 4]),
 X.m 2 16]
def C.q45_r1 : List IOper := C.q45_r1_b
def C.q45_r1_w := pO C.q45_r1.eq_1
def C.q45_c1 : ICode := .keep [0, 1] (.seq (.region C.q45_r1) .ret)
def C.q45_c1_w := pC C.q45_c1.eq_1
def C.q45_r0_b : List IOper := [
 X.o 2 (.move (X.i 0))]
def C.q45_r0 : List IOper := C.q45_r0_b
def C.q45_r0_w := pO C.q45_r0.eq_1
def C.q45 : IFunc := ⟨2, [.slot 2], .seq (.region C.q45_r0) C.q45_c1⟩
def C.q45_W := aI @C.q45_r1_w (aI @C.q45_c1_w @C.q45_r0_w)
def C.q45_B := aI @C.q45_r1_b.eq_1 @C.q45_r0_b.eq_1

def C.q46_r1_b : List IOper := [
 X.o 2 (.fldAddr 1 (X.s 0)),
 X.o 3 (.load1 (X.s 2)),
 X.o 4 (.call F.q65 [X.s 3, X.i 0, X.i 20]),
 X.o 5 (.un .not (X.s 4)),
 X.o 6 (.call F.q64 [X.s 5, X.i 3]),
 X.m 1 6]
def C.q46_r1 : List IOper := C.q46_r1_b
def C.q46_r1_w := pO C.q46_r1.eq_1
def C.q46_c1 : ICode := .keep [0] (.seq (.region C.q46_r1) .ret)
def C.q46_c1_w := pC C.q46_c1.eq_1
def C.q46_r0_b : List IOper := [
 X.o 1 (.move (X.i 0))]
def C.q46_r0 : List IOper := C.q46_r0_b
def C.q46_r0_w := pO C.q46_r0.eq_1
def C.q46 : IFunc := ⟨1, [.slot 1], .seq (.region C.q46_r0) C.q46_c1⟩
def C.q46_W := aI @C.q46_r1_w (aI @C.q46_c1_w @C.q46_r0_w)
def C.q46_B := aI @C.q46_r1_b.eq_1 @C.q46_r0_b.eq_1

def C.q39_r1_b : List IOper := [
 X.o 3 (.fldAddr 0 (X.s 0)),
 X.o 4 (.load1 (X.s 3)),
 X.o 5 (.fldAddr 0 (X.s 1)),
 X.o 6 (.load1 (X.s 5)),
 X.o 7 (.len (X.s 6)),
 X.o 8 (.bin .sub (X.s 7) (X.i 1)),
 X.o 9 (.call F.q65 [X.s 4, X.i 0, X.s 8]),
 X.o 10 (.un .not (X.s 9)),
 X.o 11 (.call F.q64 [X.s 10, X.i 4]),
 X.m 2 11]
def C.q39_r1 : List IOper := C.q39_r1_b
def C.q39_r1_w := pO C.q39_r1.eq_1
def C.q39_c1 : ICode := .keep [0, 1] (.seq (.region C.q39_r1) .ret)
def C.q39_c1_w := pC C.q39_c1.eq_1
def C.q39_r0_b : List IOper := [
 X.o 2 (.move (X.i 0))]
def C.q39_r0 : List IOper := C.q39_r0_b
def C.q39_r0_w := pO C.q39_r0.eq_1
def C.q39 : IFunc := ⟨2, [.slot 2], .seq (.region C.q39_r0) C.q39_c1⟩
def C.q39_W := aI @C.q39_r1_w (aI @C.q39_c1_w @C.q39_r0_w)
def C.q39_B := aI @C.q39_r1_b.eq_1 @C.q39_r0_b.eq_1

def C.q40_r1_b : List IOper := [
 X.o 3 (.fldAddr 1 (X.s 0)),
 X.o 4 (.load1 (X.s 3)),
 X.o 5 (.fldAddr 1 (X.s 1)),
 X.o 6 (.load1 (X.s 5)),
 X.o 7 (.len (X.s 6)),
 X.o 8 (.bin .sub (X.s 7) (X.i 1)),
 X.o 9 (.call F.q65 [X.s 4, X.i 0, X.s 8]),
 X.o 10 (.un .not (X.s 9)),
 X.o 11 (.call F.q64 [X.s 10, X.i 4]),
 X.m 2 11]
def C.q40_r1 : List IOper := C.q40_r1_b
def C.q40_r1_w := pO C.q40_r1.eq_1
def C.q40_c1 : ICode := .keep [0, 1] (.seq (.region C.q40_r1) .ret)
def C.q40_c1_w := pC C.q40_c1.eq_1
def C.q40_r0_b : List IOper := [
 X.o 2 (.move (X.i 0))]
def C.q40_r0 : List IOper := C.q40_r0_b
def C.q40_r0_w := pO C.q40_r0.eq_1
def C.q40 : IFunc := ⟨2, [.slot 2], .seq (.region C.q40_r0) C.q40_c1⟩
def C.q40_W := aI @C.q40_r1_w (aI @C.q40_c1_w @C.q40_r0_w)
def C.q40_B := aI @C.q40_r1_b.eq_1 @C.q40_r0_b.eq_1

def C.q41_r1_b : List IOper := [
 X.o 3 (.fldAddr 2 (X.s 0)),
 X.o 4 (.load1 (X.s 3)),
 X.o 5 (.fldAddr 2 (X.s 1)),
 X.o 6 (.load1 (X.s 5)),
 X.o 7 (.len (X.s 6)),
 X.o 8 (.bin .sub (X.s 7) (X.i 1)),
 X.o 9 (.call F.q65 [X.s 4, X.i 0, X.s 8]),
 X.o 10 (.un .not (X.s 9)),
 X.o 11 (.call F.q64 [X.s 10, X.i 4]),
 X.m 2 11]
def C.q41_r1 : List IOper := C.q41_r1_b
def C.q41_r1_w := pO C.q41_r1.eq_1
def C.q41_c1 : ICode := .keep [0, 1] (.seq (.region C.q41_r1) .ret)
def C.q41_c1_w := pC C.q41_c1.eq_1
def C.q41_r0_b : List IOper := [
 X.o 2 (.move (X.i 0))]
def C.q41_r0 : List IOper := C.q41_r0_b
def C.q41_r0_w := pO C.q41_r0.eq_1
def C.q41 : IFunc := ⟨2, [.slot 2], .seq (.region C.q41_r0) C.q41_c1⟩
def C.q41_W := aI @C.q41_r1_w (aI @C.q41_c1_w @C.q41_r0_w)
def C.q41_B := aI @C.q41_r1_b.eq_1 @C.q41_r0_b.eq_1

def C.q42_r1_b : List IOper := [
 X.o 3 (.fldAddr 5 (X.s 0)),
 X.o 4 (.load1 (X.s 3)),
 X.o 5 (.makeFunc F.q43 [X.s 1]),
 X.o 6 (.call F.q51 [X.s 4, X.s 5]),
 X.m 2 6]
def C.q42_r1 : List IOper := C.q42_r1_b
def C.q42_r1_w := pO C.q42_r1.eq_1
def C.q42_c1 : ICode := .keep [0, 1] (.seq (.region C.q42_r1) .ret)
def C.q42_c1_w := pC C.q42_c1.eq_1
def C.q42_r0_b : List IOper := [
 X.o 2 (.move (X.i 0))]
def C.q42_r0 : List IOper := C.q42_r0_b
def C.q42_r0_w := pO C.q42_r0.eq_1
def C.q42 : IFunc := ⟨2, [.slot 2], .seq (.region C.q42_r0) C.q42_c1⟩
def C.q42_W := aI @C.q42_r1_w (aI @C.q42_c1_w @C.q42_r0_w)
def C.q42_B := aI @C.q42_r1_b.eq_1 @C.q42_r0_b.eq_1

def C.q43_r1_b : List IOper := [
 X.m 4 0,
 X.o 5 (.fldAddr 3 (X.s 1)),
 X.o 6 (.load1 (X.s 5)),
 X.o 7 (.len (X.s 6)),
 X.o 8 (.bin .sub (X.s 7) (X.i 1)),
 X.o 9 (.call F.q65 [X.s 4, X.i 0, X.s 8]),
 X.o 10 (.un .not (X.s 9)),
 X.o 11 (.call F.q64 [X.s 10, X.i 4]),
 X.m 3 11]
def C.q43_r1 : List IOper := C.q43_r1_b
def C.q43_r1_w := pO C.q43_r1.eq_1
def C.q43_c1 : ICode := .keep [0, 1] (.seq (.region C.q43_r1) .ret)
def C.q43_c1_w := pC C.q43_c1.eq_1
def C.q43_r0_b : List IOper := [
 X.o 3 (.move (X.i 0))]
def C.q43_r0 : List IOper := C.q43_r0_b
def C.q43_r0_w := pO C.q43_r0.eq_1
def C.q43 : IFunc := ⟨2, [.slot 3], .seq (.region C.q43_r0) C.q43_c1⟩
def C.q43_W := aI @C.q43_r1_w (aI @C.q43_c1_w @C.q43_r0_w)
def C.q43_B := aI @C.q43_r1_b.eq_1 @C.q43_r0_b.eq_1

def C.q56_r1_b : List IOper := [
 X.m 3 0,
 X.o 4 (.append 6 64 (.cst (.nils)) (X.s 3)),
 X.m 2 4]
def C.q56_r1 : List IOper := C.q56_r1_b
def C.q56_r1_w := pO C.q56_r1.eq_1
def C.q56_c1 : ICode := .keep [0] (.seq (.region C.q56_r1) .ret)
def C.q56_c1_w := pC C.q56_c1.eq_1
def C.q56_r0_b : List IOper := [
 X.o 2 (.move (.cst (.nils)))]
def C.q56_r0 : List IOper := C.q56_r0_b
def C.q56_r0_w := pO C.q56_r0.eq_1
def C.q56 : IFunc := ⟨1, [.slot 2], .seq (.region C.q56_r0) C.q56_c1⟩
def C.q56_W := aI @C.q56_r1_w (aI @C.q56_c1_w @C.q56_r0_w)
def C.q56_B := aI @C.q56_r1_b.eq_1 @C.q56_r0_b.eq_1

def C.q58_r1_b : List IOper := [
 X.m 3 0,
 X.o 4 (.append 3 24 (.cst (.nils)) (X.s 3)),
 X.m 2 4]
def C.q58_r1 : List IOper := C.q58_r1_b
def C.q58_r1_w := pO C.q58_r1.eq_1
def C.q58_c1 : ICode := .keep [0] (.seq (.region C.q58_r1) .ret)
def C.q58_c1_w := pC C.q58_c1.eq_1
def C.q58_r0_b : List IOper := [
 X.o 2 (.move (.cst (.nils)))]
def C.q58_r0 : List IOper := C.q58_r0_b
def C.q58_r0_w := pO C.q58_r0.eq_1
def C.q58 : IFunc := ⟨1, [.slot 2], .seq (.region C.q58_r0) C.q58_c1⟩
def C.q58_W := aI @C.q58_r1_w (aI @C.q58_c1_w @C.q58_r0_w)
def C.q58_B := aI @C.q58_r1_b.eq_1 @C.q58_r0_b.eq_1

def C.q60_r1_b : List IOper := [
 X.m 3 0,
 X.o 4 (.append 1 8 (.cst (.nils)) (X.s 3)),
 X.m 2 4]
def C.q60_r1 : List IOper := C.q60_r1_b
def C.q60_r1_w := pO C.q60_r1.eq_1
def C.q60_c1 : ICode := .keep [0] (.seq (.region C.q60_r1) .ret)
def C.q60_c1_w := pC C.q60_c1.eq_1
def C.q60_r0_b : List IOper := [
 X.o 2 (.move (.cst (.nils)))]
def C.q60_r0 : List IOper := C.q60_r0_b
def C.q60_r0_w := pO C.q60_r0.eq_1
def C.q60 : IFunc := ⟨1, [.slot 2], .seq (.region C.q60_r0) C.q60_c1⟩
def C.q60_W := aI @C.q60_r1_w (aI @C.q60_c1_w @C.q60_r0_w)
def C.q60_B := aI @C.q60_r1_b.eq_1 @C.q60_r0_b.eq_1

def C.q57_r1_b : List IOper := [
 X.m 3 0,
 X.o 4 (.append 6 80 (.cst (.nils)) (X.s 3)),
 X.m 2 4]
def C.q57_r1 : List IOper := C.q57_r1_b
def C.q57_r1_w := pO C.q57_r1.eq_1
def C.q57_c1 : ICode := .keep [0] (.seq (.region C.q57_r1) .ret)
def C.q57_c1_w := pC C.q57_c1.eq_1
def C.q57_r0_b : List IOper := [
 X.o 2 (.move (.cst (.nils)))]
def C.q57_r0 : List IOper := C.q57_r0_b
def C.q57_r0_w := pO C.q57_r0.eq_1
def C.q57 : IFunc := ⟨1, [.slot 2], .seq (.region C.q57_r0) C.q57_c1⟩
def C.q57_W := aI @C.q57_r1_w (aI @C.q57_c1_w @C.q57_r0_w)
def C.q57_B := aI @C.q57_r1_b.eq_1 @C.q57_r0_b.eq_1

def C.q59_r1_b : List IOper := [
 X.m 3 0,
 X.o 4 (.append 2 8 (.cst (.nils)) (X.s 3)),
 X.m 2 4]
def C.q59_r1 : List IOper := C.q59_r1_b
def C.q59_r1_w := pO C.q59_r1.eq_1
def C.q59_c1 : ICode := .keep [0] (.seq (.region C.q59_r1) .ret)
def C.q59_c1_w := pC C.q59_c1.eq_1
def C.q59_r0_b : List IOper := [
 X.o 2 (.move (.cst (.nils)))]
def C.q59_r0 : List IOper := C.q59_r0_b
def C.q59_r0_w := pO C.q59_r0.eq_1
def C.q59 : IFunc := ⟨1, [.slot 2], .seq (.region C.q59_r0) C.q59_c1⟩
def C.q59_W := aI @C.q59_r1_w (aI @C.q59_c1_w @C.q59_r0_w)
def C.q59_B := aI @C.q59_r1_b.eq_1 @C.q59_r0_b.eq_1

def C.q109_r4_b : List IOper := [
 X.o 20 (.bin .add (X.s 7) (X.i 1)),
 X.m 7 20]
def C.q109_r4 : List IOper := C.q109_r4_b
def C.q109_r4_w := pO C.q109_r4.eq_1
def C.q109_c1 : ICode := .keep [0, 1, 6, 7] (.region C.q109_r4)
def C.q109_c1_w := pC C.q109_c1.eq_1
def C.q109_r3_b : List IOper := [
 X.m 10 1,
 X.m 11 4,
 X.m 12 0,
 X.o 13 (.nilchk (X.s 12)),
 X.o 14 (.fldAddr 0 (X.s 13)),
 X.o 15 (.load1 (X.s 14)),
 X.m 16 4,
 X.o 17 (.idxAddr 2 (X.s 15) (X.s 16)),
 X.o 18 (.loadN 2 (X.s 17)),
 X.o 19 (.callv (X.s 10) [X.s 11, X.s 18])]
def C.q109_r3 : List IOper := C.q109_r3_b
def C.q109_r3_w := pO C.q109_r3.eq_1
def C.q109_c2 : ICode := .keep [0, 1, 4, 6, 7] (.region C.q109_r3)
def C.q109_c2_w := pC C.q109_c2.eq_1
def C.q109_r2_b : List IOper := [
 X.m 9 7,
 X.m 4 9]
def C.q109_r2 : List IOper := C.q109_r2_b
def C.q109_r2_w := pO C.q109_r2.eq_1
def C.q109_b3 : ICode := .seq (.region C.q109_r2) C.q109_c2
def C.q109_b3_w := pC C.q109_b3.eq_1
def C.q109_c4 : ICode := .keep [0, 1, 6, 7] (.seq (.block 1 C.q109_b3) C.q109_c1)
def C.q109_c4_w := pC C.q109_c4.eq_1
def C.q109_c5 : ICode := .keep [0, 1, 6, 7, 8] (.seq (.cond (X.s 8) .skip (.exit 0)) C.q109_c4)
def C.q109_c5_w := pC C.q109_c5.eq_1
def C.q109_r1_b : List IOper := [
 X.o 8 (.bin .lss (X.s 7) (X.s 6))]
def C.q109_r1 : List IOper := C.q109_r1_b
def C.q109_r1_w := pO C.q109_r1.eq_1
def C.q109_l6 : ICode := .keep [0, 1, 6, 7] (.seq (.region C.q109_r1) C.q109_c5)
def C.q109_l6_w := pC C.q109_l6.eq_1
def C.q109_b7 : ICode := .loop C.q109_l6
def C.q109_b7_w := pC C.q109_b7.eq_1
def C.q109_c8 : ICode := .keep [0, 1, 6, 7] (.block 0 C.q109_b7)
def C.q109_c8_w := pC C.q109_c8.eq_1
def C.q109_r0_b : List IOper := [
 X.m 5 0,
 X.o 6 (.call F.q100 [X.s 5]),
 X.o 7 (.move (X.i 0))]
def C.q109_r0 : List IOper := C.q109_r0_b
def C.q109_r0_w := pO C.q109_r0.eq_1
def C.q109 : IFunc := ⟨2, [], .seq (.region C.q109_r0) C.q109_c8⟩
def C.q109_W := aI (aI (aI @C.q109_r4_w (aI @C.q109_c1_w @C.q109_r3_w)) (aI @C.q109_c2_w (aI @C.q109_r2_w @C.q109_b3_w))) (aI (aI @C.q109_c4_w (aI @C.q109_c5_w @C.q109_r1_w)) (aI @C.q109_b7_w (aI @C.q109_c8_w @C.q109_r0_w)))
def C.q109_B := aI (aI @C.q109_r4_b.eq_1 @C.q109_r3_b.eq_1) (aI @C.q109_r2_b.eq_1 (aI @C.q109_r1_b.eq_1 @C.q109_r0_b.eq_1))

def C.q108_r1_b : List IOper := [
 X.o 6 (.load1 (X.s 3)),
 X.o 7 (.nilchk (X.s 6)),
 X.o 8 (.fldAddr 1 (X.s 7)),
 X.o 9 (.load1 (X.s 8)),
 X.m 10 0,
 X.o 11 (.load1 (X.s 2)),
 X.m 12 0,
 X.o 13 (.loadN 2 (X.s 5)),
 ⟨some 14, .callv (X.s 11) [X.s 12, X.s 13], none, [⟨.load1 (X.s 3), 6, none⟩, ⟨.load1 (X.s 8), 9, none⟩], []⟩,
 X.o 15 (.idxAddr 1 (X.s 9) (X.s 10)),
 X.n (.store1 (X.s 15) (X.s 14))]
def C.q108_r1 : List IOper := C.q108_r1_b
def C.q108_r1_w := pO C.q108_r1.eq_1
def C.q108_c1 : ICode := .keep [0, 2, 3, 5] (.region C.q108_r1)
def C.q108_c1_w := pC C.q108_c1.eq_1
def C.q108_r0_b : List IOper := [
 X.o 5 (.boxN (X.s 1))]
def C.q108_r0 : List IOper := C.q108_r0_b
def C.q108_r0_w := pO C.q108_r0.eq_1
def C.q108 : IFunc := ⟨4, [], .seq (.region C.q108_r0) C.q108_c1⟩
def C.q108_W := aI @C.q108_r1_w (aI @C.q108_c1_w @C.q108_r0_w)
def C.q108_B := aI @C.q108_r1_b.eq_1 @C.q108_r0_b.eq_1

def C.q105_r2_b : List IOper := [
 X.o 7 (.load1 (X.s 2)),
 X.o 8 (.nilchk (X.s 7)),
 X.o 9 (.fldAddr 2 (X.s 8)),
 X.o 10 (.load1 (X.s 9)),
 X.m 11 0,
 X.o 12 (.load1 (X.s 2)),
 X.o 13 (.nilchk (X.s 12)),
 X.o 14 (.fldAddr 1 (X.s 13)),
 X.o 15 (.load1 (X.s 14)),
 X.m 16 0,
 X.o 17 (.idxAddr 1 (X.s 15) (X.s 16)),
 X.o 18 (.load1 (X.s 17)),
 X.o 19 (.idxAddr 1 (X.s 10) (X.s 11)),
 X.n (.store1 (X.s 19) (X.s 18))]
def C.q105_r2 : List IOper := C.q105_r2_b
def C.q105_r2_w := pO C.q105_r2.eq_1
def C.q105_c1 : ICode := .keep [0, 2, 6] (.cond (X.s 6) (.region C.q105_r2) .skip)
def C.q105_c1_w := pC C.q105_c1.eq_1
def C.q105_r1_b : List IOper := [
 X.o 5 (.fldAddr 1 (X.s 4)),
 X.o 6 (.load1 (X.s 5))]
def C.q105_r1 : List IOper := C.q105_r1_b
def C.q105_r1_w := pO C.q105_r1.eq_1
def C.q105_c2 : ICode := .keep [0, 2, 4] (.seq (.region C.q105_r1) C.q105_c1)
def C.q105_c2_w := pC C.q105_c2.eq_1
def C.q105_r0_b : List IOper := [
 X.o 4 (.boxN (X.s 1))]
def C.q105_r0 : List IOper := C.q105_r0_b
def C.q105_r0_w := pO C.q105_r0.eq_1
def C.q105 : IFunc := ⟨3, [], .seq (.region C.q105_r0) C.q105_c2⟩
def C.q105_W := aI (aI @C.q105_r2_w @C.q105_c1_w) (aI @C.q105_r1_w (aI @C.q105_c2_w @C.q105_r0_w))
def C.q105_B := aI @C.q105_r2_b.eq_1 (aI @C.q105_r1_b.eq_1 @C.q105_r0_b.eq_1)

def C.q103_r3_b : List IOper := [
 X.o 21 (.fldAddr 0 (X.s 4)),
 X.o 22 (.load1 (X.s 21)),
 X.m 5 22]
def C.q103_r3 : List IOper := C.q103_r3_b
def C.q103_r3_w := pO C.q103_r3.eq_1
def C.q103_c1 : ICode := .keep [4] (.seq (.region C.q103_r3) .ret)
def C.q103_c1_w := pC C.q103_c1.eq_1
def C.q103_r2_b : List IOper := [
 X.o 14 (.load1 (X.s 2)),
 X.o 15 (.nilchk (X.s 14)),
 X.o 16 (.fldAddr 2 (X.s 15)),
 X.o 17 (.load1 (X.s 16)),
 X.m 18 0,
 X.o 19 (.idxAddr 1 (X.s 17) (X.s 18)),
 X.o 20 (.load1 (X.s 19)),
 X.m 5 20]
def C.q103_r2 : List IOper := C.q103_r2_b
def C.q103_r2_w := pO C.q103_r2.eq_1
def C.q103_c2 : ICode := .seq (.region C.q103_r2) .ret
def C.q103_c2_w := pC C.q103_c2.eq_1
def C.q103_c3 : ICode := .keep [0, 2, 4, 13] (.cond (X.s 13) C.q103_c2 .skip)
def C.q103_c3_w := pC C.q103_c3.eq_1
def C.q103_r1_b : List IOper := [
 X.o 6 (.load1 (X.s 2)),
 X.o 7 (.nilchk (X.s 6)),
 X.o 8 (.fldAddr 3 (X.s 7)),
 X.o 9 (.load1 (X.s 8)),
 X.m 10 9,
 X.t 10 11 (.fldAddr 1 (X.s 4)),
 X.t 10 12 (.load1 (X.s 11)),
 X.o 13 (.pick (X.s 10) (X.s 12) (.cst (.bool false)))]
def C.q103_r1 : List IOper := C.q103_r1_b
def C.q103_r1_w := pO C.q103_r1.eq_1
def C.q103_c4 : ICode := .keep [0, 2, 4] (.seq (.seq (.region C.q103_r1) C.q103_c3) C.q103_c1)
def C.q103_c4_w := pC C.q103_c4.eq_1
def C.q103_r0_b : List IOper := [
 X.o 4 (.boxN (X.s 1)),
 X.o 5 (.move (.cst (.int .u32 0)))]
def C.q103_r0 : List IOper := C.q103_r0_b
def C.q103_r0_w := pO C.q103_r0.eq_1
def C.q103 : IFunc := ⟨3, [.slot 5], .seq (.region C.q103_r0) C.q103_c4⟩
def C.q103_W := aI (aI (aI @C.q103_r3_w @C.q103_c1_w) (aI @C.q103_r2_w @C.q103_c2_w)) (aI (aI @C.q103_c3_w @C.q103_r1_w) (aI @C.q103_c4_w @C.q103_r0_w))
def C.q103_B := aI (aI @C.q103_r3_b.eq_1 @C.q103_r2_b.eq_1) (aI @C.q103_r1_b.eq_1 @C.q103_r0_b.eq_1)

def C.q67_r20_b : List IOper := [
 X.m 73 8,
 X.m 2 73,
 X.o 3 (.move (X.i 0))]
def C.q67_r20 : List IOper := C.q67_r20_b
def C.q67_r20_w := pO C.q67_r20.eq_1
def C.q67_c1 : ICode := .keep [8] (.seq (.region C.q67_r20) .ret)
def C.q67_c1_w := pC C.q67_c1.eq_1
def C.q67_r19_b : List IOper := [
 X.o 72 (.bin .add (X.s 62) (X.i 1)),
 X.m 62 72]
def C.q67_r19 : List IOper := C.q67_r19_b
def C.q67_r19_w := pO C.q67_r19.eq_1
def C.q67_c2 : ICode := .keep [0, 5, 6, 7, 8, 60, 61, 62] (.region C.q67_r19)
def C.q67_c2_w := pC C.q67_c2.eq_1
def C.q67_r18_b : List IOper := [
 X.m 66 5,
 X.m 67 11,
 X.o 68 (.idxAddr 1 (X.s 66) (X.s 67)),
 X.o 69 (.load1 (X.s 68)),
 X.o 70 (.bin .sub (X.s 69) (X.i 1)),
 X.o 71 (.idxAddr 1 (X.s 66) (X.s 67)),
 X.n (.store1 (X.s 71) (X.s 70))]
def C.q67_r18 : List IOper := C.q67_r18_b
def C.q67_r18_w := pO C.q67_r18.eq_1
def C.q67_c3 : ICode := .keep [0, 5, 6, 7, 8, 11, 60, 61, 62] (.region C.q67_r18)
def C.q67_c3_w := pC C.q67_c3.eq_1
def C.q67_r17_b : List IOper := [
 X.o 64 (.idxAddr 1 (X.s 60) (X.s 62)),
 X.o 65 (.load1 (X.s 64)),
 X.m 11 65]
def C.q67_r17 : List IOper := C.q67_r17_b
def C.q67_r17_w := pO C.q67_r17.eq_1
def C.q67_b4 : ICode := .seq (.region C.q67_r17) C.q67_c3
def C.q67_b4_w := pC C.q67_b4.eq_1
def C.q67_c5 : ICode := .keep [0, 5, 6, 7, 8, 60, 61, 62] (.seq (.block 5 C.q67_b4) C.q67_c2)
def C.q67_c5_w := pC C.q67_c5.eq_1
def C.q67_c6 : ICode := .keep [0, 5, 6, 7, 8, 60, 61, 62, 63] (.seq (.cond (X.s 63) .skip (.exit 4)) C.q67_c5)
def C.q67_c6_w := pC C.q67_c6.eq_1
def C.q67_r16_b : List IOper := [
 X.o 63 (.bin .lss (X.s 62) (X.s 61))]
def C.q67_r16 : List IOper := C.q67_r16_b
def C.q67_r16_w := pO C.q67_r16.eq_1
def C.q67_l7 : ICode := .keep [0, 5, 6, 7, 8, 60, 61, 62] (.seq (.region C.q67_r16) C.q67_c6)
def C.q67_l7_w := pC C.q67_l7.eq_1
def C.q67_b8 : ICode := .loop C.q67_l7
def C.q67_b8_w := pC C.q67_b8.eq_1
def C.q67_c9 : ICode := .keep [0, 5, 6, 7, 8, 60, 61, 62] (.block 4 C.q67_b8)
def C.q67_c9_w := pC C.q67_c9.eq_1
def C.q67_r15_b : List IOper := [
 X.m 57 6,
 X.m 58 9,
 X.o 59 (.idxAddr 1 (X.s 57) (X.s 58)),
 X.o 60 (.load1 (X.s 59)),
 X.o 61 (.len (X.s 60)),
 X.o 62 (.move (X.i 0))]
def C.q67_r15 : List IOper := C.q67_r15_b
def C.q67_r15_w := pO C.q67_r15.eq_1
def C.q67_c10 : ICode := .keep [0, 5, 6, 7, 8, 9] (.seq (.region C.q67_r15) C.q67_c9)
def C.q67_c10_w := pC C.q67_c10.eq_1
def C.q67_r14_b : List IOper := [
 X.m 53 8,
 X.m 54 9,
 X.o 55 (.buildSlice 1 1 [.int .i64 0] [(0, 1, X.s 54)]),
 X.o 56 (.append 1 8 (X.s 53) (X.s 55)),
 X.m 8 56]
def C.q67_r14 : List IOper := C.q67_r14_b
def C.q67_r14_w := pO C.q67_r14.eq_1
def C.q67_c11 : ICode := .keep [0, 5, 6, 7, 8, 9] (.seq (.region C.q67_r14) C.q67_c10)
def C.q67_c11_w := pC C.q67_c11.eq_1
def C.q67_r13_b : List IOper := [
 X.m 50 7,
 X.m 51 9,
 X.o 52 (.call F.q69 [X.s 50, X.s 51])]
def C.q67_r13 : List IOper := C.q67_r13_b
def C.q67_r13_w := pO C.q67_r13.eq_1
def C.q67_c12 : ICode := .keep [0, 5, 6, 7, 8, 9] (.seq (.region C.q67_r13) C.q67_c11)
def C.q67_c12_w := pC C.q67_c12.eq_1
def C.q67_r12_b : List IOper := [
 X.o 2 (.move (.cst (.nils))),
 X.o 3 (.move (X.i 5))]
def C.q67_r12 : List IOper := C.q67_r12_b
def C.q67_r12_w := pO C.q67_r12.eq_1
def C.q67_c13 : ICode := .seq (.region C.q67_r12) .ret
def C.q67_c13_w := pC C.q67_c13.eq_1
def C.q67_c14 : ICode := .keep [0, 5, 6, 7, 8, 9, 49] (.cond (X.s 49) C.q67_c13 .skip)
def C.q67_c14_w := pC C.q67_c14.eq_1
def C.q67_r11_b : List IOper := [
 X.m 46 9,
 X.m 47 0,
 X.o 48 (.len (X.s 47)),
 X.o 49 (.bin .eql (X.s 46) (X.s 48))]
def C.q67_r11 : List IOper := C.q67_r11_b
def C.q67_r11_w := pO C.q67_r11.eq_1
def C.q67_c15 : ICode := .keep [0, 5, 6, 7, 8, 9] (.seq (.seq (.region C.q67_r11) C.q67_c14) C.q67_c12)
def C.q67_c15_w := pC C.q67_c15.eq_1
def C.q67_r10_b : List IOper := [
 X.m 44 9,
 X.o 45 (.bin .add (X.s 44) (X.i 1)),
 X.m 9 45]
def C.q67_r10 : List IOper := C.q67_r10_b
def C.q67_r10_w := pO C.q67_r10.eq_1
def C.q67_b16 : ICode := .region C.q67_r10
def C.q67_b16_w := pC C.q67_b16.eq_1
def C.q67_c17 : ICode := .keep [0, 5, 6, 7, 8, 9] (.block 3 C.q67_b16)
def C.q67_c17_w := pC C.q67_c17.eq_1
def C.q67_c18 : ICode := .keep [0, 5, 6, 7, 8, 9, 43] (.cond (X.s 43) .skip (.exit 2))
def C.q67_c18_w := pC C.q67_c18.eq_1
def C.q67_r9_b : List IOper := [
 X.m 28 9,
 X.m 29 0,
 X.o 30 (.len (X.s 29)),
 X.o 31 (.bin .lss (X.s 28) (X.s 30)),
 X.m 32 31,
 X.t 32 33 (.move (X.s 7)),
 X.t 32 34 (.move (X.s 9)),
 X.t 32 35 (.call F.q70 [X.s 33, X.s 34]),
 X.t 32 36 (.move (X.s 35)),
 X.f 36 37 (.move (X.s 5)),
 X.f 36 38 (.move (X.s 9)),
 X.f 36 39 (.idxAddr 1 (X.s 37) (X.s 38)),
 X.f 36 40 (.load1 (X.s 39)),
 X.f 36 41 (.bin .gtr (X.s 40) (X.i 0)),
 X.t 32 42 (.pick (X.s 36) (.cst (.bool true)) (X.s 41)),
 X.o 43 (.pick (X.s 32) (X.s 42) (.cst (.bool false)))]
def C.q67_r9 : List IOper := C.q67_r9_b
def C.q67_r9_w := pO C.q67_r9.eq_1
def C.q67_l19 : ICode := .keep [0, 5, 6, 7, 8, 9] (.seq (.seq (.region C.q67_r9) C.q67_c18) C.q67_c17)
def C.q67_l19_w := pC C.q67_l19.eq_1
def C.q67_b20 : ICode := .loop C.q67_l19
def C.q67_b20_w := pC C.q67_b20.eq_1
def C.q67_c21 : ICode := .keep [0, 5, 6, 7, 8, 9] (.seq (.block 2 C.q67_b20) C.q67_c15)
def C.q67_c21_w := pC C.q67_c21.eq_1
def C.q67_r8_b : List IOper := [
 X.o 9 (.move (X.i 0))]
def C.q67_r8 : List IOper := C.q67_r8_b
def C.q67_r8_w := pO C.q67_r8.eq_1
def C.q67_b22 : ICode := .seq (.region C.q67_r8) C.q67_c21
def C.q67_b22_w := pC C.q67_b22.eq_1
def C.q67_c23 : ICode := .keep [0, 5, 6, 7, 8] (.block 1 C.q67_b22)
def C.q67_c23_w := pC C.q67_c23.eq_1
def C.q67_c24 : ICode := .keep [0, 5, 6, 7, 8, 27] (.cond (X.s 27) .skip (.exit 0))
def C.q67_c24_w := pC C.q67_c24.eq_1
def C.q67_r7_b : List IOper := [
 X.m 23 8,
 X.o 24 (.len (X.s 23)),
 X.m 25 0,
 X.o 26 (.len (X.s 25)),
 X.o 27 (.bin .lss (X.s 24) (X.s 26))]
def C.q67_r7 : List IOper := C.q67_r7_b
def C.q67_r7_w := pO C.q67_r7.eq_1
def C.q67_l25 : ICode := .keep [0, 5, 6, 7, 8] (.seq (.seq (.region C.q67_r7) C.q67_c24) C.q67_c23)
def C.q67_l25_w := pC C.q67_l25.eq_1
def C.q67_b26 : ICode := .loop C.q67_l25
def C.q67_b26_w := pC C.q67_b26.eq_1
def C.q67_c27 : ICode := .keep [0, 5, 6, 7, 8] (.seq (.block 0 C.q67_b26) C.q67_c1)
def C.q67_c27_w := pC C.q67_c27.eq_1
def C.q67_r6_b : List IOper := [
 X.o 8 (.move (.cst (.nils)))]
def C.q67_r6 : List IOper := C.q67_r6_b
def C.q67_r6_w := pO C.q67_r6.eq_1
def C.q67_c28 : ICode := .keep [0, 5, 6, 7] (.seq (.region C.q67_r6) C.q67_c27)
def C.q67_c28_w := pC C.q67_c28.eq_1
def C.q67_r5_b : List IOper := [
 X.o 22 (.makeMap none),
 X.m 7 22]
def C.q67_r5 : List IOper := C.q67_r5_b
def C.q67_r5_w := pO C.q67_r5.eq_1
def C.q67_c29 : ICode := .keep [0, 5, 6] (.seq (.region C.q67_r5) C.q67_c28)
def C.q67_c29_w := pC C.q67_c29.eq_1
def C.q67_r4_b : List IOper := [
 X.m 18 0,
 X.o 19 (.call F.q68 [X.s 18]),
 X.m 17 19,
 X.o 20 (.extract (X.s 17) 0),
 X.o 21 (.extract (X.s 17) 1),
 X.m 5 20,
 X.m 6 21]
def C.q67_r4 : List IOper := C.q67_r4_b
def C.q67_r4_w := pO C.q67_r4.eq_1
def C.q67_c30 : ICode := .keep [0] (.seq (.region C.q67_r4) C.q67_c29)
def C.q67_c30_w := pC C.q67_c30.eq_1
def C.q67_r3_b : List IOper := [
 X.m 16 4,
 X.o 2 (.move (.cst (.nils))),
 X.m 3 16]
def C.q67_r3 : List IOper := C.q67_r3_b
def C.q67_r3_w := pO C.q67_r3.eq_1
def C.q67_c31 : ICode := .seq (.region C.q67_r3) .ret
def C.q67_c31_w := pC C.q67_c31.eq_1
def C.q67_c32 : ICode := .keep [0, 4, 15] (.cond (X.s 15) C.q67_c31 .skip)
def C.q67_c32_w := pC C.q67_c32.eq_1
def C.q67_r2_b : List IOper := [
 X.m 14 4,
 X.o 15 (.bin .neq (X.s 14) (X.i 0))]
def C.q67_r2 : List IOper := C.q67_r2_b
def C.q67_r2_w := pO C.q67_r2.eq_1
def C.q67_c33 : ICode := .keep [0, 4] (.seq (.region C.q67_r2) C.q67_c32)
def C.q67_c33_w := pC C.q67_c33.eq_1
def C.q67_r1_b : List IOper := [
 X.m 12 0,
 X.o 13 (.call F.q71 [X.s 12]),
 X.m 4 13]
def C.q67_r1 : List IOper := C.q67_r1_b
def C.q67_r1_w := pO C.q67_r1.eq_1
def C.q67_c34 : ICode := .keep [0] (.seq (.seq (.region C.q67_r1) C.q67_c33) C.q67_c30)
def C.q67_c34_w := pC C.q67_c34.eq_1
def C.q67_r0_b : List IOper := [
 X.o 2 (.move (.cst (.nils))),
 X.o 3 (.move (X.i 0))]
def C.q67_r0 : List IOper := C.q67_r0_b
def C.q67_r0_w := pO C.q67_r0.eq_1
def C.q67 : IFunc := ⟨1, [.slot 2, .slot 3], .seq (.region C.q67_r0) C.q67_c34⟩
def C.q67_W := aI (aI (aI (aI (aI @C.q67_r20_w (aI @C.q67_c1_w @C.q67_r19_w)) (aI @C.q67_c2_w (aI @C.q67_r18_w @C.q67_c3_w))) (aI (aI @C.q67_r17_w (aI @C.q67_b4_w @C.q67_c5_w)) (aI (aI @C.q67_c6_w @C.q67_r16_w) (aI @C.q67_b8_w @C.q67_c9_w)))) (aI (aI (aI @C.q67_r15_w (aI @C.q67_c10_w @C.q67_r14_w)) (aI @C.q67_c11_w (aI @C.q67_r13_w @C.q67_c12_w))) (aI (aI @C.q67_r12_w (aI @C.q67_c13_w @C.q67_c14_w)) (aI (aI @C.q67_r11_w @C.q67_c15_w) (aI @C.q67_r10_w @C.q67_b16_w))))) (aI (aI (aI (aI @C.q67_c17_w (aI @C.q67_c18_w @C.q67_r9_w)) (aI @C.q67_b20_w (aI @C.q67_c21_w @C.q67_r8_w))) (aI (aI @C.q67_b22_w (aI @C.q67_c23_w @C.q67_c24_w)) (aI (aI @C.q67_r7_w @C.q67_b26_w) (aI @C.q67_c27_w @C.q67_r6_w)))) (aI (aI (aI @C.q67_c28_w (aI @C.q67_r5_w @C.q67_c29_w)) (aI @C.q67_r4_w (aI @C.q67_c30_w @C.q67_r3_w))) (aI (aI @C.q67_c31_w (aI @C.q67_c32_w @C.q67_r2_w)) (aI (aI @C.q67_c33_w @C.q67_r1_w) (aI @C.q67_c34_w @C.q67_r0_w)))))
def C.q67_B := aI (aI (aI (aI @C.q67_r20_b.eq_1 @C.q67_r19_b.eq_1) (aI @C.q67_r18_b.eq_1 (aI @C.q67_r17_b.eq_1 @C.q67_r16_b.eq_1))) (aI (aI @C.q67_r15_b.eq_1 @C.q67_r14_b.eq_1) (aI @C.q67_r13_b.eq_1 (aI @C.q67_r12_b.eq_1 @C.q67_r11_b.eq_1)))) (aI (aI (aI @C.q67_r10_b.eq_1 @C.q67_r9_b.eq_1) (aI @C.q67_r8_b.eq_1 (aI @C.q67_r7_b.eq_1 @C.q67_r6_b.eq_1))) (aI (aI @C.q67_r5_b.eq_1 (aI @C.q67_r4_b.eq_1 @C.q67_r3_b.eq_1)) (aI @C.q67_r2_b.eq_1 (aI @C.q67_r1_b.eq_1 @C.q67_r0_b.eq_1))))

def C.q71_r13_b : List IOper := [
 X.o 2 (.move (X.i 0))]
def C.q71_r13 : List IOper := C.q71_r13_b
def C.q71_r13_w := pO C.q71_r13.eq_1
def C.q71_c1 : ICode := .keep [] (.seq (.region C.q71_r13) .ret)
def C.q71_c1_w := pC C.q71_c1.eq_1
def C.q71_r12_b : List IOper := [
 X.o 31 (.bin .add (X.s 12) (X.i 1)),
 X.m 12 31]
def C.q71_r12 : List IOper := C.q71_r12_b
def C.q71_r12_w := pO C.q71_r12.eq_1
def C.q71_c2 : ICode := .keep [0, 10, 11, 12] (.region C.q71_r12)
def C.q71_c2_w := pC C.q71_c2.eq_1
def C.q71_r11_b : List IOper := [
 X.o 30 (.bin .add (X.s 18) (X.i 1)),
 X.m 18 30]
def C.q71_r11 : List IOper := C.q71_r11_b
def C.q71_r11_w := pO C.q71_r11.eq_1
def C.q71_c3 : ICode := .keep [0, 10, 11, 12, 16, 17, 18] (.region C.q71_r11)
def C.q71_c3_w := pC C.q71_c3.eq_1
def C.q71_r10_b : List IOper := [
 X.o 2 (.move (X.i 4))]
def C.q71_r10 : List IOper := C.q71_r10_b
def C.q71_r10_w := pO C.q71_r10.eq_1
def C.q71_c4 : ICode := .seq (.region C.q71_r10) .ret
def C.q71_c4_w := pC C.q71_c4.eq_1
def C.q71_c5 : ICode := .keep [0, 10, 11, 12, 16, 17, 18, 29] (.cond (X.s 29) C.q71_c4 .skip)
def C.q71_c5_w := pC C.q71_c5.eq_1
def C.q71_r9_b : List IOper := [
 X.m 22 6,
 X.o 23 (.bin .lss (X.s 22) (X.i 0)),
 X.m 24 23,
 X.f 24 25 (.move (X.s 6)),
 X.f 24 26 (.move (X.s 0)),
 X.f 24 27 (.len (X.s 26)),
 X.f 24 28 (.bin .geq (X.s 25) (X.s 27)),
 X.o 29 (.pick (X.s 24) (.cst (.bool true)) (X.s 28))]
def C.q71_r9 : List IOper := C.q71_r9_b
def C.q71_r9_w := pO C.q71_r9.eq_1
def C.q71_c6 : ICode := .keep [0, 6, 10, 11, 12, 16, 17, 18] (.seq (.region C.q71_r9) C.q71_c5)
def C.q71_c6_w := pC C.q71_c6.eq_1
def C.q71_r8_b : List IOper := [
 X.o 20 (.idxAddr 1 (X.s 16) (X.s 18)),
 X.o 21 (.load1 (X.s 20)),
 X.m 6 21]
def C.q71_r8 : List IOper := C.q71_r8_b
def C.q71_r8_w := pO C.q71_r8.eq_1
def C.q71_b7 : ICode := .seq (.region C.q71_r8) C.q71_c6
def C.q71_b7_w := pC C.q71_b7.eq_1
def C.q71_c8 : ICode := .keep [0, 10, 11, 12, 16, 17, 18] (.seq (.block 3 C.q71_b7) C.q71_c3)
def C.q71_c8_w := pC C.q71_c8.eq_1
def C.q71_c9 : ICode := .keep [0, 10, 11, 12, 16, 17, 18, 19] (.seq (.cond (X.s 19) .skip (.exit 2)) C.q71_c8)
def C.q71_c9_w := pC C.q71_c9.eq_1
def C.q71_r7_b : List IOper := [
 X.o 19 (.bin .lss (X.s 18) (X.s 17))]
def C.q71_r7 : List IOper := C.q71_r7_b
def C.q71_r7_w := pO C.q71_r7.eq_1
def C.q71_l10 : ICode := .keep [0, 10, 11, 12, 16, 17, 18] (.seq (.region C.q71_r7) C.q71_c9)
def C.q71_l10_w := pC C.q71_l10.eq_1
def C.q71_b11 : ICode := .loop C.q71_l10
def C.q71_b11_w := pC C.q71_b11.eq_1
def C.q71_c12 : ICode := .keep [0, 10, 11, 12, 16, 17, 18] (.block 2 C.q71_b11)
def C.q71_c12_w := pC C.q71_c12.eq_1
def C.q71_r6_b : List IOper := [
 X.m 16 4,
 X.o 17 (.len (X.s 16)),
 X.o 18 (.move (X.i 0))]
def C.q71_r6 : List IOper := C.q71_r6_b
def C.q71_r6_w := pO C.q71_r6.eq_1
def C.q71_c13 : ICode := .keep [0, 4, 10, 11, 12] (.seq (.region C.q71_r6) C.q71_c12)
def C.q71_c13_w := pC C.q71_c13.eq_1
def C.q71_r5_b : List IOper := [
 X.o 14 (.idxAddr 1 (X.s 10) (X.s 12)),
 X.o 15 (.load1 (X.s 14)),
 X.m 4 15]
def C.q71_r5 : List IOper := C.q71_r5_b
def C.q71_r5_w := pO C.q71_r5.eq_1
def C.q71_b14 : ICode := .seq (.region C.q71_r5) C.q71_c13
def C.q71_b14_w := pC C.q71_b14.eq_1
def C.q71_c15 : ICode := .keep [0, 10, 11, 12] (.seq (.block 1 C.q71_b14) C.q71_c2)
def C.q71_c15_w := pC C.q71_c15.eq_1
def C.q71_c16 : ICode := .keep [0, 10, 11, 12, 13] (.seq (.cond (X.s 13) .skip (.exit 0)) C.q71_c15)
def C.q71_c16_w := pC C.q71_c16.eq_1
def C.q71_r4_b : List IOper := [
 X.o 13 (.bin .lss (X.s 12) (X.s 11))]
def C.q71_r4 : List IOper := C.q71_r4_b
def C.q71_r4_w := pO C.q71_r4.eq_1
def C.q71_l17 : ICode := .keep [0, 10, 11, 12] (.seq (.region C.q71_r4) C.q71_c16)
def C.q71_l17_w := pC C.q71_l17.eq_1
def C.q71_b18 : ICode := .loop C.q71_l17
def C.q71_b18_w := pC C.q71_b18.eq_1
def C.q71_c19 : ICode := .keep [0, 10, 11, 12] (.block 0 C.q71_b18)
def C.q71_c19_w := pC C.q71_c19.eq_1
def C.q71_r3_b : List IOper := [
 X.m 10 0,
 X.o 11 (.len (X.s 10)),
 X.o 12 (.move (X.i 0))]
def C.q71_r3 : List IOper := C.q71_r3_b
def C.q71_r3_w := pO C.q71_r3.eq_1
def C.q71_c20 : ICode := .keep [0] (.seq (.seq (.region C.q71_r3) C.q71_c19) C.q71_c1)
def C.q71_c20_w := pC C.q71_c20.eq_1
def C.q71_r2_b : List IOper := [
 X.o 2 (.move (X.i 1))]
def C.q71_r2 : List IOper := C.q71_r2_b
def C.q71_r2_w := pO C.q71_r2.eq_1
def C.q71_c21 : ICode := .seq (.region C.q71_r2) .ret
def C.q71_c21_w := pC C.q71_c21.eq_1
def C.q71_c22 : ICode := .keep [0, 9] (.cond (X.s 9) C.q71_c21 .skip)
def C.q71_c22_w := pC C.q71_c22.eq_1
def C.q71_r1_b : List IOper := [
 X.m 7 0,
 X.o 8 (.len (X.s 7)),
 X.o 9 (.bin .gtr (X.s 8) (X.i 100))]
def C.q71_r1 : List IOper := C.q71_r1_b
def C.q71_r1_w := pO C.q71_r1.eq_1
def C.q71_c23 : ICode := .keep [0] (.seq (.seq (.region C.q71_r1) C.q71_c22) C.q71_c20)
def C.q71_c23_w := pC C.q71_c23.eq_1
def C.q71_r0_b : List IOper := [
 X.o 2 (.move (X.i 0))]
def C.q71_r0 : List IOper := C.q71_r0_b
def C.q71_r0_w := pO C.q71_r0.eq_1
def C.q71 : IFunc := ⟨1, [.slot 2], .seq (.region C.q71_r0) C.q71_c23⟩
def C.q71_W := aI (aI (aI (aI (aI @C.q71_r13_w @C.q71_c1_w) (aI @C.q71_r12_w @C.q71_c2_w)) (aI (aI @C.q71_r11_w @C.q71_c3_w) (aI @C.q71_r10_w @C.q71_c4_w))) (aI (aI (aI @C.q71_c5_w @C.q71_r9_w) (aI @C.q71_c6_w @C.q71_r8_w)) (aI (aI @C.q71_b7_w @C.q71_c8_w) (aI @C.q71_c9_w (aI @C.q71_r7_w @C.q71_b11_w))))) (aI (aI (aI (aI @C.q71_c12_w @C.q71_r6_w) (aI @C.q71_c13_w @C.q71_r5_w)) (aI (aI @C.q71_b14_w @C.q71_c15_w) (aI @C.q71_c16_w (aI @C.q71_r4_w @C.q71_b18_w)))) (aI (aI (aI @C.q71_c19_w @C.q71_r3_w) (aI @C.q71_c20_w @C.q71_r2_w)) (aI (aI @C.q71_c21_w @C.q71_c22_w) (aI @C.q71_r1_w (aI @C.q71_c23_w @C.q71_r0_w)))))
def C.q71_B := aI (aI (aI @C.q71_r13_b.eq_1 (aI @C.q71_r12_b.eq_1 @C.q71_r11_b.eq_1)) (aI (aI @C.q71_r10_b.eq_1 @C.q71_r9_b.eq_1) (aI @C.q71_r8_b.eq_1 @C.q71_r7_b.eq_1))) (aI (aI @C.q71_r6_b.eq_1 (aI @C.q71_r5_b.eq_1 @C.q71_r4_b.eq_1)) (aI (aI @C.q71_r3_b.eq_1 @C.q71_r2_b.eq_1) (aI @C.q71_r1_b.eq_1 @C.q71_r0_b.eq_1)))

def C.q68_r16_b : List IOper := [
 X.m 53 2,
 X.m 54 3,
 X.m 2 53,
 X.m 3 54]
def C.q68_r16 : List IOper := C.q68_r16_b
def C.q68_r16_w := pO C.q68_r16.eq_1
def C.q68_c1 : ICode := .keep [2, 3] (.seq (.region C.q68_r16) .ret)
def C.q68_c1_w := pC C.q68_c1.eq_1
def C.q68_r15_b : List IOper := [
 X.o 52 (.bin .add (X.s 17) (X.i 1)),
 X.m 17 52]
def C.q68_r15 : List IOper := C.q68_r15_b
def C.q68_r15_w := pO C.q68_r15.eq_1
def C.q68_c2 : ICode := .keep [2, 3, 15, 16, 17] (.region C.q68_r15)
def C.q68_c2_w := pC C.q68_c2.eq_1
def C.q68_r14_b : List IOper := [
 X.o 51 (.bin .add (X.s 25) (X.i 1)),
 X.m 25 51]
def C.q68_r14 : List IOper := C.q68_r14_b
def C.q68_r14_w := pO C.q68_r14.eq_1
def C.q68_c3 : ICode := .keep [2, 3, 4, 6, 15, 16, 17, 23, 24, 25] (.region C.q68_r14)
def C.q68_c3_w := pC C.q68_c3.eq_1
def C.q68_r13_b : List IOper := [
 X.m 41 3,
 X.m 42 8,
 X.m 43 3,
 X.m 44 8,
 X.o 45 (.idxAddr 1 (X.s 43) (X.s 44)),
 X.o 46 (.load1 (X.s 45)),
 X.m 47 4,
 X.o 48 (.buildSlice 1 1 [.int .i64 0] [(0, 1, X.s 47)]),
 X.o 49 (.append 1 8 (X.s 46) (X.s 48)),
 X.o 50 (.idxAddr 1 (X.s 41) (X.s 42)),
 X.n (.store1 (X.s 50) (X.s 49))]
def C.q68_r13 : List IOper := C.q68_r13_b
def C.q68_r13_w := pO C.q68_r13.eq_1
def C.q68_c4 : ICode := .keep [2, 3, 4, 6, 8, 15, 16, 17, 23, 24, 25] (.region C.q68_r13)
def C.q68_c4_w := pC C.q68_c4.eq_1
def C.q68_r12_b : List IOper := [
 X.m 35 2,
 X.m 36 4,
 X.o 37 (.idxAddr 1 (X.s 35) (X.s 36)),
 X.o 38 (.load1 (X.s 37)),
 X.o 39 (.bin .add (X.s 38) (X.i 1)),
 X.o 40 (.idxAddr 1 (X.s 35) (X.s 36)),
 X.n (.store1 (X.s 40) (X.s 39))]
def C.q68_r12 : List IOper := C.q68_r12_b
def C.q68_r12_w := pO C.q68_r12.eq_1
def C.q68_c5 : ICode := .keep [2, 3, 4, 6, 8, 15, 16, 17, 23, 24, 25] (.seq (.region C.q68_r12) C.q68_c4)
def C.q68_c5_w := pC C.q68_c5.eq_1
def C.q68_r11_b : List IOper := [
 X.m 32 6,
 X.m 33 8,
 X.o 34 (.call F.q69 [X.s 32, X.s 33])]
def C.q68_r11 : List IOper := C.q68_r11_b
def C.q68_r11_w := pO C.q68_r11.eq_1
def C.q68_c6 : ICode := .keep [2, 3, 4, 6, 8, 15, 16, 17, 23, 24, 25] (.seq (.region C.q68_r11) C.q68_c5)
def C.q68_c6_w := pC C.q68_c6.eq_1
def C.q68_c7 : ICode := .keep [2, 3, 4, 6, 8, 15, 16, 17, 23, 24, 25, 31] (.cond (X.s 31) (.exit 3) .skip)
def C.q68_c7_w := pC C.q68_c7.eq_1
def C.q68_r10_b : List IOper := [
 X.m 29 6,
 X.m 30 8,
 X.o 31 (.call F.q70 [X.s 29, X.s 30])]
def C.q68_r10 : List IOper := C.q68_r10_b
def C.q68_r10_w := pO C.q68_r10.eq_1
def C.q68_c8 : ICode := .keep [2, 3, 4, 6, 8, 15, 16, 17, 23, 24, 25] (.seq (.seq (.region C.q68_r10) C.q68_c7) C.q68_c6)
def C.q68_c8_w := pC C.q68_c8.eq_1
def C.q68_r9_b : List IOper := [
 X.o 27 (.idxAddr 1 (X.s 23) (X.s 25)),
 X.o 28 (.load1 (X.s 27)),
 X.m 8 28]
def C.q68_r9 : List IOper := C.q68_r9_b
def C.q68_r9_w := pO C.q68_r9.eq_1
def C.q68_b9 : ICode := .seq (.region C.q68_r9) C.q68_c8
def C.q68_b9_w := pC C.q68_b9.eq_1
def C.q68_c10 : ICode := .keep [2, 3, 4, 6, 15, 16, 17, 23, 24, 25] (.seq (.block 3 C.q68_b9) C.q68_c3)
def C.q68_c10_w := pC C.q68_c10.eq_1
def C.q68_c11 : ICode := .keep [2, 3, 4, 6, 15, 16, 17, 23, 24, 25, 26] (.seq (.cond (X.s 26) .skip (.exit 2)) C.q68_c10)
def C.q68_c11_w := pC C.q68_c11.eq_1
def C.q68_r8_b : List IOper := [
 X.o 26 (.bin .lss (X.s 25) (X.s 24))]
def C.q68_r8 : List IOper := C.q68_r8_b
def C.q68_r8_w := pO C.q68_r8.eq_1
def C.q68_l12 : ICode := .keep [2, 3, 4, 6, 15, 16, 17, 23, 24, 25] (.seq (.region C.q68_r8) C.q68_c11)
def C.q68_l12_w := pC C.q68_l12.eq_1
def C.q68_b13 : ICode := .loop C.q68_l12
def C.q68_b13_w := pC C.q68_b13.eq_1
def C.q68_c14 : ICode := .keep [2, 3, 4, 6, 15, 16, 17, 23, 24, 25] (.block 2 C.q68_b13)
def C.q68_c14_w := pC C.q68_c14.eq_1
def C.q68_r7_b : List IOper := [
 X.m 23 5,
 X.o 24 (.len (X.s 23)),
 X.o 25 (.move (X.i 0))]
def C.q68_r7 : List IOper := C.q68_r7_b
def C.q68_r7_w := pO C.q68_r7.eq_1
def C.q68_c15 : ICode := .keep [2, 3, 4, 5, 6, 15, 16, 17] (.seq (.region C.q68_r7) C.q68_c14)
def C.q68_c15_w := pC C.q68_c15.eq_1
def C.q68_r6_b : List IOper := [
 X.o 22 (.makeMap none),
 X.m 6 22]
def C.q68_r6 : List IOper := C.q68_r6_b
def C.q68_r6_w := pO C.q68_r6.eq_1
def C.q68_c16 : ICode := .keep [2, 3, 4, 5, 15, 16, 17] (.seq (.region C.q68_r6) C.q68_c15)
def C.q68_c16_w := pC C.q68_c16.eq_1
def C.q68_r5_b : List IOper := [
 X.m 19 17,
 X.o 20 (.idxAddr 1 (X.s 15) (X.s 17)),
 X.o 21 (.load1 (X.s 20)),
 X.m 4 19,
 X.m 5 21]
def C.q68_r5 : List IOper := C.q68_r5_b
def C.q68_r5_w := pO C.q68_r5.eq_1
def C.q68_b17 : ICode := .seq (.region C.q68_r5) C.q68_c16
def C.q68_b17_w := pC C.q68_b17.eq_1
def C.q68_c18 : ICode := .keep [2, 3, 15, 16, 17] (.seq (.block 1 C.q68_b17) C.q68_c2)
def C.q68_c18_w := pC C.q68_c18.eq_1
def C.q68_c19 : ICode := .keep [2, 3, 15, 16, 17, 18] (.seq (.cond (X.s 18) .skip (.exit 0)) C.q68_c18)
def C.q68_c19_w := pC C.q68_c19.eq_1
def C.q68_r4_b : List IOper := [
 X.o 18 (.bin .lss (X.s 17) (X.s 16))]
def C.q68_r4 : List IOper := C.q68_r4_b
def C.q68_r4_w := pO C.q68_r4.eq_1
def C.q68_l20 : ICode := .keep [2, 3, 15, 16, 17] (.seq (.region C.q68_r4) C.q68_c19)
def C.q68_l20_w := pC C.q68_l20.eq_1
def C.q68_b21 : ICode := .loop C.q68_l20
def C.q68_b21_w := pC C.q68_b21.eq_1
def C.q68_c22 : ICode := .keep [2, 3, 15, 16, 17] (.block 0 C.q68_b21)
def C.q68_c22_w := pC C.q68_c22.eq_1
def C.q68_r3_b : List IOper := [
 X.m 15 0,
 X.o 16 (.len (X.s 15)),
 X.o 17 (.move (X.i 0))]
def C.q68_r3 : List IOper := C.q68_r3_b
def C.q68_r3_w := pO C.q68_r3.eq_1
def C.q68_c23 : ICode := .keep [0, 2, 3] (.seq (.seq (.region C.q68_r3) C.q68_c22) C.q68_c1)
def C.q68_c23_w := pC C.q68_c23.eq_1
def C.q68_r2_b : List IOper := [
 X.m 12 0,
 X.o 13 (.len (X.s 12)),
 X.o 14 (.makeSlice 1 24 [.nils] (X.s 13) (X.s 13)),
 X.m 3 14]
def C.q68_r2 : List IOper := C.q68_r2_b
def C.q68_r2_w := pO C.q68_r2.eq_1
def C.q68_c24 : ICode := .keep [0, 2] (.seq (.region C.q68_r2) C.q68_c23)
def C.q68_c24_w := pC C.q68_c24.eq_1
def C.q68_r1_b : List IOper := [
 X.m 9 0,
 X.o 10 (.len (X.s 9)),
 X.o 11 (.makeSlice 1 8 [.int .i64 0] (X.s 10) (X.s 10)),
 X.m 2 11]
def C.q68_r1 : List IOper := C.q68_r1_b
def C.q68_r1_w := pO C.q68_r1.eq_1
def C.q68_c25 : ICode := .keep [0] (.seq (.region C.q68_r1) C.q68_c24)
def C.q68_c25_w := pC C.q68_c25.eq_1
def C.q68_r0_b : List IOper := [
 X.o 2 (.move (.cst (.nils))),
 X.o 3 (.move (.cst (.nils)))]
def C.q68_r0 : List IOper := C.q68_r0_b
def C.q68_r0_w := pO C.q68_r0.eq_1
def C.q68 : IFunc := ⟨1, [.slot 2, .slot 3], .seq (.region C.q68_r0) C.q68_c25⟩
def C.q68_W := aI (aI (aI (aI (aI @C.q68_r16_w @C.q68_c1_w) (aI @C.q68_r15_w (aI @C.q68_c2_w @C.q68_r14_w))) (aI (aI @C.q68_c3_w @C.q68_r13_w) (aI @C.q68_c4_w (aI @C.q68_r12_w @C.q68_c5_w)))) (aI (aI (aI @C.q68_r11_w @C.q68_c6_w) (aI @C.q68_c7_w (aI @C.q68_r10_w @C.q68_c8_w))) (aI (aI @C.q68_r9_w @C.q68_b9_w) (aI @C.q68_c10_w (aI @C.q68_c11_w @C.q68_r8_w))))) (aI (aI (aI (aI @C.q68_b13_w @C.q68_c14_w) (aI @C.q68_r7_w (aI @C.q68_c15_w @C.q68_r6_w))) (aI (aI @C.q68_c16_w @C.q68_r5_w) (aI @C.q68_b17_w (aI @C.q68_c18_w @C.q68_c19_w)))) (aI (aI (aI @C.q68_r4_w @C.q68_b21_w) (aI @C.q68_c22_w (aI @C.q68_r3_w @C.q68_c23_w))) (aI (aI @C.q68_r2_w @C.q68_c24_w) (aI @C.q68_r1_w (aI @C.q68_c25_w @C.q68_r0_w)))))
def C.q68_B := aI (aI (aI (aI @C.q68_r16_b.eq_1 @C.q68_r15_b.eq_1) (aI @C.q68_r14_b.eq_1 @C.q68_r13_b.eq_1)) (aI (aI @C.q68_r12_b.eq_1 @C.q68_r11_b.eq_1) (aI @C.q68_r10_b.eq_1 @C.q68_r9_b.eq_1))) (aI (aI (aI @C.q68_r8_b.eq_1 @C.q68_r7_b.eq_1) (aI @C.q68_r6_b.eq_1 @C.q68_r5_b.eq_1)) (aI (aI @C.q68_r4_b.eq_1 @C.q68_r3_b.eq_1) (aI @C.q68_r2_b.eq_1 (aI @C.q68_r1_b.eq_1 @C.q68_r0_b.eq_1))))

end Go.Proofs.YtdmfgodajoojpaaGreat.Cn
