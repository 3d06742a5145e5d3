/- The intermediate code of the functions, printed by a program out of the loaded program; that it is theirs is checked in the text of links. -/
import Derived.Test.YtgfpnfnjnakoaaaCnIr1
set_option linter.defProp false
namespace Go.Proofs.Ytgfpnfnjnakoaaa.Cn
open Go
variable {P : Program} {Q : IExit → AFr → ASt → Prop} {fr : AFr} {st : ASt}


def C.q85_r10_b : List IOper := [
 X.m 34 5,
 X.m 2 34,
 X.o 3 (.move (X.i 0))]
def C.q85_r10 : List IOper := C.q85_r10_b
def C.q85_r10_w := @aopsE _ _ C.q85_r10.eq_1
def C.q85_c1 : ICode := .keep [5] (.seq (.region C.q85_r10) .ret)
def C.q85_c1_w := @awpE _ _ C.q85_c1.eq_1
def C.q85_r9_b : List IOper := [
 X.o 33 (.bin .add (X.s 18) (X.i 1)),
 X.m 18 33]
def C.q85_r9 : List IOper := C.q85_r9_b
def C.q85_r9_w := @aopsE _ _ C.q85_r9.eq_1
def C.q85_c2 : ICode := .keep [5, 16, 17, 18] (.region C.q85_r9)
def C.q85_c2_w := @awpE _ _ C.q85_c2.eq_1
def C.q85_r8_b : List IOper := [
 X.m 22 5,
 X.m 23 5,
 X.o 24 (.nilchk (X.s 23)),
 X.o 25 (.fldAddr 0 (X.s 24)),
 X.o 26 (.load1 (X.s 25)),
 X.o 27 (.loadN 3 (X.s 7)),
 X.o 28 (.build [.int .i64 0, .int .i64 0, .bool false, .int .u8 0, .int .i64 0, .bool false, .bool false] [(0, 3, X.s 27), (3, 1, .cst (.int .u8 48))]),
 X.o 29 (.buildSlice 7 1 [.int .i64 0, .int .i64 0, .bool false, .int .u8 0, .int .i64 0, .bool false, .bool false] [(0, 7, X.s 28)]),
 X.o 30 (.append 7 48 (X.s 26) (X.s 29)),
 X.o 31 (.nilchk (X.s 22)),
 X.o 32 (.fldAddr 0 (X.s 31)),
 X.n (.store1 (X.s 32) (X.s 30))]
def C.q85_r8 : List IOper := C.q85_r8_b
def C.q85_r8_w := @aopsE _ _ C.q85_r8.eq_1
def C.q85_c3 : ICode := .keep [5, 7, 16, 17, 18] (.region C.q85_r8)
def C.q85_c3_w := @awpE _ _ C.q85_c3.eq_1
def C.q85_r7_b : List IOper := [
 X.o 20 (.idxAddr 3 (X.s 16) (X.s 18)),
 X.o 21 (.loadN 3 (X.s 20)),
 X.o 7 (.alloc [.int .i64 0, .int .i64 0, .bool false]),
 X.n (.storeN 3 (X.s 7) (X.s 21))]
def C.q85_r7 : List IOper := C.q85_r7_b
def C.q85_r7_w := @aopsE _ _ C.q85_r7.eq_1
def C.q85_b4 : ICode := .seq (.region C.q85_r7) C.q85_c3
def C.q85_b4_w := @awpE _ _ C.q85_b4.eq_1
def C.q85_c5 : ICode := .keep [5, 16, 17, 18] (.seq (.block 1 C.q85_b4) C.q85_c2)
def C.q85_c5_w := @awpE _ _ C.q85_c5.eq_1
def C.q85_c6 : ICode := .keep [5, 16, 17, 18, 19] (.seq (.cond (X.s 19) .skip (.exit 0)) C.q85_c5)
def C.q85_c6_w := @awpE _ _ C.q85_c6.eq_1
def C.q85_r6_b : List IOper := [
 X.o 19 (.bin .lss (X.s 18) (X.s 17))]
def C.q85_r6 : List IOper := C.q85_r6_b
def C.q85_r6_w := @aopsE _ _ C.q85_r6.eq_1
def C.q85_l7 : ICode := .keep [5, 16, 17, 18] (.seq (.region C.q85_r6) C.q85_c6)
def C.q85_l7_w := @awpE _ _ C.q85_l7.eq_1
def C.q85_b8 : ICode := .loop C.q85_l7
def C.q85_b8_w := @awpE _ _ C.q85_b8.eq_1
def C.q85_c9 : ICode := .keep [5, 16, 17, 18] (.block 0 C.q85_b8)
def C.q85_c9_w := @awpE _ _ C.q85_c9.eq_1
def C.q85_r5_b : List IOper := [
 X.o 15 (.fldAddr 1 (X.s 1)),
 X.o 16 (.load1 (X.s 15)),
 X.o 17 (.len (X.s 16)),
 X.o 18 (.move (X.i 0))]
def C.q85_r5 : List IOper := C.q85_r5_b
def C.q85_r5_w := @aopsE _ _ C.q85_r5.eq_1
def C.q85_c10 : ICode := .keep [1, 5] (.seq (.seq (.region C.q85_r5) C.q85_c9) C.q85_c1)
def C.q85_c10_w := @awpE _ _ C.q85_c10.eq_1
def C.q85_r4_b : List IOper := [
 X.o 13 (.build [.nils] []),
 X.o 14 (.boxN (X.s 13)),
 X.m 5 14]
def C.q85_r4 : List IOper := C.q85_r4_b
def C.q85_r4_w := @aopsE _ _ C.q85_r4.eq_1
def C.q85_c11 : ICode := .keep [1] (.seq (.region C.q85_r4) C.q85_c10)
def C.q85_c11_w := @awpE _ _ C.q85_c11.eq_1
def C.q85_r3_b : List IOper := [
 X.m 12 4,
 X.o 2 (.move (.cst (.nilp))),
 X.m 3 12]
def C.q85_r3 : List IOper := C.q85_r3_b
def C.q85_r3_w := @aopsE _ _ C.q85_r3.eq_1
def C.q85_c12 : ICode := .seq (.region C.q85_r3) .ret
def C.q85_c12_w := @awpE _ _ C.q85_c12.eq_1
def C.q85_c13 : ICode := .keep [1, 4, 11] (.cond (X.s 11) C.q85_c12 .skip)
def C.q85_c13_w := @awpE _ _ C.q85_c13.eq_1
def C.q85_r2_b : List IOper := [
 X.m 10 4,
 X.o 11 (.bin .neq (X.s 10) (X.i 0))]
def C.q85_r2 : List IOper := C.q85_r2_b
def C.q85_r2_w := @aopsE _ _ C.q85_r2.eq_1
def C.q85_c14 : ICode := .keep [1, 4] (.seq (.region C.q85_r2) C.q85_c13)
def C.q85_c14_w := @awpE _ _ C.q85_c14.eq_1
def C.q85_r1_b : List IOper := [
 X.o 8 (.loadN 4 (X.s 1)),
 X.o 9 (.call F.q28 [X.s 8]),
 X.m 4 9]
def C.q85_r1 : List IOper := C.q85_r1_b
def C.q85_r1_w := @aopsE _ _ C.q85_r1.eq_1
def C.q85_c15 : ICode := .keep [1] (.seq (.seq (.region C.q85_r1) C.q85_c14) C.q85_c11)
def C.q85_c15_w := @awpE _ _ C.q85_c15.eq_1
def C.q85_r0_b : List IOper := [
 X.o 1 (.boxN (X.s 0)),
 X.o 2 (.move (.cst (.nilp))),
 X.o 3 (.move (X.i 0))]
def C.q85_r0 : List IOper := C.q85_r0_b
def C.q85_r0_w := @aopsE _ _ C.q85_r0.eq_1
def C.q85 : IFunc := ⟨1, [.slot 2, .slot 3], .seq (.region C.q85_r0) C.q85_c15⟩
def C.q85_W := And.intro (And.intro (And.intro (And.intro @C.q85_r10_w (And.intro @C.q85_c1_w @C.q85_r9_w)) (And.intro @C.q85_c2_w (And.intro @C.q85_r8_w @C.q85_c3_w))) (And.intro (And.intro @C.q85_r7_w (And.intro @C.q85_b4_w @C.q85_c5_w)) (And.intro @C.q85_c6_w (And.intro @C.q85_r6_w @C.q85_b8_w)))) (And.intro (And.intro (And.intro @C.q85_c9_w (And.intro @C.q85_r5_w @C.q85_c10_w)) (And.intro @C.q85_r4_w (And.intro @C.q85_c11_w @C.q85_r3_w))) (And.intro (And.intro @C.q85_c12_w (And.intro @C.q85_c13_w @C.q85_r2_w)) (And.intro (And.intro @C.q85_c14_w @C.q85_r1_w) (And.intro @C.q85_c15_w @C.q85_r0_w))))
def C.q85_B := And.intro (And.intro (And.intro @C.q85_r10_b.eq_1 @C.q85_r9_b.eq_1) (And.intro @C.q85_r8_b.eq_1 (And.intro @C.q85_r7_b.eq_1 @C.q85_r6_b.eq_1))) (And.intro (And.intro @C.q85_r5_b.eq_1 (And.intro @C.q85_r4_b.eq_1 @C.q85_r3_b.eq_1)) (And.intro @C.q85_r2_b.eq_1 (And.intro @C.q85_r1_b.eq_1 @C.q85_r0_b.eq_1)))

def C.q3_r3_b : List IOper := [
 X.m 10 0,
 X.m 11 1,
 X.o 12 (.bin .rem (X.s 10) (X.s 11)),
 X.m 4 12]
def C.q3_r3 : List IOper := C.q3_r3_b
def C.q3_r3_w := @aopsE _ _ C.q3_r3.eq_1
def C.q3_c1 : ICode := .keep [0, 1] (.seq (.region C.q3_r3) .ret)
def C.q3_c1_w := @awpE _ _ C.q3_c1.eq_1
def C.q3_r2_b : List IOper := [
 X.m 7 0,
 X.o 8 (.bin .add (X.s 7) (X.i 1)),
 X.o 9 (.un .neg (X.s 8)),
 X.m 0 9]
def C.q3_r2 : List IOper := C.q3_r2_b
def C.q3_r2_w := @aopsE _ _ C.q3_r2.eq_1
def C.q3_c2 : ICode := .keep [0, 1, 6] (.cond (X.s 6) (.region C.q3_r2) .skip)
def C.q3_c2_w := @awpE _ _ C.q3_c2.eq_1
def C.q3_r1_b : List IOper := [
 X.m 5 0,
 X.o 6 (.bin .lss (X.s 5) (X.i 0))]
def C.q3_r1 : List IOper := C.q3_r1_b
def C.q3_r1_w := @aopsE _ _ C.q3_r1.eq_1
def C.q3_c3 : ICode := .keep [0, 1] (.seq (.seq (.region C.q3_r1) C.q3_c2) C.q3_c1)
def C.q3_c3_w := @awpE _ _ C.q3_c3.eq_1
def C.q3_r0_b : List IOper := [
 X.o 4 (.move (X.i 0))]
def C.q3_r0 : List IOper := C.q3_r0_b
def C.q3_r0_w := @aopsE _ _ C.q3_r0.eq_1
def C.q3 : IFunc := ⟨2, [.slot 4], .seq (.region C.q3_r0) C.q3_c3⟩
def C.q3_W := And.intro (And.intro @C.q3_r3_w (And.intro @C.q3_c1_w @C.q3_r2_w)) (And.intro (And.intro @C.q3_c2_w @C.q3_r1_w) (And.intro @C.q3_c3_w @C.q3_r0_w))
def C.q3_B := And.intro (And.intro @C.q3_r3_b.eq_1 @C.q3_r2_b.eq_1) (And.intro @C.q3_r1_b.eq_1 @C.q3_r0_b.eq_1)

def C.q83_r8_b : List IOper := [
 X.o 4 (.move (X.i 0))]
def C.q83_r8 : List IOper := C.q83_r8_b
def C.q83_r8_w := @aopsE _ _ C.q83_r8.eq_1
def C.q83_c1 : ICode := .keep [] (.seq (.region C.q83_r8) .ret)
def C.q83_c1_w := @awpE _ _ C.q83_c1.eq_1
def C.q83_r7_b : List IOper := [
 X.m 45 5,
 X.m 46 5,
 X.m 47 5,
 X.o 48 (.nilchk (X.s 47)),
 X.o 49 (.fldAddr 0 (X.s 48)),
 X.o 50 (.fldAddr 1 (X.s 49)),
 X.o 51 (.load1 (X.s 50)),
 X.o 52 (.nilchk (X.s 45)),
 X.o 53 (.fldAddr 3 (X.s 52)),
 X.n (.store1 (X.s 53) (.cst (.int .u8 114))),
 X.o 54 (.nilchk (X.s 46)),
 X.o 55 (.fldAddr 4 (X.s 54)),
 X.n (.store1 (X.s 55) (X.s 51))]
def C.q83_r7 : List IOper := C.q83_r7_b
def C.q83_r7_w := @aopsE _ _ C.q83_r7.eq_1
def C.q83_c2 : ICode := .keep [5] (.seq (.region C.q83_r7) C.q83_c1)
def C.q83_c2_w := @awpE _ _ C.q83_c2.eq_1
def C.q83_r6_b : List IOper := [
 X.m 37 5,
 X.m 38 5,
 X.o 39 (.nilchk (X.s 38)),
 X.o 40 (.fldAddr 3 (X.s 39)),
 X.o 41 (.load1 (X.s 40)),
 X.o 42 (.bin .eql (X.s 41) (.cst (.int .u8 116))),
 X.o 43 (.nilchk (X.s 37)),
 X.o 44 (.fldAddr 5 (X.s 43)),
 X.n (.store1 (X.s 44) (X.s 42))]
def C.q83_r6 : List IOper := C.q83_r6_b
def C.q83_r6_w := @aopsE _ _ C.q83_r6.eq_1
def C.q83_c3 : ICode := .keep [5] (.seq (.region C.q83_r6) C.q83_c2)
def C.q83_c3_w := @awpE _ _ C.q83_c3.eq_1
def C.q83_r5_b : List IOper := [
 X.o 4 (.move (X.i 6))]
def C.q83_r5 : List IOper := C.q83_r5_b
def C.q83_r5_w := @aopsE _ _ C.q83_r5.eq_1
def C.q83_c4 : ICode := .seq (.region C.q83_r5) .ret
def C.q83_c4_w := @awpE _ _ C.q83_c4.eq_1
def C.q83_c5 : ICode := .keep [5, 36] (.cond (X.s 36) C.q83_c4 .skip)
def C.q83_c5_w := @awpE _ _ C.q83_c5.eq_1
def C.q83_r4_b : List IOper := [
 X.m 11 5,
 X.o 12 (.call F.q86 [X.s 11]),
 X.o 13 (.un .not (X.s 12)),
 X.m 14 13,
 X.f 14 15 (.move (X.s 5)),
 X.f 14 16 (.nilchk (X.s 15)),
 X.f 14 17 (.fldAddr 0 (X.s 16)),
 X.f 14 18 (.fldAddr 0 (X.s 17)),
 X.f 14 19 (.load1 (X.s 18)),
 X.f 14 20 (.bin .neq (X.s 19) (X.i (-1))),
 X.f 14 21 (.move (X.s 20)),
 X.t 21 22 (.move (X.s 0)),
 X.t 21 23 (.nilchk (X.s 22)),
 X.t 21 24 (.fldAddr 0 (X.s 23)),
 X.t 21 25 (.load1 (X.s 24)),
 X.t 21 26 (.move (X.s 5)),
 X.t 21 27 (.nilchk (X.s 26)),
 X.t 21 28 (.fldAddr 0 (X.s 27)),
 X.t 21 29 (.fldAddr 0 (X.s 28)),
 X.t 21 30 (.load1 (X.s 29)),
 X.t 21 31 (.idxAddr 7 (X.s 25) (X.s 30)),
 X.t 21 32 (.fldAddr 3 (X.s 31)),
 X.t 21 33 (.load1 (X.s 32)),
 X.t 21 34 (.bin .neq (X.s 33) (.cst (.int .u8 49))),
 X.f 14 35 (.pick (X.s 21) (X.s 34) (.cst (.bool false))),
 X.o 36 (.pick (X.s 14) (.cst (.bool true)) (X.s 35))]
def C.q83_r4 : List IOper := C.q83_r4_b
def C.q83_r4_w := @aopsE _ _ C.q83_r4.eq_1
def C.q83_c6 : ICode := .keep [0, 5] (.seq (.seq (.region C.q83_r4) C.q83_c5) C.q83_c3)
def C.q83_c6_w := @awpE _ _ C.q83_c6.eq_1
def C.q83_r3_b : List IOper := [
 X.o 4 (.move (X.i 4))]
def C.q83_r3 : List IOper := C.q83_r3_b
def C.q83_r3_w := @aopsE _ _ C.q83_r3.eq_1
def C.q83_c7 : ICode := .seq (.region C.q83_r3) .ret
def C.q83_c7_w := @awpE _ _ C.q83_c7.eq_1
def C.q83_c8 : ICode := .keep [0, 5, 10] (.cond (X.s 10) C.q83_c7 .skip)
def C.q83_c8_w := @awpE _ _ C.q83_c8.eq_1
def C.q83_r2_b : List IOper := [
 X.m 9 5,
 X.o 10 (.eqP 0 false (X.s 9) (.cst (.nilp)))]
def C.q83_r2 : List IOper := C.q83_r2_b
def C.q83_r2_w := @aopsE _ _ C.q83_r2.eq_1
def C.q83_c9 : ICode := .keep [0, 5] (.seq (.seq (.region C.q83_r2) C.q83_c8) C.q83_c6)
def C.q83_c9_w := @awpE _ _ C.q83_c9.eq_1
def C.q83_r1_b : List IOper := [
 X.m 6 0,
 X.m 7 1,
 X.o 8 (.call F.q84 [X.s 6, X.s 7]),
 X.m 5 8]
def C.q83_r1 : List IOper := C.q83_r1_b
def C.q83_r1_w := @aopsE _ _ C.q83_r1.eq_1
def C.q83_c10 : ICode := .keep [0, 1] (.seq (.region C.q83_r1) C.q83_c9)
def C.q83_c10_w := @awpE _ _ C.q83_c10.eq_1
def C.q83_r0_b : List IOper := [
 X.o 4 (.move (X.i 0))]
def C.q83_r0 : List IOper := C.q83_r0_b
def C.q83_r0_w := @aopsE _ _ C.q83_r0.eq_1
def C.q83 : IFunc := ⟨2, [.slot 4], .seq (.region C.q83_r0) C.q83_c10⟩
def C.q83_W := And.intro (And.intro (And.intro (And.intro @C.q83_r8_w @C.q83_c1_w) (And.intro @C.q83_r7_w @C.q83_c2_w)) (And.intro (And.intro @C.q83_r6_w @C.q83_c3_w) (And.intro @C.q83_r5_w (And.intro @C.q83_c4_w @C.q83_c5_w)))) (And.intro (And.intro (And.intro @C.q83_r4_w @C.q83_c6_w) (And.intro @C.q83_r3_w (And.intro @C.q83_c7_w @C.q83_c8_w))) (And.intro (And.intro @C.q83_r2_w @C.q83_c9_w) (And.intro @C.q83_r1_w (And.intro @C.q83_c10_w @C.q83_r0_w))))
def C.q83_B := And.intro (And.intro (And.intro @C.q83_r8_b.eq_1 @C.q83_r7_b.eq_1) (And.intro @C.q83_r6_b.eq_1 @C.q83_r5_b.eq_1)) (And.intro (And.intro @C.q83_r4_b.eq_1 @C.q83_r3_b.eq_1) (And.intro @C.q83_r2_b.eq_1 (And.intro @C.q83_r1_b.eq_1 @C.q83_r0_b.eq_1)))

def C.q79_r15_b : List IOper := [
 X.o 6 (.move (X.i 0))]
def C.q79_r15 : List IOper := C.q79_r15_b
def C.q79_r15_w := @aopsE _ _ C.q79_r15.eq_1
def C.q79_c1 : ICode := .keep [] (.seq (.region C.q79_r15) .ret)
def C.q79_c1_w := @awpE _ _ C.q79_c1.eq_1
def C.q79_r14_b : List IOper := [
 X.m 58 7,
 X.m 59 7,
 X.m 60 2,
 X.o 61 (.nilchk (X.s 58)),
 X.o 62 (.fldAddr 3 (X.s 61)),
 X.n (.store1 (X.s 62) (.cst (.int .u8 99))),
 X.o 63 (.nilchk (X.s 59)),
 X.o 64 (.fldAddr 6 (X.s 63)),
 X.n (.store1 (X.s 64) (X.s 60))]
def C.q79_r14 : List IOper := C.q79_r14_b
def C.q79_r14_w := @aopsE _ _ C.q79_r14.eq_1
def C.q79_c2 : ICode := .keep [2, 7] (.seq (.region C.q79_r14) C.q79_c1)
def C.q79_c2_w := @awpE _ _ C.q79_c2.eq_1
def C.q79_r13_b : List IOper := [
 X.o 57 (.bin .add (X.s 33) (X.i 1)),
 X.m 33 57]
def C.q79_r13 : List IOper := C.q79_r13_b
def C.q79_r13_w := @aopsE _ _ C.q79_r13.eq_1
def C.q79_c3 : ICode := .keep [0, 1, 2, 7, 32, 33] (.region C.q79_r13)
def C.q79_c3_w := @awpE _ _ C.q79_c3.eq_1
def C.q79_r12_b : List IOper := [
 X.o 6 (.move (X.i 7))]
def C.q79_r12 : List IOper := C.q79_r12_b
def C.q79_r12_w := @aopsE _ _ C.q79_r12.eq_1
def C.q79_c4 : ICode := .seq (.region C.q79_r12) .ret
def C.q79_c4_w := @awpE _ _ C.q79_c4.eq_1
def C.q79_c5 : ICode := .keep [0, 1, 2, 7, 32, 33, 56] (.cond (X.s 56) C.q79_c4 .skip)
def C.q79_c5_w := @awpE _ _ C.q79_c5.eq_1
def C.q79_r11_b : List IOper := [
 X.m 36 0,
 X.o 37 (.nilchk (X.s 36)),
 X.o 38 (.fldAddr 0 (X.s 37)),
 X.o 39 (.load1 (X.s 38)),
 X.m 40 8,
 X.o 41 (.idxAddr 7 (X.s 39) (X.s 40)),
 X.o 42 (.fldAddr 0 (X.s 41)),
 X.o 43 (.fldAddr 0 (X.s 42)),
 X.o 44 (.load1 (X.s 43)),
 X.m 45 1,
 X.o 46 (.bin .eql (X.s 44) (X.s 45)),
 X.m 47 46,
 X.t 47 48 (.move (X.s 0)),
 X.t 47 49 (.nilchk (X.s 48)),
 X.t 47 50 (.fldAddr 0 (X.s 49)),
 X.t 47 51 (.load1 (X.s 50)),
 X.t 47 52 (.move (X.s 8)),
 X.t 47 53 (.idxAddr 7 (X.s 51) (X.s 52)),
 X.t 47 54 (.call F.q86 [X.s 53]),
 X.t 47 55 (.un .not (X.s 54)),
 X.o 56 (.pick (X.s 47) (X.s 55) (.cst (.bool false)))]
def C.q79_r11 : List IOper := C.q79_r11_b
def C.q79_r11_w := @aopsE _ _ C.q79_r11.eq_1
def C.q79_c6 : ICode := .keep [0, 1, 2, 7, 8, 32, 33] (.seq (.region C.q79_r11) C.q79_c5)
def C.q79_c6_w := @awpE _ _ C.q79_c6.eq_1
def C.q79_r10_b : List IOper := [
 X.m 35 33,
 X.m 8 35]
def C.q79_r10 : List IOper := C.q79_r10_b
def C.q79_r10_w := @aopsE _ _ C.q79_r10.eq_1
def C.q79_b7 : ICode := .seq (.region C.q79_r10) C.q79_c6
def C.q79_b7_w := @awpE _ _ C.q79_b7.eq_1
def C.q79_c8 : ICode := .keep [0, 1, 2, 7, 32, 33] (.seq (.block 1 C.q79_b7) C.q79_c3)
def C.q79_c8_w := @awpE _ _ C.q79_c8.eq_1
def C.q79_c9 : ICode := .keep [0, 1, 2, 7, 32, 33, 34] (.seq (.cond (X.s 34) .skip (.exit 0)) C.q79_c8)
def C.q79_c9_w := @awpE _ _ C.q79_c9.eq_1
def C.q79_r9_b : List IOper := [
 X.o 34 (.bin .lss (X.s 33) (X.s 32))]
def C.q79_r9 : List IOper := C.q79_r9_b
def C.q79_r9_w := @aopsE _ _ C.q79_r9.eq_1
def C.q79_l10 : ICode := .keep [0, 1, 2, 7, 32, 33] (.seq (.region C.q79_r9) C.q79_c9)
def C.q79_l10_w := @awpE _ _ C.q79_l10.eq_1
def C.q79_b11 : ICode := .loop C.q79_l10
def C.q79_b11_w := @awpE _ _ C.q79_b11.eq_1
def C.q79_c12 : ICode := .keep [0, 1, 2, 7, 32, 33] (.block 0 C.q79_b11)
def C.q79_c12_w := @awpE _ _ C.q79_c12.eq_1
def C.q79_r8_b : List IOper := [
 X.m 28 0,
 X.o 29 (.nilchk (X.s 28)),
 X.o 30 (.fldAddr 0 (X.s 29)),
 X.o 31 (.load1 (X.s 30)),
 X.o 32 (.len (X.s 31)),
 X.o 33 (.move (X.i 0))]
def C.q79_r8 : List IOper := C.q79_r8_b
def C.q79_r8_w := @aopsE _ _ C.q79_r8.eq_1
def C.q79_c13 : ICode := .keep [0, 1, 2, 7] (.seq (.seq (.region C.q79_r8) C.q79_c12) C.q79_c2)
def C.q79_c13_w := @awpE _ _ C.q79_c13.eq_1
def C.q79_r7_b : List IOper := [
 X.o 6 (.move (X.i 1))]
def C.q79_r7 : List IOper := C.q79_r7_b
def C.q79_r7_w := @aopsE _ _ C.q79_r7.eq_1
def C.q79_c14 : ICode := .seq (.region C.q79_r7) .ret
def C.q79_c14_w := @awpE _ _ C.q79_c14.eq_1
def C.q79_c15 : ICode := .keep [0, 1, 2, 7, 27] (.cond (X.s 27) C.q79_c14 .skip)
def C.q79_c15_w := @awpE _ _ C.q79_c15.eq_1
def C.q79_r6_b : List IOper := [
 X.m 19 2,
 X.m 20 19,
 X.t 20 21 (.move (X.s 7)),
 X.t 20 22 (.nilchk (X.s 21)),
 X.t 20 23 (.fldAddr 0 (X.s 22)),
 X.t 20 24 (.fldAddr 2 (X.s 23)),
 X.t 20 25 (.load1 (X.s 24)),
 X.t 20 26 (.un .not (X.s 25)),
 X.o 27 (.pick (X.s 20) (X.s 26) (.cst (.bool false)))]
def C.q79_r6 : List IOper := C.q79_r6_b
def C.q79_r6_w := @aopsE _ _ C.q79_r6.eq_1
def C.q79_c16 : ICode := .keep [0, 1, 2, 7] (.seq (.seq (.region C.q79_r6) C.q79_c15) C.q79_c13)
def C.q79_c16_w := @awpE _ _ C.q79_c16.eq_1
def C.q79_r5_b : List IOper := [
 X.o 6 (.move (X.i 6))]
def C.q79_r5 : List IOper := C.q79_r5_b
def C.q79_r5_w := @aopsE _ _ C.q79_r5.eq_1
def C.q79_c17 : ICode := .seq (.region C.q79_r5) .ret
def C.q79_c17_w := @awpE _ _ C.q79_c17.eq_1
def C.q79_c18 : ICode := .keep [0, 1, 2, 7, 18] (.cond (X.s 18) C.q79_c17 .skip)
def C.q79_c18_w := @awpE _ _ C.q79_c18.eq_1
def C.q79_r4_b : List IOper := [
 X.m 14 7,
 X.o 15 (.nilchk (X.s 14)),
 X.o 16 (.fldAddr 3 (X.s 15)),
 X.o 17 (.load1 (X.s 16)),
 X.o 18 (.bin .neq (X.s 17) (.cst (.int .u8 49)))]
def C.q79_r4 : List IOper := C.q79_r4_b
def C.q79_r4_w := @aopsE _ _ C.q79_r4.eq_1
def C.q79_c19 : ICode := .keep [0, 1, 2, 7] (.seq (.seq (.region C.q79_r4) C.q79_c18) C.q79_c16)
def C.q79_c19_w := @awpE _ _ C.q79_c19.eq_1
def C.q79_r3_b : List IOper := [
 X.o 6 (.move (X.i 4))]
def C.q79_r3 : List IOper := C.q79_r3_b
def C.q79_r3_w := @aopsE _ _ C.q79_r3.eq_1
def C.q79_c20 : ICode := .seq (.region C.q79_r3) .ret
def C.q79_c20_w := @awpE _ _ C.q79_c20.eq_1
def C.q79_c21 : ICode := .keep [0, 1, 2, 7, 13] (.cond (X.s 13) C.q79_c20 .skip)
def C.q79_c21_w := @awpE _ _ C.q79_c21.eq_1
def C.q79_r2_b : List IOper := [
 X.m 12 7,
 X.o 13 (.eqP 0 false (X.s 12) (.cst (.nilp)))]
def C.q79_r2 : List IOper := C.q79_r2_b
def C.q79_r2_w := @aopsE _ _ C.q79_r2.eq_1
def C.q79_c22 : ICode := .keep [0, 1, 2, 7] (.seq (.seq (.region C.q79_r2) C.q79_c21) C.q79_c19)
def C.q79_c22_w := @awpE _ _ C.q79_c22.eq_1
def C.q79_r1_b : List IOper := [
 X.m 9 0,
 X.m 10 1,
 X.o 11 (.call F.q84 [X.s 9, X.s 10]),
 X.m 7 11]
def C.q79_r1 : List IOper := C.q79_r1_b
def C.q79_r1_w := @aopsE _ _ C.q79_r1.eq_1
def C.q79_c23 : ICode := .keep [0, 1, 2] (.seq (.region C.q79_r1) C.q79_c22)
def C.q79_c23_w := @awpE _ _ C.q79_c23.eq_1
def C.q79_r0_b : List IOper := [
 X.o 6 (.move (X.i 0))]
def C.q79_r0 : List IOper := C.q79_r0_b
def C.q79_r0_w := @aopsE _ _ C.q79_r0.eq_1
def C.q79 : IFunc := ⟨3, [.slot 6], .seq (.region C.q79_r0) C.q79_c23⟩
def C.q79_W := And.intro (And.intro (And.intro (And.intro (And.intro @C.q79_r15_w @C.q79_c1_w) (And.intro @C.q79_r14_w @C.q79_c2_w)) (And.intro (And.intro @C.q79_r13_w @C.q79_c3_w) (And.intro @C.q79_r12_w (And.intro @C.q79_c4_w @C.q79_c5_w)))) (And.intro (And.intro (And.intro @C.q79_r11_w @C.q79_c6_w) (And.intro @C.q79_r10_w (And.intro @C.q79_b7_w @C.q79_c8_w))) (And.intro (And.intro @C.q79_c9_w @C.q79_r9_w) (And.intro @C.q79_b11_w (And.intro @C.q79_c12_w @C.q79_r8_w))))) (And.intro (And.intro (And.intro (And.intro @C.q79_c13_w @C.q79_r7_w) (And.intro @C.q79_c14_w @C.q79_c15_w)) (And.intro (And.intro @C.q79_r6_w @C.q79_c16_w) (And.intro @C.q79_r5_w (And.intro @C.q79_c17_w @C.q79_c18_w)))) (And.intro (And.intro (And.intro @C.q79_r4_w @C.q79_c19_w) (And.intro @C.q79_r3_w (And.intro @C.q79_c20_w @C.q79_c21_w))) (And.intro (And.intro @C.q79_r2_w @C.q79_c22_w) (And.intro @C.q79_r1_w (And.intro @C.q79_c23_w @C.q79_r0_w)))))
def C.q79_B := And.intro (And.intro (And.intro (And.intro @C.q79_r15_b.eq_1 @C.q79_r14_b.eq_1) (And.intro @C.q79_r13_b.eq_1 @C.q79_r12_b.eq_1)) (And.intro (And.intro @C.q79_r11_b.eq_1 @C.q79_r10_b.eq_1) (And.intro @C.q79_r9_b.eq_1 @C.q79_r8_b.eq_1))) (And.intro (And.intro (And.intro @C.q79_r7_b.eq_1 @C.q79_r6_b.eq_1) (And.intro @C.q79_r5_b.eq_1 @C.q79_r4_b.eq_1)) (And.intro (And.intro @C.q79_r3_b.eq_1 @C.q79_r2_b.eq_1) (And.intro @C.q79_r1_b.eq_1 @C.q79_r0_b.eq_1)))

def C.q82_r11_b : List IOper := [
 X.m 32 3,
 X.m 2 32]
def C.q82_r11 : List IOper := C.q82_r11_b
def C.q82_r11_w := @aopsE _ _ C.q82_r11.eq_1
def C.q82_c1 : ICode := .keep [3] (.seq (.region C.q82_r11) .ret)
def C.q82_c1_w := @awpE _ _ C.q82_c1.eq_1
def C.q82_r10_b : List IOper := [
 X.o 31 (.bin .add (X.s 13) (X.i 1)),
 X.m 13 31]
def C.q82_r10 : List IOper := C.q82_r10_b
def C.q82_r10_w := @aopsE _ _ C.q82_r10.eq_1
def C.q82_c2 : ICode := .keep [0, 3, 12, 13] (.region C.q82_r10)
def C.q82_c2_w := @awpE _ _ C.q82_c2.eq_1
def C.q82_r9_b : List IOper := [
 X.m 25 3,
 X.m 26 5,
 X.m 27 4,
 X.o 28 (.build [.int .u8 0, .int .i64 0] [(0, 1, X.s 26), (1, 1, X.s 27)]),
 X.o 29 (.buildSlice 2 1 [.int .u8 0, .int .i64 0] [(0, 2, X.s 28)]),
 X.o 30 (.append 2 16 (X.s 25) (X.s 29)),
 X.m 3 30]
def C.q82_r9 : List IOper := C.q82_r9_b
def C.q82_r9_w := @aopsE _ _ C.q82_r9.eq_1
def C.q82_c3 : ICode := .keep [0, 3, 4, 5, 12, 13, 24] (.cond (X.s 24) (.region C.q82_r9) .skip)
def C.q82_c3_w := @awpE _ _ C.q82_c3.eq_1
def C.q82_r8_b : List IOper := [
 X.m 23 5,
 X.o 24 (.bin .neq (X.s 23) (.cst (.int .u8 0)))]
def C.q82_r8 : List IOper := C.q82_r8_b
def C.q82_r8_w := @aopsE _ _ C.q82_r8.eq_1
def C.q82_c4 : ICode := .keep [0, 3, 4, 5, 12, 13] (.seq (.region C.q82_r8) C.q82_c3)
def C.q82_c4_w := @awpE _ _ C.q82_c4.eq_1
def C.q82_r7_b : List IOper := [
 X.m 16 0,
 X.o 17 (.nilchk (X.s 16)),
 X.o 18 (.fldAddr 0 (X.s 17)),
 X.o 19 (.load1 (X.s 18)),
 X.m 20 4,
 X.o 21 (.idxAddr 7 (X.s 19) (X.s 20)),
 X.o 22 (.call F.q87 [X.s 21]),
 X.m 5 22]
def C.q82_r7 : List IOper := C.q82_r7_b
def C.q82_r7_w := @aopsE _ _ C.q82_r7.eq_1
def C.q82_c5 : ICode := .keep [0, 3, 4, 12, 13] (.seq (.region C.q82_r7) C.q82_c4)
def C.q82_c5_w := @awpE _ _ C.q82_c5.eq_1
def C.q82_r6_b : List IOper := [
 X.m 15 13,
 X.m 4 15]
def C.q82_r6 : List IOper := C.q82_r6_b
def C.q82_r6_w := @aopsE _ _ C.q82_r6.eq_1
def C.q82_b6 : ICode := .seq (.region C.q82_r6) C.q82_c5
def C.q82_b6_w := @awpE _ _ C.q82_b6.eq_1
def C.q82_c7 : ICode := .keep [0, 3, 12, 13] (.seq (.block 1 C.q82_b6) C.q82_c2)
def C.q82_c7_w := @awpE _ _ C.q82_c7.eq_1
def C.q82_c8 : ICode := .keep [0, 3, 12, 13, 14] (.seq (.cond (X.s 14) .skip (.exit 0)) C.q82_c7)
def C.q82_c8_w := @awpE _ _ C.q82_c8.eq_1
def C.q82_r5_b : List IOper := [
 X.o 14 (.bin .lss (X.s 13) (X.s 12))]
def C.q82_r5 : List IOper := C.q82_r5_b
def C.q82_r5_w := @aopsE _ _ C.q82_r5.eq_1
def C.q82_l9 : ICode := .keep [0, 3, 12, 13] (.seq (.region C.q82_r5) C.q82_c8)
def C.q82_l9_w := @awpE _ _ C.q82_l9.eq_1
def C.q82_b10 : ICode := .loop C.q82_l9
def C.q82_b10_w := @awpE _ _ C.q82_b10.eq_1
def C.q82_c11 : ICode := .keep [0, 3, 12, 13] (.block 0 C.q82_b10)
def C.q82_c11_w := @awpE _ _ C.q82_c11.eq_1
def C.q82_r4_b : List IOper := [
 X.m 8 0,
 X.o 9 (.nilchk (X.s 8)),
 X.o 10 (.fldAddr 0 (X.s 9)),
 X.o 11 (.load1 (X.s 10)),
 X.o 12 (.len (X.s 11)),
 X.o 13 (.move (X.i 0))]
def C.q82_r4 : List IOper := C.q82_r4_b
def C.q82_r4_w := @aopsE _ _ C.q82_r4.eq_1
def C.q82_c12 : ICode := .keep [0, 3] (.seq (.seq (.region C.q82_r4) C.q82_c11) C.q82_c1)
def C.q82_c12_w := @awpE _ _ C.q82_c12.eq_1
def C.q82_r3_b : List IOper := [
 X.o 3 (.move (.cst (.nils)))]
def C.q82_r3 : List IOper := C.q82_r3_b
def C.q82_r3_w := @aopsE _ _ C.q82_r3.eq_1
def C.q82_c13 : ICode := .keep [0] (.seq (.region C.q82_r3) C.q82_c12)
def C.q82_c13_w := @awpE _ _ C.q82_c13.eq_1
def C.q82_r2_b : List IOper := [
 X.o 2 (.move (.cst (.nils)))]
def C.q82_r2 : List IOper := C.q82_r2_b
def C.q82_r2_w := @aopsE _ _ C.q82_r2.eq_1
def C.q82_c14 : ICode := .seq (.region C.q82_r2) .ret
def C.q82_c14_w := @awpE _ _ C.q82_c14.eq_1
def C.q82_c15 : ICode := .keep [0, 7] (.cond (X.s 7) C.q82_c14 .skip)
def C.q82_c15_w := @awpE _ _ C.q82_c15.eq_1
def C.q82_r1_b : List IOper := [
 X.m 6 0,
 X.o 7 (.eqP 0 false (X.s 6) (.cst (.nilp)))]
def C.q82_r1 : List IOper := C.q82_r1_b
def C.q82_r1_w := @aopsE _ _ C.q82_r1.eq_1
def C.q82_c16 : ICode := .keep [0] (.seq (.seq (.region C.q82_r1) C.q82_c15) C.q82_c13)
def C.q82_c16_w := @awpE _ _ C.q82_c16.eq_1
def C.q82_r0_b : List IOper := [
 X.o 2 (.move (.cst (.nils)))]
def C.q82_r0 : List IOper := C.q82_r0_b
def C.q82_r0_w := @aopsE _ _ C.q82_r0.eq_1
def C.q82 : IFunc := ⟨1, [.slot 2], .seq (.region C.q82_r0) C.q82_c16⟩
def C.q82_W := And.intro (And.intro (And.intro (And.intro @C.q82_r11_w (And.intro @C.q82_c1_w @C.q82_r10_w)) (And.intro @C.q82_c2_w (And.intro @C.q82_r9_w @C.q82_c3_w))) (And.intro (And.intro @C.q82_r8_w (And.intro @C.q82_c4_w @C.q82_r7_w)) (And.intro (And.intro @C.q82_c5_w @C.q82_r6_w) (And.intro @C.q82_b6_w @C.q82_c7_w)))) (And.intro (And.intro (And.intro @C.q82_c8_w (And.intro @C.q82_r5_w @C.q82_b10_w)) (And.intro (And.intro @C.q82_c11_w @C.q82_r4_w) (And.intro @C.q82_c12_w @C.q82_r3_w))) (And.intro (And.intro @C.q82_c13_w (And.intro @C.q82_r2_w @C.q82_c14_w)) (And.intro (And.intro @C.q82_c15_w @C.q82_r1_w) (And.intro @C.q82_c16_w @C.q82_r0_w))))
def C.q82_B := And.intro (And.intro (And.intro @C.q82_r11_b.eq_1 (And.intro @C.q82_r10_b.eq_1 @C.q82_r9_b.eq_1)) (And.intro @C.q82_r8_b.eq_1 (And.intro @C.q82_r7_b.eq_1 @C.q82_r6_b.eq_1))) (And.intro (And.intro @C.q82_r5_b.eq_1 (And.intro @C.q82_r4_b.eq_1 @C.q82_r3_b.eq_1)) (And.intro @C.q82_r2_b.eq_1 (And.intro @C.q82_r1_b.eq_1 @C.q82_r0_b.eq_1)))

def C.q81_r4_b : List IOper := [
 X.m 11 5,
 X.o 12 (.nilchk (X.s 11)),
 X.o 13 (.fldAddr 3 (X.s 12)),
 X.o 14 (.load1 (X.s 13)),
 X.m 4 14]
def C.q81_r4 : List IOper := C.q81_r4_b
def C.q81_r4_w := @aopsE _ _ C.q81_r4.eq_1
def C.q81_c1 : ICode := .keep [5] (.seq (.region C.q81_r4) .ret)
def C.q81_c1_w := @awpE _ _ C.q81_c1.eq_1
def C.q81_r3_b : List IOper := [
 X.o 4 (.move (.cst (.int .u8 0)))]
def C.q81_r3 : List IOper := C.q81_r3_b
def C.q81_r3_w := @aopsE _ _ C.q81_r3.eq_1
def C.q81_c2 : ICode := .seq (.region C.q81_r3) .ret
def C.q81_c2_w := @awpE _ _ C.q81_c2.eq_1
def C.q81_c3 : ICode := .keep [5, 10] (.cond (X.s 10) C.q81_c2 .skip)
def C.q81_c3_w := @awpE _ _ C.q81_c3.eq_1
def C.q81_r2_b : List IOper := [
 X.m 9 5,
 X.o 10 (.eqP 0 false (X.s 9) (.cst (.nilp)))]
def C.q81_r2 : List IOper := C.q81_r2_b
def C.q81_r2_w := @aopsE _ _ C.q81_r2.eq_1
def C.q81_c4 : ICode := .keep [5] (.seq (.seq (.region C.q81_r2) C.q81_c3) C.q81_c1)
def C.q81_c4_w := @awpE _ _ C.q81_c4.eq_1
def C.q81_r1_b : List IOper := [
 X.m 6 0,
 X.m 7 1,
 X.o 8 (.call F.q84 [X.s 6, X.s 7]),
 X.m 5 8]
def C.q81_r1 : List IOper := C.q81_r1_b
def C.q81_r1_w := @aopsE _ _ C.q81_r1.eq_1
def C.q81_c5 : ICode := .keep [0, 1] (.seq (.region C.q81_r1) C.q81_c4)
def C.q81_c5_w := @awpE _ _ C.q81_c5.eq_1
def C.q81_r0_b : List IOper := [
 X.o 4 (.move (.cst (.int .u8 0)))]
def C.q81_r0 : List IOper := C.q81_r0_b
def C.q81_r0_w := @aopsE _ _ C.q81_r0.eq_1
def C.q81 : IFunc := ⟨2, [.slot 4], .seq (.region C.q81_r0) C.q81_c5⟩
def C.q81_W := And.intro (And.intro (And.intro @C.q81_r4_w @C.q81_c1_w) (And.intro @C.q81_r3_w (And.intro @C.q81_c2_w @C.q81_c3_w))) (And.intro (And.intro @C.q81_r2_w @C.q81_c4_w) (And.intro @C.q81_r1_w (And.intro @C.q81_c5_w @C.q81_r0_w)))
def C.q81_B := And.intro (And.intro @C.q81_r4_b.eq_1 @C.q81_r3_b.eq_1) (And.intro @C.q81_r2_b.eq_1 (And.intro @C.q81_r1_b.eq_1 @C.q81_r0_b.eq_1))

def C.q73_r20_b : List IOper := [
 X.m 73 8,
 X.m 2 73,
 X.o 3 (.move (X.i 0))]
def C.q73_r20 : List IOper := C.q73_r20_b
def C.q73_r20_w := @aopsE _ _ C.q73_r20.eq_1
def C.q73_c1 : ICode := .keep [8] (.seq (.region C.q73_r20) .ret)
def C.q73_c1_w := @awpE _ _ C.q73_c1.eq_1
def C.q73_r19_b : List IOper := [
 X.o 72 (.bin .add (X.s 62) (X.i 1)),
 X.m 62 72]
def C.q73_r19 : List IOper := C.q73_r19_b
def C.q73_r19_w := @aopsE _ _ C.q73_r19.eq_1
def C.q73_c2 : ICode := .keep [0, 5, 6, 7, 8, 60, 61, 62] (.region C.q73_r19)
def C.q73_c2_w := @awpE _ _ C.q73_c2.eq_1
def C.q73_r18_b : List IOper := [
 X.m 66 5,
 X.m 67 11,
 X.o 68 (.idxAddr 1 (X.s 66) (X.s 67)),
 X.o 69 (.load1 (X.s 68)),
 X.o 70 (.bin .sub (X.s 69) (X.i 1)),
 X.o 71 (.idxAddr 1 (X.s 66) (X.s 67)),
 X.n (.store1 (X.s 71) (X.s 70))]
def C.q73_r18 : List IOper := C.q73_r18_b
def C.q73_r18_w := @aopsE _ _ C.q73_r18.eq_1
def C.q73_c3 : ICode := .keep [0, 5, 6, 7, 8, 11, 60, 61, 62] (.region C.q73_r18)
def C.q73_c3_w := @awpE _ _ C.q73_c3.eq_1
def C.q73_r17_b : List IOper := [
 X.o 64 (.idxAddr 1 (X.s 60) (X.s 62)),
 X.o 65 (.load1 (X.s 64)),
 X.m 11 65]
def C.q73_r17 : List IOper := C.q73_r17_b
def C.q73_r17_w := @aopsE _ _ C.q73_r17.eq_1
def C.q73_b4 : ICode := .seq (.region C.q73_r17) C.q73_c3
def C.q73_b4_w := @awpE _ _ C.q73_b4.eq_1
def C.q73_c5 : ICode := .keep [0, 5, 6, 7, 8, 60, 61, 62] (.seq (.block 5 C.q73_b4) C.q73_c2)
def C.q73_c5_w := @awpE _ _ C.q73_c5.eq_1
def C.q73_c6 : ICode := .keep [0, 5, 6, 7, 8, 60, 61, 62, 63] (.seq (.cond (X.s 63) .skip (.exit 4)) C.q73_c5)
def C.q73_c6_w := @awpE _ _ C.q73_c6.eq_1
def C.q73_r16_b : List IOper := [
 X.o 63 (.bin .lss (X.s 62) (X.s 61))]
def C.q73_r16 : List IOper := C.q73_r16_b
def C.q73_r16_w := @aopsE _ _ C.q73_r16.eq_1
def C.q73_l7 : ICode := .keep [0, 5, 6, 7, 8, 60, 61, 62] (.seq (.region C.q73_r16) C.q73_c6)
def C.q73_l7_w := @awpE _ _ C.q73_l7.eq_1
def C.q73_b8 : ICode := .loop C.q73_l7
def C.q73_b8_w := @awpE _ _ C.q73_b8.eq_1
def C.q73_c9 : ICode := .keep [0, 5, 6, 7, 8, 60, 61, 62] (.block 4 C.q73_b8)
def C.q73_c9_w := @awpE _ _ C.q73_c9.eq_1
def C.q73_r15_b : List IOper := [
 X.m 57 6,
 X.m 58 9,
 X.o 59 (.idxAddr 1 (X.s 57) (X.s 58)),
 X.o 60 (.load1 (X.s 59)),
 X.o 61 (.len (X.s 60)),
 X.o 62 (.move (X.i 0))]
def C.q73_r15 : List IOper := C.q73_r15_b
def C.q73_r15_w := @aopsE _ _ C.q73_r15.eq_1
def C.q73_c10 : ICode := .keep [0, 5, 6, 7, 8, 9] (.seq (.region C.q73_r15) C.q73_c9)
def C.q73_c10_w := @awpE _ _ C.q73_c10.eq_1
def C.q73_r14_b : List IOper := [
 X.m 53 8,
 X.m 54 9,
 X.o 55 (.buildSlice 1 1 [.int .i64 0] [(0, 1, X.s 54)]),
 X.o 56 (.append 1 8 (X.s 53) (X.s 55)),
 X.m 8 56]
def C.q73_r14 : List IOper := C.q73_r14_b
def C.q73_r14_w := @aopsE _ _ C.q73_r14.eq_1
def C.q73_c11 : ICode := .keep [0, 5, 6, 7, 8, 9] (.seq (.region C.q73_r14) C.q73_c10)
def C.q73_c11_w := @awpE _ _ C.q73_c11.eq_1
def C.q73_r13_b : List IOper := [
 X.m 50 7,
 X.m 51 9,
 X.o 52 (.call F.q75 [X.s 50, X.s 51])]
def C.q73_r13 : List IOper := C.q73_r13_b
def C.q73_r13_w := @aopsE _ _ C.q73_r13.eq_1
def C.q73_c12 : ICode := .keep [0, 5, 6, 7, 8, 9] (.seq (.region C.q73_r13) C.q73_c11)
def C.q73_c12_w := @awpE _ _ C.q73_c12.eq_1
def C.q73_r12_b : List IOper := [
 X.o 2 (.move (.cst (.nils))),
 X.o 3 (.move (X.i 5))]
def C.q73_r12 : List IOper := C.q73_r12_b
def C.q73_r12_w := @aopsE _ _ C.q73_r12.eq_1
def C.q73_c13 : ICode := .seq (.region C.q73_r12) .ret
def C.q73_c13_w := @awpE _ _ C.q73_c13.eq_1
def C.q73_c14 : ICode := .keep [0, 5, 6, 7, 8, 9, 49] (.cond (X.s 49) C.q73_c13 .skip)
def C.q73_c14_w := @awpE _ _ C.q73_c14.eq_1
def C.q73_r11_b : List IOper := [
 X.m 46 9,
 X.m 47 0,
 X.o 48 (.len (X.s 47)),
 X.o 49 (.bin .eql (X.s 46) (X.s 48))]
def C.q73_r11 : List IOper := C.q73_r11_b
def C.q73_r11_w := @aopsE _ _ C.q73_r11.eq_1
def C.q73_c15 : ICode := .keep [0, 5, 6, 7, 8, 9] (.seq (.seq (.region C.q73_r11) C.q73_c14) C.q73_c12)
def C.q73_c15_w := @awpE _ _ C.q73_c15.eq_1
def C.q73_r10_b : List IOper := [
 X.m 44 9,
 X.o 45 (.bin .add (X.s 44) (X.i 1)),
 X.m 9 45]
def C.q73_r10 : List IOper := C.q73_r10_b
def C.q73_r10_w := @aopsE _ _ C.q73_r10.eq_1
def C.q73_b16 : ICode := .region C.q73_r10
def C.q73_b16_w := @awpE _ _ C.q73_b16.eq_1
def C.q73_c17 : ICode := .keep [0, 5, 6, 7, 8, 9] (.block 3 C.q73_b16)
def C.q73_c17_w := @awpE _ _ C.q73_c17.eq_1
def C.q73_c18 : ICode := .keep [0, 5, 6, 7, 8, 9, 43] (.cond (X.s 43) .skip (.exit 2))
def C.q73_c18_w := @awpE _ _ C.q73_c18.eq_1
def C.q73_r9_b : List IOper := [
 X.m 28 9,
 X.m 29 0,
 X.o 30 (.len (X.s 29)),
 X.o 31 (.bin .lss (X.s 28) (X.s 30)),
 X.m 32 31,
 X.t 32 33 (.move (X.s 7)),
 X.t 32 34 (.move (X.s 9)),
 X.t 32 35 (.call F.q76 [X.s 33, X.s 34]),
 X.t 32 36 (.move (X.s 35)),
 X.f 36 37 (.move (X.s 5)),
 X.f 36 38 (.move (X.s 9)),
 X.f 36 39 (.idxAddr 1 (X.s 37) (X.s 38)),
 X.f 36 40 (.load1 (X.s 39)),
 X.f 36 41 (.bin .gtr (X.s 40) (X.i 0)),
 X.t 32 42 (.pick (X.s 36) (.cst (.bool true)) (X.s 41)),
 X.o 43 (.pick (X.s 32) (X.s 42) (.cst (.bool false)))]
def C.q73_r9 : List IOper := C.q73_r9_b
def C.q73_r9_w := @aopsE _ _ C.q73_r9.eq_1
def C.q73_l19 : ICode := .keep [0, 5, 6, 7, 8, 9] (.seq (.seq (.region C.q73_r9) C.q73_c18) C.q73_c17)
def C.q73_l19_w := @awpE _ _ C.q73_l19.eq_1
def C.q73_b20 : ICode := .loop C.q73_l19
def C.q73_b20_w := @awpE _ _ C.q73_b20.eq_1
def C.q73_c21 : ICode := .keep [0, 5, 6, 7, 8, 9] (.seq (.block 2 C.q73_b20) C.q73_c15)
def C.q73_c21_w := @awpE _ _ C.q73_c21.eq_1
def C.q73_r8_b : List IOper := [
 X.o 9 (.move (X.i 0))]
def C.q73_r8 : List IOper := C.q73_r8_b
def C.q73_r8_w := @aopsE _ _ C.q73_r8.eq_1
def C.q73_b22 : ICode := .seq (.region C.q73_r8) C.q73_c21
def C.q73_b22_w := @awpE _ _ C.q73_b22.eq_1
def C.q73_c23 : ICode := .keep [0, 5, 6, 7, 8] (.block 1 C.q73_b22)
def C.q73_c23_w := @awpE _ _ C.q73_c23.eq_1
def C.q73_c24 : ICode := .keep [0, 5, 6, 7, 8, 27] (.cond (X.s 27) .skip (.exit 0))
def C.q73_c24_w := @awpE _ _ C.q73_c24.eq_1
def C.q73_r7_b : List IOper := [
 X.m 23 8,
 X.o 24 (.len (X.s 23)),
 X.m 25 0,
 X.o 26 (.len (X.s 25)),
 X.o 27 (.bin .lss (X.s 24) (X.s 26))]
def C.q73_r7 : List IOper := C.q73_r7_b
def C.q73_r7_w := @aopsE _ _ C.q73_r7.eq_1
def C.q73_l25 : ICode := .keep [0, 5, 6, 7, 8] (.seq (.seq (.region C.q73_r7) C.q73_c24) C.q73_c23)
def C.q73_l25_w := @awpE _ _ C.q73_l25.eq_1
def C.q73_b26 : ICode := .loop C.q73_l25
def C.q73_b26_w := @awpE _ _ C.q73_b26.eq_1
def C.q73_c27 : ICode := .keep [0, 5, 6, 7, 8] (.seq (.block 0 C.q73_b26) C.q73_c1)
def C.q73_c27_w := @awpE _ _ C.q73_c27.eq_1
def C.q73_r6_b : List IOper := [
 X.o 8 (.move (.cst (.nils)))]
def C.q73_r6 : List IOper := C.q73_r6_b
def C.q73_r6_w := @aopsE _ _ C.q73_r6.eq_1
def C.q73_c28 : ICode := .keep [0, 5, 6, 7] (.seq (.region C.q73_r6) C.q73_c27)
def C.q73_c28_w := @awpE _ _ C.q73_c28.eq_1
def C.q73_r5_b : List IOper := [
 X.o 22 (.makeMap none),
 X.m 7 22]
def C.q73_r5 : List IOper := C.q73_r5_b
def C.q73_r5_w := @aopsE _ _ C.q73_r5.eq_1
def C.q73_c29 : ICode := .keep [0, 5, 6] (.seq (.region C.q73_r5) C.q73_c28)
def C.q73_c29_w := @awpE _ _ C.q73_c29.eq_1
def C.q73_r4_b : List IOper := [
 X.m 18 0,
 X.o 19 (.call F.q74 [X.s 18]),
 X.m 17 19,
 X.o 20 (.extract (X.s 17) 0),
 X.o 21 (.extract (X.s 17) 1),
 X.m 5 20,
 X.m 6 21]
def C.q73_r4 : List IOper := C.q73_r4_b
def C.q73_r4_w := @aopsE _ _ C.q73_r4.eq_1
def C.q73_c30 : ICode := .keep [0] (.seq (.region C.q73_r4) C.q73_c29)
def C.q73_c30_w := @awpE _ _ C.q73_c30.eq_1
def C.q73_r3_b : List IOper := [
 X.m 16 4,
 X.o 2 (.move (.cst (.nils))),
 X.m 3 16]
def C.q73_r3 : List IOper := C.q73_r3_b
def C.q73_r3_w := @aopsE _ _ C.q73_r3.eq_1
def C.q73_c31 : ICode := .seq (.region C.q73_r3) .ret
def C.q73_c31_w := @awpE _ _ C.q73_c31.eq_1
def C.q73_c32 : ICode := .keep [0, 4, 15] (.cond (X.s 15) C.q73_c31 .skip)
def C.q73_c32_w := @awpE _ _ C.q73_c32.eq_1
def C.q73_r2_b : List IOper := [
 X.m 14 4,
 X.o 15 (.bin .neq (X.s 14) (X.i 0))]
def C.q73_r2 : List IOper := C.q73_r2_b
def C.q73_r2_w := @aopsE _ _ C.q73_r2.eq_1
def C.q73_c33 : ICode := .keep [0, 4] (.seq (.region C.q73_r2) C.q73_c32)
def C.q73_c33_w := @awpE _ _ C.q73_c33.eq_1
def C.q73_r1_b : List IOper := [
 X.m 12 0,
 X.o 13 (.call F.q77 [X.s 12]),
 X.m 4 13]
def C.q73_r1 : List IOper := C.q73_r1_b
def C.q73_r1_w := @aopsE _ _ C.q73_r1.eq_1
def C.q73_c34 : ICode := .keep [0] (.seq (.seq (.region C.q73_r1) C.q73_c33) C.q73_c30)
def C.q73_c34_w := @awpE _ _ C.q73_c34.eq_1
def C.q73_r0_b : List IOper := [
 X.o 2 (.move (.cst (.nils))),
 X.o 3 (.move (X.i 0))]
def C.q73_r0 : List IOper := C.q73_r0_b
def C.q73_r0_w := @aopsE _ _ C.q73_r0.eq_1
def C.q73 : IFunc := ⟨1, [.slot 2, .slot 3], .seq (.region C.q73_r0) C.q73_c34⟩
def C.q73_W := And.intro (And.intro (And.intro (And.intro (And.intro @C.q73_r20_w (And.intro @C.q73_c1_w @C.q73_r19_w)) (And.intro @C.q73_c2_w (And.intro @C.q73_r18_w @C.q73_c3_w))) (And.intro (And.intro @C.q73_r17_w (And.intro @C.q73_b4_w @C.q73_c5_w)) (And.intro (And.intro @C.q73_c6_w @C.q73_r16_w) (And.intro @C.q73_b8_w @C.q73_c9_w)))) (And.intro (And.intro (And.intro @C.q73_r15_w (And.intro @C.q73_c10_w @C.q73_r14_w)) (And.intro @C.q73_c11_w (And.intro @C.q73_r13_w @C.q73_c12_w))) (And.intro (And.intro @C.q73_r12_w (And.intro @C.q73_c13_w @C.q73_c14_w)) (And.intro (And.intro @C.q73_r11_w @C.q73_c15_w) (And.intro @C.q73_r10_w @C.q73_b16_w))))) (And.intro (And.intro (And.intro (And.intro @C.q73_c17_w (And.intro @C.q73_c18_w @C.q73_r9_w)) (And.intro @C.q73_b20_w (And.intro @C.q73_c21_w @C.q73_r8_w))) (And.intro (And.intro @C.q73_b22_w (And.intro @C.q73_c23_w @C.q73_c24_w)) (And.intro (And.intro @C.q73_r7_w @C.q73_b26_w) (And.intro @C.q73_c27_w @C.q73_r6_w)))) (And.intro (And.intro (And.intro @C.q73_c28_w (And.intro @C.q73_r5_w @C.q73_c29_w)) (And.intro @C.q73_r4_w (And.intro @C.q73_c30_w @C.q73_r3_w))) (And.intro (And.intro @C.q73_c31_w (And.intro @C.q73_c32_w @C.q73_r2_w)) (And.intro (And.intro @C.q73_c33_w @C.q73_r1_w) (And.intro @C.q73_c34_w @C.q73_r0_w)))))
def C.q73_B := And.intro (And.intro (And.intro (And.intro @C.q73_r20_b.eq_1 @C.q73_r19_b.eq_1) (And.intro @C.q73_r18_b.eq_1 (And.intro @C.q73_r17_b.eq_1 @C.q73_r16_b.eq_1))) (And.intro (And.intro @C.q73_r15_b.eq_1 @C.q73_r14_b.eq_1) (And.intro @C.q73_r13_b.eq_1 (And.intro @C.q73_r12_b.eq_1 @C.q73_r11_b.eq_1)))) (And.intro (And.intro (And.intro @C.q73_r10_b.eq_1 @C.q73_r9_b.eq_1) (And.intro @C.q73_r8_b.eq_1 (And.intro @C.q73_r7_b.eq_1 @C.q73_r6_b.eq_1))) (And.intro (And.intro @C.q73_r5_b.eq_1 (And.intro @C.q73_r4_b.eq_1 @C.q73_r3_b.eq_1)) (And.intro @C.q73_r2_b.eq_1 (And.intro @C.q73_r1_b.eq_1 @C.q73_r0_b.eq_1))))

def C.q41_r8_b : List IOper := [
 X.m 28 3,
 X.m 2 28]
def C.q41_r8 : List IOper := C.q41_r8_b
def C.q41_r8_w := @aopsE _ _ C.q41_r8.eq_1
def C.q41_c1 : ICode := .keep [3] (.seq (.region C.q41_r8) .ret)
def C.q41_c1_w := @awpE _ _ C.q41_c1.eq_1
def C.q41_r7_b : List IOper := [
 X.o 27 (.bin .add (X.s 13) (X.i 1)),
 X.m 13 27]
def C.q41_r7 : List IOper := C.q41_r7_b
def C.q41_r7_w := @aopsE _ _ C.q41_r7.eq_1
def C.q41_c2 : ICode := .keep [3, 11, 12, 13] (.region C.q41_r7)
def C.q41_c2_w := @awpE _ _ C.q41_c2.eq_1
def C.q41_r6_b : List IOper := [
 X.m 21 3,
 X.m 22 4,
 X.o 23 (.fldAddr 0 (X.s 5)),
 X.o 24 (.load1 (X.s 23)),
 X.o 25 (.buildSlice 1 1 [.int .i64 0] [(0, 1, X.s 24)]),
 X.o 26 (.idxAddr 1 (X.s 21) (X.s 22)),
 X.n (.store1 (X.s 26) (X.s 25))]
def C.q41_r6 : List IOper := C.q41_r6_b
def C.q41_r6_w := @aopsE _ _ C.q41_r6.eq_1
def C.q41_c3 : ICode := .keep [3, 4, 5, 11, 12, 13, 20] (.cond (X.s 20) (.region C.q41_r6) .skip)
def C.q41_c3_w := @awpE _ _ C.q41_c3.eq_1
def C.q41_r5_b : List IOper := [
 X.o 18 (.fldAddr 0 (X.s 5)),
 X.o 19 (.load1 (X.s 18)),
 X.o 20 (.bin .neq (X.s 19) (X.i (-1)))]
def C.q41_r5 : List IOper := C.q41_r5_b
def C.q41_r5_w := @aopsE _ _ C.q41_r5.eq_1
def C.q41_c4 : ICode := .keep [3, 4, 5, 11, 12, 13] (.seq (.region C.q41_r5) C.q41_c3)
def C.q41_c4_w := @awpE _ _ C.q41_c4.eq_1
def C.q41_r4_b : List IOper := [
 X.m 15 13,
 X.o 16 (.idxAddr 3 (X.s 11) (X.s 13)),
 X.o 17 (.loadN 3 (X.s 16)),
 X.o 5 (.alloc [.int .i64 0, .int .i64 0, .bool false]),
 X.m 4 15,
 X.n (.storeN 3 (X.s 5) (X.s 17))]
def C.q41_r4 : List IOper := C.q41_r4_b
def C.q41_r4_w := @aopsE _ _ C.q41_r4.eq_1
def C.q41_b5 : ICode := .seq (.region C.q41_r4) C.q41_c4
def C.q41_b5_w := @awpE _ _ C.q41_b5.eq_1
def C.q41_c6 : ICode := .keep [3, 11, 12, 13] (.seq (.block 1 C.q41_b5) C.q41_c2)
def C.q41_c6_w := @awpE _ _ C.q41_c6.eq_1
def C.q41_c7 : ICode := .keep [3, 11, 12, 13, 14] (.seq (.cond (X.s 14) .skip (.exit 0)) C.q41_c6)
def C.q41_c7_w := @awpE _ _ C.q41_c7.eq_1
def C.q41_r3_b : List IOper := [
 X.o 14 (.bin .lss (X.s 13) (X.s 12))]
def C.q41_r3 : List IOper := C.q41_r3_b
def C.q41_r3_w := @aopsE _ _ C.q41_r3.eq_1
def C.q41_l8 : ICode := .keep [3, 11, 12, 13] (.seq (.region C.q41_r3) C.q41_c7)
def C.q41_l8_w := @awpE _ _ C.q41_l8.eq_1
def C.q41_b9 : ICode := .loop C.q41_l8
def C.q41_b9_w := @awpE _ _ C.q41_b9.eq_1
def C.q41_c10 : ICode := .keep [3, 11, 12, 13] (.block 0 C.q41_b9)
def C.q41_c10_w := @awpE _ _ C.q41_c10.eq_1
def C.q41_r2_b : List IOper := [
 X.o 10 (.fldAddr 1 (X.s 1)),
 X.o 11 (.load1 (X.s 10)),
 X.o 12 (.len (X.s 11)),
 X.o 13 (.move (X.i 0))]
def C.q41_r2 : List IOper := C.q41_r2_b
def C.q41_r2_w := @aopsE _ _ C.q41_r2.eq_1
def C.q41_c11 : ICode := .keep [1, 3] (.seq (.seq (.region C.q41_r2) C.q41_c10) C.q41_c1)
def C.q41_c11_w := @awpE _ _ C.q41_c11.eq_1
def C.q41_r1_b : List IOper := [
 X.o 6 (.fldAddr 1 (X.s 1)),
 X.o 7 (.load1 (X.s 6)),
 X.o 8 (.len (X.s 7)),
 X.o 9 (.makeSlice 1 24 [.nils] (X.s 8) (X.s 8)),
 X.m 3 9]
def C.q41_r1 : List IOper := C.q41_r1_b
def C.q41_r1_w := @aopsE _ _ C.q41_r1.eq_1
def C.q41_c12 : ICode := .keep [1] (.seq (.region C.q41_r1) C.q41_c11)
def C.q41_c12_w := @awpE _ _ C.q41_c12.eq_1
def C.q41_r0_b : List IOper := [
 X.o 1 (.boxN (X.s 0)),
 X.o 2 (.move (.cst (.nils)))]
def C.q41_r0 : List IOper := C.q41_r0_b
def C.q41_r0_w := @aopsE _ _ C.q41_r0.eq_1
def C.q41 : IFunc := ⟨1, [.slot 2], .seq (.region C.q41_r0) C.q41_c12⟩
def C.q41_W := And.intro (And.intro (And.intro (And.intro @C.q41_r8_w @C.q41_c1_w) (And.intro @C.q41_r7_w (And.intro @C.q41_c2_w @C.q41_r6_w))) (And.intro (And.intro @C.q41_c3_w @C.q41_r5_w) (And.intro @C.q41_c4_w (And.intro @C.q41_r4_w @C.q41_b5_w)))) (And.intro (And.intro (And.intro @C.q41_c6_w @C.q41_c7_w) (And.intro @C.q41_r3_w (And.intro @C.q41_b9_w @C.q41_c10_w))) (And.intro (And.intro @C.q41_r2_w @C.q41_c11_w) (And.intro @C.q41_r1_w (And.intro @C.q41_c12_w @C.q41_r0_w))))
def C.q41_B := And.intro (And.intro (And.intro @C.q41_r8_b.eq_1 @C.q41_r7_b.eq_1) (And.intro @C.q41_r6_b.eq_1 @C.q41_r5_b.eq_1)) (And.intro (And.intro @C.q41_r4_b.eq_1 @C.q41_r3_b.eq_1) (And.intro @C.q41_r2_b.eq_1 (And.intro @C.q41_r1_b.eq_1 @C.q41_r0_b.eq_1)))

def C.q78_r8_b : List IOper := [
 X.m 27 5,
 X.m 4 27]
def C.q78_r8 : List IOper := C.q78_r8_b
def C.q78_r8_w := @aopsE _ _ C.q78_r8.eq_1
def C.q78_c1 : ICode := .keep [5] (.seq (.region C.q78_r8) .ret)
def C.q78_c1_w := @awpE _ _ C.q78_c1.eq_1
def C.q78_r7_b : List IOper := [
 X.m 25 5,
 X.o 26 (.call F.q88 [X.s 25])]
def C.q78_r7 : List IOper := C.q78_r7_b
def C.q78_r7_w := @aopsE _ _ C.q78_r7.eq_1
def C.q78_c2 : ICode := .keep [5] (.seq (.region C.q78_r7) C.q78_c1)
def C.q78_c2_w := @awpE _ _ C.q78_c2.eq_1
def C.q78_r5_b : List IOper := [
 X.m 12 0,
 X.o 13 (.nilchk (X.s 12)),
 X.o 14 (.fldAddr 0 (X.s 13)),
 X.o 15 (.load1 (X.s 14)),
 X.m 16 1,
 X.o 17 (.idxAddr 7 (X.s 15) (X.s 16)),
 X.o 18 (.fldAddr 0 (X.s 17)),
 X.o 19 (.fldAddr 0 (X.s 18)),
 X.o 20 (.load1 (X.s 19)),
 X.m 1 20]
def C.q78_r5 : List IOper := C.q78_r5_b
def C.q78_r5_w := @aopsE _ _ C.q78_r5.eq_1
def C.q78_c3 : ICode := .keep [0, 1, 5] (.region C.q78_r5)
def C.q78_c3_w := @awpE _ _ C.q78_c3.eq_1
def C.q78_r6_b : List IOper := [
 X.m 21 5,
 X.m 22 1,
 X.o 23 (.buildSlice 1 1 [.int .i64 0] [(0, 1, X.s 22)]),
 X.o 24 (.append 1 8 (X.s 21) (X.s 23)),
 X.m 5 24]
def C.q78_r6 : List IOper := C.q78_r6_b
def C.q78_r6_w := @aopsE _ _ C.q78_r6.eq_1
def C.q78_b4 : ICode := .region C.q78_r6
def C.q78_b4_w := @awpE _ _ C.q78_b4.eq_1
def C.q78_c5 : ICode := .keep [0, 1, 5] (.seq (.block 1 C.q78_b4) C.q78_c3)
def C.q78_c5_w := @awpE _ _ C.q78_c5.eq_1
def C.q78_c6 : ICode := .keep [0, 1, 5, 11] (.cond (X.s 11) .skip (.exit 0))
def C.q78_c6_w := @awpE _ _ C.q78_c6.eq_1
def C.q78_r4_b : List IOper := [
 X.m 10 1,
 X.o 11 (.bin .neq (X.s 10) (X.i (-1)))]
def C.q78_r4 : List IOper := C.q78_r4_b
def C.q78_r4_w := @aopsE _ _ C.q78_r4.eq_1
def C.q78_l7 : ICode := .keep [0, 1, 5] (.seq (.seq (.region C.q78_r4) C.q78_c6) C.q78_c5)
def C.q78_l7_w := @awpE _ _ C.q78_l7.eq_1
def C.q78_b8 : ICode := .loop C.q78_l7
def C.q78_b8_w := @awpE _ _ C.q78_b8.eq_1
def C.q78_c9 : ICode := .keep [0, 1, 5] (.seq (.block 0 C.q78_b8) C.q78_c2)
def C.q78_c9_w := @awpE _ _ C.q78_c9.eq_1
def C.q78_r3_b : List IOper := [
 X.o 5 (.move (.cst (.nils)))]
def C.q78_r3 : List IOper := C.q78_r3_b
def C.q78_r3_w := @aopsE _ _ C.q78_r3.eq_1
def C.q78_c10 : ICode := .keep [0, 1] (.seq (.region C.q78_r3) C.q78_c9)
def C.q78_c10_w := @awpE _ _ C.q78_c10.eq_1
def C.q78_r2_b : List IOper := [
 X.o 4 (.move (.cst (.nils)))]
def C.q78_r2 : List IOper := C.q78_r2_b
def C.q78_r2_w := @aopsE _ _ C.q78_r2.eq_1
def C.q78_c11 : ICode := .seq (.region C.q78_r2) .ret
def C.q78_c11_w := @awpE _ _ C.q78_c11.eq_1
def C.q78_c12 : ICode := .keep [0, 1, 9] (.cond (X.s 9) C.q78_c11 .skip)
def C.q78_c12_w := @awpE _ _ C.q78_c12.eq_1
def C.q78_r1_b : List IOper := [
 X.m 6 0,
 X.m 7 1,
 X.o 8 (.call F.q84 [X.s 6, X.s 7]),
 X.o 9 (.eqP 0 false (X.s 8) (.cst (.nilp)))]
def C.q78_r1 : List IOper := C.q78_r1_b
def C.q78_r1_w := @aopsE _ _ C.q78_r1.eq_1
def C.q78_c13 : ICode := .keep [0, 1] (.seq (.seq (.region C.q78_r1) C.q78_c12) C.q78_c10)
def C.q78_c13_w := @awpE _ _ C.q78_c13.eq_1
def C.q78_r0_b : List IOper := [
 X.o 4 (.move (.cst (.nils)))]
def C.q78_r0 : List IOper := C.q78_r0_b
def C.q78_r0_w := @aopsE _ _ C.q78_r0.eq_1
def C.q78 : IFunc := ⟨2, [.slot 4], .seq (.region C.q78_r0) C.q78_c13⟩
def C.q78_W := And.intro (And.intro (And.intro (And.intro @C.q78_r8_w @C.q78_c1_w) (And.intro @C.q78_r7_w (And.intro @C.q78_c2_w @C.q78_r5_w))) (And.intro (And.intro @C.q78_c3_w @C.q78_r6_w) (And.intro @C.q78_b4_w (And.intro @C.q78_c5_w @C.q78_c6_w)))) (And.intro (And.intro (And.intro @C.q78_r4_w @C.q78_b8_w) (And.intro @C.q78_c9_w (And.intro @C.q78_r3_w @C.q78_c10_w))) (And.intro (And.intro @C.q78_r2_w (And.intro @C.q78_c11_w @C.q78_c12_w)) (And.intro @C.q78_r1_w (And.intro @C.q78_c13_w @C.q78_r0_w))))
def C.q78_B := And.intro (And.intro (And.intro @C.q78_r8_b.eq_1 @C.q78_r7_b.eq_1) (And.intro @C.q78_r5_b.eq_1 @C.q78_r6_b.eq_1)) (And.intro (And.intro @C.q78_r4_b.eq_1 @C.q78_r3_b.eq_1) (And.intro @C.q78_r2_b.eq_1 (And.intro @C.q78_r1_b.eq_1 @C.q78_r0_b.eq_1)))

def C.q26_r9_b : List IOper := [
 X.m 37 5,
 X.m 2 37,
 X.o 3 (.move (X.i 0))]
def C.q26_r9 : List IOper := C.q26_r9_b
def C.q26_r9_w := @aopsE _ _ C.q26_r9.eq_1
def C.q26_c1 : ICode := .keep [5] (.seq (.region C.q26_r9) .ret)
def C.q26_c1_w := @awpE _ _ C.q26_c1.eq_1
def C.q26_r7_b : List IOper := [
 X.m 25 6,
 X.o 26 (.bin .add (X.s 25) (X.i 1)),
 X.m 6 26]
def C.q26_r7 : List IOper := C.q26_r7_b
def C.q26_r7_w := @aopsE _ _ C.q26_r7.eq_1
def C.q26_c2 : ICode := .keep [5, 6] (.region C.q26_r7)
def C.q26_c2_w := @awpE _ _ C.q26_c2.eq_1
def C.q26_r8_b : List IOper := [
 X.m 27 5,
 X.m 28 5,
 X.o 29 (.nilchk (X.s 28)),
 X.o 30 (.fldAddr 1 (X.s 29)),
 X.o 31 (.load1 (X.s 30)),
 X.o 32 (.build [.int .u8 0, .int .i64 0, .bool false] [(0, 1, .cst (.int .u8 48))]),
 X.o 33 (.buildSlice 3 1 [.int .u8 0, .int .i64 0, .bool false] [(0, 3, X.s 32)]),
 X.o 34 (.append 3 24 (X.s 31) (X.s 33)),
 X.o 35 (.nilchk (X.s 27)),
 X.o 36 (.fldAddr 1 (X.s 35)),
 X.n (.store1 (X.s 36) (X.s 34))]
def C.q26_r8 : List IOper := C.q26_r8_b
def C.q26_r8_w := @aopsE _ _ C.q26_r8.eq_1
def C.q26_b3 : ICode := .region C.q26_r8
def C.q26_b3_w := @awpE _ _ C.q26_b3.eq_1
def C.q26_c4 : ICode := .keep [5, 6] (.seq (.block 1 C.q26_b3) C.q26_c2)
def C.q26_c4_w := @awpE _ _ C.q26_c4.eq_1
def C.q26_c5 : ICode := .keep [5, 6, 24] (.cond (X.s 24) .skip (.exit 0))
def C.q26_c5_w := @awpE _ _ C.q26_c5.eq_1
def C.q26_r6_b : List IOper := [
 X.m 18 6,
 X.m 19 5,
 X.o 20 (.nilchk (X.s 19)),
 X.o 21 (.fldAddr 0 (X.s 20)),
 X.o 22 (.load1 (X.s 21)),
 X.o 23 (.len (X.s 22)),
 X.o 24 (.bin .lss (X.s 18) (X.s 23))]
def C.q26_r6 : List IOper := C.q26_r6_b
def C.q26_r6_w := @aopsE _ _ C.q26_r6.eq_1
def C.q26_l6 : ICode := .keep [5, 6] (.seq (.seq (.region C.q26_r6) C.q26_c5) C.q26_c4)
def C.q26_l6_w := @awpE _ _ C.q26_l6.eq_1
def C.q26_b7 : ICode := .loop C.q26_l6
def C.q26_b7_w := @awpE _ _ C.q26_b7.eq_1
def C.q26_c8 : ICode := .keep [5, 6] (.block 0 C.q26_b7)
def C.q26_c8_w := @awpE _ _ C.q26_c8.eq_1
def C.q26_r5_b : List IOper := [
 X.o 6 (.move (X.i 0))]
def C.q26_r5 : List IOper := C.q26_r5_b
def C.q26_r5_w := @aopsE _ _ C.q26_r5.eq_1
def C.q26_c9 : ICode := .keep [5] (.seq (.seq (.region C.q26_r5) C.q26_c8) C.q26_c1)
def C.q26_c9_w := @awpE _ _ C.q26_c9.eq_1
def C.q26_r4_b : List IOper := [
 X.o 12 (.buildSlice 3 0 [.int .i64 0, .int .i64 0, .bool false] []),
 X.o 13 (.fldAddr 1 (X.s 1)),
 X.o 14 (.load1 (X.s 13)),
 X.o 15 (.append 3 24 (X.s 12) (X.s 14)),
 X.o 16 (.build [.nils, .nils] [(0, 1, X.s 15)]),
 X.o 17 (.boxN (X.s 16)),
 X.m 5 17]
def C.q26_r4 : List IOper := C.q26_r4_b
def C.q26_r4_w := @aopsE _ _ C.q26_r4.eq_1
def C.q26_c10 : ICode := .keep [1] (.seq (.region C.q26_r4) C.q26_c9)
def C.q26_c10_w := @awpE _ _ C.q26_c10.eq_1
def C.q26_r3_b : List IOper := [
 X.m 11 4,
 X.o 2 (.move (.cst (.nilp))),
 X.m 3 11]
def C.q26_r3 : List IOper := C.q26_r3_b
def C.q26_r3_w := @aopsE _ _ C.q26_r3.eq_1
def C.q26_c11 : ICode := .seq (.region C.q26_r3) .ret
def C.q26_c11_w := @awpE _ _ C.q26_c11.eq_1
def C.q26_c12 : ICode := .keep [1, 4, 10] (.cond (X.s 10) C.q26_c11 .skip)
def C.q26_c12_w := @awpE _ _ C.q26_c12.eq_1
def C.q26_r2_b : List IOper := [
 X.m 9 4,
 X.o 10 (.bin .neq (X.s 9) (X.i 0))]
def C.q26_r2 : List IOper := C.q26_r2_b
def C.q26_r2_w := @aopsE _ _ C.q26_r2.eq_1
def C.q26_c13 : ICode := .keep [1, 4] (.seq (.seq (.region C.q26_r2) C.q26_c12) C.q26_c10)
def C.q26_c13_w := @awpE _ _ C.q26_c13.eq_1
def C.q26_r1_b : List IOper := [
 X.o 7 (.loadN 4 (X.s 1)),
 X.o 8 (.call F.q8 [X.s 7]),
 X.m 4 8]
def C.q26_r1 : List IOper := C.q26_r1_b
def C.q26_r1_w := @aopsE _ _ C.q26_r1.eq_1
def C.q26_c14 : ICode := .keep [1] (.seq (.region C.q26_r1) C.q26_c13)
def C.q26_c14_w := @awpE _ _ C.q26_c14.eq_1
def C.q26_r0_b : List IOper := [
 X.o 1 (.boxN (X.s 0)),
 X.o 2 (.move (.cst (.nilp))),
 X.o 3 (.move (X.i 0))]
def C.q26_r0 : List IOper := C.q26_r0_b
def C.q26_r0_w := @aopsE _ _ C.q26_r0.eq_1
def C.q26 : IFunc := ⟨1, [.slot 2, .slot 3], .seq (.region C.q26_r0) C.q26_c14⟩
def C.q26_W := And.intro (And.intro (And.intro (And.intro @C.q26_r9_w @C.q26_c1_w) (And.intro @C.q26_r7_w (And.intro @C.q26_c2_w @C.q26_r8_w))) (And.intro (And.intro @C.q26_b3_w (And.intro @C.q26_c4_w @C.q26_c5_w)) (And.intro @C.q26_r6_w (And.intro @C.q26_b7_w @C.q26_c8_w)))) (And.intro (And.intro (And.intro @C.q26_r5_w (And.intro @C.q26_c9_w @C.q26_r4_w)) (And.intro @C.q26_c10_w (And.intro @C.q26_r3_w @C.q26_c11_w))) (And.intro (And.intro @C.q26_c12_w (And.intro @C.q26_r2_w @C.q26_c13_w)) (And.intro @C.q26_r1_w (And.intro @C.q26_c14_w @C.q26_r0_w))))
def C.q26_B := And.intro (And.intro (And.intro @C.q26_r9_b.eq_1 @C.q26_r7_b.eq_1) (And.intro @C.q26_r8_b.eq_1 (And.intro @C.q26_r6_b.eq_1 @C.q26_r5_b.eq_1))) (And.intro (And.intro @C.q26_r4_b.eq_1 @C.q26_r3_b.eq_1) (And.intro @C.q26_r2_b.eq_1 (And.intro @C.q26_r1_b.eq_1 @C.q26_r0_b.eq_1)))

def C.q24_r10_b : List IOper := [
 X.o 4 (.move (X.i 0))]
def C.q24_r10 : List IOper := C.q24_r10_b
def C.q24_r10_w := @aopsE _ _ C.q24_r10.eq_1
def C.q24_c1 : ICode := .keep [] (.seq (.region C.q24_r10) .ret)
def C.q24_c1_w := @awpE _ _ C.q24_c1.eq_1
def C.q24_r9_b : List IOper := [
 X.m 70 0,
 X.o 71 (.nilchk (X.s 70)),
 X.o 72 (.fldAddr 1 (X.s 71)),
 X.o 73 (.load1 (X.s 72)),
 X.m 74 1,
 X.m 75 5,
 X.o 76 (.bin .eql (X.s 75) (.cst (.int .u8 116))),
 X.o 77 (.idxAddr 3 (X.s 73) (X.s 74)),
 X.o 78 (.fldAddr 2 (X.s 77)),
 X.n (.store1 (X.s 78) (X.s 76))]
def C.q24_r9 : List IOper := C.q24_r9_b
def C.q24_r9_w := @aopsE _ _ C.q24_r9.eq_1
def C.q24_c2 : ICode := .keep [0, 1, 5] (.seq (.region C.q24_r9) C.q24_c1)
def C.q24_c2_w := @awpE _ _ C.q24_c2.eq_1
def C.q24_r8_b : List IOper := [
 X.m 55 0,
 X.o 56 (.nilchk (X.s 55)),
 X.o 57 (.fldAddr 1 (X.s 56)),
 X.o 58 (.load1 (X.s 57)),
 X.m 59 1,
 X.m 60 0,
 X.o 61 (.nilchk (X.s 60)),
 X.o 62 (.fldAddr 0 (X.s 61)),
 X.o 63 (.load1 (X.s 62)),
 X.m 64 1,
 X.o 65 (.idxAddr 3 (X.s 63) (X.s 64)),
 X.o 66 (.fldAddr 1 (X.s 65)),
 X.o 67 (.load1 (X.s 66)),
 X.o 68 (.idxAddr 3 (X.s 58) (X.s 59)),
 X.o 69 (.fldAddr 1 (X.s 68)),
 X.n (.store1 (X.s 69) (X.s 67))]
def C.q24_r8 : List IOper := C.q24_r8_b
def C.q24_r8_w := @aopsE _ _ C.q24_r8.eq_1
def C.q24_c3 : ICode := .keep [0, 1, 5] (.seq (.region C.q24_r8) C.q24_c2)
def C.q24_c3_w := @awpE _ _ C.q24_c3.eq_1
def C.q24_r7_b : List IOper := [
 X.m 48 0,
 X.o 49 (.nilchk (X.s 48)),
 X.o 50 (.fldAddr 1 (X.s 49)),
 X.o 51 (.load1 (X.s 50)),
 X.m 52 1,
 X.o 53 (.idxAddr 3 (X.s 51) (X.s 52)),
 X.o 54 (.fldAddr 0 (X.s 53)),
 X.n (.store1 (X.s 54) (.cst (.int .u8 114)))]
def C.q24_r7 : List IOper := C.q24_r7_b
def C.q24_r7_w := @aopsE _ _ C.q24_r7.eq_1
def C.q24_c4 : ICode := .keep [0, 1, 5] (.seq (.region C.q24_r7) C.q24_c3)
def C.q24_c4_w := @awpE _ _ C.q24_c4.eq_1
def C.q24_r6_b : List IOper := [
 X.o 4 (.move (X.i 6))]
def C.q24_r6 : List IOper := C.q24_r6_b
def C.q24_r6_w := @aopsE _ _ C.q24_r6.eq_1
def C.q24_c5 : ICode := .seq (.region C.q24_r6) .ret
def C.q24_c5_w := @awpE _ _ C.q24_c5.eq_1
def C.q24_c6 : ICode := .keep [0, 1, 5, 47] (.cond (X.s 47) C.q24_c5 .skip)
def C.q24_c6_w := @awpE _ _ C.q24_c6.eq_1
def C.q24_r5_b : List IOper := [
 X.m 27 5,
 X.o 28 (.bin .neq (X.s 27) (.cst (.int .u8 48))),
 X.m 29 28,
 X.t 29 30 (.move (X.s 5)),
 X.t 29 31 (.bin .neq (X.s 30) (.cst (.int .u8 116))),
 X.o 32 (.pick (X.s 29) (X.s 31) (.cst (.bool false))),
 X.m 33 32,
 X.f 33 34 (.move (X.s 6)),
 X.f 33 35 (.bin .geq (X.s 34) (X.i 0)),
 X.f 33 36 (.move (X.s 35)),
 X.t 36 37 (.move (X.s 0)),
 X.t 36 38 (.nilchk (X.s 37)),
 X.t 36 39 (.fldAddr 1 (X.s 38)),
 X.t 36 40 (.load1 (X.s 39)),
 X.t 36 41 (.move (X.s 6)),
 X.t 36 42 (.idxAddr 3 (X.s 40) (X.s 41)),
 X.t 36 43 (.fldAddr 0 (X.s 42)),
 X.t 36 44 (.load1 (X.s 43)),
 X.t 36 45 (.bin .neq (X.s 44) (.cst (.int .u8 49))),
 X.f 33 46 (.pick (X.s 36) (X.s 45) (.cst (.bool false))),
 X.o 47 (.pick (X.s 33) (.cst (.bool true)) (X.s 46))]
def C.q24_r5 : List IOper := C.q24_r5_b
def C.q24_r5_w := @aopsE _ _ C.q24_r5.eq_1
def C.q24_c7 : ICode := .keep [0, 1, 5, 6] (.seq (.seq (.region C.q24_r5) C.q24_c6) C.q24_c4)
def C.q24_c7_w := @awpE _ _ C.q24_c7.eq_1
def C.q24_r4_b : List IOper := [
 X.m 19 0,
 X.o 20 (.nilchk (X.s 19)),
 X.o 21 (.fldAddr 0 (X.s 20)),
 X.o 22 (.load1 (X.s 21)),
 X.m 23 1,
 X.o 24 (.idxAddr 3 (X.s 22) (X.s 23)),
 X.o 25 (.fldAddr 0 (X.s 24)),
 X.o 26 (.load1 (X.s 25)),
 X.m 6 26]
def C.q24_r4 : List IOper := C.q24_r4_b
def C.q24_r4_w := @aopsE _ _ C.q24_r4.eq_1
def C.q24_c8 : ICode := .keep [0, 1, 5] (.seq (.region C.q24_r4) C.q24_c7)
def C.q24_c8_w := @awpE _ _ C.q24_c8.eq_1
def C.q24_r3_b : List IOper := [
 X.m 11 0,
 X.o 12 (.nilchk (X.s 11)),
 X.o 13 (.fldAddr 1 (X.s 12)),
 X.o 14 (.load1 (X.s 13)),
 X.m 15 1,
 X.o 16 (.idxAddr 3 (X.s 14) (X.s 15)),
 X.o 17 (.fldAddr 0 (X.s 16)),
 X.o 18 (.load1 (X.s 17)),
 X.m 5 18]
def C.q24_r3 : List IOper := C.q24_r3_b
def C.q24_r3_w := @aopsE _ _ C.q24_r3.eq_1
def C.q24_c9 : ICode := .keep [0, 1] (.seq (.region C.q24_r3) C.q24_c8)
def C.q24_c9_w := @awpE _ _ C.q24_c9.eq_1
def C.q24_r2_b : List IOper := [
 X.o 4 (.move (X.i 4))]
def C.q24_r2 : List IOper := C.q24_r2_b
def C.q24_r2_w := @aopsE _ _ C.q24_r2.eq_1
def C.q24_c10 : ICode := .seq (.region C.q24_r2) .ret
def C.q24_c10_w := @awpE _ _ C.q24_c10.eq_1
def C.q24_c11 : ICode := .keep [0, 1, 10] (.cond (X.s 10) C.q24_c10 .skip)
def C.q24_c11_w := @awpE _ _ C.q24_c11.eq_1
def C.q24_r1_b : List IOper := [
 X.m 7 0,
 X.m 8 1,
 X.o 9 (.call F.q25 [X.s 7, X.s 8]),
 X.o 10 (.un .not (X.s 9))]
def C.q24_r1 : List IOper := C.q24_r1_b
def C.q24_r1_w := @aopsE _ _ C.q24_r1.eq_1
def C.q24_c12 : ICode := .keep [0, 1] (.seq (.seq (.region C.q24_r1) C.q24_c11) C.q24_c9)
def C.q24_c12_w := @awpE _ _ C.q24_c12.eq_1
def C.q24_r0_b : List IOper := [
 X.o 4 (.move (X.i 0))]
def C.q24_r0 : List IOper := C.q24_r0_b
def C.q24_r0_w := @aopsE _ _ C.q24_r0.eq_1
def C.q24 : IFunc := ⟨2, [.slot 4], .seq (.region C.q24_r0) C.q24_c12⟩
def C.q24_W := And.intro (And.intro (And.intro (And.intro @C.q24_r10_w @C.q24_c1_w) (And.intro @C.q24_r9_w (And.intro @C.q24_c2_w @C.q24_r8_w))) (And.intro (And.intro @C.q24_c3_w (And.intro @C.q24_r7_w @C.q24_c4_w)) (And.intro @C.q24_r6_w (And.intro @C.q24_c5_w @C.q24_c6_w)))) (And.intro (And.intro (And.intro @C.q24_r5_w (And.intro @C.q24_c7_w @C.q24_r4_w)) (And.intro @C.q24_c8_w (And.intro @C.q24_r3_w @C.q24_c9_w))) (And.intro (And.intro @C.q24_r2_w (And.intro @C.q24_c10_w @C.q24_c11_w)) (And.intro @C.q24_r1_w (And.intro @C.q24_c12_w @C.q24_r0_w))))
def C.q24_B := And.intro (And.intro (And.intro @C.q24_r10_b.eq_1 @C.q24_r9_b.eq_1) (And.intro @C.q24_r8_b.eq_1 (And.intro @C.q24_r7_b.eq_1 @C.q24_r6_b.eq_1))) (And.intro (And.intro @C.q24_r5_b.eq_1 (And.intro @C.q24_r4_b.eq_1 @C.q24_r3_b.eq_1)) (And.intro @C.q24_r2_b.eq_1 (And.intro @C.q24_r1_b.eq_1 @C.q24_r0_b.eq_1)))

def C.q20_r14_b : List IOper := [
 X.o 6 (.move (X.i 0))]
def C.q20_r14 : List IOper := C.q20_r14_b
def C.q20_r14_w := @aopsE _ _ C.q20_r14.eq_1
def C.q20_c1 : ICode := .keep [] (.seq (.region C.q20_r14) .ret)
def C.q20_c1_w := @awpE _ _ C.q20_c1.eq_1
def C.q20_r13_b : List IOper := [
 X.m 81 0,
 X.o 82 (.nilchk (X.s 81)),
 X.o 83 (.fldAddr 1 (X.s 82)),
 X.o 84 (.load1 (X.s 83)),
 X.m 85 1,
 X.m 86 2,
 X.o 87 (.idxAddr 3 (X.s 84) (X.s 85)),
 X.o 88 (.fldAddr 2 (X.s 87)),
 X.n (.store1 (X.s 88) (X.s 86))]
def C.q20_r13 : List IOper := C.q20_r13_b
def C.q20_r13_w := @aopsE _ _ C.q20_r13.eq_1
def C.q20_c2 : ICode := .keep [0, 1, 2] (.seq (.region C.q20_r13) C.q20_c1)
def C.q20_c2_w := @awpE _ _ C.q20_c2.eq_1
def C.q20_r12_b : List IOper := [
 X.m 74 0,
 X.o 75 (.nilchk (X.s 74)),
 X.o 76 (.fldAddr 1 (X.s 75)),
 X.o 77 (.load1 (X.s 76)),
 X.m 78 1,
 X.o 79 (.idxAddr 3 (X.s 77) (X.s 78)),
 X.o 80 (.fldAddr 0 (X.s 79)),
 X.n (.store1 (X.s 80) (.cst (.int .u8 99)))]
def C.q20_r12 : List IOper := C.q20_r12_b
def C.q20_r12_w := @aopsE _ _ C.q20_r12.eq_1
def C.q20_c3 : ICode := .keep [0, 1, 2] (.seq (.region C.q20_r12) C.q20_c2)
def C.q20_c3_w := @awpE _ _ C.q20_c3.eq_1
def C.q20_r9_b : List IOper := [
 X.m 40 7,
 X.o 41 (.bin .add (X.s 40) (X.i 1)),
 X.m 7 41]
def C.q20_r9 : List IOper := C.q20_r9_b
def C.q20_r9_w := @aopsE _ _ C.q20_r9.eq_1
def C.q20_c4 : ICode := .keep [0, 1, 2, 7] (.region C.q20_r9)
def C.q20_c4_w := @awpE _ _ C.q20_c4.eq_1
def C.q20_r11_b : List IOper := [
 X.o 6 (.move (X.i 7))]
def C.q20_r11 : List IOper := C.q20_r11_b
def C.q20_r11_w := @aopsE _ _ C.q20_r11.eq_1
def C.q20_c5 : ICode := .seq (.region C.q20_r11) .ret
def C.q20_c5_w := @awpE _ _ C.q20_c5.eq_1
def C.q20_c6 : ICode := .keep [0, 1, 2, 7, 73] (.cond (X.s 73) C.q20_c5 .skip)
def C.q20_c6_w := @awpE _ _ C.q20_c6.eq_1
def C.q20_r10_b : List IOper := [
 X.m 42 0,
 X.o 43 (.nilchk (X.s 42)),
 X.o 44 (.fldAddr 0 (X.s 43)),
 X.o 45 (.load1 (X.s 44)),
 X.m 46 7,
 X.o 47 (.idxAddr 3 (X.s 45) (X.s 46)),
 X.o 48 (.fldAddr 0 (X.s 47)),
 X.o 49 (.load1 (X.s 48)),
 X.m 50 1,
 X.o 51 (.bin .eql (X.s 49) (X.s 50)),
 X.m 52 51,
 X.t 52 53 (.move (X.s 0)),
 X.t 52 54 (.nilchk (X.s 53)),
 X.t 52 55 (.fldAddr 1 (X.s 54)),
 X.t 52 56 (.load1 (X.s 55)),
 X.t 52 57 (.move (X.s 7)),
 X.t 52 58 (.idxAddr 3 (X.s 56) (X.s 57)),
 X.t 52 59 (.fldAddr 0 (X.s 58)),
 X.t 52 60 (.load1 (X.s 59)),
 X.t 52 61 (.bin .neq (X.s 60) (.cst (.int .u8 48))),
 X.o 62 (.pick (X.s 52) (X.s 61) (.cst (.bool false))),
 X.m 63 62,
 X.t 63 64 (.move (X.s 0)),
 X.t 63 65 (.nilchk (X.s 64)),
 X.t 63 66 (.fldAddr 1 (X.s 65)),
 X.t 63 67 (.load1 (X.s 66)),
 X.t 63 68 (.move (X.s 7)),
 X.t 63 69 (.idxAddr 3 (X.s 67) (X.s 68)),
 X.t 63 70 (.fldAddr 0 (X.s 69)),
 X.t 63 71 (.load1 (X.s 70)),
 X.t 63 72 (.bin .neq (X.s 71) (.cst (.int .u8 116))),
 X.o 73 (.pick (X.s 63) (X.s 72) (.cst (.bool false)))]
def C.q20_r10 : List IOper := C.q20_r10_b
def C.q20_r10_w := @aopsE _ _ C.q20_r10.eq_1
def C.q20_b7 : ICode := .seq (.region C.q20_r10) C.q20_c6
def C.q20_b7_w := @awpE _ _ C.q20_b7.eq_1
def C.q20_c8 : ICode := .keep [0, 1, 2, 7] (.seq (.block 1 C.q20_b7) C.q20_c4)
def C.q20_c8_w := @awpE _ _ C.q20_c8.eq_1
def C.q20_c9 : ICode := .keep [0, 1, 2, 7, 39] (.cond (X.s 39) .skip (.exit 0))
def C.q20_c9_w := @awpE _ _ C.q20_c9.eq_1
def C.q20_r8_b : List IOper := [
 X.m 33 7,
 X.m 34 0,
 X.o 35 (.nilchk (X.s 34)),
 X.o 36 (.fldAddr 0 (X.s 35)),
 X.o 37 (.load1 (X.s 36)),
 X.o 38 (.len (X.s 37)),
 X.o 39 (.bin .lss (X.s 33) (X.s 38))]
def C.q20_r8 : List IOper := C.q20_r8_b
def C.q20_r8_w := @aopsE _ _ C.q20_r8.eq_1
def C.q20_l10 : ICode := .keep [0, 1, 2, 7] (.seq (.seq (.region C.q20_r8) C.q20_c9) C.q20_c8)
def C.q20_l10_w := @awpE _ _ C.q20_l10.eq_1
def C.q20_b11 : ICode := .loop C.q20_l10
def C.q20_b11_w := @awpE _ _ C.q20_b11.eq_1
def C.q20_c12 : ICode := .keep [0, 1, 2, 7] (.block 0 C.q20_b11)
def C.q20_c12_w := @awpE _ _ C.q20_c12.eq_1
def C.q20_r7_b : List IOper := [
 X.o 7 (.move (X.i 0))]
def C.q20_r7 : List IOper := C.q20_r7_b
def C.q20_r7_w := @aopsE _ _ C.q20_r7.eq_1
def C.q20_c13 : ICode := .keep [0, 1, 2] (.seq (.seq (.region C.q20_r7) C.q20_c12) C.q20_c3)
def C.q20_c13_w := @awpE _ _ C.q20_c13.eq_1
def C.q20_r6_b : List IOper := [
 X.o 6 (.move (X.i 1))]
def C.q20_r6 : List IOper := C.q20_r6_b
def C.q20_r6_w := @aopsE _ _ C.q20_r6.eq_1
def C.q20_c14 : ICode := .seq (.region C.q20_r6) .ret
def C.q20_c14_w := @awpE _ _ C.q20_c14.eq_1
def C.q20_c15 : ICode := .keep [0, 1, 2, 32] (.cond (X.s 32) C.q20_c14 .skip)
def C.q20_c15_w := @awpE _ _ C.q20_c15.eq_1
def C.q20_r5_b : List IOper := [
 X.m 21 2,
 X.m 22 21,
 X.t 22 23 (.move (X.s 0)),
 X.t 22 24 (.nilchk (X.s 23)),
 X.t 22 25 (.fldAddr 0 (X.s 24)),
 X.t 22 26 (.load1 (X.s 25)),
 X.t 22 27 (.move (X.s 1)),
 X.t 22 28 (.idxAddr 3 (X.s 26) (X.s 27)),
 X.t 22 29 (.fldAddr 2 (X.s 28)),
 X.t 22 30 (.load1 (X.s 29)),
 X.t 22 31 (.un .not (X.s 30)),
 X.o 32 (.pick (X.s 22) (X.s 31) (.cst (.bool false)))]
def C.q20_r5 : List IOper := C.q20_r5_b
def C.q20_r5_w := @aopsE _ _ C.q20_r5.eq_1
def C.q20_c16 : ICode := .keep [0, 1, 2] (.seq (.seq (.region C.q20_r5) C.q20_c15) C.q20_c13)
def C.q20_c16_w := @awpE _ _ C.q20_c16.eq_1
def C.q20_r4_b : List IOper := [
 X.o 6 (.move (X.i 6))]
def C.q20_r4 : List IOper := C.q20_r4_b
def C.q20_r4_w := @aopsE _ _ C.q20_r4.eq_1
def C.q20_c17 : ICode := .seq (.region C.q20_r4) .ret
def C.q20_c17_w := @awpE _ _ C.q20_c17.eq_1
def C.q20_c18 : ICode := .keep [0, 1, 2, 20] (.cond (X.s 20) C.q20_c17 .skip)
def C.q20_c18_w := @awpE _ _ C.q20_c18.eq_1
def C.q20_r3_b : List IOper := [
 X.m 12 0,
 X.o 13 (.nilchk (X.s 12)),
 X.o 14 (.fldAddr 1 (X.s 13)),
 X.o 15 (.load1 (X.s 14)),
 X.m 16 1,
 X.o 17 (.idxAddr 3 (X.s 15) (X.s 16)),
 X.o 18 (.fldAddr 0 (X.s 17)),
 X.o 19 (.load1 (X.s 18)),
 X.o 20 (.bin .neq (X.s 19) (.cst (.int .u8 49)))]
def C.q20_r3 : List IOper := C.q20_r3_b
def C.q20_r3_w := @aopsE _ _ C.q20_r3.eq_1
def C.q20_c19 : ICode := .keep [0, 1, 2] (.seq (.seq (.region C.q20_r3) C.q20_c18) C.q20_c16)
def C.q20_c19_w := @awpE _ _ C.q20_c19.eq_1
def C.q20_r2_b : List IOper := [
 X.o 6 (.move (X.i 4))]
def C.q20_r2 : List IOper := C.q20_r2_b
def C.q20_r2_w := @aopsE _ _ C.q20_r2.eq_1
def C.q20_c20 : ICode := .seq (.region C.q20_r2) .ret
def C.q20_c20_w := @awpE _ _ C.q20_c20.eq_1
def C.q20_c21 : ICode := .keep [0, 1, 2, 11] (.cond (X.s 11) C.q20_c20 .skip)
def C.q20_c21_w := @awpE _ _ C.q20_c21.eq_1
def C.q20_r1_b : List IOper := [
 X.m 8 0,
 X.m 9 1,
 X.o 10 (.call F.q25 [X.s 8, X.s 9]),
 X.o 11 (.un .not (X.s 10))]
def C.q20_r1 : List IOper := C.q20_r1_b
def C.q20_r1_w := @aopsE _ _ C.q20_r1.eq_1
def C.q20_c22 : ICode := .keep [0, 1, 2] (.seq (.seq (.region C.q20_r1) C.q20_c21) C.q20_c19)
def C.q20_c22_w := @awpE _ _ C.q20_c22.eq_1
def C.q20_r0_b : List IOper := [
 X.o 6 (.move (X.i 0))]
def C.q20_r0 : List IOper := C.q20_r0_b
def C.q20_r0_w := @aopsE _ _ C.q20_r0.eq_1
def C.q20 : IFunc := ⟨3, [.slot 6], .seq (.region C.q20_r0) C.q20_c22⟩
def C.q20_W := And.intro (And.intro (And.intro (And.intro (And.intro @C.q20_r14_w @C.q20_c1_w) (And.intro @C.q20_r13_w @C.q20_c2_w)) (And.intro (And.intro @C.q20_r12_w @C.q20_c3_w) (And.intro @C.q20_r9_w (And.intro @C.q20_c4_w @C.q20_r11_w)))) (And.intro (And.intro (And.intro @C.q20_c5_w @C.q20_c6_w) (And.intro @C.q20_r10_w @C.q20_b7_w)) (And.intro (And.intro @C.q20_c8_w @C.q20_c9_w) (And.intro @C.q20_r8_w (And.intro @C.q20_b11_w @C.q20_c12_w))))) (And.intro (And.intro (And.intro (And.intro @C.q20_r7_w @C.q20_c13_w) (And.intro @C.q20_r6_w @C.q20_c14_w)) (And.intro (And.intro @C.q20_c15_w @C.q20_r5_w) (And.intro @C.q20_c16_w (And.intro @C.q20_r4_w @C.q20_c17_w)))) (And.intro (And.intro (And.intro @C.q20_c18_w @C.q20_r3_w) (And.intro @C.q20_c19_w @C.q20_r2_w)) (And.intro (And.intro @C.q20_c20_w @C.q20_c21_w) (And.intro @C.q20_r1_w (And.intro @C.q20_c22_w @C.q20_r0_w)))))
def C.q20_B := And.intro (And.intro (And.intro @C.q20_r14_b.eq_1 (And.intro @C.q20_r13_b.eq_1 @C.q20_r12_b.eq_1)) (And.intro (And.intro @C.q20_r9_b.eq_1 @C.q20_r11_b.eq_1) (And.intro @C.q20_r10_b.eq_1 @C.q20_r8_b.eq_1))) (And.intro (And.intro (And.intro @C.q20_r7_b.eq_1 @C.q20_r6_b.eq_1) (And.intro @C.q20_r5_b.eq_1 @C.q20_r4_b.eq_1)) (And.intro (And.intro @C.q20_r3_b.eq_1 @C.q20_r2_b.eq_1) (And.intro @C.q20_r1_b.eq_1 @C.q20_r0_b.eq_1)))

def C.q27_r8_b : List IOper := [
 X.o 4 (.move (.cst (.bool true)))]
def C.q27_r8 : List IOper := C.q27_r8_b
def C.q27_r8_w := @aopsE _ _ C.q27_r8.eq_1
def C.q27_c1 : ICode := .keep [] (.seq (.region C.q27_r8) .ret)
def C.q27_c1_w := @awpE _ _ C.q27_c1.eq_1
def C.q27_r5_b : List IOper := [
 X.m 15 5,
 X.o 16 (.bin .add (X.s 15) (X.i 1)),
 X.m 5 16]
def C.q27_r5 : List IOper := C.q27_r5_b
def C.q27_r5_w := @aopsE _ _ C.q27_r5.eq_1
def C.q27_c2 : ICode := .keep [0, 1, 5] (.region C.q27_r5)
def C.q27_c2_w := @awpE _ _ C.q27_c2.eq_1
def C.q27_r7_b : List IOper := [
 X.o 4 (.move (.cst (.bool false)))]
def C.q27_r7 : List IOper := C.q27_r7_b
def C.q27_r7_w := @aopsE _ _ C.q27_r7.eq_1
def C.q27_c3 : ICode := .seq (.region C.q27_r7) .ret
def C.q27_c3_w := @awpE _ _ C.q27_c3.eq_1
def C.q27_c4 : ICode := .keep [0, 1, 5, 40] (.cond (X.s 40) C.q27_c3 .skip)
def C.q27_c4_w := @awpE _ _ C.q27_c4.eq_1
def C.q27_r6_b : List IOper := [
 X.m 17 0,
 X.m 18 5,
 X.o 19 (.idxAddr 2 (X.s 17) (X.s 18)),
 X.o 20 (.fldAddr 0 (X.s 19)),
 X.o 21 (.load1 (X.s 20)),
 X.m 22 1,
 X.m 23 5,
 X.o 24 (.idxAddr 2 (X.s 22) (X.s 23)),
 X.o 25 (.fldAddr 0 (X.s 24)),
 X.o 26 (.load1 (X.s 25)),
 X.o 27 (.bin .neq (X.s 21) (X.s 26)),
 X.m 28 27,
 X.f 28 29 (.move (X.s 0)),
 X.f 28 30 (.move (X.s 5)),
 X.f 28 31 (.idxAddr 2 (X.s 29) (X.s 30)),
 X.f 28 32 (.fldAddr 1 (X.s 31)),
 X.f 28 33 (.load1 (X.s 32)),
 X.f 28 34 (.move (X.s 1)),
 X.f 28 35 (.move (X.s 5)),
 X.f 28 36 (.idxAddr 2 (X.s 34) (X.s 35)),
 X.f 28 37 (.fldAddr 1 (X.s 36)),
 X.f 28 38 (.load1 (X.s 37)),
 X.f 28 39 (.bin .neq (X.s 33) (X.s 38)),
 X.o 40 (.pick (X.s 28) (.cst (.bool true)) (X.s 39))]
def C.q27_r6 : List IOper := C.q27_r6_b
def C.q27_r6_w := @aopsE _ _ C.q27_r6.eq_1
def C.q27_b5 : ICode := .seq (.region C.q27_r6) C.q27_c4
def C.q27_b5_w := @awpE _ _ C.q27_b5.eq_1
def C.q27_c6 : ICode := .keep [0, 1, 5] (.seq (.block 1 C.q27_b5) C.q27_c2)
def C.q27_c6_w := @awpE _ _ C.q27_c6.eq_1
def C.q27_c7 : ICode := .keep [0, 1, 5, 14] (.cond (X.s 14) .skip (.exit 0))
def C.q27_c7_w := @awpE _ _ C.q27_c7.eq_1
def C.q27_r4_b : List IOper := [
 X.m 11 5,
 X.m 12 0,
 X.o 13 (.len (X.s 12)),
 X.o 14 (.bin .lss (X.s 11) (X.s 13))]
def C.q27_r4 : List IOper := C.q27_r4_b
def C.q27_r4_w := @aopsE _ _ C.q27_r4.eq_1
def C.q27_l8 : ICode := .keep [0, 1, 5] (.seq (.seq (.region C.q27_r4) C.q27_c7) C.q27_c6)
def C.q27_l8_w := @awpE _ _ C.q27_l8.eq_1
def C.q27_b9 : ICode := .loop C.q27_l8
def C.q27_b9_w := @awpE _ _ C.q27_b9.eq_1
def C.q27_c10 : ICode := .keep [0, 1, 5] (.block 0 C.q27_b9)
def C.q27_c10_w := @awpE _ _ C.q27_c10.eq_1
def C.q27_r3_b : List IOper := [
 X.o 5 (.move (X.i 0))]
def C.q27_r3 : List IOper := C.q27_r3_b
def C.q27_r3_w := @aopsE _ _ C.q27_r3.eq_1
def C.q27_c11 : ICode := .keep [0, 1] (.seq (.seq (.region C.q27_r3) C.q27_c10) C.q27_c1)
def C.q27_c11_w := @awpE _ _ C.q27_c11.eq_1
def C.q27_r2_b : List IOper := [
 X.o 4 (.move (.cst (.bool false)))]
def C.q27_r2 : List IOper := C.q27_r2_b
def C.q27_r2_w := @aopsE _ _ C.q27_r2.eq_1
def C.q27_c12 : ICode := .seq (.region C.q27_r2) .ret
def C.q27_c12_w := @awpE _ _ C.q27_c12.eq_1
def C.q27_c13 : ICode := .keep [0, 1, 10] (.cond (X.s 10) C.q27_c12 .skip)
def C.q27_c13_w := @awpE _ _ C.q27_c13.eq_1
def C.q27_r1_b : List IOper := [
 X.m 6 0,
 X.o 7 (.len (X.s 6)),
 X.m 8 1,
 X.o 9 (.len (X.s 8)),
 X.o 10 (.bin .neq (X.s 7) (X.s 9))]
def C.q27_r1 : List IOper := C.q27_r1_b
def C.q27_r1_w := @aopsE _ _ C.q27_r1.eq_1
def C.q27_c14 : ICode := .keep [0, 1] (.seq (.seq (.region C.q27_r1) C.q27_c13) C.q27_c11)
def C.q27_c14_w := @awpE _ _ C.q27_c14.eq_1
def C.q27_r0_b : List IOper := [
 X.o 4 (.move (.cst (.bool false)))]
def C.q27_r0 : List IOper := C.q27_r0_b
def C.q27_r0_w := @aopsE _ _ C.q27_r0.eq_1
def C.q27 : IFunc := ⟨2, [.slot 4], .seq (.region C.q27_r0) C.q27_c14⟩
def C.q27_W := And.intro (And.intro (And.intro (And.intro @C.q27_r8_w @C.q27_c1_w) (And.intro @C.q27_r5_w (And.intro @C.q27_c2_w @C.q27_r7_w))) (And.intro (And.intro @C.q27_c3_w (And.intro @C.q27_c4_w @C.q27_r6_w)) (And.intro @C.q27_b5_w (And.intro @C.q27_c6_w @C.q27_c7_w)))) (And.intro (And.intro (And.intro @C.q27_r4_w @C.q27_b9_w) (And.intro @C.q27_c10_w (And.intro @C.q27_r3_w @C.q27_c11_w))) (And.intro (And.intro @C.q27_r2_w (And.intro @C.q27_c12_w @C.q27_c13_w)) (And.intro @C.q27_r1_w (And.intro @C.q27_c14_w @C.q27_r0_w))))
def C.q27_B := And.intro (And.intro (And.intro @C.q27_r8_b.eq_1 @C.q27_r5_b.eq_1) (And.intro @C.q27_r7_b.eq_1 @C.q27_r6_b.eq_1)) (And.intro (And.intro @C.q27_r4_b.eq_1 @C.q27_r3_b.eq_1) (And.intro @C.q27_r2_b.eq_1 (And.intro @C.q27_r1_b.eq_1 @C.q27_r0_b.eq_1)))

def C.q1_r6_b : List IOper := [
 X.m 25 3,
 X.m 2 25]
def C.q1_r6 : List IOper := C.q1_r6_b
def C.q1_r6_w := @aopsE _ _ C.q1_r6.eq_1
def C.q1_c1 : ICode := .keep [3] (.seq (.region C.q1_r6) .ret)
def C.q1_c1_w := @awpE _ _ C.q1_c1.eq_1
def C.q1_r4_b : List IOper := [
 X.m 9 4,
 X.o 10 (.bin .add (X.s 9) (X.i 1)),
 X.m 4 10]
def C.q1_r4 : List IOper := C.q1_r4_b
def C.q1_r4_w := @aopsE _ _ C.q1_r4.eq_1
def C.q1_c2 : ICode := .keep [0, 3, 4] (.region C.q1_r4)
def C.q1_c2_w := @awpE _ _ C.q1_c2.eq_1
def C.q1_r5_b : List IOper := [
 X.m 11 3,
 X.m 12 0,
 X.m 13 4,
 X.o 14 (.idxAddr 2 (X.s 12) (X.s 13)),
 X.o 15 (.fldAddr 0 (X.s 14)),
 X.o 16 (.load1 (X.s 15)),
 X.m 17 0,
 X.m 18 4,
 X.o 19 (.idxAddr 2 (X.s 17) (X.s 18)),
 X.o 20 (.fldAddr 1 (X.s 19)),
 X.o 21 (.load1 (X.s 20)),
 X.o 22 (.build [.int .u8 0, .int .i64 0] [(0, 1, X.s 16), (1, 1, X.s 21)]),
 X.o 23 (.buildSlice 2 1 [.int .u8 0, .int .i64 0] [(0, 2, X.s 22)]),
 X.o 24 (.append 2 16 (X.s 11) (X.s 23)),
 X.m 3 24]
def C.q1_r5 : List IOper := C.q1_r5_b
def C.q1_r5_w := @aopsE _ _ C.q1_r5.eq_1
def C.q1_b3 : ICode := .region C.q1_r5
def C.q1_b3_w := @awpE _ _ C.q1_b3.eq_1
def C.q1_c4 : ICode := .keep [0, 3, 4] (.seq (.block 1 C.q1_b3) C.q1_c2)
def C.q1_c4_w := @awpE _ _ C.q1_c4.eq_1
def C.q1_c5 : ICode := .keep [0, 3, 4, 8] (.cond (X.s 8) .skip (.exit 0))
def C.q1_c5_w := @awpE _ _ C.q1_c5.eq_1
def C.q1_r3_b : List IOper := [
 X.m 5 4,
 X.m 6 0,
 X.o 7 (.len (X.s 6)),
 X.o 8 (.bin .lss (X.s 5) (X.s 7))]
def C.q1_r3 : List IOper := C.q1_r3_b
def C.q1_r3_w := @aopsE _ _ C.q1_r3.eq_1
def C.q1_l6 : ICode := .keep [0, 3, 4] (.seq (.seq (.region C.q1_r3) C.q1_c5) C.q1_c4)
def C.q1_l6_w := @awpE _ _ C.q1_l6.eq_1
def C.q1_b7 : ICode := .loop C.q1_l6
def C.q1_b7_w := @awpE _ _ C.q1_b7.eq_1
def C.q1_c8 : ICode := .keep [0, 3, 4] (.block 0 C.q1_b7)
def C.q1_c8_w := @awpE _ _ C.q1_c8.eq_1
def C.q1_r2_b : List IOper := [
 X.o 4 (.move (X.i 0))]
def C.q1_r2 : List IOper := C.q1_r2_b
def C.q1_r2_w := @aopsE _ _ C.q1_r2.eq_1
def C.q1_c9 : ICode := .keep [0, 3] (.seq (.seq (.region C.q1_r2) C.q1_c8) C.q1_c1)
def C.q1_c9_w := @awpE _ _ C.q1_c9.eq_1
def C.q1_r1_b : List IOper := [
 X.o 3 (.move (.cst (.nils)))]
def C.q1_r1 : List IOper := C.q1_r1_b
def C.q1_r1_w := @aopsE _ _ C.q1_r1.eq_1
def C.q1_c10 : ICode := .keep [0] (.seq (.region C.q1_r1) C.q1_c9)
def C.q1_c10_w := @awpE _ _ C.q1_c10.eq_1
def C.q1_r0_b : List IOper := [
 X.o 2 (.move (.cst (.nils)))]
def C.q1_r0 : List IOper := C.q1_r0_b
def C.q1_r0_w := @aopsE _ _ C.q1_r0.eq_1
def C.q1 : IFunc := ⟨1, [.slot 2], .seq (.region C.q1_r0) C.q1_c10⟩
def C.q1_W := And.intro (And.intro (And.intro (And.intro @C.q1_r6_w @C.q1_c1_w) (And.intro @C.q1_r4_w @C.q1_c2_w)) (And.intro (And.intro @C.q1_r5_w @C.q1_b3_w) (And.intro @C.q1_c4_w @C.q1_c5_w))) (And.intro (And.intro (And.intro @C.q1_r3_w @C.q1_b7_w) (And.intro @C.q1_c8_w @C.q1_r2_w)) (And.intro (And.intro @C.q1_c9_w @C.q1_r1_w) (And.intro @C.q1_c10_w @C.q1_r0_w)))
def C.q1_B := And.intro (And.intro @C.q1_r6_b.eq_1 (And.intro @C.q1_r4_b.eq_1 @C.q1_r5_b.eq_1)) (And.intro (And.intro @C.q1_r3_b.eq_1 @C.q1_r2_b.eq_1) (And.intro @C.q1_r1_b.eq_1 @C.q1_r0_b.eq_1))

def C.q23_r24_b : List IOper := [
 X.m 100 3,
 X.m 2 100]
def C.q23_r24 : List IOper := C.q23_r24_b
def C.q23_r24_w := @aopsE _ _ C.q23_r24.eq_1
def C.q23_c1 : ICode := .keep [3] (.seq (.region C.q23_r24) .ret)
def C.q23_c1_w := @awpE _ _ C.q23_c1.eq_1
def C.q23_r4_b : List IOper := [
 X.m 13 4,
 X.o 14 (.bin .add (X.s 13) (X.i 1)),
 X.m 4 14]
def C.q23_r4 : List IOper := C.q23_r4_b
def C.q23_r4_w := @aopsE _ _ C.q23_r4.eq_1
def C.q23_c2 : ICode := .keep [0, 3, 4] (.region C.q23_r4)
def C.q23_c2_w := @awpE _ _ C.q23_c2.eq_1
def C.q23_r23_b : List IOper := [
 X.m 93 0,
 X.o 94 (.nilchk (X.s 93)),
 X.o 95 (.fldAddr 1 (X.s 94)),
 X.o 96 (.load1 (X.s 95)),
 X.m 97 4,
 X.o 98 (.loadN 3 (X.s 5)),
 X.o 99 (.idxAddr 3 (X.s 96) (X.s 97)),
 X.n (.storeN 3 (X.s 99) (X.s 98))]
def C.q23_r23 : List IOper := C.q23_r23_b
def C.q23_r23_w := @aopsE _ _ C.q23_r23.eq_1
def C.q23_c3 : ICode := .keep [0, 3, 4, 5] (.region C.q23_r23)
def C.q23_c3_w := @awpE _ _ C.q23_c3.eq_1
def C.q23_r7_b : List IOper := [
 X.o 31 (.fldAddr 1 (X.s 5)),
 X.o 32 (.load1 (X.s 31)),
 X.o 33 (.bin .sub (X.s 32) (X.i 1)),
 X.o 34 (.fldAddr 1 (X.s 5)),
 X.n (.store1 (X.s 34) (X.s 33))]
def C.q23_r7 : List IOper := C.q23_r7_b
def C.q23_r7_w := @aopsE _ _ C.q23_r7.eq_1
def C.q23_r10_b : List IOper := [
 X.m 44 3,
 X.m 45 4,
 X.o 46 (.build [.int .u8 0, .int .i64 0] [(0, 1, .cst (.int .u8 114)), (1, 1, X.s 45)]),
 X.o 47 (.buildSlice 2 1 [.int .u8 0, .int .i64 0] [(0, 2, X.s 46)]),
 X.o 48 (.append 2 16 (X.s 44) (X.s 47)),
 X.m 3 48]
def C.q23_r10 : List IOper := C.q23_r10_b
def C.q23_r10_w := @aopsE _ _ C.q23_r10.eq_1
def C.q23_c4 : ICode := .keep [0, 3, 4, 5] (.region C.q23_r10)
def C.q23_c4_w := @awpE _ _ C.q23_c4.eq_1
def C.q23_r9_b : List IOper := [
 X.o 43 (.fldAddr 0 (X.s 5)),
 X.n (.store1 (X.s 43) (.cst (.int .u8 104)))]
def C.q23_r9 : List IOper := C.q23_r9_b
def C.q23_r9_w := @aopsE _ _ C.q23_r9.eq_1
def C.q23_r13_b : List IOper := [
 X.m 54 3,
 X.m 55 4,
 X.o 56 (.build [.int .u8 0, .int .i64 0] [(0, 1, .cst (.int .u8 110)), (1, 1, X.s 55)]),
 X.o 57 (.buildSlice 2 1 [.int .u8 0, .int .i64 0] [(0, 2, X.s 56)]),
 X.o 58 (.append 2 16 (X.s 54) (X.s 57)),
 X.m 3 58]
def C.q23_r13 : List IOper := C.q23_r13_b
def C.q23_r13_w := @aopsE _ _ C.q23_r13.eq_1
def C.q23_c5 : ICode := .keep [0, 3, 4, 5] (.region C.q23_r13)
def C.q23_c5_w := @awpE _ _ C.q23_c5.eq_1
def C.q23_r12_b : List IOper := [
 X.o 53 (.fldAddr 0 (X.s 5)),
 X.n (.store1 (X.s 53) (.cst (.int .u8 104)))]
def C.q23_r12 : List IOper := C.q23_r12_b
def C.q23_r12_w := @aopsE _ _ C.q23_r12.eq_1
def C.q23_r16_b : List IOper := [
 X.m 64 3,
 X.m 65 4,
 X.o 66 (.build [.int .u8 0, .int .i64 0] [(0, 1, .cst (.int .u8 111)), (1, 1, X.s 65)]),
 X.o 67 (.buildSlice 2 1 [.int .u8 0, .int .i64 0] [(0, 2, X.s 66)]),
 X.o 68 (.append 2 16 (X.s 64) (X.s 67)),
 X.m 3 68]
def C.q23_r16 : List IOper := C.q23_r16_b
def C.q23_r16_w := @aopsE _ _ C.q23_r16.eq_1
def C.q23_c6 : ICode := .keep [0, 3, 4, 5] (.region C.q23_r16)
def C.q23_c6_w := @awpE _ _ C.q23_c6.eq_1
def C.q23_r15_b : List IOper := [
 X.o 63 (.fldAddr 0 (X.s 5)),
 X.n (.store1 (X.s 63) (.cst (.int .u8 49)))]
def C.q23_r15 : List IOper := C.q23_r15_b
def C.q23_r15_w := @aopsE _ _ C.q23_r15.eq_1
def C.q23_r19_b : List IOper := [
 X.m 78 3,
 X.m 79 4,
 X.o 80 (.build [.int .u8 0, .int .i64 0] [(0, 1, .cst (.int .u8 115)), (1, 1, X.s 79)]),
 X.o 81 (.buildSlice 2 1 [.int .u8 0, .int .i64 0] [(0, 2, X.s 80)]),
 X.o 82 (.append 2 16 (X.s 78) (X.s 81)),
 X.m 3 82]
def C.q23_r19 : List IOper := C.q23_r19_b
def C.q23_r19_w := @aopsE _ _ C.q23_r19.eq_1
def C.q23_c7 : ICode := .keep [0, 3, 4, 5] (.region C.q23_r19)
def C.q23_c7_w := @awpE _ _ C.q23_c7.eq_1
def C.q23_r18_b : List IOper := [
 X.o 77 (.fldAddr 0 (X.s 5)),
 X.n (.store1 (X.s 77) (.cst (.int .u8 116)))]
def C.q23_r18 : List IOper := C.q23_r18_b
def C.q23_r18_w := @aopsE _ _ C.q23_r18.eq_1
def C.q23_r22_b : List IOper := [
 X.m 88 3,
 X.m 89 4,
 X.o 90 (.build [.int .u8 0, .int .i64 0] [(0, 1, .cst (.int .u8 108)), (1, 1, X.s 89)]),
 X.o 91 (.buildSlice 2 1 [.int .u8 0, .int .i64 0] [(0, 2, X.s 90)]),
 X.o 92 (.append 2 16 (X.s 88) (X.s 91)),
 X.m 3 92]
def C.q23_r22 : List IOper := C.q23_r22_b
def C.q23_r22_w := @aopsE _ _ C.q23_r22.eq_1
def C.q23_c8 : ICode := .keep [0, 3, 4, 5] (.region C.q23_r22)
def C.q23_c8_w := @awpE _ _ C.q23_c8.eq_1
def C.q23_r21_b : List IOper := [
 X.o 87 (.fldAddr 0 (X.s 5)),
 X.n (.store1 (X.s 87) (.cst (.int .u8 48)))]
def C.q23_r21 : List IOper := C.q23_r21_b
def C.q23_r21_w := @aopsE _ _ C.q23_r21.eq_1
def C.q23_c9 : ICode := .seq (.region C.q23_r21) C.q23_c8
def C.q23_c9_w := @awpE _ _ C.q23_c9.eq_1
def C.q23_c10 : ICode := .keep [0, 3, 4, 5, 83] (.cond (X.s 83) C.q23_c9 .skip)
def C.q23_c10_w := @awpE _ _ C.q23_c10.eq_1
def C.q23_r20_b : List IOper := [
 X.o 84 (.fldAddr 0 (X.s 5)),
 X.o 85 (.load1 (X.s 84)),
 X.o 86 (.bin .eql (X.s 85) (.cst (.int .u8 99))),
 X.m 83 86]
def C.q23_r20 : List IOper := C.q23_r20_b
def C.q23_r20_w := @aopsE _ _ C.q23_r20.eq_1
def C.q23_c11 : ICode := .seq (.region C.q23_r18) C.q23_c7
def C.q23_c11_w := @awpE _ _ C.q23_c11.eq_1
def C.q23_c12 : ICode := .seq (.region C.q23_r20) C.q23_c10
def C.q23_c12_w := @awpE _ _ C.q23_c12.eq_1
def C.q23_c13 : ICode := .keep [0, 3, 4, 5, 69] (.cond (X.s 69) C.q23_c11 C.q23_c12)
def C.q23_c13_w := @awpE _ _ C.q23_c13.eq_1
def C.q23_r17_b : List IOper := [
 X.o 70 (.fldAddr 0 (X.s 5)),
 X.o 71 (.load1 (X.s 70)),
 X.o 72 (.bin .eql (X.s 71) (.cst (.int .u8 99))),
 X.m 73 72,
 X.t 73 74 (.fldAddr 2 (X.s 5)),
 X.t 73 75 (.load1 (X.s 74)),
 X.o 76 (.pick (X.s 73) (X.s 75) (.cst (.bool false))),
 X.m 69 76]
def C.q23_r17 : List IOper := C.q23_r17_b
def C.q23_r17_w := @aopsE _ _ C.q23_r17.eq_1
def C.q23_c14 : ICode := .seq (.region C.q23_r15) C.q23_c6
def C.q23_c14_w := @awpE _ _ C.q23_c14.eq_1
def C.q23_c15 : ICode := .seq (.region C.q23_r17) C.q23_c13
def C.q23_c15_w := @awpE _ _ C.q23_c15.eq_1
def C.q23_c16 : ICode := .keep [0, 3, 4, 5, 59] (.cond (X.s 59) C.q23_c14 C.q23_c15)
def C.q23_c16_w := @awpE _ _ C.q23_c16.eq_1
def C.q23_r14_b : List IOper := [
 X.o 60 (.fldAddr 0 (X.s 5)),
 X.o 61 (.load1 (X.s 60)),
 X.o 62 (.bin .eql (X.s 61) (.cst (.int .u8 104))),
 X.m 59 62]
def C.q23_r14 : List IOper := C.q23_r14_b
def C.q23_r14_w := @aopsE _ _ C.q23_r14.eq_1
def C.q23_c17 : ICode := .seq (.region C.q23_r12) C.q23_c5
def C.q23_c17_w := @awpE _ _ C.q23_c17.eq_1
def C.q23_c18 : ICode := .seq (.region C.q23_r14) C.q23_c16
def C.q23_c18_w := @awpE _ _ C.q23_c18.eq_1
def C.q23_c19 : ICode := .keep [0, 3, 4, 5, 49] (.cond (X.s 49) C.q23_c17 C.q23_c18)
def C.q23_c19_w := @awpE _ _ C.q23_c19.eq_1
def C.q23_r11_b : List IOper := [
 X.o 50 (.fldAddr 0 (X.s 5)),
 X.o 51 (.load1 (X.s 50)),
 X.o 52 (.bin .eql (X.s 51) (.cst (.int .u8 114))),
 X.m 49 52]
def C.q23_r11 : List IOper := C.q23_r11_b
def C.q23_r11_w := @aopsE _ _ C.q23_r11.eq_1
def C.q23_c20 : ICode := .seq (.region C.q23_r9) C.q23_c4
def C.q23_c20_w := @awpE _ _ C.q23_c20.eq_1
def C.q23_c21 : ICode := .seq (.region C.q23_r11) C.q23_c19
def C.q23_c21_w := @awpE _ _ C.q23_c21.eq_1
def C.q23_c22 : ICode := .keep [0, 3, 4, 5, 35] (.cond (X.s 35) C.q23_c20 C.q23_c21)
def C.q23_c22_w := @awpE _ _ C.q23_c22.eq_1
def C.q23_r8_b : List IOper := [
 X.o 36 (.fldAddr 0 (X.s 5)),
 X.o 37 (.load1 (X.s 36)),
 X.o 38 (.bin .eql (X.s 37) (.cst (.int .u8 114))),
 X.m 39 38,
 X.t 39 40 (.fldAddr 2 (X.s 5)),
 X.t 39 41 (.load1 (X.s 40)),
 X.o 42 (.pick (X.s 39) (X.s 41) (.cst (.bool false))),
 X.m 35 42]
def C.q23_r8 : List IOper := C.q23_r8_b
def C.q23_r8_w := @aopsE _ _ C.q23_r8.eq_1
def C.q23_c23 : ICode := .region C.q23_r7
def C.q23_c23_w := @awpE _ _ C.q23_c23.eq_1
def C.q23_c24 : ICode := .seq (.region C.q23_r8) C.q23_c22
def C.q23_c24_w := @awpE _ _ C.q23_c24.eq_1
def C.q23_c25 : ICode := .keep [0, 3, 4, 5, 22] (.cond (X.s 22) C.q23_c23 C.q23_c24)
def C.q23_c25_w := @awpE _ _ C.q23_c25.eq_1
def C.q23_r6_b : List IOper := [
 X.o 23 (.fldAddr 0 (X.s 5)),
 X.o 24 (.load1 (X.s 23)),
 X.o 25 (.bin .eql (X.s 24) (.cst (.int .u8 114))),
 X.m 26 25,
 X.t 26 27 (.fldAddr 1 (X.s 5)),
 X.t 26 28 (.load1 (X.s 27)),
 X.t 26 29 (.bin .gtr (X.s 28) (X.i 0)),
 X.o 30 (.pick (X.s 26) (X.s 29) (.cst (.bool false))),
 X.m 22 30]
def C.q23_r6 : List IOper := C.q23_r6_b
def C.q23_r6_w := @aopsE _ _ C.q23_r6.eq_1
def C.q23_b26 : ICode := .seq (.region C.q23_r6) C.q23_c25
def C.q23_b26_w := @awpE _ _ C.q23_b26.eq_1
def C.q23_c27 : ICode := .keep [0, 3, 4, 5] (.seq (.block 2 C.q23_b26) C.q23_c3)
def C.q23_c27_w := @awpE _ _ C.q23_c27.eq_1
def C.q23_r5_b : List IOper := [
 X.m 15 0,
 X.o 16 (.nilchk (X.s 15)),
 X.o 17 (.fldAddr 1 (X.s 16)),
 X.o 18 (.load1 (X.s 17)),
 X.m 19 4,
 X.o 20 (.idxAddr 3 (X.s 18) (X.s 19)),
 X.o 21 (.loadN 3 (X.s 20)),
 X.o 5 (.alloc [.int .u8 0, .int .i64 0, .bool false]),
 X.n (.storeN 3 (X.s 5) (X.s 21))]
def C.q23_r5 : List IOper := C.q23_r5_b
def C.q23_r5_w := @aopsE _ _ C.q23_r5.eq_1
def C.q23_b28 : ICode := .seq (.region C.q23_r5) C.q23_c27
def C.q23_b28_w := @awpE _ _ C.q23_b28.eq_1
def C.q23_c29 : ICode := .keep [0, 3, 4] (.seq (.block 1 C.q23_b28) C.q23_c2)
def C.q23_c29_w := @awpE _ _ C.q23_c29.eq_1
def C.q23_c30 : ICode := .keep [0, 3, 4, 12] (.cond (X.s 12) .skip (.exit 0))
def C.q23_c30_w := @awpE _ _ C.q23_c30.eq_1
def C.q23_r3_b : List IOper := [
 X.m 6 4,
 X.m 7 0,
 X.o 8 (.nilchk (X.s 7)),
 X.o 9 (.fldAddr 1 (X.s 8)),
 X.o 10 (.load1 (X.s 9)),
 X.o 11 (.len (X.s 10)),
 X.o 12 (.bin .lss (X.s 6) (X.s 11))]
def C.q23_r3 : List IOper := C.q23_r3_b
def C.q23_r3_w := @aopsE _ _ C.q23_r3.eq_1
def C.q23_l31 : ICode := .keep [0, 3, 4] (.seq (.seq (.region C.q23_r3) C.q23_c30) C.q23_c29)
def C.q23_l31_w := @awpE _ _ C.q23_l31.eq_1
def C.q23_b32 : ICode := .loop C.q23_l31
def C.q23_b32_w := @awpE _ _ C.q23_b32.eq_1
def C.q23_c33 : ICode := .keep [0, 3, 4] (.block 0 C.q23_b32)
def C.q23_c33_w := @awpE _ _ C.q23_c33.eq_1
def C.q23_r2_b : List IOper := [
 X.o 4 (.move (X.i 0))]
def C.q23_r2 : List IOper := C.q23_r2_b
def C.q23_r2_w := @aopsE _ _ C.q23_r2.eq_1
def C.q23_c34 : ICode := .keep [0, 3] (.seq (.seq (.region C.q23_r2) C.q23_c33) C.q23_c1)
def C.q23_c34_w := @awpE _ _ C.q23_c34.eq_1
def C.q23_r1_b : List IOper := [
 X.o 3 (.move (.cst (.nils)))]
def C.q23_r1 : List IOper := C.q23_r1_b
def C.q23_r1_w := @aopsE _ _ C.q23_r1.eq_1
def C.q23_c35 : ICode := .keep [0] (.seq (.region C.q23_r1) C.q23_c34)
def C.q23_c35_w := @awpE _ _ C.q23_c35.eq_1
def C.q23_r0_b : List IOper := [
 X.o 2 (.move (.cst (.nils)))]
def C.q23_r0 : List IOper := C.q23_r0_b
def C.q23_r0_w := @aopsE _ _ C.q23_r0.eq_1
def C.q23 : IFunc := ⟨1, [.slot 2], .seq (.region C.q23_r0) C.q23_c35⟩
def C.q23_W := And.intro (And.intro (And.intro (And.intro (And.intro @C.q23_r24_w (And.intro @C.q23_c1_w @C.q23_r4_w)) (And.intro (And.intro @C.q23_c2_w @C.q23_r23_w) (And.intro @C.q23_c3_w @C.q23_r7_w))) (And.intro (And.intro @C.q23_r10_w (And.intro @C.q23_c4_w @C.q23_r9_w)) (And.intro (And.intro @C.q23_r13_w @C.q23_c5_w) (And.intro @C.q23_r12_w @C.q23_r16_w)))) (And.intro (And.intro (And.intro @C.q23_c6_w (And.intro @C.q23_r15_w @C.q23_r19_w)) (And.intro (And.intro @C.q23_c7_w @C.q23_r18_w) (And.intro @C.q23_r22_w @C.q23_c8_w))) (And.intro (And.intro (And.intro @C.q23_r21_w @C.q23_c9_w) (And.intro @C.q23_c10_w @C.q23_r20_w)) (And.intro (And.intro @C.q23_c11_w @C.q23_c12_w) (And.intro @C.q23_c13_w @C.q23_r17_w))))) (And.intro (And.intro (And.intro (And.intro @C.q23_c14_w (And.intro @C.q23_c15_w @C.q23_c16_w)) (And.intro (And.intro @C.q23_r14_w @C.q23_c17_w) (And.intro @C.q23_c18_w @C.q23_c19_w))) (And.intro (And.intro (And.intro @C.q23_r11_w @C.q23_c20_w) (And.intro @C.q23_c21_w @C.q23_c22_w)) (And.intro (And.intro @C.q23_r8_w @C.q23_c23_w) (And.intro @C.q23_c24_w @C.q23_c25_w)))) (And.intro (And.intro (And.intro @C.q23_r6_w (And.intro @C.q23_b26_w @C.q23_c27_w)) (And.intro (And.intro @C.q23_r5_w @C.q23_b28_w) (And.intro @C.q23_c29_w @C.q23_c30_w))) (And.intro (And.intro (And.intro @C.q23_r3_w @C.q23_b32_w) (And.intro @C.q23_c33_w @C.q23_r2_w)) (And.intro (And.intro @C.q23_c34_w @C.q23_r1_w) (And.intro @C.q23_c35_w @C.q23_r0_w)))))
def C.q23_B := And.intro (And.intro (And.intro (And.intro @C.q23_r24_b.eq_1 (And.intro @C.q23_r4_b.eq_1 @C.q23_r23_b.eq_1)) (And.intro @C.q23_r7_b.eq_1 (And.intro @C.q23_r10_b.eq_1 @C.q23_r9_b.eq_1))) (And.intro (And.intro @C.q23_r13_b.eq_1 (And.intro @C.q23_r12_b.eq_1 @C.q23_r16_b.eq_1)) (And.intro @C.q23_r15_b.eq_1 (And.intro @C.q23_r19_b.eq_1 @C.q23_r18_b.eq_1)))) (And.intro (And.intro (And.intro @C.q23_r22_b.eq_1 (And.intro @C.q23_r21_b.eq_1 @C.q23_r20_b.eq_1)) (And.intro @C.q23_r17_b.eq_1 (And.intro @C.q23_r14_b.eq_1 @C.q23_r11_b.eq_1))) (And.intro (And.intro @C.q23_r8_b.eq_1 (And.intro @C.q23_r6_b.eq_1 @C.q23_r5_b.eq_1)) (And.intro (And.intro @C.q23_r3_b.eq_1 @C.q23_r2_b.eq_1) (And.intro @C.q23_r1_b.eq_1 @C.q23_r0_b.eq_1))))

def C.q22_r3_b : List IOper := [
 X.m 9 0,
 X.o 10 (.nilchk (X.s 9)),
 X.o 11 (.fldAddr 1 (X.s 10)),
 X.o 12 (.load1 (X.s 11)),
 X.m 13 1,
 X.o 14 (.idxAddr 3 (X.s 12) (X.s 13)),
 X.o 15 (.fldAddr 0 (X.s 14)),
 X.o 16 (.load1 (X.s 15)),
 X.m 4 16]
def C.q22_r3 : List IOper := C.q22_r3_b
def C.q22_r3_w := @aopsE _ _ C.q22_r3.eq_1
def C.q22_c1 : ICode := .keep [0, 1] (.seq (.region C.q22_r3) .ret)
def C.q22_c1_w := @awpE _ _ C.q22_c1.eq_1
def C.q22_r2_b : List IOper := [
 X.o 4 (.move (.cst (.int .u8 0)))]
def C.q22_r2 : List IOper := C.q22_r2_b
def C.q22_r2_w := @aopsE _ _ C.q22_r2.eq_1
def C.q22_c2 : ICode := .seq (.region C.q22_r2) .ret
def C.q22_c2_w := @awpE _ _ C.q22_c2.eq_1
def C.q22_c3 : ICode := .keep [0, 1, 8] (.cond (X.s 8) C.q22_c2 .skip)
def C.q22_c3_w := @awpE _ _ C.q22_c3.eq_1
def C.q22_r1_b : List IOper := [
 X.m 5 0,
 X.m 6 1,
 X.o 7 (.call F.q25 [X.s 5, X.s 6]),
 X.o 8 (.un .not (X.s 7))]
def C.q22_r1 : List IOper := C.q22_r1_b
def C.q22_r1_w := @aopsE _ _ C.q22_r1.eq_1
def C.q22_c4 : ICode := .keep [0, 1] (.seq (.seq (.region C.q22_r1) C.q22_c3) C.q22_c1)
def C.q22_c4_w := @awpE _ _ C.q22_c4.eq_1
def C.q22_r0_b : List IOper := [
 X.o 4 (.move (.cst (.int .u8 0)))]
def C.q22_r0 : List IOper := C.q22_r0_b
def C.q22_r0_w := @aopsE _ _ C.q22_r0.eq_1
def C.q22 : IFunc := ⟨2, [.slot 4], .seq (.region C.q22_r0) C.q22_c4⟩
def C.q22_W := And.intro (And.intro (And.intro @C.q22_r3_w @C.q22_c1_w) (And.intro @C.q22_r2_w @C.q22_c2_w)) (And.intro (And.intro @C.q22_c3_w @C.q22_r1_w) (And.intro @C.q22_c4_w @C.q22_r0_w))
def C.q22_B := And.intro (And.intro @C.q22_r3_b.eq_1 @C.q22_r2_b.eq_1) (And.intro @C.q22_r1_b.eq_1 @C.q22_r0_b.eq_1)

def C.q80_r4_b : List IOper := [
 X.m 18 5,
 X.o 19 (.nilchk (X.s 18)),
 X.o 20 (.fldAddr 4 (X.s 19)),
 X.o 21 (.load1 (X.s 20)),
 X.m 4 21]
def C.q80_r4 : List IOper := C.q80_r4_b
def C.q80_r4_w := @aopsE _ _ C.q80_r4.eq_1
def C.q80_c1 : ICode := .keep [5] (.seq (.region C.q80_r4) .ret)
def C.q80_c1_w := @awpE _ _ C.q80_c1.eq_1
def C.q80_r3_b : List IOper := [
 X.o 4 (.move (X.i 0))]
def C.q80_r3 : List IOper := C.q80_r3_b
def C.q80_r3_w := @aopsE _ _ C.q80_r3.eq_1
def C.q80_c2 : ICode := .seq (.region C.q80_r3) .ret
def C.q80_c2_w := @awpE _ _ C.q80_c2.eq_1
def C.q80_c3 : ICode := .keep [5, 17] (.cond (X.s 17) C.q80_c2 .skip)
def C.q80_c3_w := @awpE _ _ C.q80_c3.eq_1
def C.q80_r2_b : List IOper := [
 X.m 9 5,
 X.o 10 (.eqP 0 false (X.s 9) (.cst (.nilp))),
 X.m 11 10,
 X.f 11 12 (.move (X.s 5)),
 X.f 11 13 (.nilchk (X.s 12)),
 X.f 11 14 (.fldAddr 3 (X.s 13)),
 X.f 11 15 (.load1 (X.s 14)),
 X.f 11 16 (.bin .neq (X.s 15) (.cst (.int .u8 114))),
 X.o 17 (.pick (X.s 11) (.cst (.bool true)) (X.s 16))]
def C.q80_r2 : List IOper := C.q80_r2_b
def C.q80_r2_w := @aopsE _ _ C.q80_r2.eq_1
def C.q80_c4 : ICode := .keep [5] (.seq (.seq (.region C.q80_r2) C.q80_c3) C.q80_c1)
def C.q80_c4_w := @awpE _ _ C.q80_c4.eq_1
def C.q80_r1_b : List IOper := [
 X.m 6 0,
 X.m 7 1,
 X.o 8 (.call F.q84 [X.s 6, X.s 7]),
 X.m 5 8]
def C.q80_r1 : List IOper := C.q80_r1_b
def C.q80_r1_w := @aopsE _ _ C.q80_r1.eq_1
def C.q80_c5 : ICode := .keep [0, 1] (.seq (.region C.q80_r1) C.q80_c4)
def C.q80_c5_w := @awpE _ _ C.q80_c5.eq_1
def C.q80_r0_b : List IOper := [
 X.o 4 (.move (X.i 0))]
def C.q80_r0 : List IOper := C.q80_r0_b
def C.q80_r0_w := @aopsE _ _ C.q80_r0.eq_1
def C.q80 : IFunc := ⟨2, [.slot 4], .seq (.region C.q80_r0) C.q80_c5⟩
def C.q80_W := And.intro (And.intro (And.intro @C.q80_r4_w @C.q80_c1_w) (And.intro @C.q80_r3_w (And.intro @C.q80_c2_w @C.q80_c3_w))) (And.intro (And.intro @C.q80_r2_w @C.q80_c4_w) (And.intro @C.q80_r1_w (And.intro @C.q80_c5_w @C.q80_r0_w)))
def C.q80_B := And.intro (And.intro @C.q80_r4_b.eq_1 @C.q80_r3_b.eq_1) (And.intro @C.q80_r2_b.eq_1 (And.intro @C.q80_r1_b.eq_1 @C.q80_r0_b.eq_1))

def C.q21_r3_b : List IOper := [
 X.m 9 0,
 X.o 10 (.nilchk (X.s 9)),
 X.o 11 (.fldAddr 1 (X.s 10)),
 X.o 12 (.load1 (X.s 11)),
 X.m 13 1,
 X.o 14 (.idxAddr 3 (X.s 12) (X.s 13)),
 X.o 15 (.fldAddr 1 (X.s 14)),
 X.o 16 (.load1 (X.s 15)),
 X.m 4 16]
def C.q21_r3 : List IOper := C.q21_r3_b
def C.q21_r3_w := @aopsE _ _ C.q21_r3.eq_1
def C.q21_c1 : ICode := .keep [0, 1] (.seq (.region C.q21_r3) .ret)
def C.q21_c1_w := @awpE _ _ C.q21_c1.eq_1
def C.q21_r2_b : List IOper := [
 X.o 4 (.move (X.i 0))]
def C.q21_r2 : List IOper := C.q21_r2_b
def C.q21_r2_w := @aopsE _ _ C.q21_r2.eq_1
def C.q21_c2 : ICode := .seq (.region C.q21_r2) .ret
def C.q21_c2_w := @awpE _ _ C.q21_c2.eq_1
def C.q21_c3 : ICode := .keep [0, 1, 8] (.cond (X.s 8) C.q21_c2 .skip)
def C.q21_c3_w := @awpE _ _ C.q21_c3.eq_1
def C.q21_r1_b : List IOper := [
 X.m 5 0,
 X.m 6 1,
 X.o 7 (.call F.q25 [X.s 5, X.s 6]),
 X.o 8 (.un .not (X.s 7))]
def C.q21_r1 : List IOper := C.q21_r1_b
def C.q21_r1_w := @aopsE _ _ C.q21_r1.eq_1
def C.q21_c4 : ICode := .keep [0, 1] (.seq (.seq (.region C.q21_r1) C.q21_c3) C.q21_c1)
def C.q21_c4_w := @awpE _ _ C.q21_c4.eq_1
def C.q21_r0_b : List IOper := [
 X.o 4 (.move (X.i 0))]
def C.q21_r0 : List IOper := C.q21_r0_b
def C.q21_r0_w := @aopsE _ _ C.q21_r0.eq_1
def C.q21 : IFunc := ⟨2, [.slot 4], .seq (.region C.q21_r0) C.q21_c4⟩
def C.q21_W := And.intro (And.intro (And.intro @C.q21_r3_w @C.q21_c1_w) (And.intro @C.q21_r2_w @C.q21_c2_w)) (And.intro (And.intro @C.q21_c3_w @C.q21_r1_w) (And.intro @C.q21_c4_w @C.q21_r0_w))
def C.q21_B := And.intro (And.intro @C.q21_r3_b.eq_1 @C.q21_r2_b.eq_1) (And.intro @C.q21_r1_b.eq_1 @C.q21_r0_b.eq_1)

def C.q4_r8_b : List IOper := [
 X.o 4 (.move (.cst (.bool true)))]
def C.q4_r8 : List IOper := C.q4_r8_b
def C.q4_r8_w := @aopsE _ _ C.q4_r8.eq_1
def C.q4_c1 : ICode := .keep [] (.seq (.region C.q4_r8) .ret)
def C.q4_c1_w := @awpE _ _ C.q4_c1.eq_1
def C.q4_r5_b : List IOper := [
 X.m 15 5,
 X.o 16 (.bin .add (X.s 15) (X.i 1)),
 X.m 5 16]
def C.q4_r5 : List IOper := C.q4_r5_b
def C.q4_r5_w := @aopsE _ _ C.q4_r5.eq_1
def C.q4_c2 : ICode := .keep [0, 1, 5] (.region C.q4_r5)
def C.q4_c2_w := @awpE _ _ C.q4_c2.eq_1
def C.q4_r7_b : List IOper := [
 X.o 4 (.move (.cst (.bool false)))]
def C.q4_r7 : List IOper := C.q4_r7_b
def C.q4_r7_w := @aopsE _ _ C.q4_r7.eq_1
def C.q4_c3 : ICode := .seq (.region C.q4_r7) .ret
def C.q4_c3_w := @awpE _ _ C.q4_c3.eq_1
def C.q4_c4 : ICode := .keep [0, 1, 5, 25] (.cond (X.s 25) C.q4_c3 .skip)
def C.q4_c4_w := @awpE _ _ C.q4_c4.eq_1
def C.q4_r6_b : List IOper := [
 X.m 17 0,
 X.m 18 5,
 X.o 19 (.idxAddr 1 (X.s 17) (X.s 18)),
 X.o 20 (.load1 (X.s 19)),
 X.m 21 1,
 X.m 22 5,
 X.o 23 (.idxAddr 1 (X.s 21) (X.s 22)),
 X.o 24 (.load1 (X.s 23)),
 X.o 25 (.bin .neq (X.s 20) (X.s 24))]
def C.q4_r6 : List IOper := C.q4_r6_b
def C.q4_r6_w := @aopsE _ _ C.q4_r6.eq_1
def C.q4_b5 : ICode := .seq (.region C.q4_r6) C.q4_c4
def C.q4_b5_w := @awpE _ _ C.q4_b5.eq_1
def C.q4_c6 : ICode := .keep [0, 1, 5] (.seq (.block 1 C.q4_b5) C.q4_c2)
def C.q4_c6_w := @awpE _ _ C.q4_c6.eq_1
def C.q4_c7 : ICode := .keep [0, 1, 5, 14] (.cond (X.s 14) .skip (.exit 0))
def C.q4_c7_w := @awpE _ _ C.q4_c7.eq_1
def C.q4_r4_b : List IOper := [
 X.m 11 5,
 X.m 12 0,
 X.o 13 (.len (X.s 12)),
 X.o 14 (.bin .lss (X.s 11) (X.s 13))]
def C.q4_r4 : List IOper := C.q4_r4_b
def C.q4_r4_w := @aopsE _ _ C.q4_r4.eq_1
def C.q4_l8 : ICode := .keep [0, 1, 5] (.seq (.seq (.region C.q4_r4) C.q4_c7) C.q4_c6)
def C.q4_l8_w := @awpE _ _ C.q4_l8.eq_1
def C.q4_b9 : ICode := .loop C.q4_l8
def C.q4_b9_w := @awpE _ _ C.q4_b9.eq_1
def C.q4_c10 : ICode := .keep [0, 1, 5] (.block 0 C.q4_b9)
def C.q4_c10_w := @awpE _ _ C.q4_c10.eq_1
def C.q4_r3_b : List IOper := [
 X.o 5 (.move (X.i 0))]
def C.q4_r3 : List IOper := C.q4_r3_b
def C.q4_r3_w := @aopsE _ _ C.q4_r3.eq_1
def C.q4_c11 : ICode := .keep [0, 1] (.seq (.seq (.region C.q4_r3) C.q4_c10) C.q4_c1)
def C.q4_c11_w := @awpE _ _ C.q4_c11.eq_1
def C.q4_r2_b : List IOper := [
 X.o 4 (.move (.cst (.bool false)))]
def C.q4_r2 : List IOper := C.q4_r2_b
def C.q4_r2_w := @aopsE _ _ C.q4_r2.eq_1
def C.q4_c12 : ICode := .seq (.region C.q4_r2) .ret
def C.q4_c12_w := @awpE _ _ C.q4_c12.eq_1
def C.q4_c13 : ICode := .keep [0, 1, 10] (.cond (X.s 10) C.q4_c12 .skip)
def C.q4_c13_w := @awpE _ _ C.q4_c13.eq_1
def C.q4_r1_b : List IOper := [
 X.m 6 0,
 X.o 7 (.len (X.s 6)),
 X.m 8 1,
 X.o 9 (.len (X.s 8)),
 X.o 10 (.bin .neq (X.s 7) (X.s 9))]
def C.q4_r1 : List IOper := C.q4_r1_b
def C.q4_r1_w := @aopsE _ _ C.q4_r1.eq_1
def C.q4_c14 : ICode := .keep [0, 1] (.seq (.seq (.region C.q4_r1) C.q4_c13) C.q4_c11)
def C.q4_c14_w := @awpE _ _ C.q4_c14.eq_1
def C.q4_r0_b : List IOper := [
 X.o 4 (.move (.cst (.bool false)))]
def C.q4_r0 : List IOper := C.q4_r0_b
def C.q4_r0_w := @aopsE _ _ C.q4_r0.eq_1
def C.q4 : IFunc := ⟨2, [.slot 4], .seq (.region C.q4_r0) C.q4_c14⟩
def C.q4_W := And.intro (And.intro (And.intro (And.intro @C.q4_r8_w @C.q4_c1_w) (And.intro @C.q4_r5_w (And.intro @C.q4_c2_w @C.q4_r7_w))) (And.intro (And.intro @C.q4_c3_w (And.intro @C.q4_c4_w @C.q4_r6_w)) (And.intro @C.q4_b5_w (And.intro @C.q4_c6_w @C.q4_c7_w)))) (And.intro (And.intro (And.intro @C.q4_r4_w @C.q4_b9_w) (And.intro @C.q4_c10_w (And.intro @C.q4_r3_w @C.q4_c11_w))) (And.intro (And.intro @C.q4_r2_w (And.intro @C.q4_c12_w @C.q4_c13_w)) (And.intro @C.q4_r1_w (And.intro @C.q4_c14_w @C.q4_r0_w))))
def C.q4_B := And.intro (And.intro (And.intro @C.q4_r8_b.eq_1 @C.q4_r5_b.eq_1) (And.intro @C.q4_r7_b.eq_1 @C.q4_r6_b.eq_1)) (And.intro (And.intro @C.q4_r4_b.eq_1 @C.q4_r3_b.eq_1) (And.intro @C.q4_r2_b.eq_1 (And.intro @C.q4_r1_b.eq_1 @C.q4_r0_b.eq_1)))

def C.q19_r7_b : List IOper := [
 X.m 25 5,
 X.m 4 25]
def C.q19_r7 : List IOper := C.q19_r7_b
def C.q19_r7_w := @aopsE _ _ C.q19_r7.eq_1
def C.q19_c1 : ICode := .keep [5] (.seq (.region C.q19_r7) .ret)
def C.q19_c1_w := @awpE _ _ C.q19_c1.eq_1
def C.q19_r6_b : List IOper := [
 X.m 17 0,
 X.o 18 (.nilchk (X.s 17)),
 X.o 19 (.fldAddr 0 (X.s 18)),
 X.o 20 (.load1 (X.s 19)),
 X.m 21 1,
 X.o 22 (.idxAddr 3 (X.s 20) (X.s 21)),
 X.o 23 (.fldAddr 0 (X.s 22)),
 X.o 24 (.load1 (X.s 23)),
 X.m 1 24]
def C.q19_r6 : List IOper := C.q19_r6_b
def C.q19_r6_w := @aopsE _ _ C.q19_r6.eq_1
def C.q19_c2 : ICode := .keep [0, 1, 5] (.region C.q19_r6)
def C.q19_c2_w := @awpE _ _ C.q19_c2.eq_1
def C.q19_r5_b : List IOper := [
 X.m 13 1,
 X.o 14 (.buildSlice 1 1 [.int .i64 0] [(0, 1, X.s 13)]),
 X.m 15 5,
 X.o 16 (.append 1 8 (X.s 14) (X.s 15)),
 X.m 5 16]
def C.q19_r5 : List IOper := C.q19_r5_b
def C.q19_r5_w := @aopsE _ _ C.q19_r5.eq_1
def C.q19_b3 : ICode := .seq (.region C.q19_r5) C.q19_c2
def C.q19_b3_w := @awpE _ _ C.q19_b3.eq_1
def C.q19_c4 : ICode := .keep [0, 1, 5] (.block 1 C.q19_b3)
def C.q19_c4_w := @awpE _ _ C.q19_c4.eq_1
def C.q19_c5 : ICode := .keep [0, 1, 5, 12] (.cond (X.s 12) .skip (.exit 0))
def C.q19_c5_w := @awpE _ _ C.q19_c5.eq_1
def C.q19_r4_b : List IOper := [
 X.m 11 1,
 X.o 12 (.bin .geq (X.s 11) (X.i 0))]
def C.q19_r4 : List IOper := C.q19_r4_b
def C.q19_r4_w := @aopsE _ _ C.q19_r4.eq_1
def C.q19_l6 : ICode := .keep [0, 1, 5] (.seq (.seq (.region C.q19_r4) C.q19_c5) C.q19_c4)
def C.q19_l6_w := @awpE _ _ C.q19_l6.eq_1
def C.q19_b7 : ICode := .loop C.q19_l6
def C.q19_b7_w := @awpE _ _ C.q19_b7.eq_1
def C.q19_c8 : ICode := .keep [0, 1, 5] (.seq (.block 0 C.q19_b7) C.q19_c1)
def C.q19_c8_w := @awpE _ _ C.q19_c8.eq_1
def C.q19_r3_b : List IOper := [
 X.m 10 5,
 X.m 4 10]
def C.q19_r3 : List IOper := C.q19_r3_b
def C.q19_r3_w := @aopsE _ _ C.q19_r3.eq_1
def C.q19_c9 : ICode := .seq (.region C.q19_r3) .ret
def C.q19_c9_w := @awpE _ _ C.q19_c9.eq_1
def C.q19_c10 : ICode := .keep [0, 1, 5, 9] (.cond (X.s 9) C.q19_c9 .skip)
def C.q19_c10_w := @awpE _ _ C.q19_c10.eq_1
def C.q19_r2_b : List IOper := [
 X.m 6 0,
 X.m 7 1,
 X.o 8 (.call F.q25 [X.s 6, X.s 7]),
 X.o 9 (.un .not (X.s 8))]
def C.q19_r2 : List IOper := C.q19_r2_b
def C.q19_r2_w := @aopsE _ _ C.q19_r2.eq_1
def C.q19_c11 : ICode := .keep [0, 1, 5] (.seq (.seq (.region C.q19_r2) C.q19_c10) C.q19_c8)
def C.q19_c11_w := @awpE _ _ C.q19_c11.eq_1
def C.q19_r1_b : List IOper := [
 X.o 5 (.move (.cst (.nils)))]
def C.q19_r1 : List IOper := C.q19_r1_b
def C.q19_r1_w := @aopsE _ _ C.q19_r1.eq_1
def C.q19_c12 : ICode := .keep [0, 1] (.seq (.region C.q19_r1) C.q19_c11)
def C.q19_c12_w := @awpE _ _ C.q19_c12.eq_1
def C.q19_r0_b : List IOper := [
 X.o 4 (.move (.cst (.nils)))]
def C.q19_r0 : List IOper := C.q19_r0_b
def C.q19_r0_w := @aopsE _ _ C.q19_r0.eq_1
def C.q19 : IFunc := ⟨2, [.slot 4], .seq (.region C.q19_r0) C.q19_c12⟩
def C.q19_W := And.intro (And.intro (And.intro (And.intro @C.q19_r7_w @C.q19_c1_w) (And.intro @C.q19_r6_w @C.q19_c2_w)) (And.intro (And.intro @C.q19_r5_w @C.q19_b3_w) (And.intro @C.q19_c4_w (And.intro @C.q19_c5_w @C.q19_r4_w)))) (And.intro (And.intro (And.intro @C.q19_b7_w @C.q19_c8_w) (And.intro @C.q19_r3_w (And.intro @C.q19_c9_w @C.q19_c10_w))) (And.intro (And.intro @C.q19_r2_w @C.q19_c11_w) (And.intro @C.q19_r1_w (And.intro @C.q19_c12_w @C.q19_r0_w))))
def C.q19_B := And.intro (And.intro (And.intro @C.q19_r7_b.eq_1 @C.q19_r6_b.eq_1) (And.intro @C.q19_r5_b.eq_1 @C.q19_r4_b.eq_1)) (And.intro (And.intro @C.q19_r3_b.eq_1 @C.q19_r2_b.eq_1) (And.intro @C.q19_r1_b.eq_1 @C.q19_r0_b.eq_1))

def C.q28_r1_b : List IOper := [
 X.o 3 (.makeFunc F.q29 [X.s 1]),
 X.o 4 (.makeFunc F.q30 [X.s 1]),
 X.o 5 (.makeFunc F.q32 [X.s 1]),
 X.o 6 (.makeFunc F.q33 [X.s 1]),
 X.o 7 (.makeFunc F.q35 [X.s 1]),
 X.o 8 (.makeFunc F.q36 [X.s 1]),
 X.o 9 (.makeFunc F.q37 [X.s 1]),
 X.o 10 (.makeFunc F.q39 [X.s 1]),
 X.o 11 (.buildSlice 1 8 [.nilf] [(0, 1, X.s 3), (1, 1, X.s 4), (2, 1, X.s 5), (3, 1, X.s 6), (4, 1, X.s 7), (5, 1, X.s 8), (6, 1, X.s 9), (7, 1, X.s 10)]),
 X.o 12 (.call F.q63 [X.s 11]),
 X.m 2 12]
def C.q28_r1 : List IOper := C.q28_r1_b
def C.q28_r1_w := @aopsE _ _ C.q28_r1.eq_1
def C.q28_c1 : ICode := .keep [1] (.seq (.region C.q28_r1) .ret)
def C.q28_c1_w := @awpE _ _ C.q28_c1.eq_1
def C.q28_r0_b : List IOper := [
 X.o 1 (.boxN (X.s 0)),
 X.o 2 (.move (X.i 0))]
def C.q28_r0 : List IOper := C.q28_r0_b
def C.q28_r0_w := @aopsE _ _ C.q28_r0.eq_1
def C.q28 : IFunc := ⟨1, [.slot 2], .seq (.region C.q28_r0) C.q28_c1⟩
def C.q28_W := And.intro @C.q28_r1_w (And.intro @C.q28_c1_w @C.q28_r0_w)
def C.q28_B := And.intro @C.q28_r1_b.eq_1 @C.q28_r0_b.eq_1

def C.q84_r3_b : List IOper := [
 X.m 20 0,
 X.o 21 (.nilchk (X.s 20)),
 X.o 22 (.fldAddr 0 (X.s 21)),
 X.o 23 (.load1 (X.s 22)),
 X.m 24 1,
 X.o 25 (.idxAddr 7 (X.s 23) (X.s 24)),
 X.m 4 25]
def C.q84_r3 : List IOper := C.q84_r3_b
def C.q84_r3_w := @aopsE _ _ C.q84_r3.eq_1
def C.q84_c1 : ICode := .keep [0, 1] (.seq (.region C.q84_r3) .ret)
def C.q84_c1_w := @awpE _ _ C.q84_c1.eq_1
def C.q84_r2_b : List IOper := [
 X.o 4 (.move (.cst (.nilp)))]
def C.q84_r2 : List IOper := C.q84_r2_b
def C.q84_r2_w := @aopsE _ _ C.q84_r2.eq_1
def C.q84_c2 : ICode := .seq (.region C.q84_r2) .ret
def C.q84_c2_w := @awpE _ _ C.q84_c2.eq_1
def C.q84_c3 : ICode := .keep [0, 1, 19] (.cond (X.s 19) C.q84_c2 .skip)
def C.q84_c3_w := @awpE _ _ C.q84_c3.eq_1
def C.q84_r1_b : List IOper := [
 X.m 5 0,
 X.o 6 (.eqP 0 false (X.s 5) (.cst (.nilp))),
 X.m 7 6,
 X.f 7 8 (.move (X.s 1)),
 X.f 7 9 (.bin .lss (X.s 8) (X.i 0)),
 X.o 10 (.pick (X.s 7) (.cst (.bool true)) (X.s 9)),
 X.m 11 10,
 X.f 11 12 (.move (X.s 1)),
 X.f 11 13 (.move (X.s 0)),
 X.f 11 14 (.nilchk (X.s 13)),
 X.f 11 15 (.fldAddr 0 (X.s 14)),
 X.f 11 16 (.load1 (X.s 15)),
 X.f 11 17 (.len (X.s 16)),
 X.f 11 18 (.bin .geq (X.s 12) (X.s 17)),
 X.o 19 (.pick (X.s 11) (.cst (.bool true)) (X.s 18))]
def C.q84_r1 : List IOper := C.q84_r1_b
def C.q84_r1_w := @aopsE _ _ C.q84_r1.eq_1
def C.q84_c4 : ICode := .keep [0, 1] (.seq (.seq (.region C.q84_r1) C.q84_c3) C.q84_c1)
def C.q84_c4_w := @awpE _ _ C.q84_c4.eq_1
def C.q84_r0_b : List IOper := [
 X.o 4 (.move (.cst (.nilp)))]
def C.q84_r0 : List IOper := C.q84_r0_b
def C.q84_r0_w := @aopsE _ _ C.q84_r0.eq_1
def C.q84 : IFunc := ⟨2, [.slot 4], .seq (.region C.q84_r0) C.q84_c4⟩
def C.q84_W := And.intro (And.intro (And.intro @C.q84_r3_w @C.q84_c1_w) (And.intro @C.q84_r2_w @C.q84_c2_w)) (And.intro (And.intro @C.q84_c3_w @C.q84_r1_w) (And.intro @C.q84_c4_w @C.q84_r0_w))
def C.q84_B := And.intro (And.intro @C.q84_r3_b.eq_1 @C.q84_r2_b.eq_1) (And.intro @C.q84_r1_b.eq_1 @C.q84_r0_b.eq_1)

def C.q86_r1_b : List IOper := [
 X.m 3 0,
 X.o 4 (.nilchk (X.s 3)),
 X.o 5 (.fldAddr 3 (X.s 4)),
 X.o 6 (.load1 (X.s 5)),
 X.o 7 (.bin .eql (X.s 6) (.cst (.int .u8 48))),
 X.m 8 7,
 X.f 8 9 (.move (X.s 0)),
 X.f 8 10 (.nilchk (X.s 9)),
 X.f 8 11 (.fldAddr 3 (X.s 10)),
 X.f 8 12 (.load1 (X.s 11)),
 X.f 8 13 (.bin .eql (X.s 12) (.cst (.int .u8 116))),
 X.o 14 (.pick (X.s 8) (.cst (.bool true)) (X.s 13)),
 X.m 2 14]
def C.q86_r1 : List IOper := C.q86_r1_b
def C.q86_r1_w := @aopsE _ _ C.q86_r1.eq_1
def C.q86_c1 : ICode := .keep [0] (.seq (.region C.q86_r1) .ret)
def C.q86_c1_w := @awpE _ _ C.q86_c1.eq_1
def C.q86_r0_b : List IOper := [
 X.o 2 (.move (.cst (.bool false)))]
def C.q86_r0 : List IOper := C.q86_r0_b
def C.q86_r0_w := @aopsE _ _ C.q86_r0.eq_1
def C.q86 : IFunc := ⟨1, [.slot 2], .seq (.region C.q86_r0) C.q86_c1⟩
def C.q86_W := And.intro @C.q86_r1_w (And.intro @C.q86_c1_w @C.q86_r0_w)
def C.q86_B := And.intro @C.q86_r1_b.eq_1 @C.q86_r0_b.eq_1

def C.q87_r19_b : List IOper := [
 X.o 2 (.move (.cst (.int .u8 0)))]
def C.q87_r19 : List IOper := C.q87_r19_b
def C.q87_r19_w := @aopsE _ _ C.q87_r19.eq_1
def C.q87_c1 : ICode := .keep [] (.seq (.region C.q87_r19) .ret)
def C.q87_c1_w := @awpE _ _ C.q87_c1.eq_1
def C.q87_r9_b : List IOper := [
 X.o 2 (.move (.cst (.int .u8 110)))]
def C.q87_r9 : List IOper := C.q87_r9_b
def C.q87_r9_w := @aopsE _ _ C.q87_r9.eq_1
def C.q87_c2 : ICode := .keep [] (.seq (.region C.q87_r9) .ret)
def C.q87_c2_w := @awpE _ _ C.q87_c2.eq_1
def C.q87_r8_b : List IOper := [
 X.o 2 (.move (.cst (.int .u8 114)))]
def C.q87_r8 : List IOper := C.q87_r8_b
def C.q87_r8_w := @aopsE _ _ C.q87_r8.eq_1
def C.q87_c3 : ICode := .seq (.region C.q87_r8) .ret
def C.q87_c3_w := @awpE _ _ C.q87_c3.eq_1
def C.q87_c4 : ICode := .keep [27] (.cond (X.s 27) C.q87_c3 .skip)
def C.q87_c4_w := @awpE _ _ C.q87_c4.eq_1
def C.q87_r7_b : List IOper := [
 X.m 24 0,
 X.o 25 (.nilchk (X.s 24)),
 X.o 26 (.fldAddr 5 (X.s 25)),
 X.o 27 (.load1 (X.s 26))]
def C.q87_r7 : List IOper := C.q87_r7_b
def C.q87_r7_w := @aopsE _ _ C.q87_r7.eq_1
def C.q87_c5 : ICode := .keep [0] (.seq (.seq (.region C.q87_r7) C.q87_c4) C.q87_c2)
def C.q87_c5_w := @awpE _ _ C.q87_c5.eq_1
def C.q87_r6_b : List IOper := [
 X.m 21 0,
 X.o 22 (.nilchk (X.s 21)),
 X.o 23 (.fldAddr 3 (X.s 22)),
 X.n (.store1 (X.s 23) (.cst (.int .u8 104)))]
def C.q87_r6 : List IOper := C.q87_r6_b
def C.q87_r6_w := @aopsE _ _ C.q87_r6.eq_1
def C.q87_c6 : ICode := .keep [0] (.seq (.region C.q87_r6) C.q87_c5)
def C.q87_c6_w := @awpE _ _ C.q87_c6.eq_1
def C.q87_r5_b : List IOper := [
 X.o 2 (.move (.cst (.int .u8 0)))]
def C.q87_r5 : List IOper := C.q87_r5_b
def C.q87_r5_w := @aopsE _ _ C.q87_r5.eq_1
def C.q87_c7 : ICode := .keep [] (.seq (.region C.q87_r5) .ret)
def C.q87_c7_w := @awpE _ _ C.q87_c7.eq_1
def C.q87_r4_b : List IOper := [
 X.m 14 0,
 X.o 15 (.nilchk (X.s 14)),
 X.o 16 (.fldAddr 4 (X.s 15)),
 X.o 17 (.load1 (X.s 16)),
 X.o 18 (.bin .sub (X.s 17) (X.i 1)),
 X.o 19 (.nilchk (X.s 14)),
 X.o 20 (.fldAddr 4 (X.s 19)),
 X.n (.store1 (X.s 20) (X.s 18))]
def C.q87_r4 : List IOper := C.q87_r4_b
def C.q87_r4_w := @aopsE _ _ C.q87_r4.eq_1
def C.q87_c8 : ICode := .seq (.region C.q87_r4) C.q87_c7
def C.q87_c8_w := @awpE _ _ C.q87_c8.eq_1
def C.q87_c9 : ICode := .keep [0, 13] (.cond (X.s 13) C.q87_c8 .skip)
def C.q87_c9_w := @awpE _ _ C.q87_c9.eq_1
def C.q87_r3_b : List IOper := [
 X.m 9 0,
 X.o 10 (.nilchk (X.s 9)),
 X.o 11 (.fldAddr 4 (X.s 10)),
 X.o 12 (.load1 (X.s 11)),
 X.o 13 (.bin .gtr (X.s 12) (X.i 0))]
def C.q87_r3 : List IOper := C.q87_r3_b
def C.q87_r3_w := @aopsE _ _ C.q87_r3.eq_1
def C.q87_r12_b : List IOper := [
 X.o 2 (.move (.cst (.int .u8 111)))]
def C.q87_r12 : List IOper := C.q87_r12_b
def C.q87_r12_w := @aopsE _ _ C.q87_r12.eq_1
def C.q87_c10 : ICode := .keep [] (.seq (.region C.q87_r12) .ret)
def C.q87_c10_w := @awpE _ _ C.q87_c10.eq_1
def C.q87_r11_b : List IOper := [
 X.m 30 0,
 X.o 31 (.nilchk (X.s 30)),
 X.o 32 (.fldAddr 3 (X.s 31)),
 X.n (.store1 (X.s 32) (.cst (.int .u8 49)))]
def C.q87_r11 : List IOper := C.q87_r11_b
def C.q87_r11_w := @aopsE _ _ C.q87_r11.eq_1
def C.q87_r18_b : List IOper := [
 X.o 2 (.move (.cst (.int .u8 108)))]
def C.q87_r18 : List IOper := C.q87_r18_b
def C.q87_r18_w := @aopsE _ _ C.q87_r18.eq_1
def C.q87_c11 : ICode := .keep [] (.seq (.region C.q87_r18) .ret)
def C.q87_c11_w := @awpE _ _ C.q87_c11.eq_1
def C.q87_r17_b : List IOper := [
 X.m 42 0,
 X.o 43 (.nilchk (X.s 42)),
 X.o 44 (.fldAddr 3 (X.s 43)),
 X.n (.store1 (X.s 44) (.cst (.int .u8 48)))]
def C.q87_r17 : List IOper := C.q87_r17_b
def C.q87_r17_w := @aopsE _ _ C.q87_r17.eq_1
def C.q87_c12 : ICode := .keep [0] (.seq (.region C.q87_r17) C.q87_c11)
def C.q87_c12_w := @awpE _ _ C.q87_c12.eq_1
def C.q87_r16_b : List IOper := [
 X.o 2 (.move (.cst (.int .u8 115)))]
def C.q87_r16 : List IOper := C.q87_r16_b
def C.q87_r16_w := @aopsE _ _ C.q87_r16.eq_1
def C.q87_c13 : ICode := .keep [] (.seq (.region C.q87_r16) .ret)
def C.q87_c13_w := @awpE _ _ C.q87_c13.eq_1
def C.q87_r15_b : List IOper := [
 X.m 39 0,
 X.o 40 (.nilchk (X.s 39)),
 X.o 41 (.fldAddr 3 (X.s 40)),
 X.n (.store1 (X.s 41) (.cst (.int .u8 116)))]
def C.q87_r15 : List IOper := C.q87_r15_b
def C.q87_r15_w := @aopsE _ _ C.q87_r15.eq_1
def C.q87_c14 : ICode := .seq (.region C.q87_r15) C.q87_c13
def C.q87_c14_w := @awpE _ _ C.q87_c14.eq_1
def C.q87_c15 : ICode := .keep [0, 38] (.cond (X.s 38) C.q87_c14 .skip)
def C.q87_c15_w := @awpE _ _ C.q87_c15.eq_1
def C.q87_r14_b : List IOper := [
 X.m 35 0,
 X.o 36 (.nilchk (X.s 35)),
 X.o 37 (.fldAddr 6 (X.s 36)),
 X.o 38 (.load1 (X.s 37))]
def C.q87_r14 : List IOper := C.q87_r14_b
def C.q87_r14_w := @aopsE _ _ C.q87_r14.eq_1
def C.q87_c16 : ICode := .seq (.seq (.region C.q87_r14) C.q87_c15) C.q87_c12
def C.q87_c16_w := @awpE _ _ C.q87_c16.eq_1
def C.q87_c17 : ICode := .keep [0, 33] (.cond (X.s 33) C.q87_c16 .skip)
def C.q87_c17_w := @awpE _ _ C.q87_c17.eq_1
def C.q87_r13_b : List IOper := [
 X.o 34 (.bin .eql (X.s 6) (.cst (.int .u8 99))),
 X.m 33 34]
def C.q87_r13 : List IOper := C.q87_r13_b
def C.q87_r13_w := @aopsE _ _ C.q87_r13.eq_1
def C.q87_c18 : ICode := .seq (.region C.q87_r11) C.q87_c10
def C.q87_c18_w := @awpE _ _ C.q87_c18.eq_1
def C.q87_c19 : ICode := .seq (.region C.q87_r13) C.q87_c17
def C.q87_c19_w := @awpE _ _ C.q87_c19.eq_1
def C.q87_c20 : ICode := .keep [0, 6, 28] (.cond (X.s 28) C.q87_c18 C.q87_c19)
def C.q87_c20_w := @awpE _ _ C.q87_c20.eq_1
def C.q87_r10_b : List IOper := [
 X.o 29 (.bin .eql (X.s 6) (.cst (.int .u8 104))),
 X.m 28 29]
def C.q87_r10 : List IOper := C.q87_r10_b
def C.q87_r10_w := @aopsE _ _ C.q87_r10.eq_1
def C.q87_c21 : ICode := .seq (.seq (.region C.q87_r3) C.q87_c9) C.q87_c6
def C.q87_c21_w := @awpE _ _ C.q87_c21.eq_1
def C.q87_c22 : ICode := .seq (.region C.q87_r10) C.q87_c20
def C.q87_c22_w := @awpE _ _ C.q87_c22.eq_1
def C.q87_c23 : ICode := .keep [0, 6, 7] (.cond (X.s 7) C.q87_c21 C.q87_c22)
def C.q87_c23_w := @awpE _ _ C.q87_c23.eq_1
def C.q87_r2_b : List IOper := [
 X.o 8 (.bin .eql (X.s 6) (.cst (.int .u8 114))),
 X.m 7 8]
def C.q87_r2 : List IOper := C.q87_r2_b
def C.q87_r2_w := @aopsE _ _ C.q87_r2.eq_1
def C.q87_b24 : ICode := .seq (.region C.q87_r2) C.q87_c23
def C.q87_b24_w := @awpE _ _ C.q87_b24.eq_1
def C.q87_c25 : ICode := .keep [0, 6] (.block 0 C.q87_b24)
def C.q87_c25_w := @awpE _ _ C.q87_c25.eq_1
def C.q87_r1_b : List IOper := [
 X.m 3 0,
 X.o 4 (.nilchk (X.s 3)),
 X.o 5 (.fldAddr 3 (X.s 4)),
 X.o 6 (.load1 (X.s 5))]
def C.q87_r1 : List IOper := C.q87_r1_b
def C.q87_r1_w := @aopsE _ _ C.q87_r1.eq_1
def C.q87_c26 : ICode := .keep [0] (.seq (.seq (.region C.q87_r1) C.q87_c25) C.q87_c1)
def C.q87_c26_w := @awpE _ _ C.q87_c26.eq_1
def C.q87_r0_b : List IOper := [
 X.o 2 (.move (.cst (.int .u8 0)))]
def C.q87_r0 : List IOper := C.q87_r0_b
def C.q87_r0_w := @aopsE _ _ C.q87_r0.eq_1
def C.q87 : IFunc := ⟨1, [.slot 2], .seq (.region C.q87_r0) C.q87_c26⟩
def C.q87_W := And.intro (And.intro (And.intro (And.intro (And.intro @C.q87_r19_w @C.q87_c1_w) (And.intro @C.q87_r9_w (And.intro @C.q87_c2_w @C.q87_r8_w))) (And.intro (And.intro @C.q87_c3_w (And.intro @C.q87_c4_w @C.q87_r7_w)) (And.intro @C.q87_c5_w (And.intro @C.q87_r6_w @C.q87_c6_w)))) (And.intro (And.intro (And.intro @C.q87_r5_w (And.intro @C.q87_c7_w @C.q87_r4_w)) (And.intro @C.q87_c8_w (And.intro @C.q87_c9_w @C.q87_r3_w))) (And.intro (And.intro @C.q87_r12_w (And.intro @C.q87_c10_w @C.q87_r11_w)) (And.intro @C.q87_r18_w (And.intro @C.q87_c11_w @C.q87_r17_w))))) (And.intro (And.intro (And.intro (And.intro @C.q87_c12_w @C.q87_r16_w) (And.intro @C.q87_c13_w (And.intro @C.q87_r15_w @C.q87_c14_w))) (And.intro (And.intro @C.q87_c15_w (And.intro @C.q87_r14_w @C.q87_c16_w)) (And.intro @C.q87_c17_w (And.intro @C.q87_r13_w @C.q87_c18_w)))) (And.intro (And.intro (And.intro @C.q87_c19_w (And.intro @C.q87_c20_w @C.q87_r10_w)) (And.intro @C.q87_c21_w (And.intro @C.q87_c22_w @C.q87_c23_w))) (And.intro (And.intro @C.q87_r2_w (And.intro @C.q87_b24_w @C.q87_c25_w)) (And.intro @C.q87_r1_w (And.intro @C.q87_c26_w @C.q87_r0_w)))))
def C.q87_B := And.intro (And.intro (And.intro (And.intro @C.q87_r19_b.eq_1 @C.q87_r9_b.eq_1) (And.intro @C.q87_r8_b.eq_1 (And.intro @C.q87_r7_b.eq_1 @C.q87_r6_b.eq_1))) (And.intro (And.intro @C.q87_r5_b.eq_1 @C.q87_r4_b.eq_1) (And.intro @C.q87_r3_b.eq_1 (And.intro @C.q87_r12_b.eq_1 @C.q87_r11_b.eq_1)))) (And.intro (And.intro (And.intro @C.q87_r18_b.eq_1 @C.q87_r17_b.eq_1) (And.intro @C.q87_r16_b.eq_1 (And.intro @C.q87_r15_b.eq_1 @C.q87_r14_b.eq_1))) (And.intro (And.intro @C.q87_r13_b.eq_1 @C.q87_r10_b.eq_1) (And.intro @C.q87_r2_b.eq_1 (And.intro @C.q87_r1_b.eq_1 @C.q87_r0_b.eq_1))))

def C.q77_r13_b : List IOper := [
 X.o 2 (.move (X.i 0))]
def C.q77_r13 : List IOper := C.q77_r13_b
def C.q77_r13_w := @aopsE _ _ C.q77_r13.eq_1
def C.q77_c1 : ICode := .keep [] (.seq (.region C.q77_r13) .ret)
def C.q77_c1_w := @awpE _ _ C.q77_c1.eq_1
def C.q77_r12_b : List IOper := [
 X.o 31 (.bin .add (X.s 12) (X.i 1)),
 X.m 12 31]
def C.q77_r12 : List IOper := C.q77_r12_b
def C.q77_r12_w := @aopsE _ _ C.q77_r12.eq_1
def C.q77_c2 : ICode := .keep [0, 10, 11, 12] (.region C.q77_r12)
def C.q77_c2_w := @awpE _ _ C.q77_c2.eq_1
def C.q77_r11_b : List IOper := [
 X.o 30 (.bin .add (X.s 18) (X.i 1)),
 X.m 18 30]
def C.q77_r11 : List IOper := C.q77_r11_b
def C.q77_r11_w := @aopsE _ _ C.q77_r11.eq_1
def C.q77_c3 : ICode := .keep [0, 10, 11, 12, 16, 17, 18] (.region C.q77_r11)
def C.q77_c3_w := @awpE _ _ C.q77_c3.eq_1
def C.q77_r10_b : List IOper := [
 X.o 2 (.move (X.i 4))]
def C.q77_r10 : List IOper := C.q77_r10_b
def C.q77_r10_w := @aopsE _ _ C.q77_r10.eq_1
def C.q77_c4 : ICode := .seq (.region C.q77_r10) .ret
def C.q77_c4_w := @awpE _ _ C.q77_c4.eq_1
def C.q77_c5 : ICode := .keep [0, 10, 11, 12, 16, 17, 18, 29] (.cond (X.s 29) C.q77_c4 .skip)
def C.q77_c5_w := @awpE _ _ C.q77_c5.eq_1
def C.q77_r9_b : List IOper := [
 X.m 22 6,
 X.o 23 (.bin .lss (X.s 22) (X.i 0)),
 X.m 24 23,
 X.f 24 25 (.move (X.s 6)),
 X.f 24 26 (.move (X.s 0)),
 X.f 24 27 (.len (X.s 26)),
 X.f 24 28 (.bin .geq (X.s 25) (X.s 27)),
 X.o 29 (.pick (X.s 24) (.cst (.bool true)) (X.s 28))]
def C.q77_r9 : List IOper := C.q77_r9_b
def C.q77_r9_w := @aopsE _ _ C.q77_r9.eq_1
def C.q77_c6 : ICode := .keep [0, 6, 10, 11, 12, 16, 17, 18] (.seq (.region C.q77_r9) C.q77_c5)
def C.q77_c6_w := @awpE _ _ C.q77_c6.eq_1
def C.q77_r8_b : List IOper := [
 X.o 20 (.idxAddr 1 (X.s 16) (X.s 18)),
 X.o 21 (.load1 (X.s 20)),
 X.m 6 21]
def C.q77_r8 : List IOper := C.q77_r8_b
def C.q77_r8_w := @aopsE _ _ C.q77_r8.eq_1
def C.q77_b7 : ICode := .seq (.region C.q77_r8) C.q77_c6
def C.q77_b7_w := @awpE _ _ C.q77_b7.eq_1
def C.q77_c8 : ICode := .keep [0, 10, 11, 12, 16, 17, 18] (.seq (.block 3 C.q77_b7) C.q77_c3)
def C.q77_c8_w := @awpE _ _ C.q77_c8.eq_1
def C.q77_c9 : ICode := .keep [0, 10, 11, 12, 16, 17, 18, 19] (.seq (.cond (X.s 19) .skip (.exit 2)) C.q77_c8)
def C.q77_c9_w := @awpE _ _ C.q77_c9.eq_1
def C.q77_r7_b : List IOper := [
 X.o 19 (.bin .lss (X.s 18) (X.s 17))]
def C.q77_r7 : List IOper := C.q77_r7_b
def C.q77_r7_w := @aopsE _ _ C.q77_r7.eq_1
def C.q77_l10 : ICode := .keep [0, 10, 11, 12, 16, 17, 18] (.seq (.region C.q77_r7) C.q77_c9)
def C.q77_l10_w := @awpE _ _ C.q77_l10.eq_1
def C.q77_b11 : ICode := .loop C.q77_l10
def C.q77_b11_w := @awpE _ _ C.q77_b11.eq_1
def C.q77_c12 : ICode := .keep [0, 10, 11, 12, 16, 17, 18] (.block 2 C.q77_b11)
def C.q77_c12_w := @awpE _ _ C.q77_c12.eq_1
def C.q77_r6_b : List IOper := [
 X.m 16 4,
 X.o 17 (.len (X.s 16)),
 X.o 18 (.move (X.i 0))]
def C.q77_r6 : List IOper := C.q77_r6_b
def C.q77_r6_w := @aopsE _ _ C.q77_r6.eq_1
def C.q77_c13 : ICode := .keep [0, 4, 10, 11, 12] (.seq (.region C.q77_r6) C.q77_c12)
def C.q77_c13_w := @awpE _ _ C.q77_c13.eq_1
def C.q77_r5_b : List IOper := [
 X.o 14 (.idxAddr 1 (X.s 10) (X.s 12)),
 X.o 15 (.load1 (X.s 14)),
 X.m 4 15]
def C.q77_r5 : List IOper := C.q77_r5_b
def C.q77_r5_w := @aopsE _ _ C.q77_r5.eq_1
def C.q77_b14 : ICode := .seq (.region C.q77_r5) C.q77_c13
def C.q77_b14_w := @awpE _ _ C.q77_b14.eq_1
def C.q77_c15 : ICode := .keep [0, 10, 11, 12] (.seq (.block 1 C.q77_b14) C.q77_c2)
def C.q77_c15_w := @awpE _ _ C.q77_c15.eq_1
def C.q77_c16 : ICode := .keep [0, 10, 11, 12, 13] (.seq (.cond (X.s 13) .skip (.exit 0)) C.q77_c15)
def C.q77_c16_w := @awpE _ _ C.q77_c16.eq_1
def C.q77_r4_b : List IOper := [
 X.o 13 (.bin .lss (X.s 12) (X.s 11))]
def C.q77_r4 : List IOper := C.q77_r4_b
def C.q77_r4_w := @aopsE _ _ C.q77_r4.eq_1
def C.q77_l17 : ICode := .keep [0, 10, 11, 12] (.seq (.region C.q77_r4) C.q77_c16)
def C.q77_l17_w := @awpE _ _ C.q77_l17.eq_1
def C.q77_b18 : ICode := .loop C.q77_l17
def C.q77_b18_w := @awpE _ _ C.q77_b18.eq_1
def C.q77_c19 : ICode := .keep [0, 10, 11, 12] (.block 0 C.q77_b18)
def C.q77_c19_w := @awpE _ _ C.q77_c19.eq_1
def C.q77_r3_b : List IOper := [
 X.m 10 0,
 X.o 11 (.len (X.s 10)),
 X.o 12 (.move (X.i 0))]
def C.q77_r3 : List IOper := C.q77_r3_b
def C.q77_r3_w := @aopsE _ _ C.q77_r3.eq_1
def C.q77_c20 : ICode := .keep [0] (.seq (.seq (.region C.q77_r3) C.q77_c19) C.q77_c1)
def C.q77_c20_w := @awpE _ _ C.q77_c20.eq_1
def C.q77_r2_b : List IOper := [
 X.o 2 (.move (X.i 1))]
def C.q77_r2 : List IOper := C.q77_r2_b
def C.q77_r2_w := @aopsE _ _ C.q77_r2.eq_1
def C.q77_c21 : ICode := .seq (.region C.q77_r2) .ret
def C.q77_c21_w := @awpE _ _ C.q77_c21.eq_1
def C.q77_c22 : ICode := .keep [0, 9] (.cond (X.s 9) C.q77_c21 .skip)
def C.q77_c22_w := @awpE _ _ C.q77_c22.eq_1
def C.q77_r1_b : List IOper := [
 X.m 7 0,
 X.o 8 (.len (X.s 7)),
 X.o 9 (.bin .gtr (X.s 8) (X.i 100))]
def C.q77_r1 : List IOper := C.q77_r1_b
def C.q77_r1_w := @aopsE _ _ C.q77_r1.eq_1
def C.q77_c23 : ICode := .keep [0] (.seq (.seq (.region C.q77_r1) C.q77_c22) C.q77_c20)
def C.q77_c23_w := @awpE _ _ C.q77_c23.eq_1
def C.q77_r0_b : List IOper := [
 X.o 2 (.move (X.i 0))]
def C.q77_r0 : List IOper := C.q77_r0_b
def C.q77_r0_w := @aopsE _ _ C.q77_r0.eq_1
def C.q77 : IFunc := ⟨1, [.slot 2], .seq (.region C.q77_r0) C.q77_c23⟩
def C.q77_W := And.intro (And.intro (And.intro (And.intro (And.intro @C.q77_r13_w @C.q77_c1_w) (And.intro @C.q77_r12_w @C.q77_c2_w)) (And.intro (And.intro @C.q77_r11_w @C.q77_c3_w) (And.intro @C.q77_r10_w @C.q77_c4_w))) (And.intro (And.intro (And.intro @C.q77_c5_w @C.q77_r9_w) (And.intro @C.q77_c6_w @C.q77_r8_w)) (And.intro (And.intro @C.q77_b7_w @C.q77_c8_w) (And.intro @C.q77_c9_w (And.intro @C.q77_r7_w @C.q77_b11_w))))) (And.intro (And.intro (And.intro (And.intro @C.q77_c12_w @C.q77_r6_w) (And.intro @C.q77_c13_w @C.q77_r5_w)) (And.intro (And.intro @C.q77_b14_w @C.q77_c15_w) (And.intro @C.q77_c16_w (And.intro @C.q77_r4_w @C.q77_b18_w)))) (And.intro (And.intro (And.intro @C.q77_c19_w @C.q77_r3_w) (And.intro @C.q77_c20_w @C.q77_r2_w)) (And.intro (And.intro @C.q77_c21_w @C.q77_c22_w) (And.intro @C.q77_r1_w (And.intro @C.q77_c23_w @C.q77_r0_w)))))
def C.q77_B := And.intro (And.intro (And.intro @C.q77_r13_b.eq_1 (And.intro @C.q77_r12_b.eq_1 @C.q77_r11_b.eq_1)) (And.intro (And.intro @C.q77_r10_b.eq_1 @C.q77_r9_b.eq_1) (And.intro @C.q77_r8_b.eq_1 @C.q77_r7_b.eq_1))) (And.intro (And.intro @C.q77_r6_b.eq_1 (And.intro @C.q77_r5_b.eq_1 @C.q77_r4_b.eq_1)) (And.intro (And.intro @C.q77_r3_b.eq_1 @C.q77_r2_b.eq_1) (And.intro @C.q77_r1_b.eq_1 @C.q77_r0_b.eq_1)))

def C.q74_r16_b : List IOper := [
 X.m 53 2,
 X.m 54 3,
 X.m 2 53,
 X.m 3 54]
def C.q74_r16 : List IOper := C.q74_r16_b
def C.q74_r16_w := @aopsE _ _ C.q74_r16.eq_1
def C.q74_c1 : ICode := .keep [2, 3] (.seq (.region C.q74_r16) .ret)
def C.q74_c1_w := @awpE _ _ C.q74_c1.eq_1
def C.q74_r15_b : List IOper := [
 X.o 52 (.bin .add (X.s 17) (X.i 1)),
 X.m 17 52]
def C.q74_r15 : List IOper := C.q74_r15_b
def C.q74_r15_w := @aopsE _ _ C.q74_r15.eq_1
def C.q74_c2 : ICode := .keep [2, 3, 15, 16, 17] (.region C.q74_r15)
def C.q74_c2_w := @awpE _ _ C.q74_c2.eq_1
def C.q74_r14_b : List IOper := [
 X.o 51 (.bin .add (X.s 25) (X.i 1)),
 X.m 25 51]
def C.q74_r14 : List IOper := C.q74_r14_b
def C.q74_r14_w := @aopsE _ _ C.q74_r14.eq_1
def C.q74_c3 : ICode := .keep [2, 3, 4, 6, 15, 16, 17, 23, 24, 25] (.region C.q74_r14)
def C.q74_c3_w := @awpE _ _ C.q74_c3.eq_1
def C.q74_r13_b : List IOper := [
 X.m 41 3,
 X.m 42 8,
 X.m 43 3,
 X.m 44 8,
 X.o 45 (.idxAddr 1 (X.s 43) (X.s 44)),
 X.o 46 (.load1 (X.s 45)),
 X.m 47 4,
 X.o 48 (.buildSlice 1 1 [.int .i64 0] [(0, 1, X.s 47)]),
 X.o 49 (.append 1 8 (X.s 46) (X.s 48)),
 X.o 50 (.idxAddr 1 (X.s 41) (X.s 42)),
 X.n (.store1 (X.s 50) (X.s 49))]
def C.q74_r13 : List IOper := C.q74_r13_b
def C.q74_r13_w := @aopsE _ _ C.q74_r13.eq_1
def C.q74_c4 : ICode := .keep [2, 3, 4, 6, 8, 15, 16, 17, 23, 24, 25] (.region C.q74_r13)
def C.q74_c4_w := @awpE _ _ C.q74_c4.eq_1
def C.q74_r12_b : List IOper := [
 X.m 35 2,
 X.m 36 4,
 X.o 37 (.idxAddr 1 (X.s 35) (X.s 36)),
 X.o 38 (.load1 (X.s 37)),
 X.o 39 (.bin .add (X.s 38) (X.i 1)),
 X.o 40 (.idxAddr 1 (X.s 35) (X.s 36)),
 X.n (.store1 (X.s 40) (X.s 39))]
def C.q74_r12 : List IOper := C.q74_r12_b
def C.q74_r12_w := @aopsE _ _ C.q74_r12.eq_1
def C.q74_c5 : ICode := .keep [2, 3, 4, 6, 8, 15, 16, 17, 23, 24, 25] (.seq (.region C.q74_r12) C.q74_c4)
def C.q74_c5_w := @awpE _ _ C.q74_c5.eq_1
def C.q74_r11_b : List IOper := [
 X.m 32 6,
 X.m 33 8,
 X.o 34 (.call F.q75 [X.s 32, X.s 33])]
def C.q74_r11 : List IOper := C.q74_r11_b
def C.q74_r11_w := @aopsE _ _ C.q74_r11.eq_1
def C.q74_c6 : ICode := .keep [2, 3, 4, 6, 8, 15, 16, 17, 23, 24, 25] (.seq (.region C.q74_r11) C.q74_c5)
def C.q74_c6_w := @awpE _ _ C.q74_c6.eq_1
def C.q74_c7 : ICode := .keep [2, 3, 4, 6, 8, 15, 16, 17, 23, 24, 25, 31] (.cond (X.s 31) (.exit 3) .skip)
def C.q74_c7_w := @awpE _ _ C.q74_c7.eq_1
def C.q74_r10_b : List IOper := [
 X.m 29 6,
 X.m 30 8,
 X.o 31 (.call F.q76 [X.s 29, X.s 30])]
def C.q74_r10 : List IOper := C.q74_r10_b
def C.q74_r10_w := @aopsE _ _ C.q74_r10.eq_1
def C.q74_c8 : ICode := .keep [2, 3, 4, 6, 8, 15, 16, 17, 23, 24, 25] (.seq (.seq (.region C.q74_r10) C.q74_c7) C.q74_c6)
def C.q74_c8_w := @awpE _ _ C.q74_c8.eq_1
def C.q74_r9_b : List IOper := [
 X.o 27 (.idxAddr 1 (X.s 23) (X.s 25)),
 X.o 28 (.load1 (X.s 27)),
 X.m 8 28]
def C.q74_r9 : List IOper := C.q74_r9_b
def C.q74_r9_w := @aopsE _ _ C.q74_r9.eq_1
def C.q74_b9 : ICode := .seq (.region C.q74_r9) C.q74_c8
def C.q74_b9_w := @awpE _ _ C.q74_b9.eq_1
def C.q74_c10 : ICode := .keep [2, 3, 4, 6, 15, 16, 17, 23, 24, 25] (.seq (.block 3 C.q74_b9) C.q74_c3)
def C.q74_c10_w := @awpE _ _ C.q74_c10.eq_1
def C.q74_c11 : ICode := .keep [2, 3, 4, 6, 15, 16, 17, 23, 24, 25, 26] (.seq (.cond (X.s 26) .skip (.exit 2)) C.q74_c10)
def C.q74_c11_w := @awpE _ _ C.q74_c11.eq_1
def C.q74_r8_b : List IOper := [
 X.o 26 (.bin .lss (X.s 25) (X.s 24))]
def C.q74_r8 : List IOper := C.q74_r8_b
def C.q74_r8_w := @aopsE _ _ C.q74_r8.eq_1
def C.q74_l12 : ICode := .keep [2, 3, 4, 6, 15, 16, 17, 23, 24, 25] (.seq (.region C.q74_r8) C.q74_c11)
def C.q74_l12_w := @awpE _ _ C.q74_l12.eq_1
def C.q74_b13 : ICode := .loop C.q74_l12
def C.q74_b13_w := @awpE _ _ C.q74_b13.eq_1
def C.q74_c14 : ICode := .keep [2, 3, 4, 6, 15, 16, 17, 23, 24, 25] (.block 2 C.q74_b13)
def C.q74_c14_w := @awpE _ _ C.q74_c14.eq_1
def C.q74_r7_b : List IOper := [
 X.m 23 5,
 X.o 24 (.len (X.s 23)),
 X.o 25 (.move (X.i 0))]
def C.q74_r7 : List IOper := C.q74_r7_b
def C.q74_r7_w := @aopsE _ _ C.q74_r7.eq_1
def C.q74_c15 : ICode := .keep [2, 3, 4, 5, 6, 15, 16, 17] (.seq (.region C.q74_r7) C.q74_c14)
def C.q74_c15_w := @awpE _ _ C.q74_c15.eq_1
def C.q74_r6_b : List IOper := [
 X.o 22 (.makeMap none),
 X.m 6 22]
def C.q74_r6 : List IOper := C.q74_r6_b
def C.q74_r6_w := @aopsE _ _ C.q74_r6.eq_1
def C.q74_c16 : ICode := .keep [2, 3, 4, 5, 15, 16, 17] (.seq (.region C.q74_r6) C.q74_c15)
def C.q74_c16_w := @awpE _ _ C.q74_c16.eq_1
def C.q74_r5_b : List IOper := [
 X.m 19 17,
 X.o 20 (.idxAddr 1 (X.s 15) (X.s 17)),
 X.o 21 (.load1 (X.s 20)),
 X.m 4 19,
 X.m 5 21]
def C.q74_r5 : List IOper := C.q74_r5_b
def C.q74_r5_w := @aopsE _ _ C.q74_r5.eq_1
def C.q74_b17 : ICode := .seq (.region C.q74_r5) C.q74_c16
def C.q74_b17_w := @awpE _ _ C.q74_b17.eq_1
def C.q74_c18 : ICode := .keep [2, 3, 15, 16, 17] (.seq (.block 1 C.q74_b17) C.q74_c2)
def C.q74_c18_w := @awpE _ _ C.q74_c18.eq_1
def C.q74_c19 : ICode := .keep [2, 3, 15, 16, 17, 18] (.seq (.cond (X.s 18) .skip (.exit 0)) C.q74_c18)
def C.q74_c19_w := @awpE _ _ C.q74_c19.eq_1
def C.q74_r4_b : List IOper := [
 X.o 18 (.bin .lss (X.s 17) (X.s 16))]
def C.q74_r4 : List IOper := C.q74_r4_b
def C.q74_r4_w := @aopsE _ _ C.q74_r4.eq_1
def C.q74_l20 : ICode := .keep [2, 3, 15, 16, 17] (.seq (.region C.q74_r4) C.q74_c19)
def C.q74_l20_w := @awpE _ _ C.q74_l20.eq_1
def C.q74_b21 : ICode := .loop C.q74_l20
def C.q74_b21_w := @awpE _ _ C.q74_b21.eq_1
def C.q74_c22 : ICode := .keep [2, 3, 15, 16, 17] (.block 0 C.q74_b21)
def C.q74_c22_w := @awpE _ _ C.q74_c22.eq_1
def C.q74_r3_b : List IOper := [
 X.m 15 0,
 X.o 16 (.len (X.s 15)),
 X.o 17 (.move (X.i 0))]
def C.q74_r3 : List IOper := C.q74_r3_b
def C.q74_r3_w := @aopsE _ _ C.q74_r3.eq_1
def C.q74_c23 : ICode := .keep [0, 2, 3] (.seq (.seq (.region C.q74_r3) C.q74_c22) C.q74_c1)
def C.q74_c23_w := @awpE _ _ C.q74_c23.eq_1
def C.q74_r2_b : List IOper := [
 X.m 12 0,
 X.o 13 (.len (X.s 12)),
 X.o 14 (.makeSlice 1 24 [.nils] (X.s 13) (X.s 13)),
 X.m 3 14]
def C.q74_r2 : List IOper := C.q74_r2_b
def C.q74_r2_w := @aopsE _ _ C.q74_r2.eq_1
def C.q74_c24 : ICode := .keep [0, 2] (.seq (.region C.q74_r2) C.q74_c23)
def C.q74_c24_w := @awpE _ _ C.q74_c24.eq_1
def C.q74_r1_b : List IOper := [
 X.m 9 0,
 X.o 10 (.len (X.s 9)),
 X.o 11 (.makeSlice 1 8 [.int .i64 0] (X.s 10) (X.s 10)),
 X.m 2 11]
def C.q74_r1 : List IOper := C.q74_r1_b
def C.q74_r1_w := @aopsE _ _ C.q74_r1.eq_1
def C.q74_c25 : ICode := .keep [0] (.seq (.region C.q74_r1) C.q74_c24)
def C.q74_c25_w := @awpE _ _ C.q74_c25.eq_1
def C.q74_r0_b : List IOper := [
 X.o 2 (.move (.cst (.nils))),
 X.o 3 (.move (.cst (.nils)))]
def C.q74_r0 : List IOper := C.q74_r0_b
def C.q74_r0_w := @aopsE _ _ C.q74_r0.eq_1
def C.q74 : IFunc := ⟨1, [.slot 2, .slot 3], .seq (.region C.q74_r0) C.q74_c25⟩
def C.q74_W := And.intro (And.intro (And.intro (And.intro (And.intro @C.q74_r16_w @C.q74_c1_w) (And.intro @C.q74_r15_w (And.intro @C.q74_c2_w @C.q74_r14_w))) (And.intro (And.intro @C.q74_c3_w @C.q74_r13_w) (And.intro @C.q74_c4_w (And.intro @C.q74_r12_w @C.q74_c5_w)))) (And.intro (And.intro (And.intro @C.q74_r11_w @C.q74_c6_w) (And.intro @C.q74_c7_w (And.intro @C.q74_r10_w @C.q74_c8_w))) (And.intro (And.intro @C.q74_r9_w @C.q74_b9_w) (And.intro @C.q74_c10_w (And.intro @C.q74_c11_w @C.q74_r8_w))))) (And.intro (And.intro (And.intro (And.intro @C.q74_b13_w @C.q74_c14_w) (And.intro @C.q74_r7_w (And.intro @C.q74_c15_w @C.q74_r6_w))) (And.intro (And.intro @C.q74_c16_w @C.q74_r5_w) (And.intro @C.q74_b17_w (And.intro @C.q74_c18_w @C.q74_c19_w)))) (And.intro (And.intro (And.intro @C.q74_r4_w @C.q74_b21_w) (And.intro @C.q74_c22_w (And.intro @C.q74_r3_w @C.q74_c23_w))) (And.intro (And.intro @C.q74_r2_w @C.q74_c24_w) (And.intro @C.q74_r1_w (And.intro @C.q74_c25_w @C.q74_r0_w)))))
def C.q74_B := And.intro (And.intro (And.intro (And.intro @C.q74_r16_b.eq_1 @C.q74_r15_b.eq_1) (And.intro @C.q74_r14_b.eq_1 @C.q74_r13_b.eq_1)) (And.intro (And.intro @C.q74_r12_b.eq_1 @C.q74_r11_b.eq_1) (And.intro @C.q74_r10_b.eq_1 @C.q74_r9_b.eq_1))) (And.intro (And.intro (And.intro @C.q74_r8_b.eq_1 @C.q74_r7_b.eq_1) (And.intro @C.q74_r6_b.eq_1 @C.q74_r5_b.eq_1)) (And.intro (And.intro @C.q74_r4_b.eq_1 @C.q74_r3_b.eq_1) (And.intro @C.q74_r2_b.eq_1 (And.intro @C.q74_r1_b.eq_1 @C.q74_r0_b.eq_1))))

def C.q76_r2_b : List IOper := [
 X.m 13 6,
 X.m 4 13]
def C.q76_r2 : List IOper := C.q76_r2_b
def C.q76_r2_w := @aopsE _ _ C.q76_r2.eq_1
def C.q76_c1 : ICode := .keep [6] (.seq (.region C.q76_r2) .ret)
def C.q76_c1_w := @awpE _ _ C.q76_c1.eq_1
def C.q76_r1_b : List IOper := [
 X.m 8 0,
 X.m 9 1,
 X.o 10 (.lookup (.agg []) true (X.s 8) (X.s 9)),
 X.m 7 10,
 X.o 11 (.extract (X.s 7) 0),
 X.o 12 (.extract (X.s 7) 1),
 X.o 5 (.alloc []),
 X.n (.storeN 0 (X.s 5) (X.s 11)),
 X.m 6 12]
def C.q76_r1 : List IOper := C.q76_r1_b
def C.q76_r1_w := @aopsE _ _ C.q76_r1.eq_1
def C.q76_c2 : ICode := .keep [0, 1] (.seq (.region C.q76_r1) C.q76_c1)
def C.q76_c2_w := @awpE _ _ C.q76_c2.eq_1
def C.q76_r0_b : List IOper := [
 X.o 4 (.move (.cst (.bool false)))]
def C.q76_r0 : List IOper := C.q76_r0_b
def C.q76_r0_w := @aopsE _ _ C.q76_r0.eq_1
def C.q76 : IFunc := ⟨2, [.slot 4], .seq (.region C.q76_r0) C.q76_c2⟩
def C.q76_W := And.intro (And.intro @C.q76_r2_w @C.q76_c1_w) (And.intro @C.q76_r1_w (And.intro @C.q76_c2_w @C.q76_r0_w))
def C.q76_B := And.intro @C.q76_r2_b.eq_1 (And.intro @C.q76_r1_b.eq_1 @C.q76_r0_b.eq_1)

def C.q75_r0_b : List IOper := [
 X.m 4 0,
 X.m 5 1,
 X.o 6 (.build [] []),
 X.n (.mapSet (X.s 4) (X.s 5) (X.s 6))]
def C.q75_r0 : List IOper := C.q75_r0_b
def C.q75_r0_w := @aopsE _ _ C.q75_r0.eq_1
def C.q75 : IFunc := ⟨2, [], .region C.q75_r0⟩
def C.q75_W := @C.q75_r0_w
def C.q75_B := @C.q75_r0_b.eq_1

def C.q88_r2_b : List IOper := [
 X.m 10 2,
 X.o 11 (.bin .add (X.s 10) (X.i 1)),
 X.m 12 3,
 X.o 13 (.bin .sub (X.s 12) (X.i 1)),
 X.m 2 11,
 X.m 3 13]
def C.q88_r2 : List IOper := C.q88_r2_b
def C.q88_r2_w := @aopsE _ _ C.q88_r2.eq_1
def C.q88_c1 : ICode := .keep [0, 2, 3] (.region C.q88_r2)
def C.q88_c1_w := @awpE _ _ C.q88_c1.eq_1
def C.q88_r3_b : List IOper := [
 X.m 14 0,
 X.m 15 2,
 X.m 16 0,
 X.m 17 3,
 X.m 18 0,
 X.m 19 3,
 X.o 20 (.idxAddr 1 (X.s 18) (X.s 19)),
 X.o 21 (.load1 (X.s 20)),
 X.m 22 0,
 X.m 23 2,
 X.o 24 (.idxAddr 1 (X.s 22) (X.s 23)),
 X.o 25 (.load1 (X.s 24)),
 X.o 26 (.idxAddr 1 (X.s 14) (X.s 15)),
 X.n (.store1 (X.s 26) (X.s 21)),
 X.o 27 (.idxAddr 1 (X.s 16) (X.s 17)),
 X.n (.store1 (X.s 27) (X.s 25))]
def C.q88_r3 : List IOper := C.q88_r3_b
def C.q88_r3_w := @aopsE _ _ C.q88_r3.eq_1
def C.q88_b2 : ICode := .region C.q88_r3
def C.q88_b2_w := @awpE _ _ C.q88_b2.eq_1
def C.q88_c3 : ICode := .keep [0, 2, 3] (.seq (.block 1 C.q88_b2) C.q88_c1)
def C.q88_c3_w := @awpE _ _ C.q88_c3.eq_1
def C.q88_c4 : ICode := .keep [0, 2, 3, 9] (.cond (X.s 9) .skip (.exit 0))
def C.q88_c4_w := @awpE _ _ C.q88_c4.eq_1
def C.q88_r1_b : List IOper := [
 X.m 7 2,
 X.m 8 3,
 X.o 9 (.bin .lss (X.s 7) (X.s 8))]
def C.q88_r1 : List IOper := C.q88_r1_b
def C.q88_r1_w := @aopsE _ _ C.q88_r1.eq_1
def C.q88_l5 : ICode := .keep [0, 2, 3] (.seq (.seq (.region C.q88_r1) C.q88_c4) C.q88_c3)
def C.q88_l5_w := @awpE _ _ C.q88_l5.eq_1
def C.q88_b6 : ICode := .loop C.q88_l5
def C.q88_b6_w := @awpE _ _ C.q88_b6.eq_1
def C.q88_c7 : ICode := .keep [0, 2, 3] (.block 0 C.q88_b6)
def C.q88_c7_w := @awpE _ _ C.q88_c7.eq_1
def C.q88_r0_b : List IOper := [
 X.m 4 0,
 X.o 5 (.len (X.s 4)),
 X.o 6 (.bin .sub (X.s 5) (X.i 1)),
 X.o 2 (.move (X.i 0)),
 X.m 3 6]
def C.q88_r0 : List IOper := C.q88_r0_b
def C.q88_r0_w := @aopsE _ _ C.q88_r0.eq_1
def C.q88 : IFunc := ⟨1, [], .seq (.region C.q88_r0) C.q88_c7⟩
def C.q88_W := And.intro (And.intro (And.intro @C.q88_r2_w @C.q88_c1_w) (And.intro @C.q88_r3_w (And.intro @C.q88_b2_w @C.q88_c3_w))) (And.intro (And.intro @C.q88_c4_w @C.q88_r1_w) (And.intro @C.q88_b6_w (And.intro @C.q88_c7_w @C.q88_r0_w)))
def C.q88_B := And.intro (And.intro @C.q88_r2_b.eq_1 @C.q88_r3_b.eq_1) (And.intro @C.q88_r1_b.eq_1 @C.q88_r0_b.eq_1)

def C.q8_r14_b : List IOper := [
 X.o 33 (.loadN 4 (X.s 1)),
 X.o 34 (.call F.q15 [X.s 33]),
 X.m 2 34]
def C.q8_r14 : List IOper := C.q8_r14_b
def C.q8_r14_w := @aopsE _ _ C.q8_r14.eq_1
def C.q8_c1 : ICode := .keep [1] (.seq (.region C.q8_r14) .ret)
def C.q8_c1_w := @awpE _ _ C.q8_c1.eq_1
def C.q8_r11_b : List IOper := [
 X.m 23 4,
 X.o 24 (.bin .add (X.s 23) (X.i 1)),
 X.m 4 24]
def C.q8_r11 : List IOper := C.q8_r11_b
def C.q8_r11_w := @aopsE _ _ C.q8_r11.eq_1
def C.q8_c2 : ICode := .keep [1, 4] (.region C.q8_r11)
def C.q8_c2_w := @awpE _ _ C.q8_c2.eq_1
def C.q8_r13_b : List IOper := [
 X.o 2 (.move (X.i 3))]
def C.q8_r13 : List IOper := C.q8_r13_b
def C.q8_r13_w := @aopsE _ _ C.q8_r13.eq_1
def C.q8_c3 : ICode := .seq (.region C.q8_r13) .ret
def C.q8_c3_w := @awpE _ _ C.q8_c3.eq_1
def C.q8_c4 : ICode := .keep [1, 4, 32] (.cond (X.s 32) C.q8_c3 .skip)
def C.q8_c4_w := @awpE _ _ C.q8_c4.eq_1
def C.q8_r12_b : List IOper := [
 X.o 25 (.fldAddr 2 (X.s 1)),
 X.o 26 (.load1 (X.s 25)),
 X.m 27 4,
 X.o 28 (.idxAddr 1 (X.s 26) (X.s 27)),
 X.o 29 (.fldAddr 0 (X.s 28)),
 X.o 30 (.load1 (X.s 29)),
 X.o 31 (.call F.q18 [X.s 30, X.i 0, X.i 20]),
 X.o 32 (.un .not (X.s 31))]
def C.q8_r12 : List IOper := C.q8_r12_b
def C.q8_r12_w := @aopsE _ _ C.q8_r12.eq_1
def C.q8_b5 : ICode := .seq (.region C.q8_r12) C.q8_c4
def C.q8_b5_w := @awpE _ _ C.q8_b5.eq_1
def C.q8_c6 : ICode := .keep [1, 4] (.seq (.block 1 C.q8_b5) C.q8_c2)
def C.q8_c6_w := @awpE _ _ C.q8_c6.eq_1
def C.q8_c7 : ICode := .keep [1, 4, 22] (.cond (X.s 22) .skip (.exit 0))
def C.q8_c7_w := @awpE _ _ C.q8_c7.eq_1
def C.q8_r10_b : List IOper := [
 X.m 18 4,
 X.o 19 (.fldAddr 2 (X.s 1)),
 X.o 20 (.load1 (X.s 19)),
 X.o 21 (.len (X.s 20)),
 X.o 22 (.bin .lss (X.s 18) (X.s 21))]
def C.q8_r10 : List IOper := C.q8_r10_b
def C.q8_r10_w := @aopsE _ _ C.q8_r10.eq_1
def C.q8_l8 : ICode := .keep [1, 4] (.seq (.seq (.region C.q8_r10) C.q8_c7) C.q8_c6)
def C.q8_l8_w := @awpE _ _ C.q8_l8.eq_1
def C.q8_b9 : ICode := .loop C.q8_l8
def C.q8_b9_w := @awpE _ _ C.q8_b9.eq_1
def C.q8_c10 : ICode := .keep [1, 4] (.block 0 C.q8_b9)
def C.q8_c10_w := @awpE _ _ C.q8_c10.eq_1
def C.q8_r9_b : List IOper := [
 X.o 4 (.move (X.i 0))]
def C.q8_r9 : List IOper := C.q8_r9_b
def C.q8_r9_w := @aopsE _ _ C.q8_r9.eq_1
def C.q8_c11 : ICode := .keep [1] (.seq (.seq (.region C.q8_r9) C.q8_c10) C.q8_c1)
def C.q8_c11_w := @awpE _ _ C.q8_c11.eq_1
def C.q8_r8_b : List IOper := [
 X.m 17 3,
 X.m 2 17]
def C.q8_r8 : List IOper := C.q8_r8_b
def C.q8_r8_w := @aopsE _ _ C.q8_r8.eq_1
def C.q8_c12 : ICode := .seq (.region C.q8_r8) .ret
def C.q8_c12_w := @awpE _ _ C.q8_c12.eq_1
def C.q8_c13 : ICode := .keep [1, 3, 16] (.cond (X.s 16) C.q8_c12 .skip)
def C.q8_c13_w := @awpE _ _ C.q8_c13.eq_1
def C.q8_r7_b : List IOper := [
 X.m 15 3,
 X.o 16 (.bin .neq (X.s 15) (X.i 0))]
def C.q8_r7 : List IOper := C.q8_r7_b
def C.q8_r7_w := @aopsE _ _ C.q8_r7.eq_1
def C.q8_c14 : ICode := .keep [1, 3] (.seq (.seq (.region C.q8_r7) C.q8_c13) C.q8_c11)
def C.q8_c14_w := @awpE _ _ C.q8_c14.eq_1
def C.q8_r6_b : List IOper := [
 X.o 13 (.loadN 4 (X.s 1)),
 X.o 14 (.call F.q16 [X.s 13]),
 X.m 3 14]
def C.q8_r6 : List IOper := C.q8_r6_b
def C.q8_r6_w := @aopsE _ _ C.q8_r6.eq_1
def C.q8_c15 : ICode := .keep [1] (.seq (.region C.q8_r6) C.q8_c14)
def C.q8_c15_w := @awpE _ _ C.q8_c15.eq_1
def C.q8_r5_b : List IOper := [
 X.m 12 3,
 X.m 2 12]
def C.q8_r5 : List IOper := C.q8_r5_b
def C.q8_r5_w := @aopsE _ _ C.q8_r5.eq_1
def C.q8_c16 : ICode := .seq (.region C.q8_r5) .ret
def C.q8_c16_w := @awpE _ _ C.q8_c16.eq_1
def C.q8_c17 : ICode := .keep [1, 3, 11] (.cond (X.s 11) C.q8_c16 .skip)
def C.q8_c17_w := @awpE _ _ C.q8_c17.eq_1
def C.q8_r4_b : List IOper := [
 X.m 10 3,
 X.o 11 (.bin .neq (X.s 10) (X.i 0))]
def C.q8_r4 : List IOper := C.q8_r4_b
def C.q8_r4_w := @aopsE _ _ C.q8_r4.eq_1
def C.q8_c18 : ICode := .keep [1, 3] (.seq (.seq (.region C.q8_r4) C.q8_c17) C.q8_c15)
def C.q8_c18_w := @awpE _ _ C.q8_c18.eq_1
def C.q8_r3_b : List IOper := [
 X.o 8 (.loadN 4 (X.s 1)),
 X.o 9 (.call F.q13 [X.s 8]),
 X.m 3 9]
def C.q8_r3 : List IOper := C.q8_r3_b
def C.q8_r3_w := @aopsE _ _ C.q8_r3.eq_1
def C.q8_c19 : ICode := .keep [1] (.seq (.region C.q8_r3) C.q8_c18)
def C.q8_c19_w := @awpE _ _ C.q8_c19.eq_1
def C.q8_r2_b : List IOper := [
 X.o 2 (.move (X.i 8))]
def C.q8_r2 : List IOper := C.q8_r2_b
def C.q8_r2_w := @aopsE _ _ C.q8_r2.eq_1
def C.q8_c20 : ICode := .seq (.region C.q8_r2) .ret
def C.q8_c20_w := @awpE _ _ C.q8_c20.eq_1
def C.q8_c21 : ICode := .keep [1, 7] (.cond (X.s 7) C.q8_c20 .skip)
def C.q8_c21_w := @awpE _ _ C.q8_c21.eq_1
def C.q8_r1_b : List IOper := [
 X.o 5 (.loadN 4 (X.s 1)),
 X.o 6 (.call F.q14 [X.s 5]),
 X.o 7 (.un .not (X.s 6))]
def C.q8_r1 : List IOper := C.q8_r1_b
def C.q8_r1_w := @aopsE _ _ C.q8_r1.eq_1
def C.q8_c22 : ICode := .keep [1] (.seq (.seq (.region C.q8_r1) C.q8_c21) C.q8_c19)
def C.q8_c22_w := @awpE _ _ C.q8_c22.eq_1
def C.q8_r0_b : List IOper := [
 X.o 1 (.boxN (X.s 0)),
 X.o 2 (.move (X.i 0))]
def C.q8_r0 : List IOper := C.q8_r0_b
def C.q8_r0_w := @aopsE _ _ C.q8_r0.eq_1
def C.q8 : IFunc := ⟨1, [.slot 2], .seq (.region C.q8_r0) C.q8_c22⟩
def C.q8_W := And.intro (And.intro (And.intro (And.intro (And.intro @C.q8_r14_w @C.q8_c1_w) (And.intro @C.q8_r11_w @C.q8_c2_w)) (And.intro (And.intro @C.q8_r13_w @C.q8_c3_w) (And.intro @C.q8_c4_w (And.intro @C.q8_r12_w @C.q8_b5_w)))) (And.intro (And.intro (And.intro @C.q8_c6_w @C.q8_c7_w) (And.intro @C.q8_r10_w @C.q8_b9_w)) (And.intro (And.intro @C.q8_c10_w @C.q8_r9_w) (And.intro @C.q8_c11_w (And.intro @C.q8_r8_w @C.q8_c12_w))))) (And.intro (And.intro (And.intro (And.intro @C.q8_c13_w @C.q8_r7_w) (And.intro @C.q8_c14_w @C.q8_r6_w)) (And.intro (And.intro @C.q8_c15_w @C.q8_r5_w) (And.intro @C.q8_c16_w (And.intro @C.q8_c17_w @C.q8_r4_w)))) (And.intro (And.intro (And.intro @C.q8_c18_w @C.q8_r3_w) (And.intro @C.q8_c19_w @C.q8_r2_w)) (And.intro (And.intro @C.q8_c20_w @C.q8_c21_w) (And.intro @C.q8_r1_w (And.intro @C.q8_c22_w @C.q8_r0_w)))))
def C.q8_B := And.intro (And.intro (And.intro @C.q8_r14_b.eq_1 (And.intro @C.q8_r11_b.eq_1 @C.q8_r13_b.eq_1)) (And.intro (And.intro @C.q8_r12_b.eq_1 @C.q8_r10_b.eq_1) (And.intro @C.q8_r9_b.eq_1 @C.q8_r8_b.eq_1))) (And.intro (And.intro (And.intro @C.q8_r7_b.eq_1 @C.q8_r6_b.eq_1) (And.intro @C.q8_r5_b.eq_1 @C.q8_r4_b.eq_1)) (And.intro (And.intro @C.q8_r3_b.eq_1 @C.q8_r2_b.eq_1) (And.intro @C.q8_r1_b.eq_1 @C.q8_r0_b.eq_1)))

def C.q25_r1_b : List IOper := [
 X.m 5 1,
 X.o 6 (.bin .geq (X.s 5) (X.i 0)),
 X.m 7 6,
 X.t 7 8 (.move (X.s 1)),
 X.t 7 9 (.move (X.s 0)),
 X.t 7 10 (.nilchk (X.s 9)),
 X.t 7 11 (.fldAddr 0 (X.s 10)),
 X.t 7 12 (.load1 (X.s 11)),
 X.t 7 13 (.len (X.s 12)),
 X.t 7 14 (.bin .lss (X.s 8) (X.s 13)),
 X.o 15 (.pick (X.s 7) (X.s 14) (.cst (.bool false))),
 X.m 4 15]
def C.q25_r1 : List IOper := C.q25_r1_b
def C.q25_r1_w := @aopsE _ _ C.q25_r1.eq_1
def C.q25_c1 : ICode := .keep [0, 1] (.seq (.region C.q25_r1) .ret)
def C.q25_c1_w := @awpE _ _ C.q25_c1.eq_1
def C.q25_r0_b : List IOper := [
 X.o 4 (.move (.cst (.bool false)))]
def C.q25_r0 : List IOper := C.q25_r0_b
def C.q25_r0_w := @aopsE _ _ C.q25_r0.eq_1
def C.q25 : IFunc := ⟨2, [.slot 4], .seq (.region C.q25_r0) C.q25_c1⟩
def C.q25_W := And.intro @C.q25_r1_w (And.intro @C.q25_c1_w @C.q25_r0_w)
def C.q25_B := And.intro @C.q25_r1_b.eq_1 @C.q25_r0_b.eq_1

def C.q63_r8_b : List IOper := [
 X.o 2 (.move (X.i 0))]
def C.q63_r8 : List IOper := C.q63_r8_b
def C.q63_r8_w := @aopsE _ _ C.q63_r8.eq_1
def C.q63_c1 : ICode := .keep [] (.seq (.region C.q63_r8) .ret)
def C.q63_c1_w := @awpE _ _ C.q63_c1.eq_1
def C.q63_r7_b : List IOper := [
 X.o 17 (.bin .add (X.s 8) (X.i 1)),
 X.m 8 17]
def C.q63_r7 : List IOper := C.q63_r7_b
def C.q63_r7_w := @aopsE _ _ C.q63_r7.eq_1
def C.q63_c2 : ICode := .keep [6, 7, 8] (.region C.q63_r7)
def C.q63_c2_w := @awpE _ _ C.q63_c2.eq_1
def C.q63_r6_b : List IOper := [
 X.m 16 5,
 X.m 2 16]
def C.q63_r6 : List IOper := C.q63_r6_b
def C.q63_r6_w := @aopsE _ _ C.q63_r6.eq_1
def C.q63_c3 : ICode := .seq (.region C.q63_r6) .ret
def C.q63_c3_w := @awpE _ _ C.q63_c3.eq_1
def C.q63_c4 : ICode := .keep [5, 6, 7, 8, 15] (.cond (X.s 15) C.q63_c3 .skip)
def C.q63_c4_w := @awpE _ _ C.q63_c4.eq_1
def C.q63_r5_b : List IOper := [
 X.m 14 5,
 X.o 15 (.bin .neq (X.s 14) (X.i 0))]
def C.q63_r5 : List IOper := C.q63_r5_b
def C.q63_r5_w := @aopsE _ _ C.q63_r5.eq_1
def C.q63_c5 : ICode := .keep [5, 6, 7, 8] (.seq (.region C.q63_r5) C.q63_c4)
def C.q63_c5_w := @awpE _ _ C.q63_c5.eq_1
def C.q63_r4_b : List IOper := [
 X.m 12 4,
 X.o 13 (.callv (X.s 12) []),
 X.m 5 13]
def C.q63_r4 : List IOper := C.q63_r4_b
def C.q63_r4_w := @aopsE _ _ C.q63_r4.eq_1
def C.q63_c6 : ICode := .keep [4, 6, 7, 8] (.seq (.region C.q63_r4) C.q63_c5)
def C.q63_c6_w := @awpE _ _ C.q63_c6.eq_1
def C.q63_r3_b : List IOper := [
 X.o 10 (.idxAddr 1 (X.s 6) (X.s 8)),
 X.o 11 (.load1 (X.s 10)),
 X.m 4 11]
def C.q63_r3 : List IOper := C.q63_r3_b
def C.q63_r3_w := @aopsE _ _ C.q63_r3.eq_1
def C.q63_b7 : ICode := .seq (.region C.q63_r3) C.q63_c6
def C.q63_b7_w := @awpE _ _ C.q63_b7.eq_1
def C.q63_c8 : ICode := .keep [6, 7, 8] (.seq (.block 1 C.q63_b7) C.q63_c2)
def C.q63_c8_w := @awpE _ _ C.q63_c8.eq_1
def C.q63_c9 : ICode := .keep [6, 7, 8, 9] (.seq (.cond (X.s 9) .skip (.exit 0)) C.q63_c8)
def C.q63_c9_w := @awpE _ _ C.q63_c9.eq_1
def C.q63_r2_b : List IOper := [
 X.o 9 (.bin .lss (X.s 8) (X.s 7))]
def C.q63_r2 : List IOper := C.q63_r2_b
def C.q63_r2_w := @aopsE _ _ C.q63_r2.eq_1
def C.q63_l10 : ICode := .keep [6, 7, 8] (.seq (.region C.q63_r2) C.q63_c9)
def C.q63_l10_w := @awpE _ _ C.q63_l10.eq_1
def C.q63_b11 : ICode := .loop C.q63_l10
def C.q63_b11_w := @awpE _ _ C.q63_b11.eq_1
def C.q63_c12 : ICode := .keep [6, 7, 8] (.block 0 C.q63_b11)
def C.q63_c12_w := @awpE _ _ C.q63_c12.eq_1
def C.q63_r1_b : List IOper := [
 X.m 6 0,
 X.o 7 (.len (X.s 6)),
 X.o 8 (.move (X.i 0))]
def C.q63_r1 : List IOper := C.q63_r1_b
def C.q63_r1_w := @aopsE _ _ C.q63_r1.eq_1
def C.q63_c13 : ICode := .keep [0] (.seq (.seq (.region C.q63_r1) C.q63_c12) C.q63_c1)
def C.q63_c13_w := @awpE _ _ C.q63_c13.eq_1
def C.q63_r0_b : List IOper := [
 X.o 2 (.move (X.i 0))]
def C.q63_r0 : List IOper := C.q63_r0_b
def C.q63_r0_w := @aopsE _ _ C.q63_r0.eq_1
def C.q63 : IFunc := ⟨1, [.slot 2], .seq (.region C.q63_r0) C.q63_c13⟩
def C.q63_W := And.intro (And.intro (And.intro (And.intro @C.q63_r8_w @C.q63_c1_w) (And.intro @C.q63_r7_w (And.intro @C.q63_c2_w @C.q63_r6_w))) (And.intro (And.intro @C.q63_c3_w @C.q63_c4_w) (And.intro @C.q63_r5_w (And.intro @C.q63_c5_w @C.q63_r4_w)))) (And.intro (And.intro (And.intro @C.q63_c6_w @C.q63_r3_w) (And.intro @C.q63_b7_w (And.intro @C.q63_c8_w @C.q63_c9_w))) (And.intro (And.intro @C.q63_r2_w (And.intro @C.q63_b11_w @C.q63_c12_w)) (And.intro @C.q63_r1_w (And.intro @C.q63_c13_w @C.q63_r0_w))))
def C.q63_B := And.intro (And.intro (And.intro @C.q63_r8_b.eq_1 @C.q63_r7_b.eq_1) (And.intro @C.q63_r6_b.eq_1 @C.q63_r5_b.eq_1)) (And.intro (And.intro @C.q63_r4_b.eq_1 @C.q63_r3_b.eq_1) (And.intro @C.q63_r2_b.eq_1 (And.intro @C.q63_r1_b.eq_1 @C.q63_r0_b.eq_1)))

def C.q29_r1_b : List IOper := [
 X.o 2 (.loadN 4 (X.s 0)),
 X.o 3 (.call F.q64 [X.s 2]),
 X.m 1 3]
def C.q29_r1 : List IOper := C.q29_r1_b
def C.q29_r1_w := @aopsE _ _ C.q29_r1.eq_1
def C.q29_c1 : ICode := .keep [0] (.seq (.region C.q29_r1) .ret)
def C.q29_c1_w := @awpE _ _ C.q29_c1.eq_1
def C.q29_r0_b : List IOper := [
 X.o 1 (.move (X.i 0))]
def C.q29_r0 : List IOper := C.q29_r0_b
def C.q29_r0_w := @aopsE _ _ C.q29_r0.eq_1
def C.q29 : IFunc := ⟨1, [.slot 1], .seq (.region C.q29_r0) C.q29_c1⟩
def C.q29_W := And.intro @C.q29_r1_w (And.intro @C.q29_c1_w @C.q29_r0_w)
def C.q29_B := And.intro @C.q29_r1_b.eq_1 @C.q29_r0_b.eq_1

def C.q64_r3_b : List IOper := [
 X.o 25 (.fldAddr 3 (X.s 1)),
 X.o 26 (.load1 (X.s 25)),
 X.o 27 (.call F.q59 [X.s 26, .fnc F.q65]),
 X.m 2 27]
def C.q64_r3 : List IOper := C.q64_r3_b
def C.q64_r3_w := @aopsE _ _ C.q64_r3.eq_1
def C.q64_c1 : ICode := .keep [1] (.seq (.region C.q64_r3) .ret)
def C.q64_c1_w := @awpE _ _ C.q64_c1.eq_1
def C.q64_r2_b : List IOper := [
 X.o 2 (.move (X.i 8))]
def C.q64_r2 : List IOper := C.q64_r2_b
def C.q64_r2_w := @aopsE _ _ C.q64_r2.eq_1
def C.q64_c2 : ICode := .seq (.region C.q64_r2) .ret
def C.q64_c2_w := @awpE _ _ C.q64_c2.eq_1
def C.q64_c3 : ICode := .keep [1, 24] (.cond (X.s 24) C.q64_c2 .skip)
def C.q64_c3_w := @awpE _ _ C.q64_c3.eq_1
def C.q64_r1_b : List IOper := [
 X.o 3 (.fldAddr 0 (X.s 1)),
 X.o 4 (.load1 (X.s 3)),
 X.o 5 (.len (X.s 4)),
 X.o 6 (.bin .gtr (X.s 5) (X.i 12)),
 X.m 7 6,
 X.f 7 8 (.fldAddr 1 (X.s 1)),
 X.f 7 9 (.load1 (X.s 8)),
 X.f 7 10 (.len (X.s 9)),
 X.f 7 11 (.bin .gtr (X.s 10) (X.i 6)),
 X.o 12 (.pick (X.s 7) (.cst (.bool true)) (X.s 11)),
 X.m 13 12,
 X.f 13 14 (.fldAddr 2 (X.s 1)),
 X.f 13 15 (.load1 (X.s 14)),
 X.f 13 16 (.len (X.s 15)),
 X.f 13 17 (.bin .gtr (X.s 16) (X.i 6)),
 X.o 18 (.pick (X.s 13) (.cst (.bool true)) (X.s 17)),
 X.m 19 18,
 X.f 19 20 (.fldAddr 3 (X.s 1)),
 X.f 19 21 (.load1 (X.s 20)),
 X.f 19 22 (.len (X.s 21)),
 X.f 19 23 (.bin .gtr (X.s 22) (X.i 6)),
 X.o 24 (.pick (X.s 19) (.cst (.bool true)) (X.s 23))]
def C.q64_r1 : List IOper := C.q64_r1_b
def C.q64_r1_w := @aopsE _ _ C.q64_r1.eq_1
def C.q64_c4 : ICode := .keep [1] (.seq (.seq (.region C.q64_r1) C.q64_c3) C.q64_c1)
def C.q64_c4_w := @awpE _ _ C.q64_c4.eq_1
def C.q64_r0_b : List IOper := [
 X.o 1 (.boxN (X.s 0)),
 X.o 2 (.move (X.i 0))]
def C.q64_r0 : List IOper := C.q64_r0_b
def C.q64_r0_w := @aopsE _ _ C.q64_r0.eq_1
def C.q64 : IFunc := ⟨1, [.slot 2], .seq (.region C.q64_r0) C.q64_c4⟩
def C.q64_W := And.intro (And.intro (And.intro @C.q64_r3_w @C.q64_c1_w) (And.intro @C.q64_r2_w @C.q64_c2_w)) (And.intro (And.intro @C.q64_c3_w @C.q64_r1_w) (And.intro @C.q64_c4_w @C.q64_r0_w))
def C.q64_B := And.intro (And.intro @C.q64_r3_b.eq_1 @C.q64_r2_b.eq_1) (And.intro @C.q64_r1_b.eq_1 @C.q64_r0_b.eq_1)

def C.q30_r1_b : List IOper := [
 X.o 2 (.fldAddr 0 (X.s 0)),
 X.o 3 (.load1 (X.s 2)),
 X.o 4 (.makeFunc F.q31 [X.s 0]),
 X.o 5 (.call F.q58 [X.s 3, X.s 4]),
 X.m 1 5]
def C.q30_r1 : List IOper := C.q30_r1_b
def C.q30_r1_w := @aopsE _ _ C.q30_r1.eq_1
def C.q30_c1 : ICode := .keep [0] (.seq (.region C.q30_r1) .ret)
def C.q30_c1_w := @awpE _ _ C.q30_c1.eq_1
def C.q30_r0_b : List IOper := [
 X.o 1 (.move (X.i 0))]
def C.q30_r0 : List IOper := C.q30_r0_b
def C.q30_r0_w := @aopsE _ _ C.q30_r0.eq_1
def C.q30 : IFunc := ⟨1, [.slot 1], .seq (.region C.q30_r0) C.q30_c1⟩
def C.q30_W := And.intro @C.q30_r1_w (And.intro @C.q30_c1_w @C.q30_r0_w)
def C.q30_B := And.intro @C.q30_r1_b.eq_1 @C.q30_r0_b.eq_1

def C.q58_r8_b : List IOper := [
 X.o 4 (.move (X.i 0))]
def C.q58_r8 : List IOper := C.q58_r8_b
def C.q58_r8_w := @aopsE _ _ C.q58_r8.eq_1
def C.q58_c1 : ICode := .keep [] (.seq (.region C.q58_r8) .ret)
def C.q58_c1_w := @awpE _ _ C.q58_c1.eq_1
def C.q58_r7_b : List IOper := [
 X.o 20 (.bin .add (X.s 10) (X.i 1)),
 X.m 10 20]
def C.q58_r7 : List IOper := C.q58_r7_b
def C.q58_r7_w := @aopsE _ _ C.q58_r7.eq_1
def C.q58_c2 : ICode := .keep [1, 8, 9, 10] (.region C.q58_r7)
def C.q58_c2_w := @awpE _ _ C.q58_c2.eq_1
def C.q58_r6_b : List IOper := [
 X.m 19 7,
 X.m 4 19]
def C.q58_r6 : List IOper := C.q58_r6_b
def C.q58_r6_w := @aopsE _ _ C.q58_r6.eq_1
def C.q58_c3 : ICode := .seq (.region C.q58_r6) .ret
def C.q58_c3_w := @awpE _ _ C.q58_c3.eq_1
def C.q58_c4 : ICode := .keep [1, 7, 8, 9, 10, 18] (.cond (X.s 18) C.q58_c3 .skip)
def C.q58_c4_w := @awpE _ _ C.q58_c4.eq_1
def C.q58_r5_b : List IOper := [
 X.m 17 7,
 X.o 18 (.bin .neq (X.s 17) (X.i 0))]
def C.q58_r5 : List IOper := C.q58_r5_b
def C.q58_r5_w := @aopsE _ _ C.q58_r5.eq_1
def C.q58_c5 : ICode := .keep [1, 7, 8, 9, 10] (.seq (.region C.q58_r5) C.q58_c4)
def C.q58_c5_w := @awpE _ _ C.q58_c5.eq_1
def C.q58_r4_b : List IOper := [
 X.m 14 1,
 X.o 15 (.loadN 6 (X.s 6)),
 X.o 16 (.callv (X.s 14) [X.s 15]),
 X.m 7 16]
def C.q58_r4 : List IOper := C.q58_r4_b
def C.q58_r4_w := @aopsE _ _ C.q58_r4.eq_1
def C.q58_c6 : ICode := .keep [1, 6, 8, 9, 10] (.seq (.region C.q58_r4) C.q58_c5)
def C.q58_c6_w := @awpE _ _ C.q58_c6.eq_1
def C.q58_r3_b : List IOper := [
 X.o 12 (.idxAddr 6 (X.s 8) (X.s 10)),
 X.o 13 (.loadN 6 (X.s 12)),
 X.o 6 (.alloc [.int .u8 0, .nils, .int .u64 0, .int .i64 0, .int .i64 0, .int .i64 0]),
 X.n (.storeN 6 (X.s 6) (X.s 13))]
def C.q58_r3 : List IOper := C.q58_r3_b
def C.q58_r3_w := @aopsE _ _ C.q58_r3.eq_1
def C.q58_b7 : ICode := .seq (.region C.q58_r3) C.q58_c6
def C.q58_b7_w := @awpE _ _ C.q58_b7.eq_1
def C.q58_c8 : ICode := .keep [1, 8, 9, 10] (.seq (.block 1 C.q58_b7) C.q58_c2)
def C.q58_c8_w := @awpE _ _ C.q58_c8.eq_1
def C.q58_c9 : ICode := .keep [1, 8, 9, 10, 11] (.seq (.cond (X.s 11) .skip (.exit 0)) C.q58_c8)
def C.q58_c9_w := @awpE _ _ C.q58_c9.eq_1
def C.q58_r2_b : List IOper := [
 X.o 11 (.bin .lss (X.s 10) (X.s 9))]
def C.q58_r2 : List IOper := C.q58_r2_b
def C.q58_r2_w := @aopsE _ _ C.q58_r2.eq_1
def C.q58_l10 : ICode := .keep [1, 8, 9, 10] (.seq (.region C.q58_r2) C.q58_c9)
def C.q58_l10_w := @awpE _ _ C.q58_l10.eq_1
def C.q58_b11 : ICode := .loop C.q58_l10
def C.q58_b11_w := @awpE _ _ C.q58_b11.eq_1
def C.q58_c12 : ICode := .keep [1, 8, 9, 10] (.block 0 C.q58_b11)
def C.q58_c12_w := @awpE _ _ C.q58_c12.eq_1
def C.q58_r1_b : List IOper := [
 X.m 8 0,
 X.o 9 (.len (X.s 8)),
 X.o 10 (.move (X.i 0))]
def C.q58_r1 : List IOper := C.q58_r1_b
def C.q58_r1_w := @aopsE _ _ C.q58_r1.eq_1
def C.q58_c13 : ICode := .keep [0, 1] (.seq (.seq (.region C.q58_r1) C.q58_c12) C.q58_c1)
def C.q58_c13_w := @awpE _ _ C.q58_c13.eq_1
def C.q58_r0_b : List IOper := [
 X.o 4 (.move (X.i 0))]
def C.q58_r0 : List IOper := C.q58_r0_b
def C.q58_r0_w := @aopsE _ _ C.q58_r0.eq_1
def C.q58 : IFunc := ⟨2, [.slot 4], .seq (.region C.q58_r0) C.q58_c13⟩
def C.q58_W := And.intro (And.intro (And.intro (And.intro @C.q58_r8_w @C.q58_c1_w) (And.intro @C.q58_r7_w (And.intro @C.q58_c2_w @C.q58_r6_w))) (And.intro (And.intro @C.q58_c3_w @C.q58_c4_w) (And.intro @C.q58_r5_w (And.intro @C.q58_c5_w @C.q58_r4_w)))) (And.intro (And.intro (And.intro @C.q58_c6_w @C.q58_r3_w) (And.intro @C.q58_b7_w (And.intro @C.q58_c8_w @C.q58_c9_w))) (And.intro (And.intro @C.q58_r2_w (And.intro @C.q58_b11_w @C.q58_c12_w)) (And.intro @C.q58_r1_w (And.intro @C.q58_c13_w @C.q58_r0_w))))
def C.q58_B := And.intro (And.intro (And.intro @C.q58_r8_b.eq_1 @C.q58_r7_b.eq_1) (And.intro @C.q58_r6_b.eq_1 @C.q58_r5_b.eq_1)) (And.intro (And.intro @C.q58_r4_b.eq_1 @C.q58_r3_b.eq_1) (And.intro @C.q58_r2_b.eq_1 (And.intro @C.q58_r1_b.eq_1 @C.q58_r0_b.eq_1)))

def C.q31_r1_b : List IOper := [
 X.o 4 (.loadN 4 (X.s 1)),
 X.o 5 (.loadN 6 (X.s 2)),
 X.o 6 (.call F.q43 [X.s 4, X.s 5]),
 X.m 3 6]
def C.q31_r1 : List IOper := C.q31_r1_b
def C.q31_r1_w := @aopsE _ _ C.q31_r1.eq_1
def C.q31_c1 : ICode := .keep [1, 2] (.seq (.region C.q31_r1) .ret)
def C.q31_c1_w := @awpE _ _ C.q31_c1.eq_1
def C.q31_r0_b : List IOper := [
 X.o 2 (.boxN (X.s 0)),
 X.o 3 (.move (X.i 0))]
def C.q31_r0 : List IOper := C.q31_r0_b
def C.q31_r0_w := @aopsE _ _ C.q31_r0.eq_1
def C.q31 : IFunc := ⟨2, [.slot 3], .seq (.region C.q31_r0) C.q31_c1⟩
def C.q31_W := And.intro @C.q31_r1_w (And.intro @C.q31_c1_w @C.q31_r0_w)
def C.q31_B := And.intro @C.q31_r1_b.eq_1 @C.q31_r0_b.eq_1

def C.q43_r1_b : List IOper := [
 X.o 5 (.makeFunc F.q44 [X.s 3]),
 X.o 6 (.makeFunc F.q45 [X.s 3, X.s 2]),
 X.o 7 (.makeFunc F.q47 [X.s 3]),
 X.o 8 (.buildSlice 1 3 [.nilf] [(0, 1, X.s 5), (1, 1, X.s 6), (2, 1, X.s 7)]),
 X.o 9 (.call F.q63 [X.s 8]),
 X.m 4 9]
def C.q43_r1 : List IOper := C.q43_r1_b
def C.q43_r1_w := @aopsE _ _ C.q43_r1.eq_1
def C.q43_c1 : ICode := .keep [2, 3] (.seq (.region C.q43_r1) .ret)
def C.q43_c1_w := @awpE _ _ C.q43_c1.eq_1
def C.q43_r0_b : List IOper := [
 X.o 2 (.boxN (X.s 0)),
 X.o 3 (.boxN (X.s 1)),
 X.o 4 (.move (X.i 0))]
def C.q43_r0 : List IOper := C.q43_r0_b
def C.q43_r0_w := @aopsE _ _ C.q43_r0.eq_1
def C.q43 : IFunc := ⟨2, [.slot 4], .seq (.region C.q43_r0) C.q43_c1⟩
def C.q43_W := And.intro @C.q43_r1_w (And.intro @C.q43_c1_w @C.q43_r0_w)
def C.q43_B := And.intro @C.q43_r1_b.eq_1 @C.q43_r0_b.eq_1

def C.q32_r1_b : List IOper := [
 X.o 2 (.loadN 4 (X.s 0)),
 X.o 3 (.call F.q40 [X.s 2]),
 X.o 4 (.call F.q48 [X.s 3]),
 X.m 1 4]
def C.q32_r1 : List IOper := C.q32_r1_b
def C.q32_r1_w := @aopsE _ _ C.q32_r1.eq_1
def C.q32_c1 : ICode := .keep [0] (.seq (.region C.q32_r1) .ret)
def C.q32_c1_w := @awpE _ _ C.q32_c1.eq_1
def C.q32_r0_b : List IOper := [
 X.o 1 (.move (X.i 0))]
def C.q32_r0 : List IOper := C.q32_r0_b
def C.q32_r0_w := @aopsE _ _ C.q32_r0.eq_1
def C.q32 : IFunc := ⟨1, [.slot 1], .seq (.region C.q32_r0) C.q32_c1⟩
def C.q32_W := And.intro @C.q32_r1_w (And.intro @C.q32_c1_w @C.q32_r0_w)
def C.q32_B := And.intro @C.q32_r1_b.eq_1 @C.q32_r0_b.eq_1

def C.q48_r1_b : List IOper := [
 X.m 3 0,
 X.o 4 (.call F.q72 [X.s 3]),
 X.o 5 (.bin .eql (X.s 4) (X.i 5)),
 X.o 6 (.call F.q70 [X.s 5, X.i 5]),
 X.m 2 6]
def C.q48_r1 : List IOper := C.q48_r1_b
def C.q48_r1_w := @aopsE _ _ C.q48_r1.eq_1
def C.q48_c1 : ICode := .keep [0] (.seq (.region C.q48_r1) .ret)
def C.q48_c1_w := @awpE _ _ C.q48_c1.eq_1
def C.q48_r0_b : List IOper := [
 X.o 2 (.move (X.i 0))]
def C.q48_r0 : List IOper := C.q48_r0_b
def C.q48_r0_w := @aopsE _ _ C.q48_r0.eq_1
def C.q48 : IFunc := ⟨1, [.slot 2], .seq (.region C.q48_r0) C.q48_c1⟩
def C.q48_W := And.intro @C.q48_r1_w (And.intro @C.q48_c1_w @C.q48_r0_w)
def C.q48_B := And.intro @C.q48_r1_b.eq_1 @C.q48_r0_b.eq_1

def C.q40_r7_b : List IOper := [
 X.m 25 3,
 X.m 2 25]
def C.q40_r7 : List IOper := C.q40_r7_b
def C.q40_r7_w := @aopsE _ _ C.q40_r7.eq_1
def C.q40_c1 : ICode := .keep [3] (.seq (.region C.q40_r7) .ret)
def C.q40_c1_w := @awpE _ _ C.q40_c1.eq_1
def C.q40_r6_b : List IOper := [
 X.o 24 (.bin .add (X.s 13) (X.i 1)),
 X.m 13 24]
def C.q40_r6 : List IOper := C.q40_r6_b
def C.q40_r6_w := @aopsE _ _ C.q40_r6.eq_1
def C.q40_c2 : ICode := .keep [3, 11, 12, 13] (.region C.q40_r6)
def C.q40_c2_w := @awpE _ _ C.q40_c2.eq_1
def C.q40_r5_b : List IOper := [
 X.m 18 3,
 X.m 19 4,
 X.o 20 (.fldAddr 1 (X.s 5)),
 X.o 21 (.load1 (X.s 20)),
 X.o 22 (.call F.q67 [X.s 21]),
 X.o 23 (.idxAddr 1 (X.s 18) (X.s 19)),
 X.n (.store1 (X.s 23) (X.s 22))]
def C.q40_r5 : List IOper := C.q40_r5_b
def C.q40_r5_w := @aopsE _ _ C.q40_r5.eq_1
def C.q40_c3 : ICode := .keep [3, 4, 5, 11, 12, 13] (.region C.q40_r5)
def C.q40_c3_w := @awpE _ _ C.q40_c3.eq_1
def C.q40_r4_b : List IOper := [
 X.m 15 13,
 X.o 16 (.idxAddr 6 (X.s 11) (X.s 13)),
 X.o 17 (.loadN 6 (X.s 16)),
 X.o 5 (.alloc [.int .u8 0, .nils, .int .u64 0, .int .i64 0, .int .i64 0, .int .i64 0]),
 X.m 4 15,
 X.n (.storeN 6 (X.s 5) (X.s 17))]
def C.q40_r4 : List IOper := C.q40_r4_b
def C.q40_r4_w := @aopsE _ _ C.q40_r4.eq_1
def C.q40_b4 : ICode := .seq (.region C.q40_r4) C.q40_c3
def C.q40_b4_w := @awpE _ _ C.q40_b4.eq_1
def C.q40_c5 : ICode := .keep [3, 11, 12, 13] (.seq (.block 1 C.q40_b4) C.q40_c2)
def C.q40_c5_w := @awpE _ _ C.q40_c5.eq_1
def C.q40_c6 : ICode := .keep [3, 11, 12, 13, 14] (.seq (.cond (X.s 14) .skip (.exit 0)) C.q40_c5)
def C.q40_c6_w := @awpE _ _ C.q40_c6.eq_1
def C.q40_r3_b : List IOper := [
 X.o 14 (.bin .lss (X.s 13) (X.s 12))]
def C.q40_r3 : List IOper := C.q40_r3_b
def C.q40_r3_w := @aopsE _ _ C.q40_r3.eq_1
def C.q40_l7 : ICode := .keep [3, 11, 12, 13] (.seq (.region C.q40_r3) C.q40_c6)
def C.q40_l7_w := @awpE _ _ C.q40_l7.eq_1
def C.q40_b8 : ICode := .loop C.q40_l7
def C.q40_b8_w := @awpE _ _ C.q40_b8.eq_1
def C.q40_c9 : ICode := .keep [3, 11, 12, 13] (.block 0 C.q40_b8)
def C.q40_c9_w := @awpE _ _ C.q40_c9.eq_1
def C.q40_r2_b : List IOper := [
 X.o 10 (.fldAddr 0 (X.s 1)),
 X.o 11 (.load1 (X.s 10)),
 X.o 12 (.len (X.s 11)),
 X.o 13 (.move (X.i 0))]
def C.q40_r2 : List IOper := C.q40_r2_b
def C.q40_r2_w := @aopsE _ _ C.q40_r2.eq_1
def C.q40_c10 : ICode := .keep [1, 3] (.seq (.seq (.region C.q40_r2) C.q40_c9) C.q40_c1)
def C.q40_c10_w := @awpE _ _ C.q40_c10.eq_1
def C.q40_r1_b : List IOper := [
 X.o 6 (.fldAddr 0 (X.s 1)),
 X.o 7 (.load1 (X.s 6)),
 X.o 8 (.len (X.s 7)),
 X.o 9 (.makeSlice 1 24 [.nils] (X.s 8) (X.s 8)),
 X.m 3 9]
def C.q40_r1 : List IOper := C.q40_r1_b
def C.q40_r1_w := @aopsE _ _ C.q40_r1.eq_1
def C.q40_c11 : ICode := .keep [1] (.seq (.region C.q40_r1) C.q40_c10)
def C.q40_c11_w := @awpE _ _ C.q40_c11.eq_1
def C.q40_r0_b : List IOper := [
 X.o 1 (.boxN (X.s 0)),
 X.o 2 (.move (.cst (.nils)))]
def C.q40_r0 : List IOper := C.q40_r0_b
def C.q40_r0_w := @aopsE _ _ C.q40_r0.eq_1
def C.q40 : IFunc := ⟨1, [.slot 2], .seq (.region C.q40_r0) C.q40_c11⟩
def C.q40_W := And.intro (And.intro (And.intro (And.intro @C.q40_r7_w @C.q40_c1_w) (And.intro @C.q40_r6_w @C.q40_c2_w)) (And.intro (And.intro @C.q40_r5_w @C.q40_c3_w) (And.intro @C.q40_r4_w (And.intro @C.q40_b4_w @C.q40_c5_w)))) (And.intro (And.intro (And.intro @C.q40_c6_w @C.q40_r3_w) (And.intro @C.q40_b8_w @C.q40_c9_w)) (And.intro (And.intro @C.q40_r2_w @C.q40_c10_w) (And.intro @C.q40_r1_w (And.intro @C.q40_c11_w @C.q40_r0_w))))
def C.q40_B := And.intro (And.intro (And.intro @C.q40_r7_b.eq_1 @C.q40_r6_b.eq_1) (And.intro @C.q40_r5_b.eq_1 @C.q40_r4_b.eq_1)) (And.intro (And.intro @C.q40_r3_b.eq_1 @C.q40_r2_b.eq_1) (And.intro @C.q40_r1_b.eq_1 @C.q40_r0_b.eq_1))

def C.q33_r1_b : List IOper := [
 X.o 2 (.fldAddr 1 (X.s 0)),
 X.o 3 (.load1 (X.s 2)),
 X.o 4 (.makeFunc F.q34 [X.s 0]),
 X.o 5 (.call F.q60 [X.s 3, X.s 4]),
 X.m 1 5]
def C.q33_r1 : List IOper := C.q33_r1_b
def C.q33_r1_w := @aopsE _ _ C.q33_r1.eq_1
def C.q33_c1 : ICode := .keep [0] (.seq (.region C.q33_r1) .ret)
def C.q33_c1_w := @awpE _ _ C.q33_c1.eq_1
def C.q33_r0_b : List IOper := [
 X.o 1 (.move (X.i 0))]
def C.q33_r0 : List IOper := C.q33_r0_b
def C.q33_r0_w := @aopsE _ _ C.q33_r0.eq_1
def C.q33 : IFunc := ⟨1, [.slot 1], .seq (.region C.q33_r0) C.q33_c1⟩
def C.q33_W := And.intro @C.q33_r1_w (And.intro @C.q33_c1_w @C.q33_r0_w)
def C.q33_B := And.intro @C.q33_r1_b.eq_1 @C.q33_r0_b.eq_1

def C.q60_r8_b : List IOper := [
 X.o 4 (.move (X.i 0))]
def C.q60_r8 : List IOper := C.q60_r8_b
def C.q60_r8_w := @aopsE _ _ C.q60_r8.eq_1
def C.q60_c1 : ICode := .keep [] (.seq (.region C.q60_r8) .ret)
def C.q60_c1_w := @awpE _ _ C.q60_c1.eq_1
def C.q60_r7_b : List IOper := [
 X.o 20 (.bin .add (X.s 10) (X.i 1)),
 X.m 10 20]
def C.q60_r7 : List IOper := C.q60_r7_b
def C.q60_r7_w := @aopsE _ _ C.q60_r7.eq_1
def C.q60_c2 : ICode := .keep [1, 8, 9, 10] (.region C.q60_r7)
def C.q60_c2_w := @awpE _ _ C.q60_c2.eq_1
def C.q60_r6_b : List IOper := [
 X.m 19 7,
 X.m 4 19]
def C.q60_r6 : List IOper := C.q60_r6_b
def C.q60_r6_w := @aopsE _ _ C.q60_r6.eq_1
def C.q60_c3 : ICode := .seq (.region C.q60_r6) .ret
def C.q60_c3_w := @awpE _ _ C.q60_c3.eq_1
def C.q60_c4 : ICode := .keep [1, 7, 8, 9, 10, 18] (.cond (X.s 18) C.q60_c3 .skip)
def C.q60_c4_w := @awpE _ _ C.q60_c4.eq_1
def C.q60_r5_b : List IOper := [
 X.m 17 7,
 X.o 18 (.bin .neq (X.s 17) (X.i 0))]
def C.q60_r5 : List IOper := C.q60_r5_b
def C.q60_r5_w := @aopsE _ _ C.q60_r5.eq_1
def C.q60_c5 : ICode := .keep [1, 7, 8, 9, 10] (.seq (.region C.q60_r5) C.q60_c4)
def C.q60_c5_w := @awpE _ _ C.q60_c5.eq_1
def C.q60_r4_b : List IOper := [
 X.m 14 1,
 X.o 15 (.loadN 3 (X.s 6)),
 X.o 16 (.callv (X.s 14) [X.s 15]),
 X.m 7 16]
def C.q60_r4 : List IOper := C.q60_r4_b
def C.q60_r4_w := @aopsE _ _ C.q60_r4.eq_1
def C.q60_c6 : ICode := .keep [1, 6, 8, 9, 10] (.seq (.region C.q60_r4) C.q60_c5)
def C.q60_c6_w := @awpE _ _ C.q60_c6.eq_1
def C.q60_r3_b : List IOper := [
 X.o 12 (.idxAddr 3 (X.s 8) (X.s 10)),
 X.o 13 (.loadN 3 (X.s 12)),
 X.o 6 (.alloc [.int .i64 0, .int .i64 0, .bool false]),
 X.n (.storeN 3 (X.s 6) (X.s 13))]
def C.q60_r3 : List IOper := C.q60_r3_b
def C.q60_r3_w := @aopsE _ _ C.q60_r3.eq_1
def C.q60_b7 : ICode := .seq (.region C.q60_r3) C.q60_c6
def C.q60_b7_w := @awpE _ _ C.q60_b7.eq_1
def C.q60_c8 : ICode := .keep [1, 8, 9, 10] (.seq (.block 1 C.q60_b7) C.q60_c2)
def C.q60_c8_w := @awpE _ _ C.q60_c8.eq_1
def C.q60_c9 : ICode := .keep [1, 8, 9, 10, 11] (.seq (.cond (X.s 11) .skip (.exit 0)) C.q60_c8)
def C.q60_c9_w := @awpE _ _ C.q60_c9.eq_1
def C.q60_r2_b : List IOper := [
 X.o 11 (.bin .lss (X.s 10) (X.s 9))]
def C.q60_r2 : List IOper := C.q60_r2_b
def C.q60_r2_w := @aopsE _ _ C.q60_r2.eq_1
def C.q60_l10 : ICode := .keep [1, 8, 9, 10] (.seq (.region C.q60_r2) C.q60_c9)
def C.q60_l10_w := @awpE _ _ C.q60_l10.eq_1
def C.q60_b11 : ICode := .loop C.q60_l10
def C.q60_b11_w := @awpE _ _ C.q60_b11.eq_1
def C.q60_c12 : ICode := .keep [1, 8, 9, 10] (.block 0 C.q60_b11)
def C.q60_c12_w := @awpE _ _ C.q60_c12.eq_1
def C.q60_r1_b : List IOper := [
 X.m 8 0,
 X.o 9 (.len (X.s 8)),
 X.o 10 (.move (X.i 0))]
def C.q60_r1 : List IOper := C.q60_r1_b
def C.q60_r1_w := @aopsE _ _ C.q60_r1.eq_1
def C.q60_c13 : ICode := .keep [0, 1] (.seq (.seq (.region C.q60_r1) C.q60_c12) C.q60_c1)
def C.q60_c13_w := @awpE _ _ C.q60_c13.eq_1
def C.q60_r0_b : List IOper := [
 X.o 4 (.move (X.i 0))]
def C.q60_r0 : List IOper := C.q60_r0_b
def C.q60_r0_w := @aopsE _ _ C.q60_r0.eq_1
def C.q60 : IFunc := ⟨2, [.slot 4], .seq (.region C.q60_r0) C.q60_c13⟩
def C.q60_W := And.intro (And.intro (And.intro (And.intro @C.q60_r8_w @C.q60_c1_w) (And.intro @C.q60_r7_w (And.intro @C.q60_c2_w @C.q60_r6_w))) (And.intro (And.intro @C.q60_c3_w @C.q60_c4_w) (And.intro @C.q60_r5_w (And.intro @C.q60_c5_w @C.q60_r4_w)))) (And.intro (And.intro (And.intro @C.q60_c6_w @C.q60_r3_w) (And.intro @C.q60_b7_w (And.intro @C.q60_c8_w @C.q60_c9_w))) (And.intro (And.intro @C.q60_r2_w (And.intro @C.q60_b11_w @C.q60_c12_w)) (And.intro @C.q60_r1_w (And.intro @C.q60_c13_w @C.q60_r0_w))))
def C.q60_B := And.intro (And.intro (And.intro @C.q60_r8_b.eq_1 @C.q60_r7_b.eq_1) (And.intro @C.q60_r6_b.eq_1 @C.q60_r5_b.eq_1)) (And.intro (And.intro @C.q60_r4_b.eq_1 @C.q60_r3_b.eq_1) (And.intro @C.q60_r2_b.eq_1 (And.intro @C.q60_r1_b.eq_1 @C.q60_r0_b.eq_1)))

def C.q34_r1_b : List IOper := [
 X.o 4 (.loadN 4 (X.s 1)),
 X.o 5 (.loadN 3 (X.s 2)),
 X.o 6 (.call F.q55 [X.s 4, X.s 5]),
 X.m 3 6]
def C.q34_r1 : List IOper := C.q34_r1_b
def C.q34_r1_w := @aopsE _ _ C.q34_r1.eq_1
def C.q34_c1 : ICode := .keep [1, 2] (.seq (.region C.q34_r1) .ret)
def C.q34_c1_w := @awpE _ _ C.q34_c1.eq_1
def C.q34_r0_b : List IOper := [
 X.o 2 (.boxN (X.s 0)),
 X.o 3 (.move (X.i 0))]
def C.q34_r0 : List IOper := C.q34_r0_b
def C.q34_r0_w := @aopsE _ _ C.q34_r0.eq_1
def C.q34 : IFunc := ⟨2, [.slot 3], .seq (.region C.q34_r0) C.q34_c1⟩
def C.q34_W := And.intro @C.q34_r1_w (And.intro @C.q34_c1_w @C.q34_r0_w)
def C.q34_B := And.intro @C.q34_r1_b.eq_1 @C.q34_r0_b.eq_1

def C.q55_r1_b : List IOper := [
 X.o 5 (.makeFunc F.q56 [X.s 3, X.s 2]),
 X.o 6 (.makeFunc F.q57 [X.s 3]),
 X.o 7 (.buildSlice 1 2 [.nilf] [(0, 1, X.s 5), (1, 1, X.s 6)]),
 X.o 8 (.call F.q63 [X.s 7]),
 X.m 4 8]
def C.q55_r1 : List IOper := C.q55_r1_b
def C.q55_r1_w := @aopsE _ _ C.q55_r1.eq_1
def C.q55_c1 : ICode := .keep [2, 3] (.seq (.region C.q55_r1) .ret)
def C.q55_c1_w := @awpE _ _ C.q55_c1.eq_1
def C.q55_r0_b : List IOper := [
 X.o 2 (.boxN (X.s 0)),
 X.o 3 (.boxN (X.s 1)),
 X.o 4 (.move (X.i 0))]
def C.q55_r0 : List IOper := C.q55_r0_b
def C.q55_r0_w := @aopsE _ _ C.q55_r0.eq_1
def C.q55 : IFunc := ⟨2, [.slot 4], .seq (.region C.q55_r0) C.q55_c1⟩
def C.q55_W := And.intro @C.q55_r1_w (And.intro @C.q55_c1_w @C.q55_r0_w)
def C.q55_B := And.intro @C.q55_r1_b.eq_1 @C.q55_r0_b.eq_1

def C.q35_r1_b : List IOper := [
 X.o 2 (.loadN 4 (X.s 0)),
 X.o 3 (.call F.q41 [X.s 2]),
 X.o 4 (.call F.q48 [X.s 3]),
 X.m 1 4]
def C.q35_r1 : List IOper := C.q35_r1_b
def C.q35_r1_w := @aopsE _ _ C.q35_r1.eq_1
def C.q35_c1 : ICode := .keep [0] (.seq (.region C.q35_r1) .ret)
def C.q35_c1_w := @awpE _ _ C.q35_c1.eq_1
def C.q35_r0_b : List IOper := [
 X.o 1 (.move (X.i 0))]
def C.q35_r0 : List IOper := C.q35_r0_b
def C.q35_r0_w := @aopsE _ _ C.q35_r0.eq_1
def C.q35 : IFunc := ⟨1, [.slot 1], .seq (.region C.q35_r0) C.q35_c1⟩
def C.q35_W := And.intro @C.q35_r1_w (And.intro @C.q35_c1_w @C.q35_r0_w)
def C.q35_B := And.intro @C.q35_r1_b.eq_1 @C.q35_r0_b.eq_1

def C.q36_r1_b : List IOper := [
 X.o 2 (.fldAddr 2 (X.s 0)),
 X.o 3 (.load1 (X.s 2)),
 X.o 4 (.call F.q61 [X.s 3, .fnc F.q68]),
 X.m 1 4]
def C.q36_r1 : List IOper := C.q36_r1_b
def C.q36_r1_w := @aopsE _ _ C.q36_r1.eq_1
def C.q36_c1 : ICode := .keep [0] (.seq (.region C.q36_r1) .ret)
def C.q36_c1_w := @awpE _ _ C.q36_c1.eq_1
def C.q36_r0_b : List IOper := [
 X.o 1 (.move (X.i 0))]
def C.q36_r0 : List IOper := C.q36_r0_b
def C.q36_r0_w := @aopsE _ _ C.q36_r0.eq_1
def C.q36 : IFunc := ⟨1, [.slot 1], .seq (.region C.q36_r0) C.q36_c1⟩
def C.q36_W := And.intro @C.q36_r1_w (And.intro @C.q36_c1_w @C.q36_r0_w)
def C.q36_B := And.intro @C.q36_r1_b.eq_1 @C.q36_r0_b.eq_1

def C.q61_r8_b : List IOper := [
 X.o 4 (.move (X.i 0))]
def C.q61_r8 : List IOper := C.q61_r8_b
def C.q61_r8_w := @aopsE _ _ C.q61_r8.eq_1
def C.q61_c1 : ICode := .keep [] (.seq (.region C.q61_r8) .ret)
def C.q61_c1_w := @awpE _ _ C.q61_c1.eq_1
def C.q61_r7_b : List IOper := [
 X.o 20 (.bin .add (X.s 10) (X.i 1)),
 X.m 10 20]
def C.q61_r7 : List IOper := C.q61_r7_b
def C.q61_r7_w := @aopsE _ _ C.q61_r7.eq_1
def C.q61_c2 : ICode := .keep [1, 8, 9, 10] (.region C.q61_r7)
def C.q61_c2_w := @awpE _ _ C.q61_c2.eq_1
def C.q61_r6_b : List IOper := [
 X.m 19 7,
 X.m 4 19]
def C.q61_r6 : List IOper := C.q61_r6_b
def C.q61_r6_w := @aopsE _ _ C.q61_r6.eq_1
def C.q61_c3 : ICode := .seq (.region C.q61_r6) .ret
def C.q61_c3_w := @awpE _ _ C.q61_c3.eq_1
def C.q61_c4 : ICode := .keep [1, 7, 8, 9, 10, 18] (.cond (X.s 18) C.q61_c3 .skip)
def C.q61_c4_w := @awpE _ _ C.q61_c4.eq_1
def C.q61_r5_b : List IOper := [
 X.m 17 7,
 X.o 18 (.bin .neq (X.s 17) (X.i 0))]
def C.q61_r5 : List IOper := C.q61_r5_b
def C.q61_r5_w := @aopsE _ _ C.q61_r5.eq_1
def C.q61_c5 : ICode := .keep [1, 7, 8, 9, 10] (.seq (.region C.q61_r5) C.q61_c4)
def C.q61_c5_w := @awpE _ _ C.q61_c5.eq_1
def C.q61_r4_b : List IOper := [
 X.m 14 1,
 X.o 15 (.loadN 1 (X.s 6)),
 X.o 16 (.callv (X.s 14) [X.s 15]),
 X.m 7 16]
def C.q61_r4 : List IOper := C.q61_r4_b
def C.q61_r4_w := @aopsE _ _ C.q61_r4.eq_1
def C.q61_c6 : ICode := .keep [1, 6, 8, 9, 10] (.seq (.region C.q61_r4) C.q61_c5)
def C.q61_c6_w := @awpE _ _ C.q61_c6.eq_1
def C.q61_r3_b : List IOper := [
 X.o 12 (.idxAddr 1 (X.s 8) (X.s 10)),
 X.o 13 (.loadN 1 (X.s 12)),
 X.o 6 (.alloc [.int .i64 0]),
 X.n (.storeN 1 (X.s 6) (X.s 13))]
def C.q61_r3 : List IOper := C.q61_r3_b
def C.q61_r3_w := @aopsE _ _ C.q61_r3.eq_1
def C.q61_b7 : ICode := .seq (.region C.q61_r3) C.q61_c6
def C.q61_b7_w := @awpE _ _ C.q61_b7.eq_1
def C.q61_c8 : ICode := .keep [1, 8, 9, 10] (.seq (.block 1 C.q61_b7) C.q61_c2)
def C.q61_c8_w := @awpE _ _ C.q61_c8.eq_1
def C.q61_c9 : ICode := .keep [1, 8, 9, 10, 11] (.seq (.cond (X.s 11) .skip (.exit 0)) C.q61_c8)
def C.q61_c9_w := @awpE _ _ C.q61_c9.eq_1
def C.q61_r2_b : List IOper := [
 X.o 11 (.bin .lss (X.s 10) (X.s 9))]
def C.q61_r2 : List IOper := C.q61_r2_b
def C.q61_r2_w := @aopsE _ _ C.q61_r2.eq_1
def C.q61_l10 : ICode := .keep [1, 8, 9, 10] (.seq (.region C.q61_r2) C.q61_c9)
def C.q61_l10_w := @awpE _ _ C.q61_l10.eq_1
def C.q61_b11 : ICode := .loop C.q61_l10
def C.q61_b11_w := @awpE _ _ C.q61_b11.eq_1
def C.q61_c12 : ICode := .keep [1, 8, 9, 10] (.block 0 C.q61_b11)
def C.q61_c12_w := @awpE _ _ C.q61_c12.eq_1
def C.q61_r1_b : List IOper := [
 X.m 8 0,
 X.o 9 (.len (X.s 8)),
 X.o 10 (.move (X.i 0))]
def C.q61_r1 : List IOper := C.q61_r1_b
def C.q61_r1_w := @aopsE _ _ C.q61_r1.eq_1
def C.q61_c13 : ICode := .keep [0, 1] (.seq (.seq (.region C.q61_r1) C.q61_c12) C.q61_c1)
def C.q61_c13_w := @awpE _ _ C.q61_c13.eq_1
def C.q61_r0_b : List IOper := [
 X.o 4 (.move (X.i 0))]
def C.q61_r0 : List IOper := C.q61_r0_b
def C.q61_r0_w := @aopsE _ _ C.q61_r0.eq_1
def C.q61 : IFunc := ⟨2, [.slot 4], .seq (.region C.q61_r0) C.q61_c13⟩
def C.q61_W := And.intro (And.intro (And.intro (And.intro @C.q61_r8_w @C.q61_c1_w) (And.intro @C.q61_r7_w (And.intro @C.q61_c2_w @C.q61_r6_w))) (And.intro (And.intro @C.q61_c3_w @C.q61_c4_w) (And.intro @C.q61_r5_w (And.intro @C.q61_c5_w @C.q61_r4_w)))) (And.intro (And.intro (And.intro @C.q61_c6_w @C.q61_r3_w) (And.intro @C.q61_b7_w (And.intro @C.q61_c8_w @C.q61_c9_w))) (And.intro (And.intro @C.q61_r2_w (And.intro @C.q61_b11_w @C.q61_c12_w)) (And.intro @C.q61_r1_w (And.intro @C.q61_c13_w @C.q61_r0_w))))
def C.q61_B := And.intro (And.intro (And.intro @C.q61_r8_b.eq_1 @C.q61_r7_b.eq_1) (And.intro @C.q61_r6_b.eq_1 @C.q61_r5_b.eq_1)) (And.intro (And.intro @C.q61_r4_b.eq_1 @C.q61_r3_b.eq_1) (And.intro @C.q61_r2_b.eq_1 (And.intro @C.q61_r1_b.eq_1 @C.q61_r0_b.eq_1)))

def C.q68_r1_b : List IOper := [
 X.o 3 (.fldAddr 0 (X.s 1)),
 X.o 4 (.load1 (X.s 3)),
 X.o 5 (.call F.q71 [X.s 4, X.i 0, X.i 20]),
 X.o 6 (.un .not (X.s 5)),
 X.o 7 (.call F.q70 [X.s 6, X.i 3]),
 X.m 2 7]
def C.q68_r1 : List IOper := C.q68_r1_b
def C.q68_r1_w := @aopsE _ _ C.q68_r1.eq_1
def C.q68_c1 : ICode := .keep [1] (.seq (.region C.q68_r1) .ret)
def C.q68_c1_w := @awpE _ _ C.q68_c1.eq_1
def C.q68_r0_b : List IOper := [
 X.o 1 (.boxN (X.s 0)),
 X.o 2 (.move (X.i 0))]
def C.q68_r0 : List IOper := C.q68_r0_b
def C.q68_r0_w := @aopsE _ _ C.q68_r0.eq_1
def C.q68 : IFunc := ⟨1, [.slot 2], .seq (.region C.q68_r0) C.q68_c1⟩
def C.q68_W := And.intro @C.q68_r1_w (And.intro @C.q68_c1_w @C.q68_r0_w)
def C.q68_B := And.intro @C.q68_r1_b.eq_1 @C.q68_r0_b.eq_1

def C.q37_r1_b : List IOper := [
 X.o 2 (.fldAddr 3 (X.s 0)),
 X.o 3 (.load1 (X.s 2)),
 X.o 4 (.makeFunc F.q38 [X.s 0]),
 X.o 5 (.call F.q59 [X.s 3, X.s 4]),
 X.m 1 5]
def C.q37_r1 : List IOper := C.q37_r1_b
def C.q37_r1_w := @aopsE _ _ C.q37_r1.eq_1
def C.q37_c1 : ICode := .keep [0] (.seq (.region C.q37_r1) .ret)
def C.q37_c1_w := @awpE _ _ C.q37_c1.eq_1
def C.q37_r0_b : List IOper := [
 X.o 1 (.move (X.i 0))]
def C.q37_r0 : List IOper := C.q37_r0_b
def C.q37_r0_w := @aopsE _ _ C.q37_r0.eq_1
def C.q37 : IFunc := ⟨1, [.slot 1], .seq (.region C.q37_r0) C.q37_c1⟩
def C.q37_W := And.intro @C.q37_r1_w (And.intro @C.q37_c1_w @C.q37_r0_w)
def C.q37_B := And.intro @C.q37_r1_b.eq_1 @C.q37_r0_b.eq_1

def C.q59_r8_b : List IOper := [
 X.o 4 (.move (X.i 0))]
def C.q59_r8 : List IOper := C.q59_r8_b
def C.q59_r8_w := @aopsE _ _ C.q59_r8.eq_1
def C.q59_c1 : ICode := .keep [] (.seq (.region C.q59_r8) .ret)
def C.q59_c1_w := @awpE _ _ C.q59_c1.eq_1
def C.q59_r7_b : List IOper := [
 X.o 20 (.bin .add (X.s 10) (X.i 1)),
 X.m 10 20]
def C.q59_r7 : List IOper := C.q59_r7_b
def C.q59_r7_w := @aopsE _ _ C.q59_r7.eq_1
def C.q59_c2 : ICode := .keep [1, 8, 9, 10] (.region C.q59_r7)
def C.q59_c2_w := @awpE _ _ C.q59_c2.eq_1
def C.q59_r6_b : List IOper := [
 X.m 19 7,
 X.m 4 19]
def C.q59_r6 : List IOper := C.q59_r6_b
def C.q59_r6_w := @aopsE _ _ C.q59_r6.eq_1
def C.q59_c3 : ICode := .seq (.region C.q59_r6) .ret
def C.q59_c3_w := @awpE _ _ C.q59_c3.eq_1
def C.q59_c4 : ICode := .keep [1, 7, 8, 9, 10, 18] (.cond (X.s 18) C.q59_c3 .skip)
def C.q59_c4_w := @awpE _ _ C.q59_c4.eq_1
def C.q59_r5_b : List IOper := [
 X.m 17 7,
 X.o 18 (.bin .neq (X.s 17) (X.i 0))]
def C.q59_r5 : List IOper := C.q59_r5_b
def C.q59_r5_w := @aopsE _ _ C.q59_r5.eq_1
def C.q59_c5 : ICode := .keep [1, 7, 8, 9, 10] (.seq (.region C.q59_r5) C.q59_c4)
def C.q59_c5_w := @awpE _ _ C.q59_c5.eq_1
def C.q59_r4_b : List IOper := [
 X.m 14 1,
 X.o 15 (.loadN 6 (X.s 6)),
 X.o 16 (.callv (X.s 14) [X.s 15]),
 X.m 7 16]
def C.q59_r4 : List IOper := C.q59_r4_b
def C.q59_r4_w := @aopsE _ _ C.q59_r4.eq_1
def C.q59_c6 : ICode := .keep [1, 6, 8, 9, 10] (.seq (.region C.q59_r4) C.q59_c5)
def C.q59_c6_w := @awpE _ _ C.q59_c6.eq_1
def C.q59_r3_b : List IOper := [
 X.o 12 (.idxAddr 6 (X.s 8) (X.s 10)),
 X.o 13 (.loadN 6 (X.s 12)),
 X.o 6 (.alloc [.int .i64 0, .int .i64 0, .int .i64 0, .int .u32 0, .nils, .nils]),
 X.n (.storeN 6 (X.s 6) (X.s 13))]
def C.q59_r3 : List IOper := C.q59_r3_b
def C.q59_r3_w := @aopsE _ _ C.q59_r3.eq_1
def C.q59_b7 : ICode := .seq (.region C.q59_r3) C.q59_c6
def C.q59_b7_w := @awpE _ _ C.q59_b7.eq_1
def C.q59_c8 : ICode := .keep [1, 8, 9, 10] (.seq (.block 1 C.q59_b7) C.q59_c2)
def C.q59_c8_w := @awpE _ _ C.q59_c8.eq_1
def C.q59_c9 : ICode := .keep [1, 8, 9, 10, 11] (.seq (.cond (X.s 11) .skip (.exit 0)) C.q59_c8)
def C.q59_c9_w := @awpE _ _ C.q59_c9.eq_1
def C.q59_r2_b : List IOper := [
 X.o 11 (.bin .lss (X.s 10) (X.s 9))]
def C.q59_r2 : List IOper := C.q59_r2_b
def C.q59_r2_w := @aopsE _ _ C.q59_r2.eq_1
def C.q59_l10 : ICode := .keep [1, 8, 9, 10] (.seq (.region C.q59_r2) C.q59_c9)
def C.q59_l10_w := @awpE _ _ C.q59_l10.eq_1
def C.q59_b11 : ICode := .loop C.q59_l10
def C.q59_b11_w := @awpE _ _ C.q59_b11.eq_1
def C.q59_c12 : ICode := .keep [1, 8, 9, 10] (.block 0 C.q59_b11)
def C.q59_c12_w := @awpE _ _ C.q59_c12.eq_1
def C.q59_r1_b : List IOper := [
 X.m 8 0,
 X.o 9 (.len (X.s 8)),
 X.o 10 (.move (X.i 0))]
def C.q59_r1 : List IOper := C.q59_r1_b
def C.q59_r1_w := @aopsE _ _ C.q59_r1.eq_1
def C.q59_c13 : ICode := .keep [0, 1] (.seq (.seq (.region C.q59_r1) C.q59_c12) C.q59_c1)
def C.q59_c13_w := @awpE _ _ C.q59_c13.eq_1
def C.q59_r0_b : List IOper := [
 X.o 4 (.move (X.i 0))]
def C.q59_r0 : List IOper := C.q59_r0_b
def C.q59_r0_w := @aopsE _ _ C.q59_r0.eq_1
def C.q59 : IFunc := ⟨2, [.slot 4], .seq (.region C.q59_r0) C.q59_c13⟩
def C.q59_W := And.intro (And.intro (And.intro (And.intro @C.q59_r8_w @C.q59_c1_w) (And.intro @C.q59_r7_w (And.intro @C.q59_c2_w @C.q59_r6_w))) (And.intro (And.intro @C.q59_c3_w @C.q59_c4_w) (And.intro @C.q59_r5_w (And.intro @C.q59_c5_w @C.q59_r4_w)))) (And.intro (And.intro (And.intro @C.q59_c6_w @C.q59_r3_w) (And.intro @C.q59_b7_w (And.intro @C.q59_c8_w @C.q59_c9_w))) (And.intro (And.intro @C.q59_r2_w (And.intro @C.q59_b11_w @C.q59_c12_w)) (And.intro @C.q59_r1_w (And.intro @C.q59_c13_w @C.q59_r0_w))))
def C.q59_B := And.intro (And.intro (And.intro @C.q59_r8_b.eq_1 @C.q59_r7_b.eq_1) (And.intro @C.q59_r6_b.eq_1 @C.q59_r5_b.eq_1)) (And.intro (And.intro @C.q59_r4_b.eq_1 @C.q59_r3_b.eq_1) (And.intro @C.q59_r2_b.eq_1 (And.intro @C.q59_r1_b.eq_1 @C.q59_r0_b.eq_1)))

end Go.Proofs.Ytgfpnfnjnakoaaa.Cn
