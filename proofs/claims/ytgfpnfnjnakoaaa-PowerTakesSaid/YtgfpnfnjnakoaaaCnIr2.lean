/- The intermediate code of the functions, printed by a program out of the loaded program; that it is theirs is checked in the text of links. -/
import Derived.Test.YtgfpnfnjnakoaaaCnIr1
set_option linter.defProp false
namespace Go.Proofs.Ytgfpnfnjnakoaaa.Cn
open Go
variable {P : Program} {Q : IExit → AFr → ASt → Prop} {fr : AFr} {st : ASt}


def C.power_New_r10_b : List IOper := [
 X.m 34 5,
 X.m 2 34,
 X.o 3 (.move (X.i 0))]
def C.power_New_r10 : List IOper := C.power_New_r10_b
def C.power_New_r10_w := @aopsE _ _ C.power_New_r10.eq_1
def C.power_New_c1 : ICode := .keep [5] (.seq (.region C.power_New_r10) .ret)
def C.power_New_c1_w := @awpE _ _ C.power_New_c1.eq_1
def C.power_New_r9_b : List IOper := [
 X.o 33 (.bin .add (X.s 18) (X.i 1)),
 X.m 18 33]
def C.power_New_r9 : List IOper := C.power_New_r9_b
def C.power_New_r9_w := @aopsE _ _ C.power_New_r9.eq_1
def C.power_New_c2 : ICode := .keep [5, 16, 17, 18] (.region C.power_New_r9)
def C.power_New_c2_w := @awpE _ _ C.power_New_c2.eq_1
def C.power_New_r8_b : List IOper := [
 X.m 22 5,
 X.m 23 5,
 X.o 24 (.nilchk (X.s 23)),
 X.o 25 (.fldAddr 0 (X.s 24)),
 X.o 26 (.load1 (X.s 25)),
 X.o 27 (.loadN 3 (X.s 7)),
 X.o 28 (.build [.int .i64 0, .int .i64 0, .bool false, .int .u8 0, .int .i64 0, .bool false, .bool false] [(0, 3, X.s 27), (3, 1, .cst (.int .u8 48))]),
 X.o 29 (.buildSlice 7 1 [.int .i64 0, .int .i64 0, .bool false, .int .u8 0, .int .i64 0, .bool false, .bool false] [(0, 7, X.s 28)]),
 X.o 30 (.append 7 48 (X.s 26) (X.s 29)),
 X.o 31 (.nilchk (X.s 22)),
 X.o 32 (.fldAddr 0 (X.s 31)),
 X.n (.store1 (X.s 32) (X.s 30))]
def C.power_New_r8 : List IOper := C.power_New_r8_b
def C.power_New_r8_w := @aopsE _ _ C.power_New_r8.eq_1
def C.power_New_c3 : ICode := .keep [5, 7, 16, 17, 18] (.region C.power_New_r8)
def C.power_New_c3_w := @awpE _ _ C.power_New_c3.eq_1
def C.power_New_r7_b : List IOper := [
 X.o 20 (.idxAddr 3 (X.s 16) (X.s 18)),
 X.o 21 (.loadN 3 (X.s 20)),
 X.o 7 (.alloc [.int .i64 0, .int .i64 0, .bool false]),
 X.n (.storeN 3 (X.s 7) (X.s 21))]
def C.power_New_r7 : List IOper := C.power_New_r7_b
def C.power_New_r7_w := @aopsE _ _ C.power_New_r7.eq_1
def C.power_New_b4 : ICode := .seq (.region C.power_New_r7) C.power_New_c3
def C.power_New_b4_w := @awpE _ _ C.power_New_b4.eq_1
def C.power_New_c5 : ICode := .keep [5, 16, 17, 18] (.seq (.block 1 C.power_New_b4) C.power_New_c2)
def C.power_New_c5_w := @awpE _ _ C.power_New_c5.eq_1
def C.power_New_c6 : ICode := .keep [5, 16, 17, 18, 19] (.seq (.cond (X.s 19) .skip (.exit 0)) C.power_New_c5)
def C.power_New_c6_w := @awpE _ _ C.power_New_c6.eq_1
def C.power_New_r6_b : List IOper := [
 X.o 19 (.bin .lss (X.s 18) (X.s 17))]
def C.power_New_r6 : List IOper := C.power_New_r6_b
def C.power_New_r6_w := @aopsE _ _ C.power_New_r6.eq_1
def C.power_New_l7 : ICode := .keep [5, 16, 17, 18] (.seq (.region C.power_New_r6) C.power_New_c6)
def C.power_New_l7_w := @awpE _ _ C.power_New_l7.eq_1
def C.power_New_b8 : ICode := .loop C.power_New_l7
def C.power_New_b8_w := @awpE _ _ C.power_New_b8.eq_1
def C.power_New_c9 : ICode := .keep [5, 16, 17, 18] (.block 0 C.power_New_b8)
def C.power_New_c9_w := @awpE _ _ C.power_New_c9.eq_1
def C.power_New_r5_b : List IOper := [
 X.o 15 (.fldAddr 1 (X.s 1)),
 X.o 16 (.load1 (X.s 15)),
 X.o 17 (.len (X.s 16)),
 X.o 18 (.move (X.i 0))]
def C.power_New_r5 : List IOper := C.power_New_r5_b
def C.power_New_r5_w := @aopsE _ _ C.power_New_r5.eq_1
def C.power_New_c10 : ICode := .keep [1, 5] (.seq (.seq (.region C.power_New_r5) C.power_New_c9) C.power_New_c1)
def C.power_New_c10_w := @awpE _ _ C.power_New_c10.eq_1
def C.power_New_r4_b : List IOper := [
 X.o 13 (.build [.nils] []),
 X.o 14 (.boxN (X.s 13)),
 X.m 5 14]
def C.power_New_r4 : List IOper := C.power_New_r4_b
def C.power_New_r4_w := @aopsE _ _ C.power_New_r4.eq_1
def C.power_New_c11 : ICode := .keep [1] (.seq (.region C.power_New_r4) C.power_New_c10)
def C.power_New_c11_w := @awpE _ _ C.power_New_c11.eq_1
def C.power_New_r3_b : List IOper := [
 X.m 12 4,
 X.o 2 (.move (.cst (.nilp))),
 X.m 3 12]
def C.power_New_r3 : List IOper := C.power_New_r3_b
def C.power_New_r3_w := @aopsE _ _ C.power_New_r3.eq_1
def C.power_New_c12 : ICode := .seq (.region C.power_New_r3) .ret
def C.power_New_c12_w := @awpE _ _ C.power_New_c12.eq_1
def C.power_New_c13 : ICode := .keep [1, 4, 11] (.cond (X.s 11) C.power_New_c12 .skip)
def C.power_New_c13_w := @awpE _ _ C.power_New_c13.eq_1
def C.power_New_r2_b : List IOper := [
 X.m 10 4,
 X.o 11 (.bin .neq (X.s 10) (X.i 0))]
def C.power_New_r2 : List IOper := C.power_New_r2_b
def C.power_New_r2_w := @aopsE _ _ C.power_New_r2.eq_1
def C.power_New_c14 : ICode := .keep [1, 4] (.seq (.region C.power_New_r2) C.power_New_c13)
def C.power_New_c14_w := @awpE _ _ C.power_New_c14.eq_1
def C.power_New_r1_b : List IOper := [
 X.o 8 (.loadN 4 (X.s 1)),
 X.o 9 (.call F.conf_Check [X.s 8]),
 X.m 4 9]
def C.power_New_r1 : List IOper := C.power_New_r1_b
def C.power_New_r1_w := @aopsE _ _ C.power_New_r1.eq_1
def C.power_New_c15 : ICode := .keep [1] (.seq (.seq (.region C.power_New_r1) C.power_New_c14) C.power_New_c11)
def C.power_New_c15_w := @awpE _ _ C.power_New_c15.eq_1
def C.power_New_r0_b : List IOper := [
 X.o 1 (.boxN (X.s 0)),
 X.o 2 (.move (.cst (.nilp))),
 X.o 3 (.move (X.i 0))]
def C.power_New_r0 : List IOper := C.power_New_r0_b
def C.power_New_r0_w := @aopsE _ _ C.power_New_r0.eq_1
def C.power_New : IFunc := ⟨1, [.slot 2, .slot 3], .seq (.region C.power_New_r0) C.power_New_c15⟩
def C.power_New_W := And.intro (And.intro (And.intro (And.intro @C.power_New_r10_w (And.intro @C.power_New_c1_w @C.power_New_r9_w)) (And.intro @C.power_New_c2_w (And.intro @C.power_New_r8_w @C.power_New_c3_w))) (And.intro (And.intro @C.power_New_r7_w (And.intro @C.power_New_b4_w @C.power_New_c5_w)) (And.intro @C.power_New_c6_w (And.intro @C.power_New_r6_w @C.power_New_b8_w)))) (And.intro (And.intro (And.intro @C.power_New_c9_w (And.intro @C.power_New_r5_w @C.power_New_c10_w)) (And.intro @C.power_New_r4_w (And.intro @C.power_New_c11_w @C.power_New_r3_w))) (And.intro (And.intro @C.power_New_c12_w (And.intro @C.power_New_c13_w @C.power_New_r2_w)) (And.intro (And.intro @C.power_New_c14_w @C.power_New_r1_w) (And.intro @C.power_New_c15_w @C.power_New_r0_w))))
def C.power_New_B := And.intro (And.intro (And.intro @C.power_New_r10_b.eq_1 @C.power_New_r9_b.eq_1) (And.intro @C.power_New_r8_b.eq_1 (And.intro @C.power_New_r7_b.eq_1 @C.power_New_r6_b.eq_1))) (And.intro (And.intro @C.power_New_r5_b.eq_1 (And.intro @C.power_New_r4_b.eq_1 @C.power_New_r3_b.eq_1)) (And.intro @C.power_New_r2_b.eq_1 (And.intro @C.power_New_r1_b.eq_1 @C.power_New_r0_b.eq_1)))

def C.catnaplaw7_pick_r3_b : List IOper := [
 X.m 10 0,
 X.m 11 1,
 X.o 12 (.bin .rem (X.s 10) (X.s 11)),
 X.m 4 12]
def C.catnaplaw7_pick_r3 : List IOper := C.catnaplaw7_pick_r3_b
def C.catnaplaw7_pick_r3_w := @aopsE _ _ C.catnaplaw7_pick_r3.eq_1
def C.catnaplaw7_pick_c1 : ICode := .keep [0, 1] (.seq (.region C.catnaplaw7_pick_r3) .ret)
def C.catnaplaw7_pick_c1_w := @awpE _ _ C.catnaplaw7_pick_c1.eq_1
def C.catnaplaw7_pick_r2_b : List IOper := [
 X.m 7 0,
 X.o 8 (.bin .add (X.s 7) (X.i 1)),
 X.o 9 (.un .neg (X.s 8)),
 X.m 0 9]
def C.catnaplaw7_pick_r2 : List IOper := C.catnaplaw7_pick_r2_b
def C.catnaplaw7_pick_r2_w := @aopsE _ _ C.catnaplaw7_pick_r2.eq_1
def C.catnaplaw7_pick_c2 : ICode := .keep [0, 1, 6] (.cond (X.s 6) (.region C.catnaplaw7_pick_r2) .skip)
def C.catnaplaw7_pick_c2_w := @awpE _ _ C.catnaplaw7_pick_c2.eq_1
def C.catnaplaw7_pick_r1_b : List IOper := [
 X.m 5 0,
 X.o 6 (.bin .lss (X.s 5) (X.i 0))]
def C.catnaplaw7_pick_r1 : List IOper := C.catnaplaw7_pick_r1_b
def C.catnaplaw7_pick_r1_w := @aopsE _ _ C.catnaplaw7_pick_r1.eq_1
def C.catnaplaw7_pick_c3 : ICode := .keep [0, 1] (.seq (.seq (.region C.catnaplaw7_pick_r1) C.catnaplaw7_pick_c2) C.catnaplaw7_pick_c1)
def C.catnaplaw7_pick_c3_w := @awpE _ _ C.catnaplaw7_pick_c3.eq_1
def C.catnaplaw7_pick_r0_b : List IOper := [
 X.o 4 (.move (X.i 0))]
def C.catnaplaw7_pick_r0 : List IOper := C.catnaplaw7_pick_r0_b
def C.catnaplaw7_pick_r0_w := @aopsE _ _ C.catnaplaw7_pick_r0.eq_1
def C.catnaplaw7_pick : IFunc := ⟨2, [.slot 4], .seq (.region C.catnaplaw7_pick_r0) C.catnaplaw7_pick_c3⟩
def C.catnaplaw7_pick_W := And.intro (And.intro @C.catnaplaw7_pick_r3_w (And.intro @C.catnaplaw7_pick_c1_w @C.catnaplaw7_pick_r2_w)) (And.intro (And.intro @C.catnaplaw7_pick_c2_w @C.catnaplaw7_pick_r1_w) (And.intro @C.catnaplaw7_pick_c3_w @C.catnaplaw7_pick_r0_w))
def C.catnaplaw7_pick_B := And.intro (And.intro @C.catnaplaw7_pick_r3_b.eq_1 @C.catnaplaw7_pick_r2_b.eq_1) (And.intro @C.catnaplaw7_pick_r1_b.eq_1 @C.catnaplaw7_pick_r0_b.eq_1)

def C.power_Grid_Up_r8_b : List IOper := [
 X.o 4 (.move (X.i 0))]
def C.power_Grid_Up_r8 : List IOper := C.power_Grid_Up_r8_b
def C.power_Grid_Up_r8_w := @aopsE _ _ C.power_Grid_Up_r8.eq_1
def C.power_Grid_Up_c1 : ICode := .keep [] (.seq (.region C.power_Grid_Up_r8) .ret)
def C.power_Grid_Up_c1_w := @awpE _ _ C.power_Grid_Up_c1.eq_1
def C.power_Grid_Up_r7_b : List IOper := [
 X.m 45 5,
 X.m 46 5,
 X.m 47 5,
 X.o 48 (.nilchk (X.s 47)),
 X.o 49 (.fldAddr 0 (X.s 48)),
 X.o 50 (.fldAddr 1 (X.s 49)),
 X.o 51 (.load1 (X.s 50)),
 X.o 52 (.nilchk (X.s 45)),
 X.o 53 (.fldAddr 3 (X.s 52)),
 X.n (.store1 (X.s 53) (.cst (.int .u8 114))),
 X.o 54 (.nilchk (X.s 46)),
 X.o 55 (.fldAddr 4 (X.s 54)),
 X.n (.store1 (X.s 55) (X.s 51))]
def C.power_Grid_Up_r7 : List IOper := C.power_Grid_Up_r7_b
def C.power_Grid_Up_r7_w := @aopsE _ _ C.power_Grid_Up_r7.eq_1
def C.power_Grid_Up_c2 : ICode := .keep [5] (.seq (.region C.power_Grid_Up_r7) C.power_Grid_Up_c1)
def C.power_Grid_Up_c2_w := @awpE _ _ C.power_Grid_Up_c2.eq_1
def C.power_Grid_Up_r6_b : List IOper := [
 X.m 37 5,
 X.m 38 5,
 X.o 39 (.nilchk (X.s 38)),
 X.o 40 (.fldAddr 3 (X.s 39)),
 X.o 41 (.load1 (X.s 40)),
 X.o 42 (.bin .eql (X.s 41) (.cst (.int .u8 116))),
 X.o 43 (.nilchk (X.s 37)),
 X.o 44 (.fldAddr 5 (X.s 43)),
 X.n (.store1 (X.s 44) (X.s 42))]
def C.power_Grid_Up_r6 : List IOper := C.power_Grid_Up_r6_b
def C.power_Grid_Up_r6_w := @aopsE _ _ C.power_Grid_Up_r6.eq_1
def C.power_Grid_Up_c3 : ICode := .keep [5] (.seq (.region C.power_Grid_Up_r6) C.power_Grid_Up_c2)
def C.power_Grid_Up_c3_w := @awpE _ _ C.power_Grid_Up_c3.eq_1
def C.power_Grid_Up_r5_b : List IOper := [
 X.o 4 (.move (X.i 6))]
def C.power_Grid_Up_r5 : List IOper := C.power_Grid_Up_r5_b
def C.power_Grid_Up_r5_w := @aopsE _ _ C.power_Grid_Up_r5.eq_1
def C.power_Grid_Up_c4 : ICode := .seq (.region C.power_Grid_Up_r5) .ret
def C.power_Grid_Up_c4_w := @awpE _ _ C.power_Grid_Up_c4.eq_1
def C.power_Grid_Up_c5 : ICode := .keep [5, 36] (.cond (X.s 36) C.power_Grid_Up_c4 .skip)
def C.power_Grid_Up_c5_w := @awpE _ _ C.power_Grid_Up_c5.eq_1
def C.power_Grid_Up_r4_b : List IOper := [
 X.m 11 5,
 X.o 12 (.call F.power_domain_down [X.s 11]),
 X.o 13 (.un .not (X.s 12)),
 X.m 14 13,
 X.f 14 15 (.move (X.s 5)),
 X.f 14 16 (.nilchk (X.s 15)),
 X.f 14 17 (.fldAddr 0 (X.s 16)),
 X.f 14 18 (.fldAddr 0 (X.s 17)),
 X.f 14 19 (.load1 (X.s 18)),
 X.f 14 20 (.bin .neq (X.s 19) (X.i (-1))),
 X.f 14 21 (.move (X.s 20)),
 X.t 21 22 (.move (X.s 0)),
 X.t 21 23 (.nilchk (X.s 22)),
 X.t 21 24 (.fldAddr 0 (X.s 23)),
 X.t 21 25 (.load1 (X.s 24)),
 X.t 21 26 (.move (X.s 5)),
 X.t 21 27 (.nilchk (X.s 26)),
 X.t 21 28 (.fldAddr 0 (X.s 27)),
 X.t 21 29 (.fldAddr 0 (X.s 28)),
 X.t 21 30 (.load1 (X.s 29)),
 X.t 21 31 (.idxAddr 7 (X.s 25) (X.s 30)),
 X.t 21 32 (.fldAddr 3 (X.s 31)),
 X.t 21 33 (.load1 (X.s 32)),
 X.t 21 34 (.bin .neq (X.s 33) (.cst (.int .u8 49))),
 X.f 14 35 (.pick (X.s 21) (X.s 34) (.cst (.bool false))),
 X.o 36 (.pick (X.s 14) (.cst (.bool true)) (X.s 35))]
def C.power_Grid_Up_r4 : List IOper := C.power_Grid_Up_r4_b
def C.power_Grid_Up_r4_w := @aopsE _ _ C.power_Grid_Up_r4.eq_1
def C.power_Grid_Up_c6 : ICode := .keep [0, 5] (.seq (.seq (.region C.power_Grid_Up_r4) C.power_Grid_Up_c5) C.power_Grid_Up_c3)
def C.power_Grid_Up_c6_w := @awpE _ _ C.power_Grid_Up_c6.eq_1
def C.power_Grid_Up_r3_b : List IOper := [
 X.o 4 (.move (X.i 4))]
def C.power_Grid_Up_r3 : List IOper := C.power_Grid_Up_r3_b
def C.power_Grid_Up_r3_w := @aopsE _ _ C.power_Grid_Up_r3.eq_1
def C.power_Grid_Up_c7 : ICode := .seq (.region C.power_Grid_Up_r3) .ret
def C.power_Grid_Up_c7_w := @awpE _ _ C.power_Grid_Up_c7.eq_1
def C.power_Grid_Up_c8 : ICode := .keep [0, 5, 10] (.cond (X.s 10) C.power_Grid_Up_c7 .skip)
def C.power_Grid_Up_c8_w := @awpE _ _ C.power_Grid_Up_c8.eq_1
def C.power_Grid_Up_r2_b : List IOper := [
 X.m 9 5,
 X.o 10 (.eqP 0 false (X.s 9) (.cst (.nilp)))]
def C.power_Grid_Up_r2 : List IOper := C.power_Grid_Up_r2_b
def C.power_Grid_Up_r2_w := @aopsE _ _ C.power_Grid_Up_r2.eq_1
def C.power_Grid_Up_c9 : ICode := .keep [0, 5] (.seq (.seq (.region C.power_Grid_Up_r2) C.power_Grid_Up_c8) C.power_Grid_Up_c6)
def C.power_Grid_Up_c9_w := @awpE _ _ C.power_Grid_Up_c9.eq_1
def C.power_Grid_Up_r1_b : List IOper := [
 X.m 6 0,
 X.m 7 1,
 X.o 8 (.call F.power_Grid_at [X.s 6, X.s 7]),
 X.m 5 8]
def C.power_Grid_Up_r1 : List IOper := C.power_Grid_Up_r1_b
def C.power_Grid_Up_r1_w := @aopsE _ _ C.power_Grid_Up_r1.eq_1
def C.power_Grid_Up_c10 : ICode := .keep [0, 1] (.seq (.region C.power_Grid_Up_r1) C.power_Grid_Up_c9)
def C.power_Grid_Up_c10_w := @awpE _ _ C.power_Grid_Up_c10.eq_1
def C.power_Grid_Up_r0_b : List IOper := [
 X.o 4 (.move (X.i 0))]
def C.power_Grid_Up_r0 : List IOper := C.power_Grid_Up_r0_b
def C.power_Grid_Up_r0_w := @aopsE _ _ C.power_Grid_Up_r0.eq_1
def C.power_Grid_Up : IFunc := ⟨2, [.slot 4], .seq (.region C.power_Grid_Up_r0) C.power_Grid_Up_c10⟩
def C.power_Grid_Up_W := And.intro (And.intro (And.intro (And.intro @C.power_Grid_Up_r8_w @C.power_Grid_Up_c1_w) (And.intro @C.power_Grid_Up_r7_w @C.power_Grid_Up_c2_w)) (And.intro (And.intro @C.power_Grid_Up_r6_w @C.power_Grid_Up_c3_w) (And.intro @C.power_Grid_Up_r5_w (And.intro @C.power_Grid_Up_c4_w @C.power_Grid_Up_c5_w)))) (And.intro (And.intro (And.intro @C.power_Grid_Up_r4_w @C.power_Grid_Up_c6_w) (And.intro @C.power_Grid_Up_r3_w (And.intro @C.power_Grid_Up_c7_w @C.power_Grid_Up_c8_w))) (And.intro (And.intro @C.power_Grid_Up_r2_w @C.power_Grid_Up_c9_w) (And.intro @C.power_Grid_Up_r1_w (And.intro @C.power_Grid_Up_c10_w @C.power_Grid_Up_r0_w))))
def C.power_Grid_Up_B := And.intro (And.intro (And.intro @C.power_Grid_Up_r8_b.eq_1 @C.power_Grid_Up_r7_b.eq_1) (And.intro @C.power_Grid_Up_r6_b.eq_1 @C.power_Grid_Up_r5_b.eq_1)) (And.intro (And.intro @C.power_Grid_Up_r4_b.eq_1 @C.power_Grid_Up_r3_b.eq_1) (And.intro @C.power_Grid_Up_r2_b.eq_1 (And.intro @C.power_Grid_Up_r1_b.eq_1 @C.power_Grid_Up_r0_b.eq_1)))

def C.power_Grid_Down_r15_b : List IOper := [
 X.o 6 (.move (X.i 0))]
def C.power_Grid_Down_r15 : List IOper := C.power_Grid_Down_r15_b
def C.power_Grid_Down_r15_w := @aopsE _ _ C.power_Grid_Down_r15.eq_1
def C.power_Grid_Down_c1 : ICode := .keep [] (.seq (.region C.power_Grid_Down_r15) .ret)
def C.power_Grid_Down_c1_w := @awpE _ _ C.power_Grid_Down_c1.eq_1
def C.power_Grid_Down_r14_b : List IOper := [
 X.m 58 7,
 X.m 59 7,
 X.m 60 2,
 X.o 61 (.nilchk (X.s 58)),
 X.o 62 (.fldAddr 3 (X.s 61)),
 X.n (.store1 (X.s 62) (.cst (.int .u8 99))),
 X.o 63 (.nilchk (X.s 59)),
 X.o 64 (.fldAddr 6 (X.s 63)),
 X.n (.store1 (X.s 64) (X.s 60))]
def C.power_Grid_Down_r14 : List IOper := C.power_Grid_Down_r14_b
def C.power_Grid_Down_r14_w := @aopsE _ _ C.power_Grid_Down_r14.eq_1
def C.power_Grid_Down_c2 : ICode := .keep [2, 7] (.seq (.region C.power_Grid_Down_r14) C.power_Grid_Down_c1)
def C.power_Grid_Down_c2_w := @awpE _ _ C.power_Grid_Down_c2.eq_1
def C.power_Grid_Down_r13_b : List IOper := [
 X.o 57 (.bin .add (X.s 33) (X.i 1)),
 X.m 33 57]
def C.power_Grid_Down_r13 : List IOper := C.power_Grid_Down_r13_b
def C.power_Grid_Down_r13_w := @aopsE _ _ C.power_Grid_Down_r13.eq_1
def C.power_Grid_Down_c3 : ICode := .keep [0, 1, 2, 7, 32, 33] (.region C.power_Grid_Down_r13)
def C.power_Grid_Down_c3_w := @awpE _ _ C.power_Grid_Down_c3.eq_1
def C.power_Grid_Down_r12_b : List IOper := [
 X.o 6 (.move (X.i 7))]
def C.power_Grid_Down_r12 : List IOper := C.power_Grid_Down_r12_b
def C.power_Grid_Down_r12_w := @aopsE _ _ C.power_Grid_Down_r12.eq_1
def C.power_Grid_Down_c4 : ICode := .seq (.region C.power_Grid_Down_r12) .ret
def C.power_Grid_Down_c4_w := @awpE _ _ C.power_Grid_Down_c4.eq_1
def C.power_Grid_Down_c5 : ICode := .keep [0, 1, 2, 7, 32, 33, 56] (.cond (X.s 56) C.power_Grid_Down_c4 .skip)
def C.power_Grid_Down_c5_w := @awpE _ _ C.power_Grid_Down_c5.eq_1
def C.power_Grid_Down_r11_b : List IOper := [
 X.m 36 0,
 X.o 37 (.nilchk (X.s 36)),
 X.o 38 (.fldAddr 0 (X.s 37)),
 X.o 39 (.load1 (X.s 38)),
 X.m 40 8,
 X.o 41 (.idxAddr 7 (X.s 39) (X.s 40)),
 X.o 42 (.fldAddr 0 (X.s 41)),
 X.o 43 (.fldAddr 0 (X.s 42)),
 X.o 44 (.load1 (X.s 43)),
 X.m 45 1,
 X.o 46 (.bin .eql (X.s 44) (X.s 45)),
 X.m 47 46,
 X.t 47 48 (.move (X.s 0)),
 X.t 47 49 (.nilchk (X.s 48)),
 X.t 47 50 (.fldAddr 0 (X.s 49)),
 X.t 47 51 (.load1 (X.s 50)),
 X.t 47 52 (.move (X.s 8)),
 X.t 47 53 (.idxAddr 7 (X.s 51) (X.s 52)),
 X.t 47 54 (.call F.power_domain_down [X.s 53]),
 X.t 47 55 (.un .not (X.s 54)),
 X.o 56 (.pick (X.s 47) (X.s 55) (.cst (.bool false)))]
def C.power_Grid_Down_r11 : List IOper := C.power_Grid_Down_r11_b
def C.power_Grid_Down_r11_w := @aopsE _ _ C.power_Grid_Down_r11.eq_1
def C.power_Grid_Down_c6 : ICode := .keep [0, 1, 2, 7, 8, 32, 33] (.seq (.region C.power_Grid_Down_r11) C.power_Grid_Down_c5)
def C.power_Grid_Down_c6_w := @awpE _ _ C.power_Grid_Down_c6.eq_1
def C.power_Grid_Down_r10_b : List IOper := [
 X.m 35 33,
 X.m 8 35]
def C.power_Grid_Down_r10 : List IOper := C.power_Grid_Down_r10_b
def C.power_Grid_Down_r10_w := @aopsE _ _ C.power_Grid_Down_r10.eq_1
def C.power_Grid_Down_b7 : ICode := .seq (.region C.power_Grid_Down_r10) C.power_Grid_Down_c6
def C.power_Grid_Down_b7_w := @awpE _ _ C.power_Grid_Down_b7.eq_1
def C.power_Grid_Down_c8 : ICode := .keep [0, 1, 2, 7, 32, 33] (.seq (.block 1 C.power_Grid_Down_b7) C.power_Grid_Down_c3)
def C.power_Grid_Down_c8_w := @awpE _ _ C.power_Grid_Down_c8.eq_1
def C.power_Grid_Down_c9 : ICode := .keep [0, 1, 2, 7, 32, 33, 34] (.seq (.cond (X.s 34) .skip (.exit 0)) C.power_Grid_Down_c8)
def C.power_Grid_Down_c9_w := @awpE _ _ C.power_Grid_Down_c9.eq_1
def C.power_Grid_Down_r9_b : List IOper := [
 X.o 34 (.bin .lss (X.s 33) (X.s 32))]
def C.power_Grid_Down_r9 : List IOper := C.power_Grid_Down_r9_b
def C.power_Grid_Down_r9_w := @aopsE _ _ C.power_Grid_Down_r9.eq_1
def C.power_Grid_Down_l10 : ICode := .keep [0, 1, 2, 7, 32, 33] (.seq (.region C.power_Grid_Down_r9) C.power_Grid_Down_c9)
def C.power_Grid_Down_l10_w := @awpE _ _ C.power_Grid_Down_l10.eq_1
def C.power_Grid_Down_b11 : ICode := .loop C.power_Grid_Down_l10
def C.power_Grid_Down_b11_w := @awpE _ _ C.power_Grid_Down_b11.eq_1
def C.power_Grid_Down_c12 : ICode := .keep [0, 1, 2, 7, 32, 33] (.block 0 C.power_Grid_Down_b11)
def C.power_Grid_Down_c12_w := @awpE _ _ C.power_Grid_Down_c12.eq_1
def C.power_Grid_Down_r8_b : List IOper := [
 X.m 28 0,
 X.o 29 (.nilchk (X.s 28)),
 X.o 30 (.fldAddr 0 (X.s 29)),
 X.o 31 (.load1 (X.s 30)),
 X.o 32 (.len (X.s 31)),
 X.o 33 (.move (X.i 0))]
def C.power_Grid_Down_r8 : List IOper := C.power_Grid_Down_r8_b
def C.power_Grid_Down_r8_w := @aopsE _ _ C.power_Grid_Down_r8.eq_1
def C.power_Grid_Down_c13 : ICode := .keep [0, 1, 2, 7] (.seq (.seq (.region C.power_Grid_Down_r8) C.power_Grid_Down_c12) C.power_Grid_Down_c2)
def C.power_Grid_Down_c13_w := @awpE _ _ C.power_Grid_Down_c13.eq_1
def C.power_Grid_Down_r7_b : List IOper := [
 X.o 6 (.move (X.i 1))]
def C.power_Grid_Down_r7 : List IOper := C.power_Grid_Down_r7_b
def C.power_Grid_Down_r7_w := @aopsE _ _ C.power_Grid_Down_r7.eq_1
def C.power_Grid_Down_c14 : ICode := .seq (.region C.power_Grid_Down_r7) .ret
def C.power_Grid_Down_c14_w := @awpE _ _ C.power_Grid_Down_c14.eq_1
def C.power_Grid_Down_c15 : ICode := .keep [0, 1, 2, 7, 27] (.cond (X.s 27) C.power_Grid_Down_c14 .skip)
def C.power_Grid_Down_c15_w := @awpE _ _ C.power_Grid_Down_c15.eq_1
def C.power_Grid_Down_r6_b : List IOper := [
 X.m 19 2,
 X.m 20 19,
 X.t 20 21 (.move (X.s 7)),
 X.t 20 22 (.nilchk (X.s 21)),
 X.t 20 23 (.fldAddr 0 (X.s 22)),
 X.t 20 24 (.fldAddr 2 (X.s 23)),
 X.t 20 25 (.load1 (X.s 24)),
 X.t 20 26 (.un .not (X.s 25)),
 X.o 27 (.pick (X.s 20) (X.s 26) (.cst (.bool false)))]
def C.power_Grid_Down_r6 : List IOper := C.power_Grid_Down_r6_b
def C.power_Grid_Down_r6_w := @aopsE _ _ C.power_Grid_Down_r6.eq_1
def C.power_Grid_Down_c16 : ICode := .keep [0, 1, 2, 7] (.seq (.seq (.region C.power_Grid_Down_r6) C.power_Grid_Down_c15) C.power_Grid_Down_c13)
def C.power_Grid_Down_c16_w := @awpE _ _ C.power_Grid_Down_c16.eq_1
def C.power_Grid_Down_r5_b : List IOper := [
 X.o 6 (.move (X.i 6))]
def C.power_Grid_Down_r5 : List IOper := C.power_Grid_Down_r5_b
def C.power_Grid_Down_r5_w := @aopsE _ _ C.power_Grid_Down_r5.eq_1
def C.power_Grid_Down_c17 : ICode := .seq (.region C.power_Grid_Down_r5) .ret
def C.power_Grid_Down_c17_w := @awpE _ _ C.power_Grid_Down_c17.eq_1
def C.power_Grid_Down_c18 : ICode := .keep [0, 1, 2, 7, 18] (.cond (X.s 18) C.power_Grid_Down_c17 .skip)
def C.power_Grid_Down_c18_w := @awpE _ _ C.power_Grid_Down_c18.eq_1
def C.power_Grid_Down_r4_b : List IOper := [
 X.m 14 7,
 X.o 15 (.nilchk (X.s 14)),
 X.o 16 (.fldAddr 3 (X.s 15)),
 X.o 17 (.load1 (X.s 16)),
 X.o 18 (.bin .neq (X.s 17) (.cst (.int .u8 49)))]
def C.power_Grid_Down_r4 : List IOper := C.power_Grid_Down_r4_b
def C.power_Grid_Down_r4_w := @aopsE _ _ C.power_Grid_Down_r4.eq_1
def C.power_Grid_Down_c19 : ICode := .keep [0, 1, 2, 7] (.seq (.seq (.region C.power_Grid_Down_r4) C.power_Grid_Down_c18) C.power_Grid_Down_c16)
def C.power_Grid_Down_c19_w := @awpE _ _ C.power_Grid_Down_c19.eq_1
def C.power_Grid_Down_r3_b : List IOper := [
 X.o 6 (.move (X.i 4))]
def C.power_Grid_Down_r3 : List IOper := C.power_Grid_Down_r3_b
def C.power_Grid_Down_r3_w := @aopsE _ _ C.power_Grid_Down_r3.eq_1
def C.power_Grid_Down_c20 : ICode := .seq (.region C.power_Grid_Down_r3) .ret
def C.power_Grid_Down_c20_w := @awpE _ _ C.power_Grid_Down_c20.eq_1
def C.power_Grid_Down_c21 : ICode := .keep [0, 1, 2, 7, 13] (.cond (X.s 13) C.power_Grid_Down_c20 .skip)
def C.power_Grid_Down_c21_w := @awpE _ _ C.power_Grid_Down_c21.eq_1
def C.power_Grid_Down_r2_b : List IOper := [
 X.m 12 7,
 X.o 13 (.eqP 0 false (X.s 12) (.cst (.nilp)))]
def C.power_Grid_Down_r2 : List IOper := C.power_Grid_Down_r2_b
def C.power_Grid_Down_r2_w := @aopsE _ _ C.power_Grid_Down_r2.eq_1
def C.power_Grid_Down_c22 : ICode := .keep [0, 1, 2, 7] (.seq (.seq (.region C.power_Grid_Down_r2) C.power_Grid_Down_c21) C.power_Grid_Down_c19)
def C.power_Grid_Down_c22_w := @awpE _ _ C.power_Grid_Down_c22.eq_1
def C.power_Grid_Down_r1_b : List IOper := [
 X.m 9 0,
 X.m 10 1,
 X.o 11 (.call F.power_Grid_at [X.s 9, X.s 10]),
 X.m 7 11]
def C.power_Grid_Down_r1 : List IOper := C.power_Grid_Down_r1_b
def C.power_Grid_Down_r1_w := @aopsE _ _ C.power_Grid_Down_r1.eq_1
def C.power_Grid_Down_c23 : ICode := .keep [0, 1, 2] (.seq (.region C.power_Grid_Down_r1) C.power_Grid_Down_c22)
def C.power_Grid_Down_c23_w := @awpE _ _ C.power_Grid_Down_c23.eq_1
def C.power_Grid_Down_r0_b : List IOper := [
 X.o 6 (.move (X.i 0))]
def C.power_Grid_Down_r0 : List IOper := C.power_Grid_Down_r0_b
def C.power_Grid_Down_r0_w := @aopsE _ _ C.power_Grid_Down_r0.eq_1
def C.power_Grid_Down : IFunc := ⟨3, [.slot 6], .seq (.region C.power_Grid_Down_r0) C.power_Grid_Down_c23⟩
def C.power_Grid_Down_W := And.intro (And.intro (And.intro (And.intro (And.intro @C.power_Grid_Down_r15_w @C.power_Grid_Down_c1_w) (And.intro @C.power_Grid_Down_r14_w @C.power_Grid_Down_c2_w)) (And.intro (And.intro @C.power_Grid_Down_r13_w @C.power_Grid_Down_c3_w) (And.intro @C.power_Grid_Down_r12_w (And.intro @C.power_Grid_Down_c4_w @C.power_Grid_Down_c5_w)))) (And.intro (And.intro (And.intro @C.power_Grid_Down_r11_w @C.power_Grid_Down_c6_w) (And.intro @C.power_Grid_Down_r10_w (And.intro @C.power_Grid_Down_b7_w @C.power_Grid_Down_c8_w))) (And.intro (And.intro @C.power_Grid_Down_c9_w @C.power_Grid_Down_r9_w) (And.intro @C.power_Grid_Down_b11_w (And.intro @C.power_Grid_Down_c12_w @C.power_Grid_Down_r8_w))))) (And.intro (And.intro (And.intro (And.intro @C.power_Grid_Down_c13_w @C.power_Grid_Down_r7_w) (And.intro @C.power_Grid_Down_c14_w @C.power_Grid_Down_c15_w)) (And.intro (And.intro @C.power_Grid_Down_r6_w @C.power_Grid_Down_c16_w) (And.intro @C.power_Grid_Down_r5_w (And.intro @C.power_Grid_Down_c17_w @C.power_Grid_Down_c18_w)))) (And.intro (And.intro (And.intro @C.power_Grid_Down_r4_w @C.power_Grid_Down_c19_w) (And.intro @C.power_Grid_Down_r3_w (And.intro @C.power_Grid_Down_c20_w @C.power_Grid_Down_c21_w))) (And.intro (And.intro @C.power_Grid_Down_r2_w @C.power_Grid_Down_c22_w) (And.intro @C.power_Grid_Down_r1_w (And.intro @C.power_Grid_Down_c23_w @C.power_Grid_Down_r0_w)))))
def C.power_Grid_Down_B := And.intro (And.intro (And.intro (And.intro @C.power_Grid_Down_r15_b.eq_1 @C.power_Grid_Down_r14_b.eq_1) (And.intro @C.power_Grid_Down_r13_b.eq_1 @C.power_Grid_Down_r12_b.eq_1)) (And.intro (And.intro @C.power_Grid_Down_r11_b.eq_1 @C.power_Grid_Down_r10_b.eq_1) (And.intro @C.power_Grid_Down_r9_b.eq_1 @C.power_Grid_Down_r8_b.eq_1))) (And.intro (And.intro (And.intro @C.power_Grid_Down_r7_b.eq_1 @C.power_Grid_Down_r6_b.eq_1) (And.intro @C.power_Grid_Down_r5_b.eq_1 @C.power_Grid_Down_r4_b.eq_1)) (And.intro (And.intro @C.power_Grid_Down_r3_b.eq_1 @C.power_Grid_Down_r2_b.eq_1) (And.intro @C.power_Grid_Down_r1_b.eq_1 @C.power_Grid_Down_r0_b.eq_1)))

def C.power_Grid_Tick_r11_b : List IOper := [
 X.m 32 3,
 X.m 2 32]
def C.power_Grid_Tick_r11 : List IOper := C.power_Grid_Tick_r11_b
def C.power_Grid_Tick_r11_w := @aopsE _ _ C.power_Grid_Tick_r11.eq_1
def C.power_Grid_Tick_c1 : ICode := .keep [3] (.seq (.region C.power_Grid_Tick_r11) .ret)
def C.power_Grid_Tick_c1_w := @awpE _ _ C.power_Grid_Tick_c1.eq_1
def C.power_Grid_Tick_r10_b : List IOper := [
 X.o 31 (.bin .add (X.s 13) (X.i 1)),
 X.m 13 31]
def C.power_Grid_Tick_r10 : List IOper := C.power_Grid_Tick_r10_b
def C.power_Grid_Tick_r10_w := @aopsE _ _ C.power_Grid_Tick_r10.eq_1
def C.power_Grid_Tick_c2 : ICode := .keep [0, 3, 12, 13] (.region C.power_Grid_Tick_r10)
def C.power_Grid_Tick_c2_w := @awpE _ _ C.power_Grid_Tick_c2.eq_1
def C.power_Grid_Tick_r9_b : List IOper := [
 X.m 25 3,
 X.m 26 5,
 X.m 27 4,
 X.o 28 (.build [.int .u8 0, .int .i64 0] [(0, 1, X.s 26), (1, 1, X.s 27)]),
 X.o 29 (.buildSlice 2 1 [.int .u8 0, .int .i64 0] [(0, 2, X.s 28)]),
 X.o 30 (.append 2 16 (X.s 25) (X.s 29)),
 X.m 3 30]
def C.power_Grid_Tick_r9 : List IOper := C.power_Grid_Tick_r9_b
def C.power_Grid_Tick_r9_w := @aopsE _ _ C.power_Grid_Tick_r9.eq_1
def C.power_Grid_Tick_c3 : ICode := .keep [0, 3, 4, 5, 12, 13, 24] (.cond (X.s 24) (.region C.power_Grid_Tick_r9) .skip)
def C.power_Grid_Tick_c3_w := @awpE _ _ C.power_Grid_Tick_c3.eq_1
def C.power_Grid_Tick_r8_b : List IOper := [
 X.m 23 5,
 X.o 24 (.bin .neq (X.s 23) (.cst (.int .u8 0)))]
def C.power_Grid_Tick_r8 : List IOper := C.power_Grid_Tick_r8_b
def C.power_Grid_Tick_r8_w := @aopsE _ _ C.power_Grid_Tick_r8.eq_1
def C.power_Grid_Tick_c4 : ICode := .keep [0, 3, 4, 5, 12, 13] (.seq (.region C.power_Grid_Tick_r8) C.power_Grid_Tick_c3)
def C.power_Grid_Tick_c4_w := @awpE _ _ C.power_Grid_Tick_c4.eq_1
def C.power_Grid_Tick_r7_b : List IOper := [
 X.m 16 0,
 X.o 17 (.nilchk (X.s 16)),
 X.o 18 (.fldAddr 0 (X.s 17)),
 X.o 19 (.load1 (X.s 18)),
 X.m 20 4,
 X.o 21 (.idxAddr 7 (X.s 19) (X.s 20)),
 X.o 22 (.call F.power_domain_tick [X.s 21]),
 X.m 5 22]
def C.power_Grid_Tick_r7 : List IOper := C.power_Grid_Tick_r7_b
def C.power_Grid_Tick_r7_w := @aopsE _ _ C.power_Grid_Tick_r7.eq_1
def C.power_Grid_Tick_c5 : ICode := .keep [0, 3, 4, 12, 13] (.seq (.region C.power_Grid_Tick_r7) C.power_Grid_Tick_c4)
def C.power_Grid_Tick_c5_w := @awpE _ _ C.power_Grid_Tick_c5.eq_1
def C.power_Grid_Tick_r6_b : List IOper := [
 X.m 15 13,
 X.m 4 15]
def C.power_Grid_Tick_r6 : List IOper := C.power_Grid_Tick_r6_b
def C.power_Grid_Tick_r6_w := @aopsE _ _ C.power_Grid_Tick_r6.eq_1
def C.power_Grid_Tick_b6 : ICode := .seq (.region C.power_Grid_Tick_r6) C.power_Grid_Tick_c5
def C.power_Grid_Tick_b6_w := @awpE _ _ C.power_Grid_Tick_b6.eq_1
def C.power_Grid_Tick_c7 : ICode := .keep [0, 3, 12, 13] (.seq (.block 1 C.power_Grid_Tick_b6) C.power_Grid_Tick_c2)
def C.power_Grid_Tick_c7_w := @awpE _ _ C.power_Grid_Tick_c7.eq_1
def C.power_Grid_Tick_c8 : ICode := .keep [0, 3, 12, 13, 14] (.seq (.cond (X.s 14) .skip (.exit 0)) C.power_Grid_Tick_c7)
def C.power_Grid_Tick_c8_w := @awpE _ _ C.power_Grid_Tick_c8.eq_1
def C.power_Grid_Tick_r5_b : List IOper := [
 X.o 14 (.bin .lss (X.s 13) (X.s 12))]
def C.power_Grid_Tick_r5 : List IOper := C.power_Grid_Tick_r5_b
def C.power_Grid_Tick_r5_w := @aopsE _ _ C.power_Grid_Tick_r5.eq_1
def C.power_Grid_Tick_l9 : ICode := .keep [0, 3, 12, 13] (.seq (.region C.power_Grid_Tick_r5) C.power_Grid_Tick_c8)
def C.power_Grid_Tick_l9_w := @awpE _ _ C.power_Grid_Tick_l9.eq_1
def C.power_Grid_Tick_b10 : ICode := .loop C.power_Grid_Tick_l9
def C.power_Grid_Tick_b10_w := @awpE _ _ C.power_Grid_Tick_b10.eq_1
def C.power_Grid_Tick_c11 : ICode := .keep [0, 3, 12, 13] (.block 0 C.power_Grid_Tick_b10)
def C.power_Grid_Tick_c11_w := @awpE _ _ C.power_Grid_Tick_c11.eq_1
def C.power_Grid_Tick_r4_b : List IOper := [
 X.m 8 0,
 X.o 9 (.nilchk (X.s 8)),
 X.o 10 (.fldAddr 0 (X.s 9)),
 X.o 11 (.load1 (X.s 10)),
 X.o 12 (.len (X.s 11)),
 X.o 13 (.move (X.i 0))]
def C.power_Grid_Tick_r4 : List IOper := C.power_Grid_Tick_r4_b
def C.power_Grid_Tick_r4_w := @aopsE _ _ C.power_Grid_Tick_r4.eq_1
def C.power_Grid_Tick_c12 : ICode := .keep [0, 3] (.seq (.seq (.region C.power_Grid_Tick_r4) C.power_Grid_Tick_c11) C.power_Grid_Tick_c1)
def C.power_Grid_Tick_c12_w := @awpE _ _ C.power_Grid_Tick_c12.eq_1
def C.power_Grid_Tick_r3_b : List IOper := [
 X.o 3 (.move (.cst (.nils)))]
def C.power_Grid_Tick_r3 : List IOper := C.power_Grid_Tick_r3_b
def C.power_Grid_Tick_r3_w := @aopsE _ _ C.power_Grid_Tick_r3.eq_1
def C.power_Grid_Tick_c13 : ICode := .keep [0] (.seq (.region C.power_Grid_Tick_r3) C.power_Grid_Tick_c12)
def C.power_Grid_Tick_c13_w := @awpE _ _ C.power_Grid_Tick_c13.eq_1
def C.power_Grid_Tick_r2_b : List IOper := [
 X.o 2 (.move (.cst (.nils)))]
def C.power_Grid_Tick_r2 : List IOper := C.power_Grid_Tick_r2_b
def C.power_Grid_Tick_r2_w := @aopsE _ _ C.power_Grid_Tick_r2.eq_1
def C.power_Grid_Tick_c14 : ICode := .seq (.region C.power_Grid_Tick_r2) .ret
def C.power_Grid_Tick_c14_w := @awpE _ _ C.power_Grid_Tick_c14.eq_1
def C.power_Grid_Tick_c15 : ICode := .keep [0, 7] (.cond (X.s 7) C.power_Grid_Tick_c14 .skip)
def C.power_Grid_Tick_c15_w := @awpE _ _ C.power_Grid_Tick_c15.eq_1
def C.power_Grid_Tick_r1_b : List IOper := [
 X.m 6 0,
 X.o 7 (.eqP 0 false (X.s 6) (.cst (.nilp)))]
def C.power_Grid_Tick_r1 : List IOper := C.power_Grid_Tick_r1_b
def C.power_Grid_Tick_r1_w := @aopsE _ _ C.power_Grid_Tick_r1.eq_1
def C.power_Grid_Tick_c16 : ICode := .keep [0] (.seq (.seq (.region C.power_Grid_Tick_r1) C.power_Grid_Tick_c15) C.power_Grid_Tick_c13)
def C.power_Grid_Tick_c16_w := @awpE _ _ C.power_Grid_Tick_c16.eq_1
def C.power_Grid_Tick_r0_b : List IOper := [
 X.o 2 (.move (.cst (.nils)))]
def C.power_Grid_Tick_r0 : List IOper := C.power_Grid_Tick_r0_b
def C.power_Grid_Tick_r0_w := @aopsE _ _ C.power_Grid_Tick_r0.eq_1
def C.power_Grid_Tick : IFunc := ⟨1, [.slot 2], .seq (.region C.power_Grid_Tick_r0) C.power_Grid_Tick_c16⟩
def C.power_Grid_Tick_W := And.intro (And.intro (And.intro (And.intro @C.power_Grid_Tick_r11_w (And.intro @C.power_Grid_Tick_c1_w @C.power_Grid_Tick_r10_w)) (And.intro @C.power_Grid_Tick_c2_w (And.intro @C.power_Grid_Tick_r9_w @C.power_Grid_Tick_c3_w))) (And.intro (And.intro @C.power_Grid_Tick_r8_w (And.intro @C.power_Grid_Tick_c4_w @C.power_Grid_Tick_r7_w)) (And.intro (And.intro @C.power_Grid_Tick_c5_w @C.power_Grid_Tick_r6_w) (And.intro @C.power_Grid_Tick_b6_w @C.power_Grid_Tick_c7_w)))) (And.intro (And.intro (And.intro @C.power_Grid_Tick_c8_w (And.intro @C.power_Grid_Tick_r5_w @C.power_Grid_Tick_b10_w)) (And.intro (And.intro @C.power_Grid_Tick_c11_w @C.power_Grid_Tick_r4_w) (And.intro @C.power_Grid_Tick_c12_w @C.power_Grid_Tick_r3_w))) (And.intro (And.intro @C.power_Grid_Tick_c13_w (And.intro @C.power_Grid_Tick_r2_w @C.power_Grid_Tick_c14_w)) (And.intro (And.intro @C.power_Grid_Tick_c15_w @C.power_Grid_Tick_r1_w) (And.intro @C.power_Grid_Tick_c16_w @C.power_Grid_Tick_r0_w))))
def C.power_Grid_Tick_B := And.intro (And.intro (And.intro @C.power_Grid_Tick_r11_b.eq_1 (And.intro @C.power_Grid_Tick_r10_b.eq_1 @C.power_Grid_Tick_r9_b.eq_1)) (And.intro @C.power_Grid_Tick_r8_b.eq_1 (And.intro @C.power_Grid_Tick_r7_b.eq_1 @C.power_Grid_Tick_r6_b.eq_1))) (And.intro (And.intro @C.power_Grid_Tick_r5_b.eq_1 (And.intro @C.power_Grid_Tick_r4_b.eq_1 @C.power_Grid_Tick_r3_b.eq_1)) (And.intro @C.power_Grid_Tick_r2_b.eq_1 (And.intro @C.power_Grid_Tick_r1_b.eq_1 @C.power_Grid_Tick_r0_b.eq_1)))

def C.power_Grid_Phase_r4_b : List IOper := [
 X.m 11 5,
 X.o 12 (.nilchk (X.s 11)),
 X.o 13 (.fldAddr 3 (X.s 12)),
 X.o 14 (.load1 (X.s 13)),
 X.m 4 14]
def C.power_Grid_Phase_r4 : List IOper := C.power_Grid_Phase_r4_b
def C.power_Grid_Phase_r4_w := @aopsE _ _ C.power_Grid_Phase_r4.eq_1
def C.power_Grid_Phase_c1 : ICode := .keep [5] (.seq (.region C.power_Grid_Phase_r4) .ret)
def C.power_Grid_Phase_c1_w := @awpE _ _ C.power_Grid_Phase_c1.eq_1
def C.power_Grid_Phase_r3_b : List IOper := [
 X.o 4 (.move (.cst (.int .u8 0)))]
def C.power_Grid_Phase_r3 : List IOper := C.power_Grid_Phase_r3_b
def C.power_Grid_Phase_r3_w := @aopsE _ _ C.power_Grid_Phase_r3.eq_1
def C.power_Grid_Phase_c2 : ICode := .seq (.region C.power_Grid_Phase_r3) .ret
def C.power_Grid_Phase_c2_w := @awpE _ _ C.power_Grid_Phase_c2.eq_1
def C.power_Grid_Phase_c3 : ICode := .keep [5, 10] (.cond (X.s 10) C.power_Grid_Phase_c2 .skip)
def C.power_Grid_Phase_c3_w := @awpE _ _ C.power_Grid_Phase_c3.eq_1
def C.power_Grid_Phase_r2_b : List IOper := [
 X.m 9 5,
 X.o 10 (.eqP 0 false (X.s 9) (.cst (.nilp)))]
def C.power_Grid_Phase_r2 : List IOper := C.power_Grid_Phase_r2_b
def C.power_Grid_Phase_r2_w := @aopsE _ _ C.power_Grid_Phase_r2.eq_1
def C.power_Grid_Phase_c4 : ICode := .keep [5] (.seq (.seq (.region C.power_Grid_Phase_r2) C.power_Grid_Phase_c3) C.power_Grid_Phase_c1)
def C.power_Grid_Phase_c4_w := @awpE _ _ C.power_Grid_Phase_c4.eq_1
def C.power_Grid_Phase_r1_b : List IOper := [
 X.m 6 0,
 X.m 7 1,
 X.o 8 (.call F.power_Grid_at [X.s 6, X.s 7]),
 X.m 5 8]
def C.power_Grid_Phase_r1 : List IOper := C.power_Grid_Phase_r1_b
def C.power_Grid_Phase_r1_w := @aopsE _ _ C.power_Grid_Phase_r1.eq_1
def C.power_Grid_Phase_c5 : ICode := .keep [0, 1] (.seq (.region C.power_Grid_Phase_r1) C.power_Grid_Phase_c4)
def C.power_Grid_Phase_c5_w := @awpE _ _ C.power_Grid_Phase_c5.eq_1
def C.power_Grid_Phase_r0_b : List IOper := [
 X.o 4 (.move (.cst (.int .u8 0)))]
def C.power_Grid_Phase_r0 : List IOper := C.power_Grid_Phase_r0_b
def C.power_Grid_Phase_r0_w := @aopsE _ _ C.power_Grid_Phase_r0.eq_1
def C.power_Grid_Phase : IFunc := ⟨2, [.slot 4], .seq (.region C.power_Grid_Phase_r0) C.power_Grid_Phase_c5⟩
def C.power_Grid_Phase_W := And.intro (And.intro (And.intro @C.power_Grid_Phase_r4_w @C.power_Grid_Phase_c1_w) (And.intro @C.power_Grid_Phase_r3_w (And.intro @C.power_Grid_Phase_c2_w @C.power_Grid_Phase_c3_w))) (And.intro (And.intro @C.power_Grid_Phase_r2_w @C.power_Grid_Phase_c4_w) (And.intro @C.power_Grid_Phase_r1_w (And.intro @C.power_Grid_Phase_c5_w @C.power_Grid_Phase_r0_w)))
def C.power_Grid_Phase_B := And.intro (And.intro @C.power_Grid_Phase_r4_b.eq_1 @C.power_Grid_Phase_r3_b.eq_1) (And.intro @C.power_Grid_Phase_r2_b.eq_1 (And.intro @C.power_Grid_Phase_r1_b.eq_1 @C.power_Grid_Phase_r0_b.eq_1))

def C.graph_Order_r20_b : List IOper := [
 X.m 73 8,
 X.m 2 73,
 X.o 3 (.move (X.i 0))]
def C.graph_Order_r20 : List IOper := C.graph_Order_r20_b
def C.graph_Order_r20_w := @aopsE _ _ C.graph_Order_r20.eq_1
def C.graph_Order_c1 : ICode := .keep [8] (.seq (.region C.graph_Order_r20) .ret)
def C.graph_Order_c1_w := @awpE _ _ C.graph_Order_c1.eq_1
def C.graph_Order_r19_b : List IOper := [
 X.o 72 (.bin .add (X.s 62) (X.i 1)),
 X.m 62 72]
def C.graph_Order_r19 : List IOper := C.graph_Order_r19_b
def C.graph_Order_r19_w := @aopsE _ _ C.graph_Order_r19.eq_1
def C.graph_Order_c2 : ICode := .keep [0, 5, 6, 7, 8, 60, 61, 62] (.region C.graph_Order_r19)
def C.graph_Order_c2_w := @awpE _ _ C.graph_Order_c2.eq_1
def C.graph_Order_r18_b : List IOper := [
 X.m 66 5,
 X.m 67 11,
 X.o 68 (.idxAddr 1 (X.s 66) (X.s 67)),
 X.o 69 (.load1 (X.s 68)),
 X.o 70 (.bin .sub (X.s 69) (X.i 1)),
 X.o 71 (.idxAddr 1 (X.s 66) (X.s 67)),
 X.n (.store1 (X.s 71) (X.s 70))]
def C.graph_Order_r18 : List IOper := C.graph_Order_r18_b
def C.graph_Order_r18_w := @aopsE _ _ C.graph_Order_r18.eq_1
def C.graph_Order_c3 : ICode := .keep [0, 5, 6, 7, 8, 11, 60, 61, 62] (.region C.graph_Order_r18)
def C.graph_Order_c3_w := @awpE _ _ C.graph_Order_c3.eq_1
def C.graph_Order_r17_b : List IOper := [
 X.o 64 (.idxAddr 1 (X.s 60) (X.s 62)),
 X.o 65 (.load1 (X.s 64)),
 X.m 11 65]
def C.graph_Order_r17 : List IOper := C.graph_Order_r17_b
def C.graph_Order_r17_w := @aopsE _ _ C.graph_Order_r17.eq_1
def C.graph_Order_b4 : ICode := .seq (.region C.graph_Order_r17) C.graph_Order_c3
def C.graph_Order_b4_w := @awpE _ _ C.graph_Order_b4.eq_1
def C.graph_Order_c5 : ICode := .keep [0, 5, 6, 7, 8, 60, 61, 62] (.seq (.block 5 C.graph_Order_b4) C.graph_Order_c2)
def C.graph_Order_c5_w := @awpE _ _ C.graph_Order_c5.eq_1
def C.graph_Order_c6 : ICode := .keep [0, 5, 6, 7, 8, 60, 61, 62, 63] (.seq (.cond (X.s 63) .skip (.exit 4)) C.graph_Order_c5)
def C.graph_Order_c6_w := @awpE _ _ C.graph_Order_c6.eq_1
def C.graph_Order_r16_b : List IOper := [
 X.o 63 (.bin .lss (X.s 62) (X.s 61))]
def C.graph_Order_r16 : List IOper := C.graph_Order_r16_b
def C.graph_Order_r16_w := @aopsE _ _ C.graph_Order_r16.eq_1
def C.graph_Order_l7 : ICode := .keep [0, 5, 6, 7, 8, 60, 61, 62] (.seq (.region C.graph_Order_r16) C.graph_Order_c6)
def C.graph_Order_l7_w := @awpE _ _ C.graph_Order_l7.eq_1
def C.graph_Order_b8 : ICode := .loop C.graph_Order_l7
def C.graph_Order_b8_w := @awpE _ _ C.graph_Order_b8.eq_1
def C.graph_Order_c9 : ICode := .keep [0, 5, 6, 7, 8, 60, 61, 62] (.block 4 C.graph_Order_b8)
def C.graph_Order_c9_w := @awpE _ _ C.graph_Order_c9.eq_1
def C.graph_Order_r15_b : List IOper := [
 X.m 57 6,
 X.m 58 9,
 X.o 59 (.idxAddr 1 (X.s 57) (X.s 58)),
 X.o 60 (.load1 (X.s 59)),
 X.o 61 (.len (X.s 60)),
 X.o 62 (.move (X.i 0))]
def C.graph_Order_r15 : List IOper := C.graph_Order_r15_b
def C.graph_Order_r15_w := @aopsE _ _ C.graph_Order_r15.eq_1
def C.graph_Order_c10 : ICode := .keep [0, 5, 6, 7, 8, 9] (.seq (.region C.graph_Order_r15) C.graph_Order_c9)
def C.graph_Order_c10_w := @awpE _ _ C.graph_Order_c10.eq_1
def C.graph_Order_r14_b : List IOper := [
 X.m 53 8,
 X.m 54 9,
 X.o 55 (.buildSlice 1 1 [.int .i64 0] [(0, 1, X.s 54)]),
 X.o 56 (.append 1 8 (X.s 53) (X.s 55)),
 X.m 8 56]
def C.graph_Order_r14 : List IOper := C.graph_Order_r14_b
def C.graph_Order_r14_w := @aopsE _ _ C.graph_Order_r14.eq_1
def C.graph_Order_c11 : ICode := .keep [0, 5, 6, 7, 8, 9] (.seq (.region C.graph_Order_r14) C.graph_Order_c10)
def C.graph_Order_c11_w := @awpE _ _ C.graph_Order_c11.eq_1
def C.graph_Order_r13_b : List IOper := [
 X.m 50 7,
 X.m 51 9,
 X.o 52 (.call F.graph_marks_add [X.s 50, X.s 51])]
def C.graph_Order_r13 : List IOper := C.graph_Order_r13_b
def C.graph_Order_r13_w := @aopsE _ _ C.graph_Order_r13.eq_1
def C.graph_Order_c12 : ICode := .keep [0, 5, 6, 7, 8, 9] (.seq (.region C.graph_Order_r13) C.graph_Order_c11)
def C.graph_Order_c12_w := @awpE _ _ C.graph_Order_c12.eq_1
def C.graph_Order_r12_b : List IOper := [
 X.o 2 (.move (.cst (.nils))),
 X.o 3 (.move (X.i 5))]
def C.graph_Order_r12 : List IOper := C.graph_Order_r12_b
def C.graph_Order_r12_w := @aopsE _ _ C.graph_Order_r12.eq_1
def C.graph_Order_c13 : ICode := .seq (.region C.graph_Order_r12) .ret
def C.graph_Order_c13_w := @awpE _ _ C.graph_Order_c13.eq_1
def C.graph_Order_c14 : ICode := .keep [0, 5, 6, 7, 8, 9, 49] (.cond (X.s 49) C.graph_Order_c13 .skip)
def C.graph_Order_c14_w := @awpE _ _ C.graph_Order_c14.eq_1
def C.graph_Order_r11_b : List IOper := [
 X.m 46 9,
 X.m 47 0,
 X.o 48 (.len (X.s 47)),
 X.o 49 (.bin .eql (X.s 46) (X.s 48))]
def C.graph_Order_r11 : List IOper := C.graph_Order_r11_b
def C.graph_Order_r11_w := @aopsE _ _ C.graph_Order_r11.eq_1
def C.graph_Order_c15 : ICode := .keep [0, 5, 6, 7, 8, 9] (.seq (.seq (.region C.graph_Order_r11) C.graph_Order_c14) C.graph_Order_c12)
def C.graph_Order_c15_w := @awpE _ _ C.graph_Order_c15.eq_1
def C.graph_Order_r10_b : List IOper := [
 X.m 44 9,
 X.o 45 (.bin .add (X.s 44) (X.i 1)),
 X.m 9 45]
def C.graph_Order_r10 : List IOper := C.graph_Order_r10_b
def C.graph_Order_r10_w := @aopsE _ _ C.graph_Order_r10.eq_1
def C.graph_Order_b16 : ICode := .region C.graph_Order_r10
def C.graph_Order_b16_w := @awpE _ _ C.graph_Order_b16.eq_1
def C.graph_Order_c17 : ICode := .keep [0, 5, 6, 7, 8, 9] (.block 3 C.graph_Order_b16)
def C.graph_Order_c17_w := @awpE _ _ C.graph_Order_c17.eq_1
def C.graph_Order_c18 : ICode := .keep [0, 5, 6, 7, 8, 9, 43] (.cond (X.s 43) .skip (.exit 2))
def C.graph_Order_c18_w := @awpE _ _ C.graph_Order_c18.eq_1
def C.graph_Order_r9_b : List IOper := [
 X.m 28 9,
 X.m 29 0,
 X.o 30 (.len (X.s 29)),
 X.o 31 (.bin .lss (X.s 28) (X.s 30)),
 X.m 32 31,
 X.t 32 33 (.move (X.s 7)),
 X.t 32 34 (.move (X.s 9)),
 X.t 32 35 (.call F.graph_marks_has [X.s 33, X.s 34]),
 X.t 32 36 (.move (X.s 35)),
 X.f 36 37 (.move (X.s 5)),
 X.f 36 38 (.move (X.s 9)),
 X.f 36 39 (.idxAddr 1 (X.s 37) (X.s 38)),
 X.f 36 40 (.load1 (X.s 39)),
 X.f 36 41 (.bin .gtr (X.s 40) (X.i 0)),
 X.t 32 42 (.pick (X.s 36) (.cst (.bool true)) (X.s 41)),
 X.o 43 (.pick (X.s 32) (X.s 42) (.cst (.bool false)))]
def C.graph_Order_r9 : List IOper := C.graph_Order_r9_b
def C.graph_Order_r9_w := @aopsE _ _ C.graph_Order_r9.eq_1
def C.graph_Order_l19 : ICode := .keep [0, 5, 6, 7, 8, 9] (.seq (.seq (.region C.graph_Order_r9) C.graph_Order_c18) C.graph_Order_c17)
def C.graph_Order_l19_w := @awpE _ _ C.graph_Order_l19.eq_1
def C.graph_Order_b20 : ICode := .loop C.graph_Order_l19
def C.graph_Order_b20_w := @awpE _ _ C.graph_Order_b20.eq_1
def C.graph_Order_c21 : ICode := .keep [0, 5, 6, 7, 8, 9] (.seq (.block 2 C.graph_Order_b20) C.graph_Order_c15)
def C.graph_Order_c21_w := @awpE _ _ C.graph_Order_c21.eq_1
def C.graph_Order_r8_b : List IOper := [
 X.o 9 (.move (X.i 0))]
def C.graph_Order_r8 : List IOper := C.graph_Order_r8_b
def C.graph_Order_r8_w := @aopsE _ _ C.graph_Order_r8.eq_1
def C.graph_Order_b22 : ICode := .seq (.region C.graph_Order_r8) C.graph_Order_c21
def C.graph_Order_b22_w := @awpE _ _ C.graph_Order_b22.eq_1
def C.graph_Order_c23 : ICode := .keep [0, 5, 6, 7, 8] (.block 1 C.graph_Order_b22)
def C.graph_Order_c23_w := @awpE _ _ C.graph_Order_c23.eq_1
def C.graph_Order_c24 : ICode := .keep [0, 5, 6, 7, 8, 27] (.cond (X.s 27) .skip (.exit 0))
def C.graph_Order_c24_w := @awpE _ _ C.graph_Order_c24.eq_1
def C.graph_Order_r7_b : List IOper := [
 X.m 23 8,
 X.o 24 (.len (X.s 23)),
 X.m 25 0,
 X.o 26 (.len (X.s 25)),
 X.o 27 (.bin .lss (X.s 24) (X.s 26))]
def C.graph_Order_r7 : List IOper := C.graph_Order_r7_b
def C.graph_Order_r7_w := @aopsE _ _ C.graph_Order_r7.eq_1
def C.graph_Order_l25 : ICode := .keep [0, 5, 6, 7, 8] (.seq (.seq (.region C.graph_Order_r7) C.graph_Order_c24) C.graph_Order_c23)
def C.graph_Order_l25_w := @awpE _ _ C.graph_Order_l25.eq_1
def C.graph_Order_b26 : ICode := .loop C.graph_Order_l25
def C.graph_Order_b26_w := @awpE _ _ C.graph_Order_b26.eq_1
def C.graph_Order_c27 : ICode := .keep [0, 5, 6, 7, 8] (.seq (.block 0 C.graph_Order_b26) C.graph_Order_c1)
def C.graph_Order_c27_w := @awpE _ _ C.graph_Order_c27.eq_1
def C.graph_Order_r6_b : List IOper := [
 X.o 8 (.move (.cst (.nils)))]
def C.graph_Order_r6 : List IOper := C.graph_Order_r6_b
def C.graph_Order_r6_w := @aopsE _ _ C.graph_Order_r6.eq_1
def C.graph_Order_c28 : ICode := .keep [0, 5, 6, 7] (.seq (.region C.graph_Order_r6) C.graph_Order_c27)
def C.graph_Order_c28_w := @awpE _ _ C.graph_Order_c28.eq_1
def C.graph_Order_r5_b : List IOper := [
 X.o 22 (.makeMap none),
 X.m 7 22]
def C.graph_Order_r5 : List IOper := C.graph_Order_r5_b
def C.graph_Order_r5_w := @aopsE _ _ C.graph_Order_r5.eq_1
def C.graph_Order_c29 : ICode := .keep [0, 5, 6] (.seq (.region C.graph_Order_r5) C.graph_Order_c28)
def C.graph_Order_c29_w := @awpE _ _ C.graph_Order_c29.eq_1
def C.graph_Order_r4_b : List IOper := [
 X.m 18 0,
 X.o 19 (.call F.graph_hang [X.s 18]),
 X.m 17 19,
 X.o 20 (.extract (X.s 17) 0),
 X.o 21 (.extract (X.s 17) 1),
 X.m 5 20,
 X.m 6 21]
def C.graph_Order_r4 : List IOper := C.graph_Order_r4_b
def C.graph_Order_r4_w := @aopsE _ _ C.graph_Order_r4.eq_1
def C.graph_Order_c30 : ICode := .keep [0] (.seq (.region C.graph_Order_r4) C.graph_Order_c29)
def C.graph_Order_c30_w := @awpE _ _ C.graph_Order_c30.eq_1
def C.graph_Order_r3_b : List IOper := [
 X.m 16 4,
 X.o 2 (.move (.cst (.nils))),
 X.m 3 16]
def C.graph_Order_r3 : List IOper := C.graph_Order_r3_b
def C.graph_Order_r3_w := @aopsE _ _ C.graph_Order_r3.eq_1
def C.graph_Order_c31 : ICode := .seq (.region C.graph_Order_r3) .ret
def C.graph_Order_c31_w := @awpE _ _ C.graph_Order_c31.eq_1
def C.graph_Order_c32 : ICode := .keep [0, 4, 15] (.cond (X.s 15) C.graph_Order_c31 .skip)
def C.graph_Order_c32_w := @awpE _ _ C.graph_Order_c32.eq_1
def C.graph_Order_r2_b : List IOper := [
 X.m 14 4,
 X.o 15 (.bin .neq (X.s 14) (X.i 0))]
def C.graph_Order_r2 : List IOper := C.graph_Order_r2_b
def C.graph_Order_r2_w := @aopsE _ _ C.graph_Order_r2.eq_1
def C.graph_Order_c33 : ICode := .keep [0, 4] (.seq (.region C.graph_Order_r2) C.graph_Order_c32)
def C.graph_Order_c33_w := @awpE _ _ C.graph_Order_c33.eq_1
def C.graph_Order_r1_b : List IOper := [
 X.m 12 0,
 X.o 13 (.call F.graph_numbers [X.s 12]),
 X.m 4 13]
def C.graph_Order_r1 : List IOper := C.graph_Order_r1_b
def C.graph_Order_r1_w := @aopsE _ _ C.graph_Order_r1.eq_1
def C.graph_Order_c34 : ICode := .keep [0] (.seq (.seq (.region C.graph_Order_r1) C.graph_Order_c33) C.graph_Order_c30)
def C.graph_Order_c34_w := @awpE _ _ C.graph_Order_c34.eq_1
def C.graph_Order_r0_b : List IOper := [
 X.o 2 (.move (.cst (.nils))),
 X.o 3 (.move (X.i 0))]
def C.graph_Order_r0 : List IOper := C.graph_Order_r0_b
def C.graph_Order_r0_w := @aopsE _ _ C.graph_Order_r0.eq_1
def C.graph_Order : IFunc := ⟨1, [.slot 2, .slot 3], .seq (.region C.graph_Order_r0) C.graph_Order_c34⟩
def C.graph_Order_W := And.intro (And.intro (And.intro (And.intro (And.intro @C.graph_Order_r20_w (And.intro @C.graph_Order_c1_w @C.graph_Order_r19_w)) (And.intro @C.graph_Order_c2_w (And.intro @C.graph_Order_r18_w @C.graph_Order_c3_w))) (And.intro (And.intro @C.graph_Order_r17_w (And.intro @C.graph_Order_b4_w @C.graph_Order_c5_w)) (And.intro (And.intro @C.graph_Order_c6_w @C.graph_Order_r16_w) (And.intro @C.graph_Order_b8_w @C.graph_Order_c9_w)))) (And.intro (And.intro (And.intro @C.graph_Order_r15_w (And.intro @C.graph_Order_c10_w @C.graph_Order_r14_w)) (And.intro @C.graph_Order_c11_w (And.intro @C.graph_Order_r13_w @C.graph_Order_c12_w))) (And.intro (And.intro @C.graph_Order_r12_w (And.intro @C.graph_Order_c13_w @C.graph_Order_c14_w)) (And.intro (And.intro @C.graph_Order_r11_w @C.graph_Order_c15_w) (And.intro @C.graph_Order_r10_w @C.graph_Order_b16_w))))) (And.intro (And.intro (And.intro (And.intro @C.graph_Order_c17_w (And.intro @C.graph_Order_c18_w @C.graph_Order_r9_w)) (And.intro @C.graph_Order_b20_w (And.intro @C.graph_Order_c21_w @C.graph_Order_r8_w))) (And.intro (And.intro @C.graph_Order_b22_w (And.intro @C.graph_Order_c23_w @C.graph_Order_c24_w)) (And.intro (And.intro @C.graph_Order_r7_w @C.graph_Order_b26_w) (And.intro @C.graph_Order_c27_w @C.graph_Order_r6_w)))) (And.intro (And.intro (And.intro @C.graph_Order_c28_w (And.intro @C.graph_Order_r5_w @C.graph_Order_c29_w)) (And.intro @C.graph_Order_r4_w (And.intro @C.graph_Order_c30_w @C.graph_Order_r3_w))) (And.intro (And.intro @C.graph_Order_c31_w (And.intro @C.graph_Order_c32_w @C.graph_Order_r2_w)) (And.intro (And.intro @C.graph_Order_c33_w @C.graph_Order_r1_w) (And.intro @C.graph_Order_c34_w @C.graph_Order_r0_w)))))
def C.graph_Order_B := And.intro (And.intro (And.intro (And.intro @C.graph_Order_r20_b.eq_1 @C.graph_Order_r19_b.eq_1) (And.intro @C.graph_Order_r18_b.eq_1 (And.intro @C.graph_Order_r17_b.eq_1 @C.graph_Order_r16_b.eq_1))) (And.intro (And.intro @C.graph_Order_r15_b.eq_1 @C.graph_Order_r14_b.eq_1) (And.intro @C.graph_Order_r13_b.eq_1 (And.intro @C.graph_Order_r12_b.eq_1 @C.graph_Order_r11_b.eq_1)))) (And.intro (And.intro (And.intro @C.graph_Order_r10_b.eq_1 @C.graph_Order_r9_b.eq_1) (And.intro @C.graph_Order_r8_b.eq_1 (And.intro @C.graph_Order_r7_b.eq_1 @C.graph_Order_r6_b.eq_1))) (And.intro (And.intro @C.graph_Order_r5_b.eq_1 (And.intro @C.graph_Order_r4_b.eq_1 @C.graph_Order_r3_b.eq_1)) (And.intro @C.graph_Order_r2_b.eq_1 (And.intro @C.graph_Order_r1_b.eq_1 @C.graph_Order_r0_b.eq_1))))

def C.conf_Domains_r8_b : List IOper := [
 X.m 28 3,
 X.m 2 28]
def C.conf_Domains_r8 : List IOper := C.conf_Domains_r8_b
def C.conf_Domains_r8_w := @aopsE _ _ C.conf_Domains_r8.eq_1
def C.conf_Domains_c1 : ICode := .keep [3] (.seq (.region C.conf_Domains_r8) .ret)
def C.conf_Domains_c1_w := @awpE _ _ C.conf_Domains_c1.eq_1
def C.conf_Domains_r7_b : List IOper := [
 X.o 27 (.bin .add (X.s 13) (X.i 1)),
 X.m 13 27]
def C.conf_Domains_r7 : List IOper := C.conf_Domains_r7_b
def C.conf_Domains_r7_w := @aopsE _ _ C.conf_Domains_r7.eq_1
def C.conf_Domains_c2 : ICode := .keep [3, 11, 12, 13] (.region C.conf_Domains_r7)
def C.conf_Domains_c2_w := @awpE _ _ C.conf_Domains_c2.eq_1
def C.conf_Domains_r6_b : List IOper := [
 X.m 21 3,
 X.m 22 4,
 X.o 23 (.fldAddr 0 (X.s 5)),
 X.o 24 (.load1 (X.s 23)),
 X.o 25 (.buildSlice 1 1 [.int .i64 0] [(0, 1, X.s 24)]),
 X.o 26 (.idxAddr 1 (X.s 21) (X.s 22)),
 X.n (.store1 (X.s 26) (X.s 25))]
def C.conf_Domains_r6 : List IOper := C.conf_Domains_r6_b
def C.conf_Domains_r6_w := @aopsE _ _ C.conf_Domains_r6.eq_1
def C.conf_Domains_c3 : ICode := .keep [3, 4, 5, 11, 12, 13, 20] (.cond (X.s 20) (.region C.conf_Domains_r6) .skip)
def C.conf_Domains_c3_w := @awpE _ _ C.conf_Domains_c3.eq_1
def C.conf_Domains_r5_b : List IOper := [
 X.o 18 (.fldAddr 0 (X.s 5)),
 X.o 19 (.load1 (X.s 18)),
 X.o 20 (.bin .neq (X.s 19) (X.i (-1)))]
def C.conf_Domains_r5 : List IOper := C.conf_Domains_r5_b
def C.conf_Domains_r5_w := @aopsE _ _ C.conf_Domains_r5.eq_1
def C.conf_Domains_c4 : ICode := .keep [3, 4, 5, 11, 12, 13] (.seq (.region C.conf_Domains_r5) C.conf_Domains_c3)
def C.conf_Domains_c4_w := @awpE _ _ C.conf_Domains_c4.eq_1
def C.conf_Domains_r4_b : List IOper := [
 X.m 15 13,
 X.o 16 (.idxAddr 3 (X.s 11) (X.s 13)),
 X.o 17 (.loadN 3 (X.s 16)),
 X.o 5 (.alloc [.int .i64 0, .int .i64 0, .bool false]),
 X.m 4 15,
 X.n (.storeN 3 (X.s 5) (X.s 17))]
def C.conf_Domains_r4 : List IOper := C.conf_Domains_r4_b
def C.conf_Domains_r4_w := @aopsE _ _ C.conf_Domains_r4.eq_1
def C.conf_Domains_b5 : ICode := .seq (.region C.conf_Domains_r4) C.conf_Domains_c4
def C.conf_Domains_b5_w := @awpE _ _ C.conf_Domains_b5.eq_1
def C.conf_Domains_c6 : ICode := .keep [3, 11, 12, 13] (.seq (.block 1 C.conf_Domains_b5) C.conf_Domains_c2)
def C.conf_Domains_c6_w := @awpE _ _ C.conf_Domains_c6.eq_1
def C.conf_Domains_c7 : ICode := .keep [3, 11, 12, 13, 14] (.seq (.cond (X.s 14) .skip (.exit 0)) C.conf_Domains_c6)
def C.conf_Domains_c7_w := @awpE _ _ C.conf_Domains_c7.eq_1
def C.conf_Domains_r3_b : List IOper := [
 X.o 14 (.bin .lss (X.s 13) (X.s 12))]
def C.conf_Domains_r3 : List IOper := C.conf_Domains_r3_b
def C.conf_Domains_r3_w := @aopsE _ _ C.conf_Domains_r3.eq_1
def C.conf_Domains_l8 : ICode := .keep [3, 11, 12, 13] (.seq (.region C.conf_Domains_r3) C.conf_Domains_c7)
def C.conf_Domains_l8_w := @awpE _ _ C.conf_Domains_l8.eq_1
def C.conf_Domains_b9 : ICode := .loop C.conf_Domains_l8
def C.conf_Domains_b9_w := @awpE _ _ C.conf_Domains_b9.eq_1
def C.conf_Domains_c10 : ICode := .keep [3, 11, 12, 13] (.block 0 C.conf_Domains_b9)
def C.conf_Domains_c10_w := @awpE _ _ C.conf_Domains_c10.eq_1
def C.conf_Domains_r2_b : List IOper := [
 X.o 10 (.fldAddr 1 (X.s 1)),
 X.o 11 (.load1 (X.s 10)),
 X.o 12 (.len (X.s 11)),
 X.o 13 (.move (X.i 0))]
def C.conf_Domains_r2 : List IOper := C.conf_Domains_r2_b
def C.conf_Domains_r2_w := @aopsE _ _ C.conf_Domains_r2.eq_1
def C.conf_Domains_c11 : ICode := .keep [1, 3] (.seq (.seq (.region C.conf_Domains_r2) C.conf_Domains_c10) C.conf_Domains_c1)
def C.conf_Domains_c11_w := @awpE _ _ C.conf_Domains_c11.eq_1
def C.conf_Domains_r1_b : List IOper := [
 X.o 6 (.fldAddr 1 (X.s 1)),
 X.o 7 (.load1 (X.s 6)),
 X.o 8 (.len (X.s 7)),
 X.o 9 (.makeSlice 1 24 [.nils] (X.s 8) (X.s 8)),
 X.m 3 9]
def C.conf_Domains_r1 : List IOper := C.conf_Domains_r1_b
def C.conf_Domains_r1_w := @aopsE _ _ C.conf_Domains_r1.eq_1
def C.conf_Domains_c12 : ICode := .keep [1] (.seq (.region C.conf_Domains_r1) C.conf_Domains_c11)
def C.conf_Domains_c12_w := @awpE _ _ C.conf_Domains_c12.eq_1
def C.conf_Domains_r0_b : List IOper := [
 X.o 1 (.boxN (X.s 0)),
 X.o 2 (.move (.cst (.nils)))]
def C.conf_Domains_r0 : List IOper := C.conf_Domains_r0_b
def C.conf_Domains_r0_w := @aopsE _ _ C.conf_Domains_r0.eq_1
def C.conf_Domains : IFunc := ⟨1, [.slot 2], .seq (.region C.conf_Domains_r0) C.conf_Domains_c12⟩
def C.conf_Domains_W := And.intro (And.intro (And.intro (And.intro @C.conf_Domains_r8_w @C.conf_Domains_c1_w) (And.intro @C.conf_Domains_r7_w (And.intro @C.conf_Domains_c2_w @C.conf_Domains_r6_w))) (And.intro (And.intro @C.conf_Domains_c3_w @C.conf_Domains_r5_w) (And.intro @C.conf_Domains_c4_w (And.intro @C.conf_Domains_r4_w @C.conf_Domains_b5_w)))) (And.intro (And.intro (And.intro @C.conf_Domains_c6_w @C.conf_Domains_c7_w) (And.intro @C.conf_Domains_r3_w (And.intro @C.conf_Domains_b9_w @C.conf_Domains_c10_w))) (And.intro (And.intro @C.conf_Domains_r2_w @C.conf_Domains_c11_w) (And.intro @C.conf_Domains_r1_w (And.intro @C.conf_Domains_c12_w @C.conf_Domains_r0_w))))
def C.conf_Domains_B := And.intro (And.intro (And.intro @C.conf_Domains_r8_b.eq_1 @C.conf_Domains_r7_b.eq_1) (And.intro @C.conf_Domains_r6_b.eq_1 @C.conf_Domains_r5_b.eq_1)) (And.intro (And.intro @C.conf_Domains_r4_b.eq_1 @C.conf_Domains_r3_b.eq_1) (And.intro @C.conf_Domains_r2_b.eq_1 (And.intro @C.conf_Domains_r1_b.eq_1 @C.conf_Domains_r0_b.eq_1)))

def C.power_Grid_Chain_r8_b : List IOper := [
 X.m 27 5,
 X.m 4 27]
def C.power_Grid_Chain_r8 : List IOper := C.power_Grid_Chain_r8_b
def C.power_Grid_Chain_r8_w := @aopsE _ _ C.power_Grid_Chain_r8.eq_1
def C.power_Grid_Chain_c1 : ICode := .keep [5] (.seq (.region C.power_Grid_Chain_r8) .ret)
def C.power_Grid_Chain_c1_w := @awpE _ _ C.power_Grid_Chain_c1.eq_1
def C.power_Grid_Chain_r7_b : List IOper := [
 X.m 25 5,
 X.o 26 (.call F.slices_Reverse_int_int [X.s 25])]
def C.power_Grid_Chain_r7 : List IOper := C.power_Grid_Chain_r7_b
def C.power_Grid_Chain_r7_w := @aopsE _ _ C.power_Grid_Chain_r7.eq_1
def C.power_Grid_Chain_c2 : ICode := .keep [5] (.seq (.region C.power_Grid_Chain_r7) C.power_Grid_Chain_c1)
def C.power_Grid_Chain_c2_w := @awpE _ _ C.power_Grid_Chain_c2.eq_1
def C.power_Grid_Chain_r5_b : List IOper := [
 X.m 12 0,
 X.o 13 (.nilchk (X.s 12)),
 X.o 14 (.fldAddr 0 (X.s 13)),
 X.o 15 (.load1 (X.s 14)),
 X.m 16 1,
 X.o 17 (.idxAddr 7 (X.s 15) (X.s 16)),
 X.o 18 (.fldAddr 0 (X.s 17)),
 X.o 19 (.fldAddr 0 (X.s 18)),
 X.o 20 (.load1 (X.s 19)),
 X.m 1 20]
def C.power_Grid_Chain_r5 : List IOper := C.power_Grid_Chain_r5_b
def C.power_Grid_Chain_r5_w := @aopsE _ _ C.power_Grid_Chain_r5.eq_1
def C.power_Grid_Chain_c3 : ICode := .keep [0, 1, 5] (.region C.power_Grid_Chain_r5)
def C.power_Grid_Chain_c3_w := @awpE _ _ C.power_Grid_Chain_c3.eq_1
def C.power_Grid_Chain_r6_b : List IOper := [
 X.m 21 5,
 X.m 22 1,
 X.o 23 (.buildSlice 1 1 [.int .i64 0] [(0, 1, X.s 22)]),
 X.o 24 (.append 1 8 (X.s 21) (X.s 23)),
 X.m 5 24]
def C.power_Grid_Chain_r6 : List IOper := C.power_Grid_Chain_r6_b
def C.power_Grid_Chain_r6_w := @aopsE _ _ C.power_Grid_Chain_r6.eq_1
def C.power_Grid_Chain_b4 : ICode := .region C.power_Grid_Chain_r6
def C.power_Grid_Chain_b4_w := @awpE _ _ C.power_Grid_Chain_b4.eq_1
def C.power_Grid_Chain_c5 : ICode := .keep [0, 1, 5] (.seq (.block 1 C.power_Grid_Chain_b4) C.power_Grid_Chain_c3)
def C.power_Grid_Chain_c5_w := @awpE _ _ C.power_Grid_Chain_c5.eq_1
def C.power_Grid_Chain_c6 : ICode := .keep [0, 1, 5, 11] (.cond (X.s 11) .skip (.exit 0))
def C.power_Grid_Chain_c6_w := @awpE _ _ C.power_Grid_Chain_c6.eq_1
def C.power_Grid_Chain_r4_b : List IOper := [
 X.m 10 1,
 X.o 11 (.bin .neq (X.s 10) (X.i (-1)))]
def C.power_Grid_Chain_r4 : List IOper := C.power_Grid_Chain_r4_b
def C.power_Grid_Chain_r4_w := @aopsE _ _ C.power_Grid_Chain_r4.eq_1
def C.power_Grid_Chain_l7 : ICode := .keep [0, 1, 5] (.seq (.seq (.region C.power_Grid_Chain_r4) C.power_Grid_Chain_c6) C.power_Grid_Chain_c5)
def C.power_Grid_Chain_l7_w := @awpE _ _ C.power_Grid_Chain_l7.eq_1
def C.power_Grid_Chain_b8 : ICode := .loop C.power_Grid_Chain_l7
def C.power_Grid_Chain_b8_w := @awpE _ _ C.power_Grid_Chain_b8.eq_1
def C.power_Grid_Chain_c9 : ICode := .keep [0, 1, 5] (.seq (.block 0 C.power_Grid_Chain_b8) C.power_Grid_Chain_c2)
def C.power_Grid_Chain_c9_w := @awpE _ _ C.power_Grid_Chain_c9.eq_1
def C.power_Grid_Chain_r3_b : List IOper := [
 X.o 5 (.move (.cst (.nils)))]
def C.power_Grid_Chain_r3 : List IOper := C.power_Grid_Chain_r3_b
def C.power_Grid_Chain_r3_w := @aopsE _ _ C.power_Grid_Chain_r3.eq_1
def C.power_Grid_Chain_c10 : ICode := .keep [0, 1] (.seq (.region C.power_Grid_Chain_r3) C.power_Grid_Chain_c9)
def C.power_Grid_Chain_c10_w := @awpE _ _ C.power_Grid_Chain_c10.eq_1
def C.power_Grid_Chain_r2_b : List IOper := [
 X.o 4 (.move (.cst (.nils)))]
def C.power_Grid_Chain_r2 : List IOper := C.power_Grid_Chain_r2_b
def C.power_Grid_Chain_r2_w := @aopsE _ _ C.power_Grid_Chain_r2.eq_1
def C.power_Grid_Chain_c11 : ICode := .seq (.region C.power_Grid_Chain_r2) .ret
def C.power_Grid_Chain_c11_w := @awpE _ _ C.power_Grid_Chain_c11.eq_1
def C.power_Grid_Chain_c12 : ICode := .keep [0, 1, 9] (.cond (X.s 9) C.power_Grid_Chain_c11 .skip)
def C.power_Grid_Chain_c12_w := @awpE _ _ C.power_Grid_Chain_c12.eq_1
def C.power_Grid_Chain_r1_b : List IOper := [
 X.m 6 0,
 X.m 7 1,
 X.o 8 (.call F.power_Grid_at [X.s 6, X.s 7]),
 X.o 9 (.eqP 0 false (X.s 8) (.cst (.nilp)))]
def C.power_Grid_Chain_r1 : List IOper := C.power_Grid_Chain_r1_b
def C.power_Grid_Chain_r1_w := @aopsE _ _ C.power_Grid_Chain_r1.eq_1
def C.power_Grid_Chain_c13 : ICode := .keep [0, 1] (.seq (.seq (.region C.power_Grid_Chain_r1) C.power_Grid_Chain_c12) C.power_Grid_Chain_c10)
def C.power_Grid_Chain_c13_w := @awpE _ _ C.power_Grid_Chain_c13.eq_1
def C.power_Grid_Chain_r0_b : List IOper := [
 X.o 4 (.move (.cst (.nils)))]
def C.power_Grid_Chain_r0 : List IOper := C.power_Grid_Chain_r0_b
def C.power_Grid_Chain_r0_w := @aopsE _ _ C.power_Grid_Chain_r0.eq_1
def C.power_Grid_Chain : IFunc := ⟨2, [.slot 4], .seq (.region C.power_Grid_Chain_r0) C.power_Grid_Chain_c13⟩
def C.power_Grid_Chain_W := And.intro (And.intro (And.intro (And.intro @C.power_Grid_Chain_r8_w @C.power_Grid_Chain_c1_w) (And.intro @C.power_Grid_Chain_r7_w (And.intro @C.power_Grid_Chain_c2_w @C.power_Grid_Chain_r5_w))) (And.intro (And.intro @C.power_Grid_Chain_c3_w @C.power_Grid_Chain_r6_w) (And.intro @C.power_Grid_Chain_b4_w (And.intro @C.power_Grid_Chain_c5_w @C.power_Grid_Chain_c6_w)))) (And.intro (And.intro (And.intro @C.power_Grid_Chain_r4_w @C.power_Grid_Chain_b8_w) (And.intro @C.power_Grid_Chain_c9_w (And.intro @C.power_Grid_Chain_r3_w @C.power_Grid_Chain_c10_w))) (And.intro (And.intro @C.power_Grid_Chain_r2_w (And.intro @C.power_Grid_Chain_c11_w @C.power_Grid_Chain_c12_w)) (And.intro @C.power_Grid_Chain_r1_w (And.intro @C.power_Grid_Chain_c13_w @C.power_Grid_Chain_r0_w))))
def C.power_Grid_Chain_B := And.intro (And.intro (And.intro @C.power_Grid_Chain_r8_b.eq_1 @C.power_Grid_Chain_r7_b.eq_1) (And.intro @C.power_Grid_Chain_r5_b.eq_1 @C.power_Grid_Chain_r6_b.eq_1)) (And.intro (And.intro @C.power_Grid_Chain_r4_b.eq_1 @C.power_Grid_Chain_r3_b.eq_1) (And.intro @C.power_Grid_Chain_r2_b.eq_1 (And.intro @C.power_Grid_Chain_r1_b.eq_1 @C.power_Grid_Chain_r0_b.eq_1)))

def C.power_Grid_Left_r4_b : List IOper := [
 X.m 18 5,
 X.o 19 (.nilchk (X.s 18)),
 X.o 20 (.fldAddr 4 (X.s 19)),
 X.o 21 (.load1 (X.s 20)),
 X.m 4 21]
def C.power_Grid_Left_r4 : List IOper := C.power_Grid_Left_r4_b
def C.power_Grid_Left_r4_w := @aopsE _ _ C.power_Grid_Left_r4.eq_1
def C.power_Grid_Left_c1 : ICode := .keep [5] (.seq (.region C.power_Grid_Left_r4) .ret)
def C.power_Grid_Left_c1_w := @awpE _ _ C.power_Grid_Left_c1.eq_1
def C.power_Grid_Left_r3_b : List IOper := [
 X.o 4 (.move (X.i 0))]
def C.power_Grid_Left_r3 : List IOper := C.power_Grid_Left_r3_b
def C.power_Grid_Left_r3_w := @aopsE _ _ C.power_Grid_Left_r3.eq_1
def C.power_Grid_Left_c2 : ICode := .seq (.region C.power_Grid_Left_r3) .ret
def C.power_Grid_Left_c2_w := @awpE _ _ C.power_Grid_Left_c2.eq_1
def C.power_Grid_Left_c3 : ICode := .keep [5, 17] (.cond (X.s 17) C.power_Grid_Left_c2 .skip)
def C.power_Grid_Left_c3_w := @awpE _ _ C.power_Grid_Left_c3.eq_1
def C.power_Grid_Left_r2_b : List IOper := [
 X.m 9 5,
 X.o 10 (.eqP 0 false (X.s 9) (.cst (.nilp))),
 X.m 11 10,
 X.f 11 12 (.move (X.s 5)),
 X.f 11 13 (.nilchk (X.s 12)),
 X.f 11 14 (.fldAddr 3 (X.s 13)),
 X.f 11 15 (.load1 (X.s 14)),
 X.f 11 16 (.bin .neq (X.s 15) (.cst (.int .u8 114))),
 X.o 17 (.pick (X.s 11) (.cst (.bool true)) (X.s 16))]
def C.power_Grid_Left_r2 : List IOper := C.power_Grid_Left_r2_b
def C.power_Grid_Left_r2_w := @aopsE _ _ C.power_Grid_Left_r2.eq_1
def C.power_Grid_Left_c4 : ICode := .keep [5] (.seq (.seq (.region C.power_Grid_Left_r2) C.power_Grid_Left_c3) C.power_Grid_Left_c1)
def C.power_Grid_Left_c4_w := @awpE _ _ C.power_Grid_Left_c4.eq_1
def C.power_Grid_Left_r1_b : List IOper := [
 X.m 6 0,
 X.m 7 1,
 X.o 8 (.call F.power_Grid_at [X.s 6, X.s 7]),
 X.m 5 8]
def C.power_Grid_Left_r1 : List IOper := C.power_Grid_Left_r1_b
def C.power_Grid_Left_r1_w := @aopsE _ _ C.power_Grid_Left_r1.eq_1
def C.power_Grid_Left_c5 : ICode := .keep [0, 1] (.seq (.region C.power_Grid_Left_r1) C.power_Grid_Left_c4)
def C.power_Grid_Left_c5_w := @awpE _ _ C.power_Grid_Left_c5.eq_1
def C.power_Grid_Left_r0_b : List IOper := [
 X.o 4 (.move (X.i 0))]
def C.power_Grid_Left_r0 : List IOper := C.power_Grid_Left_r0_b
def C.power_Grid_Left_r0_w := @aopsE _ _ C.power_Grid_Left_r0.eq_1
def C.power_Grid_Left : IFunc := ⟨2, [.slot 4], .seq (.region C.power_Grid_Left_r0) C.power_Grid_Left_c5⟩
def C.power_Grid_Left_W := And.intro (And.intro (And.intro @C.power_Grid_Left_r4_w @C.power_Grid_Left_c1_w) (And.intro @C.power_Grid_Left_r3_w (And.intro @C.power_Grid_Left_c2_w @C.power_Grid_Left_c3_w))) (And.intro (And.intro @C.power_Grid_Left_r2_w @C.power_Grid_Left_c4_w) (And.intro @C.power_Grid_Left_r1_w (And.intro @C.power_Grid_Left_c5_w @C.power_Grid_Left_r0_w)))
def C.power_Grid_Left_B := And.intro (And.intro @C.power_Grid_Left_r4_b.eq_1 @C.power_Grid_Left_r3_b.eq_1) (And.intro @C.power_Grid_Left_r2_b.eq_1 (And.intro @C.power_Grid_Left_r1_b.eq_1 @C.power_Grid_Left_r0_b.eq_1))

def C.catnaplaw7_same_r8_b : List IOper := [
 X.o 4 (.move (.cst (.bool true)))]
def C.catnaplaw7_same_r8 : List IOper := C.catnaplaw7_same_r8_b
def C.catnaplaw7_same_r8_w := @aopsE _ _ C.catnaplaw7_same_r8.eq_1
def C.catnaplaw7_same_c1 : ICode := .keep [] (.seq (.region C.catnaplaw7_same_r8) .ret)
def C.catnaplaw7_same_c1_w := @awpE _ _ C.catnaplaw7_same_c1.eq_1
def C.catnaplaw7_same_r5_b : List IOper := [
 X.m 15 5,
 X.o 16 (.bin .add (X.s 15) (X.i 1)),
 X.m 5 16]
def C.catnaplaw7_same_r5 : List IOper := C.catnaplaw7_same_r5_b
def C.catnaplaw7_same_r5_w := @aopsE _ _ C.catnaplaw7_same_r5.eq_1
def C.catnaplaw7_same_c2 : ICode := .keep [0, 1, 5] (.region C.catnaplaw7_same_r5)
def C.catnaplaw7_same_c2_w := @awpE _ _ C.catnaplaw7_same_c2.eq_1
def C.catnaplaw7_same_r7_b : List IOper := [
 X.o 4 (.move (.cst (.bool false)))]
def C.catnaplaw7_same_r7 : List IOper := C.catnaplaw7_same_r7_b
def C.catnaplaw7_same_r7_w := @aopsE _ _ C.catnaplaw7_same_r7.eq_1
def C.catnaplaw7_same_c3 : ICode := .seq (.region C.catnaplaw7_same_r7) .ret
def C.catnaplaw7_same_c3_w := @awpE _ _ C.catnaplaw7_same_c3.eq_1
def C.catnaplaw7_same_c4 : ICode := .keep [0, 1, 5, 25] (.cond (X.s 25) C.catnaplaw7_same_c3 .skip)
def C.catnaplaw7_same_c4_w := @awpE _ _ C.catnaplaw7_same_c4.eq_1
def C.catnaplaw7_same_r6_b : List IOper := [
 X.m 17 0,
 X.m 18 5,
 X.o 19 (.idxAddr 1 (X.s 17) (X.s 18)),
 X.o 20 (.load1 (X.s 19)),
 X.m 21 1,
 X.m 22 5,
 X.o 23 (.idxAddr 1 (X.s 21) (X.s 22)),
 X.o 24 (.load1 (X.s 23)),
 X.o 25 (.bin .neq (X.s 20) (X.s 24))]
def C.catnaplaw7_same_r6 : List IOper := C.catnaplaw7_same_r6_b
def C.catnaplaw7_same_r6_w := @aopsE _ _ C.catnaplaw7_same_r6.eq_1
def C.catnaplaw7_same_b5 : ICode := .seq (.region C.catnaplaw7_same_r6) C.catnaplaw7_same_c4
def C.catnaplaw7_same_b5_w := @awpE _ _ C.catnaplaw7_same_b5.eq_1
def C.catnaplaw7_same_c6 : ICode := .keep [0, 1, 5] (.seq (.block 1 C.catnaplaw7_same_b5) C.catnaplaw7_same_c2)
def C.catnaplaw7_same_c6_w := @awpE _ _ C.catnaplaw7_same_c6.eq_1
def C.catnaplaw7_same_c7 : ICode := .keep [0, 1, 5, 14] (.cond (X.s 14) .skip (.exit 0))
def C.catnaplaw7_same_c7_w := @awpE _ _ C.catnaplaw7_same_c7.eq_1
def C.catnaplaw7_same_r4_b : List IOper := [
 X.m 11 5,
 X.m 12 0,
 X.o 13 (.len (X.s 12)),
 X.o 14 (.bin .lss (X.s 11) (X.s 13))]
def C.catnaplaw7_same_r4 : List IOper := C.catnaplaw7_same_r4_b
def C.catnaplaw7_same_r4_w := @aopsE _ _ C.catnaplaw7_same_r4.eq_1
def C.catnaplaw7_same_l8 : ICode := .keep [0, 1, 5] (.seq (.seq (.region C.catnaplaw7_same_r4) C.catnaplaw7_same_c7) C.catnaplaw7_same_c6)
def C.catnaplaw7_same_l8_w := @awpE _ _ C.catnaplaw7_same_l8.eq_1
def C.catnaplaw7_same_b9 : ICode := .loop C.catnaplaw7_same_l8
def C.catnaplaw7_same_b9_w := @awpE _ _ C.catnaplaw7_same_b9.eq_1
def C.catnaplaw7_same_c10 : ICode := .keep [0, 1, 5] (.block 0 C.catnaplaw7_same_b9)
def C.catnaplaw7_same_c10_w := @awpE _ _ C.catnaplaw7_same_c10.eq_1
def C.catnaplaw7_same_r3_b : List IOper := [
 X.o 5 (.move (X.i 0))]
def C.catnaplaw7_same_r3 : List IOper := C.catnaplaw7_same_r3_b
def C.catnaplaw7_same_r3_w := @aopsE _ _ C.catnaplaw7_same_r3.eq_1
def C.catnaplaw7_same_c11 : ICode := .keep [0, 1] (.seq (.seq (.region C.catnaplaw7_same_r3) C.catnaplaw7_same_c10) C.catnaplaw7_same_c1)
def C.catnaplaw7_same_c11_w := @awpE _ _ C.catnaplaw7_same_c11.eq_1
def C.catnaplaw7_same_r2_b : List IOper := [
 X.o 4 (.move (.cst (.bool false)))]
def C.catnaplaw7_same_r2 : List IOper := C.catnaplaw7_same_r2_b
def C.catnaplaw7_same_r2_w := @aopsE _ _ C.catnaplaw7_same_r2.eq_1
def C.catnaplaw7_same_c12 : ICode := .seq (.region C.catnaplaw7_same_r2) .ret
def C.catnaplaw7_same_c12_w := @awpE _ _ C.catnaplaw7_same_c12.eq_1
def C.catnaplaw7_same_c13 : ICode := .keep [0, 1, 10] (.cond (X.s 10) C.catnaplaw7_same_c12 .skip)
def C.catnaplaw7_same_c13_w := @awpE _ _ C.catnaplaw7_same_c13.eq_1
def C.catnaplaw7_same_r1_b : List IOper := [
 X.m 6 0,
 X.o 7 (.len (X.s 6)),
 X.m 8 1,
 X.o 9 (.len (X.s 8)),
 X.o 10 (.bin .neq (X.s 7) (X.s 9))]
def C.catnaplaw7_same_r1 : List IOper := C.catnaplaw7_same_r1_b
def C.catnaplaw7_same_r1_w := @aopsE _ _ C.catnaplaw7_same_r1.eq_1
def C.catnaplaw7_same_c14 : ICode := .keep [0, 1] (.seq (.seq (.region C.catnaplaw7_same_r1) C.catnaplaw7_same_c13) C.catnaplaw7_same_c11)
def C.catnaplaw7_same_c14_w := @awpE _ _ C.catnaplaw7_same_c14.eq_1
def C.catnaplaw7_same_r0_b : List IOper := [
 X.o 4 (.move (.cst (.bool false)))]
def C.catnaplaw7_same_r0 : List IOper := C.catnaplaw7_same_r0_b
def C.catnaplaw7_same_r0_w := @aopsE _ _ C.catnaplaw7_same_r0.eq_1
def C.catnaplaw7_same : IFunc := ⟨2, [.slot 4], .seq (.region C.catnaplaw7_same_r0) C.catnaplaw7_same_c14⟩
def C.catnaplaw7_same_W := And.intro (And.intro (And.intro (And.intro @C.catnaplaw7_same_r8_w @C.catnaplaw7_same_c1_w) (And.intro @C.catnaplaw7_same_r5_w (And.intro @C.catnaplaw7_same_c2_w @C.catnaplaw7_same_r7_w))) (And.intro (And.intro @C.catnaplaw7_same_c3_w (And.intro @C.catnaplaw7_same_c4_w @C.catnaplaw7_same_r6_w)) (And.intro @C.catnaplaw7_same_b5_w (And.intro @C.catnaplaw7_same_c6_w @C.catnaplaw7_same_c7_w)))) (And.intro (And.intro (And.intro @C.catnaplaw7_same_r4_w @C.catnaplaw7_same_b9_w) (And.intro @C.catnaplaw7_same_c10_w (And.intro @C.catnaplaw7_same_r3_w @C.catnaplaw7_same_c11_w))) (And.intro (And.intro @C.catnaplaw7_same_r2_w (And.intro @C.catnaplaw7_same_c12_w @C.catnaplaw7_same_c13_w)) (And.intro @C.catnaplaw7_same_r1_w (And.intro @C.catnaplaw7_same_c14_w @C.catnaplaw7_same_r0_w))))
def C.catnaplaw7_same_B := And.intro (And.intro (And.intro @C.catnaplaw7_same_r8_b.eq_1 @C.catnaplaw7_same_r5_b.eq_1) (And.intro @C.catnaplaw7_same_r7_b.eq_1 @C.catnaplaw7_same_r6_b.eq_1)) (And.intro (And.intro @C.catnaplaw7_same_r4_b.eq_1 @C.catnaplaw7_same_r3_b.eq_1) (And.intro @C.catnaplaw7_same_r2_b.eq_1 (And.intro @C.catnaplaw7_same_r1_b.eq_1 @C.catnaplaw7_same_r0_b.eq_1)))

def C.catnaplaw7_risen_r9_b : List IOper := [
 X.m 45 10,
 X.o 46 (.len (X.s 45)),
 X.o 47 (.bin .eql (X.s 46) (X.i 1)),
 X.m 48 47,
 X.t 48 49 (.move (X.s 10)),
 X.t 48 50 (.idxAddr 2 (X.s 49) (X.i 0)),
 X.t 48 51 (.loadN 2 (X.s 50)),
 X.t 48 52 (.move (X.s 3)),
 X.t 48 53 (.move (X.s 1)),
 X.t 48 54 (.build [.int .u8 0, .int .i64 0] [(0, 1, X.s 52), (1, 1, X.s 53)]),
 X.t 48 55 (.eqS [true, true] false (X.s 51) (X.s 54)),
 X.o 56 (.pick (X.s 48) (X.s 55) (.cst (.bool false))),
 X.m 57 56,
 X.t 57 58 (.move (X.s 11)),
 X.o 59 (.pick (X.s 57) (X.s 58) (.cst (.bool false))),
 X.m 60 59,
 X.t 60 61 (.move (X.s 12)),
 X.t 60 62 (.len (X.s 61)),
 X.t 60 63 (.bin .eql (X.s 62) (X.i 1)),
 X.o 64 (.pick (X.s 60) (X.s 63) (.cst (.bool false))),
 X.m 65 64,
 X.t 65 66 (.move (X.s 12)),
 X.t 65 67 (.idxAddr 2 (X.s 66) (X.i 0)),
 X.t 65 68 (.loadN 2 (X.s 67)),
 X.t 65 69 (.move (X.s 1)),
 X.t 65 70 (.build [.int .u8 0, .int .i64 0] [(0, 1, .cst (.int .u8 111)), (1, 1, X.s 69)]),
 X.t 65 71 (.eqS [true, true] false (X.s 68) (X.s 70)),
 X.o 72 (.pick (X.s 65) (X.s 71) (.cst (.bool false))),
 X.m 73 72,
 X.t 73 74 (.move (X.s 0)),
 X.t 73 75 (.move (X.s 1)),
 X.t 73 76 (.call F.power_Grid_Phase [X.s 74, X.s 75]),
 X.t 73 77 (.bin .eql (X.s 76) (.cst (.int .u8 49))),
 X.o 78 (.pick (X.s 73) (X.s 77) (.cst (.bool false))),
 X.m 79 78,
 X.t 79 80 (.move (X.s 0)),
 X.t 79 81 (.call F.power_Grid_Tick [X.s 80]),
 X.t 79 82 (.len (X.s 81)),
 X.t 79 83 (.bin .eql (X.s 82) (X.i 0)),
 X.o 84 (.pick (X.s 79) (X.s 83) (.cst (.bool false))),
 X.m 8 84]
def C.catnaplaw7_risen_r9 : List IOper := C.catnaplaw7_risen_r9_b
def C.catnaplaw7_risen_r9_w := @aopsE _ _ C.catnaplaw7_risen_r9.eq_1
def C.catnaplaw7_risen_c1 : ICode := .keep [0, 1, 3, 10, 11, 12] (.seq (.region C.catnaplaw7_risen_r9) .ret)
def C.catnaplaw7_risen_c1_w := @awpE _ _ C.catnaplaw7_risen_c1.eq_1
def C.catnaplaw7_risen_r8_b : List IOper := [
 X.m 43 0,
 X.o 44 (.call F.power_Grid_Tick [X.s 43]),
 X.m 12 44]
def C.catnaplaw7_risen_r8 : List IOper := C.catnaplaw7_risen_r8_b
def C.catnaplaw7_risen_r8_w := @aopsE _ _ C.catnaplaw7_risen_r8.eq_1
def C.catnaplaw7_risen_c2 : ICode := .keep [0, 1, 3, 10, 11] (.seq (.region C.catnaplaw7_risen_r8) C.catnaplaw7_risen_c1)
def C.catnaplaw7_risen_c2_w := @awpE _ _ C.catnaplaw7_risen_c2.eq_1
def C.catnaplaw7_risen_r7_b : List IOper := [
 X.m 39 0,
 X.m 40 1,
 X.o 41 (.call F.power_Grid_Phase [X.s 39, X.s 40]),
 X.o 42 (.bin .eql (X.s 41) (.cst (.int .u8 104))),
 X.m 11 42]
def C.catnaplaw7_risen_r7 : List IOper := C.catnaplaw7_risen_r7_b
def C.catnaplaw7_risen_r7_w := @aopsE _ _ C.catnaplaw7_risen_r7.eq_1
def C.catnaplaw7_risen_c3 : ICode := .keep [0, 1, 3, 10] (.seq (.region C.catnaplaw7_risen_r7) C.catnaplaw7_risen_c2)
def C.catnaplaw7_risen_c3_w := @awpE _ _ C.catnaplaw7_risen_c3.eq_1
def C.catnaplaw7_risen_r6_b : List IOper := [
 X.m 37 0,
 X.o 38 (.call F.power_Grid_Tick [X.s 37]),
 X.m 10 38]
def C.catnaplaw7_risen_r6 : List IOper := C.catnaplaw7_risen_r6_b
def C.catnaplaw7_risen_r6_w := @aopsE _ _ C.catnaplaw7_risen_r6.eq_1
def C.catnaplaw7_risen_c4 : ICode := .keep [0, 1, 3] (.seq (.region C.catnaplaw7_risen_r6) C.catnaplaw7_risen_c3)
def C.catnaplaw7_risen_c4_w := @awpE _ _ C.catnaplaw7_risen_c4.eq_1
def C.catnaplaw7_risen_r3_b : List IOper := [
 X.m 16 9,
 X.o 17 (.bin .add (X.s 16) (X.i 1)),
 X.m 9 17]
def C.catnaplaw7_risen_r3 : List IOper := C.catnaplaw7_risen_r3_b
def C.catnaplaw7_risen_r3_w := @aopsE _ _ C.catnaplaw7_risen_r3.eq_1
def C.catnaplaw7_risen_c5 : ICode := .keep [0, 1, 2, 3, 9] (.region C.catnaplaw7_risen_r3)
def C.catnaplaw7_risen_c5_w := @awpE _ _ C.catnaplaw7_risen_c5.eq_1
def C.catnaplaw7_risen_r5_b : List IOper := [
 X.o 8 (.move (.cst (.bool false)))]
def C.catnaplaw7_risen_r5 : List IOper := C.catnaplaw7_risen_r5_b
def C.catnaplaw7_risen_r5_w := @aopsE _ _ C.catnaplaw7_risen_r5.eq_1
def C.catnaplaw7_risen_c6 : ICode := .seq (.region C.catnaplaw7_risen_r5) .ret
def C.catnaplaw7_risen_c6_w := @awpE _ _ C.catnaplaw7_risen_c6.eq_1
def C.catnaplaw7_risen_c7 : ICode := .keep [0, 1, 2, 3, 9, 36] (.cond (X.s 36) C.catnaplaw7_risen_c6 .skip)
def C.catnaplaw7_risen_c7_w := @awpE _ _ C.catnaplaw7_risen_c7.eq_1
def C.catnaplaw7_risen_r4_b : List IOper := [
 X.m 18 0,
 X.m 19 1,
 X.o 20 (.call F.power_Grid_Left [X.s 18, X.s 19]),
 X.m 21 2,
 X.m 22 9,
 X.o 23 (.bin .sub (X.s 21) (X.s 22)),
 X.o 24 (.bin .neq (X.s 20) (X.s 23)),
 X.m 25 24,
 X.f 25 26 (.move (X.s 0)),
 X.f 25 27 (.call F.power_Grid_Tick [X.s 26]),
 X.f 25 28 (.len (X.s 27)),
 X.f 25 29 (.bin .neq (X.s 28) (X.i 0)),
 X.o 30 (.pick (X.s 25) (.cst (.bool true)) (X.s 29)),
 X.m 31 30,
 X.f 31 32 (.move (X.s 0)),
 X.f 31 33 (.move (X.s 1)),
 X.f 31 34 (.call F.power_Grid_Phase [X.s 32, X.s 33]),
 X.f 31 35 (.bin .neq (X.s 34) (.cst (.int .u8 114))),
 X.o 36 (.pick (X.s 31) (.cst (.bool true)) (X.s 35))]
def C.catnaplaw7_risen_r4 : List IOper := C.catnaplaw7_risen_r4_b
def C.catnaplaw7_risen_r4_w := @aopsE _ _ C.catnaplaw7_risen_r4.eq_1
def C.catnaplaw7_risen_b8 : ICode := .seq (.region C.catnaplaw7_risen_r4) C.catnaplaw7_risen_c7
def C.catnaplaw7_risen_b8_w := @awpE _ _ C.catnaplaw7_risen_b8.eq_1
def C.catnaplaw7_risen_c9 : ICode := .keep [0, 1, 2, 3, 9] (.seq (.block 1 C.catnaplaw7_risen_b8) C.catnaplaw7_risen_c5)
def C.catnaplaw7_risen_c9_w := @awpE _ _ C.catnaplaw7_risen_c9.eq_1
def C.catnaplaw7_risen_c10 : ICode := .keep [0, 1, 2, 3, 9, 15] (.cond (X.s 15) .skip (.exit 0))
def C.catnaplaw7_risen_c10_w := @awpE _ _ C.catnaplaw7_risen_c10.eq_1
def C.catnaplaw7_risen_r2_b : List IOper := [
 X.m 13 9,
 X.m 14 2,
 X.o 15 (.bin .lss (X.s 13) (X.s 14))]
def C.catnaplaw7_risen_r2 : List IOper := C.catnaplaw7_risen_r2_b
def C.catnaplaw7_risen_r2_w := @aopsE _ _ C.catnaplaw7_risen_r2.eq_1
def C.catnaplaw7_risen_l11 : ICode := .keep [0, 1, 2, 3, 9] (.seq (.seq (.region C.catnaplaw7_risen_r2) C.catnaplaw7_risen_c10) C.catnaplaw7_risen_c9)
def C.catnaplaw7_risen_l11_w := @awpE _ _ C.catnaplaw7_risen_l11.eq_1
def C.catnaplaw7_risen_b12 : ICode := .loop C.catnaplaw7_risen_l11
def C.catnaplaw7_risen_b12_w := @awpE _ _ C.catnaplaw7_risen_b12.eq_1
def C.catnaplaw7_risen_c13 : ICode := .keep [0, 1, 2, 3, 9] (.block 0 C.catnaplaw7_risen_b12)
def C.catnaplaw7_risen_c13_w := @awpE _ _ C.catnaplaw7_risen_c13.eq_1
def C.catnaplaw7_risen_r1_b : List IOper := [
 X.o 9 (.move (X.i 0))]
def C.catnaplaw7_risen_r1 : List IOper := C.catnaplaw7_risen_r1_b
def C.catnaplaw7_risen_r1_w := @aopsE _ _ C.catnaplaw7_risen_r1.eq_1
def C.catnaplaw7_risen_c14 : ICode := .keep [0, 1, 2, 3] (.seq (.seq (.region C.catnaplaw7_risen_r1) C.catnaplaw7_risen_c13) C.catnaplaw7_risen_c4)
def C.catnaplaw7_risen_c14_w := @awpE _ _ C.catnaplaw7_risen_c14.eq_1
def C.catnaplaw7_risen_r0_b : List IOper := [
 X.o 8 (.move (.cst (.bool false)))]
def C.catnaplaw7_risen_r0 : List IOper := C.catnaplaw7_risen_r0_b
def C.catnaplaw7_risen_r0_w := @aopsE _ _ C.catnaplaw7_risen_r0.eq_1
def C.catnaplaw7_risen : IFunc := ⟨4, [.slot 8], .seq (.region C.catnaplaw7_risen_r0) C.catnaplaw7_risen_c14⟩
def C.catnaplaw7_risen_W := And.intro (And.intro (And.intro (And.intro @C.catnaplaw7_risen_r9_w @C.catnaplaw7_risen_c1_w) (And.intro @C.catnaplaw7_risen_r8_w (And.intro @C.catnaplaw7_risen_c2_w @C.catnaplaw7_risen_r7_w))) (And.intro (And.intro @C.catnaplaw7_risen_c3_w (And.intro @C.catnaplaw7_risen_r6_w @C.catnaplaw7_risen_c4_w)) (And.intro @C.catnaplaw7_risen_r3_w (And.intro @C.catnaplaw7_risen_c5_w @C.catnaplaw7_risen_r5_w)))) (And.intro (And.intro (And.intro @C.catnaplaw7_risen_c6_w (And.intro @C.catnaplaw7_risen_c7_w @C.catnaplaw7_risen_r4_w)) (And.intro @C.catnaplaw7_risen_b8_w (And.intro @C.catnaplaw7_risen_c9_w @C.catnaplaw7_risen_c10_w))) (And.intro (And.intro @C.catnaplaw7_risen_r2_w (And.intro @C.catnaplaw7_risen_b12_w @C.catnaplaw7_risen_c13_w)) (And.intro @C.catnaplaw7_risen_r1_w (And.intro @C.catnaplaw7_risen_c14_w @C.catnaplaw7_risen_r0_w))))
def C.catnaplaw7_risen_B := And.intro (And.intro (And.intro @C.catnaplaw7_risen_r9_b.eq_1 @C.catnaplaw7_risen_r8_b.eq_1) (And.intro @C.catnaplaw7_risen_r7_b.eq_1 (And.intro @C.catnaplaw7_risen_r6_b.eq_1 @C.catnaplaw7_risen_r3_b.eq_1))) (And.intro (And.intro @C.catnaplaw7_risen_r5_b.eq_1 @C.catnaplaw7_risen_r4_b.eq_1) (And.intro @C.catnaplaw7_risen_r2_b.eq_1 (And.intro @C.catnaplaw7_risen_r1_b.eq_1 @C.catnaplaw7_risen_r0_b.eq_1)))

def C.conf_Check_r1_b : List IOper := [
 X.o 3 (.makeFunc F.conf_Check_1 [X.s 1]),
 X.o 4 (.makeFunc F.conf_Check_2 [X.s 1]),
 X.o 5 (.makeFunc F.conf_Check_3 [X.s 1]),
 X.o 6 (.makeFunc F.conf_Check_4 [X.s 1]),
 X.o 7 (.makeFunc F.conf_Check_5 [X.s 1]),
 X.o 8 (.makeFunc F.conf_Check_6 [X.s 1]),
 X.o 9 (.makeFunc F.conf_Check_7 [X.s 1]),
 X.o 10 (.makeFunc F.conf_Check_8 [X.s 1]),
 X.o 11 (.buildSlice 1 8 [.nilf] [(0, 1, X.s 3), (1, 1, X.s 4), (2, 1, X.s 5), (3, 1, X.s 6), (4, 1, X.s 7), (5, 1, X.s 8), (6, 1, X.s 9), (7, 1, X.s 10)]),
 X.o 12 (.call F.conf_first [X.s 11]),
 X.m 2 12]
def C.conf_Check_r1 : List IOper := C.conf_Check_r1_b
def C.conf_Check_r1_w := @aopsE _ _ C.conf_Check_r1.eq_1
def C.conf_Check_c1 : ICode := .keep [1] (.seq (.region C.conf_Check_r1) .ret)
def C.conf_Check_c1_w := @awpE _ _ C.conf_Check_c1.eq_1
def C.conf_Check_r0_b : List IOper := [
 X.o 1 (.boxN (X.s 0)),
 X.o 2 (.move (X.i 0))]
def C.conf_Check_r0 : List IOper := C.conf_Check_r0_b
def C.conf_Check_r0_w := @aopsE _ _ C.conf_Check_r0.eq_1
def C.conf_Check : IFunc := ⟨1, [.slot 2], .seq (.region C.conf_Check_r0) C.conf_Check_c1⟩
def C.conf_Check_W := And.intro @C.conf_Check_r1_w (And.intro @C.conf_Check_c1_w @C.conf_Check_r0_w)
def C.conf_Check_B := And.intro @C.conf_Check_r1_b.eq_1 @C.conf_Check_r0_b.eq_1

def C.power_Grid_at_r3_b : List IOper := [
 X.m 20 0,
 X.o 21 (.nilchk (X.s 20)),
 X.o 22 (.fldAddr 0 (X.s 21)),
 X.o 23 (.load1 (X.s 22)),
 X.m 24 1,
 X.o 25 (.idxAddr 7 (X.s 23) (X.s 24)),
 X.m 4 25]
def C.power_Grid_at_r3 : List IOper := C.power_Grid_at_r3_b
def C.power_Grid_at_r3_w := @aopsE _ _ C.power_Grid_at_r3.eq_1
def C.power_Grid_at_c1 : ICode := .keep [0, 1] (.seq (.region C.power_Grid_at_r3) .ret)
def C.power_Grid_at_c1_w := @awpE _ _ C.power_Grid_at_c1.eq_1
def C.power_Grid_at_r2_b : List IOper := [
 X.o 4 (.move (.cst (.nilp)))]
def C.power_Grid_at_r2 : List IOper := C.power_Grid_at_r2_b
def C.power_Grid_at_r2_w := @aopsE _ _ C.power_Grid_at_r2.eq_1
def C.power_Grid_at_c2 : ICode := .seq (.region C.power_Grid_at_r2) .ret
def C.power_Grid_at_c2_w := @awpE _ _ C.power_Grid_at_c2.eq_1
def C.power_Grid_at_c3 : ICode := .keep [0, 1, 19] (.cond (X.s 19) C.power_Grid_at_c2 .skip)
def C.power_Grid_at_c3_w := @awpE _ _ C.power_Grid_at_c3.eq_1
def C.power_Grid_at_r1_b : List IOper := [
 X.m 5 0,
 X.o 6 (.eqP 0 false (X.s 5) (.cst (.nilp))),
 X.m 7 6,
 X.f 7 8 (.move (X.s 1)),
 X.f 7 9 (.bin .lss (X.s 8) (X.i 0)),
 X.o 10 (.pick (X.s 7) (.cst (.bool true)) (X.s 9)),
 X.m 11 10,
 X.f 11 12 (.move (X.s 1)),
 X.f 11 13 (.move (X.s 0)),
 X.f 11 14 (.nilchk (X.s 13)),
 X.f 11 15 (.fldAddr 0 (X.s 14)),
 X.f 11 16 (.load1 (X.s 15)),
 X.f 11 17 (.len (X.s 16)),
 X.f 11 18 (.bin .geq (X.s 12) (X.s 17)),
 X.o 19 (.pick (X.s 11) (.cst (.bool true)) (X.s 18))]
def C.power_Grid_at_r1 : List IOper := C.power_Grid_at_r1_b
def C.power_Grid_at_r1_w := @aopsE _ _ C.power_Grid_at_r1.eq_1
def C.power_Grid_at_c4 : ICode := .keep [0, 1] (.seq (.seq (.region C.power_Grid_at_r1) C.power_Grid_at_c3) C.power_Grid_at_c1)
def C.power_Grid_at_c4_w := @awpE _ _ C.power_Grid_at_c4.eq_1
def C.power_Grid_at_r0_b : List IOper := [
 X.o 4 (.move (.cst (.nilp)))]
def C.power_Grid_at_r0 : List IOper := C.power_Grid_at_r0_b
def C.power_Grid_at_r0_w := @aopsE _ _ C.power_Grid_at_r0.eq_1
def C.power_Grid_at : IFunc := ⟨2, [.slot 4], .seq (.region C.power_Grid_at_r0) C.power_Grid_at_c4⟩
def C.power_Grid_at_W := And.intro (And.intro (And.intro @C.power_Grid_at_r3_w @C.power_Grid_at_c1_w) (And.intro @C.power_Grid_at_r2_w @C.power_Grid_at_c2_w)) (And.intro (And.intro @C.power_Grid_at_c3_w @C.power_Grid_at_r1_w) (And.intro @C.power_Grid_at_c4_w @C.power_Grid_at_r0_w))
def C.power_Grid_at_B := And.intro (And.intro @C.power_Grid_at_r3_b.eq_1 @C.power_Grid_at_r2_b.eq_1) (And.intro @C.power_Grid_at_r1_b.eq_1 @C.power_Grid_at_r0_b.eq_1)

def C.power_domain_down_r1_b : List IOper := [
 X.m 3 0,
 X.o 4 (.nilchk (X.s 3)),
 X.o 5 (.fldAddr 3 (X.s 4)),
 X.o 6 (.load1 (X.s 5)),
 X.o 7 (.bin .eql (X.s 6) (.cst (.int .u8 48))),
 X.m 8 7,
 X.f 8 9 (.move (X.s 0)),
 X.f 8 10 (.nilchk (X.s 9)),
 X.f 8 11 (.fldAddr 3 (X.s 10)),
 X.f 8 12 (.load1 (X.s 11)),
 X.f 8 13 (.bin .eql (X.s 12) (.cst (.int .u8 116))),
 X.o 14 (.pick (X.s 8) (.cst (.bool true)) (X.s 13)),
 X.m 2 14]
def C.power_domain_down_r1 : List IOper := C.power_domain_down_r1_b
def C.power_domain_down_r1_w := @aopsE _ _ C.power_domain_down_r1.eq_1
def C.power_domain_down_c1 : ICode := .keep [0] (.seq (.region C.power_domain_down_r1) .ret)
def C.power_domain_down_c1_w := @awpE _ _ C.power_domain_down_c1.eq_1
def C.power_domain_down_r0_b : List IOper := [
 X.o 2 (.move (.cst (.bool false)))]
def C.power_domain_down_r0 : List IOper := C.power_domain_down_r0_b
def C.power_domain_down_r0_w := @aopsE _ _ C.power_domain_down_r0.eq_1
def C.power_domain_down : IFunc := ⟨1, [.slot 2], .seq (.region C.power_domain_down_r0) C.power_domain_down_c1⟩
def C.power_domain_down_W := And.intro @C.power_domain_down_r1_w (And.intro @C.power_domain_down_c1_w @C.power_domain_down_r0_w)
def C.power_domain_down_B := And.intro @C.power_domain_down_r1_b.eq_1 @C.power_domain_down_r0_b.eq_1

def C.power_domain_tick_r19_b : List IOper := [
 X.o 2 (.move (.cst (.int .u8 0)))]
def C.power_domain_tick_r19 : List IOper := C.power_domain_tick_r19_b
def C.power_domain_tick_r19_w := @aopsE _ _ C.power_domain_tick_r19.eq_1
def C.power_domain_tick_c1 : ICode := .keep [] (.seq (.region C.power_domain_tick_r19) .ret)
def C.power_domain_tick_c1_w := @awpE _ _ C.power_domain_tick_c1.eq_1
def C.power_domain_tick_r9_b : List IOper := [
 X.o 2 (.move (.cst (.int .u8 110)))]
def C.power_domain_tick_r9 : List IOper := C.power_domain_tick_r9_b
def C.power_domain_tick_r9_w := @aopsE _ _ C.power_domain_tick_r9.eq_1
def C.power_domain_tick_c2 : ICode := .keep [] (.seq (.region C.power_domain_tick_r9) .ret)
def C.power_domain_tick_c2_w := @awpE _ _ C.power_domain_tick_c2.eq_1
def C.power_domain_tick_r8_b : List IOper := [
 X.o 2 (.move (.cst (.int .u8 114)))]
def C.power_domain_tick_r8 : List IOper := C.power_domain_tick_r8_b
def C.power_domain_tick_r8_w := @aopsE _ _ C.power_domain_tick_r8.eq_1
def C.power_domain_tick_c3 : ICode := .seq (.region C.power_domain_tick_r8) .ret
def C.power_domain_tick_c3_w := @awpE _ _ C.power_domain_tick_c3.eq_1
def C.power_domain_tick_c4 : ICode := .keep [27] (.cond (X.s 27) C.power_domain_tick_c3 .skip)
def C.power_domain_tick_c4_w := @awpE _ _ C.power_domain_tick_c4.eq_1
def C.power_domain_tick_r7_b : List IOper := [
 X.m 24 0,
 X.o 25 (.nilchk (X.s 24)),
 X.o 26 (.fldAddr 5 (X.s 25)),
 X.o 27 (.load1 (X.s 26))]
def C.power_domain_tick_r7 : List IOper := C.power_domain_tick_r7_b
def C.power_domain_tick_r7_w := @aopsE _ _ C.power_domain_tick_r7.eq_1
def C.power_domain_tick_c5 : ICode := .keep [0] (.seq (.seq (.region C.power_domain_tick_r7) C.power_domain_tick_c4) C.power_domain_tick_c2)
def C.power_domain_tick_c5_w := @awpE _ _ C.power_domain_tick_c5.eq_1
def C.power_domain_tick_r6_b : List IOper := [
 X.m 21 0,
 X.o 22 (.nilchk (X.s 21)),
 X.o 23 (.fldAddr 3 (X.s 22)),
 X.n (.store1 (X.s 23) (.cst (.int .u8 104)))]
def C.power_domain_tick_r6 : List IOper := C.power_domain_tick_r6_b
def C.power_domain_tick_r6_w := @aopsE _ _ C.power_domain_tick_r6.eq_1
def C.power_domain_tick_c6 : ICode := .keep [0] (.seq (.region C.power_domain_tick_r6) C.power_domain_tick_c5)
def C.power_domain_tick_c6_w := @awpE _ _ C.power_domain_tick_c6.eq_1
def C.power_domain_tick_r5_b : List IOper := [
 X.o 2 (.move (.cst (.int .u8 0)))]
def C.power_domain_tick_r5 : List IOper := C.power_domain_tick_r5_b
def C.power_domain_tick_r5_w := @aopsE _ _ C.power_domain_tick_r5.eq_1
def C.power_domain_tick_c7 : ICode := .keep [] (.seq (.region C.power_domain_tick_r5) .ret)
def C.power_domain_tick_c7_w := @awpE _ _ C.power_domain_tick_c7.eq_1
def C.power_domain_tick_r4_b : List IOper := [
 X.m 14 0,
 X.o 15 (.nilchk (X.s 14)),
 X.o 16 (.fldAddr 4 (X.s 15)),
 X.o 17 (.load1 (X.s 16)),
 X.o 18 (.bin .sub (X.s 17) (X.i 1)),
 X.o 19 (.nilchk (X.s 14)),
 X.o 20 (.fldAddr 4 (X.s 19)),
 X.n (.store1 (X.s 20) (X.s 18))]
def C.power_domain_tick_r4 : List IOper := C.power_domain_tick_r4_b
def C.power_domain_tick_r4_w := @aopsE _ _ C.power_domain_tick_r4.eq_1
def C.power_domain_tick_c8 : ICode := .seq (.region C.power_domain_tick_r4) C.power_domain_tick_c7
def C.power_domain_tick_c8_w := @awpE _ _ C.power_domain_tick_c8.eq_1
def C.power_domain_tick_c9 : ICode := .keep [0, 13] (.cond (X.s 13) C.power_domain_tick_c8 .skip)
def C.power_domain_tick_c9_w := @awpE _ _ C.power_domain_tick_c9.eq_1
def C.power_domain_tick_r3_b : List IOper := [
 X.m 9 0,
 X.o 10 (.nilchk (X.s 9)),
 X.o 11 (.fldAddr 4 (X.s 10)),
 X.o 12 (.load1 (X.s 11)),
 X.o 13 (.bin .gtr (X.s 12) (X.i 0))]
def C.power_domain_tick_r3 : List IOper := C.power_domain_tick_r3_b
def C.power_domain_tick_r3_w := @aopsE _ _ C.power_domain_tick_r3.eq_1
def C.power_domain_tick_r12_b : List IOper := [
 X.o 2 (.move (.cst (.int .u8 111)))]
def C.power_domain_tick_r12 : List IOper := C.power_domain_tick_r12_b
def C.power_domain_tick_r12_w := @aopsE _ _ C.power_domain_tick_r12.eq_1
def C.power_domain_tick_c10 : ICode := .keep [] (.seq (.region C.power_domain_tick_r12) .ret)
def C.power_domain_tick_c10_w := @awpE _ _ C.power_domain_tick_c10.eq_1
def C.power_domain_tick_r11_b : List IOper := [
 X.m 30 0,
 X.o 31 (.nilchk (X.s 30)),
 X.o 32 (.fldAddr 3 (X.s 31)),
 X.n (.store1 (X.s 32) (.cst (.int .u8 49)))]
def C.power_domain_tick_r11 : List IOper := C.power_domain_tick_r11_b
def C.power_domain_tick_r11_w := @aopsE _ _ C.power_domain_tick_r11.eq_1
def C.power_domain_tick_r18_b : List IOper := [
 X.o 2 (.move (.cst (.int .u8 108)))]
def C.power_domain_tick_r18 : List IOper := C.power_domain_tick_r18_b
def C.power_domain_tick_r18_w := @aopsE _ _ C.power_domain_tick_r18.eq_1
def C.power_domain_tick_c11 : ICode := .keep [] (.seq (.region C.power_domain_tick_r18) .ret)
def C.power_domain_tick_c11_w := @awpE _ _ C.power_domain_tick_c11.eq_1
def C.power_domain_tick_r17_b : List IOper := [
 X.m 42 0,
 X.o 43 (.nilchk (X.s 42)),
 X.o 44 (.fldAddr 3 (X.s 43)),
 X.n (.store1 (X.s 44) (.cst (.int .u8 48)))]
def C.power_domain_tick_r17 : List IOper := C.power_domain_tick_r17_b
def C.power_domain_tick_r17_w := @aopsE _ _ C.power_domain_tick_r17.eq_1
def C.power_domain_tick_c12 : ICode := .keep [0] (.seq (.region C.power_domain_tick_r17) C.power_domain_tick_c11)
def C.power_domain_tick_c12_w := @awpE _ _ C.power_domain_tick_c12.eq_1
def C.power_domain_tick_r16_b : List IOper := [
 X.o 2 (.move (.cst (.int .u8 115)))]
def C.power_domain_tick_r16 : List IOper := C.power_domain_tick_r16_b
def C.power_domain_tick_r16_w := @aopsE _ _ C.power_domain_tick_r16.eq_1
def C.power_domain_tick_c13 : ICode := .keep [] (.seq (.region C.power_domain_tick_r16) .ret)
def C.power_domain_tick_c13_w := @awpE _ _ C.power_domain_tick_c13.eq_1
def C.power_domain_tick_r15_b : List IOper := [
 X.m 39 0,
 X.o 40 (.nilchk (X.s 39)),
 X.o 41 (.fldAddr 3 (X.s 40)),
 X.n (.store1 (X.s 41) (.cst (.int .u8 116)))]
def C.power_domain_tick_r15 : List IOper := C.power_domain_tick_r15_b
def C.power_domain_tick_r15_w := @aopsE _ _ C.power_domain_tick_r15.eq_1
def C.power_domain_tick_c14 : ICode := .seq (.region C.power_domain_tick_r15) C.power_domain_tick_c13
def C.power_domain_tick_c14_w := @awpE _ _ C.power_domain_tick_c14.eq_1
def C.power_domain_tick_c15 : ICode := .keep [0, 38] (.cond (X.s 38) C.power_domain_tick_c14 .skip)
def C.power_domain_tick_c15_w := @awpE _ _ C.power_domain_tick_c15.eq_1
def C.power_domain_tick_r14_b : List IOper := [
 X.m 35 0,
 X.o 36 (.nilchk (X.s 35)),
 X.o 37 (.fldAddr 6 (X.s 36)),
 X.o 38 (.load1 (X.s 37))]
def C.power_domain_tick_r14 : List IOper := C.power_domain_tick_r14_b
def C.power_domain_tick_r14_w := @aopsE _ _ C.power_domain_tick_r14.eq_1
def C.power_domain_tick_c16 : ICode := .seq (.seq (.region C.power_domain_tick_r14) C.power_domain_tick_c15) C.power_domain_tick_c12
def C.power_domain_tick_c16_w := @awpE _ _ C.power_domain_tick_c16.eq_1
def C.power_domain_tick_c17 : ICode := .keep [0, 33] (.cond (X.s 33) C.power_domain_tick_c16 .skip)
def C.power_domain_tick_c17_w := @awpE _ _ C.power_domain_tick_c17.eq_1
def C.power_domain_tick_r13_b : List IOper := [
 X.o 34 (.bin .eql (X.s 6) (.cst (.int .u8 99))),
 X.m 33 34]
def C.power_domain_tick_r13 : List IOper := C.power_domain_tick_r13_b
def C.power_domain_tick_r13_w := @aopsE _ _ C.power_domain_tick_r13.eq_1
def C.power_domain_tick_c18 : ICode := .seq (.region C.power_domain_tick_r11) C.power_domain_tick_c10
def C.power_domain_tick_c18_w := @awpE _ _ C.power_domain_tick_c18.eq_1
def C.power_domain_tick_c19 : ICode := .seq (.region C.power_domain_tick_r13) C.power_domain_tick_c17
def C.power_domain_tick_c19_w := @awpE _ _ C.power_domain_tick_c19.eq_1
def C.power_domain_tick_c20 : ICode := .keep [0, 6, 28] (.cond (X.s 28) C.power_domain_tick_c18 C.power_domain_tick_c19)
def C.power_domain_tick_c20_w := @awpE _ _ C.power_domain_tick_c20.eq_1
def C.power_domain_tick_r10_b : List IOper := [
 X.o 29 (.bin .eql (X.s 6) (.cst (.int .u8 104))),
 X.m 28 29]
def C.power_domain_tick_r10 : List IOper := C.power_domain_tick_r10_b
def C.power_domain_tick_r10_w := @aopsE _ _ C.power_domain_tick_r10.eq_1
def C.power_domain_tick_c21 : ICode := .seq (.seq (.region C.power_domain_tick_r3) C.power_domain_tick_c9) C.power_domain_tick_c6
def C.power_domain_tick_c21_w := @awpE _ _ C.power_domain_tick_c21.eq_1
def C.power_domain_tick_c22 : ICode := .seq (.region C.power_domain_tick_r10) C.power_domain_tick_c20
def C.power_domain_tick_c22_w := @awpE _ _ C.power_domain_tick_c22.eq_1
def C.power_domain_tick_c23 : ICode := .keep [0, 6, 7] (.cond (X.s 7) C.power_domain_tick_c21 C.power_domain_tick_c22)
def C.power_domain_tick_c23_w := @awpE _ _ C.power_domain_tick_c23.eq_1
def C.power_domain_tick_r2_b : List IOper := [
 X.o 8 (.bin .eql (X.s 6) (.cst (.int .u8 114))),
 X.m 7 8]
def C.power_domain_tick_r2 : List IOper := C.power_domain_tick_r2_b
def C.power_domain_tick_r2_w := @aopsE _ _ C.power_domain_tick_r2.eq_1
def C.power_domain_tick_b24 : ICode := .seq (.region C.power_domain_tick_r2) C.power_domain_tick_c23
def C.power_domain_tick_b24_w := @awpE _ _ C.power_domain_tick_b24.eq_1
def C.power_domain_tick_c25 : ICode := .keep [0, 6] (.block 0 C.power_domain_tick_b24)
def C.power_domain_tick_c25_w := @awpE _ _ C.power_domain_tick_c25.eq_1
def C.power_domain_tick_r1_b : List IOper := [
 X.m 3 0,
 X.o 4 (.nilchk (X.s 3)),
 X.o 5 (.fldAddr 3 (X.s 4)),
 X.o 6 (.load1 (X.s 5))]
def C.power_domain_tick_r1 : List IOper := C.power_domain_tick_r1_b
def C.power_domain_tick_r1_w := @aopsE _ _ C.power_domain_tick_r1.eq_1
def C.power_domain_tick_c26 : ICode := .keep [0] (.seq (.seq (.region C.power_domain_tick_r1) C.power_domain_tick_c25) C.power_domain_tick_c1)
def C.power_domain_tick_c26_w := @awpE _ _ C.power_domain_tick_c26.eq_1
def C.power_domain_tick_r0_b : List IOper := [
 X.o 2 (.move (.cst (.int .u8 0)))]
def C.power_domain_tick_r0 : List IOper := C.power_domain_tick_r0_b
def C.power_domain_tick_r0_w := @aopsE _ _ C.power_domain_tick_r0.eq_1
def C.power_domain_tick : IFunc := ⟨1, [.slot 2], .seq (.region C.power_domain_tick_r0) C.power_domain_tick_c26⟩
def C.power_domain_tick_W := And.intro (And.intro (And.intro (And.intro (And.intro @C.power_domain_tick_r19_w @C.power_domain_tick_c1_w) (And.intro @C.power_domain_tick_r9_w (And.intro @C.power_domain_tick_c2_w @C.power_domain_tick_r8_w))) (And.intro (And.intro @C.power_domain_tick_c3_w (And.intro @C.power_domain_tick_c4_w @C.power_domain_tick_r7_w)) (And.intro @C.power_domain_tick_c5_w (And.intro @C.power_domain_tick_r6_w @C.power_domain_tick_c6_w)))) (And.intro (And.intro (And.intro @C.power_domain_tick_r5_w (And.intro @C.power_domain_tick_c7_w @C.power_domain_tick_r4_w)) (And.intro @C.power_domain_tick_c8_w (And.intro @C.power_domain_tick_c9_w @C.power_domain_tick_r3_w))) (And.intro (And.intro @C.power_domain_tick_r12_w (And.intro @C.power_domain_tick_c10_w @C.power_domain_tick_r11_w)) (And.intro @C.power_domain_tick_r18_w (And.intro @C.power_domain_tick_c11_w @C.power_domain_tick_r17_w))))) (And.intro (And.intro (And.intro (And.intro @C.power_domain_tick_c12_w @C.power_domain_tick_r16_w) (And.intro @C.power_domain_tick_c13_w (And.intro @C.power_domain_tick_r15_w @C.power_domain_tick_c14_w))) (And.intro (And.intro @C.power_domain_tick_c15_w (And.intro @C.power_domain_tick_r14_w @C.power_domain_tick_c16_w)) (And.intro @C.power_domain_tick_c17_w (And.intro @C.power_domain_tick_r13_w @C.power_domain_tick_c18_w)))) (And.intro (And.intro (And.intro @C.power_domain_tick_c19_w (And.intro @C.power_domain_tick_c20_w @C.power_domain_tick_r10_w)) (And.intro @C.power_domain_tick_c21_w (And.intro @C.power_domain_tick_c22_w @C.power_domain_tick_c23_w))) (And.intro (And.intro @C.power_domain_tick_r2_w (And.intro @C.power_domain_tick_b24_w @C.power_domain_tick_c25_w)) (And.intro @C.power_domain_tick_r1_w (And.intro @C.power_domain_tick_c26_w @C.power_domain_tick_r0_w)))))
def C.power_domain_tick_B := And.intro (And.intro (And.intro (And.intro @C.power_domain_tick_r19_b.eq_1 @C.power_domain_tick_r9_b.eq_1) (And.intro @C.power_domain_tick_r8_b.eq_1 (And.intro @C.power_domain_tick_r7_b.eq_1 @C.power_domain_tick_r6_b.eq_1))) (And.intro (And.intro @C.power_domain_tick_r5_b.eq_1 @C.power_domain_tick_r4_b.eq_1) (And.intro @C.power_domain_tick_r3_b.eq_1 (And.intro @C.power_domain_tick_r12_b.eq_1 @C.power_domain_tick_r11_b.eq_1)))) (And.intro (And.intro (And.intro @C.power_domain_tick_r18_b.eq_1 @C.power_domain_tick_r17_b.eq_1) (And.intro @C.power_domain_tick_r16_b.eq_1 (And.intro @C.power_domain_tick_r15_b.eq_1 @C.power_domain_tick_r14_b.eq_1))) (And.intro (And.intro @C.power_domain_tick_r13_b.eq_1 @C.power_domain_tick_r10_b.eq_1) (And.intro @C.power_domain_tick_r2_b.eq_1 (And.intro @C.power_domain_tick_r1_b.eq_1 @C.power_domain_tick_r0_b.eq_1))))

def C.graph_numbers_r13_b : List IOper := [
 X.o 2 (.move (X.i 0))]
def C.graph_numbers_r13 : List IOper := C.graph_numbers_r13_b
def C.graph_numbers_r13_w := @aopsE _ _ C.graph_numbers_r13.eq_1
def C.graph_numbers_c1 : ICode := .keep [] (.seq (.region C.graph_numbers_r13) .ret)
def C.graph_numbers_c1_w := @awpE _ _ C.graph_numbers_c1.eq_1
def C.graph_numbers_r12_b : List IOper := [
 X.o 31 (.bin .add (X.s 12) (X.i 1)),
 X.m 12 31]
def C.graph_numbers_r12 : List IOper := C.graph_numbers_r12_b
def C.graph_numbers_r12_w := @aopsE _ _ C.graph_numbers_r12.eq_1
def C.graph_numbers_c2 : ICode := .keep [0, 10, 11, 12] (.region C.graph_numbers_r12)
def C.graph_numbers_c2_w := @awpE _ _ C.graph_numbers_c2.eq_1
def C.graph_numbers_r11_b : List IOper := [
 X.o 30 (.bin .add (X.s 18) (X.i 1)),
 X.m 18 30]
def C.graph_numbers_r11 : List IOper := C.graph_numbers_r11_b
def C.graph_numbers_r11_w := @aopsE _ _ C.graph_numbers_r11.eq_1
def C.graph_numbers_c3 : ICode := .keep [0, 10, 11, 12, 16, 17, 18] (.region C.graph_numbers_r11)
def C.graph_numbers_c3_w := @awpE _ _ C.graph_numbers_c3.eq_1
def C.graph_numbers_r10_b : List IOper := [
 X.o 2 (.move (X.i 4))]
def C.graph_numbers_r10 : List IOper := C.graph_numbers_r10_b
def C.graph_numbers_r10_w := @aopsE _ _ C.graph_numbers_r10.eq_1
def C.graph_numbers_c4 : ICode := .seq (.region C.graph_numbers_r10) .ret
def C.graph_numbers_c4_w := @awpE _ _ C.graph_numbers_c4.eq_1
def C.graph_numbers_c5 : ICode := .keep [0, 10, 11, 12, 16, 17, 18, 29] (.cond (X.s 29) C.graph_numbers_c4 .skip)
def C.graph_numbers_c5_w := @awpE _ _ C.graph_numbers_c5.eq_1
def C.graph_numbers_r9_b : List IOper := [
 X.m 22 6,
 X.o 23 (.bin .lss (X.s 22) (X.i 0)),
 X.m 24 23,
 X.f 24 25 (.move (X.s 6)),
 X.f 24 26 (.move (X.s 0)),
 X.f 24 27 (.len (X.s 26)),
 X.f 24 28 (.bin .geq (X.s 25) (X.s 27)),
 X.o 29 (.pick (X.s 24) (.cst (.bool true)) (X.s 28))]
def C.graph_numbers_r9 : List IOper := C.graph_numbers_r9_b
def C.graph_numbers_r9_w := @aopsE _ _ C.graph_numbers_r9.eq_1
def C.graph_numbers_c6 : ICode := .keep [0, 6, 10, 11, 12, 16, 17, 18] (.seq (.region C.graph_numbers_r9) C.graph_numbers_c5)
def C.graph_numbers_c6_w := @awpE _ _ C.graph_numbers_c6.eq_1
def C.graph_numbers_r8_b : List IOper := [
 X.o 20 (.idxAddr 1 (X.s 16) (X.s 18)),
 X.o 21 (.load1 (X.s 20)),
 X.m 6 21]
def C.graph_numbers_r8 : List IOper := C.graph_numbers_r8_b
def C.graph_numbers_r8_w := @aopsE _ _ C.graph_numbers_r8.eq_1
def C.graph_numbers_b7 : ICode := .seq (.region C.graph_numbers_r8) C.graph_numbers_c6
def C.graph_numbers_b7_w := @awpE _ _ C.graph_numbers_b7.eq_1
def C.graph_numbers_c8 : ICode := .keep [0, 10, 11, 12, 16, 17, 18] (.seq (.block 3 C.graph_numbers_b7) C.graph_numbers_c3)
def C.graph_numbers_c8_w := @awpE _ _ C.graph_numbers_c8.eq_1
def C.graph_numbers_c9 : ICode := .keep [0, 10, 11, 12, 16, 17, 18, 19] (.seq (.cond (X.s 19) .skip (.exit 2)) C.graph_numbers_c8)
def C.graph_numbers_c9_w := @awpE _ _ C.graph_numbers_c9.eq_1
def C.graph_numbers_r7_b : List IOper := [
 X.o 19 (.bin .lss (X.s 18) (X.s 17))]
def C.graph_numbers_r7 : List IOper := C.graph_numbers_r7_b
def C.graph_numbers_r7_w := @aopsE _ _ C.graph_numbers_r7.eq_1
def C.graph_numbers_l10 : ICode := .keep [0, 10, 11, 12, 16, 17, 18] (.seq (.region C.graph_numbers_r7) C.graph_numbers_c9)
def C.graph_numbers_l10_w := @awpE _ _ C.graph_numbers_l10.eq_1
def C.graph_numbers_b11 : ICode := .loop C.graph_numbers_l10
def C.graph_numbers_b11_w := @awpE _ _ C.graph_numbers_b11.eq_1
def C.graph_numbers_c12 : ICode := .keep [0, 10, 11, 12, 16, 17, 18] (.block 2 C.graph_numbers_b11)
def C.graph_numbers_c12_w := @awpE _ _ C.graph_numbers_c12.eq_1
def C.graph_numbers_r6_b : List IOper := [
 X.m 16 4,
 X.o 17 (.len (X.s 16)),
 X.o 18 (.move (X.i 0))]
def C.graph_numbers_r6 : List IOper := C.graph_numbers_r6_b
def C.graph_numbers_r6_w := @aopsE _ _ C.graph_numbers_r6.eq_1
def C.graph_numbers_c13 : ICode := .keep [0, 4, 10, 11, 12] (.seq (.region C.graph_numbers_r6) C.graph_numbers_c12)
def C.graph_numbers_c13_w := @awpE _ _ C.graph_numbers_c13.eq_1
def C.graph_numbers_r5_b : List IOper := [
 X.o 14 (.idxAddr 1 (X.s 10) (X.s 12)),
 X.o 15 (.load1 (X.s 14)),
 X.m 4 15]
def C.graph_numbers_r5 : List IOper := C.graph_numbers_r5_b
def C.graph_numbers_r5_w := @aopsE _ _ C.graph_numbers_r5.eq_1
def C.graph_numbers_b14 : ICode := .seq (.region C.graph_numbers_r5) C.graph_numbers_c13
def C.graph_numbers_b14_w := @awpE _ _ C.graph_numbers_b14.eq_1
def C.graph_numbers_c15 : ICode := .keep [0, 10, 11, 12] (.seq (.block 1 C.graph_numbers_b14) C.graph_numbers_c2)
def C.graph_numbers_c15_w := @awpE _ _ C.graph_numbers_c15.eq_1
def C.graph_numbers_c16 : ICode := .keep [0, 10, 11, 12, 13] (.seq (.cond (X.s 13) .skip (.exit 0)) C.graph_numbers_c15)
def C.graph_numbers_c16_w := @awpE _ _ C.graph_numbers_c16.eq_1
def C.graph_numbers_r4_b : List IOper := [
 X.o 13 (.bin .lss (X.s 12) (X.s 11))]
def C.graph_numbers_r4 : List IOper := C.graph_numbers_r4_b
def C.graph_numbers_r4_w := @aopsE _ _ C.graph_numbers_r4.eq_1
def C.graph_numbers_l17 : ICode := .keep [0, 10, 11, 12] (.seq (.region C.graph_numbers_r4) C.graph_numbers_c16)
def C.graph_numbers_l17_w := @awpE _ _ C.graph_numbers_l17.eq_1
def C.graph_numbers_b18 : ICode := .loop C.graph_numbers_l17
def C.graph_numbers_b18_w := @awpE _ _ C.graph_numbers_b18.eq_1
def C.graph_numbers_c19 : ICode := .keep [0, 10, 11, 12] (.block 0 C.graph_numbers_b18)
def C.graph_numbers_c19_w := @awpE _ _ C.graph_numbers_c19.eq_1
def C.graph_numbers_r3_b : List IOper := [
 X.m 10 0,
 X.o 11 (.len (X.s 10)),
 X.o 12 (.move (X.i 0))]
def C.graph_numbers_r3 : List IOper := C.graph_numbers_r3_b
def C.graph_numbers_r3_w := @aopsE _ _ C.graph_numbers_r3.eq_1
def C.graph_numbers_c20 : ICode := .keep [0] (.seq (.seq (.region C.graph_numbers_r3) C.graph_numbers_c19) C.graph_numbers_c1)
def C.graph_numbers_c20_w := @awpE _ _ C.graph_numbers_c20.eq_1
def C.graph_numbers_r2_b : List IOper := [
 X.o 2 (.move (X.i 1))]
def C.graph_numbers_r2 : List IOper := C.graph_numbers_r2_b
def C.graph_numbers_r2_w := @aopsE _ _ C.graph_numbers_r2.eq_1
def C.graph_numbers_c21 : ICode := .seq (.region C.graph_numbers_r2) .ret
def C.graph_numbers_c21_w := @awpE _ _ C.graph_numbers_c21.eq_1
def C.graph_numbers_c22 : ICode := .keep [0, 9] (.cond (X.s 9) C.graph_numbers_c21 .skip)
def C.graph_numbers_c22_w := @awpE _ _ C.graph_numbers_c22.eq_1
def C.graph_numbers_r1_b : List IOper := [
 X.m 7 0,
 X.o 8 (.len (X.s 7)),
 X.o 9 (.bin .gtr (X.s 8) (X.i 100))]
def C.graph_numbers_r1 : List IOper := C.graph_numbers_r1_b
def C.graph_numbers_r1_w := @aopsE _ _ C.graph_numbers_r1.eq_1
def C.graph_numbers_c23 : ICode := .keep [0] (.seq (.seq (.region C.graph_numbers_r1) C.graph_numbers_c22) C.graph_numbers_c20)
def C.graph_numbers_c23_w := @awpE _ _ C.graph_numbers_c23.eq_1
def C.graph_numbers_r0_b : List IOper := [
 X.o 2 (.move (X.i 0))]
def C.graph_numbers_r0 : List IOper := C.graph_numbers_r0_b
def C.graph_numbers_r0_w := @aopsE _ _ C.graph_numbers_r0.eq_1
def C.graph_numbers : IFunc := ⟨1, [.slot 2], .seq (.region C.graph_numbers_r0) C.graph_numbers_c23⟩
def C.graph_numbers_W := And.intro (And.intro (And.intro (And.intro (And.intro @C.graph_numbers_r13_w @C.graph_numbers_c1_w) (And.intro @C.graph_numbers_r12_w @C.graph_numbers_c2_w)) (And.intro (And.intro @C.graph_numbers_r11_w @C.graph_numbers_c3_w) (And.intro @C.graph_numbers_r10_w @C.graph_numbers_c4_w))) (And.intro (And.intro (And.intro @C.graph_numbers_c5_w @C.graph_numbers_r9_w) (And.intro @C.graph_numbers_c6_w @C.graph_numbers_r8_w)) (And.intro (And.intro @C.graph_numbers_b7_w @C.graph_numbers_c8_w) (And.intro @C.graph_numbers_c9_w (And.intro @C.graph_numbers_r7_w @C.graph_numbers_b11_w))))) (And.intro (And.intro (And.intro (And.intro @C.graph_numbers_c12_w @C.graph_numbers_r6_w) (And.intro @C.graph_numbers_c13_w @C.graph_numbers_r5_w)) (And.intro (And.intro @C.graph_numbers_b14_w @C.graph_numbers_c15_w) (And.intro @C.graph_numbers_c16_w (And.intro @C.graph_numbers_r4_w @C.graph_numbers_b18_w)))) (And.intro (And.intro (And.intro @C.graph_numbers_c19_w @C.graph_numbers_r3_w) (And.intro @C.graph_numbers_c20_w @C.graph_numbers_r2_w)) (And.intro (And.intro @C.graph_numbers_c21_w @C.graph_numbers_c22_w) (And.intro @C.graph_numbers_r1_w (And.intro @C.graph_numbers_c23_w @C.graph_numbers_r0_w)))))
def C.graph_numbers_B := And.intro (And.intro (And.intro @C.graph_numbers_r13_b.eq_1 (And.intro @C.graph_numbers_r12_b.eq_1 @C.graph_numbers_r11_b.eq_1)) (And.intro (And.intro @C.graph_numbers_r10_b.eq_1 @C.graph_numbers_r9_b.eq_1) (And.intro @C.graph_numbers_r8_b.eq_1 @C.graph_numbers_r7_b.eq_1))) (And.intro (And.intro @C.graph_numbers_r6_b.eq_1 (And.intro @C.graph_numbers_r5_b.eq_1 @C.graph_numbers_r4_b.eq_1)) (And.intro (And.intro @C.graph_numbers_r3_b.eq_1 @C.graph_numbers_r2_b.eq_1) (And.intro @C.graph_numbers_r1_b.eq_1 @C.graph_numbers_r0_b.eq_1)))

def C.graph_hang_r16_b : List IOper := [
 X.m 53 2,
 X.m 54 3,
 X.m 2 53,
 X.m 3 54]
def C.graph_hang_r16 : List IOper := C.graph_hang_r16_b
def C.graph_hang_r16_w := @aopsE _ _ C.graph_hang_r16.eq_1
def C.graph_hang_c1 : ICode := .keep [2, 3] (.seq (.region C.graph_hang_r16) .ret)
def C.graph_hang_c1_w := @awpE _ _ C.graph_hang_c1.eq_1
def C.graph_hang_r15_b : List IOper := [
 X.o 52 (.bin .add (X.s 17) (X.i 1)),
 X.m 17 52]
def C.graph_hang_r15 : List IOper := C.graph_hang_r15_b
def C.graph_hang_r15_w := @aopsE _ _ C.graph_hang_r15.eq_1
def C.graph_hang_c2 : ICode := .keep [2, 3, 15, 16, 17] (.region C.graph_hang_r15)
def C.graph_hang_c2_w := @awpE _ _ C.graph_hang_c2.eq_1
def C.graph_hang_r14_b : List IOper := [
 X.o 51 (.bin .add (X.s 25) (X.i 1)),
 X.m 25 51]
def C.graph_hang_r14 : List IOper := C.graph_hang_r14_b
def C.graph_hang_r14_w := @aopsE _ _ C.graph_hang_r14.eq_1
def C.graph_hang_c3 : ICode := .keep [2, 3, 4, 6, 15, 16, 17, 23, 24, 25] (.region C.graph_hang_r14)
def C.graph_hang_c3_w := @awpE _ _ C.graph_hang_c3.eq_1
def C.graph_hang_r13_b : List IOper := [
 X.m 41 3,
 X.m 42 8,
 X.m 43 3,
 X.m 44 8,
 X.o 45 (.idxAddr 1 (X.s 43) (X.s 44)),
 X.o 46 (.load1 (X.s 45)),
 X.m 47 4,
 X.o 48 (.buildSlice 1 1 [.int .i64 0] [(0, 1, X.s 47)]),
 X.o 49 (.append 1 8 (X.s 46) (X.s 48)),
 X.o 50 (.idxAddr 1 (X.s 41) (X.s 42)),
 X.n (.store1 (X.s 50) (X.s 49))]
def C.graph_hang_r13 : List IOper := C.graph_hang_r13_b
def C.graph_hang_r13_w := @aopsE _ _ C.graph_hang_r13.eq_1
def C.graph_hang_c4 : ICode := .keep [2, 3, 4, 6, 8, 15, 16, 17, 23, 24, 25] (.region C.graph_hang_r13)
def C.graph_hang_c4_w := @awpE _ _ C.graph_hang_c4.eq_1
def C.graph_hang_r12_b : List IOper := [
 X.m 35 2,
 X.m 36 4,
 X.o 37 (.idxAddr 1 (X.s 35) (X.s 36)),
 X.o 38 (.load1 (X.s 37)),
 X.o 39 (.bin .add (X.s 38) (X.i 1)),
 X.o 40 (.idxAddr 1 (X.s 35) (X.s 36)),
 X.n (.store1 (X.s 40) (X.s 39))]
def C.graph_hang_r12 : List IOper := C.graph_hang_r12_b
def C.graph_hang_r12_w := @aopsE _ _ C.graph_hang_r12.eq_1
def C.graph_hang_c5 : ICode := .keep [2, 3, 4, 6, 8, 15, 16, 17, 23, 24, 25] (.seq (.region C.graph_hang_r12) C.graph_hang_c4)
def C.graph_hang_c5_w := @awpE _ _ C.graph_hang_c5.eq_1
def C.graph_hang_r11_b : List IOper := [
 X.m 32 6,
 X.m 33 8,
 X.o 34 (.call F.graph_marks_add [X.s 32, X.s 33])]
def C.graph_hang_r11 : List IOper := C.graph_hang_r11_b
def C.graph_hang_r11_w := @aopsE _ _ C.graph_hang_r11.eq_1
def C.graph_hang_c6 : ICode := .keep [2, 3, 4, 6, 8, 15, 16, 17, 23, 24, 25] (.seq (.region C.graph_hang_r11) C.graph_hang_c5)
def C.graph_hang_c6_w := @awpE _ _ C.graph_hang_c6.eq_1
def C.graph_hang_c7 : ICode := .keep [2, 3, 4, 6, 8, 15, 16, 17, 23, 24, 25, 31] (.cond (X.s 31) (.exit 3) .skip)
def C.graph_hang_c7_w := @awpE _ _ C.graph_hang_c7.eq_1
def C.graph_hang_r10_b : List IOper := [
 X.m 29 6,
 X.m 30 8,
 X.o 31 (.call F.graph_marks_has [X.s 29, X.s 30])]
def C.graph_hang_r10 : List IOper := C.graph_hang_r10_b
def C.graph_hang_r10_w := @aopsE _ _ C.graph_hang_r10.eq_1
def C.graph_hang_c8 : ICode := .keep [2, 3, 4, 6, 8, 15, 16, 17, 23, 24, 25] (.seq (.seq (.region C.graph_hang_r10) C.graph_hang_c7) C.graph_hang_c6)
def C.graph_hang_c8_w := @awpE _ _ C.graph_hang_c8.eq_1
def C.graph_hang_r9_b : List IOper := [
 X.o 27 (.idxAddr 1 (X.s 23) (X.s 25)),
 X.o 28 (.load1 (X.s 27)),
 X.m 8 28]
def C.graph_hang_r9 : List IOper := C.graph_hang_r9_b
def C.graph_hang_r9_w := @aopsE _ _ C.graph_hang_r9.eq_1
def C.graph_hang_b9 : ICode := .seq (.region C.graph_hang_r9) C.graph_hang_c8
def C.graph_hang_b9_w := @awpE _ _ C.graph_hang_b9.eq_1
def C.graph_hang_c10 : ICode := .keep [2, 3, 4, 6, 15, 16, 17, 23, 24, 25] (.seq (.block 3 C.graph_hang_b9) C.graph_hang_c3)
def C.graph_hang_c10_w := @awpE _ _ C.graph_hang_c10.eq_1
def C.graph_hang_c11 : ICode := .keep [2, 3, 4, 6, 15, 16, 17, 23, 24, 25, 26] (.seq (.cond (X.s 26) .skip (.exit 2)) C.graph_hang_c10)
def C.graph_hang_c11_w := @awpE _ _ C.graph_hang_c11.eq_1
def C.graph_hang_r8_b : List IOper := [
 X.o 26 (.bin .lss (X.s 25) (X.s 24))]
def C.graph_hang_r8 : List IOper := C.graph_hang_r8_b
def C.graph_hang_r8_w := @aopsE _ _ C.graph_hang_r8.eq_1
def C.graph_hang_l12 : ICode := .keep [2, 3, 4, 6, 15, 16, 17, 23, 24, 25] (.seq (.region C.graph_hang_r8) C.graph_hang_c11)
def C.graph_hang_l12_w := @awpE _ _ C.graph_hang_l12.eq_1
def C.graph_hang_b13 : ICode := .loop C.graph_hang_l12
def C.graph_hang_b13_w := @awpE _ _ C.graph_hang_b13.eq_1
def C.graph_hang_c14 : ICode := .keep [2, 3, 4, 6, 15, 16, 17, 23, 24, 25] (.block 2 C.graph_hang_b13)
def C.graph_hang_c14_w := @awpE _ _ C.graph_hang_c14.eq_1
def C.graph_hang_r7_b : List IOper := [
 X.m 23 5,
 X.o 24 (.len (X.s 23)),
 X.o 25 (.move (X.i 0))]
def C.graph_hang_r7 : List IOper := C.graph_hang_r7_b
def C.graph_hang_r7_w := @aopsE _ _ C.graph_hang_r7.eq_1
def C.graph_hang_c15 : ICode := .keep [2, 3, 4, 5, 6, 15, 16, 17] (.seq (.region C.graph_hang_r7) C.graph_hang_c14)
def C.graph_hang_c15_w := @awpE _ _ C.graph_hang_c15.eq_1
def C.graph_hang_r6_b : List IOper := [
 X.o 22 (.makeMap none),
 X.m 6 22]
def C.graph_hang_r6 : List IOper := C.graph_hang_r6_b
def C.graph_hang_r6_w := @aopsE _ _ C.graph_hang_r6.eq_1
def C.graph_hang_c16 : ICode := .keep [2, 3, 4, 5, 15, 16, 17] (.seq (.region C.graph_hang_r6) C.graph_hang_c15)
def C.graph_hang_c16_w := @awpE _ _ C.graph_hang_c16.eq_1
def C.graph_hang_r5_b : List IOper := [
 X.m 19 17,
 X.o 20 (.idxAddr 1 (X.s 15) (X.s 17)),
 X.o 21 (.load1 (X.s 20)),
 X.m 4 19,
 X.m 5 21]
def C.graph_hang_r5 : List IOper := C.graph_hang_r5_b
def C.graph_hang_r5_w := @aopsE _ _ C.graph_hang_r5.eq_1
def C.graph_hang_b17 : ICode := .seq (.region C.graph_hang_r5) C.graph_hang_c16
def C.graph_hang_b17_w := @awpE _ _ C.graph_hang_b17.eq_1
def C.graph_hang_c18 : ICode := .keep [2, 3, 15, 16, 17] (.seq (.block 1 C.graph_hang_b17) C.graph_hang_c2)
def C.graph_hang_c18_w := @awpE _ _ C.graph_hang_c18.eq_1
def C.graph_hang_c19 : ICode := .keep [2, 3, 15, 16, 17, 18] (.seq (.cond (X.s 18) .skip (.exit 0)) C.graph_hang_c18)
def C.graph_hang_c19_w := @awpE _ _ C.graph_hang_c19.eq_1
def C.graph_hang_r4_b : List IOper := [
 X.o 18 (.bin .lss (X.s 17) (X.s 16))]
def C.graph_hang_r4 : List IOper := C.graph_hang_r4_b
def C.graph_hang_r4_w := @aopsE _ _ C.graph_hang_r4.eq_1
def C.graph_hang_l20 : ICode := .keep [2, 3, 15, 16, 17] (.seq (.region C.graph_hang_r4) C.graph_hang_c19)
def C.graph_hang_l20_w := @awpE _ _ C.graph_hang_l20.eq_1
def C.graph_hang_b21 : ICode := .loop C.graph_hang_l20
def C.graph_hang_b21_w := @awpE _ _ C.graph_hang_b21.eq_1
def C.graph_hang_c22 : ICode := .keep [2, 3, 15, 16, 17] (.block 0 C.graph_hang_b21)
def C.graph_hang_c22_w := @awpE _ _ C.graph_hang_c22.eq_1
def C.graph_hang_r3_b : List IOper := [
 X.m 15 0,
 X.o 16 (.len (X.s 15)),
 X.o 17 (.move (X.i 0))]
def C.graph_hang_r3 : List IOper := C.graph_hang_r3_b
def C.graph_hang_r3_w := @aopsE _ _ C.graph_hang_r3.eq_1
def C.graph_hang_c23 : ICode := .keep [0, 2, 3] (.seq (.seq (.region C.graph_hang_r3) C.graph_hang_c22) C.graph_hang_c1)
def C.graph_hang_c23_w := @awpE _ _ C.graph_hang_c23.eq_1
def C.graph_hang_r2_b : List IOper := [
 X.m 12 0,
 X.o 13 (.len (X.s 12)),
 X.o 14 (.makeSlice 1 24 [.nils] (X.s 13) (X.s 13)),
 X.m 3 14]
def C.graph_hang_r2 : List IOper := C.graph_hang_r2_b
def C.graph_hang_r2_w := @aopsE _ _ C.graph_hang_r2.eq_1
def C.graph_hang_c24 : ICode := .keep [0, 2] (.seq (.region C.graph_hang_r2) C.graph_hang_c23)
def C.graph_hang_c24_w := @awpE _ _ C.graph_hang_c24.eq_1
def C.graph_hang_r1_b : List IOper := [
 X.m 9 0,
 X.o 10 (.len (X.s 9)),
 X.o 11 (.makeSlice 1 8 [.int .i64 0] (X.s 10) (X.s 10)),
 X.m 2 11]
def C.graph_hang_r1 : List IOper := C.graph_hang_r1_b
def C.graph_hang_r1_w := @aopsE _ _ C.graph_hang_r1.eq_1
def C.graph_hang_c25 : ICode := .keep [0] (.seq (.region C.graph_hang_r1) C.graph_hang_c24)
def C.graph_hang_c25_w := @awpE _ _ C.graph_hang_c25.eq_1
def C.graph_hang_r0_b : List IOper := [
 X.o 2 (.move (.cst (.nils))),
 X.o 3 (.move (.cst (.nils)))]
def C.graph_hang_r0 : List IOper := C.graph_hang_r0_b
def C.graph_hang_r0_w := @aopsE _ _ C.graph_hang_r0.eq_1
def C.graph_hang : IFunc := ⟨1, [.slot 2, .slot 3], .seq (.region C.graph_hang_r0) C.graph_hang_c25⟩
def C.graph_hang_W := And.intro (And.intro (And.intro (And.intro (And.intro @C.graph_hang_r16_w @C.graph_hang_c1_w) (And.intro @C.graph_hang_r15_w (And.intro @C.graph_hang_c2_w @C.graph_hang_r14_w))) (And.intro (And.intro @C.graph_hang_c3_w @C.graph_hang_r13_w) (And.intro @C.graph_hang_c4_w (And.intro @C.graph_hang_r12_w @C.graph_hang_c5_w)))) (And.intro (And.intro (And.intro @C.graph_hang_r11_w @C.graph_hang_c6_w) (And.intro @C.graph_hang_c7_w (And.intro @C.graph_hang_r10_w @C.graph_hang_c8_w))) (And.intro (And.intro @C.graph_hang_r9_w @C.graph_hang_b9_w) (And.intro @C.graph_hang_c10_w (And.intro @C.graph_hang_c11_w @C.graph_hang_r8_w))))) (And.intro (And.intro (And.intro (And.intro @C.graph_hang_b13_w @C.graph_hang_c14_w) (And.intro @C.graph_hang_r7_w (And.intro @C.graph_hang_c15_w @C.graph_hang_r6_w))) (And.intro (And.intro @C.graph_hang_c16_w @C.graph_hang_r5_w) (And.intro @C.graph_hang_b17_w (And.intro @C.graph_hang_c18_w @C.graph_hang_c19_w)))) (And.intro (And.intro (And.intro @C.graph_hang_r4_w @C.graph_hang_b21_w) (And.intro @C.graph_hang_c22_w (And.intro @C.graph_hang_r3_w @C.graph_hang_c23_w))) (And.intro (And.intro @C.graph_hang_r2_w @C.graph_hang_c24_w) (And.intro @C.graph_hang_r1_w (And.intro @C.graph_hang_c25_w @C.graph_hang_r0_w)))))
def C.graph_hang_B := And.intro (And.intro (And.intro (And.intro @C.graph_hang_r16_b.eq_1 @C.graph_hang_r15_b.eq_1) (And.intro @C.graph_hang_r14_b.eq_1 @C.graph_hang_r13_b.eq_1)) (And.intro (And.intro @C.graph_hang_r12_b.eq_1 @C.graph_hang_r11_b.eq_1) (And.intro @C.graph_hang_r10_b.eq_1 @C.graph_hang_r9_b.eq_1))) (And.intro (And.intro (And.intro @C.graph_hang_r8_b.eq_1 @C.graph_hang_r7_b.eq_1) (And.intro @C.graph_hang_r6_b.eq_1 @C.graph_hang_r5_b.eq_1)) (And.intro (And.intro @C.graph_hang_r4_b.eq_1 @C.graph_hang_r3_b.eq_1) (And.intro @C.graph_hang_r2_b.eq_1 (And.intro @C.graph_hang_r1_b.eq_1 @C.graph_hang_r0_b.eq_1))))

def C.graph_marks_has_r2_b : List IOper := [
 X.m 13 6,
 X.m 4 13]
def C.graph_marks_has_r2 : List IOper := C.graph_marks_has_r2_b
def C.graph_marks_has_r2_w := @aopsE _ _ C.graph_marks_has_r2.eq_1
def C.graph_marks_has_c1 : ICode := .keep [6] (.seq (.region C.graph_marks_has_r2) .ret)
def C.graph_marks_has_c1_w := @awpE _ _ C.graph_marks_has_c1.eq_1
def C.graph_marks_has_r1_b : List IOper := [
 X.m 8 0,
 X.m 9 1,
 X.o 10 (.lookup (.agg []) true (X.s 8) (X.s 9)),
 X.m 7 10,
 X.o 11 (.extract (X.s 7) 0),
 X.o 12 (.extract (X.s 7) 1),
 X.o 5 (.alloc []),
 X.n (.storeN 0 (X.s 5) (X.s 11)),
 X.m 6 12]
def C.graph_marks_has_r1 : List IOper := C.graph_marks_has_r1_b
def C.graph_marks_has_r1_w := @aopsE _ _ C.graph_marks_has_r1.eq_1
def C.graph_marks_has_c2 : ICode := .keep [0, 1] (.seq (.region C.graph_marks_has_r1) C.graph_marks_has_c1)
def C.graph_marks_has_c2_w := @awpE _ _ C.graph_marks_has_c2.eq_1
def C.graph_marks_has_r0_b : List IOper := [
 X.o 4 (.move (.cst (.bool false)))]
def C.graph_marks_has_r0 : List IOper := C.graph_marks_has_r0_b
def C.graph_marks_has_r0_w := @aopsE _ _ C.graph_marks_has_r0.eq_1
def C.graph_marks_has : IFunc := ⟨2, [.slot 4], .seq (.region C.graph_marks_has_r0) C.graph_marks_has_c2⟩
def C.graph_marks_has_W := And.intro (And.intro @C.graph_marks_has_r2_w @C.graph_marks_has_c1_w) (And.intro @C.graph_marks_has_r1_w (And.intro @C.graph_marks_has_c2_w @C.graph_marks_has_r0_w))
def C.graph_marks_has_B := And.intro @C.graph_marks_has_r2_b.eq_1 (And.intro @C.graph_marks_has_r1_b.eq_1 @C.graph_marks_has_r0_b.eq_1)

def C.graph_marks_add_r0_b : List IOper := [
 X.m 4 0,
 X.m 5 1,
 X.o 6 (.build [] []),
 X.n (.mapSet (X.s 4) (X.s 5) (X.s 6))]
def C.graph_marks_add_r0 : List IOper := C.graph_marks_add_r0_b
def C.graph_marks_add_r0_w := @aopsE _ _ C.graph_marks_add_r0.eq_1
def C.graph_marks_add : IFunc := ⟨2, [], .region C.graph_marks_add_r0⟩
def C.graph_marks_add_W := @C.graph_marks_add_r0_w
def C.graph_marks_add_B := @C.graph_marks_add_r0_b.eq_1

def C.slices_Reverse_int_int_r2_b : List IOper := [
 X.m 10 2,
 X.o 11 (.bin .add (X.s 10) (X.i 1)),
 X.m 12 3,
 X.o 13 (.bin .sub (X.s 12) (X.i 1)),
 X.m 2 11,
 X.m 3 13]
def C.slices_Reverse_int_int_r2 : List IOper := C.slices_Reverse_int_int_r2_b
def C.slices_Reverse_int_int_r2_w := @aopsE _ _ C.slices_Reverse_int_int_r2.eq_1
def C.slices_Reverse_int_int_c1 : ICode := .keep [0, 2, 3] (.region C.slices_Reverse_int_int_r2)
def C.slices_Reverse_int_int_c1_w := @awpE _ _ C.slices_Reverse_int_int_c1.eq_1
def C.slices_Reverse_int_int_r3_b : List IOper := [
 X.m 14 0,
 X.m 15 2,
 X.m 16 0,
 X.m 17 3,
 X.m 18 0,
 X.m 19 3,
 X.o 20 (.idxAddr 1 (X.s 18) (X.s 19)),
 X.o 21 (.load1 (X.s 20)),
 X.m 22 0,
 X.m 23 2,
 X.o 24 (.idxAddr 1 (X.s 22) (X.s 23)),
 X.o 25 (.load1 (X.s 24)),
 X.o 26 (.idxAddr 1 (X.s 14) (X.s 15)),
 X.n (.store1 (X.s 26) (X.s 21)),
 X.o 27 (.idxAddr 1 (X.s 16) (X.s 17)),
 X.n (.store1 (X.s 27) (X.s 25))]
def C.slices_Reverse_int_int_r3 : List IOper := C.slices_Reverse_int_int_r3_b
def C.slices_Reverse_int_int_r3_w := @aopsE _ _ C.slices_Reverse_int_int_r3.eq_1
def C.slices_Reverse_int_int_b2 : ICode := .region C.slices_Reverse_int_int_r3
def C.slices_Reverse_int_int_b2_w := @awpE _ _ C.slices_Reverse_int_int_b2.eq_1
def C.slices_Reverse_int_int_c3 : ICode := .keep [0, 2, 3] (.seq (.block 1 C.slices_Reverse_int_int_b2) C.slices_Reverse_int_int_c1)
def C.slices_Reverse_int_int_c3_w := @awpE _ _ C.slices_Reverse_int_int_c3.eq_1
def C.slices_Reverse_int_int_c4 : ICode := .keep [0, 2, 3, 9] (.cond (X.s 9) .skip (.exit 0))
def C.slices_Reverse_int_int_c4_w := @awpE _ _ C.slices_Reverse_int_int_c4.eq_1
def C.slices_Reverse_int_int_r1_b : List IOper := [
 X.m 7 2,
 X.m 8 3,
 X.o 9 (.bin .lss (X.s 7) (X.s 8))]
def C.slices_Reverse_int_int_r1 : List IOper := C.slices_Reverse_int_int_r1_b
def C.slices_Reverse_int_int_r1_w := @aopsE _ _ C.slices_Reverse_int_int_r1.eq_1
def C.slices_Reverse_int_int_l5 : ICode := .keep [0, 2, 3] (.seq (.seq (.region C.slices_Reverse_int_int_r1) C.slices_Reverse_int_int_c4) C.slices_Reverse_int_int_c3)
def C.slices_Reverse_int_int_l5_w := @awpE _ _ C.slices_Reverse_int_int_l5.eq_1
def C.slices_Reverse_int_int_b6 : ICode := .loop C.slices_Reverse_int_int_l5
def C.slices_Reverse_int_int_b6_w := @awpE _ _ C.slices_Reverse_int_int_b6.eq_1
def C.slices_Reverse_int_int_c7 : ICode := .keep [0, 2, 3] (.block 0 C.slices_Reverse_int_int_b6)
def C.slices_Reverse_int_int_c7_w := @awpE _ _ C.slices_Reverse_int_int_c7.eq_1
def C.slices_Reverse_int_int_r0_b : List IOper := [
 X.m 4 0,
 X.o 5 (.len (X.s 4)),
 X.o 6 (.bin .sub (X.s 5) (X.i 1)),
 X.o 2 (.move (X.i 0)),
 X.m 3 6]
def C.slices_Reverse_int_int_r0 : List IOper := C.slices_Reverse_int_int_r0_b
def C.slices_Reverse_int_int_r0_w := @aopsE _ _ C.slices_Reverse_int_int_r0.eq_1
def C.slices_Reverse_int_int : IFunc := ⟨1, [], .seq (.region C.slices_Reverse_int_int_r0) C.slices_Reverse_int_int_c7⟩
def C.slices_Reverse_int_int_W := And.intro (And.intro (And.intro @C.slices_Reverse_int_int_r2_w @C.slices_Reverse_int_int_c1_w) (And.intro @C.slices_Reverse_int_int_r3_w (And.intro @C.slices_Reverse_int_int_b2_w @C.slices_Reverse_int_int_c3_w))) (And.intro (And.intro @C.slices_Reverse_int_int_c4_w @C.slices_Reverse_int_int_r1_w) (And.intro @C.slices_Reverse_int_int_b6_w (And.intro @C.slices_Reverse_int_int_c7_w @C.slices_Reverse_int_int_r0_w)))
def C.slices_Reverse_int_int_B := And.intro (And.intro @C.slices_Reverse_int_int_r2_b.eq_1 @C.slices_Reverse_int_int_r3_b.eq_1) (And.intro @C.slices_Reverse_int_int_r1_b.eq_1 @C.slices_Reverse_int_int_r0_b.eq_1)

def C.conf_first_r8_b : List IOper := [
 X.o 2 (.move (X.i 0))]
def C.conf_first_r8 : List IOper := C.conf_first_r8_b
def C.conf_first_r8_w := @aopsE _ _ C.conf_first_r8.eq_1
def C.conf_first_c1 : ICode := .keep [] (.seq (.region C.conf_first_r8) .ret)
def C.conf_first_c1_w := @awpE _ _ C.conf_first_c1.eq_1
def C.conf_first_r7_b : List IOper := [
 X.o 17 (.bin .add (X.s 8) (X.i 1)),
 X.m 8 17]
def C.conf_first_r7 : List IOper := C.conf_first_r7_b
def C.conf_first_r7_w := @aopsE _ _ C.conf_first_r7.eq_1
def C.conf_first_c2 : ICode := .keep [6, 7, 8] (.region C.conf_first_r7)
def C.conf_first_c2_w := @awpE _ _ C.conf_first_c2.eq_1
def C.conf_first_r6_b : List IOper := [
 X.m 16 5,
 X.m 2 16]
def C.conf_first_r6 : List IOper := C.conf_first_r6_b
def C.conf_first_r6_w := @aopsE _ _ C.conf_first_r6.eq_1
def C.conf_first_c3 : ICode := .seq (.region C.conf_first_r6) .ret
def C.conf_first_c3_w := @awpE _ _ C.conf_first_c3.eq_1
def C.conf_first_c4 : ICode := .keep [5, 6, 7, 8, 15] (.cond (X.s 15) C.conf_first_c3 .skip)
def C.conf_first_c4_w := @awpE _ _ C.conf_first_c4.eq_1
def C.conf_first_r5_b : List IOper := [
 X.m 14 5,
 X.o 15 (.bin .neq (X.s 14) (X.i 0))]
def C.conf_first_r5 : List IOper := C.conf_first_r5_b
def C.conf_first_r5_w := @aopsE _ _ C.conf_first_r5.eq_1
def C.conf_first_c5 : ICode := .keep [5, 6, 7, 8] (.seq (.region C.conf_first_r5) C.conf_first_c4)
def C.conf_first_c5_w := @awpE _ _ C.conf_first_c5.eq_1
def C.conf_first_r4_b : List IOper := [
 X.m 12 4,
 X.o 13 (.callv (X.s 12) []),
 X.m 5 13]
def C.conf_first_r4 : List IOper := C.conf_first_r4_b
def C.conf_first_r4_w := @aopsE _ _ C.conf_first_r4.eq_1
def C.conf_first_c6 : ICode := .keep [4, 6, 7, 8] (.seq (.region C.conf_first_r4) C.conf_first_c5)
def C.conf_first_c6_w := @awpE _ _ C.conf_first_c6.eq_1
def C.conf_first_r3_b : List IOper := [
 X.o 10 (.idxAddr 1 (X.s 6) (X.s 8)),
 X.o 11 (.load1 (X.s 10)),
 X.m 4 11]
def C.conf_first_r3 : List IOper := C.conf_first_r3_b
def C.conf_first_r3_w := @aopsE _ _ C.conf_first_r3.eq_1
def C.conf_first_b7 : ICode := .seq (.region C.conf_first_r3) C.conf_first_c6
def C.conf_first_b7_w := @awpE _ _ C.conf_first_b7.eq_1
def C.conf_first_c8 : ICode := .keep [6, 7, 8] (.seq (.block 1 C.conf_first_b7) C.conf_first_c2)
def C.conf_first_c8_w := @awpE _ _ C.conf_first_c8.eq_1
def C.conf_first_c9 : ICode := .keep [6, 7, 8, 9] (.seq (.cond (X.s 9) .skip (.exit 0)) C.conf_first_c8)
def C.conf_first_c9_w := @awpE _ _ C.conf_first_c9.eq_1
def C.conf_first_r2_b : List IOper := [
 X.o 9 (.bin .lss (X.s 8) (X.s 7))]
def C.conf_first_r2 : List IOper := C.conf_first_r2_b
def C.conf_first_r2_w := @aopsE _ _ C.conf_first_r2.eq_1
def C.conf_first_l10 : ICode := .keep [6, 7, 8] (.seq (.region C.conf_first_r2) C.conf_first_c9)
def C.conf_first_l10_w := @awpE _ _ C.conf_first_l10.eq_1
def C.conf_first_b11 : ICode := .loop C.conf_first_l10
def C.conf_first_b11_w := @awpE _ _ C.conf_first_b11.eq_1
def C.conf_first_c12 : ICode := .keep [6, 7, 8] (.block 0 C.conf_first_b11)
def C.conf_first_c12_w := @awpE _ _ C.conf_first_c12.eq_1
def C.conf_first_r1_b : List IOper := [
 X.m 6 0,
 X.o 7 (.len (X.s 6)),
 X.o 8 (.move (X.i 0))]
def C.conf_first_r1 : List IOper := C.conf_first_r1_b
def C.conf_first_r1_w := @aopsE _ _ C.conf_first_r1.eq_1
def C.conf_first_c13 : ICode := .keep [0] (.seq (.seq (.region C.conf_first_r1) C.conf_first_c12) C.conf_first_c1)
def C.conf_first_c13_w := @awpE _ _ C.conf_first_c13.eq_1
def C.conf_first_r0_b : List IOper := [
 X.o 2 (.move (X.i 0))]
def C.conf_first_r0 : List IOper := C.conf_first_r0_b
def C.conf_first_r0_w := @aopsE _ _ C.conf_first_r0.eq_1
def C.conf_first : IFunc := ⟨1, [.slot 2], .seq (.region C.conf_first_r0) C.conf_first_c13⟩
def C.conf_first_W := And.intro (And.intro (And.intro (And.intro @C.conf_first_r8_w @C.conf_first_c1_w) (And.intro @C.conf_first_r7_w (And.intro @C.conf_first_c2_w @C.conf_first_r6_w))) (And.intro (And.intro @C.conf_first_c3_w @C.conf_first_c4_w) (And.intro @C.conf_first_r5_w (And.intro @C.conf_first_c5_w @C.conf_first_r4_w)))) (And.intro (And.intro (And.intro @C.conf_first_c6_w @C.conf_first_r3_w) (And.intro @C.conf_first_b7_w (And.intro @C.conf_first_c8_w @C.conf_first_c9_w))) (And.intro (And.intro @C.conf_first_r2_w (And.intro @C.conf_first_b11_w @C.conf_first_c12_w)) (And.intro @C.conf_first_r1_w (And.intro @C.conf_first_c13_w @C.conf_first_r0_w))))
def C.conf_first_B := And.intro (And.intro (And.intro @C.conf_first_r8_b.eq_1 @C.conf_first_r7_b.eq_1) (And.intro @C.conf_first_r6_b.eq_1 @C.conf_first_r5_b.eq_1)) (And.intro (And.intro @C.conf_first_r4_b.eq_1 @C.conf_first_r3_b.eq_1) (And.intro @C.conf_first_r2_b.eq_1 (And.intro @C.conf_first_r1_b.eq_1 @C.conf_first_r0_b.eq_1)))

def C.conf_Check_1_r1_b : List IOper := [
 X.o 2 (.loadN 4 (X.s 0)),
 X.o 3 (.call F.conf_full [X.s 2]),
 X.m 1 3]
def C.conf_Check_1_r1 : List IOper := C.conf_Check_1_r1_b
def C.conf_Check_1_r1_w := @aopsE _ _ C.conf_Check_1_r1.eq_1
def C.conf_Check_1_c1 : ICode := .keep [0] (.seq (.region C.conf_Check_1_r1) .ret)
def C.conf_Check_1_c1_w := @awpE _ _ C.conf_Check_1_c1.eq_1
def C.conf_Check_1_r0_b : List IOper := [
 X.o 1 (.move (X.i 0))]
def C.conf_Check_1_r0 : List IOper := C.conf_Check_1_r0_b
def C.conf_Check_1_r0_w := @aopsE _ _ C.conf_Check_1_r0.eq_1
def C.conf_Check_1 : IFunc := ⟨1, [.slot 1], .seq (.region C.conf_Check_1_r0) C.conf_Check_1_c1⟩
def C.conf_Check_1_W := And.intro @C.conf_Check_1_r1_w (And.intro @C.conf_Check_1_c1_w @C.conf_Check_1_r0_w)
def C.conf_Check_1_B := And.intro @C.conf_Check_1_r1_b.eq_1 @C.conf_Check_1_r0_b.eq_1

def C.conf_full_r3_b : List IOper := [
 X.o 25 (.fldAddr 3 (X.s 1)),
 X.o 26 (.load1 (X.s 25)),
 X.o 27 (.call F.conf_each_api_Device [X.s 26, .fnc F.conf_full_1]),
 X.m 2 27]
def C.conf_full_r3 : List IOper := C.conf_full_r3_b
def C.conf_full_r3_w := @aopsE _ _ C.conf_full_r3.eq_1
def C.conf_full_c1 : ICode := .keep [1] (.seq (.region C.conf_full_r3) .ret)
def C.conf_full_c1_w := @awpE _ _ C.conf_full_c1.eq_1
def C.conf_full_r2_b : List IOper := [
 X.o 2 (.move (X.i 8))]
def C.conf_full_r2 : List IOper := C.conf_full_r2_b
def C.conf_full_r2_w := @aopsE _ _ C.conf_full_r2.eq_1
def C.conf_full_c2 : ICode := .seq (.region C.conf_full_r2) .ret
def C.conf_full_c2_w := @awpE _ _ C.conf_full_c2.eq_1
def C.conf_full_c3 : ICode := .keep [1, 24] (.cond (X.s 24) C.conf_full_c2 .skip)
def C.conf_full_c3_w := @awpE _ _ C.conf_full_c3.eq_1
def C.conf_full_r1_b : List IOper := [
 X.o 3 (.fldAddr 0 (X.s 1)),
 X.o 4 (.load1 (X.s 3)),
 X.o 5 (.len (X.s 4)),
 X.o 6 (.bin .gtr (X.s 5) (X.i 12)),
 X.m 7 6,
 X.f 7 8 (.fldAddr 1 (X.s 1)),
 X.f 7 9 (.load1 (X.s 8)),
 X.f 7 10 (.len (X.s 9)),
 X.f 7 11 (.bin .gtr (X.s 10) (X.i 6)),
 X.o 12 (.pick (X.s 7) (.cst (.bool true)) (X.s 11)),
 X.m 13 12,
 X.f 13 14 (.fldAddr 2 (X.s 1)),
 X.f 13 15 (.load1 (X.s 14)),
 X.f 13 16 (.len (X.s 15)),
 X.f 13 17 (.bin .gtr (X.s 16) (X.i 6)),
 X.o 18 (.pick (X.s 13) (.cst (.bool true)) (X.s 17)),
 X.m 19 18,
 X.f 19 20 (.fldAddr 3 (X.s 1)),
 X.f 19 21 (.load1 (X.s 20)),
 X.f 19 22 (.len (X.s 21)),
 X.f 19 23 (.bin .gtr (X.s 22) (X.i 6)),
 X.o 24 (.pick (X.s 19) (.cst (.bool true)) (X.s 23))]
def C.conf_full_r1 : List IOper := C.conf_full_r1_b
def C.conf_full_r1_w := @aopsE _ _ C.conf_full_r1.eq_1
def C.conf_full_c4 : ICode := .keep [1] (.seq (.seq (.region C.conf_full_r1) C.conf_full_c3) C.conf_full_c1)
def C.conf_full_c4_w := @awpE _ _ C.conf_full_c4.eq_1
def C.conf_full_r0_b : List IOper := [
 X.o 1 (.boxN (X.s 0)),
 X.o 2 (.move (X.i 0))]
def C.conf_full_r0 : List IOper := C.conf_full_r0_b
def C.conf_full_r0_w := @aopsE _ _ C.conf_full_r0.eq_1
def C.conf_full : IFunc := ⟨1, [.slot 2], .seq (.region C.conf_full_r0) C.conf_full_c4⟩
def C.conf_full_W := And.intro (And.intro (And.intro @C.conf_full_r3_w @C.conf_full_c1_w) (And.intro @C.conf_full_r2_w @C.conf_full_c2_w)) (And.intro (And.intro @C.conf_full_c3_w @C.conf_full_r1_w) (And.intro @C.conf_full_c4_w @C.conf_full_r0_w))
def C.conf_full_B := And.intro (And.intro @C.conf_full_r3_b.eq_1 @C.conf_full_r2_b.eq_1) (And.intro @C.conf_full_r1_b.eq_1 @C.conf_full_r0_b.eq_1)

def C.conf_Check_2_r1_b : List IOper := [
 X.o 2 (.fldAddr 0 (X.s 0)),
 X.o 3 (.load1 (X.s 2)),
 X.o 4 (.makeFunc F.conf_Check_2_1 [X.s 0]),
 X.o 5 (.call F.conf_each_api_Clock [X.s 3, X.s 4]),
 X.m 1 5]
def C.conf_Check_2_r1 : List IOper := C.conf_Check_2_r1_b
def C.conf_Check_2_r1_w := @aopsE _ _ C.conf_Check_2_r1.eq_1
def C.conf_Check_2_c1 : ICode := .keep [0] (.seq (.region C.conf_Check_2_r1) .ret)
def C.conf_Check_2_c1_w := @awpE _ _ C.conf_Check_2_c1.eq_1
def C.conf_Check_2_r0_b : List IOper := [
 X.o 1 (.move (X.i 0))]
def C.conf_Check_2_r0 : List IOper := C.conf_Check_2_r0_b
def C.conf_Check_2_r0_w := @aopsE _ _ C.conf_Check_2_r0.eq_1
def C.conf_Check_2 : IFunc := ⟨1, [.slot 1], .seq (.region C.conf_Check_2_r0) C.conf_Check_2_c1⟩
def C.conf_Check_2_W := And.intro @C.conf_Check_2_r1_w (And.intro @C.conf_Check_2_c1_w @C.conf_Check_2_r0_w)
def C.conf_Check_2_B := And.intro @C.conf_Check_2_r1_b.eq_1 @C.conf_Check_2_r0_b.eq_1

def C.conf_each_api_Clock_r8_b : List IOper := [
 X.o 4 (.move (X.i 0))]
def C.conf_each_api_Clock_r8 : List IOper := C.conf_each_api_Clock_r8_b
def C.conf_each_api_Clock_r8_w := @aopsE _ _ C.conf_each_api_Clock_r8.eq_1
def C.conf_each_api_Clock_c1 : ICode := .keep [] (.seq (.region C.conf_each_api_Clock_r8) .ret)
def C.conf_each_api_Clock_c1_w := @awpE _ _ C.conf_each_api_Clock_c1.eq_1
def C.conf_each_api_Clock_r7_b : List IOper := [
 X.o 20 (.bin .add (X.s 10) (X.i 1)),
 X.m 10 20]
def C.conf_each_api_Clock_r7 : List IOper := C.conf_each_api_Clock_r7_b
def C.conf_each_api_Clock_r7_w := @aopsE _ _ C.conf_each_api_Clock_r7.eq_1
def C.conf_each_api_Clock_c2 : ICode := .keep [1, 8, 9, 10] (.region C.conf_each_api_Clock_r7)
def C.conf_each_api_Clock_c2_w := @awpE _ _ C.conf_each_api_Clock_c2.eq_1
def C.conf_each_api_Clock_r6_b : List IOper := [
 X.m 19 7,
 X.m 4 19]
def C.conf_each_api_Clock_r6 : List IOper := C.conf_each_api_Clock_r6_b
def C.conf_each_api_Clock_r6_w := @aopsE _ _ C.conf_each_api_Clock_r6.eq_1
def C.conf_each_api_Clock_c3 : ICode := .seq (.region C.conf_each_api_Clock_r6) .ret
def C.conf_each_api_Clock_c3_w := @awpE _ _ C.conf_each_api_Clock_c3.eq_1
def C.conf_each_api_Clock_c4 : ICode := .keep [1, 7, 8, 9, 10, 18] (.cond (X.s 18) C.conf_each_api_Clock_c3 .skip)
def C.conf_each_api_Clock_c4_w := @awpE _ _ C.conf_each_api_Clock_c4.eq_1
def C.conf_each_api_Clock_r5_b : List IOper := [
 X.m 17 7,
 X.o 18 (.bin .neq (X.s 17) (X.i 0))]
def C.conf_each_api_Clock_r5 : List IOper := C.conf_each_api_Clock_r5_b
def C.conf_each_api_Clock_r5_w := @aopsE _ _ C.conf_each_api_Clock_r5.eq_1
def C.conf_each_api_Clock_c5 : ICode := .keep [1, 7, 8, 9, 10] (.seq (.region C.conf_each_api_Clock_r5) C.conf_each_api_Clock_c4)
def C.conf_each_api_Clock_c5_w := @awpE _ _ C.conf_each_api_Clock_c5.eq_1
def C.conf_each_api_Clock_r4_b : List IOper := [
 X.m 14 1,
 X.o 15 (.loadN 6 (X.s 6)),
 X.o 16 (.callv (X.s 14) [X.s 15]),
 X.m 7 16]
def C.conf_each_api_Clock_r4 : List IOper := C.conf_each_api_Clock_r4_b
def C.conf_each_api_Clock_r4_w := @aopsE _ _ C.conf_each_api_Clock_r4.eq_1
def C.conf_each_api_Clock_c6 : ICode := .keep [1, 6, 8, 9, 10] (.seq (.region C.conf_each_api_Clock_r4) C.conf_each_api_Clock_c5)
def C.conf_each_api_Clock_c6_w := @awpE _ _ C.conf_each_api_Clock_c6.eq_1
def C.conf_each_api_Clock_r3_b : List IOper := [
 X.o 12 (.idxAddr 6 (X.s 8) (X.s 10)),
 X.o 13 (.loadN 6 (X.s 12)),
 X.o 6 (.alloc [.int .u8 0, .nils, .int .u64 0, .int .i64 0, .int .i64 0, .int .i64 0]),
 X.n (.storeN 6 (X.s 6) (X.s 13))]
def C.conf_each_api_Clock_r3 : List IOper := C.conf_each_api_Clock_r3_b
def C.conf_each_api_Clock_r3_w := @aopsE _ _ C.conf_each_api_Clock_r3.eq_1
def C.conf_each_api_Clock_b7 : ICode := .seq (.region C.conf_each_api_Clock_r3) C.conf_each_api_Clock_c6
def C.conf_each_api_Clock_b7_w := @awpE _ _ C.conf_each_api_Clock_b7.eq_1
def C.conf_each_api_Clock_c8 : ICode := .keep [1, 8, 9, 10] (.seq (.block 1 C.conf_each_api_Clock_b7) C.conf_each_api_Clock_c2)
def C.conf_each_api_Clock_c8_w := @awpE _ _ C.conf_each_api_Clock_c8.eq_1
def C.conf_each_api_Clock_c9 : ICode := .keep [1, 8, 9, 10, 11] (.seq (.cond (X.s 11) .skip (.exit 0)) C.conf_each_api_Clock_c8)
def C.conf_each_api_Clock_c9_w := @awpE _ _ C.conf_each_api_Clock_c9.eq_1
def C.conf_each_api_Clock_r2_b : List IOper := [
 X.o 11 (.bin .lss (X.s 10) (X.s 9))]
def C.conf_each_api_Clock_r2 : List IOper := C.conf_each_api_Clock_r2_b
def C.conf_each_api_Clock_r2_w := @aopsE _ _ C.conf_each_api_Clock_r2.eq_1
def C.conf_each_api_Clock_l10 : ICode := .keep [1, 8, 9, 10] (.seq (.region C.conf_each_api_Clock_r2) C.conf_each_api_Clock_c9)
def C.conf_each_api_Clock_l10_w := @awpE _ _ C.conf_each_api_Clock_l10.eq_1
def C.conf_each_api_Clock_b11 : ICode := .loop C.conf_each_api_Clock_l10
def C.conf_each_api_Clock_b11_w := @awpE _ _ C.conf_each_api_Clock_b11.eq_1
def C.conf_each_api_Clock_c12 : ICode := .keep [1, 8, 9, 10] (.block 0 C.conf_each_api_Clock_b11)
def C.conf_each_api_Clock_c12_w := @awpE _ _ C.conf_each_api_Clock_c12.eq_1
def C.conf_each_api_Clock_r1_b : List IOper := [
 X.m 8 0,
 X.o 9 (.len (X.s 8)),
 X.o 10 (.move (X.i 0))]
def C.conf_each_api_Clock_r1 : List IOper := C.conf_each_api_Clock_r1_b
def C.conf_each_api_Clock_r1_w := @aopsE _ _ C.conf_each_api_Clock_r1.eq_1
def C.conf_each_api_Clock_c13 : ICode := .keep [0, 1] (.seq (.seq (.region C.conf_each_api_Clock_r1) C.conf_each_api_Clock_c12) C.conf_each_api_Clock_c1)
def C.conf_each_api_Clock_c13_w := @awpE _ _ C.conf_each_api_Clock_c13.eq_1
def C.conf_each_api_Clock_r0_b : List IOper := [
 X.o 4 (.move (X.i 0))]
def C.conf_each_api_Clock_r0 : List IOper := C.conf_each_api_Clock_r0_b
def C.conf_each_api_Clock_r0_w := @aopsE _ _ C.conf_each_api_Clock_r0.eq_1
def C.conf_each_api_Clock : IFunc := ⟨2, [.slot 4], .seq (.region C.conf_each_api_Clock_r0) C.conf_each_api_Clock_c13⟩
def C.conf_each_api_Clock_W := And.intro (And.intro (And.intro (And.intro @C.conf_each_api_Clock_r8_w @C.conf_each_api_Clock_c1_w) (And.intro @C.conf_each_api_Clock_r7_w (And.intro @C.conf_each_api_Clock_c2_w @C.conf_each_api_Clock_r6_w))) (And.intro (And.intro @C.conf_each_api_Clock_c3_w @C.conf_each_api_Clock_c4_w) (And.intro @C.conf_each_api_Clock_r5_w (And.intro @C.conf_each_api_Clock_c5_w @C.conf_each_api_Clock_r4_w)))) (And.intro (And.intro (And.intro @C.conf_each_api_Clock_c6_w @C.conf_each_api_Clock_r3_w) (And.intro @C.conf_each_api_Clock_b7_w (And.intro @C.conf_each_api_Clock_c8_w @C.conf_each_api_Clock_c9_w))) (And.intro (And.intro @C.conf_each_api_Clock_r2_w (And.intro @C.conf_each_api_Clock_b11_w @C.conf_each_api_Clock_c12_w)) (And.intro @C.conf_each_api_Clock_r1_w (And.intro @C.conf_each_api_Clock_c13_w @C.conf_each_api_Clock_r0_w))))
def C.conf_each_api_Clock_B := And.intro (And.intro (And.intro @C.conf_each_api_Clock_r8_b.eq_1 @C.conf_each_api_Clock_r7_b.eq_1) (And.intro @C.conf_each_api_Clock_r6_b.eq_1 @C.conf_each_api_Clock_r5_b.eq_1)) (And.intro (And.intro @C.conf_each_api_Clock_r4_b.eq_1 @C.conf_each_api_Clock_r3_b.eq_1) (And.intro @C.conf_each_api_Clock_r2_b.eq_1 (And.intro @C.conf_each_api_Clock_r1_b.eq_1 @C.conf_each_api_Clock_r0_b.eq_1)))

def C.conf_Check_2_1_r1_b : List IOper := [
 X.o 4 (.loadN 4 (X.s 1)),
 X.o 5 (.loadN 6 (X.s 2)),
 X.o 6 (.call F.conf_clock [X.s 4, X.s 5]),
 X.m 3 6]
def C.conf_Check_2_1_r1 : List IOper := C.conf_Check_2_1_r1_b
def C.conf_Check_2_1_r1_w := @aopsE _ _ C.conf_Check_2_1_r1.eq_1
def C.conf_Check_2_1_c1 : ICode := .keep [1, 2] (.seq (.region C.conf_Check_2_1_r1) .ret)
def C.conf_Check_2_1_c1_w := @awpE _ _ C.conf_Check_2_1_c1.eq_1
def C.conf_Check_2_1_r0_b : List IOper := [
 X.o 2 (.boxN (X.s 0)),
 X.o 3 (.move (X.i 0))]
def C.conf_Check_2_1_r0 : List IOper := C.conf_Check_2_1_r0_b
def C.conf_Check_2_1_r0_w := @aopsE _ _ C.conf_Check_2_1_r0.eq_1
def C.conf_Check_2_1 : IFunc := ⟨2, [.slot 3], .seq (.region C.conf_Check_2_1_r0) C.conf_Check_2_1_c1⟩
def C.conf_Check_2_1_W := And.intro @C.conf_Check_2_1_r1_w (And.intro @C.conf_Check_2_1_c1_w @C.conf_Check_2_1_r0_w)
def C.conf_Check_2_1_B := And.intro @C.conf_Check_2_1_r1_b.eq_1 @C.conf_Check_2_1_r0_b.eq_1

def C.conf_clock_r1_b : List IOper := [
 X.o 5 (.makeFunc F.conf_clock_1 [X.s 3]),
 X.o 6 (.makeFunc F.conf_clock_2 [X.s 3, X.s 2]),
 X.o 7 (.makeFunc F.conf_clock_3 [X.s 3]),
 X.o 8 (.buildSlice 1 3 [.nilf] [(0, 1, X.s 5), (1, 1, X.s 6), (2, 1, X.s 7)]),
 X.o 9 (.call F.conf_first [X.s 8]),
 X.m 4 9]
def C.conf_clock_r1 : List IOper := C.conf_clock_r1_b
def C.conf_clock_r1_w := @aopsE _ _ C.conf_clock_r1.eq_1
def C.conf_clock_c1 : ICode := .keep [2, 3] (.seq (.region C.conf_clock_r1) .ret)
def C.conf_clock_c1_w := @awpE _ _ C.conf_clock_c1.eq_1
def C.conf_clock_r0_b : List IOper := [
 X.o 2 (.boxN (X.s 0)),
 X.o 3 (.boxN (X.s 1)),
 X.o 4 (.move (X.i 0))]
def C.conf_clock_r0 : List IOper := C.conf_clock_r0_b
def C.conf_clock_r0_w := @aopsE _ _ C.conf_clock_r0.eq_1
def C.conf_clock : IFunc := ⟨2, [.slot 4], .seq (.region C.conf_clock_r0) C.conf_clock_c1⟩
def C.conf_clock_W := And.intro @C.conf_clock_r1_w (And.intro @C.conf_clock_c1_w @C.conf_clock_r0_w)
def C.conf_clock_B := And.intro @C.conf_clock_r1_b.eq_1 @C.conf_clock_r0_b.eq_1

def C.conf_Check_3_r1_b : List IOper := [
 X.o 2 (.loadN 4 (X.s 0)),
 X.o 3 (.call F.conf_Clocks [X.s 2]),
 X.o 4 (.call F.conf_cycle [X.s 3]),
 X.m 1 4]
def C.conf_Check_3_r1 : List IOper := C.conf_Check_3_r1_b
def C.conf_Check_3_r1_w := @aopsE _ _ C.conf_Check_3_r1.eq_1
def C.conf_Check_3_c1 : ICode := .keep [0] (.seq (.region C.conf_Check_3_r1) .ret)
def C.conf_Check_3_c1_w := @awpE _ _ C.conf_Check_3_c1.eq_1
def C.conf_Check_3_r0_b : List IOper := [
 X.o 1 (.move (X.i 0))]
def C.conf_Check_3_r0 : List IOper := C.conf_Check_3_r0_b
def C.conf_Check_3_r0_w := @aopsE _ _ C.conf_Check_3_r0.eq_1
def C.conf_Check_3 : IFunc := ⟨1, [.slot 1], .seq (.region C.conf_Check_3_r0) C.conf_Check_3_c1⟩
def C.conf_Check_3_W := And.intro @C.conf_Check_3_r1_w (And.intro @C.conf_Check_3_c1_w @C.conf_Check_3_r0_w)
def C.conf_Check_3_B := And.intro @C.conf_Check_3_r1_b.eq_1 @C.conf_Check_3_r0_b.eq_1

def C.conf_cycle_r1_b : List IOper := [
 X.m 3 0,
 X.o 4 (.call F.graph_Check [X.s 3]),
 X.o 5 (.bin .eql (X.s 4) (X.i 5)),
 X.o 6 (.call F.conf_when [X.s 5, X.i 5]),
 X.m 2 6]
def C.conf_cycle_r1 : List IOper := C.conf_cycle_r1_b
def C.conf_cycle_r1_w := @aopsE _ _ C.conf_cycle_r1.eq_1
def C.conf_cycle_c1 : ICode := .keep [0] (.seq (.region C.conf_cycle_r1) .ret)
def C.conf_cycle_c1_w := @awpE _ _ C.conf_cycle_c1.eq_1
def C.conf_cycle_r0_b : List IOper := [
 X.o 2 (.move (X.i 0))]
def C.conf_cycle_r0 : List IOper := C.conf_cycle_r0_b
def C.conf_cycle_r0_w := @aopsE _ _ C.conf_cycle_r0.eq_1
def C.conf_cycle : IFunc := ⟨1, [.slot 2], .seq (.region C.conf_cycle_r0) C.conf_cycle_c1⟩
def C.conf_cycle_W := And.intro @C.conf_cycle_r1_w (And.intro @C.conf_cycle_c1_w @C.conf_cycle_r0_w)
def C.conf_cycle_B := And.intro @C.conf_cycle_r1_b.eq_1 @C.conf_cycle_r0_b.eq_1

def C.conf_Clocks_r7_b : List IOper := [
 X.m 25 3,
 X.m 2 25]
def C.conf_Clocks_r7 : List IOper := C.conf_Clocks_r7_b
def C.conf_Clocks_r7_w := @aopsE _ _ C.conf_Clocks_r7.eq_1
def C.conf_Clocks_c1 : ICode := .keep [3] (.seq (.region C.conf_Clocks_r7) .ret)
def C.conf_Clocks_c1_w := @awpE _ _ C.conf_Clocks_c1.eq_1
def C.conf_Clocks_r6_b : List IOper := [
 X.o 24 (.bin .add (X.s 13) (X.i 1)),
 X.m 13 24]
def C.conf_Clocks_r6 : List IOper := C.conf_Clocks_r6_b
def C.conf_Clocks_r6_w := @aopsE _ _ C.conf_Clocks_r6.eq_1
def C.conf_Clocks_c2 : ICode := .keep [3, 11, 12, 13] (.region C.conf_Clocks_r6)
def C.conf_Clocks_c2_w := @awpE _ _ C.conf_Clocks_c2.eq_1
def C.conf_Clocks_r5_b : List IOper := [
 X.m 18 3,
 X.m 19 4,
 X.o 20 (.fldAddr 1 (X.s 5)),
 X.o 21 (.load1 (X.s 20)),
 X.o 22 (.call F.conf_own_int [X.s 21]),
 X.o 23 (.idxAddr 1 (X.s 18) (X.s 19)),
 X.n (.store1 (X.s 23) (X.s 22))]
def C.conf_Clocks_r5 : List IOper := C.conf_Clocks_r5_b
def C.conf_Clocks_r5_w := @aopsE _ _ C.conf_Clocks_r5.eq_1
def C.conf_Clocks_c3 : ICode := .keep [3, 4, 5, 11, 12, 13] (.region C.conf_Clocks_r5)
def C.conf_Clocks_c3_w := @awpE _ _ C.conf_Clocks_c3.eq_1
def C.conf_Clocks_r4_b : List IOper := [
 X.m 15 13,
 X.o 16 (.idxAddr 6 (X.s 11) (X.s 13)),
 X.o 17 (.loadN 6 (X.s 16)),
 X.o 5 (.alloc [.int .u8 0, .nils, .int .u64 0, .int .i64 0, .int .i64 0, .int .i64 0]),
 X.m 4 15,
 X.n (.storeN 6 (X.s 5) (X.s 17))]
def C.conf_Clocks_r4 : List IOper := C.conf_Clocks_r4_b
def C.conf_Clocks_r4_w := @aopsE _ _ C.conf_Clocks_r4.eq_1
def C.conf_Clocks_b4 : ICode := .seq (.region C.conf_Clocks_r4) C.conf_Clocks_c3
def C.conf_Clocks_b4_w := @awpE _ _ C.conf_Clocks_b4.eq_1
def C.conf_Clocks_c5 : ICode := .keep [3, 11, 12, 13] (.seq (.block 1 C.conf_Clocks_b4) C.conf_Clocks_c2)
def C.conf_Clocks_c5_w := @awpE _ _ C.conf_Clocks_c5.eq_1
def C.conf_Clocks_c6 : ICode := .keep [3, 11, 12, 13, 14] (.seq (.cond (X.s 14) .skip (.exit 0)) C.conf_Clocks_c5)
def C.conf_Clocks_c6_w := @awpE _ _ C.conf_Clocks_c6.eq_1
def C.conf_Clocks_r3_b : List IOper := [
 X.o 14 (.bin .lss (X.s 13) (X.s 12))]
def C.conf_Clocks_r3 : List IOper := C.conf_Clocks_r3_b
def C.conf_Clocks_r3_w := @aopsE _ _ C.conf_Clocks_r3.eq_1
def C.conf_Clocks_l7 : ICode := .keep [3, 11, 12, 13] (.seq (.region C.conf_Clocks_r3) C.conf_Clocks_c6)
def C.conf_Clocks_l7_w := @awpE _ _ C.conf_Clocks_l7.eq_1
def C.conf_Clocks_b8 : ICode := .loop C.conf_Clocks_l7
def C.conf_Clocks_b8_w := @awpE _ _ C.conf_Clocks_b8.eq_1
def C.conf_Clocks_c9 : ICode := .keep [3, 11, 12, 13] (.block 0 C.conf_Clocks_b8)
def C.conf_Clocks_c9_w := @awpE _ _ C.conf_Clocks_c9.eq_1
def C.conf_Clocks_r2_b : List IOper := [
 X.o 10 (.fldAddr 0 (X.s 1)),
 X.o 11 (.load1 (X.s 10)),
 X.o 12 (.len (X.s 11)),
 X.o 13 (.move (X.i 0))]
def C.conf_Clocks_r2 : List IOper := C.conf_Clocks_r2_b
def C.conf_Clocks_r2_w := @aopsE _ _ C.conf_Clocks_r2.eq_1
def C.conf_Clocks_c10 : ICode := .keep [1, 3] (.seq (.seq (.region C.conf_Clocks_r2) C.conf_Clocks_c9) C.conf_Clocks_c1)
def C.conf_Clocks_c10_w := @awpE _ _ C.conf_Clocks_c10.eq_1
def C.conf_Clocks_r1_b : List IOper := [
 X.o 6 (.fldAddr 0 (X.s 1)),
 X.o 7 (.load1 (X.s 6)),
 X.o 8 (.len (X.s 7)),
 X.o 9 (.makeSlice 1 24 [.nils] (X.s 8) (X.s 8)),
 X.m 3 9]
def C.conf_Clocks_r1 : List IOper := C.conf_Clocks_r1_b
def C.conf_Clocks_r1_w := @aopsE _ _ C.conf_Clocks_r1.eq_1
def C.conf_Clocks_c11 : ICode := .keep [1] (.seq (.region C.conf_Clocks_r1) C.conf_Clocks_c10)
def C.conf_Clocks_c11_w := @awpE _ _ C.conf_Clocks_c11.eq_1
def C.conf_Clocks_r0_b : List IOper := [
 X.o 1 (.boxN (X.s 0)),
 X.o 2 (.move (.cst (.nils)))]
def C.conf_Clocks_r0 : List IOper := C.conf_Clocks_r0_b
def C.conf_Clocks_r0_w := @aopsE _ _ C.conf_Clocks_r0.eq_1
def C.conf_Clocks : IFunc := ⟨1, [.slot 2], .seq (.region C.conf_Clocks_r0) C.conf_Clocks_c11⟩
def C.conf_Clocks_W := And.intro (And.intro (And.intro (And.intro @C.conf_Clocks_r7_w @C.conf_Clocks_c1_w) (And.intro @C.conf_Clocks_r6_w @C.conf_Clocks_c2_w)) (And.intro (And.intro @C.conf_Clocks_r5_w @C.conf_Clocks_c3_w) (And.intro @C.conf_Clocks_r4_w (And.intro @C.conf_Clocks_b4_w @C.conf_Clocks_c5_w)))) (And.intro (And.intro (And.intro @C.conf_Clocks_c6_w @C.conf_Clocks_r3_w) (And.intro @C.conf_Clocks_b8_w @C.conf_Clocks_c9_w)) (And.intro (And.intro @C.conf_Clocks_r2_w @C.conf_Clocks_c10_w) (And.intro @C.conf_Clocks_r1_w (And.intro @C.conf_Clocks_c11_w @C.conf_Clocks_r0_w))))
def C.conf_Clocks_B := And.intro (And.intro (And.intro @C.conf_Clocks_r7_b.eq_1 @C.conf_Clocks_r6_b.eq_1) (And.intro @C.conf_Clocks_r5_b.eq_1 @C.conf_Clocks_r4_b.eq_1)) (And.intro (And.intro @C.conf_Clocks_r3_b.eq_1 @C.conf_Clocks_r2_b.eq_1) (And.intro @C.conf_Clocks_r1_b.eq_1 @C.conf_Clocks_r0_b.eq_1))

def C.conf_Check_4_r1_b : List IOper := [
 X.o 2 (.fldAddr 1 (X.s 0)),
 X.o 3 (.load1 (X.s 2)),
 X.o 4 (.makeFunc F.conf_Check_4_1 [X.s 0]),
 X.o 5 (.call F.conf_each_api_Domain [X.s 3, X.s 4]),
 X.m 1 5]
def C.conf_Check_4_r1 : List IOper := C.conf_Check_4_r1_b
def C.conf_Check_4_r1_w := @aopsE _ _ C.conf_Check_4_r1.eq_1
def C.conf_Check_4_c1 : ICode := .keep [0] (.seq (.region C.conf_Check_4_r1) .ret)
def C.conf_Check_4_c1_w := @awpE _ _ C.conf_Check_4_c1.eq_1
def C.conf_Check_4_r0_b : List IOper := [
 X.o 1 (.move (X.i 0))]
def C.conf_Check_4_r0 : List IOper := C.conf_Check_4_r0_b
def C.conf_Check_4_r0_w := @aopsE _ _ C.conf_Check_4_r0.eq_1
def C.conf_Check_4 : IFunc := ⟨1, [.slot 1], .seq (.region C.conf_Check_4_r0) C.conf_Check_4_c1⟩
def C.conf_Check_4_W := And.intro @C.conf_Check_4_r1_w (And.intro @C.conf_Check_4_c1_w @C.conf_Check_4_r0_w)
def C.conf_Check_4_B := And.intro @C.conf_Check_4_r1_b.eq_1 @C.conf_Check_4_r0_b.eq_1

def C.conf_each_api_Domain_r8_b : List IOper := [
 X.o 4 (.move (X.i 0))]
def C.conf_each_api_Domain_r8 : List IOper := C.conf_each_api_Domain_r8_b
def C.conf_each_api_Domain_r8_w := @aopsE _ _ C.conf_each_api_Domain_r8.eq_1
def C.conf_each_api_Domain_c1 : ICode := .keep [] (.seq (.region C.conf_each_api_Domain_r8) .ret)
def C.conf_each_api_Domain_c1_w := @awpE _ _ C.conf_each_api_Domain_c1.eq_1
def C.conf_each_api_Domain_r7_b : List IOper := [
 X.o 20 (.bin .add (X.s 10) (X.i 1)),
 X.m 10 20]
def C.conf_each_api_Domain_r7 : List IOper := C.conf_each_api_Domain_r7_b
def C.conf_each_api_Domain_r7_w := @aopsE _ _ C.conf_each_api_Domain_r7.eq_1
def C.conf_each_api_Domain_c2 : ICode := .keep [1, 8, 9, 10] (.region C.conf_each_api_Domain_r7)
def C.conf_each_api_Domain_c2_w := @awpE _ _ C.conf_each_api_Domain_c2.eq_1
def C.conf_each_api_Domain_r6_b : List IOper := [
 X.m 19 7,
 X.m 4 19]
def C.conf_each_api_Domain_r6 : List IOper := C.conf_each_api_Domain_r6_b
def C.conf_each_api_Domain_r6_w := @aopsE _ _ C.conf_each_api_Domain_r6.eq_1
def C.conf_each_api_Domain_c3 : ICode := .seq (.region C.conf_each_api_Domain_r6) .ret
def C.conf_each_api_Domain_c3_w := @awpE _ _ C.conf_each_api_Domain_c3.eq_1
def C.conf_each_api_Domain_c4 : ICode := .keep [1, 7, 8, 9, 10, 18] (.cond (X.s 18) C.conf_each_api_Domain_c3 .skip)
def C.conf_each_api_Domain_c4_w := @awpE _ _ C.conf_each_api_Domain_c4.eq_1
def C.conf_each_api_Domain_r5_b : List IOper := [
 X.m 17 7,
 X.o 18 (.bin .neq (X.s 17) (X.i 0))]
def C.conf_each_api_Domain_r5 : List IOper := C.conf_each_api_Domain_r5_b
def C.conf_each_api_Domain_r5_w := @aopsE _ _ C.conf_each_api_Domain_r5.eq_1
def C.conf_each_api_Domain_c5 : ICode := .keep [1, 7, 8, 9, 10] (.seq (.region C.conf_each_api_Domain_r5) C.conf_each_api_Domain_c4)
def C.conf_each_api_Domain_c5_w := @awpE _ _ C.conf_each_api_Domain_c5.eq_1
def C.conf_each_api_Domain_r4_b : List IOper := [
 X.m 14 1,
 X.o 15 (.loadN 3 (X.s 6)),
 X.o 16 (.callv (X.s 14) [X.s 15]),
 X.m 7 16]
def C.conf_each_api_Domain_r4 : List IOper := C.conf_each_api_Domain_r4_b
def C.conf_each_api_Domain_r4_w := @aopsE _ _ C.conf_each_api_Domain_r4.eq_1
def C.conf_each_api_Domain_c6 : ICode := .keep [1, 6, 8, 9, 10] (.seq (.region C.conf_each_api_Domain_r4) C.conf_each_api_Domain_c5)
def C.conf_each_api_Domain_c6_w := @awpE _ _ C.conf_each_api_Domain_c6.eq_1
def C.conf_each_api_Domain_r3_b : List IOper := [
 X.o 12 (.idxAddr 3 (X.s 8) (X.s 10)),
 X.o 13 (.loadN 3 (X.s 12)),
 X.o 6 (.alloc [.int .i64 0, .int .i64 0, .bool false]),
 X.n (.storeN 3 (X.s 6) (X.s 13))]
def C.conf_each_api_Domain_r3 : List IOper := C.conf_each_api_Domain_r3_b
def C.conf_each_api_Domain_r3_w := @aopsE _ _ C.conf_each_api_Domain_r3.eq_1
def C.conf_each_api_Domain_b7 : ICode := .seq (.region C.conf_each_api_Domain_r3) C.conf_each_api_Domain_c6
def C.conf_each_api_Domain_b7_w := @awpE _ _ C.conf_each_api_Domain_b7.eq_1
def C.conf_each_api_Domain_c8 : ICode := .keep [1, 8, 9, 10] (.seq (.block 1 C.conf_each_api_Domain_b7) C.conf_each_api_Domain_c2)
def C.conf_each_api_Domain_c8_w := @awpE _ _ C.conf_each_api_Domain_c8.eq_1
def C.conf_each_api_Domain_c9 : ICode := .keep [1, 8, 9, 10, 11] (.seq (.cond (X.s 11) .skip (.exit 0)) C.conf_each_api_Domain_c8)
def C.conf_each_api_Domain_c9_w := @awpE _ _ C.conf_each_api_Domain_c9.eq_1
def C.conf_each_api_Domain_r2_b : List IOper := [
 X.o 11 (.bin .lss (X.s 10) (X.s 9))]
def C.conf_each_api_Domain_r2 : List IOper := C.conf_each_api_Domain_r2_b
def C.conf_each_api_Domain_r2_w := @aopsE _ _ C.conf_each_api_Domain_r2.eq_1
def C.conf_each_api_Domain_l10 : ICode := .keep [1, 8, 9, 10] (.seq (.region C.conf_each_api_Domain_r2) C.conf_each_api_Domain_c9)
def C.conf_each_api_Domain_l10_w := @awpE _ _ C.conf_each_api_Domain_l10.eq_1
def C.conf_each_api_Domain_b11 : ICode := .loop C.conf_each_api_Domain_l10
def C.conf_each_api_Domain_b11_w := @awpE _ _ C.conf_each_api_Domain_b11.eq_1
def C.conf_each_api_Domain_c12 : ICode := .keep [1, 8, 9, 10] (.block 0 C.conf_each_api_Domain_b11)
def C.conf_each_api_Domain_c12_w := @awpE _ _ C.conf_each_api_Domain_c12.eq_1
def C.conf_each_api_Domain_r1_b : List IOper := [
 X.m 8 0,
 X.o 9 (.len (X.s 8)),
 X.o 10 (.move (X.i 0))]
def C.conf_each_api_Domain_r1 : List IOper := C.conf_each_api_Domain_r1_b
def C.conf_each_api_Domain_r1_w := @aopsE _ _ C.conf_each_api_Domain_r1.eq_1
def C.conf_each_api_Domain_c13 : ICode := .keep [0, 1] (.seq (.seq (.region C.conf_each_api_Domain_r1) C.conf_each_api_Domain_c12) C.conf_each_api_Domain_c1)
def C.conf_each_api_Domain_c13_w := @awpE _ _ C.conf_each_api_Domain_c13.eq_1
def C.conf_each_api_Domain_r0_b : List IOper := [
 X.o 4 (.move (X.i 0))]
def C.conf_each_api_Domain_r0 : List IOper := C.conf_each_api_Domain_r0_b
def C.conf_each_api_Domain_r0_w := @aopsE _ _ C.conf_each_api_Domain_r0.eq_1
def C.conf_each_api_Domain : IFunc := ⟨2, [.slot 4], .seq (.region C.conf_each_api_Domain_r0) C.conf_each_api_Domain_c13⟩
def C.conf_each_api_Domain_W := And.intro (And.intro (And.intro (And.intro @C.conf_each_api_Domain_r8_w @C.conf_each_api_Domain_c1_w) (And.intro @C.conf_each_api_Domain_r7_w (And.intro @C.conf_each_api_Domain_c2_w @C.conf_each_api_Domain_r6_w))) (And.intro (And.intro @C.conf_each_api_Domain_c3_w @C.conf_each_api_Domain_c4_w) (And.intro @C.conf_each_api_Domain_r5_w (And.intro @C.conf_each_api_Domain_c5_w @C.conf_each_api_Domain_r4_w)))) (And.intro (And.intro (And.intro @C.conf_each_api_Domain_c6_w @C.conf_each_api_Domain_r3_w) (And.intro @C.conf_each_api_Domain_b7_w (And.intro @C.conf_each_api_Domain_c8_w @C.conf_each_api_Domain_c9_w))) (And.intro (And.intro @C.conf_each_api_Domain_r2_w (And.intro @C.conf_each_api_Domain_b11_w @C.conf_each_api_Domain_c12_w)) (And.intro @C.conf_each_api_Domain_r1_w (And.intro @C.conf_each_api_Domain_c13_w @C.conf_each_api_Domain_r0_w))))
def C.conf_each_api_Domain_B := And.intro (And.intro (And.intro @C.conf_each_api_Domain_r8_b.eq_1 @C.conf_each_api_Domain_r7_b.eq_1) (And.intro @C.conf_each_api_Domain_r6_b.eq_1 @C.conf_each_api_Domain_r5_b.eq_1)) (And.intro (And.intro @C.conf_each_api_Domain_r4_b.eq_1 @C.conf_each_api_Domain_r3_b.eq_1) (And.intro @C.conf_each_api_Domain_r2_b.eq_1 (And.intro @C.conf_each_api_Domain_r1_b.eq_1 @C.conf_each_api_Domain_r0_b.eq_1)))

def C.conf_Check_4_1_r1_b : List IOper := [
 X.o 4 (.loadN 4 (X.s 1)),
 X.o 5 (.loadN 3 (X.s 2)),
 X.o 6 (.call F.conf_domain [X.s 4, X.s 5]),
 X.m 3 6]
def C.conf_Check_4_1_r1 : List IOper := C.conf_Check_4_1_r1_b
def C.conf_Check_4_1_r1_w := @aopsE _ _ C.conf_Check_4_1_r1.eq_1
def C.conf_Check_4_1_c1 : ICode := .keep [1, 2] (.seq (.region C.conf_Check_4_1_r1) .ret)
def C.conf_Check_4_1_c1_w := @awpE _ _ C.conf_Check_4_1_c1.eq_1
def C.conf_Check_4_1_r0_b : List IOper := [
 X.o 2 (.boxN (X.s 0)),
 X.o 3 (.move (X.i 0))]
def C.conf_Check_4_1_r0 : List IOper := C.conf_Check_4_1_r0_b
def C.conf_Check_4_1_r0_w := @aopsE _ _ C.conf_Check_4_1_r0.eq_1
def C.conf_Check_4_1 : IFunc := ⟨2, [.slot 3], .seq (.region C.conf_Check_4_1_r0) C.conf_Check_4_1_c1⟩
def C.conf_Check_4_1_W := And.intro @C.conf_Check_4_1_r1_w (And.intro @C.conf_Check_4_1_c1_w @C.conf_Check_4_1_r0_w)
def C.conf_Check_4_1_B := And.intro @C.conf_Check_4_1_r1_b.eq_1 @C.conf_Check_4_1_r0_b.eq_1

def C.conf_domain_r1_b : List IOper := [
 X.o 5 (.makeFunc F.conf_domain_1 [X.s 3, X.s 2]),
 X.o 6 (.makeFunc F.conf_domain_2 [X.s 3]),
 X.o 7 (.buildSlice 1 2 [.nilf] [(0, 1, X.s 5), (1, 1, X.s 6)]),
 X.o 8 (.call F.conf_first [X.s 7]),
 X.m 4 8]
def C.conf_domain_r1 : List IOper := C.conf_domain_r1_b
def C.conf_domain_r1_w := @aopsE _ _ C.conf_domain_r1.eq_1
def C.conf_domain_c1 : ICode := .keep [2, 3] (.seq (.region C.conf_domain_r1) .ret)
def C.conf_domain_c1_w := @awpE _ _ C.conf_domain_c1.eq_1
def C.conf_domain_r0_b : List IOper := [
 X.o 2 (.boxN (X.s 0)),
 X.o 3 (.boxN (X.s 1)),
 X.o 4 (.move (X.i 0))]
def C.conf_domain_r0 : List IOper := C.conf_domain_r0_b
def C.conf_domain_r0_w := @aopsE _ _ C.conf_domain_r0.eq_1
def C.conf_domain : IFunc := ⟨2, [.slot 4], .seq (.region C.conf_domain_r0) C.conf_domain_c1⟩
def C.conf_domain_W := And.intro @C.conf_domain_r1_w (And.intro @C.conf_domain_c1_w @C.conf_domain_r0_w)
def C.conf_domain_B := And.intro @C.conf_domain_r1_b.eq_1 @C.conf_domain_r0_b.eq_1

def C.conf_Check_5_r1_b : List IOper := [
 X.o 2 (.loadN 4 (X.s 0)),
 X.o 3 (.call F.conf_Domains [X.s 2]),
 X.o 4 (.call F.conf_cycle [X.s 3]),
 X.m 1 4]
def C.conf_Check_5_r1 : List IOper := C.conf_Check_5_r1_b
def C.conf_Check_5_r1_w := @aopsE _ _ C.conf_Check_5_r1.eq_1
def C.conf_Check_5_c1 : ICode := .keep [0] (.seq (.region C.conf_Check_5_r1) .ret)
def C.conf_Check_5_c1_w := @awpE _ _ C.conf_Check_5_c1.eq_1
def C.conf_Check_5_r0_b : List IOper := [
 X.o 1 (.move (X.i 0))]
def C.conf_Check_5_r0 : List IOper := C.conf_Check_5_r0_b
def C.conf_Check_5_r0_w := @aopsE _ _ C.conf_Check_5_r0.eq_1
def C.conf_Check_5 : IFunc := ⟨1, [.slot 1], .seq (.region C.conf_Check_5_r0) C.conf_Check_5_c1⟩
def C.conf_Check_5_W := And.intro @C.conf_Check_5_r1_w (And.intro @C.conf_Check_5_c1_w @C.conf_Check_5_r0_w)
def C.conf_Check_5_B := And.intro @C.conf_Check_5_r1_b.eq_1 @C.conf_Check_5_r0_b.eq_1

def C.conf_Check_6_r1_b : List IOper := [
 X.o 2 (.fldAddr 2 (X.s 0)),
 X.o 3 (.load1 (X.s 2)),
 X.o 4 (.call F.conf_each_api_Reset [X.s 3, .fnc F.conf_reset]),
 X.m 1 4]
def C.conf_Check_6_r1 : List IOper := C.conf_Check_6_r1_b
def C.conf_Check_6_r1_w := @aopsE _ _ C.conf_Check_6_r1.eq_1
def C.conf_Check_6_c1 : ICode := .keep [0] (.seq (.region C.conf_Check_6_r1) .ret)
def C.conf_Check_6_c1_w := @awpE _ _ C.conf_Check_6_c1.eq_1
def C.conf_Check_6_r0_b : List IOper := [
 X.o 1 (.move (X.i 0))]
def C.conf_Check_6_r0 : List IOper := C.conf_Check_6_r0_b
def C.conf_Check_6_r0_w := @aopsE _ _ C.conf_Check_6_r0.eq_1
def C.conf_Check_6 : IFunc := ⟨1, [.slot 1], .seq (.region C.conf_Check_6_r0) C.conf_Check_6_c1⟩
def C.conf_Check_6_W := And.intro @C.conf_Check_6_r1_w (And.intro @C.conf_Check_6_c1_w @C.conf_Check_6_r0_w)
def C.conf_Check_6_B := And.intro @C.conf_Check_6_r1_b.eq_1 @C.conf_Check_6_r0_b.eq_1

def C.conf_each_api_Reset_r8_b : List IOper := [
 X.o 4 (.move (X.i 0))]
def C.conf_each_api_Reset_r8 : List IOper := C.conf_each_api_Reset_r8_b
def C.conf_each_api_Reset_r8_w := @aopsE _ _ C.conf_each_api_Reset_r8.eq_1
def C.conf_each_api_Reset_c1 : ICode := .keep [] (.seq (.region C.conf_each_api_Reset_r8) .ret)
def C.conf_each_api_Reset_c1_w := @awpE _ _ C.conf_each_api_Reset_c1.eq_1
def C.conf_each_api_Reset_r7_b : List IOper := [
 X.o 20 (.bin .add (X.s 10) (X.i 1)),
 X.m 10 20]
def C.conf_each_api_Reset_r7 : List IOper := C.conf_each_api_Reset_r7_b
def C.conf_each_api_Reset_r7_w := @aopsE _ _ C.conf_each_api_Reset_r7.eq_1
def C.conf_each_api_Reset_c2 : ICode := .keep [1, 8, 9, 10] (.region C.conf_each_api_Reset_r7)
def C.conf_each_api_Reset_c2_w := @awpE _ _ C.conf_each_api_Reset_c2.eq_1
def C.conf_each_api_Reset_r6_b : List IOper := [
 X.m 19 7,
 X.m 4 19]
def C.conf_each_api_Reset_r6 : List IOper := C.conf_each_api_Reset_r6_b
def C.conf_each_api_Reset_r6_w := @aopsE _ _ C.conf_each_api_Reset_r6.eq_1
def C.conf_each_api_Reset_c3 : ICode := .seq (.region C.conf_each_api_Reset_r6) .ret
def C.conf_each_api_Reset_c3_w := @awpE _ _ C.conf_each_api_Reset_c3.eq_1
def C.conf_each_api_Reset_c4 : ICode := .keep [1, 7, 8, 9, 10, 18] (.cond (X.s 18) C.conf_each_api_Reset_c3 .skip)
def C.conf_each_api_Reset_c4_w := @awpE _ _ C.conf_each_api_Reset_c4.eq_1
def C.conf_each_api_Reset_r5_b : List IOper := [
 X.m 17 7,
 X.o 18 (.bin .neq (X.s 17) (X.i 0))]
def C.conf_each_api_Reset_r5 : List IOper := C.conf_each_api_Reset_r5_b
def C.conf_each_api_Reset_r5_w := @aopsE _ _ C.conf_each_api_Reset_r5.eq_1
def C.conf_each_api_Reset_c5 : ICode := .keep [1, 7, 8, 9, 10] (.seq (.region C.conf_each_api_Reset_r5) C.conf_each_api_Reset_c4)
def C.conf_each_api_Reset_c5_w := @awpE _ _ C.conf_each_api_Reset_c5.eq_1
def C.conf_each_api_Reset_r4_b : List IOper := [
 X.m 14 1,
 X.o 15 (.loadN 1 (X.s 6)),
 X.o 16 (.callv (X.s 14) [X.s 15]),
 X.m 7 16]
def C.conf_each_api_Reset_r4 : List IOper := C.conf_each_api_Reset_r4_b
def C.conf_each_api_Reset_r4_w := @aopsE _ _ C.conf_each_api_Reset_r4.eq_1
def C.conf_each_api_Reset_c6 : ICode := .keep [1, 6, 8, 9, 10] (.seq (.region C.conf_each_api_Reset_r4) C.conf_each_api_Reset_c5)
def C.conf_each_api_Reset_c6_w := @awpE _ _ C.conf_each_api_Reset_c6.eq_1
def C.conf_each_api_Reset_r3_b : List IOper := [
 X.o 12 (.idxAddr 1 (X.s 8) (X.s 10)),
 X.o 13 (.loadN 1 (X.s 12)),
 X.o 6 (.alloc [.int .i64 0]),
 X.n (.storeN 1 (X.s 6) (X.s 13))]
def C.conf_each_api_Reset_r3 : List IOper := C.conf_each_api_Reset_r3_b
def C.conf_each_api_Reset_r3_w := @aopsE _ _ C.conf_each_api_Reset_r3.eq_1
def C.conf_each_api_Reset_b7 : ICode := .seq (.region C.conf_each_api_Reset_r3) C.conf_each_api_Reset_c6
def C.conf_each_api_Reset_b7_w := @awpE _ _ C.conf_each_api_Reset_b7.eq_1
def C.conf_each_api_Reset_c8 : ICode := .keep [1, 8, 9, 10] (.seq (.block 1 C.conf_each_api_Reset_b7) C.conf_each_api_Reset_c2)
def C.conf_each_api_Reset_c8_w := @awpE _ _ C.conf_each_api_Reset_c8.eq_1
def C.conf_each_api_Reset_c9 : ICode := .keep [1, 8, 9, 10, 11] (.seq (.cond (X.s 11) .skip (.exit 0)) C.conf_each_api_Reset_c8)
def C.conf_each_api_Reset_c9_w := @awpE _ _ C.conf_each_api_Reset_c9.eq_1
def C.conf_each_api_Reset_r2_b : List IOper := [
 X.o 11 (.bin .lss (X.s 10) (X.s 9))]
def C.conf_each_api_Reset_r2 : List IOper := C.conf_each_api_Reset_r2_b
def C.conf_each_api_Reset_r2_w := @aopsE _ _ C.conf_each_api_Reset_r2.eq_1
def C.conf_each_api_Reset_l10 : ICode := .keep [1, 8, 9, 10] (.seq (.region C.conf_each_api_Reset_r2) C.conf_each_api_Reset_c9)
def C.conf_each_api_Reset_l10_w := @awpE _ _ C.conf_each_api_Reset_l10.eq_1
def C.conf_each_api_Reset_b11 : ICode := .loop C.conf_each_api_Reset_l10
def C.conf_each_api_Reset_b11_w := @awpE _ _ C.conf_each_api_Reset_b11.eq_1
def C.conf_each_api_Reset_c12 : ICode := .keep [1, 8, 9, 10] (.block 0 C.conf_each_api_Reset_b11)
def C.conf_each_api_Reset_c12_w := @awpE _ _ C.conf_each_api_Reset_c12.eq_1
def C.conf_each_api_Reset_r1_b : List IOper := [
 X.m 8 0,
 X.o 9 (.len (X.s 8)),
 X.o 10 (.move (X.i 0))]
def C.conf_each_api_Reset_r1 : List IOper := C.conf_each_api_Reset_r1_b
def C.conf_each_api_Reset_r1_w := @aopsE _ _ C.conf_each_api_Reset_r1.eq_1
def C.conf_each_api_Reset_c13 : ICode := .keep [0, 1] (.seq (.seq (.region C.conf_each_api_Reset_r1) C.conf_each_api_Reset_c12) C.conf_each_api_Reset_c1)
def C.conf_each_api_Reset_c13_w := @awpE _ _ C.conf_each_api_Reset_c13.eq_1
def C.conf_each_api_Reset_r0_b : List IOper := [
 X.o 4 (.move (X.i 0))]
def C.conf_each_api_Reset_r0 : List IOper := C.conf_each_api_Reset_r0_b
def C.conf_each_api_Reset_r0_w := @aopsE _ _ C.conf_each_api_Reset_r0.eq_1
def C.conf_each_api_Reset : IFunc := ⟨2, [.slot 4], .seq (.region C.conf_each_api_Reset_r0) C.conf_each_api_Reset_c13⟩
def C.conf_each_api_Reset_W := And.intro (And.intro (And.intro (And.intro @C.conf_each_api_Reset_r8_w @C.conf_each_api_Reset_c1_w) (And.intro @C.conf_each_api_Reset_r7_w (And.intro @C.conf_each_api_Reset_c2_w @C.conf_each_api_Reset_r6_w))) (And.intro (And.intro @C.conf_each_api_Reset_c3_w @C.conf_each_api_Reset_c4_w) (And.intro @C.conf_each_api_Reset_r5_w (And.intro @C.conf_each_api_Reset_c5_w @C.conf_each_api_Reset_r4_w)))) (And.intro (And.intro (And.intro @C.conf_each_api_Reset_c6_w @C.conf_each_api_Reset_r3_w) (And.intro @C.conf_each_api_Reset_b7_w (And.intro @C.conf_each_api_Reset_c8_w @C.conf_each_api_Reset_c9_w))) (And.intro (And.intro @C.conf_each_api_Reset_r2_w (And.intro @C.conf_each_api_Reset_b11_w @C.conf_each_api_Reset_c12_w)) (And.intro @C.conf_each_api_Reset_r1_w (And.intro @C.conf_each_api_Reset_c13_w @C.conf_each_api_Reset_r0_w))))
def C.conf_each_api_Reset_B := And.intro (And.intro (And.intro @C.conf_each_api_Reset_r8_b.eq_1 @C.conf_each_api_Reset_r7_b.eq_1) (And.intro @C.conf_each_api_Reset_r6_b.eq_1 @C.conf_each_api_Reset_r5_b.eq_1)) (And.intro (And.intro @C.conf_each_api_Reset_r4_b.eq_1 @C.conf_each_api_Reset_r3_b.eq_1) (And.intro @C.conf_each_api_Reset_r2_b.eq_1 (And.intro @C.conf_each_api_Reset_r1_b.eq_1 @C.conf_each_api_Reset_r0_b.eq_1)))

def C.conf_reset_r1_b : List IOper := [
 X.o 3 (.fldAddr 0 (X.s 1)),
 X.o 4 (.load1 (X.s 3)),
 X.o 5 (.call F.conf_within [X.s 4, X.i 0, X.i 20]),
 X.o 6 (.un .not (X.s 5)),
 X.o 7 (.call F.conf_when [X.s 6, X.i 3]),
 X.m 2 7]
def C.conf_reset_r1 : List IOper := C.conf_reset_r1_b
def C.conf_reset_r1_w := @aopsE _ _ C.conf_reset_r1.eq_1
def C.conf_reset_c1 : ICode := .keep [1] (.seq (.region C.conf_reset_r1) .ret)
def C.conf_reset_c1_w := @awpE _ _ C.conf_reset_c1.eq_1
def C.conf_reset_r0_b : List IOper := [
 X.o 1 (.boxN (X.s 0)),
 X.o 2 (.move (X.i 0))]
def C.conf_reset_r0 : List IOper := C.conf_reset_r0_b
def C.conf_reset_r0_w := @aopsE _ _ C.conf_reset_r0.eq_1
def C.conf_reset : IFunc := ⟨1, [.slot 2], .seq (.region C.conf_reset_r0) C.conf_reset_c1⟩
def C.conf_reset_W := And.intro @C.conf_reset_r1_w (And.intro @C.conf_reset_c1_w @C.conf_reset_r0_w)
def C.conf_reset_B := And.intro @C.conf_reset_r1_b.eq_1 @C.conf_reset_r0_b.eq_1

def C.conf_Check_7_r1_b : List IOper := [
 X.o 2 (.fldAddr 3 (X.s 0)),
 X.o 3 (.load1 (X.s 2)),
 X.o 4 (.makeFunc F.conf_Check_7_1 [X.s 0]),
 X.o 5 (.call F.conf_each_api_Device [X.s 3, X.s 4]),
 X.m 1 5]
def C.conf_Check_7_r1 : List IOper := C.conf_Check_7_r1_b
def C.conf_Check_7_r1_w := @aopsE _ _ C.conf_Check_7_r1.eq_1
def C.conf_Check_7_c1 : ICode := .keep [0] (.seq (.region C.conf_Check_7_r1) .ret)
def C.conf_Check_7_c1_w := @awpE _ _ C.conf_Check_7_c1.eq_1
def C.conf_Check_7_r0_b : List IOper := [
 X.o 1 (.move (X.i 0))]
def C.conf_Check_7_r0 : List IOper := C.conf_Check_7_r0_b
def C.conf_Check_7_r0_w := @aopsE _ _ C.conf_Check_7_r0.eq_1
def C.conf_Check_7 : IFunc := ⟨1, [.slot 1], .seq (.region C.conf_Check_7_r0) C.conf_Check_7_c1⟩
def C.conf_Check_7_W := And.intro @C.conf_Check_7_r1_w (And.intro @C.conf_Check_7_c1_w @C.conf_Check_7_r0_w)
def C.conf_Check_7_B := And.intro @C.conf_Check_7_r1_b.eq_1 @C.conf_Check_7_r0_b.eq_1

def C.conf_each_api_Device_r8_b : List IOper := [
 X.o 4 (.move (X.i 0))]
def C.conf_each_api_Device_r8 : List IOper := C.conf_each_api_Device_r8_b
def C.conf_each_api_Device_r8_w := @aopsE _ _ C.conf_each_api_Device_r8.eq_1
def C.conf_each_api_Device_c1 : ICode := .keep [] (.seq (.region C.conf_each_api_Device_r8) .ret)
def C.conf_each_api_Device_c1_w := @awpE _ _ C.conf_each_api_Device_c1.eq_1
def C.conf_each_api_Device_r7_b : List IOper := [
 X.o 20 (.bin .add (X.s 10) (X.i 1)),
 X.m 10 20]
def C.conf_each_api_Device_r7 : List IOper := C.conf_each_api_Device_r7_b
def C.conf_each_api_Device_r7_w := @aopsE _ _ C.conf_each_api_Device_r7.eq_1
def C.conf_each_api_Device_c2 : ICode := .keep [1, 8, 9, 10] (.region C.conf_each_api_Device_r7)
def C.conf_each_api_Device_c2_w := @awpE _ _ C.conf_each_api_Device_c2.eq_1
def C.conf_each_api_Device_r6_b : List IOper := [
 X.m 19 7,
 X.m 4 19]
def C.conf_each_api_Device_r6 : List IOper := C.conf_each_api_Device_r6_b
def C.conf_each_api_Device_r6_w := @aopsE _ _ C.conf_each_api_Device_r6.eq_1
def C.conf_each_api_Device_c3 : ICode := .seq (.region C.conf_each_api_Device_r6) .ret
def C.conf_each_api_Device_c3_w := @awpE _ _ C.conf_each_api_Device_c3.eq_1
def C.conf_each_api_Device_c4 : ICode := .keep [1, 7, 8, 9, 10, 18] (.cond (X.s 18) C.conf_each_api_Device_c3 .skip)
def C.conf_each_api_Device_c4_w := @awpE _ _ C.conf_each_api_Device_c4.eq_1
def C.conf_each_api_Device_r5_b : List IOper := [
 X.m 17 7,
 X.o 18 (.bin .neq (X.s 17) (X.i 0))]
def C.conf_each_api_Device_r5 : List IOper := C.conf_each_api_Device_r5_b
def C.conf_each_api_Device_r5_w := @aopsE _ _ C.conf_each_api_Device_r5.eq_1
def C.conf_each_api_Device_c5 : ICode := .keep [1, 7, 8, 9, 10] (.seq (.region C.conf_each_api_Device_r5) C.conf_each_api_Device_c4)
def C.conf_each_api_Device_c5_w := @awpE _ _ C.conf_each_api_Device_c5.eq_1
def C.conf_each_api_Device_r4_b : List IOper := [
 X.m 14 1,
 X.o 15 (.loadN 6 (X.s 6)),
 X.o 16 (.callv (X.s 14) [X.s 15]),
 X.m 7 16]
def C.conf_each_api_Device_r4 : List IOper := C.conf_each_api_Device_r4_b
def C.conf_each_api_Device_r4_w := @aopsE _ _ C.conf_each_api_Device_r4.eq_1
def C.conf_each_api_Device_c6 : ICode := .keep [1, 6, 8, 9, 10] (.seq (.region C.conf_each_api_Device_r4) C.conf_each_api_Device_c5)
def C.conf_each_api_Device_c6_w := @awpE _ _ C.conf_each_api_Device_c6.eq_1
def C.conf_each_api_Device_r3_b : List IOper := [
 X.o 12 (.idxAddr 6 (X.s 8) (X.s 10)),
 X.o 13 (.loadN 6 (X.s 12)),
 X.o 6 (.alloc [.int .i64 0, .int .i64 0, .int .i64 0, .int .u32 0, .nils, .nils]),
 X.n (.storeN 6 (X.s 6) (X.s 13))]
def C.conf_each_api_Device_r3 : List IOper := C.conf_each_api_Device_r3_b
def C.conf_each_api_Device_r3_w := @aopsE _ _ C.conf_each_api_Device_r3.eq_1
def C.conf_each_api_Device_b7 : ICode := .seq (.region C.conf_each_api_Device_r3) C.conf_each_api_Device_c6
def C.conf_each_api_Device_b7_w := @awpE _ _ C.conf_each_api_Device_b7.eq_1
def C.conf_each_api_Device_c8 : ICode := .keep [1, 8, 9, 10] (.seq (.block 1 C.conf_each_api_Device_b7) C.conf_each_api_Device_c2)
def C.conf_each_api_Device_c8_w := @awpE _ _ C.conf_each_api_Device_c8.eq_1
def C.conf_each_api_Device_c9 : ICode := .keep [1, 8, 9, 10, 11] (.seq (.cond (X.s 11) .skip (.exit 0)) C.conf_each_api_Device_c8)
def C.conf_each_api_Device_c9_w := @awpE _ _ C.conf_each_api_Device_c9.eq_1
def C.conf_each_api_Device_r2_b : List IOper := [
 X.o 11 (.bin .lss (X.s 10) (X.s 9))]
def C.conf_each_api_Device_r2 : List IOper := C.conf_each_api_Device_r2_b
def C.conf_each_api_Device_r2_w := @aopsE _ _ C.conf_each_api_Device_r2.eq_1
def C.conf_each_api_Device_l10 : ICode := .keep [1, 8, 9, 10] (.seq (.region C.conf_each_api_Device_r2) C.conf_each_api_Device_c9)
def C.conf_each_api_Device_l10_w := @awpE _ _ C.conf_each_api_Device_l10.eq_1
def C.conf_each_api_Device_b11 : ICode := .loop C.conf_each_api_Device_l10
def C.conf_each_api_Device_b11_w := @awpE _ _ C.conf_each_api_Device_b11.eq_1
def C.conf_each_api_Device_c12 : ICode := .keep [1, 8, 9, 10] (.block 0 C.conf_each_api_Device_b11)
def C.conf_each_api_Device_c12_w := @awpE _ _ C.conf_each_api_Device_c12.eq_1
def C.conf_each_api_Device_r1_b : List IOper := [
 X.m 8 0,
 X.o 9 (.len (X.s 8)),
 X.o 10 (.move (X.i 0))]
def C.conf_each_api_Device_r1 : List IOper := C.conf_each_api_Device_r1_b
def C.conf_each_api_Device_r1_w := @aopsE _ _ C.conf_each_api_Device_r1.eq_1
def C.conf_each_api_Device_c13 : ICode := .keep [0, 1] (.seq (.seq (.region C.conf_each_api_Device_r1) C.conf_each_api_Device_c12) C.conf_each_api_Device_c1)
def C.conf_each_api_Device_c13_w := @awpE _ _ C.conf_each_api_Device_c13.eq_1
def C.conf_each_api_Device_r0_b : List IOper := [
 X.o 4 (.move (X.i 0))]
def C.conf_each_api_Device_r0 : List IOper := C.conf_each_api_Device_r0_b
def C.conf_each_api_Device_r0_w := @aopsE _ _ C.conf_each_api_Device_r0.eq_1
def C.conf_each_api_Device : IFunc := ⟨2, [.slot 4], .seq (.region C.conf_each_api_Device_r0) C.conf_each_api_Device_c13⟩
def C.conf_each_api_Device_W := And.intro (And.intro (And.intro (And.intro @C.conf_each_api_Device_r8_w @C.conf_each_api_Device_c1_w) (And.intro @C.conf_each_api_Device_r7_w (And.intro @C.conf_each_api_Device_c2_w @C.conf_each_api_Device_r6_w))) (And.intro (And.intro @C.conf_each_api_Device_c3_w @C.conf_each_api_Device_c4_w) (And.intro @C.conf_each_api_Device_r5_w (And.intro @C.conf_each_api_Device_c5_w @C.conf_each_api_Device_r4_w)))) (And.intro (And.intro (And.intro @C.conf_each_api_Device_c6_w @C.conf_each_api_Device_r3_w) (And.intro @C.conf_each_api_Device_b7_w (And.intro @C.conf_each_api_Device_c8_w @C.conf_each_api_Device_c9_w))) (And.intro (And.intro @C.conf_each_api_Device_r2_w (And.intro @C.conf_each_api_Device_b11_w @C.conf_each_api_Device_c12_w)) (And.intro @C.conf_each_api_Device_r1_w (And.intro @C.conf_each_api_Device_c13_w @C.conf_each_api_Device_r0_w))))
def C.conf_each_api_Device_B := And.intro (And.intro (And.intro @C.conf_each_api_Device_r8_b.eq_1 @C.conf_each_api_Device_r7_b.eq_1) (And.intro @C.conf_each_api_Device_r6_b.eq_1 @C.conf_each_api_Device_r5_b.eq_1)) (And.intro (And.intro @C.conf_each_api_Device_r4_b.eq_1 @C.conf_each_api_Device_r3_b.eq_1) (And.intro @C.conf_each_api_Device_r2_b.eq_1 (And.intro @C.conf_each_api_Device_r1_b.eq_1 @C.conf_each_api_Device_r0_b.eq_1)))

end Go.Proofs.Ytgfpnfnjnakoaaa.Cn
