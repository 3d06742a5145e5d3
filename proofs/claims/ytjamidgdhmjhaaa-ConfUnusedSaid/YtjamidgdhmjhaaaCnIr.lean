/- The intermediate code of the functions, printed by a program out of the loaded program; that it is theirs is checked in the text of links. -/
import Derived.Test.YtjamidgdhmjhaaaCnIr1
set_option linter.defProp false
namespace Go.Proofs.Ytjamidgdhmjhaaa.Cn
open Go
variable {P : Program} {Q : IExit → AFr → ASt → Prop} {fr : AFr} {st : ASt}


def C.conf_Check_2_1_r1_b : List IOper := [
 X.o 4 (.loadN 4 (X.s 1)),
 X.o 5 (.loadN 6 (X.s 2)),
 X.o 6 (.call F.conf_clock [X.s 4, X.s 5]),
 X.m 3 6]
def C.conf_Check_2_1_r1 : List IOper := C.conf_Check_2_1_r1_b
def C.conf_Check_2_1_r1_w := @aopsE _ _ C.conf_Check_2_1_r1.eq_1
def C.conf_Check_2_1_c1 : ICode := .keep [1, 2] (.seq (.region C.conf_Check_2_1_r1) .ret)
def C.conf_Check_2_1_c1_w := @awpE _ _ C.conf_Check_2_1_c1.eq_1
def C.conf_Check_2_1_r0_b : List IOper := [
 X.o 2 (.boxN (X.s 0)),
 X.o 3 (.move (X.i 0))]
def C.conf_Check_2_1_r0 : List IOper := C.conf_Check_2_1_r0_b
def C.conf_Check_2_1_r0_w := @aopsE _ _ C.conf_Check_2_1_r0.eq_1
def C.conf_Check_2_1 : IFunc := ⟨2, [.slot 3], .seq (.region C.conf_Check_2_1_r0) C.conf_Check_2_1_c1⟩
def C.conf_Check_2_1_W := And.intro @C.conf_Check_2_1_r1_w (And.intro @C.conf_Check_2_1_c1_w @C.conf_Check_2_1_r0_w)
def C.conf_Check_2_1_B := And.intro @C.conf_Check_2_1_r1_b.eq_1 @C.conf_Check_2_1_r0_b.eq_1

def C.conf_clock_r1_b : List IOper := [
 X.o 5 (.makeFunc F.conf_clock_1 [X.s 3]),
 X.o 6 (.makeFunc F.conf_clock_2 [X.s 3, X.s 2]),
 X.o 7 (.makeFunc F.conf_clock_3 [X.s 3]),
 X.o 8 (.buildSlice 1 3 [.nilf] [(0, 1, X.s 5), (1, 1, X.s 6), (2, 1, X.s 7)]),
 X.o 9 (.call F.conf_first [X.s 8]),
 X.m 4 9]
def C.conf_clock_r1 : List IOper := C.conf_clock_r1_b
def C.conf_clock_r1_w := @aopsE _ _ C.conf_clock_r1.eq_1
def C.conf_clock_c1 : ICode := .keep [2, 3] (.seq (.region C.conf_clock_r1) .ret)
def C.conf_clock_c1_w := @awpE _ _ C.conf_clock_c1.eq_1
def C.conf_clock_r0_b : List IOper := [
 X.o 2 (.boxN (X.s 0)),
 X.o 3 (.boxN (X.s 1)),
 X.o 4 (.move (X.i 0))]
def C.conf_clock_r0 : List IOper := C.conf_clock_r0_b
def C.conf_clock_r0_w := @aopsE _ _ C.conf_clock_r0.eq_1
def C.conf_clock : IFunc := ⟨2, [.slot 4], .seq (.region C.conf_clock_r0) C.conf_clock_c1⟩
def C.conf_clock_W := And.intro @C.conf_clock_r1_w (And.intro @C.conf_clock_c1_w @C.conf_clock_r0_w)
def C.conf_clock_B := And.intro @C.conf_clock_r1_b.eq_1 @C.conf_clock_r0_b.eq_1

def C.conf_Check_3_r1_b : List IOper := [
 X.o 2 (.loadN 4 (X.s 0)),
 X.o 3 (.call F.conf_Clocks [X.s 2]),
 X.o 4 (.call F.conf_cycle [X.s 3]),
 X.m 1 4]
def C.conf_Check_3_r1 : List IOper := C.conf_Check_3_r1_b
def C.conf_Check_3_r1_w := @aopsE _ _ C.conf_Check_3_r1.eq_1
def C.conf_Check_3_c1 : ICode := .keep [0] (.seq (.region C.conf_Check_3_r1) .ret)
def C.conf_Check_3_c1_w := @awpE _ _ C.conf_Check_3_c1.eq_1
def C.conf_Check_3_r0_b : List IOper := [
 X.o 1 (.move (X.i 0))]
def C.conf_Check_3_r0 : List IOper := C.conf_Check_3_r0_b
def C.conf_Check_3_r0_w := @aopsE _ _ C.conf_Check_3_r0.eq_1
def C.conf_Check_3 : IFunc := ⟨1, [.slot 1], .seq (.region C.conf_Check_3_r0) C.conf_Check_3_c1⟩
def C.conf_Check_3_W := And.intro @C.conf_Check_3_r1_w (And.intro @C.conf_Check_3_c1_w @C.conf_Check_3_r0_w)
def C.conf_Check_3_B := And.intro @C.conf_Check_3_r1_b.eq_1 @C.conf_Check_3_r0_b.eq_1

def C.conf_cycle_r1_b : List IOper := [
 X.m 3 0,
 X.o 4 (.call F.graph_Check [X.s 3]),
 X.o 5 (.bin .eql (X.s 4) (X.i 5)),
 X.o 6 (.call F.conf_when [X.s 5, X.i 5]),
 X.m 2 6]
def C.conf_cycle_r1 : List IOper := C.conf_cycle_r1_b
def C.conf_cycle_r1_w := @aopsE _ _ C.conf_cycle_r1.eq_1
def C.conf_cycle_c1 : ICode := .keep [0] (.seq (.region C.conf_cycle_r1) .ret)
def C.conf_cycle_c1_w := @awpE _ _ C.conf_cycle_c1.eq_1
def C.conf_cycle_r0_b : List IOper := [
 X.o 2 (.move (X.i 0))]
def C.conf_cycle_r0 : List IOper := C.conf_cycle_r0_b
def C.conf_cycle_r0_w := @aopsE _ _ C.conf_cycle_r0.eq_1
def C.conf_cycle : IFunc := ⟨1, [.slot 2], .seq (.region C.conf_cycle_r0) C.conf_cycle_c1⟩
def C.conf_cycle_W := And.intro @C.conf_cycle_r1_w (And.intro @C.conf_cycle_c1_w @C.conf_cycle_r0_w)
def C.conf_cycle_B := And.intro @C.conf_cycle_r1_b.eq_1 @C.conf_cycle_r0_b.eq_1

def C.conf_Check_4_r1_b : List IOper := [
 X.o 2 (.fldAddr 1 (X.s 0)),
 X.o 3 (.load1 (X.s 2)),
 X.o 4 (.makeFunc F.conf_Check_4_1 [X.s 0]),
 X.o 5 (.call F.conf_each_api_Domain [X.s 3, X.s 4]),
 X.m 1 5]
def C.conf_Check_4_r1 : List IOper := C.conf_Check_4_r1_b
def C.conf_Check_4_r1_w := @aopsE _ _ C.conf_Check_4_r1.eq_1
def C.conf_Check_4_c1 : ICode := .keep [0] (.seq (.region C.conf_Check_4_r1) .ret)
def C.conf_Check_4_c1_w := @awpE _ _ C.conf_Check_4_c1.eq_1
def C.conf_Check_4_r0_b : List IOper := [
 X.o 1 (.move (X.i 0))]
def C.conf_Check_4_r0 : List IOper := C.conf_Check_4_r0_b
def C.conf_Check_4_r0_w := @aopsE _ _ C.conf_Check_4_r0.eq_1
def C.conf_Check_4 : IFunc := ⟨1, [.slot 1], .seq (.region C.conf_Check_4_r0) C.conf_Check_4_c1⟩
def C.conf_Check_4_W := And.intro @C.conf_Check_4_r1_w (And.intro @C.conf_Check_4_c1_w @C.conf_Check_4_r0_w)
def C.conf_Check_4_B := And.intro @C.conf_Check_4_r1_b.eq_1 @C.conf_Check_4_r0_b.eq_1

def C.conf_each_api_Domain_r8_b : List IOper := [
 X.o 4 (.move (X.i 0))]
def C.conf_each_api_Domain_r8 : List IOper := C.conf_each_api_Domain_r8_b
def C.conf_each_api_Domain_r8_w := @aopsE _ _ C.conf_each_api_Domain_r8.eq_1
def C.conf_each_api_Domain_c1 : ICode := .keep [] (.seq (.region C.conf_each_api_Domain_r8) .ret)
def C.conf_each_api_Domain_c1_w := @awpE _ _ C.conf_each_api_Domain_c1.eq_1
def C.conf_each_api_Domain_r7_b : List IOper := [
 X.o 20 (.bin .add (X.s 10) (X.i 1)),
 X.m 10 20]
def C.conf_each_api_Domain_r7 : List IOper := C.conf_each_api_Domain_r7_b
def C.conf_each_api_Domain_r7_w := @aopsE _ _ C.conf_each_api_Domain_r7.eq_1
def C.conf_each_api_Domain_c2 : ICode := .keep [1, 8, 9, 10] (.region C.conf_each_api_Domain_r7)
def C.conf_each_api_Domain_c2_w := @awpE _ _ C.conf_each_api_Domain_c2.eq_1
def C.conf_each_api_Domain_r6_b : List IOper := [
 X.m 19 7,
 X.m 4 19]
def C.conf_each_api_Domain_r6 : List IOper := C.conf_each_api_Domain_r6_b
def C.conf_each_api_Domain_r6_w := @aopsE _ _ C.conf_each_api_Domain_r6.eq_1
def C.conf_each_api_Domain_c3 : ICode := .seq (.region C.conf_each_api_Domain_r6) .ret
def C.conf_each_api_Domain_c3_w := @awpE _ _ C.conf_each_api_Domain_c3.eq_1
def C.conf_each_api_Domain_c4 : ICode := .keep [1, 7, 8, 9, 10, 18] (.cond (X.s 18) C.conf_each_api_Domain_c3 .skip)
def C.conf_each_api_Domain_c4_w := @awpE _ _ C.conf_each_api_Domain_c4.eq_1
def C.conf_each_api_Domain_r5_b : List IOper := [
 X.m 17 7,
 X.o 18 (.bin .neq (X.s 17) (X.i 0))]
def C.conf_each_api_Domain_r5 : List IOper := C.conf_each_api_Domain_r5_b
def C.conf_each_api_Domain_r5_w := @aopsE _ _ C.conf_each_api_Domain_r5.eq_1
def C.conf_each_api_Domain_c5 : ICode := .keep [1, 7, 8, 9, 10] (.seq (.region C.conf_each_api_Domain_r5) C.conf_each_api_Domain_c4)
def C.conf_each_api_Domain_c5_w := @awpE _ _ C.conf_each_api_Domain_c5.eq_1
def C.conf_each_api_Domain_r4_b : List IOper := [
 X.m 14 1,
 X.o 15 (.loadN 3 (X.s 6)),
 X.o 16 (.callv (X.s 14) [X.s 15]),
 X.m 7 16]
def C.conf_each_api_Domain_r4 : List IOper := C.conf_each_api_Domain_r4_b
def C.conf_each_api_Domain_r4_w := @aopsE _ _ C.conf_each_api_Domain_r4.eq_1
def C.conf_each_api_Domain_c6 : ICode := .keep [1, 6, 8, 9, 10] (.seq (.region C.conf_each_api_Domain_r4) C.conf_each_api_Domain_c5)
def C.conf_each_api_Domain_c6_w := @awpE _ _ C.conf_each_api_Domain_c6.eq_1
def C.conf_each_api_Domain_r3_b : List IOper := [
 X.o 12 (.idxAddr 3 (X.s 8) (X.s 10)),
 X.o 13 (.loadN 3 (X.s 12)),
 X.o 6 (.alloc [.int .i64 0, .int .i64 0, .bool false]),
 X.n (.storeN 3 (X.s 6) (X.s 13))]
def C.conf_each_api_Domain_r3 : List IOper := C.conf_each_api_Domain_r3_b
def C.conf_each_api_Domain_r3_w := @aopsE _ _ C.conf_each_api_Domain_r3.eq_1
def C.conf_each_api_Domain_b7 : ICode := .seq (.region C.conf_each_api_Domain_r3) C.conf_each_api_Domain_c6
def C.conf_each_api_Domain_b7_w := @awpE _ _ C.conf_each_api_Domain_b7.eq_1
def C.conf_each_api_Domain_c8 : ICode := .keep [1, 8, 9, 10] (.seq (.block 1 C.conf_each_api_Domain_b7) C.conf_each_api_Domain_c2)
def C.conf_each_api_Domain_c8_w := @awpE _ _ C.conf_each_api_Domain_c8.eq_1
def C.conf_each_api_Domain_c9 : ICode := .keep [1, 8, 9, 10, 11] (.seq (.cond (X.s 11) .skip (.exit 0)) C.conf_each_api_Domain_c8)
def C.conf_each_api_Domain_c9_w := @awpE _ _ C.conf_each_api_Domain_c9.eq_1
def C.conf_each_api_Domain_r2_b : List IOper := [
 X.o 11 (.bin .lss (X.s 10) (X.s 9))]
def C.conf_each_api_Domain_r2 : List IOper := C.conf_each_api_Domain_r2_b
def C.conf_each_api_Domain_r2_w := @aopsE _ _ C.conf_each_api_Domain_r2.eq_1
def C.conf_each_api_Domain_l10 : ICode := .keep [1, 8, 9, 10] (.seq (.region C.conf_each_api_Domain_r2) C.conf_each_api_Domain_c9)
def C.conf_each_api_Domain_l10_w := @awpE _ _ C.conf_each_api_Domain_l10.eq_1
def C.conf_each_api_Domain_b11 : ICode := .loop C.conf_each_api_Domain_l10
def C.conf_each_api_Domain_b11_w := @awpE _ _ C.conf_each_api_Domain_b11.eq_1
def C.conf_each_api_Domain_c12 : ICode := .keep [1, 8, 9, 10] (.block 0 C.conf_each_api_Domain_b11)
def C.conf_each_api_Domain_c12_w := @awpE _ _ C.conf_each_api_Domain_c12.eq_1
def C.conf_each_api_Domain_r1_b : List IOper := [
 X.m 8 0,
 X.o 9 (.len (X.s 8)),
 X.o 10 (.move (X.i 0))]
def C.conf_each_api_Domain_r1 : List IOper := C.conf_each_api_Domain_r1_b
def C.conf_each_api_Domain_r1_w := @aopsE _ _ C.conf_each_api_Domain_r1.eq_1
def C.conf_each_api_Domain_c13 : ICode := .keep [0, 1] (.seq (.seq (.region C.conf_each_api_Domain_r1) C.conf_each_api_Domain_c12) C.conf_each_api_Domain_c1)
def C.conf_each_api_Domain_c13_w := @awpE _ _ C.conf_each_api_Domain_c13.eq_1
def C.conf_each_api_Domain_r0_b : List IOper := [
 X.o 4 (.move (X.i 0))]
def C.conf_each_api_Domain_r0 : List IOper := C.conf_each_api_Domain_r0_b
def C.conf_each_api_Domain_r0_w := @aopsE _ _ C.conf_each_api_Domain_r0.eq_1
def C.conf_each_api_Domain : IFunc := ⟨2, [.slot 4], .seq (.region C.conf_each_api_Domain_r0) C.conf_each_api_Domain_c13⟩
def C.conf_each_api_Domain_W := And.intro (And.intro (And.intro (And.intro @C.conf_each_api_Domain_r8_w @C.conf_each_api_Domain_c1_w) (And.intro @C.conf_each_api_Domain_r7_w (And.intro @C.conf_each_api_Domain_c2_w @C.conf_each_api_Domain_r6_w))) (And.intro (And.intro @C.conf_each_api_Domain_c3_w @C.conf_each_api_Domain_c4_w) (And.intro @C.conf_each_api_Domain_r5_w (And.intro @C.conf_each_api_Domain_c5_w @C.conf_each_api_Domain_r4_w)))) (And.intro (And.intro (And.intro @C.conf_each_api_Domain_c6_w @C.conf_each_api_Domain_r3_w) (And.intro @C.conf_each_api_Domain_b7_w (And.intro @C.conf_each_api_Domain_c8_w @C.conf_each_api_Domain_c9_w))) (And.intro (And.intro @C.conf_each_api_Domain_r2_w (And.intro @C.conf_each_api_Domain_b11_w @C.conf_each_api_Domain_c12_w)) (And.intro @C.conf_each_api_Domain_r1_w (And.intro @C.conf_each_api_Domain_c13_w @C.conf_each_api_Domain_r0_w))))
def C.conf_each_api_Domain_B := And.intro (And.intro (And.intro @C.conf_each_api_Domain_r8_b.eq_1 @C.conf_each_api_Domain_r7_b.eq_1) (And.intro @C.conf_each_api_Domain_r6_b.eq_1 @C.conf_each_api_Domain_r5_b.eq_1)) (And.intro (And.intro @C.conf_each_api_Domain_r4_b.eq_1 @C.conf_each_api_Domain_r3_b.eq_1) (And.intro @C.conf_each_api_Domain_r2_b.eq_1 (And.intro @C.conf_each_api_Domain_r1_b.eq_1 @C.conf_each_api_Domain_r0_b.eq_1)))

def C.conf_Check_4_1_r1_b : List IOper := [
 X.o 4 (.loadN 4 (X.s 1)),
 X.o 5 (.loadN 3 (X.s 2)),
 X.o 6 (.call F.conf_domain [X.s 4, X.s 5]),
 X.m 3 6]
def C.conf_Check_4_1_r1 : List IOper := C.conf_Check_4_1_r1_b
def C.conf_Check_4_1_r1_w := @aopsE _ _ C.conf_Check_4_1_r1.eq_1
def C.conf_Check_4_1_c1 : ICode := .keep [1, 2] (.seq (.region C.conf_Check_4_1_r1) .ret)
def C.conf_Check_4_1_c1_w := @awpE _ _ C.conf_Check_4_1_c1.eq_1
def C.conf_Check_4_1_r0_b : List IOper := [
 X.o 2 (.boxN (X.s 0)),
 X.o 3 (.move (X.i 0))]
def C.conf_Check_4_1_r0 : List IOper := C.conf_Check_4_1_r0_b
def C.conf_Check_4_1_r0_w := @aopsE _ _ C.conf_Check_4_1_r0.eq_1
def C.conf_Check_4_1 : IFunc := ⟨2, [.slot 3], .seq (.region C.conf_Check_4_1_r0) C.conf_Check_4_1_c1⟩
def C.conf_Check_4_1_W := And.intro @C.conf_Check_4_1_r1_w (And.intro @C.conf_Check_4_1_c1_w @C.conf_Check_4_1_r0_w)
def C.conf_Check_4_1_B := And.intro @C.conf_Check_4_1_r1_b.eq_1 @C.conf_Check_4_1_r0_b.eq_1

def C.conf_domain_r1_b : List IOper := [
 X.o 5 (.makeFunc F.conf_domain_1 [X.s 3, X.s 2]),
 X.o 6 (.makeFunc F.conf_domain_2 [X.s 3]),
 X.o 7 (.buildSlice 1 2 [.nilf] [(0, 1, X.s 5), (1, 1, X.s 6)]),
 X.o 8 (.call F.conf_first [X.s 7]),
 X.m 4 8]
def C.conf_domain_r1 : List IOper := C.conf_domain_r1_b
def C.conf_domain_r1_w := @aopsE _ _ C.conf_domain_r1.eq_1
def C.conf_domain_c1 : ICode := .keep [2, 3] (.seq (.region C.conf_domain_r1) .ret)
def C.conf_domain_c1_w := @awpE _ _ C.conf_domain_c1.eq_1
def C.conf_domain_r0_b : List IOper := [
 X.o 2 (.boxN (X.s 0)),
 X.o 3 (.boxN (X.s 1)),
 X.o 4 (.move (X.i 0))]
def C.conf_domain_r0 : List IOper := C.conf_domain_r0_b
def C.conf_domain_r0_w := @aopsE _ _ C.conf_domain_r0.eq_1
def C.conf_domain : IFunc := ⟨2, [.slot 4], .seq (.region C.conf_domain_r0) C.conf_domain_c1⟩
def C.conf_domain_W := And.intro @C.conf_domain_r1_w (And.intro @C.conf_domain_c1_w @C.conf_domain_r0_w)
def C.conf_domain_B := And.intro @C.conf_domain_r1_b.eq_1 @C.conf_domain_r0_b.eq_1

def C.conf_Check_5_r1_b : List IOper := [
 X.o 2 (.loadN 4 (X.s 0)),
 X.o 3 (.call F.conf_Domains [X.s 2]),
 X.o 4 (.call F.conf_cycle [X.s 3]),
 X.m 1 4]
def C.conf_Check_5_r1 : List IOper := C.conf_Check_5_r1_b
def C.conf_Check_5_r1_w := @aopsE _ _ C.conf_Check_5_r1.eq_1
def C.conf_Check_5_c1 : ICode := .keep [0] (.seq (.region C.conf_Check_5_r1) .ret)
def C.conf_Check_5_c1_w := @awpE _ _ C.conf_Check_5_c1.eq_1
def C.conf_Check_5_r0_b : List IOper := [
 X.o 1 (.move (X.i 0))]
def C.conf_Check_5_r0 : List IOper := C.conf_Check_5_r0_b
def C.conf_Check_5_r0_w := @aopsE _ _ C.conf_Check_5_r0.eq_1
def C.conf_Check_5 : IFunc := ⟨1, [.slot 1], .seq (.region C.conf_Check_5_r0) C.conf_Check_5_c1⟩
def C.conf_Check_5_W := And.intro @C.conf_Check_5_r1_w (And.intro @C.conf_Check_5_c1_w @C.conf_Check_5_r0_w)
def C.conf_Check_5_B := And.intro @C.conf_Check_5_r1_b.eq_1 @C.conf_Check_5_r0_b.eq_1

def C.conf_Check_6_r1_b : List IOper := [
 X.o 2 (.fldAddr 2 (X.s 0)),
 X.o 3 (.load1 (X.s 2)),
 X.o 4 (.call F.conf_each_api_Reset [X.s 3, .fnc F.conf_reset]),
 X.m 1 4]
def C.conf_Check_6_r1 : List IOper := C.conf_Check_6_r1_b
def C.conf_Check_6_r1_w := @aopsE _ _ C.conf_Check_6_r1.eq_1
def C.conf_Check_6_c1 : ICode := .keep [0] (.seq (.region C.conf_Check_6_r1) .ret)
def C.conf_Check_6_c1_w := @awpE _ _ C.conf_Check_6_c1.eq_1
def C.conf_Check_6_r0_b : List IOper := [
 X.o 1 (.move (X.i 0))]
def C.conf_Check_6_r0 : List IOper := C.conf_Check_6_r0_b
def C.conf_Check_6_r0_w := @aopsE _ _ C.conf_Check_6_r0.eq_1
def C.conf_Check_6 : IFunc := ⟨1, [.slot 1], .seq (.region C.conf_Check_6_r0) C.conf_Check_6_c1⟩
def C.conf_Check_6_W := And.intro @C.conf_Check_6_r1_w (And.intro @C.conf_Check_6_c1_w @C.conf_Check_6_r0_w)
def C.conf_Check_6_B := And.intro @C.conf_Check_6_r1_b.eq_1 @C.conf_Check_6_r0_b.eq_1

def C.conf_each_api_Reset_r8_b : List IOper := [
 X.o 4 (.move (X.i 0))]
def C.conf_each_api_Reset_r8 : List IOper := C.conf_each_api_Reset_r8_b
def C.conf_each_api_Reset_r8_w := @aopsE _ _ C.conf_each_api_Reset_r8.eq_1
def C.conf_each_api_Reset_c1 : ICode := .keep [] (.seq (.region C.conf_each_api_Reset_r8) .ret)
def C.conf_each_api_Reset_c1_w := @awpE _ _ C.conf_each_api_Reset_c1.eq_1
def C.conf_each_api_Reset_r7_b : List IOper := [
 X.o 20 (.bin .add (X.s 10) (X.i 1)),
 X.m 10 20]
def C.conf_each_api_Reset_r7 : List IOper := C.conf_each_api_Reset_r7_b
def C.conf_each_api_Reset_r7_w := @aopsE _ _ C.conf_each_api_Reset_r7.eq_1
def C.conf_each_api_Reset_c2 : ICode := .keep [1, 8, 9, 10] (.region C.conf_each_api_Reset_r7)
def C.conf_each_api_Reset_c2_w := @awpE _ _ C.conf_each_api_Reset_c2.eq_1
def C.conf_each_api_Reset_r6_b : List IOper := [
 X.m 19 7,
 X.m 4 19]
def C.conf_each_api_Reset_r6 : List IOper := C.conf_each_api_Reset_r6_b
def C.conf_each_api_Reset_r6_w := @aopsE _ _ C.conf_each_api_Reset_r6.eq_1
def C.conf_each_api_Reset_c3 : ICode := .seq (.region C.conf_each_api_Reset_r6) .ret
def C.conf_each_api_Reset_c3_w := @awpE _ _ C.conf_each_api_Reset_c3.eq_1
def C.conf_each_api_Reset_c4 : ICode := .keep [1, 7, 8, 9, 10, 18] (.cond (X.s 18) C.conf_each_api_Reset_c3 .skip)
def C.conf_each_api_Reset_c4_w := @awpE _ _ C.conf_each_api_Reset_c4.eq_1
def C.conf_each_api_Reset_r5_b : List IOper := [
 X.m 17 7,
 X.o 18 (.bin .neq (X.s 17) (X.i 0))]
def C.conf_each_api_Reset_r5 : List IOper := C.conf_each_api_Reset_r5_b
def C.conf_each_api_Reset_r5_w := @aopsE _ _ C.conf_each_api_Reset_r5.eq_1
def C.conf_each_api_Reset_c5 : ICode := .keep [1, 7, 8, 9, 10] (.seq (.region C.conf_each_api_Reset_r5) C.conf_each_api_Reset_c4)
def C.conf_each_api_Reset_c5_w := @awpE _ _ C.conf_each_api_Reset_c5.eq_1
def C.conf_each_api_Reset_r4_b : List IOper := [
 X.m 14 1,
 X.o 15 (.loadN 1 (X.s 6)),
 X.o 16 (.callv (X.s 14) [X.s 15]),
 X.m 7 16]
def C.conf_each_api_Reset_r4 : List IOper := C.conf_each_api_Reset_r4_b
def C.conf_each_api_Reset_r4_w := @aopsE _ _ C.conf_each_api_Reset_r4.eq_1
def C.conf_each_api_Reset_c6 : ICode := .keep [1, 6, 8, 9, 10] (.seq (.region C.conf_each_api_Reset_r4) C.conf_each_api_Reset_c5)
def C.conf_each_api_Reset_c6_w := @awpE _ _ C.conf_each_api_Reset_c6.eq_1
def C.conf_each_api_Reset_r3_b : List IOper := [
 X.o 12 (.idxAddr 1 (X.s 8) (X.s 10)),
 X.o 13 (.loadN 1 (X.s 12)),
 X.o 6 (.alloc [.int .i64 0]),
 X.n (.storeN 1 (X.s 6) (X.s 13))]
def C.conf_each_api_Reset_r3 : List IOper := C.conf_each_api_Reset_r3_b
def C.conf_each_api_Reset_r3_w := @aopsE _ _ C.conf_each_api_Reset_r3.eq_1
def C.conf_each_api_Reset_b7 : ICode := .seq (.region C.conf_each_api_Reset_r3) C.conf_each_api_Reset_c6
def C.conf_each_api_Reset_b7_w := @awpE _ _ C.conf_each_api_Reset_b7.eq_1
def C.conf_each_api_Reset_c8 : ICode := .keep [1, 8, 9, 10] (.seq (.block 1 C.conf_each_api_Reset_b7) C.conf_each_api_Reset_c2)
def C.conf_each_api_Reset_c8_w := @awpE _ _ C.conf_each_api_Reset_c8.eq_1
def C.conf_each_api_Reset_c9 : ICode := .keep [1, 8, 9, 10, 11] (.seq (.cond (X.s 11) .skip (.exit 0)) C.conf_each_api_Reset_c8)
def C.conf_each_api_Reset_c9_w := @awpE _ _ C.conf_each_api_Reset_c9.eq_1
def C.conf_each_api_Reset_r2_b : List IOper := [
 X.o 11 (.bin .lss (X.s 10) (X.s 9))]
def C.conf_each_api_Reset_r2 : List IOper := C.conf_each_api_Reset_r2_b
def C.conf_each_api_Reset_r2_w := @aopsE _ _ C.conf_each_api_Reset_r2.eq_1
def C.conf_each_api_Reset_l10 : ICode := .keep [1, 8, 9, 10] (.seq (.region C.conf_each_api_Reset_r2) C.conf_each_api_Reset_c9)
def C.conf_each_api_Reset_l10_w := @awpE _ _ C.conf_each_api_Reset_l10.eq_1
def C.conf_each_api_Reset_b11 : ICode := .loop C.conf_each_api_Reset_l10
def C.conf_each_api_Reset_b11_w := @awpE _ _ C.conf_each_api_Reset_b11.eq_1
def C.conf_each_api_Reset_c12 : ICode := .keep [1, 8, 9, 10] (.block 0 C.conf_each_api_Reset_b11)
def C.conf_each_api_Reset_c12_w := @awpE _ _ C.conf_each_api_Reset_c12.eq_1
def C.conf_each_api_Reset_r1_b : List IOper := [
 X.m 8 0,
 X.o 9 (.len (X.s 8)),
 X.o 10 (.move (X.i 0))]
def C.conf_each_api_Reset_r1 : List IOper := C.conf_each_api_Reset_r1_b
def C.conf_each_api_Reset_r1_w := @aopsE _ _ C.conf_each_api_Reset_r1.eq_1
def C.conf_each_api_Reset_c13 : ICode := .keep [0, 1] (.seq (.seq (.region C.conf_each_api_Reset_r1) C.conf_each_api_Reset_c12) C.conf_each_api_Reset_c1)
def C.conf_each_api_Reset_c13_w := @awpE _ _ C.conf_each_api_Reset_c13.eq_1
def C.conf_each_api_Reset_r0_b : List IOper := [
 X.o 4 (.move (X.i 0))]
def C.conf_each_api_Reset_r0 : List IOper := C.conf_each_api_Reset_r0_b
def C.conf_each_api_Reset_r0_w := @aopsE _ _ C.conf_each_api_Reset_r0.eq_1
def C.conf_each_api_Reset : IFunc := ⟨2, [.slot 4], .seq (.region C.conf_each_api_Reset_r0) C.conf_each_api_Reset_c13⟩
def C.conf_each_api_Reset_W := And.intro (And.intro (And.intro (And.intro @C.conf_each_api_Reset_r8_w @C.conf_each_api_Reset_c1_w) (And.intro @C.conf_each_api_Reset_r7_w (And.intro @C.conf_each_api_Reset_c2_w @C.conf_each_api_Reset_r6_w))) (And.intro (And.intro @C.conf_each_api_Reset_c3_w @C.conf_each_api_Reset_c4_w) (And.intro @C.conf_each_api_Reset_r5_w (And.intro @C.conf_each_api_Reset_c5_w @C.conf_each_api_Reset_r4_w)))) (And.intro (And.intro (And.intro @C.conf_each_api_Reset_c6_w @C.conf_each_api_Reset_r3_w) (And.intro @C.conf_each_api_Reset_b7_w (And.intro @C.conf_each_api_Reset_c8_w @C.conf_each_api_Reset_c9_w))) (And.intro (And.intro @C.conf_each_api_Reset_r2_w (And.intro @C.conf_each_api_Reset_b11_w @C.conf_each_api_Reset_c12_w)) (And.intro @C.conf_each_api_Reset_r1_w (And.intro @C.conf_each_api_Reset_c13_w @C.conf_each_api_Reset_r0_w))))
def C.conf_each_api_Reset_B := And.intro (And.intro (And.intro @C.conf_each_api_Reset_r8_b.eq_1 @C.conf_each_api_Reset_r7_b.eq_1) (And.intro @C.conf_each_api_Reset_r6_b.eq_1 @C.conf_each_api_Reset_r5_b.eq_1)) (And.intro (And.intro @C.conf_each_api_Reset_r4_b.eq_1 @C.conf_each_api_Reset_r3_b.eq_1) (And.intro @C.conf_each_api_Reset_r2_b.eq_1 (And.intro @C.conf_each_api_Reset_r1_b.eq_1 @C.conf_each_api_Reset_r0_b.eq_1)))

def C.conf_reset_r1_b : List IOper := [
 X.o 3 (.fldAddr 0 (X.s 1)),
 X.o 4 (.load1 (X.s 3)),
 X.o 5 (.call F.conf_within [X.s 4, X.i 0, X.i 20]),
 X.o 6 (.un .not (X.s 5)),
 X.o 7 (.call F.conf_when [X.s 6, X.i 3]),
 X.m 2 7]
def C.conf_reset_r1 : List IOper := C.conf_reset_r1_b
def C.conf_reset_r1_w := @aopsE _ _ C.conf_reset_r1.eq_1
def C.conf_reset_c1 : ICode := .keep [1] (.seq (.region C.conf_reset_r1) .ret)
def C.conf_reset_c1_w := @awpE _ _ C.conf_reset_c1.eq_1
def C.conf_reset_r0_b : List IOper := [
 X.o 1 (.boxN (X.s 0)),
 X.o 2 (.move (X.i 0))]
def C.conf_reset_r0 : List IOper := C.conf_reset_r0_b
def C.conf_reset_r0_w := @aopsE _ _ C.conf_reset_r0.eq_1
def C.conf_reset : IFunc := ⟨1, [.slot 2], .seq (.region C.conf_reset_r0) C.conf_reset_c1⟩
def C.conf_reset_W := And.intro @C.conf_reset_r1_w (And.intro @C.conf_reset_c1_w @C.conf_reset_r0_w)
def C.conf_reset_B := And.intro @C.conf_reset_r1_b.eq_1 @C.conf_reset_r0_b.eq_1

def C.conf_Check_7_r1_b : List IOper := [
 X.o 2 (.fldAddr 3 (X.s 0)),
 X.o 3 (.load1 (X.s 2)),
 X.o 4 (.makeFunc F.conf_Check_7_1 [X.s 0]),
 X.o 5 (.call F.conf_each_api_Device [X.s 3, X.s 4]),
 X.m 1 5]
def C.conf_Check_7_r1 : List IOper := C.conf_Check_7_r1_b
def C.conf_Check_7_r1_w := @aopsE _ _ C.conf_Check_7_r1.eq_1
def C.conf_Check_7_c1 : ICode := .keep [0] (.seq (.region C.conf_Check_7_r1) .ret)
def C.conf_Check_7_c1_w := @awpE _ _ C.conf_Check_7_c1.eq_1
def C.conf_Check_7_r0_b : List IOper := [
 X.o 1 (.move (X.i 0))]
def C.conf_Check_7_r0 : List IOper := C.conf_Check_7_r0_b
def C.conf_Check_7_r0_w := @aopsE _ _ C.conf_Check_7_r0.eq_1
def C.conf_Check_7 : IFunc := ⟨1, [.slot 1], .seq (.region C.conf_Check_7_r0) C.conf_Check_7_c1⟩
def C.conf_Check_7_W := And.intro @C.conf_Check_7_r1_w (And.intro @C.conf_Check_7_c1_w @C.conf_Check_7_r0_w)
def C.conf_Check_7_B := And.intro @C.conf_Check_7_r1_b.eq_1 @C.conf_Check_7_r0_b.eq_1

def C.conf_each_api_Device_r8_b : List IOper := [
 X.o 4 (.move (X.i 0))]
def C.conf_each_api_Device_r8 : List IOper := C.conf_each_api_Device_r8_b
def C.conf_each_api_Device_r8_w := @aopsE _ _ C.conf_each_api_Device_r8.eq_1
def C.conf_each_api_Device_c1 : ICode := .keep [] (.seq (.region C.conf_each_api_Device_r8) .ret)
def C.conf_each_api_Device_c1_w := @awpE _ _ C.conf_each_api_Device_c1.eq_1
def C.conf_each_api_Device_r7_b : List IOper := [
 X.o 20 (.bin .add (X.s 10) (X.i 1)),
 X.m 10 20]
def C.conf_each_api_Device_r7 : List IOper := C.conf_each_api_Device_r7_b
def C.conf_each_api_Device_r7_w := @aopsE _ _ C.conf_each_api_Device_r7.eq_1
def C.conf_each_api_Device_c2 : ICode := .keep [1, 8, 9, 10] (.region C.conf_each_api_Device_r7)
def C.conf_each_api_Device_c2_w := @awpE _ _ C.conf_each_api_Device_c2.eq_1
def C.conf_each_api_Device_r6_b : List IOper := [
 X.m 19 7,
 X.m 4 19]
def C.conf_each_api_Device_r6 : List IOper := C.conf_each_api_Device_r6_b
def C.conf_each_api_Device_r6_w := @aopsE _ _ C.conf_each_api_Device_r6.eq_1
def C.conf_each_api_Device_c3 : ICode := .seq (.region C.conf_each_api_Device_r6) .ret
def C.conf_each_api_Device_c3_w := @awpE _ _ C.conf_each_api_Device_c3.eq_1
def C.conf_each_api_Device_c4 : ICode := .keep [1, 7, 8, 9, 10, 18] (.cond (X.s 18) C.conf_each_api_Device_c3 .skip)
def C.conf_each_api_Device_c4_w := @awpE _ _ C.conf_each_api_Device_c4.eq_1
def C.conf_each_api_Device_r5_b : List IOper := [
 X.m 17 7,
 X.o 18 (.bin .neq (X.s 17) (X.i 0))]
def C.conf_each_api_Device_r5 : List IOper := C.conf_each_api_Device_r5_b
def C.conf_each_api_Device_r5_w := @aopsE _ _ C.conf_each_api_Device_r5.eq_1
def C.conf_each_api_Device_c5 : ICode := .keep [1, 7, 8, 9, 10] (.seq (.region C.conf_each_api_Device_r5) C.conf_each_api_Device_c4)
def C.conf_each_api_Device_c5_w := @awpE _ _ C.conf_each_api_Device_c5.eq_1
def C.conf_each_api_Device_r4_b : List IOper := [
 X.m 14 1,
 X.o 15 (.loadN 6 (X.s 6)),
 X.o 16 (.callv (X.s 14) [X.s 15]),
 X.m 7 16]
def C.conf_each_api_Device_r4 : List IOper := C.conf_each_api_Device_r4_b
def C.conf_each_api_Device_r4_w := @aopsE _ _ C.conf_each_api_Device_r4.eq_1
def C.conf_each_api_Device_c6 : ICode := .keep [1, 6, 8, 9, 10] (.seq (.region C.conf_each_api_Device_r4) C.conf_each_api_Device_c5)
def C.conf_each_api_Device_c6_w := @awpE _ _ C.conf_each_api_Device_c6.eq_1
def C.conf_each_api_Device_r3_b : List IOper := [
 X.o 12 (.idxAddr 6 (X.s 8) (X.s 10)),
 X.o 13 (.loadN 6 (X.s 12)),
 X.o 6 (.alloc [.int .i64 0, .int .i64 0, .int .i64 0, .int .u32 0, .nils, .nils]),
 X.n (.storeN 6 (X.s 6) (X.s 13))]
def C.conf_each_api_Device_r3 : List IOper := C.conf_each_api_Device_r3_b
def C.conf_each_api_Device_r3_w := @aopsE _ _ C.conf_each_api_Device_r3.eq_1
def C.conf_each_api_Device_b7 : ICode := .seq (.region C.conf_each_api_Device_r3) C.conf_each_api_Device_c6
def C.conf_each_api_Device_b7_w := @awpE _ _ C.conf_each_api_Device_b7.eq_1
def C.conf_each_api_Device_c8 : ICode := .keep [1, 8, 9, 10] (.seq (.block 1 C.conf_each_api_Device_b7) C.conf_each_api_Device_c2)
def C.conf_each_api_Device_c8_w := @awpE _ _ C.conf_each_api_Device_c8.eq_1
def C.conf_each_api_Device_c9 : ICode := .keep [1, 8, 9, 10, 11] (.seq (.cond (X.s 11) .skip (.exit 0)) C.conf_each_api_Device_c8)
def C.conf_each_api_Device_c9_w := @awpE _ _ C.conf_each_api_Device_c9.eq_1
def C.conf_each_api_Device_r2_b : List IOper := [
 X.o 11 (.bin .lss (X.s 10) (X.s 9))]
def C.conf_each_api_Device_r2 : List IOper := C.conf_each_api_Device_r2_b
def C.conf_each_api_Device_r2_w := @aopsE _ _ C.conf_each_api_Device_r2.eq_1
def C.conf_each_api_Device_l10 : ICode := .keep [1, 8, 9, 10] (.seq (.region C.conf_each_api_Device_r2) C.conf_each_api_Device_c9)
def C.conf_each_api_Device_l10_w := @awpE _ _ C.conf_each_api_Device_l10.eq_1
def C.conf_each_api_Device_b11 : ICode := .loop C.conf_each_api_Device_l10
def C.conf_each_api_Device_b11_w := @awpE _ _ C.conf_each_api_Device_b11.eq_1
def C.conf_each_api_Device_c12 : ICode := .keep [1, 8, 9, 10] (.block 0 C.conf_each_api_Device_b11)
def C.conf_each_api_Device_c12_w := @awpE _ _ C.conf_each_api_Device_c12.eq_1
def C.conf_each_api_Device_r1_b : List IOper := [
 X.m 8 0,
 X.o 9 (.len (X.s 8)),
 X.o 10 (.move (X.i 0))]
def C.conf_each_api_Device_r1 : List IOper := C.conf_each_api_Device_r1_b
def C.conf_each_api_Device_r1_w := @aopsE _ _ C.conf_each_api_Device_r1.eq_1
def C.conf_each_api_Device_c13 : ICode := .keep [0, 1] (.seq (.seq (.region C.conf_each_api_Device_r1) C.conf_each_api_Device_c12) C.conf_each_api_Device_c1)
def C.conf_each_api_Device_c13_w := @awpE _ _ C.conf_each_api_Device_c13.eq_1
def C.conf_each_api_Device_r0_b : List IOper := [
 X.o 4 (.move (X.i 0))]
def C.conf_each_api_Device_r0 : List IOper := C.conf_each_api_Device_r0_b
def C.conf_each_api_Device_r0_w := @aopsE _ _ C.conf_each_api_Device_r0.eq_1
def C.conf_each_api_Device : IFunc := ⟨2, [.slot 4], .seq (.region C.conf_each_api_Device_r0) C.conf_each_api_Device_c13⟩
def C.conf_each_api_Device_W := And.intro (And.intro (And.intro (And.intro @C.conf_each_api_Device_r8_w @C.conf_each_api_Device_c1_w) (And.intro @C.conf_each_api_Device_r7_w (And.intro @C.conf_each_api_Device_c2_w @C.conf_each_api_Device_r6_w))) (And.intro (And.intro @C.conf_each_api_Device_c3_w @C.conf_each_api_Device_c4_w) (And.intro @C.conf_each_api_Device_r5_w (And.intro @C.conf_each_api_Device_c5_w @C.conf_each_api_Device_r4_w)))) (And.intro (And.intro (And.intro @C.conf_each_api_Device_c6_w @C.conf_each_api_Device_r3_w) (And.intro @C.conf_each_api_Device_b7_w (And.intro @C.conf_each_api_Device_c8_w @C.conf_each_api_Device_c9_w))) (And.intro (And.intro @C.conf_each_api_Device_r2_w (And.intro @C.conf_each_api_Device_b11_w @C.conf_each_api_Device_c12_w)) (And.intro @C.conf_each_api_Device_r1_w (And.intro @C.conf_each_api_Device_c13_w @C.conf_each_api_Device_r0_w))))
def C.conf_each_api_Device_B := And.intro (And.intro (And.intro @C.conf_each_api_Device_r8_b.eq_1 @C.conf_each_api_Device_r7_b.eq_1) (And.intro @C.conf_each_api_Device_r6_b.eq_1 @C.conf_each_api_Device_r5_b.eq_1)) (And.intro (And.intro @C.conf_each_api_Device_r4_b.eq_1 @C.conf_each_api_Device_r3_b.eq_1) (And.intro @C.conf_each_api_Device_r2_b.eq_1 (And.intro @C.conf_each_api_Device_r1_b.eq_1 @C.conf_each_api_Device_r0_b.eq_1)))

def C.conf_Check_7_1_r1_b : List IOper := [
 X.o 4 (.loadN 4 (X.s 1)),
 X.o 5 (.loadN 6 (X.s 2)),
 X.o 6 (.call F.conf_device [X.s 4, X.s 5]),
 X.m 3 6]
def C.conf_Check_7_1_r1 : List IOper := C.conf_Check_7_1_r1_b
def C.conf_Check_7_1_r1_w := @aopsE _ _ C.conf_Check_7_1_r1.eq_1
def C.conf_Check_7_1_c1 : ICode := .keep [1, 2] (.seq (.region C.conf_Check_7_1_r1) .ret)
def C.conf_Check_7_1_c1_w := @awpE _ _ C.conf_Check_7_1_c1.eq_1
def C.conf_Check_7_1_r0_b : List IOper := [
 X.o 2 (.boxN (X.s 0)),
 X.o 3 (.move (X.i 0))]
def C.conf_Check_7_1_r0 : List IOper := C.conf_Check_7_1_r0_b
def C.conf_Check_7_1_r0_w := @aopsE _ _ C.conf_Check_7_1_r0.eq_1
def C.conf_Check_7_1 : IFunc := ⟨2, [.slot 3], .seq (.region C.conf_Check_7_1_r0) C.conf_Check_7_1_c1⟩
def C.conf_Check_7_1_W := And.intro @C.conf_Check_7_1_r1_w (And.intro @C.conf_Check_7_1_c1_w @C.conf_Check_7_1_r0_w)
def C.conf_Check_7_1_B := And.intro @C.conf_Check_7_1_r1_b.eq_1 @C.conf_Check_7_1_r0_b.eq_1

def C.conf_device_r1_b : List IOper := [
 X.o 5 (.makeFunc F.conf_device_1 [X.s 3, X.s 2]),
 X.o 6 (.makeFunc F.conf_device_2 [X.s 3, X.s 2]),
 X.o 7 (.makeFunc F.conf_device_3 [X.s 3, X.s 2]),
 X.o 8 (.makeFunc F.conf_device_4 [X.s 3, X.s 2]),
 X.o 9 (.buildSlice 1 4 [.nilf] [(0, 1, X.s 5), (1, 1, X.s 6), (2, 1, X.s 7), (3, 1, X.s 8)]),
 X.o 10 (.call F.conf_first [X.s 9]),
 X.m 4 10]
def C.conf_device_r1 : List IOper := C.conf_device_r1_b
def C.conf_device_r1_w := @aopsE _ _ C.conf_device_r1.eq_1
def C.conf_device_c1 : ICode := .keep [2, 3] (.seq (.region C.conf_device_r1) .ret)
def C.conf_device_c1_w := @awpE _ _ C.conf_device_c1.eq_1
def C.conf_device_r0_b : List IOper := [
 X.o 2 (.boxN (X.s 0)),
 X.o 3 (.boxN (X.s 1)),
 X.o 4 (.move (X.i 0))]
def C.conf_device_r0 : List IOper := C.conf_device_r0_b
def C.conf_device_r0_w := @aopsE _ _ C.conf_device_r0.eq_1
def C.conf_device : IFunc := ⟨2, [.slot 4], .seq (.region C.conf_device_r0) C.conf_device_c1⟩
def C.conf_device_W := And.intro @C.conf_device_r1_w (And.intro @C.conf_device_c1_w @C.conf_device_r0_w)
def C.conf_device_B := And.intro @C.conf_device_r1_b.eq_1 @C.conf_device_r0_b.eq_1

def C.conf_Check_8_r1_b : List IOper := [
 X.o 2 (.loadN 4 (X.s 0)),
 X.o 3 (.call F.conf_Needs [X.s 2]),
 X.o 4 (.call F.conf_cycle [X.s 3]),
 X.m 1 4]
def C.conf_Check_8_r1 : List IOper := C.conf_Check_8_r1_b
def C.conf_Check_8_r1_w := @aopsE _ _ C.conf_Check_8_r1.eq_1
def C.conf_Check_8_c1 : ICode := .keep [0] (.seq (.region C.conf_Check_8_r1) .ret)
def C.conf_Check_8_c1_w := @awpE _ _ C.conf_Check_8_c1.eq_1
def C.conf_Check_8_r0_b : List IOper := [
 X.o 1 (.move (X.i 0))]
def C.conf_Check_8_r0 : List IOper := C.conf_Check_8_r0_b
def C.conf_Check_8_r0_w := @aopsE _ _ C.conf_Check_8_r0.eq_1
def C.conf_Check_8 : IFunc := ⟨1, [.slot 1], .seq (.region C.conf_Check_8_r0) C.conf_Check_8_c1⟩
def C.conf_Check_8_W := And.intro @C.conf_Check_8_r1_w (And.intro @C.conf_Check_8_c1_w @C.conf_Check_8_r0_w)
def C.conf_Check_8_B := And.intro @C.conf_Check_8_r1_b.eq_1 @C.conf_Check_8_r0_b.eq_1

def C.conf_own_int_r1_b : List IOper := [
 X.m 3 0,
 X.o 4 (.append 1 8 (.cst (.nils)) (X.s 3)),
 X.m 2 4]
def C.conf_own_int_r1 : List IOper := C.conf_own_int_r1_b
def C.conf_own_int_r1_w := @aopsE _ _ C.conf_own_int_r1.eq_1
def C.conf_own_int_c1 : ICode := .keep [0] (.seq (.region C.conf_own_int_r1) .ret)
def C.conf_own_int_c1_w := @awpE _ _ C.conf_own_int_c1.eq_1
def C.conf_own_int_r0_b : List IOper := [
 X.o 2 (.move (.cst (.nils)))]
def C.conf_own_int_r0 : List IOper := C.conf_own_int_r0_b
def C.conf_own_int_r0_w := @aopsE _ _ C.conf_own_int_r0.eq_1
def C.conf_own_int : IFunc := ⟨1, [.slot 2], .seq (.region C.conf_own_int_r0) C.conf_own_int_c1⟩
def C.conf_own_int_W := And.intro @C.conf_own_int_r1_w (And.intro @C.conf_own_int_c1_w @C.conf_own_int_r0_w)
def C.conf_own_int_B := And.intro @C.conf_own_int_r1_b.eq_1 @C.conf_own_int_r0_b.eq_1

def C.graph_numbers_r13_b : List IOper := [
 X.o 2 (.move (X.i 0))]
def C.graph_numbers_r13 : List IOper := C.graph_numbers_r13_b
def C.graph_numbers_r13_w := @aopsE _ _ C.graph_numbers_r13.eq_1
def C.graph_numbers_c1 : ICode := .keep [] (.seq (.region C.graph_numbers_r13) .ret)
def C.graph_numbers_c1_w := @awpE _ _ C.graph_numbers_c1.eq_1
def C.graph_numbers_r12_b : List IOper := [
 X.o 31 (.bin .add (X.s 12) (X.i 1)),
 X.m 12 31]
def C.graph_numbers_r12 : List IOper := C.graph_numbers_r12_b
def C.graph_numbers_r12_w := @aopsE _ _ C.graph_numbers_r12.eq_1
def C.graph_numbers_c2 : ICode := .keep [0, 10, 11, 12] (.region C.graph_numbers_r12)
def C.graph_numbers_c2_w := @awpE _ _ C.graph_numbers_c2.eq_1
def C.graph_numbers_r11_b : List IOper := [
 X.o 30 (.bin .add (X.s 18) (X.i 1)),
 X.m 18 30]
def C.graph_numbers_r11 : List IOper := C.graph_numbers_r11_b
def C.graph_numbers_r11_w := @aopsE _ _ C.graph_numbers_r11.eq_1
def C.graph_numbers_c3 : ICode := .keep [0, 10, 11, 12, 16, 17, 18] (.region C.graph_numbers_r11)
def C.graph_numbers_c3_w := @awpE _ _ C.graph_numbers_c3.eq_1
def C.graph_numbers_r10_b : List IOper := [
 X.o 2 (.move (X.i 4))]
def C.graph_numbers_r10 : List IOper := C.graph_numbers_r10_b
def C.graph_numbers_r10_w := @aopsE _ _ C.graph_numbers_r10.eq_1
def C.graph_numbers_c4 : ICode := .seq (.region C.graph_numbers_r10) .ret
def C.graph_numbers_c4_w := @awpE _ _ C.graph_numbers_c4.eq_1
def C.graph_numbers_c5 : ICode := .keep [0, 10, 11, 12, 16, 17, 18, 29] (.cond (X.s 29) C.graph_numbers_c4 .skip)
def C.graph_numbers_c5_w := @awpE _ _ C.graph_numbers_c5.eq_1
def C.graph_numbers_r9_b : List IOper := [
 X.m 22 6,
 X.o 23 (.bin .lss (X.s 22) (X.i 0)),
 X.m 24 23,
 X.f 24 25 (.move (X.s 6)),
 X.f 24 26 (.move (X.s 0)),
 X.f 24 27 (.len (X.s 26)),
 X.f 24 28 (.bin .geq (X.s 25) (X.s 27)),
 X.o 29 (.pick (X.s 24) (.cst (.bool true)) (X.s 28))]
def C.graph_numbers_r9 : List IOper := C.graph_numbers_r9_b
def C.graph_numbers_r9_w := @aopsE _ _ C.graph_numbers_r9.eq_1
def C.graph_numbers_c6 : ICode := .keep [0, 6, 10, 11, 12, 16, 17, 18] (.seq (.region C.graph_numbers_r9) C.graph_numbers_c5)
def C.graph_numbers_c6_w := @awpE _ _ C.graph_numbers_c6.eq_1
def C.graph_numbers_r8_b : List IOper := [
 X.o 20 (.idxAddr 1 (X.s 16) (X.s 18)),
 X.o 21 (.load1 (X.s 20)),
 X.m 6 21]
def C.graph_numbers_r8 : List IOper := C.graph_numbers_r8_b
def C.graph_numbers_r8_w := @aopsE _ _ C.graph_numbers_r8.eq_1
def C.graph_numbers_b7 : ICode := .seq (.region C.graph_numbers_r8) C.graph_numbers_c6
def C.graph_numbers_b7_w := @awpE _ _ C.graph_numbers_b7.eq_1
def C.graph_numbers_c8 : ICode := .keep [0, 10, 11, 12, 16, 17, 18] (.seq (.block 3 C.graph_numbers_b7) C.graph_numbers_c3)
def C.graph_numbers_c8_w := @awpE _ _ C.graph_numbers_c8.eq_1
def C.graph_numbers_c9 : ICode := .keep [0, 10, 11, 12, 16, 17, 18, 19] (.seq (.cond (X.s 19) .skip (.exit 2)) C.graph_numbers_c8)
def C.graph_numbers_c9_w := @awpE _ _ C.graph_numbers_c9.eq_1
def C.graph_numbers_r7_b : List IOper := [
 X.o 19 (.bin .lss (X.s 18) (X.s 17))]
def C.graph_numbers_r7 : List IOper := C.graph_numbers_r7_b
def C.graph_numbers_r7_w := @aopsE _ _ C.graph_numbers_r7.eq_1
def C.graph_numbers_l10 : ICode := .keep [0, 10, 11, 12, 16, 17, 18] (.seq (.region C.graph_numbers_r7) C.graph_numbers_c9)
def C.graph_numbers_l10_w := @awpE _ _ C.graph_numbers_l10.eq_1
def C.graph_numbers_b11 : ICode := .loop C.graph_numbers_l10
def C.graph_numbers_b11_w := @awpE _ _ C.graph_numbers_b11.eq_1
def C.graph_numbers_c12 : ICode := .keep [0, 10, 11, 12, 16, 17, 18] (.block 2 C.graph_numbers_b11)
def C.graph_numbers_c12_w := @awpE _ _ C.graph_numbers_c12.eq_1
def C.graph_numbers_r6_b : List IOper := [
 X.m 16 4,
 X.o 17 (.len (X.s 16)),
 X.o 18 (.move (X.i 0))]
def C.graph_numbers_r6 : List IOper := C.graph_numbers_r6_b
def C.graph_numbers_r6_w := @aopsE _ _ C.graph_numbers_r6.eq_1
def C.graph_numbers_c13 : ICode := .keep [0, 4, 10, 11, 12] (.seq (.region C.graph_numbers_r6) C.graph_numbers_c12)
def C.graph_numbers_c13_w := @awpE _ _ C.graph_numbers_c13.eq_1
def C.graph_numbers_r5_b : List IOper := [
 X.o 14 (.idxAddr 1 (X.s 10) (X.s 12)),
 X.o 15 (.load1 (X.s 14)),
 X.m 4 15]
def C.graph_numbers_r5 : List IOper := C.graph_numbers_r5_b
def C.graph_numbers_r5_w := @aopsE _ _ C.graph_numbers_r5.eq_1
def C.graph_numbers_b14 : ICode := .seq (.region C.graph_numbers_r5) C.graph_numbers_c13
def C.graph_numbers_b14_w := @awpE _ _ C.graph_numbers_b14.eq_1
def C.graph_numbers_c15 : ICode := .keep [0, 10, 11, 12] (.seq (.block 1 C.graph_numbers_b14) C.graph_numbers_c2)
def C.graph_numbers_c15_w := @awpE _ _ C.graph_numbers_c15.eq_1
def C.graph_numbers_c16 : ICode := .keep [0, 10, 11, 12, 13] (.seq (.cond (X.s 13) .skip (.exit 0)) C.graph_numbers_c15)
def C.graph_numbers_c16_w := @awpE _ _ C.graph_numbers_c16.eq_1
def C.graph_numbers_r4_b : List IOper := [
 X.o 13 (.bin .lss (X.s 12) (X.s 11))]
def C.graph_numbers_r4 : List IOper := C.graph_numbers_r4_b
def C.graph_numbers_r4_w := @aopsE _ _ C.graph_numbers_r4.eq_1
def C.graph_numbers_l17 : ICode := .keep [0, 10, 11, 12] (.seq (.region C.graph_numbers_r4) C.graph_numbers_c16)
def C.graph_numbers_l17_w := @awpE _ _ C.graph_numbers_l17.eq_1
def C.graph_numbers_b18 : ICode := .loop C.graph_numbers_l17
def C.graph_numbers_b18_w := @awpE _ _ C.graph_numbers_b18.eq_1
def C.graph_numbers_c19 : ICode := .keep [0, 10, 11, 12] (.block 0 C.graph_numbers_b18)
def C.graph_numbers_c19_w := @awpE _ _ C.graph_numbers_c19.eq_1
def C.graph_numbers_r3_b : List IOper := [
 X.m 10 0,
 X.o 11 (.len (X.s 10)),
 X.o 12 (.move (X.i 0))]
def C.graph_numbers_r3 : List IOper := C.graph_numbers_r3_b
def C.graph_numbers_r3_w := @aopsE _ _ C.graph_numbers_r3.eq_1
def C.graph_numbers_c20 : ICode := .keep [0] (.seq (.seq (.region C.graph_numbers_r3) C.graph_numbers_c19) C.graph_numbers_c1)
def C.graph_numbers_c20_w := @awpE _ _ C.graph_numbers_c20.eq_1
def C.graph_numbers_r2_b : List IOper := [
 X.o 2 (.move (X.i 1))]
def C.graph_numbers_r2 : List IOper := C.graph_numbers_r2_b
def C.graph_numbers_r2_w := @aopsE _ _ C.graph_numbers_r2.eq_1
def C.graph_numbers_c21 : ICode := .seq (.region C.graph_numbers_r2) .ret
def C.graph_numbers_c21_w := @awpE _ _ C.graph_numbers_c21.eq_1
def C.graph_numbers_c22 : ICode := .keep [0, 9] (.cond (X.s 9) C.graph_numbers_c21 .skip)
def C.graph_numbers_c22_w := @awpE _ _ C.graph_numbers_c22.eq_1
def C.graph_numbers_r1_b : List IOper := [
 X.m 7 0,
 X.o 8 (.len (X.s 7)),
 X.o 9 (.bin .gtr (X.s 8) (X.i 100))]
def C.graph_numbers_r1 : List IOper := C.graph_numbers_r1_b
def C.graph_numbers_r1_w := @aopsE _ _ C.graph_numbers_r1.eq_1
def C.graph_numbers_c23 : ICode := .keep [0] (.seq (.seq (.region C.graph_numbers_r1) C.graph_numbers_c22) C.graph_numbers_c20)
def C.graph_numbers_c23_w := @awpE _ _ C.graph_numbers_c23.eq_1
def C.graph_numbers_r0_b : List IOper := [
 X.o 2 (.move (X.i 0))]
def C.graph_numbers_r0 : List IOper := C.graph_numbers_r0_b
def C.graph_numbers_r0_w := @aopsE _ _ C.graph_numbers_r0.eq_1
def C.graph_numbers : IFunc := ⟨1, [.slot 2], .seq (.region C.graph_numbers_r0) C.graph_numbers_c23⟩
def C.graph_numbers_W := And.intro (And.intro (And.intro (And.intro (And.intro @C.graph_numbers_r13_w @C.graph_numbers_c1_w) (And.intro @C.graph_numbers_r12_w @C.graph_numbers_c2_w)) (And.intro (And.intro @C.graph_numbers_r11_w @C.graph_numbers_c3_w) (And.intro @C.graph_numbers_r10_w @C.graph_numbers_c4_w))) (And.intro (And.intro (And.intro @C.graph_numbers_c5_w @C.graph_numbers_r9_w) (And.intro @C.graph_numbers_c6_w @C.graph_numbers_r8_w)) (And.intro (And.intro @C.graph_numbers_b7_w @C.graph_numbers_c8_w) (And.intro @C.graph_numbers_c9_w (And.intro @C.graph_numbers_r7_w @C.graph_numbers_b11_w))))) (And.intro (And.intro (And.intro (And.intro @C.graph_numbers_c12_w @C.graph_numbers_r6_w) (And.intro @C.graph_numbers_c13_w @C.graph_numbers_r5_w)) (And.intro (And.intro @C.graph_numbers_b14_w @C.graph_numbers_c15_w) (And.intro @C.graph_numbers_c16_w (And.intro @C.graph_numbers_r4_w @C.graph_numbers_b18_w)))) (And.intro (And.intro (And.intro @C.graph_numbers_c19_w @C.graph_numbers_r3_w) (And.intro @C.graph_numbers_c20_w @C.graph_numbers_r2_w)) (And.intro (And.intro @C.graph_numbers_c21_w @C.graph_numbers_c22_w) (And.intro @C.graph_numbers_r1_w (And.intro @C.graph_numbers_c23_w @C.graph_numbers_r0_w)))))
def C.graph_numbers_B := And.intro (And.intro (And.intro @C.graph_numbers_r13_b.eq_1 (And.intro @C.graph_numbers_r12_b.eq_1 @C.graph_numbers_r11_b.eq_1)) (And.intro (And.intro @C.graph_numbers_r10_b.eq_1 @C.graph_numbers_r9_b.eq_1) (And.intro @C.graph_numbers_r8_b.eq_1 @C.graph_numbers_r7_b.eq_1))) (And.intro (And.intro @C.graph_numbers_r6_b.eq_1 (And.intro @C.graph_numbers_r5_b.eq_1 @C.graph_numbers_r4_b.eq_1)) (And.intro (And.intro @C.graph_numbers_r3_b.eq_1 @C.graph_numbers_r2_b.eq_1) (And.intro @C.graph_numbers_r1_b.eq_1 @C.graph_numbers_r0_b.eq_1)))

def C.graph_hang_r16_b : List IOper := [
 X.m 53 2,
 X.m 54 3,
 X.m 2 53,
 X.m 3 54]
def C.graph_hang_r16 : List IOper := C.graph_hang_r16_b
def C.graph_hang_r16_w := @aopsE _ _ C.graph_hang_r16.eq_1
def C.graph_hang_c1 : ICode := .keep [2, 3] (.seq (.region C.graph_hang_r16) .ret)
def C.graph_hang_c1_w := @awpE _ _ C.graph_hang_c1.eq_1
def C.graph_hang_r15_b : List IOper := [
 X.o 52 (.bin .add (X.s 17) (X.i 1)),
 X.m 17 52]
def C.graph_hang_r15 : List IOper := C.graph_hang_r15_b
def C.graph_hang_r15_w := @aopsE _ _ C.graph_hang_r15.eq_1
def C.graph_hang_c2 : ICode := .keep [2, 3, 15, 16, 17] (.region C.graph_hang_r15)
def C.graph_hang_c2_w := @awpE _ _ C.graph_hang_c2.eq_1
def C.graph_hang_r14_b : List IOper := [
 X.o 51 (.bin .add (X.s 25) (X.i 1)),
 X.m 25 51]
def C.graph_hang_r14 : List IOper := C.graph_hang_r14_b
def C.graph_hang_r14_w := @aopsE _ _ C.graph_hang_r14.eq_1
def C.graph_hang_c3 : ICode := .keep [2, 3, 4, 6, 15, 16, 17, 23, 24, 25] (.region C.graph_hang_r14)
def C.graph_hang_c3_w := @awpE _ _ C.graph_hang_c3.eq_1
def C.graph_hang_r13_b : List IOper := [
 X.m 41 3,
 X.m 42 8,
 X.m 43 3,
 X.m 44 8,
 X.o 45 (.idxAddr 1 (X.s 43) (X.s 44)),
 X.o 46 (.load1 (X.s 45)),
 X.m 47 4,
 X.o 48 (.buildSlice 1 1 [.int .i64 0] [(0, 1, X.s 47)]),
 X.o 49 (.append 1 8 (X.s 46) (X.s 48)),
 X.o 50 (.idxAddr 1 (X.s 41) (X.s 42)),
 X.n (.store1 (X.s 50) (X.s 49))]
def C.graph_hang_r13 : List IOper := C.graph_hang_r13_b
def C.graph_hang_r13_w := @aopsE _ _ C.graph_hang_r13.eq_1
def C.graph_hang_c4 : ICode := .keep [2, 3, 4, 6, 8, 15, 16, 17, 23, 24, 25] (.region C.graph_hang_r13)
def C.graph_hang_c4_w := @awpE _ _ C.graph_hang_c4.eq_1
def C.graph_hang_r12_b : List IOper := [
 X.m 35 2,
 X.m 36 4,
 X.o 37 (.idxAddr 1 (X.s 35) (X.s 36)),
 X.o 38 (.load1 (X.s 37)),
 X.o 39 (.bin .add (X.s 38) (X.i 1)),
 X.o 40 (.idxAddr 1 (X.s 35) (X.s 36)),
 X.n (.store1 (X.s 40) (X.s 39))]
def C.graph_hang_r12 : List IOper := C.graph_hang_r12_b
def C.graph_hang_r12_w := @aopsE _ _ C.graph_hang_r12.eq_1
def C.graph_hang_c5 : ICode := .keep [2, 3, 4, 6, 8, 15, 16, 17, 23, 24, 25] (.seq (.region C.graph_hang_r12) C.graph_hang_c4)
def C.graph_hang_c5_w := @awpE _ _ C.graph_hang_c5.eq_1
def C.graph_hang_r11_b : List IOper := [
 X.m 32 6,
 X.m 33 8,
 X.o 34 (.call F.graph_marks_add [X.s 32, X.s 33])]
def C.graph_hang_r11 : List IOper := C.graph_hang_r11_b
def C.graph_hang_r11_w := @aopsE _ _ C.graph_hang_r11.eq_1
def C.graph_hang_c6 : ICode := .keep [2, 3, 4, 6, 8, 15, 16, 17, 23, 24, 25] (.seq (.region C.graph_hang_r11) C.graph_hang_c5)
def C.graph_hang_c6_w := @awpE _ _ C.graph_hang_c6.eq_1
def C.graph_hang_c7 : ICode := .keep [2, 3, 4, 6, 8, 15, 16, 17, 23, 24, 25, 31] (.cond (X.s 31) (.exit 3) .skip)
def C.graph_hang_c7_w := @awpE _ _ C.graph_hang_c7.eq_1
def C.graph_hang_r10_b : List IOper := [
 X.m 29 6,
 X.m 30 8,
 X.o 31 (.call F.graph_marks_has [X.s 29, X.s 30])]
def C.graph_hang_r10 : List IOper := C.graph_hang_r10_b
def C.graph_hang_r10_w := @aopsE _ _ C.graph_hang_r10.eq_1
def C.graph_hang_c8 : ICode := .keep [2, 3, 4, 6, 8, 15, 16, 17, 23, 24, 25] (.seq (.seq (.region C.graph_hang_r10) C.graph_hang_c7) C.graph_hang_c6)
def C.graph_hang_c8_w := @awpE _ _ C.graph_hang_c8.eq_1
def C.graph_hang_r9_b : List IOper := [
 X.o 27 (.idxAddr 1 (X.s 23) (X.s 25)),
 X.o 28 (.load1 (X.s 27)),
 X.m 8 28]
def C.graph_hang_r9 : List IOper := C.graph_hang_r9_b
def C.graph_hang_r9_w := @aopsE _ _ C.graph_hang_r9.eq_1
def C.graph_hang_b9 : ICode := .seq (.region C.graph_hang_r9) C.graph_hang_c8
def C.graph_hang_b9_w := @awpE _ _ C.graph_hang_b9.eq_1
def C.graph_hang_c10 : ICode := .keep [2, 3, 4, 6, 15, 16, 17, 23, 24, 25] (.seq (.block 3 C.graph_hang_b9) C.graph_hang_c3)
def C.graph_hang_c10_w := @awpE _ _ C.graph_hang_c10.eq_1
def C.graph_hang_c11 : ICode := .keep [2, 3, 4, 6, 15, 16, 17, 23, 24, 25, 26] (.seq (.cond (X.s 26) .skip (.exit 2)) C.graph_hang_c10)
def C.graph_hang_c11_w := @awpE _ _ C.graph_hang_c11.eq_1
def C.graph_hang_r8_b : List IOper := [
 X.o 26 (.bin .lss (X.s 25) (X.s 24))]
def C.graph_hang_r8 : List IOper := C.graph_hang_r8_b
def C.graph_hang_r8_w := @aopsE _ _ C.graph_hang_r8.eq_1
def C.graph_hang_l12 : ICode := .keep [2, 3, 4, 6, 15, 16, 17, 23, 24, 25] (.seq (.region C.graph_hang_r8) C.graph_hang_c11)
def C.graph_hang_l12_w := @awpE _ _ C.graph_hang_l12.eq_1
def C.graph_hang_b13 : ICode := .loop C.graph_hang_l12
def C.graph_hang_b13_w := @awpE _ _ C.graph_hang_b13.eq_1
def C.graph_hang_c14 : ICode := .keep [2, 3, 4, 6, 15, 16, 17, 23, 24, 25] (.block 2 C.graph_hang_b13)
def C.graph_hang_c14_w := @awpE _ _ C.graph_hang_c14.eq_1
def C.graph_hang_r7_b : List IOper := [
 X.m 23 5,
 X.o 24 (.len (X.s 23)),
 X.o 25 (.move (X.i 0))]
def C.graph_hang_r7 : List IOper := C.graph_hang_r7_b
def C.graph_hang_r7_w := @aopsE _ _ C.graph_hang_r7.eq_1
def C.graph_hang_c15 : ICode := .keep [2, 3, 4, 5, 6, 15, 16, 17] (.seq (.region C.graph_hang_r7) C.graph_hang_c14)
def C.graph_hang_c15_w := @awpE _ _ C.graph_hang_c15.eq_1
def C.graph_hang_r6_b : List IOper := [
 X.o 22 (.makeMap none),
 X.m 6 22]
def C.graph_hang_r6 : List IOper := C.graph_hang_r6_b
def C.graph_hang_r6_w := @aopsE _ _ C.graph_hang_r6.eq_1
def C.graph_hang_c16 : ICode := .keep [2, 3, 4, 5, 15, 16, 17] (.seq (.region C.graph_hang_r6) C.graph_hang_c15)
def C.graph_hang_c16_w := @awpE _ _ C.graph_hang_c16.eq_1
def C.graph_hang_r5_b : List IOper := [
 X.m 19 17,
 X.o 20 (.idxAddr 1 (X.s 15) (X.s 17)),
 X.o 21 (.load1 (X.s 20)),
 X.m 4 19,
 X.m 5 21]
def C.graph_hang_r5 : List IOper := C.graph_hang_r5_b
def C.graph_hang_r5_w := @aopsE _ _ C.graph_hang_r5.eq_1
def C.graph_hang_b17 : ICode := .seq (.region C.graph_hang_r5) C.graph_hang_c16
def C.graph_hang_b17_w := @awpE _ _ C.graph_hang_b17.eq_1
def C.graph_hang_c18 : ICode := .keep [2, 3, 15, 16, 17] (.seq (.block 1 C.graph_hang_b17) C.graph_hang_c2)
def C.graph_hang_c18_w := @awpE _ _ C.graph_hang_c18.eq_1
def C.graph_hang_c19 : ICode := .keep [2, 3, 15, 16, 17, 18] (.seq (.cond (X.s 18) .skip (.exit 0)) C.graph_hang_c18)
def C.graph_hang_c19_w := @awpE _ _ C.graph_hang_c19.eq_1
def C.graph_hang_r4_b : List IOper := [
 X.o 18 (.bin .lss (X.s 17) (X.s 16))]
def C.graph_hang_r4 : List IOper := C.graph_hang_r4_b
def C.graph_hang_r4_w := @aopsE _ _ C.graph_hang_r4.eq_1
def C.graph_hang_l20 : ICode := .keep [2, 3, 15, 16, 17] (.seq (.region C.graph_hang_r4) C.graph_hang_c19)
def C.graph_hang_l20_w := @awpE _ _ C.graph_hang_l20.eq_1
def C.graph_hang_b21 : ICode := .loop C.graph_hang_l20
def C.graph_hang_b21_w := @awpE _ _ C.graph_hang_b21.eq_1
def C.graph_hang_c22 : ICode := .keep [2, 3, 15, 16, 17] (.block 0 C.graph_hang_b21)
def C.graph_hang_c22_w := @awpE _ _ C.graph_hang_c22.eq_1
def C.graph_hang_r3_b : List IOper := [
 X.m 15 0,
 X.o 16 (.len (X.s 15)),
 X.o 17 (.move (X.i 0))]
def C.graph_hang_r3 : List IOper := C.graph_hang_r3_b
def C.graph_hang_r3_w := @aopsE _ _ C.graph_hang_r3.eq_1
def C.graph_hang_c23 : ICode := .keep [0, 2, 3] (.seq (.seq (.region C.graph_hang_r3) C.graph_hang_c22) C.graph_hang_c1)
def C.graph_hang_c23_w := @awpE _ _ C.graph_hang_c23.eq_1
def C.graph_hang_r2_b : List IOper := [
 X.m 12 0,
 X.o 13 (.len (X.s 12)),
 X.o 14 (.makeSlice 1 24 [.nils] (X.s 13) (X.s 13)),
 X.m 3 14]
def C.graph_hang_r2 : List IOper := C.graph_hang_r2_b
def C.graph_hang_r2_w := @aopsE _ _ C.graph_hang_r2.eq_1
def C.graph_hang_c24 : ICode := .keep [0, 2] (.seq (.region C.graph_hang_r2) C.graph_hang_c23)
def C.graph_hang_c24_w := @awpE _ _ C.graph_hang_c24.eq_1
def C.graph_hang_r1_b : List IOper := [
 X.m 9 0,
 X.o 10 (.len (X.s 9)),
 X.o 11 (.makeSlice 1 8 [.int .i64 0] (X.s 10) (X.s 10)),
 X.m 2 11]
def C.graph_hang_r1 : List IOper := C.graph_hang_r1_b
def C.graph_hang_r1_w := @aopsE _ _ C.graph_hang_r1.eq_1
def C.graph_hang_c25 : ICode := .keep [0] (.seq (.region C.graph_hang_r1) C.graph_hang_c24)
def C.graph_hang_c25_w := @awpE _ _ C.graph_hang_c25.eq_1
def C.graph_hang_r0_b : List IOper := [
 X.o 2 (.move (.cst (.nils))),
 X.o 3 (.move (.cst (.nils)))]
def C.graph_hang_r0 : List IOper := C.graph_hang_r0_b
def C.graph_hang_r0_w := @aopsE _ _ C.graph_hang_r0.eq_1
def C.graph_hang : IFunc := ⟨1, [.slot 2, .slot 3], .seq (.region C.graph_hang_r0) C.graph_hang_c25⟩
def C.graph_hang_W := And.intro (And.intro (And.intro (And.intro (And.intro @C.graph_hang_r16_w @C.graph_hang_c1_w) (And.intro @C.graph_hang_r15_w (And.intro @C.graph_hang_c2_w @C.graph_hang_r14_w))) (And.intro (And.intro @C.graph_hang_c3_w @C.graph_hang_r13_w) (And.intro @C.graph_hang_c4_w (And.intro @C.graph_hang_r12_w @C.graph_hang_c5_w)))) (And.intro (And.intro (And.intro @C.graph_hang_r11_w @C.graph_hang_c6_w) (And.intro @C.graph_hang_c7_w (And.intro @C.graph_hang_r10_w @C.graph_hang_c8_w))) (And.intro (And.intro @C.graph_hang_r9_w @C.graph_hang_b9_w) (And.intro @C.graph_hang_c10_w (And.intro @C.graph_hang_c11_w @C.graph_hang_r8_w))))) (And.intro (And.intro (And.intro (And.intro @C.graph_hang_b13_w @C.graph_hang_c14_w) (And.intro @C.graph_hang_r7_w (And.intro @C.graph_hang_c15_w @C.graph_hang_r6_w))) (And.intro (And.intro @C.graph_hang_c16_w @C.graph_hang_r5_w) (And.intro @C.graph_hang_b17_w (And.intro @C.graph_hang_c18_w @C.graph_hang_c19_w)))) (And.intro (And.intro (And.intro @C.graph_hang_r4_w @C.graph_hang_b21_w) (And.intro @C.graph_hang_c22_w (And.intro @C.graph_hang_r3_w @C.graph_hang_c23_w))) (And.intro (And.intro @C.graph_hang_r2_w @C.graph_hang_c24_w) (And.intro @C.graph_hang_r1_w (And.intro @C.graph_hang_c25_w @C.graph_hang_r0_w)))))
def C.graph_hang_B := And.intro (And.intro (And.intro (And.intro @C.graph_hang_r16_b.eq_1 @C.graph_hang_r15_b.eq_1) (And.intro @C.graph_hang_r14_b.eq_1 @C.graph_hang_r13_b.eq_1)) (And.intro (And.intro @C.graph_hang_r12_b.eq_1 @C.graph_hang_r11_b.eq_1) (And.intro @C.graph_hang_r10_b.eq_1 @C.graph_hang_r9_b.eq_1))) (And.intro (And.intro (And.intro @C.graph_hang_r8_b.eq_1 @C.graph_hang_r7_b.eq_1) (And.intro @C.graph_hang_r6_b.eq_1 @C.graph_hang_r5_b.eq_1)) (And.intro (And.intro @C.graph_hang_r4_b.eq_1 @C.graph_hang_r3_b.eq_1) (And.intro @C.graph_hang_r2_b.eq_1 (And.intro @C.graph_hang_r1_b.eq_1 @C.graph_hang_r0_b.eq_1))))

def C.graph_marks_has_r2_b : List IOper := [
 X.m 13 6,
 X.m 4 13]
def C.graph_marks_has_r2 : List IOper := C.graph_marks_has_r2_b
def C.graph_marks_has_r2_w := @aopsE _ _ C.graph_marks_has_r2.eq_1
def C.graph_marks_has_c1 : ICode := .keep [6] (.seq (.region C.graph_marks_has_r2) .ret)
def C.graph_marks_has_c1_w := @awpE _ _ C.graph_marks_has_c1.eq_1
def C.graph_marks_has_r1_b : List IOper := [
 X.m 8 0,
 X.m 9 1,
 X.o 10 (.lookup (.agg []) true (X.s 8) (X.s 9)),
 X.m 7 10,
 X.o 11 (.extract (X.s 7) 0),
 X.o 12 (.extract (X.s 7) 1),
 X.o 5 (.alloc []),
 X.n (.storeN 0 (X.s 5) (X.s 11)),
 X.m 6 12]
def C.graph_marks_has_r1 : List IOper := C.graph_marks_has_r1_b
def C.graph_marks_has_r1_w := @aopsE _ _ C.graph_marks_has_r1.eq_1
def C.graph_marks_has_c2 : ICode := .keep [0, 1] (.seq (.region C.graph_marks_has_r1) C.graph_marks_has_c1)
def C.graph_marks_has_c2_w := @awpE _ _ C.graph_marks_has_c2.eq_1
def C.graph_marks_has_r0_b : List IOper := [
 X.o 4 (.move (.cst (.bool false)))]
def C.graph_marks_has_r0 : List IOper := C.graph_marks_has_r0_b
def C.graph_marks_has_r0_w := @aopsE _ _ C.graph_marks_has_r0.eq_1
def C.graph_marks_has : IFunc := ⟨2, [.slot 4], .seq (.region C.graph_marks_has_r0) C.graph_marks_has_c2⟩
def C.graph_marks_has_W := And.intro (And.intro @C.graph_marks_has_r2_w @C.graph_marks_has_c1_w) (And.intro @C.graph_marks_has_r1_w (And.intro @C.graph_marks_has_c2_w @C.graph_marks_has_r0_w))
def C.graph_marks_has_B := And.intro @C.graph_marks_has_r2_b.eq_1 (And.intro @C.graph_marks_has_r1_b.eq_1 @C.graph_marks_has_r0_b.eq_1)

def C.graph_marks_add_r0_b : List IOper := [
 X.m 4 0,
 X.m 5 1,
 X.o 6 (.build [] []),
 X.n (.mapSet (X.s 4) (X.s 5) (X.s 6))]
def C.graph_marks_add_r0 : List IOper := C.graph_marks_add_r0_b
def C.graph_marks_add_r0_w := @aopsE _ _ C.graph_marks_add_r0.eq_1
def C.graph_marks_add : IFunc := ⟨2, [], .region C.graph_marks_add_r0⟩
def C.graph_marks_add_W := @C.graph_marks_add_r0_w
def C.graph_marks_add_B := @C.graph_marks_add_r0_b.eq_1

def C.conf_own_api_Clock_r1_b : List IOper := [
 X.m 3 0,
 X.o 4 (.append 6 64 (.cst (.nils)) (X.s 3)),
 X.m 2 4]
def C.conf_own_api_Clock_r1 : List IOper := C.conf_own_api_Clock_r1_b
def C.conf_own_api_Clock_r1_w := @aopsE _ _ C.conf_own_api_Clock_r1.eq_1
def C.conf_own_api_Clock_c1 : ICode := .keep [0] (.seq (.region C.conf_own_api_Clock_r1) .ret)
def C.conf_own_api_Clock_c1_w := @awpE _ _ C.conf_own_api_Clock_c1.eq_1
def C.conf_own_api_Clock_r0_b : List IOper := [
 X.o 2 (.move (.cst (.nils)))]
def C.conf_own_api_Clock_r0 : List IOper := C.conf_own_api_Clock_r0_b
def C.conf_own_api_Clock_r0_w := @aopsE _ _ C.conf_own_api_Clock_r0.eq_1
def C.conf_own_api_Clock : IFunc := ⟨1, [.slot 2], .seq (.region C.conf_own_api_Clock_r0) C.conf_own_api_Clock_c1⟩
def C.conf_own_api_Clock_W := And.intro @C.conf_own_api_Clock_r1_w (And.intro @C.conf_own_api_Clock_c1_w @C.conf_own_api_Clock_r0_w)
def C.conf_own_api_Clock_B := And.intro @C.conf_own_api_Clock_r1_b.eq_1 @C.conf_own_api_Clock_r0_b.eq_1

def C.conf_own_api_Domain_r1_b : List IOper := [
 X.m 3 0,
 X.o 4 (.append 3 24 (.cst (.nils)) (X.s 3)),
 X.m 2 4]
def C.conf_own_api_Domain_r1 : List IOper := C.conf_own_api_Domain_r1_b
def C.conf_own_api_Domain_r1_w := @aopsE _ _ C.conf_own_api_Domain_r1.eq_1
def C.conf_own_api_Domain_c1 : ICode := .keep [0] (.seq (.region C.conf_own_api_Domain_r1) .ret)
def C.conf_own_api_Domain_c1_w := @awpE _ _ C.conf_own_api_Domain_c1.eq_1
def C.conf_own_api_Domain_r0_b : List IOper := [
 X.o 2 (.move (.cst (.nils)))]
def C.conf_own_api_Domain_r0 : List IOper := C.conf_own_api_Domain_r0_b
def C.conf_own_api_Domain_r0_w := @aopsE _ _ C.conf_own_api_Domain_r0.eq_1
def C.conf_own_api_Domain : IFunc := ⟨1, [.slot 2], .seq (.region C.conf_own_api_Domain_r0) C.conf_own_api_Domain_c1⟩
def C.conf_own_api_Domain_W := And.intro @C.conf_own_api_Domain_r1_w (And.intro @C.conf_own_api_Domain_c1_w @C.conf_own_api_Domain_r0_w)
def C.conf_own_api_Domain_B := And.intro @C.conf_own_api_Domain_r1_b.eq_1 @C.conf_own_api_Domain_r0_b.eq_1

def C.conf_own_api_Reset_r1_b : List IOper := [
 X.m 3 0,
 X.o 4 (.append 1 8 (.cst (.nils)) (X.s 3)),
 X.m 2 4]
def C.conf_own_api_Reset_r1 : List IOper := C.conf_own_api_Reset_r1_b
def C.conf_own_api_Reset_r1_w := @aopsE _ _ C.conf_own_api_Reset_r1.eq_1
def C.conf_own_api_Reset_c1 : ICode := .keep [0] (.seq (.region C.conf_own_api_Reset_r1) .ret)
def C.conf_own_api_Reset_c1_w := @awpE _ _ C.conf_own_api_Reset_c1.eq_1
def C.conf_own_api_Reset_r0_b : List IOper := [
 X.o 2 (.move (.cst (.nils)))]
def C.conf_own_api_Reset_r0 : List IOper := C.conf_own_api_Reset_r0_b
def C.conf_own_api_Reset_r0_w := @aopsE _ _ C.conf_own_api_Reset_r0.eq_1
def C.conf_own_api_Reset : IFunc := ⟨1, [.slot 2], .seq (.region C.conf_own_api_Reset_r0) C.conf_own_api_Reset_c1⟩
def C.conf_own_api_Reset_W := And.intro @C.conf_own_api_Reset_r1_w (And.intro @C.conf_own_api_Reset_c1_w @C.conf_own_api_Reset_r0_w)
def C.conf_own_api_Reset_B := And.intro @C.conf_own_api_Reset_r1_b.eq_1 @C.conf_own_api_Reset_r0_b.eq_1

def C.conf_own_api_Device_r1_b : List IOper := [
 X.m 3 0,
 X.o 4 (.append 6 80 (.cst (.nils)) (X.s 3)),
 X.m 2 4]
def C.conf_own_api_Device_r1 : List IOper := C.conf_own_api_Device_r1_b
def C.conf_own_api_Device_r1_w := @aopsE _ _ C.conf_own_api_Device_r1.eq_1
def C.conf_own_api_Device_c1 : ICode := .keep [0] (.seq (.region C.conf_own_api_Device_r1) .ret)
def C.conf_own_api_Device_c1_w := @awpE _ _ C.conf_own_api_Device_c1.eq_1
def C.conf_own_api_Device_r0_b : List IOper := [
 X.o 2 (.move (.cst (.nils)))]
def C.conf_own_api_Device_r0 : List IOper := C.conf_own_api_Device_r0_b
def C.conf_own_api_Device_r0_w := @aopsE _ _ C.conf_own_api_Device_r0.eq_1
def C.conf_own_api_Device : IFunc := ⟨1, [.slot 2], .seq (.region C.conf_own_api_Device_r0) C.conf_own_api_Device_c1⟩
def C.conf_own_api_Device_W := And.intro @C.conf_own_api_Device_r1_w (And.intro @C.conf_own_api_Device_c1_w @C.conf_own_api_Device_r0_w)
def C.conf_own_api_Device_B := And.intro @C.conf_own_api_Device_r1_b.eq_1 @C.conf_own_api_Device_r0_b.eq_1

def C.conf_own_api_Reg_r1_b : List IOper := [
 X.m 3 0,
 X.o 4 (.append 2 8 (.cst (.nils)) (X.s 3)),
 X.m 2 4]
def C.conf_own_api_Reg_r1 : List IOper := C.conf_own_api_Reg_r1_b
def C.conf_own_api_Reg_r1_w := @aopsE _ _ C.conf_own_api_Reg_r1.eq_1
def C.conf_own_api_Reg_c1 : ICode := .keep [0] (.seq (.region C.conf_own_api_Reg_r1) .ret)
def C.conf_own_api_Reg_c1_w := @awpE _ _ C.conf_own_api_Reg_c1.eq_1
def C.conf_own_api_Reg_r0_b : List IOper := [
 X.o 2 (.move (.cst (.nils)))]
def C.conf_own_api_Reg_r0 : List IOper := C.conf_own_api_Reg_r0_b
def C.conf_own_api_Reg_r0_w := @aopsE _ _ C.conf_own_api_Reg_r0.eq_1
def C.conf_own_api_Reg : IFunc := ⟨1, [.slot 2], .seq (.region C.conf_own_api_Reg_r0) C.conf_own_api_Reg_c1⟩
def C.conf_own_api_Reg_W := And.intro @C.conf_own_api_Reg_r1_w (And.intro @C.conf_own_api_Reg_c1_w @C.conf_own_api_Reg_r0_w)
def C.conf_own_api_Reg_B := And.intro @C.conf_own_api_Reg_r1_b.eq_1 @C.conf_own_api_Reg_r0_b.eq_1

def C.slices_EqualFunc_api_Clock_api_Clock_api_Clock_api_Clock_r10_b : List IOper := [
 X.o 6 (.move (.cst (.bool true)))]
def C.slices_EqualFunc_api_Clock_api_Clock_api_Clock_api_Clock_r10 : List IOper := C.slices_EqualFunc_api_Clock_api_Clock_api_Clock_api_Clock_r10_b
def C.slices_EqualFunc_api_Clock_api_Clock_api_Clock_api_Clock_r10_w := @aopsE _ _ C.slices_EqualFunc_api_Clock_api_Clock_api_Clock_api_Clock_r10.eq_1
def C.slices_EqualFunc_api_Clock_api_Clock_api_Clock_api_Clock_c1 : ICode := .keep [] (.seq (.region C.slices_EqualFunc_api_Clock_api_Clock_api_Clock_api_Clock_r10) .ret)
def C.slices_EqualFunc_api_Clock_api_Clock_api_Clock_api_Clock_c1_w := @awpE _ _ C.slices_EqualFunc_api_Clock_api_Clock_api_Clock_api_Clock_c1.eq_1
def C.slices_EqualFunc_api_Clock_api_Clock_api_Clock_api_Clock_r9_b : List IOper := [
 X.o 31 (.bin .add (X.s 17) (X.i 1)),
 X.m 17 31]
def C.slices_EqualFunc_api_Clock_api_Clock_api_Clock_api_Clock_r9 : List IOper := C.slices_EqualFunc_api_Clock_api_Clock_api_Clock_api_Clock_r9_b
def C.slices_EqualFunc_api_Clock_api_Clock_api_Clock_api_Clock_r9_w := @aopsE _ _ C.slices_EqualFunc_api_Clock_api_Clock_api_Clock_api_Clock_r9.eq_1
def C.slices_EqualFunc_api_Clock_api_Clock_api_Clock_api_Clock_c2 : ICode := .keep [1, 2, 15, 16, 17] (.region C.slices_EqualFunc_api_Clock_api_Clock_api_Clock_api_Clock_r9)
def C.slices_EqualFunc_api_Clock_api_Clock_api_Clock_api_Clock_c2_w := @awpE _ _ C.slices_EqualFunc_api_Clock_api_Clock_api_Clock_api_Clock_c2.eq_1
def C.slices_EqualFunc_api_Clock_api_Clock_api_Clock_api_Clock_r8_b : List IOper := [
 X.o 6 (.move (.cst (.bool false)))]
def C.slices_EqualFunc_api_Clock_api_Clock_api_Clock_api_Clock_r8 : List IOper := C.slices_EqualFunc_api_Clock_api_Clock_api_Clock_api_Clock_r8_b
def C.slices_EqualFunc_api_Clock_api_Clock_api_Clock_api_Clock_r8_w := @aopsE _ _ C.slices_EqualFunc_api_Clock_api_Clock_api_Clock_api_Clock_r8.eq_1
def C.slices_EqualFunc_api_Clock_api_Clock_api_Clock_api_Clock_c3 : ICode := .seq (.region C.slices_EqualFunc_api_Clock_api_Clock_api_Clock_api_Clock_r8) .ret
def C.slices_EqualFunc_api_Clock_api_Clock_api_Clock_api_Clock_c3_w := @awpE _ _ C.slices_EqualFunc_api_Clock_api_Clock_api_Clock_api_Clock_c3.eq_1
def C.slices_EqualFunc_api_Clock_api_Clock_api_Clock_api_Clock_c4 : ICode := .keep [1, 2, 15, 16, 17, 30] (.cond (X.s 30) C.slices_EqualFunc_api_Clock_api_Clock_api_Clock_api_Clock_c3 .skip)
def C.slices_EqualFunc_api_Clock_api_Clock_api_Clock_api_Clock_c4_w := @awpE _ _ C.slices_EqualFunc_api_Clock_api_Clock_api_Clock_api_Clock_c4.eq_1
def C.slices_EqualFunc_api_Clock_api_Clock_api_Clock_api_Clock_r7_b : List IOper := [
 X.m 26 2,
 X.o 27 (.loadN 6 (X.s 8)),
 X.o 28 (.loadN 6 (X.s 9)),
 X.o 29 (.callv (X.s 26) [X.s 27, X.s 28]),
 X.o 30 (.un .not (X.s 29))]
def C.slices_EqualFunc_api_Clock_api_Clock_api_Clock_api_Clock_r7 : List IOper := C.slices_EqualFunc_api_Clock_api_Clock_api_Clock_api_Clock_r7_b
def C.slices_EqualFunc_api_Clock_api_Clock_api_Clock_api_Clock_r7_w := @aopsE _ _ C.slices_EqualFunc_api_Clock_api_Clock_api_Clock_api_Clock_r7.eq_1
def C.slices_EqualFunc_api_Clock_api_Clock_api_Clock_api_Clock_c5 : ICode := .keep [1, 2, 8, 9, 15, 16, 17] (.seq (.region C.slices_EqualFunc_api_Clock_api_Clock_api_Clock_api_Clock_r7) C.slices_EqualFunc_api_Clock_api_Clock_api_Clock_api_Clock_c4)
def C.slices_EqualFunc_api_Clock_api_Clock_api_Clock_api_Clock_c5_w := @awpE _ _ C.slices_EqualFunc_api_Clock_api_Clock_api_Clock_api_Clock_c5.eq_1
def C.slices_EqualFunc_api_Clock_api_Clock_api_Clock_api_Clock_r6_b : List IOper := [
 X.m 22 1,
 X.m 23 7,
 X.o 24 (.idxAddr 6 (X.s 22) (X.s 23)),
 X.o 25 (.loadN 6 (X.s 24)),
 X.o 9 (.alloc [.int .u8 0, .nils, .int .u64 0, .int .i64 0, .int .i64 0, .int .i64 0]),
 X.n (.storeN 6 (X.s 9) (X.s 25))]
def C.slices_EqualFunc_api_Clock_api_Clock_api_Clock_api_Clock_r6 : List IOper := C.slices_EqualFunc_api_Clock_api_Clock_api_Clock_api_Clock_r6_b
def C.slices_EqualFunc_api_Clock_api_Clock_api_Clock_api_Clock_r6_w := @aopsE _ _ C.slices_EqualFunc_api_Clock_api_Clock_api_Clock_api_Clock_r6.eq_1
def C.slices_EqualFunc_api_Clock_api_Clock_api_Clock_api_Clock_c6 : ICode := .keep [1, 2, 7, 8, 15, 16, 17] (.seq (.region C.slices_EqualFunc_api_Clock_api_Clock_api_Clock_api_Clock_r6) C.slices_EqualFunc_api_Clock_api_Clock_api_Clock_api_Clock_c5)
def C.slices_EqualFunc_api_Clock_api_Clock_api_Clock_api_Clock_c6_w := @awpE _ _ C.slices_EqualFunc_api_Clock_api_Clock_api_Clock_api_Clock_c6.eq_1
def C.slices_EqualFunc_api_Clock_api_Clock_api_Clock_api_Clock_r5_b : List IOper := [
 X.m 19 17,
 X.o 20 (.idxAddr 6 (X.s 15) (X.s 17)),
 X.o 21 (.loadN 6 (X.s 20)),
 X.o 8 (.alloc [.int .u8 0, .nils, .int .u64 0, .int .i64 0, .int .i64 0, .int .i64 0]),
 X.m 7 19,
 X.n (.storeN 6 (X.s 8) (X.s 21))]
def C.slices_EqualFunc_api_Clock_api_Clock_api_Clock_api_Clock_r5 : List IOper := C.slices_EqualFunc_api_Clock_api_Clock_api_Clock_api_Clock_r5_b
def C.slices_EqualFunc_api_Clock_api_Clock_api_Clock_api_Clock_r5_w := @aopsE _ _ C.slices_EqualFunc_api_Clock_api_Clock_api_Clock_api_Clock_r5.eq_1
def C.slices_EqualFunc_api_Clock_api_Clock_api_Clock_api_Clock_b7 : ICode := .seq (.region C.slices_EqualFunc_api_Clock_api_Clock_api_Clock_api_Clock_r5) C.slices_EqualFunc_api_Clock_api_Clock_api_Clock_api_Clock_c6
def C.slices_EqualFunc_api_Clock_api_Clock_api_Clock_api_Clock_b7_w := @awpE _ _ C.slices_EqualFunc_api_Clock_api_Clock_api_Clock_api_Clock_b7.eq_1
def C.slices_EqualFunc_api_Clock_api_Clock_api_Clock_api_Clock_c8 : ICode := .keep [1, 2, 15, 16, 17] (.seq (.block 1 C.slices_EqualFunc_api_Clock_api_Clock_api_Clock_api_Clock_b7) C.slices_EqualFunc_api_Clock_api_Clock_api_Clock_api_Clock_c2)
def C.slices_EqualFunc_api_Clock_api_Clock_api_Clock_api_Clock_c8_w := @awpE _ _ C.slices_EqualFunc_api_Clock_api_Clock_api_Clock_api_Clock_c8.eq_1
def C.slices_EqualFunc_api_Clock_api_Clock_api_Clock_api_Clock_c9 : ICode := .keep [1, 2, 15, 16, 17, 18] (.seq (.cond (X.s 18) .skip (.exit 0)) C.slices_EqualFunc_api_Clock_api_Clock_api_Clock_api_Clock_c8)
def C.slices_EqualFunc_api_Clock_api_Clock_api_Clock_api_Clock_c9_w := @awpE _ _ C.slices_EqualFunc_api_Clock_api_Clock_api_Clock_api_Clock_c9.eq_1
def C.slices_EqualFunc_api_Clock_api_Clock_api_Clock_api_Clock_r4_b : List IOper := [
 X.o 18 (.bin .lss (X.s 17) (X.s 16))]
def C.slices_EqualFunc_api_Clock_api_Clock_api_Clock_api_Clock_r4 : List IOper := C.slices_EqualFunc_api_Clock_api_Clock_api_Clock_api_Clock_r4_b
def C.slices_EqualFunc_api_Clock_api_Clock_api_Clock_api_Clock_r4_w := @aopsE _ _ C.slices_EqualFunc_api_Clock_api_Clock_api_Clock_api_Clock_r4.eq_1
def C.slices_EqualFunc_api_Clock_api_Clock_api_Clock_api_Clock_l10 : ICode := .keep [1, 2, 15, 16, 17] (.seq (.region C.slices_EqualFunc_api_Clock_api_Clock_api_Clock_api_Clock_r4) C.slices_EqualFunc_api_Clock_api_Clock_api_Clock_api_Clock_c9)
def C.slices_EqualFunc_api_Clock_api_Clock_api_Clock_api_Clock_l10_w := @awpE _ _ C.slices_EqualFunc_api_Clock_api_Clock_api_Clock_api_Clock_l10.eq_1
def C.slices_EqualFunc_api_Clock_api_Clock_api_Clock_api_Clock_b11 : ICode := .loop C.slices_EqualFunc_api_Clock_api_Clock_api_Clock_api_Clock_l10
def C.slices_EqualFunc_api_Clock_api_Clock_api_Clock_api_Clock_b11_w := @awpE _ _ C.slices_EqualFunc_api_Clock_api_Clock_api_Clock_api_Clock_b11.eq_1
def C.slices_EqualFunc_api_Clock_api_Clock_api_Clock_api_Clock_c12 : ICode := .keep [1, 2, 15, 16, 17] (.block 0 C.slices_EqualFunc_api_Clock_api_Clock_api_Clock_api_Clock_b11)
def C.slices_EqualFunc_api_Clock_api_Clock_api_Clock_api_Clock_c12_w := @awpE _ _ C.slices_EqualFunc_api_Clock_api_Clock_api_Clock_api_Clock_c12.eq_1
def C.slices_EqualFunc_api_Clock_api_Clock_api_Clock_api_Clock_r3_b : List IOper := [
 X.m 15 0,
 X.o 16 (.len (X.s 15)),
 X.o 17 (.move (X.i 0))]
def C.slices_EqualFunc_api_Clock_api_Clock_api_Clock_api_Clock_r3 : List IOper := C.slices_EqualFunc_api_Clock_api_Clock_api_Clock_api_Clock_r3_b
def C.slices_EqualFunc_api_Clock_api_Clock_api_Clock_api_Clock_r3_w := @aopsE _ _ C.slices_EqualFunc_api_Clock_api_Clock_api_Clock_api_Clock_r3.eq_1
def C.slices_EqualFunc_api_Clock_api_Clock_api_Clock_api_Clock_c13 : ICode := .keep [0, 1, 2] (.seq (.seq (.region C.slices_EqualFunc_api_Clock_api_Clock_api_Clock_api_Clock_r3) C.slices_EqualFunc_api_Clock_api_Clock_api_Clock_api_Clock_c12) C.slices_EqualFunc_api_Clock_api_Clock_api_Clock_api_Clock_c1)
def C.slices_EqualFunc_api_Clock_api_Clock_api_Clock_api_Clock_c13_w := @awpE _ _ C.slices_EqualFunc_api_Clock_api_Clock_api_Clock_api_Clock_c13.eq_1
def C.slices_EqualFunc_api_Clock_api_Clock_api_Clock_api_Clock_r2_b : List IOper := [
 X.o 6 (.move (.cst (.bool false)))]
def C.slices_EqualFunc_api_Clock_api_Clock_api_Clock_api_Clock_r2 : List IOper := C.slices_EqualFunc_api_Clock_api_Clock_api_Clock_api_Clock_r2_b
def C.slices_EqualFunc_api_Clock_api_Clock_api_Clock_api_Clock_r2_w := @aopsE _ _ C.slices_EqualFunc_api_Clock_api_Clock_api_Clock_api_Clock_r2.eq_1
def C.slices_EqualFunc_api_Clock_api_Clock_api_Clock_api_Clock_c14 : ICode := .seq (.region C.slices_EqualFunc_api_Clock_api_Clock_api_Clock_api_Clock_r2) .ret
def C.slices_EqualFunc_api_Clock_api_Clock_api_Clock_api_Clock_c14_w := @awpE _ _ C.slices_EqualFunc_api_Clock_api_Clock_api_Clock_api_Clock_c14.eq_1
def C.slices_EqualFunc_api_Clock_api_Clock_api_Clock_api_Clock_c15 : ICode := .keep [0, 1, 2, 14] (.cond (X.s 14) C.slices_EqualFunc_api_Clock_api_Clock_api_Clock_api_Clock_c14 .skip)
def C.slices_EqualFunc_api_Clock_api_Clock_api_Clock_api_Clock_c15_w := @awpE _ _ C.slices_EqualFunc_api_Clock_api_Clock_api_Clock_api_Clock_c15.eq_1
def C.slices_EqualFunc_api_Clock_api_Clock_api_Clock_api_Clock_r1_b : List IOper := [
 X.m 10 0,
 X.o 11 (.len (X.s 10)),
 X.m 12 1,
 X.o 13 (.len (X.s 12)),
 X.o 14 (.bin .neq (X.s 11) (X.s 13))]
def C.slices_EqualFunc_api_Clock_api_Clock_api_Clock_api_Clock_r1 : List IOper := C.slices_EqualFunc_api_Clock_api_Clock_api_Clock_api_Clock_r1_b
def C.slices_EqualFunc_api_Clock_api_Clock_api_Clock_api_Clock_r1_w := @aopsE _ _ C.slices_EqualFunc_api_Clock_api_Clock_api_Clock_api_Clock_r1.eq_1
def C.slices_EqualFunc_api_Clock_api_Clock_api_Clock_api_Clock_c16 : ICode := .keep [0, 1, 2] (.seq (.seq (.region C.slices_EqualFunc_api_Clock_api_Clock_api_Clock_api_Clock_r1) C.slices_EqualFunc_api_Clock_api_Clock_api_Clock_api_Clock_c15) C.slices_EqualFunc_api_Clock_api_Clock_api_Clock_api_Clock_c13)
def C.slices_EqualFunc_api_Clock_api_Clock_api_Clock_api_Clock_c16_w := @awpE _ _ C.slices_EqualFunc_api_Clock_api_Clock_api_Clock_api_Clock_c16.eq_1
def C.slices_EqualFunc_api_Clock_api_Clock_api_Clock_api_Clock_r0_b : List IOper := [
 X.o 6 (.move (.cst (.bool false)))]
def C.slices_EqualFunc_api_Clock_api_Clock_api_Clock_api_Clock_r0 : List IOper := C.slices_EqualFunc_api_Clock_api_Clock_api_Clock_api_Clock_r0_b
def C.slices_EqualFunc_api_Clock_api_Clock_api_Clock_api_Clock_r0_w := @aopsE _ _ C.slices_EqualFunc_api_Clock_api_Clock_api_Clock_api_Clock_r0.eq_1
def C.slices_EqualFunc_api_Clock_api_Clock_api_Clock_api_Clock : IFunc := ⟨3, [.slot 6], .seq (.region C.slices_EqualFunc_api_Clock_api_Clock_api_Clock_api_Clock_r0) C.slices_EqualFunc_api_Clock_api_Clock_api_Clock_api_Clock_c16⟩
def C.slices_EqualFunc_api_Clock_api_Clock_api_Clock_api_Clock_W := And.intro (And.intro (And.intro (And.intro @C.slices_EqualFunc_api_Clock_api_Clock_api_Clock_api_Clock_r10_w (And.intro @C.slices_EqualFunc_api_Clock_api_Clock_api_Clock_api_Clock_c1_w @C.slices_EqualFunc_api_Clock_api_Clock_api_Clock_api_Clock_r9_w)) (And.intro @C.slices_EqualFunc_api_Clock_api_Clock_api_Clock_api_Clock_c2_w (And.intro @C.slices_EqualFunc_api_Clock_api_Clock_api_Clock_api_Clock_r8_w @C.slices_EqualFunc_api_Clock_api_Clock_api_Clock_api_Clock_c3_w))) (And.intro (And.intro @C.slices_EqualFunc_api_Clock_api_Clock_api_Clock_api_Clock_c4_w (And.intro @C.slices_EqualFunc_api_Clock_api_Clock_api_Clock_api_Clock_r7_w @C.slices_EqualFunc_api_Clock_api_Clock_api_Clock_api_Clock_c5_w)) (And.intro (And.intro @C.slices_EqualFunc_api_Clock_api_Clock_api_Clock_api_Clock_r6_w @C.slices_EqualFunc_api_Clock_api_Clock_api_Clock_api_Clock_c6_w) (And.intro @C.slices_EqualFunc_api_Clock_api_Clock_api_Clock_api_Clock_r5_w @C.slices_EqualFunc_api_Clock_api_Clock_api_Clock_api_Clock_b7_w)))) (And.intro (And.intro (And.intro @C.slices_EqualFunc_api_Clock_api_Clock_api_Clock_api_Clock_c8_w (And.intro @C.slices_EqualFunc_api_Clock_api_Clock_api_Clock_api_Clock_c9_w @C.slices_EqualFunc_api_Clock_api_Clock_api_Clock_api_Clock_r4_w)) (And.intro @C.slices_EqualFunc_api_Clock_api_Clock_api_Clock_api_Clock_b11_w (And.intro @C.slices_EqualFunc_api_Clock_api_Clock_api_Clock_api_Clock_c12_w @C.slices_EqualFunc_api_Clock_api_Clock_api_Clock_api_Clock_r3_w))) (And.intro (And.intro @C.slices_EqualFunc_api_Clock_api_Clock_api_Clock_api_Clock_c13_w (And.intro @C.slices_EqualFunc_api_Clock_api_Clock_api_Clock_api_Clock_r2_w @C.slices_EqualFunc_api_Clock_api_Clock_api_Clock_api_Clock_c14_w)) (And.intro (And.intro @C.slices_EqualFunc_api_Clock_api_Clock_api_Clock_api_Clock_c15_w @C.slices_EqualFunc_api_Clock_api_Clock_api_Clock_api_Clock_r1_w) (And.intro @C.slices_EqualFunc_api_Clock_api_Clock_api_Clock_api_Clock_c16_w @C.slices_EqualFunc_api_Clock_api_Clock_api_Clock_api_Clock_r0_w))))
def C.slices_EqualFunc_api_Clock_api_Clock_api_Clock_api_Clock_B := And.intro (And.intro (And.intro @C.slices_EqualFunc_api_Clock_api_Clock_api_Clock_api_Clock_r10_b.eq_1 @C.slices_EqualFunc_api_Clock_api_Clock_api_Clock_api_Clock_r9_b.eq_1) (And.intro @C.slices_EqualFunc_api_Clock_api_Clock_api_Clock_api_Clock_r8_b.eq_1 (And.intro @C.slices_EqualFunc_api_Clock_api_Clock_api_Clock_api_Clock_r7_b.eq_1 @C.slices_EqualFunc_api_Clock_api_Clock_api_Clock_api_Clock_r6_b.eq_1))) (And.intro (And.intro @C.slices_EqualFunc_api_Clock_api_Clock_api_Clock_api_Clock_r5_b.eq_1 (And.intro @C.slices_EqualFunc_api_Clock_api_Clock_api_Clock_api_Clock_r4_b.eq_1 @C.slices_EqualFunc_api_Clock_api_Clock_api_Clock_api_Clock_r3_b.eq_1)) (And.intro @C.slices_EqualFunc_api_Clock_api_Clock_api_Clock_api_Clock_r2_b.eq_1 (And.intro @C.slices_EqualFunc_api_Clock_api_Clock_api_Clock_api_Clock_r1_b.eq_1 @C.slices_EqualFunc_api_Clock_api_Clock_api_Clock_api_Clock_r0_b.eq_1)))

def C.conf_sameClock_r1_b : List IOper := [
 X.o 5 (.fldAddr 0 (X.s 2)),
 X.o 6 (.load1 (X.s 5)),
 X.o 7 (.fldAddr 0 (X.s 3)),
 X.o 8 (.load1 (X.s 7)),
 X.o 9 (.bin .eql (X.s 6) (X.s 8)),
 X.m 10 9,
 X.t 10 11 (.fldAddr 1 (X.s 2)),
 X.t 10 12 (.load1 (X.s 11)),
 X.t 10 13 (.fldAddr 1 (X.s 3)),
 X.t 10 14 (.load1 (X.s 13)),
 X.t 10 15 (.call F.slices_Equal_int_int [X.s 12, X.s 14]),
 X.o 16 (.pick (X.s 10) (X.s 15) (.cst (.bool false))),
 X.m 17 16,
 X.t 17 18 (.fldAddr 2 (X.s 2)),
 X.t 17 19 (.load1 (X.s 18)),
 X.t 17 20 (.fldAddr 2 (X.s 3)),
 X.t 17 21 (.load1 (X.s 20)),
 X.t 17 22 (.bin .eql (X.s 19) (X.s 21)),
 X.o 23 (.pick (X.s 17) (X.s 22) (.cst (.bool false))),
 X.m 24 23,
 X.t 24 25 (.fldAddr 3 (X.s 2)),
 X.t 24 26 (.load1 (X.s 25)),
 X.t 24 27 (.fldAddr 3 (X.s 3)),
 X.t 24 28 (.load1 (X.s 27)),
 X.t 24 29 (.bin .eql (X.s 26) (X.s 28)),
 X.o 30 (.pick (X.s 24) (X.s 29) (.cst (.bool false))),
 X.m 31 30,
 X.t 31 32 (.fldAddr 4 (X.s 2)),
 X.t 31 33 (.load1 (X.s 32)),
 X.t 31 34 (.fldAddr 4 (X.s 3)),
 X.t 31 35 (.load1 (X.s 34)),
 X.t 31 36 (.bin .eql (X.s 33) (X.s 35)),
 X.o 37 (.pick (X.s 31) (X.s 36) (.cst (.bool false))),
 X.m 38 37,
 X.t 38 39 (.fldAddr 5 (X.s 2)),
 X.t 38 40 (.load1 (X.s 39)),
 X.t 38 41 (.fldAddr 5 (X.s 3)),
 X.t 38 42 (.load1 (X.s 41)),
 X.t 38 43 (.bin .eql (X.s 40) (X.s 42)),
 X.o 44 (.pick (X.s 38) (X.s 43) (.cst (.bool false))),
 X.m 4 44]
def C.conf_sameClock_r1 : List IOper := C.conf_sameClock_r1_b
def C.conf_sameClock_r1_w := @aopsE _ _ C.conf_sameClock_r1.eq_1
def C.conf_sameClock_c1 : ICode := .keep [2, 3] (.seq (.region C.conf_sameClock_r1) .ret)
def C.conf_sameClock_c1_w := @awpE _ _ C.conf_sameClock_c1.eq_1
def C.conf_sameClock_r0_b : List IOper := [
 X.o 2 (.boxN (X.s 0)),
 X.o 3 (.boxN (X.s 1)),
 X.o 4 (.move (.cst (.bool false)))]
def C.conf_sameClock_r0 : List IOper := C.conf_sameClock_r0_b
def C.conf_sameClock_r0_w := @aopsE _ _ C.conf_sameClock_r0.eq_1
def C.conf_sameClock : IFunc := ⟨2, [.slot 4], .seq (.region C.conf_sameClock_r0) C.conf_sameClock_c1⟩
def C.conf_sameClock_W := And.intro @C.conf_sameClock_r1_w (And.intro @C.conf_sameClock_c1_w @C.conf_sameClock_r0_w)
def C.conf_sameClock_B := And.intro @C.conf_sameClock_r1_b.eq_1 @C.conf_sameClock_r0_b.eq_1

def C.slices_Equal_api_Domain_api_Domain_r9_b : List IOper := [
 X.o 4 (.move (.cst (.bool true)))]
def C.slices_Equal_api_Domain_api_Domain_r9 : List IOper := C.slices_Equal_api_Domain_api_Domain_r9_b
def C.slices_Equal_api_Domain_api_Domain_r9_w := @aopsE _ _ C.slices_Equal_api_Domain_api_Domain_r9.eq_1
def C.slices_Equal_api_Domain_api_Domain_c1 : ICode := .keep [] (.seq (.region C.slices_Equal_api_Domain_api_Domain_r9) .ret)
def C.slices_Equal_api_Domain_api_Domain_c1_w := @awpE _ _ C.slices_Equal_api_Domain_api_Domain_c1.eq_1
def C.slices_Equal_api_Domain_api_Domain_r8_b : List IOper := [
 X.o 25 (.bin .add (X.s 13) (X.i 1)),
 X.m 13 25]
def C.slices_Equal_api_Domain_api_Domain_r8 : List IOper := C.slices_Equal_api_Domain_api_Domain_r8_b
def C.slices_Equal_api_Domain_api_Domain_r8_w := @aopsE _ _ C.slices_Equal_api_Domain_api_Domain_r8.eq_1
def C.slices_Equal_api_Domain_api_Domain_c2 : ICode := .keep [0, 1, 12, 13] (.region C.slices_Equal_api_Domain_api_Domain_r8)
def C.slices_Equal_api_Domain_api_Domain_c2_w := @awpE _ _ C.slices_Equal_api_Domain_api_Domain_c2.eq_1
def C.slices_Equal_api_Domain_api_Domain_r7_b : List IOper := [
 X.o 4 (.move (.cst (.bool false)))]
def C.slices_Equal_api_Domain_api_Domain_r7 : List IOper := C.slices_Equal_api_Domain_api_Domain_r7_b
def C.slices_Equal_api_Domain_api_Domain_r7_w := @aopsE _ _ C.slices_Equal_api_Domain_api_Domain_r7.eq_1
def C.slices_Equal_api_Domain_api_Domain_c3 : ICode := .seq (.region C.slices_Equal_api_Domain_api_Domain_r7) .ret
def C.slices_Equal_api_Domain_api_Domain_c3_w := @awpE _ _ C.slices_Equal_api_Domain_api_Domain_c3.eq_1
def C.slices_Equal_api_Domain_api_Domain_c4 : ICode := .keep [0, 1, 12, 13, 24] (.cond (X.s 24) C.slices_Equal_api_Domain_api_Domain_c3 .skip)
def C.slices_Equal_api_Domain_api_Domain_c4_w := @awpE _ _ C.slices_Equal_api_Domain_api_Domain_c4.eq_1
def C.slices_Equal_api_Domain_api_Domain_r6_b : List IOper := [
 X.m 16 0,
 X.m 17 5,
 X.o 18 (.idxAddr 3 (X.s 16) (X.s 17)),
 X.o 19 (.loadN 3 (X.s 18)),
 X.m 20 1,
 X.m 21 5,
 X.o 22 (.idxAddr 3 (X.s 20) (X.s 21)),
 X.o 23 (.loadN 3 (X.s 22)),
 X.o 24 (.eqS [true, true, false] true (X.s 19) (X.s 23))]
def C.slices_Equal_api_Domain_api_Domain_r6 : List IOper := C.slices_Equal_api_Domain_api_Domain_r6_b
def C.slices_Equal_api_Domain_api_Domain_r6_w := @aopsE _ _ C.slices_Equal_api_Domain_api_Domain_r6.eq_1
def C.slices_Equal_api_Domain_api_Domain_c5 : ICode := .keep [0, 1, 5, 12, 13] (.seq (.region C.slices_Equal_api_Domain_api_Domain_r6) C.slices_Equal_api_Domain_api_Domain_c4)
def C.slices_Equal_api_Domain_api_Domain_c5_w := @awpE _ _ C.slices_Equal_api_Domain_api_Domain_c5.eq_1
def C.slices_Equal_api_Domain_api_Domain_r5_b : List IOper := [
 X.m 15 13,
 X.m 5 15]
def C.slices_Equal_api_Domain_api_Domain_r5 : List IOper := C.slices_Equal_api_Domain_api_Domain_r5_b
def C.slices_Equal_api_Domain_api_Domain_r5_w := @aopsE _ _ C.slices_Equal_api_Domain_api_Domain_r5.eq_1
def C.slices_Equal_api_Domain_api_Domain_b6 : ICode := .seq (.region C.slices_Equal_api_Domain_api_Domain_r5) C.slices_Equal_api_Domain_api_Domain_c5
def C.slices_Equal_api_Domain_api_Domain_b6_w := @awpE _ _ C.slices_Equal_api_Domain_api_Domain_b6.eq_1
def C.slices_Equal_api_Domain_api_Domain_c7 : ICode := .keep [0, 1, 12, 13] (.seq (.block 1 C.slices_Equal_api_Domain_api_Domain_b6) C.slices_Equal_api_Domain_api_Domain_c2)
def C.slices_Equal_api_Domain_api_Domain_c7_w := @awpE _ _ C.slices_Equal_api_Domain_api_Domain_c7.eq_1
def C.slices_Equal_api_Domain_api_Domain_c8 : ICode := .keep [0, 1, 12, 13, 14] (.seq (.cond (X.s 14) .skip (.exit 0)) C.slices_Equal_api_Domain_api_Domain_c7)
def C.slices_Equal_api_Domain_api_Domain_c8_w := @awpE _ _ C.slices_Equal_api_Domain_api_Domain_c8.eq_1
def C.slices_Equal_api_Domain_api_Domain_r4_b : List IOper := [
 X.o 14 (.bin .lss (X.s 13) (X.s 12))]
def C.slices_Equal_api_Domain_api_Domain_r4 : List IOper := C.slices_Equal_api_Domain_api_Domain_r4_b
def C.slices_Equal_api_Domain_api_Domain_r4_w := @aopsE _ _ C.slices_Equal_api_Domain_api_Domain_r4.eq_1
def C.slices_Equal_api_Domain_api_Domain_l9 : ICode := .keep [0, 1, 12, 13] (.seq (.region C.slices_Equal_api_Domain_api_Domain_r4) C.slices_Equal_api_Domain_api_Domain_c8)
def C.slices_Equal_api_Domain_api_Domain_l9_w := @awpE _ _ C.slices_Equal_api_Domain_api_Domain_l9.eq_1
def C.slices_Equal_api_Domain_api_Domain_b10 : ICode := .loop C.slices_Equal_api_Domain_api_Domain_l9
def C.slices_Equal_api_Domain_api_Domain_b10_w := @awpE _ _ C.slices_Equal_api_Domain_api_Domain_b10.eq_1
def C.slices_Equal_api_Domain_api_Domain_c11 : ICode := .keep [0, 1, 12, 13] (.block 0 C.slices_Equal_api_Domain_api_Domain_b10)
def C.slices_Equal_api_Domain_api_Domain_c11_w := @awpE _ _ C.slices_Equal_api_Domain_api_Domain_c11.eq_1
def C.slices_Equal_api_Domain_api_Domain_r3_b : List IOper := [
 X.m 11 0,
 X.o 12 (.len (X.s 11)),
 X.o 13 (.move (X.i 0))]
def C.slices_Equal_api_Domain_api_Domain_r3 : List IOper := C.slices_Equal_api_Domain_api_Domain_r3_b
def C.slices_Equal_api_Domain_api_Domain_r3_w := @aopsE _ _ C.slices_Equal_api_Domain_api_Domain_r3.eq_1
def C.slices_Equal_api_Domain_api_Domain_c12 : ICode := .keep [0, 1] (.seq (.seq (.region C.slices_Equal_api_Domain_api_Domain_r3) C.slices_Equal_api_Domain_api_Domain_c11) C.slices_Equal_api_Domain_api_Domain_c1)
def C.slices_Equal_api_Domain_api_Domain_c12_w := @awpE _ _ C.slices_Equal_api_Domain_api_Domain_c12.eq_1
def C.slices_Equal_api_Domain_api_Domain_r2_b : List IOper := [
 X.o 4 (.move (.cst (.bool false)))]
def C.slices_Equal_api_Domain_api_Domain_r2 : List IOper := C.slices_Equal_api_Domain_api_Domain_r2_b
def C.slices_Equal_api_Domain_api_Domain_r2_w := @aopsE _ _ C.slices_Equal_api_Domain_api_Domain_r2.eq_1
def C.slices_Equal_api_Domain_api_Domain_c13 : ICode := .seq (.region C.slices_Equal_api_Domain_api_Domain_r2) .ret
def C.slices_Equal_api_Domain_api_Domain_c13_w := @awpE _ _ C.slices_Equal_api_Domain_api_Domain_c13.eq_1
def C.slices_Equal_api_Domain_api_Domain_c14 : ICode := .keep [0, 1, 10] (.cond (X.s 10) C.slices_Equal_api_Domain_api_Domain_c13 .skip)
def C.slices_Equal_api_Domain_api_Domain_c14_w := @awpE _ _ C.slices_Equal_api_Domain_api_Domain_c14.eq_1
def C.slices_Equal_api_Domain_api_Domain_r1_b : List IOper := [
 X.m 6 0,
 X.o 7 (.len (X.s 6)),
 X.m 8 1,
 X.o 9 (.len (X.s 8)),
 X.o 10 (.bin .neq (X.s 7) (X.s 9))]
def C.slices_Equal_api_Domain_api_Domain_r1 : List IOper := C.slices_Equal_api_Domain_api_Domain_r1_b
def C.slices_Equal_api_Domain_api_Domain_r1_w := @aopsE _ _ C.slices_Equal_api_Domain_api_Domain_r1.eq_1
def C.slices_Equal_api_Domain_api_Domain_c15 : ICode := .keep [0, 1] (.seq (.seq (.region C.slices_Equal_api_Domain_api_Domain_r1) C.slices_Equal_api_Domain_api_Domain_c14) C.slices_Equal_api_Domain_api_Domain_c12)
def C.slices_Equal_api_Domain_api_Domain_c15_w := @awpE _ _ C.slices_Equal_api_Domain_api_Domain_c15.eq_1
def C.slices_Equal_api_Domain_api_Domain_r0_b : List IOper := [
 X.o 4 (.move (.cst (.bool false)))]
def C.slices_Equal_api_Domain_api_Domain_r0 : List IOper := C.slices_Equal_api_Domain_api_Domain_r0_b
def C.slices_Equal_api_Domain_api_Domain_r0_w := @aopsE _ _ C.slices_Equal_api_Domain_api_Domain_r0.eq_1
def C.slices_Equal_api_Domain_api_Domain : IFunc := ⟨2, [.slot 4], .seq (.region C.slices_Equal_api_Domain_api_Domain_r0) C.slices_Equal_api_Domain_api_Domain_c15⟩
def C.slices_Equal_api_Domain_api_Domain_W := And.intro (And.intro (And.intro (And.intro @C.slices_Equal_api_Domain_api_Domain_r9_w (And.intro @C.slices_Equal_api_Domain_api_Domain_c1_w @C.slices_Equal_api_Domain_api_Domain_r8_w)) (And.intro @C.slices_Equal_api_Domain_api_Domain_c2_w (And.intro @C.slices_Equal_api_Domain_api_Domain_r7_w @C.slices_Equal_api_Domain_api_Domain_c3_w))) (And.intro (And.intro @C.slices_Equal_api_Domain_api_Domain_c4_w (And.intro @C.slices_Equal_api_Domain_api_Domain_r6_w @C.slices_Equal_api_Domain_api_Domain_c5_w)) (And.intro @C.slices_Equal_api_Domain_api_Domain_r5_w (And.intro @C.slices_Equal_api_Domain_api_Domain_b6_w @C.slices_Equal_api_Domain_api_Domain_c7_w)))) (And.intro (And.intro (And.intro @C.slices_Equal_api_Domain_api_Domain_c8_w (And.intro @C.slices_Equal_api_Domain_api_Domain_r4_w @C.slices_Equal_api_Domain_api_Domain_b10_w)) (And.intro @C.slices_Equal_api_Domain_api_Domain_c11_w (And.intro @C.slices_Equal_api_Domain_api_Domain_r3_w @C.slices_Equal_api_Domain_api_Domain_c12_w))) (And.intro (And.intro @C.slices_Equal_api_Domain_api_Domain_r2_w (And.intro @C.slices_Equal_api_Domain_api_Domain_c13_w @C.slices_Equal_api_Domain_api_Domain_c14_w)) (And.intro @C.slices_Equal_api_Domain_api_Domain_r1_w (And.intro @C.slices_Equal_api_Domain_api_Domain_c15_w @C.slices_Equal_api_Domain_api_Domain_r0_w))))
def C.slices_Equal_api_Domain_api_Domain_B := And.intro (And.intro (And.intro @C.slices_Equal_api_Domain_api_Domain_r9_b.eq_1 @C.slices_Equal_api_Domain_api_Domain_r8_b.eq_1) (And.intro @C.slices_Equal_api_Domain_api_Domain_r7_b.eq_1 (And.intro @C.slices_Equal_api_Domain_api_Domain_r6_b.eq_1 @C.slices_Equal_api_Domain_api_Domain_r5_b.eq_1))) (And.intro (And.intro @C.slices_Equal_api_Domain_api_Domain_r4_b.eq_1 @C.slices_Equal_api_Domain_api_Domain_r3_b.eq_1) (And.intro @C.slices_Equal_api_Domain_api_Domain_r2_b.eq_1 (And.intro @C.slices_Equal_api_Domain_api_Domain_r1_b.eq_1 @C.slices_Equal_api_Domain_api_Domain_r0_b.eq_1)))

def C.slices_Equal_api_Reset_api_Reset_r9_b : List IOper := [
 X.o 4 (.move (.cst (.bool true)))]
def C.slices_Equal_api_Reset_api_Reset_r9 : List IOper := C.slices_Equal_api_Reset_api_Reset_r9_b
def C.slices_Equal_api_Reset_api_Reset_r9_w := @aopsE _ _ C.slices_Equal_api_Reset_api_Reset_r9.eq_1
def C.slices_Equal_api_Reset_api_Reset_c1 : ICode := .keep [] (.seq (.region C.slices_Equal_api_Reset_api_Reset_r9) .ret)
def C.slices_Equal_api_Reset_api_Reset_c1_w := @awpE _ _ C.slices_Equal_api_Reset_api_Reset_c1.eq_1
def C.slices_Equal_api_Reset_api_Reset_r8_b : List IOper := [
 X.o 25 (.bin .add (X.s 13) (X.i 1)),
 X.m 13 25]
def C.slices_Equal_api_Reset_api_Reset_r8 : List IOper := C.slices_Equal_api_Reset_api_Reset_r8_b
def C.slices_Equal_api_Reset_api_Reset_r8_w := @aopsE _ _ C.slices_Equal_api_Reset_api_Reset_r8.eq_1
def C.slices_Equal_api_Reset_api_Reset_c2 : ICode := .keep [0, 1, 12, 13] (.region C.slices_Equal_api_Reset_api_Reset_r8)
def C.slices_Equal_api_Reset_api_Reset_c2_w := @awpE _ _ C.slices_Equal_api_Reset_api_Reset_c2.eq_1
def C.slices_Equal_api_Reset_api_Reset_r7_b : List IOper := [
 X.o 4 (.move (.cst (.bool false)))]
def C.slices_Equal_api_Reset_api_Reset_r7 : List IOper := C.slices_Equal_api_Reset_api_Reset_r7_b
def C.slices_Equal_api_Reset_api_Reset_r7_w := @aopsE _ _ C.slices_Equal_api_Reset_api_Reset_r7.eq_1
def C.slices_Equal_api_Reset_api_Reset_c3 : ICode := .seq (.region C.slices_Equal_api_Reset_api_Reset_r7) .ret
def C.slices_Equal_api_Reset_api_Reset_c3_w := @awpE _ _ C.slices_Equal_api_Reset_api_Reset_c3.eq_1
def C.slices_Equal_api_Reset_api_Reset_c4 : ICode := .keep [0, 1, 12, 13, 24] (.cond (X.s 24) C.slices_Equal_api_Reset_api_Reset_c3 .skip)
def C.slices_Equal_api_Reset_api_Reset_c4_w := @awpE _ _ C.slices_Equal_api_Reset_api_Reset_c4.eq_1
def C.slices_Equal_api_Reset_api_Reset_r6_b : List IOper := [
 X.m 16 0,
 X.m 17 5,
 X.o 18 (.idxAddr 1 (X.s 16) (X.s 17)),
 X.o 19 (.loadN 1 (X.s 18)),
 X.m 20 1,
 X.m 21 5,
 X.o 22 (.idxAddr 1 (X.s 20) (X.s 21)),
 X.o 23 (.loadN 1 (X.s 22)),
 X.o 24 (.eqS [true] true (X.s 19) (X.s 23))]
def C.slices_Equal_api_Reset_api_Reset_r6 : List IOper := C.slices_Equal_api_Reset_api_Reset_r6_b
def C.slices_Equal_api_Reset_api_Reset_r6_w := @aopsE _ _ C.slices_Equal_api_Reset_api_Reset_r6.eq_1
def C.slices_Equal_api_Reset_api_Reset_c5 : ICode := .keep [0, 1, 5, 12, 13] (.seq (.region C.slices_Equal_api_Reset_api_Reset_r6) C.slices_Equal_api_Reset_api_Reset_c4)
def C.slices_Equal_api_Reset_api_Reset_c5_w := @awpE _ _ C.slices_Equal_api_Reset_api_Reset_c5.eq_1
def C.slices_Equal_api_Reset_api_Reset_r5_b : List IOper := [
 X.m 15 13,
 X.m 5 15]
def C.slices_Equal_api_Reset_api_Reset_r5 : List IOper := C.slices_Equal_api_Reset_api_Reset_r5_b
def C.slices_Equal_api_Reset_api_Reset_r5_w := @aopsE _ _ C.slices_Equal_api_Reset_api_Reset_r5.eq_1
def C.slices_Equal_api_Reset_api_Reset_b6 : ICode := .seq (.region C.slices_Equal_api_Reset_api_Reset_r5) C.slices_Equal_api_Reset_api_Reset_c5
def C.slices_Equal_api_Reset_api_Reset_b6_w := @awpE _ _ C.slices_Equal_api_Reset_api_Reset_b6.eq_1
def C.slices_Equal_api_Reset_api_Reset_c7 : ICode := .keep [0, 1, 12, 13] (.seq (.block 1 C.slices_Equal_api_Reset_api_Reset_b6) C.slices_Equal_api_Reset_api_Reset_c2)
def C.slices_Equal_api_Reset_api_Reset_c7_w := @awpE _ _ C.slices_Equal_api_Reset_api_Reset_c7.eq_1
def C.slices_Equal_api_Reset_api_Reset_c8 : ICode := .keep [0, 1, 12, 13, 14] (.seq (.cond (X.s 14) .skip (.exit 0)) C.slices_Equal_api_Reset_api_Reset_c7)
def C.slices_Equal_api_Reset_api_Reset_c8_w := @awpE _ _ C.slices_Equal_api_Reset_api_Reset_c8.eq_1
def C.slices_Equal_api_Reset_api_Reset_r4_b : List IOper := [
 X.o 14 (.bin .lss (X.s 13) (X.s 12))]
def C.slices_Equal_api_Reset_api_Reset_r4 : List IOper := C.slices_Equal_api_Reset_api_Reset_r4_b
def C.slices_Equal_api_Reset_api_Reset_r4_w := @aopsE _ _ C.slices_Equal_api_Reset_api_Reset_r4.eq_1
def C.slices_Equal_api_Reset_api_Reset_l9 : ICode := .keep [0, 1, 12, 13] (.seq (.region C.slices_Equal_api_Reset_api_Reset_r4) C.slices_Equal_api_Reset_api_Reset_c8)
def C.slices_Equal_api_Reset_api_Reset_l9_w := @awpE _ _ C.slices_Equal_api_Reset_api_Reset_l9.eq_1
def C.slices_Equal_api_Reset_api_Reset_b10 : ICode := .loop C.slices_Equal_api_Reset_api_Reset_l9
def C.slices_Equal_api_Reset_api_Reset_b10_w := @awpE _ _ C.slices_Equal_api_Reset_api_Reset_b10.eq_1
def C.slices_Equal_api_Reset_api_Reset_c11 : ICode := .keep [0, 1, 12, 13] (.block 0 C.slices_Equal_api_Reset_api_Reset_b10)
def C.slices_Equal_api_Reset_api_Reset_c11_w := @awpE _ _ C.slices_Equal_api_Reset_api_Reset_c11.eq_1
def C.slices_Equal_api_Reset_api_Reset_r3_b : List IOper := [
 X.m 11 0,
 X.o 12 (.len (X.s 11)),
 X.o 13 (.move (X.i 0))]
def C.slices_Equal_api_Reset_api_Reset_r3 : List IOper := C.slices_Equal_api_Reset_api_Reset_r3_b
def C.slices_Equal_api_Reset_api_Reset_r3_w := @aopsE _ _ C.slices_Equal_api_Reset_api_Reset_r3.eq_1
def C.slices_Equal_api_Reset_api_Reset_c12 : ICode := .keep [0, 1] (.seq (.seq (.region C.slices_Equal_api_Reset_api_Reset_r3) C.slices_Equal_api_Reset_api_Reset_c11) C.slices_Equal_api_Reset_api_Reset_c1)
def C.slices_Equal_api_Reset_api_Reset_c12_w := @awpE _ _ C.slices_Equal_api_Reset_api_Reset_c12.eq_1
def C.slices_Equal_api_Reset_api_Reset_r2_b : List IOper := [
 X.o 4 (.move (.cst (.bool false)))]
def C.slices_Equal_api_Reset_api_Reset_r2 : List IOper := C.slices_Equal_api_Reset_api_Reset_r2_b
def C.slices_Equal_api_Reset_api_Reset_r2_w := @aopsE _ _ C.slices_Equal_api_Reset_api_Reset_r2.eq_1
def C.slices_Equal_api_Reset_api_Reset_c13 : ICode := .seq (.region C.slices_Equal_api_Reset_api_Reset_r2) .ret
def C.slices_Equal_api_Reset_api_Reset_c13_w := @awpE _ _ C.slices_Equal_api_Reset_api_Reset_c13.eq_1
def C.slices_Equal_api_Reset_api_Reset_c14 : ICode := .keep [0, 1, 10] (.cond (X.s 10) C.slices_Equal_api_Reset_api_Reset_c13 .skip)
def C.slices_Equal_api_Reset_api_Reset_c14_w := @awpE _ _ C.slices_Equal_api_Reset_api_Reset_c14.eq_1
def C.slices_Equal_api_Reset_api_Reset_r1_b : List IOper := [
 X.m 6 0,
 X.o 7 (.len (X.s 6)),
 X.m 8 1,
 X.o 9 (.len (X.s 8)),
 X.o 10 (.bin .neq (X.s 7) (X.s 9))]
def C.slices_Equal_api_Reset_api_Reset_r1 : List IOper := C.slices_Equal_api_Reset_api_Reset_r1_b
def C.slices_Equal_api_Reset_api_Reset_r1_w := @aopsE _ _ C.slices_Equal_api_Reset_api_Reset_r1.eq_1
def C.slices_Equal_api_Reset_api_Reset_c15 : ICode := .keep [0, 1] (.seq (.seq (.region C.slices_Equal_api_Reset_api_Reset_r1) C.slices_Equal_api_Reset_api_Reset_c14) C.slices_Equal_api_Reset_api_Reset_c12)
def C.slices_Equal_api_Reset_api_Reset_c15_w := @awpE _ _ C.slices_Equal_api_Reset_api_Reset_c15.eq_1
def C.slices_Equal_api_Reset_api_Reset_r0_b : List IOper := [
 X.o 4 (.move (.cst (.bool false)))]
def C.slices_Equal_api_Reset_api_Reset_r0 : List IOper := C.slices_Equal_api_Reset_api_Reset_r0_b
def C.slices_Equal_api_Reset_api_Reset_r0_w := @aopsE _ _ C.slices_Equal_api_Reset_api_Reset_r0.eq_1
def C.slices_Equal_api_Reset_api_Reset : IFunc := ⟨2, [.slot 4], .seq (.region C.slices_Equal_api_Reset_api_Reset_r0) C.slices_Equal_api_Reset_api_Reset_c15⟩
def C.slices_Equal_api_Reset_api_Reset_W := And.intro (And.intro (And.intro (And.intro @C.slices_Equal_api_Reset_api_Reset_r9_w (And.intro @C.slices_Equal_api_Reset_api_Reset_c1_w @C.slices_Equal_api_Reset_api_Reset_r8_w)) (And.intro @C.slices_Equal_api_Reset_api_Reset_c2_w (And.intro @C.slices_Equal_api_Reset_api_Reset_r7_w @C.slices_Equal_api_Reset_api_Reset_c3_w))) (And.intro (And.intro @C.slices_Equal_api_Reset_api_Reset_c4_w (And.intro @C.slices_Equal_api_Reset_api_Reset_r6_w @C.slices_Equal_api_Reset_api_Reset_c5_w)) (And.intro @C.slices_Equal_api_Reset_api_Reset_r5_w (And.intro @C.slices_Equal_api_Reset_api_Reset_b6_w @C.slices_Equal_api_Reset_api_Reset_c7_w)))) (And.intro (And.intro (And.intro @C.slices_Equal_api_Reset_api_Reset_c8_w (And.intro @C.slices_Equal_api_Reset_api_Reset_r4_w @C.slices_Equal_api_Reset_api_Reset_b10_w)) (And.intro @C.slices_Equal_api_Reset_api_Reset_c11_w (And.intro @C.slices_Equal_api_Reset_api_Reset_r3_w @C.slices_Equal_api_Reset_api_Reset_c12_w))) (And.intro (And.intro @C.slices_Equal_api_Reset_api_Reset_r2_w (And.intro @C.slices_Equal_api_Reset_api_Reset_c13_w @C.slices_Equal_api_Reset_api_Reset_c14_w)) (And.intro @C.slices_Equal_api_Reset_api_Reset_r1_w (And.intro @C.slices_Equal_api_Reset_api_Reset_c15_w @C.slices_Equal_api_Reset_api_Reset_r0_w))))
def C.slices_Equal_api_Reset_api_Reset_B := And.intro (And.intro (And.intro @C.slices_Equal_api_Reset_api_Reset_r9_b.eq_1 @C.slices_Equal_api_Reset_api_Reset_r8_b.eq_1) (And.intro @C.slices_Equal_api_Reset_api_Reset_r7_b.eq_1 (And.intro @C.slices_Equal_api_Reset_api_Reset_r6_b.eq_1 @C.slices_Equal_api_Reset_api_Reset_r5_b.eq_1))) (And.intro (And.intro @C.slices_Equal_api_Reset_api_Reset_r4_b.eq_1 @C.slices_Equal_api_Reset_api_Reset_r3_b.eq_1) (And.intro @C.slices_Equal_api_Reset_api_Reset_r2_b.eq_1 (And.intro @C.slices_Equal_api_Reset_api_Reset_r1_b.eq_1 @C.slices_Equal_api_Reset_api_Reset_r0_b.eq_1)))

def C.slices_EqualFunc_api_Device_api_Device_api_Device_api_Device_r10_b : List IOper := [
 X.o 6 (.move (.cst (.bool true)))]
def C.slices_EqualFunc_api_Device_api_Device_api_Device_api_Device_r10 : List IOper := C.slices_EqualFunc_api_Device_api_Device_api_Device_api_Device_r10_b
def C.slices_EqualFunc_api_Device_api_Device_api_Device_api_Device_r10_w := @aopsE _ _ C.slices_EqualFunc_api_Device_api_Device_api_Device_api_Device_r10.eq_1
def C.slices_EqualFunc_api_Device_api_Device_api_Device_api_Device_c1 : ICode := .keep [] (.seq (.region C.slices_EqualFunc_api_Device_api_Device_api_Device_api_Device_r10) .ret)
def C.slices_EqualFunc_api_Device_api_Device_api_Device_api_Device_c1_w := @awpE _ _ C.slices_EqualFunc_api_Device_api_Device_api_Device_api_Device_c1.eq_1
def C.slices_EqualFunc_api_Device_api_Device_api_Device_api_Device_r9_b : List IOper := [
 X.o 31 (.bin .add (X.s 17) (X.i 1)),
 X.m 17 31]
def C.slices_EqualFunc_api_Device_api_Device_api_Device_api_Device_r9 : List IOper := C.slices_EqualFunc_api_Device_api_Device_api_Device_api_Device_r9_b
def C.slices_EqualFunc_api_Device_api_Device_api_Device_api_Device_r9_w := @aopsE _ _ C.slices_EqualFunc_api_Device_api_Device_api_Device_api_Device_r9.eq_1
def C.slices_EqualFunc_api_Device_api_Device_api_Device_api_Device_c2 : ICode := .keep [1, 2, 15, 16, 17] (.region C.slices_EqualFunc_api_Device_api_Device_api_Device_api_Device_r9)
def C.slices_EqualFunc_api_Device_api_Device_api_Device_api_Device_c2_w := @awpE _ _ C.slices_EqualFunc_api_Device_api_Device_api_Device_api_Device_c2.eq_1
def C.slices_EqualFunc_api_Device_api_Device_api_Device_api_Device_r8_b : List IOper := [
 X.o 6 (.move (.cst (.bool false)))]
def C.slices_EqualFunc_api_Device_api_Device_api_Device_api_Device_r8 : List IOper := C.slices_EqualFunc_api_Device_api_Device_api_Device_api_Device_r8_b
def C.slices_EqualFunc_api_Device_api_Device_api_Device_api_Device_r8_w := @aopsE _ _ C.slices_EqualFunc_api_Device_api_Device_api_Device_api_Device_r8.eq_1
def C.slices_EqualFunc_api_Device_api_Device_api_Device_api_Device_c3 : ICode := .seq (.region C.slices_EqualFunc_api_Device_api_Device_api_Device_api_Device_r8) .ret
def C.slices_EqualFunc_api_Device_api_Device_api_Device_api_Device_c3_w := @awpE _ _ C.slices_EqualFunc_api_Device_api_Device_api_Device_api_Device_c3.eq_1
def C.slices_EqualFunc_api_Device_api_Device_api_Device_api_Device_c4 : ICode := .keep [1, 2, 15, 16, 17, 30] (.cond (X.s 30) C.slices_EqualFunc_api_Device_api_Device_api_Device_api_Device_c3 .skip)
def C.slices_EqualFunc_api_Device_api_Device_api_Device_api_Device_c4_w := @awpE _ _ C.slices_EqualFunc_api_Device_api_Device_api_Device_api_Device_c4.eq_1
def C.slices_EqualFunc_api_Device_api_Device_api_Device_api_Device_r7_b : List IOper := [
 X.m 26 2,
 X.o 27 (.loadN 6 (X.s 8)),
 X.o 28 (.loadN 6 (X.s 9)),
 X.o 29 (.callv (X.s 26) [X.s 27, X.s 28]),
 X.o 30 (.un .not (X.s 29))]
def C.slices_EqualFunc_api_Device_api_Device_api_Device_api_Device_r7 : List IOper := C.slices_EqualFunc_api_Device_api_Device_api_Device_api_Device_r7_b
def C.slices_EqualFunc_api_Device_api_Device_api_Device_api_Device_r7_w := @aopsE _ _ C.slices_EqualFunc_api_Device_api_Device_api_Device_api_Device_r7.eq_1
def C.slices_EqualFunc_api_Device_api_Device_api_Device_api_Device_c5 : ICode := .keep [1, 2, 8, 9, 15, 16, 17] (.seq (.region C.slices_EqualFunc_api_Device_api_Device_api_Device_api_Device_r7) C.slices_EqualFunc_api_Device_api_Device_api_Device_api_Device_c4)
def C.slices_EqualFunc_api_Device_api_Device_api_Device_api_Device_c5_w := @awpE _ _ C.slices_EqualFunc_api_Device_api_Device_api_Device_api_Device_c5.eq_1
def C.slices_EqualFunc_api_Device_api_Device_api_Device_api_Device_r6_b : List IOper := [
 X.m 22 1,
 X.m 23 7,
 X.o 24 (.idxAddr 6 (X.s 22) (X.s 23)),
 X.o 25 (.loadN 6 (X.s 24)),
 X.o 9 (.alloc [.int .i64 0, .int .i64 0, .int .i64 0, .int .u32 0, .nils, .nils]),
 X.n (.storeN 6 (X.s 9) (X.s 25))]
def C.slices_EqualFunc_api_Device_api_Device_api_Device_api_Device_r6 : List IOper := C.slices_EqualFunc_api_Device_api_Device_api_Device_api_Device_r6_b
def C.slices_EqualFunc_api_Device_api_Device_api_Device_api_Device_r6_w := @aopsE _ _ C.slices_EqualFunc_api_Device_api_Device_api_Device_api_Device_r6.eq_1
def C.slices_EqualFunc_api_Device_api_Device_api_Device_api_Device_c6 : ICode := .keep [1, 2, 7, 8, 15, 16, 17] (.seq (.region C.slices_EqualFunc_api_Device_api_Device_api_Device_api_Device_r6) C.slices_EqualFunc_api_Device_api_Device_api_Device_api_Device_c5)
def C.slices_EqualFunc_api_Device_api_Device_api_Device_api_Device_c6_w := @awpE _ _ C.slices_EqualFunc_api_Device_api_Device_api_Device_api_Device_c6.eq_1
def C.slices_EqualFunc_api_Device_api_Device_api_Device_api_Device_r5_b : List IOper := [
 X.m 19 17,
 X.o 20 (.idxAddr 6 (X.s 15) (X.s 17)),
 X.o 21 (.loadN 6 (X.s 20)),
 X.o 8 (.alloc [.int .i64 0, .int .i64 0, .int .i64 0, .int .u32 0, .nils, .nils]),
 X.m 7 19,
 X.n (.storeN 6 (X.s 8) (X.s 21))]
def C.slices_EqualFunc_api_Device_api_Device_api_Device_api_Device_r5 : List IOper := C.slices_EqualFunc_api_Device_api_Device_api_Device_api_Device_r5_b
def C.slices_EqualFunc_api_Device_api_Device_api_Device_api_Device_r5_w := @aopsE _ _ C.slices_EqualFunc_api_Device_api_Device_api_Device_api_Device_r5.eq_1
def C.slices_EqualFunc_api_Device_api_Device_api_Device_api_Device_b7 : ICode := .seq (.region C.slices_EqualFunc_api_Device_api_Device_api_Device_api_Device_r5) C.slices_EqualFunc_api_Device_api_Device_api_Device_api_Device_c6
def C.slices_EqualFunc_api_Device_api_Device_api_Device_api_Device_b7_w := @awpE _ _ C.slices_EqualFunc_api_Device_api_Device_api_Device_api_Device_b7.eq_1
def C.slices_EqualFunc_api_Device_api_Device_api_Device_api_Device_c8 : ICode := .keep [1, 2, 15, 16, 17] (.seq (.block 1 C.slices_EqualFunc_api_Device_api_Device_api_Device_api_Device_b7) C.slices_EqualFunc_api_Device_api_Device_api_Device_api_Device_c2)
def C.slices_EqualFunc_api_Device_api_Device_api_Device_api_Device_c8_w := @awpE _ _ C.slices_EqualFunc_api_Device_api_Device_api_Device_api_Device_c8.eq_1
def C.slices_EqualFunc_api_Device_api_Device_api_Device_api_Device_c9 : ICode := .keep [1, 2, 15, 16, 17, 18] (.seq (.cond (X.s 18) .skip (.exit 0)) C.slices_EqualFunc_api_Device_api_Device_api_Device_api_Device_c8)
def C.slices_EqualFunc_api_Device_api_Device_api_Device_api_Device_c9_w := @awpE _ _ C.slices_EqualFunc_api_Device_api_Device_api_Device_api_Device_c9.eq_1
def C.slices_EqualFunc_api_Device_api_Device_api_Device_api_Device_r4_b : List IOper := [
 X.o 18 (.bin .lss (X.s 17) (X.s 16))]
def C.slices_EqualFunc_api_Device_api_Device_api_Device_api_Device_r4 : List IOper := C.slices_EqualFunc_api_Device_api_Device_api_Device_api_Device_r4_b
def C.slices_EqualFunc_api_Device_api_Device_api_Device_api_Device_r4_w := @aopsE _ _ C.slices_EqualFunc_api_Device_api_Device_api_Device_api_Device_r4.eq_1
def C.slices_EqualFunc_api_Device_api_Device_api_Device_api_Device_l10 : ICode := .keep [1, 2, 15, 16, 17] (.seq (.region C.slices_EqualFunc_api_Device_api_Device_api_Device_api_Device_r4) C.slices_EqualFunc_api_Device_api_Device_api_Device_api_Device_c9)
def C.slices_EqualFunc_api_Device_api_Device_api_Device_api_Device_l10_w := @awpE _ _ C.slices_EqualFunc_api_Device_api_Device_api_Device_api_Device_l10.eq_1
def C.slices_EqualFunc_api_Device_api_Device_api_Device_api_Device_b11 : ICode := .loop C.slices_EqualFunc_api_Device_api_Device_api_Device_api_Device_l10
def C.slices_EqualFunc_api_Device_api_Device_api_Device_api_Device_b11_w := @awpE _ _ C.slices_EqualFunc_api_Device_api_Device_api_Device_api_Device_b11.eq_1
def C.slices_EqualFunc_api_Device_api_Device_api_Device_api_Device_c12 : ICode := .keep [1, 2, 15, 16, 17] (.block 0 C.slices_EqualFunc_api_Device_api_Device_api_Device_api_Device_b11)
def C.slices_EqualFunc_api_Device_api_Device_api_Device_api_Device_c12_w := @awpE _ _ C.slices_EqualFunc_api_Device_api_Device_api_Device_api_Device_c12.eq_1
def C.slices_EqualFunc_api_Device_api_Device_api_Device_api_Device_r3_b : List IOper := [
 X.m 15 0,
 X.o 16 (.len (X.s 15)),
 X.o 17 (.move (X.i 0))]
def C.slices_EqualFunc_api_Device_api_Device_api_Device_api_Device_r3 : List IOper := C.slices_EqualFunc_api_Device_api_Device_api_Device_api_Device_r3_b
def C.slices_EqualFunc_api_Device_api_Device_api_Device_api_Device_r3_w := @aopsE _ _ C.slices_EqualFunc_api_Device_api_Device_api_Device_api_Device_r3.eq_1
def C.slices_EqualFunc_api_Device_api_Device_api_Device_api_Device_c13 : ICode := .keep [0, 1, 2] (.seq (.seq (.region C.slices_EqualFunc_api_Device_api_Device_api_Device_api_Device_r3) C.slices_EqualFunc_api_Device_api_Device_api_Device_api_Device_c12) C.slices_EqualFunc_api_Device_api_Device_api_Device_api_Device_c1)
def C.slices_EqualFunc_api_Device_api_Device_api_Device_api_Device_c13_w := @awpE _ _ C.slices_EqualFunc_api_Device_api_Device_api_Device_api_Device_c13.eq_1
def C.slices_EqualFunc_api_Device_api_Device_api_Device_api_Device_r2_b : List IOper := [
 X.o 6 (.move (.cst (.bool false)))]
def C.slices_EqualFunc_api_Device_api_Device_api_Device_api_Device_r2 : List IOper := C.slices_EqualFunc_api_Device_api_Device_api_Device_api_Device_r2_b
def C.slices_EqualFunc_api_Device_api_Device_api_Device_api_Device_r2_w := @aopsE _ _ C.slices_EqualFunc_api_Device_api_Device_api_Device_api_Device_r2.eq_1
def C.slices_EqualFunc_api_Device_api_Device_api_Device_api_Device_c14 : ICode := .seq (.region C.slices_EqualFunc_api_Device_api_Device_api_Device_api_Device_r2) .ret
def C.slices_EqualFunc_api_Device_api_Device_api_Device_api_Device_c14_w := @awpE _ _ C.slices_EqualFunc_api_Device_api_Device_api_Device_api_Device_c14.eq_1
def C.slices_EqualFunc_api_Device_api_Device_api_Device_api_Device_c15 : ICode := .keep [0, 1, 2, 14] (.cond (X.s 14) C.slices_EqualFunc_api_Device_api_Device_api_Device_api_Device_c14 .skip)
def C.slices_EqualFunc_api_Device_api_Device_api_Device_api_Device_c15_w := @awpE _ _ C.slices_EqualFunc_api_Device_api_Device_api_Device_api_Device_c15.eq_1
def C.slices_EqualFunc_api_Device_api_Device_api_Device_api_Device_r1_b : List IOper := [
 X.m 10 0,
 X.o 11 (.len (X.s 10)),
 X.m 12 1,
 X.o 13 (.len (X.s 12)),
 X.o 14 (.bin .neq (X.s 11) (X.s 13))]
def C.slices_EqualFunc_api_Device_api_Device_api_Device_api_Device_r1 : List IOper := C.slices_EqualFunc_api_Device_api_Device_api_Device_api_Device_r1_b
def C.slices_EqualFunc_api_Device_api_Device_api_Device_api_Device_r1_w := @aopsE _ _ C.slices_EqualFunc_api_Device_api_Device_api_Device_api_Device_r1.eq_1
def C.slices_EqualFunc_api_Device_api_Device_api_Device_api_Device_c16 : ICode := .keep [0, 1, 2] (.seq (.seq (.region C.slices_EqualFunc_api_Device_api_Device_api_Device_api_Device_r1) C.slices_EqualFunc_api_Device_api_Device_api_Device_api_Device_c15) C.slices_EqualFunc_api_Device_api_Device_api_Device_api_Device_c13)
def C.slices_EqualFunc_api_Device_api_Device_api_Device_api_Device_c16_w := @awpE _ _ C.slices_EqualFunc_api_Device_api_Device_api_Device_api_Device_c16.eq_1
def C.slices_EqualFunc_api_Device_api_Device_api_Device_api_Device_r0_b : List IOper := [
 X.o 6 (.move (.cst (.bool false)))]
def C.slices_EqualFunc_api_Device_api_Device_api_Device_api_Device_r0 : List IOper := C.slices_EqualFunc_api_Device_api_Device_api_Device_api_Device_r0_b
def C.slices_EqualFunc_api_Device_api_Device_api_Device_api_Device_r0_w := @aopsE _ _ C.slices_EqualFunc_api_Device_api_Device_api_Device_api_Device_r0.eq_1
def C.slices_EqualFunc_api_Device_api_Device_api_Device_api_Device : IFunc := ⟨3, [.slot 6], .seq (.region C.slices_EqualFunc_api_Device_api_Device_api_Device_api_Device_r0) C.slices_EqualFunc_api_Device_api_Device_api_Device_api_Device_c16⟩
def C.slices_EqualFunc_api_Device_api_Device_api_Device_api_Device_W := And.intro (And.intro (And.intro (And.intro @C.slices_EqualFunc_api_Device_api_Device_api_Device_api_Device_r10_w (And.intro @C.slices_EqualFunc_api_Device_api_Device_api_Device_api_Device_c1_w @C.slices_EqualFunc_api_Device_api_Device_api_Device_api_Device_r9_w)) (And.intro @C.slices_EqualFunc_api_Device_api_Device_api_Device_api_Device_c2_w (And.intro @C.slices_EqualFunc_api_Device_api_Device_api_Device_api_Device_r8_w @C.slices_EqualFunc_api_Device_api_Device_api_Device_api_Device_c3_w))) (And.intro (And.intro @C.slices_EqualFunc_api_Device_api_Device_api_Device_api_Device_c4_w (And.intro @C.slices_EqualFunc_api_Device_api_Device_api_Device_api_Device_r7_w @C.slices_EqualFunc_api_Device_api_Device_api_Device_api_Device_c5_w)) (And.intro (And.intro @C.slices_EqualFunc_api_Device_api_Device_api_Device_api_Device_r6_w @C.slices_EqualFunc_api_Device_api_Device_api_Device_api_Device_c6_w) (And.intro @C.slices_EqualFunc_api_Device_api_Device_api_Device_api_Device_r5_w @C.slices_EqualFunc_api_Device_api_Device_api_Device_api_Device_b7_w)))) (And.intro (And.intro (And.intro @C.slices_EqualFunc_api_Device_api_Device_api_Device_api_Device_c8_w (And.intro @C.slices_EqualFunc_api_Device_api_Device_api_Device_api_Device_c9_w @C.slices_EqualFunc_api_Device_api_Device_api_Device_api_Device_r4_w)) (And.intro @C.slices_EqualFunc_api_Device_api_Device_api_Device_api_Device_b11_w (And.intro @C.slices_EqualFunc_api_Device_api_Device_api_Device_api_Device_c12_w @C.slices_EqualFunc_api_Device_api_Device_api_Device_api_Device_r3_w))) (And.intro (And.intro @C.slices_EqualFunc_api_Device_api_Device_api_Device_api_Device_c13_w (And.intro @C.slices_EqualFunc_api_Device_api_Device_api_Device_api_Device_r2_w @C.slices_EqualFunc_api_Device_api_Device_api_Device_api_Device_c14_w)) (And.intro (And.intro @C.slices_EqualFunc_api_Device_api_Device_api_Device_api_Device_c15_w @C.slices_EqualFunc_api_Device_api_Device_api_Device_api_Device_r1_w) (And.intro @C.slices_EqualFunc_api_Device_api_Device_api_Device_api_Device_c16_w @C.slices_EqualFunc_api_Device_api_Device_api_Device_api_Device_r0_w))))
def C.slices_EqualFunc_api_Device_api_Device_api_Device_api_Device_B := And.intro (And.intro (And.intro @C.slices_EqualFunc_api_Device_api_Device_api_Device_api_Device_r10_b.eq_1 @C.slices_EqualFunc_api_Device_api_Device_api_Device_api_Device_r9_b.eq_1) (And.intro @C.slices_EqualFunc_api_Device_api_Device_api_Device_api_Device_r8_b.eq_1 (And.intro @C.slices_EqualFunc_api_Device_api_Device_api_Device_api_Device_r7_b.eq_1 @C.slices_EqualFunc_api_Device_api_Device_api_Device_api_Device_r6_b.eq_1))) (And.intro (And.intro @C.slices_EqualFunc_api_Device_api_Device_api_Device_api_Device_r5_b.eq_1 (And.intro @C.slices_EqualFunc_api_Device_api_Device_api_Device_api_Device_r4_b.eq_1 @C.slices_EqualFunc_api_Device_api_Device_api_Device_api_Device_r3_b.eq_1)) (And.intro @C.slices_EqualFunc_api_Device_api_Device_api_Device_api_Device_r2_b.eq_1 (And.intro @C.slices_EqualFunc_api_Device_api_Device_api_Device_api_Device_r1_b.eq_1 @C.slices_EqualFunc_api_Device_api_Device_api_Device_api_Device_r0_b.eq_1)))

def C.conf_sameDevice_r1_b : List IOper := [
 X.o 5 (.fldAddr 0 (X.s 2)),
 X.o 6 (.load1 (X.s 5)),
 X.o 7 (.fldAddr 0 (X.s 3)),
 X.o 8 (.load1 (X.s 7)),
 X.o 9 (.bin .eql (X.s 6) (X.s 8)),
 X.m 10 9,
 X.t 10 11 (.fldAddr 1 (X.s 2)),
 X.t 10 12 (.load1 (X.s 11)),
 X.t 10 13 (.fldAddr 1 (X.s 3)),
 X.t 10 14 (.load1 (X.s 13)),
 X.t 10 15 (.bin .eql (X.s 12) (X.s 14)),
 X.o 16 (.pick (X.s 10) (X.s 15) (.cst (.bool false))),
 X.m 17 16,
 X.t 17 18 (.fldAddr 2 (X.s 2)),
 X.t 17 19 (.load1 (X.s 18)),
 X.t 17 20 (.fldAddr 2 (X.s 3)),
 X.t 17 21 (.load1 (X.s 20)),
 X.t 17 22 (.bin .eql (X.s 19) (X.s 21)),
 X.o 23 (.pick (X.s 17) (X.s 22) (.cst (.bool false))),
 X.m 24 23,
 X.t 24 25 (.fldAddr 3 (X.s 2)),
 X.t 24 26 (.load1 (X.s 25)),
 X.t 24 27 (.fldAddr 3 (X.s 3)),
 X.t 24 28 (.load1 (X.s 27)),
 X.t 24 29 (.bin .eql (X.s 26) (X.s 28)),
 X.o 30 (.pick (X.s 24) (X.s 29) (.cst (.bool false))),
 X.m 31 30,
 X.t 31 32 (.fldAddr 4 (X.s 2)),
 X.t 31 33 (.load1 (X.s 32)),
 X.t 31 34 (.fldAddr 4 (X.s 3)),
 X.t 31 35 (.load1 (X.s 34)),
 X.t 31 36 (.call F.slices_Equal_api_Reg_api_Reg [X.s 33, X.s 35]),
 X.o 37 (.pick (X.s 31) (X.s 36) (.cst (.bool false))),
 X.m 38 37,
 X.t 38 39 (.fldAddr 5 (X.s 2)),
 X.t 38 40 (.load1 (X.s 39)),
 X.t 38 41 (.fldAddr 5 (X.s 3)),
 X.t 38 42 (.load1 (X.s 41)),
 X.t 38 43 (.call F.slices_Equal_int_int [X.s 40, X.s 42]),
 X.o 44 (.pick (X.s 38) (X.s 43) (.cst (.bool false))),
 X.m 4 44]
def C.conf_sameDevice_r1 : List IOper := C.conf_sameDevice_r1_b
def C.conf_sameDevice_r1_w := @aopsE _ _ C.conf_sameDevice_r1.eq_1
def C.conf_sameDevice_c1 : ICode := .keep [2, 3] (.seq (.region C.conf_sameDevice_r1) .ret)
def C.conf_sameDevice_c1_w := @awpE _ _ C.conf_sameDevice_c1.eq_1
def C.conf_sameDevice_r0_b : List IOper := [
 X.o 2 (.boxN (X.s 0)),
 X.o 3 (.boxN (X.s 1)),
 X.o 4 (.move (.cst (.bool false)))]
def C.conf_sameDevice_r0 : List IOper := C.conf_sameDevice_r0_b
def C.conf_sameDevice_r0_w := @aopsE _ _ C.conf_sameDevice_r0.eq_1
def C.conf_sameDevice : IFunc := ⟨2, [.slot 4], .seq (.region C.conf_sameDevice_r0) C.conf_sameDevice_c1⟩
def C.conf_sameDevice_W := And.intro @C.conf_sameDevice_r1_w (And.intro @C.conf_sameDevice_c1_w @C.conf_sameDevice_r0_w)
def C.conf_sameDevice_B := And.intro @C.conf_sameDevice_r1_b.eq_1 @C.conf_sameDevice_r0_b.eq_1

def C.conf_full_1_r1_b : List IOper := [
 X.o 3 (.fldAddr 4 (X.s 1)),
 X.o 4 (.load1 (X.s 3)),
 X.o 5 (.len (X.s 4)),
 X.o 6 (.bin .gtr (X.s 5) (X.i 8)),
 X.m 7 6,
 X.f 7 8 (.fldAddr 5 (X.s 1)),
 X.f 7 9 (.load1 (X.s 8)),
 X.f 7 10 (.len (X.s 9)),
 X.f 7 11 (.bin .gtr (X.s 10) (X.i 6)),
 X.o 12 (.pick (X.s 7) (.cst (.bool true)) (X.s 11)),
 X.o 13 (.call F.conf_when [X.s 12, X.i 8]),
 X.m 2 13]
def C.conf_full_1_r1 : List IOper := C.conf_full_1_r1_b
def C.conf_full_1_r1_w := @aopsE _ _ C.conf_full_1_r1.eq_1
def C.conf_full_1_c1 : ICode := .keep [1] (.seq (.region C.conf_full_1_r1) .ret)
def C.conf_full_1_c1_w := @awpE _ _ C.conf_full_1_c1.eq_1
def C.conf_full_1_r0_b : List IOper := [
 X.o 1 (.boxN (X.s 0)),
 X.o 2 (.move (X.i 0))]
def C.conf_full_1_r0 : List IOper := C.conf_full_1_r0_b
def C.conf_full_1_r0_w := @aopsE _ _ C.conf_full_1_r0.eq_1
def C.conf_full_1 : IFunc := ⟨1, [.slot 2], .seq (.region C.conf_full_1_r0) C.conf_full_1_c1⟩
def C.conf_full_1_W := And.intro @C.conf_full_1_r1_w (And.intro @C.conf_full_1_c1_w @C.conf_full_1_r0_w)
def C.conf_full_1_B := And.intro @C.conf_full_1_r1_b.eq_1 @C.conf_full_1_r0_b.eq_1

def C.conf_when_r3_b : List IOper := [
 X.o 4 (.move (X.i 0))]
def C.conf_when_r3 : List IOper := C.conf_when_r3_b
def C.conf_when_r3_w := @aopsE _ _ C.conf_when_r3.eq_1
def C.conf_when_c1 : ICode := .keep [] (.seq (.region C.conf_when_r3) .ret)
def C.conf_when_c1_w := @awpE _ _ C.conf_when_c1.eq_1
def C.conf_when_r2_b : List IOper := [
 X.m 6 1,
 X.m 4 6]
def C.conf_when_r2 : List IOper := C.conf_when_r2_b
def C.conf_when_r2_w := @aopsE _ _ C.conf_when_r2.eq_1
def C.conf_when_c2 : ICode := .seq (.region C.conf_when_r2) .ret
def C.conf_when_c2_w := @awpE _ _ C.conf_when_c2.eq_1
def C.conf_when_c3 : ICode := .keep [1, 5] (.cond (X.s 5) C.conf_when_c2 .skip)
def C.conf_when_c3_w := @awpE _ _ C.conf_when_c3.eq_1
def C.conf_when_r1_b : List IOper := [
 X.m 5 0]
def C.conf_when_r1 : List IOper := C.conf_when_r1_b
def C.conf_when_r1_w := @aopsE _ _ C.conf_when_r1.eq_1
def C.conf_when_c4 : ICode := .keep [0, 1] (.seq (.seq (.region C.conf_when_r1) C.conf_when_c3) C.conf_when_c1)
def C.conf_when_c4_w := @awpE _ _ C.conf_when_c4.eq_1
def C.conf_when_r0_b : List IOper := [
 X.o 4 (.move (X.i 0))]
def C.conf_when_r0 : List IOper := C.conf_when_r0_b
def C.conf_when_r0_w := @aopsE _ _ C.conf_when_r0.eq_1
def C.conf_when : IFunc := ⟨2, [.slot 4], .seq (.region C.conf_when_r0) C.conf_when_c4⟩
def C.conf_when_W := And.intro (And.intro (And.intro @C.conf_when_r3_w @C.conf_when_c1_w) (And.intro @C.conf_when_r2_w @C.conf_when_c2_w)) (And.intro (And.intro @C.conf_when_c3_w @C.conf_when_r1_w) (And.intro @C.conf_when_c4_w @C.conf_when_r0_w))
def C.conf_when_B := And.intro (And.intro @C.conf_when_r3_b.eq_1 @C.conf_when_r2_b.eq_1) (And.intro @C.conf_when_r1_b.eq_1 @C.conf_when_r0_b.eq_1)

def C.conf_clock_1_r1_b : List IOper := [
 X.o 2 (.loadN 6 (X.s 0)),
 X.o 3 (.call F.conf_shape [X.s 2]),
 X.o 4 (.un .not (X.s 3)),
 X.o 5 (.call F.conf_when [X.s 4, X.i 1]),
 X.m 1 5]
def C.conf_clock_1_r1 : List IOper := C.conf_clock_1_r1_b
def C.conf_clock_1_r1_w := @aopsE _ _ C.conf_clock_1_r1.eq_1
def C.conf_clock_1_c1 : ICode := .keep [0] (.seq (.region C.conf_clock_1_r1) .ret)
def C.conf_clock_1_c1_w := @awpE _ _ C.conf_clock_1_c1.eq_1
def C.conf_clock_1_r0_b : List IOper := [
 X.o 1 (.move (X.i 0))]
def C.conf_clock_1_r0 : List IOper := C.conf_clock_1_r0_b
def C.conf_clock_1_r0_w := @aopsE _ _ C.conf_clock_1_r0.eq_1
def C.conf_clock_1 : IFunc := ⟨1, [.slot 1], .seq (.region C.conf_clock_1_r0) C.conf_clock_1_c1⟩
def C.conf_clock_1_W := And.intro @C.conf_clock_1_r1_w (And.intro @C.conf_clock_1_c1_w @C.conf_clock_1_r0_w)
def C.conf_clock_1_B := And.intro @C.conf_clock_1_r1_b.eq_1 @C.conf_clock_1_r0_b.eq_1

def C.conf_shape_r10_b : List IOper := [
 X.o 2 (.move (.cst (.bool false)))]
def C.conf_shape_r10 : List IOper := C.conf_shape_r10_b
def C.conf_shape_r10_w := @aopsE _ _ C.conf_shape_r10.eq_1
def C.conf_shape_c1 : ICode := .keep [] (.seq (.region C.conf_shape_r10) .ret)
def C.conf_shape_c1_w := @awpE _ _ C.conf_shape_c1.eq_1
def C.conf_shape_r3_b : List IOper := [
 X.o 7 (.fldAddr 1 (X.s 1)),
 X.o 8 (.load1 (X.s 7)),
 X.o 9 (.len (X.s 8)),
 X.o 10 (.bin .eql (X.s 9) (X.i 0)),
 X.m 2 10]
def C.conf_shape_r3 : List IOper := C.conf_shape_r3_b
def C.conf_shape_r3_w := @aopsE _ _ C.conf_shape_r3.eq_1
def C.conf_shape_r7_b : List IOper := [
 X.o 15 (.fldAddr 1 (X.s 1)),
 X.o 16 (.load1 (X.s 15)),
 X.o 17 (.len (X.s 16)),
 X.o 18 (.bin .eql (X.s 17) (X.i 1)),
 X.m 2 18]
def C.conf_shape_r7 : List IOper := C.conf_shape_r7_b
def C.conf_shape_r7_w := @aopsE _ _ C.conf_shape_r7.eq_1
def C.conf_shape_r9_b : List IOper := [
 X.o 21 (.fldAddr 1 (X.s 1)),
 X.o 22 (.load1 (X.s 21)),
 X.o 23 (.len (X.s 22)),
 X.o 24 (.call F.conf_within [X.s 23, X.i 1, X.i 4]),
 X.m 2 24]
def C.conf_shape_r9 : List IOper := C.conf_shape_r9_b
def C.conf_shape_r9_w := @aopsE _ _ C.conf_shape_r9.eq_1
def C.conf_shape_c2 : ICode := .seq (.region C.conf_shape_r9) .ret
def C.conf_shape_c2_w := @awpE _ _ C.conf_shape_c2.eq_1
def C.conf_shape_c3 : ICode := .keep [1, 19] (.cond (X.s 19) C.conf_shape_c2 .skip)
def C.conf_shape_c3_w := @awpE _ _ C.conf_shape_c3.eq_1
def C.conf_shape_r8_b : List IOper := [
 X.o 20 (.bin .eql (X.s 4) (.cst (.int .u8 109))),
 X.m 19 20]
def C.conf_shape_r8 : List IOper := C.conf_shape_r8_b
def C.conf_shape_r8_w := @aopsE _ _ C.conf_shape_r8.eq_1
def C.conf_shape_c4 : ICode := .seq (.region C.conf_shape_r7) .ret
def C.conf_shape_c4_w := @awpE _ _ C.conf_shape_c4.eq_1
def C.conf_shape_c5 : ICode := .seq (.region C.conf_shape_r8) C.conf_shape_c3
def C.conf_shape_c5_w := @awpE _ _ C.conf_shape_c5.eq_1
def C.conf_shape_c6 : ICode := .keep [1, 4, 11] (.cond (X.s 11) C.conf_shape_c4 C.conf_shape_c5)
def C.conf_shape_c6_w := @awpE _ _ C.conf_shape_c6.eq_1
def C.conf_shape_r6_b : List IOper := [
 X.o 14 (.bin .eql (X.s 4) (.cst (.int .u8 103))),
 X.m 11 14]
def C.conf_shape_r6 : List IOper := C.conf_shape_r6_b
def C.conf_shape_r6_w := @aopsE _ _ C.conf_shape_r6.eq_1
def C.conf_shape_c7 : ICode := .keep [1, 4, 11] (.cond (X.s 11) .skip (.region C.conf_shape_r6))
def C.conf_shape_c7_w := @awpE _ _ C.conf_shape_c7.eq_1
def C.conf_shape_r5_b : List IOper := [
 X.o 13 (.bin .eql (X.s 4) (.cst (.int .u8 100))),
 X.m 11 13]
def C.conf_shape_r5 : List IOper := C.conf_shape_r5_b
def C.conf_shape_r5_w := @aopsE _ _ C.conf_shape_r5.eq_1
def C.conf_shape_c8 : ICode := .seq (.region C.conf_shape_r5) C.conf_shape_c7
def C.conf_shape_c8_w := @awpE _ _ C.conf_shape_c8.eq_1
def C.conf_shape_c9 : ICode := .keep [1, 4, 11] (.cond (X.s 11) .skip C.conf_shape_c8)
def C.conf_shape_c9_w := @awpE _ _ C.conf_shape_c9.eq_1
def C.conf_shape_r4_b : List IOper := [
 X.o 12 (.bin .eql (X.s 4) (.cst (.int .u8 112))),
 X.m 11 12]
def C.conf_shape_r4 : List IOper := C.conf_shape_r4_b
def C.conf_shape_r4_w := @aopsE _ _ C.conf_shape_r4.eq_1
def C.conf_shape_c10 : ICode := .seq (.region C.conf_shape_r3) .ret
def C.conf_shape_c10_w := @awpE _ _ C.conf_shape_c10.eq_1
def C.conf_shape_c11 : ICode := .seq (.seq (.region C.conf_shape_r4) C.conf_shape_c9) C.conf_shape_c6
def C.conf_shape_c11_w := @awpE _ _ C.conf_shape_c11.eq_1
def C.conf_shape_c12 : ICode := .keep [1, 4, 5] (.cond (X.s 5) C.conf_shape_c10 C.conf_shape_c11)
def C.conf_shape_c12_w := @awpE _ _ C.conf_shape_c12.eq_1
def C.conf_shape_r2_b : List IOper := [
 X.o 6 (.bin .eql (X.s 4) (.cst (.int .u8 111))),
 X.m 5 6]
def C.conf_shape_r2 : List IOper := C.conf_shape_r2_b
def C.conf_shape_r2_w := @aopsE _ _ C.conf_shape_r2.eq_1
def C.conf_shape_b13 : ICode := .seq (.region C.conf_shape_r2) C.conf_shape_c12
def C.conf_shape_b13_w := @awpE _ _ C.conf_shape_b13.eq_1
def C.conf_shape_c14 : ICode := .keep [1, 4] (.block 0 C.conf_shape_b13)
def C.conf_shape_c14_w := @awpE _ _ C.conf_shape_c14.eq_1
def C.conf_shape_r1_b : List IOper := [
 X.o 3 (.fldAddr 0 (X.s 1)),
 X.o 4 (.load1 (X.s 3))]
def C.conf_shape_r1 : List IOper := C.conf_shape_r1_b
def C.conf_shape_r1_w := @aopsE _ _ C.conf_shape_r1.eq_1
def C.conf_shape_c15 : ICode := .keep [1] (.seq (.seq (.region C.conf_shape_r1) C.conf_shape_c14) C.conf_shape_c1)
def C.conf_shape_c15_w := @awpE _ _ C.conf_shape_c15.eq_1
def C.conf_shape_r0_b : List IOper := [
 X.o 1 (.boxN (X.s 0)),
 X.o 2 (.move (.cst (.bool false)))]
def C.conf_shape_r0 : List IOper := C.conf_shape_r0_b
def C.conf_shape_r0_w := @aopsE _ _ C.conf_shape_r0.eq_1
def C.conf_shape : IFunc := ⟨1, [.slot 2], .seq (.region C.conf_shape_r0) C.conf_shape_c15⟩
def C.conf_shape_W := And.intro (And.intro (And.intro (And.intro @C.conf_shape_r10_w (And.intro @C.conf_shape_c1_w @C.conf_shape_r3_w)) (And.intro @C.conf_shape_r7_w (And.intro @C.conf_shape_r9_w @C.conf_shape_c2_w))) (And.intro (And.intro @C.conf_shape_c3_w (And.intro @C.conf_shape_r8_w @C.conf_shape_c4_w)) (And.intro (And.intro @C.conf_shape_c5_w @C.conf_shape_c6_w) (And.intro @C.conf_shape_r6_w @C.conf_shape_c7_w)))) (And.intro (And.intro (And.intro @C.conf_shape_r5_w (And.intro @C.conf_shape_c8_w @C.conf_shape_c9_w)) (And.intro @C.conf_shape_r4_w (And.intro @C.conf_shape_c10_w @C.conf_shape_c11_w))) (And.intro (And.intro @C.conf_shape_c12_w (And.intro @C.conf_shape_r2_w @C.conf_shape_b13_w)) (And.intro (And.intro @C.conf_shape_c14_w @C.conf_shape_r1_w) (And.intro @C.conf_shape_c15_w @C.conf_shape_r0_w))))
def C.conf_shape_B := And.intro (And.intro (And.intro @C.conf_shape_r10_b.eq_1 @C.conf_shape_r3_b.eq_1) (And.intro @C.conf_shape_r7_b.eq_1 (And.intro @C.conf_shape_r9_b.eq_1 @C.conf_shape_r8_b.eq_1))) (And.intro (And.intro @C.conf_shape_r6_b.eq_1 (And.intro @C.conf_shape_r5_b.eq_1 @C.conf_shape_r4_b.eq_1)) (And.intro @C.conf_shape_r2_b.eq_1 (And.intro @C.conf_shape_r1_b.eq_1 @C.conf_shape_r0_b.eq_1)))

def C.conf_clock_2_r1_b : List IOper := [
 X.o 3 (.fldAddr 1 (X.s 0)),
 X.o 4 (.load1 (X.s 3)),
 X.o 5 (.makeFunc F.conf_clock_2_1 [X.s 1]),
 X.o 6 (.call F.conf_each_int [X.s 4, X.s 5]),
 X.m 2 6]
def C.conf_clock_2_r1 : List IOper := C.conf_clock_2_r1_b
def C.conf_clock_2_r1_w := @aopsE _ _ C.conf_clock_2_r1.eq_1
def C.conf_clock_2_c1 : ICode := .keep [0, 1] (.seq (.region C.conf_clock_2_r1) .ret)
def C.conf_clock_2_c1_w := @awpE _ _ C.conf_clock_2_c1.eq_1
def C.conf_clock_2_r0_b : List IOper := [
 X.o 2 (.move (X.i 0))]
def C.conf_clock_2_r0 : List IOper := C.conf_clock_2_r0_b
def C.conf_clock_2_r0_w := @aopsE _ _ C.conf_clock_2_r0.eq_1
def C.conf_clock_2 : IFunc := ⟨2, [.slot 2], .seq (.region C.conf_clock_2_r0) C.conf_clock_2_c1⟩
def C.conf_clock_2_W := And.intro @C.conf_clock_2_r1_w (And.intro @C.conf_clock_2_c1_w @C.conf_clock_2_r0_w)
def C.conf_clock_2_B := And.intro @C.conf_clock_2_r1_b.eq_1 @C.conf_clock_2_r0_b.eq_1

def C.conf_each_int_r8_b : List IOper := [
 X.o 4 (.move (X.i 0))]
def C.conf_each_int_r8 : List IOper := C.conf_each_int_r8_b
def C.conf_each_int_r8_w := @aopsE _ _ C.conf_each_int_r8.eq_1
def C.conf_each_int_c1 : ICode := .keep [] (.seq (.region C.conf_each_int_r8) .ret)
def C.conf_each_int_c1_w := @awpE _ _ C.conf_each_int_c1.eq_1
def C.conf_each_int_r7_b : List IOper := [
 X.o 20 (.bin .add (X.s 10) (X.i 1)),
 X.m 10 20]
def C.conf_each_int_r7 : List IOper := C.conf_each_int_r7_b
def C.conf_each_int_r7_w := @aopsE _ _ C.conf_each_int_r7.eq_1
def C.conf_each_int_c2 : ICode := .keep [1, 8, 9, 10] (.region C.conf_each_int_r7)
def C.conf_each_int_c2_w := @awpE _ _ C.conf_each_int_c2.eq_1
def C.conf_each_int_r6_b : List IOper := [
 X.m 19 7,
 X.m 4 19]
def C.conf_each_int_r6 : List IOper := C.conf_each_int_r6_b
def C.conf_each_int_r6_w := @aopsE _ _ C.conf_each_int_r6.eq_1
def C.conf_each_int_c3 : ICode := .seq (.region C.conf_each_int_r6) .ret
def C.conf_each_int_c3_w := @awpE _ _ C.conf_each_int_c3.eq_1
def C.conf_each_int_c4 : ICode := .keep [1, 7, 8, 9, 10, 18] (.cond (X.s 18) C.conf_each_int_c3 .skip)
def C.conf_each_int_c4_w := @awpE _ _ C.conf_each_int_c4.eq_1
def C.conf_each_int_r5_b : List IOper := [
 X.m 17 7,
 X.o 18 (.bin .neq (X.s 17) (X.i 0))]
def C.conf_each_int_r5 : List IOper := C.conf_each_int_r5_b
def C.conf_each_int_r5_w := @aopsE _ _ C.conf_each_int_r5.eq_1
def C.conf_each_int_c5 : ICode := .keep [1, 7, 8, 9, 10] (.seq (.region C.conf_each_int_r5) C.conf_each_int_c4)
def C.conf_each_int_c5_w := @awpE _ _ C.conf_each_int_c5.eq_1
def C.conf_each_int_r4_b : List IOper := [
 X.m 14 1,
 X.m 15 6,
 X.o 16 (.callv (X.s 14) [X.s 15]),
 X.m 7 16]
def C.conf_each_int_r4 : List IOper := C.conf_each_int_r4_b
def C.conf_each_int_r4_w := @aopsE _ _ C.conf_each_int_r4.eq_1
def C.conf_each_int_c6 : ICode := .keep [1, 6, 8, 9, 10] (.seq (.region C.conf_each_int_r4) C.conf_each_int_c5)
def C.conf_each_int_c6_w := @awpE _ _ C.conf_each_int_c6.eq_1
def C.conf_each_int_r3_b : List IOper := [
 X.o 12 (.idxAddr 1 (X.s 8) (X.s 10)),
 X.o 13 (.load1 (X.s 12)),
 X.m 6 13]
def C.conf_each_int_r3 : List IOper := C.conf_each_int_r3_b
def C.conf_each_int_r3_w := @aopsE _ _ C.conf_each_int_r3.eq_1
def C.conf_each_int_b7 : ICode := .seq (.region C.conf_each_int_r3) C.conf_each_int_c6
def C.conf_each_int_b7_w := @awpE _ _ C.conf_each_int_b7.eq_1
def C.conf_each_int_c8 : ICode := .keep [1, 8, 9, 10] (.seq (.block 1 C.conf_each_int_b7) C.conf_each_int_c2)
def C.conf_each_int_c8_w := @awpE _ _ C.conf_each_int_c8.eq_1
def C.conf_each_int_c9 : ICode := .keep [1, 8, 9, 10, 11] (.seq (.cond (X.s 11) .skip (.exit 0)) C.conf_each_int_c8)
def C.conf_each_int_c9_w := @awpE _ _ C.conf_each_int_c9.eq_1
def C.conf_each_int_r2_b : List IOper := [
 X.o 11 (.bin .lss (X.s 10) (X.s 9))]
def C.conf_each_int_r2 : List IOper := C.conf_each_int_r2_b
def C.conf_each_int_r2_w := @aopsE _ _ C.conf_each_int_r2.eq_1
def C.conf_each_int_l10 : ICode := .keep [1, 8, 9, 10] (.seq (.region C.conf_each_int_r2) C.conf_each_int_c9)
def C.conf_each_int_l10_w := @awpE _ _ C.conf_each_int_l10.eq_1
def C.conf_each_int_b11 : ICode := .loop C.conf_each_int_l10
def C.conf_each_int_b11_w := @awpE _ _ C.conf_each_int_b11.eq_1
def C.conf_each_int_c12 : ICode := .keep [1, 8, 9, 10] (.block 0 C.conf_each_int_b11)
def C.conf_each_int_c12_w := @awpE _ _ C.conf_each_int_c12.eq_1
def C.conf_each_int_r1_b : List IOper := [
 X.m 8 0,
 X.o 9 (.len (X.s 8)),
 X.o 10 (.move (X.i 0))]
def C.conf_each_int_r1 : List IOper := C.conf_each_int_r1_b
def C.conf_each_int_r1_w := @aopsE _ _ C.conf_each_int_r1.eq_1
def C.conf_each_int_c13 : ICode := .keep [0, 1] (.seq (.seq (.region C.conf_each_int_r1) C.conf_each_int_c12) C.conf_each_int_c1)
def C.conf_each_int_c13_w := @awpE _ _ C.conf_each_int_c13.eq_1
def C.conf_each_int_r0_b : List IOper := [
 X.o 4 (.move (X.i 0))]
def C.conf_each_int_r0 : List IOper := C.conf_each_int_r0_b
def C.conf_each_int_r0_w := @aopsE _ _ C.conf_each_int_r0.eq_1
def C.conf_each_int : IFunc := ⟨2, [.slot 4], .seq (.region C.conf_each_int_r0) C.conf_each_int_c13⟩
def C.conf_each_int_W := And.intro (And.intro (And.intro (And.intro @C.conf_each_int_r8_w @C.conf_each_int_c1_w) (And.intro @C.conf_each_int_r7_w (And.intro @C.conf_each_int_c2_w @C.conf_each_int_r6_w))) (And.intro (And.intro @C.conf_each_int_c3_w @C.conf_each_int_c4_w) (And.intro @C.conf_each_int_r5_w (And.intro @C.conf_each_int_c5_w @C.conf_each_int_r4_w)))) (And.intro (And.intro (And.intro @C.conf_each_int_c6_w @C.conf_each_int_r3_w) (And.intro @C.conf_each_int_b7_w (And.intro @C.conf_each_int_c8_w @C.conf_each_int_c9_w))) (And.intro (And.intro @C.conf_each_int_r2_w (And.intro @C.conf_each_int_b11_w @C.conf_each_int_c12_w)) (And.intro @C.conf_each_int_r1_w (And.intro @C.conf_each_int_c13_w @C.conf_each_int_r0_w))))
def C.conf_each_int_B := And.intro (And.intro (And.intro @C.conf_each_int_r8_b.eq_1 @C.conf_each_int_r7_b.eq_1) (And.intro @C.conf_each_int_r6_b.eq_1 @C.conf_each_int_r5_b.eq_1)) (And.intro (And.intro @C.conf_each_int_r4_b.eq_1 @C.conf_each_int_r3_b.eq_1) (And.intro @C.conf_each_int_r2_b.eq_1 (And.intro @C.conf_each_int_r1_b.eq_1 @C.conf_each_int_r0_b.eq_1)))

def C.conf_clock_2_1_r1_b : List IOper := [
 X.m 4 0,
 X.o 5 (.fldAddr 0 (X.s 1)),
 X.o 6 (.load1 (X.s 5)),
 X.o 7 (.len (X.s 6)),
 X.o 8 (.bin .sub (X.s 7) (X.i 1)),
 X.o 9 (.call F.conf_within [X.s 4, X.i 0, X.s 8]),
 X.o 10 (.un .not (X.s 9)),
 X.o 11 (.call F.conf_when [X.s 10, X.i 4]),
 X.m 3 11]
def C.conf_clock_2_1_r1 : List IOper := C.conf_clock_2_1_r1_b
def C.conf_clock_2_1_r1_w := @aopsE _ _ C.conf_clock_2_1_r1.eq_1
def C.conf_clock_2_1_c1 : ICode := .keep [0, 1] (.seq (.region C.conf_clock_2_1_r1) .ret)
def C.conf_clock_2_1_c1_w := @awpE _ _ C.conf_clock_2_1_c1.eq_1
def C.conf_clock_2_1_r0_b : List IOper := [
 X.o 3 (.move (X.i 0))]
def C.conf_clock_2_1_r0 : List IOper := C.conf_clock_2_1_r0_b
def C.conf_clock_2_1_r0_w := @aopsE _ _ C.conf_clock_2_1_r0.eq_1
def C.conf_clock_2_1 : IFunc := ⟨2, [.slot 3], .seq (.region C.conf_clock_2_1_r0) C.conf_clock_2_1_c1⟩
def C.conf_clock_2_1_W := And.intro @C.conf_clock_2_1_r1_w (And.intro @C.conf_clock_2_1_c1_w @C.conf_clock_2_1_r0_w)
def C.conf_clock_2_1_B := And.intro @C.conf_clock_2_1_r1_b.eq_1 @C.conf_clock_2_1_r0_b.eq_1

def C.conf_within_r1_b : List IOper := [
 X.m 7 0,
 X.m 8 1,
 X.o 9 (.bin .geq (X.s 7) (X.s 8)),
 X.m 10 9,
 X.t 10 11 (.move (X.s 0)),
 X.t 10 12 (.move (X.s 2)),
 X.t 10 13 (.bin .leq (X.s 11) (X.s 12)),
 X.o 14 (.pick (X.s 10) (X.s 13) (.cst (.bool false))),
 X.m 6 14]
def C.conf_within_r1 : List IOper := C.conf_within_r1_b
def C.conf_within_r1_w := @aopsE _ _ C.conf_within_r1.eq_1
def C.conf_within_c1 : ICode := .keep [0, 1, 2] (.seq (.region C.conf_within_r1) .ret)
def C.conf_within_c1_w := @awpE _ _ C.conf_within_c1.eq_1
def C.conf_within_r0_b : List IOper := [
 X.o 6 (.move (.cst (.bool false)))]
def C.conf_within_r0 : List IOper := C.conf_within_r0_b
def C.conf_within_r0_w := @aopsE _ _ C.conf_within_r0.eq_1
def C.conf_within : IFunc := ⟨3, [.slot 6], .seq (.region C.conf_within_r0) C.conf_within_c1⟩
def C.conf_within_W := And.intro @C.conf_within_r1_w (And.intro @C.conf_within_c1_w @C.conf_within_r0_w)
def C.conf_within_B := And.intro @C.conf_within_r1_b.eq_1 @C.conf_within_r0_b.eq_1

def C.conf_clock_3_r1_b : List IOper := [
 X.o 2 (.loadN 6 (X.s 0)),
 X.o 3 (.call F.conf_numbers [X.s 2]),
 X.o 4 (.un .not (X.s 3)),
 X.o 5 (.call F.conf_when [X.s 4, X.i 3]),
 X.m 1 5]
def C.conf_clock_3_r1 : List IOper := C.conf_clock_3_r1_b
def C.conf_clock_3_r1_w := @aopsE _ _ C.conf_clock_3_r1.eq_1
def C.conf_clock_3_c1 : ICode := .keep [0] (.seq (.region C.conf_clock_3_r1) .ret)
def C.conf_clock_3_c1_w := @awpE _ _ C.conf_clock_3_c1.eq_1
def C.conf_clock_3_r0_b : List IOper := [
 X.o 1 (.move (X.i 0))]
def C.conf_clock_3_r0 : List IOper := C.conf_clock_3_r0_b
def C.conf_clock_3_r0_w := @aopsE _ _ C.conf_clock_3_r0.eq_1
def C.conf_clock_3 : IFunc := ⟨1, [.slot 1], .seq (.region C.conf_clock_3_r0) C.conf_clock_3_c1⟩
def C.conf_clock_3_W := And.intro @C.conf_clock_3_r1_w (And.intro @C.conf_clock_3_c1_w @C.conf_clock_3_r0_w)
def C.conf_clock_3_B := And.intro @C.conf_clock_3_r1_b.eq_1 @C.conf_clock_3_r0_b.eq_1

def C.conf_numbers_r8_b : List IOper := [
 X.o 2 (.move (.cst (.bool true)))]
def C.conf_numbers_r8 : List IOper := C.conf_numbers_r8_b
def C.conf_numbers_r8_w := @aopsE _ _ C.conf_numbers_r8.eq_1
def C.conf_numbers_c1 : ICode := .keep [] (.seq (.region C.conf_numbers_r8) .ret)
def C.conf_numbers_c1_w := @awpE _ _ C.conf_numbers_c1.eq_1
def C.conf_numbers_r3_b : List IOper := [
 X.o 7 (.fldAddr 2 (X.s 1)),
 X.o 8 (.load1 (X.s 7)),
 X.o 9 (.bin .geq (X.s 8) (.cst (.int .u64 1))),
 X.m 10 9,
 X.t 10 11 (.fldAddr 2 (X.s 1)),
 X.t 10 12 (.load1 (X.s 11)),
 X.t 10 13 (.bin .leq (X.s 12) (.cst (.int .u64 1099511627776))),
 X.o 14 (.pick (X.s 10) (X.s 13) (.cst (.bool false))),
 X.m 2 14]
def C.conf_numbers_r3 : List IOper := C.conf_numbers_r3_b
def C.conf_numbers_r3_w := @aopsE _ _ C.conf_numbers_r3.eq_1
def C.conf_numbers_r5_b : List IOper := [
 X.o 17 (.fldAddr 3 (X.s 1)),
 X.o 18 (.load1 (X.s 17)),
 X.o 19 (.call F.conf_within [X.s 18, X.i 1, X.i 1000]),
 X.m 20 19,
 X.t 20 21 (.fldAddr 4 (X.s 1)),
 X.t 20 22 (.load1 (X.s 21)),
 X.t 20 23 (.call F.conf_within [X.s 22, X.i 1, X.i 1000]),
 X.o 24 (.pick (X.s 20) (X.s 23) (.cst (.bool false))),
 X.m 25 24,
 X.t 25 26 (.fldAddr 5 (X.s 1)),
 X.t 25 27 (.load1 (X.s 26)),
 X.t 25 28 (.call F.conf_within [X.s 27, X.i 0, X.i 20]),
 X.o 29 (.pick (X.s 25) (X.s 28) (.cst (.bool false))),
 X.m 2 29]
def C.conf_numbers_r5 : List IOper := C.conf_numbers_r5_b
def C.conf_numbers_r5_w := @aopsE _ _ C.conf_numbers_r5.eq_1
def C.conf_numbers_r7_b : List IOper := [
 X.o 32 (.fldAddr 4 (X.s 1)),
 X.o 33 (.load1 (X.s 32)),
 X.o 34 (.call F.conf_within [X.s 33, X.i 1, X.i 1000]),
 X.m 2 34]
def C.conf_numbers_r7 : List IOper := C.conf_numbers_r7_b
def C.conf_numbers_r7_w := @aopsE _ _ C.conf_numbers_r7.eq_1
def C.conf_numbers_c2 : ICode := .seq (.region C.conf_numbers_r7) .ret
def C.conf_numbers_c2_w := @awpE _ _ C.conf_numbers_c2.eq_1
def C.conf_numbers_c3 : ICode := .keep [1, 30] (.cond (X.s 30) C.conf_numbers_c2 .skip)
def C.conf_numbers_c3_w := @awpE _ _ C.conf_numbers_c3.eq_1
def C.conf_numbers_r6_b : List IOper := [
 X.o 31 (.bin .eql (X.s 4) (.cst (.int .u8 100))),
 X.m 30 31]
def C.conf_numbers_r6 : List IOper := C.conf_numbers_r6_b
def C.conf_numbers_r6_w := @aopsE _ _ C.conf_numbers_r6.eq_1
def C.conf_numbers_c4 : ICode := .seq (.region C.conf_numbers_r5) .ret
def C.conf_numbers_c4_w := @awpE _ _ C.conf_numbers_c4.eq_1
def C.conf_numbers_c5 : ICode := .seq (.region C.conf_numbers_r6) C.conf_numbers_c3
def C.conf_numbers_c5_w := @awpE _ _ C.conf_numbers_c5.eq_1
def C.conf_numbers_c6 : ICode := .keep [1, 4, 15] (.cond (X.s 15) C.conf_numbers_c4 C.conf_numbers_c5)
def C.conf_numbers_c6_w := @awpE _ _ C.conf_numbers_c6.eq_1
def C.conf_numbers_r4_b : List IOper := [
 X.o 16 (.bin .eql (X.s 4) (.cst (.int .u8 112))),
 X.m 15 16]
def C.conf_numbers_r4 : List IOper := C.conf_numbers_r4_b
def C.conf_numbers_r4_w := @aopsE _ _ C.conf_numbers_r4.eq_1
def C.conf_numbers_c7 : ICode := .seq (.region C.conf_numbers_r3) .ret
def C.conf_numbers_c7_w := @awpE _ _ C.conf_numbers_c7.eq_1
def C.conf_numbers_c8 : ICode := .seq (.region C.conf_numbers_r4) C.conf_numbers_c6
def C.conf_numbers_c8_w := @awpE _ _ C.conf_numbers_c8.eq_1
def C.conf_numbers_c9 : ICode := .keep [1, 4, 5] (.cond (X.s 5) C.conf_numbers_c7 C.conf_numbers_c8)
def C.conf_numbers_c9_w := @awpE _ _ C.conf_numbers_c9.eq_1
def C.conf_numbers_r2_b : List IOper := [
 X.o 6 (.bin .eql (X.s 4) (.cst (.int .u8 111))),
 X.m 5 6]
def C.conf_numbers_r2 : List IOper := C.conf_numbers_r2_b
def C.conf_numbers_r2_w := @aopsE _ _ C.conf_numbers_r2.eq_1
def C.conf_numbers_b10 : ICode := .seq (.region C.conf_numbers_r2) C.conf_numbers_c9
def C.conf_numbers_b10_w := @awpE _ _ C.conf_numbers_b10.eq_1
def C.conf_numbers_c11 : ICode := .keep [1, 4] (.block 0 C.conf_numbers_b10)
def C.conf_numbers_c11_w := @awpE _ _ C.conf_numbers_c11.eq_1
def C.conf_numbers_r1_b : List IOper := [
 X.o 3 (.fldAddr 0 (X.s 1)),
 X.o 4 (.load1 (X.s 3))]
def C.conf_numbers_r1 : List IOper := C.conf_numbers_r1_b
def C.conf_numbers_r1_w := @aopsE _ _ C.conf_numbers_r1.eq_1
def C.conf_numbers_c12 : ICode := .keep [1] (.seq (.seq (.region C.conf_numbers_r1) C.conf_numbers_c11) C.conf_numbers_c1)
def C.conf_numbers_c12_w := @awpE _ _ C.conf_numbers_c12.eq_1
def C.conf_numbers_r0_b : List IOper := [
 X.o 1 (.boxN (X.s 0)),
 X.o 2 (.move (.cst (.bool false)))]
def C.conf_numbers_r0 : List IOper := C.conf_numbers_r0_b
def C.conf_numbers_r0_w := @aopsE _ _ C.conf_numbers_r0.eq_1
def C.conf_numbers : IFunc := ⟨1, [.slot 2], .seq (.region C.conf_numbers_r0) C.conf_numbers_c12⟩
def C.conf_numbers_W := And.intro (And.intro (And.intro (And.intro @C.conf_numbers_r8_w @C.conf_numbers_c1_w) (And.intro @C.conf_numbers_r3_w (And.intro @C.conf_numbers_r5_w @C.conf_numbers_r7_w))) (And.intro (And.intro @C.conf_numbers_c2_w @C.conf_numbers_c3_w) (And.intro @C.conf_numbers_r6_w (And.intro @C.conf_numbers_c4_w @C.conf_numbers_c5_w)))) (And.intro (And.intro (And.intro @C.conf_numbers_c6_w @C.conf_numbers_r4_w) (And.intro @C.conf_numbers_c7_w (And.intro @C.conf_numbers_c8_w @C.conf_numbers_c9_w))) (And.intro (And.intro @C.conf_numbers_r2_w (And.intro @C.conf_numbers_b10_w @C.conf_numbers_c11_w)) (And.intro @C.conf_numbers_r1_w (And.intro @C.conf_numbers_c12_w @C.conf_numbers_r0_w))))
def C.conf_numbers_B := And.intro (And.intro (And.intro @C.conf_numbers_r8_b.eq_1 @C.conf_numbers_r3_b.eq_1) (And.intro @C.conf_numbers_r5_b.eq_1 @C.conf_numbers_r7_b.eq_1)) (And.intro (And.intro @C.conf_numbers_r6_b.eq_1 @C.conf_numbers_r4_b.eq_1) (And.intro @C.conf_numbers_r2_b.eq_1 (And.intro @C.conf_numbers_r1_b.eq_1 @C.conf_numbers_r0_b.eq_1)))

def C.graph_Check_r2_b : List IOper := [
 X.m 10 4,
 X.m 2 10]
def C.graph_Check_r2 : List IOper := C.graph_Check_r2_b
def C.graph_Check_r2_w := @aopsE _ _ C.graph_Check_r2.eq_1
def C.graph_Check_c1 : ICode := .keep [4] (.seq (.region C.graph_Check_r2) .ret)
def C.graph_Check_c1_w := @awpE _ _ C.graph_Check_c1.eq_1
def C.graph_Check_r1_b : List IOper := [
 X.m 6 0,
 X.o 7 (.call F.graph_Order [X.s 6]),
 X.m 5 7,
 X.o 8 (.extract (X.s 5) 0),
 X.o 9 (.extract (X.s 5) 1),
 X.m 3 8,
 X.m 4 9]
def C.graph_Check_r1 : List IOper := C.graph_Check_r1_b
def C.graph_Check_r1_w := @aopsE _ _ C.graph_Check_r1.eq_1
def C.graph_Check_c2 : ICode := .keep [0] (.seq (.region C.graph_Check_r1) C.graph_Check_c1)
def C.graph_Check_c2_w := @awpE _ _ C.graph_Check_c2.eq_1
def C.graph_Check_r0_b : List IOper := [
 X.o 2 (.move (X.i 0))]
def C.graph_Check_r0 : List IOper := C.graph_Check_r0_b
def C.graph_Check_r0_w := @aopsE _ _ C.graph_Check_r0.eq_1
def C.graph_Check : IFunc := ⟨1, [.slot 2], .seq (.region C.graph_Check_r0) C.graph_Check_c2⟩
def C.graph_Check_W := And.intro (And.intro @C.graph_Check_r2_w @C.graph_Check_c1_w) (And.intro @C.graph_Check_r1_w (And.intro @C.graph_Check_c2_w @C.graph_Check_r0_w))
def C.graph_Check_B := And.intro @C.graph_Check_r2_b.eq_1 (And.intro @C.graph_Check_r1_b.eq_1 @C.graph_Check_r0_b.eq_1)

def C.conf_domain_1_r1_b : List IOper := [
 X.o 3 (.fldAddr 0 (X.s 0)),
 X.o 4 (.load1 (X.s 3)),
 X.o 5 (.bin .neq (X.s 4) (X.i (-1))),
 X.m 6 5,
 X.t 6 7 (.fldAddr 0 (X.s 0)),
 X.t 6 8 (.load1 (X.s 7)),
 X.t 6 9 (.fldAddr 1 (X.s 1)),
 X.t 6 10 (.load1 (X.s 9)),
 X.t 6 11 (.len (X.s 10)),
 X.t 6 12 (.bin .sub (X.s 11) (X.i 1)),
 X.t 6 13 (.call F.conf_within [X.s 8, X.i 0, X.s 12]),
 X.t 6 14 (.un .not (X.s 13)),
 X.o 15 (.pick (X.s 6) (X.s 14) (.cst (.bool false))),
 X.o 16 (.call F.conf_when [X.s 15, X.i 4]),
 X.m 2 16]
def C.conf_domain_1_r1 : List IOper := C.conf_domain_1_r1_b
def C.conf_domain_1_r1_w := @aopsE _ _ C.conf_domain_1_r1.eq_1
def C.conf_domain_1_c1 : ICode := .keep [0, 1] (.seq (.region C.conf_domain_1_r1) .ret)
def C.conf_domain_1_c1_w := @awpE _ _ C.conf_domain_1_c1.eq_1
def C.conf_domain_1_r0_b : List IOper := [
 X.o 2 (.move (X.i 0))]
def C.conf_domain_1_r0 : List IOper := C.conf_domain_1_r0_b
def C.conf_domain_1_r0_w := @aopsE _ _ C.conf_domain_1_r0.eq_1
def C.conf_domain_1 : IFunc := ⟨2, [.slot 2], .seq (.region C.conf_domain_1_r0) C.conf_domain_1_c1⟩
def C.conf_domain_1_W := And.intro @C.conf_domain_1_r1_w (And.intro @C.conf_domain_1_c1_w @C.conf_domain_1_r0_w)
def C.conf_domain_1_B := And.intro @C.conf_domain_1_r1_b.eq_1 @C.conf_domain_1_r0_b.eq_1

def C.conf_domain_2_r1_b : List IOper := [
 X.o 2 (.fldAddr 1 (X.s 0)),
 X.o 3 (.load1 (X.s 2)),
 X.o 4 (.call F.conf_within [X.s 3, X.i 0, X.i 20]),
 X.o 5 (.un .not (X.s 4)),
 X.o 6 (.call F.conf_when [X.s 5, X.i 3]),
 X.m 1 6]
def C.conf_domain_2_r1 : List IOper := C.conf_domain_2_r1_b
def C.conf_domain_2_r1_w := @aopsE _ _ C.conf_domain_2_r1.eq_1
def C.conf_domain_2_c1 : ICode := .keep [0] (.seq (.region C.conf_domain_2_r1) .ret)
def C.conf_domain_2_c1_w := @awpE _ _ C.conf_domain_2_c1.eq_1
def C.conf_domain_2_r0_b : List IOper := [
 X.o 1 (.move (X.i 0))]
def C.conf_domain_2_r0 : List IOper := C.conf_domain_2_r0_b
def C.conf_domain_2_r0_w := @aopsE _ _ C.conf_domain_2_r0.eq_1
def C.conf_domain_2 : IFunc := ⟨1, [.slot 1], .seq (.region C.conf_domain_2_r0) C.conf_domain_2_c1⟩
def C.conf_domain_2_W := And.intro @C.conf_domain_2_r1_w (And.intro @C.conf_domain_2_c1_w @C.conf_domain_2_r0_w)
def C.conf_domain_2_B := And.intro @C.conf_domain_2_r1_b.eq_1 @C.conf_domain_2_r0_b.eq_1

def C.conf_device_1_r1_b : List IOper := [
 X.o 3 (.fldAddr 0 (X.s 0)),
 X.o 4 (.load1 (X.s 3)),
 X.o 5 (.fldAddr 0 (X.s 1)),
 X.o 6 (.load1 (X.s 5)),
 X.o 7 (.len (X.s 6)),
 X.o 8 (.bin .sub (X.s 7) (X.i 1)),
 X.o 9 (.call F.conf_within [X.s 4, X.i 0, X.s 8]),
 X.o 10 (.un .not (X.s 9)),
 X.o 11 (.call F.conf_when [X.s 10, X.i 4]),
 X.m 2 11]
def C.conf_device_1_r1 : List IOper := C.conf_device_1_r1_b
def C.conf_device_1_r1_w := @aopsE _ _ C.conf_device_1_r1.eq_1
def C.conf_device_1_c1 : ICode := .keep [0, 1] (.seq (.region C.conf_device_1_r1) .ret)
def C.conf_device_1_c1_w := @awpE _ _ C.conf_device_1_c1.eq_1
def C.conf_device_1_r0_b : List IOper := [
 X.o 2 (.move (X.i 0))]
def C.conf_device_1_r0 : List IOper := C.conf_device_1_r0_b
def C.conf_device_1_r0_w := @aopsE _ _ C.conf_device_1_r0.eq_1
def C.conf_device_1 : IFunc := ⟨2, [.slot 2], .seq (.region C.conf_device_1_r0) C.conf_device_1_c1⟩
def C.conf_device_1_W := And.intro @C.conf_device_1_r1_w (And.intro @C.conf_device_1_c1_w @C.conf_device_1_r0_w)
def C.conf_device_1_B := And.intro @C.conf_device_1_r1_b.eq_1 @C.conf_device_1_r0_b.eq_1

def C.conf_device_2_r1_b : List IOper := [
 X.o 3 (.fldAddr 1 (X.s 0)),
 X.o 4 (.load1 (X.s 3)),
 X.o 5 (.fldAddr 1 (X.s 1)),
 X.o 6 (.load1 (X.s 5)),
 X.o 7 (.len (X.s 6)),
 X.o 8 (.bin .sub (X.s 7) (X.i 1)),
 X.o 9 (.call F.conf_within [X.s 4, X.i 0, X.s 8]),
 X.o 10 (.un .not (X.s 9)),
 X.o 11 (.call F.conf_when [X.s 10, X.i 4]),
 X.m 2 11]
def C.conf_device_2_r1 : List IOper := C.conf_device_2_r1_b
def C.conf_device_2_r1_w := @aopsE _ _ C.conf_device_2_r1.eq_1
def C.conf_device_2_c1 : ICode := .keep [0, 1] (.seq (.region C.conf_device_2_r1) .ret)
def C.conf_device_2_c1_w := @awpE _ _ C.conf_device_2_c1.eq_1
def C.conf_device_2_r0_b : List IOper := [
 X.o 2 (.move (X.i 0))]
def C.conf_device_2_r0 : List IOper := C.conf_device_2_r0_b
def C.conf_device_2_r0_w := @aopsE _ _ C.conf_device_2_r0.eq_1
def C.conf_device_2 : IFunc := ⟨2, [.slot 2], .seq (.region C.conf_device_2_r0) C.conf_device_2_c1⟩
def C.conf_device_2_W := And.intro @C.conf_device_2_r1_w (And.intro @C.conf_device_2_c1_w @C.conf_device_2_r0_w)
def C.conf_device_2_B := And.intro @C.conf_device_2_r1_b.eq_1 @C.conf_device_2_r0_b.eq_1

def C.conf_device_3_r1_b : List IOper := [
 X.o 3 (.fldAddr 2 (X.s 0)),
 X.o 4 (.load1 (X.s 3)),
 X.o 5 (.fldAddr 2 (X.s 1)),
 X.o 6 (.load1 (X.s 5)),
 X.o 7 (.len (X.s 6)),
 X.o 8 (.bin .sub (X.s 7) (X.i 1)),
 X.o 9 (.call F.conf_within [X.s 4, X.i 0, X.s 8]),
 X.o 10 (.un .not (X.s 9)),
 X.o 11 (.call F.conf_when [X.s 10, X.i 4]),
 X.m 2 11]
def C.conf_device_3_r1 : List IOper := C.conf_device_3_r1_b
def C.conf_device_3_r1_w := @aopsE _ _ C.conf_device_3_r1.eq_1
def C.conf_device_3_c1 : ICode := .keep [0, 1] (.seq (.region C.conf_device_3_r1) .ret)
def C.conf_device_3_c1_w := @awpE _ _ C.conf_device_3_c1.eq_1
def C.conf_device_3_r0_b : List IOper := [
 X.o 2 (.move (X.i 0))]
def C.conf_device_3_r0 : List IOper := C.conf_device_3_r0_b
def C.conf_device_3_r0_w := @aopsE _ _ C.conf_device_3_r0.eq_1
def C.conf_device_3 : IFunc := ⟨2, [.slot 2], .seq (.region C.conf_device_3_r0) C.conf_device_3_c1⟩
def C.conf_device_3_W := And.intro @C.conf_device_3_r1_w (And.intro @C.conf_device_3_c1_w @C.conf_device_3_r0_w)
def C.conf_device_3_B := And.intro @C.conf_device_3_r1_b.eq_1 @C.conf_device_3_r0_b.eq_1

def C.conf_device_4_r1_b : List IOper := [
 X.o 3 (.fldAddr 5 (X.s 0)),
 X.o 4 (.load1 (X.s 3)),
 X.o 5 (.makeFunc F.conf_device_4_1 [X.s 1]),
 X.o 6 (.call F.conf_each_int [X.s 4, X.s 5]),
 X.m 2 6]
def C.conf_device_4_r1 : List IOper := C.conf_device_4_r1_b
def C.conf_device_4_r1_w := @aopsE _ _ C.conf_device_4_r1.eq_1
def C.conf_device_4_c1 : ICode := .keep [0, 1] (.seq (.region C.conf_device_4_r1) .ret)
def C.conf_device_4_c1_w := @awpE _ _ C.conf_device_4_c1.eq_1
def C.conf_device_4_r0_b : List IOper := [
 X.o 2 (.move (X.i 0))]
def C.conf_device_4_r0 : List IOper := C.conf_device_4_r0_b
def C.conf_device_4_r0_w := @aopsE _ _ C.conf_device_4_r0.eq_1
def C.conf_device_4 : IFunc := ⟨2, [.slot 2], .seq (.region C.conf_device_4_r0) C.conf_device_4_c1⟩
def C.conf_device_4_W := And.intro @C.conf_device_4_r1_w (And.intro @C.conf_device_4_c1_w @C.conf_device_4_r0_w)
def C.conf_device_4_B := And.intro @C.conf_device_4_r1_b.eq_1 @C.conf_device_4_r0_b.eq_1

def C.conf_device_4_1_r1_b : List IOper := [
 X.m 4 0,
 X.o 5 (.fldAddr 3 (X.s 1)),
 X.o 6 (.load1 (X.s 5)),
 X.o 7 (.len (X.s 6)),
 X.o 8 (.bin .sub (X.s 7) (X.i 1)),
 X.o 9 (.call F.conf_within [X.s 4, X.i 0, X.s 8]),
 X.o 10 (.un .not (X.s 9)),
 X.o 11 (.call F.conf_when [X.s 10, X.i 4]),
 X.m 3 11]
def C.conf_device_4_1_r1 : List IOper := C.conf_device_4_1_r1_b
def C.conf_device_4_1_r1_w := @aopsE _ _ C.conf_device_4_1_r1.eq_1
def C.conf_device_4_1_c1 : ICode := .keep [0, 1] (.seq (.region C.conf_device_4_1_r1) .ret)
def C.conf_device_4_1_c1_w := @awpE _ _ C.conf_device_4_1_c1.eq_1
def C.conf_device_4_1_r0_b : List IOper := [
 X.o 3 (.move (X.i 0))]
def C.conf_device_4_1_r0 : List IOper := C.conf_device_4_1_r0_b
def C.conf_device_4_1_r0_w := @aopsE _ _ C.conf_device_4_1_r0.eq_1
def C.conf_device_4_1 : IFunc := ⟨2, [.slot 3], .seq (.region C.conf_device_4_1_r0) C.conf_device_4_1_c1⟩
def C.conf_device_4_1_W := And.intro @C.conf_device_4_1_r1_w (And.intro @C.conf_device_4_1_c1_w @C.conf_device_4_1_r0_w)
def C.conf_device_4_1_B := And.intro @C.conf_device_4_1_r1_b.eq_1 @C.conf_device_4_1_r0_b.eq_1

def C.slices_Equal_int_int_r9_b : List IOper := [
 X.o 4 (.move (.cst (.bool true)))]
def C.slices_Equal_int_int_r9 : List IOper := C.slices_Equal_int_int_r9_b
def C.slices_Equal_int_int_r9_w := @aopsE _ _ C.slices_Equal_int_int_r9.eq_1
def C.slices_Equal_int_int_c1 : ICode := .keep [] (.seq (.region C.slices_Equal_int_int_r9) .ret)
def C.slices_Equal_int_int_c1_w := @awpE _ _ C.slices_Equal_int_int_c1.eq_1
def C.slices_Equal_int_int_r8_b : List IOper := [
 X.o 25 (.bin .add (X.s 13) (X.i 1)),
 X.m 13 25]
def C.slices_Equal_int_int_r8 : List IOper := C.slices_Equal_int_int_r8_b
def C.slices_Equal_int_int_r8_w := @aopsE _ _ C.slices_Equal_int_int_r8.eq_1
def C.slices_Equal_int_int_c2 : ICode := .keep [0, 1, 12, 13] (.region C.slices_Equal_int_int_r8)
def C.slices_Equal_int_int_c2_w := @awpE _ _ C.slices_Equal_int_int_c2.eq_1
def C.slices_Equal_int_int_r7_b : List IOper := [
 X.o 4 (.move (.cst (.bool false)))]
def C.slices_Equal_int_int_r7 : List IOper := C.slices_Equal_int_int_r7_b
def C.slices_Equal_int_int_r7_w := @aopsE _ _ C.slices_Equal_int_int_r7.eq_1
def C.slices_Equal_int_int_c3 : ICode := .seq (.region C.slices_Equal_int_int_r7) .ret
def C.slices_Equal_int_int_c3_w := @awpE _ _ C.slices_Equal_int_int_c3.eq_1
def C.slices_Equal_int_int_c4 : ICode := .keep [0, 1, 12, 13, 24] (.cond (X.s 24) C.slices_Equal_int_int_c3 .skip)
def C.slices_Equal_int_int_c4_w := @awpE _ _ C.slices_Equal_int_int_c4.eq_1
def C.slices_Equal_int_int_r6_b : List IOper := [
 X.m 16 0,
 X.m 17 5,
 X.o 18 (.idxAddr 1 (X.s 16) (X.s 17)),
 X.o 19 (.load1 (X.s 18)),
 X.m 20 1,
 X.m 21 5,
 X.o 22 (.idxAddr 1 (X.s 20) (X.s 21)),
 X.o 23 (.load1 (X.s 22)),
 X.o 24 (.bin .neq (X.s 19) (X.s 23))]
def C.slices_Equal_int_int_r6 : List IOper := C.slices_Equal_int_int_r6_b
def C.slices_Equal_int_int_r6_w := @aopsE _ _ C.slices_Equal_int_int_r6.eq_1
def C.slices_Equal_int_int_c5 : ICode := .keep [0, 1, 5, 12, 13] (.seq (.region C.slices_Equal_int_int_r6) C.slices_Equal_int_int_c4)
def C.slices_Equal_int_int_c5_w := @awpE _ _ C.slices_Equal_int_int_c5.eq_1
def C.slices_Equal_int_int_r5_b : List IOper := [
 X.m 15 13,
 X.m 5 15]
def C.slices_Equal_int_int_r5 : List IOper := C.slices_Equal_int_int_r5_b
def C.slices_Equal_int_int_r5_w := @aopsE _ _ C.slices_Equal_int_int_r5.eq_1
def C.slices_Equal_int_int_b6 : ICode := .seq (.region C.slices_Equal_int_int_r5) C.slices_Equal_int_int_c5
def C.slices_Equal_int_int_b6_w := @awpE _ _ C.slices_Equal_int_int_b6.eq_1
def C.slices_Equal_int_int_c7 : ICode := .keep [0, 1, 12, 13] (.seq (.block 1 C.slices_Equal_int_int_b6) C.slices_Equal_int_int_c2)
def C.slices_Equal_int_int_c7_w := @awpE _ _ C.slices_Equal_int_int_c7.eq_1
def C.slices_Equal_int_int_c8 : ICode := .keep [0, 1, 12, 13, 14] (.seq (.cond (X.s 14) .skip (.exit 0)) C.slices_Equal_int_int_c7)
def C.slices_Equal_int_int_c8_w := @awpE _ _ C.slices_Equal_int_int_c8.eq_1
def C.slices_Equal_int_int_r4_b : List IOper := [
 X.o 14 (.bin .lss (X.s 13) (X.s 12))]
def C.slices_Equal_int_int_r4 : List IOper := C.slices_Equal_int_int_r4_b
def C.slices_Equal_int_int_r4_w := @aopsE _ _ C.slices_Equal_int_int_r4.eq_1
def C.slices_Equal_int_int_l9 : ICode := .keep [0, 1, 12, 13] (.seq (.region C.slices_Equal_int_int_r4) C.slices_Equal_int_int_c8)
def C.slices_Equal_int_int_l9_w := @awpE _ _ C.slices_Equal_int_int_l9.eq_1
def C.slices_Equal_int_int_b10 : ICode := .loop C.slices_Equal_int_int_l9
def C.slices_Equal_int_int_b10_w := @awpE _ _ C.slices_Equal_int_int_b10.eq_1
def C.slices_Equal_int_int_c11 : ICode := .keep [0, 1, 12, 13] (.block 0 C.slices_Equal_int_int_b10)
def C.slices_Equal_int_int_c11_w := @awpE _ _ C.slices_Equal_int_int_c11.eq_1
def C.slices_Equal_int_int_r3_b : List IOper := [
 X.m 11 0,
 X.o 12 (.len (X.s 11)),
 X.o 13 (.move (X.i 0))]
def C.slices_Equal_int_int_r3 : List IOper := C.slices_Equal_int_int_r3_b
def C.slices_Equal_int_int_r3_w := @aopsE _ _ C.slices_Equal_int_int_r3.eq_1
def C.slices_Equal_int_int_c12 : ICode := .keep [0, 1] (.seq (.seq (.region C.slices_Equal_int_int_r3) C.slices_Equal_int_int_c11) C.slices_Equal_int_int_c1)
def C.slices_Equal_int_int_c12_w := @awpE _ _ C.slices_Equal_int_int_c12.eq_1
def C.slices_Equal_int_int_r2_b : List IOper := [
 X.o 4 (.move (.cst (.bool false)))]
def C.slices_Equal_int_int_r2 : List IOper := C.slices_Equal_int_int_r2_b
def C.slices_Equal_int_int_r2_w := @aopsE _ _ C.slices_Equal_int_int_r2.eq_1
def C.slices_Equal_int_int_c13 : ICode := .seq (.region C.slices_Equal_int_int_r2) .ret
def C.slices_Equal_int_int_c13_w := @awpE _ _ C.slices_Equal_int_int_c13.eq_1
def C.slices_Equal_int_int_c14 : ICode := .keep [0, 1, 10] (.cond (X.s 10) C.slices_Equal_int_int_c13 .skip)
def C.slices_Equal_int_int_c14_w := @awpE _ _ C.slices_Equal_int_int_c14.eq_1
def C.slices_Equal_int_int_r1_b : List IOper := [
 X.m 6 0,
 X.o 7 (.len (X.s 6)),
 X.m 8 1,
 X.o 9 (.len (X.s 8)),
 X.o 10 (.bin .neq (X.s 7) (X.s 9))]
def C.slices_Equal_int_int_r1 : List IOper := C.slices_Equal_int_int_r1_b
def C.slices_Equal_int_int_r1_w := @aopsE _ _ C.slices_Equal_int_int_r1.eq_1
def C.slices_Equal_int_int_c15 : ICode := .keep [0, 1] (.seq (.seq (.region C.slices_Equal_int_int_r1) C.slices_Equal_int_int_c14) C.slices_Equal_int_int_c12)
def C.slices_Equal_int_int_c15_w := @awpE _ _ C.slices_Equal_int_int_c15.eq_1
def C.slices_Equal_int_int_r0_b : List IOper := [
 X.o 4 (.move (.cst (.bool false)))]
def C.slices_Equal_int_int_r0 : List IOper := C.slices_Equal_int_int_r0_b
def C.slices_Equal_int_int_r0_w := @aopsE _ _ C.slices_Equal_int_int_r0.eq_1
def C.slices_Equal_int_int : IFunc := ⟨2, [.slot 4], .seq (.region C.slices_Equal_int_int_r0) C.slices_Equal_int_int_c15⟩
def C.slices_Equal_int_int_W := And.intro (And.intro (And.intro (And.intro @C.slices_Equal_int_int_r9_w (And.intro @C.slices_Equal_int_int_c1_w @C.slices_Equal_int_int_r8_w)) (And.intro @C.slices_Equal_int_int_c2_w (And.intro @C.slices_Equal_int_int_r7_w @C.slices_Equal_int_int_c3_w))) (And.intro (And.intro @C.slices_Equal_int_int_c4_w (And.intro @C.slices_Equal_int_int_r6_w @C.slices_Equal_int_int_c5_w)) (And.intro @C.slices_Equal_int_int_r5_w (And.intro @C.slices_Equal_int_int_b6_w @C.slices_Equal_int_int_c7_w)))) (And.intro (And.intro (And.intro @C.slices_Equal_int_int_c8_w (And.intro @C.slices_Equal_int_int_r4_w @C.slices_Equal_int_int_b10_w)) (And.intro @C.slices_Equal_int_int_c11_w (And.intro @C.slices_Equal_int_int_r3_w @C.slices_Equal_int_int_c12_w))) (And.intro (And.intro @C.slices_Equal_int_int_r2_w (And.intro @C.slices_Equal_int_int_c13_w @C.slices_Equal_int_int_c14_w)) (And.intro @C.slices_Equal_int_int_r1_w (And.intro @C.slices_Equal_int_int_c15_w @C.slices_Equal_int_int_r0_w))))
def C.slices_Equal_int_int_B := And.intro (And.intro (And.intro @C.slices_Equal_int_int_r9_b.eq_1 @C.slices_Equal_int_int_r8_b.eq_1) (And.intro @C.slices_Equal_int_int_r7_b.eq_1 (And.intro @C.slices_Equal_int_int_r6_b.eq_1 @C.slices_Equal_int_int_r5_b.eq_1))) (And.intro (And.intro @C.slices_Equal_int_int_r4_b.eq_1 @C.slices_Equal_int_int_r3_b.eq_1) (And.intro @C.slices_Equal_int_int_r2_b.eq_1 (And.intro @C.slices_Equal_int_int_r1_b.eq_1 @C.slices_Equal_int_int_r0_b.eq_1)))

def C.slices_Equal_api_Reg_api_Reg_r9_b : List IOper := [
 X.o 4 (.move (.cst (.bool true)))]
def C.slices_Equal_api_Reg_api_Reg_r9 : List IOper := C.slices_Equal_api_Reg_api_Reg_r9_b
def C.slices_Equal_api_Reg_api_Reg_r9_w := @aopsE _ _ C.slices_Equal_api_Reg_api_Reg_r9.eq_1
def C.slices_Equal_api_Reg_api_Reg_c1 : ICode := .keep [] (.seq (.region C.slices_Equal_api_Reg_api_Reg_r9) .ret)
def C.slices_Equal_api_Reg_api_Reg_c1_w := @awpE _ _ C.slices_Equal_api_Reg_api_Reg_c1.eq_1
def C.slices_Equal_api_Reg_api_Reg_r8_b : List IOper := [
 X.o 25 (.bin .add (X.s 13) (X.i 1)),
 X.m 13 25]
def C.slices_Equal_api_Reg_api_Reg_r8 : List IOper := C.slices_Equal_api_Reg_api_Reg_r8_b
def C.slices_Equal_api_Reg_api_Reg_r8_w := @aopsE _ _ C.slices_Equal_api_Reg_api_Reg_r8.eq_1
def C.slices_Equal_api_Reg_api_Reg_c2 : ICode := .keep [0, 1, 12, 13] (.region C.slices_Equal_api_Reg_api_Reg_r8)
def C.slices_Equal_api_Reg_api_Reg_c2_w := @awpE _ _ C.slices_Equal_api_Reg_api_Reg_c2.eq_1
def C.slices_Equal_api_Reg_api_Reg_r7_b : List IOper := [
 X.o 4 (.move (.cst (.bool false)))]
def C.slices_Equal_api_Reg_api_Reg_r7 : List IOper := C.slices_Equal_api_Reg_api_Reg_r7_b
def C.slices_Equal_api_Reg_api_Reg_r7_w := @aopsE _ _ C.slices_Equal_api_Reg_api_Reg_r7.eq_1
def C.slices_Equal_api_Reg_api_Reg_c3 : ICode := .seq (.region C.slices_Equal_api_Reg_api_Reg_r7) .ret
def C.slices_Equal_api_Reg_api_Reg_c3_w := @awpE _ _ C.slices_Equal_api_Reg_api_Reg_c3.eq_1
def C.slices_Equal_api_Reg_api_Reg_c4 : ICode := .keep [0, 1, 12, 13, 24] (.cond (X.s 24) C.slices_Equal_api_Reg_api_Reg_c3 .skip)
def C.slices_Equal_api_Reg_api_Reg_c4_w := @awpE _ _ C.slices_Equal_api_Reg_api_Reg_c4.eq_1
def C.slices_Equal_api_Reg_api_Reg_r6_b : List IOper := [
 X.m 16 0,
 X.m 17 5,
 X.o 18 (.idxAddr 2 (X.s 16) (X.s 17)),
 X.o 19 (.loadN 2 (X.s 18)),
 X.m 20 1,
 X.m 21 5,
 X.o 22 (.idxAddr 2 (X.s 20) (X.s 21)),
 X.o 23 (.loadN 2 (X.s 22)),
 X.o 24 (.eqS [true, false] true (X.s 19) (X.s 23))]
def C.slices_Equal_api_Reg_api_Reg_r6 : List IOper := C.slices_Equal_api_Reg_api_Reg_r6_b
def C.slices_Equal_api_Reg_api_Reg_r6_w := @aopsE _ _ C.slices_Equal_api_Reg_api_Reg_r6.eq_1
def C.slices_Equal_api_Reg_api_Reg_c5 : ICode := .keep [0, 1, 5, 12, 13] (.seq (.region C.slices_Equal_api_Reg_api_Reg_r6) C.slices_Equal_api_Reg_api_Reg_c4)
def C.slices_Equal_api_Reg_api_Reg_c5_w := @awpE _ _ C.slices_Equal_api_Reg_api_Reg_c5.eq_1
def C.slices_Equal_api_Reg_api_Reg_r5_b : List IOper := [
 X.m 15 13,
 X.m 5 15]
def C.slices_Equal_api_Reg_api_Reg_r5 : List IOper := C.slices_Equal_api_Reg_api_Reg_r5_b
def C.slices_Equal_api_Reg_api_Reg_r5_w := @aopsE _ _ C.slices_Equal_api_Reg_api_Reg_r5.eq_1
def C.slices_Equal_api_Reg_api_Reg_b6 : ICode := .seq (.region C.slices_Equal_api_Reg_api_Reg_r5) C.slices_Equal_api_Reg_api_Reg_c5
def C.slices_Equal_api_Reg_api_Reg_b6_w := @awpE _ _ C.slices_Equal_api_Reg_api_Reg_b6.eq_1
def C.slices_Equal_api_Reg_api_Reg_c7 : ICode := .keep [0, 1, 12, 13] (.seq (.block 1 C.slices_Equal_api_Reg_api_Reg_b6) C.slices_Equal_api_Reg_api_Reg_c2)
def C.slices_Equal_api_Reg_api_Reg_c7_w := @awpE _ _ C.slices_Equal_api_Reg_api_Reg_c7.eq_1
def C.slices_Equal_api_Reg_api_Reg_c8 : ICode := .keep [0, 1, 12, 13, 14] (.seq (.cond (X.s 14) .skip (.exit 0)) C.slices_Equal_api_Reg_api_Reg_c7)
def C.slices_Equal_api_Reg_api_Reg_c8_w := @awpE _ _ C.slices_Equal_api_Reg_api_Reg_c8.eq_1
def C.slices_Equal_api_Reg_api_Reg_r4_b : List IOper := [
 X.o 14 (.bin .lss (X.s 13) (X.s 12))]
def C.slices_Equal_api_Reg_api_Reg_r4 : List IOper := C.slices_Equal_api_Reg_api_Reg_r4_b
def C.slices_Equal_api_Reg_api_Reg_r4_w := @aopsE _ _ C.slices_Equal_api_Reg_api_Reg_r4.eq_1
def C.slices_Equal_api_Reg_api_Reg_l9 : ICode := .keep [0, 1, 12, 13] (.seq (.region C.slices_Equal_api_Reg_api_Reg_r4) C.slices_Equal_api_Reg_api_Reg_c8)
def C.slices_Equal_api_Reg_api_Reg_l9_w := @awpE _ _ C.slices_Equal_api_Reg_api_Reg_l9.eq_1
def C.slices_Equal_api_Reg_api_Reg_b10 : ICode := .loop C.slices_Equal_api_Reg_api_Reg_l9
def C.slices_Equal_api_Reg_api_Reg_b10_w := @awpE _ _ C.slices_Equal_api_Reg_api_Reg_b10.eq_1
def C.slices_Equal_api_Reg_api_Reg_c11 : ICode := .keep [0, 1, 12, 13] (.block 0 C.slices_Equal_api_Reg_api_Reg_b10)
def C.slices_Equal_api_Reg_api_Reg_c11_w := @awpE _ _ C.slices_Equal_api_Reg_api_Reg_c11.eq_1
def C.slices_Equal_api_Reg_api_Reg_r3_b : List IOper := [
 X.m 11 0,
 X.o 12 (.len (X.s 11)),
 X.o 13 (.move (X.i 0))]
def C.slices_Equal_api_Reg_api_Reg_r3 : List IOper := C.slices_Equal_api_Reg_api_Reg_r3_b
def C.slices_Equal_api_Reg_api_Reg_r3_w := @aopsE _ _ C.slices_Equal_api_Reg_api_Reg_r3.eq_1
def C.slices_Equal_api_Reg_api_Reg_c12 : ICode := .keep [0, 1] (.seq (.seq (.region C.slices_Equal_api_Reg_api_Reg_r3) C.slices_Equal_api_Reg_api_Reg_c11) C.slices_Equal_api_Reg_api_Reg_c1)
def C.slices_Equal_api_Reg_api_Reg_c12_w := @awpE _ _ C.slices_Equal_api_Reg_api_Reg_c12.eq_1
def C.slices_Equal_api_Reg_api_Reg_r2_b : List IOper := [
 X.o 4 (.move (.cst (.bool false)))]
def C.slices_Equal_api_Reg_api_Reg_r2 : List IOper := C.slices_Equal_api_Reg_api_Reg_r2_b
def C.slices_Equal_api_Reg_api_Reg_r2_w := @aopsE _ _ C.slices_Equal_api_Reg_api_Reg_r2.eq_1
def C.slices_Equal_api_Reg_api_Reg_c13 : ICode := .seq (.region C.slices_Equal_api_Reg_api_Reg_r2) .ret
def C.slices_Equal_api_Reg_api_Reg_c13_w := @awpE _ _ C.slices_Equal_api_Reg_api_Reg_c13.eq_1
def C.slices_Equal_api_Reg_api_Reg_c14 : ICode := .keep [0, 1, 10] (.cond (X.s 10) C.slices_Equal_api_Reg_api_Reg_c13 .skip)
def C.slices_Equal_api_Reg_api_Reg_c14_w := @awpE _ _ C.slices_Equal_api_Reg_api_Reg_c14.eq_1
def C.slices_Equal_api_Reg_api_Reg_r1_b : List IOper := [
 X.m 6 0,
 X.o 7 (.len (X.s 6)),
 X.m 8 1,
 X.o 9 (.len (X.s 8)),
 X.o 10 (.bin .neq (X.s 7) (X.s 9))]
def C.slices_Equal_api_Reg_api_Reg_r1 : List IOper := C.slices_Equal_api_Reg_api_Reg_r1_b
def C.slices_Equal_api_Reg_api_Reg_r1_w := @aopsE _ _ C.slices_Equal_api_Reg_api_Reg_r1.eq_1
def C.slices_Equal_api_Reg_api_Reg_c15 : ICode := .keep [0, 1] (.seq (.seq (.region C.slices_Equal_api_Reg_api_Reg_r1) C.slices_Equal_api_Reg_api_Reg_c14) C.slices_Equal_api_Reg_api_Reg_c12)
def C.slices_Equal_api_Reg_api_Reg_c15_w := @awpE _ _ C.slices_Equal_api_Reg_api_Reg_c15.eq_1
def C.slices_Equal_api_Reg_api_Reg_r0_b : List IOper := [
 X.o 4 (.move (.cst (.bool false)))]
def C.slices_Equal_api_Reg_api_Reg_r0 : List IOper := C.slices_Equal_api_Reg_api_Reg_r0_b
def C.slices_Equal_api_Reg_api_Reg_r0_w := @aopsE _ _ C.slices_Equal_api_Reg_api_Reg_r0.eq_1
def C.slices_Equal_api_Reg_api_Reg : IFunc := ⟨2, [.slot 4], .seq (.region C.slices_Equal_api_Reg_api_Reg_r0) C.slices_Equal_api_Reg_api_Reg_c15⟩
def C.slices_Equal_api_Reg_api_Reg_W := And.intro (And.intro (And.intro (And.intro @C.slices_Equal_api_Reg_api_Reg_r9_w (And.intro @C.slices_Equal_api_Reg_api_Reg_c1_w @C.slices_Equal_api_Reg_api_Reg_r8_w)) (And.intro @C.slices_Equal_api_Reg_api_Reg_c2_w (And.intro @C.slices_Equal_api_Reg_api_Reg_r7_w @C.slices_Equal_api_Reg_api_Reg_c3_w))) (And.intro (And.intro @C.slices_Equal_api_Reg_api_Reg_c4_w (And.intro @C.slices_Equal_api_Reg_api_Reg_r6_w @C.slices_Equal_api_Reg_api_Reg_c5_w)) (And.intro @C.slices_Equal_api_Reg_api_Reg_r5_w (And.intro @C.slices_Equal_api_Reg_api_Reg_b6_w @C.slices_Equal_api_Reg_api_Reg_c7_w)))) (And.intro (And.intro (And.intro @C.slices_Equal_api_Reg_api_Reg_c8_w (And.intro @C.slices_Equal_api_Reg_api_Reg_r4_w @C.slices_Equal_api_Reg_api_Reg_b10_w)) (And.intro @C.slices_Equal_api_Reg_api_Reg_c11_w (And.intro @C.slices_Equal_api_Reg_api_Reg_r3_w @C.slices_Equal_api_Reg_api_Reg_c12_w))) (And.intro (And.intro @C.slices_Equal_api_Reg_api_Reg_r2_w (And.intro @C.slices_Equal_api_Reg_api_Reg_c13_w @C.slices_Equal_api_Reg_api_Reg_c14_w)) (And.intro @C.slices_Equal_api_Reg_api_Reg_r1_w (And.intro @C.slices_Equal_api_Reg_api_Reg_c15_w @C.slices_Equal_api_Reg_api_Reg_r0_w))))
def C.slices_Equal_api_Reg_api_Reg_B := And.intro (And.intro (And.intro @C.slices_Equal_api_Reg_api_Reg_r9_b.eq_1 @C.slices_Equal_api_Reg_api_Reg_r8_b.eq_1) (And.intro @C.slices_Equal_api_Reg_api_Reg_r7_b.eq_1 (And.intro @C.slices_Equal_api_Reg_api_Reg_r6_b.eq_1 @C.slices_Equal_api_Reg_api_Reg_r5_b.eq_1))) (And.intro (And.intro @C.slices_Equal_api_Reg_api_Reg_r4_b.eq_1 @C.slices_Equal_api_Reg_api_Reg_r3_b.eq_1) (And.intro @C.slices_Equal_api_Reg_api_Reg_r2_b.eq_1 (And.intro @C.slices_Equal_api_Reg_api_Reg_r1_b.eq_1 @C.slices_Equal_api_Reg_api_Reg_r0_b.eq_1)))

end Go.Proofs.Ytjamidgdhmjhaaa.Cn
