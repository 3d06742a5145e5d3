/- The intermediate code of the functions, printed by a program out of the loaded program; that it is theirs is checked in the text of links. -/
import Derived.Test.YtdmfgodajoojpaaGreatCnIr2
set_option linter.defProp false
namespace Go.Proofs.YtdmfgodajoojpaaGreat.Cn
open Go
variable {P : Program} {Q : IExit → AFr → ASt → Prop} {fr : AFr} {st : ASt}


def C.q70_r2_b : List IOper := [
 X.m 13 6,
 X.m 4 13]
def C.q70_r2 : List IOper := C.q70_r2_b
def C.q70_r2_w := pO C.q70_r2.eq_1
def C.q70_c1 : ICode := .keep [6] (.seq (.region C.q70_r2) .ret)
def C.q70_c1_w := pC C.q70_c1.eq_1
def C.q70_r1_b : List IOper := [
 X.m 8 0,
 X.m 9 1,
 X.o 10 (.lookup (.agg []) true (X.s 8) (X.s 9)),
 X.m 7 10,
 X.o 11 (.extract (X.s 7) 0),
 X.o 12 (.extract (X.s 7) 1),
 X.o 5 (.alloc []),
 X.n (.storeN 0 (X.s 5) (X.s 11)),
 X.m 6 12]
def C.q70_r1 : List IOper := C.q70_r1_b
def C.q70_r1_w := pO C.q70_r1.eq_1
def C.q70_c2 : ICode := .keep [0, 1] (.seq (.region C.q70_r1) C.q70_c1)
def C.q70_c2_w := pC C.q70_c2.eq_1
def C.q70_r0_b : List IOper := [
 X.o 4 (.move (.cst (.bool false)))]
def C.q70_r0 : List IOper := C.q70_r0_b
def C.q70_r0_w := pO C.q70_r0.eq_1
def C.q70 : IFunc := ⟨2, [.slot 4], .seq (.region C.q70_r0) C.q70_c2⟩
def C.q70_W := aI (aI @C.q70_r2_w @C.q70_c1_w) (aI @C.q70_r1_w (aI @C.q70_c2_w @C.q70_r0_w))
def C.q70_B := aI @C.q70_r2_b.eq_1 (aI @C.q70_r1_b.eq_1 @C.q70_r0_b.eq_1)

def C.q69_r0_b : List IOper := [
 X.m 4 0,
 X.m 5 1,
 X.o 6 (.build [] []),
 X.n (.mapSet (X.s 4) (X.s 5) (X.s 6))]
def C.q69_r0 : List IOper := C.q69_r0_b
def C.q69_r0_w := pO C.q69_r0.eq_1
def C.q69 : IFunc := ⟨2, [], .region C.q69_r0⟩
def C.q69_W := @C.q69_r0_w
def C.q69_B := @C.q69_r0_b.eq_1

end Go.Proofs.YtdmfgodajoojpaaGreat.Cn
