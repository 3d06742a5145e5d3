/- The intermediate code is that of the program: one equation a function. -/
import Derived.Test.YthmdiljjkogghaaCnIr
import Derived.Test.YthmdiljjkogghaaProg
import Derived.KernelRfl
namespace Go.Proofs.Ythmdiljjkogghaa.Cn
open Go Go.Proofs

theorem L.catnaplaw3_GraphOrders : Linked Try.prog F.catnaplaw3_GraphOrders C.catnaplaw3_GraphOrders := ⟨Try.f3, _, Try.func3, rfl, by kernel_rfl, by kernel_rfl, by decide, by kernel_rfl⟩
theorem L.catnaplaw3_GraphJoins : Linked Try.prog F.catnaplaw3_GraphJoins C.catnaplaw3_GraphJoins := ⟨Try.f4, _, Try.func4, rfl, by kernel_rfl, by kernel_rfl, by decide, by kernel_rfl⟩
theorem L.catnaplaw3_GraphLess : Linked Try.prog F.catnaplaw3_GraphLess C.catnaplaw3_GraphLess := ⟨Try.f5, _, Try.func5, rfl, by kernel_rfl, by kernel_rfl, by decide, by kernel_rfl⟩
theorem L.catnaplaw3_GraphNumbers : Linked Try.prog F.catnaplaw3_GraphNumbers C.catnaplaw3_GraphNumbers := ⟨Try.f6, _, Try.func6, rfl, by kernel_rfl, by kernel_rfl, by decide, by kernel_rfl⟩
theorem L.catnaplaw3_GraphChains : Linked Try.prog F.catnaplaw3_GraphChains C.catnaplaw3_GraphChains := ⟨Try.f7, _, Try.func7, rfl, by kernel_rfl, by kernel_rfl, by decide, by kernel_rfl⟩
theorem L.catnaplaw3_GraphTells : Linked Try.prog F.catnaplaw3_GraphTells C.catnaplaw3_GraphTells := ⟨Try.f8, _, Try.func8, rfl, by kernel_rfl, by kernel_rfl, by decide, by kernel_rfl⟩
theorem L.catnaplaw3_GraphSides : Linked Try.prog F.catnaplaw3_GraphSides C.catnaplaw3_GraphSides := ⟨Try.f9, _, Try.func9, rfl, by kernel_rfl, by kernel_rfl, by decide, by kernel_rfl⟩
theorem L.catnaplaw3_shown : Linked Try.prog F.catnaplaw3_shown C.catnaplaw3_shown := ⟨Try.f10, _, Try.func10, rfl, by kernel_rfl, by kernel_rfl, by decide, by kernel_rfl⟩
theorem L.catnaplaw3_pick : Linked Try.prog F.catnaplaw3_pick C.catnaplaw3_pick := ⟨Try.f11, _, Try.func11, rfl, by kernel_rfl, by kernel_rfl, by decide, by kernel_rfl⟩
theorem L.catnaplaw3_falling : Linked Try.prog F.catnaplaw3_falling C.catnaplaw3_falling := ⟨Try.f12, _, Try.func12, rfl, by kernel_rfl, by kernel_rfl, by decide, by kernel_rfl⟩
theorem L.graph_Order : Linked Try.prog F.graph_Order C.graph_Order := ⟨Try.f13, _, Try.func13, rfl, by kernel_rfl, by kernel_rfl, by decide, by kernel_rfl⟩
theorem L.graph_Check : Linked Try.prog F.graph_Check C.graph_Check := ⟨Try.f14, _, Try.func14, rfl, by kernel_rfl, by kernel_rfl, by decide, by kernel_rfl⟩
theorem L.graph_Above : Linked Try.prog F.graph_Above C.graph_Above := ⟨Try.f15, _, Try.func15, rfl, by kernel_rfl, by kernel_rfl, by decide, by kernel_rfl⟩
theorem L.catnaplaw3_same : Linked Try.prog F.catnaplaw3_same C.catnaplaw3_same := ⟨Try.f16, _, Try.func16, rfl, by kernel_rfl, by kernel_rfl, by decide, by kernel_rfl⟩
theorem L.catnapref3_Has : Linked Try.prog F.catnapref3_Has C.catnapref3_Has := ⟨Try.f17, _, Try.func17, rfl, by kernel_rfl, by kernel_rfl, by decide, by kernel_rfl⟩
theorem L.graph_Under : Linked Try.prog F.graph_Under C.graph_Under := ⟨Try.f18, _, Try.func18, rfl, by kernel_rfl, by kernel_rfl, by decide, by kernel_rfl⟩
theorem L.catnaplaw3_light : Linked Try.prog F.catnaplaw3_light C.catnaplaw3_light := ⟨Try.f19, _, Try.func19, rfl, by kernel_rfl, by kernel_rfl, by decide, by kernel_rfl⟩
theorem L.catnapref3_Order : Linked Try.prog F.catnapref3_Order C.catnapref3_Order := ⟨Try.f20, _, Try.func20, rfl, by kernel_rfl, by kernel_rfl, by decide, by kernel_rfl⟩
theorem L.catnapref3_Above : Linked Try.prog F.catnapref3_Above C.catnapref3_Above := ⟨Try.f21, _, Try.func21, rfl, by kernel_rfl, by kernel_rfl, by decide, by kernel_rfl⟩
theorem L.catnapref3_Under : Linked Try.prog F.catnapref3_Under C.catnapref3_Under := ⟨Try.f22, _, Try.func22, rfl, by kernel_rfl, by kernel_rfl, by decide, by kernel_rfl⟩
theorem L.catnapref3_Check : Linked Try.prog F.catnapref3_Check C.catnapref3_Check := ⟨Try.f23, _, Try.func23, rfl, by kernel_rfl, by kernel_rfl, by decide, by kernel_rfl⟩
theorem L.graph_numbers : Linked Try.prog F.graph_numbers C.graph_numbers := ⟨Try.f24, _, Try.func24, rfl, by kernel_rfl, by kernel_rfl, by decide, by kernel_rfl⟩
theorem L.graph_hang : Linked Try.prog F.graph_hang C.graph_hang := ⟨Try.f25, _, Try.func25, rfl, by kernel_rfl, by kernel_rfl, by decide, by kernel_rfl⟩
theorem L.graph_marks_has : Linked Try.prog F.graph_marks_has C.graph_marks_has := ⟨Try.f26, _, Try.func26, rfl, by kernel_rfl, by kernel_rfl, by decide, by kernel_rfl⟩
theorem L.graph_marks_add : Linked Try.prog F.graph_marks_add C.graph_marks_add := ⟨Try.f27, _, Try.func27, rfl, by kernel_rfl, by kernel_rfl, by decide, by kernel_rfl⟩
theorem L.graph_ordered : Linked Try.prog F.graph_ordered C.graph_ordered := ⟨Try.f28, _, Try.func28, rfl, by kernel_rfl, by kernel_rfl, by decide, by kernel_rfl⟩
theorem L.graph_others : Linked Try.prog F.graph_others C.graph_others := ⟨Try.f29, _, Try.func29, rfl, by kernel_rfl, by kernel_rfl, by decide, by kernel_rfl⟩
theorem L.catnapref3_order : Linked Try.prog F.catnapref3_order C.catnapref3_order := ⟨Try.f30, _, Try.func30, rfl, by kernel_rfl, by kernel_rfl, by decide, by kernel_rfl⟩
theorem L.catnapref3_some : Linked Try.prog F.catnapref3_some C.catnapref3_some := ⟨Try.f31, _, Try.func31, rfl, by kernel_rfl, by kernel_rfl, by decide, by kernel_rfl⟩

end Go.Proofs.Ythmdiljjkogghaa.Cn
