/- The intermediate code is that of the program: one equation a function. -/
import Derived.Test.YtjamidgdhmjhaaaCnIr
import Derived.Test.YtjamidgdhmjhaaaProg
import Derived.KernelRfl
namespace Go.Proofs.Ytjamidgdhmjhaaa.Cn
open Go Go.Proofs

theorem L.catnaplaw4_ConfFaults : Linked Try.prog F.catnaplaw4_ConfFaults C.catnaplaw4_ConfFaults := ⟨Try.f3, _, Try.func3, rfl, by kernel_rfl, by kernel_rfl, by decide, by kernel_rfl⟩
theorem L.catnaplaw4_ConfCopies : Linked Try.prog F.catnaplaw4_ConfCopies C.catnaplaw4_ConfCopies := ⟨Try.f7, _, Try.func7, rfl, by kernel_rfl, by kernel_rfl, by decide, by kernel_rfl⟩
theorem L.catnaplaw4_shown : Linked Try.prog F.catnaplaw4_shown C.catnaplaw4_shown := ⟨Try.f9, _, Try.func9, rfl, by kernel_rfl, by kernel_rfl, by decide, by kernel_rfl⟩
theorem L.catnaplaw4_chip : Linked Try.prog F.catnaplaw4_chip C.catnaplaw4_chip := ⟨Try.f10, _, Try.func10, rfl, by kernel_rfl, by kernel_rfl, by decide, by kernel_rfl⟩
theorem L.catnaplaw4_pick : Linked Try.prog F.catnaplaw4_pick C.catnaplaw4_pick := ⟨Try.f11, _, Try.func11, rfl, by kernel_rfl, by kernel_rfl, by decide, by kernel_rfl⟩
theorem L.conf_Check : Linked Try.prog F.conf_Check C.conf_Check := ⟨Try.f12, _, Try.func12, rfl, by kernel_rfl, by kernel_rfl, by decide, by kernel_rfl⟩
theorem L.conf_Clocks : Linked Try.prog F.conf_Clocks C.conf_Clocks := ⟨Try.f13, _, Try.func13, rfl, by kernel_rfl, by kernel_rfl, by decide, by kernel_rfl⟩
theorem L.conf_Domains : Linked Try.prog F.conf_Domains C.conf_Domains := ⟨Try.f14, _, Try.func14, rfl, by kernel_rfl, by kernel_rfl, by decide, by kernel_rfl⟩
theorem L.conf_Needs : Linked Try.prog F.conf_Needs C.conf_Needs := ⟨Try.f15, _, Try.func15, rfl, by kernel_rfl, by kernel_rfl, by decide, by kernel_rfl⟩
theorem L.graph_Order : Linked Try.prog F.graph_Order C.graph_Order := ⟨Try.f16, _, Try.func16, rfl, by kernel_rfl, by kernel_rfl, by decide, by kernel_rfl⟩
theorem L.conf_Copy : Linked Try.prog F.conf_Copy C.conf_Copy := ⟨Try.f17, _, Try.func17, rfl, by kernel_rfl, by kernel_rfl, by decide, by kernel_rfl⟩
theorem L.conf_Same : Linked Try.prog F.conf_Same C.conf_Same := ⟨Try.f18, _, Try.func18, rfl, by kernel_rfl, by kernel_rfl, by decide, by kernel_rfl⟩
theorem L.conf_first : Linked Try.prog F.conf_first C.conf_first := ⟨Try.f19, _, Try.func19, rfl, by kernel_rfl, by kernel_rfl, by decide, by kernel_rfl⟩
theorem L.conf_Check_1 : Linked Try.prog F.conf_Check_1 C.conf_Check_1 := ⟨Try.f20, _, Try.func20, rfl, by kernel_rfl, by kernel_rfl, by decide, by kernel_rfl⟩
theorem L.conf_full : Linked Try.prog F.conf_full C.conf_full := ⟨Try.f21, _, Try.func21, rfl, by kernel_rfl, by kernel_rfl, by decide, by kernel_rfl⟩
theorem L.conf_Check_2 : Linked Try.prog F.conf_Check_2 C.conf_Check_2 := ⟨Try.f22, _, Try.func22, rfl, by kernel_rfl, by kernel_rfl, by decide, by kernel_rfl⟩
theorem L.conf_each_api_Clock : Linked Try.prog F.conf_each_api_Clock C.conf_each_api_Clock := ⟨Try.f23, _, Try.func23, rfl, by kernel_rfl, by kernel_rfl, by decide, by kernel_rfl⟩
theorem L.conf_Check_2_1 : Linked Try.prog F.conf_Check_2_1 C.conf_Check_2_1 := ⟨Try.f24, _, Try.func24, rfl, by kernel_rfl, by kernel_rfl, by decide, by kernel_rfl⟩
theorem L.conf_clock : Linked Try.prog F.conf_clock C.conf_clock := ⟨Try.f25, _, Try.func25, rfl, by kernel_rfl, by kernel_rfl, by decide, by kernel_rfl⟩
theorem L.conf_Check_3 : Linked Try.prog F.conf_Check_3 C.conf_Check_3 := ⟨Try.f26, _, Try.func26, rfl, by kernel_rfl, by kernel_rfl, by decide, by kernel_rfl⟩
theorem L.conf_cycle : Linked Try.prog F.conf_cycle C.conf_cycle := ⟨Try.f27, _, Try.func27, rfl, by kernel_rfl, by kernel_rfl, by decide, by kernel_rfl⟩
theorem L.conf_Check_4 : Linked Try.prog F.conf_Check_4 C.conf_Check_4 := ⟨Try.f28, _, Try.func28, rfl, by kernel_rfl, by kernel_rfl, by decide, by kernel_rfl⟩
theorem L.conf_each_api_Domain : Linked Try.prog F.conf_each_api_Domain C.conf_each_api_Domain := ⟨Try.f29, _, Try.func29, rfl, by kernel_rfl, by kernel_rfl, by decide, by kernel_rfl⟩
theorem L.conf_Check_4_1 : Linked Try.prog F.conf_Check_4_1 C.conf_Check_4_1 := ⟨Try.f30, _, Try.func30, rfl, by kernel_rfl, by kernel_rfl, by decide, by kernel_rfl⟩
theorem L.conf_domain : Linked Try.prog F.conf_domain C.conf_domain := ⟨Try.f31, _, Try.func31, rfl, by kernel_rfl, by kernel_rfl, by decide, by kernel_rfl⟩
theorem L.conf_Check_5 : Linked Try.prog F.conf_Check_5 C.conf_Check_5 := ⟨Try.f32, _, Try.func32, rfl, by kernel_rfl, by kernel_rfl, by decide, by kernel_rfl⟩
theorem L.conf_Check_6 : Linked Try.prog F.conf_Check_6 C.conf_Check_6 := ⟨Try.f33, _, Try.func33, rfl, by kernel_rfl, by kernel_rfl, by decide, by kernel_rfl⟩
theorem L.conf_each_api_Reset : Linked Try.prog F.conf_each_api_Reset C.conf_each_api_Reset := ⟨Try.f34, _, Try.func34, rfl, by kernel_rfl, by kernel_rfl, by decide, by kernel_rfl⟩
theorem L.conf_reset : Linked Try.prog F.conf_reset C.conf_reset := ⟨Try.f35, _, Try.func35, rfl, by kernel_rfl, by kernel_rfl, by decide, by kernel_rfl⟩
theorem L.conf_Check_7 : Linked Try.prog F.conf_Check_7 C.conf_Check_7 := ⟨Try.f36, _, Try.func36, rfl, by kernel_rfl, by kernel_rfl, by decide, by kernel_rfl⟩
theorem L.conf_each_api_Device : Linked Try.prog F.conf_each_api_Device C.conf_each_api_Device := ⟨Try.f37, _, Try.func37, rfl, by kernel_rfl, by kernel_rfl, by decide, by kernel_rfl⟩
theorem L.conf_Check_7_1 : Linked Try.prog F.conf_Check_7_1 C.conf_Check_7_1 := ⟨Try.f38, _, Try.func38, rfl, by kernel_rfl, by kernel_rfl, by decide, by kernel_rfl⟩
theorem L.conf_device : Linked Try.prog F.conf_device C.conf_device := ⟨Try.f39, _, Try.func39, rfl, by kernel_rfl, by kernel_rfl, by decide, by kernel_rfl⟩
theorem L.conf_Check_8 : Linked Try.prog F.conf_Check_8 C.conf_Check_8 := ⟨Try.f40, _, Try.func40, rfl, by kernel_rfl, by kernel_rfl, by decide, by kernel_rfl⟩
theorem L.conf_own_int : Linked Try.prog F.conf_own_int C.conf_own_int := ⟨Try.f41, _, Try.func41, rfl, by kernel_rfl, by kernel_rfl, by decide, by kernel_rfl⟩
theorem L.graph_numbers : Linked Try.prog F.graph_numbers C.graph_numbers := ⟨Try.f42, _, Try.func42, rfl, by kernel_rfl, by kernel_rfl, by decide, by kernel_rfl⟩
theorem L.graph_hang : Linked Try.prog F.graph_hang C.graph_hang := ⟨Try.f43, _, Try.func43, rfl, by kernel_rfl, by kernel_rfl, by decide, by kernel_rfl⟩
theorem L.graph_marks_has : Linked Try.prog F.graph_marks_has C.graph_marks_has := ⟨Try.f44, _, Try.func44, rfl, by kernel_rfl, by kernel_rfl, by decide, by kernel_rfl⟩
theorem L.graph_marks_add : Linked Try.prog F.graph_marks_add C.graph_marks_add := ⟨Try.f45, _, Try.func45, rfl, by kernel_rfl, by kernel_rfl, by decide, by kernel_rfl⟩
theorem L.conf_own_api_Clock : Linked Try.prog F.conf_own_api_Clock C.conf_own_api_Clock := ⟨Try.f46, _, Try.func46, rfl, by kernel_rfl, by kernel_rfl, by decide, by kernel_rfl⟩
theorem L.conf_own_api_Domain : Linked Try.prog F.conf_own_api_Domain C.conf_own_api_Domain := ⟨Try.f47, _, Try.func47, rfl, by kernel_rfl, by kernel_rfl, by decide, by kernel_rfl⟩
theorem L.conf_own_api_Reset : Linked Try.prog F.conf_own_api_Reset C.conf_own_api_Reset := ⟨Try.f48, _, Try.func48, rfl, by kernel_rfl, by kernel_rfl, by decide, by kernel_rfl⟩
theorem L.conf_own_api_Device : Linked Try.prog F.conf_own_api_Device C.conf_own_api_Device := ⟨Try.f49, _, Try.func49, rfl, by kernel_rfl, by kernel_rfl, by decide, by kernel_rfl⟩
theorem L.conf_own_api_Reg : Linked Try.prog F.conf_own_api_Reg C.conf_own_api_Reg := ⟨Try.f50, _, Try.func50, rfl, by kernel_rfl, by kernel_rfl, by decide, by kernel_rfl⟩
theorem L.slices_EqualFunc_api_Clock_api_Clock_api_Clock_api_Clock : Linked Try.prog F.slices_EqualFunc_api_Clock_api_Clock_api_Clock_api_Clock C.slices_EqualFunc_api_Clock_api_Clock_api_Clock_api_Clock := ⟨Try.f51, _, Try.func51, rfl, by kernel_rfl, by kernel_rfl, by decide, by kernel_rfl⟩
theorem L.conf_sameClock : Linked Try.prog F.conf_sameClock C.conf_sameClock := ⟨Try.f52, _, Try.func52, rfl, by kernel_rfl, by kernel_rfl, by decide, by kernel_rfl⟩
theorem L.slices_Equal_api_Domain_api_Domain : Linked Try.prog F.slices_Equal_api_Domain_api_Domain C.slices_Equal_api_Domain_api_Domain := ⟨Try.f53, _, Try.func53, rfl, by kernel_rfl, by kernel_rfl, by decide, by kernel_rfl⟩
theorem L.slices_Equal_api_Reset_api_Reset : Linked Try.prog F.slices_Equal_api_Reset_api_Reset C.slices_Equal_api_Reset_api_Reset := ⟨Try.f54, _, Try.func54, rfl, by kernel_rfl, by kernel_rfl, by decide, by kernel_rfl⟩
theorem L.slices_EqualFunc_api_Device_api_Device_api_Device_api_Device : Linked Try.prog F.slices_EqualFunc_api_Device_api_Device_api_Device_api_Device C.slices_EqualFunc_api_Device_api_Device_api_Device_api_Device := ⟨Try.f55, _, Try.func55, rfl, by kernel_rfl, by kernel_rfl, by decide, by kernel_rfl⟩
theorem L.conf_sameDevice : Linked Try.prog F.conf_sameDevice C.conf_sameDevice := ⟨Try.f56, _, Try.func56, rfl, by kernel_rfl, by kernel_rfl, by decide, by kernel_rfl⟩
theorem L.conf_full_1 : Linked Try.prog F.conf_full_1 C.conf_full_1 := ⟨Try.f57, _, Try.func57, rfl, by kernel_rfl, by kernel_rfl, by decide, by kernel_rfl⟩
theorem L.conf_when : Linked Try.prog F.conf_when C.conf_when := ⟨Try.f58, _, Try.func58, rfl, by kernel_rfl, by kernel_rfl, by decide, by kernel_rfl⟩
theorem L.conf_clock_1 : Linked Try.prog F.conf_clock_1 C.conf_clock_1 := ⟨Try.f59, _, Try.func59, rfl, by kernel_rfl, by kernel_rfl, by decide, by kernel_rfl⟩
theorem L.conf_shape : Linked Try.prog F.conf_shape C.conf_shape := ⟨Try.f60, _, Try.func60, rfl, by kernel_rfl, by kernel_rfl, by decide, by kernel_rfl⟩
theorem L.conf_clock_2 : Linked Try.prog F.conf_clock_2 C.conf_clock_2 := ⟨Try.f61, _, Try.func61, rfl, by kernel_rfl, by kernel_rfl, by decide, by kernel_rfl⟩
theorem L.conf_each_int : Linked Try.prog F.conf_each_int C.conf_each_int := ⟨Try.f62, _, Try.func62, rfl, by kernel_rfl, by kernel_rfl, by decide, by kernel_rfl⟩
theorem L.conf_clock_2_1 : Linked Try.prog F.conf_clock_2_1 C.conf_clock_2_1 := ⟨Try.f63, _, Try.func63, rfl, by kernel_rfl, by kernel_rfl, by decide, by kernel_rfl⟩
theorem L.conf_within : Linked Try.prog F.conf_within C.conf_within := ⟨Try.f64, _, Try.func64, rfl, by kernel_rfl, by kernel_rfl, by decide, by kernel_rfl⟩
theorem L.conf_clock_3 : Linked Try.prog F.conf_clock_3 C.conf_clock_3 := ⟨Try.f65, _, Try.func65, rfl, by kernel_rfl, by kernel_rfl, by decide, by kernel_rfl⟩
theorem L.conf_numbers : Linked Try.prog F.conf_numbers C.conf_numbers := ⟨Try.f66, _, Try.func66, rfl, by kernel_rfl, by kernel_rfl, by decide, by kernel_rfl⟩
theorem L.graph_Check : Linked Try.prog F.graph_Check C.graph_Check := ⟨Try.f67, _, Try.func67, rfl, by kernel_rfl, by kernel_rfl, by decide, by kernel_rfl⟩
theorem L.conf_domain_1 : Linked Try.prog F.conf_domain_1 C.conf_domain_1 := ⟨Try.f68, _, Try.func68, rfl, by kernel_rfl, by kernel_rfl, by decide, by kernel_rfl⟩
theorem L.conf_domain_2 : Linked Try.prog F.conf_domain_2 C.conf_domain_2 := ⟨Try.f69, _, Try.func69, rfl, by kernel_rfl, by kernel_rfl, by decide, by kernel_rfl⟩
theorem L.conf_device_1 : Linked Try.prog F.conf_device_1 C.conf_device_1 := ⟨Try.f70, _, Try.func70, rfl, by kernel_rfl, by kernel_rfl, by decide, by kernel_rfl⟩
theorem L.conf_device_2 : Linked Try.prog F.conf_device_2 C.conf_device_2 := ⟨Try.f71, _, Try.func71, rfl, by kernel_rfl, by kernel_rfl, by decide, by kernel_rfl⟩
theorem L.conf_device_3 : Linked Try.prog F.conf_device_3 C.conf_device_3 := ⟨Try.f72, _, Try.func72, rfl, by kernel_rfl, by kernel_rfl, by decide, by kernel_rfl⟩
theorem L.conf_device_4 : Linked Try.prog F.conf_device_4 C.conf_device_4 := ⟨Try.f73, _, Try.func73, rfl, by kernel_rfl, by kernel_rfl, by decide, by kernel_rfl⟩
theorem L.conf_device_4_1 : Linked Try.prog F.conf_device_4_1 C.conf_device_4_1 := ⟨Try.f74, _, Try.func74, rfl, by kernel_rfl, by kernel_rfl, by decide, by kernel_rfl⟩
theorem L.slices_Equal_int_int : Linked Try.prog F.slices_Equal_int_int C.slices_Equal_int_int := ⟨Try.f75, _, Try.func75, rfl, by kernel_rfl, by kernel_rfl, by decide, by kernel_rfl⟩
theorem L.slices_Equal_api_Reg_api_Reg : Linked Try.prog F.slices_Equal_api_Reg_api_Reg C.slices_Equal_api_Reg_api_Reg := ⟨Try.f76, _, Try.func76, rfl, by kernel_rfl, by kernel_rfl, by decide, by kernel_rfl⟩

end Go.Proofs.Ytjamidgdhmjhaaa.Cn
