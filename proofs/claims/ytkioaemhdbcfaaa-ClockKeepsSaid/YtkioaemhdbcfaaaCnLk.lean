/- The intermediate code is that of the program: one equation a function. -/
import Derived.Test.YtkioaemhdbcfaaaCnIr
import Derived.Test.YtkioaemhdbcfaaaProg
import Derived.KernelRfl
namespace Go.Proofs.Ytkioaemhdbcfaaa.Cn
open Go Go.Proofs

theorem L.q0 : Linked Try.prog F.q0 C.q0 := ⟨Try.f6, _, Try.func6, rfl, by kernel_rfl, by kernel_rfl, by decide, by kernel_rfl⟩
theorem L.q3 : Linked Try.prog F.q3 C.q3 := ⟨Try.f10, _, Try.func10, rfl, by kernel_rfl, by kernel_rfl, by decide, by kernel_rfl⟩
theorem L.q4 : Linked Try.prog F.q4 C.q4 := ⟨Try.f11, _, Try.func11, rfl, by kernel_rfl, by kernel_rfl, by decide, by kernel_rfl⟩
theorem L.q17 : Linked Try.prog F.q17 C.q17 := ⟨Try.f12, _, Try.func12, rfl, by kernel_rfl, by kernel_rfl, by decide, by kernel_rfl⟩
theorem L.q2 : Linked Try.prog F.q2 C.q2 := ⟨Try.f13, _, Try.func13, rfl, by kernel_rfl, by kernel_rfl, by decide, by kernel_rfl⟩
theorem L.q8 : Linked Try.prog F.q8 C.q8 := ⟨Try.f14, _, Try.func14, rfl, by kernel_rfl, by kernel_rfl, by decide, by kernel_rfl⟩
theorem L.q11 : Linked Try.prog F.q11 C.q11 := ⟨Try.f15, _, Try.func15, rfl, by kernel_rfl, by kernel_rfl, by decide, by kernel_rfl⟩
theorem L.q7 : Linked Try.prog F.q7 C.q7 := ⟨Try.f16, _, Try.func16, rfl, by kernel_rfl, by kernel_rfl, by decide, by kernel_rfl⟩
theorem L.q14 : Linked Try.prog F.q14 C.q14 := ⟨Try.f17, _, Try.func17, rfl, by kernel_rfl, by kernel_rfl, by decide, by kernel_rfl⟩
theorem L.q9 : Linked Try.prog F.q9 C.q9 := ⟨Try.f18, _, Try.func18, rfl, by kernel_rfl, by kernel_rfl, by decide, by kernel_rfl⟩
theorem L.q1 : Linked Try.prog F.q1 C.q1 := ⟨Try.f19, _, Try.func19, rfl, by kernel_rfl, by kernel_rfl, by decide, by kernel_rfl⟩
theorem L.q5 : Linked Try.prog F.q5 C.q5 := ⟨Try.f20, _, Try.func20, rfl, by kernel_rfl, by kernel_rfl, by decide, by kernel_rfl⟩
theorem L.q13 : Linked Try.prog F.q13 C.q13 := ⟨Try.f21, _, Try.func21, rfl, by kernel_rfl, by kernel_rfl, by decide, by kernel_rfl⟩
theorem L.q6 : Linked Try.prog F.q6 C.q6 := ⟨Try.f22, _, Try.func22, rfl, by kernel_rfl, by kernel_rfl, by decide, by kernel_rfl⟩
theorem L.q73 : Linked Try.prog F.q73 C.q73 := ⟨Try.f23, _, Try.func23, rfl, by kernel_rfl, by kernel_rfl, by decide, by kernel_rfl⟩
theorem L.q30 : Linked Try.prog F.q30 C.q30 := ⟨Try.f24, _, Try.func24, rfl, by kernel_rfl, by kernel_rfl, by decide, by kernel_rfl⟩
theorem L.q53 : Linked Try.prog F.q53 C.q53 := ⟨Try.f25, _, Try.func25, rfl, by kernel_rfl, by kernel_rfl, by decide, by kernel_rfl⟩
theorem L.q18 : Linked Try.prog F.q18 C.q18 := ⟨Try.f26, _, Try.func26, rfl, by kernel_rfl, by kernel_rfl, by decide, by kernel_rfl⟩
theorem L.q54 : Linked Try.prog F.q54 C.q54 := ⟨Try.f27, _, Try.func27, rfl, by kernel_rfl, by kernel_rfl, by decide, by kernel_rfl⟩
theorem L.q19 : Linked Try.prog F.q19 C.q19 := ⟨Try.f28, _, Try.func28, rfl, by kernel_rfl, by kernel_rfl, by decide, by kernel_rfl⟩
theorem L.q48 : Linked Try.prog F.q48 C.q48 := ⟨Try.f29, _, Try.func29, rfl, by kernel_rfl, by kernel_rfl, by decide, by kernel_rfl⟩
theorem L.q20 : Linked Try.prog F.q20 C.q20 := ⟨Try.f30, _, Try.func30, rfl, by kernel_rfl, by kernel_rfl, by decide, by kernel_rfl⟩
theorem L.q33 : Linked Try.prog F.q33 C.q33 := ⟨Try.f31, _, Try.func31, rfl, by kernel_rfl, by kernel_rfl, by decide, by kernel_rfl⟩
theorem L.q21 : Linked Try.prog F.q21 C.q21 := ⟨Try.f32, _, Try.func32, rfl, by kernel_rfl, by kernel_rfl, by decide, by kernel_rfl⟩
theorem L.q38 : Linked Try.prog F.q38 C.q38 := ⟨Try.f33, _, Try.func33, rfl, by kernel_rfl, by kernel_rfl, by decide, by kernel_rfl⟩
theorem L.q29 : Linked Try.prog F.q29 C.q29 := ⟨Try.f34, _, Try.func34, rfl, by kernel_rfl, by kernel_rfl, by decide, by kernel_rfl⟩
theorem L.q22 : Linked Try.prog F.q22 C.q22 := ⟨Try.f35, _, Try.func35, rfl, by kernel_rfl, by kernel_rfl, by decide, by kernel_rfl⟩
theorem L.q50 : Linked Try.prog F.q50 C.q50 := ⟨Try.f36, _, Try.func36, rfl, by kernel_rfl, by kernel_rfl, by decide, by kernel_rfl⟩
theorem L.q23 : Linked Try.prog F.q23 C.q23 := ⟨Try.f37, _, Try.func37, rfl, by kernel_rfl, by kernel_rfl, by decide, by kernel_rfl⟩
theorem L.q45 : Linked Try.prog F.q45 C.q45 := ⟨Try.f38, _, Try.func38, rfl, by kernel_rfl, by kernel_rfl, by decide, by kernel_rfl⟩
theorem L.q24 : Linked Try.prog F.q24 C.q24 := ⟨Try.f39, _, Try.func39, rfl, by kernel_rfl, by kernel_rfl, by decide, by kernel_rfl⟩
theorem L.q31 : Linked Try.prog F.q31 C.q31 := ⟨Try.f40, _, Try.func40, rfl, by kernel_rfl, by kernel_rfl, by decide, by kernel_rfl⟩
theorem L.q25 : Linked Try.prog F.q25 C.q25 := ⟨Try.f41, _, Try.func41, rfl, by kernel_rfl, by kernel_rfl, by decide, by kernel_rfl⟩
theorem L.q51 : Linked Try.prog F.q51 C.q51 := ⟨Try.f42, _, Try.func42, rfl, by kernel_rfl, by kernel_rfl, by decide, by kernel_rfl⟩
theorem L.q63 : Linked Try.prog F.q63 C.q63 := ⟨Try.f43, _, Try.func43, rfl, by kernel_rfl, by kernel_rfl, by decide, by kernel_rfl⟩
theorem L.q26 : Linked Try.prog F.q26 C.q26 := ⟨Try.f44, _, Try.func44, rfl, by kernel_rfl, by kernel_rfl, by decide, by kernel_rfl⟩
theorem L.q49 : Linked Try.prog F.q49 C.q49 := ⟨Try.f45, _, Try.func45, rfl, by kernel_rfl, by kernel_rfl, by decide, by kernel_rfl⟩
theorem L.q27 : Linked Try.prog F.q27 C.q27 := ⟨Try.f46, _, Try.func46, rfl, by kernel_rfl, by kernel_rfl, by decide, by kernel_rfl⟩
theorem L.q39 : Linked Try.prog F.q39 C.q39 := ⟨Try.f47, _, Try.func47, rfl, by kernel_rfl, by kernel_rfl, by decide, by kernel_rfl⟩
theorem L.q28 : Linked Try.prog F.q28 C.q28 := ⟨Try.f48, _, Try.func48, rfl, by kernel_rfl, by kernel_rfl, by decide, by kernel_rfl⟩
theorem L.q32 : Linked Try.prog F.q32 C.q32 := ⟨Try.f49, _, Try.func49, rfl, by kernel_rfl, by kernel_rfl, by decide, by kernel_rfl⟩
theorem L.q15 : Linked Try.prog F.q15 C.q15 := ⟨Try.f50, _, Try.func50, rfl, by kernel_rfl, by kernel_rfl, by decide, by kernel_rfl⟩
theorem L.q12 : Linked Try.prog F.q12 C.q12 := ⟨Try.f51, _, Try.func51, rfl, by kernel_rfl, by kernel_rfl, by decide, by kernel_rfl⟩
theorem L.q16 : Linked Try.prog F.q16 C.q16 := ⟨Try.f52, _, Try.func52, rfl, by kernel_rfl, by kernel_rfl, by decide, by kernel_rfl⟩
theorem L.q10 : Linked Try.prog F.q10 C.q10 := ⟨Try.f53, _, Try.func53, rfl, by kernel_rfl, by kernel_rfl, by decide, by kernel_rfl⟩
theorem L.q75 : Linked Try.prog F.q75 C.q75 := ⟨Try.f54, _, Try.func54, rfl, by kernel_rfl, by kernel_rfl, by decide, by kernel_rfl⟩
theorem L.q74 : Linked Try.prog F.q74 C.q74 := ⟨Try.f55, _, Try.func55, rfl, by kernel_rfl, by kernel_rfl, by decide, by kernel_rfl⟩
theorem L.q57 : Linked Try.prog F.q57 C.q57 := ⟨Try.f56, _, Try.func56, rfl, by kernel_rfl, by kernel_rfl, by decide, by kernel_rfl⟩
theorem L.q59 : Linked Try.prog F.q59 C.q59 := ⟨Try.f57, _, Try.func57, rfl, by kernel_rfl, by kernel_rfl, by decide, by kernel_rfl⟩
theorem L.q61 : Linked Try.prog F.q61 C.q61 := ⟨Try.f58, _, Try.func58, rfl, by kernel_rfl, by kernel_rfl, by decide, by kernel_rfl⟩
theorem L.q58 : Linked Try.prog F.q58 C.q58 := ⟨Try.f59, _, Try.func59, rfl, by kernel_rfl, by kernel_rfl, by decide, by kernel_rfl⟩
theorem L.q62 : Linked Try.prog F.q62 C.q62 := ⟨Try.f60, _, Try.func60, rfl, by kernel_rfl, by kernel_rfl, by decide, by kernel_rfl⟩
theorem L.q60 : Linked Try.prog F.q60 C.q60 := ⟨Try.f61, _, Try.func61, rfl, by kernel_rfl, by kernel_rfl, by decide, by kernel_rfl⟩
theorem L.q55 : Linked Try.prog F.q55 C.q55 := ⟨Try.f62, _, Try.func62, rfl, by kernel_rfl, by kernel_rfl, by decide, by kernel_rfl⟩
theorem L.q65 : Linked Try.prog F.q65 C.q65 := ⟨Try.f63, _, Try.func63, rfl, by kernel_rfl, by kernel_rfl, by decide, by kernel_rfl⟩
theorem L.q34 : Linked Try.prog F.q34 C.q34 := ⟨Try.f64, _, Try.func64, rfl, by kernel_rfl, by kernel_rfl, by decide, by kernel_rfl⟩
theorem L.q64 : Linked Try.prog F.q64 C.q64 := ⟨Try.f65, _, Try.func65, rfl, by kernel_rfl, by kernel_rfl, by decide, by kernel_rfl⟩
theorem L.q35 : Linked Try.prog F.q35 C.q35 := ⟨Try.f66, _, Try.func66, rfl, by kernel_rfl, by kernel_rfl, by decide, by kernel_rfl⟩
theorem L.q52 : Linked Try.prog F.q52 C.q52 := ⟨Try.f67, _, Try.func67, rfl, by kernel_rfl, by kernel_rfl, by decide, by kernel_rfl⟩
theorem L.q36 : Linked Try.prog F.q36 C.q36 := ⟨Try.f68, _, Try.func68, rfl, by kernel_rfl, by kernel_rfl, by decide, by kernel_rfl⟩
theorem L.q66 : Linked Try.prog F.q66 C.q66 := ⟨Try.f69, _, Try.func69, rfl, by kernel_rfl, by kernel_rfl, by decide, by kernel_rfl⟩
theorem L.q37 : Linked Try.prog F.q37 C.q37 := ⟨Try.f70, _, Try.func70, rfl, by kernel_rfl, by kernel_rfl, by decide, by kernel_rfl⟩
theorem L.q56 : Linked Try.prog F.q56 C.q56 := ⟨Try.f71, _, Try.func71, rfl, by kernel_rfl, by kernel_rfl, by decide, by kernel_rfl⟩
theorem L.q67 : Linked Try.prog F.q67 C.q67 := ⟨Try.f72, _, Try.func72, rfl, by kernel_rfl, by kernel_rfl, by decide, by kernel_rfl⟩
theorem L.q46 : Linked Try.prog F.q46 C.q46 := ⟨Try.f73, _, Try.func73, rfl, by kernel_rfl, by kernel_rfl, by decide, by kernel_rfl⟩
theorem L.q47 : Linked Try.prog F.q47 C.q47 := ⟨Try.f74, _, Try.func74, rfl, by kernel_rfl, by kernel_rfl, by decide, by kernel_rfl⟩
theorem L.q40 : Linked Try.prog F.q40 C.q40 := ⟨Try.f75, _, Try.func75, rfl, by kernel_rfl, by kernel_rfl, by decide, by kernel_rfl⟩
theorem L.q41 : Linked Try.prog F.q41 C.q41 := ⟨Try.f76, _, Try.func76, rfl, by kernel_rfl, by kernel_rfl, by decide, by kernel_rfl⟩
theorem L.q42 : Linked Try.prog F.q42 C.q42 := ⟨Try.f77, _, Try.func77, rfl, by kernel_rfl, by kernel_rfl, by decide, by kernel_rfl⟩
theorem L.q43 : Linked Try.prog F.q43 C.q43 := ⟨Try.f78, _, Try.func78, rfl, by kernel_rfl, by kernel_rfl, by decide, by kernel_rfl⟩
theorem L.q44 : Linked Try.prog F.q44 C.q44 := ⟨Try.f79, _, Try.func79, rfl, by kernel_rfl, by kernel_rfl, by decide, by kernel_rfl⟩
theorem L.q68 : Linked Try.prog F.q68 C.q68 := ⟨Try.f80, _, Try.func80, rfl, by kernel_rfl, by kernel_rfl, by decide, by kernel_rfl⟩
theorem L.q72 : Linked Try.prog F.q72 C.q72 := ⟨Try.f81, _, Try.func81, rfl, by kernel_rfl, by kernel_rfl, by decide, by kernel_rfl⟩
theorem L.q69 : Linked Try.prog F.q69 C.q69 := ⟨Try.f82, _, Try.func82, rfl, by kernel_rfl, by kernel_rfl, by decide, by kernel_rfl⟩
theorem L.q71 : Linked Try.prog F.q71 C.q71 := ⟨Try.f83, _, Try.func83, rfl, by kernel_rfl, by kernel_rfl, by decide, by kernel_rfl⟩
theorem L.q70 : Linked Try.prog F.q70 C.q70 := ⟨Try.f84, _, Try.func84, rfl, by kernel_rfl, by kernel_rfl, by decide, by kernel_rfl⟩

end Go.Proofs.Ytkioaemhdbcfaaa.Cn
/- The short names of functions: q0 is catnaplaw6_ClockKeeps, q1 is catnaplaw6_chip, q2 is catnaplaw6_pick, q3 is catnaplaw6_shown, q4 is clock_New, q5 is clock_Tree_Chain, q6 is clock_Tree_Divide, q7 is clock_Tree_Left, q8 is clock_Tree_On, q9 is clock_Tree_Rate, q10 is clock_Tree_Rate_1, q11 is clock_Tree_Running, q12 is clock_Tree_Running_1, q13 is clock_Tree_Select, q14 is clock_Tree_Tick, q15 is clock_Tree_at, q16 is clock_Tree_source, q17 is conf_Check, q18 is conf_Check_1, q19 is conf_Check_2, q20 is conf_Check_2_1, q21 is conf_Check_3, q22 is conf_Check_4, q23 is conf_Check_4_1, q24 is conf_Check_5, q25 is conf_Check_6, q26 is conf_Check_7, q27 is conf_Check_7_1, q28 is conf_Check_8, q29 is conf_Clocks, q30 is conf_Copy, q31 is conf_Domains, q32 is conf_Needs, q33 is conf_clock, q34 is conf_clock_1, q35 is conf_clock_2, q36 is conf_clock_2_1, q37 is conf_clock_3, q38 is conf_cycle, q39 is conf_device, q40 is conf_device_1, q41 is conf_device_2, q42 is conf_device_3, q43 is conf_device_4, q44 is conf_device_4_1, q45 is conf_domain, q46 is conf_domain_1, q47 is conf_domain_2, q48 is conf_each_api_Clock, q49 is conf_each_api_Device, q50 is conf_each_api_Domain, q51 is conf_each_api_Reset, q52 is conf_each_int, q53 is conf_first, q54 is conf_full, q55 is conf_full_1, q56 is conf_numbers, q57 is conf_own_api_Clock, q58 is conf_own_api_Device, q59 is conf_own_api_Domain, q60 is conf_own_api_Reg, q61 is conf_own_api_Reset, q62 is conf_own_int, q63 is conf_reset, q64 is conf_shape, q65 is conf_when, q66 is conf_within, q67 is graph_Check, q68 is graph_Order, q69 is graph_hang, q70 is graph_marks_add, q71 is graph_marks_has, q72 is graph_numbers, q73 is rate_Scale, q74 is rate_factor, q75 is slices_Reverse_int_int. -/
