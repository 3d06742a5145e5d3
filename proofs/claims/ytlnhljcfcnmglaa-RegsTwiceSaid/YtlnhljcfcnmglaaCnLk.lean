/- The intermediate code is that of the program: one equation a function. -/
import Derived.Test.YtlnhljcfcnmglaaCnIr
import Derived.Test.YtlnhljcfcnmglaaProg
import Derived.KernelRfl
namespace Go.Proofs.Ytlnhljcfcnmglaa.Cn
open Go Go.Proofs

theorem L.catnaplaw9_RegsPlay : Linked Try.prog F.catnaplaw9_RegsPlay C.catnaplaw9_RegsPlay := ⟨Try.f3, _, Try.func3, rfl, by kernel_rfl, by kernel_rfl, by decide, by kernel_rfl⟩
theorem L.catnaplaw9_RegsKeep : Linked Try.prog F.catnaplaw9_RegsKeep C.catnaplaw9_RegsKeep := ⟨Try.f4, _, Try.func4, rfl, by kernel_rfl, by kernel_rfl, by decide, by kernel_rfl⟩
theorem L.catnaplaw9_RegsAlone : Linked Try.prog F.catnaplaw9_RegsAlone C.catnaplaw9_RegsAlone := ⟨Try.f5, _, Try.func5, rfl, by kernel_rfl, by kernel_rfl, by decide, by kernel_rfl⟩
theorem L.catnaplaw9_RegsTwice : Linked Try.prog F.catnaplaw9_RegsTwice C.catnaplaw9_RegsTwice := ⟨Try.f6, _, Try.func6, rfl, by kernel_rfl, by kernel_rfl, by decide, by kernel_rfl⟩
theorem L.catnaplaw9_RegsLast : Linked Try.prog F.catnaplaw9_RegsLast C.catnaplaw9_RegsLast := ⟨Try.f7, _, Try.func7, rfl, by kernel_rfl, by kernel_rfl, by decide, by kernel_rfl⟩
theorem L.catnaplaw9_RegsClears : Linked Try.prog F.catnaplaw9_RegsClears C.catnaplaw9_RegsClears := ⟨Try.f8, _, Try.func8, rfl, by kernel_rfl, by kernel_rfl, by decide, by kernel_rfl⟩
theorem L.catnaplaw9_shown : Linked Try.prog F.catnaplaw9_shown C.catnaplaw9_shown := ⟨Try.f9, _, Try.func9, rfl, by kernel_rfl, by kernel_rfl, by decide, by kernel_rfl⟩
theorem L.regs_New : Linked Try.prog F.regs_New C.regs_New := ⟨Try.f10, _, Try.func10, rfl, by kernel_rfl, by kernel_rfl, by decide, by kernel_rfl⟩
theorem L.catnapref9_New : Linked Try.prog F.catnapref9_New C.catnapref9_New := ⟨Try.f11, _, Try.func11, rfl, by kernel_rfl, by kernel_rfl, by decide, by kernel_rfl⟩
theorem L.catnaplaw9_pick : Linked Try.prog F.catnaplaw9_pick C.catnaplaw9_pick := ⟨Try.f12, _, Try.func12, rfl, by kernel_rfl, by kernel_rfl, by decide, by kernel_rfl⟩
theorem L.regs_File_Write : Linked Try.prog F.regs_File_Write C.regs_File_Write := ⟨Try.f13, _, Try.func13, rfl, by kernel_rfl, by kernel_rfl, by decide, by kernel_rfl⟩
theorem L.catnapref9_File_Write : Linked Try.prog F.catnapref9_File_Write C.catnapref9_File_Write := ⟨Try.f14, _, Try.func14, rfl, by kernel_rfl, by kernel_rfl, by decide, by kernel_rfl⟩
theorem L.regs_File_Save : Linked Try.prog F.regs_File_Save C.regs_File_Save := ⟨Try.f15, _, Try.func15, rfl, by kernel_rfl, by kernel_rfl, by decide, by kernel_rfl⟩
theorem L.catnapref9_File_Save : Linked Try.prog F.catnapref9_File_Save C.catnapref9_File_Save := ⟨Try.f16, _, Try.func16, rfl, by kernel_rfl, by kernel_rfl, by decide, by kernel_rfl⟩
theorem L.regs_File_Restore : Linked Try.prog F.regs_File_Restore C.regs_File_Restore := ⟨Try.f17, _, Try.func17, rfl, by kernel_rfl, by kernel_rfl, by decide, by kernel_rfl⟩
theorem L.catnapref9_File_Restore : Linked Try.prog F.catnapref9_File_Restore C.catnapref9_File_Restore := ⟨Try.f18, _, Try.func18, rfl, by kernel_rfl, by kernel_rfl, by decide, by kernel_rfl⟩
theorem L.regs_File_Clear : Linked Try.prog F.regs_File_Clear C.regs_File_Clear := ⟨Try.f19, _, Try.func19, rfl, by kernel_rfl, by kernel_rfl, by decide, by kernel_rfl⟩
theorem L.catnapref9_File_Clear : Linked Try.prog F.catnapref9_File_Clear C.catnapref9_File_Clear := ⟨Try.f20, _, Try.func20, rfl, by kernel_rfl, by kernel_rfl, by decide, by kernel_rfl⟩
theorem L.regs_File_Read : Linked Try.prog F.regs_File_Read C.regs_File_Read := ⟨Try.f21, _, Try.func21, rfl, by kernel_rfl, by kernel_rfl, by decide, by kernel_rfl⟩
theorem L.catnapref9_File_Read : Linked Try.prog F.catnapref9_File_Read C.catnapref9_File_Read := ⟨Try.f22, _, Try.func22, rfl, by kernel_rfl, by kernel_rfl, by decide, by kernel_rfl⟩
theorem L.regs_File_Many : Linked Try.prog F.regs_File_Many C.regs_File_Many := ⟨Try.f23, _, Try.func23, rfl, by kernel_rfl, by kernel_rfl, by decide, by kernel_rfl⟩
theorem L.catnaplaw9_all : Linked Try.prog F.catnaplaw9_all C.catnaplaw9_all := ⟨Try.f24, _, Try.func24, rfl, by kernel_rfl, by kernel_rfl, by decide, by kernel_rfl⟩
theorem L.catnaplaw9_does : Linked Try.prog F.catnaplaw9_does C.catnaplaw9_does := ⟨Try.f25, _, Try.func25, rfl, by kernel_rfl, by kernel_rfl, by decide, by kernel_rfl⟩
theorem L.slices_Clone_api_Reg_api_Reg : Linked Try.prog F.slices_Clone_api_Reg_api_Reg C.slices_Clone_api_Reg_api_Reg := ⟨Try.f26, _, Try.func26, rfl, by kernel_rfl, by kernel_rfl, by decide, by kernel_rfl⟩
theorem L.regs_File_each : Linked Try.prog F.regs_File_each C.regs_File_each := ⟨Try.f27, _, Try.func27, rfl, by kernel_rfl, by kernel_rfl, by decide, by kernel_rfl⟩
theorem L.regs_File_Save_1 : Linked Try.prog F.regs_File_Save_1 C.regs_File_Save_1 := ⟨Try.f28, _, Try.func28, rfl, by kernel_rfl, by kernel_rfl, by decide, by kernel_rfl⟩
theorem L.regs_File_become : Linked Try.prog F.regs_File_become C.regs_File_become := ⟨Try.f29, _, Try.func29, rfl, by kernel_rfl, by kernel_rfl, by decide, by kernel_rfl⟩
theorem L.regs_File_Restore_1 : Linked Try.prog F.regs_File_Restore_1 C.regs_File_Restore_1 := ⟨Try.f30, _, Try.func30, rfl, by kernel_rfl, by kernel_rfl, by decide, by kernel_rfl⟩
theorem L.regs_File_Clear_1 : Linked Try.prog F.regs_File_Clear_1 C.regs_File_Clear_1 := ⟨Try.f31, _, Try.func31, rfl, by kernel_rfl, by kernel_rfl, by decide, by kernel_rfl⟩
theorem L.regs_File_become_1 : Linked Try.prog F.regs_File_become_1 C.regs_File_become_1 := ⟨Try.f32, _, Try.func32, rfl, by kernel_rfl, by kernel_rfl, by decide, by kernel_rfl⟩

end Go.Proofs.Ytlnhljcfcnmglaa.Cn
