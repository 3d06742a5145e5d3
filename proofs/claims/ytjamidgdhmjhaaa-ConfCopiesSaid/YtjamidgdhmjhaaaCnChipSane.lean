/- A chip that is made of raw numbers is sane (what Copy needs). -/
import Derived.Test.YtjamidgdhmjhaaaCnConf10
import Derived.Test.YtjamidgdhmjhaaaCnChipOk
set_option linter.unusedSimpArgs false
set_option linter.unusedVariables false
namespace Go.Proofs.Ytjamidgdhmjhaaa.Cn
open Go Go.Proofs

theorem Soc.like.sane {s : Soc} (h : s.like) : s.sane := by
  have h1 := h.nc; have h2 := h.nd; have h3 := h.nr; have h4 := h.nv
  refine ⟨by omega, by omega, by omega, by omega, fun c hc => ?_, fun d hd => ?_⟩
  · obtain ⟨i, hi, rfl⟩ := List.getElem_of_mem hc
    have := (h.clk i hi).few; omega
  · obtain ⟨i, hi, rfl⟩ := List.getElem_of_mem hd
    have := (h.dev i hi).few
    have := (h.dev i hi).regs; omega
theorem Soc.sane.fine {s : Soc} (h : s.sane) : s.fine := h.cs
end Go.Proofs.Ytjamidgdhmjhaaa.Cn
