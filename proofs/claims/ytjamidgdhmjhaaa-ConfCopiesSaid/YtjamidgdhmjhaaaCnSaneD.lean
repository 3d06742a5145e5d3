/- Descriptions: what is sane. -/
import Derived.Test.YtjamidgdhmjhaaaCnConf8
set_option linter.unusedSimpArgs false
set_option linter.unusedVariables false
namespace Go.Proofs.Ytjamidgdhmjhaaa.Cn
open Go Go.Proofs

/-- No list of a description is longer than any machine. -/
structure Soc.sane (s : Soc) : Prop where
  c : s.clocks.length ≤ 4294967296
  d : s.doms.length ≤ 4294967296
  r : s.rsts.length ≤ 4294967296
  v : s.devs.length ≤ 4294967296
  cs : ∀ c ∈ s.clocks, c.src.length ≤ 4294967296
  vs : ∀ d ∈ s.devs, d.regs.length ≤ 4294967296 ∧ d.needs.length ≤ 4294967296
end Go.Proofs.Ytjamidgdhmjhaaa.Cn
