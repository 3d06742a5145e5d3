/- Whatever registers and values come in, RegsTwice returns true and leaves what came in as it was: no condition. -/
import Derived.Test.YtlnhljcfcnmglaaCnRegsT
import Derived.Test.YtlnhljcfcnmglaaCnTop
import Derived.Test.YtlnhljcfcnmglaaCnShapes
import Derived.Test.YtlnhljcfcnmglaaRows
import Derived.WalkKit
import Derived.ProofKit
import Derived.OpenShut
import Derived.ShutString
import Derived.ChangeOld
import Derived.Below
set_option linter.unusedSimpArgs false
set_option linter.unusedVariables false
namespace Go.Proofs.Ytlnhljcfcnmglaa.Cn
open Go Go.Proofs
open Go.ChangeShapes Go.WideShapes Go.ChangeAt Go.RowKit

theorem law_own : ownKnob Try.prog.godebug = none := by kernel_rfl
theorem law_laidOut : laidOutB Try.prog = true := by kernel_rfl

set_option maxRecDepth 100000 in
theorem law_lifted (os : Os) (started : os.Started) (H : Type) (enc : TypeId × Value → H) :
    ReturnsInHanded {} Try.checked os 6 .any (Rows.regsTwiceSpec.pre6 enc Try.prog Try.f6 Rows.regsTwiceRow.domain false) (Rows.regsTwiceSpec.post enc Try.prog Try.f6 false true false false) := by
  refine returnsInHanded_of_change (C := Try.checked) law_own started (by kernel_rfl) Try.func6
    (ChangeSpec.witness6 (enc := enc) (C := Try.checked) false ⟨#[], #[.slice none 0 0, .slice none 0 0, .slice none 0 0], []⟩ 8 (by kernel_rfl) (by kernel_rfl) (by kernel_rfl) (by kernel_rfl)) ?_
  intro W base args ds gs before hval hW _ _
  refine contract_of (ss := [shReg, shU32s, shU32s]) law_laidOut rfl (fun ds hd => ?_) (by kernel_rfl) (by kernel_rfl) rfl (tb := 4) (by kernel_rfl) ?_ W base args ds gs before hval hW
  · match ds, hd with
    | [_, _, _], _ => rfl
  · rintro al h
    obtain ⟨a0, a1, a2, rfl, h0, h1, h2⟩ := args3 h
    obtain ⟨l, rfl, g2, g3⟩ := slice_arg (e := .strct (.cons (.int .u32) (.cons .bool .unit))) encReg (fun _ => True) (fun cs hc => by
      obtain ⟨x, y, rfl, ⟨n, rfl, hn⟩, ⟨z, w, rfl, ⟨b, rfl⟩, rfl⟩⟩ := hc
      exact ⟨⟨n, b⟩, rfl, trivial⟩) h0
    obtain ⟨l2, rfl, k2, k3⟩ := argU32s h1
    obtain ⟨l3, rfl, m2, m3⟩ := argU32s h2
    exact twice_spec

theorem law_over : Rows.regsTwiceRow.holds Try.pinned (OpenSpec.ofChange Rows.regsTwiceSpec) :=
  OpenClaim.holds_of_wide 6 Try.f6 rfl rfl rfl rfl rfl rfl rfl ⟨rfl, rfl, rfl, rfl, rfl⟩ rfl rfl rfl rfl rfl (by kernel_rfl) Try.func6 (by kernel_rfl)
    (of_decide_eq_true (by kernel_rfl)) (by unfold Func.isWrapper; first | (rw [if_pos (by decide +kernel)]; kernel_rfl) | (rw [if_neg (by decide +kernel)]; exact ⟨rfl, rfl⟩))
    (fun os started H enc _ => law_lifted os started H enc)

theorem proved : Rows.RegsTwiceSaid := law_over
#print axioms proved
end Go.Proofs.Ytlnhljcfcnmglaa.Cn
