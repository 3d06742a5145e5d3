/- Whatever registers and acts come in, RegsPlay returns true and leaves what came in as it was: no condition. -/
import Derived.Test.YtlnhljcfcnmglaaCnRegs6
import Derived.Test.YtlnhljcfcnmglaaCnTop
import Derived.Test.YtlnhljcfcnmglaaCnShapes
import Derived.Test.YtlnhljcfcnmglaaRows
import Derived.WalkKit
import Derived.ProofKit
import Derived.OpenShut
import Derived.ShutString
import Derived.ChangeOld
import Derived.Below
set_option linter.unusedSimpArgs false
set_option linter.unusedVariables false
namespace Go.Proofs.Ytlnhljcfcnmglaa.Cn
open Go Go.Proofs
open Go.ChangeShapes Go.WideShapes Go.ChangeAt Go.RowKit

theorem law_own : ownKnob Try.prog.godebug = none := by kernel_rfl
theorem law_laidOut : laidOutB Try.prog = true := by kernel_rfl

set_option maxRecDepth 100000 in
theorem law_lifted (os : Os) (started : os.Started) (H : Type) (enc : TypeId × Value → H) :
    ReturnsInHanded {} Try.checked os 3 .any (Rows.regsPlaySpec.pre6 enc Try.prog Try.f3 Rows.regsPlayRow.domain false) (Rows.regsPlaySpec.post enc Try.prog Try.f3 false true false false) := by
  refine returnsInHanded_of_change (C := Try.checked) law_own started (by kernel_rfl) Try.func3
    (ChangeSpec.witness6 (enc := enc) (C := Try.checked) false ⟨#[], #[.slice none 0 0, .slice none 0 0], []⟩ 8 (by kernel_rfl) (by kernel_rfl) (by kernel_rfl) (by kernel_rfl)) ?_
  intro W base args ds gs before hval hW _ _
  refine contract_of (ss := [shReg, shRAct]) law_laidOut rfl (fun ds hd => ?_) (by kernel_rfl) (by kernel_rfl) rfl (tb := 4) (by kernel_rfl) ?_ W base args ds gs before hval hW
  · match ds, hd with
    | [_, _], _ => rfl
  · rintro al h
    match al, h with
    | [a0, a1], ⟨h0, h1, _⟩ =>
      obtain ⟨l, g1, g2, g3⟩ := slice_arg (e := .strct (.cons (.int .u32) (.cons .bool .unit))) encReg (fun _ => True) (fun cs hc => by
        obtain ⟨x, y, rfl, ⟨n, rfl, hn⟩, ⟨z, w, rfl, ⟨b, rfl⟩, rfl⟩⟩ := hc
        exact ⟨⟨n, b⟩, rfl, trivial⟩) h0
      obtain ⟨l2, k1, k2, k3⟩ := slice_arg (e := .strct (.cons (.int .i64) (.cons (.int .i64) (.cons (.int .u32) .unit)))) encRAct RAct.ok (fun cs hc => by
        obtain ⟨x, y, rfl, ⟨n, rfl, hn⟩, ⟨z, w, rfl, ⟨m, rfl, hm⟩, ⟨p, q, rfl, ⟨k, rfl, hk⟩, rfl⟩⟩⟩ := hc
        exact ⟨⟨n, m, k⟩, rfl, wf_i64 hn, wf_i64 hm⟩) h1
      exact play_spec (.inl g1) (.inl k1) k2

theorem law_over : Rows.regsPlayRow.holds Try.pinned (OpenSpec.ofChange Rows.regsPlaySpec) :=
  OpenClaim.holds_of_wide 3 Try.f3 rfl rfl rfl rfl rfl rfl rfl ⟨rfl, rfl, rfl, rfl, rfl⟩ rfl rfl rfl rfl rfl (by kernel_rfl) Try.func3 (by kernel_rfl)
    (of_decide_eq_true (by kernel_rfl)) (by unfold Func.isWrapper; first | (rw [if_pos (by decide +kernel)]; kernel_rfl) | (rw [if_neg (by decide +kernel)]; exact ⟨rfl, rfl⟩))
    (fun os started H enc _ => law_lifted os started H enc)

theorem proved : Rows.RegsPlaySaid := law_over
#print axioms proved
end Go.Proofs.Ytlnhljcfcnmglaa.Cn
