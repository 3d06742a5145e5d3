/- Whatever numbers a chip is made of, whatever device is asked to be quiet, however much waits and however often it denies, HardQuiet returns true and leaves what came in as it was: no condition. -/
import Derived.Test.YtdmfgodajoojpaaGreatDoorCnS4
import Derived.Test.YtdmfgodajoojpaaGreatDoorCnL2
import Derived.Test.YtdmfgodajoojpaaGreatDoorRows
import Derived.WalkKit
import Derived.ProofKit
import Derived.OpenShut
import Derived.ShutString
import Derived.ChangeOld
import Derived.Below
import Derived.LaidMore
import Derived.LaidHandle
import Derived.Stop.Joined
import Derived.SevenTiedAt
import Derived.Lib.LaidTab
import Derived.Test.YtdmfgodajoojpaaGreatDoorTie
import Derived.Test.YtdmfgodajoojpaaGreatDoorCards
set_option linter.unusedSimpArgs false
set_option linter.unusedVariables false
namespace Go.Proofs.YtdmfgodajoojpaaGreatDoor.Cn
open Go Go.Proofs
open Go.ChangeShapes Go.WideShapes Go.ChangeAt Go.RowKit

theorem law_own : ownKnob Tryz.prog.godebug = none := by kernel_rfl
theorem law_laidOut : laidOutB Tryz.prog = true := by kernel_rfl

theorem law_met (os : Os) (args : Array Value) : laidMetH Tryz.prog Rows.hardQuietRow.laid ((World.doorLaid Tryz.prog 400 os).forCall (fun _ _ => 0) ⟨#[], args, []⟩).memory :=
  laidMetH_of_parts3 (fuel := 8) (laidMet_of_run' 8 (by kernel_rfl) (by kernel_rfl)) (by kernel_rfl) (by kernel_rfl)
theorem law_glob {W : World} (h : laidMetH Tryz.prog Rows.hardQuietRow.laid W) : Glob (Cn.start W) := by
  rw [MakeChecks.laidMetH_plain _ _ _ (by kernel_rfl)] at h
  have ht := Lib.tabIs_of_head (zs := [114, 97, 115, 100]) (k := .u8) (name := "catnap/quiet.letters") (rest := []) (g := 0) (t := 151) (e := 5) (n := 4) (by kernel_rfl) (by kernel_rfl) (by kernel_rfl) (by kernel_rfl) (by kernel_rfl) (by kernel_rfl) h
  have hc := fun i hi => ht.cell (g := 0) (by kernel_rfl) i hi
  intro p hp
  rw [globTab, List.mem_singleton] at hp
  subst hp
  refine VS.iptr [.int .u8 114, .int .u8 97, .int .u8 115, .int .u8 100] 0 0 0 (fun i => .int .u8 (([114, 97, 115, 100] : List Int).getD i 0)) (fun i hi => ?_) (fun i hi => ?_)
  · show W.cell? ⟨0, 0 + i, none⟩ = _
    rw [Nat.zero_add]; exact hc i hi
  · match i, hi with
    | 0, _ => exact .int _ _
    | 1, _ => exact .int _ _
    | 2, _ => exact .int _ _
    | 3, _ => exact .int _ _

set_option maxRecDepth 100000 in
theorem law_lifted (os : Os) (started : os.Started) (H : Type) (enc : TypeId × Value → H) :
    ReturnsInHanded {} Tryz.checked os 3 .any (fun w args => (Rows.hardQuietSpec.pre enc Tryz.prog Tryz.f3 [] false w args ∧ laidMetH Tryz.prog Rows.hardQuietRow.laid w) ∧ sizedMet enc Tryz.prog Tryz.f3 (OpenSpec.ofChange Rows.hardQuietSpec) false w args)
      (Rows.hardQuietSpec.post enc Tryz.prog Tryz.f3 false true false false) := by
  refine returnsInHanded_of_change_and (C := Tryz.checked) (X := fun w _ => laidMetH Tryz.prog Rows.hardQuietRow.laid w) (fun _ _ _ hh h => h.of_heap hh) law_own started (by kernel_rfl) Tryz.func3
    (ChangeSpec.witness_shaped (enc := enc) (C := Tryz.checked) (os := os) (X := fun w _ => laidMetH Tryz.prog Rows.hardQuietRow.laid w) false (World.doorLaid Tryz.prog 400 os) #[.slice none 0 0, .int .i64 0, .int .i64 0, .int .i64 0] 8 rfl (World.shaped_of_RefB (by kernel_rfl) (by kernel_rfl)) (by kernel_rfl) (by kernel_rfl) (by kernel_rfl) (law_met os _)) ?_
  intro W base args ds gs before hval hW _ _ hL _
  refine contract_of (ss := [shInts, shInt, shInt, shInt]) law_laidOut rfl (fun ds hd => ?_) (by kernel_rfl) (by kernel_rfl) rfl (tb := 4) (by kernel_rfl) ?_ W base args ds gs before hval hW (law_glob hL)
  · match ds, hd with
    | [_, _, _, _], _ => rfl
  · rintro al h
    obtain ⟨a0, a1, a2, a3, rfl, h0, h1, h2, h3⟩ := args4 h
    obtain ⟨l, rfl, h4, h5⟩ := argInts h0
    obtain ⟨n, rfl, hn⟩ := argInt h1
    obtain ⟨m, rfl, hm⟩ := argInt h2
    obtain ⟨k, rfl, hk⟩ := argInt h3
    exact hardquiet_spec h4 (Nat.le_trans h5 (by decide)) hn hm hk

theorem law_over : Rows.hardQuietRow.holds Tryz.pinned (OpenSpec.ofChange Rows.hardQuietSpec) :=
  OpenClaim.holds_of_wide 3 Tryz.f3 rfl rfl rfl rfl rfl rfl rfl ⟨rfl, rfl, rfl, rfl, rfl⟩ rfl rfl rfl rfl rfl (by kernel_rfl) Tryz.func3 (by kernel_rfl)
    (of_decide_eq_true (by kernel_rfl)) (by unfold Func.isWrapper; first | (rw [if_pos (by decide +kernel)]; kernel_rfl) | (rw [if_neg (by decide +kernel)]; exact ⟨rfl, rfl⟩))
    (fun os started H enc _ => law_lifted os started H enc)

theorem proved : Rows.HardQuietCardSaid :=
  Claim7.holds_tied_plain_at .later [] [.data] true (true, "30280d64b5e8ee76203137c3ebbac9d4cd29f80875cbc502565ab65ca77f6bdc") false
    law_over (fun _ h => by cases h) (by kernel_rfl) (fun _ h => by cases h) hardQuiet_row_tie rfl ⟨rfl, rfl⟩ (by kernel_rfl) rfl
    (fun f fn hf hfn => by
      obtain rfl : f = 3 := Option.some.inj ((show Tryz.prog.funcNamed "catnap/catnaplaw12.HardQuiet" = some 3 by kernel_rfl).symm.trans hf) |>.symm
      obtain rfl : fn = Tryz.f3 := (Option.some.inj (Tryz.func3.symm.trans hfn)).symm
      exact ⟨by kernel_rfl, fun j t ht => by
        have hm : t ∈ Tryz.f3.params.toList := by simpa using Array.mem_of_getElem? ht
        have hall : (Tryz.f3.params.toList.all fun u => !Tryz.prog.wantsStandIn u) = true := by kernel_rfl
        exact (show Tryz.prog.wantsStandIn t = false by simpa using List.all_eq_true.1 hall t hm)⟩)
    (by kernel_rfl)
#print axioms proved
end Go.Proofs.YtdmfgodajoojpaaGreatDoor.Cn
