/-
  DERIVED. GIVEN WITH THE SEED: THE CARDS: each row of YtdmfgodajoojpaaGreatDoorRows.lean that lists a variable, with what it lists TIED to the program's text (the seventh form; the later family's looks); each row that meets fmt, with fmt's text TOLD by the authors' own Lean function (tested against real Go, not proved from fmt's source: count such statements apart). THE CARD IS WHAT COUNTS. Prove the row's statement (the work); the ties are given (YtdmfgodajoojpaaGreatDoorTie.lean); close each card by the builder's one call (the guide's Derived/Test/ToyasCard.lean, 'card_holds'). Laid BY PROGRAM, IN A SANDBOX (cutbox-door.mjs). By AI agents, Wed Nov 11 2026. No macro, syntax, notation, axiom, sorry.
-/
import Derived.Test.YtdmfgodajoojpaaGreatDoorRows
import GoSem.ClaimSeven
namespace Go.Proofs.YtdmfgodajoojpaaGreatDoor
namespace Rows

/-- THE TIED CARD OF 'catnaplaw12.HardQuiet'. -/
def hardQuietCard : Claim7 := { stood := { row := hardQuietRow, standIns := [], harness := (true, "30280d64b5e8ee76203137c3ebbac9d4cd29f80875cbc502565ab65ca77f6bdc"), looks := false }, kinds := [], alts := [], laidByText := true, laidKinds := [.data], laidTests := true, laidLooks := .later }
def HardQuietCardSaid : Prop := Claim7.holds Tryz.pinned (.plain (OpenSpec.ofChange hardQuietSpec)) hardQuietCard

/-- THE TIED CARD OF 'catnaplaw12.HardDead'. -/
def hardDeadCard : Claim7 := { stood := { row := hardDeadRow, standIns := [], harness := (true, "30280d64b5e8ee76203137c3ebbac9d4cd29f80875cbc502565ab65ca77f6bdc"), looks := false }, kinds := [], alts := [], laidByText := true, laidKinds := [.data], laidTests := true, laidLooks := .later }
def HardDeadCardSaid : Prop := Claim7.holds Tryz.pinned (.plain (OpenSpec.ofChange hardDeadSpec)) hardDeadCard

/-- THE TIED CARD OF 'catnaplaw12.HardGates'. -/
def hardGatesCard : Claim7 := { stood := { row := hardGatesRow, standIns := [], harness := (true, "30280d64b5e8ee76203137c3ebbac9d4cd29f80875cbc502565ab65ca77f6bdc"), looks := false }, kinds := [], alts := [], laidByText := true, laidKinds := [.data], laidTests := true, laidLooks := .later }
def HardGatesCardSaid : Prop := Claim7.holds Tryz.pinned (.plain (OpenSpec.ofChange hardGatesSpec)) hardGatesCard

/-- THE TIED CARD OF 'catnaplaw12.HardWakes'. -/
def hardWakesCard : Claim7 := { stood := { row := hardWakesRow, standIns := [], harness := (true, "30280d64b5e8ee76203137c3ebbac9d4cd29f80875cbc502565ab65ca77f6bdc"), looks := false }, kinds := [], alts := [], laidByText := true, laidKinds := [.data], laidTests := true, laidLooks := .later }
def HardWakesCardSaid : Prop := Claim7.holds Tryz.pinned (.plain (OpenSpec.ofChange hardWakesSpec)) hardWakesCard

/-- THE TIED CARD OF 'catnaplaw12.HardResets'. -/
def hardResetsCard : Claim7 := { stood := { row := hardResetsRow, standIns := [], harness := (true, "30280d64b5e8ee76203137c3ebbac9d4cd29f80875cbc502565ab65ca77f6bdc"), looks := false }, kinds := [], alts := [], laidByText := true, laidKinds := [.data], laidTests := true, laidLooks := .later }
def HardResetsCardSaid : Prop := Claim7.holds Tryz.pinned (.plain (OpenSpec.ofChange hardResetsSpec)) hardResetsCard

/-- THE TIED CARD OF 'catnaplaw12.HardKeeps'. -/
def hardKeepsCard : Claim7 := { stood := { row := hardKeepsRow, standIns := [], harness := (true, "30280d64b5e8ee76203137c3ebbac9d4cd29f80875cbc502565ab65ca77f6bdc"), looks := false }, kinds := [], alts := [], laidByText := true, laidKinds := [.data], laidTests := true, laidLooks := .later }
def HardKeepsCardSaid : Prop := Claim7.holds Tryz.pinned (.plain (OpenSpec.ofChange hardKeepsSpec)) hardKeepsCard

/-- THE SECOND FORM's CARD OF 'catnaplaw12.HardQuiet'. -/
def hardQuietUptoCard : Claim7 := { stood := { row := hardQuietUptoRow, standIns := [], harness := (true, "30280d64b5e8ee76203137c3ebbac9d4cd29f80875cbc502565ab65ca77f6bdc"), looks := false }, kinds := [], alts := [], laidByText := true, laidKinds := [.data], laidTests := true, laidLooks := .later }
def HardQuietUptoCardSaid : Prop := Claim7.holds Tryz.pinned (.plain (OpenSpec.upto hardQuietSpec)) hardQuietUptoCard

/-- THE SECOND FORM's CARD OF 'catnaplaw12.HardDead'. -/
def hardDeadUptoCard : Claim7 := { stood := { row := hardDeadUptoRow, standIns := [], harness := (true, "30280d64b5e8ee76203137c3ebbac9d4cd29f80875cbc502565ab65ca77f6bdc"), looks := false }, kinds := [], alts := [], laidByText := true, laidKinds := [.data], laidTests := true, laidLooks := .later }
def HardDeadUptoCardSaid : Prop := Claim7.holds Tryz.pinned (.plain (OpenSpec.upto hardDeadSpec)) hardDeadUptoCard

/-- THE SECOND FORM's CARD OF 'catnaplaw12.HardGates'. -/
def hardGatesUptoCard : Claim7 := { stood := { row := hardGatesUptoRow, standIns := [], harness := (true, "30280d64b5e8ee76203137c3ebbac9d4cd29f80875cbc502565ab65ca77f6bdc"), looks := false }, kinds := [], alts := [], laidByText := true, laidKinds := [.data], laidTests := true, laidLooks := .later }
def HardGatesUptoCardSaid : Prop := Claim7.holds Tryz.pinned (.plain (OpenSpec.upto hardGatesSpec)) hardGatesUptoCard

/-- THE SECOND FORM's CARD OF 'catnaplaw12.HardWakes'. -/
def hardWakesUptoCard : Claim7 := { stood := { row := hardWakesUptoRow, standIns := [], harness := (true, "30280d64b5e8ee76203137c3ebbac9d4cd29f80875cbc502565ab65ca77f6bdc"), looks := false }, kinds := [], alts := [], laidByText := true, laidKinds := [.data], laidTests := true, laidLooks := .later }
def HardWakesUptoCardSaid : Prop := Claim7.holds Tryz.pinned (.plain (OpenSpec.upto hardWakesSpec)) hardWakesUptoCard

/-- THE SECOND FORM's CARD OF 'catnaplaw12.HardResets'. -/
def hardResetsUptoCard : Claim7 := { stood := { row := hardResetsUptoRow, standIns := [], harness := (true, "30280d64b5e8ee76203137c3ebbac9d4cd29f80875cbc502565ab65ca77f6bdc"), looks := false }, kinds := [], alts := [], laidByText := true, laidKinds := [.data], laidTests := true, laidLooks := .later }
def HardResetsUptoCardSaid : Prop := Claim7.holds Tryz.pinned (.plain (OpenSpec.upto hardResetsSpec)) hardResetsUptoCard

/-- THE SECOND FORM's CARD OF 'catnaplaw12.HardKeeps'. -/
def hardKeepsUptoCard : Claim7 := { stood := { row := hardKeepsUptoRow, standIns := [], harness := (true, "30280d64b5e8ee76203137c3ebbac9d4cd29f80875cbc502565ab65ca77f6bdc"), looks := false }, kinds := [], alts := [], laidByText := true, laidKinds := [.data], laidTests := true, laidLooks := .later }
def HardKeepsUptoCardSaid : Prop := Claim7.holds Tryz.pinned (.plain (OpenSpec.upto hardKeepsSpec)) hardKeepsUptoCard
end Rows
end Go.Proofs.YtdmfgodajoojpaaGreatDoor
